import Derived.Test.YticbobhkijpbkaaRH
import Derived.Deep.RegionHeld3
import Derived.Deep.QuietTactic
import Derived.BigQuiet
namespace Go.Proofs.Yticbobhkijpbkaa
open Go.RowKit Go.Tat Go.Proofs.YticbobhkijpbkaaW.PrintWords PRingOwners
theorem own_first {key : ByteArray} {l : List Int} {n : Int} (hn : n ∈ l) (h : n < 64) : ∃ a t, own key l = a :: t ∧ (n ≠ a → ∃ b, t = [b] ∧ wt key n ≤ wt key b ∧ wt key n ≤ wt key a) := by
  have hm := (srt_mem key l n).2 ⟨hn, h⟩
  have hs := srt_sorted key l
  unfold own
  generalize srt key l = s at *
  match s, hm, hs with
  | a :: r, hm, hs =>
    rw [List.pairwise_cons] at hs
    match r, hm, hs with
    | [], hm, _ => exact ⟨a, [], rfl, fun hne => absurd (List.mem_singleton.1 hm) hne⟩
    | b :: r, hm, hs =>
      refine ⟨a, [b], rfl, fun hne => ⟨b, rfl, ?_, ?_⟩⟩
      · have h2 := hs.2
        rw [List.pairwise_cons] at h2
        rcases List.mem_cons.1 hm with e | hm
        · exact absurd e hne
        rcases List.mem_cons.1 hm with e | hm
        · rw [e]; exact Int.le_refl _
        · have := h2.1 n hm
          unfold bef at this
          omega
      · rcases List.mem_cons.1 hm with e | hm
        · exact absurd e hne
        · have := hs.1 n hm
          unfold bef at this
          omega
theorem weight_q (key : ByteArray) (hs : key.size < 4611686018427387904) (n : Int) (w : World) : Calls Try.prog 13 #[.string key, .int .u8 n] w fun e w' => e = .returned (.int .u64 (wt key n)) ∧ ∃ m, w' = w.drewN m :=
  (weight_c key n hs w).mono fun _ _ ⟨he, ⟨hm⟩⟩ => ⟨he, hm⟩
set_option maxRecDepth 100000 in
set_option maxHeartbeats 4000000 in
theorem first_c (key : ByteArray) (l : List Int) (A : Option Addr) (c : Nat) (W : World) (hC : (Kd.int .u8).C W A l.length l) (hc : l.length ≤ c) (h0 : ∀ x ∈ l, 0 ≤ x ∧ x < 256) :
    Calls Try.prog 4 #[.string key, .slice A l.length c] W fun e w' => e = .returned (.bool true) ∧ Below W.heap.size W w' := by
  have hC1 := Kd.C_below hC ((Below.refl _ _).alloc (Nat.le_refl _) (.cells #[.slice A l.length c] 22))
  have HG := Lib.hid (great_c key [l] _ 1 _ (C_slice1 (heap_alloc_new W (.cells #[.slice A l.length c] 22)) hc hC1) (Nat.le_refl 1) (Nat.lt_of_lt_of_le Nat.one_lt_two (by decide)))
  have HB0 := Lib.hid ((Below.refl W.heap.size W).alloc (Nat.le_refl _) (.cells #[.slice A l.length c] 22))
  have HC := Lib.hid (And.intro hC (And.intro hc h0))
  have hc' := hc
  have hmx := Kd.C_max hC
  clear hC hC1 hc h0
  go_enter Try.func4, Try.ntmps4
  go_wp2_with fail
  generalize World.alloc _ _ = w1 at *
  refine HG.out.mono ?_
  rintro e w2 ⟨rfl, dr⟩
  have HB := Lib.hid (HB0.out.trans (dr.below.mono HB0.out.size))
  clear HG HB0 dr
  cases hg : greatB key [l] with
  | true =>
    clear hg
    go_wp2_with fail
    refine (fixed_c w2).mono ?_
    rintro e w3 ⟨rfl, b3⟩
    have HB3 := Lib.hid (HB.out.trans (b3.mono HB.out.size))
    clear b3 HB
    go_wp2_with fail
    go_ret
    exact ⟨rfl, HB3.out⟩
  | false =>
    obtain ⟨hks, hll⟩ := great_no hg
    have HK := Lib.hid (And.intro hks hll)
    clear hg hks
    go_wp2_with fail
    refine (owners_st (St.nil (fun _ => False) w2) key (by have := HK.out; omega) l A c (Kd.C_below HC.out.1 HB.out) HC.out.2.2 (by omega)).mono ?_
    rintro e w3 ⟨v, rfl, S3⟩
    obtain ⟨A3, c3, rfl⟩ := Kd.R_slice (S3.get 0 rfl).1
    have HF := Lib.hid fun n (hn : n ∈ l) h => own_first (key := key) hn h
    have hol := own_len key l
    generalize own key l = o at *
    have HS := Lib.hid S3
    clear S3
    have HQ := Lib.hid (weight_q key (by have := HK.out; omega))
    go_wp2_with fail
    go_loopg [18] (l.length + 1) (fun m v18 wx => ∃ j : Nat, v18 = .int .i64 j ∧ j ≤ l.length ∧ l.length - j < m ∧ St (fun _ => False) w2 wx [slc (Kd.int .u8) 5 (.slice A3 o.length c3) o])
    case atStart => exact ⟨0, rfl, by omega, by omega, HS.out⟩
    case round =>
      clear HS
      obtain ⟨j, rfl, hj, hjm, S4⟩ := hrel
      by_cases hjl : j < l.length
      · have hjl' : (j : Int) < (l.length : Int) := by omega
        have hj0 : (0 : Int) ≤ (j : Int) := by omega
        obtain ⟨x, hx⟩ : ∃ x, l[j]? = some x := ⟨_, List.getElem?_eq_getElem hjl⟩
        have hx0 := HC.out.2.2 x (List.mem_of_getElem? hx)
        have hxl := List.mem_of_getElem? hx
        obtain ⟨ad, b, o', cs, rfl, had, hb, hK, hcs⟩ := C_at HC.out.1 hx (by decide)
        obtain rfl : cs = [.int .u8 x] := hK
        have hBw := HB.out.trans (S4.base.mono HB.out.size)
        have c0 : wr.cell? ⟨b, o', none⟩ = some (.int .u8 x) := (hBw.cell (p := ⟨b, o', none⟩) hb).trans (hcs 0 _ rfl)
        have had' : ad.add j = ⟨b, o', none⟩ := by
          have e : j * (Kd.int .u8).sz = j := Nat.mul_one j
          rw [e] at had
          exact had
        have H4 := Lib.hid S4
        have HI := Lib.hid (And.intro hj hjm)
        clear S4 hj hjm hx hcs had hBw
        go_upto_region 7 with fail
        clear c0 had'
        by_cases h63 : (63 : Int) < x
        · go_wp2_with fail
          go_roundg (l.length - j)
          case measure => have := HI.out; omega
          case rel => have := HI.out; exact ⟨j + 1, by go_num, by omega, by omega, H4.out⟩
        · obtain ⟨a, t, rfl, hne⟩ := HF.out x hxl (by omega)
          obtain ⟨gO, cO, hv, hgO, hcO⟩ := slc_form (H4.out.get 0 rfl) (by simp)
          injection hv with hv1 hvl hv2
          subst hv1; subst hv2
          have a0 : wr.cell? ⟨gO, 0, none⟩ = some (.int .u8 a) := slc_int (H4.out.get 0 rfl) (i := 0) rfl
          by_cases hxa : x = a
          · subst hxa
            clear hne hvl
            go_wp2_with fail
            go_roundg (l.length - j)
            case measure => have := HI.out; omega
            case rel => have := HI.out; exact ⟨j + 1, by go_num, by omega, by omega, H4.out⟩
          · obtain ⟨b', rfl, hb1, hb2⟩ := hne hxa
            have a1 : wr.cell? ⟨gO, 1, none⟩ = some (.int .u8 b') := slc_int (H4.out.get 0 rfl) (i := 1) rfl
            have hb1' : ¬ wt key b' < wt key x := by omega
            have hb2' : ¬ wt key a < wt key x := by omega
            have hgl : gO < wr.heap.size := hgO
            clear hne hvl hb1 hb2 hgO hcO
            go_upto_region 8 with fail
            go_quiet (first | (go_at_call 13; refine Calls.quiet_of (HQ.out _ _)))
            have H5 := Lib.hid (H4.out.drewN nq)
            clear H4 a0 a1
            generalize wr.drewN nq = w5 at *
            go_wp2_with fail
            go_roundg (l.length - j)
            case measure => have := HI.out; omega
            case rel => have := HI.out; exact ⟨j + 1, by go_num, by omega, by omega, H5.out⟩
      · have hjl' : ¬ (j : Int) < (l.length : Int) := by omega
        have HS4 := Lib.hid S4
        clear S4
        go_wp2_with fail
        refine (fixed_c wr).mono ?_
        rintro e w7 ⟨rfl, b7⟩
        have HS7 := Lib.hid (HS4.out.below b7).base
        clear HS4 b7
        go_wp2_with fail
        go_ret
        exact ⟨rfl, HB.out.trans (HS7.out.mono HB.out.size)⟩
end Go.Proofs.Yticbobhkijpbkaa
