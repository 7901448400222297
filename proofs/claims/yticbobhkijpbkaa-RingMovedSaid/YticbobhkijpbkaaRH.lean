import Derived.Test.YticbobhkijpbkaaRG
import Derived.Test.YticbobhkijpbkaaStApp
namespace Go.Proofs.Yticbobhkijpbkaa
open Go.RowKit Go.Tat Go.Proofs.YticbobhkijpbkaaW.PrintWords PRingOwners
theorem great_no {key : ByteArray} {l : List Int} (h : greatB key [l] = false) : key.size ≤ 1000 ∧ l.length ≤ 200 := by
  unfold greatB at h
  rw [Bool.or_eq_false_iff, decide_eq_false_iff_not, List.any_cons, Bool.or_eq_false_iff, decide_eq_false_iff_not] at h
  omega
theorem size5 : ∃ i, Try.prog.info? 5 = some i ∧ i.size = 1 := by
  obtain ⟨i, hi, h⟩ := Option.map_eq_some_iff.1 info5
  simp only [Prod.mk.injEq] at h
  exact ⟨i, hi, h.2.1⟩
theorem own_congr (key : ByteArray) {l l' : List Int} (h : ∀ x, x ∈ l ↔ x ∈ l') : own key l = own key l' := by
  unfold own
  rw [srt_congr key fun x _ => h x]
set_option maxRecDepth 100000 in
set_option maxHeartbeats 4000000 in
theorem anyorder_c (key : ByteArray) (l : List Int) (A : Option Addr) (c : Nat) (n : Nat) (hn : n < 256) (W : World) (hC : (Kd.int .u8).C W A l.length l) (hc : l.length ≤ c) (h0 : ∀ x ∈ l, 0 ≤ x ∧ x < 256) :
    Calls Try.prog 3 #[.string key, .slice A l.length c, .int .u8 n] W fun e w' => e = .returned (.bool true) ∧ Below W.heap.size W w' := by
  have hni : (n : Int) < 256 := by omega
  have hC1 := Kd.C_below hC ((Below.refl _ _).alloc (Nat.le_refl _) (.cells #[.slice A l.length c] 22))
  have HG := Lib.hid (great_c key [l] _ 1 _ (C_slice1 (heap_alloc_new W (.cells #[.slice A l.length c] 22)) hc hC1) (Nat.le_refl 1) (Nat.lt_of_lt_of_le Nat.one_lt_two (by decide)))
  have HB0 := Lib.hid ((Below.refl W.heap.size W).alloc (Nat.le_refl _) (.cells #[.slice A l.length c] 22))
  have HC := Lib.hid (And.intro hC (And.intro hc h0))
  have hc' := hc
  have hmx := Kd.C_max hC
  clear hC hC1 hc h0
  go_enter Try.func3, Try.ntmps3
  go_wp2_with fail
  generalize World.alloc _ _ = w1 at *
  refine HG.out.mono ?_
  rintro e w2 ⟨rfl, dr⟩
  have HB := Lib.hid (HB0.out.trans (dr.below.mono HB0.out.size))
  clear HG HB0 dr
  cases hg : greatB key [l] with
  | true =>
    clear hg
    go_wp2_with fail
    refine (fixed_c w2).mono ?_
    rintro e w3 ⟨rfl, b3⟩
    have HB3 := Lib.hid (HB.out.trans (b3.mono HB.out.size))
    clear b3 HB
    go_wp2_with fail
    go_ret
    exact ⟨rfl, HB3.out⟩
  | false =>
    obtain ⟨hks, hll⟩ := great_no hg
    have HK := Lib.hid (And.intro hks hll)
    clear hg hks
    by_cases hl0 : l.length = 0
    · have hl0' : (l.length : Int) = 0 := by omega
      go_wp2_with fail
      refine (fixed_c w2).mono ?_
      rintro e w3 ⟨rfl, b3⟩
      have HB3 := Lib.hid (HB.out.trans (b3.mono HB.out.size))
      clear b3 HB
      go_wp2_with fail
      go_ret
      exact ⟨rfl, HB3.out⟩
    · have hl0' : ¬ (l.length : Int) = 0 := by omega
      go_upto_region 4 with fail
      obtain ⟨k, hk⟩ : ∃ k : Nat, n % l.length = k := ⟨_, rfl⟩
      have hkl : k ≤ l.length := by rw [← hk]; exact Nat.le_of_lt (Nat.mod_lt _ (by omega))
      have ek : (n : Int) % (l.length : Int) = (k : Int) := by rw [← hk]; exact (Int.natCast_emod n l.length).symm
      rw [ek]
      clear ek hk
      obtain ⟨i5, hi5, hi51⟩ := size5
      obtain ⟨A', hsl, hCd, hdc⟩ := C_dropped (k := .u8) (P := Try.prog) 22 5 Try.underlying22 hi5 hi51 A c l k hkl hc'
      have hCd := hCd W HC.out.1
      have hdl : (l.drop k).length ≤ l.length := by rw [List.length_drop]; omega
      obtain ⟨D, hD⟩ : ∃ D, l.drop k = D := ⟨_, rfl⟩
      rw [hD] at hsl hCd hdc hdl
      obtain ⟨z, hz⟩ : ∃ z, w2.heap.size = z := ⟨_, rfl⟩
      have S1 := (St.nil (fun _ => False) w2).empty (flInt .u8) 5 z hz
      have HS1 := Lib.hid S1
      have HD := Lib.hid (And.intro hD (And.intro hCd (And.intro hdc hdl)))
      clear S1 hD hCd hdc hdl
      have hll1 := hll
      clear hll hkl hi5 hi51
      go_wp2_with (at_builtin; go_loud (refine St.wpN (flInt .u8) rfl _ _ 22 5 (.int .u8 0) 1 rfl Try.underlying22 info5 rfl (by decide) (by decide) HS1.out 0 rfl D A' _ rfl rfl (Kd.C_below HD.out.2.1 (HB.out.trans (HS1.out.base.mono HB.out.size))) (by have := HD.out.2.2.2; simp only [List.length_nil]; omega) ?_))
      intro T3 A3 c3 w3 h3
      have HS3 := Lib.hid h3.out.2
      have HD3 := Lib.hid (h3.out.1 : T3 = D)
      clear h3 HS1 hsl
      go_wp2_with (at_builtin; go_loud (refine St.wpN (flInt .u8) rfl _ _ 22 5 (.int .u8 0) 1 rfl Try.underlying22 info5 rfl (by decide) (by decide) HS3.out 0 rfl l A _ rfl rfl (Kd.C_below HC.out.1 (HB.out.trans (HS3.out.base.mono HB.out.size))) (by have := HD.out.2.2.2; rw [HD3.out]; omega) ?_))
      intro T A4 c4 w4 h4
      have hTl : T.length ≤ 400 := by have := HD.out.2.2.2; rw [h4.out.1, List.length_append, HD3.out]; omega
      have hTm : ∀ x, x ∈ T ↔ x ∈ l := fun x => by
        rw [h4.out.1, List.mem_append, HD3.out, ← HD.out.1]
        exact ⟨fun h => h.elim List.mem_of_mem_drop id, .inr⟩
      have HT := Lib.hid (And.intro hTl hTm)
      obtain ⟨y, hy⟩ : ∃ y, w4.heap.size = y := ⟨_, rfl⟩
      have HS4 := Lib.hid (h4.out.2.empty (flInt .u8) 5 y hy)
      clear hTl hTm HS3 h4
      go_wp2_with (at_builtin; go_loud (refine St.wpN (flInt .u8) rfl _ _ 22 5 (.int .u8 0) 1 rfl Try.underlying22 info5 rfl (by decide) (by decide) HS4.out 1 rfl T A4 _ rfl rfl (Kd.R_reads' (HS4.out.get 0 rfl).1).2.2 (by have := HT.out.1; simp only [List.length_nil]; omega) ?_))
      intro T6 A6 c6 w6 h6
      have HS6 := Lib.hid h6.out.2
      obtain rfl : T6 = T := h6.out.1
      clear h6 HS4 hy
      go_wp2_with fail
      refine (fixed_c w6).mono ?_
      rintro e w7 ⟨rfl, b7⟩
      have HS7 := Lib.hid (HS6.out.below b7)
      clear HS6 b7
      go_wp2_with fail
      refine (owners_st HS7.out key (by have := HK.out; omega) T6 A4 c4 (Kd.R_reads' (HS7.out.get 0 rfl).1).2.2 (fun x hx => HC.out.2.2 x ((HT.out.2 x).1 hx)) (by have := HT.out.1; omega)).mono ?_
      rintro e w8 ⟨v8, rfl, S8⟩
      obtain ⟨A8, c8, rfl⟩ := Kd.R_slice (S8.get 2 rfl).1
      rw [own_congr key HT.out.2] at S8 ⊢
      have HS8 := Lib.hid S8
      clear S8 HS7
      go_wp2_with fail
      refine (owners_st HS8.out key (by have := HK.out; omega) l A c (Kd.C_below HC.out.1 (HB.out.trans (HS8.out.base.mono HB.out.size))) HC.out.2.2 (by omega)).mono ?_
      rintro e w9 ⟨v9, rfl, S9⟩
      obtain ⟨A9, c9, rfl⟩ := Kd.R_slice (S9.get 3 rfl).1
      have HS9 := Lib.hid S9
      have hol := own_len key l
      obtain ⟨o, ho⟩ : ∃ o, own key l = o := ⟨_, rfl⟩
      rw [ho] at HS9 hol ⊢
      clear S9 HS8 ho
      go_wp2_with fail
      have r2 := Kd.R_reads' (HS9.out.get 2 rfl).1
      have r3 := Kd.R_reads' (HS9.out.get 3 rfl).1
      refine (same_c o o A8 A9 c8 c9 w9 r2.2.2 r2.2.1 r3.2.2 r3.2.1 (by omega)).mono ?_
      rw [decide_eq_true rfl]
      clear r2 r3
      rintro e w10 ⟨rfl, d10⟩
      have HS10 := Lib.hid (HS9.out.below d10.below)
      clear HS9 d10
      go_wp2_with fail
      have r0 := Kd.R_reads' (HS10.out.get 0 rfl).1
      have r1 := Kd.R_reads' (HS10.out.get 1 rfl).1
      refine (same_c T6 T6 A6 A4 c6 c4 w10 r1.2.2 r1.2.1 r0.2.2 r0.2.1 (by have := HT.out.1; omega)).mono ?_
      rw [decide_eq_true rfl]
      clear r0 r1
      rintro e w11 ⟨rfl, d11⟩
      have HS11 := Lib.hid (HS10.out.below d11.below).base
      clear HS10 d11
      go_wp2_with fail
      go_ret
      exact ⟨rfl, HB.out.trans (HS11.out.mono HB.out.size)⟩
end Go.Proofs.Yticbobhkijpbkaa
