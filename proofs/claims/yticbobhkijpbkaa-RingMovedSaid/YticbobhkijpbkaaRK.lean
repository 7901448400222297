import Derived.Test.YticbobhkijpbkaaRJ
namespace Go.Proofs.Yticbobhkijpbkaa
open Go.RowKit Go.Tat Go.Proofs.YticbobhkijpbkaaW.PrintWords PRingOwners
set_option maxRecDepth 100000 in
set_option maxHeartbeats 4000000 in
theorem ringowners_c (key : ByteArray) (l : List Int) (A : Option Addr) (c : Nat) (n : Int) (W : World) (hC : (Kd.int .u8).C W A l.length l) (hc : l.length ≤ c) (h0 : ∀ x ∈ l, 0 ≤ x ∧ x < 256) :
    Calls Try.prog 5 #[.string key, .slice A l.length c, .int .u8 n] W fun e w' => e = .returned (.bool true) ∧ Below W.heap.size W w' := by
  have hC1 := Kd.C_below hC ((Below.refl _ _).alloc (Nat.le_refl _) (.cells #[.slice A l.length c] 22))
  have HG := Lib.hid (great_c key [l] _ 1 _ (C_slice1 (heap_alloc_new W (.cells #[.slice A l.length c] 22)) hc hC1) (Nat.le_refl 1) (Nat.lt_of_lt_of_le Nat.one_lt_two (by decide)))
  have HB0 := Lib.hid ((Below.refl W.heap.size W).alloc (Nat.le_refl _) (.cells #[.slice A l.length c] 22))
  have HC := Lib.hid (And.intro hC (And.intro hc h0))
  have hc' := hc
  have hmx := Kd.C_max hC
  clear hC hC1 hc h0
  go_enter Try.func5, Try.ntmps5
  go_wp2_with fail
  generalize World.alloc _ _ = w1 at *
  refine HG.out.mono ?_
  rintro e w2 ⟨rfl, dr⟩
  have HB := Lib.hid (HB0.out.trans (dr.below.mono HB0.out.size))
  clear HG HB0 dr
  cases hg : greatB key [l] with
  | true =>
    clear hg
    go_wp2_with fail
    refine (fixed_c w2).mono ?_
    rintro e w3 ⟨rfl, b3⟩
    have HB3 := Lib.hid (HB.out.trans (b3.mono HB.out.size))
    clear b3 HB
    go_wp2_with fail
    go_ret
    exact ⟨rfl, HB3.out⟩
  | false =>
    obtain ⟨hks, hll⟩ := great_no hg
    have HK := Lib.hid (And.intro hks hll)
    clear hg hks
    go_wp2_with fail
    refine (fixed_c w2).mono ?_
    rintro e w3 ⟨rfl, b3⟩
    have HB3 := Lib.hid (HB.out.trans (b3.mono HB.out.size))
    clear b3 HB
    go_wp2_with fail
    refine (weight_c key n (by have := HK.out; omega) w3).mono ?_
    rintro e w4 ⟨rfl, d4⟩
    have HB4 := Lib.hid (HB3.out.trans (d4.below.mono HB3.out.size))
    clear d4 HB3
    go_wp2_with fail
    refine (tattlerref16_Weight.calls (key.size + 33) key n _ w4 (rweight_is key n (by have := HK.out; omega) _ (by omega))).mono ?_
    rintro e w5 ⟨rfl, d5⟩
    have HB5 := Lib.hid (HB4.out.trans (d5.below.mono HB4.out.size))
    clear d5 HB4
    go_wp2_with fail
    refine (owners_c key (by have := HK.out; omega) l A c w5 (Kd.C_below HC.out.1 HB5.out) HC.out.2.2 (by omega)).mono ?_
    rintro e w6 ⟨v6, rfl, S6⟩
    obtain ⟨A6, c6, rfl⟩ := Kd.R_slice (S6.get 0 rfl).1
    have HB6 := Lib.hid (HB5.out.trans (S6.base.mono HB5.out.size))
    have HS6 := Lib.hid S6
    clear S6 HB5
    go_wp2_with fail
    refine (tattlerref16_Owners.calls 2000301 key A c l _ w6 (Kd.C_below HC.out.1 HB6.out) HC.out.2.1 (rowners_is key (by have := HK.out; omega) l (by omega) HC.out.2.2 _ (by omega))).mono ?_
    rintro e w7 ⟨v7, rfl, R7, b7⟩
    obtain ⟨A7, c7, rfl⟩ := Kd.R_slice R7
    have HS7 := Lib.hid (HS6.out.below b7)
    have HR7 := Lib.hid (Kd.R_reads' R7)
    have HB7 := Lib.hid (HB6.out.trans (b7.mono HB6.out.size))
    have hol := own_len key l
    obtain ⟨o, ho⟩ : ∃ o, own key l = o := ⟨_, rfl⟩
    have HOE := Lib.hid ho
    rw [ho] at HS7 HR7 hol ⊢
    clear R7 b7 HS6 HB6 ho
    go_wp2_with fail
    have r6 := Kd.R_reads' (HS7.out.get 0 rfl).1
    refine (same_c o o A6 A7 c6 c7 w7 r6.2.2 r6.2.1 HR7.out.2.2 HR7.out.2.1 (by omega)).mono ?_
    rw [decide_eq_true rfl]
    rintro e w8 ⟨rfl, d8⟩
    have HB8 := Lib.hid (HB7.out.trans (d8.below.mono HB7.out.size))
    clear d8 HB7 r6 HR7 HS7
    go_wp2_with fail
    refine (owns_c key (by have := HK.out; omega) l A c w8 (Kd.C_below HC.out.1 HB8.out) HC.out.2.2 (by omega) n).mono ?_
    rintro e w9 ⟨rfl, b9⟩
    have HB9 := Lib.hid (HB8.out.trans (b9.mono HB8.out.size))
    clear b9 HB8
    go_wp2_with fail
    refine (tattlerref16_Owns.calls 2000301 key A c l n _ w9 (Kd.C_below HC.out.1 HB9.out) HC.out.2.1 (rowns_is key (by have := HK.out; omega) l (by omega) HC.out.2.2 n _ (by omega))).mono ?_
    rintro e w10 ⟨rfl, b10⟩
    have HB10 := Lib.hid (HB9.out.trans (b10.mono HB9.out.size))
    clear b10 HB9
    generalize decide (n ∈ own key l) = bb
    go_wp2_with fail
    go_ret
    exact ⟨by simp, HB10.out⟩
end Go.Proofs.Yticbobhkijpbkaa
