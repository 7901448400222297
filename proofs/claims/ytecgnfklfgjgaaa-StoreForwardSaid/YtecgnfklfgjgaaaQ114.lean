/- slices.IndexFunc, ContainsFunc, DeleteFunc at a struct. -/
import Derived.Test.YtecgnfklfgjgaaaWhB
import Derived.Shelf.Abstract
import Derived.Deep.DeepCutAuto
import Derived.Deep.CutBlock
import Derived.BigQuiet
import Derived.OwnWalk
import Derived.Lib.Hide
set_option linter.unusedVariables false
set_option linter.unusedSimpArgs false
namespace Go.Proofs.Ytecgnfklfgjgaaa.Q114
open Go.RowKit Go.Tat Go.Proofs.YtecgnfklfgjgaaaW.PrintWords Go.Proofs.Ytecgnfklfgjgaaa Go.Proofs.Ytecgnfklfgjgaaa.PStorePeeks
/-- A function value that says of an element whether it is one, whatever has become of the blocks of F. -/
def Says (fn : Nat) (cap : Array Value) (p : S114 → Bool) (F : Nat → Prop) (w : World) : Prop := ∀ W x, Mod F w W → Calls Try.prog fn (#[.agg (e114 x).toArray] ++ cap) W fun e w' => e = .returned (.bool (p x)) ∧ Below W.heap.size W w'
theorem info_e : (Try.prog.info? 114).map (·.size) = some (k114).sz := by kernel_rfl
def idxF (p : S114 → Bool) (xs : List S114) : Int := match xs.findIdx? p with | some i => i | none => -1
theorem idxF_some {p : S114 → Bool} {xs : List S114} {j : Nat} (h : j < xs.length) (h1 : p xs[j] = true) (h2 : ∀ i x, i < j → xs[i]? = some x → p x = false) : idxF p xs = (j : Int) := by
  unfold idxF
  have : xs.findIdx? p = some j := by
    rw [List.findIdx?_eq_some_iff_getElem]
    refine ⟨h, h1, fun i hi => ?_⟩
    have := h2 i xs[i] hi (List.getElem?_eq_getElem (by omega)); simp [this]
  rw [this]
theorem idxF_none {p : S114 → Bool} {xs : List S114} (h2 : ∀ (i : Nat) (x : S114), xs[i]? = some x → p x = false) : idxF p xs = -1 := by
  unfold idxF
  have : xs.findIdx? p = none := by
    rw [List.findIdx?_eq_none_iff]
    intro x hx
    obtain ⟨i, hi, rfl⟩ := List.mem_iff_getElem.1 hx
    exact h2 i _ (List.getElem?_eq_getElem (by omega))
  rw [this]
theorem idxF_cases (p : S114 → Bool) (xs : List S114) : (idxF p xs = -1 ∧ ∀ x ∈ xs, p x = false) ∨ ∃ k : Nat, k < xs.length ∧ idxF p xs = k ∧ (∃ u, xs[k]? = some u ∧ p u = true) ∧ ∀ x ∈ xs.take k, p x = false := by
  unfold idxF
  cases h : xs.findIdx? p with
  | none => exact .inl ⟨rfl, List.findIdx?_eq_none_iff.1 h⟩
  | some k =>
    rw [List.findIdx?_eq_some_iff_getElem] at h
    obtain ⟨hk, h1, h2⟩ := h
    refine .inr ⟨k, hk, rfl, ⟨_, List.getElem?_eq_getElem hk, h1⟩, fun x hx => ?_⟩
    obtain ⟨i, hi, rfl⟩ := List.mem_iff_getElem.1 hx
    simp only [List.getElem_take]
    have := h2 i (by simp at hi; omega)
    simpa using this
theorem idxF_nonneg (p : S114 → Bool) (xs : List S114) : decide (0 ≤ idxF p xs) = xs.any p := by
  rcases idxF_cases p xs with ⟨h, hn⟩ | ⟨k, hk, h, ⟨u, hu, hp⟩, _⟩
  · rw [h, List.any_eq_false.2 (fun x hx => by simp [hn x hx])]; rfl
  · rw [h, List.any_eq_true.2 ⟨u, List.mem_of_getElem? hu, hp⟩, decide_eq_true_eq]; exact Int.natCast_nonneg k
set_option maxRecDepth 100000 in
set_option maxHeartbeats 2000000 in
theorem index_c (fl : Flat k114 e114) (fn : Nat) (cap : Array Value) (p : S114 → Bool) (xs : List S114) (b c : Nat) (ex : List Value) (w : World) (F : Nat → Prop) (hp : Says fn cap p F w) (eg : ∀ args w, (callFunc fn args).run Try.prog w = .ok (.enter fn args) w) (hR : Row w b 114 e114 xs ex) (hm : xs.length ≤ 9223372036854775807) :
    Calls Try.prog 90 #[.slice (some ⟨b, 0, none⟩) xs.length c, .func (.func fn) #[] cap] w fun e w' => e = .returned (.int .i64 (idxF p xs)) ∧ Below w.heap.size w w' := by
  have HP := Lib.hid hp
  have HR := Lib.hid hR
  clear hp hR
  go_enter Try.func90, Try.ntmps90
  go_wp2_with fail
  go_loopg [8] (xs.length + 1) (fun k v W => ∃ j : Nat, j + k = xs.length + 1 ∧ j ≤ xs.length ∧ v = .int .i64 j ∧ (∀ i x, i < j → xs[i]? = some x → p x = false) ∧ Below w.heap.size w W)
  case atStart => exact ⟨0, by omega, by omega, rfl, fun i x h => absurd h (Nat.not_lt_zero _), Below.refl _ _⟩
  case round =>
    obtain ⟨j, hjk, hj, rfl, hno, B⟩ := hrel
    have HJ := Lib.hid (And.intro hjk (And.intro hno B))
    clear hjk hno B
    by_cases hjl : j < xs.length
    · have hjl' : (j : Int) < (xs.length : Int) := by omega
      have hxs : xs[j]? = some xs[j] := List.getElem?_eq_getElem hjl
      generalize hy : xs[j] = y at *
      have HY0 := Lib.hid hy
      clear hy
      have HX := Lib.hid hxs
      clear hxs
      have hRw : Row wr b 114 e114 xs ex := HR.out.block (HJ.out.2.2.block b HR.out.lt)
      have HRW := Lib.hid hRw
      clear hRw
      have HK := Lib.hid (HP.out wr y (Mod.of_below HJ.out.2.2))
      go_wp2_with (refine wpList_load_row_at fl rfl 114 _ rfl b 114 j xs y ex _ rfl Try.underlying114 rfl info_e HRW.out HX.out ?_)
      refine HK.out.mono ?_
      rintro e w2 ⟨rfl, b2⟩
      have B2 := HJ.out.2.2.trans (b2.mono HJ.out.2.2.size)
      clear b2
      cases hpy : p y with
      | true =>
        have HY := Lib.hid hpy
        clear hpy
        go_wp2
        go_ret
        refine ⟨?_, B2⟩
        rw [idxF_some hjl (by rw [HY0.out]; exact HY.out) HJ.out.2.1]; rfl
      | false =>
        have HY := Lib.hid hpy
        clear hpy
        go_wp2
        go_roundg (xs.length - j)
        case measure => have := HJ.out.1; omega
        case rel =>
          refine ⟨j + 1, by have := HJ.out.1; omega, by omega, by go_num, fun i x hi hx => ?_, B2⟩
          by_cases e : i = j
          · subst e
            have := HX.out
            rw [hx] at this; cases this; exact HY.out
          · exact HJ.out.2.1 i x (by omega) hx
    · have hjl' : ¬ (j : Int) < (xs.length : Int) := by omega
      go_wp2
      go_ret
      refine ⟨?_, HJ.out.2.2⟩
      rw [idxF_none fun i x hx => HJ.out.2.1 i x (by have := (List.getElem?_eq_some_iff.1 hx).1; omega) hx]; rfl
set_option maxRecDepth 100000 in
set_option maxHeartbeats 2000000 in
theorem index_nil (fn : Nat) (cap : Array Value) (p : S114 → Bool) (w : World) :
    Calls Try.prog 90 #[.slice none 0 0, .func (.func fn) #[] cap] w fun e w' => e = .returned (.int .i64 (idxF p [])) ∧ Below w.heap.size w w' := by
  go_enter Try.func90, Try.ntmps90
  go_wp2_with fail
  go_loopg [8] 1 (fun k v W => v = .int .i64 0 ∧ W = w)
  case atStart => exact ⟨rfl, rfl⟩
  case round =>
    obtain ⟨rfl, rfl⟩ := hrel
    go_wp2
    go_ret
    exact ⟨rfl, Below.refl _ _⟩
theorem slc_max {v : Value} {xs : List S114} {w : World} (h : (slc k114 114 v xs).holds w) : xs.length ≤ 9223372036854775807 := by
  obtain ⟨A, c, rfl, _, hC⟩ := Kd.R_reads h.1
  exact Kd.C_max hC
theorem index_s (fl : Flat k114 e114) (fn : Nat) (cap : Array Value) (p : S114 → Bool) (xs : List S114) (v : Value) (w : World) (F : Nat → Prop) (hp : Says fn cap p F w) (eg : ∀ args w, (callFunc fn args).run Try.prog w = .ok (.enter fn args) w) (hS : (slc k114 114 v xs).holds w) :
    Calls Try.prog 90 #[v, .func (.func fn) #[] cap] w fun e w' => e = .returned (.int .i64 (idxF p xs)) ∧ Below w.heap.size w w' := by
  have hm := slc_max hS
  rcases (slc_iff fl).1 hS with ⟨rfl, rfl⟩ | ⟨g, c, ex, rfl, hR, _⟩
  · exact index_nil fn cap p w
  · exact index_c fl fn cap p xs g c ex w F hp eg hR hm
/-- What the row holds when j elements are seen and i kept. -/
structure Kept (p : S114 → Bool) (xs : List S114) (i j : Nat) (ys : List S114) : Prop where
  le : i < j
  len : ys.length = xs.length
  low : ys.take i = (xs.take j).filter fun x => !p x
  high : ys.drop j = xs.drop j
theorem Kept.at {p : S114 → Bool} {xs ys : List S114} {i j : Nat} (h : Kept p xs i j ys) : ys[j]? = xs[j]? := by
  have := congrArg (fun l => l[0]?) h.high
  simpa using this
theorem take_filter {p : S114 → Bool} {xs : List S114} {j : Nat} {u : S114} (hu : xs[j]? = some u) : (xs.take (j + 1)).filter (fun x => !p x) = (xs.take j).filter (fun x => !p x) ++ if p u then [] else [u] := by
  obtain ⟨hj, rfl⟩ := List.getElem?_eq_some_iff.1 hu
  rw [← List.take_append_getElem hj, List.filter_append]
  cases h : p xs[j] <;> simp [h]
theorem Kept.skip {p : S114 → Bool} {xs ys : List S114} {i j : Nat} {u : S114} (h : Kept p xs i j ys) (hu : xs[j]? = some u) (hp : p u = true) : Kept p xs i (j + 1) ys :=
  ⟨by have := h.le; omega, h.len, by rw [h.low, take_filter hu, if_pos hp, List.append_nil], by
    rw [← List.drop_drop, h.high, List.drop_drop]⟩
theorem Kept.keep {p : S114 → Bool} {xs ys : List S114} {i j : Nat} {u : S114} (h : Kept p xs i j ys) (hu : xs[j]? = some u) (hp : p u = false) : Kept p xs (i + 1) (j + 1) (ys.set i u) := by
  have hj := (List.getElem?_eq_some_iff.1 hu).1
  have hle := h.le
  have hlen := h.len
  refine ⟨by omega, by rw [List.length_set]; exact hlen, ?_, ?_⟩
  · rw [take_filter hu, hp, if_neg (by decide), ← h.low, List.take_succ_eq_append_getElem (by rw [List.length_set]; omega), List.getElem_set_self, List.take_set_of_le (Nat.le_refl _)]
  · rw [List.drop_set_of_lt (by omega), ← List.drop_drop, h.high, List.drop_drop]
theorem Kept.start {p : S114 → Bool} {xs : List S114} {k : Nat} {u : S114} (hu : xs[k]? = some u) (hp : p u = true) (hn : ∀ x ∈ xs.take k, p x = false) : Kept p xs k (k + 1) xs := by
  refine ⟨by omega, rfl, ?_, rfl⟩
  rw [take_filter hu, if_pos hp, List.append_nil]
  exact (List.filter_eq_self.2 fun x hx => by simp [hn x hx]).symm
theorem Kept.end {p : S114 → Bool} {xs ys : List S114} {i : Nat} (h : Kept p xs i xs.length ys) : ys.take i = xs.filter (fun x => !p x) ∧ (xs.filter (fun x => !p x)).length = i := by
  have h1 := h.low
  rw [List.take_length] at h1
  refine ⟨h1, ?_⟩
  rw [← h1, List.length_take, h.len]
  have := h.le; omega
def delPost (p : S114 → Bool) (xs : List S114) (b c : Nat) (w : World) (e : Ending) (w' : World) : Prop := e = .returned (.slice (some ⟨b, 0, none⟩) (xs.filter fun x => !p x).length c) ∧ (∃ ex, Row w' b 114 e114 (xs.filter fun x => !p x) ex ∧ ex.length = (c - (xs.filter fun x => !p x).length) * (k114).sz) ∧ Mod (· = b) w w'
set_option maxRecDepth 100000 in
set_option maxHeartbeats 4000000 in
theorem delete_c (fl : Flat k114 e114) (z : Value) (hz : (Try.prog.info? 114).map (·.zero) = some (some z)) (hzs : z.cells.size = (k114).sz) (hz1 : ∀ v ∈ z.cells.toList, v.oneCell' = true) (fn : Nat) (cap : Array Value) (p : S114 → Bool) (xs : List S114) (b c : Nat) (ex : List Value) (w : World) (hp : Says fn cap p (· = b) w) (eg : ∀ args w, (callFunc fn args).run Try.prog w = .ok (.enter fn args) w) (hR : Row w b 114 e114 xs ex) (hc : xs.length ≤ c) (hcm : c ≤ maxLen) (hex : ex.length = (c - xs.length) * (k114).sz) :
    Calls Try.prog 73 #[.slice (some ⟨b, 0, none⟩) xs.length c, .func (.func fn) #[] cap] w (delPost p xs b c w) := by
  unfold maxLen at hcm
  have HI := Lib.hid (index_c fl fn cap p xs b c ex w (· = b) hp eg hR (by omega))
  have HP := Lib.hid hp
  have HR := Lib.hid hR
  have HX := Lib.hid hex
  clear hp hR hex
  go_enter Try.func73, Try.ntmps73
  go_wp2_with fail
  refine HI.out.mono ?_
  rintro e w1 ⟨rfl, b1⟩
  have R1 : Row w1 b 114 e114 xs ex := HR.out.block (b1.block b HR.out.lt)
  have M1 : Mod (· = b) w w1 := Mod.of_below b1
  have H1 := Lib.hid (And.intro R1 M1)
  clear R1 M1 b1 HI
  rcases idxF_cases p xs with ⟨hi, hall⟩ | ⟨k, hk, hi, ⟨u, hu, hpu⟩, hall⟩
  · have hf : (xs.filter fun x => !p x) = xs := List.filter_eq_self.2 fun x hx => by simp [hall x hx]
    have HF := Lib.hid hf
    clear hf hall
    rw [hi]
    clear hi
    go_wp2
    go_ret
    unfold delPost
    rw [HF.out]
    exact ⟨rfl, ⟨ex, H1.out.1, HX.out⟩, H1.out.2⟩
  · have HK := Lib.hid (Kept.start hu hpu hall)
    clear hu hpu hall
    rw [hi]
    clear hi
    have hkm : ¬ (k : Int) = -1 := by omega
    go_wp2_with fail
    go_loopg [5, 6] (xs.length + 1) (fun gg v5 v6 W => ∃ (i j : Nat) (ys : List S114), v5 = .int .i64 i ∧ v6 = .int .i64 j ∧ xs.length - j < gg ∧ j ≤ xs.length ∧ Kept p xs i j ys ∧ Row W b 114 e114 ys ex ∧ Mod (· = b) w W)
    case atStart => exact ⟨k, k + 1, xs, rfl, by go_num, by omega, by omega, HK.out, H1.out.1, H1.out.2⟩
    case round =>
      obtain ⟨i, j, ys, rfl, rfl, hjg, hj, hK, hRw, hM⟩ := hrel
      have hij := hK.le
      have hyl := hK.len
      have HJ := Lib.hid (And.intro hjg (And.intro hK (And.intro hRw hM)))
      clear hjg hK hRw hM H1 HK
      by_cases hjl : j < xs.length
      · have hjl' : (j : Int) < (xs.length : Int) := by omega
        have hil' : (i : Int) < (xs.length : Int) := by omega
        obtain ⟨u, hu⟩ : ∃ u, xs[j]? = some u := ⟨_, List.getElem?_eq_getElem hjl⟩
        have HU := Lib.hid (And.intro hu (HJ.out.2.1.at.trans hu))
        clear hu
        have hbl := HJ.out.2.2.1.lt
        have HZ := Lib.hid (And.intro hz hzs)
        go_upto_region 8 with (first
          | (refine wpList_load_row_at fl rfl 114 _ rfl b 114 j ys u ex _ rfl Try.underlying114 rfl info_e HJ.out.2.2.1 HU.out.2 ?_)
          | (refine wpList_alloc rfl 114 rfl z z.cells HZ.out.1 rfl ?_; intro g w3 _ hg m3 _ hb3)
          | (refine wpList_store_new fl rfl 114 _ _ rfl g 114 z.cells u rfl rfl info_e hb3 HZ.out.2 ?_; intro w4 R4 m4 _))
        have hgb : g ≠ b := by omega
        have Rb4 : Row w4 b 114 e114 ys ex := HJ.out.2.2.1.block ((m4.block b (by have := m3.size; omega) (Ne.symm hgb)).trans (m3.block b hbl (by simp)))
        have M4 : Mod (· = b) w w4 := (HJ.out.2.2.2.trans (m3.mono fun k _ h => h.elim)).trans' m4 (fun k hk e => by have := HJ.out.2.2.2.size; omega)
        have HC := Lib.hid (HP.out w4 u M4)
        have H4 := Lib.hid (And.intro R4 (And.intro Rb4 M4))
        clear R4 Rb4 M4 m4 m3 hb3
        go_wp2_with (refine wpList_load_row_at fl rfl 114 _ rfl g 114 0 [u] u [] _ rfl Try.underlying114 rfl info_e H4.out.1 rfl ?_)
        refine HC.out.mono ?_
        rintro e w5 ⟨rfl, b5⟩
        have Rg5 : Row w5 g 114 e114 [u] [] := H4.out.1.block (b5.block g H4.out.1.lt)
        have Rb5 : Row w5 b 114 e114 ys ex := H4.out.2.1.block (b5.block b H4.out.2.1.lt)
        have M5 : Mod (· = b) w w5 := H4.out.2.2.trans (Mod.of_below b5)
        have H5 := Lib.hid (And.intro Rg5 (And.intro Rb5 M5))
        clear Rg5 Rb5 M5 b5 H4 HC
        cases hpu : p u with
        | true =>
          have HY := Lib.hid hpu
          clear hpu
          go_wp2
          go_roundg (xs.length - j)
          case measure => have := HJ.out.1; omega
          case rel => exact ⟨i, j + 1, ys, rfl, by go_num, by omega, by omega, HJ.out.2.1.skip HU.out.1 HY.out, H5.out.2.1, H5.out.2.2⟩
        | false =>
          have HY := Lib.hid hpu
          clear hpu
          go_wp2_with (first
            | (refine wpList_load_row_at fl rfl 114 _ rfl g 114 0 [u] u [] _ rfl Try.underlying114 rfl info_e H5.out.1 rfl ?_)
            | (refine wpList_store_row_at fl rfl 114 _ _ rfl b 114 i ys u ex rfl rfl info_e H5.out.2.1 (by omega) ?_; intro w6 R6 m6 _))
          go_roundg (xs.length - j)
          case measure => have := HJ.out.1; omega
          case rel => exact ⟨i + 1, j + 1, ys.set i u, by go_num, by go_num, by omega, by omega, HJ.out.2.1.keep HU.out.1 HY.out, R6, H5.out.2.2.trans m6⟩
      · have hjl' : ¬ (j : Int) < (xs.length : Int) := by omega
        have hje : j = xs.length := by omega
        subst hje
        obtain ⟨h1, h2⟩ := HJ.out.2.1.end
        obtain ⟨w7, ex7, hr7, R7, he7, m7, _⟩ := run_clear_row (P := Try.prog) fl 96 114 0 z Try.underlying96 hz hzs hz1 b i (xs.length - i) (c - i) ys ex HJ.out.2.2.1 (by omega)
        have H7 := Lib.hid (And.intro R7 (And.intro he7 (And.intro m7 (And.intro h1 h2))))
        have hr8 : Sem.run Try.prog (Builtin.clear_ #[96] 0 #[.slice (some ⟨b, i * 2, none⟩) (xs.length - i) (c - i)]) wr = .ok (.tuple #[]) w7 := hr7
        have hci : ¬ c = i := by omega
        have hil2 : (i : Int) ≤ (c : Int) := by omega
        have hil3 : (i : Int) ≤ (xs.length : Int) := by omega
        clear hr7 R7 he7 m7 h1 h2
        go_wp2
        go_ret
        obtain ⟨R7, he7, m7, h1, h2⟩ := H7.out
        unfold delPost
        rw [h2]
        rw [h1] at R7
        refine ⟨rfl, ⟨ex7, R7, ?_⟩, HJ.out.2.2.2.trans m7⟩
        rw [he7, HX.out, hyl, ← Nat.add_mul]
        congr 1
        omega
/-- DeleteFunc: the slice is cut to what is kept. -/
theorem delete_s (fl : Flat k114 e114) (z : Value) (hz : (Try.prog.info? 114).map (·.zero) = some (some z)) (hzs : z.cells.size = (k114).sz) (hz1 : ∀ v ∈ z.cells.toList, v.oneCell' = true) (fn : Nat) (cap : Array Value) (p : S114 → Bool) (xs : List S114) (v : Value) (w : World) (hp : Says fn cap p (fun k => v.ownBlock = some k) w) (eg : ∀ args w, (callFunc fn args).run Try.prog w = .ok (.enter fn args) w) (hS : (slc k114 114 v xs).holds w) :
    Calls Try.prog 73 #[v, .func (.func fn) #[] cap] w fun e w' => ∃ v', e = .returned v' ∧ (slc k114 114 v' (xs.filter fun x => !p x)).holds w' ∧ v'.ownBlock = v.ownBlock ∧ Mod (fun k => v.ownBlock = some k) w w' := by
  rcases (slc_iff fl).1 hS with ⟨rfl, rfl⟩ | ⟨g, c, ex, rfl, hR, hc, hm, hex⟩
  · have HI := Lib.hid (index_nil fn cap p w)
    clear hp hS
    go_enter Try.func73, Try.ntmps73
    go_wp2_with fail
    refine HI.out.mono ?_
    rintro e w1 ⟨rfl, b1⟩
    have hi : idxF p [] = -1 := rfl
    rw [hi]
    clear hi
    go_wp2
    go_ret
    exact ⟨_, rfl, slc_nil _ _ _, rfl, Mod.of_below b1⟩
  · refine (delete_c fl z hz hzs hz1 fn cap p xs g c ex w (fun W x m => hp W x (m.mono fun k _ e => by rw [e]; rfl)) eg hR hc hm hex).mono ?_
    rintro e w' ⟨rfl, ⟨ex', R', he'⟩, m'⟩
    refine ⟨_, rfl, (slc_iff fl).2 (.inr ⟨g, c, ex', rfl, R', ?_, hm, he'⟩), rfl, m'.mono fun k _ e => by rw [e]; rfl⟩
    exact Nat.le_trans (List.length_filter_le _ _) hc
end Go.Proofs.Ytecgnfklfgjgaaa.Q114
