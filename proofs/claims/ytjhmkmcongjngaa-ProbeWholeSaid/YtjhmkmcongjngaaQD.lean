import Derived.Test.YtjhmkmcongjngaaQC
import Derived.Shelf.Abstract
set_option linter.unusedVariables false
set_option linter.unusedSimpArgs false
namespace Go.Proofs.Ytjhmkmcongjngaa
open Go.RowKit Go.Tat Go.Proofs.YtjhmkmcongjngaaW.PrintWords PProbePlays
def enc82 (x : S82) : Value := .agg #[.int .u8 x.f0, .int .i64 x.f1]
/-- The closures: is it this node? -/
theorem is_c (x : S82) (b : Nat) (t : Int) (w : World) (h : w.cell? ⟨b, 0, none⟩ = some (.int .u8 t)) : Calls Try.prog 26 #[enc82 x, .pointer (some ⟨b, 0, none⟩)] w fun e w' => e = .returned (.bool (x.f0 == t)) ∧ Below w.heap.size w w' := by
  have hl := World.block_lt_of_cell? w _ h
  unfold enc82
  go_enter Try.func26, Try.ntmps26
  go_wp2
  go_ret
  exact ⟨rfl, (Below.refl _ _).alloc (Nat.le_refl _) _⟩
theorem isnt_c (x : S82) (b : Nat) (t : Int) (w : World) (h : w.cell? ⟨b, 0, none⟩ = some (.int .u8 t)) : Calls Try.prog 31 #[enc82 x, .pointer (some ⟨b, 0, none⟩)] w fun e w' => e = .returned (.bool (x.f0 == t)) ∧ Below w.heap.size w w' := by
  have hl := World.block_lt_of_cell? w _ h
  unfold enc82
  go_enter Try.func31, Try.ntmps31
  go_wp2
  go_ret
  exact ⟨rfl, (Below.refl _ _).alloc (Nat.le_refl _) _⟩
/-- A function value that says of an element whether it is one. -/
def Says (fn : Nat) (cap : Value) (p : S82 → Bool) (w : World) : Prop := ∀ W x, Below w.heap.size w W → Calls Try.prog fn #[enc82 x, cap] W fun e w' => e = .returned (.bool (p x)) ∧ Below W.heap.size W w'
def idxF (p : S82 → Bool) (xs : List S82) : Int := match xs.findIdx? p with | some i => i | none => -1
set_option maxRecDepth 100000 in
set_option maxHeartbeats 2000000 in
theorem index_c (fn : Nat) (cap : Value) (p : S82 → Bool) (xs : List S82) (A : Option Addr) (c : Nat) (w : World) (hp : Says fn cap p w) (eg : ∀ args w, (callFunc fn args).run Try.prog w = .ok (.enter fn args) w) (hC : k82.C w A xs.length xs) :
    Calls Try.prog 35 #[.slice A xs.length c, .func (.func fn) #[] #[cap]] w fun e w' => e = .returned (.int .i64 (idxF p xs)) ∧ Below w.heap.size w w' := by
  have HC := Lib.hid hC
  have HP := Lib.hid hp
  have hmax := Kd.C_max hC
  clear hC hp
  go_enter Try.func35, Try.ntmps35
  go_wp2_with fail
  go_loopg [8] (xs.length + 1) (fun k v W => ∃ j : Nat, j + k = xs.length + 1 ∧ j ≤ xs.length ∧ v = .int .i64 j ∧ (∀ i x, i < j → xs[i]? = some x → p x = false) ∧ Below w.heap.size w W)
  case atStart => exact ⟨0, by omega, by omega, rfl, fun i x h => absurd h (Nat.not_lt_zero _), Below.refl _ _⟩
  case round =>
    obtain ⟨j, hjk, hj, rfl, hno, B⟩ := hrel
    have HJ := Lib.hid (And.intro hjk (And.intro hno B))
    clear hjk hno B
    by_cases hjl : j < xs.length
    · have hjl' : (j : Int) < (xs.length : Int) := by omega
      obtain ⟨ad, rfl, cx0, cx1⟩ := at_T82 HC.out (j : Int) (by omega) hjl'
      have hx : rd_T82 xs (j : Int) = xs[j] := by unfold rd_T82; rw [Int.toNat_natCast]; simp [List.getD, List.getElem?_eq_getElem hjl]
      rw [hx] at cx0 cx1
      replace cx0 := (HJ.out.2.2.cell (World.block_lt_of_cell? w _ cx0)).trans cx0
      replace cx1 := (HJ.out.2.2.cell (World.block_lt_of_cell? w _ cx1)).trans cx1
      rw [Int.toNat_natCast] at cx0 cx1
      obtain ⟨pb, po, had⟩ : ∃ b o, ad.add (j * 2) = ⟨b, o, none⟩ := by
        generalize ad.add (j * 2) = q at cx0
        obtain ⟨b, o, s⟩ := q
        cases s with
        | none => exact ⟨b, o, rfl⟩
        | some s => unfold World.cell? at cx0; dsimp only at cx0; split at cx0 <;> simp at cx0
      rw [had] at cx0 cx1
      dsimp only at cx1
      clear hx
      have hxs : xs[j]? = some xs[j] := List.getElem?_eq_getElem hjl
      generalize hy : xs[j] = y at *
      clear hy
      have HX := Lib.hid hxs
      clear hxs
      have HK := Lib.hid (HP.out wr y HJ.out.2.2)
      unfold enc82 at HK
      go_wp2_with fail
      refine HK.out.mono ?_
      rintro e w2 ⟨rfl, b2⟩
      have B2 := HJ.out.2.2.trans (b2.mono HJ.out.2.2.size)
      clear b2
      cases hpy : p y with
      | true =>
        have HY := Lib.hid hpy
        clear hpy
        go_wp2
        go_ret
        refine ⟨?_, B2⟩
        have : idxF p xs = (j : Int) := by
          have h1 := HX.out
          have h2 := HJ.out.2.1
          have h3 := HY.out
          unfold idxF
          have : xs.findIdx? p = some j := by
            rw [List.findIdx?_eq_some_iff_getElem]
            refine ⟨hjl, ?_, fun i hi => ?_⟩
            · rw [List.getElem?_eq_getElem hjl] at h1; cases h1; exact h3
            · have := h2 i xs[i] hi (List.getElem?_eq_getElem (by omega)); simp [this]
          rw [this]
        rw [this]; rfl
      | false =>
        have HY := Lib.hid hpy
        clear hpy
        go_wp2
        go_roundg (xs.length - j)
        case measure => have := HJ.out.1; omega
        case rel =>
          refine ⟨j + 1, by have := HJ.out.1; omega, by omega, by go_num, fun i x hi hx => ?_, B2⟩
          by_cases e : i = j
          · subst e
            have := HX.out
            rw [hx] at this; cases this; exact HY.out
          · exact HJ.out.2.1 i x (by omega) hx
    · have hjl' : ¬ (j : Int) < (xs.length : Int) := by omega
      go_wp2
      go_ret
      refine ⟨?_, HJ.out.2.2⟩
      have : idxF p xs = -1 := by
        unfold idxF
        have h2 := HJ.out.2.1
        have : xs.findIdx? p = none := by
          rw [List.findIdx?_eq_none_iff]
          intro x hx
          obtain ⟨i, hi, rfl⟩ := List.mem_iff_getElem.1 hx
          exact h2 i _ (by omega) (List.getElem?_eq_getElem hi)
        rw [this]
      rw [this]; rfl
theorem idxF_nonneg (p : S82 → Bool) (xs : List S82) : decide (0 ≤ idxF p xs) = xs.any p := by
  unfold idxF
  cases h : xs.findIdx? p with
  | none =>
    rw [List.findIdx?_eq_none_iff] at h
    have : xs.any p = false := by rw [List.any_eq_false]; intro x hx; simp [h x hx]
    rw [this]; rfl
  | some i =>
    rw [List.findIdx?_eq_some_iff_getElem] at h
    obtain ⟨hi, h1, _⟩ := h
    have : xs.any p = true := List.any_eq_true.2 ⟨_, List.getElem_mem hi, h1⟩
    rw [this, decide_eq_true_eq]; exact Int.natCast_nonneg i
set_option maxRecDepth 100000 in
theorem containsFunc_c (fn : Nat) (cap : Value) (p : S82 → Bool) (xs : List S82) (A : Option Addr) (c : Nat) (w : World) (hp : Says fn cap p w) (eg : ∀ args w, (callFunc fn args).run Try.prog w = .ok (.enter fn args) w) (hC : k82.C w A xs.length xs) :
    Calls Try.prog 25 #[.slice A xs.length c, .func (.func fn) #[] #[cap]] w fun e w' => e = .returned (.bool (xs.any p)) ∧ Below w.heap.size w w' := by
  have HI := Lib.hid (index_c fn cap p xs A c w hp eg hC)
  go_enter Try.func25, Try.ntmps25
  go_wp2_with fail
  refine HI.out.mono ?_
  rintro e w1 ⟨rfl, b1⟩
  go_wp2
  go_ret
  exact ⟨by rw [← idxF_nonneg]; rfl, b1⟩
end Go.Proofs.Ytjhmkmcongjngaa
