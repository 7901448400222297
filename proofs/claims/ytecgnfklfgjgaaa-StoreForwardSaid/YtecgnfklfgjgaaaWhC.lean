/- wheel: two timers compared; sorted -/
import Derived.Test.YtecgnfklfgjgaaaQ114
import Derived.Test.YtecgnfklfgjgaaaLib
import Derived.Test.YtecgnfklfgjgaaaShelfW
import Derived.Deep.RegionHeld3
import Derived.Deep.QuietTactic
import Derived.BigQuiet
set_option linter.unusedVariables false
set_option linter.unusedSimpArgs false
namespace Go.Proofs.Ytecgnfklfgjgaaa
open Go.RowKit Go.Tat Go.Proofs.YtecgnfklfgjgaaaW.PrintWords PStorePeeks
/-! ### Two pieces compared -/
def cmpI (a b : Int) : Int := if a < b then -1 else if b < a then 1 else 0
def orI (a b : Int) : Int := if a = 0 then b else a
def cfT (x y : S114) : Int := orI (cmpI x.f1 y.f1) (cmpI x.f0 y.f0)
theorem wnanU_c (a : Int) (w : World) : Calls Try.prog 70 #[.int .u64 a] w fun e w' => e = .returned (.bool false) ∧ w = w' := by
  go_enter Try.func70, Try.ntmps70
  go_wp2
  go_ret
  exact ⟨by simp, rfl⟩
theorem wcompareU_c (a b : Int) (w : World) : Calls Try.prog 51 #[.int .u64 a, .int .u64 b] w fun e w' => e = .returned (.int .i64 (cmpI a b)) ∧ w = w' := by
  have hn := Lib.hid (wnanU_c)
  unfold cmpI
  by_cases h1 : a < b
  · rw [if_pos h1]
    go_enter Try.func51, Try.ntmps51
    go_wp2_with (go_at_call 70; refine (hn.out _ _).mono ?_; rintro e w' ⟨rfl, rfl⟩)
    go_ret
    exact ⟨rfl, rfl⟩
  · rw [if_neg h1]
    by_cases h2 : b < a
    · rw [if_pos h2]
      go_enter Try.func51, Try.ntmps51
      go_wp2_with (go_at_call 70; refine (hn.out _ _).mono ?_; rintro e w' ⟨rfl, rfl⟩)
      go_ret
      exact ⟨rfl, rfl⟩
    · rw [if_neg h2]
      go_enter Try.func51, Try.ntmps51
      go_wp2_with (go_at_call 70; refine (hn.out _ _).mono ?_; rintro e w' ⟨rfl, rfl⟩)
      go_ret
      exact ⟨rfl, rfl⟩
theorem wnan_c (a : Int) (w : World) : Calls Try.prog 77 #[.int .i64 a] w fun e w' => e = .returned (.bool false) ∧ w = w' := by
  go_enter Try.func77, Try.ntmps77
  go_wp2
  go_ret
  exact ⟨by simp, rfl⟩
theorem wcompare_c (a b : Int) (w : World) : Calls Try.prog 62 #[.int .i64 a, .int .i64 b] w fun e w' => e = .returned (.int .i64 (cmpI a b)) ∧ w = w' := by
  have hn := Lib.hid (wnan_c)
  unfold cmpI
  by_cases h1 : a < b
  · rw [if_pos h1]
    go_enter Try.func62, Try.ntmps62
    go_wp2_with (go_at_call 77; refine (hn.out _ _).mono ?_; rintro e w' ⟨rfl, rfl⟩)
    go_ret
    exact ⟨rfl, rfl⟩
  · rw [if_neg h1]
    by_cases h2 : b < a
    · rw [if_pos h2]
      go_enter Try.func62, Try.ntmps62
      go_wp2_with (go_at_call 77; refine (hn.out _ _).mono ?_; rintro e w' ⟨rfl, rfl⟩)
      go_ret
      exact ⟨rfl, rfl⟩
    · rw [if_neg h2]
      go_enter Try.func62, Try.ntmps62
      go_wp2_with (go_at_call 77; refine (hn.out _ _).mono ?_; rintro e w' ⟨rfl, rfl⟩)
      go_ret
      exact ⟨rfl, rfl⟩
theorem wor_c (a b : Int) (g : Nat) (w : World) (h0 : w.cell? ⟨g, 0, none⟩ = some (.int .i64 a)) (h1 : w.cell? ⟨g, 1, none⟩ = some (.int .i64 b)) : Calls Try.prog 48 #[.slice (some ⟨g, 0, none⟩) 2 2] w fun e w' => e = .returned (.int .i64 (orI a b)) ∧ w = w' := by
  go_enter Try.func48, Try.ntmps48
  go_wp2_with fail
  go_loop [8] (fun v => v = .int .i64 0 ∨ (v = .int .i64 1 ∧ a = 0) ∨ (v = .int .i64 2 ∧ a = 0 ∧ b = 0)) (fun v => 2 - (intOf v).toNat)
  case atStart => exact .inl rfl
  case round =>
    rcases hrel with rfl | ⟨rfl, ha⟩ | ⟨rfl, ha, hb⟩
    · by_cases ha : a = 0
      · subst ha
        go_wp2
        go_round
        case rel => simp
        case measure => simp [intOf]
      · go_wp2
        go_ret
        exact ⟨by unfold orI; rw [if_neg ha]; rfl, rfl⟩
    · subst ha
      by_cases hb : b = 0
      · subst hb
        go_wp2
        go_round
        case rel => simp
        case measure => simp [intOf]
      · go_wp2
        go_ret
        exact ⟨by unfold orI; rw [if_pos rfl]; rfl, rfl⟩
    · subst ha; subst hb
      go_wp2
      go_ret
      exact ⟨by simp [orI], rfl⟩
theorem grow3 (W : World) (a b c : Obj) : (((W.alloc a).alloc b).alloc c).drew = Sort.grow (W.drewN 1) #[a, b, c] := by
  rw [Sort.alloc_eq_grow, Sort.alloc_eq_grow, Sort.alloc_eq_grow, Sort.grow_grow, Sort.grow_grow]
  rfl
def wcmpPost (x y : S114) (W : World) (e : Ending) (w' : World) : Prop := e = .returned (.int .i64 (cfT x y)) ∧ ∃ q os', w' = Sort.grow (W.drewN q) os'
set_option maxRecDepth 100000 in
set_option maxHeartbeats 4000000 in
theorem wcmp_c (x y : S114) (W : World) : Calls Try.prog 61 #[.agg (e114 x).toArray, .agg (e114 y).toArray] W (wcmpPost x y W) := by
  obtain ⟨xi, xd⟩ := x
  obtain ⟨yi, yd⟩ := y
  have H1 := Lib.hid (wcompare_c)
  have H1U := Lib.hid (wcompareU_c)
  have H2 := Lib.hid (wor_c)
  unfold e114
  go_enter Try.func61, Try.ntmps61
  go_wp2_with fail
  have S1 := ((St.nil (fun _ => True) W).new' #[.int .i64 xi, .int .u64 xd] 114 W.heap.size rfl).new' #[.int .i64 yi, .int .u64 yd] 114 (W.heap.size + 1) (by simp)
  obtain ⟨w1, hw1⟩ : ∃ w1, (W.alloc (.cells #[.int .i64 xi, .int .u64 xd] 114)).alloc (.cells #[.int .i64 yi, .int .u64 yd] 114) = w1 := ⟨_, rfl⟩
  rw [hw1] at S1 ⊢
  have HW := Lib.hid hw1
  clear hw1
  obtain ⟨z, hz⟩ : ∃ z, W.heap.size = z := ⟨_, rfl⟩
  rw [hz] at S1 ⊢
  clear hz
  have x1 : w1.cell? ⟨z, 0, none⟩ = some (.int .i64 xi) := S1.cell 0 rfl 0
  have x2 : w1.cell? ⟨z, 1, none⟩ = some (.int .u64 xd) := S1.cell 0 rfl 1
  have y1 : w1.cell? ⟨z + 1, 0, none⟩ = some (.int .i64 yi) := S1.cell 1 rfl 0
  have y2 : w1.cell? ⟨z + 1, 1, none⟩ = some (.int .u64 yd) := S1.cell 1 rfl 1
  have l1 := S1.blt 0 rfl
  have l2 := S1.blt 1 rfl
  clear S1
  go_region_held3 (fun w' => w'.cell? ⟨z, 0, none⟩ = some (.int .i64 xi) ∧ w'.cell? ⟨z, 1, none⟩ = some (.int .u64 xd) ∧ w'.cell? ⟨z + 1, 0, none⟩ = some (.int .i64 yi) ∧ w'.cell? ⟨z + 1, 1, none⟩ = some (.int .u64 yd)) (go_keep)
    (first | (go_at_call 62; refine (H1.out _ _ _).mono ?_; rintro e w' ⟨rfl, rfl⟩) | (go_at_call 51; refine (H1U.out _ _ _).mono ?_; rintro e w' ⟨rfl, rfl⟩) | (go_at_call 48; refine (H2.out (cmpI xd yd) (cmpI xi yi) w1.heap.size _ ?_ ?_).mono ?_; (simp); (simp); rintro e w' ⟨rfl, rfl⟩))
  all_goals
    go_wp2
    go_ret
    exact ⟨rfl, _, _, by rw [← HW.out]; exact grow3 W _ _ _⟩
theorem wcmp_lays (blk size : Nat) (w : World) : CmpLays Try.prog 61 #[] e114 2 cfT blk 0 size w := fun m os dk _ x y => by
  have := wcmp_c x y (sortWorldK e114 2 w blk 0 m dk os)
  exact this
theorem wlt_key (x y : S114) : ltOf cfT x y = true ↔ (x.f1 < y.f1 ∨ (x.f1 = y.f1 ∧ x.f0 < y.f0)) := by
  unfold ltOf cfT orI cmpI
  simp only [decide_eq_true_eq]
  split <;> split <;> (try split) <;> (try split) <;> omega
theorem wlt_key2 (x y : S114) : ltOf cfT x y = false ↔ ¬ (x.f1 < y.f1 ∨ (x.f1 = y.f1 ∧ x.f0 < y.f0)) := by
  rw [← wlt_key, Bool.not_eq_true]
theorem cfT_swo : Sort.SWO (ltOf cfT) := by
  refine ⟨fun x => ?_, fun x y z h1 h2 => ?_, fun x y z h1 h2 => ?_⟩
  · rw [wlt_key2]; omega
  · rw [wlt_key] at *; omega
  · rw [wlt_key2] at *; omega
theorem isAgg114 : ∀ w, (isAgg (Try.laysSort_ren.t 24)).run Try.prog w = .ok true w := fun w => Try.isAgg114 w
theorem sizeOf114 : ∀ w, (Go.sizeOf (Try.laysSort_ren.t 24)).run Try.prog w = .ok 2 w := fun w => Try.sizeOf114 w
/-- The pieces sorted: by when they are due, then by number. -/
def Sorted114 (xs : List S114) : Prop := xs.Pairwise fun x y => ¬ (y.f1 < x.f1 ∨ (y.f1 = x.f1 ∧ y.f0 < x.f0))
theorem wsort_c (v : Value) (xs : List S114) (w : World) (hS : (slc k114 114 v xs).holds w) (hl : xs.length < 4611686018427387904) :
    Calls Try.prog 60 #[v, .func (.func 61) #[] #[]] w fun e w' => e = .returned (.tuple #[]) ∧ ∃ ys, ys.Perm xs ∧ Sorted114 ys ∧ (slc k114 114 v ys).holds w' ∧ Mod (fun k => v.ownBlock = some k) w w' := by
  rcases (slc_iff fl114).1 hS with ⟨rfl, rfl⟩ | ⟨g, c, ex, rfl, hR, hc, hm, hex⟩
  · refine (AnyF.slices_SortFunc_none Try.laysSort none 0 _ w).mono ?_
    rintro e w' ⟨rfl, rfl⟩
    exact ⟨rfl, [], List.Perm.refl _, List.Pairwise.nil, slc_nil _ _ _, Mod.refl _ _⟩
  · have h := AnyQ.slices_SortFunc Try.laysSort 2 isAgg114 sizeOf114 e114 fl114.len fl114.one cfT cfT_swo 61 #[] g 0 c xs.toArray w (enters_of Try.func61 (by kernel_rfl) rfl) (wcmp_lays g _ w) (hR.holds fl114) hR.lt (by simpa using hl)
    simp only [List.size_toArray] at h
    refine h.mono ?_
    rintro e w' ⟨rfl, D, n, os, hp, hs, rfl⟩
    obtain ⟨h1, h2⟩ := perm_of_in hp
    have h1' : D.size = xs.length := by simpa using h1
    obtain ⟨R, M⟩ := sort_row fl114 hR n os D h1'
    refine ⟨rfl, D.toList, by simpa using h2, ?_, ?_, M.mono fun k _ e => by rw [e]; rfl⟩
    · refine (sorted_of_in h1'.symm hs).imp fun {x y} hxy => ?_
      exact (wlt_key2 y x).1 hxy
    · have hlen : D.toList.length = xs.length := by simpa using h1'
      refine (slc_iff fl114).2 (.inr ⟨g, c, ex, by rw [hlen], R, by omega, hm, by rw [hlen]; exact hex⟩)
end Go.Proofs.Ytecgnfklfgjgaaa
