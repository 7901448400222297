import Derived.Test.YtkfofcgonkkdaaaQ60
import Derived.Test.YtkfofcgonkkdaaaSortQ
import Derived.Test.YtkfofcgonkkdaaaShelf
import Derived.Deep.RegionHeld3
import Derived.Deep.QuietTactic
import Derived.BigQuiet
namespace Go.Proofs.Ytkfofcgonkkdaaa
open Go.RowKit Go.Tat Go.Proofs.YtkfofcgonkkdaaaW.PrintWords PTalkPlays
/-! ### Two pieces compared -/
def cmpI (a b : Int) : Int := if a < b then -1 else if b < a then 1 else 0
def orI (a b : Int) : Int := if a = 0 then b else a
def cfT (x y : S60) : Int := orI (cmpI x.f1 y.f1) (cmpI y.f2 x.f2)
theorem nan_c (a : Int) (w : World) : Calls Try.prog 24 #[.int .i64 a] w fun e w' => e = .returned (.bool false) ∧ w = w' := by
  go_enter Try.func24, Try.ntmps24
  go_wp2
  go_ret
  exact ⟨by simp, rfl⟩
theorem compare_c (a b : Int) (w : World) : Calls Try.prog 18 #[.int .i64 a, .int .i64 b] w fun e w' => e = .returned (.int .i64 (cmpI a b)) ∧ w = w' := by
  have hn := Lib.hid (nan_c)
  unfold cmpI
  by_cases h1 : a < b
  · rw [if_pos h1]
    go_enter Try.func18, Try.ntmps18
    go_wp2_with (go_at_call 24; refine (hn.out _ _).mono ?_; rintro e w' ⟨rfl, rfl⟩)
    go_ret
    exact ⟨rfl, rfl⟩
  · rw [if_neg h1]
    by_cases h2 : b < a
    · rw [if_pos h2]
      go_enter Try.func18, Try.ntmps18
      go_wp2_with (go_at_call 24; refine (hn.out _ _).mono ?_; rintro e w' ⟨rfl, rfl⟩)
      go_ret
      exact ⟨rfl, rfl⟩
    · rw [if_neg h2]
      go_enter Try.func18, Try.ntmps18
      go_wp2_with (go_at_call 24; refine (hn.out _ _).mono ?_; rintro e w' ⟨rfl, rfl⟩)
      go_ret
      exact ⟨rfl, rfl⟩
theorem or_c (a b : Int) (g : Nat) (w : World) (h0 : w.cell? ⟨g, 0, none⟩ = some (.int .i64 a)) (h1 : w.cell? ⟨g, 1, none⟩ = some (.int .i64 b)) : Calls Try.prog 17 #[.slice (some ⟨g, 0, none⟩) 2 2] w fun e w' => e = .returned (.int .i64 (orI a b)) ∧ w = w' := by
  go_enter Try.func17, Try.ntmps17
  go_wp2_with fail
  go_loop [8] (fun v => v = .int .i64 0 ∨ (v = .int .i64 1 ∧ a = 0) ∨ (v = .int .i64 2 ∧ a = 0 ∧ b = 0)) (fun v => 2 - (intOf v).toNat)
  case atStart => exact .inl rfl
  case round =>
    rcases hrel with rfl | ⟨rfl, ha⟩ | ⟨rfl, ha, hb⟩
    · by_cases ha : a = 0
      · subst ha
        go_wp2
        go_round
        case rel => simp
        case measure => simp [intOf]
      · go_wp2
        go_ret
        exact ⟨by unfold orI; rw [if_neg ha]; rfl, rfl⟩
    · subst ha
      by_cases hb : b = 0
      · subst hb
        go_wp2
        go_round
        case rel => simp
        case measure => simp [intOf]
      · go_wp2
        go_ret
        exact ⟨by unfold orI; rw [if_pos rfl]; rfl, rfl⟩
    · subst ha; subst hb
      go_wp2
      go_ret
      exact ⟨by simp [orI], rfl⟩
theorem grow3 (W : World) (a b c : Obj) : (((W.alloc a).alloc b).alloc c).drew = Sort.grow (W.drewN 1) #[a, b, c] := by
  rw [Sort.alloc_eq_grow, Sort.alloc_eq_grow, Sort.alloc_eq_grow, Sort.grow_grow, Sort.grow_grow]
  rfl
def cmpPost (x y : S60) (W : World) (e : Ending) (w' : World) : Prop := e = .returned (.int .i64 (cfT x y)) ∧ ∃ q os', w' = Sort.grow (W.drewN q) os'
set_option maxRecDepth 100000 in
set_option maxHeartbeats 4000000 in
theorem cmp_c (x y : S60) (W : World) : Calls Try.prog 16 #[.agg (e60 x).toArray, .agg (e60 y).toArray] W (cmpPost x y W) := by
  obtain ⟨⟨xn, xs, xi⟩, xt, xc⟩ := x
  obtain ⟨⟨yn, ys, yi⟩, yt, yc⟩ := y
  have H1 := Lib.hid (compare_c)
  have H2 := Lib.hid (or_c)
  unfold e60
  go_enter Try.func16, Try.ntmps16
  go_wp2_with fail
  have S1 := ((St.nil (fun _ => True) W).new' #[.int .u8 xn, .int .u8 xs, .int .u32 xi, .int .i64 xt, .int .i64 xc] 60 W.heap.size rfl).new' #[.int .u8 yn, .int .u8 ys, .int .u32 yi, .int .i64 yt, .int .i64 yc] 60 (W.heap.size + 1) (by simp)
  obtain ⟨w1, hw1⟩ : ∃ w1, (W.alloc (.cells #[.int .u8 xn, .int .u8 xs, .int .u32 xi, .int .i64 xt, .int .i64 xc] 60)).alloc (.cells #[.int .u8 yn, .int .u8 ys, .int .u32 yi, .int .i64 yt, .int .i64 yc] 60) = w1 := ⟨_, rfl⟩
  rw [hw1] at S1 ⊢
  have HW := Lib.hid hw1
  clear hw1
  obtain ⟨z, hz⟩ : ∃ z, W.heap.size = z := ⟨_, rfl⟩
  rw [hz] at S1 ⊢
  clear hz
  have x1 : w1.cell? ⟨z, 3, none⟩ = some (.int .i64 xt) := S1.cell 0 rfl 3
  have x2 : w1.cell? ⟨z, 4, none⟩ = some (.int .i64 xc) := S1.cell 0 rfl 4
  have y1 : w1.cell? ⟨z + 1, 3, none⟩ = some (.int .i64 yt) := S1.cell 1 rfl 3
  have y2 : w1.cell? ⟨z + 1, 4, none⟩ = some (.int .i64 yc) := S1.cell 1 rfl 4
  have l1 := S1.blt 0 rfl
  have l2 := S1.blt 1 rfl
  clear S1
  go_region_held3 (fun w' => w'.cell? ⟨z, 3, none⟩ = some (.int .i64 xt) ∧ w'.cell? ⟨z, 4, none⟩ = some (.int .i64 xc) ∧ w'.cell? ⟨z + 1, 3, none⟩ = some (.int .i64 yt) ∧ w'.cell? ⟨z + 1, 4, none⟩ = some (.int .i64 yc)) (go_keep)
    (first | (go_at_call 18; refine (H1.out _ _ _).mono ?_; rintro e w' ⟨rfl, rfl⟩) | (go_at_call 17; refine (H2.out (cmpI xt yt) (cmpI yc xc) w1.heap.size _ ?_ ?_).mono ?_; (simp); (simp); rintro e w' ⟨rfl, rfl⟩))
  all_goals
    go_wp2
    go_ret
    exact ⟨rfl, _, _, by rw [← HW.out]; exact grow3 W _ _ _⟩
theorem cmp_lays (blk size : Nat) (w : World) : CmpLays Try.prog 16 #[] e60 5 cfT blk 0 size w := fun m os dk _ x y => by
  have := cmp_c x y (sortWorldK e60 5 w blk 0 m dk os)
  exact this
theorem lt_key (x y : S60) : ltOf cfT x y = true ↔ (x.f1 < y.f1 ∨ (x.f1 = y.f1 ∧ y.f2 < x.f2)) := by
  unfold ltOf cfT orI cmpI
  simp only [decide_eq_true_eq]
  split <;> split <;> (try split) <;> (try split) <;> omega
theorem lt_key2 (x y : S60) : ltOf cfT x y = false ↔ ¬ (x.f1 < y.f1 ∨ (x.f1 = y.f1 ∧ y.f2 < x.f2)) := by
  rw [← lt_key, Bool.not_eq_true]
theorem cfT_swo : Sort.SWO (ltOf cfT) := by
  refine ⟨fun x => ?_, fun x y z h1 h2 => ?_, fun x y z h1 h2 => ?_⟩
  · rw [lt_key2]; omega
  · rw [lt_key] at *; omega
  · rw [lt_key2] at *; omega
theorem isAgg60 : ∀ w, (isAgg (Try.laysSort_ren.t 24)).run Try.prog w = .ok true w := fun w => Try.isAgg60 w
theorem sizeOf60 : ∀ w, (Go.sizeOf (Try.laysSort_ren.t 24)).run Try.prog w = .ok 5 w := fun w => Try.sizeOf60 w
/-- The pieces sorted: by how often they were told, the latest first. -/
def Sorted60 (xs : List S60) : Prop := xs.Pairwise fun x y => ¬ (y.f1 < x.f1 ∨ (y.f1 = x.f1 ∧ x.f2 < y.f2))
theorem sort_c (v : Value) (xs : List S60) (w : World) (hS : (slc k60 60 v xs).holds w) (hl : xs.length < 4611686018427387904) :
    Calls Try.prog 15 #[v, .func (.func 16) #[] #[]] w fun e w' => e = .returned (.tuple #[]) ∧ ∃ ys, ys.Perm xs ∧ Sorted60 ys ∧ (slc k60 60 v ys).holds w' ∧ Mod (fun k => v.ownBlock = some k) w w' := by
  rcases (slc_iff fl60).1 hS with ⟨rfl, rfl⟩ | ⟨g, c, ex, rfl, hR, hc, hm, hex⟩
  · refine (AnyF.slices_SortFunc_none Try.laysSort none 0 _ w).mono ?_
    rintro e w' ⟨rfl, rfl⟩
    exact ⟨rfl, [], List.Perm.refl _, List.Pairwise.nil, slc_nil _ _ _, Mod.refl _ _⟩
  · have h := AnyQ.slices_SortFunc Try.laysSort 5 isAgg60 sizeOf60 e60 fl60.len fl60.one cfT cfT_swo 16 #[] g 0 c xs.toArray w (enters_of Try.func16 (by kernel_rfl) rfl) (cmp_lays g _ w) (hR.holds fl60) hR.lt (by simpa using hl)
    simp only [List.size_toArray] at h
    refine h.mono ?_
    rintro e w' ⟨rfl, D, n, os, hp, hs, rfl⟩
    obtain ⟨h1, h2⟩ := perm_of_in hp
    have h1' : D.size = xs.length := by simpa using h1
    obtain ⟨R, M⟩ := sort_row fl60 hR n os D h1'
    refine ⟨rfl, D.toList, by simpa using h2, ?_, ?_, M.mono fun k _ e => by rw [e]; rfl⟩
    · refine (sorted_of_in h1'.symm hs).imp fun {x y} hxy => ?_
      exact (lt_key2 y x).1 hxy
    · have hlen : D.toList.length = xs.length := by simpa using h1'
      refine (slc_iff fl60).2 (.inr ⟨g, c, ex, by rw [hlen], R, by omega, hm, by rw [hlen]; exact hex⟩)
end Go.Proofs.Ytkfofcgonkkdaaa
