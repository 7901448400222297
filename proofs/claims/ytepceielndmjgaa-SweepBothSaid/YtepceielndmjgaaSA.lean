import Derived.Test.YtepceielndmjgaaFlat
import Derived.Test.YtepceielndmjgaaStApp
import Derived.Test.YtepceielndmjgaaMapR
import Derived.Test.YtepceielndmjgaaCell
import Derived.Test.YtepceielndmjgaaPSweepTellsx14
import Derived.Test.YtepceielndmjgaaPSweepTellsx4
import Derived.Test.YtepceielndmjgaaSG
import Derived.Deep.RegionHeld3
import Derived.Deep.QuietTactic
import Derived.BigQuiet
import Derived.Lib.Hide
namespace Go.Proofs.Ytepceielndmjgaa
open Go.RowKit Go.Tat Go.Proofs.YtepceielndmjgaaW.PrintWords PSweepTells
/-! ### Stamps and what is seen, compared -/
instance : Inhabited S39 := ⟨z39⟩
instance : Inhabited S41 := ⟨z41⟩
instance : Inhabited S43 := ⟨z43⟩
def e39 (x : S39) : List Value := [.int .u64 x.f0, .int .u32 x.f1, .int .u8 x.f2]
theorem fl39 : Flat k39 e39 := ⟨rfl, ⟨fun h => k39_openM h, fun h => h ▸ k39_mkM _ _ _ _⟩, ⟨fun h => k39_open h, fun h => h ▸ k39_mk _ _⟩⟩
def e43 (x : S43) : List Value := [.string x.f0, .int .u64 x.f1.f0, .int .u32 x.f1.f1, .int .u8 x.f1.f2, .int .u8 x.f2]
theorem fl43 : Flat k43 e43 := ⟨rfl, ⟨fun h => k43_openM h, fun h => h ▸ k43_mkM _ _ _ _⟩, ⟨fun h => k43_open h, fun h => h ▸ k43_mk _ _⟩⟩
def e41 (x : S41) : List Value := [.string x.f0, .int .u64 x.f1.f0, .int .u32 x.f1.f1, .int .u8 x.f1.f2, .int .u8 x.f2, .int .u32 x.f3, .int .u64 x.f4, .string x.f5]
theorem fl41 : Flat k41 e41 := ⟨rfl, ⟨fun h => k41_openM h, fun h => h ▸ k41_mkM _ _ _ _⟩, ⟨fun h => k41_open h, fun h => h ▸ k41_mk _ _⟩⟩
theorem flStr : Flat Kd.string (fun s : ByteArray => [Value.string s]) := ⟨rfl, Iff.rfl, Iff.rfl⟩
def cmpI (a b : Int) : Int := if a < b then -1 else if b < a then 1 else 0
def orI (a b : Int) : Int := if a = 0 then b else a
theorem nan33 (a : Int) (w : World) : Calls Try.prog 33 #[.int .u8 a] w fun e w' => e = .returned (.bool false) ∧ w = w' := by
  go_enter Try.func33, Try.ntmps33
  go_wp2
  go_ret
  exact ⟨by simp, rfl⟩
theorem compare27 (a b : Int) (w : World) : Calls Try.prog 27 #[.int .u8 a, .int .u8 b] w fun e w' => e = .returned (.int .i64 (cmpI a b)) ∧ w = w' := by
  have hn := Lib.hid (nan33)
  unfold cmpI
  by_cases h1 : a < b
  · rw [if_pos h1]
    go_enter Try.func27, Try.ntmps27
    go_wp2_with (go_at_call 33; refine (hn.out _ _).mono ?_; rintro e w' ⟨rfl, rfl⟩)
    go_ret
    exact ⟨rfl, rfl⟩
  · rw [if_neg h1]
    by_cases h2 : b < a
    · rw [if_pos h2]
      go_enter Try.func27, Try.ntmps27
      go_wp2_with (go_at_call 33; refine (hn.out _ _).mono ?_; rintro e w' ⟨rfl, rfl⟩)
      go_ret
      exact ⟨rfl, rfl⟩
    · rw [if_neg h2]
      go_enter Try.func27, Try.ntmps27
      go_wp2_with (go_at_call 33; refine (hn.out _ _).mono ?_; rintro e w' ⟨rfl, rfl⟩)
      go_ret
      exact ⟨rfl, rfl⟩
theorem nan46 (a : Int) (w : World) : Calls Try.prog 46 #[.int .u64 a] w fun e w' => e = .returned (.bool false) ∧ w = w' := by
  go_enter Try.func46, Try.ntmps46
  go_wp2
  go_ret
  exact ⟨by simp, rfl⟩
theorem compare31 (a b : Int) (w : World) : Calls Try.prog 31 #[.int .u64 a, .int .u64 b] w fun e w' => e = .returned (.int .i64 (cmpI a b)) ∧ w = w' := by
  have hn := Lib.hid (nan46)
  unfold cmpI
  by_cases h1 : a < b
  · rw [if_pos h1]
    go_enter Try.func31, Try.ntmps31
    go_wp2_with (go_at_call 46; refine (hn.out _ _).mono ?_; rintro e w' ⟨rfl, rfl⟩)
    go_ret
    exact ⟨rfl, rfl⟩
  · rw [if_neg h1]
    by_cases h2 : b < a
    · rw [if_pos h2]
      go_enter Try.func31, Try.ntmps31
      go_wp2_with (go_at_call 46; refine (hn.out _ _).mono ?_; rintro e w' ⟨rfl, rfl⟩)
      go_ret
      exact ⟨rfl, rfl⟩
    · rw [if_neg h2]
      go_enter Try.func31, Try.ntmps31
      go_wp2_with (go_at_call 46; refine (hn.out _ _).mono ?_; rintro e w' ⟨rfl, rfl⟩)
      go_ret
      exact ⟨rfl, rfl⟩
theorem nan47 (a : Int) (w : World) : Calls Try.prog 47 #[.int .u32 a] w fun e w' => e = .returned (.bool false) ∧ w = w' := by
  go_enter Try.func47, Try.ntmps47
  go_wp2
  go_ret
  exact ⟨by simp, rfl⟩
theorem compare32 (a b : Int) (w : World) : Calls Try.prog 32 #[.int .u32 a, .int .u32 b] w fun e w' => e = .returned (.int .i64 (cmpI a b)) ∧ w = w' := by
  have hn := Lib.hid (nan47)
  unfold cmpI
  by_cases h1 : a < b
  · rw [if_pos h1]
    go_enter Try.func32, Try.ntmps32
    go_wp2_with (go_at_call 47; refine (hn.out _ _).mono ?_; rintro e w' ⟨rfl, rfl⟩)
    go_ret
    exact ⟨rfl, rfl⟩
  · rw [if_neg h1]
    by_cases h2 : b < a
    · rw [if_pos h2]
      go_enter Try.func32, Try.ntmps32
      go_wp2_with (go_at_call 47; refine (hn.out _ _).mono ?_; rintro e w' ⟨rfl, rfl⟩)
      go_ret
      exact ⟨rfl, rfl⟩
    · rw [if_neg h2]
      go_enter Try.func32, Try.ntmps32
      go_wp2_with (go_at_call 47; refine (hn.out _ _).mono ?_; rintro e w' ⟨rfl, rfl⟩)
      go_ret
      exact ⟨rfl, rfl⟩

theorem or_c (a b : Int) (g : Nat) (w : World) (h0 : w.cell? ⟨g, 0, none⟩ = some (.int .i64 a)) (h1 : w.cell? ⟨g, 1, none⟩ = some (.int .i64 b)) : Calls Try.prog 25 #[.slice (some ⟨g, 0, none⟩) 2 2] w fun e w' => e = .returned (.int .i64 (orI a b)) ∧ w = w' := by
  go_enter Try.func25, Try.ntmps25
  go_wp2_with fail
  go_loop [8] (fun v => v = .int .i64 0 ∨ (v = .int .i64 1 ∧ a = 0) ∨ (v = .int .i64 2 ∧ a = 0 ∧ b = 0)) (fun v => 2 - (intOf v).toNat)
  case atStart => exact .inl rfl
  case round =>
    rcases hrel with rfl | ⟨rfl, ha⟩ | ⟨rfl, ha, hb⟩
    · by_cases ha : a = 0
      · subst ha
        go_wp2
        go_round
        case rel => simp
        case measure => simp [intOf]
      · go_wp2
        go_ret
        exact ⟨by unfold orI; rw [if_neg ha]; rfl, rfl⟩
    · subst ha
      by_cases hb : b = 0
      · subst hb
        go_wp2
        go_round
        case rel => simp
        case measure => simp [intOf]
      · go_wp2
        go_ret
        exact ⟨by unfold orI; rw [if_pos rfl]; rfl, rfl⟩
    · subst ha; subst hb
      go_wp2
      go_ret
      exact ⟨by simp [orI], rfl⟩
def cmp3 (a b : S39) : Int := if a.f0 = b.f0 then (if a.f1 = b.f1 then cmpI a.f2 b.f2 else cmpI a.f1 b.f1) else cmpI a.f0 b.f0
def boxes (a b : S39) (w : World) : World := (w.alloc (.cells (e39 a).toArray 39)).alloc (.cells (e39 b).toArray 39)
set_option maxRecDepth 100000 in
theorem hlc_c (a b : S39) (w : World) : Calls Try.prog 26 #[.agg (e39 a).toArray, .agg (e39 b).toArray] w fun e w' => e = .returned (.int .i64 (cmp3 a b)) ∧ boxes a b w = w' := by
  obtain ⟨a0, a1, a2⟩ := a
  obtain ⟨b0, b1, b2⟩ := b
  have H1 := Lib.hid compare31
  have H2 := Lib.hid compare32
  have H3 := Lib.hid compare27
  unfold cmp3 boxes e39
  simp only
  by_cases h0 : a0 = b0
  · subst h0
    by_cases h1 : a1 = b1
    · subst h1
      rw [if_pos rfl, if_pos rfl]
      by_cases h2 : a2 = b2
      · subst h2
        go_enter Try.func26, Try.ntmps26
        go_wp2_with fail
        go_ret
        exact ⟨by unfold cmpI; simp, rfl⟩
      · go_enter Try.func26, Try.ntmps26
        go_wp2_with (go_at_call 27; refine (H3.out _ _ _).mono ?_; rintro e w' ⟨rfl, rfl⟩)
        go_ret
        exact ⟨rfl, rfl⟩
    · rw [if_pos rfl, if_neg h1]
      go_enter Try.func26, Try.ntmps26
      go_wp2_with (go_at_call 32; refine (H2.out _ _ _).mono ?_; rintro e w' ⟨rfl, rfl⟩)
      go_ret
      exact ⟨rfl, rfl⟩
  · rw [if_neg h0]
    go_enter Try.func26, Try.ntmps26
    go_wp2_with (go_at_call 31; refine (H1.out _ _ _).mono ?_; rintro e w' ⟨rfl, rfl⟩)
    go_ret
    exact ⟨rfl, rfl⟩
/-- Less: by stamp, then by kind. -/
def ltS (a b : S43) : Prop := a.f1.f0 < b.f1.f0 ∨ (a.f1.f0 = b.f1.f0 ∧ (a.f1.f1 < b.f1.f1 ∨ (a.f1.f1 = b.f1.f1 ∧ (a.f1.f2 < b.f1.f2 ∨ (a.f1.f2 = b.f1.f2 ∧ a.f2 < b.f2)))))
instance (a b : S43) : Decidable (ltS a b) := by unfold ltS; infer_instance
theorem behind_is (a b : S43) : decide (orI (cmp3 a.f1 b.f1) (cmpI a.f2 b.f2) < 0) = decide (ltS a b) := by
  rw [decide_eq_decide]
  unfold ltS orI cmp3 cmpI
  split <;> split <;> (try split) <;> (try split) <;> (try split) <;> (try split) <;> (try split) <;> omega
theorem two_at {w : World} {g : Nat} (hg : g = w.heap.size) (a b : Value) (t : TypeId) : (w.alloc (.cells #[a, b] t)).drew.cell? ⟨g, 0, none⟩ = some a ∧ (w.alloc (.cells #[a, b] t)).drew.cell? ⟨g, 1, none⟩ = some b := by
  subst hg
  have h := heap_alloc_new w (.cells #[a, b] t)
  exact ⟨blk_cell (w := (w.alloc (.cells #[a, b] t)).drew) h 0, blk_cell (w := (w.alloc (.cells #[a, b] t)).drew) h 1⟩
theorem keep8 {w1 w' : World} {z : Nat} {a1 a2 a3 a4 b1 b2 b3 b4 : Value} (h : w1.cell? ⟨z, 1, none⟩ = some a1 ∧ w1.cell? ⟨z, 2, none⟩ = some a2 ∧ w1.cell? ⟨z, 3, none⟩ = some a3 ∧ w1.cell? ⟨z, 4, none⟩ = some a4 ∧ w1.cell? ⟨z + 1, 1, none⟩ = some b1 ∧ w1.cell? ⟨z + 1, 2, none⟩ = some b2 ∧ w1.cell? ⟨z + 1, 3, none⟩ = some b3 ∧ w1.cell? ⟨z + 1, 4, none⟩ = some b4) (l : z + 1 < w1.heap.size) (b : Below w1.heap.size w1 w') :
    w'.cell? ⟨z, 1, none⟩ = some a1 ∧ w'.cell? ⟨z, 2, none⟩ = some a2 ∧ w'.cell? ⟨z, 3, none⟩ = some a3 ∧ w'.cell? ⟨z, 4, none⟩ = some a4 ∧ w'.cell? ⟨z + 1, 1, none⟩ = some b1 ∧ w'.cell? ⟨z + 1, 2, none⟩ = some b2 ∧ w'.cell? ⟨z + 1, 3, none⟩ = some b3 ∧ w'.cell? ⟨z + 1, 4, none⟩ = some b4 := by
  have hz : ∀ i, w'.cell? ⟨z, i, none⟩ = w1.cell? ⟨z, i, none⟩ := fun i => b.cell (p := ⟨z, i, none⟩) (by show z < _; omega)
  have hz1 : ∀ i, w'.cell? ⟨z + 1, i, none⟩ = w1.cell? ⟨z + 1, i, none⟩ := fun i => b.cell (p := ⟨z + 1, i, none⟩) l
  rw [hz, hz, hz, hz, hz1, hz1, hz1, hz1]
  exact h
set_option maxRecDepth 100000 in
set_option maxHeartbeats 4000000 in
theorem behind_c (a b : S43) (w : World) : Calls Try.prog 22 #[.agg (e43 a).toArray, .agg (e43 b).toArray] w fun e w' => e = .returned (.bool (decide (ltS a b))) ∧ Below w.heap.size w w' := by
  rw [← behind_is]
  obtain ⟨ak, ⟨a0, a1, a2⟩, a3⟩ := a
  obtain ⟨bk, ⟨b0, b1, b2⟩, b3⟩ := b
  have H1 := Lib.hid (hlc_c ⟨a0, a1, a2⟩ ⟨b0, b1, b2⟩)
  have H3 := Lib.hid (compare27)
  have H2 := Lib.hid (or_c)
  simp only
  generalize cmp3 ⟨a0, a1, a2⟩ ⟨b0, b1, b2⟩ = c3 at *
  unfold boxes e39 at H1
  unfold e43
  go_enter Try.func22, Try.ntmps22
  go_wp2_with fail
  have S1 := ((St.nil (fun _ => False) w).new' #[.string ak, .int .u64 a0, .int .u32 a1, .int .u8 a2, .int .u8 a3] 43 w.heap.size rfl).new' #[.string bk, .int .u64 b0, .int .u32 b1, .int .u8 b2, .int .u8 b3] 43 (w.heap.size + 1) (by simp)
  have HB := Lib.hid S1.base
  obtain ⟨w1, hw1⟩ : ∃ w1, (w.alloc (.cells #[.string ak, .int .u64 a0, .int .u32 a1, .int .u8 a2, .int .u8 a3] 43)).alloc (.cells #[.string bk, .int .u64 b0, .int .u32 b1, .int .u8 b2, .int .u8 b3] 43) = w1 := ⟨_, rfl⟩
  rw [hw1] at S1 HB ⊢
  clear hw1
  obtain ⟨z, hz⟩ : ∃ z, w.heap.size = z := ⟨_, rfl⟩
  rw [hz] at S1 ⊢
  clear hz
  have x1 : w1.cell? ⟨z, 1, none⟩ = some (.int .u64 a0) := S1.cell 0 rfl 1
  have x2 : w1.cell? ⟨z, 2, none⟩ = some (.int .u32 a1) := S1.cell 0 rfl 2
  have x3 : w1.cell? ⟨z, 3, none⟩ = some (.int .u8 a2) := S1.cell 0 rfl 3
  have x4 : w1.cell? ⟨z, 4, none⟩ = some (.int .u8 a3) := S1.cell 0 rfl 4
  have y1 : w1.cell? ⟨z + 1, 1, none⟩ = some (.int .u64 b0) := S1.cell 1 rfl 1
  have y2 : w1.cell? ⟨z + 1, 2, none⟩ = some (.int .u32 b1) := S1.cell 1 rfl 2
  have y3 : w1.cell? ⟨z + 1, 3, none⟩ = some (.int .u8 b2) := S1.cell 1 rfl 3
  have y4 : w1.cell? ⟨z + 1, 4, none⟩ = some (.int .u8 b3) := S1.cell 1 rfl 4
  have HL := Lib.hid (And.intro (And.intro x1 (And.intro x2 (And.intro x3 (And.intro x4 (And.intro y1 (And.intro y2 (And.intro y3 y4))))))) (S1.blt 1 rfl))
  clear S1 x1 x2 x3 x4 y1 y2 y3 y4
  go_region_held3 (fun w' => w'.cell? ⟨z, 1, none⟩ = some (.int .u64 a0) ∧ w'.cell? ⟨z, 2, none⟩ = some (.int .u32 a1) ∧ w'.cell? ⟨z, 3, none⟩ = some (.int .u8 a2) ∧ w'.cell? ⟨z, 4, none⟩ = some (.int .u8 a3) ∧ w'.cell? ⟨z + 1, 1, none⟩ = some (.int .u64 b0) ∧ w'.cell? ⟨z + 1, 2, none⟩ = some (.int .u32 b1) ∧ w'.cell? ⟨z + 1, 3, none⟩ = some (.int .u8 b2) ∧ w'.cell? ⟨z + 1, 4, none⟩ = some (.int .u8 b3)) (exact keep8 HL.out.1 HL.out.2 (by repeat (first | exact Below.refl _ _ | apply below_alloc | apply below_drew1 | apply pw_below_drewN)))
    (first | (go_at_call 26; refine (H1.out _).mono ?_; rintro e w' ⟨rfl, rfl⟩) | (go_at_call 27; refine (H3.out _ _ _).mono ?_; rintro e w' ⟨rfl, rfl⟩) | (go_at_call 25; refine (H2.out c3 (cmpI a3 b3) (w1.heap.size + 1 + 1) _ ?_ ?_).mono ?_; (exact (two_at (by simp) _ _ _).1); (exact (two_at (by simp) _ _ _).2); rintro e w' ⟨rfl, rfl⟩))
  all_goals
    go_wp2
    go_ret
    exact ⟨rfl, HB.out.trans ((show Below w1.heap.size w1 _ by repeat (first | exact Below.refl _ _ | apply below_alloc | apply below_drew1 | apply pw_below_drewN)).mono HB.out.size)⟩
end Go.Proofs.Ytepceielndmjgaa
