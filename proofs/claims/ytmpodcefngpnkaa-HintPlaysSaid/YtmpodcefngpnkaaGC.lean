import Derived.Test.YtmpodcefngpnkaaLib
import Derived.Test.YtmpodcefngpnkaaShelf
import Derived.Test.YtmpodcefngpnkaaHD
import Derived.Deep.RegionHeld3
import Derived.Deep.QuietTactic
import Derived.BigQuiet
import Derived.Lib.Hide
namespace Go.Proofs.Ytmpodcefngpnkaa
open Go.RowKit Go.Tat Go.Proofs.YtmpodcefngpnkaaW.PrintWords PHintPlays
/-! #### struct type 104 -/
structure S104 where
  f0 : Int
  f1 : Int
def z104 : S104 := ⟨(0 : Int), (0 : Int)⟩
def k104 : Kd S104 := Kd.iso (Kd.pair (Kd.int .u8) (Kd.int .u64)) (fun x : S104 => (x.f0, x.f1))
theorem k104_open {w : World} {x : S104} {cs : List Value} (h : k104.K w x cs) : cs = [.int .u8 x.f0, .int .u64 x.f1] := by
  obtain ⟨_, _, rfl, rfl, rfl⟩ := h
  exact rfl
theorem k104_openM {w : World} {base : Nat} {ok : Nat → Prop} {x : S104} {cs : List Value} (h : k104.M w base ok x cs) : cs = [.int .u8 x.f0, .int .u64 x.f1] := by
  obtain ⟨_, _, rfl, rfl, rfl⟩ := h
  exact rfl
theorem k104_mk (w : World) (x : S104)  : k104.K w x [.int .u8 x.f0, .int .u64 x.f1] := ⟨[.int .u8 x.f0], [.int .u64 x.f1], rfl, rfl, rfl⟩
theorem k104_mkM (w : World) (base : Nat) (ok : Nat → Prop) (x : S104)  : k104.M w base ok x [.int .u8 x.f0, .int .u64 x.f1] := ⟨[.int .u8 x.f0], [.int .u64 x.f1], rfl, rfl, rfl⟩
def rd_T104 (xs : List S104) (i : Int) : S104 := xs.getD i.toNat z104
theorem at_T104 {w : World} {A : Option Addr} {n : Nat} {xs : List S104} (h : Kd.C k104 w A n xs) (i : Int) (h0 : 0 ≤ i) (h1 : i < n) : ∃ ad , A = some ad ∧ w.cell? (ad.add (i.toNat * 2)) = some (.int .u8 (rd_T104 xs i).f0) ∧ w.cell? ⟨(ad.add (i.toNat * 2)).block, (ad.add (i.toNat * 2)).off + 1, none⟩ = some (.int .u64 (rd_T104 xs i).f1) := by
  obtain ⟨ad, c, e, _, hK, hc0⟩ := Kd.C_get h z104 i h0 h1
  have hc : ∀ j u, c[j]? = some u → w.cell? (ad.add (i.toNat * 2 + j)) = some u := hc0
  obtain rfl := k104_open hK
  exact ⟨ad, e, hc 0 _ rfl, by rw [← add_field _ _ 1 (by omega)]; exact hc 1 _ rfl⟩

instance : Inhabited S104 := ⟨z104⟩
def e104 (x : S104) : List Value := [.int .u8 x.f0, .int .u64 x.f1]
theorem fl104 : Flat k104 e104 := ⟨rfl, ⟨fun h => k104_openM h, fun h => h ▸ k104_mkM _ _ _ _⟩, ⟨fun h => k104_open h, fun h => h ▸ k104_mk _ _⟩⟩
/-! ### Two candidates compared -/
def cmpI (a b : Int) : Int := if a < b then -1 else if b < a then 1 else 0
def orI (a b : Int) : Int := if a = 0 then b else a
def cfT (x y : S104) : Int := orI (cmpI y.f1 x.f1) (cmpI x.f0 y.f0)
theorem nan6 (a : Int) (w : World) : Calls Try.prog 62 #[.int .u64 a] w fun e w' => e = .returned (.bool false) ∧ w = w' := by
  go_enter Try.func62, Try.ntmps62
  go_wp2
  go_ret
  exact ⟨by simp, rfl⟩
theorem compare6 (a b : Int) (w : World) : Calls Try.prog 47 #[.int .u64 a, .int .u64 b] w fun e w' => e = .returned (.int .i64 (cmpI a b)) ∧ w = w' := by
  have hn := Lib.hid (nan6)
  unfold cmpI
  by_cases h1 : a < b
  · rw [if_pos h1]
    go_enter Try.func47, Try.ntmps47
    go_wp2_with (go_at_call 62; refine (hn.out _ _).mono ?_; rintro e w' ⟨rfl, rfl⟩)
    go_ret
    exact ⟨rfl, rfl⟩
  · rw [if_neg h1]
    by_cases h2 : b < a
    · rw [if_pos h2]
      go_enter Try.func47, Try.ntmps47
      go_wp2_with (go_at_call 62; refine (hn.out _ _).mono ?_; rintro e w' ⟨rfl, rfl⟩)
      go_ret
      exact ⟨rfl, rfl⟩
    · rw [if_neg h2]
      go_enter Try.func47, Try.ntmps47
      go_wp2_with (go_at_call 62; refine (hn.out _ _).mono ?_; rintro e w' ⟨rfl, rfl⟩)
      go_ret
      exact ⟨rfl, rfl⟩
theorem nan8 (a : Int) (w : World) : Calls Try.prog 64 #[.int .u8 a] w fun e w' => e = .returned (.bool false) ∧ w = w' := by
  go_enter Try.func64, Try.ntmps64
  go_wp2
  go_ret
  exact ⟨by simp, rfl⟩
theorem compare8 (a b : Int) (w : World) : Calls Try.prog 49 #[.int .u8 a, .int .u8 b] w fun e w' => e = .returned (.int .i64 (cmpI a b)) ∧ w = w' := by
  have hn := Lib.hid (nan8)
  unfold cmpI
  by_cases h1 : a < b
  · rw [if_pos h1]
    go_enter Try.func49, Try.ntmps49
    go_wp2_with (go_at_call 64; refine (hn.out _ _).mono ?_; rintro e w' ⟨rfl, rfl⟩)
    go_ret
    exact ⟨rfl, rfl⟩
  · rw [if_neg h1]
    by_cases h2 : b < a
    · rw [if_pos h2]
      go_enter Try.func49, Try.ntmps49
      go_wp2_with (go_at_call 64; refine (hn.out _ _).mono ?_; rintro e w' ⟨rfl, rfl⟩)
      go_ret
      exact ⟨rfl, rfl⟩
    · rw [if_neg h2]
      go_enter Try.func49, Try.ntmps49
      go_wp2_with (go_at_call 64; refine (hn.out _ _).mono ?_; rintro e w' ⟨rfl, rfl⟩)
      go_ret
      exact ⟨rfl, rfl⟩
theorem or_c (a b : Int) (g : Nat) (w : World) (h0 : w.cell? ⟨g, 0, none⟩ = some (.int .i64 a)) (h1 : w.cell? ⟨g, 1, none⟩ = some (.int .i64 b)) : Calls Try.prog 51 #[.slice (some ⟨g, 0, none⟩) 2 2] w fun e w' => e = .returned (.int .i64 (orI a b)) ∧ w = w' := by
  go_enter Try.func51, Try.ntmps51
  go_wp2_with fail
  go_loop [8] (fun v => v = .int .i64 0 ∨ (v = .int .i64 1 ∧ a = 0) ∨ (v = .int .i64 2 ∧ a = 0 ∧ b = 0)) (fun v => 2 - (intOf v).toNat)
  case atStart => exact .inl rfl
  case round =>
    rcases hrel with rfl | ⟨rfl, ha⟩ | ⟨rfl, ha, hb⟩
    · by_cases ha : a = 0
      · subst ha
        go_wp2
        go_round
        case rel => simp
        case measure => simp [intOf]
      · go_wp2
        go_ret
        exact ⟨by unfold orI; rw [if_neg ha]; rfl, rfl⟩
    · subst ha
      by_cases hb : b = 0
      · subst hb
        go_wp2
        go_round
        case rel => simp
        case measure => simp [intOf]
      · go_wp2
        go_ret
        exact ⟨by unfold orI; rw [if_pos rfl]; rfl, rfl⟩
    · subst ha; subst hb
      go_wp2
      go_ret
      exact ⟨by simp [orI], rfl⟩
theorem grow3 (W : World) (a b c : Obj) : (((W.alloc a).alloc b).alloc c).drew = Sort.grow (W.drewN 1) #[a, b, c] := by
  rw [Sort.alloc_eq_grow, Sort.alloc_eq_grow, Sort.alloc_eq_grow, Sort.grow_grow, Sort.grow_grow]
  rfl
def cmpPost (x y : S104) (W : World) (e : Ending) (w' : World) : Prop := e = .returned (.int .i64 (cfT x y)) ∧ ∃ q os', w' = Sort.grow (W.drewN q) os'
set_option maxRecDepth 100000 in
set_option maxHeartbeats 4000000 in
theorem cmp_c (x y : S104) (W : World) : Calls Try.prog 56 #[.agg (e104 x).toArray, .agg (e104 y).toArray] W (cmpPost x y W) := by
  obtain ⟨xn, xw⟩ := x
  obtain ⟨yn, yw⟩ := y
  have H1 := Lib.hid (compare6)
  have H3 := Lib.hid (compare8)
  have H2 := Lib.hid (or_c)
  unfold e104
  go_enter Try.func56, Try.ntmps56
  go_wp2_with fail
  have S1 := ((St.nil (fun _ => True) W).new' #[.int .u8 xn, .int .u64 xw] 104 W.heap.size rfl).new' #[.int .u8 yn, .int .u64 yw] 104 (W.heap.size + 1) (by simp)
  obtain ⟨w1, hw1⟩ : ∃ w1, (W.alloc (.cells #[.int .u8 xn, .int .u64 xw] 104)).alloc (.cells #[.int .u8 yn, .int .u64 yw] 104) = w1 := ⟨_, rfl⟩
  rw [hw1] at S1 ⊢
  have HW := Lib.hid hw1
  clear hw1
  obtain ⟨z, hz⟩ : ∃ z, W.heap.size = z := ⟨_, rfl⟩
  rw [hz] at S1 ⊢
  clear hz
  have x1 : w1.cell? ⟨z, 0, none⟩ = some (.int .u8 xn) := S1.cell 0 rfl 0
  have x2 : w1.cell? ⟨z, 1, none⟩ = some (.int .u64 xw) := S1.cell 0 rfl 1
  have y1 : w1.cell? ⟨z + 1, 0, none⟩ = some (.int .u8 yn) := S1.cell 1 rfl 0
  have y2 : w1.cell? ⟨z + 1, 1, none⟩ = some (.int .u64 yw) := S1.cell 1 rfl 1
  have l1 := S1.blt 0 rfl
  have l2 := S1.blt 1 rfl
  clear S1
  go_region_held3 (fun w' => w'.cell? ⟨z, 0, none⟩ = some (.int .u8 xn) ∧ w'.cell? ⟨z, 1, none⟩ = some (.int .u64 xw) ∧ w'.cell? ⟨z + 1, 0, none⟩ = some (.int .u8 yn) ∧ w'.cell? ⟨z + 1, 1, none⟩ = some (.int .u64 yw)) (go_keep)
    (first | (go_at_call 47; refine (H1.out _ _ _).mono ?_; rintro e w' ⟨rfl, rfl⟩) | (go_at_call 49; refine (H3.out _ _ _).mono ?_; rintro e w' ⟨rfl, rfl⟩) | (go_at_call 51; refine (H2.out (cmpI yw xw) (cmpI xn yn) w1.heap.size _ ?_ ?_).mono ?_; (simp); (simp); rintro e w' ⟨rfl, rfl⟩))
  all_goals
    go_wp2
    go_ret
    exact ⟨rfl, _, _, by rw [← HW.out]; exact grow3 W _ _ _⟩
theorem cmp_lays (blk size : Nat) (w : World) : CmpLays Try.prog 56 #[] e104 2 cfT blk 0 size w := fun m os dk _ x y => by
  have := cmp_c x y (sortWorldK e104 2 w blk 0 m dk os)
  exact this
theorem lt_key (x y : S104) : ltOf cfT x y = true ↔ (y.f1 < x.f1 ∨ (y.f1 = x.f1 ∧ x.f0 < y.f0)) := by
  unfold ltOf cfT orI cmpI
  simp only [decide_eq_true_eq]
  split <;> split <;> (try split) <;> (try split) <;> omega
theorem lt_key2 (x y : S104) : ltOf cfT x y = false ↔ ¬ (y.f1 < x.f1 ∨ (y.f1 = x.f1 ∧ x.f0 < y.f0)) := by
  rw [← lt_key, Bool.not_eq_true]
theorem cfT_swo : Sort.SWO (ltOf cfT) := by
  refine ⟨fun x => ?_, fun x y z h1 h2 => ?_, fun x y z h1 h2 => ?_⟩
  · rw [lt_key2]; omega
  · rw [lt_key] at *; omega
  · rw [lt_key2] at *; omega
theorem isAgg104 : ∀ w, (isAgg (Try.laysSort_ren.t 24)).run Try.prog w = .ok true w := fun w => Try.isAgg104 w
theorem sizeOf104 : ∀ w, (Go.sizeOf (Try.laysSort_ren.t 24)).run Try.prog w = .ok 2 w := fun w => Try.sizeOf104 w
/-- Sorted: the greatest weight first. -/
def Sorted104 (xs : List S104) : Prop := xs.Pairwise fun x y => ¬ (x.f1 < y.f1 ∨ (x.f1 = y.f1 ∧ y.f0 < x.f0))
theorem sort_c (v : Value) (xs : List S104) (w : World) (hS : (slc k104 104 v xs).holds w) (hl : xs.length < 4611686018427387904) :
    Calls Try.prog 55 #[v, .func (.func 56) #[] #[]] w fun e w' => e = .returned (.tuple #[]) ∧ ∃ ys, ys.Perm xs ∧ Sorted104 ys ∧ (slc k104 104 v ys).holds w' ∧ Mod (fun k => v.ownBlock = some k) w w' := by
  rcases (slc_iff fl104).1 hS with ⟨rfl, rfl⟩ | ⟨g, c, ex, rfl, hR, hc, hm, hex⟩
  · refine (AnyF.slices_SortFunc_none Try.laysSort none 0 _ w).mono ?_
    rintro e w' ⟨rfl, rfl⟩
    exact ⟨rfl, [], List.Perm.refl _, List.Pairwise.nil, slc_nil _ _ _, Mod.refl _ _⟩
  · have h := AnyQ.slices_SortFunc Try.laysSort 2 isAgg104 sizeOf104 e104 fl104.len fl104.one cfT cfT_swo 56 #[] g 0 c xs.toArray w (enters_of Try.func56 (by kernel_rfl) rfl) (cmp_lays g _ w) (hR.holds fl104) hR.lt (by simpa using hl)
    simp only [List.size_toArray] at h
    refine h.mono ?_
    rintro e w' ⟨rfl, D, n, os, hp, hs, rfl⟩
    obtain ⟨h1, h2⟩ := perm_of_in hp
    have h1' : D.size = xs.length := by simpa using h1
    obtain ⟨R, M⟩ := sort_row fl104 hR n os D h1'
    refine ⟨rfl, D.toList, by simpa using h2, ?_, ?_, M.mono fun k _ e => by rw [e]; rfl⟩
    · refine (sorted_of_in h1'.symm hs).imp fun {x y} hxy => ?_
      exact (lt_key2 y x).1 hxy
    · have hlen : D.toList.length = xs.length := by simpa using h1'
      refine (slc_iff fl104).2 (.inr ⟨g, c, ex, by rw [hlen], R, by omega, hm, by rw [hlen]; exact hex⟩)
end Go.Proofs.Ytmpodcefngpnkaa
