import Derived.Test.YtgfkfmnncjjopaaLC
import Derived.Deep.LoopGhost
namespace Go.Proofs.Ytgfkfmnncjjopaa
open Go.RowKit Go.Tat
theorem nodup_le : ∀ (n : Nat) (o : List Nat), o.Nodup → (∀ x ∈ o, x < n) → o.length ≤ n
  | 0, o, _, h => by
    cases o with
    | nil => simp
    | cons x r => have := h x (by simp); omega
  | n + 1, o, hd, h => by
    by_cases hm : n ∈ o
    · have h1 := nodup_le n (o.erase n) (hd.erase n) (fun x hx => by
        have h2 := h x (List.mem_of_mem_erase hx)
        have h3 : x ≠ n := by rintro rfl; exact (List.Nodup.not_mem_erase hd) hx
        omega)
      rw [List.length_erase_of_mem hm] at h1
      omega
    · have h1 := nodup_le n o hd (fun x hx => by
        have h2 := h x hx
        have h3 : x ≠ n := by rintro rfl; exact hm hx
        omega)
      omega
theorem Cyc.len {n : Nat} {S : LS} {o : List Nat} (h : Cyc n S o) : o.length ≤ n := nodup_le n o h.nd h.lt
def ints (o : List Nat) : List Value := o.map fun (x : Nat) => .int .i64 (x : Int)
/-- A new slice of numbers. -/
def OutPost (o : List Nat) (w : World) (e : Ending) (w' : World) : Prop := ∃ v, e = .returned v ∧ w'.ownsRow w.heap.size 3 1 v o.length (ints o) ∧ Below w.heap.size w w'
theorem Try.inf3 : (Try.prog.info? 3).map (fun i => (i.zero, i.size, i.bytes)) = some (some (.int .i64 0), 1, 8) := by kernel_rfl
theorem order_step {w W W1 : World} {v v' : Value} {a : List Nat} {x : Nat} (h : W1.ownsRow w.heap.size 3 1 v' (a.length + 1) (ints a ++ [.int .i64 (x : Int)])) : W1.ownsRow w.heap.size 3 1 v' (a ++ [x]).length (ints (a ++ [x])) := by
  simpa [ints] using h
set_option maxHeartbeats 1000000 in
theorem order_in (g b cap n : Nat) (S : LS) (o : List Nat) (w : World) (L : LRep w g b cap n S) (hC : Cyc n S o) (hn : n ≤ 1024) :
    Calls Try.prog 15 #[.pointer (some ⟨g, 0, none⟩)] w (OutPost o w) := by
  have hlen := hC.len
  obtain ⟨i0, hi, hz0, hz1, hz2⟩ := info_parts Try.inf3
  have c0 := L.c0
  have c1 := L.c1
  have cs := L.s (i := n) (Nat.le_refl n)
  rw [hC.first] at cs
  have hnn : (n : Int) < (n : Int) + 1 := by omega
  generalize hX : o.headD n = X at *
  have HX := Lib.hid hX
  clear hX
  go_enter Try.func15, Try.ntmps15
  go_wp2
  go_quiet (fail)
  go_wp2
  go_loopg [3, 4] (o.length + 1) (fun k v i W => ∃ a r, o = a ++ r ∧ k = r.length + 1 ∧ i = .int .i64 (r.headD n : Nat) ∧ W.ownsRow w.heap.size 3 1 v a.length (ints a) ∧ Below w.heap.size w W)
  case atStart =>
    exact ⟨[], o, rfl, rfl, by rw [HX.out], World.ownsRow_nil _ _ _ _, (Mod.drewN (fun _ => False) w _).below (Nat.le_refl _) (by simp)⟩
  case round =>
    obtain ⟨a, r, he, hk, rfl, hown, hB⟩ := hrel
    have HE := Lib.hid (And.intro he hk)
    have LW : LRep wr g b cap n S := L.mod (Mod.of_below (S := fun _ => False) hB) (by simp) (by simp)
    have d1 := LW.c1
    clear c0 c1 cs
    cases r with
    | nil =>
      clear he hk
      simp only [List.headD_nil]
      go_wp2
      go_ret
      refine ⟨_, rfl, ?_, hB⟩
      obtain ⟨he, _⟩ := HE.out
      rw [List.append_nil] at he
      rw [he]; exact hown
    | cons x r =>
      have hx : x < n := hC.lt x (by rw [he]; simp)
      have hnext := hC.next he
      have hal : a.length + 1 ≤ 1024 := by have := congrArg List.length he; simp at this; omega
      clear he hk
      simp only [List.headD_cons]
      have hne : ((x : Int) != (n : Int)) = true := by rw [bne_iff_ne]; omega
      have d0 := LW.c0
      have ds := LW.s (i := x) (by omega)
      rw [hnext] at ds
      have hxn : (x : Int) < (n : Int) + 1 := by omega
      generalize hY : r.headD n = Y at *
      have HY := Lib.hid hY
      clear hY hnext
      have hsz := Lib.hid hB.size
      have hFr : ∀ w1, (wr.alloc (.cells #[.int .i64 (x : Int)] 3)).grownBy w1 u3.ownBlock → Below w.heap.size w w1 := fun w1 hg => (hB.alloc hB.size _).grown hg (by have := hB.size; simp; omega) (fun k hk => (hown.lt k hk).1)
      have HFr := Lib.hid hFr
      clear hFr
      go_wp2_with (at_builtin; refine wpList_append_own _ rfl _ _ 28 rfl w.heap.size 3 i0 (.int .i64 0) 1 8 Try.underlying28 hi hz0 hz1 hz2 rfl (by decide) u3 _ _ rfl (hown.alloc _) ⟨wr.heap.size, 0, none⟩ 1 1 [.int .i64 (x : Int)] rfl rfl (cell_one_new _ _ _) (by simp [Value.oneCell']) (by unfold maxLen; omega) (by omega) (by have := hsz.out; simp; omega) ?_; intro v' w1 hown1 hgrow1 _; have hB1 := HFr.out w1 hgrow1; have LW1 : LRep w1 g b cap n S := L.mod (Mod.of_below (S := fun _ => False) hB1) (by simp) (by simp); clear d0 d1 ds; have d0 := LW1.c0; have d1 := LW1.c1; have ds := LW1.s (i := x) (by omega); rw [hC.next HE.out.1, HY.out] at ds; clear hgrow1 hown hB)
      go_roundg (r.length + 1)
      case measure => have := HE.out.2; simp at this; omega
      case rel => exact ⟨a ++ [x], r, by have := HE.out.1; simp [this], rfl, by rw [HY.out], by simpa [ints] using hown1, hB1⟩
set_option maxHeartbeats 400000 in
theorem order_nil (w : World) : Calls Try.prog 15 #[.pointer none] w fun e w' => e = .returned (.slice none 0 0) ∧ w' = w := by
  go_enter Try.func15, Try.ntmps15
  go_wp2
  go_ret
  exact ⟨rfl, rfl⟩
end Go.Proofs.Ytgfkfmnncjjopaa
