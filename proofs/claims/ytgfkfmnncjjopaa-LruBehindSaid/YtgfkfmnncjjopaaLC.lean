import Derived.Test.YtgfkfmnncjjopaaLB
namespace Go.Proofs.Ytgfkfmnncjjopaa
open Go.RowKit Go.Tat
/-- A list of no numbers. -/
def newS (n : Nat) : LS := ⟨fset (fun _ => false) n true, fset (fun _ => 0) n n, fset (fun _ => 0) n n⟩
theorem newS_wf (n : Nat) : WF n (newS n) := by
  intro i hi
  unfold newS fset
  refine ⟨?_, ?_⟩ <;> dsimp only <;> split <;> omega
theorem newS_cyc (n : Nat) : Cyc n (newS n) [] := by
  refine ⟨List.nodup_nil, by simp, ?_, ?_⟩
  · intro x hx; unfold newS; dsimp only; rw [fset_ne _ _ (by omega)]; simp
  · exact ⟨fset_same (fun _ => 0) n n, fset_same (fun _ => 0) n n, trivial⟩
theorem enc_zero (m : Nat) : enc m (fun _ => false) (fun _ => 0) (fun _ => 0) = fun j => (madeCells #[.bool false, .int .i64 0, .int .i64 0] (m * 3))[j]? := by
  funext j
  unfold enc madeCells
  by_cases h : j / 3 < m
  · have hj : j < m * 3 := by omega
    rw [if_pos h]
    simp only [List.size_toArray, List.length_cons, List.length_nil, Array.getElem?_map, Array.getElem?_range, hj, if_true, Option.map_some]
    have h3 : j % 3 = 0 ∨ j % 3 = 1 ∨ j % 3 = 2 := by omega
    rcases h3 with h3 | h3 | h3 <;> simp [h3]
  · rw [if_neg h]
    have hj : ¬ j < m * 3 := by omega
    simp [Array.getElem?_range, hj]
theorem Try.inf50 : (Try.prog.info? 50).map (fun i => (i.zero, i.size, i.bytes)) = some (some (.agg #[.bool false, .int .i64 0, .int .i64 0]), 3, 24) := by kernel_rfl
theorem blk_made {w : World} {g m : Nat} {cs : Array Value} (h : w.ownsRow 0 50 3 (.slice (some ⟨g, 0, none⟩) m m) m cs.toList) : Blk w g (fun j => cs[j]?) := by
  obtain ⟨h1, h2⟩ := h
  rcases h2 with ⟨h2, _⟩ | ⟨g', cap, cur, hv, _, hh, _, _, hs, ht⟩
  · simp at h2
  · simp only [Value.slice.injEq, Option.some.injEq, Addr.mk.injEq, and_true, true_and] at hv
    obtain ⟨rfl, rfl⟩ := hv
    have : cur = cs := by
      apply Array.toList_inj.1
      rw [← ht, List.take_of_length_le (by simp [hs])]
    subst this
    exact Blk.of_heap hh
def NewPost (n : Nat) (w : World) (e : Ending) (w' : World) : Prop := ∃ g b, e = .returned (.tuple #[.pointer (some ⟨g, 0, none⟩), .int .i64 0]) ∧ w.heap.size ≤ g ∧ w.heap.size ≤ b ∧ Below w.heap.size w w' ∧ LRep w' g b (n+1) n (newS n)
set_option maxHeartbeats 1000000 in
theorem new_in (n : Nat) (w : World) (h1 : 1 ≤ n) (h2 : n ≤ 1024) :
    Calls Try.prog 7 #[.int .i64 n] w (NewPost n w) := by
  obtain ⟨i0, hi, hz0, hz1, hz2⟩ := info_parts Try.inf50
  go_enter Try.func7, Try.ntmps7
  go_wp2_with (at_make; refine wpList_make_full _ rfl _ _ 46 rfl 0 50 i0 (.agg #[.bool false, .int .i64 0, .int .i64 0]) 3 Try.underlying46 hi hz0 hz1 _ _ _ _ (n+1) rfl rfl ?hL ?hC ?b2 ?b3 (Nat.zero_le _) ?_)
  case hL => simp
  case hC => simp
  case b2 => rw [hz2]; omega
  case b3 => unfold maxLen; omega
  intro w1 hown hgrow
  have B1 := blk_made hown
  have M1 : Mod (fun _ => False) w w1 := Mod.of_grown hgrow (by simp)
  generalize hb : w.heap.size = b at *
  rw [← enc_zero] at B1
  clear hown hgrow hi hz0 hz1 hz2
  have hlt := B1.lt
  have hnn : (n : Int) < (n : Int) + 1 := by omega
  have HB := Lib.hid hb
  clear hb
  have hL : ∀ g w2, Blk w2 g (fun j => #[Value.slice (some ⟨b, 0, none⟩) (n+1) (n+1), .int .i64 n][j]?) → w1.heap.size = g → Mod (fun _ => False) w1 w2 → LRep w2 g b (n+1) n ⟨fun _ => false, fun _ => 0, fun _ => 0⟩ := fun g w2 G2 hg m2 =>
    ⟨by omega, ⟨fun j => by rw [G2.cell]; unfold lcells; rcases j with _ | _ | j <;> simp, G2.fz, G2.lt⟩, B1.mod m2 (by simp)⟩
  have HL := Lib.hid hL
  clear hL
  go_wp2_with (first | (refine st_link L2 M2 (F := (· = b)) rfl rfl _ _ rfl n true n n (by omega) rfl rfl ?_; intro w3 L3 M3 m) | (refine wpList_box rfl _ _ rfl (.agg #[.slice (some ⟨b, 0, none⟩) (n+1) (n+1), .int .i64 n]) #[.slice (some ⟨b, 0, none⟩) (n+1) (n+1), .int .i64 n] rfl rfl ?_; intro g w2 G2 hg m2 _ _; have L2 := HL.out _ _ G2 hg m2; have M2 : Mod (· = b) w w2 := (M1.trans m2).mono (fun _ _ h => h.elim); have c0 := L2.c0; have hgg := Lib.hid hg; clear G2 hg m2))
  go_ret2
  exact ⟨g, b, rfl, by have := HB.out; have := hgg.out; omega, by have := HB.out; omega, M3.below (Nat.le_refl _) (by intro k hk h; have := HB.out; omega), L3⟩
set_option maxHeartbeats 400000 in
theorem new_no (n : Int) (w : World) (h : ¬ (1 ≤ n ∧ n ≤ 1024)) :
    Calls Try.prog 7 #[.int .i64 n] w fun e w' => e = .returned (.tuple #[.pointer none, .int .i64 1]) ∧ w' = w := by
  by_cases h1 : n < 1
  · clear h
    go_enter Try.func7, Try.ntmps7
    go_wp2
    go_ret2
    exact ⟨rfl, rfl⟩
  · have h2 : 1024 < n := by omega
    clear h
    go_enter Try.func7, Try.ntmps7
    go_wp2
    go_ret2
    exact ⟨rfl, rfl⟩
end Go.Proofs.Ytgfkfmnncjjopaa
