import Derived.Test.YtjhmkmcongjngaaQB
import Derived.Deep.DeepCutAuto
import Derived.Deep.CutBlock
import Derived.BigQuiet
import Derived.OwnWalk
set_option linter.unusedVariables false
set_option linter.unusedSimpArgs false
namespace Go.Proofs.Ytjhmkmcongjngaa
open Go.RowKit Go.Tat Go.Proofs.YtjhmkmcongjngaaW.PrintWords PProbePlays
/-- The others of j nodes. -/
def oth (s j : Nat) : List Int := ((List.range j).filter fun i => decide (i ≠ s)).map fun (i : Nat) => (i : Int)
theorem oth_succ (s j : Nat) : oth s (j + 1) = if j = s then oth s j else oth s j ++ [(j : Int)] := by
  unfold oth
  rw [List.range_succ, List.filter_append, List.map_append]
  by_cases h : j = s <;> simp [h]
theorem oth_len (s j : Nat) : (oth s j).length ≤ j := by
  unfold oth; rw [List.length_map]; exact Nat.le_trans (List.length_filter_le _ _) (by simp)
def newPr (s n j : Nat) : Pr := ⟨s, n, oth s j, 0, []⟩
def newPost (s n : Nat) (w : World) (e : Ending) (w' : World) : Prop := ∃ g, e = .returned (.tuple #[.pointer (some ⟨g, 0, none⟩), .int .i64 0]) ∧ PRep w' g (fun k => w.heap.size ≤ k) (newPr s n n) ∧ Below w.heap.size w w'
theorem PRep.putRow {w0 w : World} {g : Nat} {S : Nat → Prop} {p : Pr} {vr vw v5 : Value} {row' : List Int} (hg : g < w0.heap.size) (hb : w.heap[g]? = some (.cells #[.int .u8 p.self, .int .i64 p.n, vr, .int .i64 p.place, vw] 78 (0, 0))) (hS : S g)
    (hw : k82.R 82 w0 0 (fun k => S k ∧ k ≠ g ∧ some k ≠ vr.ownBlock) vw p.waits) (m : Mod (fun k => vr.ownBlock = some k) w0 w) (h5 : (Kd.int .u8).R 5 w 0 (fun k => (S k ∧ k ≠ g) ∨ w0.heap.size ≤ k) v5 row') (ho : ∀ k, v5.ownBlock = some k → vr.ownBlock = some k ∨ w0.heap.size ≤ k) :
    PRep (w.setCell ⟨g, 2, none⟩ v5) g (fun k => S k ∨ w0.heap.size ≤ k) { p with row := row' } := by
  refine ⟨v5, vw, by simpa using blk_set hb 2 v5, .inl hS, ?_, ?_⟩
  · refine Kd.R_far (Kd.R_mono h5 fun k hk => ?_) (fun k hk => hk.2) v5
    rcases hk with hk | hk
    · exact ⟨.inl hk.1, hk.2⟩
    · exact ⟨.inr hk, by omega⟩
  · have h1 := Kd.R_step (Kd.R_bound hw) (w1 := w) fun k hk hl => m.block k hl fun e => hk.1.2.2 e.symm
    refine Kd.R_far (Kd.R_mono h1 fun k hk => ?_) (fun k hk => hk.2.1) v5
    refine ⟨.inl hk.1.1, hk.1.2.1, fun e => ?_⟩
    rcases ho k e.symm with h | h
    · exact hk.1.2.2 h.symm
    · have := hk.2.2.1; omega
set_option maxHeartbeats 2000000 in
set_option maxRecDepth 100000 in
theorem new_c (s n : Nat) (w : World) (h1 : 1 ≤ n) (h2 : n ≤ 64) (hs : s < n) : Calls Try.prog 8 #[.int .u8 s, .int .i64 n] w (newPost s n w) := by
  have c1 : ¬ (n : Int) < 1 := by omega
  have c2 : ¬ (64 : Int) < (n : Int) := by omega
  have c3 : ¬ (n : Int) ≤ (s : Int) := by omega
  have c5 : (0 : Int) ≤ (s : Int) := by omega
  have c4 : (n : Int) % 256 = n := by omega
  go_enter Try.func8, Try.ntmps8
  go_wp2_with fail
  have P0 : PRep (w.alloc (.cells #[.int .u8 s, .int .i64 n, .slice none 0 0, .int .i64 0, .slice none 0 0] 78)) w.heap.size (fun k => w.heap.size ≤ k) (newPr s n 0) :=
    ⟨_, _, heap_alloc_new w _, Nat.le_refl _, Kd.R_nil _ _ _ _ _, Kd.R_nil _ _ _ _ _⟩
  have B0 : Below w.heap.size w (w.alloc (.cells #[.int .u8 s, .int .i64 n, .slice none 0 0, .int .i64 0, .slice none 0 0] 78)) := (Below.refl _ _).alloc (Nat.le_refl _) _
  obtain ⟨g, hg⟩ : ∃ g, w.heap.size = g := ⟨_, rfl⟩
  rw [hg] at P0 B0
  rw [hg]
  have HG := Lib.hid hg
  generalize w.alloc _ = w1 at *
  clear hg
  go_loopg [26] (n + 1) (fun k v W => ∃ j : Nat, j + k = n + 1 ∧ j ≤ n ∧ v = .int .u8 j ∧ PRep W g (fun k => g ≤ k) (newPr s n j) ∧ Below g w W)
  case atStart => exact ⟨0, by omega, by omega, rfl, P0, B0⟩
  case round =>
    clear P0 B0
    obtain ⟨j, hjk, hj, rfl, PR, B⟩ := hrel
    have HJ := Lib.hid hjk
    have HB := Lib.hid B
    clear hjk B
    have hjm : (j : Int) < 255 := by omega
    by_cases hjn : j < n
    · have hjn' : (j : Int) < (n : Int) := by omega
      by_cases hjs : j = s
      · subst hjs
        have HP := Lib.hid PR
        clear PR
        go_wp2
        go_roundg (n - j)
        case measure => have := HJ.out; omega
        case rel => exact ⟨j + 1, by have := HJ.out; omega, by omega, by go_num, by have := HP.out; unfold newPr at this ⊢; rw [oth_succ, if_pos rfl]; exact this, HB.out⟩
      · have hjs' : ¬ (j : Int) = (s : Int) := by omega
        obtain ⟨vr, vw, hb, hgg, hr, hw⟩ := PR
        obtain ⟨A2, c2, rfl⟩ := Kd.R_slice hr
        have cr : wr.cell? ⟨g, 2, none⟩ = some (.slice A2 (oth s j).length c2) := blk_cell hb 2
        have hol := oth_len s j
        have HR := Lib.hid (And.intro hb (And.intro hr hw))
        clear hb hr hw hgg
        go_wp2_with (at_builtin; go_loud (refine wpList_app1 (Kd.int .u8) rfl _ _ 28 5 (.int .u8 0) 1 rfl Try.underlying28 info5 rfl (by decide) (by decide) (.slice A2 (oth s j).length c2) (oth s j) (j : Int) [.int .u8 j] (fun k => g ≤ k ∧ k ≠ g) rfl rfl rfl HR.out.2.1 (by omega) ?_))
        intro A5 c5' w5 R5 m5 ho5
        obtain ⟨hb, hr, hw⟩ := HR.out
        have hgA : ∀ k, (Value.slice A2 (oth s j).length c2).ownBlock = some k → k ≠ g := fun k hk => (hr.1 k hk).2
        have hb5 := (m5.block g (heap_lt hb) fun e => hgA g e rfl).trans hb
        have ce5 : w5.cell? ⟨g, 2, none⟩ = some (.slice A2 (oth s j).length c2) := blk_cell hb5 2
        have fe5 := blk_frozen hb5 2
        have HH := Lib.hid (And.intro R5 (And.intro m5 (And.intro ho5 hb5)))
        clear R5 m5 ho5 hb5 hb hr hw hgA
        go_wp2
        go_roundg (n - j)
        case measure => have := HJ.out; omega
        case rel =>
          obtain ⟨hb, hr, hw⟩ := HR.out
          obtain ⟨R5, m5, ho5, hb5⟩ := HH.out
          have hgl := heap_lt hb
          have PP := PRep.putRow (p := newPr s n j) (S := fun k => g ≤ k) hgl hb5 (Nat.le_refl g) hw m5 R5 ho5
          refine ⟨j + 1, by have := HJ.out; omega, by omega, by go_num, ?_, ?_⟩
          · have e : newPr s n (j + 1) = { newPr s n j with row := oth s j ++ [(j : Int)] } := by unfold newPr; rw [oth_succ, if_neg hjs]
            rw [e]
            exact PP.mono fun k hk => by omega
          · have m6 : Mod (fun k => g ≤ k) wr (w5.setCell ⟨g, 2, none⟩ (.slice A5 ((oth s j).length + 1) c5')) := (m5.mono (S' := fun k => g ≤ k) fun k _ h => (hr.1 k h).1).set (Nat.le_refl g) _
            exact HB.out.trans (m6.below (Nat.le_of_lt hgl) fun k hk h => by omega)
    · have hjn' : ¬ (j : Int) < (n : Int) := by omega
      have : j = n := by omega
      subst this
      have HP := Lib.hid PR
      clear PR
      go_wp2
      go_ret2
      exact ⟨g, rfl, HG.out ▸ HP.out, HG.out ▸ HB.out⟩
end Go.Proofs.Ytjhmkmcongjngaa
