import Derived.Test.YtjhmkmcongjngaaQE
set_option linter.unusedVariables false
set_option linter.unusedSimpArgs false
namespace Go.Proofs.Ytjhmkmcongjngaa
open Go.RowKit Go.Tat Go.Proofs.YtjhmkmcongjngaaW.PrintWords PProbePlays
theorem swp_length (l : List Int) (i j : Nat) : (swp l i j).length = l.length := by unfold swp; simp
theorem mixRow_length (x : Int) : ∀ (i : Nat) (l : List Int), (mixRow x i l).length = l.length
  | 0, l => rfl
  | i + 1, l => by unfold mixRow; rw [mixRow_length x i, swp_length]
theorem turned_row (p : Pr) (x : Int) : (turned p x).row.length = p.row.length := by
  unfold turned; split
  · exact mixRow_length _ _ _
  · rfl
theorem turned_place (p : Pr) (x : Int) (h0 : 0 ≤ p.place) (h1 : p.place ≤ p.row.length) (h2 : 0 < p.row.length) : 0 ≤ (turned p x).place ∧ (turned p x).place < (turned p x).row.length := by
  rw [turned_row]
  unfold turned; split
  · exact ⟨Int.le_refl 0, by show (0 : Int) < _; omega⟩
  · exact ⟨h0, by omega⟩
theorem turned_waits (p : Pr) (x : Int) : (turned p x).waits = p.waits ∧ (turned p x).self = p.self ∧ (turned p x).n = p.n := by
  unfold turned; split <;> exact ⟨rfl, rfl, rfl⟩
theorem PRep.putPlace {w : World} {g : Nat} {S : Nat → Prop} {p : Pr} (h : PRep w g S p) (x : Int) : PRep (w.setCell ⟨g, 3, none⟩ (.int .i64 x)) g S { p with place := x } := by
  obtain ⟨vr, vw, hb, hg, hr, hw⟩ := h
  exact ⟨vr, vw, by simpa using blk_set hb 3 (.int .i64 x), hg, Kd.R_far hr (fun k hk => hk.2) _, Kd.R_far hw (fun k hk => hk.2.1) _⟩
end Go.Proofs.Ytjhmkmcongjngaa
