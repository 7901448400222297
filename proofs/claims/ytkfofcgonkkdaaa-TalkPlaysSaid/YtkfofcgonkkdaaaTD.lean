import Derived.Test.YtkfofcgonkkdaaaTC
namespace Go.Proofs.Ytkfofcgonkkdaaa
open Go.RowKit Go.Tat Go.Proofs.YtkfofcgonkkdaaaW.PrintWords PTalkPlays
/-- A mark that is refused. -/
theorem add_high {w : World} {g : Nat} (x : S33) (hx : 64 ≤ x.f0) {Q : Ending → World → Prop} (hQ : ∀ w', Below w.heap.size w w' → Q (.returned (.int .i64 1)) w') :
    Calls Try.prog 12 #[.pointer (some ⟨g, 0, none⟩), .agg (e33 x).toArray] w Q := by
  obtain ⟨xn, xs, xi⟩ := x
  have hx' : 64 ≤ xn := hx
  clear hx
  unfold e33
  have HQ := Lib.hid hQ
  clear hQ
  go_enter Try.func12, Try.ntmps12
  go_wp2
  exact HQ.out _ ((Below.refl _ _).alloc (Nat.le_refl _) _)
/-- Nil. -/
theorem add_nil {w : World} (x : S33) {Q : Ending → World → Prop} (hQ : ∀ w', Below w.heap.size w w' → Q (.returned (.int .i64 1)) w') :
    Calls Try.prog 12 #[.pointer none, .agg (e33 x).toArray] w Q := by
  obtain ⟨xn, xs, xi⟩ := x
  unfold e33
  have HQ := Lib.hid hQ
  clear hQ
  go_enter Try.func12, Try.ntmps12
  go_wp2
  exact HQ.out _ ((Below.refl _ _).alloc (Nat.le_refl _) _)
theorem take_nil {w : World} {Q : Ending → World → Prop} (hQ : ∀ w', Below w.heap.size w w' → Q (.returned (.slice none 0 0)) w') :
    Calls Try.prog 11 #[.pointer none] w Q := by
  have HQ := Lib.hid hQ
  clear hQ
  go_enter Try.func11, Try.ntmps11
  go_wp2
  exact HQ.out _ ((Below.refl _ _).alloc (Nat.le_refl _) _)
theorem len_nil {w : World} {Q : Ending → World → Prop} (hQ : ∀ w', Below w.heap.size w w' → Q (.returned (.int .i64 0)) w') :
    Calls Try.prog 14 #[.pointer none] w Q := by
  have HQ := Lib.hid hQ
  clear hQ
  go_enter Try.func14, Try.ntmps14
  go_wp2
  exact HQ.out _ (Below.refl _ _)
theorem len_st {F : Nat → Prop} {w0 w : World} {A : List Asr} (h : St F w0 w A) (i : Nat) {g : Nat} {S : Nat → Prop} {p : Tk} (hi : A[i]? = some (tO g S p)) {Q : Ending → World → Prop} (hQ : ∀ w', Below w.heap.size w w' → Q (.returned (.int .i64 p.pieces.length)) w') :
    Calls Try.prog 14 #[.pointer (some ⟨g, 0, none⟩)] w Q := by
  obtain ⟨v, S1⟩ := Asr.ex_open (h.get i hi)
  obtain ⟨Av, cv, rfl⟩ := Kd.R_slice (S1.get 1 rfl).1
  have g0 : w.cell? ⟨g, 0, none⟩ = some (.slice Av p.pieces.length cv) := S1.cell 0 rfl 0
  clear h hi S1
  have HQ := Lib.hid hQ
  clear hQ
  go_enter Try.func14, Try.ntmps14
  go_wp2
  exact HQ.out _ (Below.refl _ _)
def newPost (F : Nat → Prop) (w0 : World) (A : List Asr) (n k : Int) (e : Ending) (w' : World) : Prop := ∃ g S, e = .returned (.tuple #[.pointer (some ⟨g, 0, none⟩), .int .i64 0]) ∧ St F w0 w' (A ++ [tO g S ⟨[], n, k, 0⟩])
theorem new_st {F : Nat → Prop} {w0 w : World} {A : List Asr} (h : St F w0 w A) (n k : Int) (h1 : 1 ≤ n ∧ n ≤ 64) (h2 : 1 ≤ k ∧ k ≤ 64) :
    Calls Try.prog 7 #[.int .i64 n, .int .i64 k] w (newPost F w0 A n k) := by
  have a1 := h1.1
  have a2 := h1.2
  have a3 := h2.1
  have a4 := h2.2
  have H := Lib.hid h
  clear h h1 h2
  go_enter Try.func7, Try.ntmps7
  go_wp2_with fail
  go_ret2
  have h0 : St (fun _ => False) w w [] := St.nil _ w
  have h1 := (h0.new' #[.slice none 0 0, .int .i64 n, .int .i64 k, .int .i64 0] 53 _ rfl).nils k60 60
  exact ⟨_, _, rfl, H.out.exAdd (L1 := tP _ ⟨[], n, k, 0⟩) (.slice none 0 0) h1⟩
theorem new_bad {w : World} (n k : Int) (hb : ¬(1 ≤ n ∧ n ≤ 64 ∧ 1 ≤ k ∧ k ≤ 64)) {Q : Ending → World → Prop} (hQ : ∀ w', Below w.heap.size w w' → Q (.returned (.tuple #[.pointer none, .int .i64 1])) w') :
    Calls Try.prog 7 #[.int .i64 n, .int .i64 k] w Q := by
  have HQ := Lib.hid hQ
  clear hQ
  go_enter Try.func7, Try.ntmps7
  go_wp2
  all_goals
    first
    | exact HQ.out _ (Below.refl _ _)
    | omega
end Go.Proofs.Ytkfofcgonkkdaaa
