/- HintKept: as the row calls it. -/
import Derived.Test.YtmpodcefngpnkaaHXw
import Derived.Test.YtmpodcefngpnkaaHOp
set_option linter.unusedVariables false
set_option linter.unusedSimpArgs false
namespace Go.Proofs.Ytmpodcefngpnkaa
open Go.RowKit Go.Tat Go.Proofs.YtmpodcefngpnkaaW.PrintWords PHintPlays
theorem kept_row (a0 : Rc) (cs : List Value) (ops : List Oq) (A : Option Addr) (c : Nat) (W : World) (hK : k35.K W a0 cs) (hC : k37.C W A ops.length ops) (hc : ops.length ≤ c) (hg : ∀ o ∈ ops, g37 o) :
    Calls Try.prog 6 #[.agg cs.toArray, .slice A ops.length c] W fun e w' => e = .returned (.bool true) ∧ Below W.heap.size W w' := by
  rw [flRc.K.1 hK]
  exact kept_c a0 ops A c W hC hc fun o ho => ⟨u8_wf (hg o ho).2.2.1, fun y hy => u8_wf ((hg o ho).2.2.2 y hy)⟩
end Go.Proofs.Ytmpodcefngpnkaa
