/-
  No cell of these rows narrows 'for every input' (looked for: loops, veiled, ifaces, maps, wideKeys, modest, calm, conditions, laid).
  DERIVED. THE GIVEN ROWS OF THIS SEAT. 5 by the template 'for every input the law returns true; each argument reads behind the call as it read before'; 0 by the template 'total and deterministic' (their statements: YtmpodcefngpnkaaTotals.lean).
  GIVEN WITH THE SEED: the statements are not yours to turn. If you find one false, say at which input.
  Laid BY PROGRAM, IN A SANDBOX (cutbox-rows.mjs): the forced cells as the released guide's own fill.sh prints them over the translation 93aa736c1a3cd496… (all of the seat's roots in one cut). By AI agents, Wed Nov 11 2026. No macro, syntax, notation, axiom, sorry.
-/
import Derived.Test.YtmpodcefngpnkaaChecked
import GoSem.Claim
import GoSem.ClaimJoined
import GoSem.ClaimMapViews
import Derived.JoinedTies
import Derived.KernelRfl
namespace Go.Proofs.Ytmpodcefngpnkaa
/- THE CELL 'sum', in the pinned program and in every row, IS THE sha256 OF THE DUMP (.gsa) THAT YtmpodcefngpnkaaProg.lean LOADS. Nothing in Lean hashes anything: it is a label: what it is worth is what the hold of that sum in a sandbox is worth. -/
noncomputable def Try.pinned : Pinned := { name := "ytmpodcefngpnkaa", sum := "93aa736c1a3cd496e3fdaaadb1cc4fb019be627e9723c12b09ca377b30f49388", checked := Try.checked }
namespace Rows
def none {H : Type} : Left H := { results := [], args := [] }

/-- 'tattlerlaw20.HintTold': WHATEVER THE INPUT: true; the input reads as it did. -/
def hintToldSpec : ChangeSpec := { name := "hintTold", fn := fun _ => fun
  | [d1, d2] => { results := [.lit (.bool true)], args := [d1, d2] }
  | _ => none }
def hintToldRow : OpenClaim := { program := "ytmpodcefngpnkaa", sum := "93aa736c1a3cd496e3fdaaadb1cc4fb019be627e9723c12b09ca377b30f49388", func := "tattler/tattlerlaw20.HintTold", spec := "hintTold", inPlace := ["internal/bytealg.abigen_runtime_cmpstring", "slices.overlaps[tattler/api.Hint]"], unfollowed := true, recurses := true, apart := false }
def HintToldSaid : Prop := hintToldRow.holds Try.pinned (OpenSpec.ofChange hintToldSpec)

/-- ITS FALSE NEIGHBOUR: 'it returns false'. Refute it at one input. -/
def hintToldWrong : ChangeSpec := { name := "hintTold", fn := fun _ => fun
  | [d1, d2] => { results := [.lit (.bool false)], args := [d1, d2] }
  | _ => none }
def HintToldWrongFalsely : Prop := hintToldRow.holds Try.pinned (OpenSpec.ofChange hintToldWrong)

/-- 'tattlerlaw20.HintBounded': WHATEVER THE INPUT: true; the input reads as it did. -/
def hintBoundedSpec : ChangeSpec := { name := "hintBounded", fn := fun _ => fun
  | [d1, d2] => { results := [.lit (.bool true)], args := [d1, d2] }
  | _ => none }
def hintBoundedRow : OpenClaim := { program := "ytmpodcefngpnkaa", sum := "93aa736c1a3cd496e3fdaaadb1cc4fb019be627e9723c12b09ca377b30f49388", func := "tattler/tattlerlaw20.HintBounded", spec := "hintBounded", inPlace := ["internal/bytealg.abigen_runtime_cmpstring", "slices.overlaps[tattler/api.Hint]"], unfollowed := true, recurses := true, apart := false }
def HintBoundedSaid : Prop := hintBoundedRow.holds Try.pinned (OpenSpec.ofChange hintBoundedSpec)

/-- ITS FALSE NEIGHBOUR: 'it returns false'. Refute it at one input. -/
def hintBoundedWrong : ChangeSpec := { name := "hintBounded", fn := fun _ => fun
  | [d1, d2] => { results := [.lit (.bool false)], args := [d1, d2] }
  | _ => none }
def HintBoundedWrongFalsely : Prop := hintBoundedRow.holds Try.pinned (OpenSpec.ofChange hintBoundedWrong)

/-- 'tattlerlaw20.HintPlays': WHATEVER THE INPUT: true; the input reads as it did. -/
def hintPlaysSpec : ChangeSpec := { name := "hintPlays", fn := fun _ => fun
  | [d1, d2] => { results := [.lit (.bool true)], args := [d1, d2] }
  | _ => none }
def hintPlaysRow : OpenClaim := { program := "ytmpodcefngpnkaa", sum := "93aa736c1a3cd496e3fdaaadb1cc4fb019be627e9723c12b09ca377b30f49388", func := "tattler/tattlerlaw20.HintPlays", spec := "hintPlays", inPlace := ["internal/bytealg.abigen_runtime_cmpstring", "slices.overlaps[tattler/api.Hint]"], unfollowed := true, recurses := true, apart := false }
def HintPlaysSaid : Prop := hintPlaysRow.holds Try.pinned (OpenSpec.ofChange hintPlaysSpec)

/-- ITS FALSE NEIGHBOUR: 'it returns false'. Refute it at one input. -/
def hintPlaysWrong : ChangeSpec := { name := "hintPlays", fn := fun _ => fun
  | [d1, d2] => { results := [.lit (.bool false)], args := [d1, d2] }
  | _ => none }
def HintPlaysWrongFalsely : Prop := hintPlaysRow.holds Try.pinned (OpenSpec.ofChange hintPlaysWrong)

/-- 'tattlerlaw20.HintKept': WHATEVER THE INPUT: true; the input reads as it did. -/
def hintKeptSpec : ChangeSpec := { name := "hintKept", fn := fun _ => fun
  | [d1, d2] => { results := [.lit (.bool true)], args := [d1, d2] }
  | _ => none }
def hintKeptRow : OpenClaim := { program := "ytmpodcefngpnkaa", sum := "93aa736c1a3cd496e3fdaaadb1cc4fb019be627e9723c12b09ca377b30f49388", func := "tattler/tattlerlaw20.HintKept", spec := "hintKept", inPlace := ["internal/bytealg.abigen_runtime_cmpstring", "slices.overlaps[tattler/api.Hint]"], unfollowed := true, recurses := true, apart := false }
def HintKeptSaid : Prop := hintKeptRow.holds Try.pinned (OpenSpec.ofChange hintKeptSpec)

/-- ITS FALSE NEIGHBOUR: 'it returns false'. Refute it at one input. -/
def hintKeptWrong : ChangeSpec := { name := "hintKept", fn := fun _ => fun
  | [d1, d2] => { results := [.lit (.bool false)], args := [d1, d2] }
  | _ => none }
def HintKeptWrongFalsely : Prop := hintKeptRow.holds Try.pinned (OpenSpec.ofChange hintKeptWrong)

/-- 'tattlerlaw20.HintNil': WHATEVER THE INPUT: true; the input reads as it did. -/
def hintNilSpec : ChangeSpec := { name := "hintNil", fn := fun _ => fun
  | [d1, d2, d3] => { results := [.lit (.bool true)], args := [d1, d2, d3] }
  | _ => none }
def hintNilRow : OpenClaim := { program := "ytmpodcefngpnkaa", sum := "93aa736c1a3cd496e3fdaaadb1cc4fb019be627e9723c12b09ca377b30f49388", func := "tattler/tattlerlaw20.HintNil", spec := "hintNil", inPlace := ["internal/bytealg.abigen_runtime_cmpstring", "slices.overlaps[tattler/api.Hint]"], unfollowed := true, recurses := true, apart := false }
def HintNilSaid : Prop := hintNilRow.holds Try.pinned (OpenSpec.ofChange hintNilSpec)

/-- ITS FALSE NEIGHBOUR: 'it returns false'. Refute it at one input. -/
def hintNilWrong : ChangeSpec := { name := "hintNil", fn := fun _ => fun
  | [d1, d2, d3] => { results := [.lit (.bool false)], args := [d1, d2, d3] }
  | _ => none }
def HintNilWrongFalsely : Prop := hintNilRow.holds Try.pinned (OpenSpec.ofChange hintNilWrong)

/- THE SECOND FORM. 'bulk': how many values and letters a reading holds, each counted each time it is reached (what is shared counts as often as it is met; a slice's spare places count too). A statement '..UptoSaid' is the law's where the arguments, and the package variables that the reading takes, are together of bulk at most 1048576: NARROWER than '..Said'. Prove '..Said' where nothing that the law and all that it calls make is longer than what came in: it says more and counts as full. Else prove '..UptoSaid'. A law counts once. -/
mutual
def uptoBulk {H : Type} : DataW H → Nat
  | .lit (.string bytes) => bytes.length + 1
  | .lit _ => 1
  | .nil => 1
  | .ptr d => uptoBulk d + 1
  | .slice elems spare => uptoBulkAll elems + uptoBulkAll spare + 1
  | .agg parts => uptoBulkAll parts + 1
  | .iface _ d => uptoBulk d + 1
  | .map entries => uptoBulkEntries entries + 1
  | .held _ => 1
def uptoBulkAll {H : Type} : List (DataW H) → Nat
  | [] => 0
  | d :: r => uptoBulk d + uptoBulkAll r
def uptoBulkEntries {H : Type} : List (Lit × DataW H) → Nat
  | [] => 0
  | x :: r => uptoBulkEntry x + uptoBulkEntries r
def uptoBulkEntry {H : Type} : Lit × DataW H → Nat
  | (.string bytes, d) => bytes.length + uptoBulk d + 1
  | (_, d) => uptoBulk d + 1
 end
def uptoSmall : (H : Type) → List (DataW H) → Bool := fun _ ds => decide (uptoBulkAll ds ≤ 1048576)
def OpenSpec.upto (s : _root_.Go.ChangeSpec) : _root_.Go.OpenSpec := { _root_.Go.OpenSpec.ofChange s with cond := some uptoSmall }

/-- 'tattlerlaw20.HintTold', WHERE WHAT IT READS IS OF BULK AT MOST 1048576: true; the input reads as it did. -/
def hintToldUptoRow : OpenClaim := { program := "ytmpodcefngpnkaa", sum := "93aa736c1a3cd496e3fdaaadb1cc4fb019be627e9723c12b09ca377b30f49388", func := "tattler/tattlerlaw20.HintTold", spec := "hintTold", inPlace := ["internal/bytealg.abigen_runtime_cmpstring", "slices.overlaps[tattler/api.Hint]"], unfollowed := true, recurses := true, apart := false, narrowed := true }
def HintToldUptoSaid : Prop := hintToldUptoRow.holds Try.pinned (OpenSpec.upto hintToldSpec)

/-- 'tattlerlaw20.HintBounded', WHERE WHAT IT READS IS OF BULK AT MOST 1048576: true; the input reads as it did. -/
def hintBoundedUptoRow : OpenClaim := { program := "ytmpodcefngpnkaa", sum := "93aa736c1a3cd496e3fdaaadb1cc4fb019be627e9723c12b09ca377b30f49388", func := "tattler/tattlerlaw20.HintBounded", spec := "hintBounded", inPlace := ["internal/bytealg.abigen_runtime_cmpstring", "slices.overlaps[tattler/api.Hint]"], unfollowed := true, recurses := true, apart := false, narrowed := true }
def HintBoundedUptoSaid : Prop := hintBoundedUptoRow.holds Try.pinned (OpenSpec.upto hintBoundedSpec)

/-- 'tattlerlaw20.HintPlays', WHERE WHAT IT READS IS OF BULK AT MOST 1048576: true; the input reads as it did. -/
def hintPlaysUptoRow : OpenClaim := { program := "ytmpodcefngpnkaa", sum := "93aa736c1a3cd496e3fdaaadb1cc4fb019be627e9723c12b09ca377b30f49388", func := "tattler/tattlerlaw20.HintPlays", spec := "hintPlays", inPlace := ["internal/bytealg.abigen_runtime_cmpstring", "slices.overlaps[tattler/api.Hint]"], unfollowed := true, recurses := true, apart := false, narrowed := true }
def HintPlaysUptoSaid : Prop := hintPlaysUptoRow.holds Try.pinned (OpenSpec.upto hintPlaysSpec)

/-- 'tattlerlaw20.HintKept', WHERE WHAT IT READS IS OF BULK AT MOST 1048576: true; the input reads as it did. -/
def hintKeptUptoRow : OpenClaim := { program := "ytmpodcefngpnkaa", sum := "93aa736c1a3cd496e3fdaaadb1cc4fb019be627e9723c12b09ca377b30f49388", func := "tattler/tattlerlaw20.HintKept", spec := "hintKept", inPlace := ["internal/bytealg.abigen_runtime_cmpstring", "slices.overlaps[tattler/api.Hint]"], unfollowed := true, recurses := true, apart := false, narrowed := true }
def HintKeptUptoSaid : Prop := hintKeptUptoRow.holds Try.pinned (OpenSpec.upto hintKeptSpec)

/-- 'tattlerlaw20.HintNil', WHERE WHAT IT READS IS OF BULK AT MOST 1048576: true; the input reads as it did. -/
def hintNilUptoRow : OpenClaim := { program := "ytmpodcefngpnkaa", sum := "93aa736c1a3cd496e3fdaaadb1cc4fb019be627e9723c12b09ca377b30f49388", func := "tattler/tattlerlaw20.HintNil", spec := "hintNil", inPlace := ["internal/bytealg.abigen_runtime_cmpstring", "slices.overlaps[tattler/api.Hint]"], unfollowed := true, recurses := true, apart := false, narrowed := true }
def HintNilUptoSaid : Prop := hintNilUptoRow.holds Try.pinned (OpenSpec.upto hintNilSpec)

end Rows
end Go.Proofs.Ytmpodcefngpnkaa
