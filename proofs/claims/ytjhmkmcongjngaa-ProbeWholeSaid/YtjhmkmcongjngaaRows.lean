/-
  No cell of these rows narrows 'for every input' (looked for: loops, veiled, ifaces, maps, wideKeys, modest, calm, conditions, laid).
  DERIVED. THE GIVEN ROWS OF THIS SEAT. 5 by the template 'for every input the law returns true; each argument reads behind the call as it read before'; 0 by the template 'total and deterministic' (their statements: YtjhmkmcongjngaaTotals.lean).
  GIVEN WITH THE SEED: the statements are not yours to turn. If you find one false, say at which input.
  Laid BY PROGRAM, IN A SANDBOX (cutbox-rows.mjs): the forced cells as the released guide's own fill.sh prints them over the translation a16dfb0ae56cc932… (all of the seat's roots in one cut). By AI agents, Wed Nov 11 2026. No macro, syntax, notation, axiom, sorry.
-/
import Derived.Test.YtjhmkmcongjngaaChecked
import GoSem.Claim
import GoSem.ClaimJoined
import GoSem.ClaimMapViews
import Derived.JoinedTies
import Derived.KernelRfl
namespace Go.Proofs.Ytjhmkmcongjngaa
/- THE CELL 'sum', in the pinned program and in every row, IS THE sha256 OF THE DUMP (.gsa) THAT YtjhmkmcongjngaaProg.lean LOADS. Nothing in Lean hashes anything: it is a label: what it is worth is what the hold of that sum in a sandbox is worth. -/
noncomputable def Try.pinned : Pinned := { name := "ytjhmkmcongjngaa", sum := "a16dfb0ae56cc932bf40971e000d2702b52b6270012e1aec6e689b501841ba15", checked := Try.checked }
namespace Rows
def none {H : Type} : Left H := { results := [], args := [] }

/-- 'tattlerlaw19.ProbeTurns': WHATEVER THE INPUT: true; the input reads as it did. -/
def probeTurnsSpec : ChangeSpec := { name := "probeTurns", fn := fun _ => fun
  | [d1, d2, d3] => { results := [.lit (.bool true)], args := [d1, d2, d3] }
  | _ => none }
def probeTurnsRow : OpenClaim := { program := "ytjhmkmcongjngaa", sum := "a16dfb0ae56cc932bf40971e000d2702b52b6270012e1aec6e689b501841ba15", func := "tattler/tattlerlaw19.ProbeTurns", spec := "probeTurns", unfollowed := true, recurses := true, apart := false }
def ProbeTurnsSaid : Prop := probeTurnsRow.holds Try.pinned (OpenSpec.ofChange probeTurnsSpec)

/-- ITS FALSE NEIGHBOUR: 'it returns false'. Refute it at one input. -/
def probeTurnsWrong : ChangeSpec := { name := "probeTurns", fn := fun _ => fun
  | [d1, d2, d3] => { results := [.lit (.bool false)], args := [d1, d2, d3] }
  | _ => none }
def ProbeTurnsWrongFalsely : Prop := probeTurnsRow.holds Try.pinned (OpenSpec.ofChange probeTurnsWrong)

/-- 'tattlerlaw19.ProbePlays': WHATEVER THE INPUT: true; the input reads as it did. -/
def probePlaysSpec : ChangeSpec := { name := "probePlays", fn := fun _ => fun
  | [d1, d2, d3] => { results := [.lit (.bool true)], args := [d1, d2, d3] }
  | _ => none }
def probePlaysRow : OpenClaim := { program := "ytjhmkmcongjngaa", sum := "a16dfb0ae56cc932bf40971e000d2702b52b6270012e1aec6e689b501841ba15", func := "tattler/tattlerlaw19.ProbePlays", spec := "probePlays", unfollowed := true, recurses := true, apart := false }
def ProbePlaysSaid : Prop := probePlaysRow.holds Try.pinned (OpenSpec.ofChange probePlaysSpec)

/-- ITS FALSE NEIGHBOUR: 'it returns false'. Refute it at one input. -/
def probePlaysWrong : ChangeSpec := { name := "probePlays", fn := fun _ => fun
  | [d1, d2, d3] => { results := [.lit (.bool false)], args := [d1, d2, d3] }
  | _ => none }
def ProbePlaysWrongFalsely : Prop := probePlaysRow.holds Try.pinned (OpenSpec.ofChange probePlaysWrong)

/-- 'tattlerlaw19.ProbeFails': WHATEVER THE INPUT: true; the input reads as it did. -/
def probeFailsSpec : ChangeSpec := { name := "probeFails", fn := fun _ => fun
  | [d1, d2, d3] => { results := [.lit (.bool true)], args := [d1, d2, d3] }
  | _ => none }
def probeFailsRow : OpenClaim := { program := "ytjhmkmcongjngaa", sum := "a16dfb0ae56cc932bf40971e000d2702b52b6270012e1aec6e689b501841ba15", func := "tattler/tattlerlaw19.ProbeFails", spec := "probeFails", unfollowed := true, recurses := true, apart := false }
def ProbeFailsSaid : Prop := probeFailsRow.holds Try.pinned (OpenSpec.ofChange probeFailsSpec)

/-- ITS FALSE NEIGHBOUR: 'it returns false'. Refute it at one input. -/
def probeFailsWrong : ChangeSpec := { name := "probeFails", fn := fun _ => fun
  | [d1, d2, d3] => { results := [.lit (.bool false)], args := [d1, d2, d3] }
  | _ => none }
def ProbeFailsWrongFalsely : Prop := probeFailsRow.holds Try.pinned (OpenSpec.ofChange probeFailsWrong)

/-- 'tattlerlaw19.ProbeWhole': WHATEVER THE INPUT: true; the input reads as it did. -/
def probeWholeSpec : ChangeSpec := { name := "probeWhole", fn := fun _ => fun
  | [d1, d2] => { results := [.lit (.bool true)], args := [d1, d2] }
  | _ => none }
def probeWholeRow : OpenClaim := { program := "ytjhmkmcongjngaa", sum := "a16dfb0ae56cc932bf40971e000d2702b52b6270012e1aec6e689b501841ba15", func := "tattler/tattlerlaw19.ProbeWhole", spec := "probeWhole", unfollowed := true, recurses := true, apart := false }
def ProbeWholeSaid : Prop := probeWholeRow.holds Try.pinned (OpenSpec.ofChange probeWholeSpec)

/-- ITS FALSE NEIGHBOUR: 'it returns false'. Refute it at one input. -/
def probeWholeWrong : ChangeSpec := { name := "probeWhole", fn := fun _ => fun
  | [d1, d2] => { results := [.lit (.bool false)], args := [d1, d2] }
  | _ => none }
def ProbeWholeWrongFalsely : Prop := probeWholeRow.holds Try.pinned (OpenSpec.ofChange probeWholeWrong)

/-- 'tattlerlaw19.ProbeNil': WHATEVER THE INPUT: true; the input reads as it did. -/
def probeNilSpec : ChangeSpec := { name := "probeNil", fn := fun _ => fun
  | [d1, d2, d3] => { results := [.lit (.bool true)], args := [d1, d2, d3] }
  | _ => none }
def probeNilRow : OpenClaim := { program := "ytjhmkmcongjngaa", sum := "a16dfb0ae56cc932bf40971e000d2702b52b6270012e1aec6e689b501841ba15", func := "tattler/tattlerlaw19.ProbeNil", spec := "probeNil", unfollowed := true, recurses := true, apart := false }
def ProbeNilSaid : Prop := probeNilRow.holds Try.pinned (OpenSpec.ofChange probeNilSpec)

/-- ITS FALSE NEIGHBOUR: 'it returns false'. Refute it at one input. -/
def probeNilWrong : ChangeSpec := { name := "probeNil", fn := fun _ => fun
  | [d1, d2, d3] => { results := [.lit (.bool false)], args := [d1, d2, d3] }
  | _ => none }
def ProbeNilWrongFalsely : Prop := probeNilRow.holds Try.pinned (OpenSpec.ofChange probeNilWrong)

/- THE SECOND FORM. 'bulk': how many values and letters a reading holds, each counted each time it is reached (what is shared counts as often as it is met; a slice's spare places count too). A statement '..UptoSaid' is the law's where the arguments, and the package variables that the reading takes, are together of bulk at most 1048576: NARROWER than '..Said'. Prove '..Said' where nothing that the law and all that it calls make is longer than what came in: it says more and counts as full. Else prove '..UptoSaid'. A law counts once. -/
mutual
def uptoBulk {H : Type} : DataW H → Nat
  | .lit (.string bytes) => bytes.length + 1
  | .lit _ => 1
  | .nil => 1
  | .ptr d => uptoBulk d + 1
  | .slice elems spare => uptoBulkAll elems + uptoBulkAll spare + 1
  | .agg parts => uptoBulkAll parts + 1
  | .iface _ d => uptoBulk d + 1
  | .map entries => uptoBulkEntries entries + 1
  | .held _ => 1
def uptoBulkAll {H : Type} : List (DataW H) → Nat
  | [] => 0
  | d :: r => uptoBulk d + uptoBulkAll r
def uptoBulkEntries {H : Type} : List (Lit × DataW H) → Nat
  | [] => 0
  | x :: r => uptoBulkEntry x + uptoBulkEntries r
def uptoBulkEntry {H : Type} : Lit × DataW H → Nat
  | (.string bytes, d) => bytes.length + uptoBulk d + 1
  | (_, d) => uptoBulk d + 1
 end
def uptoSmall : (H : Type) → List (DataW H) → Bool := fun _ ds => decide (uptoBulkAll ds ≤ 1048576)
def OpenSpec.upto (s : _root_.Go.ChangeSpec) : _root_.Go.OpenSpec := { _root_.Go.OpenSpec.ofChange s with cond := some uptoSmall }

/-- 'tattlerlaw19.ProbeTurns', WHERE WHAT IT READS IS OF BULK AT MOST 1048576: true; the input reads as it did. -/
def probeTurnsUptoRow : OpenClaim := { program := "ytjhmkmcongjngaa", sum := "a16dfb0ae56cc932bf40971e000d2702b52b6270012e1aec6e689b501841ba15", func := "tattler/tattlerlaw19.ProbeTurns", spec := "probeTurns", unfollowed := true, recurses := true, apart := false, narrowed := true }
def ProbeTurnsUptoSaid : Prop := probeTurnsUptoRow.holds Try.pinned (OpenSpec.upto probeTurnsSpec)

/-- 'tattlerlaw19.ProbePlays', WHERE WHAT IT READS IS OF BULK AT MOST 1048576: true; the input reads as it did. -/
def probePlaysUptoRow : OpenClaim := { program := "ytjhmkmcongjngaa", sum := "a16dfb0ae56cc932bf40971e000d2702b52b6270012e1aec6e689b501841ba15", func := "tattler/tattlerlaw19.ProbePlays", spec := "probePlays", unfollowed := true, recurses := true, apart := false, narrowed := true }
def ProbePlaysUptoSaid : Prop := probePlaysUptoRow.holds Try.pinned (OpenSpec.upto probePlaysSpec)

/-- 'tattlerlaw19.ProbeFails', WHERE WHAT IT READS IS OF BULK AT MOST 1048576: true; the input reads as it did. -/
def probeFailsUptoRow : OpenClaim := { program := "ytjhmkmcongjngaa", sum := "a16dfb0ae56cc932bf40971e000d2702b52b6270012e1aec6e689b501841ba15", func := "tattler/tattlerlaw19.ProbeFails", spec := "probeFails", unfollowed := true, recurses := true, apart := false, narrowed := true }
def ProbeFailsUptoSaid : Prop := probeFailsUptoRow.holds Try.pinned (OpenSpec.upto probeFailsSpec)

/-- 'tattlerlaw19.ProbeWhole', WHERE WHAT IT READS IS OF BULK AT MOST 1048576: true; the input reads as it did. -/
def probeWholeUptoRow : OpenClaim := { program := "ytjhmkmcongjngaa", sum := "a16dfb0ae56cc932bf40971e000d2702b52b6270012e1aec6e689b501841ba15", func := "tattler/tattlerlaw19.ProbeWhole", spec := "probeWhole", unfollowed := true, recurses := true, apart := false, narrowed := true }
def ProbeWholeUptoSaid : Prop := probeWholeUptoRow.holds Try.pinned (OpenSpec.upto probeWholeSpec)

/-- 'tattlerlaw19.ProbeNil', WHERE WHAT IT READS IS OF BULK AT MOST 1048576: true; the input reads as it did. -/
def probeNilUptoRow : OpenClaim := { program := "ytjhmkmcongjngaa", sum := "a16dfb0ae56cc932bf40971e000d2702b52b6270012e1aec6e689b501841ba15", func := "tattler/tattlerlaw19.ProbeNil", spec := "probeNil", unfollowed := true, recurses := true, apart := false, narrowed := true }
def ProbeNilUptoSaid : Prop := probeNilUptoRow.holds Try.pinned (OpenSpec.upto probeNilSpec)

end Rows
end Go.Proofs.Ytjhmkmcongjngaa
