/-
  No cell of these rows narrows 'for every input' (looked for: loops, veiled, ifaces, maps, wideKeys, modest, calm, conditions, laid).
  DERIVED. THE GIVEN ROWS OF THIS SEAT. 4 by the template 'for every input the law returns true; each argument reads behind the call as it read before'; 0 by the template 'total and deterministic' (their statements: YtepceielndmjgaaTotals.lean).
  GIVEN WITH THE SEED: the statements are not yours to turn. If you find one false, say at which input.
  Laid BY PROGRAM, IN A SANDBOX (cutbox-rows.mjs): the forced cells as the released guide's own fill.sh prints them over the translation 30679d93e6b2c47e… (all of the seat's roots in one cut). By AI agents, Wed Nov 11 2026. No macro, syntax, notation, axiom, sorry.
-/
import Derived.Test.YtepceielndmjgaaChecked
import GoSem.Claim
import GoSem.ClaimJoined
import GoSem.ClaimMapViews
import Derived.JoinedTies
import Derived.KernelRfl
namespace Go.Proofs.Ytepceielndmjgaa
/- THE CELL 'sum', in the pinned program and in every row, IS THE sha256 OF THE DUMP (.gsa) THAT YtepceielndmjgaaProg.lean LOADS. Nothing in Lean hashes anything: it is a label: what it is worth is what the hold of that sum in a sandbox is worth. -/
noncomputable def Try.pinned : Pinned := { name := "ytepceielndmjgaa", sum := "30679d93e6b2c47eb058076f235cdc1d2a22202da4e0c51be18c75d875ba40e1", checked := Try.checked }
namespace Rows
def none {H : Type} : Left H := { results := [], args := [] }

/-- 'tattlerlaw15.SweepTells': WHATEVER THE INPUT: true; the input reads as it did. -/
def sweepTellsSpec : ChangeSpec := { name := "sweepTells", fn := fun _ => fun
  | [d1, d2] => { results := [.lit (.bool true)], args := [d1, d2] }
  | _ => none }
def sweepTellsRow : OpenClaim := { program := "ytepceielndmjgaa", sum := "30679d93e6b2c47eb058076f235cdc1d2a22202da4e0c51be18c75d875ba40e1", func := "tattler/tattlerlaw15.SweepTells", spec := "sweepTells", recurses := true, apart := false }
def SweepTellsSaid : Prop := sweepTellsRow.holds Try.pinned (OpenSpec.ofChange sweepTellsSpec)

/-- ITS FALSE NEIGHBOUR: 'it returns false'. Refute it at one input. -/
def sweepTellsWrong : ChangeSpec := { name := "sweepTells", fn := fun _ => fun
  | [d1, d2] => { results := [.lit (.bool false)], args := [d1, d2] }
  | _ => none }
def SweepTellsWrongFalsely : Prop := sweepTellsRow.holds Try.pinned (OpenSpec.ofChange sweepTellsWrong)

/-- 'tattlerlaw15.SweepBoth': WHATEVER THE INPUT: true; the input reads as it did. -/
def sweepBothSpec : ChangeSpec := { name := "sweepBoth", fn := fun _ => fun
  | [d1, d2] => { results := [.lit (.bool true)], args := [d1, d2] }
  | _ => none }
def sweepBothRow : OpenClaim := { program := "ytepceielndmjgaa", sum := "30679d93e6b2c47eb058076f235cdc1d2a22202da4e0c51be18c75d875ba40e1", func := "tattler/tattlerlaw15.SweepBoth", spec := "sweepBoth", recurses := true, apart := false }
def SweepBothSaid : Prop := sweepBothRow.holds Try.pinned (OpenSpec.ofChange sweepBothSpec)

/-- ITS FALSE NEIGHBOUR: 'it returns false'. Refute it at one input. -/
def sweepBothWrong : ChangeSpec := { name := "sweepBoth", fn := fun _ => fun
  | [d1, d2] => { results := [.lit (.bool false)], args := [d1, d2] }
  | _ => none }
def SweepBothWrongFalsely : Prop := sweepBothRow.holds Try.pinned (OpenSpec.ofChange sweepBothWrong)

/-- 'tattlerlaw15.SweepMeets': WHATEVER THE INPUT: true; the input reads as it did. -/
def sweepMeetsSpec : ChangeSpec := { name := "sweepMeets", fn := fun _ => fun
  | [d1, d2] => { results := [.lit (.bool true)], args := [d1, d2] }
  | _ => none }
def sweepMeetsRow : OpenClaim := { program := "ytepceielndmjgaa", sum := "30679d93e6b2c47eb058076f235cdc1d2a22202da4e0c51be18c75d875ba40e1", func := "tattler/tattlerlaw15.SweepMeets", spec := "sweepMeets", recurses := true, apart := false }
def SweepMeetsSaid : Prop := sweepMeetsRow.holds Try.pinned (OpenSpec.ofChange sweepMeetsSpec)

/-- ITS FALSE NEIGHBOUR: 'it returns false'. Refute it at one input. -/
def sweepMeetsWrong : ChangeSpec := { name := "sweepMeets", fn := fun _ => fun
  | [d1, d2] => { results := [.lit (.bool false)], args := [d1, d2] }
  | _ => none }
def SweepMeetsWrongFalsely : Prop := sweepMeetsRow.holds Try.pinned (OpenSpec.ofChange sweepMeetsWrong)

/-- 'tattlerlaw15.SweepNothing': WHATEVER THE INPUT: true; the input reads as it did. -/
def sweepNothingSpec : ChangeSpec := { name := "sweepNothing", fn := fun _ => fun
  | [d1, d2] => { results := [.lit (.bool true)], args := [d1, d2] }
  | _ => none }
def sweepNothingRow : OpenClaim := { program := "ytepceielndmjgaa", sum := "30679d93e6b2c47eb058076f235cdc1d2a22202da4e0c51be18c75d875ba40e1", func := "tattler/tattlerlaw15.SweepNothing", spec := "sweepNothing", recurses := true, apart := false }
def SweepNothingSaid : Prop := sweepNothingRow.holds Try.pinned (OpenSpec.ofChange sweepNothingSpec)

/-- ITS FALSE NEIGHBOUR: 'it returns false'. Refute it at one input. -/
def sweepNothingWrong : ChangeSpec := { name := "sweepNothing", fn := fun _ => fun
  | [d1, d2] => { results := [.lit (.bool false)], args := [d1, d2] }
  | _ => none }
def SweepNothingWrongFalsely : Prop := sweepNothingRow.holds Try.pinned (OpenSpec.ofChange sweepNothingWrong)

/- THE SECOND FORM. 'bulk': how many values and letters a reading holds, each counted each time it is reached (what is shared counts as often as it is met; a slice's spare places count too). A statement '..UptoSaid' is the law's where the arguments, and the package variables that the reading takes, are together of bulk at most 1048576: NARROWER than '..Said'. Prove '..Said' where nothing that the law and all that it calls make is longer than what came in: it says more and counts as full. Else prove '..UptoSaid'. A law counts once. -/
mutual
def uptoBulk {H : Type} : DataW H → Nat
  | .lit (.string bytes) => bytes.length + 1
  | .lit _ => 1
  | .nil => 1
  | .ptr d => uptoBulk d + 1
  | .slice elems spare => uptoBulkAll elems + uptoBulkAll spare + 1
  | .agg parts => uptoBulkAll parts + 1
  | .iface _ d => uptoBulk d + 1
  | .map entries => uptoBulkEntries entries + 1
  | .held _ => 1
def uptoBulkAll {H : Type} : List (DataW H) → Nat
  | [] => 0
  | d :: r => uptoBulk d + uptoBulkAll r
def uptoBulkEntries {H : Type} : List (Lit × DataW H) → Nat
  | [] => 0
  | x :: r => uptoBulkEntry x + uptoBulkEntries r
def uptoBulkEntry {H : Type} : Lit × DataW H → Nat
  | (.string bytes, d) => bytes.length + uptoBulk d + 1
  | (_, d) => uptoBulk d + 1
 end
def uptoSmall : (H : Type) → List (DataW H) → Bool := fun _ ds => decide (uptoBulkAll ds ≤ 1048576)
def OpenSpec.upto (s : _root_.Go.ChangeSpec) : _root_.Go.OpenSpec := { _root_.Go.OpenSpec.ofChange s with cond := some uptoSmall }

/-- 'tattlerlaw15.SweepTells', WHERE WHAT IT READS IS OF BULK AT MOST 1048576: true; the input reads as it did. -/
def sweepTellsUptoRow : OpenClaim := { program := "ytepceielndmjgaa", sum := "30679d93e6b2c47eb058076f235cdc1d2a22202da4e0c51be18c75d875ba40e1", func := "tattler/tattlerlaw15.SweepTells", spec := "sweepTells", recurses := true, apart := false, narrowed := true }
def SweepTellsUptoSaid : Prop := sweepTellsUptoRow.holds Try.pinned (OpenSpec.upto sweepTellsSpec)

/-- 'tattlerlaw15.SweepBoth', WHERE WHAT IT READS IS OF BULK AT MOST 1048576: true; the input reads as it did. -/
def sweepBothUptoRow : OpenClaim := { program := "ytepceielndmjgaa", sum := "30679d93e6b2c47eb058076f235cdc1d2a22202da4e0c51be18c75d875ba40e1", func := "tattler/tattlerlaw15.SweepBoth", spec := "sweepBoth", recurses := true, apart := false, narrowed := true }
def SweepBothUptoSaid : Prop := sweepBothUptoRow.holds Try.pinned (OpenSpec.upto sweepBothSpec)

/-- 'tattlerlaw15.SweepMeets', WHERE WHAT IT READS IS OF BULK AT MOST 1048576: true; the input reads as it did. -/
def sweepMeetsUptoRow : OpenClaim := { program := "ytepceielndmjgaa", sum := "30679d93e6b2c47eb058076f235cdc1d2a22202da4e0c51be18c75d875ba40e1", func := "tattler/tattlerlaw15.SweepMeets", spec := "sweepMeets", recurses := true, apart := false, narrowed := true }
def SweepMeetsUptoSaid : Prop := sweepMeetsUptoRow.holds Try.pinned (OpenSpec.upto sweepMeetsSpec)

/-- 'tattlerlaw15.SweepNothing', WHERE WHAT IT READS IS OF BULK AT MOST 1048576: true; the input reads as it did. -/
def sweepNothingUptoRow : OpenClaim := { program := "ytepceielndmjgaa", sum := "30679d93e6b2c47eb058076f235cdc1d2a22202da4e0c51be18c75d875ba40e1", func := "tattler/tattlerlaw15.SweepNothing", spec := "sweepNothing", recurses := true, apart := false, narrowed := true }
def SweepNothingUptoSaid : Prop := sweepNothingUptoRow.holds Try.pinned (OpenSpec.upto sweepNothingSpec)

end Rows
end Go.Proofs.Ytepceielndmjgaa
