/-
  No cell of these rows narrows 'for every input' (looked for: loops, veiled, ifaces, maps, wideKeys, modest, calm, conditions, laid).
  DERIVED. THE GIVEN ROWS OF THIS SEAT. 5 by the template 'for every input the law returns true; each argument reads behind the call as it read before'; 0 by the template 'total and deterministic' (their statements: YtecgnfklfgjgaaaTotals.lean).
  GIVEN WITH THE SEED: the statements are not yours to turn. If you find one false, say at which input.
  Laid BY PROGRAM, IN A SANDBOX (cutbox-rows.mjs): the forced cells as the released guide's own fill.sh prints them over the translation 4213330a3b4e693a… (all of the seat's roots in one cut). By AI agents, Wed Nov 11 2026. No macro, syntax, notation, axiom, sorry.
-/
import Derived.Test.YtecgnfklfgjgaaaChecked
import GoSem.Claim
import GoSem.ClaimJoined
import GoSem.ClaimMapViews
import Derived.JoinedTies
import Derived.KernelRfl
namespace Go.Proofs.Ytecgnfklfgjgaaa
/- THE CELL 'sum', in the pinned program and in every row, IS THE sha256 OF THE DUMP (.gsa) THAT YtecgnfklfgjgaaaProg.lean LOADS. Nothing in Lean hashes anything: it is a label: what it is worth is what the hold of that sum in a sandbox is worth. -/
noncomputable def Try.pinned : Pinned := { name := "ytecgnfklfgjgaaa", sum := "4213330a3b4e693a884955e24d07050ea21e149f279dc5c317922fc30f534e91", checked := Try.checked }
namespace Rows
def none {H : Type} : Left H := { results := [], args := [] }

/-- 'tattlerlaw13.StoreForward': WHATEVER THE INPUT: true; the input reads as it did. -/
def storeForwardSpec : ChangeSpec := { name := "storeForward", fn := fun _ => fun
  | [d1, d2] => { results := [.lit (.bool true)], args := [d1, d2] }
  | _ => none }
def storeForwardRow : OpenClaim := { program := "ytecgnfklfgjgaaa", sum := "4213330a3b4e693a884955e24d07050ea21e149f279dc5c317922fc30f534e91", func := "tattler/tattlerlaw13.StoreForward", spec := "storeForward", inPlace := ["internal/bytealg.abigen_runtime_cmpstring"], unfollowed := true, recurses := true, apart := false }
def StoreForwardSaid : Prop := storeForwardRow.holds Try.pinned (OpenSpec.ofChange storeForwardSpec)

/-- ITS FALSE NEIGHBOUR: 'it returns false'. Refute it at one input. -/
def storeForwardWrong : ChangeSpec := { name := "storeForward", fn := fun _ => fun
  | [d1, d2] => { results := [.lit (.bool false)], args := [d1, d2] }
  | _ => none }
def StoreForwardWrongFalsely : Prop := storeForwardRow.holds Try.pinned (OpenSpec.ofChange storeForwardWrong)

/-- 'tattlerlaw13.StoreBounded': WHATEVER THE INPUT: true; the input reads as it did. -/
def storeBoundedSpec : ChangeSpec := { name := "storeBounded", fn := fun _ => fun
  | [d1, d2] => { results := [.lit (.bool true)], args := [d1, d2] }
  | _ => none }
def storeBoundedRow : OpenClaim := { program := "ytecgnfklfgjgaaa", sum := "4213330a3b4e693a884955e24d07050ea21e149f279dc5c317922fc30f534e91", func := "tattler/tattlerlaw13.StoreBounded", spec := "storeBounded", inPlace := ["internal/bytealg.abigen_runtime_cmpstring"], unfollowed := true, recurses := true, apart := false }
def StoreBoundedSaid : Prop := storeBoundedRow.holds Try.pinned (OpenSpec.ofChange storeBoundedSpec)

/-- ITS FALSE NEIGHBOUR: 'it returns false'. Refute it at one input. -/
def storeBoundedWrong : ChangeSpec := { name := "storeBounded", fn := fun _ => fun
  | [d1, d2] => { results := [.lit (.bool false)], args := [d1, d2] }
  | _ => none }
def StoreBoundedWrongFalsely : Prop := storeBoundedRow.holds Try.pinned (OpenSpec.ofChange storeBoundedWrong)

/-- 'tattlerlaw13.StoreAnyOrder': WHATEVER THE INPUT: true; the input reads as it did. -/
def storeAnyOrderSpec : ChangeSpec := { name := "storeAnyOrder", fn := fun _ => fun
  | [d1, d2, d3] => { results := [.lit (.bool true)], args := [d1, d2, d3] }
  | _ => none }
def storeAnyOrderRow : OpenClaim := { program := "ytecgnfklfgjgaaa", sum := "4213330a3b4e693a884955e24d07050ea21e149f279dc5c317922fc30f534e91", func := "tattler/tattlerlaw13.StoreAnyOrder", spec := "storeAnyOrder", inPlace := ["internal/bytealg.abigen_runtime_cmpstring"], unfollowed := true, recurses := true, apart := false }
def StoreAnyOrderSaid : Prop := storeAnyOrderRow.holds Try.pinned (OpenSpec.ofChange storeAnyOrderSpec)

/-- ITS FALSE NEIGHBOUR: 'it returns false'. Refute it at one input. -/
def storeAnyOrderWrong : ChangeSpec := { name := "storeAnyOrder", fn := fun _ => fun
  | [d1, d2, d3] => { results := [.lit (.bool false)], args := [d1, d2, d3] }
  | _ => none }
def StoreAnyOrderWrongFalsely : Prop := storeAnyOrderRow.holds Try.pinned (OpenSpec.ofChange storeAnyOrderWrong)

/-- 'tattlerlaw13.StorePeeks': WHATEVER THE INPUT: true; the input reads as it did. -/
def storePeeksSpec : ChangeSpec := { name := "storePeeks", fn := fun _ => fun
  | [d1, d2, d3] => { results := [.lit (.bool true)], args := [d1, d2, d3] }
  | _ => none }
def storePeeksRow : OpenClaim := { program := "ytecgnfklfgjgaaa", sum := "4213330a3b4e693a884955e24d07050ea21e149f279dc5c317922fc30f534e91", func := "tattler/tattlerlaw13.StorePeeks", spec := "storePeeks", inPlace := ["internal/bytealg.abigen_runtime_cmpstring"], unfollowed := true, recurses := true, apart := false }
def StorePeeksSaid : Prop := storePeeksRow.holds Try.pinned (OpenSpec.ofChange storePeeksSpec)

/-- ITS FALSE NEIGHBOUR: 'it returns false'. Refute it at one input. -/
def storePeeksWrong : ChangeSpec := { name := "storePeeks", fn := fun _ => fun
  | [d1, d2, d3] => { results := [.lit (.bool false)], args := [d1, d2, d3] }
  | _ => none }
def StorePeeksWrongFalsely : Prop := storePeeksRow.holds Try.pinned (OpenSpec.ofChange storePeeksWrong)

/-- 'tattlerlaw13.StoreNil': WHATEVER THE INPUT: true; the input reads as it did. -/
def storeNilSpec : ChangeSpec := { name := "storeNil", fn := fun _ => fun
  | [d1, d2, d3] => { results := [.lit (.bool true)], args := [d1, d2, d3] }
  | _ => none }
def storeNilRow : OpenClaim := { program := "ytecgnfklfgjgaaa", sum := "4213330a3b4e693a884955e24d07050ea21e149f279dc5c317922fc30f534e91", func := "tattler/tattlerlaw13.StoreNil", spec := "storeNil", inPlace := ["internal/bytealg.abigen_runtime_cmpstring"], unfollowed := true, recurses := true, apart := false }
def StoreNilSaid : Prop := storeNilRow.holds Try.pinned (OpenSpec.ofChange storeNilSpec)

/-- ITS FALSE NEIGHBOUR: 'it returns false'. Refute it at one input. -/
def storeNilWrong : ChangeSpec := { name := "storeNil", fn := fun _ => fun
  | [d1, d2, d3] => { results := [.lit (.bool false)], args := [d1, d2, d3] }
  | _ => none }
def StoreNilWrongFalsely : Prop := storeNilRow.holds Try.pinned (OpenSpec.ofChange storeNilWrong)

/- THE SECOND FORM. 'bulk': how many values and letters a reading holds, each counted each time it is reached (what is shared counts as often as it is met; a slice's spare places count too). A statement '..UptoSaid' is the law's where the arguments, and the package variables that the reading takes, are together of bulk at most 1048576: NARROWER than '..Said'. Prove '..Said' where nothing that the law and all that it calls make is longer than what came in: it says more and counts as full. Else prove '..UptoSaid'. A law counts once. -/
mutual
def uptoBulk {H : Type} : DataW H → Nat
  | .lit (.string bytes) => bytes.length + 1
  | .lit _ => 1
  | .nil => 1
  | .ptr d => uptoBulk d + 1
  | .slice elems spare => uptoBulkAll elems + uptoBulkAll spare + 1
  | .agg parts => uptoBulkAll parts + 1
  | .iface _ d => uptoBulk d + 1
  | .map entries => uptoBulkEntries entries + 1
  | .held _ => 1
def uptoBulkAll {H : Type} : List (DataW H) → Nat
  | [] => 0
  | d :: r => uptoBulk d + uptoBulkAll r
def uptoBulkEntries {H : Type} : List (Lit × DataW H) → Nat
  | [] => 0
  | x :: r => uptoBulkEntry x + uptoBulkEntries r
def uptoBulkEntry {H : Type} : Lit × DataW H → Nat
  | (.string bytes, d) => bytes.length + uptoBulk d + 1
  | (_, d) => uptoBulk d + 1
 end
def uptoSmall : (H : Type) → List (DataW H) → Bool := fun _ ds => decide (uptoBulkAll ds ≤ 1048576)
def OpenSpec.upto (s : _root_.Go.ChangeSpec) : _root_.Go.OpenSpec := { _root_.Go.OpenSpec.ofChange s with cond := some uptoSmall }

/-- 'tattlerlaw13.StoreForward', WHERE WHAT IT READS IS OF BULK AT MOST 1048576: true; the input reads as it did. -/
def storeForwardUptoRow : OpenClaim := { program := "ytecgnfklfgjgaaa", sum := "4213330a3b4e693a884955e24d07050ea21e149f279dc5c317922fc30f534e91", func := "tattler/tattlerlaw13.StoreForward", spec := "storeForward", inPlace := ["internal/bytealg.abigen_runtime_cmpstring"], unfollowed := true, recurses := true, apart := false, narrowed := true }
def StoreForwardUptoSaid : Prop := storeForwardUptoRow.holds Try.pinned (OpenSpec.upto storeForwardSpec)

/-- 'tattlerlaw13.StoreBounded', WHERE WHAT IT READS IS OF BULK AT MOST 1048576: true; the input reads as it did. -/
def storeBoundedUptoRow : OpenClaim := { program := "ytecgnfklfgjgaaa", sum := "4213330a3b4e693a884955e24d07050ea21e149f279dc5c317922fc30f534e91", func := "tattler/tattlerlaw13.StoreBounded", spec := "storeBounded", inPlace := ["internal/bytealg.abigen_runtime_cmpstring"], unfollowed := true, recurses := true, apart := false, narrowed := true }
def StoreBoundedUptoSaid : Prop := storeBoundedUptoRow.holds Try.pinned (OpenSpec.upto storeBoundedSpec)

/-- 'tattlerlaw13.StoreAnyOrder', WHERE WHAT IT READS IS OF BULK AT MOST 1048576: true; the input reads as it did. -/
def storeAnyOrderUptoRow : OpenClaim := { program := "ytecgnfklfgjgaaa", sum := "4213330a3b4e693a884955e24d07050ea21e149f279dc5c317922fc30f534e91", func := "tattler/tattlerlaw13.StoreAnyOrder", spec := "storeAnyOrder", inPlace := ["internal/bytealg.abigen_runtime_cmpstring"], unfollowed := true, recurses := true, apart := false, narrowed := true }
def StoreAnyOrderUptoSaid : Prop := storeAnyOrderUptoRow.holds Try.pinned (OpenSpec.upto storeAnyOrderSpec)

/-- 'tattlerlaw13.StorePeeks', WHERE WHAT IT READS IS OF BULK AT MOST 1048576: true; the input reads as it did. -/
def storePeeksUptoRow : OpenClaim := { program := "ytecgnfklfgjgaaa", sum := "4213330a3b4e693a884955e24d07050ea21e149f279dc5c317922fc30f534e91", func := "tattler/tattlerlaw13.StorePeeks", spec := "storePeeks", inPlace := ["internal/bytealg.abigen_runtime_cmpstring"], unfollowed := true, recurses := true, apart := false, narrowed := true }
def StorePeeksUptoSaid : Prop := storePeeksUptoRow.holds Try.pinned (OpenSpec.upto storePeeksSpec)

/-- 'tattlerlaw13.StoreNil', WHERE WHAT IT READS IS OF BULK AT MOST 1048576: true; the input reads as it did. -/
def storeNilUptoRow : OpenClaim := { program := "ytecgnfklfgjgaaa", sum := "4213330a3b4e693a884955e24d07050ea21e149f279dc5c317922fc30f534e91", func := "tattler/tattlerlaw13.StoreNil", spec := "storeNil", inPlace := ["internal/bytealg.abigen_runtime_cmpstring"], unfollowed := true, recurses := true, apart := false, narrowed := true }
def StoreNilUptoSaid : Prop := storeNilUptoRow.holds Try.pinned (OpenSpec.upto storeNilSpec)

end Rows
end Go.Proofs.Ytecgnfklfgjgaaa
