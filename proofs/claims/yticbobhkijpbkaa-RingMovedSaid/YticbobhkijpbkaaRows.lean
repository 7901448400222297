/-
  No cell of these rows narrows 'for every input' (looked for: loops, veiled, ifaces, maps, wideKeys, modest, calm, conditions, laid).
  DERIVED. THE GIVEN ROWS OF THIS SEAT. 6 by the template 'for every input the law returns true; each argument reads behind the call as it read before'; 0 by the template 'total and deterministic' (their statements: YticbobhkijpbkaaTotals.lean).
  GIVEN WITH THE SEED: the statements are not yours to turn. If you find one false, say at which input.
  Laid BY PROGRAM, IN A SANDBOX (cutbox-rows.mjs): the forced cells as the released guide's own fill.sh prints them over the translation f13363c9200aa85d… (all of the seat's roots in one cut). By AI agents, Wed Nov 11 2026. No macro, syntax, notation, axiom, sorry.
-/
import Derived.Test.YticbobhkijpbkaaChecked
import GoSem.Claim
import GoSem.ClaimJoined
import GoSem.ClaimMapViews
import Derived.JoinedTies
import Derived.KernelRfl
namespace Go.Proofs.Yticbobhkijpbkaa
/- THE CELL 'sum', in the pinned program and in every row, IS THE sha256 OF THE DUMP (.gsa) THAT YticbobhkijpbkaaProg.lean LOADS. Nothing in Lean hashes anything: it is a label: what it is worth is what the hold of that sum in a sandbox is worth. -/
noncomputable def Try.pinned : Pinned := { name := "yticbobhkijpbkaa", sum := "f13363c9200aa85d33f8081c5736b9afbc2ce0d32216e39af8b905eb1f0d0f78", checked := Try.checked }
namespace Rows
def none {H : Type} : Left H := { results := [], args := [] }

/-- 'tattlerlaw16.RingAnyOrder': WHATEVER THE INPUT: true; the input reads as it did. -/
def ringAnyOrderSpec : ChangeSpec := { name := "ringAnyOrder", fn := fun _ => fun
  | [d1, d2, d3] => { results := [.lit (.bool true)], args := [d1, d2, d3] }
  | _ => none }
def ringAnyOrderRow : OpenClaim := { program := "yticbobhkijpbkaa", sum := "f13363c9200aa85d33f8081c5736b9afbc2ce0d32216e39af8b905eb1f0d0f78", func := "tattler/tattlerlaw16.RingAnyOrder", spec := "ringAnyOrder", unfollowed := true, recurses := true, apart := false }
def RingAnyOrderSaid : Prop := ringAnyOrderRow.holds Try.pinned (OpenSpec.ofChange ringAnyOrderSpec)

/-- ITS FALSE NEIGHBOUR: 'it returns false'. Refute it at one input. -/
def ringAnyOrderWrong : ChangeSpec := { name := "ringAnyOrder", fn := fun _ => fun
  | [d1, d2, d3] => { results := [.lit (.bool false)], args := [d1, d2, d3] }
  | _ => none }
def RingAnyOrderWrongFalsely : Prop := ringAnyOrderRow.holds Try.pinned (OpenSpec.ofChange ringAnyOrderWrong)

/-- 'tattlerlaw16.RingFirst': WHATEVER THE INPUT: true; the input reads as it did. -/
def ringFirstSpec : ChangeSpec := { name := "ringFirst", fn := fun _ => fun
  | [d1, d2] => { results := [.lit (.bool true)], args := [d1, d2] }
  | _ => none }
def ringFirstRow : OpenClaim := { program := "yticbobhkijpbkaa", sum := "f13363c9200aa85d33f8081c5736b9afbc2ce0d32216e39af8b905eb1f0d0f78", func := "tattler/tattlerlaw16.RingFirst", spec := "ringFirst", unfollowed := true, recurses := true, apart := false }
def RingFirstSaid : Prop := ringFirstRow.holds Try.pinned (OpenSpec.ofChange ringFirstSpec)

/-- ITS FALSE NEIGHBOUR: 'it returns false'. Refute it at one input. -/
def ringFirstWrong : ChangeSpec := { name := "ringFirst", fn := fun _ => fun
  | [d1, d2] => { results := [.lit (.bool false)], args := [d1, d2] }
  | _ => none }
def RingFirstWrongFalsely : Prop := ringFirstRow.holds Try.pinned (OpenSpec.ofChange ringFirstWrong)

/-- 'tattlerlaw16.RingOwners': WHATEVER THE INPUT: true; the input reads as it did. -/
def ringOwnersSpec : ChangeSpec := { name := "ringOwners", fn := fun _ => fun
  | [d1, d2, d3] => { results := [.lit (.bool true)], args := [d1, d2, d3] }
  | _ => none }
def ringOwnersRow : OpenClaim := { program := "yticbobhkijpbkaa", sum := "f13363c9200aa85d33f8081c5736b9afbc2ce0d32216e39af8b905eb1f0d0f78", func := "tattler/tattlerlaw16.RingOwners", spec := "ringOwners", unfollowed := true, recurses := true, apart := false }
def RingOwnersSaid : Prop := ringOwnersRow.holds Try.pinned (OpenSpec.ofChange ringOwnersSpec)

/-- ITS FALSE NEIGHBOUR: 'it returns false'. Refute it at one input. -/
def ringOwnersWrong : ChangeSpec := { name := "ringOwners", fn := fun _ => fun
  | [d1, d2, d3] => { results := [.lit (.bool false)], args := [d1, d2, d3] }
  | _ => none }
def RingOwnersWrongFalsely : Prop := ringOwnersRow.holds Try.pinned (OpenSpec.ofChange ringOwnersWrong)

/-- 'tattlerlaw16.RingLess': WHATEVER THE INPUT: true; the input reads as it did. -/
def ringLessSpec : ChangeSpec := { name := "ringLess", fn := fun _ => fun
  | [d1, d2, d3] => { results := [.lit (.bool true)], args := [d1, d2, d3] }
  | _ => none }
def ringLessRow : OpenClaim := { program := "yticbobhkijpbkaa", sum := "f13363c9200aa85d33f8081c5736b9afbc2ce0d32216e39af8b905eb1f0d0f78", func := "tattler/tattlerlaw16.RingLess", spec := "ringLess", unfollowed := true, recurses := true, apart := false }
def RingLessSaid : Prop := ringLessRow.holds Try.pinned (OpenSpec.ofChange ringLessSpec)

/-- ITS FALSE NEIGHBOUR: 'it returns false'. Refute it at one input. -/
def ringLessWrong : ChangeSpec := { name := "ringLess", fn := fun _ => fun
  | [d1, d2, d3] => { results := [.lit (.bool false)], args := [d1, d2, d3] }
  | _ => none }
def RingLessWrongFalsely : Prop := ringLessRow.holds Try.pinned (OpenSpec.ofChange ringLessWrong)

/-- 'tattlerlaw16.RingMore': WHATEVER THE INPUT: true; the input reads as it did. -/
def ringMoreSpec : ChangeSpec := { name := "ringMore", fn := fun _ => fun
  | [d1, d2, d3] => { results := [.lit (.bool true)], args := [d1, d2, d3] }
  | _ => none }
def ringMoreRow : OpenClaim := { program := "yticbobhkijpbkaa", sum := "f13363c9200aa85d33f8081c5736b9afbc2ce0d32216e39af8b905eb1f0d0f78", func := "tattler/tattlerlaw16.RingMore", spec := "ringMore", unfollowed := true, recurses := true, apart := false }
def RingMoreSaid : Prop := ringMoreRow.holds Try.pinned (OpenSpec.ofChange ringMoreSpec)

/-- ITS FALSE NEIGHBOUR: 'it returns false'. Refute it at one input. -/
def ringMoreWrong : ChangeSpec := { name := "ringMore", fn := fun _ => fun
  | [d1, d2, d3] => { results := [.lit (.bool false)], args := [d1, d2, d3] }
  | _ => none }
def RingMoreWrongFalsely : Prop := ringMoreRow.holds Try.pinned (OpenSpec.ofChange ringMoreWrong)

/-- 'tattlerlaw16.RingMoved': WHATEVER THE INPUT: true; the input reads as it did. -/
def ringMovedSpec : ChangeSpec := { name := "ringMoved", fn := fun _ => fun
  | [d1, d2, d3] => { results := [.lit (.bool true)], args := [d1, d2, d3] }
  | _ => none }
def ringMovedRow : OpenClaim := { program := "yticbobhkijpbkaa", sum := "f13363c9200aa85d33f8081c5736b9afbc2ce0d32216e39af8b905eb1f0d0f78", func := "tattler/tattlerlaw16.RingMoved", spec := "ringMoved", unfollowed := true, recurses := true, apart := false }
def RingMovedSaid : Prop := ringMovedRow.holds Try.pinned (OpenSpec.ofChange ringMovedSpec)

/-- ITS FALSE NEIGHBOUR: 'it returns false'. Refute it at one input. -/
def ringMovedWrong : ChangeSpec := { name := "ringMoved", fn := fun _ => fun
  | [d1, d2, d3] => { results := [.lit (.bool false)], args := [d1, d2, d3] }
  | _ => none }
def RingMovedWrongFalsely : Prop := ringMovedRow.holds Try.pinned (OpenSpec.ofChange ringMovedWrong)

/- THE SECOND FORM. 'bulk': how many values and letters a reading holds, each counted each time it is reached (what is shared counts as often as it is met; a slice's spare places count too). A statement '..UptoSaid' is the law's where the arguments, and the package variables that the reading takes, are together of bulk at most 1048576: NARROWER than '..Said'. Prove '..Said' where nothing that the law and all that it calls make is longer than what came in: it says more and counts as full. Else prove '..UptoSaid'. A law counts once. -/
mutual
def uptoBulk {H : Type} : DataW H → Nat
  | .lit (.string bytes) => bytes.length + 1
  | .lit _ => 1
  | .nil => 1
  | .ptr d => uptoBulk d + 1
  | .slice elems spare => uptoBulkAll elems + uptoBulkAll spare + 1
  | .agg parts => uptoBulkAll parts + 1
  | .iface _ d => uptoBulk d + 1
  | .map entries => uptoBulkEntries entries + 1
  | .held _ => 1
def uptoBulkAll {H : Type} : List (DataW H) → Nat
  | [] => 0
  | d :: r => uptoBulk d + uptoBulkAll r
def uptoBulkEntries {H : Type} : List (Lit × DataW H) → Nat
  | [] => 0
  | x :: r => uptoBulkEntry x + uptoBulkEntries r
def uptoBulkEntry {H : Type} : Lit × DataW H → Nat
  | (.string bytes, d) => bytes.length + uptoBulk d + 1
  | (_, d) => uptoBulk d + 1
 end
def uptoSmall : (H : Type) → List (DataW H) → Bool := fun _ ds => decide (uptoBulkAll ds ≤ 1048576)
def OpenSpec.upto (s : _root_.Go.ChangeSpec) : _root_.Go.OpenSpec := { _root_.Go.OpenSpec.ofChange s with cond := some uptoSmall }

/-- 'tattlerlaw16.RingAnyOrder', WHERE WHAT IT READS IS OF BULK AT MOST 1048576: true; the input reads as it did. -/
def ringAnyOrderUptoRow : OpenClaim := { program := "yticbobhkijpbkaa", sum := "f13363c9200aa85d33f8081c5736b9afbc2ce0d32216e39af8b905eb1f0d0f78", func := "tattler/tattlerlaw16.RingAnyOrder", spec := "ringAnyOrder", unfollowed := true, recurses := true, apart := false, narrowed := true }
def RingAnyOrderUptoSaid : Prop := ringAnyOrderUptoRow.holds Try.pinned (OpenSpec.upto ringAnyOrderSpec)

/-- 'tattlerlaw16.RingFirst', WHERE WHAT IT READS IS OF BULK AT MOST 1048576: true; the input reads as it did. -/
def ringFirstUptoRow : OpenClaim := { program := "yticbobhkijpbkaa", sum := "f13363c9200aa85d33f8081c5736b9afbc2ce0d32216e39af8b905eb1f0d0f78", func := "tattler/tattlerlaw16.RingFirst", spec := "ringFirst", unfollowed := true, recurses := true, apart := false, narrowed := true }
def RingFirstUptoSaid : Prop := ringFirstUptoRow.holds Try.pinned (OpenSpec.upto ringFirstSpec)

/-- 'tattlerlaw16.RingOwners', WHERE WHAT IT READS IS OF BULK AT MOST 1048576: true; the input reads as it did. -/
def ringOwnersUptoRow : OpenClaim := { program := "yticbobhkijpbkaa", sum := "f13363c9200aa85d33f8081c5736b9afbc2ce0d32216e39af8b905eb1f0d0f78", func := "tattler/tattlerlaw16.RingOwners", spec := "ringOwners", unfollowed := true, recurses := true, apart := false, narrowed := true }
def RingOwnersUptoSaid : Prop := ringOwnersUptoRow.holds Try.pinned (OpenSpec.upto ringOwnersSpec)

/-- 'tattlerlaw16.RingLess', WHERE WHAT IT READS IS OF BULK AT MOST 1048576: true; the input reads as it did. -/
def ringLessUptoRow : OpenClaim := { program := "yticbobhkijpbkaa", sum := "f13363c9200aa85d33f8081c5736b9afbc2ce0d32216e39af8b905eb1f0d0f78", func := "tattler/tattlerlaw16.RingLess", spec := "ringLess", unfollowed := true, recurses := true, apart := false, narrowed := true }
def RingLessUptoSaid : Prop := ringLessUptoRow.holds Try.pinned (OpenSpec.upto ringLessSpec)

/-- 'tattlerlaw16.RingMore', WHERE WHAT IT READS IS OF BULK AT MOST 1048576: true; the input reads as it did. -/
def ringMoreUptoRow : OpenClaim := { program := "yticbobhkijpbkaa", sum := "f13363c9200aa85d33f8081c5736b9afbc2ce0d32216e39af8b905eb1f0d0f78", func := "tattler/tattlerlaw16.RingMore", spec := "ringMore", unfollowed := true, recurses := true, apart := false, narrowed := true }
def RingMoreUptoSaid : Prop := ringMoreUptoRow.holds Try.pinned (OpenSpec.upto ringMoreSpec)

/-- 'tattlerlaw16.RingMoved', WHERE WHAT IT READS IS OF BULK AT MOST 1048576: true; the input reads as it did. -/
def ringMovedUptoRow : OpenClaim := { program := "yticbobhkijpbkaa", sum := "f13363c9200aa85d33f8081c5736b9afbc2ce0d32216e39af8b905eb1f0d0f78", func := "tattler/tattlerlaw16.RingMoved", spec := "ringMoved", unfollowed := true, recurses := true, apart := false, narrowed := true }
def RingMovedUptoSaid : Prop := ringMovedUptoRow.holds Try.pinned (OpenSpec.upto ringMovedSpec)

end Rows
end Go.Proofs.Yticbobhkijpbkaa
