/-
  No cell of these rows narrows 'for every input' (looked for: loops, veiled, ifaces, maps, wideKeys, modest, calm, conditions, laid).
  DERIVED. THE GIVEN ROWS OF THIS SEAT. 4 by the template 'for every input the law returns true; each argument reads behind the call as it read before'; 0 by the template 'total and deterministic' (their statements: YtkfofcgonkkdaaaTotals.lean).
  GIVEN WITH THE SEED: the statements are not yours to turn. If you find one false, say at which input.
  Laid BY PROGRAM, IN A SANDBOX (cutbox-rows.mjs): the forced cells as the released guide's own fill.sh prints them over the translation f442bf482acee8bf… (all of the seat's roots in one cut). By AI agents, Wed Nov 11 2026. No macro, syntax, notation, axiom, sorry.
-/
import Derived.Test.YtkfofcgonkkdaaaChecked
import GoSem.Claim
import GoSem.ClaimJoined
import GoSem.ClaimMapViews
import Derived.JoinedTies
import Derived.KernelRfl
namespace Go.Proofs.Ytkfofcgonkkdaaa
/- THE CELL 'sum', in the pinned program and in every row, IS THE sha256 OF THE DUMP (.gsa) THAT YtkfofcgonkkdaaaProg.lean LOADS. Nothing in Lean hashes anything: it is a label: what it is worth is what the hold of that sum in a sandbox is worth. -/
noncomputable def Try.pinned : Pinned := { name := "ytkfofcgonkkdaaa", sum := "f442bf482acee8bf1e0093c418de23b927bc7f2bc0e6af96ff987ac945b316b2", checked := Try.checked }
namespace Rows
def none {H : Type} : Left H := { results := [], args := [] }

/-- 'tattlerlaw18.TalkPlays': WHATEVER THE INPUT: true; the input reads as it did. -/
def talkPlaysSpec : ChangeSpec := { name := "talkPlays", fn := fun _ => fun
  | [d1, d2, d3] => { results := [.lit (.bool true)], args := [d1, d2, d3] }
  | _ => none }
def talkPlaysRow : OpenClaim := { program := "ytkfofcgonkkdaaa", sum := "f442bf482acee8bf1e0093c418de23b927bc7f2bc0e6af96ff987ac945b316b2", func := "tattler/tattlerlaw18.TalkPlays", spec := "talkPlays", unfollowed := true, recurses := true, apart := false }
def TalkPlaysSaid : Prop := talkPlaysRow.holds Try.pinned (OpenSpec.ofChange talkPlaysSpec)

/-- ITS FALSE NEIGHBOUR: 'it returns false'. Refute it at one input. -/
def talkPlaysWrong : ChangeSpec := { name := "talkPlays", fn := fun _ => fun
  | [d1, d2, d3] => { results := [.lit (.bool false)], args := [d1, d2, d3] }
  | _ => none }
def TalkPlaysWrongFalsely : Prop := talkPlaysRow.holds Try.pinned (OpenSpec.ofChange talkPlaysWrong)

/-- 'tattlerlaw18.TalkOften': WHATEVER THE INPUT: true; the input reads as it did. -/
def talkOftenSpec : ChangeSpec := { name := "talkOften", fn := fun _ => fun
  | [d1, d2, d3] => { results := [.lit (.bool true)], args := [d1, d2, d3] }
  | _ => none }
def talkOftenRow : OpenClaim := { program := "ytkfofcgonkkdaaa", sum := "f442bf482acee8bf1e0093c418de23b927bc7f2bc0e6af96ff987ac945b316b2", func := "tattler/tattlerlaw18.TalkOften", spec := "talkOften", unfollowed := true, recurses := true, apart := false }
def TalkOftenSaid : Prop := talkOftenRow.holds Try.pinned (OpenSpec.ofChange talkOftenSpec)

/-- ITS FALSE NEIGHBOUR: 'it returns false'. Refute it at one input. -/
def talkOftenWrong : ChangeSpec := { name := "talkOften", fn := fun _ => fun
  | [d1, d2, d3] => { results := [.lit (.bool false)], args := [d1, d2, d3] }
  | _ => none }
def TalkOftenWrongFalsely : Prop := talkOftenRow.holds Try.pinned (OpenSpec.ofChange talkOftenWrong)

/-- 'tattlerlaw18.TalkAgain': WHATEVER THE INPUT: true; the input reads as it did. -/
def talkAgainSpec : ChangeSpec := { name := "talkAgain", fn := fun _ => fun
  | [d1, d2, d3] => { results := [.lit (.bool true)], args := [d1, d2, d3] }
  | _ => none }
def talkAgainRow : OpenClaim := { program := "ytkfofcgonkkdaaa", sum := "f442bf482acee8bf1e0093c418de23b927bc7f2bc0e6af96ff987ac945b316b2", func := "tattler/tattlerlaw18.TalkAgain", spec := "talkAgain", unfollowed := true, recurses := true, apart := false }
def TalkAgainSaid : Prop := talkAgainRow.holds Try.pinned (OpenSpec.ofChange talkAgainSpec)

/-- ITS FALSE NEIGHBOUR: 'it returns false'. Refute it at one input. -/
def talkAgainWrong : ChangeSpec := { name := "talkAgain", fn := fun _ => fun
  | [d1, d2, d3] => { results := [.lit (.bool false)], args := [d1, d2, d3] }
  | _ => none }
def TalkAgainWrongFalsely : Prop := talkAgainRow.holds Try.pinned (OpenSpec.ofChange talkAgainWrong)

/-- 'tattlerlaw18.TalkMost': WHATEVER THE INPUT: true; the input reads as it did. -/
def talkMostSpec : ChangeSpec := { name := "talkMost", fn := fun _ => fun
  | [d1, d2, d3] => { results := [.lit (.bool true)], args := [d1, d2, d3] }
  | _ => none }
def talkMostRow : OpenClaim := { program := "ytkfofcgonkkdaaa", sum := "f442bf482acee8bf1e0093c418de23b927bc7f2bc0e6af96ff987ac945b316b2", func := "tattler/tattlerlaw18.TalkMost", spec := "talkMost", unfollowed := true, recurses := true, apart := false }
def TalkMostSaid : Prop := talkMostRow.holds Try.pinned (OpenSpec.ofChange talkMostSpec)

/-- ITS FALSE NEIGHBOUR: 'it returns false'. Refute it at one input. -/
def talkMostWrong : ChangeSpec := { name := "talkMost", fn := fun _ => fun
  | [d1, d2, d3] => { results := [.lit (.bool false)], args := [d1, d2, d3] }
  | _ => none }
def TalkMostWrongFalsely : Prop := talkMostRow.holds Try.pinned (OpenSpec.ofChange talkMostWrong)

/- THE SECOND FORM. 'bulk': how many values and letters a reading holds, each counted each time it is reached (what is shared counts as often as it is met; a slice's spare places count too). A statement '..UptoSaid' is the law's where the arguments, and the package variables that the reading takes, are together of bulk at most 1048576: NARROWER than '..Said'. Prove '..Said' where nothing that the law and all that it calls make is longer than what came in: it says more and counts as full. Else prove '..UptoSaid'. A law counts once. -/
mutual
def uptoBulk {H : Type} : DataW H → Nat
  | .lit (.string bytes) => bytes.length + 1
  | .lit _ => 1
  | .nil => 1
  | .ptr d => uptoBulk d + 1
  | .slice elems spare => uptoBulkAll elems + uptoBulkAll spare + 1
  | .agg parts => uptoBulkAll parts + 1
  | .iface _ d => uptoBulk d + 1
  | .map entries => uptoBulkEntries entries + 1
  | .held _ => 1
def uptoBulkAll {H : Type} : List (DataW H) → Nat
  | [] => 0
  | d :: r => uptoBulk d + uptoBulkAll r
def uptoBulkEntries {H : Type} : List (Lit × DataW H) → Nat
  | [] => 0
  | x :: r => uptoBulkEntry x + uptoBulkEntries r
def uptoBulkEntry {H : Type} : Lit × DataW H → Nat
  | (.string bytes, d) => bytes.length + uptoBulk d + 1
  | (_, d) => uptoBulk d + 1
 end
def uptoSmall : (H : Type) → List (DataW H) → Bool := fun _ ds => decide (uptoBulkAll ds ≤ 1048576)
def OpenSpec.upto (s : _root_.Go.ChangeSpec) : _root_.Go.OpenSpec := { _root_.Go.OpenSpec.ofChange s with cond := some uptoSmall }

/-- 'tattlerlaw18.TalkPlays', WHERE WHAT IT READS IS OF BULK AT MOST 1048576: true; the input reads as it did. -/
def talkPlaysUptoRow : OpenClaim := { program := "ytkfofcgonkkdaaa", sum := "f442bf482acee8bf1e0093c418de23b927bc7f2bc0e6af96ff987ac945b316b2", func := "tattler/tattlerlaw18.TalkPlays", spec := "talkPlays", unfollowed := true, recurses := true, apart := false, narrowed := true }
def TalkPlaysUptoSaid : Prop := talkPlaysUptoRow.holds Try.pinned (OpenSpec.upto talkPlaysSpec)

/-- 'tattlerlaw18.TalkOften', WHERE WHAT IT READS IS OF BULK AT MOST 1048576: true; the input reads as it did. -/
def talkOftenUptoRow : OpenClaim := { program := "ytkfofcgonkkdaaa", sum := "f442bf482acee8bf1e0093c418de23b927bc7f2bc0e6af96ff987ac945b316b2", func := "tattler/tattlerlaw18.TalkOften", spec := "talkOften", unfollowed := true, recurses := true, apart := false, narrowed := true }
def TalkOftenUptoSaid : Prop := talkOftenUptoRow.holds Try.pinned (OpenSpec.upto talkOftenSpec)

/-- 'tattlerlaw18.TalkAgain', WHERE WHAT IT READS IS OF BULK AT MOST 1048576: true; the input reads as it did. -/
def talkAgainUptoRow : OpenClaim := { program := "ytkfofcgonkkdaaa", sum := "f442bf482acee8bf1e0093c418de23b927bc7f2bc0e6af96ff987ac945b316b2", func := "tattler/tattlerlaw18.TalkAgain", spec := "talkAgain", unfollowed := true, recurses := true, apart := false, narrowed := true }
def TalkAgainUptoSaid : Prop := talkAgainUptoRow.holds Try.pinned (OpenSpec.upto talkAgainSpec)

/-- 'tattlerlaw18.TalkMost', WHERE WHAT IT READS IS OF BULK AT MOST 1048576: true; the input reads as it did. -/
def talkMostUptoRow : OpenClaim := { program := "ytkfofcgonkkdaaa", sum := "f442bf482acee8bf1e0093c418de23b927bc7f2bc0e6af96ff987ac945b316b2", func := "tattler/tattlerlaw18.TalkMost", spec := "talkMost", unfollowed := true, recurses := true, apart := false, narrowed := true }
def TalkMostUptoSaid : Prop := talkMostUptoRow.holds Try.pinned (OpenSpec.upto talkMostSpec)

end Rows
end Go.Proofs.Ytkfofcgonkkdaaa
