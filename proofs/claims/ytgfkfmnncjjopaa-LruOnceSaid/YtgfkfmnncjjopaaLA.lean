import Derived.Test.YtgfkfmnncjjopaaRows
import Derived.WalkKit
import Derived.WalkSpells
import Derived.WalkLawsBesides
import Derived.BigQuiet
import Derived.Deep.QuietTactic
namespace Go.Proofs.Ytgfkfmnncjjopaa
open Go.RowKit
set_option maxHeartbeats 400000 in
theorem has_nil (i : Int) (w : World) :
    Calls Try.prog 16 #[.pointer none, .int .i64 i] w fun e w' => e = .returned (.bool false) ∧ w' = w := by
  go_enter Try.func16, Try.ntmps16
  go_wp2
  go_ret
  exact ⟨rfl, rfl⟩
set_option maxHeartbeats 400000 in
theorem has_in (g b cap n i : Nat) (t : Bool) (w : World) (hi : i < n) (hg0 : w.cell? ⟨g, 0, none⟩ = some (.slice (some ⟨b, 0, none⟩) (n+1) cap))
    (hg1 : w.cell? ⟨g, 1, none⟩ = some (.int .i64 n)) (ht : w.cell? ⟨b, i*3, none⟩ = some (.bool t)) :
    Calls Try.prog 16 #[.pointer (some ⟨g, 0, none⟩), .int .i64 i] w fun e w' => e = .returned (.bool t) ∧ w' = w := by
  go_enter Try.func16, Try.ntmps16
  go_wp2
  go_ret
  exact ⟨rfl, rfl⟩
end Go.Proofs.Ytgfkfmnncjjopaa
