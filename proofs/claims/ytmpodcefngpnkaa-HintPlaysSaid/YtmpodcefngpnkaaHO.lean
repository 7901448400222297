/- The document: whether a node owns a key. -/
import Derived.Test.YtmpodcefngpnkaaHOa
import Derived.Test.YtmpodcefngpnkaaGJ
set_option linter.unusedVariables false
set_option linter.unusedSimpArgs false
namespace Go.Proofs.Ytmpodcefngpnkaa
open Go.RowKit Go.Tat Go.Proofs.YtmpodcefngpnkaaW.PrintWords PHintPlays
theorem rowns_is (key : ByteArray) (hs : key.size ≤ 1000000) (l : List Int) (hl : l.length ≤ 1000000) (h0 : ∀ x ∈ l, 0 ≤ x ∧ x < 256) (n : Int) (k : Nat) (hk : 2000300 < k) : tattlerref16_Owns.f k key l n = some (decide (n ∈ own key l)) := by
  unfold tattlerref16_Owns.f
  have := own_len key l
  rw [rowners_is key hs l hl h0 k hk, Option.bind_some, in_is _ n (by omega) k (by omega)]
  rfl
end Go.Proofs.Ytmpodcefngpnkaa
