/- The document's probe: made; numbers mixed. -/
import Derived.Test.YtjhmkmcongjngaaRA
import Derived.Test.YtjhmkmcongjngaaRB
import Derived.Test.YtjhmkmcongjngaaRC
import Derived.Test.YtjhmkmcongjngaaQC
import Derived.Laws.BitsAllLaws
set_option linter.unusedVariables false
set_option linter.unusedSimpArgs false
namespace Go.Proofs.Ytjhmkmcongjngaa
open Go.RowKit Go.Tat Go.Proofs.YtjhmkmcongjngaaW.PrintWords PProbePlays
def Is64 (x : Int) : Prop := 0 ≤ x ∧ x < 18446744073709551616
theorem wrap_64 (x : Int) : Is64 (IntKind.u64.wrap x) := by unfold Is64; rw [IntKind.wrap_u64]; omega
theorem wrap_same {x : Int} (h : Is64 x) : IntKind.u64.wrap x = x := by unfold Is64 at h; rw [IntKind.wrap_u64]; omega
theorem xor_64 (a b : Int) : Is64 (Go.bits .xor .u64 a b) := by
  have h : ∃ v, Go.bits .xor .u64 a b = IntKind.u64.wrap v := ⟨_, rfl⟩
  obtain ⟨v, h⟩ := h
  rw [h]
  exact wrap_64 v
def mixI (a : Int) : Int := (mix_Mix.f a).getD 0
theorem mix_is (a : Int) : mix_Mix.f a = some (mixI a) := rfl
theorem mix_64 (a : Int) : Is64 (mixI a) := xor_64 _ _
def twoI (a b : Int) : Int := mixI (Go.bits .xor .u64 (mixI a) b)
theorem two_is (a b : Int) : mix_Two.f a b = some (twoI a b) := rfl
theorem half_l : ∀ (d : Nat) (x y : Int) (i m k : Nat), i + d = m → m ≤ 64 → d < k → Is64 y → tattlerref01_half.l0 k x (m : Int) y (i : Int) = some (Go.bits .xor .u64 x (y / 2 ^ d))
  | 0, x, y, i, m, k + 1, h, hm, _, _ => by
    have h1 : ¬ (i : Int) < (m : Int) := by omega
    rw [tattlerref01_half.l0, if_neg h1]
    simp
  | d + 1, x, y, i, m, k + 1, h, hm, hk, hy => by
    have h1 : (i : Int) < (m : Int) := by omega
    have e20 : Int.tdiv y 2 = y / 2 := Int.tdiv_eq_ediv_of_nonneg hy.1
    have h2 : Is64 (y / 2) := by unfold Is64 at *; omega
    rw [tattlerref01_half.l0, if_pos h1, e20, wrap_same h2, wsucc (m := m) (by omega) (by omega), half_l d x (y / 2) (i + 1) m k (by omega) hm (by omega) h2]
    have e21 : y / 2 / 2 ^ d = y / 2 ^ (d + 1) := by
      rw [Int.ediv_ediv_of_nonneg (by decide), Int.pow_succ, Int.mul_comm]
    rw [e21]
theorem half_is (x : Int) (m k : Nat) (hm : m ≤ 64) (hk : m < k) (hx : Is64 x) : tattlerref01_half.f k x (m : Int) = some (Go.bits .xor .u64 x (x / 2 ^ m)) := half_l m x x 0 m k (by omega) hm hk hx
theorem rmix_is (x : Int) (hx : Is64 x) (k : Nat) (hk : 31 < k) : tattlerref01_Mix.f k x = some (mixI x) := by
  unfold tattlerref01_Mix.f
  have h1 := half_is x 30 k (by omega) (by omega) hx
  rw [show ((30 : Nat) : Int) = 30 from rfl] at h1
  rw [h1, Option.bind_some]
  have h2 := half_is (IntKind.u64.wrap (Go.bits .xor .u64 x (x / 2 ^ 30) * 13787848793156543929)) 27 k (by omega) (by omega) (wrap_64 _)
  rw [show ((27 : Nat) : Int) = 27 from rfl] at h2
  rw [h2, Option.bind_some]
  have h3 := half_is (IntKind.u64.wrap (Go.bits .xor .u64 (IntKind.u64.wrap (Go.bits .xor .u64 x (x / 2 ^ 30) * 13787848793156543929)) (IntKind.u64.wrap (Go.bits .xor .u64 x (x / 2 ^ 30) * 13787848793156543929) / 2 ^ 27) * 10723151780598845931)) 31 k (by omega) (by omega) (wrap_64 _)
  rw [show ((31 : Nat) : Int) = 31 from rfl] at h3
  rw [h3, Option.bind_some]
  rfl
theorem rtwo_is (a b : Int) (ha : Is64 a) (k : Nat) (hk : 31 < k) : tattlerref01_Two.f k a b = some (twoI a b) := by
  unfold tattlerref01_Two.f
  rw [rmix_is a ha k hk, Option.bind_some, rmix_is _ (xor_64 _ _) k hk]
  rfl
theorem two_twoI (x y : Int) : two x y = twoI x y := rfl
theorem rtwo01_c (x y : Int) (hx : 0 ≤ x ∧ x < 18446744073709551616) (w : World) : Calls Try.prog 28 #[.int .u64 x, .int .u64 y] w fun e w' => e = .returned (.int .u64 (two x y)) ∧ Below w.heap.size w w' :=
  (tattlerref01_Two.calls 32 x y (two x y) w (by rw [two_twoI]; exact rtwo_is x y hx 32 (by decide))).mono fun e w' h => ⟨h.1, h.2.below⟩
theorem new_l0 (s n : Nat) (hn : n ≤ 64) (hs : s < n) : ∀ d j k, j + d = n → d < k → tattlerref19_New.l0 k (s : Int) (n : Int) (j : Int) (s : Int) (n : Int) (oth s j) 0 0 = some ((s : Int), (n : Int), oth s n, 0, [], 0, 0)
  | 0, j, k + 1, h, _ => by
    have e : j = n := by omega
    subst e
    rw [tattlerref19_New.l0, if_neg (by omega)]
  | d + 1, j, k + 1, h, hk => by
    have ih := new_l0 s n hn hs d (j + 1) k (by omega) (by omega)
    have hl := oth_len s j
    have e0 : wrap64 (s : Int) = (s : Int) := by unfold wrap64; omega
    have e1 := wsucc (i := j) (m := 100) (by omega) (by decide)
    have e2 : (j : Int) % 256 = (j : Int) := by omega
    rw [oth_succ] at ih
    rw [tattlerref19_New.l0, if_pos (by omega), e0, e1, e2]
    by_cases hj : j = s
    · rw [if_pos (by omega)]
      rw [if_pos hj] at ih
      exact ih
    · rw [if_neg (by omega), if_pos (by omega)]
      rw [if_neg hj] at ih
      exact ih
theorem new_ok (s n : Nat) (h1 : 1 ≤ n) (hn : n ≤ 64) (hs : s < n) : tattlerref19_New.f 70 (s : Int) (n : Int) = some ((s : Int), (n : Int), oth s n, 0, [], 0, 0) := by
  have e0 : wrap64 (s : Int) = (s : Int) := by unfold wrap64; omega
  unfold tattlerref19_New.f
  rw [if_neg (by omega), if_neg (by omega), e0, decide_eq_false (by omega), tattlerref19_New.j0, if_neg (by decide)]
  exact new_l0 s n hn hs n 0 69 (by omega) (by omega)
theorem new_no (s n : Int) (hs : 0 ≤ s ∧ s < 256) (h : n < 1 ∨ 64 < n ∨ n ≤ s) : tattlerref19_New.f 70 s n = some (0, 0, [], 0, [], 0, 1) := by
  have e0 : wrap64 s = s := by unfold wrap64; omega
  unfold tattlerref19_New.f
  by_cases h1 : n < 1
  · rw [if_pos h1, tattlerref19_New.j0, if_pos rfl]
  · rw [if_neg h1]
    by_cases h2 : n > 64
    · rw [if_pos h2, tattlerref19_New.j0, if_pos rfl]
    · rw [if_neg h2, e0, decide_eq_true (by omega), tattlerref19_New.j0, if_pos rfl]
def rnewPost (w : World) (s n : Nat) (e : Ending) (w' : World) : Prop := ∃ v, e = .returned (.tuple #[.agg (pV s n v 0 (.slice none 0 0) 0), .int .i64 0]) ∧ St (fun _ => False) w w' [slc (Kd.int .u8) 5 v (oth s n)]
theorem R_nil_form {α : Type} {d : Kd α} {e : Nat} {w : World} {b : Nat} {ok : Nat → Prop} {v : Value} (h : d.R e w b ok v []) : True := trivial
theorem rnew_bad (s n : Int) (hs : 0 ≤ s ∧ s < 256) (h : n < 1 ∨ 64 < n ∨ n ≤ s) (w : World) : Calls Try.prog 11 #[.int .u8 s, .int .i64 n] w fun e w' => (∃ v, e = .returned (.tuple #[v, .int .i64 1])) ∧ Below w.heap.size w w' := by
  refine (tattlerref19_New.calls 70 s n 0 0 [] 0 [] 0 1 w (new_no s n hs h)).mono ?_
  rintro e w' ⟨v2, v4, rfl, _, _, hB⟩
  exact ⟨⟨_, rfl⟩, hB⟩
/-- The document's waits may be an empty row of new memory or none. -/
def rnewPost2 (w : World) (s n : Nat) (e : Ending) (w' : World) : Prop := ∃ v vW, e = .returned (.tuple #[.agg (pV s n v 0 vW 0), .int .i64 0]) ∧ St (fun _ => False) w w' [slc (Kd.int .u8) 5 v (oth s n)] ∧ St (fun _ => False) w w' [slc k88 88 vW []]
theorem rnew_c (s n : Nat) (h1 : 1 ≤ n) (hn : n ≤ 64) (hs : s < n) (w : World) : Calls Try.prog 11 #[.int .u8 s, .int .i64 n] w (rnewPost2 w s n) := by
  refine (tattlerref19_New.calls 70 s n s n (oth s n) 0 [] 0 0 w (new_ok s n h1 hn hs)).mono ?_
  rintro e w' ⟨v2, v4, rfl, h2, h4, hB⟩
  exact ⟨v2, v4, rfl, St.ofR h2 rfl hB, St.ofR h4 rfl hB⟩
end Go.Proofs.Ytjhmkmcongjngaa
