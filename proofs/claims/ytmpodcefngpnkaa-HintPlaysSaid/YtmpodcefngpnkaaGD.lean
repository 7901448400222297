import Derived.Test.YtmpodcefngpnkaaHB
import Derived.Test.YtmpodcefngpnkaaHD
import Derived.Laws.BitsAllLaws
namespace Go.Proofs.Ytmpodcefngpnkaa
open Go.RowKit Go.Proofs.YtmpodcefngpnkaaW.PrintWords PHintPlays
/-! ### Numbers mixed -/
def Is64 (x : Int) : Prop := 0 ≤ x ∧ x < 18446744073709551616
theorem wrap_64 (x : Int) : Is64 (IntKind.u64.wrap x) := by unfold Is64; rw [IntKind.wrap_u64]; omega
theorem wrap_same {x : Int} (h : Is64 x) : IntKind.u64.wrap x = x := by unfold Is64 at h; rw [IntKind.wrap_u64]; omega
theorem xor_64 (a b : Int) : Is64 (Go.bits .xor .u64 a b) := by
  have h : ∃ v, Go.bits .xor .u64 a b = IntKind.u64.wrap v := ⟨_, rfl⟩
  obtain ⟨v, h⟩ := h
  rw [h]
  exact wrap_64 v
def mixI (a : Int) : Int := (mix_Mix.f a).getD 0
theorem mix_is (a : Int) : mix_Mix.f a = some (mixI a) := rfl
theorem mix_64 (a : Int) : Is64 (mixI a) := xor_64 _ _
/-- A text's bytes mixed in, one after the other. -/
def txF (s : ByteArray) (x : Int) (i : Nat) : Nat → Int
  | 0 => mixI (Go.bits .xor .u64 x (IntKind.u64.wrap (s.size : Int)))
  | d + 1 => txF s (mixI (Go.bits .xor .u64 x (IntKind.u64.wrap (bt s (i : Int))))) (i + 1) d
def txI (s : ByteArray) : Int := txF s 11400714819323198485 0 s.size
def twoI (a b : Int) : Int := mixI (Go.bits .xor .u64 (mixI a) b)
def wt (s : ByteArray) (n : Int) : Int := twoI (txI s) (IntKind.u64.wrap (IntKind.u64.wrap n + 1))
theorem txF_64 (s : ByteArray) : ∀ d i x, Is64 (txF s x i d)
  | 0, _, _ => mix_64 _
  | d + 1, i, _ => txF_64 s d (i + 1) _
theorem text_l (s : ByteArray) (hs : s.size < 4611686018427387904) : ∀ d i x k, i + d = s.size → d < k → mix_Text.l0 k s x (s.size : Int) (i : Int) = some (txF s x i d)
  | 0, i, x, k + 1, h, _ => by
    have h1 : ¬ (i : Int) < (s.size : Int) := by omega
    rw [mix_Text.l0, if_neg h1, mix_is]
    rfl
  | d + 1, i, x, k + 1, h, hk => by
    have h1 : (i : Int) < (s.size : Int) := by omega
    have h2 : (0 : Int) ≤ (i : Int) := by omega
    rw [mix_Text.l0, if_pos h1, if_pos h2, if_pos h1, mix_is, wrap64_succ (by omega) hs]
    show mix_Text.l0 k s _ _ _ = _
    rw [text_l s hs d (i + 1) _ k (by omega) (by omega)]
    rfl
theorem text_is (s : ByteArray) (hs : s.size < 4611686018427387904) (k : Nat) (hk : s.size < k) : mix_Text.f k s = some (txI s) := text_l s hs s.size 0 _ k (by omega) hk
theorem two_is (a b : Int) : mix_Two.f a b = some (twoI a b) := rfl
theorem weight_is (s : ByteArray) (n : Int) (hs : s.size < 4611686018427387904) (k : Nat) (hk : s.size < k) : ring_Weight.f k s n = some (wt s n) := by
  unfold ring_Weight.f
  rw [text_is s hs k hk]
  rfl
theorem wt_64 (s : ByteArray) (n : Int) : Is64 (wt s n) := mix_64 _
theorem weight_c (s : ByteArray) (n : Int) (hs : s.size < 4611686018427387904) (w : World) : Calls Try.prog 54 #[.string s, .int .u8 n] w fun e w' => e = .returned (.int .u64 (wt s n)) ∧ Drawn0 w w' :=
  ring_Weight.calls (s.size + 1) s n _ w (weight_is s n hs _ (by omega))
/-! ### The same, as the document's answer has it -/
theorem half_l : ∀ (d : Nat) (x y : Int) (i m k : Nat), i + d = m → m ≤ 64 → d < k → Is64 y → tattlerref01_half.l0 k x (m : Int) y (i : Int) = some (Go.bits .xor .u64 x (y / 2 ^ d))
  | 0, x, y, i, m, k + 1, h, hm, _, _ => by
    have h1 : ¬ (i : Int) < (m : Int) := by omega
    rw [tattlerref01_half.l0, if_neg h1]
    simp
  | d + 1, x, y, i, m, k + 1, h, hm, hk, hy => by
    have h1 : (i : Int) < (m : Int) := by omega
    have e1 : Int.tdiv y 2 = y / 2 := Int.tdiv_eq_ediv_of_nonneg hy.1
    have h2 : Is64 (y / 2) := by unfold Is64 at *; omega
    rw [tattlerref01_half.l0, if_pos h1, e1, wrap_same h2, wrap64_succ (m := m) (by omega) (by omega), half_l d x (y / 2) (i + 1) m k (by omega) hm (by omega) h2]
    have e2 : y / 2 / 2 ^ d = y / 2 ^ (d + 1) := by
      rw [Int.ediv_ediv_of_nonneg (by decide), Int.pow_succ, Int.mul_comm]
    rw [e2]
theorem half_is (x : Int) (m k : Nat) (hm : m ≤ 64) (hk : m < k) (hx : Is64 x) : tattlerref01_half.f k x (m : Int) = some (Go.bits .xor .u64 x (x / 2 ^ m)) := half_l m x x 0 m k (by omega) hm hk hx
theorem rmix_is (x : Int) (hx : Is64 x) (k : Nat) (hk : 31 < k) : tattlerref01_Mix.f k x = some (mixI x) := by
  unfold tattlerref01_Mix.f
  have h1 := half_is x 30 k (by omega) (by omega) hx
  rw [show ((30 : Nat) : Int) = 30 from rfl] at h1
  rw [h1, Option.bind_some]
  have h2 := half_is (IntKind.u64.wrap (Go.bits .xor .u64 x (x / 2 ^ 30) * 13787848793156543929)) 27 k (by omega) (by omega) (wrap_64 _)
  rw [show ((27 : Nat) : Int) = 27 from rfl] at h2
  rw [h2, Option.bind_some]
  have h3 := half_is (IntKind.u64.wrap (Go.bits .xor .u64 (IntKind.u64.wrap (Go.bits .xor .u64 x (x / 2 ^ 30) * 13787848793156543929)) (IntKind.u64.wrap (Go.bits .xor .u64 x (x / 2 ^ 30) * 13787848793156543929) / 2 ^ 27) * 10723151780598845931)) 31 k (by omega) (by omega) (wrap_64 _)
  rw [show ((31 : Nat) : Int) = 31 from rfl] at h3
  rw [h3, Option.bind_some]
  rfl
theorem rtext_l (s : ByteArray) (hs : s.size < 4611686018427387904) : ∀ d i x k, i + d = s.size → d + 32 < k → Is64 x → tattlerref01_Text.l0 k s x (i : Int) = some (txF s x i d)
  | 0, i, x, k + 1, h, hk, hx => by
    have h1 : ¬ (i : Int) < (s.size : Int) := by omega
    rw [tattlerref01_Text.l0, if_neg h1, rmix_is _ (xor_64 _ _) k (by omega)]
    rfl
  | d + 1, i, x, k + 1, h, hk, hx => by
    have h1 : (i : Int) < (s.size : Int) := by omega
    have h2 : (0 : Int) ≤ (i : Int) := by omega
    rw [tattlerref01_Text.l0, if_pos h1, if_pos h2, rmix_is _ (xor_64 _ _) k (by omega), wrap64_succ (by omega) hs]
    show tattlerref01_Text.l0 k s _ _ = _
    rw [rtext_l s hs d (i + 1) _ k (by omega) (by omega) (mix_64 _)]
    rfl
theorem rtext_is (s : ByteArray) (hs : s.size < 4611686018427387904) (k : Nat) (hk : s.size + 32 < k) : tattlerref01_Text.f k s = some (txI s) := rtext_l s hs s.size 0 _ k (by omega) hk (by unfold Is64; omega)
theorem rtwo_is (a b : Int) (ha : Is64 a) (k : Nat) (hk : 31 < k) : tattlerref01_Two.f k a b = some (twoI a b) := by
  unfold tattlerref01_Two.f
  rw [rmix_is a ha k hk, Option.bind_some, rmix_is _ (xor_64 _ _) k hk]
  rfl
theorem rweight_is (s : ByteArray) (n : Int) (hs : s.size < 4611686018427387904) (k : Nat) (hk : s.size + 32 < k) : tattlerref16_Weight.f k s n = some (wt s n) := by
  unfold tattlerref16_Weight.f
  rw [rtext_is s hs k hk, Option.bind_some, rtwo_is (txI s) _ (txF_64 _ _ _ _) k (by omega)]
  rfl
end Go.Proofs.Ytmpodcefngpnkaa
