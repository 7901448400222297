/- Several texts put together. -/
import Derived.Test.YtecgnfklfgjgaaaSBa
import Derived.Test.YtecgnfklfgjgaaaRecA
import Derived.Laws.BitsAllLaws
import Derived.Laws.Bits64
import Derived.StillTailTactics
import Derived.Deep.LoopGhost
set_option linter.unusedVariables false
set_option linter.unusedSimpArgs false
namespace Go.Proofs.Ytecgnfklfgjgaaa
open Go.RowKit Go.Tat Go.Proofs.YtecgnfklfgjgaaaW.PrintWords PStorePeeks
/-! ### Numbers mixed -/
def Is64 (x : Int) : Prop := 0 ≤ x ∧ x < 18446744073709551616
theorem wrap_64 (x : Int) : Is64 (IntKind.u64.wrap x) := by unfold Is64; rw [IntKind.wrap_u64]; omega
theorem wrap_same {x : Int} (h : Is64 x) : IntKind.u64.wrap x = x := by unfold Is64 at h; rw [IntKind.wrap_u64]; omega
theorem xor_64 (a b : Int) : Is64 (Go.bits .xor .u64 a b) := by
  have h : ∃ v, Go.bits .xor .u64 a b = IntKind.u64.wrap v := ⟨_, rfl⟩
  obtain ⟨v, h⟩ := h
  rw [h]
  exact wrap_64 v
def mixI (a : Int) : Int := (mix_Mix.f a).getD 0
theorem mix_is (a : Int) : mix_Mix.f a = some (mixI a) := rfl
theorem mix_64 (a : Int) : Is64 (mixI a) := xor_64 _ _
/-- A text's bytes mixed in, one after the other. -/
def txF (s : ByteArray) (x : Int) (i : Nat) : Nat → Int
  | 0 => mixI (Go.bits .xor .u64 x (IntKind.u64.wrap (s.size : Int)))
  | d + 1 => txF s (mixI (Go.bits .xor .u64 x (IntKind.u64.wrap (bt s (i : Int))))) (i + 1) d
def txI (s : ByteArray) : Int := txF s 11400714819323198485 0 s.size
def twoI (a b : Int) : Int := mixI (Go.bits .xor .u64 (mixI a) b)
theorem txF_64 (s : ByteArray) : ∀ d i x, Is64 (txF s x i d)
  | 0, _, _ => mix_64 _
  | d + 1, i, _ => txF_64 s d (i + 1) _
theorem text_l (s : ByteArray) (hs : s.size < 4611686018427387904) : ∀ d i x k, i + d = s.size → d < k → mix_Text.l0 k s x (s.size : Int) (i : Int) = some (txF s x i d)
  | 0, i, x, k + 1, h, _ => by
    have h1 : ¬ (i : Int) < (s.size : Int) := by omega
    rw [mix_Text.l0, if_neg h1, mix_is]
    rfl
  | d + 1, i, x, k + 1, h, hk => by
    have h1 : (i : Int) < (s.size : Int) := by omega
    have h2 : (0 : Int) ≤ (i : Int) := by omega
    rw [mix_Text.l0, if_pos h1, if_pos h2, if_pos h1, mix_is, wrap64_succ (by omega) hs]
    show mix_Text.l0 k s _ _ _ = _
    rw [text_l s hs d (i + 1) _ k (by omega) (by omega)]
    rfl
theorem text_is (s : ByteArray) (hs : s.size < 4611686018427387904) (k : Nat) (hk : s.size < k) : mix_Text.f k s = some (txI s) := text_l s hs s.size 0 _ k (by omega) hk
theorem two_is (a b : Int) : mix_Two.f a b = some (twoI a b) := rfl
/-! ### The same, as the document's answer has it -/
theorem half_l : ∀ (d : Nat) (x y : Int) (i m k : Nat), i + d = m → m ≤ 64 → d < k → Is64 y → tattlerref01_half.l0 k x (m : Int) y (i : Int) = some (Go.bits .xor .u64 x (y / 2 ^ d))
  | 0, x, y, i, m, k + 1, h, hm, _, _ => by
    have h1 : ¬ (i : Int) < (m : Int) := by omega
    rw [tattlerref01_half.l0, if_neg h1]
    simp
  | d + 1, x, y, i, m, k + 1, h, hm, hk, hy => by
    have h1 : (i : Int) < (m : Int) := by omega
    have e1 : Int.tdiv y 2 = y / 2 := Int.tdiv_eq_ediv_of_nonneg hy.1
    have h2 : Is64 (y / 2) := by unfold Is64 at *; omega
    rw [tattlerref01_half.l0, if_pos h1, e1, wrap_same h2, wrap64_succ (m := m) (by omega) (by omega), half_l d x (y / 2) (i + 1) m k (by omega) hm (by omega) h2]
    have e2 : y / 2 / 2 ^ d = y / 2 ^ (d + 1) := by
      rw [Int.ediv_ediv_of_nonneg (by decide), Int.pow_succ, Int.mul_comm]
    rw [e2]
theorem half_is (x : Int) (m k : Nat) (hm : m ≤ 64) (hk : m < k) (hx : Is64 x) : tattlerref01_half.f k x (m : Int) = some (Go.bits .xor .u64 x (x / 2 ^ m)) := half_l m x x 0 m k (by omega) hm hk hx
theorem rmix_is (x : Int) (hx : Is64 x) (k : Nat) (hk : 31 < k) : tattlerref01_Mix.f k x = some (mixI x) := by
  unfold tattlerref01_Mix.f
  have h1 := half_is x 30 k (by omega) (by omega) hx
  rw [show ((30 : Nat) : Int) = 30 from rfl] at h1
  rw [h1, Option.bind_some]
  have h2 := half_is (IntKind.u64.wrap (Go.bits .xor .u64 x (x / 2 ^ 30) * 13787848793156543929)) 27 k (by omega) (by omega) (wrap_64 _)
  rw [show ((27 : Nat) : Int) = 27 from rfl] at h2
  rw [h2, Option.bind_some]
  have h3 := half_is (IntKind.u64.wrap (Go.bits .xor .u64 (IntKind.u64.wrap (Go.bits .xor .u64 x (x / 2 ^ 30) * 13787848793156543929)) (IntKind.u64.wrap (Go.bits .xor .u64 x (x / 2 ^ 30) * 13787848793156543929) / 2 ^ 27) * 10723151780598845931)) 31 k (by omega) (by omega) (wrap_64 _)
  rw [show ((31 : Nat) : Int) = 31 from rfl] at h3
  rw [h3, Option.bind_some]
  rfl
theorem rtext_l (s : ByteArray) (hs : s.size < 4611686018427387904) : ∀ d i x k, i + d = s.size → d + 32 < k → Is64 x → tattlerref01_Text.l0 k s x (i : Int) = some (txF s x i d)
  | 0, i, x, k + 1, h, hk, hx => by
    have h1 : ¬ (i : Int) < (s.size : Int) := by omega
    rw [tattlerref01_Text.l0, if_neg h1, rmix_is _ (xor_64 _ _) k (by omega)]
    rfl
  | d + 1, i, x, k + 1, h, hk, hx => by
    have h1 : (i : Int) < (s.size : Int) := by omega
    have h2 : (0 : Int) ≤ (i : Int) := by omega
    rw [tattlerref01_Text.l0, if_pos h1, if_pos h2, rmix_is _ (xor_64 _ _) k (by omega), wrap64_succ (by omega) hs]
    show tattlerref01_Text.l0 k s _ _ = _
    rw [rtext_l s hs d (i + 1) _ k (by omega) (by omega) (mix_64 _)]
    rfl
theorem rtext_is (s : ByteArray) (hs : s.size < 4611686018427387904) (k : Nat) (hk : s.size + 32 < k) : tattlerref01_Text.f k s = some (txI s) := rtext_l s hs s.size 0 _ k (by omega) hk (by unfold Is64; omega)
/-! ### Ranges, weights -/
theorem txI_64 (s : ByteArray) : Is64 (txI s) := txF_64 _ _ _ _
/-- A key's range. -/
def rgN (k : ByteArray) : Nat := (txI k / 288230376151711744).toNat
theorem rgN_i (k : ByteArray) : txI k / 288230376151711744 = (rgN k : Int) := by
  have h := txI_64 k
  unfold rgN
  unfold Is64 at h
  omega
theorem rgN_lt (k : ByteArray) : rgN k < 64 := by
  have h := txI_64 k
  unfold rgN
  unfold Is64 at h
  omega
theorem text_c (s : ByteArray) (hs : s.size < 4611686018427387904) (w : World) : Calls Try.prog 52 #[.string s] w fun e w' => e = .returned (.int .u64 (txI s)) ∧ Drawn0 w w' :=
  mix_Text.calls (s.size + 1) s _ w (text_is s hs _ (by omega))
theorem range_c (s : ByteArray) (hs : s.size < 4611686018427387904) (w : World) : Calls Try.prog 31 #[.string s] w fun e w' => e = .returned (.int .i64 (rgN s : Int)) ∧ Drawn0 w w' := by
  refine mix_Range.calls (s.size + 1) s _ w ?_
  unfold mix_Range.f
  have h := rgN_lt s
  rw [text_is s hs _ (by omega), Option.bind_some, rgN_i, show wrap64 (rgN s : Int) = (rgN s : Int) by unfold wrap64; omega]
theorem two_c (a b : Int) (w : World) : Calls Try.prog 75 #[.int .u64 a, .int .u64 b] w fun e w' => e = .returned (.int .u64 (twoI a b)) ∧ Drawn0 w w' :=
  mix_Two.calls a b _ w (two_is a b)
theorem rrange_c (s : ByteArray) (hs : s.size < 4611686018427387904) (w : World) : Calls Try.prog 21 #[.string s] w fun e w' => e = .returned (.int .i64 (rgN s : Int)) ∧ Drawn0 w w' := by
  refine tattlerref01_Range.calls (s.size + 33) s _ w ?_
  unfold tattlerref01_Range.f
  rw [rtext_is s hs _ (by omega), Option.bind_some]
  have := rgN_i s
  have h := rgN_lt s
  have h2 := txI_64 s
  rw [Int.tdiv_eq_ediv_of_nonneg h2.1, this, show IntKind.u64.wrap (rgN s : Int) = (rgN s : Int) by rw [IntKind.wrap_u64]; omega, show wrap64 (rgN s : Int) = (rgN s : Int) by unfold wrap64; omega]
def wgt (r : Rc) : Nat := r.f0.size + r.f5.size
theorem weight_c (r : Rc) (h1 : r.f0.size < 4611686018427387904) (h2 : r.f5.size < 4611686018427387904) (w : World) : Calls Try.prog 32 #[.agg (eRc r).toArray] w fun e w' => e = .returned (.int .i64 (wgt r : Int)) ∧ Below w.heap.size w w' := by
  refine store_weight.calls r.f0 r.f1.f0 r.f1.f1 r.f1.f2 r.f2 r.f3 r.f4 r.f5 _ w ?_
  unfold store_weight.f wgt
  congr 1
  unfold wrap64; omega
end Go.Proofs.Ytecgnfklfgjgaaa
/- A record's number. -/
set_option linter.unusedVariables false
set_option linter.unusedSimpArgs false
namespace Go.Proofs.Ytecgnfklfgjgaaa
open Go.RowKit Go.Tat Go.Proofs.YtecgnfklfgjgaaaW.PrintWords PStorePeeks
theorem size31 : (Try.prog.info? 31).map (·.size) = some 1 := by kernel_rfl
theorem index_four {V : List Value} {j : Nat} {v : Value} (hv : V[j]? = some v) (hj : j < 4) (w : World) : (Instr.index 127 (.agg V.toArray) (.int .i64 (j : Int))).run Try.prog w = .ok v w := by
  have h1 : (0 : Int) ≤ (j : Int) ∧ (j : Int) < (4 : Nat) := by omega
  obtain ⟨i, hi, hs⟩ := Option.map_eq_some_iff.1 size31
  have hv' : V.toArray[j]? = some v := by simpa using hv
  unfold Instr.index
  simp only [asIntOf, Sem.run_bind, Sem.run_pure, Result.andThen_ok, run_underlying Try.underlying127 w, run_underlying Try.underlying31 w]
  rw [if_pos h1]
  simp only [part, isAgg, sizeOf, typeInfo, Sem.run_bind, Sem.run_pure, Result.andThen_ok, run_underlying Try.underlying31 w, run_program, hi, hs]
  simp [hv']
def dgX (r : Rc) : Nat → Int
  | 0 => txI r.f0
  | 1 => twoI (txI r.f0) r.f1.f0
  | 2 => twoI (twoI (txI r.f0) r.f1.f0) (IntKind.u64.wrap r.f1.f1)
  | 3 => twoI (twoI (twoI (txI r.f0) r.f1.f0) (IntKind.u64.wrap r.f1.f1)) (IntKind.u64.wrap r.f1.f2)
  | _ => twoI (twoI (twoI (twoI (txI r.f0) r.f1.f0) (IntKind.u64.wrap r.f1.f1)) (IntKind.u64.wrap r.f1.f2)) (IntKind.u64.wrap r.f2)
def digI (r : Rc) : Int := dgX r 4
theorem digI_64 (r : Rc) : Is64 (digI r) := mix_64 _
set_option maxRecDepth 100000 in
set_option maxHeartbeats 4000000 in
theorem dig_c (r : Rc) (hs : r.f0.size < 4611686018427387904) (w : World) : Calls Try.prog 56 #[.agg (eRc r).toArray] w fun e w' => e = .returned (.int .u64 (digI r)) ∧ Below w.heap.size w w' := by
  have H1 := Lib.hid (text_c r.f0 hs)
  have H2 := Lib.hid two_c
  obtain ⟨k, ⟨a0, a1, a2⟩, a3, a4, a5, a6⟩ := r
  unfold digI
  have e0 : dgX ⟨k, ⟨a0, a1, a2⟩, a3, a4, a5, a6⟩ 0 = txI k := rfl
  have e1 : dgX ⟨k, ⟨a0, a1, a2⟩, a3, a4, a5, a6⟩ 1 = twoI (dgX ⟨k, ⟨a0, a1, a2⟩, a3, a4, a5, a6⟩ 0) a0 := rfl
  have e2 : dgX ⟨k, ⟨a0, a1, a2⟩, a3, a4, a5, a6⟩ 2 = twoI (dgX ⟨k, ⟨a0, a1, a2⟩, a3, a4, a5, a6⟩ 1) (IntKind.u64.wrap a1) := rfl
  have e3 : dgX ⟨k, ⟨a0, a1, a2⟩, a3, a4, a5, a6⟩ 3 = twoI (dgX ⟨k, ⟨a0, a1, a2⟩, a3, a4, a5, a6⟩ 2) (IntKind.u64.wrap a2) := rfl
  have e4 : dgX ⟨k, ⟨a0, a1, a2⟩, a3, a4, a5, a6⟩ 4 = twoI (dgX ⟨k, ⟨a0, a1, a2⟩, a3, a4, a5, a6⟩ 3) (IntKind.u64.wrap a3) := rfl
  generalize dgX ⟨k, ⟨a0, a1, a2⟩, a3, a4, a5, a6⟩ = X at *
  have HE := Lib.hid (And.intro e0 (And.intro e1 (And.intro e2 (And.intro e3 e4))))
  dsimp only at H1
  clear e0 e1 e2 e3 e4
  generalize hT : txI k = T at *
  clear hT
  unfold eRc
  have hB := Below.refl w.heap.size w
  go_enter Try.func56, Try.ntmps56
  go_wp2_with (go_at_call 52; refine (H1.out _).mono ?_; rintro e w1 ⟨rfl, ⟨nd, rfl⟩⟩)
  go_loopg [3, 24] 5 (fun kq v i W => ∃ j : Nat, j ≤ 4 ∧ kq = 5 - j ∧ v = .int .u64 (X j) ∧ i = .int .i64 (j : Int) ∧ Below w.heap.size w W)
  case atStart =>
    exact ⟨0, by omega, rfl, by rw [HE.out.1], rfl, by repeat (first | exact Below.refl _ _ | apply below_alloc | apply below_drew1 | apply pw_below_drewN)⟩
  case round =>
    obtain ⟨j, hj, hk, rfl, rfl, hb⟩ := hrel
    have hj' : j = 0 ∨ j = 1 ∨ j = 2 ∨ j = 3 ∨ j = 4 := by omega
    have HB := Lib.hid hb
    clear hb hB
    rcases hj' with rfl | rfl | rfl | rfl | rfl
    · have hix : ∀ W, (Instr.index 127 (.agg #[.int .u64 a0, .int .u64 (IntKind.u64.wrap a1), .int .u64 (IntKind.u64.wrap a2), .int .u64 (IntKind.u64.wrap a3)]) (.int .i64 0)).run Try.prog W = .ok (.int .u64 (a0)) W := fun W => index_four (V := [.int .u64 a0, .int .u64 (IntKind.u64.wrap a1), .int .u64 (IntKind.u64.wrap a2), .int .u64 (IntKind.u64.wrap a3)]) (j := 0) rfl (by decide) W
      go_wp2_with (go_at_call 75; refine (H2.out _ _ _).mono ?_; rintro e w1 ⟨rfl, ⟨nd, rfl⟩⟩)
      go_roundg 4
      case measure => omega
      case rel => exact ⟨1, by omega, rfl, by rw [HE.out.2.1], rfl, pw_below_drewN HB.out _⟩
    · have hix : ∀ W, (Instr.index 127 (.agg #[.int .u64 a0, .int .u64 (IntKind.u64.wrap a1), .int .u64 (IntKind.u64.wrap a2), .int .u64 (IntKind.u64.wrap a3)]) (.int .i64 1)).run Try.prog W = .ok (.int .u64 (IntKind.u64.wrap a1)) W := fun W => index_four (V := [.int .u64 a0, .int .u64 (IntKind.u64.wrap a1), .int .u64 (IntKind.u64.wrap a2), .int .u64 (IntKind.u64.wrap a3)]) (j := 1) rfl (by decide) W
      go_wp2_with (go_at_call 75; refine (H2.out _ _ _).mono ?_; rintro e w1 ⟨rfl, ⟨nd, rfl⟩⟩)
      go_roundg 3
      case measure => omega
      case rel => exact ⟨2, by omega, rfl, by rw [HE.out.2.2.1], rfl, pw_below_drewN HB.out _⟩
    · have hix : ∀ W, (Instr.index 127 (.agg #[.int .u64 a0, .int .u64 (IntKind.u64.wrap a1), .int .u64 (IntKind.u64.wrap a2), .int .u64 (IntKind.u64.wrap a3)]) (.int .i64 2)).run Try.prog W = .ok (.int .u64 (IntKind.u64.wrap a2)) W := fun W => index_four (V := [.int .u64 a0, .int .u64 (IntKind.u64.wrap a1), .int .u64 (IntKind.u64.wrap a2), .int .u64 (IntKind.u64.wrap a3)]) (j := 2) rfl (by decide) W
      go_wp2_with (go_at_call 75; refine (H2.out _ _ _).mono ?_; rintro e w1 ⟨rfl, ⟨nd, rfl⟩⟩)
      go_roundg 2
      case measure => omega
      case rel => exact ⟨3, by omega, rfl, by rw [HE.out.2.2.2.1], rfl, pw_below_drewN HB.out _⟩
    · have hix : ∀ W, (Instr.index 127 (.agg #[.int .u64 a0, .int .u64 (IntKind.u64.wrap a1), .int .u64 (IntKind.u64.wrap a2), .int .u64 (IntKind.u64.wrap a3)]) (.int .i64 3)).run Try.prog W = .ok (.int .u64 (IntKind.u64.wrap a3)) W := fun W => index_four (V := [.int .u64 a0, .int .u64 (IntKind.u64.wrap a1), .int .u64 (IntKind.u64.wrap a2), .int .u64 (IntKind.u64.wrap a3)]) (j := 3) rfl (by decide) W
      go_wp2_with (go_at_call 75; refine (H2.out _ _ _).mono ?_; rintro e w1 ⟨rfl, ⟨nd, rfl⟩⟩)
      go_roundg 1
      case measure => omega
      case rel => exact ⟨4, by omega, rfl, by rw [HE.out.2.2.2.2], rfl, pw_below_drewN HB.out _⟩
    · go_wp2
      go_ret
      exact ⟨rfl, HB.out⟩
end Go.Proofs.Ytecgnfklfgjgaaa
