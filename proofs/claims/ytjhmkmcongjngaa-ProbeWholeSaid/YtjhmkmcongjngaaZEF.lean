/- Several texts put together. -/
import Derived.Shelf.Small.Bits
import Derived.Test.YtjhmkmcongjngaaProg
import Derived.Test.YtjhmkmcongjngaaZCD
import Derived.Lib.ItoaNum
import Derived.Laws.BitsAllLaws
set_option linter.unusedVariables false
set_option linter.unusedSimpArgs false
/- bits.Len: the library's contract at this program. -/
set_option linter.unusedVariables false
set_option linter.unusedSimpArgs false
namespace Go.Proofs.Ytjhmkmcongjngaa
open Go.Shelf
def lenRen : Go.Shelf.Ren := ⟨fun | 125 => 38 | 128 => 50 | 129 => 51 | n => n, fun | 3 => 3 | 4 => 4 | 5 => 5 | 9 => 9 | 46 => 102 | 51 => 62 | 53 => 29 | n => n, fun | n => n⟩
theorem lenLays : Go.Proofs.Lays.n125 Try.prog lenRen := {
  mixed := by kernel_rfl
  f125 := Try.func38.trans (congrArg some (by kernel_rfl))
  f128 := Try.func50.trans (congrArg some (by kernel_rfl))
  f129 := Try.func51.trans (congrArg some (by kernel_rfl))
  t3 := Try.underlying3
  a3 := Try.isAgg3
  z3 := Try.sizeOf3
  v3 := Try.zeroValue3
  t4 := Try.underlying4
  a4 := Try.isAgg4
  z4 := Try.sizeOf4
  v4 := Try.zeroValue4
  t5 := Try.underlying5
  a5 := Try.isAgg5
  z5 := Try.sizeOf5
  v5 := Try.zeroValue5
  t9 := Try.underlying9
  a9 := Try.isAgg9
  z9 := Try.sizeOf9
  v9 := Try.zeroValue9
  t46 := Try.underlying102
  a46 := Try.isAgg102
  z46 := Try.sizeOf102
  v46 := Try.zeroValue102
  t51 := Try.underlying62
  a51 := Try.isAgg62
  z51 := Try.sizeOf62
  v51 := Try.zeroValue62
  t53 := Try.underlying29
  a53 := Try.isAgg29
  z53 := Try.sizeOf29
  v53 := Try.zeroValue29 }
theorem len_c (x : Int) (w : World) (h0 : 0 ≤ x) (h1 : x ≤ 18446744073709551615) : Calls Try.prog 38 #[.int .u64 x] w fun e w' => e = .returned (.int .i64 (Lib.bitLen x.toNat)) ∧ w' = w := Any.bits_Len lenLays x w h0 h1
end Go.Proofs.Ytjhmkmcongjngaa
/- The sort of []uint8: numbers for breaking patterns. -/
set_option linter.unusedVariables false
set_option linter.unusedSimpArgs false
namespace Go.Proofs.Ytjhmkmcongjngaa
open Go.RowKit Go.Tat Go.Proofs.YtjhmkmcongjngaaW.PrintWords
theorem len_b (L : Nat) (h0 : 0 < L) (h1 : L ≤ 1000000) : ∃ k, Lib.bitLen L = k + 1 ∧ k < 20 ∧ 2 ^ k ≤ L ∧ L < 2 ^ (k + 1) := by
  have h := Lib.bitLenAux_bounds 64 L (by omega) (by omega)
  have h2 : Lib.bitLen L ≤ 20 := Lib.bitLen_le L 20 (by decide) (by omega)
  have e : Lib.bitLenAux 64 L = Lib.bitLen L := rfl
  rw [e] at h
  obtain ⟨k, hk⟩ : ∃ k, Lib.bitLen L = k + 1 := ⟨Lib.bitLen L - 1, by omega⟩
  rw [hk] at h h2
  exact ⟨k, hk, by omega, by simpa using h.2.1, h.2.2⟩
set_option maxRecDepth 100000 in
theorem pow_c (L : Nat) (h0 : 0 < L) (h1 : L ≤ 1000000) (w : World) : Calls Try.prog 53 #[.int .i64 L] w fun e w' => (∃ M : Nat, e = .returned (.int .u64 M) ∧ 1 ≤ M ∧ M ≤ 2 * L) ∧ w' = w := by
  have HL := Lib.hid (fun w => len_c (L : Int) w (by omega) (by omega))
  obtain ⟨k, hk, hk2, hk3, hk4⟩ := len_b L h0 h1
  have HK := Lib.hid (And.intro hk (And.intro hk3 hk4))
  have b1 : (L : Int) ≤ 1000000 := by omega
  clear hk hk3 hk4 h0 h1
  go_enter Try.func53, Try.ntmps53
  go_wp2_with fail
  refine (HL.out w).mono ?_
  rintro e w' ⟨rfl, rfl⟩
  rw [show (L : Int).toNat = L from by omega, HK.out.1]
  have hki : (k : Int) < 20 := by omega
  go_wp2_with fail
  go_ret
  have e1 : ((2 : Int) ^ (k + 1)) = ((2 ^ (k + 1) : Nat) : Int) := by simp
  have hk3 := HK.out.2
  have hw : IntKind.u64.wrap ((2 : Int) ^ (k + 1)) = ((2 ^ (k + 1) : Nat) : Int) := by
    rw [e1, IntKind.wrap_u64]
    rw [Nat.pow_succ] at *
    generalize 2 ^ k = P at *
    omega
  refine ⟨⟨2 ^ (k + 1), congrArg (fun x => Ending.returned (.int .u64 x)) hw, ?_, ?_⟩, rfl⟩
  · rw [Nat.pow_succ] at *
    generalize 2 ^ k = P at *
    omega
  · rw [Nat.pow_succ] at *
    generalize 2 ^ k = P at *
    omega
def NPost (F : Nat → Prop) (w0 : World) (A : List Asr) (z : Nat) (e : Ending) (w' : World) : Prop := ∃ s : Int, 0 ≤ s ∧ s < 18446744073709551616 ∧ e = .returned (.int .u64 s) ∧ St F w0 w' (A ++ [blk z #[.int .u64 s] 115])
theorem xor_r (a b : Int) : 0 ≤ Go.bits .xor .u64 a b ∧ Go.bits .xor .u64 a b < 18446744073709551616 := by
  have h : ∃ v, Go.bits .xor .u64 a b = IntKind.u64.wrap v := ⟨_, rfl⟩
  obtain ⟨v, h⟩ := h
  rw [h, IntKind.wrap_u64]
  omega
set_option maxRecDepth 100000 in
set_option maxHeartbeats 4000000 in
theorem next_c {F : Nat → Prop} {w0 w : World} (a : Asr) (z : Nat) (s : Int) (h : St F w0 w [a, blk z #[.int .u64 s] 115]) : Calls Try.prog 54 #[.pointer (some ⟨z, 0, none⟩)] w (NPost F w0 [a] z) := by
  have H0 := Lib.hid h
  have c0 : w.cell? ⟨z, 0, none⟩ = some (.int .u64 s) := h.cell 1 rfl 0
  have f0 := h.frozen 1 rfl 0
  have c1 : ∀ v, (w.setCell ⟨z, 0, none⟩ v).cell? ⟨z, 0, none⟩ = some v := fun v => (h.set 1 rfl 0 v).cell 1 rfl 0
  have f1 : ∀ v, (w.setCell ⟨z, 0, none⟩ v).frozen? ⟨z, 0, none⟩ = false := fun v => (h.set 1 rfl 0 v).frozen 1 rfl 0
  have c2 : ∀ v v', ((w.setCell ⟨z, 0, none⟩ v).setCell ⟨z, 0, none⟩ v').cell? ⟨z, 0, none⟩ = some v' := fun v v' => ((h.set 1 rfl 0 v).set 1 rfl 0 v').cell 1 rfl 0
  have f2 : ∀ v v', ((w.setCell ⟨z, 0, none⟩ v).setCell ⟨z, 0, none⟩ v').frozen? ⟨z, 0, none⟩ = false := fun v v' => ((h.set 1 rfl 0 v).set 1 rfl 0 v').frozen 1 rfl 0
  have c3 : ∀ v v' v'', (((w.setCell ⟨z, 0, none⟩ v).setCell ⟨z, 0, none⟩ v').setCell ⟨z, 0, none⟩ v'').cell? ⟨z, 0, none⟩ = some v'' := fun v v' v'' => (((h.set 1 rfl 0 v).set 1 rfl 0 v').set 1 rfl 0 v'').cell 1 rfl 0
  clear h
  go_enter Try.func54, Try.ntmps54
  go_upto_region 1 with fail
  go_region
  go_upto_region 2 with fail
  go_region
  go_upto_region 3 with fail
  go_region
  go_wp2_with fail
  go_ret
  refine ⟨_, (xor_r _ _).1, (xor_r _ _).2, rfl, ?_⟩
  first | exact ((((H0.out.set 1 rfl 0 _).set 1 rfl 0 _).set 1 rfl 0 _).drew.drew.drew) | exact ((((H0.out.set 1 rfl 0 _).set 1 rfl 0 _).set 1 rfl 0 _).drew)
/-- Two of a row changed, beside something else. -/
theorem St.swap {F : Nat → Prop} {w0 w : World} {a : Asr} {g n c : Nat} {l : List Int} (h : St F w0 w [slc (Kd.int .u8) 5 (.slice (some ⟨g, 0, none⟩) n c) l, a]) {i j : Nat} (hi : i < n) (hj : j < n) : ∃ x y z, w.cell? ⟨g, i, none⟩ = some (.int .u8 x) ∧ w.frozen? ⟨g, i, none⟩ = false ∧ w.cell? ⟨g, j, none⟩ = some (.int .u8 y) ∧ w.frozen? ⟨g, j, none⟩ = false ∧
    (w.setCell ⟨g, i, none⟩ (.int .u8 y)).cell? ⟨g, j, none⟩ = some (.int .u8 z) ∧ (w.setCell ⟨g, i, none⟩ (.int .u8 y)).frozen? ⟨g, j, none⟩ = false ∧
    ∃ l', l'.Perm l ∧ St F w0 ((w.setCell ⟨g, i, none⟩ (.int .u8 y)).setCell ⟨g, j, none⟩ (.int .u8 x)) [slc (Kd.int .u8) 5 (.slice (some ⟨g, 0, none⟩) n c) l', a] := by
  have h0 : SS w w g n c l := St.start (h.drop 1).sat (fun b hb k hk => by rw [List.mem_singleton.1 hb] at hk; cases hk; rfl)
  obtain ⟨x, y, z, cx, fx, cy, fy, cz, fz, l', hp, S⟩ := SS.swap h0 hi hj
  refine ⟨x, y, z, cx, fx, cy, fy, cz, fz, l', hp, ?_⟩
  refine h.upd 0 rfl (S.mod.mono (fun k _ hk => ?_)) (S.get 0 rfl) fun k hk => .inl hk
  show some g = some k
  rw [hk]
end Go.Proofs.Ytjhmkmcongjngaa
