-- PRINTED BY print.sh 35421559b90ae4d0a3588c463048766b98c2df88dd9212a6774a882060cdf62d: not written by this session
import Derived.Test.YtmpodcefngpnkaaProg
import Derived.Below
import Derived.Deep.Draws
import Derived.Deep.AppendLies
import Derived.Maps.AppendAt
import Derived.OwnWalk
import Derived.Laws.BytesArg
import Derived.Laws.MakeOwn
import Derived.Laws.OwnMore
import Derived.Deep.OwnRows
import Derived.Tactics
import Derived.Lib.ConvBytes
import Derived.Laws.Slices
import Derived.WalkKit
import Derived.KernelRfl
import Derived.RowKit3
import Derived.Deep.LoopGhost
import Derived.Deep.QuietTactic
import Derived.BigQuiet
import Derived.WideLaws
import Derived.Deep.DeepCutAuto
import Derived.Deep.CutBlock
import Derived.Deep.RegionHeld3
import Derived.Laws.Rows
import Derived.Lib.AppendStr
import Derived.ArgAppend
import Derived.Laws.IdiomCopy
import Derived.OrdersHeld
import Derived.Laws.BitsLemmas
import Derived.RowKit
import Derived.Test.YtmpodcefngpnkaaWWords
import Derived.Test.YtmpodcefngpnkaaWLast
import Derived.Test.YtmpodcefngpnkaaWTab
import Derived.Test.YtmpodcefngpnkaaWFour
import Derived.Test.YtmpodcefngpnkaaWQPut
import Derived.Test.YtmpodcefngpnkaaWApart
import Derived.Test.YtmpodcefngpnkaaWArr
import Derived.Test.YtmpodcefngpnkaaWZeros
import Derived.Test.YtmpodcefngpnkaaWFoot
import Derived.Test.YtmpodcefngpnkaaWKept
import Derived.Test.YtmpodcefngpnkaaWShare
import Derived.Test.YtmpodcefngpnkaaWN
import Derived.Test.YtmpodcefngpnkaaWFootNe
import Derived.Test.YtmpodcefngpnkaaWAt
import Derived.Test.YtmpodcefngpnkaaWEqStruct
import Derived.Test.YtmpodcefngpnkaaWRepsOne
import Derived.Test.YtmpodcefngpnkaaWInv
import Derived.Test.YtmpodcefngpnkaaWInvWords
import Derived.Test.YtmpodcefngpnkaaWGuard
import Derived.Test.YtmpodcefngpnkaaWNEv
import Derived.Test.YtmpodcefngpnkaaWMore
namespace Go.Proofs.Ytmpodcefngpnkaa.PHintPlays
open Go.RowKit Go.Proofs.YtmpodcefngpnkaaW.PrintWords Go.Proofs.YtmpodcefngpnkaaW.PrintLast Go.Proofs.YtmpodcefngpnkaaW.PrintMore
attribute [local go_sem] max2_int min2_int max_two min_two max_three min_three max_four min_four   -- for this text's walks alone
set_option linter.unusedVariables false
set_option linter.unusedSimpArgs false



def errW : Option Int → Value
  | none => .nilIface
  | some c => .iface 0 (.int .i64 c)
theorem errW_none : errW none = .nilIface := rfl
theorem errW_some (c : Int) : errW (some c) = .iface 0 (.int .i64 c) := rfl

theorem info5 : (Try.prog.info? 5).map (fun i => (i.zero, i.size, i.bytes)) = some (some (.int .u8 0), 1, 1) := by kernel_rfl
theorem info37 : (Try.prog.info? 37).map (fun i => (i.zero, i.size, i.bytes)) = some (some (.agg #[(.int .i64 0), (.string ⟨#[]⟩), (.int .u64 0), (.int .u32 0), (.int .u8 0), (.int .u8 0), (.int .u32 0), (.int .u64 0), (.string ⟨#[]⟩), (.int .u8 0), (.slice none 0 0)]), 11, 104) := by kernel_rfl
-- the values' own types
/-! #### struct type 33 -/
structure S33 where
  f0 : Int
  f1 : Int
  f2 : Int
def z33 : S33 := ⟨(0 : Int), (0 : Int), (0 : Int)⟩
def k33 : Kd S33 := Kd.iso (Kd.pair (Kd.int .u64) (Kd.pair (Kd.int .u32) (Kd.int .u8))) (fun x : S33 => (x.f0, x.f1, x.f2))
theorem k33_open {w : World} {x : S33} {cs : List Value} (h : k33.K w x cs) : cs = [.int .u64 x.f0, .int .u32 x.f1, .int .u8 x.f2] := by
  obtain ⟨_, _, rfl, rfl, ⟨_, _, rfl, rfl, rfl⟩⟩ := h
  exact rfl
theorem k33_openM {w : World} {base : Nat} {ok : Nat → Prop} {x : S33} {cs : List Value} (h : k33.M w base ok x cs) : cs = [.int .u64 x.f0, .int .u32 x.f1, .int .u8 x.f2] := by
  obtain ⟨_, _, rfl, rfl, ⟨_, _, rfl, rfl, rfl⟩⟩ := h
  exact rfl
theorem k33_mk (w : World) (x : S33)  : k33.K w x [.int .u64 x.f0, .int .u32 x.f1, .int .u8 x.f2] := ⟨[.int .u64 x.f0], [.int .u32 x.f1, .int .u8 x.f2], rfl, rfl, ⟨[.int .u32 x.f1], [.int .u8 x.f2], rfl, rfl, rfl⟩⟩
theorem k33_mkM (w : World) (base : Nat) (ok : Nat → Prop) (x : S33)  : k33.M w base ok x [.int .u64 x.f0, .int .u32 x.f1, .int .u8 x.f2] := ⟨[.int .u64 x.f0], [.int .u32 x.f1, .int .u8 x.f2], rfl, rfl, ⟨[.int .u32 x.f1], [.int .u8 x.f2], rfl, rfl, rfl⟩⟩
theorem k33_mkF (W : World) (ok : Nat → Prop) (x : S33) : Kd.FK k33 W ok x [.int .u64 x.f0, .int .u32 x.f1, .int .u8 x.f2] := fun W2 _ => k33_mk W2 x
def rd_T33 (xs : List S33) (i : Int) : S33 := xs.getD i.toNat z33
theorem at_T33 {w : World} {A : Option Addr} {n : Nat} {xs : List S33} (h : Kd.C k33 w A n xs) (i : Int) (h0 : 0 ≤ i) (h1 : i < n) : ∃ ad , A = some ad ∧ w.cell? (ad.add (i.toNat * 3)) = some (.int .u64 (rd_T33 xs i).f0) ∧ w.cell? ⟨(ad.add (i.toNat * 3)).block, (ad.add (i.toNat * 3)).off + 1, none⟩ = some (.int .u32 (rd_T33 xs i).f1) ∧ w.cell? ⟨(ad.add (i.toNat * 3)).block, (ad.add (i.toNat * 3)).off + 2, none⟩ = some (.int .u8 (rd_T33 xs i).f2) := by
  obtain ⟨ad, c, e, _, hK, hc0⟩ := Kd.C_get h z33 i h0 h1
  have hc : ∀ j u, c[j]? = some u → w.cell? (ad.add (i.toNat * 3 + j)) = some u := hc0
  obtain rfl := k33_open hK
  exact ⟨ad, e, hc 0 _ rfl, by rw [← add_field _ _ 1 (by omega)]; exact hc 1 _ rfl, by rw [← add_field _ _ 2 (by omega)]; exact hc 2 _ rfl⟩

/-! #### struct type 35 -/
structure S35 where
  f0 : ByteArray
  f1 : S33
  f2 : Int
  f3 : Int
  f4 : Int
  f5 : ByteArray
def z35 : S35 := ⟨(⟨#[]⟩ : ByteArray), z33, (0 : Int), (0 : Int), (0 : Int), (⟨#[]⟩ : ByteArray)⟩
def k35 : Kd S35 := Kd.iso (Kd.pair Kd.string (Kd.pair k33 (Kd.pair (Kd.int .u8) (Kd.pair (Kd.int .u32) (Kd.pair (Kd.int .u64) Kd.string))))) (fun x : S35 => (x.f0, x.f1, x.f2, x.f3, x.f4, x.f5))
theorem k35_open {w : World} {x : S35} {cs : List Value} (h : k35.K w x cs) : cs = [.string x.f0, .int .u64 x.f1.f0, .int .u32 x.f1.f1, .int .u8 x.f1.f2, .int .u8 x.f2, .int .u32 x.f3, .int .u64 x.f4, .string x.f5] := by
  obtain ⟨_, _, rfl, rfl, ⟨_, _, rfl, s1, ⟨_, _, rfl, rfl, ⟨_, _, rfl, rfl, ⟨_, _, rfl, rfl, rfl⟩⟩⟩⟩⟩ := h
  obtain rfl := k33_open s1
  exact rfl
theorem k35_openM {w : World} {base : Nat} {ok : Nat → Prop} {x : S35} {cs : List Value} (h : k35.M w base ok x cs) : cs = [.string x.f0, .int .u64 x.f1.f0, .int .u32 x.f1.f1, .int .u8 x.f1.f2, .int .u8 x.f2, .int .u32 x.f3, .int .u64 x.f4, .string x.f5] := by
  obtain ⟨_, _, rfl, rfl, ⟨_, _, rfl, s1, ⟨_, _, rfl, rfl, ⟨_, _, rfl, rfl, ⟨_, _, rfl, rfl, rfl⟩⟩⟩⟩⟩ := h
  obtain rfl := k33_openM s1
  exact rfl
theorem k35_mk (w : World) (x : S35)  : k35.K w x [.string x.f0, .int .u64 x.f1.f0, .int .u32 x.f1.f1, .int .u8 x.f1.f2, .int .u8 x.f2, .int .u32 x.f3, .int .u64 x.f4, .string x.f5] := ⟨[.string x.f0], [.int .u64 x.f1.f0, .int .u32 x.f1.f1, .int .u8 x.f1.f2, .int .u8 x.f2, .int .u32 x.f3, .int .u64 x.f4, .string x.f5], rfl, rfl, ⟨[.int .u64 x.f1.f0, .int .u32 x.f1.f1, .int .u8 x.f1.f2], [.int .u8 x.f2, .int .u32 x.f3, .int .u64 x.f4, .string x.f5], rfl, (k33_mk w x.f1 ), ⟨[.int .u8 x.f2], [.int .u32 x.f3, .int .u64 x.f4, .string x.f5], rfl, rfl, ⟨[.int .u32 x.f3], [.int .u64 x.f4, .string x.f5], rfl, rfl, ⟨[.int .u64 x.f4], [.string x.f5], rfl, rfl, rfl⟩⟩⟩⟩⟩
theorem k35_mkM (w : World) (base : Nat) (ok : Nat → Prop) (x : S35)  : k35.M w base ok x [.string x.f0, .int .u64 x.f1.f0, .int .u32 x.f1.f1, .int .u8 x.f1.f2, .int .u8 x.f2, .int .u32 x.f3, .int .u64 x.f4, .string x.f5] := ⟨[.string x.f0], [.int .u64 x.f1.f0, .int .u32 x.f1.f1, .int .u8 x.f1.f2, .int .u8 x.f2, .int .u32 x.f3, .int .u64 x.f4, .string x.f5], rfl, rfl, ⟨[.int .u64 x.f1.f0, .int .u32 x.f1.f1, .int .u8 x.f1.f2], [.int .u8 x.f2, .int .u32 x.f3, .int .u64 x.f4, .string x.f5], rfl, (k33_mkM w base ok x.f1 ), ⟨[.int .u8 x.f2], [.int .u32 x.f3, .int .u64 x.f4, .string x.f5], rfl, rfl, ⟨[.int .u32 x.f3], [.int .u64 x.f4, .string x.f5], rfl, rfl, ⟨[.int .u64 x.f4], [.string x.f5], rfl, rfl, rfl⟩⟩⟩⟩⟩
theorem k35_mkF (W : World) (ok : Nat → Prop) (x : S35) : Kd.FK k35 W ok x [.string x.f0, .int .u64 x.f1.f0, .int .u32 x.f1.f1, .int .u8 x.f1.f2, .int .u8 x.f2, .int .u32 x.f3, .int .u64 x.f4, .string x.f5] := fun W2 _ => k35_mk W2 x
def rd_T35 (xs : List S35) (i : Int) : S35 := xs.getD i.toNat z35
theorem at_T35 {w : World} {A : Option Addr} {n : Nat} {xs : List S35} (h : Kd.C k35 w A n xs) (i : Int) (h0 : 0 ≤ i) (h1 : i < n) : ∃ ad , A = some ad ∧ w.cell? (ad.add (i.toNat * 8)) = some (.string (rd_T35 xs i).f0) ∧ w.cell? ⟨(ad.add (i.toNat * 8)).block, (ad.add (i.toNat * 8)).off + 1, none⟩ = some (.int .u64 (rd_T35 xs i).f1.f0) ∧ w.cell? ⟨(ad.add (i.toNat * 8)).block, (ad.add (i.toNat * 8)).off + 2, none⟩ = some (.int .u32 (rd_T35 xs i).f1.f1) ∧ w.cell? ⟨(ad.add (i.toNat * 8)).block, (ad.add (i.toNat * 8)).off + 3, none⟩ = some (.int .u8 (rd_T35 xs i).f1.f2) ∧ w.cell? ⟨(ad.add (i.toNat * 8)).block, (ad.add (i.toNat * 8)).off + 4, none⟩ = some (.int .u8 (rd_T35 xs i).f2) ∧ w.cell? ⟨(ad.add (i.toNat * 8)).block, (ad.add (i.toNat * 8)).off + 5, none⟩ = some (.int .u32 (rd_T35 xs i).f3) ∧ w.cell? ⟨(ad.add (i.toNat * 8)).block, (ad.add (i.toNat * 8)).off + 6, none⟩ = some (.int .u64 (rd_T35 xs i).f4) ∧ w.cell? ⟨(ad.add (i.toNat * 8)).block, (ad.add (i.toNat * 8)).off + 7, none⟩ = some (.string (rd_T35 xs i).f5) := by
  obtain ⟨ad, c, e, _, hK, hc0⟩ := Kd.C_get h z35 i h0 h1
  have hc : ∀ j u, c[j]? = some u → w.cell? (ad.add (i.toNat * 8 + j)) = some u := hc0
  obtain rfl := k35_open hK
  exact ⟨ad, e, hc 0 _ rfl, by rw [← add_field _ _ 1 (by omega)]; exact hc 1 _ rfl, by rw [← add_field _ _ 2 (by omega)]; exact hc 2 _ rfl, by rw [← add_field _ _ 3 (by omega)]; exact hc 3 _ rfl, by rw [← add_field _ _ 4 (by omega)]; exact hc 4 _ rfl, by rw [← add_field _ _ 5 (by omega)]; exact hc 5 _ rfl, by rw [← add_field _ _ 6 (by omega)]; exact hc 6 _ rfl, by rw [← add_field _ _ 7 (by omega)]; exact hc 7 _ rfl⟩

/-! #### struct type 52 -/
structure S52 where
  f0 : S35
  f1 : Int
def z52 : S52 := ⟨z35, (0 : Int)⟩
def k52 : Kd S52 := Kd.iso (Kd.pair k35 (Kd.int .u64)) (fun x : S52 => (x.f0, x.f1))
theorem k52_open {w : World} {x : S52} {cs : List Value} (h : k52.K w x cs) : cs = [.string x.f0.f0, .int .u64 x.f0.f1.f0, .int .u32 x.f0.f1.f1, .int .u8 x.f0.f1.f2, .int .u8 x.f0.f2, .int .u32 x.f0.f3, .int .u64 x.f0.f4, .string x.f0.f5, .int .u64 x.f1] := by
  obtain ⟨_, _, rfl, s0, rfl⟩ := h
  obtain rfl := k35_open s0
  exact rfl
theorem k52_openM {w : World} {base : Nat} {ok : Nat → Prop} {x : S52} {cs : List Value} (h : k52.M w base ok x cs) : cs = [.string x.f0.f0, .int .u64 x.f0.f1.f0, .int .u32 x.f0.f1.f1, .int .u8 x.f0.f1.f2, .int .u8 x.f0.f2, .int .u32 x.f0.f3, .int .u64 x.f0.f4, .string x.f0.f5, .int .u64 x.f1] := by
  obtain ⟨_, _, rfl, s0, rfl⟩ := h
  obtain rfl := k35_openM s0
  exact rfl
theorem k52_mk (w : World) (x : S52)  : k52.K w x [.string x.f0.f0, .int .u64 x.f0.f1.f0, .int .u32 x.f0.f1.f1, .int .u8 x.f0.f1.f2, .int .u8 x.f0.f2, .int .u32 x.f0.f3, .int .u64 x.f0.f4, .string x.f0.f5, .int .u64 x.f1] := ⟨[.string x.f0.f0, .int .u64 x.f0.f1.f0, .int .u32 x.f0.f1.f1, .int .u8 x.f0.f1.f2, .int .u8 x.f0.f2, .int .u32 x.f0.f3, .int .u64 x.f0.f4, .string x.f0.f5], [.int .u64 x.f1], rfl, (k35_mk w x.f0 ), rfl⟩
theorem k52_mkM (w : World) (base : Nat) (ok : Nat → Prop) (x : S52)  : k52.M w base ok x [.string x.f0.f0, .int .u64 x.f0.f1.f0, .int .u32 x.f0.f1.f1, .int .u8 x.f0.f1.f2, .int .u8 x.f0.f2, .int .u32 x.f0.f3, .int .u64 x.f0.f4, .string x.f0.f5, .int .u64 x.f1] := ⟨[.string x.f0.f0, .int .u64 x.f0.f1.f0, .int .u32 x.f0.f1.f1, .int .u8 x.f0.f1.f2, .int .u8 x.f0.f2, .int .u32 x.f0.f3, .int .u64 x.f0.f4, .string x.f0.f5], [.int .u64 x.f1], rfl, (k35_mkM w base ok x.f0 ), rfl⟩
theorem k52_mkF (W : World) (ok : Nat → Prop) (x : S52) : Kd.FK k52 W ok x [.string x.f0.f0, .int .u64 x.f0.f1.f0, .int .u32 x.f0.f1.f1, .int .u8 x.f0.f1.f2, .int .u8 x.f0.f2, .int .u32 x.f0.f3, .int .u64 x.f0.f4, .string x.f0.f5, .int .u64 x.f1] := fun W2 _ => k52_mk W2 x
def rd_T52 (xs : List S52) (i : Int) : S52 := xs.getD i.toNat z52
theorem at_T52 {w : World} {A : Option Addr} {n : Nat} {xs : List S52} (h : Kd.C k52 w A n xs) (i : Int) (h0 : 0 ≤ i) (h1 : i < n) : ∃ ad , A = some ad ∧ w.cell? (ad.add (i.toNat * 9)) = some (.string (rd_T52 xs i).f0.f0) ∧ w.cell? ⟨(ad.add (i.toNat * 9)).block, (ad.add (i.toNat * 9)).off + 1, none⟩ = some (.int .u64 (rd_T52 xs i).f0.f1.f0) ∧ w.cell? ⟨(ad.add (i.toNat * 9)).block, (ad.add (i.toNat * 9)).off + 2, none⟩ = some (.int .u32 (rd_T52 xs i).f0.f1.f1) ∧ w.cell? ⟨(ad.add (i.toNat * 9)).block, (ad.add (i.toNat * 9)).off + 3, none⟩ = some (.int .u8 (rd_T52 xs i).f0.f1.f2) ∧ w.cell? ⟨(ad.add (i.toNat * 9)).block, (ad.add (i.toNat * 9)).off + 4, none⟩ = some (.int .u8 (rd_T52 xs i).f0.f2) ∧ w.cell? ⟨(ad.add (i.toNat * 9)).block, (ad.add (i.toNat * 9)).off + 5, none⟩ = some (.int .u32 (rd_T52 xs i).f0.f3) ∧ w.cell? ⟨(ad.add (i.toNat * 9)).block, (ad.add (i.toNat * 9)).off + 6, none⟩ = some (.int .u64 (rd_T52 xs i).f0.f4) ∧ w.cell? ⟨(ad.add (i.toNat * 9)).block, (ad.add (i.toNat * 9)).off + 7, none⟩ = some (.string (rd_T52 xs i).f0.f5) ∧ w.cell? ⟨(ad.add (i.toNat * 9)).block, (ad.add (i.toNat * 9)).off + 8, none⟩ = some (.int .u64 (rd_T52 xs i).f1) := by
  obtain ⟨ad, c, e, _, hK, hc0⟩ := Kd.C_get h z52 i h0 h1
  have hc : ∀ j u, c[j]? = some u → w.cell? (ad.add (i.toNat * 9 + j)) = some u := hc0
  obtain rfl := k52_open hK
  exact ⟨ad, e, hc 0 _ rfl, by rw [← add_field _ _ 1 (by omega)]; exact hc 1 _ rfl, by rw [← add_field _ _ 2 (by omega)]; exact hc 2 _ rfl, by rw [← add_field _ _ 3 (by omega)]; exact hc 3 _ rfl, by rw [← add_field _ _ 4 (by omega)]; exact hc 4 _ rfl, by rw [← add_field _ _ 5 (by omega)]; exact hc 5 _ rfl, by rw [← add_field _ _ 6 (by omega)]; exact hc 6 _ rfl, by rw [← add_field _ _ 7 (by omega)]; exact hc 7 _ rfl, by rw [← add_field _ _ 8 (by omega)]; exact hc 8 _ rfl⟩

def rd_L8 (xs : List (List Int)) (i : Int) : (List Int) := xs.getD i.toNat ([] : List Int)
theorem at_L8 {w : World} {A : Option Addr} {n : Nat} {xs : List (List Int)} (h : Kd.C (Kd.slice 5 (Kd.int .u8)) w A n xs) (i : Int) (h0 : 0 ≤ i) (h1 : i < n) : ∃ ad A0 c0, A = some ad ∧ w.cell? (ad.add i.toNat) = some (.slice A0 (rd_L8 xs i).length c0) ∧ (rd_L8 xs i).length ≤ c0 ∧ (Kd.int .u8).C w A0 (rd_L8 xs i).length (rd_L8 xs i) := by
  obtain ⟨ad, c, e, _, hK, hc0⟩ := Kd.C_get h ([] : List Int) i h0 h1
  have hc : ∀ j u, c[j]? = some u → w.cell? (ad.add (i.toNat * 1 + j)) = some u := hc0
  obtain ⟨A0, c0, rfl, l0, g0⟩ := hK
  exact ⟨ad, A0, c0, e, by have hq := hc 0 _ rfl; rwa [Nat.mul_one, Nat.add_zero] at hq, l0, g0⟩

/-! #### struct type 37 -/
structure S37 where
  f0 : Int
  f1 : S35
  f2 : Int
  f3 : (List Int)
def z37 : S37 := ⟨(0 : Int), z35, (0 : Int), ([] : List Int)⟩
def k37 : Kd S37 := Kd.iso (Kd.pair (Kd.int .i64) (Kd.pair k35 (Kd.pair (Kd.int .u8) (Kd.slice 5 (Kd.int .u8))))) (fun x : S37 => (x.f0, x.f1, x.f2, x.f3))
theorem k37_open {w : World} {x : S37} {cs : List Value} (h : k37.K w x cs) : ∃ A10 c10, cs = [.int .i64 x.f0, .string x.f1.f0, .int .u64 x.f1.f1.f0, .int .u32 x.f1.f1.f1, .int .u8 x.f1.f1.f2, .int .u8 x.f1.f2, .int .u32 x.f1.f3, .int .u64 x.f1.f4, .string x.f1.f5, .int .u8 x.f2, .slice A10 x.f3.length c10] ∧ x.f3.length ≤ c10 ∧ (Kd.int .u8).C w A10 x.f3.length x.f3 := by
  obtain ⟨_, _, rfl, rfl, ⟨_, _, rfl, s1, ⟨_, _, rfl, rfl, ⟨A10, c10, rfl, l10, g10⟩⟩⟩⟩ := h
  obtain rfl := k35_open s1
  exact ⟨A10, c10, rfl, l10, g10⟩
theorem k37_openM {w : World} {base : Nat} {ok : Nat → Prop} {x : S37} {cs : List Value} (h : k37.M w base ok x cs) : ∃ v10, cs = [.int .i64 x.f0, .string x.f1.f0, .int .u64 x.f1.f1.f0, .int .u32 x.f1.f1.f1, .int .u8 x.f1.f1.f2, .int .u8 x.f1.f2, .int .u32 x.f1.f3, .int .u64 x.f1.f4, .string x.f1.f5, .int .u8 x.f2, v10] ∧ (Kd.int .u8).R 5 w base ok v10 x.f3 := by
  obtain ⟨_, _, rfl, rfl, ⟨_, _, rfl, s1, ⟨_, _, rfl, rfl, ⟨v10, rfl, g10⟩⟩⟩⟩ := h
  obtain rfl := k35_openM s1
  exact ⟨v10, rfl, g10⟩
theorem k37_mk (w : World) (x : S37) {A10 : Option Addr} {c10 : Nat} (l10 : x.f3.length ≤ c10) (g10 : (Kd.int .u8).C w A10 x.f3.length x.f3) : k37.K w x [.int .i64 x.f0, .string x.f1.f0, .int .u64 x.f1.f1.f0, .int .u32 x.f1.f1.f1, .int .u8 x.f1.f1.f2, .int .u8 x.f1.f2, .int .u32 x.f1.f3, .int .u64 x.f1.f4, .string x.f1.f5, .int .u8 x.f2, .slice A10 x.f3.length c10] := ⟨[.int .i64 x.f0], [.string x.f1.f0, .int .u64 x.f1.f1.f0, .int .u32 x.f1.f1.f1, .int .u8 x.f1.f1.f2, .int .u8 x.f1.f2, .int .u32 x.f1.f3, .int .u64 x.f1.f4, .string x.f1.f5, .int .u8 x.f2, .slice A10 x.f3.length c10], rfl, rfl, ⟨[.string x.f1.f0, .int .u64 x.f1.f1.f0, .int .u32 x.f1.f1.f1, .int .u8 x.f1.f1.f2, .int .u8 x.f1.f2, .int .u32 x.f1.f3, .int .u64 x.f1.f4, .string x.f1.f5], [.int .u8 x.f2, .slice A10 x.f3.length c10], rfl, (k35_mk w x.f1 ), ⟨[.int .u8 x.f2], [.slice A10 x.f3.length c10], rfl, rfl, ⟨A10, c10, rfl, l10, g10⟩⟩⟩⟩
theorem k37_mkM (w : World) (base : Nat) (ok : Nat → Prop) (x : S37) {v10 : Value} (g10 : (Kd.int .u8).R 5 w base ok v10 x.f3) : k37.M w base ok x [.int .i64 x.f0, .string x.f1.f0, .int .u64 x.f1.f1.f0, .int .u32 x.f1.f1.f1, .int .u8 x.f1.f1.f2, .int .u8 x.f1.f2, .int .u32 x.f1.f3, .int .u64 x.f1.f4, .string x.f1.f5, .int .u8 x.f2, v10] := ⟨[.int .i64 x.f0], [.string x.f1.f0, .int .u64 x.f1.f1.f0, .int .u32 x.f1.f1.f1, .int .u8 x.f1.f1.f2, .int .u8 x.f1.f2, .int .u32 x.f1.f3, .int .u64 x.f1.f4, .string x.f1.f5, .int .u8 x.f2, v10], rfl, rfl, ⟨[.string x.f1.f0, .int .u64 x.f1.f1.f0, .int .u32 x.f1.f1.f1, .int .u8 x.f1.f1.f2, .int .u8 x.f1.f2, .int .u32 x.f1.f3, .int .u64 x.f1.f4, .string x.f1.f5], [.int .u8 x.f2, v10], rfl, (k35_mkM w base ok x.f1 ), ⟨[.int .u8 x.f2], [v10], rfl, rfl, ⟨v10, rfl, g10⟩⟩⟩⟩
theorem k37_openF {W : World} {ok : Nat → Prop} {x : S37} {cs : List Value} (h : Kd.FK k37 W ok x cs) : ∃ A10 c10, cs = [.int .i64 x.f0, .string x.f1.f0, .int .u64 x.f1.f1.f0, .int .u32 x.f1.f1.f1, .int .u8 x.f1.f1.f2, .int .u8 x.f1.f2, .int .u32 x.f1.f3, .int .u64 x.f1.f4, .string x.f1.f5, .int .u8 x.f2, .slice A10 x.f3.length c10] ∧ x.f3.length ≤ c10 ∧ Kd.F (Kd.int .u8) W ok A10 x.f3.length x.f3 := by
  obtain ⟨A10, c10, rfl, l10, _⟩ := k37_open (Kd.FK_now h)
  exact ⟨A10, c10, rfl, l10, (fun W' hW => by obtain ⟨A10_, c10_, he, l10_, g10_⟩ := k37_open (h W' hW); injection (Option.some.inj (show some (Value.slice A10 x.f3.length c10) = some (Value.slice A10_ x.f3.length c10_) from congrArg (fun l => l[10]?) he)) with ha_ _ _; rw [ha_]; exact g10_)⟩
theorem k37_mkF (W : World) (ok : Nat → Prop) (x : S37) {A10 : Option Addr} {c10 : Nat} (l10 : x.f3.length ≤ c10) (g10 : Kd.F (Kd.int .u8) W ok A10 x.f3.length x.f3) : Kd.FK k37 W ok x [.int .i64 x.f0, .string x.f1.f0, .int .u64 x.f1.f1.f0, .int .u32 x.f1.f1.f1, .int .u8 x.f1.f1.f2, .int .u8 x.f1.f2, .int .u32 x.f1.f3, .int .u64 x.f1.f4, .string x.f1.f5, .int .u8 x.f2, .slice A10 x.f3.length c10] := fun W2 hW => k37_mk W2 x l10 (g10 W2 hW)
def rd_T37 (xs : List S37) (i : Int) : S37 := xs.getD i.toNat z37
theorem at_T37 {w : World} {A : Option Addr} {n : Nat} {xs : List S37} (h : Kd.C k37 w A n xs) (i : Int) (h0 : 0 ≤ i) (h1 : i < n) : ∃ ad A10 c10, A = some ad ∧ w.cell? (ad.add (i.toNat * 11)) = some (.int .i64 (rd_T37 xs i).f0) ∧ w.cell? ⟨(ad.add (i.toNat * 11)).block, (ad.add (i.toNat * 11)).off + 1, none⟩ = some (.string (rd_T37 xs i).f1.f0) ∧ w.cell? ⟨(ad.add (i.toNat * 11)).block, (ad.add (i.toNat * 11)).off + 2, none⟩ = some (.int .u64 (rd_T37 xs i).f1.f1.f0) ∧ w.cell? ⟨(ad.add (i.toNat * 11)).block, (ad.add (i.toNat * 11)).off + 3, none⟩ = some (.int .u32 (rd_T37 xs i).f1.f1.f1) ∧ w.cell? ⟨(ad.add (i.toNat * 11)).block, (ad.add (i.toNat * 11)).off + 4, none⟩ = some (.int .u8 (rd_T37 xs i).f1.f1.f2) ∧ w.cell? ⟨(ad.add (i.toNat * 11)).block, (ad.add (i.toNat * 11)).off + 5, none⟩ = some (.int .u8 (rd_T37 xs i).f1.f2) ∧ w.cell? ⟨(ad.add (i.toNat * 11)).block, (ad.add (i.toNat * 11)).off + 6, none⟩ = some (.int .u32 (rd_T37 xs i).f1.f3) ∧ w.cell? ⟨(ad.add (i.toNat * 11)).block, (ad.add (i.toNat * 11)).off + 7, none⟩ = some (.int .u64 (rd_T37 xs i).f1.f4) ∧ w.cell? ⟨(ad.add (i.toNat * 11)).block, (ad.add (i.toNat * 11)).off + 8, none⟩ = some (.string (rd_T37 xs i).f1.f5) ∧ w.cell? ⟨(ad.add (i.toNat * 11)).block, (ad.add (i.toNat * 11)).off + 9, none⟩ = some (.int .u8 (rd_T37 xs i).f2) ∧ w.cell? ⟨(ad.add (i.toNat * 11)).block, (ad.add (i.toNat * 11)).off + 10, none⟩ = some (.slice A10 (rd_T37 xs i).f3.length c10) ∧ (rd_T37 xs i).f3.length ≤ c10 ∧ (Kd.int .u8).C w A10 (rd_T37 xs i).f3.length (rd_T37 xs i).f3 := by
  obtain ⟨ad, c, e, _, hK, hc0⟩ := Kd.C_get h z37 i h0 h1
  have hc : ∀ j u, c[j]? = some u → w.cell? (ad.add (i.toNat * 11 + j)) = some u := hc0
  obtain ⟨A10, c10, rfl, l10, g10⟩ := k37_open hK
  exact ⟨ad, A10, c10, e, hc 0 _ rfl, by rw [← add_field _ _ 1 (by omega)]; exact hc 1 _ rfl, by rw [← add_field _ _ 2 (by omega)]; exact hc 2 _ rfl, by rw [← add_field _ _ 3 (by omega)]; exact hc 3 _ rfl, by rw [← add_field _ _ 4 (by omega)]; exact hc 4 _ rfl, by rw [← add_field _ _ 5 (by omega)]; exact hc 5 _ rfl, by rw [← add_field _ _ 6 (by omega)]; exact hc 6 _ rfl, by rw [← add_field _ _ 7 (by omega)]; exact hc 7 _ rfl, by rw [← add_field _ _ 8 (by omega)]; exact hc 8 _ rfl, by rw [← add_field _ _ 9 (by omega)]; exact hc 9 _ rfl, by rw [← add_field _ _ 10 (by omega)]; exact hc 10 _ rfl, l10, g10⟩

/-! #### struct type 43 -/
structure S43 where
  f0 : Int
  f1 : S35
def z43 : S43 := ⟨(0 : Int), z35⟩
def k43 : Kd S43 := Kd.iso (Kd.pair (Kd.int .u8) k35) (fun x : S43 => (x.f0, x.f1))
theorem k43_open {w : World} {x : S43} {cs : List Value} (h : k43.K w x cs) : cs = [.int .u8 x.f0, .string x.f1.f0, .int .u64 x.f1.f1.f0, .int .u32 x.f1.f1.f1, .int .u8 x.f1.f1.f2, .int .u8 x.f1.f2, .int .u32 x.f1.f3, .int .u64 x.f1.f4, .string x.f1.f5] := by
  obtain ⟨_, _, rfl, rfl, s1⟩ := h
  obtain rfl := k35_open s1
  exact rfl
theorem k43_openM {w : World} {base : Nat} {ok : Nat → Prop} {x : S43} {cs : List Value} (h : k43.M w base ok x cs) : cs = [.int .u8 x.f0, .string x.f1.f0, .int .u64 x.f1.f1.f0, .int .u32 x.f1.f1.f1, .int .u8 x.f1.f1.f2, .int .u8 x.f1.f2, .int .u32 x.f1.f3, .int .u64 x.f1.f4, .string x.f1.f5] := by
  obtain ⟨_, _, rfl, rfl, s1⟩ := h
  obtain rfl := k35_openM s1
  exact rfl
theorem k43_mk (w : World) (x : S43)  : k43.K w x [.int .u8 x.f0, .string x.f1.f0, .int .u64 x.f1.f1.f0, .int .u32 x.f1.f1.f1, .int .u8 x.f1.f1.f2, .int .u8 x.f1.f2, .int .u32 x.f1.f3, .int .u64 x.f1.f4, .string x.f1.f5] := ⟨[.int .u8 x.f0], [.string x.f1.f0, .int .u64 x.f1.f1.f0, .int .u32 x.f1.f1.f1, .int .u8 x.f1.f1.f2, .int .u8 x.f1.f2, .int .u32 x.f1.f3, .int .u64 x.f1.f4, .string x.f1.f5], rfl, rfl, (k35_mk w x.f1 )⟩
theorem k43_mkM (w : World) (base : Nat) (ok : Nat → Prop) (x : S43)  : k43.M w base ok x [.int .u8 x.f0, .string x.f1.f0, .int .u64 x.f1.f1.f0, .int .u32 x.f1.f1.f1, .int .u8 x.f1.f1.f2, .int .u8 x.f1.f2, .int .u32 x.f1.f3, .int .u64 x.f1.f4, .string x.f1.f5] := ⟨[.int .u8 x.f0], [.string x.f1.f0, .int .u64 x.f1.f1.f0, .int .u32 x.f1.f1.f1, .int .u8 x.f1.f1.f2, .int .u8 x.f1.f2, .int .u32 x.f1.f3, .int .u64 x.f1.f4, .string x.f1.f5], rfl, rfl, (k35_mkM w base ok x.f1 )⟩
theorem k43_mkF (W : World) (ok : Nat → Prop) (x : S43) : Kd.FK k43 W ok x [.int .u8 x.f0, .string x.f1.f0, .int .u64 x.f1.f1.f0, .int .u32 x.f1.f1.f1, .int .u8 x.f1.f1.f2, .int .u8 x.f1.f2, .int .u32 x.f1.f3, .int .u64 x.f1.f4, .string x.f1.f5] := fun W2 _ => k43_mk W2 x
def rd_T43 (xs : List S43) (i : Int) : S43 := xs.getD i.toNat z43
theorem at_T43 {w : World} {A : Option Addr} {n : Nat} {xs : List S43} (h : Kd.C k43 w A n xs) (i : Int) (h0 : 0 ≤ i) (h1 : i < n) : ∃ ad , A = some ad ∧ w.cell? (ad.add (i.toNat * 9)) = some (.int .u8 (rd_T43 xs i).f0) ∧ w.cell? ⟨(ad.add (i.toNat * 9)).block, (ad.add (i.toNat * 9)).off + 1, none⟩ = some (.string (rd_T43 xs i).f1.f0) ∧ w.cell? ⟨(ad.add (i.toNat * 9)).block, (ad.add (i.toNat * 9)).off + 2, none⟩ = some (.int .u64 (rd_T43 xs i).f1.f1.f0) ∧ w.cell? ⟨(ad.add (i.toNat * 9)).block, (ad.add (i.toNat * 9)).off + 3, none⟩ = some (.int .u32 (rd_T43 xs i).f1.f1.f1) ∧ w.cell? ⟨(ad.add (i.toNat * 9)).block, (ad.add (i.toNat * 9)).off + 4, none⟩ = some (.int .u8 (rd_T43 xs i).f1.f1.f2) ∧ w.cell? ⟨(ad.add (i.toNat * 9)).block, (ad.add (i.toNat * 9)).off + 5, none⟩ = some (.int .u8 (rd_T43 xs i).f1.f2) ∧ w.cell? ⟨(ad.add (i.toNat * 9)).block, (ad.add (i.toNat * 9)).off + 6, none⟩ = some (.int .u32 (rd_T43 xs i).f1.f3) ∧ w.cell? ⟨(ad.add (i.toNat * 9)).block, (ad.add (i.toNat * 9)).off + 7, none⟩ = some (.int .u64 (rd_T43 xs i).f1.f4) ∧ w.cell? ⟨(ad.add (i.toNat * 9)).block, (ad.add (i.toNat * 9)).off + 8, none⟩ = some (.string (rd_T43 xs i).f1.f5) := by
  obtain ⟨ad, c, e, _, hK, hc0⟩ := Kd.C_get h z43 i h0 h1
  have hc : ∀ j u, c[j]? = some u → w.cell? (ad.add (i.toNat * 9 + j)) = some u := hc0
  obtain rfl := k43_open hK
  exact ⟨ad, e, hc 0 _ rfl, by rw [← add_field _ _ 1 (by omega)]; exact hc 1 _ rfl, by rw [← add_field _ _ 2 (by omega)]; exact hc 2 _ rfl, by rw [← add_field _ _ 3 (by omega)]; exact hc 3 _ rfl, by rw [← add_field _ _ 4 (by omega)]; exact hc 4 _ rfl, by rw [← add_field _ _ 5 (by omega)]; exact hc 5 _ rfl, by rw [← add_field _ _ 6 (by omega)]; exact hc 6 _ rfl, by rw [← add_field _ _ 7 (by omega)]; exact hc 7 _ rfl, by rw [← add_field _ _ 8 (by omega)]; exact hc 8 _ rfl⟩

end Go.Proofs.Ytmpodcefngpnkaa.PHintPlays
