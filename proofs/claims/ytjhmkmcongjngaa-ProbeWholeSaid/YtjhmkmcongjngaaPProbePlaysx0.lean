-- PRINTED BY print.sh 35421559b90ae4d0a3588c463048766b98c2df88dd9212a6774a882060cdf62d: not written by this session
import Derived.Test.YtjhmkmcongjngaaProg
import Derived.Below
import Derived.Deep.Draws
import Derived.Deep.AppendLies
import Derived.Maps.AppendAt
import Derived.OwnWalk
import Derived.Laws.BytesArg
import Derived.Laws.MakeOwn
import Derived.Laws.OwnMore
import Derived.Deep.OwnRows
import Derived.Tactics
import Derived.Lib.ConvBytes
import Derived.Laws.Slices
import Derived.WalkKit
import Derived.KernelRfl
import Derived.RowKit3
import Derived.Deep.LoopGhost
import Derived.Deep.QuietTactic
import Derived.BigQuiet
import Derived.WideLaws
import Derived.Deep.DeepCutAuto
import Derived.Deep.CutBlock
import Derived.Deep.RegionHeld3
import Derived.Laws.Rows
import Derived.Lib.AppendStr
import Derived.ArgAppend
import Derived.Laws.IdiomCopy
import Derived.OrdersHeld
import Derived.Laws.BitsLemmas
import Derived.RowKit
import Derived.Test.YtjhmkmcongjngaaWWords
import Derived.Test.YtjhmkmcongjngaaWLast
import Derived.Test.YtjhmkmcongjngaaWTab
import Derived.Test.YtjhmkmcongjngaaWFour
import Derived.Test.YtjhmkmcongjngaaWQPut
import Derived.Test.YtjhmkmcongjngaaWApart
import Derived.Test.YtjhmkmcongjngaaWArr
import Derived.Test.YtjhmkmcongjngaaWZeros
import Derived.Test.YtjhmkmcongjngaaWFoot
import Derived.Test.YtjhmkmcongjngaaWKept
import Derived.Test.YtjhmkmcongjngaaWShare
import Derived.Test.YtjhmkmcongjngaaWN
import Derived.Test.YtjhmkmcongjngaaWFootNe
import Derived.Test.YtjhmkmcongjngaaWAt
import Derived.Test.YtjhmkmcongjngaaWEqStruct
import Derived.Test.YtjhmkmcongjngaaWRepsOne
import Derived.Test.YtjhmkmcongjngaaWInv
import Derived.Test.YtjhmkmcongjngaaWInvWords
import Derived.Test.YtjhmkmcongjngaaWGuard
import Derived.Test.YtjhmkmcongjngaaWNEv
import Derived.Test.YtjhmkmcongjngaaWMore
namespace Go.Proofs.Ytjhmkmcongjngaa.PProbePlays
open Go.RowKit Go.Proofs.YtjhmkmcongjngaaW.PrintWords Go.Proofs.YtjhmkmcongjngaaW.PrintLast Go.Proofs.YtjhmkmcongjngaaW.PrintMore
attribute [local go_sem] max2_int min2_int max_two min_two max_three min_three max_four min_four   -- for this text's walks alone
set_option linter.unusedVariables false
set_option linter.unusedSimpArgs false



def errW : Option Int → Value
  | none => .nilIface
  | some c => .iface 0 (.int .i64 c)
theorem errW_none : errW none = .nilIface := rfl
theorem errW_some (c : Int) : errW (some c) = .iface 0 (.int .i64 c) := rfl

theorem info5 : (Try.prog.info? 5).map (fun i => (i.zero, i.size, i.bytes)) = some (some (.int .u8 0), 1, 1) := by kernel_rfl
theorem info80 : (Try.prog.info? 80).map (fun i => (i.zero, i.size, i.bytes)) = some (some (.agg #[(.int .u8 0), (.int .u8 0)]), 2, 2) := by kernel_rfl
theorem info88 : (Try.prog.info? 88).map (fun i => (i.zero, i.size, i.bytes)) = some (some (.agg #[(.int .u8 0), (.int .i64 0)]), 2, 16) := by kernel_rfl
-- the values' own types
/-! #### struct type 82 -/
structure S82 where
  f0 : Int
  f1 : Int
def z82 : S82 := ⟨(0 : Int), (0 : Int)⟩
def k82 : Kd S82 := Kd.iso (Kd.pair (Kd.int .u8) (Kd.int .i64)) (fun x : S82 => (x.f0, x.f1))
theorem k82_open {w : World} {x : S82} {cs : List Value} (h : k82.K w x cs) : cs = [.int .u8 x.f0, .int .i64 x.f1] := by
  obtain ⟨_, _, rfl, rfl, rfl⟩ := h
  exact rfl
theorem k82_openM {w : World} {base : Nat} {ok : Nat → Prop} {x : S82} {cs : List Value} (h : k82.M w base ok x cs) : cs = [.int .u8 x.f0, .int .i64 x.f1] := by
  obtain ⟨_, _, rfl, rfl, rfl⟩ := h
  exact rfl
theorem k82_mk (w : World) (x : S82)  : k82.K w x [.int .u8 x.f0, .int .i64 x.f1] := ⟨[.int .u8 x.f0], [.int .i64 x.f1], rfl, rfl, rfl⟩
theorem k82_mkM (w : World) (base : Nat) (ok : Nat → Prop) (x : S82)  : k82.M w base ok x [.int .u8 x.f0, .int .i64 x.f1] := ⟨[.int .u8 x.f0], [.int .i64 x.f1], rfl, rfl, rfl⟩
def rd_T82 (xs : List S82) (i : Int) : S82 := xs.getD i.toNat z82
theorem at_T82 {w : World} {A : Option Addr} {n : Nat} {xs : List S82} (h : Kd.C k82 w A n xs) (i : Int) (h0 : 0 ≤ i) (h1 : i < n) : ∃ ad , A = some ad ∧ w.cell? (ad.add (i.toNat * 2)) = some (.int .u8 (rd_T82 xs i).f0) ∧ w.cell? ⟨(ad.add (i.toNat * 2)).block, (ad.add (i.toNat * 2)).off + 1, none⟩ = some (.int .i64 (rd_T82 xs i).f1) := by
  obtain ⟨ad, c, e, _, hK, hc0⟩ := Kd.C_get h z82 i h0 h1
  have hc : ∀ j u, c[j]? = some u → w.cell? (ad.add (i.toNat * 2 + j)) = some u := hc0
  obtain rfl := k82_open hK
  exact ⟨ad, e, hc 0 _ rfl, by rw [← add_field _ _ 1 (by omega)]; exact hc 1 _ rfl⟩

/-! #### struct type 88 -/
structure S88 where
  f0 : Int
  f1 : Int
def z88 : S88 := ⟨(0 : Int), (0 : Int)⟩
def k88 : Kd S88 := Kd.iso (Kd.pair (Kd.int .u8) (Kd.int .i64)) (fun x : S88 => (x.f0, x.f1))
theorem k88_open {w : World} {x : S88} {cs : List Value} (h : k88.K w x cs) : cs = [.int .u8 x.f0, .int .i64 x.f1] := by
  obtain ⟨_, _, rfl, rfl, rfl⟩ := h
  exact rfl
theorem k88_openM {w : World} {base : Nat} {ok : Nat → Prop} {x : S88} {cs : List Value} (h : k88.M w base ok x cs) : cs = [.int .u8 x.f0, .int .i64 x.f1] := by
  obtain ⟨_, _, rfl, rfl, rfl⟩ := h
  exact rfl
theorem k88_mk (w : World) (x : S88)  : k88.K w x [.int .u8 x.f0, .int .i64 x.f1] := ⟨[.int .u8 x.f0], [.int .i64 x.f1], rfl, rfl, rfl⟩
theorem k88_mkM (w : World) (base : Nat) (ok : Nat → Prop) (x : S88)  : k88.M w base ok x [.int .u8 x.f0, .int .i64 x.f1] := ⟨[.int .u8 x.f0], [.int .i64 x.f1], rfl, rfl, rfl⟩
def rd_T88 (xs : List S88) (i : Int) : S88 := xs.getD i.toNat z88
theorem at_T88 {w : World} {A : Option Addr} {n : Nat} {xs : List S88} (h : Kd.C k88 w A n xs) (i : Int) (h0 : 0 ≤ i) (h1 : i < n) : ∃ ad , A = some ad ∧ w.cell? (ad.add (i.toNat * 2)) = some (.int .u8 (rd_T88 xs i).f0) ∧ w.cell? ⟨(ad.add (i.toNat * 2)).block, (ad.add (i.toNat * 2)).off + 1, none⟩ = some (.int .i64 (rd_T88 xs i).f1) := by
  obtain ⟨ad, c, e, _, hK, hc0⟩ := Kd.C_get h z88 i h0 h1
  have hc : ∀ j u, c[j]? = some u → w.cell? (ad.add (i.toNat * 2 + j)) = some u := hc0
  obtain rfl := k88_open hK
  exact ⟨ad, e, hc 0 _ rfl, by rw [← add_field _ _ 1 (by omega)]; exact hc 1 _ rfl⟩

/-! #### struct type 80 -/
structure S80 where
  f0 : Int
  f1 : Int
def z80 : S80 := ⟨(0 : Int), (0 : Int)⟩
def k80 : Kd S80 := Kd.iso (Kd.pair (Kd.int .u8) (Kd.int .u8)) (fun x : S80 => (x.f0, x.f1))
theorem k80_open {w : World} {x : S80} {cs : List Value} (h : k80.K w x cs) : cs = [.int .u8 x.f0, .int .u8 x.f1] := by
  obtain ⟨_, _, rfl, rfl, rfl⟩ := h
  exact rfl
theorem k80_openM {w : World} {base : Nat} {ok : Nat → Prop} {x : S80} {cs : List Value} (h : k80.M w base ok x cs) : cs = [.int .u8 x.f0, .int .u8 x.f1] := by
  obtain ⟨_, _, rfl, rfl, rfl⟩ := h
  exact rfl
theorem k80_mk (w : World) (x : S80)  : k80.K w x [.int .u8 x.f0, .int .u8 x.f1] := ⟨[.int .u8 x.f0], [.int .u8 x.f1], rfl, rfl, rfl⟩
theorem k80_mkM (w : World) (base : Nat) (ok : Nat → Prop) (x : S80)  : k80.M w base ok x [.int .u8 x.f0, .int .u8 x.f1] := ⟨[.int .u8 x.f0], [.int .u8 x.f1], rfl, rfl, rfl⟩
def rd_T80 (xs : List S80) (i : Int) : S80 := xs.getD i.toNat z80
theorem at_T80 {w : World} {A : Option Addr} {n : Nat} {xs : List S80} (h : Kd.C k80 w A n xs) (i : Int) (h0 : 0 ≤ i) (h1 : i < n) : ∃ ad , A = some ad ∧ w.cell? (ad.add (i.toNat * 2)) = some (.int .u8 (rd_T80 xs i).f0) ∧ w.cell? ⟨(ad.add (i.toNat * 2)).block, (ad.add (i.toNat * 2)).off + 1, none⟩ = some (.int .u8 (rd_T80 xs i).f1) := by
  obtain ⟨ad, c, e, _, hK, hc0⟩ := Kd.C_get h z80 i h0 h1
  have hc : ∀ j u, c[j]? = some u → w.cell? (ad.add (i.toNat * 2 + j)) = some u := hc0
  obtain rfl := k80_open hK
  exact ⟨ad, e, hc 0 _ rfl, by rw [← add_field _ _ 1 (by omega)]; exact hc 1 _ rfl⟩

end Go.Proofs.Ytjhmkmcongjngaa.PProbePlays
