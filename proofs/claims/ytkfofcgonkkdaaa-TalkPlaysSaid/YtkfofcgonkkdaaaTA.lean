import Derived.Test.YtkfofcgonkkdaaaFlat
import Derived.Test.YtkfofcgonkkdaaaPTalkPlaysx0
namespace Go.Proofs.Ytkfofcgonkkdaaa
open Go.RowKit Go.Tat Go.Proofs.YtkfofcgonkkdaaaW.PrintWords PTalkPlays
/-! #### struct type 60 -/
structure S60 where
  f0 : S33
  f1 : Int
  f2 : Int
def z60 : S60 := ⟨z33, (0 : Int), (0 : Int)⟩
def k60 : Kd S60 := Kd.iso (Kd.pair k33 (Kd.pair (Kd.int .i64) (Kd.int .i64))) (fun x : S60 => (x.f0, x.f1, x.f2))
theorem k60_open {w : World} {x : S60} {cs : List Value} (h : k60.K w x cs) : cs = [.int .u8 x.f0.f0, .int .u8 x.f0.f1.f0, .int .u32 x.f0.f1.f1, .int .i64 x.f1, .int .i64 x.f2] := by
  obtain ⟨_, _, rfl, s0, ⟨_, _, rfl, rfl, rfl⟩⟩ := h
  obtain rfl := k33_open s0
  exact rfl
theorem k60_openM {w : World} {base : Nat} {ok : Nat → Prop} {x : S60} {cs : List Value} (h : k60.M w base ok x cs) : cs = [.int .u8 x.f0.f0, .int .u8 x.f0.f1.f0, .int .u32 x.f0.f1.f1, .int .i64 x.f1, .int .i64 x.f2] := by
  obtain ⟨_, _, rfl, s0, ⟨_, _, rfl, rfl, rfl⟩⟩ := h
  obtain rfl := k33_openM s0
  exact rfl
theorem k60_mk (w : World) (x : S60)  : k60.K w x [.int .u8 x.f0.f0, .int .u8 x.f0.f1.f0, .int .u32 x.f0.f1.f1, .int .i64 x.f1, .int .i64 x.f2] := ⟨[.int .u8 x.f0.f0, .int .u8 x.f0.f1.f0, .int .u32 x.f0.f1.f1], [.int .i64 x.f1, .int .i64 x.f2], rfl, (k33_mk w x.f0 ), ⟨[.int .i64 x.f1], [.int .i64 x.f2], rfl, rfl, rfl⟩⟩
theorem k60_mkM (w : World) (base : Nat) (ok : Nat → Prop) (x : S60)  : k60.M w base ok x [.int .u8 x.f0.f0, .int .u8 x.f0.f1.f0, .int .u32 x.f0.f1.f1, .int .i64 x.f1, .int .i64 x.f2] := ⟨[.int .u8 x.f0.f0, .int .u8 x.f0.f1.f0, .int .u32 x.f0.f1.f1], [.int .i64 x.f1, .int .i64 x.f2], rfl, (k33_mkM w base ok x.f0 ), ⟨[.int .i64 x.f1], [.int .i64 x.f2], rfl, rfl, rfl⟩⟩
def rd_T60 (xs : List S60) (i : Int) : S60 := xs.getD i.toNat z60
theorem at_T60 {w : World} {A : Option Addr} {n : Nat} {xs : List S60} (h : Kd.C k60 w A n xs) (i : Int) (h0 : 0 ≤ i) (h1 : i < n) : ∃ ad , A = some ad ∧ w.cell? (ad.add (i.toNat * 5)) = some (.int .u8 (rd_T60 xs i).f0.f0) ∧ w.cell? ⟨(ad.add (i.toNat * 5)).block, (ad.add (i.toNat * 5)).off + 1, none⟩ = some (.int .u8 (rd_T60 xs i).f0.f1.f0) ∧ w.cell? ⟨(ad.add (i.toNat * 5)).block, (ad.add (i.toNat * 5)).off + 2, none⟩ = some (.int .u32 (rd_T60 xs i).f0.f1.f1) ∧ w.cell? ⟨(ad.add (i.toNat * 5)).block, (ad.add (i.toNat * 5)).off + 3, none⟩ = some (.int .i64 (rd_T60 xs i).f1) ∧ w.cell? ⟨(ad.add (i.toNat * 5)).block, (ad.add (i.toNat * 5)).off + 4, none⟩ = some (.int .i64 (rd_T60 xs i).f2) := by
  obtain ⟨ad, c, e, _, hK, hc0⟩ := Kd.C_get h z60 i h0 h1
  have hc : ∀ j u, c[j]? = some u → w.cell? (ad.add (i.toNat * 5 + j)) = some u := hc0
  obtain rfl := k60_open hK
  exact ⟨ad, e, hc 0 _ rfl, by rw [← add_field _ _ 1 (by omega)]; exact hc 1 _ rfl, by rw [← add_field _ _ 2 (by omega)]; exact hc 2 _ rfl, by rw [← add_field _ _ 3 (by omega)]; exact hc 3 _ rfl, by rw [← add_field _ _ 4 (by omega)]; exact hc 4 _ rfl⟩
instance : Inhabited S60 := ⟨z60⟩
def e60 (x : S60) : List Value := [.int .u8 x.f0.f0, .int .u8 x.f0.f1.f0, .int .u32 x.f0.f1.f1, .int .i64 x.f1, .int .i64 x.f2]
theorem fl60 : Flat k60 e60 := ⟨rfl, ⟨fun h => k60_openM h, fun h => h ▸ k60_mkM _ _ _ _⟩, ⟨fun h => k60_open h, fun h => h ▸ k60_mk _ _⟩⟩
def e33 (x : S33) : List Value := [.int .u8 x.f0, .int .u8 x.f1.f0, .int .u32 x.f1.f1]
theorem fl33 : Flat k33 e33 := ⟨rfl, ⟨fun h => k33_openM h, fun h => h ▸ k33_mkM _ _ _ _⟩, ⟨fun h => k33_open h, fun h => h ▸ k33_mk _ _⟩⟩
end Go.Proofs.Ytkfofcgonkkdaaa
