import Derived.Test.YtkfofcgonkkdaaaTU
import Derived.Test.YtkfofcgonkkdaaaTH
import Derived.Test.YtkfofcgonkkdaaaTK
import Derived.Deep.DeepCutAuto
import Derived.Deep.CutBlock
namespace Go.Proofs.Ytkfofcgonkkdaaa
open Go.RowKit Go.Tat Go.Proofs.YtkfofcgonkkdaaaW.PrintWords PTalkPlays
/-! #### struct type 35 -/
structure S35 where
  f0 : Bool
  f1 : S33
def z35 : S35 := ⟨false, z33⟩
def k35 : Kd S35 := Kd.iso (Kd.pair Kd.bool k33) (fun x : S35 => (x.f0, x.f1))
theorem k35_open {w : World} {x : S35} {cs : List Value} (h : k35.K w x cs) : cs = [.bool x.f0, .int .u8 x.f1.f0, .int .u8 x.f1.f1.f0, .int .u32 x.f1.f1.f1] := by
  obtain ⟨_, _, rfl, rfl, s1⟩ := h
  obtain rfl := k33_open s1
  exact rfl
theorem k35_openM {w : World} {base : Nat} {ok : Nat → Prop} {x : S35} {cs : List Value} (h : k35.M w base ok x cs) : cs = [.bool x.f0, .int .u8 x.f1.f0, .int .u8 x.f1.f1.f0, .int .u32 x.f1.f1.f1] := by
  obtain ⟨_, _, rfl, rfl, s1⟩ := h
  obtain rfl := k33_openM s1
  exact rfl
theorem k35_mk (w : World) (x : S35)  : k35.K w x [.bool x.f0, .int .u8 x.f1.f0, .int .u8 x.f1.f1.f0, .int .u32 x.f1.f1.f1] := ⟨[.bool x.f0], [.int .u8 x.f1.f0, .int .u8 x.f1.f1.f0, .int .u32 x.f1.f1.f1], rfl, rfl, (k33_mk w x.f1 )⟩
theorem k35_mkM (w : World) (base : Nat) (ok : Nat → Prop) (x : S35)  : k35.M w base ok x [.bool x.f0, .int .u8 x.f1.f0, .int .u8 x.f1.f1.f0, .int .u32 x.f1.f1.f1] := ⟨[.bool x.f0], [.int .u8 x.f1.f0, .int .u8 x.f1.f1.f0, .int .u32 x.f1.f1.f1], rfl, rfl, (k33_mkM w base ok x.f1 )⟩
def rd_T35 (xs : List S35) (i : Int) : S35 := xs.getD i.toNat z35
theorem at_T35 {w : World} {A : Option Addr} {n : Nat} {xs : List S35} (h : Kd.C k35 w A n xs) (i : Int) (h0 : 0 ≤ i) (h1 : i < n) : ∃ ad , A = some ad ∧ w.cell? (ad.add (i.toNat * 4)) = some (.bool (rd_T35 xs i).f0) ∧ w.cell? ⟨(ad.add (i.toNat * 4)).block, (ad.add (i.toNat * 4)).off + 1, none⟩ = some (.int .u8 (rd_T35 xs i).f1.f0) ∧ w.cell? ⟨(ad.add (i.toNat * 4)).block, (ad.add (i.toNat * 4)).off + 2, none⟩ = some (.int .u8 (rd_T35 xs i).f1.f1.f0) ∧ w.cell? ⟨(ad.add (i.toNat * 4)).block, (ad.add (i.toNat * 4)).off + 3, none⟩ = some (.int .u32 (rd_T35 xs i).f1.f1.f1) := by
  obtain ⟨ad, c, e, _, hK, hc0⟩ := Kd.C_get h z35 i h0 h1
  have hc : ∀ j u, c[j]? = some u → w.cell? (ad.add (i.toNat * 4 + j)) = some u := hc0
  obtain rfl := k35_open hK
  exact ⟨ad, e, hc 0 _ rfl, by rw [← add_field _ _ 1 (by omega)]; exact hc 1 _ rfl, by rw [← add_field _ _ 2 (by omega)]; exact hc 2 _ rfl, by rw [← add_field _ _ 3 (by omega)]; exact hc 3 _ rfl⟩

instance : Inhabited S35 := ⟨z35⟩
def e35 (x : S35) : List Value := [.bool x.f0, .int .u8 x.f1.f0, .int .u8 x.f1.f1.f0, .int .u32 x.f1.f1.f1]
theorem fl35 : Flat k35 e35 := ⟨rfl, ⟨fun h => k35_openM h, fun h => h ▸ k35_mkM _ _ _ _⟩, ⟨fun h => k35_open h, fun h => h ▸ k35_mk _ _⟩⟩
theorem Try.cells35 : Try.prog.cellsOf 35 = k35.sz := by kernel_rfl
def g35 (x : S35) : Prop := True ∧ g33 x.f1
theorem opens35 : Opens Try.prog 35 k35 g35 := by
  have h := Opens.struct (P := Try.prog) (t := 35) (d := Kd.pair Kd.bool k33) (g := fun p => True ∧ g33 p.2) Try.underlying35 (by kernel_rfl)
    (OpensF.cons rfl (by kernel_rfl) (Opens.bool (by kernel_rfl)) (OpensF.one (by rfl) (by kernel_rfl) opens33)) (fun x : S35 => (x.f0, x.f1)) (fun p => ⟨p.1, p.2⟩) (fun p => rfl)
  exact .mk fun hx => let ⟨p, hg, hk⟩ := h.out hx; ⟨p, hg, hk⟩
def evN (x : S33) : Value := .agg (e33 x).toArray
theorem keys5 : KeyLaw Try.prog 5 (Value.int .u8) := KeyLaw.int Try.underlying5
theorem zero33 : (Try.prog.info? 33).map (·.zero) = some (some (evN ⟨0, ⟨0, 0⟩⟩)) := by kernel_rfl
theorem zero4 : (Try.prog.info? 4).map (·.zero) = some (some (.bool false)) := by kernel_rfl
end Go.Proofs.Ytkfofcgonkkdaaa
