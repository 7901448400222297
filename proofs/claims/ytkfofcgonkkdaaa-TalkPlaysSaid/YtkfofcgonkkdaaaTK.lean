import Derived.Test.YtkfofcgonkkdaaaTJ
namespace Go.Proofs.Ytkfofcgonkkdaaa
open Go.RowKit Go.Tat Go.Proofs.YtkfofcgonkkdaaaW.PrintWords PTalkPlays
def g31 (x : S31) : Prop := (Lit.int .u8 x.f0).wf = true ∧ (Lit.int .u32 x.f1).wf = true
theorem opens31 : Opens Try.prog 31 k31 g31 := by
  have h := Opens.struct (P := Try.prog) (t := 31) (d := Kd.pair (Kd.int .u8) (Kd.int .u32)) (g := fun p => (Lit.int .u8 p.1).wf = true ∧ (Lit.int .u32 p.2).wf = true) Try.underlying31 (by kernel_rfl)
    (OpensF.cons rfl (by kernel_rfl) (Opens.int (by kernel_rfl)) (OpensF.one (by rfl) (by kernel_rfl) (Opens.int (by kernel_rfl)))) (fun x : S31 => (x.f0, x.f1)) (fun p => ⟨p.1, p.2⟩) (fun p => rfl)
  exact .mk fun hx => let ⟨p, hg, hk⟩ := h.out hx; ⟨p, hg, hk⟩
def g33 (x : S33) : Prop := (Lit.int .u8 x.f0).wf = true ∧ g31 x.f1
theorem opens33 : Opens Try.prog 33 k33 g33 := by
  have h := Opens.struct (P := Try.prog) (t := 33) (d := Kd.pair (Kd.int .u8) k31) (g := fun p => (Lit.int .u8 p.1).wf = true ∧ g31 p.2) Try.underlying33 (by kernel_rfl)
    (OpensF.cons rfl (by kernel_rfl) (Opens.int (by kernel_rfl)) (OpensF.one (by rfl) (by kernel_rfl) opens31)) (fun x : S33 => (x.f0, x.f1)) (fun p => ⟨p.1, p.2⟩) (fun p => rfl)
  exact .mk fun hx => let ⟨p, hg, hk⟩ := h.out hx; ⟨p, hg, hk⟩
theorem u8_wf {x : Int} (h : (Lit.int .u8 x).wf = true) : 0 ≤ x ∧ x < 256 := by
  have b : IntKind.u8.min ≤ x ∧ x ≤ IntKind.u8.max := by simpa [Lit.wf] using h
  have e0 : IntKind.u8.min = 0 := rfl
  have e1 : IntKind.u8.max = 255 := rfl
  omega
theorem again_row (x : S33) (csx : List Value) (y : S33) (csy : List Value) (n : Int) (w1 : World) (w2 : World) (hx : k33.K w1 x csx) (gx : g33 x) (hy : k33.K w2 y csy) (hn : (Lit.int .u8 n).wf = true) (w : World) :
    Calls Try.prog 5 #[.agg csx.toArray, .agg csy.toArray, .int .u8 n] w fun e w' => e = .returned (.bool true) ∧ Below w.heap.size w w' := by
  obtain rfl := fl33.K.1 hx
  obtain rfl := fl33.K.1 hy
  exact again_c x y n (u8_wf gx.1).1 (u8_wf hn).1 (u8_wf hn).2 w
end Go.Proofs.Ytkfofcgonkkdaaa
