/- The arguments opened. -/
import Derived.Test.YtmpodcefngpnkaaLib
import Derived.Test.YtmpodcefngpnkaaHA
namespace Go.Proofs.Ytmpodcefngpnkaa
open Go.RowKit Go.Tat Go.Proofs.YtmpodcefngpnkaaW.PrintWords PHintPlays
theorem Try.cells37 : Try.prog.cellsOf 37 = k37.sz := by kernel_rfl
instance : Inhabited S37 := ⟨z37⟩
def g33 (x : S33) : Prop := (Lit.int .u64 x.f0).wf = true ∧ (Lit.int .u32 x.f1).wf = true ∧ (Lit.int .u8 x.f2).wf = true
def g35 (x : S35) : Prop := x.f0.size ≤ maxLen ∧ g33 x.f1 ∧ (Lit.int .u8 x.f2).wf = true ∧ (Lit.int .u32 x.f3).wf = true ∧ (Lit.int .u64 x.f4).wf = true ∧ x.f5.size ≤ maxLen
def g37 (x : S37) : Prop := (Lit.int .i64 x.f0).wf = true ∧ g35 x.f1 ∧ (Lit.int .u8 x.f2).wf = true ∧ ∀ y ∈ x.f3, (Lit.int .u8 y).wf = true
theorem opens33 : Opens Try.prog 33 k33 g33 := by
  have h := Opens.struct (P := Try.prog) (t := 33) (d := Kd.pair (Kd.int .u64) (Kd.pair (Kd.int .u32) (Kd.int .u8))) (g := fun p => (Lit.int .u64 p.1).wf = true ∧ (Lit.int .u32 p.2.1).wf = true ∧ (Lit.int .u8 p.2.2).wf = true) Try.underlying33 (by kernel_rfl)
    (OpensF.cons rfl (by kernel_rfl) (Opens.int (by kernel_rfl)) (OpensF.cons (by rfl) (by kernel_rfl) (Opens.int (by kernel_rfl)) (OpensF.one (by rfl) (by kernel_rfl) (Opens.int (by kernel_rfl))))) (fun x : S33 => (x.f0, x.f1, x.f2)) (fun p => ⟨p.1, p.2.1, p.2.2⟩) (fun p => rfl)
  exact .mk fun hx => let ⟨p, hg, hk⟩ := h.out hx; ⟨p, hg, hk⟩
theorem opens35 : Opens Try.prog 35 k35 g35 := by
  have h := Opens.struct (P := Try.prog) (t := 35) (d := Kd.pair Kd.string (Kd.pair k33 (Kd.pair (Kd.int .u8) (Kd.pair (Kd.int .u32) (Kd.pair (Kd.int .u64) Kd.string))))) (g := fun p => p.1.size ≤ maxLen ∧ g33 p.2.1 ∧ (Lit.int .u8 p.2.2.1).wf = true ∧ (Lit.int .u32 p.2.2.2.1).wf = true ∧ (Lit.int .u64 p.2.2.2.2.1).wf = true ∧ p.2.2.2.2.2.size ≤ maxLen) Try.underlying35 (by kernel_rfl)
    (OpensF.cons rfl (by kernel_rfl) (Opens.string (by kernel_rfl)) (OpensF.cons (by rfl) (by kernel_rfl) opens33 (OpensF.cons (by rfl) (by kernel_rfl) (Opens.int (by kernel_rfl)) (OpensF.cons (by rfl) (by kernel_rfl) (Opens.int (by kernel_rfl)) (OpensF.cons (by rfl) (by kernel_rfl) (Opens.int (by kernel_rfl)) (OpensF.one (by rfl) (by kernel_rfl) (Opens.string (by kernel_rfl)))))))) (fun x : S35 => (x.f0, x.f1, x.f2, x.f3, x.f4, x.f5)) (fun p => ⟨p.1, p.2.1, p.2.2.1, p.2.2.2.1, p.2.2.2.2.1, p.2.2.2.2.2⟩) (fun p => rfl)
  exact .mk fun hx => let ⟨p, hg, hk⟩ := h.out hx; ⟨p, hg, hk⟩
theorem opens37 : Opens Try.prog 37 k37 g37 := by
  have h := Opens.struct (P := Try.prog) (t := 37) (d := Kd.pair (Kd.int .i64) (Kd.pair k35 (Kd.pair (Kd.int .u8) (Kd.slice 5 (Kd.int .u8))))) (g := fun p => (Lit.int .i64 p.1).wf = true ∧ g35 p.2.1 ∧ (Lit.int .u8 p.2.2.1).wf = true ∧ ∀ y ∈ p.2.2.2, (Lit.int .u8 y).wf = true) Try.underlying37 (by kernel_rfl)
    (OpensF.cons rfl (by kernel_rfl) (Opens.int (by kernel_rfl)) (OpensF.cons (by rfl) (by kernel_rfl) opens35 (OpensF.cons (by rfl) (by kernel_rfl) (Opens.int (by kernel_rfl)) (OpensF.one (by rfl) (by kernel_rfl) (Opens.slice (by kernel_rfl) (by kernel_rfl) (Opens.int (by kernel_rfl))))))) (fun x : S37 => (x.f0, x.f1, x.f2, x.f3)) (fun p => ⟨p.1, p.2.1, p.2.2.1, p.2.2.2⟩) (fun p => rfl)
  exact .mk fun hx => let ⟨p, hg, hk⟩ := h.out hx; ⟨p, hg, hk⟩
theorem u8_wf {x : Int} (h : (Lit.int .u8 x).wf = true) : 0 ≤ x ∧ x < 256 := by
  have b : IntKind.u8.min ≤ x ∧ x ≤ IntKind.u8.max := by simpa [Lit.wf] using h
  have e0 : IntKind.u8.min = 0 := rfl
  have e1 : IntKind.u8.max = 255 := rfl
  omega
theorem Try.cells5 : Try.prog.cellsOf 5 = (Kd.int .u8).sz := by kernel_rfl
theorem opens5 : Opens Try.prog 5 (Kd.int .u8) (fun n => (Lit.int .u8 n).wf = true) := Opens.int (by kernel_rfl)
end Go.Proofs.Ytmpodcefngpnkaa
