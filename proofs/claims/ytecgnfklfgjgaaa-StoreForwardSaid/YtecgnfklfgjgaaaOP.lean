/- The arguments opened. -/
import Derived.Test.YtecgnfklfgjgaaaLib
import Derived.Test.YtecgnfklfgjgaaaStR
set_option linter.unusedVariables false
set_option linter.unusedSimpArgs false
namespace Go.Proofs.Ytecgnfklfgjgaaa
open Go.RowKit Go.Tat Go.Tab Go.Proofs.YtecgnfklfgjgaaaW.PrintWords PStorePeeks
theorem Try.cells39 : Try.prog.cellsOf 39 = k39.sz := by kernel_rfl
instance : Inhabited S39 := ⟨z39⟩
def g35 (x : S35) : Prop := (Lit.int .u64 x.f0).wf = true ∧ (Lit.int .u32 x.f1).wf = true ∧ (Lit.int .u8 x.f2).wf = true
def g37 (x : S37) : Prop := x.f0.size ≤ maxLen ∧ g35 x.f1 ∧ (Lit.int .u8 x.f2).wf = true ∧ (Lit.int .u32 x.f3).wf = true ∧ (Lit.int .u64 x.f4).wf = true ∧ x.f5.size ≤ maxLen
def g39 (x : S39) : Prop := (Lit.int .i64 x.f0).wf = true ∧ g37 x.f1 ∧ (Lit.int .u8 x.f2).wf = true
theorem opens35 : Opens Try.prog 35 k35 g35 := by
  have h := Opens.struct (P := Try.prog) (t := 35) (d := Kd.pair (Kd.int .u64) (Kd.pair (Kd.int .u32) (Kd.int .u8))) (g := fun p => (Lit.int .u64 p.1).wf = true ∧ (Lit.int .u32 p.2.1).wf = true ∧ (Lit.int .u8 p.2.2).wf = true) Try.underlying35 (by kernel_rfl)
    (OpensF.cons rfl (by kernel_rfl) (Opens.int (by kernel_rfl)) (OpensF.cons (by rfl) (by kernel_rfl) (Opens.int (by kernel_rfl)) (OpensF.one (by rfl) (by kernel_rfl) (Opens.int (by kernel_rfl))))) (fun x : S35 => (x.f0, x.f1, x.f2)) (fun p => ⟨p.1, p.2.1, p.2.2⟩) (fun p => rfl)
  exact .mk fun hx => let ⟨p, hg, hk⟩ := h.out hx; ⟨p, hg, hk⟩
theorem opens37 : Opens Try.prog 37 k37 g37 := by
  have h := Opens.struct (P := Try.prog) (t := 37) (d := Kd.pair Kd.string (Kd.pair k35 (Kd.pair (Kd.int .u8) (Kd.pair (Kd.int .u32) (Kd.pair (Kd.int .u64) Kd.string))))) (g := fun p => p.1.size ≤ maxLen ∧ g35 p.2.1 ∧ (Lit.int .u8 p.2.2.1).wf = true ∧ (Lit.int .u32 p.2.2.2.1).wf = true ∧ (Lit.int .u64 p.2.2.2.2.1).wf = true ∧ p.2.2.2.2.2.size ≤ maxLen) Try.underlying37 (by kernel_rfl)
    (OpensF.cons rfl (by kernel_rfl) (Opens.string (by kernel_rfl)) (OpensF.cons (by rfl) (by kernel_rfl) opens35 (OpensF.cons (by rfl) (by kernel_rfl) (Opens.int (by kernel_rfl)) (OpensF.cons (by rfl) (by kernel_rfl) (Opens.int (by kernel_rfl)) (OpensF.cons (by rfl) (by kernel_rfl) (Opens.int (by kernel_rfl)) (OpensF.one (by rfl) (by kernel_rfl) (Opens.string (by kernel_rfl)))))))) (fun x : S37 => (x.f0, x.f1, x.f2, x.f3, x.f4, x.f5)) (fun p => ⟨p.1, p.2.1, p.2.2.1, p.2.2.2.1, p.2.2.2.2.1, p.2.2.2.2.2⟩) (fun p => rfl)
  exact .mk fun hx => let ⟨p, hg, hk⟩ := h.out hx; ⟨p, hg, hk⟩
theorem opens39 : Opens Try.prog 39 k39 g39 := by
  have h := Opens.struct (P := Try.prog) (t := 39) (d := Kd.pair (Kd.int .i64) (Kd.pair k37 (Kd.int .u8))) (g := fun p => (Lit.int .i64 p.1).wf = true ∧ g37 p.2.1 ∧ (Lit.int .u8 p.2.2).wf = true) Try.underlying39 (by kernel_rfl)
    (OpensF.cons rfl (by kernel_rfl) (Opens.int (by kernel_rfl)) (OpensF.cons (by rfl) (by kernel_rfl) opens37 (OpensF.one (by rfl) (by kernel_rfl) (Opens.int (by kernel_rfl))))) (fun x : S39 => (x.f0, x.f1, x.f2)) (fun p => ⟨p.1, p.2.1, p.2.2⟩) (fun p => rfl)
  exact .mk fun hx => let ⟨p, hg, hk⟩ := h.out hx; ⟨p, hg, hk⟩
theorem u8_wf {x : Int} (h : (Lit.int .u8 x).wf = true) : 0 ≤ x ∧ x < 256 := by
  have b : IntKind.u8.min ≤ x ∧ x ≤ IntKind.u8.max := by simpa [Lit.wf] using h
  have e0 : IntKind.u8.min = 0 := rfl
  have e1 : IntKind.u8.max = 255 := rfl
  omega
theorem u64_wf {x : Int} (h : (Lit.int .u64 x).wf = true) : 0 ≤ x ∧ x < 18446744073709551616 := by
  have b : IntKind.u64.min ≤ x ∧ x ≤ IntKind.u64.max := by simpa [Lit.wf] using h
  have e0 : IntKind.u64.min = 0 := rfl
  have e1 : IntKind.u64.max = 18446744073709551615 := rfl
  omega
theorem size_max {s : ByteArray} (h : s.size ≤ maxLen) : s.size ≤ 9223372036854775807 := h
end Go.Proofs.Ytecgnfklfgjgaaa
