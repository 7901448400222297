import Derived.Test.YtepceielndmjgaaSI
import Derived.Test.YtepceielndmjgaaSJ
import Derived.Test.YtepceielndmjgaaOpen
namespace Go.Proofs.Ytepceielndmjgaa
open Go.RowKit Go.Tat Go.Proofs.YtepceielndmjgaaW.PrintWords PSweepTells
theorem Try.cells41 : Try.prog.cellsOf 41 = k41.sz := by kernel_rfl
theorem Try.cells43 : Try.prog.cellsOf 43 = k43.sz := by kernel_rfl
def g39 (x : S39) : Prop := (Lit.int .u64 x.f0).wf = true ∧ (Lit.int .u32 x.f1).wf = true ∧ (Lit.int .u8 x.f2).wf = true
theorem opens39 : Opens Try.prog 39 k39 g39 := by
  have h := Opens.struct (P := Try.prog) (t := 39) (d := Kd.pair (Kd.int .u64) (Kd.pair (Kd.int .u32) (Kd.int .u8))) (g := fun p => (Lit.int .u64 p.1).wf = true ∧ (Lit.int .u32 p.2.1).wf = true ∧ (Lit.int .u8 p.2.2).wf = true) Try.underlying39 (by kernel_rfl)
    (OpensF.cons rfl (by kernel_rfl) (Opens.int (by kernel_rfl)) (OpensF.cons (by rfl) (by kernel_rfl) (Opens.int (by kernel_rfl)) (OpensF.one (by rfl) (by kernel_rfl) (Opens.int (by kernel_rfl))))) (fun x : S39 => (x.f0, x.f1, x.f2)) (fun p => ⟨p.1, p.2.1, p.2.2⟩) (fun p => rfl)
  exact .mk fun hx => let ⟨p, hg, hk⟩ := h.out hx; ⟨p, hg, hk⟩
def g41 (x : S41) : Prop := x.f0.size ≤ maxLen ∧ g39 x.f1 ∧ (Lit.int .u8 x.f2).wf = true ∧ (Lit.int .u32 x.f3).wf = true ∧ (Lit.int .u64 x.f4).wf = true ∧ x.f5.size ≤ maxLen
theorem opens41 : Opens Try.prog 41 k41 g41 := by
  have h := Opens.struct (P := Try.prog) (t := 41) (d := Kd.pair Kd.string (Kd.pair k39 (Kd.pair (Kd.int .u8) (Kd.pair (Kd.int .u32) (Kd.pair (Kd.int .u64) Kd.string)))))
    (g := fun p => p.1.size ≤ maxLen ∧ g39 p.2.1 ∧ (Lit.int .u8 p.2.2.1).wf = true ∧ (Lit.int .u32 p.2.2.2.1).wf = true ∧ (Lit.int .u64 p.2.2.2.2.1).wf = true ∧ p.2.2.2.2.2.size ≤ maxLen) Try.underlying41 (by kernel_rfl)
    (OpensF.cons rfl (by kernel_rfl) (Opens.string (by kernel_rfl)) (OpensF.cons (by rfl) (by kernel_rfl) opens39 (OpensF.cons (by rfl) (by kernel_rfl) (Opens.int (by kernel_rfl)) (OpensF.cons (by rfl) (by kernel_rfl) (Opens.int (by kernel_rfl)) (OpensF.cons (by rfl) (by kernel_rfl) (Opens.int (by kernel_rfl)) (OpensF.one (by rfl) (by kernel_rfl) (Opens.string (by kernel_rfl))))))))
    (fun x : S41 => (x.f0, x.f1, x.f2, x.f3, x.f4, x.f5)) (fun p => ⟨p.1, p.2.1, p.2.2.1, p.2.2.2.1, p.2.2.2.2.1, p.2.2.2.2.2⟩) (fun p => rfl)
  exact .mk fun hx => let ⟨p, hg, hk⟩ := h.out hx; ⟨p, hg, hk⟩
def g43 (x : S43) : Prop := x.f0.size ≤ maxLen ∧ g39 x.f1 ∧ (Lit.int .u8 x.f2).wf = true
theorem opens43 : Opens Try.prog 43 k43 g43 := by
  have h := Opens.struct (P := Try.prog) (t := 43) (d := Kd.pair Kd.string (Kd.pair k39 (Kd.int .u8))) (g := fun p => p.1.size ≤ maxLen ∧ g39 p.2.1 ∧ (Lit.int .u8 p.2.2).wf = true) Try.underlying43 (by kernel_rfl)
    (OpensF.cons rfl (by kernel_rfl) (Opens.string (by kernel_rfl)) (OpensF.cons (by rfl) (by kernel_rfl) opens39 (OpensF.one (by rfl) (by kernel_rfl) (Opens.int (by kernel_rfl))))) (fun x : S43 => (x.f0, x.f1, x.f2)) (fun p => ⟨p.1, p.2.1, p.2.2⟩) (fun p => rfl)
  exact .mk fun hx => let ⟨p, hg, hk⟩ := h.out hx; ⟨p, hg, hk⟩
end Go.Proofs.Ytepceielndmjgaa
