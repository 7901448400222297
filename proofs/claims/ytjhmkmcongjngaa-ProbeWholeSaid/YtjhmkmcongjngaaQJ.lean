import Derived.Test.YtjhmkmcongjngaaQD
set_option linter.unusedVariables false
set_option linter.unusedSimpArgs false
namespace Go.Proofs.Ytjhmkmcongjngaa
open Go.RowKit Go.Tat Go.Proofs.YtjhmkmcongjngaaW.PrintWords PProbePlays
theorem enters26 : ∀ args w, (callFunc 26 args).run Try.prog w = .ok (.enter 26 args) w := enters_of Try.func26 (by kernel_rfl) rfl
theorem enters31 : ∀ args w, (callFunc 31 args).run Try.prog w = .ok (.enter 31 args) w := enters_of Try.func31 (by kernel_rfl) rfl
theorem says26 {w : World} {b : Nat} {t : Int} (h : w.cell? ⟨b, 0, none⟩ = some (.int .u8 t)) : Says 26 (.pointer (some ⟨b, 0, none⟩)) (fun x => x.f0 == t) w := fun W x hB => is_c x b t W ((hB.cell (World.block_lt_of_cell? w _ h)).trans h)
theorem says31 {w : World} {b : Nat} {t : Int} (h : w.cell? ⟨b, 0, none⟩ = some (.int .u8 t)) : Says 31 (.pointer (some ⟨b, 0, none⟩)) (fun x => x.f0 == t) w := fun W x hB => isnt_c x b t W ((hB.cell (World.block_lt_of_cell? w _ h)).trans h)
end Go.Proofs.Ytjhmkmcongjngaa
