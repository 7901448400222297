import Derived.Test.YtjhmkmcongjngaaLib
import Derived.Test.YtjhmkmcongjngaaQH
set_option linter.unusedVariables false
set_option linter.unusedSimpArgs false
namespace Go.Proofs.Ytjhmkmcongjngaa
open Go.RowKit Go.Tat Go.Proofs.YtjhmkmcongjngaaW.PrintWords PProbePlays
def e82 (x : S82) : List Value := [.int .u8 x.f0, .int .i64 x.f1]
theorem fl82 : Flat k82 e82 := ⟨rfl, ⟨fun h => k82_openM h, fun h => h ▸ k82_mkM _ _ _ _⟩, ⟨fun h => k82_open h, fun h => h ▸ k82_mk _ _⟩⟩
end Go.Proofs.Ytjhmkmcongjngaa
