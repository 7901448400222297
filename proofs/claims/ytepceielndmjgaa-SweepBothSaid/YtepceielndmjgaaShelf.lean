/-
  DERIVED: THE SHELF's CONTRACTS AT THIS DUMP, IN PLAIN WORDS (tools/lay-plain.mjs out of 'YtepceielndmjgaaTShelf.lean', which tools/lay-shelf.mjs wrote): THE SAME DECLARATIONS UNDER THE SAME NAMES: 'import', 'namespace', 'open', 'def', 'theorem' AND NOTHING ELSE: no command of the shelf's: FOR A HAND-IN. Each laying: the table of numbers ('.._ren') and one theorem, a field a fact of the dump's own or the kernel's comparison; each contract: ONE APPLICATION.
-/
import Derived.Shelf.SlGeneric
import Derived.Shelf.Lays
import Derived.Ground.NamesProg
import Derived.Test.YtepceielndmjgaaProg
namespace Go.Proofs
open Go.Shelf
def Try.lays190_ren : Go.Shelf.Ren := ⟨fun | 190 => 24 | 125 => 30 | 258 => 29 | 128 => 44 | 129 => 45 | 302 => 35 | 303 => 36 | 304 => 37 | 305 => 38 | 306 => 39 | 307 => 40 | 308 => 41 | 309 => 42 | 310 => 43 | 333 => 48 | 329 => 49 | 330 => 50 | 334 => 51 | 335 => 52 | 336 => 53 | 344 => 54 | n => n, fun | 31 => 32 | 9 => 9 | 3 => 3 | 46 => 57 | 0 => 0 | 51 => 37 | 53 => 36 | 4 => 4 | 183 => 65 | 182 => 64 | 131 => 70 | 5 => 5 | 218 => 76 | 222 => 80 | 228 => 83 | 229 => 84 | n => n, fun | n => n⟩
theorem Try.lays190 : Go.Proofs.Lays.n190 Try.prog Try.lays190_ren := {
  mixed := by kernel_rfl
  f125 := Try.func30.trans (congrArg some (by kernel_rfl))
  f128 := Try.func44.trans (congrArg some (by kernel_rfl))
  f129 := Try.func45.trans (congrArg some (by kernel_rfl))
  f190 := Try.func24.trans (congrArg some (by kernel_rfl))
  f258 := Try.func29.trans (congrArg some (by kernel_rfl))
  f302 := Try.func35.trans (congrArg some (by kernel_rfl))
  f303 := Try.func36.trans (congrArg some (by kernel_rfl))
  f304 := Try.func37.trans (congrArg some (by kernel_rfl))
  f305 := Try.func38.trans (congrArg some (by kernel_rfl))
  f306 := Try.func39.trans (congrArg some (by kernel_rfl))
  f307 := Try.func40.trans (congrArg some (by kernel_rfl))
  f308 := Try.func41.trans (congrArg some (by kernel_rfl))
  f309 := Try.func42.trans (congrArg some (by kernel_rfl))
  f310 := Try.func43.trans (congrArg some (by kernel_rfl))
  f329 := Try.func49.trans (congrArg some (by kernel_rfl))
  f330 := Try.func50.trans (congrArg some (by kernel_rfl))
  f333 := Try.func48.trans (congrArg some (by kernel_rfl))
  f334 := Try.func51.trans (congrArg some (by kernel_rfl))
  f335 := Try.func52.trans (congrArg some (by kernel_rfl))
  f336 := Try.func53.trans (congrArg some (by kernel_rfl))
  f344 := Try.func54.trans (congrArg some (by kernel_rfl))
  t0 := Try.underlying0
  a0 := Try.isAgg0
  z0 := Try.sizeOf0
  v0 := Try.zeroValue0
  t3 := Try.underlying3
  a3 := Try.isAgg3
  z3 := Try.sizeOf3
  v3 := Try.zeroValue3
  t4 := Try.underlying4
  a4 := Try.isAgg4
  z4 := Try.sizeOf4
  v4 := Try.zeroValue4
  t5 := Try.underlying5
  a5 := Try.isAgg5
  z5 := Try.sizeOf5
  v5 := Try.zeroValue5
  t9 := Try.underlying9
  a9 := Try.isAgg9
  z9 := Try.sizeOf9
  v9 := Try.zeroValue9
  t31 := Try.underlying32
  a31 := Try.isAgg32
  z31 := Try.sizeOf32
  v31 := Try.zeroValue32
  t46 := Try.underlying57
  a46 := Try.isAgg57
  z46 := Try.sizeOf57
  v46 := Try.zeroValue57
  t51 := Try.underlying37
  a51 := Try.isAgg37
  z51 := Try.sizeOf37
  v51 := Try.zeroValue37
  t53 := Try.underlying36
  a53 := Try.isAgg36
  z53 := Try.sizeOf36
  v53 := Try.zeroValue36
  t131 := Try.underlying70
  a131 := Try.isAgg70
  z131 := Try.sizeOf70
  v131 := Try.zeroValue70
  t182 := Try.underlying64
  a182 := Try.isAgg64
  z182 := Try.sizeOf64
  v182 := Try.zeroValue64
  t183 := Try.underlying65
  a183 := Try.isAgg65
  z183 := Try.sizeOf65
  v183 := Try.zeroValue65
  t218 := Try.underlying76
  a218 := Try.isAgg76
  z218 := Try.sizeOf76
  v218 := Try.zeroValue76
  t222 := Try.underlying80
  a222 := Try.isAgg80
  z222 := Try.sizeOf80
  v222 := Try.zeroValue80
  t228 := Try.underlying83
  a228 := Try.isAgg83
  z228 := Try.sizeOf83
  v228 := Try.zeroValue83
  t229 := Try.underlying84
  a229 := Try.isAgg84
  z229 := Try.sizeOf84
  v229 := Try.zeroValue84 }
end Go.Proofs
