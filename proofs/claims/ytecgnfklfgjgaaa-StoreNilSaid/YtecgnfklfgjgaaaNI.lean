/- A nil store. -/
import Derived.Test.YtecgnfklfgjgaaaStR
set_option linter.unusedVariables false
set_option linter.unusedSimpArgs false
namespace Go.Proofs.Ytecgnfklfgjgaaa
open Go.RowKit Go.Tat Go.Tab Go.Proofs.YtecgnfklfgjgaaaW.PrintWords PStorePeeks
section
variable (w : World)
set_option maxRecDepth 100000 in
theorem put_nil (r : Rc) (now : Int) : Calls Try.prog 11 #[.pointer none, .agg (eRc r).toArray, .int .u64 now] w fun e w' => e = .returned (.tuple #[.bool false, .int .i64 1]) ∧ Below w.heap.size w w' := by
  unfold eRc
  go_enter Try.func11, Try.ntmps11
  go_wp2_with fail
  go_ret2
  exact ⟨rfl, (Below.refl _ _).alloc (Nat.le_refl _) _⟩
set_option maxRecDepth 100000 in
theorem get_nil (k : ByteArray) : Calls Try.prog 12 #[.pointer none, .string k] w fun e w' => e = .returned (.tuple #[.agg (eRc zRc).toArray, .bool false]) ∧ Below w.heap.size w w' := by
  go_enter Try.func12, Try.ntmps12
  go_wp2_with fail
  refine bodyPost_ret (results_cell_row_tmp rfl _ _ w.heap.size 37 _ (0, 0) _ rfl (heap_alloc_new w _) Try.underlying37 rfl rec_size) rfl ?_
  exact ⟨rfl, (Below.refl _ _).alloc (Nat.le_refl _) _⟩
set_option maxRecDepth 100000 in
theorem peek_nil (k : ByteArray) : Calls Try.prog 14 #[.pointer none, .string k] w fun e w' => e = .returned (.tuple #[.agg (eRc zRc).toArray, .bool false]) ∧ Below w.heap.size w w' := by
  go_enter Try.func14, Try.ntmps14
  go_wp2_with fail
  refine bodyPost_ret (results_cell_row_tmp rfl _ _ w.heap.size 37 _ (0, 0) _ rfl (heap_alloc_new w _) Try.underlying37 rfl rec_size) rfl ?_
  exact ⟨rfl, (Below.refl _ _).alloc (Nat.le_refl _) _⟩
set_option maxRecDepth 100000 in
theorem purge_nil (now : Int) : Calls Try.prog 13 #[.pointer none, .int .u64 now] w fun e w' => e = .returned (.int .i64 0) ∧ w' = w := by
  go_enter Try.func13, Try.ntmps13
  go_wp2_with fail
  go_ret
  exact ⟨rfl, rfl⟩
set_option maxRecDepth 100000 in
theorem range_nil (k : Int) : Calls Try.prog 16 #[.pointer none, .int .i64 k] w fun e w' => e = .returned (.slice none 0 0) ∧ w' = w := by
  go_enter Try.func16, Try.ntmps16
  go_wp2_with fail
  go_ret
  exact ⟨rfl, rfl⟩
set_option maxRecDepth 100000 in
theorem dig_nil (k : Int) : Calls Try.prog 20 #[.pointer none, .int .i64 k] w fun e w' => e = .returned (.int .u64 0) ∧ w' = w := by
  go_enter Try.func20, Try.ntmps20
  go_wp2_with fail
  go_ret
  exact ⟨rfl, rfl⟩
set_option maxRecDepth 100000 in
theorem floor_nil (k : Int) : Calls Try.prog 22 #[.pointer none, .int .i64 k] w fun e w' => e = .returned (.agg (eStp zSt).toArray) ∧ Below w.heap.size w w' := by
  go_enter Try.func22, Try.ntmps22
  go_wp2_with fail
  refine bodyPost_ret (results_cell_row rfl _ _ w.heap.size 35 _ (0, 0) _ rfl (heap_alloc_new w _) Try.underlying35 rfl stamp_size) rfl ?_
  exact ⟨rfl, (Below.refl _ _).alloc (Nat.le_refl _) _⟩
set_option maxRecDepth 100000 in
theorem slen_nil : Calls Try.prog 17 #[.pointer none] w fun e w' => e = .returned (.int .i64 0) ∧ w' = w := by
  go_enter Try.func17, Try.ntmps17
  go_wp2_with fail
  go_ret
  exact ⟨rfl, rfl⟩
set_option maxRecDepth 100000 in
theorem ssize_nil : Calls Try.prog 18 #[.pointer none] w fun e w' => e = .returned (.int .i64 0) ∧ w' = w := by
  go_enter Try.func18, Try.ntmps18
  go_wp2_with fail
  go_ret
  exact ⟨rfl, rfl⟩
set_option maxRecDepth 100000 in
theorem sev_nil : Calls Try.prog 23 #[.pointer none] w fun e w' => e = .returned (.int .i64 0) ∧ w' = w := by
  go_enter Try.func23, Try.ntmps23
  go_wp2_with fail
  go_ret
  exact ⟨rfl, rfl⟩
end
end Go.Proofs.Ytecgnfklfgjgaaa
