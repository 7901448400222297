import Derived.Test.YthkaahpaechljaaVJ
namespace Go.Proofs.Ythkaahpaechljaa
open Go.RowKit Go.Tat Go.Proofs.YthkaahpaechljaaW.PrintWords PWheelPlays
set_option maxRecDepth 100000 in
set_option maxHeartbeats 4000000 in
theorem nil_c (id t : Int) (w : World) : Calls Try.prog 6 #[.int .i64 id, .int .u64 t] w fun e w' => e = .returned (.bool true) ∧ Below w.heap.size w w' := by
  go_enter Try.func6, Try.ntmps6
  go_wp2_with fail
  refine (add_nil id t w).mono ?_
  rintro e w1 ⟨rfl, b1⟩
  have B1 := Lib.hid b1
  clear b1
  go_wp2_with fail
  refine (next_nil w1).mono ?_
  rintro e w2 ⟨rfl, rfl⟩
  go_wp2_with fail
  refine (fixed_c w2).mono ?_
  rintro e w3 ⟨rfl, b3⟩
  have B3 := Lib.hid (B1.out.trans (b3.mono B1.out.size))
  clear b3 B1
  go_wp2_with fail
  refine (drop_nil id w3).mono ?_
  rintro e w4 ⟨rfl, b4⟩
  have B4 := Lib.hid (B3.out.trans (b4.mono B3.out.size))
  clear b4 B3
  go_wp2_with fail
  refine (due_nil t w4).mono ?_
  rintro e w5 ⟨rfl, rfl⟩
  go_wp2_with fail
  refine (len_nil w5).mono ?_
  rintro e w6 ⟨rfl, rfl⟩
  go_wp2_with fail
  go_ret
  exact ⟨rfl, B4.out⟩
end Go.Proofs.Ythkaahpaechljaa
