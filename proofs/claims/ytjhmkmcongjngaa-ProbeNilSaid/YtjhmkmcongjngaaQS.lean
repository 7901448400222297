import Derived.Test.YtjhmkmcongjngaaQR
namespace Go.Proofs.Ytjhmkmcongjngaa
open Go.RowKit Go.Tat Go.Proofs.YtjhmkmcongjngaaW.PrintWords PProbePlays
set_option maxRecDepth 100000 in
theorem sameRound_nil (w : World) : Calls Try.prog 13 #[.agg #[.slice none 0 0, .slice none 0 0, .slice none 0 0], .agg #[.slice none 0 0, .slice none 0 0, .slice none 0 0]] w fun e w' => e = .returned (.bool true) ∧ Below w.heap.size w w' := by
  go_enter Try.func13, Try.ntmps13
  go_upto_region 1 with fail
  have B : Below w.heap.size w ((w.alloc (.cells #[.slice none 0 0, .slice none 0 0, .slice none 0 0] 32)).alloc (.cells #[.slice none 0 0, .slice none 0 0, .slice none 0 0] 32)) := ((Below.refl _ _).alloc (Nat.le_refl _) _).alloc (by simp) _
  have S1 := ((St.nil (fun _ => False) w).new' #[.slice none 0 0, .slice none 0 0, .slice none 0 0] 32 w.heap.size rfl).new' #[.slice none 0 0, .slice none 0 0, .slice none 0 0] 32 (w.heap.size + 1) (by simp)
  have HB := Lib.hid B
  clear B
  generalize hz : w.heap.size = z at *
  have HZ := Lib.hid hz
  clear hz
  generalize World.alloc _ _ = w1 at *
  have a0 : w1.cell? ⟨z, 0, none⟩ = some (.slice none 0 0) := S1.cell 0 rfl 0
  have a1 : w1.cell? ⟨z, 1, none⟩ = some (.slice none 0 0) := S1.cell 0 rfl 1
  have a2 : w1.cell? ⟨z, 2, none⟩ = some (.slice none 0 0) := S1.cell 0 rfl 2
  have b0 : w1.cell? ⟨z + 1, 0, none⟩ = some (.slice none 0 0) := S1.cell 1 rfl 0
  have b1 : w1.cell? ⟨z + 1, 1, none⟩ = some (.slice none 0 0) := S1.cell 1 rfl 1
  have b2 : w1.cell? ⟨z + 1, 2, none⟩ = some (.slice none 0 0) := S1.cell 1 rfl 2
  have hcv := Kd.C_string (P := Try.prog) (w := w1) (A := none) (c := 0) (n := 0) (xs := []) Try.underlying28 Try.underlying5 Try.underlying9 (Kd.C_nil _ _)
  clear S1
  go_wp2_with fail
  clear hcv a0 a1 a2 b0 b1 b2
  go_loopg [34] 1 (fun k v W => v = .int .i64 0 ∧ W = w1)
  case atStart => exact ⟨rfl, rfl⟩
  case round =>
    obtain ⟨rfl, rfl⟩ := hrel
    go_wp2
    go_ret
    exact ⟨rfl, HZ.out ▸ HB.out⟩
set_option maxRecDepth 100000 in
set_option maxHeartbeats 4000000 in
theorem nil_row (x t n : Int) (w : World) : Calls Try.prog 7 #[.int .u64 x, .int .u8 t, .int .u32 n] w fun e w' => e = .returned (.bool true) ∧ Below w.heap.size w w' := by
  go_enter Try.func7, Try.ntmps7
  go_wp2_with fail
  refine (fixed_c w).mono ?_
  rintro e w1 ⟨rfl, b⟩
  have B1 := Lib.hid b
  clear b
  go_wp2_with fail
  refine (tick_nil x w1).mono ?_
  rintro e w2 ⟨rfl, b⟩
  have B2 := Lib.hid (B1.out.trans (b.mono B1.out.size))
  clear b B1
  go_wp2_with fail
  refine (sameRound_nil w2).mono ?_
  rintro e w3 ⟨rfl, b⟩
  have B3 := Lib.hid (B2.out.trans (b.mono B2.out.size))
  clear b B2
  go_wp2_with fail
  refine (answer_nil t w3).mono ?_
  rintro e w4 ⟨rfl, b⟩
  have B4 := Lib.hid (B3.out.trans (b.mono B3.out.size))
  clear b B3
  go_wp2_with fail
  refine (waits_nil w4).mono ?_
  rintro e w5 ⟨rfl, b⟩
  have B5 := Lib.hid (B4.out.trans (b.mono B4.out.size))
  clear b B4
  go_wp2_with fail
  refine (begin_nil t n x w5).mono ?_
  rintro e w6 ⟨rfl, b⟩
  have B6 := Lib.hid (B5.out.trans (b.mono B5.out.size))
  clear b B5
  go_wp2_with fail
  refine (end_nil t n w6).mono ?_
  rintro e w7 ⟨rfl, b⟩
  have B7 := Lib.hid (B6.out.trans (b.mono B6.out.size))
  clear b B6
  go_wp2_with fail
  refine (over_nil x w7).mono ?_
  rintro e w8 ⟨rfl, b⟩
  have B8 := Lib.hid (B7.out.trans (b.mono B7.out.size))
  clear b B7
  go_wp2
  go_ret
  exact ⟨rfl, B8.out⟩
end Go.Proofs.Ytjhmkmcongjngaa
