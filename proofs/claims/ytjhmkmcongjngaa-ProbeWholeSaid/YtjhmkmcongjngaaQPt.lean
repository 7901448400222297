import Derived.Test.YtjhmkmcongjngaaQP
set_option linter.unusedVariables false
set_option linter.unusedSimpArgs false
namespace Go.Proofs.Ytjhmkmcongjngaa
open Go.RowKit Go.Tat Go.Proofs.YtjhmkmcongjngaaW.PrintWords PProbePlays
set_option maxRecDepth 100000 in
set_option maxHeartbeats 4000000 in
theorem fixed_c (w : World) : Calls Try.prog 9 #[] w fun e w' => e = .returned (.bool true) ∧ Below w.heap.size w w' := by
  go_enter Try.func9, Try.ntmps9
  go_wp2_with fail
  refine (new_st (St.nil (fun _ => False) w) 0 3 (by decide) (by decide) (by decide)).mono ?_
  rintro e w1 ⟨g, S, rfl, S1⟩
  have HS := Lib.hid S1
  clear S1
  go_wp2_with fail
  have hg1 := (HS.out.get 0 rfl).1.lt
  have S2 := HS.out.new #[.int .u8 1, .int .u8 2] 5
  generalize hlb : w1.heap.size = lb at *
  clear hlb
  generalize w1.alloc _ = w2 at *
  have l2 := lit_slc (flInt .u8) (xs := [1, 2]) (S2.get 1 rfl) rfl (by decide)
  refine (tick_st S2 0 rfl ok0 0 (some ⟨lb, 0, none⟩) 2 [1, 2] (by decide) (Kd.R_reads' l2.1).2.2 (by decide) (by decide) (by decide) (fun ad h _ => by cases h; exact Nat.ne_of_gt hg1)).mono ?_
  rintro e w3 ⟨vP, vA, vF, S', rfl, S3⟩
  clear S2 l2
  rw [show newPr 0 3 3 = fp0 from rfl, f1] at S3
  obtain ⟨A1, c1, rfl⟩ := Kd.R_slice (S3.get 2 rfl).1
  obtain ⟨A2, c2, rfl⟩ := Kd.R_slice (S3.get 3 rfl).1
  obtain ⟨A3, c3, rfl⟩ := Kd.R_slice (S3.get 4 rfl).1
  have S4 : St (fun _ => False) w w3 [pO g S' fp1, slc (Kd.int .u8) 5 (.slice A1 1 c1) [1]] := S3.sub (by simp)
  have HS4 := Lib.hid S4
  clear S3 S4 HS hg1
  go_wp2_with fail
  have hg1 := (HS4.out.get 0 rfl).1.lt
  have S2 := HS4.out.new #[.int .u8 1, .int .u8 2] 5
  generalize hlb : w3.heap.size = lc at *
  clear hlb
  generalize w3.alloc _ = w4 at *
  have l2 := lit_slc (flInt .u8) (xs := [1, 2]) (S2.get 2 rfl) rfl (by decide)
  refine (tick_st S2 0 rfl ok1 0 (some ⟨lc, 0, none⟩) 2 [1, 2] (by decide) (Kd.R_reads' l2.1).2.2 (by decide) (by decide) (by decide) (fun ad h _ => by cases h; exact Nat.ne_of_gt hg1)).mono ?_
  rintro e w5 ⟨vP2, vA2, vF2, S'2, rfl, S5⟩
  clear S2 l2
  rw [f2] at S5
  obtain ⟨B1, b1, rfl⟩ := Kd.R_slice (S5.get 3 rfl).1
  obtain ⟨B2, b2, rfl⟩ := Kd.R_slice (S5.get 4 rfl).1
  obtain ⟨B3, b3, rfl⟩ := Kd.R_slice (S5.get 5 rfl).1
  have S6 : St (fun _ => False) w w5 [pO g S'2 fp2, slc (Kd.int .u8) 5 (.slice A1 1 c1) [1], slc (Kd.int .u8) 5 (.slice B1 1 b1) [2], slc k80 80 (.slice B2 1 b2) [⟨2, 1⟩]] := S5.sub (by simp)
  have HS6 := Lib.hid S6
  clear S5 S6 HS4 hg1
  go_wp2_with fail
  refine (tick_st HS6.out 0 rfl ok2 0 none 0 [] (by decide) (Kd.C_nil _ _) (by decide) (by decide) (by decide) (fun ad h _ => by cases h)).mono ?_
  rintro e w7 ⟨vP3, vA3, vF3, S'3, rfl, S7⟩
  obtain ⟨hf3, t3, hp3⟩ := f3
  rw [hf3, hp3] at S7
  obtain ⟨D1, d1, rfl⟩ := Kd.R_slice (S7.get 4 rfl).1
  obtain ⟨D2, d2, rfl⟩ := Kd.R_slice (S7.get 5 rfl).1
  obtain ⟨D3, d3, rfl⟩ := Kd.R_slice (S7.get 6 rfl).1
  have S8 : St (fun _ => False) w w7 [slc (Kd.int .u8) 5 (.slice A1 1 c1) [1], slc (Kd.int .u8) 5 (.slice B1 1 b1) [2], slc k80 80 (.slice B2 1 b2) [⟨2, 1⟩], slc (Kd.int .u8) 5 (.slice D1 1 d1) [t3], slc (Kd.int .u8) 5 (.slice D3 1 d3) [1]] := S7.sub (by simp)
  have HS8 := Lib.hid S8
  clear S7 S8 HS6 hf3 hp3
  go_wp2_with fail
  have S9 := (((HS8.out.new' #[.slice A1 1 c1, .slice A2 0 c2, .slice A3 0 c3] 32 w7.heap.size rfl).new' #[.slice B1 1 b1, .slice B2 1 b2, .slice B3 0 b3] 32 (w7.heap.size + 1) (by simp)).new' #[.slice D1 1 d1, .slice D2 (tickF fp2 0 []).1.asks.length d2, .slice D3 1 d3] 32 (w7.heap.size + 1 + 1) (by simp)).new' #[.int .u8 1] 5 (w7.heap.size + 1 + 1 + 1) (by simp)
  clear HS8
  generalize hz : w7.heap.size = z at *
  clear hz
  generalize World.alloc _ _ = w8 at *
  refine (same_c w8 (.slice A1 1 c1) (.slice (some ⟨z + 1 + 1 + 1, 0, none⟩) 1 1) [1] [1] (S9.get 0 rfl) (lit_slc (flInt .u8) (S9.get 8 rfl) rfl (by decide)) (by decide)).mono ?_
  rintro e w9 ⟨rfl, k9⟩
  have HS9 := Lib.hid (S9.below k9)
  clear S9 k9
  have x0 : w9.cell? ⟨z + 1, 0, none⟩ = some (.slice B1 1 b1) := HS9.out.cell 6 rfl 0
  go_wp2_with fail
  have S10 := HS9.out.new #[.int .u8 2] 5
  generalize hz : w9.heap.size = z2 at *
  clear hz
  generalize World.alloc _ _ = w10 at *
  refine (same_c w10 (.slice B1 1 b1) (.slice (some ⟨z2, 0, none⟩) 1 1) [2] [2] (S10.get 1 rfl) (lit_slc (flInt .u8) (S10.get 9 rfl) rfl (by decide)) (by decide)).mono ?_
  rintro e w11 ⟨rfl, k11⟩
  have S11 := S10.below k11
  clear S10 k11 HS9 x0
  obtain ⟨g2, ex, hB2, hRow⟩ : ∃ g2 ex, B2 = some ⟨g2, 0, none⟩ ∧ Row w11 g2 80 e80 [⟨2, 1⟩] ex := by
    rcases (slc_iff fl80).1 (S11.get 2 rfl) with ⟨_, h⟩ | ⟨g2, cap, ex, h, hR, _⟩
    · cases h
    · injection h with h1
      exact ⟨g2, ex, h1, hR⟩
  subst hB2
  have x1 : w11.cell? ⟨z + 1, 1, none⟩ = some (.slice (some ⟨g2, 0, none⟩) 1 b2) := S11.cell 6 rfl 1
  have y0 : w11.cell? ⟨g2, 0, none⟩ = some (.int .u8 2) := hRow.cell fl80.len (i := 0) (c := 0) rfl (by decide)
  have y1 : w11.cell? ⟨g2, 1, none⟩ = some (.int .u8 1) := hRow.cell fl80.len (i := 0) (c := 1) rfl (by decide)
  have x2 : w11.cell? ⟨z + 1 + 1, 2, none⟩ = some (.slice D3 1 d3) := S11.cell 7 rfl 2
  have HS11 := Lib.hid S11
  clear S11 hRow
  go_wp2_with fail
  have S12 := HS11.out.new #[.int .u8 1] 5
  generalize hz : w11.heap.size = z3 at *
  clear hz
  generalize World.alloc _ _ = w12 at *
  refine (same_c w12 (.slice D3 1 d3) (.slice (some ⟨z3, 0, none⟩) 1 1) [1] [1] (S12.get 4 rfl) (lit_slc (flInt .u8) (S12.get 10 rfl) rfl (by decide)) (by decide)).mono ?_
  rintro e w13 ⟨rfl, k13⟩
  have S13 := S12.below k13
  have x3 : w13.cell? ⟨z + 1 + 1, 0, none⟩ = some (.slice D1 1 d1) := S13.cell 7 rfl 0
  have HM := Lib.hid S13.mod
  clear S12 S13 k13 HS11 x1 y0 y1 x2
  go_wp2
  go_ret
  exact ⟨rfl, HM.out.below (Nat.le_refl _) (by simp)⟩
end Go.Proofs.Ytjhmkmcongjngaa
