/- StoreNil's walk. -/
import Derived.Test.YtecgnfklfgjgaaaNI
set_option linter.unusedVariables false
set_option linter.unusedSimpArgs false
namespace Go.Proofs.Ytecgnfklfgjgaaa
open Go.RowKit Go.Tat Go.Tab Go.Proofs.YtecgnfklfgjgaaaW.PrintWords PStorePeeks
set_option maxRecDepth 100000 in
set_option maxHeartbeats 8000000 in
theorem nil_c (r : Rc) (now k : Int) (w : World) : Calls Try.prog 7 #[.agg (eRc r).toArray, .int .u64 now, .int .i64 k] w fun e w' => e = .returned (.bool true) ∧ Below w.heap.size w w' := by
  have HPut := Lib.hid put_nil
  have HGet : Hid (∀ w k, Calls Try.prog 12 #[.pointer none, .string k] w fun e w' => e = .returned (.tuple #[.agg #[.string ⟨#[]⟩, .int .u64 0, .int .u32 0, .int .u8 0, .int .u8 0, .int .u32 0, .int .u64 0, .string ⟨#[]⟩], .bool false]) ∧ Below w.heap.size w w') := Lib.hid get_nil
  have HPeek : Hid (∀ w k, Calls Try.prog 14 #[.pointer none, .string k] w fun e w' => e = .returned (.tuple #[.agg #[.string ⟨#[]⟩, .int .u64 0, .int .u32 0, .int .u8 0, .int .u8 0, .int .u32 0, .int .u64 0, .string ⟨#[]⟩], .bool false]) ∧ Below w.heap.size w w') := Lib.hid peek_nil
  have HPurge := Lib.hid purge_nil
  have HRange := Lib.hid range_nil
  have HDig := Lib.hid dig_nil
  have HFloor : Hid (∀ w k, Calls Try.prog 22 #[.pointer none, .int .i64 k] w fun e w' => e = .returned (.agg #[.int .u64 0, .int .u32 0, .int .u8 0]) ∧ Below w.heap.size w w') := Lib.hid floor_nil
  have HLen := Lib.hid slen_nil
  have HSize := Lib.hid ssize_nil
  have HEv := Lib.hid sev_nil
  have HFix := Lib.hid fixed_c
  unfold eRc
  go_enter Try.func7, Try.ntmps7
  go_upto_region 1 with fail
  have S1 := (St.nil (fun _ => False) w).new' (eRc r).toArray 37 w.heap.size rfl
  unfold eRc at S1
  obtain ⟨z, hz⟩ : ∃ z, w.heap.size = z := ⟨_, rfl⟩
  rw [hz] at S1 ⊢
  have HZ := Lib.hid hz
  clear hz
  generalize World.alloc w _ = w1 at *
  have S1' : St (fun _ => False) w w1 [blk z (eRc r).toArray 37] := S1
  have H1 := Lib.hid S1'
  obtain ⟨f0, f1, f2, f3, f4, f5, f6, f7⟩ : w1.cell? ⟨z, 0, none⟩ = some (.string r.f0) ∧ w1.cell? ⟨z, 1, none⟩ = some (.int .u64 r.f1.f0) ∧ w1.cell? ⟨z, 2, none⟩ = some (.int .u32 r.f1.f1) ∧ w1.cell? ⟨z, 3, none⟩ = some (.int .u8 r.f1.f2) ∧ w1.cell? ⟨z, 4, none⟩ = some (.int .u8 r.f2) ∧ w1.cell? ⟨z, 5, none⟩ = some (.int .u32 r.f3) ∧ w1.cell? ⟨z, 6, none⟩ = some (.int .u64 r.f4) ∧ w1.cell? ⟨z, 7, none⟩ = some (.string r.f5) :=
    ⟨blk_cell (S1'.get 0 rfl) 0, blk_cell (S1'.get 0 rfl) 1, blk_cell (S1'.get 0 rfl) 2, blk_cell (S1'.get 0 rfl) 3, blk_cell (S1'.get 0 rfl) 4, blk_cell (S1'.get 0 rfl) 5, blk_cell (S1'.get 0 rfl) 6, blk_cell (S1'.get 0 rfl) 7⟩
  clear S1 S1'
  go_upto_region 3 with (go_at_call 11; refine (HPut.out _ r now).mono ?_; rintro e w2 ⟨rfl, hB2⟩)
  have S2 := H1.out.below hB2
  have z0 : w2.cell? ⟨z, 0, none⟩ = some (.string r.f0) := blk_cell (S2.get 0 rfl) 0
  have H2 := Lib.hid S2
  clear f0 f1 f2 f3 f4 f5 f6 f7 S2 hB2 H1
  go_upto_region 4 with (go_at_call 12; refine (HGet.out _ _).mono ?_; rintro e w3 ⟨rfl, hB3⟩; have HB3 := Lib.hid hB3; clear hB3)
  have S3 := (H2.out.below HB3.out).alloc (.cells #[.string ⟨#[]⟩, .int .u64 0, .int .u32 0, .int .u8 0, .int .u8 0, .int .u32 0, .int .u64 0, .string ⟨#[]⟩] 37)
  generalize World.alloc w3 _ = w4 at *
  have z0 : w4.cell? ⟨z, 0, none⟩ = some (.string r.f0) := blk_cell (S3.get 0 rfl) 0
  have H3 := Lib.hid S3
  clear S3 HB3 H2
  go_upto_region 5 with (go_at_call 14; refine (HPeek.out _ _).mono ?_; rintro e w5 ⟨rfl, hB5⟩; have HB5 := Lib.hid hB5; clear hB5)
  have S5 := (H3.out.below HB5.out).alloc (.cells #[.string ⟨#[]⟩, .int .u64 0, .int .u32 0, .int .u8 0, .int .u8 0, .int .u32 0, .int .u64 0, .string ⟨#[]⟩] 37)
  generalize World.alloc w5 _ = w6 at *
  have H5 := Lib.hid S5.base
  clear S5 HB5 H3
  have hu := Try.underlying35
  have hw := fun (d : Nat) (W : World) => eqA35 d W 0 0 0 0 0 0
  trace_state
  go_wp2_with (first | (go_at_call 9; refine (HFix.out _).mono ?_; rintro e w7 ⟨rfl, hB7⟩; have HB7 := Lib.hid hB7; clear hB7) | (go_at_call 13; refine (HPurge.out _ _).mono ?_; rintro e w8 ⟨rfl, rfl⟩) | (go_at_call 16; refine (HRange.out _ _).mono ?_; rintro e w8 ⟨rfl, rfl⟩) | (go_at_call 20; refine (HDig.out _ _).mono ?_; rintro e w8 ⟨rfl, rfl⟩) | (go_at_call 22; refine (HFloor.out _ _).mono ?_; rintro e w9 ⟨rfl, hB9⟩; have HB9 := Lib.hid hB9; clear hB9) | (go_at_call 17; refine (HLen.out _).mono ?_; rintro e w8 ⟨rfl, rfl⟩) | (go_at_call 18; refine (HSize.out _).mono ?_; rintro e w8 ⟨rfl, rfl⟩) | (go_at_call 23; refine (HEv.out _).mono ?_; rintro e w8 ⟨rfl, rfl⟩))
  go_ret
  exact ⟨rfl, (H5.out.trans (HB7.out.mono H5.out.size)).trans (HB9.out.mono (Nat.le_trans H5.out.size HB7.out.size))⟩
theorem nil_row (a0 : Rc) (cs : List Value) (now k : Int) (W : World) (hK : k37.K W a0 cs) :
    Calls Try.prog 7 #[.agg cs.toArray, .int .u64 now, .int .i64 k] W fun e w' => e = .returned (.bool true) ∧ Below W.heap.size W w' := by
  rw [flRc.K.1 hK]
  exact nil_c a0 now k W
end Go.Proofs.Ytecgnfklfgjgaaa
