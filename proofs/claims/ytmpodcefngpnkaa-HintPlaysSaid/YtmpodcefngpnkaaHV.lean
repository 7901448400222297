/- The chapter's example. -/
import Derived.Test.YtmpodcefngpnkaaHJ
import Derived.Test.YtmpodcefngpnkaaLib
import Derived.Deep.RegionLaw
import Derived.Deep.DrawnRows
namespace Go.Proofs.Ytmpodcefngpnkaa
open Go.RowKit Go.Tat Go.Proofs.YtmpodcefngpnkaaW.PrintWords PHintPlays
def fxA : Rc := ⟨⟨#[97]⟩, ⟨5, 0, 0⟩, 2, 0, 0, ⟨#[]⟩⟩
def fxB : Rc := ⟨⟨#[98]⟩, ⟨5, 0, 0⟩, 2, 0, 0, ⟨#[]⟩⟩
def fx1 : List Hn := [⟨fxA, 0⟩]
def fx2 : List Hn := [ackX ⟨fxA, 0⟩ 1]
theorem fx_a : addP 1 [] fxA = (fx1, 0) := by kernel_rfl
theorem fx_b : addP 1 fx1 fxB = (fx1, 6) := by kernel_rfl
theorem fx_c : ackL fx1 ⟨#[97]⟩ ⟨4, 0, 0⟩ 1 = fx1 ∧ ackB fx1 ⟨#[97]⟩ ⟨4, 0, 0⟩ 1 = false := ⟨by kernel_rfl, by kernel_rfl⟩
theorem fx_d : ackL fx1 ⟨#[97]⟩ ⟨5, 0, 0⟩ 1 = fx2 ∧ ackB fx1 ⟨#[97]⟩ ⟨5, 0, 0⟩ 1 = true := ⟨by kernel_rfl, by kernel_rfl⟩
theorem own_one (key : ByteArray) : own key [1] = [1] := by rfl
theorem fx_e : setL [1] fx2 = [] := by
  unfold setL fx2 setP
  rw [List.filter_cons, own_one]
  decide +kernel
theorem zeroRc : (Try.prog.info? 35).map (·.zero) = some (some (.agg #[.string ⟨#[]⟩, .int .u64 0, .int .u32 0, .int .u8 0, .int .u8 0, .int .u32 0, .int .u64 0, .string ⟨#[]⟩])) := by kernel_rfl
theorem sizeRc : (Try.prog.info? 35).map (·.size) = some 8 := by kernel_rfl
def fxL (g : Nat) (S : Nat → Prop) (l : List Hn) (za zb : Nat) : List Asr := [hO g S 1 l, blk za (eRc fxA).toArray 35, blk zb (eRc fxB).toArray 35]
theorem fx_1 {w W : World} {g za zb : Nat} {S : Nat → Prop} (h : St (fun _ => False) w W (fxL g S [] za zb)) : Calls Try.prog 12 #[.pointer (some ⟨g, 0, none⟩), .agg #[.string ⟨#[97]⟩, .int .u64 5, .int .u32 0, .int .u8 0, .int .u8 2, .int .u32 0, .int .u64 0, .string ⟨#[]⟩]] W fun e w' => e = .returned (.int .i64 0) ∧ ∃ S, St (fun _ => False) w w' (fxL g S fx1 za zb) := by
  have := add_st h 0 rfl List.Pairwise.nil (by decide) fxA (by decide)
  rw [fx_a] at this
  exact this
theorem fx_2 {w W : World} {g za zb : Nat} {S : Nat → Prop} (h : St (fun _ => False) w W (fxL g S fx1 za zb)) : Calls Try.prog 12 #[.pointer (some ⟨g, 0, none⟩), .agg #[.string ⟨#[98]⟩, .int .u64 5, .int .u32 0, .int .u8 0, .int .u8 2, .int .u32 0, .int .u64 0, .string ⟨#[]⟩]] W fun e w' => e = .returned (.int .i64 6) ∧ ∃ S, St (fun _ => False) w w' (fxL g S fx1 za zb) := by
  have := add_st h 0 rfl (List.pairwise_singleton _ _) (by decide) fxB (by decide)
  rw [fx_b] at this
  exact this
theorem fx_3 {w W : World} {g za zb : Nat} {S : Nat → Prop} (h : St (fun _ => False) w W (fxL g S fx1 za zb)) : Calls Try.prog 11 #[.pointer (some ⟨g, 0, none⟩), .string ⟨#[97]⟩, .agg #[.int .u64 4, .int .u32 0, .int .u8 0], .int .u8 1] W fun e w' => e = .returned (.bool false) ∧ ∃ S, St (fun _ => False) w w' (fxL g S fx1 za zb) := by
  have := ack_st h 0 rfl (List.pairwise_singleton _ _) (by decide) ⟨#[97]⟩ ⟨4, 0, 0⟩ 1 (by decide)
  rw [fx_c.1, fx_c.2] at this
  exact this
theorem fx_4 {w W : World} {g za zb : Nat} {S : Nat → Prop} (h : St (fun _ => False) w W (fxL g S fx1 za zb)) : Calls Try.prog 11 #[.pointer (some ⟨g, 0, none⟩), .string ⟨#[97]⟩, .agg #[.int .u64 5, .int .u32 0, .int .u8 0], .int .u8 1] W fun e w' => e = .returned (.bool true) ∧ ∃ S, St (fun _ => False) w w' (fxL g S fx2 za zb) := by
  have := ack_st h 0 rfl (List.pairwise_singleton _ _) (by decide) ⟨#[97]⟩ ⟨5, 0, 0⟩ 1 (by decide)
  rw [fx_d.1, fx_d.2] at this
  exact this
theorem fx_good : ∀ x ∈ fx2, GoodH x := by
  intro x hx
  rw [List.mem_singleton.1 hx]
  exact ⟨by decide, or_range _ _ (by decide) (wrap_range _)⟩
theorem fx_5 {w W : World} {g za zb zc : Nat} {S : Nat → Prop} (h : St (fun _ => False) w W (fxL g S fx2 za zb ++ [blk zc #[.int .u8 1] 5])) : Calls Try.prog 17 #[.pointer (some ⟨g, 0, none⟩), .slice (some ⟨zc, 0, none⟩) 1 1] W fun e w' => e = .returned (.int .i64 1) ∧ ∃ S, St (fun _ => False) w w' (fxL g S [] za zb ++ [blk zc #[.int .u8 1] 5]) := by
  have hz := h.get 3 rfl
  have hn := h.ne 0 3 rfl rfl (by decide)
  have hb := h.blt 3 rfl
  have hC : ∀ W', Mod S W W' → (Kd.int .u8).C W' (some ⟨zc, 0, none⟩) ([1] : List Int).length [1] := fun W' m => C_ints [1] ((m.block zc hb (fun e => hn zc e rfl)).trans hz) (by decide)
  have := settle_c h 0 rfl fx_good (by decide) (cu := 1) hC (by decide) (by decide)
  rw [fx_e] at this
  exact this
theorem fx_S {w W : World} {g za zb : Nat} {S : Nat → Prop} {l : List Hn} (h : St (fun _ => False) w W (fxL g S l za zb)) : W.cell? ⟨za, 0, none⟩ = some (.string ⟨#[97]⟩) ∧ W.cell? ⟨za, 1, none⟩ = some (.int .u64 5) ∧ W.cell? ⟨za, 2, none⟩ = some (.int .u32 0) ∧ W.cell? ⟨za, 3, none⟩ = some (.int .u8 0) ∧ W.cell? ⟨za, 4, none⟩ = some (.int .u8 2) ∧ W.cell? ⟨za, 5, none⟩ = some (.int .u32 0) ∧ W.cell? ⟨za, 6, none⟩ = some (.int .u64 0) ∧ W.cell? ⟨za, 7, none⟩ = some (.string ⟨#[]⟩) ∧ W.cell? ⟨zb, 0, none⟩ = some (.string ⟨#[98]⟩) ∧ W.cell? ⟨zb, 1, none⟩ = some (.int .u64 5) ∧ W.cell? ⟨zb, 2, none⟩ = some (.int .u32 0) ∧ W.cell? ⟨zb, 3, none⟩ = some (.int .u8 0) ∧ W.cell? ⟨zb, 4, none⟩ = some (.int .u8 2) ∧ W.cell? ⟨zb, 5, none⟩ = some (.int .u32 0) ∧ W.cell? ⟨zb, 6, none⟩ = some (.int .u64 0) ∧ W.cell? ⟨zb, 7, none⟩ = some (.string ⟨#[]⟩) :=
  ⟨h.cell 1 rfl 0, h.cell 1 rfl 1, h.cell 1 rfl 2, h.cell 1 rfl 3, h.cell 1 rfl 4, h.cell 1 rfl 5, h.cell 1 rfl 6, h.cell 1 rfl 7, h.cell 2 rfl 0, h.cell 2 rfl 1, h.cell 2 rfl 2, h.cell 2 rfl 3, h.cell 2 rfl 4, h.cell 2 rfl 5, h.cell 2 rfl 6, h.cell 2 rfl 7⟩
set_option maxRecDepth 100000 in
set_option maxHeartbeats 4000000 in
theorem fixed_c (w : World) : Calls Try.prog 9 #[] w fun e w' => e = .returned (.bool true) ∧ Below w.heap.size w w' := by
  have HN := Lib.hid (new_st (St.nil (fun _ => False) w) 1 (by omega))
  go_enter Try.func9, Try.ntmps9
  go_wp2_with fail
  refine HN.out.mono ?_
  rintro e w1 ⟨g, S, rfl, S1⟩
  have H1 := Lib.hid S1
  clear S1 HN
  go_upto_region 6 with (first
    | (refine St.wpAlloc rfl 35 rfl _ _ zeroRc rfl H1.out ?_; intro za w2 H2)
    | (refine St.wpStoreV flRc rfl 35 _ _ rfl H2.out 1 rfl rfl fxA rfl rfl sizeRc ?_; intro w3 H3)
    | (refine St.wpAlloc rfl 35 rfl _ _ zeroRc rfl H3.out ?_; intro zb w4 H4)
    | (refine St.wpStoreV flRc rfl 35 _ _ rfl H4.out 2 rfl rfl fxB rfl rfl sizeRc ?_; intro w5 H5))
  have H5' : Hid (St (fun _ => False) w w5 (fxL g S [] za zb)) := Lib.hid H5.out
  clear H1 H2 H3 H4 H5
  go_region_held3 (fun w' => w'.cell? ⟨za, 0, none⟩ = some (.string ⟨#[97]⟩) ∧ w'.cell? ⟨za, 1, none⟩ = some (.int .u64 5) ∧ w'.cell? ⟨za, 2, none⟩ = some (.int .u32 0) ∧ w'.cell? ⟨za, 3, none⟩ = some (.int .u8 0) ∧ w'.cell? ⟨za, 4, none⟩ = some (.int .u8 2) ∧ w'.cell? ⟨za, 5, none⟩ = some (.int .u32 0) ∧ w'.cell? ⟨za, 6, none⟩ = some (.int .u64 0) ∧ w'.cell? ⟨za, 7, none⟩ = some (.string ⟨#[]⟩) ∧ w'.cell? ⟨zb, 0, none⟩ = some (.string ⟨#[98]⟩) ∧ w'.cell? ⟨zb, 1, none⟩ = some (.int .u64 5) ∧ w'.cell? ⟨zb, 2, none⟩ = some (.int .u32 0) ∧ w'.cell? ⟨zb, 3, none⟩ = some (.int .u8 0) ∧ w'.cell? ⟨zb, 4, none⟩ = some (.int .u8 2) ∧ w'.cell? ⟨zb, 5, none⟩ = some (.int .u32 0) ∧ w'.cell? ⟨zb, 6, none⟩ = some (.int .u64 0) ∧ w'.cell? ⟨zb, 7, none⟩ = some (.string ⟨#[]⟩))
    ((apply fx_S; with_reducible (first | exact H7.out | exact H6.out | exact H5'.out | exact H5'.out.drew | exact H6.out.drew | exact H7.out.drew)))
    (first
      | (go_at_call 12; with_reducible refine (fx_1 H5'.out.drew).mono ?_; rintro e w6 ⟨rfl, S6, T6⟩; have H6 := Lib.hid T6; clear T6)
      | (go_at_call 12; with_reducible refine (fx_2 H6.out).mono ?_; rintro e w7 ⟨rfl, S7, T7⟩; have H7 := Lib.hid T7; clear T7))
  rename_i hHeld
  clear hHeld H5' H6
  go_wp2_with fail
  refine (fx_3 H7.out).mono ?_
  rintro e w8 ⟨rfl, S8, T8⟩
  have H8 := Lib.hid T8
  clear T8 H7
  go_wp2_with fail
  refine (fx_4 H8.out).mono ?_
  rintro e w9 ⟨rfl, S9, T9⟩
  obtain ⟨zc, hzc⟩ : ∃ zc, w9.heap.size = zc := ⟨_, rfl⟩
  have T10 := T9.new' #[.int .u8 1] 5 zc hzc
  have H10 := Lib.hid T10
  clear T9 T10 H8
  go_wp2_with fail
  generalize w9.alloc _ = w10 at *
  refine (fx_5 H10.out).mono ?_
  rintro e w11 ⟨rfl, S11, T11⟩
  have H11 := Lib.hid T11
  clear T11 H10
  go_wp2_with fail
  refine (len_c H11.out 0 rfl).mono ?_
  rintro e w12 ⟨rfl, rfl⟩
  rw [List.length_nil]
  go_wp2_with fail
  go_ret
  exact ⟨rfl, H11.out.base⟩
end Go.Proofs.Ytmpodcefngpnkaa
