import Derived.Test.YticbobhkijpbkaaRN
import Derived.Test.YticbobhkijpbkaaRO
namespace Go.Proofs.Yticbobhkijpbkaa
open Go.RowKit Go.Tat Go.Proofs.YticbobhkijpbkaaW.PrintWords PRingOwners
/-! ### Two sorted -/
def sort2 : List Int → List Int
  | [x, y] => if y < x then [y, x] else [x, y]
  | l => l
theorem less_is (a b : Int) : cmp_Less_uint8.f a b = some (decide (a < b)) := by
  unfold cmp_Less_uint8.f cmp_isNaN_uint8.f
  simp
theorem ins_is (o : List Int) (h : o.length ≤ 2) : slices_insertionSortOrdered_uint8.f 10 o 0 (o.length : Int) = some (sort2 o) := by
  have w1 : wrap64 (0 + 1) = 1 := by unfold wrap64; omega
  have w2 : wrap64 (1 + 1) = 2 := by unfold wrap64; omega
  have w0 : wrap64 (1 - 1) = 0 := by unfold wrap64; omega
  unfold slices_insertionSortOrdered_uint8.f
  match o, h with
  | [], _ =>
    rw [w1, slices_insertionSortOrdered_uint8.l0, if_neg (by decide)]
    rfl
  | [x], _ =>
    rw [w1, slices_insertionSortOrdered_uint8.l0, if_neg (by simp)]
    rfl
  | [x, y], _ =>
    have r0 : rd [x, y] 0 = x := rfl
    have r1 : rd [x, y] 1 = y := rfl
    rw [w1, slices_insertionSortOrdered_uint8.l0, if_pos (by simp), slices_insertionSortOrdered_uint8.l1, if_pos (by decide), if_pos (by decide), if_pos (by simp), w0, if_pos (by decide), if_pos (by simp), r0, r1, less_is, Option.bind_some]
    by_cases e : y < x
    · rw [decide_eq_true e, if_pos rfl, slices_insertionSortOrdered_uint8.l1, if_neg (by decide), w2, slices_insertionSortOrdered_uint8.l0, if_neg (by simp)]
      simp [sort2, e]
    · rw [decide_eq_false e, if_neg (by decide), w2, slices_insertionSortOrdered_uint8.l0, if_neg (by simp)]
      simp [sort2, e]
set_option maxRecDepth 100000 in
theorem len64_c (n : Int) (hn : n = 0 ∨ n = 1 ∨ n = 2) (w : World) : Calls Try.prog 52 #[.int .u64 n] w fun e w' => (∃ r, e = .returned (.int .i64 r)) ∧ w = w' := by
  rcases hn with rfl | rfl | rfl
  all_goals
    go_enter Try.func52, Try.ntmps52
    go_wp2
    go_ret
    exact ⟨⟨_, rfl⟩, rfl⟩
theorem len_c (n : Int) (hn : n = 0 ∨ n = 1 ∨ n = 2) (w : World) : Calls Try.prog 36 #[.int .u64 n] w fun e w' => (∃ r, e = .returned (.int .i64 r)) ∧ w = w' := by
  have H := Lib.hid (len64_c n hn)
  clear hn
  go_enter Try.func36, Try.ntmps36
  go_wp2_with fail
  refine (H.out _).mono ?_
  rintro e w' ⟨⟨r, rfl⟩, rfl⟩
  go_wp2_with fail
  go_ret
  exact ⟨⟨_, rfl⟩, rfl⟩
def sortPost (v : Value) (o : List Int) (w : World) (e : Ending) (w' : World) : Prop := e = .returned (.tuple #[]) ∧ (slc (Kd.int .u8) 5 v o).holds w' ∧ Mod (fun k => v.ownBlock = some k) w w'
theorem ins_c (v : Value) (o : List Int) (ho : o.length ≤ 2) (w : World) (hS : (slc (Kd.int .u8) 5 v o).holds w) :
    Calls Try.prog 54 #[v, .int .i64 0, .int .i64 (o.length : Int)] w (sortPost v (sort2 o) w) := by
  have hB : Below ({ w with heap := #[] } : World).heap.size ({ w with heap := #[] } : World) w := ⟨rfl, rfl, rfl, Nat.zero_le _, fun k hk => absurd hk (Nat.not_lt_zero _)⟩
  refine (slices_insertionSortOrdered_uint8.calls 10 (fun k => v.ownBlock = some k) v o 0 (o.length : Int) (sort2 o) { w with heap := #[] } w hB hS.1 (ins_is o ho)).mono ?_
  rintro e w' ⟨rfl, hR, hB', hK⟩
  exact ⟨rfl, slc_of hR rfl, ⟨hB'.os, hB'.tape, hB'.output, hK.1, fun k hk hn => hK.2 k hk hn⟩⟩
set_option maxRecDepth 100000 in
theorem pdq_c (v : Value) (o : List Int) (ho : o.length ≤ 2) (r : Int) (w : World) (hS : (slc (Kd.int .u8) 5 v o).holds w) :
    Calls Try.prog 42 #[v, .int .i64 0, .int .i64 (o.length : Int), .int .i64 r] w (sortPost v (sort2 o) w) := by
  have HI := Lib.hid (ins_c v o ho)
  have HS := Lib.hid hS
  have hoi : (o.length : Int) ≤ 2 := by omega
  clear hS ho
  go_enter Try.func42, Try.ntmps42
  go_wp2_with fail
  go_loopg [1, 2] 1 (fun m v1 v2 wx => v1 = .int .i64 0 ∧ v2 = .int .i64 (o.length : Int) ∧ (slc (Kd.int .u8) 5 v o).holds wx ∧ Mod (fun k => v.ownBlock = some k) w wx)
  case atStart => exact ⟨rfl, rfl, HS.out, Mod.refl _ _⟩
  case round =>
    obtain ⟨rfl, rfl, h1, m1⟩ := hrel
    have HI2 := Lib.hid (HI.out wr h1)
    have HM := Lib.hid m1
    clear h1 m1 HI HS
    go_wp2_with fail
    refine HI2.out.mono ?_
    rintro e w' ⟨rfl, h2, m2⟩
    have H := Lib.hid (And.intro h2 (HM.out.trans m2))
    clear h2 m2 HI2 HM
    go_wp2_with fail
    first | go_end0 | ((try simp only [Exit.inBlock, Exit.then]); refine bodyPost_ret (results_none rfl _ _ _) rfl ?_)
    exact ⟨rfl, H.out.1, H.out.2⟩
theorem sort_c2 (v : Value) (o : List Int) (ho : o.length ≤ 2) (w : World) (hS : (slc (Kd.int .u8) 5 v o).holds w) :
    Calls Try.prog 33 #[v] w (sortPost v (sort2 o) w) := by
  have HP := Lib.hid fun r => pdq_c v o ho r w hS
  have hoi : (o.length : Int) = 0 ∨ (o.length : Int) = 1 ∨ (o.length : Int) = 2 := by omega
  have HL := Lib.hid (len_c (o.length : Int) hoi w)
  have hle : (o.length : Int) ≤ 2 := by omega
  obtain ⟨A, c, rfl⟩ := Kd.R_slice hS.1
  clear hS ho hoi
  go_enter Try.func33, Try.ntmps33
  go_wp2_with fail
  refine HL.out.mono ?_
  rintro e w' ⟨⟨r, rfl⟩, rfl⟩
  go_wp2_with fail
  refine (HP.out r).mono ?_
  rintro e w' ⟨rfl, h⟩
  have H := Lib.hid h
  clear h HP
  go_wp2_with fail
  go_end0
  exact ⟨rfl, H.out⟩
end Go.Proofs.Yticbobhkijpbkaa
