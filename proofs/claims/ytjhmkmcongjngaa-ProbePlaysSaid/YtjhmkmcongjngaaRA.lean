/- The document's probe: who is waited for. -/
import Derived.Test.YtjhmkmcongjngaaQL
import Derived.Test.YtjhmkmcongjngaaLib
import Derived.Test.YtjhmkmcongjngaaE82
import Derived.StillTailTactics
import Derived.Deep.DeepCutAuto
import Derived.Deep.CutBlock
import Derived.Deep.QuietTactic
set_option linter.unusedVariables false
set_option linter.unusedSimpArgs false
namespace Go.Proofs.Ytjhmkmcongjngaa
open Go.RowKit Go.Tat Go.Proofs.YtjhmkmcongjngaaW.PrintWords PProbePlays
/-- A wait of the document's: since which tick. -/
def eW (T : Int) (x : S82) : List Value := [.int .u8 x.f0, .int .i64 (T - x.f1)]
theorem eW_len (T : Int) (x : S82) : (eW T x).length = 2 := rfl
theorem eW_one (T : Int) (x : S82) : ∀ u ∈ eW T x, u.oneCell' = true := by
  intro u hu
  unfold eW at hu
  simp only [List.mem_cons, List.not_mem_nil, or_false] at hu
  rcases hu with rfl | rfl <;> rfl
def kW (T : Int) : Kd S82 := kEnc 2 (eW T) (eW_len T) (eW_one T)
theorem flW (T : Int) : Flat (kW T) (eW T) := flEnc 2 (eW T) (eW_len T) (eW_one T)
theorem infoW : (Try.prog.info? 88).map (fun i => (i.zero, i.size, i.bytes)) = some (some (.agg #[.int .u8 0, .int .i64 0]), 2, 16) := by kernel_rfl
theorem sizeW : (Try.prog.info? 88).map (·.size) = some 2 := by kernel_rfl
theorem infoU : (Try.prog.info? 5).map (fun i => (i.zero, i.size, i.bytes)) = some (some (.int .u8 0), 1, 1) := by kernel_rfl
/-- The document's probe as a value. -/
def pV (s n : Int) (vR : Value) (pl : Int) (vW : Value) (T : Int) : Array Value := #[.int .u8 s, .int .i64 n, vR, .int .i64 pl, vW, .int .i64 T]
theorem pV_one {s n : Int} {vR : Value} {pl : Int} {vW : Value} {T : Int} (h : vR.oneCell' = true) (h' : vW.oneCell' = true) : ∀ v ∈ (pV s n vR pl vW T).toList, v.oneCell' = true := by
  intro v hv
  unfold pV at hv
  simp only [List.mem_cons, List.not_mem_nil, or_false] at hv
  rcases hv with rfl | rfl | rfl | rfl | rfl | rfl
  · rfl
  · rfl
  · exact h
  · rfl
  · exact h'
  · rfl
theorem zero39 : (Try.prog.info? 39).map (·.zero) = some (some (.agg #[.int .u8 0, .int .i64 0, .slice none 0 0, .int .i64 0, .slice none 0 0, .int .i64 0])) := by kernel_rfl
theorem size5 : ∃ i, Try.prog.info? 5 = some i ∧ i.size = 1 := by
  have h : (Try.prog.info? 5).map (·.size) = some 1 := by kernel_rfl
  obtain ⟨i, h1, h2⟩ := Option.map_eq_some_iff.1 h
  exact ⟨i, h1, h2⟩
theorem wsucc {i m : Nat} (h : i < m) (hm : m < 4611686018427387904) : wrap64 ((i : Int) + 1) = ((i + 1 : Nat) : Int) := by unfold wrap64; omega
set_option maxRecDepth 100000 in
set_option maxHeartbeats 2000000 in
theorem rwaiting_c (T : Int) (ws : List S82) (t : Int) (s n pl Tk : Int) (vR : Value) (A : Option Addr) (c : Nat) (w : World) (hC : (kW T).C w A ws.length ws) (hl : ws.length ≤ 1000000) :
    Calls Try.prog 29 #[.agg (pV s n vR pl (.slice A ws.length c) Tk), .int .u8 t] w fun e w' => e = .returned (.bool (ws.any fun x => x.f0 == t)) ∧ Below w.heap.size w w' := by
  obtain ⟨z, hz⟩ : ∃ z, w.heap.size = z := ⟨_, rfl⟩
  have S1 := (St.nil (fun _ => False) w).new' (pV s n vR pl (.slice A ws.length c) Tk) 39 z hz
  have HC := Lib.hid hC
  obtain ⟨N, hN⟩ : ∃ N, ws.length = N := ⟨_, rfl⟩
  have HN := Lib.hid hN
  obtain ⟨r, hr⟩ : ∃ r, (ws.any fun x => x.f0 == t) = r := ⟨_, rfl⟩
  have HR := Lib.hid hr
  rw [hr]
  rw [hN] at S1 hl ⊢
  have H1 := Lib.hid (show St (fun _ => False) w _ [blk z (pV s n vR pl (.slice A N c) Tk) 39] from S1)
  clear hC hN hr S1
  unfold pV at *
  go_enter Try.func29, Try.ntmps29
  go_upto_region 1 with fail
  generalize World.alloc w _ = w1 at *
  have d4 : w1.cell? ⟨z, 4, none⟩ = some (.slice A N c) := H1.out.cell 0 rfl 4
  have HB := Lib.hid H1.out.base
  clear H1 hz
  go_wp2_with fail
  go_loopg [9] (N + 1) (fun m v9 W => ∃ j : Nat, v9 = .int .i64 j ∧ j ≤ N ∧ N - j < m ∧ (∀ (i : Nat) x, i < j → ws[i]? = some x → (x.f0 == t) = false) ∧ w1 = W)
  case atStart => exact ⟨0, rfl, by omega, by omega, fun i x h => absurd h (Nat.not_lt_zero _), rfl⟩
  case round =>
    obtain ⟨j, rfl, hj, hjm, hno, hw⟩ := hrel
    subst hw
    have HJ := Lib.hid (And.intro hno (And.intro hj hjm))
    clear hno hjm
    by_cases hjl : j < N
    · have hjl' : (j : Int) < (N : Int) := by omega
      have hj0 : (0 : Int) ≤ (j : Int) := by omega
      have hjb : (j : Int) < 1000000 := by omega
      obtain ⟨x, hx⟩ : ∃ x, ws[j]? = some x := ⟨_, List.getElem?_eq_getElem (by rw [HN.out]; exact hjl)⟩
      have HX := Lib.hid hx
      obtain ⟨ad, b, o, cs, rfl, had, hb, hK, hcs⟩ := C_at HC.out hx (by show 0 < 2; decide)
      have hK' : cs = eW T x := hK
      subst hK'
      have u0 : w1.cell? ⟨b, o, none⟩ = some (.int .u8 x.f0) := (HB.out.cell (p := ⟨b, o, none⟩) hb).trans (hcs 0 _ rfl)
      have had' : ad.add (j * 2) = ⟨b, o, none⟩ := had
      obtain ⟨bb, hbb⟩ : ∃ bb, (x.f0 == t) = bb := ⟨_, rfl⟩
      obtain ⟨xn, hxn⟩ : ∃ xn, x.f0 = xn := ⟨_, rfl⟩
      rw [hxn] at u0 hbb
      have HBB := Lib.hid (show (x.f0 == t) = bb by rw [hxn]; exact hbb)
      clear hx hcs had hb hK hxn hj
      cases bb with
      | true =>
        go_wp2_with fail
        go_ret
        refine ⟨?_, HB.out⟩
        have h1 : r = true := by rw [← HR.out, List.any_eq_true]; exact ⟨x, List.mem_of_getElem? HX.out, HBB.out⟩
        rw [h1]; rfl
      | false =>
        go_wp2_with fail
        go_roundg (N - j)
        case measure => have := HJ.out; omega
        case rel =>
          have := HJ.out
          refine ⟨j + 1, by go_num, by omega, by omega, fun i y hi hy => ?_, rfl⟩
          rcases Nat.lt_or_ge i j with h1 | h1
          · exact HJ.out.1 i y h1 hy
          · obtain rfl : i = j := by omega
            rw [HX.out] at hy; cases hy
            exact HBB.out
    · have hjl' : ¬ (j : Int) < (N : Int) := by omega
      clear hj
      go_wp2_with fail
      go_ret
      refine ⟨?_, HB.out⟩
      have h1 : r = false := by
        rw [← HR.out, List.any_eq_false]
        intro x hx
        obtain ⟨i, hi⟩ := List.getElem?_of_mem hx
        have := HJ.out.1 i x (by have := (List.getElem?_eq_some_iff.1 hi).1; have := HN.out; omega) hi
        rw [this]; decide
      rw [h1]; rfl
def rnodesPost (w : World) (r : List Int) (e : Ending) (w' : World) : Prop := ∃ v, e = .returned v ∧ St (fun _ => False) w w' [slc (Kd.int .u8) 5 v r]
set_option maxRecDepth 100000 in
set_option maxHeartbeats 4000000 in
theorem rnodes_c (T : Int) (ws : List S82) (s n pl Tk : Int) (vR : Value) (A : Option Addr) (c : Nat) (w : World) (hC : (kW T).C w A ws.length ws) (hl : ws.length ≤ 1000000) :
    Calls Try.prog 18 #[.agg (pV s n vR pl (.slice A ws.length c) Tk)] w (rnodesPost w (ws.map (·.f0))) := by
  obtain ⟨z, hz⟩ : ∃ z, w.heap.size = z := ⟨_, rfl⟩
  have S1 := (St.nil (fun _ => False) w).new' (pV s n vR pl (.slice A ws.length c) Tk) 39 z hz
  have HC := Lib.hid hC
  obtain ⟨N, hN⟩ : ∃ N, ws.length = N := ⟨_, rfl⟩
  have HN := Lib.hid hN
  rw [hN] at S1 hl ⊢
  have H1 := Lib.hid (show St (fun _ => False) w _ [blk z (pV s n vR pl (.slice A N c) Tk) 39] from S1)
  clear hC hN S1
  unfold pV at *
  go_enter Try.func18, Try.ntmps18
  go_upto_region 1 with fail
  generalize World.alloc w _ = w1 at *
  go_upto_region 2 with fail
  obtain ⟨b, hb⟩ : ∃ b, w1.heap.size = b := ⟨_, rfl⟩
  have S2 := H1.out.empty (flInt .u8) 5 b hb
  rw [hb]
  clear hb hz
  generalize World.alloc w1 _ = w2 at *
  have d4 : w2.cell? ⟨z, 4, none⟩ = some (.slice A N c) := S2.cell 0 rfl 4
  have H2 := Lib.hid S2
  clear S2 H1
  go_wp2_with fail
  clear d4
  go_loopg [3, 9] (N + 1) (fun m v3 v9 W => ∃ j : Nat, v9 = .int .i64 j ∧ j ≤ N ∧ N - j < m ∧ St (fun _ => False) w W [blk z #[.int .u8 s, .int .i64 n, vR, .int .i64 pl, .slice A N c, .int .i64 Tk] 39, slc (Kd.int .u8) 5 v3 ((ws.take j).map (·.f0))])
  case atStart => exact ⟨0, rfl, by omega, by omega, H2.out⟩
  case round =>
    clear H2
    obtain ⟨j, rfl, hj, hjm, S3⟩ := hrel
    obtain ⟨O, hO⟩ : ∃ O, (ws.take j).map (·.f0) = O := ⟨_, rfl⟩
    rw [hO] at S3
    have hOl : O.length ≤ j := by rw [← hO, List.length_map, List.length_take]; omega
    obtain ⟨vA, vc, rfl⟩ := Kd.R_slice (S3.get 1 rfl).1
    have d4 : wr.cell? ⟨z, 4, none⟩ = some (.slice A N c) := S3.cell 0 rfl 4
    have HJ := Lib.hid (And.intro hO (And.intro hj hjm))
    clear hjm
    by_cases hjl : j < N
    · have hjl' : (j : Int) < (N : Int) := by omega
      have hj0 : (0 : Int) ≤ (j : Int) := by omega
      have hjb : (j : Int) < 1000000 := by omega
      obtain ⟨x, hx⟩ : ∃ x, ws[j]? = some x := ⟨_, List.getElem?_eq_getElem (by rw [HN.out]; exact hjl)⟩
      have HX := Lib.hid hx
      obtain ⟨ad, b, o, cs, rfl, had, hb, hK, hcs⟩ := C_at HC.out hx (by show 0 < 2; decide)
      have hK' : cs = eW T x := hK
      subst hK'
      have u0 : wr.cell? ⟨b, o, none⟩ = some (.int .u8 x.f0) := (S3.base.cell (p := ⟨b, o, none⟩) hb).trans (hcs 0 _ rfl)
      have had' : ad.add (j * 2) = ⟨b, o, none⟩ := had
      obtain ⟨xn, hxn⟩ : ∃ xn, x.f0 = xn := ⟨_, rfl⟩
      rw [hxn] at u0
      have HXN := Lib.hid hxn
      have HCAP := Lib.hid (show (O.length + 1) * 1 ≤ 140737488355328 by omega)
      have H3 := Lib.hid S3
      clear hx hcs had hb hK hxn hj hO hOl S3
      go_wp2_with (at_builtin; go_loud (refine St.wp1 (flInt .u8) rfl _ _ 28 5 _ 1 rfl Try.underlying28 infoU rfl (by decide) (by decide) H3.out 1 rfl xn #[.int .u8 xn] rfl rfl rfl HCAP.out ?_))
      intro T2 A2 c2 w4 h4
      have hT2 := h4.out.1
      have H4 := Lib.hid h4.out.2
      have HT2 := Lib.hid hT2
      clear h4 hT2
      go_wp2_with fail
      go_roundg (N - j)
      case measure => have := HJ.out; omega
      case rel =>
        have := HJ.out
        refine ⟨j + 1, by go_num, by omega, by omega, ?_⟩
        have e : (ws.take (j + 1)).map (·.f0) = T2 := by rw [List.take_add_one, HX.out, List.map_append, HJ.out.1, HT2.out, ← HXN.out]; rfl
        rw [e]; exact H4.out
    · have hjl' : ¬ (j : Int) < (N : Int) := by omega
      have e : O = ws.map (·.f0) := by have := HJ.out; rw [← HJ.out.1, show j = N by omega, ← HN.out, List.take_length]
      have H3 := Lib.hid (S3.drop 0)
      have HE := Lib.hid e
      clear hj S3 hO hOl e d4
      go_wp2_with fail
      go_ret
      rw [← HE.out]
      exact ⟨_, rfl, H3.out⟩
def ransPost (w : World) (T : Int) (s n : Int) (vR : Value) (pl Tk : Int) (ws : List S82) (b : Bool) (e : Ending) (w' : World) : Prop := ∃ v, e = .returned (.tuple #[.bool b, .agg (pV s n vR pl v Tk)]) ∧ St (fun _ => False) w w' [slc (kW T) 88 v ws]
set_option maxRecDepth 100000 in
set_option maxHeartbeats 4000000 in
theorem ranswer_c (T : Int) (ws : List S82) (t : Int) (s n pl Tk : Int) (vR : Value) (hvR : vR.oneCell' = true) (A : Option Addr) (c : Nat) (w : World) (hC : (kW T).C w A ws.length ws) (hl : ws.length ≤ 1000000) :
    Calls Try.prog 14 #[.agg (pV s n vR pl (.slice A ws.length c) Tk), .int .u8 t] w (ransPost w T s n vR pl Tk (ws.filter fun x => !(x.f0 == t)) (ws.any fun x => x.f0 == t)) := by
  obtain ⟨z, hz⟩ : ∃ z, w.heap.size = z := ⟨_, rfl⟩
  have S1 := (St.nil (fun _ => False) w).new' (pV s n vR pl (.slice A ws.length c) Tk) 39 z hz
  have HC := Lib.hid hC
  obtain ⟨N, hN⟩ : ∃ N, ws.length = N := ⟨_, rfl⟩
  have HN := Lib.hid hN
  obtain ⟨r, hr⟩ : ∃ r, (ws.any fun x => x.f0 == t) = r := ⟨_, rfl⟩
  obtain ⟨R, hR⟩ : ∃ R, (ws.filter fun x => !(x.f0 == t)) = R := ⟨_, rfl⟩
  have hlt : decide (R.length < N) = r := by rw [← hr, ← hR, ← hN]; exact filter_lt (fun x : S82 => x.f0 == t) ws
  have HRR := Lib.hid (And.intro hr (And.intro hR hlt))
  have HV1 : Hid (∀ (A : Option Addr) (M c : Nat), ∀ v ∈ (pV s n vR pl (.slice A M c) Tk).toList, v.oneCell' = true) := Lib.hid fun A M c v hv => pV_one hvR rfl v hv
  rw [hr, hR]
  rw [hN] at S1 hl ⊢
  have H1 := Lib.hid (show St (fun _ => False) w _ [blk z (pV s n vR pl (.slice A N c) Tk) 39] from S1)
  clear hC hN hr hR hlt S1
  unfold pV at *
  go_enter Try.func14, Try.ntmps14
  go_upto_region 1 with (refine St.wpAlloc rfl 39 rfl _ _ zero39 rfl H1.out ?_)
  intro z2 w2 H2
  clear H1
  go_upto_region 2 with fail
  obtain ⟨b, hb⟩ : ∃ b, w2.heap.size = b := ⟨_, rfl⟩
  have S3 := H2.out.empty (flW T) 88 b hb
  rw [hb]
  clear hb hz
  generalize World.alloc w2 _ = w3 at *
  have d4 : w3.cell? ⟨z, 4, none⟩ = some (.slice A N c) := S3.cell 0 rfl 4
  have H3 := Lib.hid S3
  clear S3 H2
  go_upto_block 0 with fail
  clear d4
  go_cut [6] (fun v6 W => St (fun _ => False) w W [blk z #[.int .u8 s, .int .i64 n, vR, .int .i64 pl, .slice A N c, .int .i64 Tk] 39, blk z2 #[.int .u8 0, .int .i64 0, .slice none 0 0, .int .i64 0, .slice none 0 0, .int .i64 0] 39, slc (kW T) 88 v6 R])
  case first =>
    go_wp2_with fail
    go_loopg [6, 13] (N + 1) (fun m v6 v13 W => ∃ j : Nat, v13 = .int .i64 j ∧ j ≤ N ∧ N - j < m ∧ St (fun _ => False) w W [blk z #[.int .u8 s, .int .i64 n, vR, .int .i64 pl, .slice A N c, .int .i64 Tk] 39, blk z2 #[.int .u8 0, .int .i64 0, .slice none 0 0, .int .i64 0, .slice none 0 0, .int .i64 0] 39, slc (kW T) 88 v6 ((ws.take j).filter fun x => !(x.f0 == t))])
    case atStart => exact ⟨0, rfl, by omega, by omega, H3.out⟩
    case round =>
      clear H3
      obtain ⟨j, rfl, hj, hjm, S4⟩ := hrel
      obtain ⟨O, hO⟩ : ∃ O, ((ws.take j).filter fun x => !(x.f0 == t)) = O := ⟨_, rfl⟩
      rw [hO] at S4
      have hOl : O.length ≤ j := by rw [← hO]; have := List.length_filter_le (fun x : S82 => !(x.f0 == t)) (ws.take j); rw [List.length_take] at this; omega
      obtain ⟨vA, vc, rfl⟩ := Kd.R_slice (S4.get 2 rfl).1
      have d4 : wr.cell? ⟨z, 4, none⟩ = some (.slice A N c) := S4.cell 0 rfl 4
      have HJ := Lib.hid (And.intro hO (And.intro hj hjm))
      clear hjm
      by_cases hjl : j < N
      · have hjl' : (j : Int) < (N : Int) := by omega
        have hj0 : (0 : Int) ≤ (j : Int) := by omega
        have hjb : (j : Int) < 1000000 := by omega
        obtain ⟨x, hx⟩ : ∃ x, ws[j]? = some x := ⟨_, List.getElem?_eq_getElem (by rw [HN.out]; exact hjl)⟩
        have HX := Lib.hid hx
        obtain ⟨ad, b, o, cs, rfl, had, hb, hK, hcs⟩ := C_at HC.out hx (by show 0 < 2; decide)
        have hK' : cs = eW T x := hK
        subst hK'
        obtain ⟨xn, xa⟩ := x
        have u0 : wr.cell? ⟨b, o, none⟩ = some (.int .u8 xn) := (S4.base.cell (p := ⟨b, o, none⟩) hb).trans (hcs 0 _ rfl)
        have u1 : wr.cell? ⟨b, o + 1, none⟩ = some (.int .i64 (T - xa)) := (S4.base.cell (p := ⟨b, o + 1, none⟩) hb).trans (hcs 1 _ rfl)
        have had' : ad.add (j * 2) = ⟨b, o, none⟩ := had
        obtain ⟨bb, hbb⟩ : ∃ bb, (xn == t) = bb := ⟨_, rfl⟩
        have hbn : (xn != t) = !bb := by rw [← hbb]; rfl
        have HBB := Lib.hid hbb
        have HCAP := Lib.hid (show (O.length + 1) * 16 ≤ 140737488355328 by omega)
        have hnx : ((ws.take (j + 1)).filter fun x => !(x.f0 == t)) = O ++ (if bb then [] else [⟨xn, xa⟩]) := by
          rw [List.take_add_one, hx, List.filter_append, hO, ← hbb]
          cases hc : (xn == t) <;> simp [hc]
        have HNX := Lib.hid hnx
        have H4 := Lib.hid S4
        clear hx hcs had hb hK hj hO hOl S4 hnx
        cases bb with
        | true =>
          clear u1
          go_wp2_with fail
          go_roundg (N - j)
          case measure => have := HJ.out; omega
          case rel =>
            have := HJ.out
            exact ⟨j + 1, by go_num, by omega, by omega, by rw [HNX.out]; simpa using H4.out⟩
        | false =>
          go_wp2_with (at_builtin; go_loud (refine St.wp1 (flW T) rfl _ _ 37 88 _ 16 rfl Try.underlying37 infoW rfl (by show 0 < 2; decide) (by decide) H4.out 2 rfl ⟨xn, xa⟩ #[.int .u8 xn, .int .i64 (T - xa)] rfl rfl rfl HCAP.out ?_))
          intro T2 A2 c2 w4 h4
          have hT2 := h4.out.1
          have H5 := Lib.hid h4.out.2
          have HT2 := Lib.hid hT2
          clear h4 hT2
          go_wp2_with fail
          go_roundg (N - j)
          case measure => have := HJ.out; omega
          case rel =>
            have := HJ.out
            exact ⟨j + 1, by go_num, by omega, by omega, by rw [HNX.out, if_neg (by decide), ← HT2.out]; exact H5.out⟩
      · have hjl' : ¬ (j : Int) < (N : Int) := by omega
        have e : O = R := by have := HJ.out; rw [← HJ.out.1, show j = N by omega, ← HN.out, List.take_length, HRR.out.2.1]
        subst e
        have H4 := Lib.hid S4
        clear hj S4 hO hOl d4
        go_wp2_with fail
        go_meet
        exact H4.out
  case rest =>
    clear H3
    obtain ⟨vA, vc, rfl⟩ := Kd.R_slice (hcut.get 2 rfl).1
    obtain ⟨M, hM⟩ : ∃ M, R.length = M := ⟨_, rfl⟩
    have hlt : decide ((M : Int) < (N : Int)) = r := by rw [← HRR.out.2.2, hM]; simp
    rw [hM]
    have d4 := hcut.cell 0 rfl 4
    have HM := Lib.hid hM
    have H4 := Lib.hid hcut
    have H5 := Lib.hid (hcut.set 0 rfl 4 (.slice vA M vc))
    have f4 := hcut.frozen 0 rfl 4
    clear hM hcut
    go_upto_region 10 with fail
    generalize World.setCell wc _ _ = w5 at *
    have e0 : w5.cell? ⟨z, 0, none⟩ = some (.int .u8 s) := H5.out.cell 0 rfl 0
    have e1 : w5.cell? ⟨z, 1, none⟩ = some (.int .i64 n) := H5.out.cell 0 rfl 1
    have e2 : w5.cell? ⟨z, 2, none⟩ = some vR := H5.out.cell 0 rfl 2
    have e3 : w5.cell? ⟨z, 3, none⟩ = some (.int .i64 pl) := H5.out.cell 0 rfl 3
    have e4 : w5.cell? ⟨z, 4, none⟩ = some (.slice vA M vc) := H5.out.cell 0 rfl 4
    have e5 : w5.cell? ⟨z, 5, none⟩ = some (.int .i64 Tk) := H5.out.cell 0 rfl 5
    clear hlt d4 f4
    go_still_tail 3, (by kernel_rfl)
    change wpList _ _ _ _ _ w5.drew
    refine St.wpStoreA rfl 39 _ _ rfl H5.out.drew 1 rfl (pV s n vR pl (.slice vA M vc) Tk) rfl (HV1.out _ _ _) rfl rfl (by kernel_rfl) ?_
    intro w6 H6
    clear e0 e1 e2 e3 e4 e5 H5 H4
    go_wp2_with fail
    refine bodyPost_ret (results_tc rfl _ _ z2 39 (pV s n vR pl (.slice vA M vc) Tk) (0, 0) _ rfl (H6.out.get 1 rfl) Try.underlying39 rfl (by kernel_rfl)) rfl ?_
    have hltN : decide (M < N) = r := by rw [← HM.out]; exact HRR.out.2.2
    have h9 : St (fun _ => False) w w6 [slc (kW T) 88 (.slice vA R.length vc) R] := (H6.out.drop 0).drop 0
    rw [HM.out] at h9
    exact ⟨.slice vA M vc, by rw [← hltN]; rfl, h9⟩
def rtwoPost (w : World) (r : List Int) (e : Ending) (w' : World) : Prop := ∃ v, e = .returned v ∧ St (fun _ => False) w w' [slc (Kd.int .u8) 5 v r]
theorem hlp_le (s n tgt : Int) : ∀ (l : List Int) (out : List Int), out.length ≤ 2 → (l.foldl (hlpStep s n tgt) out).length ≤ 2
  | [], _, h => h
  | x :: l, out, h => by
    refine hlp_le s n tgt l _ ?_
    unfold hlpStep
    split
    · rename_i hc; rw [List.length_append]; simp; omega
    · exact h
theorem hlp_take (s n tgt : Int) (l : List Int) (j : Nat) (h : Int) (hj : l[j]? = some h) : (l.take (j + 1)).foldl (hlpStep s n tgt) [] = hlpStep s n tgt ((l.take j).foldl (hlpStep s n tgt) []) h := by
  rw [List.take_add_one, hj, List.foldl_append]
  rfl
theorem rot_len (l : List Int) (x : Int) : (rot l x).length = l.length := by
  unfold rot
  rw [List.length_append, List.length_drop, List.length_take]
  omega
theorem mod_bound (x : Int) (n : Nat) (h : 0 < n) : 0 ≤ x % (n : Int) ∧ x % (n : Int) < (n : Int) := ⟨Int.emod_nonneg _ (by omega), Int.emod_lt_of_pos _ (by omega)⟩
set_option maxRecDepth 100000 in
set_option maxHeartbeats 8000000 in
theorem rtwo_c (s n pl Tk : Int) (vR vW : Value) (x : Int) (hx : 0 ≤ x ∧ x < 18446744073709551616) (tgt : Int) (l : List Int) (hv : ∀ h ∈ l, 0 ≤ h ∧ h < 256) (A : Option Addr) (c : Nat) (w : World) (hC : (Kd.int .u8).C w A l.length l) (hc : l.length ≤ c) (hl : l.length ≤ 1000000) :
    Calls Try.prog 27 #[.agg (pV s n vR pl vW Tk), .int .u64 x, .slice A l.length c, .int .u8 tgt] w (rtwoPost w (hlpF s n x l tgt)) := by
  obtain ⟨z, hz⟩ : ∃ z, w.heap.size = z := ⟨_, rfl⟩
  have S1 := (St.nil (fun _ => False) w).new' (pV s n vR pl vW Tk) 39 z hz
  have HC := Lib.hid (And.intro hC (And.intro hc hv))
  obtain ⟨N, hN⟩ : ∃ N, l.length = N := ⟨_, rfl⟩
  have HN := Lib.hid hN
  have hx0 := hx.1
  have hx1 := hx.2
  rw [hN] at hl ⊢
  have H1 := Lib.hid (show St (fun _ => False) w _ [blk z (pV s n vR pl vW Tk) 39] from S1)
  clear hC hc hv hN S1 hx
  unfold pV at *
  by_cases h0 : N = 0
  · have hl0 : l = [] := List.eq_nil_of_length_eq_zero (HN.out.trans h0)
    have HL0 := Lib.hid hl0
    subst h0
    clear hl0
    go_enter Try.func27, Try.ntmps27
    go_upto_region 1 with fail
    generalize World.alloc w _ = w1 at *
    go_upto_region 2 with fail
    obtain ⟨b, hb⟩ : ∃ b, w1.heap.size = b := ⟨_, rfl⟩
    have S2 := H1.out.empty (flInt .u8) 5 b hb
    rw [hb]
    clear hb hz
    generalize World.alloc w1 _ = w2 at *
    have H2 := Lib.hid (S2.drop 0)
    clear S2 H1
    go_wp2_with fail
    go_ret
    refine ⟨_, rfl, ?_⟩
    have e : hlpF s n x l tgt = [] := by rw [HL0.out]; unfold hlpF rot; simp
    rw [e]
    exact H2.out
  have hN0 : 0 < N := by omega
  obtain ⟨f, hf⟩ : ∃ f : Nat, x % (N : Int) = (f : Int) := ⟨(x % (N : Int)).toNat, by have := (mod_bound x N hN0).1; omega⟩
  have hfN : f < N := by have := (mod_bound x N hN0).2; omega
  obtain ⟨i5, hi5, hi51⟩ := size5
  obtain ⟨A', hsl, hCd, hdc⟩ := C_dropped (k := .u8) (P := Try.prog) 28 5 Try.underlying28 hi5 hi51 A c l f (by rw [HN.out]; omega) HC.out.2.1
  obtain ⟨htk, hCt, htc⟩ := print_take_of (Value.int .u8) 0 28 5 .i64 Try.underlying28 hi5 hi51 A c l (f : Int) (by omega) (by rw [HN.out]; omega) HC.out.2.1
  simp only [Int.toNat_natCast] at htk hCt htc
  rw [HN.out] at hsl htk
  obtain ⟨D, hD⟩ : ∃ D, l.drop f = D := ⟨_, rfl⟩
  obtain ⟨E, hE⟩ : ∃ E, l.take f = E := ⟨_, rfl⟩
  have hrot : rot l x = D ++ E := by unfold rot; rw [HN.out, hf, Int.toNat_natCast, hD, hE]
  have HD : Hid (∀ W : World, (Kd.int .u8).C W A l.length l → (Kd.int .u8).C W A' D.length D) := Lib.hid (by rw [← hD]; exact hCd)
  have hCt' : ∀ W : World, (Kd.int .u8).C W A l.length l → (Kd.int .u8).C W A (l.take f).length (l.take f) := fun W h => Kd.C_of_reads (hCt W (Kd.reads_of_C (d := 0) h))
  have HE : Hid (∀ W : World, (Kd.int .u8).C W A l.length l → (Kd.int .u8).C W A E.length E) := Lib.hid (by rw [← hE]; exact hCt')
  rw [hD] at hsl hdc
  rw [hE] at htk htc
  have hDl : D.length ≤ N := by rw [← hD, List.length_drop, HN.out]; omega
  have hEl : E.length ≤ N := by rw [← hE, List.length_take, HN.out]; omega
  have HRT := Lib.hid (And.intro hrot (And.intro hDl hEl))
  clear hCd hCt hCt' hD hE hrot hdc htc hDl hEl
  have hwf : wrap64 (f : Int) = (f : Int) := by unfold wrap64; omega
  have hwN : IntKind.u64.wrap (N : Int) = (N : Int) := by rw [IntKind.wrap_u64]; omega
  have HW := Lib.hid (And.intro hwf hwN)
  have hN0' : ¬ (N : Int) = 0 := by omega
  clear hwf hwN
  have hwf := HW.out.1
  have hwN := HW.out.2
  go_enter Try.func27, Try.ntmps27
  go_upto_region 1 with fail
  generalize World.alloc w _ = w1 at *
  go_upto_region 2 with fail
  obtain ⟨b, hb⟩ : ∃ b, w1.heap.size = b := ⟨_, rfl⟩
  have S2 := H1.out.empty (flInt .u8) 5 b hb
  rw [hb]
  clear hb hz
  generalize World.alloc w1 _ = w2 at *
  have H2 := Lib.hid S2
  clear S2 H1
  go_upto_region 6 with fail
  obtain ⟨b3, hb3⟩ : ∃ b3, w2.heap.size = b3 := ⟨_, rfl⟩
  have S3 := H2.out.empty (flInt .u8) 5 b3 hb3
  rw [hb3]
  clear hb3
  generalize World.alloc w2 _ = w3 at *
  have H3 := Lib.hid S3
  clear S3 H2
  go_upto_region 7 with (at_builtin; go_loud (refine St.wpN (flInt .u8) rfl _ _ 28 5 _ 1 rfl Try.underlying28 infoU rfl (by decide) (by decide) H3.out 2 rfl D A' _ rfl rfl (HD.out _ (Kd.C_below HC.out.1 H3.out.base)) (by have := HRT.out; simp only [List.length_nil]; omega) ?_))
  intro T3 A3 c3 w4 h4
  have hT3 : T3 = D := h4.out.1
  subst hT3
  have H4 := Lib.hid h4.out.2
  clear h4 H3 hsl
  go_upto_region 8 with (at_builtin; go_loud (refine St.wpN (flInt .u8) rfl _ _ 28 5 _ 1 rfl Try.underlying28 infoU rfl (by decide) (by decide) H4.out 2 rfl E A _ rfl rfl (HE.out _ (Kd.C_below HC.out.1 H4.out.base)) (by have := HRT.out; omega) ?_))
  intro rr A4 c4 w5 h5
  have hrr : rr = rot l x := h5.out.1.trans HRT.out.1.symm
  have hrl : rr.length = N := by rw [hrr, rot_len, HN.out]
  have H5 := Lib.hid h5.out.2
  have HRR := Lib.hid (And.intro hrr (And.intro hrl (fun (h : Int) (hm : h ∈ rr) => (show 0 ≤ h ∧ h < 256 by
    rw [hrr] at hm
    unfold rot at hm
    rcases List.mem_append.1 hm with hm | hm
    · exact HC.out.2.2 h (List.mem_of_mem_drop hm)
    · exact HC.out.2.2 h (List.mem_of_mem_take hm)))))
  rw [hrl] at H5 ⊢
  clear h5 H4 htk hrr hrl hf hfN hwf hwN hN0' h0 hN0 HD HE
  go_wp2_with fail
  go_loopg [9, 38] (N + 1) (fun m v9 v38 W => ∃ j : Nat, v38 = .int .i64 j ∧ j ≤ N ∧ N - j < m ∧ St (fun _ => False) w W [blk z #[.int .u8 s, .int .i64 n, vR, .int .i64 pl, vW, .int .i64 Tk] 39, slc (Kd.int .u8) 5 v9 ((rr.take j).foldl (hlpStep s n tgt) []), slc (Kd.int .u8) 5 (.slice A4 N c4) rr])
  case atStart => exact ⟨0, rfl, by omega, by omega, H5.out⟩
  case round =>
    clear H5
    obtain ⟨j, rfl, hj, hjm, S6⟩ := hrel
    obtain ⟨O, hO⟩ : ∃ O, (rr.take j).foldl (hlpStep s n tgt) [] = O := ⟨_, rfl⟩
    rw [hO] at S6
    have hO2 : O.length ≤ 2 := by rw [← hO]; exact hlp_le s n tgt _ _ (by decide)
    obtain ⟨vA, vc, rfl⟩ := Kd.R_slice (S6.get 1 rfl).1
    have d0 : wr.cell? ⟨z, 0, none⟩ = some (.int .u8 s) := S6.cell 0 rfl 0
    have d1 : wr.cell? ⟨z, 1, none⟩ = some (.int .i64 n) := S6.cell 0 rfl 1
    have H5 := Lib.hid S6
    have HJ := Lib.hid (And.intro hj (And.intro hjm hO2))
    clear hjm
    by_cases hjl : j < N
    · have hjl' : (j : Int) < (N : Int) := by omega
      have hj0 : (0 : Int) ≤ (j : Int) := by omega
      obtain ⟨h, hh⟩ : ∃ h, rr[j]? = some h := ⟨_, List.getElem?_eq_getElem (by rw [HRR.out.2.1]; exact hjl)⟩
      obtain ⟨gB, cB, hv, _, _⟩ := slc_form (S6.get 2 rfl) (by rw [HRR.out.2.1]; omega)
      injection hv with hv1 hv3 hv2
      subst hv1; subst hv2
      clear hv3
      have c0 : wr.cell? ⟨gB, j, none⟩ = some (.int .u8 h) := slc_int (S6.get 2 rfl) hh
      have hb := HRR.out.2.2 h (List.mem_of_getElem? hh)
      have hwh : wrap64 h = h := by unfold wrap64; omega
      have hstep := hlp_take s n tgt rr j h hh
      rw [hO] at hstep
      obtain ⟨k, hk⟩ : ∃ k, O.length = k := ⟨_, rfl⟩
      have HK := Lib.hid hk
      have HO := Lib.hid (And.intro hO hh)
      rw [hk] at hO2 ⊢
      by_cases q1 : h = tgt
      · have hnx : (rr.take (j + 1)).foldl (hlpStep s n tgt) [] = O := by rw [hstep]; unfold hlpStep; rw [if_neg (fun c => c.2.1 q1)]
        have b1 : (h == tgt) = true := by simpa using q1
        clear hstep q1 hk hO hh S6 hj hb hwh
        have HNX := Lib.hid hnx
        clear hnx
        go_wp2_with fail
        go_roundg (N - j)
        case measure => have := HJ.out; omega
        case rel =>
          have := HJ.out
          exact ⟨j + 1, by first | go_num | exact congrArg (Value.int .i64) (wsucc (i := j) (m := 1000000) (by omega) (by decide)), by omega, by omega, by rw [HNX.out]; first | exact H5.out | (have h9 := H5.out; rw [HK.out] at h9; exact h9)⟩
      have b1 : (h == tgt) = false := by simpa using q1
      by_cases q2 : h = s
      · have hnx : (rr.take (j + 1)).foldl (hlpStep s n tgt) [] = O := by rw [hstep]; unfold hlpStep; rw [if_neg (fun c => c.2.2.1 q2)]
        have b2 : (h == s) = true := by simpa using q2
        clear hstep q1 q2 hk hO hh S6 hj hb hwh
        have HNX := Lib.hid hnx
        clear hnx
        go_wp2_with fail
        go_roundg (N - j)
        case measure => have := HJ.out; omega
        case rel =>
          have := HJ.out
          exact ⟨j + 1, by first | go_num | exact congrArg (Value.int .i64) (wsucc (i := j) (m := 1000000) (by omega) (by decide)), by omega, by omega, by rw [HNX.out]; first | exact H5.out | (have h9 := H5.out; rw [HK.out] at h9; exact h9)⟩
      have b2 : (h == s) = false := by simpa using q2
      by_cases q3 : n ≤ h
      · have hnx : (rr.take (j + 1)).foldl (hlpStep s n tgt) [] = O := by rw [hstep]; unfold hlpStep; rw [if_neg (fun c => absurd c.2.2.2.1 (by omega))]
        have b3 : decide (n ≤ h) = true := decide_eq_true q3
        clear hstep q1 q2 hk hO hh S6 hj hb
        have HNX := Lib.hid hnx
        clear hnx
        go_wp2_with fail
        go_roundg (N - j)
        case measure => have := HJ.out; omega
        case rel =>
          have := HJ.out
          exact ⟨j + 1, by first | go_num | exact congrArg (Value.int .i64) (wsucc (i := j) (m := 1000000) (by omega) (by decide)), by omega, by omega, by rw [HNX.out]; first | exact H5.out | (have h9 := H5.out; rw [HK.out] at h9; exact h9)⟩
      have b3 : decide (n ≤ h) = false := decide_eq_false q3
      by_cases q4 : k = 2
      · have hnx : (rr.take (j + 1)).foldl (hlpStep s n tgt) [] = O := by rw [hstep]; unfold hlpStep; rw [if_neg (fun c => absurd c.1 (by omega))]
        subst q4
        clear hstep q1 q2 q3 hk hO hh S6 hj hb hO2
        have HNX := Lib.hid hnx
        clear hnx
        go_wp2_with fail
        go_roundg (N - j)
        case measure => have := HJ.out; omega
        case rel =>
          have := HJ.out
          exact ⟨j + 1, by first | go_num | exact congrArg (Value.int .i64) (wsucc (i := j) (m := 1000000) (by omega) (by decide)), by omega, by omega, by rw [HNX.out]; first | exact H5.out | (have h9 := H5.out; rw [HK.out] at h9; exact h9)⟩
      have b4 : ((k : Int) == 2) = false := by
        have : ¬ (k : Int) = 2 := by omega
        simpa using this
      have HCAP := Lib.hid (show (O.length + 1) * 1 ≤ 140737488355328 by omega)
      rcases (show k = 0 ∨ k = 1 by omega) with hk0 | hk1
      · have hO0 : O = [] := List.eq_nil_of_length_eq_zero (hk.trans hk0)
        have hnx : (rr.take (j + 1)).foldl (hlpStep s n tgt) [] = O ++ [h] := by
          rw [hstep, hO0]; unfold hlpStep
          rw [if_pos ⟨by decide, q1, q2, by omega, by simp⟩]
        have b5 : ((k : Int) == 1) = false := by rw [hk0]; decide
        clear hstep q1 q2 q3 q4 hk hk0 hO hh S6 hj hb hO2 hO0
        have HNX := Lib.hid hnx
        clear hnx
        go_wp2_with (at_builtin; go_loud (refine St.wp1 (flInt .u8) rfl _ _ 28 5 _ 1 rfl Try.underlying28 infoU rfl (by decide) (by decide) H5.out 1 rfl h #[.int .u8 h] rfl (by first | rfl | (rw [HK.out]; rfl)) rfl HCAP.out ?_))
        intro T9 A9 c9 w9 h9
        have hT9 := h9.out.1
        have H9 := Lib.hid h9.out.2
        have HT9 := Lib.hid hT9
        clear h9 hT9
        go_wp2_with fail
        go_roundg (N - j)
        case measure => have := HJ.out; omega
        case rel =>
          have := HJ.out
          exact ⟨j + 1, by first | go_num | exact congrArg (Value.int .i64) (wsucc (i := j) (m := 10000000) (by omega) (by decide)), by omega, by omega, by rw [HNX.out, ← HT9.out]; exact H9.out⟩
      · obtain ⟨o1, hO1⟩ : ∃ o1, O = [o1] := by
          have : O.length = 1 := hk.trans hk1
          exact List.length_eq_one_iff.1 this
        subst hk1
        obtain ⟨gO, cO, hvO, _, _⟩ := slc_form (S6.get 1 rfl) (by omega)
        injection hvO with g1 g3 g2
        subst g1; subst g2
        clear g3
        have o0 : wr.cell? ⟨gO, 0, none⟩ = some (.int .u8 o1) := slc_int (S6.get 1 rfl) (by rw [hO1]; rfl)
        by_cases q5 : o1 = h
        · have hnx : (rr.take (j + 1)).foldl (hlpStep s n tgt) [] = O := by
            rw [hstep, hO1]; unfold hlpStep
            rw [if_neg (fun c => c.2.2.2.2 (by rw [q5]; simp))]
          have b5 : (o1 == h) = true := by simpa using q5
          clear hstep q1 q2 q3 q4 q5 hk hO hh S6 hj hb hO2 hO1 b4
          have HNX := Lib.hid hnx
          clear hnx
          go_wp2_with fail
          go_roundg (N - j)
          case measure => have := HJ.out; omega
          case rel =>
            have := HJ.out
            exact ⟨j + 1, by first | go_num | exact congrArg (Value.int .i64) (wsucc (i := j) (m := 1000000) (by omega) (by decide)), by omega, by omega, by rw [HNX.out]; first | exact H5.out | (have h9 := H5.out; rw [HK.out] at h9; exact h9)⟩
        · have hnx : (rr.take (j + 1)).foldl (hlpStep s n tgt) [] = O ++ [h] := by
            rw [hstep, hO1]; unfold hlpStep
            rw [if_pos ⟨by show 1 < 2; decide, q1, q2, by omega, by simp; exact fun e => q5 e.symm⟩]
          have b5 : (o1 == h) = false := by simpa using q5
          clear hstep q1 q2 q3 q4 q5 hk hO hh S6 hj hb hO2 hO1 b4
          have HNX := Lib.hid hnx
          clear hnx
          go_wp2_with (at_builtin; go_loud (refine St.wp1 (flInt .u8) rfl _ _ 28 5 _ 1 rfl Try.underlying28 infoU rfl (by decide) (by decide) H5.out 1 rfl h #[.int .u8 h] rfl (by first | rfl | (rw [HK.out]; rfl)) rfl HCAP.out ?_))
          intro T9 A9 c9 w9 h9
          have hT9 := h9.out.1
          have H9 := Lib.hid h9.out.2
          have HT9 := Lib.hid hT9
          clear h9 hT9
          go_wp2_with fail
          go_roundg (N - j)
          case measure => have := HJ.out; omega
          case rel =>
            have := HJ.out
            exact ⟨j + 1, by first | go_num | exact congrArg (Value.int .i64) (wsucc (i := j) (m := 10000000) (by omega) (by decide)), by omega, by omega, by rw [HNX.out, ← HT9.out]; exact H9.out⟩
    · have hjl' : ¬ (j : Int) < (N : Int) := by omega
      have e : O = hlpF s n x l tgt := by rw [← hO, show j = N by omega, ← HRR.out.2.1, List.take_length, HRR.out.1]; rfl
      have HE := Lib.hid e
      have H6 := Lib.hid ((S6.drop 2).drop 0)
      clear hj S6 hO hO2 e d0 d1
      go_wp2_with fail
      go_ret
      rw [← HE.out]
      exact ⟨_, rfl, H6.out⟩
end Go.Proofs.Ytjhmkmcongjngaa
