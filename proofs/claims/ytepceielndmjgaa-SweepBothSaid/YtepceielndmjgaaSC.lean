import Derived.Test.YtepceielndmjgaaSB
import Derived.Deep.RegionLaw
namespace Go.Proofs.Ytepceielndmjgaa
open Go.RowKit Go.Tat Go.Proofs.YtepceielndmjgaaW.PrintWords PSweepTells
/-! ### What is pushed -/
def seenS (r : S41) : S43 := ⟨r.f0, r.f1, r.f2⟩
theorem seen_c (r : S41) (w : World) : Calls Try.prog 20 #[.agg (e41 r).toArray] w fun e w' => e = .returned (.agg (e43 (seenS r)).toArray) ∧ Below w.heap.size w w' := by
  obtain ⟨k, ⟨p, l, n⟩, d, f, x, b⟩ := r
  exact sweep_seen.calls k p l n d f x b k p l n d w rfl
def pushB (M : List (ByteArray × S43)) (r : S41) : Bool := match mget M r.f0 with
  | none => true
  | some s => decide (ltS s (seenS r))
def pushL (mine : List S41) (theirs : List S43) : List S41 := mine.filter (pushB (bestM theirs))
theorem filter_succ {α : Type} {p : α → Bool} {l : List α} {j : Nat} {x : α} (h : l[j]? = some x) : (l.take (j + 1)).filter p = if p x = true then (l.take j).filter p ++ [x] else (l.take j).filter p := by
  obtain ⟨hl, he⟩ := List.getElem?_eq_some_iff.1 h
  rw [← List.take_append_getElem hl, List.filter_append, he]
  by_cases e : p x = true
  · simp [e]
  · simp [e]
def recPost (w : World) (r : List S41) (e : Ending) (w' : World) : Prop := ∃ v, e = .returned v ∧ St (fun _ => False) w w' [slc k41 41 v r]
set_option maxRecDepth 100000 in
set_option maxHeartbeats 8000000 in
theorem push_c (mine : List S41) (theirs : List S43) (Am At : Option Addr) (cm ct : Nat) (W : World) (hM : k41.C W Am mine.length mine) (hT : k43.C W At theirs.length theirs) (hml : mine.length ≤ 1000000) : Calls Try.prog 14 #[.slice Am mine.length cm, .slice At theirs.length ct] W (recPost W (pushL mine theirs)) := by
  have HC := Lib.hid hM
  have HBest := Lib.hid (best_c theirs At ct W hT)
  have HB := Lib.hid behind_c
  have HN := Lib.hid seen_c
  unfold pushL
  generalize bestM theirs = M at *
  clear hM hT
  go_enter Try.func14, Try.ntmps14
  go_wp2_with fail
  refine HBest.out.mono ?_
  rintro e w1 ⟨mb, rfl, S1⟩
  have H1 := Lib.hid (S1.nils k41 41)
  clear S1 HBest
  go_wp2_with fail
  go_loopg [6, 15] (mine.length + 1) (fun m v6 v15 wx => ∃ j : Nat, v15 = .int .i64 j ∧ j ≤ mine.length ∧ mine.length - j < m ∧ ((mine.take j).filter (pushB M)).length ≤ j ∧ St (fun _ => False) W wx [mapA mb Value.string ev43 M, slc k41 41 v6 ((mine.take j).filter (pushB M))])
  case atStart => exact ⟨0, rfl, by omega, by omega, Nat.le_refl _, H1.out⟩
  case round =>
    clear H1
    obtain ⟨j, rfl, hj, hjm, hdl, S4⟩ := hrel
    by_cases hjl : j < mine.length
    · have hjl' : (j : Int) < (mine.length : Int) := by omega
      have hj0 : (0 : Int) ≤ (j : Int) := by omega
      obtain ⟨x, hx⟩ : ∃ x, mine[j]? = some x := ⟨_, List.getElem?_eq_getElem hjl⟩
      obtain ⟨ad, b, o, cs, rfl, had, hb, hK, hcs⟩ := C_at HC.out hx (by decide)
      have hsc := Lib.hid (filter_succ (p := pushB M) hx)
      obtain ⟨D, hD⟩ : ∃ D, (mine.take j).filter (pushB M) = D := ⟨_, rfl⟩
      rw [hD] at S4 hdl
      have HD := Lib.hid hD
      obtain ⟨A6, c6, rfl⟩ := Kd.R_slice (S4.get 1 rfl).1
      obtain ⟨xk, ⟨xp, xl, xn⟩, xd, xf, xe, xb⟩ := x
      obtain rfl := k41_open hK
      dsimp only at hcs
      have hBw := S4.base
      have c0 := (hBw.cell (p := ⟨b, o, none⟩) hb).trans (hcs 0 _ rfl)
      have c1 := (hBw.cell (p := ⟨b, o + 1, none⟩) hb).trans (hcs 1 _ rfl)
      have c2 := (hBw.cell (p := ⟨b, o + 2, none⟩) hb).trans (hcs 2 _ rfl)
      have c3 := (hBw.cell (p := ⟨b, o + 3, none⟩) hb).trans (hcs 3 _ rfl)
      have c4 := (hBw.cell (p := ⟨b, o + 4, none⟩) hb).trans (hcs 4 _ rfl)
      have c5 := (hBw.cell (p := ⟨b, o + 5, none⟩) hb).trans (hcs 5 _ rfl)
      have c6' := (hBw.cell (p := ⟨b, o + 6, none⟩) hb).trans (hcs 6 _ rfl)
      have c7 := (hBw.cell (p := ⟨b, o + 7, none⟩) hb).trans (hcs 7 _ rfl)
      have had' : ad.add (j * 8) = ⟨b, o, none⟩ := had
      have HI := Lib.hid (And.intro hj (And.intro hjm hdl))
      have H4 := Lib.hid S4
      clear hK hcs had hx hBw hj hjm S4 hD hdl
      go_upto_region 6 with fail
      have S5 := H4.out.new' #[.string xk, .int .u64 xp, .int .u32 xl, .int .u8 xn, .int .u8 xd, .int .u32 xf, .int .u64 xe, .string xb] 41 wr.heap.size rfl
      obtain ⟨z, hz⟩ : ∃ z, wr.heap.size = z := ⟨_, rfl⟩
      rw [hz] at S5 ⊢
      clear hz
      generalize World.alloc wr _ = w4 at *
      have d0 : w4.cell? ⟨z, 0, none⟩ = some (.string xk) := S5.cell 2 rfl 0
      clear c0 c1 c2 c3 c4 c5 c6' c7 had'
      cases hm : mget M xk with
      | none =>
        have hlk := (S5.get 0 rfl : MapAt w4 mb Value.string ev43 M).run_lookup true Try.underlying45 keys9 xk _ zero43
        rw [hm] at hlk
        simp only [if_true] at hlk
        have hlk' : (Instr.lookup 45 (.map (some mb)) (.string xk) true).run Try.prog w4 = .ok (.tuple #[.agg #[.string ⟨#[]⟩, .int .u64 0, .int .u32 0, .int .u8 0, .int .u8 0], .bool false]) w4 := hlk
        have HM := Lib.hid (show pushB M ⟨xk, ⟨xp, xl, xn⟩, xd, xf, xe, xb⟩ = true by unfold pushB; simp only [hm])
        have H5 := Lib.hid S5
        clear S5 hlk hm H4
        go_upto_region 7 with fail
        clear hlk' d0
        have S6 := H5.out.alloc (.cells #[.string ⟨#[]⟩, .int .u64 0, .int .u32 0, .int .u8 0, .int .u8 0] 43)
        generalize World.alloc w4 _ = w6 at *
        have H6 := Lib.hid S6
        clear S6 H5
        go_quiet (fail)
        have S7 := H6.out.drewN nq
        generalize w6.drewN nq = w7 at *
        have d0 : w7.cell? ⟨z, 0, none⟩ = some (.string xk) := S7.cell 2 rfl 0
        have d1 : w7.cell? ⟨z, 1, none⟩ = some (.int .u64 xp) := S7.cell 2 rfl 1
        have d2 : w7.cell? ⟨z, 2, none⟩ = some (.int .u32 xl) := S7.cell 2 rfl 2
        have d3 : w7.cell? ⟨z, 3, none⟩ = some (.int .u8 xn) := S7.cell 2 rfl 3
        have d4 : w7.cell? ⟨z, 4, none⟩ = some (.int .u8 xd) := S7.cell 2 rfl 4
        have d5 : w7.cell? ⟨z, 5, none⟩ = some (.int .u32 xf) := S7.cell 2 rfl 5
        have d6 : w7.cell? ⟨z, 6, none⟩ = some (.int .u64 xe) := S7.cell 2 rfl 6
        have d7 : w7.cell? ⟨z, 7, none⟩ = some (.string xb) := S7.cell 2 rfl 7
        have H7 := Lib.hid (S7.drop 2)
        clear S7 H6
        go_wp2_with (at_builtin; go_loud (refine St.wp1 fl41 rfl _ _ 22 41 (.agg #[(.string ⟨#[]⟩), (.int .u64 0), (.int .u32 0), (.int .u8 0), (.int .u8 0), (.int .u32 0), (.int .u64 0), (.string ⟨#[]⟩)]) 64 rfl Try.underlying22 info41 rfl (by decide) (by decide) H7.out 1 rfl ⟨xk, ⟨xp, xl, xn⟩, xd, xf, xe, xb⟩ #[.string xk, .int .u64 xp, .int .u32 xl, .int .u8 xn, .int .u8 xd, .int .u32 xf, .int .u64 xe, .string xb] rfl rfl rfl (by have := HI.out; omega) ?_))
        intro T A10 c10 w10 h10
        have HT := Lib.hid h10.out.1
        have H10 := Lib.hid h10.out.2
        clear h10 H7 d0 d1 d2 d3 d4 d5 d6 d7
        go_wp2_with fail
        go_roundg (mine.length - j)
        case measure => have := HI.out; omega
        case rel =>
          have := HI.out
          have e : (mine.take (j + 1)).filter (pushB M) = T := by rw [hsc.out, HM.out, if_pos rfl, HD.out]; exact HT.out.symm
          have e2 : T.length = D.length + 1 := by rw [HT.out, List.length_append]; rfl
          exact ⟨j + 1, by go_num, by omega, by omega, by rw [e]; omega, by rw [e]; exact H10.out⟩
      | some was =>
        have hlk := (S5.get 0 rfl : MapAt w4 mb Value.string ev43 M).run_lookup true Try.underlying45 keys9 xk _ zero43
        rw [hm] at hlk
        simp only [if_true] at hlk
        have HM0 := Lib.hid (show pushB M ⟨xk, ⟨xp, xl, xn⟩, xd, xf, xe, xb⟩ = decide (ltS was (seenS ⟨xk, ⟨xp, xl, xn⟩, xd, xf, xe, xb⟩)) by unfold pushB; simp only [hm])
        obtain ⟨ak, ⟨ap, al, an⟩, ad'⟩ := was
        have hlk' : (Instr.lookup 45 (.map (some mb)) (.string xk) true).run Try.prog w4 = .ok (.tuple #[.agg #[.string ak, .int .u64 ap, .int .u32 al, .int .u8 an, .int .u8 ad'], .bool true]) w4 := hlk
        have H5 := Lib.hid S5
        clear S5 hlk hm H4
        go_upto_region 7 with fail
        clear hlk' d0
        have S6 := H5.out.new' #[.string ak, .int .u64 ap, .int .u32 al, .int .u8 an, .int .u8 ad'] 43 w4.heap.size rfl
        obtain ⟨y, hy⟩ : ∃ y, w4.heap.size = y := ⟨_, rfl⟩
        rw [hy] at S6 ⊢
        clear hy
        generalize World.alloc w4 _ = w6 at *
        have d0 : w6.cell? ⟨z, 0, none⟩ = some (.string xk) := S6.cell 2 rfl 0
        have d1 : w6.cell? ⟨z, 1, none⟩ = some (.int .u64 xp) := S6.cell 2 rfl 1
        have d2 : w6.cell? ⟨z, 2, none⟩ = some (.int .u32 xl) := S6.cell 2 rfl 2
        have d3 : w6.cell? ⟨z, 3, none⟩ = some (.int .u8 xn) := S6.cell 2 rfl 3
        have d4 : w6.cell? ⟨z, 4, none⟩ = some (.int .u8 xd) := S6.cell 2 rfl 4
        have d5 : w6.cell? ⟨z, 5, none⟩ = some (.int .u32 xf) := S6.cell 2 rfl 5
        have d6 : w6.cell? ⟨z, 6, none⟩ = some (.int .u64 xe) := S6.cell 2 rfl 6
        have d7 : w6.cell? ⟨z, 7, none⟩ = some (.string xb) := S6.cell 2 rfl 7
        have y0 : w6.cell? ⟨y, 0, none⟩ = some (.string ak) := S6.cell 3 rfl 0
        have y1 : w6.cell? ⟨y, 1, none⟩ = some (.int .u64 ap) := S6.cell 3 rfl 1
        have y2 : w6.cell? ⟨y, 2, none⟩ = some (.int .u32 al) := S6.cell 3 rfl 2
        have y3 : w6.cell? ⟨y, 3, none⟩ = some (.int .u8 an) := S6.cell 3 rfl 3
        have y4 : w6.cell? ⟨y, 4, none⟩ = some (.int .u8 ad') := S6.cell 3 rfl 4
        have H6 := Lib.hid S6
        clear S6 H5
        go_region_law (go_simp; first
          | (refine (HN.out ⟨xk, ⟨xp, xl, xn⟩, xd, xf, xe, xb⟩ _).mono ?_; rintro e w7 ⟨rfl, b7⟩; have S7 := H6.out.drew.below b7; have y0' : w7.cell? ⟨y, 0, none⟩ = some (.string ak) := S7.cell 3 rfl 0; have y1' : w7.cell? ⟨y, 1, none⟩ = some (.int .u64 ap) := S7.cell 3 rfl 1; have y2' : w7.cell? ⟨y, 2, none⟩ = some (.int .u32 al) := S7.cell 3 rfl 2; have y3' : w7.cell? ⟨y, 3, none⟩ = some (.int .u8 an) := S7.cell 3 rfl 3; have y4' : w7.cell? ⟨y, 4, none⟩ = some (.int .u8 ad') := S7.cell 3 rfl 4; have H7 := Lib.hid S7; clear S7 b7; simp only [])
          | (refine (HB.out ⟨ak, ⟨ap, al, an⟩, ad'⟩ (seenS ⟨xk, ⟨xp, xl, xn⟩, xd, xf, xe, xb⟩) _).mono ?_; rintro e w8 ⟨rfl, b8⟩; have H8 := Lib.hid (H7.out.below b8); clear b8; simp only []))
        all_goals
          clear d0 d1 d2 d3 d4 d5 d6 d7 y0 y1 y2 y3 y4 H6 H7
          have d0 : w8.cell? ⟨z, 0, none⟩ = some (.string xk) := H8.out.cell 2 rfl 0
          have d1 : w8.cell? ⟨z, 1, none⟩ = some (.int .u64 xp) := H8.out.cell 2 rfl 1
          have d2 : w8.cell? ⟨z, 2, none⟩ = some (.int .u32 xl) := H8.out.cell 2 rfl 2
          have d3 : w8.cell? ⟨z, 3, none⟩ = some (.int .u8 xn) := H8.out.cell 2 rfl 3
          have d4 : w8.cell? ⟨z, 4, none⟩ = some (.int .u8 xd) := H8.out.cell 2 rfl 4
          have d5 : w8.cell? ⟨z, 5, none⟩ = some (.int .u32 xf) := H8.out.cell 2 rfl 5
          have d6 : w8.cell? ⟨z, 6, none⟩ = some (.int .u64 xe) := H8.out.cell 2 rfl 6
          have d7 : w8.cell? ⟨z, 7, none⟩ = some (.string xb) := H8.out.cell 2 rfl 7
          have H7 := Lib.hid (H8.out.sub (M := [mapA mb Value.string ev43 M, slc k41 41 (.slice A6 D.length c6) D]) (by simp))
          clear H8
          by_cases hlt : ltS ⟨ak, ⟨ap, al, an⟩, ad'⟩ (seenS ⟨xk, ⟨xp, xl, xn⟩, xd, xf, xe, xb⟩)
          · rw [decide_eq_true hlt]
            have HM := Lib.hid (HM0.out.trans (decide_eq_true hlt))
            clear hlt
            go_wp2_with (at_builtin; go_loud (refine St.wp1 fl41 rfl _ _ 22 41 (.agg #[(.string ⟨#[]⟩), (.int .u64 0), (.int .u32 0), (.int .u8 0), (.int .u8 0), (.int .u32 0), (.int .u64 0), (.string ⟨#[]⟩)]) 64 rfl Try.underlying22 info41 rfl (by decide) (by decide) H7.out 1 rfl ⟨xk, ⟨xp, xl, xn⟩, xd, xf, xe, xb⟩ #[.string xk, .int .u64 xp, .int .u32 xl, .int .u8 xn, .int .u8 xd, .int .u32 xf, .int .u64 xe, .string xb] rfl rfl rfl (by have := HI.out; omega) ?_))
            intro T A10 c10 w10 h10
            have HT := Lib.hid h10.out.1
            have H10 := Lib.hid h10.out.2
            clear h10 H7 d0 d1 d2 d3 d4 d5 d6 d7
            go_wp2_with fail
            go_roundg (mine.length - j)
            case measure => have := HI.out; omega
            case rel =>
              have := HI.out
              have e : (mine.take (j + 1)).filter (pushB M) = T := by rw [hsc.out, HM.out, if_pos rfl, HD.out]; exact HT.out.symm
              have e2 : T.length = D.length + 1 := by rw [HT.out, List.length_append]; rfl
              exact ⟨j + 1, by go_num, by omega, by omega, by rw [e]; omega, by rw [e]; exact H10.out⟩
          · rw [decide_eq_false hlt]
            have HM := Lib.hid (HM0.out.trans (decide_eq_false hlt))
            clear hlt d0 d1 d2 d3 d4 d5 d6 d7
            go_wp2_with fail
            go_roundg (mine.length - j)
            case measure => have := HI.out; omega
            case rel =>
              have := HI.out
              have e : (mine.take (j + 1)).filter (pushB M) = D := by rw [hsc.out, HM.out, if_neg (by simp), HD.out]
              exact ⟨j + 1, by go_num, by omega, by omega, by rw [e]; omega, by rw [e]; exact H7.out⟩
    · have hjl' : ¬ (j : Int) < (mine.length : Int) := by omega
      have ej : j = mine.length := by omega
      subst ej
      rw [List.take_length] at S4
      have H4 := Lib.hid (S4.drop 0)
      clear S4 hj hjm hdl
      go_wp2_with fail
      go_ret
      exact ⟨_, rfl, H4.out⟩
end Go.Proofs.Ytepceielndmjgaa
