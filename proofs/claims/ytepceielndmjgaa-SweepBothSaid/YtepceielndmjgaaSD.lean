import Derived.Test.YtepceielndmjgaaSC
import Derived.Test.YtepceielndmjgaaSortS
namespace Go.Proofs.Ytepceielndmjgaa
open Go.RowKit Go.Tat Go.Proofs.YtepceielndmjgaaW.PrintWords PSweepTells
/-! ### What is pulled -/
def pullS (M : List (ByteArray × S43)) (r : S41) : List (ByteArray × S43) := match mget M r.f0 with
  | none => M
  | some s => if ltS (seenS r) s then M else mdel M r.f0
def pullM (mine : List S41) (M : List (ByteArray × S43)) : List (ByteArray × S43) := mine.foldl pullS M
theorem pullM_succ {l : List S41} {M : List (ByteArray × S43)} {j : Nat} {x : S41} (h : l[j]? = some x) : pullM (l.take (j + 1)) M = pullS (pullM (l.take j) M) x := by
  obtain ⟨hl, he⟩ := List.getElem?_eq_some_iff.1 h
  unfold pullM
  rw [← List.take_append_getElem hl, List.foldl_append, he]; rfl
theorem bestM_nodup (l : List S43) : ((bestM l).map (·.1)).Nodup := by
  have : ∀ (l : List S43) (M : List (ByteArray × S43)), (M.map (·.1)).Nodup → ((l.foldl bestS M).map (·.1)).Nodup := by
    intro l
    induction l with
    | nil => intro M h; exact h
    | cons x l ih =>
      intro M h
      refine ih _ ?_
      unfold bestS
      split
      · exact mput_nodup h
      · split
        · exact mput_nodup h
        · exact h
  exact this l [] List.nodup_nil
theorem bestM_len (l : List S43) : (bestM l).length ≤ l.length := by
  have : ∀ (l : List S43) (M : List (ByteArray × S43)), (l.foldl bestS M).length ≤ M.length + l.length := by
    intro l
    induction l with
    | nil => intro M; exact Nat.le_refl _
    | cons x l ih =>
      intro M
      refine Nat.le_trans (ih _) ?_
      have : (bestS M x).length ≤ M.length + 1 := by
        unfold bestS
        split
        · rw [mput_length]; split <;> omega
        · split
          · rw [mput_length]; split <;> omega
          · omega
      rw [List.length_cons]
      omega
  have := this l []
  simpa [bestM] using this
theorem pullM_nodup (mine : List S41) : ∀ (M : List (ByteArray × S43)), (M.map (·.1)).Nodup → ((pullM mine M).map (·.1)).Nodup := by
  induction mine with
  | nil => intro M h; exact h
  | cons x l ih =>
    intro M h
    refine ih _ ?_
    unfold pullS
    split
    · exact h
    · split
      · exact h
      · exact mdel_nodup h
theorem pullM_len (mine : List S41) : ∀ (M : List (ByteArray × S43)), (pullM mine M).length ≤ M.length := by
  induction mine with
  | nil => intro M; exact Nat.le_refl _
  | cons x l ih =>
    intro M
    refine Nat.le_trans (ih _) ?_
    unfold pullS
    split
    · exact Nat.le_refl _
    · split
      · exact Nat.le_refl _
      · rw [mdel_length]; split <;> omega
/-- What is left of a map. -/
theorem pullM_get (mine : List S41) : ∀ (M : List (ByteArray × S43)), (M.map (·.1)).Nodup → ∀ k, mget (pullM mine M) k = match mget M k with | none => none | some s => if ∀ r ∈ mine, r.f0 = k → ltS (seenS r) s then some s else none := by
  induction mine with
  | nil =>
    intro M _ k
    show mget M k = _
    cases mget M k with
    | none => rfl
    | some s => simp
  | cons x l ih =>
    intro M h k
    have h1 : pullM (x :: l) M = pullM l (pullS M x) := rfl
    have hnd : ((pullS M x).map (·.1)).Nodup := by
      unfold pullS
      split
      · exact h
      · split
        · exact h
        · exact mdel_nodup h
    rw [h1, ih _ hnd]
    have hget : mget (pullS M x) k = match mget M k with | none => none | some s => if x.f0 = k → ltS (seenS x) s then some s else none := by
      unfold pullS
      by_cases hk : x.f0 = k
      · subst hk
        cases hm : mget M x.f0 with
        | none => simp only [hm]
        | some s =>
          simp only
          split
          · rename_i hlt
            rw [hm]
            simp [hlt]
          · rename_i hlt
            rw [mget_mdel h, if_pos rfl]
            simp [hlt]
      · have : mget M k = match mget M k with | none => none | some s => if x.f0 = k → ltS (seenS x) s then some s else none := by
          cases mget M k with
          | none => rfl
          | some s => simp [hk]
        split
        · exact this
        · split
          · exact this
          · rw [mget_mdel h, if_neg (fun e => hk e.symm)]
            exact this
    rw [hget]
    cases hm : mget M k with
    | none => rfl
    | some s =>
      simp only
      by_cases hx : x.f0 = k → ltS (seenS x) s
      · rw [if_pos hx]
        simp only
        by_cases hl : ∀ r ∈ l, r.f0 = k → ltS (seenS r) s
        · rw [if_pos hl, if_pos]
          intro r hr
          rcases List.mem_cons.1 hr with rfl | hr
          · exact hx
          · exact hl r hr
        · rw [if_neg hl, if_neg]
          exact fun h => hl fun r hr => h r (List.mem_cons_of_mem _ hr)
      · rw [if_neg hx]
        simp only
        rw [if_neg]
        exact fun h => hx (h x (by simp))
def pullK (mine : List S41) (theirs : List S43) : List (ByteArray × S43) := pullM mine (bestM theirs)
def strPost (w : World) (ks : List ByteArray) (e : Ending) (w' : World) : Prop := ∃ v T, e = .returned v ∧ T.Perm ks ∧ T.Pairwise (fun a b => ofB a ≤ ofB b) ∧ St (fun _ => False) w w' [slc Kd.string 9 v T]
set_option maxRecDepth 100000 in
set_option maxHeartbeats 8000000 in
theorem pull_c (mine : List S41) (theirs : List S43) (Am At : Option Addr) (cm ct : Nat) (W : World) (hM : k41.C W Am mine.length mine) (hT : k43.C W At theirs.length theirs) (hml : mine.length ≤ 1000000) (htl : theirs.length ≤ 1000000) : Calls Try.prog 17 #[.slice Am mine.length cm, .slice At theirs.length ct] W (strPost W ((pullK mine theirs).map (·.1))) := by
  have HC := Lib.hid hM
  have HBest := Lib.hid (best_c theirs At ct W hT)
  have HB := Lib.hid behind_c
  have HN := Lib.hid seen_c
  unfold pullK
  have hMl : (bestM theirs).length ≤ 1000000 := Nat.le_trans (bestM_len theirs) htl
  have hMn := bestM_nodup theirs
  generalize bestM theirs = M at *
  have HM1 := Lib.hid (And.intro hMl hMn)
  clear hM hT hMl hMn
  go_enter Try.func17, Try.ntmps17
  go_wp2_with fail
  refine HBest.out.mono ?_
  rintro e w1 ⟨mb, rfl, S1⟩
  have H1 := Lib.hid S1
  clear S1 HBest
  go_wp2_with fail
  go_loopg [16] (mine.length + 1) (fun m v16 wx => ∃ j : Nat, v16 = .int .i64 j ∧ j ≤ mine.length ∧ mine.length - j < m ∧ St (fun _ => False) W wx [mapA mb Value.string ev43 (pullM (mine.take j) M)])
  case atStart => exact ⟨0, rfl, by omega, by omega, H1.out⟩
  case round =>
    clear H1
    obtain ⟨j, rfl, hj, hjm, S4⟩ := hrel
    by_cases hjl : j < mine.length
    · have hjl' : (j : Int) < (mine.length : Int) := by omega
      have hj0 : (0 : Int) ≤ (j : Int) := by omega
      obtain ⟨x, hx⟩ : ∃ x, mine[j]? = some x := ⟨_, List.getElem?_eq_getElem hjl⟩
      obtain ⟨ad, b, o, cs, rfl, had, hb, hK, hcs⟩ := C_at HC.out hx (by decide)
      have hsc := Lib.hid (pullM_succ (M := M) hx)
      obtain ⟨N, hN⟩ : ∃ N, pullM (mine.take j) M = N := ⟨_, rfl⟩
      rw [hN] at S4
      have HD := Lib.hid hN
      obtain ⟨xk, ⟨xp, xl, xn⟩, xd, xf, xe, xb⟩ := x
      obtain rfl := k41_open hK
      dsimp only at hcs
      have hBw := S4.base
      have c0 := (hBw.cell (p := ⟨b, o, none⟩) hb).trans (hcs 0 _ rfl)
      have c1 := (hBw.cell (p := ⟨b, o + 1, none⟩) hb).trans (hcs 1 _ rfl)
      have c2 := (hBw.cell (p := ⟨b, o + 2, none⟩) hb).trans (hcs 2 _ rfl)
      have c3 := (hBw.cell (p := ⟨b, o + 3, none⟩) hb).trans (hcs 3 _ rfl)
      have c4 := (hBw.cell (p := ⟨b, o + 4, none⟩) hb).trans (hcs 4 _ rfl)
      have c5 := (hBw.cell (p := ⟨b, o + 5, none⟩) hb).trans (hcs 5 _ rfl)
      have c6' := (hBw.cell (p := ⟨b, o + 6, none⟩) hb).trans (hcs 6 _ rfl)
      have c7 := (hBw.cell (p := ⟨b, o + 7, none⟩) hb).trans (hcs 7 _ rfl)
      have had' : ad.add (j * 8) = ⟨b, o, none⟩ := had
      have HI := Lib.hid (And.intro hj hjm)
      have H4 := Lib.hid S4
      clear hK hcs had hx hBw hj hjm S4 hN
      go_upto_region 5 with fail
      have S5 := H4.out.new' #[.string xk, .int .u64 xp, .int .u32 xl, .int .u8 xn, .int .u8 xd, .int .u32 xf, .int .u64 xe, .string xb] 41 wr.heap.size rfl
      obtain ⟨z, hz⟩ : ∃ z, wr.heap.size = z := ⟨_, rfl⟩
      rw [hz] at S5 ⊢
      clear hz
      generalize World.alloc wr _ = w4 at *
      have d0 : w4.cell? ⟨z, 0, none⟩ = some (.string xk) := S5.cell 1 rfl 0
      clear c0 c1 c2 c3 c4 c5 c6' c7 had'
      cases hm : mget N xk with
      | none =>
        have hlk := (S5.get 0 rfl : MapAt w4 mb Value.string ev43 N).run_lookup true Try.underlying45 keys9 xk _ zero43
        rw [hm] at hlk
        simp only [if_true] at hlk
        have hlk' : (Instr.lookup 45 (.map (some mb)) (.string xk) true).run Try.prog w4 = .ok (.tuple #[.agg #[.string ⟨#[]⟩, .int .u64 0, .int .u32 0, .int .u8 0, .int .u8 0], .bool false]) w4 := hlk
        have HM := Lib.hid (show pullS N ⟨xk, ⟨xp, xl, xn⟩, xd, xf, xe, xb⟩ = N by unfold pullS; simp only [hm])
        have H5 := Lib.hid S5
        clear S5 hlk hm H4
        go_upto_region 6 with fail
        clear hlk' d0
        have S6 := H5.out.alloc (.cells #[.string ⟨#[]⟩, .int .u64 0, .int .u32 0, .int .u8 0, .int .u8 0] 43)
        generalize World.alloc w4 _ = w6 at *
        have H6 := Lib.hid (S6.drop 1)
        clear S6 H5
        go_quiet (fail)
        have H7 := Lib.hid (H6.out.drewN nq)
        generalize w6.drewN nq = w7 at *
        clear H6
        go_wp2_with fail
        go_roundg (mine.length - j)
        case measure => have := HI.out; omega
        case rel =>
          have := HI.out
          have e : pullM (mine.take (j + 1)) M = N := by rw [hsc.out, HD.out, HM.out]
          exact ⟨j + 1, by go_num, by omega, by omega, by rw [e]; exact H7.out⟩
      | some was =>
        have hlk := (S5.get 0 rfl : MapAt w4 mb Value.string ev43 N).run_lookup true Try.underlying45 keys9 xk _ zero43
        rw [hm] at hlk
        simp only [if_true] at hlk
        have HM0 := Lib.hid (show pullS N ⟨xk, ⟨xp, xl, xn⟩, xd, xf, xe, xb⟩ = if ltS (seenS ⟨xk, ⟨xp, xl, xn⟩, xd, xf, xe, xb⟩) was then N else mdel N xk by unfold pullS; simp only [hm])
        obtain ⟨ak, ⟨ap, al, an⟩, ad'⟩ := was
        have hlk' : (Instr.lookup 45 (.map (some mb)) (.string xk) true).run Try.prog w4 = .ok (.tuple #[.agg #[.string ak, .int .u64 ap, .int .u32 al, .int .u8 an, .int .u8 ad'], .bool true]) w4 := hlk
        have H5 := Lib.hid S5
        clear S5 hlk hm H4
        go_upto_region 6 with fail
        clear hlk' d0
        have S6 := H5.out.new' #[.string ak, .int .u64 ap, .int .u32 al, .int .u8 an, .int .u8 ad'] 43 w4.heap.size rfl
        obtain ⟨y, hy⟩ : ∃ y, w4.heap.size = y := ⟨_, rfl⟩
        rw [hy] at S6 ⊢
        clear hy
        generalize World.alloc w4 _ = w6 at *
        have d0 : w6.cell? ⟨z, 0, none⟩ = some (.string xk) := S6.cell 1 rfl 0
        have d1 : w6.cell? ⟨z, 1, none⟩ = some (.int .u64 xp) := S6.cell 1 rfl 1
        have d2 : w6.cell? ⟨z, 2, none⟩ = some (.int .u32 xl) := S6.cell 1 rfl 2
        have d3 : w6.cell? ⟨z, 3, none⟩ = some (.int .u8 xn) := S6.cell 1 rfl 3
        have d4 : w6.cell? ⟨z, 4, none⟩ = some (.int .u8 xd) := S6.cell 1 rfl 4
        have d5 : w6.cell? ⟨z, 5, none⟩ = some (.int .u32 xf) := S6.cell 1 rfl 5
        have d6 : w6.cell? ⟨z, 6, none⟩ = some (.int .u64 xe) := S6.cell 1 rfl 6
        have d7 : w6.cell? ⟨z, 7, none⟩ = some (.string xb) := S6.cell 1 rfl 7
        have y0 : w6.cell? ⟨y, 0, none⟩ = some (.string ak) := S6.cell 2 rfl 0
        have y1 : w6.cell? ⟨y, 1, none⟩ = some (.int .u64 ap) := S6.cell 2 rfl 1
        have y2 : w6.cell? ⟨y, 2, none⟩ = some (.int .u32 al) := S6.cell 2 rfl 2
        have y3 : w6.cell? ⟨y, 3, none⟩ = some (.int .u8 an) := S6.cell 2 rfl 3
        have y4 : w6.cell? ⟨y, 4, none⟩ = some (.int .u8 ad') := S6.cell 2 rfl 4
        have H6 := Lib.hid S6
        clear S6 H5
        go_region_law (go_simp; first
          | (refine (HN.out ⟨xk, ⟨xp, xl, xn⟩, xd, xf, xe, xb⟩ _).mono ?_; rintro e w7 ⟨rfl, b7⟩; have S7 := H6.out.drew.below b7; have y0' : w7.cell? ⟨y, 0, none⟩ = some (.string ak) := S7.cell 2 rfl 0; have y1' : w7.cell? ⟨y, 1, none⟩ = some (.int .u64 ap) := S7.cell 2 rfl 1; have y2' : w7.cell? ⟨y, 2, none⟩ = some (.int .u32 al) := S7.cell 2 rfl 2; have y3' : w7.cell? ⟨y, 3, none⟩ = some (.int .u8 an) := S7.cell 2 rfl 3; have y4' : w7.cell? ⟨y, 4, none⟩ = some (.int .u8 ad') := S7.cell 2 rfl 4; have H7 := Lib.hid S7; clear S7 b7; simp only [])
          | (refine (HB.out (seenS ⟨xk, ⟨xp, xl, xn⟩, xd, xf, xe, xb⟩) ⟨ak, ⟨ap, al, an⟩, ad'⟩ _).mono ?_; rintro e w8 ⟨rfl, b8⟩; have H8 := Lib.hid (H7.out.below b8); clear b8; simp only []))
        all_goals
          clear d0 d1 d2 d3 d4 d5 d6 d7 y0 y1 y2 y3 y4 H6 H7
          have d0 : w8.cell? ⟨z, 0, none⟩ = some (.string xk) := H8.out.cell 1 rfl 0
          have H7 := Lib.hid (H8.out.sub (M := [mapA mb Value.string ev43 N]) (by simp))
          clear H8
          by_cases hlt : ltS (seenS ⟨xk, ⟨xp, xl, xn⟩, xd, xf, xe, xb⟩) ⟨ak, ⟨ap, al, an⟩, ad'⟩
          · rw [decide_eq_true hlt]
            have HM := Lib.hid (HM0.out.trans (if_pos hlt))
            clear hlt d0
            go_wp2_with fail
            go_roundg (mine.length - j)
            case measure => have := HI.out; omega
            case rel =>
              have := HI.out
              have e : pullM (mine.take (j + 1)) M = N := by rw [hsc.out, HD.out, HM.out]
              exact ⟨j + 1, by go_num, by omega, by omega, by rw [e]; exact H7.out⟩
          · rw [decide_eq_false hlt]
            have HM := Lib.hid (HM0.out.trans (if_neg hlt))
            clear hlt
            go_wp2_with (refine wpList_mapDelete rfl 45 9 43 _ _ rfl Try.underlying45 keys9 ev43 mb N (H7.out.get 0 rfl) xk rfl rfl ?_; intro w9 M9 m9)
            have S9 := H7.out.upd 0 rfl m9 (a' := mapA mb Value.string ev43 (mdel N xk)) M9 (fun k h => .inl h)
            have H9 := Lib.hid S9
            clear S9 M9 m9 H7 d0
            go_roundg (mine.length - j)
            case measure => have := HI.out; omega
            case rel =>
              have := HI.out
              have e : pullM (mine.take (j + 1)) M = mdel N xk := by rw [hsc.out, HD.out, HM.out]
              exact ⟨j + 1, by go_num, by omega, by omega, by rw [e]; exact H9.out⟩
    · have hjl' : ¬ (j : Int) < (mine.length : Int) := by omega
      have ej : j = mine.length := by omega
      subst ej
      rw [List.take_length] at S4
      have hKl : (pullM mine M).length ≤ 1000000 := Nat.le_trans (pullM_len mine M) HM1.out.1
      obtain ⟨K, hK0⟩ : ∃ K, pullM mine M = K := ⟨_, rfl⟩
      rw [hK0] at S4 hKl
      have HK0 := Lib.hid hK0
      clear hK0
      have H4 := Lib.hid S4
      have HKL := Lib.hid hKl
      clear S4 hj hjm hKl
      go_wp2_with (refine wpList_range rfl 45 9 43 _ rfl Try.underlying45 Value.string ev43 mb K (H4.out.get 0 rfl) rfl ?_; intro rb w8 hrb hRb mRb _)
      have S9 := H4.out.ranged 0 rfl hrb hRb mRb
      have H9 := Lib.hid (S9.nils Kd.string 9)
      clear S9 hRb mRb hrb H4
      have hc0 : cntL K (fun _ => true) = K.length := by unfold cntL; simp
      have HC0 := Lib.hid hc0
      clear hc0
      go_loopg [10] (cntL K (fun _ => true) + 1) (fun m v10 wx => ∃ (lf : ByteArray → Bool) (T : List ByteArray), cntL K lf < m ∧ T.length + cntL K lf ≤ K.length ∧ T.Nodup ∧ (∀ k, k ∈ T ↔ k ∈ K.map (·.1) ∧ lf k = false) ∧ St (fun _ => False) W wx [rngA mb rb Value.string ev43 K lf, slc Kd.string 9 v10 T])
      case atStart => exact ⟨_, [], Nat.lt_succ_self _, by have := HC0.out; simp only [List.length_nil]; omega, List.nodup_nil, fun k => by simp, H9.out⟩
      case round =>
        clear H9
        obtain ⟨lf, T, hcm, hTl, hTn, hTk, S11⟩ := hrel
        obtain ⟨A11, c11, rfl⟩ := Kd.R_slice (S11.get 1 rfl).1
        have H11 := Lib.hid S11
        have HCM := Lib.hid (And.intro hcm (And.intro hTl (And.intro hTn hTk)))
        clear S11 hcm hTl hTn hTk
        go_wp2_with (refine wpList_next rfl _ rfl Value.string ev43 mb rb K lf rfl (H11.out.get 0 rfl) ?_ ?_)
        · intro hdone
          have hp : T.Perm (K.map (·.1)) := by
            have hKn : (K.map (·.1)).Nodup := (H11.out.get 0 rfl : Ranging wr mb rb Value.string ev43 K lf).map.nd
            refine (List.perm_ext_iff_of_nodup HCM.out.2.2.1 hKn).2 fun k => ?_
            rw [HCM.out.2.2.2]
            exact ⟨fun h => h.1, fun h => ⟨h, by obtain ⟨p, hp, rfl⟩ := List.mem_map.1 h; exact hdone p.1 p.2 hp⟩⟩
          have HP := Lib.hid hp
          have HTl := Lib.hid (show T.length ≤ 1000000 by have := HKL.out; have := HCM.out.2.1; omega)
          have H12 := Lib.hid (H11.out.drop 0)
          have HSo := Lib.hid (sortS_c Try.lays190 (.slice A11 T.length c11) T wr (H12.out.get 0 rfl) (by have := HTl.out; omega))
          clear hdone hp H11 HCM
          go_wp2_with fail
          refine HSo.out.mono ?_
          rintro e w13 ⟨rfl, T2, hp2, hs2, hS2, m2⟩
          have S13 := H12.out.upd 0 rfl m2 (a' := slc Kd.string 9 (.slice A11 T.length c11) T2) hS2 (fun k hk => .inl hk)
          have H13 := Lib.hid (And.intro S13 (And.intro (hp2.trans HP.out) hs2))
          clear S13 hp2 hs2 hS2 m2 H12 HSo
          go_wp2_with fail
          go_ret
          exact ⟨_, T2, rfl, by rw [HK0.out]; exact H13.out.2.1, H13.out.2.2, H13.out.1⟩
        · intro qk qv w8 hq hlq hR8 mR8 hen
          have S12 := H11.out.next 0 rfl hR8 mR8
          have hcl := cntL_lt (p := (qk, qv)) hq hlq
          have HQ := Lib.hid (And.intro hq (And.intro hlq hcl))
          have H12 := Lib.hid S12
          clear S12 hR8 mR8 hlq hq hcl H11
          go_wp2_with (at_builtin; go_loud (refine St.wp1 flS rfl _ _ 32 9 (.string ⟨#[]⟩) 16 rfl Try.underlying32 info9 rfl (by decide) (by decide) H12.out 1 rfl qk #[.string qk] rfl rfl rfl (by have := HKL.out; have := HCM.out.2.1; omega) ?_))
          intro T2 A13 c13 w13 h13
          have HT := Lib.hid h13.out.1
          have H13 := Lib.hid h13.out.2
          clear h13 H12
          go_wp2_with fail
          go_roundg (cntL K lf)
          case measure => exact HCM.out.1
          case rel =>
            obtain ⟨hq, hlq, hcl⟩ := HQ.out
            obtain ⟨hcm, hTl, hTn, hTk⟩ := HCM.out
            refine ⟨fun k => lf k && !decide (k = qk), T2, hcl, ?_, ?_, fun k => ?_, H13.out⟩
            · rw [HT.out, List.length_append]
              simp only [List.length_cons, List.length_nil]
              omega
            · rw [HT.out, List.nodup_append]
              refine ⟨hTn, by simp, fun a ha b hb => ?_⟩
              rw [List.mem_singleton.1 hb]
              intro e
              have := ((hTk a).1 ha).2
              rw [e, hlq] at this
              cases this
            · rw [HT.out, List.mem_append, List.mem_singleton, hTk]
              by_cases hk : k = qk
              · subst hk
                simp only [or_true, true_iff]
                exact ⟨List.mem_map.2 ⟨_, hq, rfl⟩, by simp⟩
              · simp [hk]
end Go.Proofs.Ytepceielndmjgaa
