import Derived.Test.YthkaahpaechljaaVM
namespace Go.Proofs.Ythkaahpaechljaa
open Go.RowKit Go.Tat Go.Proofs.YthkaahpaechljaaW.PrintWords PWheelPlays
/-- The map says what the wheel has. -/
structure DueI (D : List (Int × Int)) (m : List S56) : Prop where
  iff : ∀ id t, mget D id = some t ↔ (⟨id, t⟩ : S56) ∈ m
  ids : (m.map S56.f0).Nodup
theorem DueI.nil : DueI [] [] := ⟨fun id t => by rw [mget_nil]; simp, by simp⟩
theorem DueI.add {D : List (Int × Int)} {m : List S56} (h : DueI D m) (x y : Int) : DueI (mput D x y) (addM m x y) := by
  refine ⟨fun id t => ?_, ?_⟩
  · rw [mget_mput]
    unfold addM
    rw [List.mem_append, List.mem_filter, List.mem_singleton, notId_iff, ← h.iff]
    by_cases e : id = x
    · subst e
      rw [if_pos rfl]
      constructor
      · intro h; injection h with h; subst h; exact .inr rfl
      · rintro (⟨_, h⟩ | h)
        · exact absurd rfl h
        · injection h with _ h; rw [h]
    · rw [if_neg e]
      constructor
      · exact fun h => .inl ⟨h, e⟩
      · rintro (⟨h, _⟩ | h)
        · exact h
        · injection h with h _; exact absurd h e
  · unfold addM
    rw [List.map_append, List.nodup_append]
    refine ⟨(List.filter_sublist.map _).nodup h.ids, by simp, fun a ha b hb => ?_⟩
    obtain ⟨t, ht, rfl⟩ := List.mem_map.1 ha
    simp only [List.map_cons, List.map_nil, List.mem_singleton] at hb
    subst hb
    exact (notId_iff _ t).1 (List.mem_filter.1 ht).2
theorem DueI.len {D : List (Int × Int)} {m : List S56} (h : DueI D m) (hn : (D.map (·.1)).Nodup) : D.length = m.length := by
  have n1 : D.Nodup := List.Pairwise.imp (fun h e => h (congrArg Prod.fst e)) (List.pairwise_map.1 hn)
  have n2 : (m.map fun t => (t.f0, t.f1)).Nodup := List.pairwise_map.2 (List.Pairwise.imp (fun h e => h (congrArg Prod.fst e)) (List.pairwise_map.1 h.ids))
  have p : D.Perm (m.map fun t => (t.f0, t.f1)) := by
    rw [List.perm_ext_iff_of_nodup n1 n2]
    rintro ⟨id, t⟩
    rw [← mget_iff hn, h.iff, List.mem_map]
    constructor
    · exact fun h => ⟨_, h, rfl⟩
    · rintro ⟨⟨i, d⟩, ht, e⟩
      injection e with e1 e2
      subst e1 e2
      exact ht
  rw [p.length_eq, List.length_map]
theorem DueI.look {D : List (Int × Int)} {m ys : List S56} {now : Int} (h : DueI D m) (p : ys.Perm (m.filter (dueB now))) {k : Nat} {x : S56} (hk : ys[k]? = some x) : mget D x.f0 = some x.f1 ∧ x.f1 ≤ now := by
  have h1 := List.mem_filter.1 (p.mem_iff.1 (List.mem_of_getElem? hk))
  refine ⟨(h.iff _ _).2 h1.1, ?_⟩
  have := h1.2
  unfold dueB at this
  simpa using this
theorem sorted_prev {ys : List S56} (s : Sorted56 ys) {k : Nat} {x y : S56} (hx : ys[k]? = some x) (hy : ys[k + 1]? = some y) : x.f1 ≤ y.f1 := by
  obtain ⟨h1, rfl⟩ := List.getElem?_eq_some_iff.1 hx
  obtain ⟨h2, rfl⟩ := List.getElem?_eq_some_iff.1 hy
  have := List.pairwise_iff_getElem.1 s k (k + 1) h1 h2 (by omega)
  omega
theorem mget_foldl : ∀ (l : List Int) (D : List (Int × Int)), (D.map (·.1)).Nodup → ∀ id, mget (l.foldl mdel D) id = if id ∈ l then none else mget D id
  | [], D, h, id => by simp
  | x :: l, D, h, id => by
    rw [List.foldl_cons, mget_foldl l _ (mdel_nodup h), mget_mdel h]
    by_cases h1 : id ∈ l
    · simp [h1]
    · by_cases h2 : id = x <;> simp [h1, h2]
theorem DueI.after {D : List (Int × Int)} {m ys : List S56} {now : Int} (h : DueI D m) (hn : (D.map (·.1)).Nodup) (p : ys.Perm (m.filter (dueB now))) : DueI ((ys.map S56.f0).foldl mdel D) (m.filter fun t => !dueB now t) := by
  refine ⟨fun id t => ?_, (List.filter_sublist.map _).nodup h.ids⟩
  rw [mget_foldl _ _ hn, List.mem_filter]
  have hm : id ∈ ys.map S56.f0 ↔ ∃ x ∈ m, x.f0 = id ∧ x.f1 ≤ now := by
    rw [List.mem_map]
    constructor
    · rintro ⟨x, hx, e⟩
      have h1 := List.mem_filter.1 (p.mem_iff.1 hx)
      have h2 := h1.2
      unfold dueB at h2
      exact ⟨x, h1.1, e, by simpa using h2⟩
    · rintro ⟨x, hx, e, hl⟩
      exact ⟨x, p.mem_iff.2 (List.mem_filter.2 ⟨hx, by unfold dueB; simpa using hl⟩), e⟩
  have hd : ((!dueB now (⟨id, t⟩ : S56)) = true) ↔ ¬ t ≤ now := by unfold dueB; simp
  rw [hd]
  by_cases hid : id ∈ ys.map S56.f0
  · rw [if_pos hid]
    constructor
    · intro e; exact absurd e (by simp)
    · rintro ⟨h1, h2⟩
      obtain ⟨x, hx, e, hl⟩ := hm.1 hid
      have := one_id h.ids hx h1 e
      rw [this] at hl
      exact absurd hl h2
  · rw [if_neg hid, h.iff]
    constructor
    · exact fun h1 => ⟨h1, fun hl => hid (hm.2 ⟨_, h1, rfl, hl⟩)⟩
    · exact fun h1 => h1.1
theorem DueI.young {D : List (Int × Int)} {m : List S56} {now : Int} (h : DueI D (m.filter fun t => !dueB now t)) (hn : (D.map (·.1)).Nodup) {q : Int × Int} (hq : q ∈ D) : ¬ q.2 ≤ now := by
  have h1 := (List.mem_filter.1 ((h.iff q.1 q.2).1 (mget_mem hn hq))).2
  unfold dueB at h1
  simpa using h1
set_option maxRecDepth 100000 in
set_option maxHeartbeats 8000000 in
theorem once_c (ids ts asked : List Int) (A0 A1 A2 : Option Addr) (cap0 cap1 cap2 : Nat) (W : World) (hC0 : (Kd.int .i64).C W A0 ids.length ids) (hC1 : (Kd.int .u64).C W A1 ts.length ts) (hC2 : (Kd.int .u64).C W A2 asked.length asked) (hc0 : ids.length ≤ cap0) (hc1 : ts.length ≤ cap1) (hc2 : asked.length ≤ cap2) (hg1 : ∀ x ∈ ts, g28 x) (hg2 : ∀ x ∈ asked, g28 x) :
    Calls Try.prog 3 #[.slice A0 ids.length cap0, .slice A1 ts.length cap1, .slice A2 asked.length cap2] W fun e w' => e = .returned (.bool true) ∧ Below W.heap.size W w' := by
  have HC := Lib.hid (And.intro hC0 (And.intro hC1 (And.intro hg1 (And.intro hC2 hg2))))
  have h0 := Lib.hid (St.nil (fun _ => False) W)
  clear hC0 hC1 hC2 hc0 hc1 hc2 hg1 hg2
  go_enter Try.func3, Try.ntmps3
  go_wp2_with fail
  refine (new_st h0.out).mono ?_
  rintro e w1 ⟨g, S1, rfl, H1⟩
  have H1 := Lib.hid (show St (fun _ => False) W w1 [wO g S1 []] from H1)
  clear h0
  go_upto_region 3 with (refine wpList_makeMap rfl 26 rfl (Value.int .i64) (Value.int .u64) ?_; intro hM)
  have S2 := H1.out.add (a := mapA w1.heap.size (Value.int .i64) (Value.int .u64) ([] : List (Int × Int))) ((Below.refl _ _).alloc (Nat.le_refl _) _) hM (fun k h => Nat.le_of_eq h.symm)
  have H2 := Lib.hid (show St (fun _ => False) W _ [wO g S1 [], mapA w1.heap.size (Value.int .i64) (Value.int .u64) []] from S2)
  clear S2 hM H1
  generalize w1.heap.size = mb at *
  generalize w1.alloc _ = w2 at *
  go_upto_block 0 with fail
  go_cut [] (fun wx => ∃ (m : List S56) (D : List (Int × Int)) (S : Nat → Prop), m.length ≤ 1000 ∧ DueI D m ∧ St (fun _ => False) W wx [wO g S m, mapA mb (Value.int .i64) (Value.int .u64) D])
  case first =>
    go_wp2_with fail
    go_loopg [26] (ids.length + 1) (fun n v26 wx => ∃ (j : Nat) (m : List S56) (D : List (Int × Int)) (S : Nat → Prop), v26 = .int .i64 j ∧ j ≤ ids.length ∧ ids.length - j < n ∧ j ≤ 101 ∧ m.length ≤ j ∧ DueI D m ∧ St (fun _ => False) W wx [wO g S m, mapA mb (Value.int .i64) (Value.int .u64) D])
    case atStart => exact ⟨0, [], [], _, rfl, by omega, by omega, by omega, by simp, DueI.nil, H2.out⟩
    case round =>
      clear H2
      obtain ⟨j, m, D, S, rfl, hj, hjm, hj1, hml, hD, S3⟩ := hrel
      have HD := Lib.hid hD
      clear hD
      by_cases hjl : j < ids.length
      · have hjl' : (j : Int) < (ids.length : Int) := by omega
        have hj0 : (0 : Int) ≤ (j : Int) := by omega
        obtain ⟨x, hx⟩ : ∃ x, ids[j]? = some x := ⟨_, List.getElem?_eq_getElem hjl⟩
        obtain ⟨ad, b, o, cs, rfl, had, hb, hK, hcs⟩ := C_at HC.out.1 hx (by decide)
        have hK' : cs = [.int .i64 x] := (flInt .i64).K.1 hK
        subst hK'
        have c0 := (S3.base.cell (p := ⟨b, o, none⟩) hb).trans (hcs 0 _ rfl)
        have had' : ad.add j = ⟨b, o, none⟩ := by rw [show j * (Kd.int .i64).sz = j from Nat.mul_one j] at had; exact had
        by_cases hbr : (100 : Int) < (j : Int) ∨ (ts.length : Int) ≤ (j : Int)
        · have HE := Lib.hid (show ∃ (m : List S56) (D : List (Int × Int)) (S : Nat → Prop), m.length ≤ 1000 ∧ DueI D m ∧ St (fun _ => False) W wr [wO g S m, mapA mb (Value.int .i64) (Value.int .u64) D] from ⟨m, D, S, by omega, HD.out, S3⟩)
          clear S3 hK hcs had
          by_cases hb1 : (100 : Int) < (j : Int)
          · clear hbr
            go_wp2_with fail
            go_meet
            exact HE.out
          · have hb2 : (ts.length : Int) ≤ (j : Int) := hbr.resolve_left hb1
            clear hbr
            go_wp2_with fail
            go_meet
            exact HE.out
        · have hb1 : ¬ (100 : Int) < (j : Int) := fun h => hbr (.inl h)
          have hb2 : ¬ (ts.length : Int) ≤ (j : Int) := fun h => hbr (.inr h)
          have hb3 : (j : Int) < (ts.length : Int) := by omega
          clear hbr
          obtain ⟨y, hy⟩ : ∃ y, ts[j]? = some y := ⟨_, List.getElem?_eq_getElem (by omega)⟩
          have hyr := u64_wf (HC.out.2.2.1 y (List.mem_of_getElem? hy))
          obtain ⟨ad2, b2, o2, cs2, rfl, had2, hbb2, hK2, hcs2⟩ := C_at HC.out.2.1 hy (by decide)
          have hK2' : cs2 = [.int .u64 y] := (flInt .u64).K.1 hK2
          subst hK2'
          have t0 := (S3.base.cell (p := ⟨b2, o2, none⟩) hbb2).trans (hcs2 0 _ rfl)
          have had2' : ad2.add j = ⟨b2, o2, none⟩ := by rw [show j * (Kd.int .u64).sz = j from Nat.mul_one j] at had2; exact had2
          have H3 := Lib.hid S3
          have HT := Lib.hid (And.intro hbb2 (hcs2 0 _ rfl))
          have HI := Lib.hid (And.intro hj (And.intro hjm (And.intro hj1 (And.intro hml hyr))))
          clear S3 hK hcs had hK2 hcs2 had2 hj hjm hyr hml hx hy hj1
          go_wp2_with fail
          refine (add_st H3.out 0 rfl x y HI.out.2.2.2.2.1 HI.out.2.2.2.2.2 (by have := HI.out; omega)).mono ?_
          rintro e w4 ⟨rfl, S3, S4⟩
          have S4' : St (fun _ => False) W w4 [wO g S3 (addM m x y), mapA mb (Value.int .i64) (Value.int .u64) D] := S4
          have t1 := (S4'.base.cell (p := ⟨b2, o2, none⟩) HT.out.1).trans HT.out.2
          have H4 := Lib.hid S4'
          clear S4 S4' H3 t0 c0
          go_wp2_with (at_mapUpdate; refine wpList_mapUpdate rfl 26 3 28 _ _ _ rfl Try.underlying26 keys3 (Value.int .u64) mb D (H4.out.get 1 rfl) x y rfl rfl rfl ?_; intro w5 M5 m5)
          have H5 := Lib.hid (show St (fun _ => False) W w5 [wO g S3 (addM m x y), mapA mb (Value.int .i64) (Value.int .u64) (mput D x y)] from H4.out.upd 1 rfl m5 M5 (fun k h => .inl h))
          clear M5 m5 H4 t1
          go_roundg (ids.length - j)
          case measure => have := HI.out; omega
          case rel =>
            have := HI.out
            have := addM_len m x y
            exact ⟨j + 1, addM m x y, mput D x y, S3, by go_num, by omega, by omega, by omega, by omega, HD.out.add x y, H5.out⟩
      · have hje : j = ids.length := by omega
        have hjl' : ¬ ((j : Int) < (ids.length : Int)) := by omega
        have HE := Lib.hid (show ∃ (m : List S56) (D : List (Int × Int)) (S : Nat → Prop), m.length ≤ 1000 ∧ DueI D m ∧ St (fun _ => False) W wr [wO g S m, mapA mb (Value.int .i64) (Value.int .u64) D] from ⟨m, D, S, by omega, HD.out, S3⟩)
        clear S3
        go_wp2_with fail
        go_meet
        exact HE.out
  case rest =>
    clear H2
    obtain ⟨m, D, S', hml, hD, S3⟩ := hcut
    have HD := Lib.hid (And.intro hml hD)
    have H3 := Lib.hid S3
    clear S3 hml hD
    go_upto_block 2 with fail
    go_cut [] (fun wx => ∃ (m : List S56) (D : List (Int × Int)) (S : Nat → Prop), m.length ≤ 1000 ∧ DueI D m ∧ St (fun _ => False) W wx [wO g S m, mapA mb (Value.int .i64) (Value.int .u64) D])
    case first =>
      go_wp2_with fail
      go_loopg [55] (asked.length + 1) (fun n v55 wx => ∃ (j : Nat) (m : List S56) (D : List (Int × Int)) (S : Nat → Prop), v55 = .int .i64 j ∧ j ≤ asked.length ∧ asked.length - j < n ∧ m.length ≤ 1000 ∧ DueI D m ∧ St (fun _ => False) W wx [wO g S m, mapA mb (Value.int .i64) (Value.int .u64) D])
      case atStart => exact ⟨0, m, D, S', rfl, by omega, by omega, HD.out.1, HD.out.2, H3.out⟩
      case round =>
        clear H3 HD
        obtain ⟨j, m, D, S, rfl, hj, hjm, hml, hD, S3⟩ := hrel
        have HD := Lib.hid (And.intro hml hD)
        clear hD hml
        by_cases hjl : j < asked.length
        · have hjl' : (j : Int) < (asked.length : Int) := by omega
          have hj0 : (0 : Int) ≤ (j : Int) := by omega
          obtain ⟨x, hx⟩ : ∃ x, asked[j]? = some x := ⟨_, List.getElem?_eq_getElem hjl⟩
          have hxr := u64_wf (HC.out.2.2.2.2 x (List.mem_of_getElem? hx))
          obtain ⟨ad, b, o, cs, rfl, had, hb, hK, hcs⟩ := C_at HC.out.2.2.2.1 hx (by decide)
          have hK' : cs = [.int .u64 x] := (flInt .u64).K.1 hK
          subst hK'
          have c0 := (S3.base.cell (p := ⟨b, o, none⟩) hb).trans (hcs 0 _ rfl)
          have had' : ad.add j = ⟨b, o, none⟩ := by rw [show j * (Kd.int .u64).sz = j from Nat.mul_one j] at had; exact had
          by_cases hb1 : (50 : Int) < (j : Int)
          · have H3 := Lib.hid S3
            clear S3 hK hcs had
            go_wp2_with fail
            go_meet
            exact ⟨m, D, S, HD.out.1, HD.out.2, H3.out⟩
          · have H3 := Lib.hid S3
            have HI := Lib.hid (And.intro hj (And.intro hjm hxr))
            clear S3 hK hcs had hj hjm hxr hx
            go_wp2_with fail
            refine (due_st H3.out 0 rfl x (by have := HD.out.1; omega)).mono ?_
            rintro e w4 ⟨v4, ys, S4, rfl, p1, s1, S5⟩
            obtain ⟨l, hl⟩ : ∃ l, ys.map S56.f0 = l := ⟨_, rfl⟩
            rw [hl] at S5
            obtain ⟨m1, hm1⟩ : ∃ m1, (m.filter fun tt => !dueB x tt) = m1 := ⟨_, rfl⟩
            rw [hm1] at S5
            have hll : l.length = ys.length := by rw [← hl, List.length_map]
            have hlm : l.length ≤ 1000 := by rw [hll, p1.length_eq]; exact Nat.le_trans (List.length_filter_le _ _) HD.out.1
            have hm1l : m1.length ≤ 1000 := by rw [← hm1]; exact Nat.le_trans (List.length_filter_le _ _) HD.out.1
            obtain ⟨A4, c4, rfl⟩ := Kd.R_slice (S5.get 2 rfl).1
            have H5 := Lib.hid (show St (fun _ => False) W w4 [wO g S4 m1, mapA mb (Value.int .i64) (Value.int .u64) D, slc (Kd.int .i64) 3 (.slice A4 l.length c4) l] from S5)
            have hnd : (D.map (·.1)).Nodup := (show MapAt w4 mb (Value.int .i64) (Value.int .u64) D from S5.get 1 rfl).nd
            have HP := Lib.hid (And.intro p1 (And.intro s1 (And.intro hl (And.intro hll (And.intro hnd hm1)))))
            have HL := Lib.hid (And.intro hlm hm1l)
            clear S5 p1 s1 hl hll hlm hm1l hm1 hnd H3 c0
            go_wp2_with fail
            go_loopg [67] (l.length + 1) (fun n v67 wx => ∃ q : Nat, v67 = .int .i64 q ∧ q ≤ l.length ∧ l.length - q < n ∧ St (fun _ => False) W wx [wO g S4 m1, mapA mb (Value.int .i64) (Value.int .u64) D, slc (Kd.int .i64) 3 (.slice A4 l.length c4) l])
            case atStart => exact ⟨0, rfl, by omega, by omega, H5.out⟩
            case round =>
              clear H5
              obtain ⟨q, rfl, hq, hqm, S6⟩ := hrel
              by_cases hql : q < l.length
              · have hql' : (q : Int) < (l.length : Int) := by omega
                have hq0 : (0 : Int) ≤ (q : Int) := by omega
                have hqb : (q : Int) < 1000000 := by have := HL.out.1; omega
                obtain ⟨u, hu⟩ : ∃ u, ys[q]? = some u := ⟨_, List.getElem?_eq_getElem (by have := HP.out.2.2.2.1; omega)⟩
                obtain ⟨hu1, hu2⟩ := HD.out.2.look HP.out.1 hu
                have hlu : l[q]? = some u.f0 := by rw [← HP.out.2.2.1, List.getElem?_map, hu]; rfl
                obtain ⟨gB, cB, hv, _, _⟩ := slc_form (S6.get 2 rfl) (by omega)
                injection hv with hv1 hv3 hv2
                subst hv1; subst hv2
                clear hv3
                have cu : wr.cell? ⟨gB, q, none⟩ = some (.int .i64 u.f0) := slc_int (S6.get 2 rfl) hlu
                have hlk := ((S6.get 1 rfl : MapAt wr mb (Value.int .i64) (Value.int .u64) D).look Try.underlying26 keys3 u.f0 _ zero28 (some u.f1) hu1 (.int .u64 u.f1) rfl).2
                have hn1 : ¬ x < u.f1 := by omega
                by_cases hq1 : q = 0
                · subst hq1
                  obtain ⟨ui, ud⟩ := u
                  have H6 := Lib.hid S6
                  have HQ := Lib.hid (And.intro hq hqm)
                  dsimp only at cu hlk hn1
                  clear S6 hu hlu hu1 hu2 hq hqm
                  go_wp2_with fail
                  go_roundg (l.length - 0)
                  case measure => have := HQ.out; omega
                  case rel =>
                    have := HQ.out
                    exact ⟨1, by go_num, by omega, by omega, H6.out⟩
                · obtain ⟨p, rfl⟩ : ∃ p, q = p + 1 := ⟨q - 1, by omega⟩
                  obtain ⟨t, ht⟩ : ∃ t, ys[p]? = some t := ⟨_, List.getElem?_eq_getElem (by have := HP.out.2.2.2.1; omega)⟩
                  obtain ⟨ht1, ht2⟩ := HD.out.2.look HP.out.1 ht
                  have hlt : l[p]? = some t.f0 := by rw [← HP.out.2.2.1, List.getElem?_map, ht]; rfl
                  have ct : wr.cell? ⟨gB, p, none⟩ = some (.int .i64 t.f0) := slc_int (S6.get 2 rfl) hlt
                  have hlk2 := ((S6.get 1 rfl : MapAt wr mb (Value.int .i64) (Value.int .u64) D).look Try.underlying26 keys3 t.f0 _ zero28 (some t.f1) ht1 (.int .u64 t.f1) rfl).1
                  have hn2 : ¬ u.f1 < t.f1 := by have := sorted_prev HP.out.2.1 ht hu; omega
                  obtain ⟨ui, ud⟩ := u
                  obtain ⟨ti, td⟩ := t
                  have H6 := Lib.hid S6
                  have HQ := Lib.hid (And.intro hq hqm)
                  dsimp only at cu hlk hn1 ct hlk2 hn2
                  clear S6 hu hlu hu1 hu2 hq hqm ht hlt ht1 ht2 hq1
                  have hp0 : (0 : Int) ≤ (p : Int) := by omega
                  have hp1 : (p : Int) < 1000000 := by omega
                  have hp2 : (p : Int) < (l.length : Int) := by omega
                  have hp3 : (0 : Int) < (p : Int) + 1 := by omega
                  rw [Int.natCast_add_one] at hql' hq0 hqb ⊢
                  go_wp2_with fail
                  go_roundg (l.length - (p + 1))
                  case measure => have := HQ.out; omega
                  case rel =>
                    have := HQ.out
                    exact ⟨p + 1 + 1, by go_num, by omega, by omega, H6.out⟩
              · have hqe : q = l.length := by omega
                subst hqe
                have hql' : ¬ ((l.length : Int) < (l.length : Int)) := by omega
                have H6 := Lib.hid S6
                clear S6
                go_wp2_with fail
                go_loopg [103] (l.length + 1) (fun n v103 wx => ∃ q : Nat, v103 = .int .i64 q ∧ q ≤ l.length ∧ l.length - q < n ∧ St (fun _ => False) W wx [wO g S4 m1, mapA mb (Value.int .i64) (Value.int .u64) ((l.take q).foldl mdel D), slc (Kd.int .i64) 3 (.slice A4 l.length c4) l])
                case atStart => exact ⟨0, rfl, by omega, by omega, H6.out⟩
                case round =>
                  clear H6
                  obtain ⟨q, rfl, hq, hqm, S7⟩ := hrel
                  by_cases hql : q < l.length
                  · have hql' : (q : Int) < (l.length : Int) := by omega
                    have hq0 : (0 : Int) ≤ (q : Int) := by omega
                    have hqb : (q : Int) < 1000000 := by have := HL.out.1; omega
                    obtain ⟨u, hu⟩ : ∃ u, l[q]? = some u := ⟨_, List.getElem?_eq_getElem hql⟩
                    have htk : (l.take (q + 1)).foldl mdel D = mdel ((l.take q).foldl mdel D) u := by
                      obtain ⟨hl, he⟩ := List.getElem?_eq_some_iff.1 hu
                      rw [← List.take_append_getElem hl, List.foldl_append, he]; rfl
                    have HTK := Lib.hid htk
                    obtain ⟨gB, cB, hv, _, _⟩ := slc_form (S7.get 2 rfl) (by omega)
                    injection hv with hv1 hv3 hv2
                    subst hv1; subst hv2
                    clear hv3
                    have cu : wr.cell? ⟨gB, q, none⟩ = some (.int .i64 u) := slc_int (S7.get 2 rfl) hu
                    have H7 := Lib.hid S7
                    have HQ := Lib.hid (And.intro hq hqm)
                    clear S7 hu htk hq hqm
                    go_wp2_with (refine wpList_mapDelete rfl 26 3 28 _ _ rfl Try.underlying26 keys3 (Value.int .u64) mb _ (H7.out.get 1 rfl) u rfl rfl ?_; intro w7 M7 m7)
                    have S8 := H7.out.upd 1 rfl m7 (a' := mapA mb (Value.int .i64) (Value.int .u64) ((l.take (q + 1)).foldl mdel D)) (by rw [HTK.out]; exact M7) (fun k h => .inl h)
                    have H8 := Lib.hid S8
                    clear S8 M7 m7
                    go_roundg (l.length - q)
                    case measure => have := HQ.out; omega
                    case rel =>
                      have := HQ.out
                      exact ⟨q + 1, by go_num, by omega, by omega, H8.out⟩
                  · have hqe : q = l.length := by omega
                    subst hqe
                    have hql' : ¬ ((l.length : Int) < (l.length : Int)) := by omega
                    rw [List.take_length] at S7
                    have hDA := HD.out.2.after HP.out.2.2.2.2.1 HP.out.1
                    rw [HP.out.2.2.1, HP.out.2.2.2.2.2] at hDA
                    generalize hD1 : l.foldl mdel D = D1 at *
                    have H7 := Lib.hid (And.intro S7 hDA)
                    clear S7 hDA hD1
                    go_wp2_with (refine wpList_range rfl 26 3 28 _ rfl Try.underlying26 (Value.int .i64) (Value.int .u64) mb D1 (H7.out.1.get 1 rfl) rfl ?_; intro r w7 hr hR mR _)
                    have S8 := H7.out.1.ranged 1 rfl hr hR mR
                    have H8 := Lib.hid S8
                    clear S8 hR mR hr
                    go_loopg [] (cntL D1 (fun _ => true) + 1) (fun n wx => ∃ left : Int → Bool, cntL D1 left < n ∧ St (fun _ => False) W wx [wO g S4 m1, rngA mb r (Value.int .i64) (Value.int .u64) D1 left, slc (Kd.int .i64) 3 (.slice A4 l.length c4) l])
                    case atStart => exact ⟨_, Nat.lt_succ_self _, H8.out⟩
                    case round =>
                      clear H8
                      obtain ⟨left, hcm, S9⟩ := hrel
                      have H9 := Lib.hid S9
                      have HCM := Lib.hid hcm
                      clear S9 hcm
                      go_wp2_with (refine wpList_next rfl _ rfl (Value.int .i64) (Value.int .u64) mb r D1 left rfl (H9.out.get 1 rfl) ?_ ?_)
                      · intro hdone
                        clear hdone
                        have H10 := Lib.hid ((H9.out.unranged 1 rfl).drop 2)
                        go_wp2_with fail
                        go_roundg (asked.length - j)
                        case measure => have := HI.out; omega
                        case rel =>
                          have := HI.out
                          exact ⟨j + 1, m1, D1, S4, by go_num, by omega, by omega, HL.out.2, H7.out.2, H10.out⟩
                      · intro qk qv w8 hq hlq hR8 mR8 hen
                        have S10 := H9.out.next 1 rfl hR8 mR8
                        have hyg : ¬ qv ≤ x := by
                          have hd2 := H7.out.2
                          rw [← HP.out.2.2.2.2.2] at hd2
                          exact hd2.young (show MapAt _ mb (Value.int .i64) (Value.int .u64) D1 from H7.out.1.get 1 rfl).nd hq
                        have hcl := cntL_lt (p := (qk, qv)) hq hlq
                        have H10 := Lib.hid (And.intro S10 hcl)
                        clear S10 hR8 mR8 hlq hq hcl H9
                        go_wp2_with fail
                        go_roundg (cntL D1 left)
                        case measure => exact HCM.out
                        case rel => exact ⟨_, H10.out.2, H10.out.1⟩
        · have hje : j = asked.length := by omega
          have hjl' : ¬ ((j : Int) < (asked.length : Int)) := by omega
          have H3 := Lib.hid S3
          clear S3
          go_wp2_with fail
          go_meet
          exact ⟨m, D, S, HD.out.1, HD.out.2, H3.out⟩
    case rest =>
      clear H3 HD
      obtain ⟨m, D, S', hml, hD, S3⟩ := hcut
      have hlen := hD.len (show MapAt _ mb (Value.int .i64) (Value.int .u64) D from S3.get 1 rfl).nd
      have HL := Lib.hid hlen
      have H3 := Lib.hid S3
      clear S3 hml hD hlen
      go_wp2_with fail
      refine (fixed_c _).mono ?_
      rintro e w13 ⟨rfl, b13⟩
      have H13 := Lib.hid (H3.out.below b13)
      clear b13 H3
      go_wp2_with fail
      refine (len_c H13.out 0 rfl).mono ?_
      rintro e w15 ⟨rfl, rfl⟩
      have hl := MapAt.run_len (P := Try.prog) (r := 3) Try.underlying26 (H13.out.get 1 rfl : MapAt _ mb (Value.int .i64) (Value.int .u64) D)
      rw [HL.out] at hl
      go_wp2_with fail
      go_ret
      exact ⟨by simp, H13.out.base⟩
end Go.Proofs.Ythkaahpaechljaa
