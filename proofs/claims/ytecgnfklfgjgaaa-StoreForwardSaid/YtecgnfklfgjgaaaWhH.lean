/- wheel: Due -/
import Derived.Test.YtecgnfklfgjgaaaWhF
set_option linter.unusedVariables false
set_option linter.unusedSimpArgs false
namespace Go.Proofs.Ytecgnfklfgjgaaa
open Go.RowKit Go.Tat Go.Proofs.YtecgnfklfgjgaaaW.PrintWords PStorePeeks
theorem size96 : (Try.prog.info? 96).map (·.size) = some 1 := by kernel_rfl
theorem index_run {V : List Value} {j : Nat} {v : Value} (hv : V[j]? = some v) (hj : j < 64) (w : World) : (Instr.index 97 (.agg V.toArray) (.int .i64 (j : Int))).run Try.prog w = .ok v w := by
  have h1 : (0 : Int) ≤ (j : Int) ∧ (j : Int) < (64 : Nat) := by omega
  obtain ⟨i, hi, hs⟩ := Option.map_eq_some_iff.1 size96
  have hv' : V.toArray[j]? = some v := by simpa using hv
  unfold Instr.index
  simp only [asIntOf, Sem.run_bind, Sem.run_pure, Result.andThen_ok, run_underlying Try.underlying97 w, run_underlying Try.underlying96 w]
  rw [if_pos h1]
  simp only [part, isAgg, sizeOf, typeInfo, Sem.run_bind, Sem.run_pure, Result.andThen_ok, run_underlying Try.underlying96 w, run_program, hi, hs]
  simp [hv']
theorem set_tail {α : Type} (L : List α) (a x : α) : (L ++ [a]).set L.length x = L ++ [x] := by simp
theorem mid_at {α : Type} (L : List α) (a : α) (M : List α) : (L ++ [a] ++ M)[L.length]? = some a := by simp
theorem two_mid {α : Type} (L : List α) (a b : α) : L ++ [a, b] = L ++ [a] ++ [b] := by simp
theorem set_mid {α : Type} (L : List α) (a x : α) (M : List α) : (L ++ [a] ++ M).set L.length x = L ++ [x] ++ M := by simp
def dueB (now : Int) (t : S114) : Bool := decide (t.f1 ≤ now)
def readD (B : List (List S114)) (now : Int) (j : Nat) : List S114 := (B.take j).flatten.filter (dueB now)
theorem readD_succ {B : List (List S114)} {now : Int} {j : Nat} {xs : List S114} (h : B[j]? = some xs) : readD B now (j + 1) = readD B now j ++ xs.filter (dueB now) := by
  unfold readD
  rw [List.take_add_one, h, List.flatten_append, List.filter_append]
  simp
theorem filter_take_succ {p : S114 → Bool} {xs : List S114} {q : Nat} {x : S114} (h : xs[q]? = some x) : (xs.take (q + 1)).filter p = (xs.take q).filter p ++ (if p x = true then [x] else []) := by
  rw [List.take_add_one, h, List.filter_append]
  by_cases e : p x = true <;> simp [e]
theorem readD_len (B : List (List S114)) (now : Int) (j : Nat) : (readD B now j).length ≤ B.flatten.length := by
  unfold readD
  refine Nat.le_trans (List.length_filter_le _ _) ?_
  conv => rhs; rw [← List.take_append_drop j B, List.flatten_append, List.length_append]
  omega
theorem info3 : (Try.prog.info? 3).map (fun i => (i.zero, i.size, i.bytes)) = some (some (.int .i64 0), 1, 8) := by kernel_rfl
def restM (m ys : List S114) : List S114 := ys.foldl (fun m t => m.filter (notId t.f0)) m
theorem restM_is : ∀ (ys m : List S114), restM m ys = m.filter fun t => ys.all fun u => notId u.f0 t
  | [], m => by
    show m = _
    rw [List.filter_eq_self.2]
    intro t _; rfl
  | y :: ys, m => by
    show restM (m.filter (notId y.f0)) ys = _
    rw [restM_is ys, List.filter_filter]
    congr 1
    funext t
    rw [List.all_cons, Bool.and_comm]
theorem restM_succ {ys m : List S114} {j : Nat} {x : S114} (h : ys[j]? = some x) : restM m (ys.take (j + 1)) = (restM m (ys.take j)).filter (notId x.f0) := by
  unfold restM
  rw [List.take_add_one, h, List.foldl_append]
  rfl
theorem restM_due {m ys : List S114} {now : Int} (hn : (m.map S114.f0).Nodup) (hp : ys.Perm (m.filter (dueB now))) : restM m ys = m.filter fun t => !dueB now t := by
  rw [restM_is]
  refine List.filter_congr fun t ht => ?_
  rw [Bool.eq_iff_iff, List.all_eq_true]
  constructor
  · intro h
    cases e : dueB now t with
    | false => rfl
    | true =>
      have h1 : t ∈ ys := hp.mem_iff.2 (List.mem_filter.2 ⟨ht, e⟩)
      exact absurd rfl ((notId_iff _ _).1 (h t h1))
  · intro h u hu
    rw [notId_iff]
    intro e
    obtain ⟨h1, h2⟩ := List.mem_filter.1 (hp.mem_iff.1 hu)
    rw [one_id hn ht h1 e] at h
    rw [h2] at h
    exact absurd h (by decide)
theorem restM_le (m ys : List S114) : (restM m ys).length ≤ m.length := by rw [restM_is]; exact List.length_filter_le _ _
def wduePost (F : Nat → Prop) (w0 : World) (A : List Asr) (i g : Nat) (m : List S114) (now : Int) (e : Ending) (w' : World) : Prop :=
  ∃ v ys S', e = .returned v ∧ ys.Perm (m.filter (dueB now)) ∧ Sorted114 ys ∧ St F w0 w' (A.set i (wO g S' (m.filter fun t => !dueB now t)) ++ [slc (Kd.int .i64) 3 v (ys.map S114.f0)])
set_option maxRecDepth 100000 in
set_option maxHeartbeats 4000000 in
theorem wdue_st {F : Nat → Prop} {w0 w : World} {A : List Asr} (h : St F w0 w A) (i : Nat) {g : Nat} {S : Nat → Prop} {m : List S114} (hi : A[i]? = some (wO g S m)) (now : Int) (hml : m.length ≤ 1000000) :
    Calls Try.prog 38 #[.pointer (some ⟨g, 0, none⟩), .int .u64 now] w (wduePost F w0 A i g m now) := by
  obtain ⟨⟨mb, V, M, B⟩, S2⟩ := Asr.ex_open (h.get i hi)
  have HO := Lib.hid (And.intro h hi)
  have HV := Lib.hid (show V.length = 64 ∧ WInv M B m from S2.get 2 rfl)
  have hbk : (blk g (V ++ [Value.map (some mb)]).toArray 99).holds w := S2.get 0 rfl
  have hcl : ∀ (j : Nat) v, V[j]? = some v → w.cell? ⟨g, 0 + j, none⟩ = some v := fun j v hv => by rw [Nat.zero_add]; exact wbucket hbk hv
  have HCL := Lib.hid hcl
  have H2 := Lib.hid (S2.nils k114 114)
  have hVl : (Try.prog.info? 97).map (·.size) = some V.length := by rw [HV.out.1]; kernel_rfl
  have HVL := Lib.hid hVl
  clear h hi S2 hbk hcl hVl
  go_enter Try.func38, Try.ntmps38
  go_wp2_with (refine wpList_load_at rfl 97 _ rfl g 0 (.array 64 96) V rfl HCL.out Try.underlying97 rfl HVL.out ?_)
  go_loopg [5, 19] 65 (fun n v5 v19 wx => ∃ j : Nat, v19 = .int .i64 j ∧ j ≤ 64 ∧ 64 - j < n ∧ St S w wx (wL g m ⟨mb, V, M, B⟩ ++ [slc k114 114 v5 (readD B now j)]))
  case atStart => exact ⟨0, rfl, by omega, by omega, by simpa [readD] using H2.out⟩
  case round =>
    clear H2
    obtain ⟨j, rfl, hj, hjm, S3⟩ := hrel
    by_cases hjl : j < 64
    · have hjl' : (j : Int) < 64 := by omega
      have hj0 : (0 : Int) ≤ (j : Int) := by omega
      obtain ⟨v, hv⟩ : ∃ v, V[j]? = some v := ⟨_, List.getElem?_eq_getElem (by rw [HV.out.1]; exact hjl)⟩
      obtain ⟨xs, hxs⟩ : ∃ xs, B[j]? = some xs := ⟨_, List.getElem?_eq_getElem (by rw [HV.out.2.len]; exact hjl)⟩
      have hz := zipA_get hv hxs
      have hxl := HV.out.2.xlen hxs
      have hget : ∀ X, (wL g m ⟨mb, V, M, B⟩ ++ X)[j + 3]? = some (slc k114 114 v xs) := fun X => by
        show (zipA V B ++ _)[j]? = _
        rw [List.getElem?_append_left (List.getElem?_eq_some_iff.1 hz).1]; exact hz
      have hav : ∃ Av cv, v = .slice Av xs.length cv := by
        obtain ⟨Av, cv, rfl⟩ := Kd.R_slice (S3.get _ (hget _)).1
        exact ⟨Av, cv, rfl⟩
      obtain ⟨Av, cv, rfl⟩ := hav
      have hix := index_run hv hjl
      have hrs := Lib.hid (readD_succ (now := now) hxs)
      have hdl := readD_len B now j
      rw [HV.out.2.perm.length_eq] at hdl
      obtain ⟨D, hD⟩ : ∃ D, readD B now j = D := ⟨_, rfl⟩
      rw [hD] at S3 hdl
      have HD := Lib.hid hD
      have H3 := Lib.hid S3
      have HI := Lib.hid (And.intro hj (And.intro hjm (And.intro hdl hml)))
      have HG := Lib.hid hget
      have HXL := Lib.hid hxl
      clear S3 hD hv hxs hz hget hxl hj hjm hdl
      go_wp2_with fail
      clear hix
      go_loopg [5, 24] (xs.length + 1) (fun n v5 v24 wx => ∃ q : Nat, v24 = .int .i64 q ∧ q ≤ xs.length ∧ xs.length - q < n ∧ St S w wx (wL g m ⟨mb, V, M, B⟩ ++ [slc k114 114 v5 (D ++ (xs.take q).filter (dueB now))]))
      case atStart => exact ⟨0, rfl, by omega, by omega, by simpa using H3.out⟩
      case round =>
        clear H3
        obtain ⟨q, rfl, hq, hqm, S4⟩ := hrel
        by_cases hql : q < xs.length
        · have hql' : (q : Int) < (xs.length : Int) := by omega
          have hq0 : (0 : Int) ≤ (q : Int) := by omega
          obtain ⟨x, hx⟩ : ∃ x, xs[q]? = some x := ⟨_, List.getElem?_eq_getElem hql⟩
          have hfs := Lib.hid (filter_take_succ (p := dueB now) hx)
          obtain ⟨E, hE⟩ : ∃ E, D ++ (xs.take q).filter (dueB now) = E := ⟨_, rfl⟩
          have hEl : E.length ≤ D.length + q := by
            rw [← hE, List.length_append]
            have h1 := List.length_filter_le (dueB now) (xs.take q)
            have h2 := List.length_take_le q xs
            omega
          rw [hE] at S4
          obtain ⟨A5, c5, h5⟩ := Kd.R_slice (S4.get _ (tail_at _ _)).1
          subst h5
          have HE := Lib.hid hE
          obtain ⟨gB, cB', hv, _, hcB⟩ := slc_form (S4.get _ (HG.out _)) (by omega)
          injection hv with hv1 hvl hv2
          subst hv1; subst hv2
          have u0 : wr.cell? ⟨gB, q * 2, none⟩ = some (.int .i64 x.f0) := (S4.elem fl114 (j + 3) (HG.out _) (i := q) (c := 0) hx (by decide)).1
          have u1 : wr.cell? ⟨gB, q * 2 + 1, none⟩ = some (.int .u64 x.f1) := (S4.elem fl114 (j + 3) (HG.out _) (i := q) (c := 1) hx (by decide)).1
          obtain ⟨xi, xd⟩ := x
          have H4 := Lib.hid S4
          have HQ := Lib.hid (And.intro hq (And.intro hqm hEl))
          clear S4 hE hq hqm hEl hx hvl hcB
          dsimp only at u0 u1
          go_upto_region 10 with fail
          have S5 := H4.out.new' #[.int .i64 xi, .int .u64 xd] 114 wr.heap.size rfl
          obtain ⟨z, hz⟩ : ∃ z, wr.heap.size = z := ⟨_, rfl⟩
          rw [hz] at S5 ⊢
          clear hz
          generalize World.alloc wr _ = w5 at *
          have d0 : w5.cell? ⟨z, 0, none⟩ = some (.int .i64 xi) := blk_cell (S5.get _ (tail_at _ _)) 0
          have d1 : w5.cell? ⟨z, 1, none⟩ = some (.int .u64 xd) := blk_cell (S5.get _ (tail_at _ _)) 1
          have H5 := Lib.hid S5
          clear S5 H4 u0 u1
          have hqb : (q : Int) < 1000000 := by have := HXL.out; omega
          by_cases hle : xd ≤ now
          · have hb := Lib.hid (show dueB now ⟨xi, xd⟩ = true from decide_eq_true hle)
            have hcap := Lib.hid (show (E.length + 1) * 16 ≤ 140737488355328 by have := HQ.out; have := HI.out; have := HXL.out; omega)
            go_wp2_with (at_builtin; go_loud (refine St.wp1 fl114 rfl _ _ 96 114 (.agg #[.int .i64 0, .int .u64 0]) 16 rfl Try.underlying96 info114 rfl (by decide) (by decide) H5.out _ (mid_at _ _ _) ⟨xi, xd⟩ _ rfl rfl rfl hcap.out ?_))
            intro T A10 c10 w10 h10
            have HT := Lib.hid h10.out.1
            have H10 := Lib.hid h10.out.2
            clear h10 H5 d0 d1
            go_wp2_with fail
            go_roundg (xs.length - q)
            case measure => have := HQ.out; omega
            case rel =>
              have := HQ.out
              have := HXL.out
              have e : D ++ (xs.take (q + 1)).filter (dueB now) = T := by rw [hfs.out, hb.out, if_pos rfl, ← List.append_assoc, HE.out]; exact HT.out.symm
              refine ⟨q + 1, by go_num, by omega, by omega, ?_⟩
              rw [e]
              have := H10.out
              rw [two_mid] at this
              exact this.sub (List.sublist_append_left _ _)
          · have hb := Lib.hid (show dueB now ⟨xi, xd⟩ = false from decide_eq_false hle)
            go_wp2_with fail
            go_roundg (xs.length - q)
            case measure => have := HQ.out; omega
            case rel =>
              have := HQ.out
              have := HXL.out
              have e : D ++ (xs.take (q + 1)).filter (dueB now) = E := by rw [hfs.out, hb.out, if_neg (by decide), List.append_nil, HE.out]
              refine ⟨q + 1, by go_num, by omega, by omega, ?_⟩
              rw [e]
              exact H5.out.sub (List.sublist_append_left _ _)
        · have hqe : q = xs.length := by omega
          subst hqe
          have hql' : ¬ ((xs.length : Int) < (xs.length : Int)) := by omega
          rw [List.take_length] at S4
          have H4 := Lib.hid S4
          clear S4
          go_wp2_with fail
          go_roundg (64 - j)
          case measure => have := HI.out; omega
          case rel =>
            have := HI.out
            exact ⟨j + 1, by go_num, by omega, by omega, by rw [hrs.out, HD.out]; exact H4.out⟩
    · have hje : j = 64 := by omega
      subst hje
      have hr : readD B now 64 = B.flatten.filter (dueB now) := by unfold readD; rw [← HV.out.2.len, List.take_length]
      rw [hr] at S3
      have hperm : (B.flatten.filter (dueB now)).Perm (m.filter (dueB now)) := HV.out.2.perm.filter _
      obtain ⟨D, hD⟩ : ∃ D, B.flatten.filter (dueB now) = D := ⟨_, rfl⟩
      rw [hD] at S3 hperm
      have hDl : D.length ≤ m.length := by rw [hperm.length_eq]; exact List.length_filter_le _ _
      obtain ⟨A5, c5, h5⟩ := Kd.R_slice (S3.get _ (tail_at _ _)).1
      subst h5
      have HP := Lib.hid hperm
      have S4 := HO.out.1.exUpd2 i HO.out.2 (L1 := wL g m) ⟨mb, V, M, B⟩ S3
      generalize fpsL (wL g m ⟨mb, V, M, B⟩) = S1 at S4
      have H4 := Lib.hid S4
      have HI := Lib.hid (And.intro hml hDl)
      have HN := Lib.hid HV.out.2.ids
      clear S3 S4 hperm hr hD hj hjm hml hDl
      go_wp2_with fail
      refine (wsort_c (.slice A5 D.length c5) D wr (H4.out.get _ (tail_at _ _)) (by have := HI.out; omega)).mono ?_
      rintro e w2 ⟨rfl, ys, hyp, hys, hv2, m2⟩
      have S5 := H4.out.upd _ (tail_at _ _) m2 (a' := slc k114 114 (.slice A5 D.length c5) ys) hv2 (fun k hk => .inl hk)
      rw [set_tail] at S5
      have hyl := hyp.length_eq
      have hyb : (ys.length : Int) ≤ 1000000 := by have := HI.out; omega
      rw [← hyl] at S5 ⊢
      have S6 := (S5.perm List.perm_append_comm).nils (Kd.int .i64) 3
      have S7 := S6.perm (M := slc k114 114 (.slice A5 ys.length c5) ys :: slc (Kd.int .i64) 3 (.slice none 0 0) [] :: A.set i (wO g S1 m)) (List.Perm.cons _ (List.perm_append_comm (l₁ := [_])))
      have HYP := Lib.hid (hyp.trans HP.out)
      have HYS := Lib.hid hys
      have H7 := Lib.hid S7
      clear S5 S6 S7 hyp hys hv2 m2 hyl H4 HP
      go_wp2_with fail
      go_loopg [10, 42] (ys.length + 1) (fun n v10 v42 wx => ∃ (j : Nat) (S' : Nat → Prop), v42 = .int .i64 j ∧ j ≤ ys.length ∧ ys.length - j < n ∧ St F w0 wx (slc k114 114 (.slice A5 ys.length c5) ys :: slc (Kd.int .i64) 3 v10 ((ys.take j).map S114.f0) :: A.set i (wO g S' (restM m (ys.take j)))))
      case atStart => exact ⟨0, _, rfl, by omega, by omega, H7.out⟩
      case round =>
        clear H7
        obtain ⟨j, S', rfl, hj, hjm, S8⟩ := hrel
        by_cases hjy : j < ys.length
        · have hjy' : (j : Int) < (ys.length : Int) := by omega
          have hj0 : (0 : Int) ≤ (j : Int) := by omega
          obtain ⟨x, hx⟩ : ∃ x, ys[j]? = some x := ⟨_, List.getElem?_eq_getElem hjy⟩
          have hrs := Lib.hid (restM_succ (m := m) hx)
          have htk := Lib.hid (show (ys.take (j + 1)).map S114.f0 = (ys.take j).map S114.f0 ++ [x.f0] by rw [List.take_add_one, hx, List.map_append]; rfl)
          obtain ⟨E, hE⟩ : ∃ E, (ys.take j).map S114.f0 = E := ⟨_, rfl⟩
          have hEl : E.length ≤ j := by rw [← hE, List.length_map]; exact List.length_take_le _ _
          obtain ⟨mj, hmj⟩ : ∃ mj, restM m (ys.take j) = mj := ⟨_, rfl⟩
          rw [hE, hmj] at S8
          obtain ⟨A10, c10, h10⟩ := Kd.R_slice (S8.get 1 rfl).1
          subst h10
          have HE := Lib.hid hE
          have HM := Lib.hid hmj
          obtain ⟨gB, cB', hv, _, hcB⟩ := slc_form (S8.get 0 rfl) (by omega)
          injection hv with hv1 hvl hv2
          subst hv1; subst hv2
          have u0 : wr.cell? ⟨gB, j * 2, none⟩ = some (.int .i64 x.f0) := (S8.elem fl114 0 rfl (i := j) (c := 0) hx (by decide)).1
          have u1 : wr.cell? ⟨gB, j * 2 + 1, none⟩ = some (.int .u64 x.f1) := (S8.elem fl114 0 rfl (i := j) (c := 1) hx (by decide)).1
          obtain ⟨xi, xd⟩ := x
          have H8 := Lib.hid S8
          have HQ := Lib.hid (And.intro hj (And.intro hjm hEl))
          clear S8 hE hmj hj hjm hEl hx hvl hcB
          dsimp only at u0 u1
          go_upto_region 19 with fail
          have S9 := H8.out.new' #[.int .i64 xi, .int .u64 xd] 114 wr.heap.size rfl
          obtain ⟨z, hz⟩ : ∃ z, wr.heap.size = z := ⟨_, rfl⟩
          rw [hz] at S9 ⊢
          clear hz
          generalize World.alloc wr _ = w5 at *
          have d0 : w5.cell? ⟨z, 0, none⟩ = some (.int .i64 xi) := blk_cell (S9.get _ (tail_at _ _)) 0
          have H9 := Lib.hid S9
          clear S9 H8 u0 u1
          have hcap := Lib.hid (show (E.length + 1) * 8 ≤ 140737488355328 by have := HQ.out; omega)
          go_wp2_with (at_builtin; go_loud (refine St.wp1 (flInt .i64) rfl _ _ 66 3 (.int .i64 0) 8 rfl Try.underlying66 info3 rfl (by decide) (by decide) H9.out 1 rfl xi #[.int .i64 xi] rfl rfl rfl hcap.out ?_))
          intro T A11 c11 w10 h10
          have HT := Lib.hid h10.out.1
          have S10 := h10.out.2
          have d0' : w10.cell? ⟨z, 0, none⟩ = some (.int .i64 xi) := blk_cell (S10.get _ (tail_at (_ :: _ :: A.set i _) _)) 0
          have H10 := Lib.hid S10
          clear h10 H9 d0 S10
          go_wp2_with fail
          refine (wdrop_st (H10.out.sub (List.sublist_append_left (_ :: _ :: A.set i _) _)) (i + 2) (set_self HO.out.2 _) xi).mono ?_
          rintro e w11 ⟨rfl, S'', S11⟩
          generalize (mj.any fun t => t.f0 == xi) = bb
          have e11 : ((slc k114 114 (.slice (some ⟨gB, 0, none⟩) ys.length c5) ys :: slc (Kd.int .i64) 3 (.slice A11 T.length c11) T :: A.set i (wO g S' mj)).set (i + 2) (wO g S'' (mj.filter (notId xi)))) = slc k114 114 (.slice (some ⟨gB, 0, none⟩) ys.length c5) ys :: slc (Kd.int .i64) 3 (.slice A11 T.length c11) T :: A.set i (wO g S'' (mj.filter (notId xi))) := by
            show _ :: _ :: (A.set i _).set i _ = _
            rw [List.set_set]
          have S12 := e11 ▸ S11
          have H12 := Lib.hid S12
          clear S11 e11 S12 H10 d0'
          go_wp2_with fail
          go_roundg (ys.length - j)
          case measure => have := HQ.out; omega
          case rel =>
            have := HQ.out
            refine ⟨j + 1, S'', by go_num, by omega, by omega, ?_⟩
            rw [htk.out, hrs.out, HM.out, HE.out, ← HT.out]
            exact H12.out
        · have hje : j = ys.length := by omega
          subst hje
          rw [List.take_length] at S8
          have hjy' : ¬ ((ys.length : Int) < (ys.length : Int)) := by omega
          have hr := restM_due HN.out HYP.out
          rw [hr] at S8
          have H8 := Lib.hid S8
          clear S8 hr
          go_wp2_with fail
          go_ret
          exact ⟨_, ys, S', rfl, HYP.out, HYS.out, (H8.out.sub (List.sublist_cons_self _ _)).perm (List.perm_append_comm (l₂ := [_]))⟩
end Go.Proofs.Ytecgnfklfgjgaaa
