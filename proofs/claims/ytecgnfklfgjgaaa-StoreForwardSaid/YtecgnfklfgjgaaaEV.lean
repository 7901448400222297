/- The store's evict: the record used longest ago is taken out, its floor raised. -/
import Derived.Test.YtecgnfklfgjgaaaST
set_option linter.unusedVariables false
set_option linter.unusedSimpArgs false
namespace Go.Proofs.Ytecgnfklfgjgaaa
open Go.RowKit Go.Tat Go.Tab Go.Proofs.YtecgnfklfgjgaaaW.PrintWords PStorePeeks
def flAt (F : List Stp) (k : Nat) : Stp := F.getD k zSt
/-- A floor raised by a record that is evicted. -/
def raise (F : List Stp) (r : Rc) : List Stp := if hlcF (flAt F (rgN r.f0)) r.f1 < 0 then F.set (rgN r.f0) r.f1 else F
theorem raise_len (F : List Stp) (r : Rc) : (raise F r).length = F.length := by unfold raise; split; rw [List.length_set]; rfl
theorem flAt_get {F : List Stp} (hF : F.length = 64) {k : Nat} (hk : k < 64) : F[k]? = some (flAt F k) := by
  unfold flAt; rw [List.getD_eq_getElem?_getD, List.getElem?_eq_getElem (by omega)]; rfl
theorem wo_last {L0 : List Rc} {r : Rc} (h : ((L0 ++ [r]).map (·.f0)).Nodup) : wo (L0 ++ [r]) r.f0 = L0 := by
  unfold wo
  rw [List.filter_append, List.filter_cons_of_neg (by simp [notK]), List.filter_nil, List.append_nil, List.filter_eq_self]
  intro q hq
  rw [notK_iff]
  intro e
  rw [List.map_append, List.nodup_append] at h
  exact h.2.2 q.f0 (List.mem_map.2 ⟨q, hq, rfl⟩) r.f0 (by simp) e
theorem flStp_one {x : Stp} : ∀ v ∈ eStp x, v.oneCell' = true := by
  intro v hv
  simp only [eStp, List.mem_cons, List.not_mem_nil, or_false] at hv
  rcases hv with rfl | rfl | rfl <;> rfl
theorem stamp_size : (Try.prog.info? 35).map (·.size) = some 3 := by kernel_rfl
def evictPost (F : Nat → Prop) (w0 : World) (g : Nat) (c : SC) (s : SM) (b : Bool) (M : List Asr) (e : Ending) (w' : World) : Prop :=
  e = .returned (.tuple #[]) ∧ ∃ x', St F w0 w' (sL g c s x' ++ M) ∧ x'.d.b = b
theorem ret_congr {a b : Value} (h : a = b) : Ending.returned a = Ending.returned b := by rw [h]
set_option maxRecDepth 100000 in
set_option maxHeartbeats 8000000 in
theorem evict_st {F : Nat → Prop} {w0 w : World} {g : Nat} {c : SC} {s : SM} {x : SD} {M : List Asr} (h : St F w0 w (sL g c s x ++ M)) (L0 : List Rc) (r : Rc) (hL : s.L = L0 ++ [r]) (hev : s.ev < 1000000000) :
    Calls Try.prog 35 #[.pointer (some ⟨g, 0, none⟩)] w (evictPost F w0 g c ⟨L0, raise s.F r, s.ev + 1⟩ x.d.b M) := by
  have hI := sL_si h
  have HI := Lib.hid hI
  obtain ⟨rb, rc, hvR⟩ := sL_R h
  obtain ⟨o0, p, ho, hrp⟩ : ∃ o0 p, x.d.o = o0 ++ [p] ∧ rAt x.d.R p = r := by
    have h1 := hI.L
    rw [hL] at h1
    rcases List.eq_nil_or_concat x.d.o with e | ⟨a, b, e⟩
    · rw [e] at h1; simp at h1
    · rw [List.concat_eq_append] at e
      rw [e, List.map_append, List.map_cons, List.map_nil] at h1
      have := List.append_inj_right' h1 rfl
      simp only [List.cons.injEq, and_true] at this
      exact ⟨a, b, e, this.symm⟩
  have hp : p ∈ x.d.o := by rw [ho]; simp
  have hpm : p < c.most := hI.olt hp
  have hRp : x.d.R[p]? = some r := by rw [← hrp]; exact rAt_get (by rw [hI.rl]; exact hpm)
  have HW := Lib.hid (wo_last (hL ▸ hI.keys))
  have hr := hI.may r (by rw [hL]; simp)
  have hlens := may_lens hr.1
  have hold : Hid (Calls Try.prog 57 #[.pointer (some ⟨x.ug, 0, none⟩)] w fun e w' => e = .returned (.tuple #[.int .i64 (p : Int), .bool true]) ∧ St F w0 w' (sL g c s x ++ M)) := by
    have h4 := lold_st h 4 (g := x.ug) (b := x.bg) (n := c.most) (o := x.d.o) rfl
    refine Lib.hid (h4.mono fun e w' hh => ⟨hh.1.trans ?_, hh.2⟩)
    rw [ho]; simp
  have hpi : (p : Int) < (c.most : Int) := by omega
  have hmi : (c.most : Int) ≤ 1024 := by have := hI.m2; omega
  have HX := Lib.hid hlens
  have HP := Lib.hid (And.intro hp (And.intro hrp hRp))
  have HL := Lib.hid hL
  have HV := Lib.hid hvR
  have g3 := sL_cell h 3
  rw [show (sCells x.vR x.vF x.tg x.ug x.wg c s.F x.d.D (szL s.L) s.ev)[3]? = some (.pointer (some ⟨x.ug, 0, none⟩)) from rfl] at g3
  have hevi : (s.ev : Int) < 1000000000 := by omega
  clear h hI ho hp hpm hRp hr hlens hrp hL hvR
  go_enter Try.func35, Try.ntmps35
  go_upto_region 2 with (go_at_call 57; refine hold.out.mono ?_; rintro e w1 ⟨rfl, h1⟩)
  clear g3 hold
  have g0 := sL_cell h1 0
  rw [show (sCells x.vR x.vF x.tg x.ug x.wg c s.F x.d.D (szL s.L) s.ev)[0]? = some x.vR from rfl, HV.out] at g0
  have r0 := (sL_rec h1 HV.out HP.out.2.2 0 (by decide)).1
  have r1 := (sL_rec h1 HV.out HP.out.2.2 1 (by decide)).1
  have r2 := (sL_rec h1 HV.out HP.out.2.2 2 (by decide)).1
  have r3 := (sL_rec h1 HV.out HP.out.2.2 3 (by decide)).1
  have r4 := (sL_rec h1 HV.out HP.out.2.2 4 (by decide)).1
  have r5 := (sL_rec h1 HV.out HP.out.2.2 5 (by decide)).1
  have r6 := (sL_rec h1 HV.out HP.out.2.2 6 (by decide)).1
  have r7 := (sL_rec h1 HV.out HP.out.2.2 7 (by decide)).1
  simp only [eRc, List.getElem?_cons_zero, List.getElem?_cons_succ, Nat.add_zero] at r0 r1 r2 r3 r4 r5 r6 r7
  have H1 := Lib.hid h1
  clear h1
  go_upto_region 3 with fail
  have S2 := H1.out.new' #[.string r.f0, .int .u64 r.f1.f0, .int .u32 r.f1.f1, .int .u8 r.f1.f2, .int .u8 r.f2, .int .u32 r.f3, .int .u64 r.f4, .string r.f5] 37 w1.heap.size rfl
  rw [List.append_assoc] at S2
  obtain ⟨z, hz⟩ : ∃ z, w1.heap.size = z := ⟨_, rfl⟩
  rw [hz] at S2 ⊢
  clear hz
  generalize World.alloc w1 _ = w2 at *
  clear g0 r0 r1 r2 r3 r4 r5 r6 r7 H1
  have zi : (sL g c s x ++ (M ++ [blk z (eRc r).toArray 37]))[7 + M.length]? = some (blk z (eRc r).toArray 37) := by rw [sL_q]; exact q_end _ _ _ _ _ _ _ _ _ _ _ _
  have ZI := Lib.hid zi
  have z0 : w2.cell? ⟨z, 0, none⟩ = some (.string r.f0) := blk_cell (S2.get (7 + M.length) zi) 0
  have H2 := Lib.hid S2
  have HRG := Lib.hid (range_c r.f0 (by have := HX.out; omega))
  have hkl : (rgN r.f0 : Int) < 64 := by have := rgN_lt r.f0; omega
  have HK := Lib.hid (And.intro (flAt_get HI.out.Fl (rgN_lt r.f0)) (rgN_lt r.f0))
  generalize hk : rgN r.f0 = k at *
  have HKE := Lib.hid hk
  clear S2 zi hk
  go_upto_region 4 with (go_at_call 31; refine (HRG.out _).mono ?_; rintro e w3 ⟨rfl, ⟨n3, rfl⟩⟩)
  have S3 := H2.out.drewN n3
  generalize w2.drewN n3 = w3 at *
  have H3 := Lib.hid S3
  clear z0 H2
  have hlt := And.intro (S3.blt 0 rfl) (S3.blt (7 + M.length) ZI.out)
  obtain ⟨fl, hfl⟩ : ∃ fl, flAt s.F k = fl := ⟨_, rfl⟩
  rw [hfl] at HK
  have HFL := Lib.hid hfl
  have HF3 : Hid (∀ w', Below w3.heap.size w3 w' → w'.cell? ⟨z, 1, none⟩ = some (.int .u64 r.f1.f0) ∧ w'.cell? ⟨z, 2, none⟩ = some (.int .u32 r.f1.f1) ∧ w'.cell? ⟨z, 3, none⟩ = some (.int .u8 r.f1.f2) ∧ w'.cell? ⟨g, 5 + k * 3, none⟩ = some (.int .u64 fl.f0) ∧ w'.cell? ⟨g, 5 + k * 3 + 1, none⟩ = some (.int .u32 fl.f1) ∧ w'.cell? ⟨g, 5 + k * 3 + 2, none⟩ = some (.int .u8 fl.f2)) := Lib.hid fun w' b => by
    have hz0 := blk_cell (H3.out.get (7 + M.length) ZI.out)
    have hg0 := sL_cell H3.out
    have e : ∀ j, w'.cell? ⟨z, j, none⟩ = (eRc r).toArray[j]? := fun j => (b.cell (p := ⟨z, j, none⟩) hlt.2).trans (hz0 j)
    have e' : ∀ j, w'.cell? ⟨g, j, none⟩ = _ := fun j => (b.cell (p := ⟨g, j, none⟩) hlt.1).trans (hg0 j)
    exact ⟨e 1, e 2, e 3, (e' _).trans (sc_floor HI.out.Fl HK.out.1 (j := 0) (by decide)), (e' _).trans (sc_floor HI.out.Fl HK.out.1 (j := 1) (by decide)), (e' _).trans (sc_floor HI.out.Fl HK.out.1 (j := 2) (by decide))⟩
  have hraise : raise s.F r = if hlcF fl r.f1 < 0 then s.F.set k r.f1 else s.F := by unfold raise; rw [HKE.out, HFL.out]
  have HRA := Lib.hid hraise
  obtain ⟨bb, hbb⟩ : ∃ bb, decide (hlcF fl r.f1 < 0) = bb := ⟨_, rfl⟩
  have HBB := Lib.hid hbb
  have HHL := Lib.hid (hlc_c fl r.f1)
  generalize hlcF fl r.f1 = hv at *
  clear hlt S3 hfl hraise
  refine wp_region_quietC (fun w' => Below w3.heap.size w3 w') (by kernel_rfl) (by kernel_rfl) (Below.refl _ _).drew ?_
  repeat (first | go_big_quiet_skip | (go_big_quiet_want; refine quiet_mk (v := ?_) ?_ ?_; rotate_left; (focus (intro w' hC; obtain ⟨f1, f2, f3, q0, q1, q2⟩ := HF3.out w' hC; go_simp; first | done | with_reducible rfl | (go_at_call 30; refine (HHL.out _).mono ?_; rintro e w5 ⟨rfl, rfl⟩; refine ⟨?_, ?_⟩; with_reducible rfl; (unfold hlcW; exact ((hC.alloc hC.size _).alloc (by have := hC.size; simp; omega) _))))); go_big_quiet_on; simp only [Act.put, List.setIfInBounds_toArray, List.set_cons_zero, List.set_cons_succ]))
  refine wpQuiet_nil ?_
  intro w4 hB4
  have S4 := H3.out.below hB4
  have H4 := Lib.hid S4
  have HF4 := Lib.hid (HF3.out w4 hB4)
  clear S4 hB4 H3 HF3 hbb
  cases bb with
  | false =>
    have hneg : ¬ (hv < 0) := by have := HBB.out; simpa using this
    have HNG := Lib.hid hneg
    have HS := H4
    clear hneg
    go_upto_region 6 with fail
    go_upto_region 7 with (go_at_call 33; refine (take_st HS.out HP.out.1).mono ?_; rintro e w6 ⟨rfl, x', h6, hx6⟩)
    rw [HP.out.2.1, HL.out, HW.out] at h6
    have g9 := sL_cell h6 265
    have f9 := sL_frozen h6 265
    rw [show 265 = 261 + 4 from rfl, sc_end (sL_si h6).Fl (sL_si h6).Dl 4] at g9
    have g9' : w6.cell? ⟨g, 265, none⟩ = some (.int .i64 (s.ev : Nat)) := g9
    have H6 := Lib.hid h6
    have HX6 := Lib.hid hx6.2.2.2
    clear h6 g9 HS hx6
    go_wp2_with fail
    go_end0
    have S7 := H6.out.set 0 rfl 265 (.int .i64 ((s.ev : Int) + 1))
    have eC : ∀ (a b : Value) (F0 : List Stp) (D0 : List Nat) (zz : Nat), F0.length = 64 → D0.length = 64 → (sCells a b x'.tg x'.ug x'.wg c F0 D0 zz s.ev).toArray.setIfInBounds 265 (.int .i64 ((s.ev : Int) + 1)) = (sCells a b x'.tg x'.ug x'.wg c F0 D0 zz (s.ev + 1)).toArray := fun a b F0 D0 zz h1 h2 => by
      rw [List.setIfInBounds_toArray]
      exact congrArg List.toArray (sc_setEv h1 h2 (s.ev + 1))
    have hI6 := sL_si H6.out
    rw [eC _ _ _ _ _ hI6.Fl hI6.Dl] at S7
    have S8 := S7.pure 6 rfl (p' := SI c ⟨L0, s.F, s.ev + 1⟩ x'.d) (hI6.floors hI6.Fl (s.ev + 1))
    have S9 : St F w0 _ (sL g c ⟨L0, s.F, s.ev + 1⟩ x' ++ (M ++ [blk z (eRc r).toArray 37])) := S8
    unfold evictPost
    rw [HRA.out, if_neg (show ¬ (hv < 0) by have := HNG.out; omega)]
    exact ⟨rfl, x', S9.sub (List.Sublist.append_left (List.sublist_append_left M _) _), HX6.out⟩
  | true =>
    have hneg : hv < 0 := by have := HBB.out; simpa using this
    have HNG := Lib.hid hneg
    clear hneg
    go_upto_region 5 with fail
    obtain ⟨f1, f2, f3, _, _, _⟩ := HF4.out
    refine wp_region_qtail_drewN 7 (by kernel_rfl) (by kernel_rfl) ?_
    simp only [List.take_succ_cons, List.take_zero, List.drop_succ_cons, List.drop_zero]
    repeat (go_big_quiet_step (fail))
    refine wpQuiet_nil ?_
    rintro _ ⟨n5, rfl⟩
    refine St.wpBlkAt rfl 35 _ _ rfl (H4.out.drewN n5) 0 rfl (5 + k * 3) (eStp r.f1) (sCells x.vR x.vF x.tg x.ug x.wg c (s.F.set k r.f1) x.d.D (szL s.L) s.ev).toArray ?_ ?_ flStp_one stamp_size ?_ ?_ ?_
    · exact (sc_setFloor HI.out.Fl HK.out.2 r.f1).symm
    · rw [List.size_toArray, sc_len HI.out.Fl HI.out.Dl]; show 5 + k * 3 + 3 ≤ 266; have := HK.out.2; omega
    · rfl
    · rfl
    intro w5 H5
    simp only [Act.put]
    have S5 := H5.out.pure 6 rfl (p' := SI c ⟨s.L, s.F.set k r.f1, s.ev⟩ x.d) (HI.out.floors (by rw [List.length_set]; exact HI.out.Fl) s.ev)
    have HS : Hid (St F w0 w5 (sL g c ⟨s.L, s.F.set k r.f1, s.ev⟩ x ++ (M ++ [blk z (eRc r).toArray 37]))) := Lib.hid S5
    clear S5 H5 f1 f2 f3
    go_upto_region 7 with (go_at_call 33; refine (take_st HS.out HP.out.1).mono ?_; rintro e w6 ⟨rfl, x', h6, hx6⟩)
    rw [HP.out.2.1, HL.out, HW.out] at h6
    have g9 := sL_cell h6 265
    have f9 := sL_frozen h6 265
    rw [show 265 = 261 + 4 from rfl, sc_end (sL_si h6).Fl (sL_si h6).Dl 4] at g9
    have g9' : w6.cell? ⟨g, 265, none⟩ = some (.int .i64 (s.ev : Nat)) := g9
    have H6 := Lib.hid h6
    have HX6 := Lib.hid hx6.2.2.2
    clear h6 g9 HS hx6
    go_wp2_with fail
    go_end0
    have S7 := H6.out.set 0 rfl 265 (.int .i64 ((s.ev : Int) + 1))
    have eC : ∀ (a b : Value) (F0 : List Stp) (D0 : List Nat) (zz : Nat), F0.length = 64 → D0.length = 64 → (sCells a b x'.tg x'.ug x'.wg c F0 D0 zz s.ev).toArray.setIfInBounds 265 (.int .i64 ((s.ev : Int) + 1)) = (sCells a b x'.tg x'.ug x'.wg c F0 D0 zz (s.ev + 1)).toArray := fun a b F0 D0 zz h1 h2 => by
      rw [List.setIfInBounds_toArray]
      exact congrArg List.toArray (sc_setEv h1 h2 (s.ev + 1))
    have hI6 := sL_si H6.out
    rw [eC _ _ _ _ _ hI6.Fl hI6.Dl] at S7
    have S8 := S7.pure 6 rfl (p' := SI c ⟨L0, s.F.set k r.f1, s.ev + 1⟩ x'.d) (hI6.floors hI6.Fl (s.ev + 1))
    have S9 : St F w0 _ (sL g c ⟨L0, s.F.set k r.f1, s.ev + 1⟩ x' ++ (M ++ [blk z (eRc r).toArray 37])) := S8
    unfold evictPost
    rw [HRA.out, if_pos (show hv < 0 by have := HNG.out; omega)]
    exact ⟨rfl, x', S9.sub (List.Sublist.append_left (List.sublist_append_left M _) _), HX6.out⟩
end Go.Proofs.Ytecgnfklfgjgaaa
