/- The store's lay: a record put into a free place. -/
import Derived.Test.YtecgnfklfgjgaaaST
set_option linter.unusedVariables false
set_option linter.unusedSimpArgs false
namespace Go.Proofs.Ytecgnfklfgjgaaa
open Go.RowKit Go.Tat Go.Tab Go.Proofs.YtecgnfklfgjgaaaW.PrintWords PStorePeeks
theorem slc_pop {α : Type} {d : Kd α} {enc : α → List Value} (F : Flat d enc) {e b k : Nat} {w : World} {xs : List α} {y : α} (h : (slc d e (.slice (some ⟨b, 0, none⟩) (xs.length + 1) k) (xs ++ [y])).holds w) : (slc d e (.slice (some ⟨b, 0, none⟩) xs.length k) xs).holds w := by
  rcases (slc_iff F).1 h with ⟨hv, _⟩ | ⟨g, cap, ex, hv, ⟨cur, hb, hc⟩, h1, h2, h3⟩
  · injection hv with h1; cases h1
  · injection hv with a1 a2 a3
    injection a1 with a1
    injection a1 with a1
    subst a1; subst a3
    rw [List.length_append, List.length_singleton] at h1 h3
    refine (slc_iff F).2 (.inr ⟨b, k, enc y ++ ex, rfl, ⟨cur, hb, by rw [hc]; simp⟩, by omega, h2, ?_⟩)
    rw [List.length_append, F.len, h3, show k - xs.length = (k - (xs.length + 1)) + 1 by omega, Nat.succ_mul, Nat.add_comm]
def layPost (F : Nat → Prop) (w0 : World) (g : Nat) (c : SC) (s : SM) (r : Rc) (M : List Asr) (e : Ending) (w' : World) : Prop :=
  e = .returned (.tuple #[]) ∧ ∃ x', St F w0 w' (sL g c ⟨r :: s.L, s.F, s.ev⟩ x' ++ M) ∧ x'.d.b = true
set_option maxRecDepth 100000 in
set_option maxHeartbeats 8000000 in
theorem lay_st {F : Nat → Prop} {w0 w : World} {g : Nat} {c : SC} {s : SM} {x : SD} {M : List Asr} (h : St F w0 w (sL g c s x ++ M)) (r : Rc) (hn : hasK s.L r.f0 = none) (hm : mayB r = true) (hr : 0 ≤ r.f1.f0) (hs : szL s.L + wgt r ≤ c.bytes) (hl : s.L.length < c.most) (hb : x.d.b = true) :
    Calls Try.prog 36 #[.pointer (some ⟨g, 0, none⟩), .agg (eRc r).toArray] w (layPost F w0 g c s r M) := by
  have hI := sL_si h
  have HI := Lib.hid hI
  obtain ⟨rb, rc, hvR⟩ := sL_R h
  have hfl : 0 < x.d.fr.length := by have h1 := hI.lens; have h2 := hI.llen; omega
  obtain ⟨fr, p, hfr⟩ : ∃ fr p, x.d.fr = fr ++ [p] := by
    rcases List.eq_nil_or_concat x.d.fr with e | ⟨a, b, e⟩
    · rw [e] at hfl; simp at hfl
    · exact ⟨a, b, by rw [e, List.concat_eq_append]⟩
  obtain ⟨fb, kf, hvF, _, hkf⟩ := slc_form (h.get 2 rfl) (by unfold ofFr; rw [List.length_map]; exact hfl)
  have hofr : ofFr x.d.fr = ofFr fr ++ [(p : Int)] := by rw [hfr]; unfold ofFr; simp
  have hfn : (ofFr x.d.fr).length = fr.length + 1 := by unfold ofFr; rw [hfr]; simp
  rw [hfn] at hvF hkf
  have hpm : p < c.most := hI.flt (by rw [hfr]; simp)
  have hlens := may_lens hm
  have hfm : fr.length < 1024 := by have h1 := hI.lens; have h2 := hI.m2; rw [hfr, List.length_append, List.length_singleton] at h1; omega
  have hTn := Lib.hid (hI.look_none.2 hn)
  have hTl := Lib.hid (show x.d.T.length < c.most by rw [hI.tlen]; exact hl)
  have hml := Lib.hid (show x.d.m.length ≤ 1000000 by rw [hI.mlen hb]; have := hI.m2; omega)
  have HR := Lib.hid (hI.lay hfr hn hm hr hs)
  have hpi : (p : Int) < (c.most : Int) := by omega
  have hmi : (c.most : Int) ≤ 1024 := by have := hI.m2; omega
  have HX := Lib.hid hlens
  have HM1 := Lib.hid (And.intro hpm hI.m2)
  have HSZ := Lib.hid hs
  have HPH := Lib.hid hr
  have HBT := Lib.hid hb
  have hdl : x.d.D[rgN r.f0]? = some (dgL s.L (rgN r.f0)) := hI.D _ (rgN_lt _)
  have HDL := Lib.hid (And.intro hdl (And.intro hI.Fl hI.Dl))
  have hk1 : (c.keep : Int) ≤ 1000 := by have := hI.k2; omega
  have hp1 : r.f1.f0 ≤ 281474976710655 := hlens.2.2.2
  rw [sL_q, hvR, hvF] at h
  have h0 := h
  unfold sQ at h0
  have hfp : w.cell? ⟨fb, fr.length, none⟩ = some (.int .i64 (p : Int)) := by
    have := h0.get 2 rfl
    rw [hofr] at this
    exact slc_int this (by unfold ofFr; rw [List.getElem?_append_right (by simp)]; simp)
  have hfb : fb < w.heap.size := by
    have := h0.get 2 rfl
    exact (slc (Kd.int .i64) 3 (.slice (some ⟨fb, 0, none⟩) (fr.length + 1) kf) (ofFr x.d.fr)).lt this rfl
  clear h0
  have HFR := Lib.hid (And.intro hfr hofr)
  have HK := Lib.hid hkf
  have H := Lib.hid h
  clear h hI hfl hvR hvF hkf hfn hlens hdl hr hs hn hm hl hb hpm hfr hofr
  have hfi : (fr.length : Int) ≤ (kf : Int) := by have := HK.out; omega
  have hfi2 : (fr.length : Int) < 1024 := by omega
  unfold eRc
  go_enter Try.func36, Try.ntmps36
  go_upto_region 1 with fail
  have S1 := H.out.new' (eRc r).toArray 37 w.heap.size rfl
  rw [List.append_assoc] at S1
  obtain ⟨z, hz⟩ : ∃ z, w.heap.size = z := ⟨_, rfl⟩
  have e1 : ∀ y : World, (w.alloc (.cells (eRc r).toArray 37)).cell? ⟨fb, fr.length, none⟩ = some (.int .i64 (p : Int)) := fun _ => ((Below.refl w.heap.size w).alloc (Nat.le_refl _) _ |>.cell (p := ⟨fb, fr.length, none⟩) hfb).trans hfp
  replace hfp := e1 w
  clear e1 hfb
  unfold eRc at S1 hfp
  rw [hz] at S1 ⊢
  clear hz
  generalize World.alloc w _ = w1 at *
  have c1 : w1.cell? ⟨g, 1, none⟩ = some (.slice (some ⟨fb, 0, none⟩) (fr.length + 1) kf) := blk_cell (S1.get 0 rfl) 1
  have f1 : w1.frozen? ⟨g, 1, none⟩ = false := S1.frozen 0 rfl 1
  have H1 := Lib.hid S1
  clear S1
  generalize hfL : fr.length = fl at *
  have HFLn := Lib.hid hfL
  clear hfL hfm
  go_upto_region 4 with fail
  have S2 := H1.out.set 0 rfl 1 (.slice (some ⟨fb, 0, none⟩) fl kf)
  have eC : (sCells (.slice (some ⟨rb, 0, none⟩) c.most rc) (.slice (some ⟨fb, 0, none⟩) (fl + 1) kf) x.tg x.ug x.wg c s.F x.d.D (szL s.L) s.ev).toArray.setIfInBounds 1 (.slice (some ⟨fb, 0, none⟩) fl kf) = (sCells (.slice (some ⟨rb, 0, none⟩) c.most rc) (.slice (some ⟨fb, 0, none⟩) fl kf) x.tg x.ug x.wg c s.F x.d.D (szL s.L) s.ev).toArray := by rw [List.setIfInBounds_toArray, sc_set1]
  rw [eC] at S2
  clear eC c1 f1 hfp hfi hfi2 H1
  generalize World.setCell w1 _ _ = w2 at *
  have S3 : St F w0 w2 (sQ g (sCells (.slice (some ⟨rb, 0, none⟩) c.most rc) (.slice (some ⟨fb, 0, none⟩) fl kf) x.tg x.ug x.wg c s.F x.d.D (szL s.L) s.ev).toArray (.slice (some ⟨rb, 0, none⟩) c.most rc) (.slice (some ⟨fb, 0, none⟩) fl kf) x.d.R fr (tO x.tg c.most x.Ft x.d.T) (lA x.ug x.bg c.most x.d.o) (wO x.wg x.Fw x.d.m) (SI c s x.d) ++ (M ++ [blk z (eRc r).toArray 37])) := by
    have hs := S2.get 2 rfl
    rw [HFR.out.2] at hs
    have hl : (ofFr fr).length = fl := by unfold ofFr; rw [List.length_map]; exact HFLn.out
    rw [← hl] at hs
    have hs2 := slc_pop (flInt .i64) hs
    rw [hl] at hs2
    exact S2.upd 2 rfl (Mod.refl _ _) (a' := slc (Kd.int .i64) 3 (.slice (some ⟨fb, 0, none⟩) fl kf) (ofFr fr)) hs2 (fun k hk => .inl hk)
  have H2 := Lib.hid S3
  obtain ⟨Cl, hCl⟩ : ∃ Cl, sCells (.slice (some ⟨rb, 0, none⟩) c.most rc) (.slice (some ⟨fb, 0, none⟩) fl kf) x.tg x.ug x.wg c s.F x.d.D (szL s.L) s.ev = Cl := ⟨_, rfl⟩
  have HCL := Lib.hid hCl
  rw [hCl] at H2 S3
  have HC : Hid (Cl[0]? = some (.slice (some ⟨rb, 0, none⟩) c.most rc) ∧ Cl[2]? = some (.pointer (some ⟨x.tg, 0, none⟩)) ∧ Cl[3]? = some (.pointer (some ⟨x.ug, 0, none⟩)) ∧ Cl[4]? = some (.pointer (some ⟨x.wg, 0, none⟩)) ∧ Cl[263]? = some (.int .u64 (c.keep : Nat)) ∧ Cl[197 + rgN r.f0]? = some (.int .u64 (dgL s.L (rgN r.f0) : Nat))) := by
    rw [← hCl]
    exact Lib.hid ⟨rfl, rfl, rfl, rfl, sc_end HDL.out.2.1 HDL.out.2.2 2, sc_dig HDL.out.2.1 HDL.out.1⟩
  clear hCl S2
  have hg0 := blk_cell (S3.get 0 rfl)
  have hz0 := blk_cell (S3.get (7 + M.length) (q_end _ _ _ _ _ _ _ _ _ _ _ _))
  have g0 : w2.cell? ⟨g, 0, none⟩ = some (.slice (some ⟨rb, 0, none⟩) c.most rc) := (hg0 0).trans (by rw [List.getElem?_toArray]; exact HC.out.1)
  have z0 : w2.cell? ⟨z, 0, none⟩ = some (.string r.f0) := hz0 0
  have z1 : w2.cell? ⟨z, 1, none⟩ = some (.int .u64 r.f1.f0) := hz0 1
  have z2 : w2.cell? ⟨z, 2, none⟩ = some (.int .u32 r.f1.f1) := hz0 2
  have z3 : w2.cell? ⟨z, 3, none⟩ = some (.int .u8 r.f1.f2) := hz0 3
  have z4 : w2.cell? ⟨z, 4, none⟩ = some (.int .u8 r.f2) := hz0 4
  have z5 : w2.cell? ⟨z, 5, none⟩ = some (.int .u32 r.f3) := hz0 5
  have z6 : w2.cell? ⟨z, 6, none⟩ = some (.int .u64 r.f4) := hz0 6
  have z7 : w2.cell? ⟨z, 7, none⟩ = some (.string r.f5) := hz0 7
  clear S3 hg0 hz0
  refine wp_region_qtail_drewN 7 (by kernel_rfl) (by kernel_rfl) ?_
  simp only [List.take_succ_cons, List.take_zero, List.drop_succ_cons, List.drop_zero]
  repeat (go_big_quiet_step (fail))
  refine wpQuiet_nil ?_
  rintro _ ⟨n2, rfl⟩
  refine St.wpRow flRc rfl 37 _ _ rfl (H2.out.drewN n2) 1 rfl p r ?_ ?_ ?_ rec_size ?_
  · rw [HI.out.rl]; exact HM1.out.1
  · rfl
  · rfl
  intro w3 H3
  simp only [Act.put]
  clear g0 z0 z1 z2 z3 z4 z5 z6 z7 H2
  have S3 : St F w0 w3 (sQ g Cl.toArray (.slice (some ⟨rb, 0, none⟩) c.most rc) (.slice (some ⟨fb, 0, none⟩) fl kf) (x.d.R.set p r) fr (tO x.tg c.most x.Ft x.d.T) (lA x.ug x.bg c.most x.d.o) (wO x.wg x.Fw x.d.m) (SI c s x.d) ++ (M ++ [blk z (eRc r).toArray 37])) := H3.out
  have g2 : w3.cell? ⟨g, 2, none⟩ = some (.pointer (some ⟨x.tg, 0, none⟩)) := (blk_cell (S3.get 0 rfl) 2).trans (by rw [List.getElem?_toArray]; exact HC.out.2.1)
  have z0 : w3.cell? ⟨z, 0, none⟩ = some (.string r.f0) := blk_cell (S3.get (7 + M.length) (q_end _ _ _ _ _ _ _ _ _ _ _ _)) 0
  clear H3
  have H3 := Lib.hid S3
  clear S3
  go_upto_region 5 with fail
  refine wp_region_qtail_drewN 7 (by kernel_rfl) (by kernel_rfl) ?_
  simp only [List.take_succ_cons, List.take_zero, List.drop_succ_cons, List.drop_zero]
  repeat (go_big_quiet_step (fail))
  refine wpQuiet_nil ?_
  rintro _ ⟨n3, rfl⟩
  go_upto_region 6 with (go_at_call 58; refine (tset_st (H3.out.drewN n3) 3 rfl r.f0 (p : Int) (by have := HX.out; omega) hTn.out hTl.out).mono ?_; rintro e w4 ⟨rfl, S', h4⟩)
  have S4 : St F w0 w4 (sQ g Cl.toArray (.slice (some ⟨rb, 0, none⟩) c.most rc) (.slice (some ⟨fb, 0, none⟩) fl kf) (x.d.R.set p r) fr (tO x.tg c.most S' ((r.f0, (p : Int)) :: x.d.T)) (lA x.ug x.bg c.most x.d.o) (wO x.wg x.Fw x.d.m) (SI c s x.d) ++ (M ++ [blk z (eRc r).toArray 37])) := h4
  have H4 := Lib.hid S4
  have g3 : w4.cell? ⟨g, 3, none⟩ = some (.pointer (some ⟨x.ug, 0, none⟩)) := (blk_cell (S4.get 0 rfl) 3).trans (by rw [List.getElem?_toArray]; exact HC.out.2.2.1)
  clear S4 h4 H3 g2 z0
  go_upto_region 7 with (go_at_call 37; refine (luse_st H4.out 4 rfl p HM1.out.1).mono ?_; rintro e w5 ⟨rfl, h5⟩)
  have S5 : St F w0 w5 (sQ g Cl.toArray (.slice (some ⟨rb, 0, none⟩) c.most rc) (.slice (some ⟨fb, 0, none⟩) fl kf) (x.d.R.set p r) fr (tO x.tg c.most S' ((r.f0, (p : Int)) :: x.d.T)) (lA x.ug x.bg c.most (p :: dropO x.d.o (p : Int))) (wO x.wg x.Fw x.d.m) (SI c s x.d) ++ (M ++ [blk z (eRc r).toArray 37])) := h5
  have H5 := Lib.hid S5
  have hz0 := blk_cell (S5.get (7 + M.length) (q_end _ _ _ _ _ _ _ _ _ _ _ _))
  have hg0 := blk_cell (S5.get 0 rfl)
  have g4 : w5.cell? ⟨g, 4, none⟩ = some (.pointer (some ⟨x.wg, 0, none⟩)) := (hg0 4).trans (by rw [List.getElem?_toArray]; exact HC.out.2.2.2.1)
  have g9 : w5.cell? ⟨g, 263, none⟩ = some (.int .u64 (c.keep : Nat)) := (hg0 263).trans (by rw [List.getElem?_toArray]; exact HC.out.2.2.2.2.1)
  have z1 : w5.cell? ⟨z, 1, none⟩ = some (.int .u64 r.f1.f0) := hz0 1
  have hph := HPH.out
  clear S5 h5 H4 g3 hz0 hg0
  refine wp_region_qtail_drewN 13 (by kernel_rfl) (by kernel_rfl) ?_
  simp only [List.take_succ_cons, List.take_zero, List.drop_succ_cons, List.drop_zero]
  repeat (go_big_quiet_step (fail))
  refine wpQuiet_nil ?_
  rintro _ ⟨n5, rfl⟩
  go_upto_region 8 with (go_at_call 59; refine (wadd_st (H5.out.drewN n5) 5 rfl (p : Int) (r.f1.f0 + (c.keep : Int)) ?_ ?_ hml.out).mono ?_; (omega); (omega); rintro e w6 ⟨rfl, Sw, h6⟩)
  have S6 : St F w0 w6 (sQ g Cl.toArray (.slice (some ⟨rb, 0, none⟩) c.most rc) (.slice (some ⟨fb, 0, none⟩) fl kf) (x.d.R.set p r) fr (tO x.tg c.most S' ((r.f0, (p : Int)) :: x.d.T)) (lA x.ug x.bg c.most (p :: dropO x.d.o (p : Int))) (wO x.wg Sw (addM x.d.m (p : Int) (r.f1.f0 + (c.keep : Int)))) (SI c s x.d) ++ (M ++ [blk z (eRc r).toArray 37])) := h6
  have H6 := Lib.hid S6
  have hkl : (rgN r.f0 : Int) < 64 := by have := rgN_lt r.f0; omega
  clear S6 h6 H5 g4 g9 z1 hph
  have hlt := And.intro (H6.out.blt 0 rfl) (H6.out.blt (7 + M.length) (q_end _ _ _ _ _ _ _ _ _ _ _ _))
  have HF6 : Hid (∀ w', Below w6.heap.size w6 w' → w'.cell? ⟨z, 0, none⟩ = some (.string r.f0) ∧ w'.cell? ⟨z, 1, none⟩ = some (.int .u64 r.f1.f0) ∧ w'.cell? ⟨z, 2, none⟩ = some (.int .u32 r.f1.f1) ∧ w'.cell? ⟨z, 3, none⟩ = some (.int .u8 r.f1.f2) ∧ w'.cell? ⟨z, 4, none⟩ = some (.int .u8 r.f2) ∧ w'.cell? ⟨z, 5, none⟩ = some (.int .u32 r.f3) ∧ w'.cell? ⟨z, 6, none⟩ = some (.int .u64 r.f4) ∧ w'.cell? ⟨z, 7, none⟩ = some (.string r.f5) ∧ w'.cell? ⟨g, 197 + rgN r.f0, none⟩ = some (.int .u64 (dgL s.L (rgN r.f0) : Nat))) := Lib.hid fun w' b => by
    have hz0 := blk_cell (H6.out.get (7 + M.length) (q_end _ _ _ _ _ _ _ _ _ _ _ _))
    have hg0 := blk_cell (H6.out.get 0 rfl)
    have e : ∀ j, w'.cell? ⟨z, j, none⟩ = (eRc r).toArray[j]? := fun j => (b.cell (p := ⟨z, j, none⟩) hlt.2).trans (hz0 j)
    have e' : ∀ j, w'.cell? ⟨g, j, none⟩ = Cl[j]? := fun j => ((b.cell (p := ⟨g, j, none⟩) hlt.1).trans (hg0 j)).trans (by rw [List.getElem?_toArray])
    exact ⟨e 0, e 1, e 2, e 3, e 4, e 5, e 6, e 7, (e' _).trans (HC.out.2.2.2.2.2)⟩
  clear hlt
  refine wp_region_qtail (fun w' => Below w6.heap.size w6 w') 14 (by kernel_rfl) (by kernel_rfl) (Below.refl _ _).drew ?_
  simp only [List.take_succ_cons, List.take_zero, List.drop_succ_cons, List.drop_zero]
  repeat (first | go_big_quiet_skip | (go_big_quiet_want; refine quiet_mk (v := ?_) ?_ ?_; rotate_left; (focus (intro w' hC; obtain ⟨f0, f1, f2, f3, f4, f5, f6, f7, f8⟩ := HF6.out w' hC; go_simp; first | done | with_reducible rfl | (first | (go_at_call 31; refine (range_c r.f0 (by have := HX.out; omega) _).mono ?_; rintro e w5 ⟨rfl, ⟨n5, rfl⟩⟩; refine ⟨?_, pw_below_drewN hC _⟩; with_reducible rfl) | (go_at_call 56; refine (dig_c r (by have := HX.out; omega) _).mono ?_; rintro e w5 ⟨rfl, hB5⟩; refine ⟨?_, hC.trans (hB5.mono hC.size)⟩; with_reducible rfl)))); go_big_quiet_on; simp only [Act.put, List.setIfInBounds_toArray, List.set_cons_zero, List.set_cons_succ]))
  refine wpQuiet_nil ?_
  intro w7 hB7
  have T7 := H6.out.below hB7
  have e7 : w7.cell? ⟨g, 197 + rgN r.f0, none⟩ = some (.int .u64 (dgL s.L (rgN r.f0) : Nat)) := (HF6.out w7 hB7).2.2.2.2.2.2.2.2
  have x7 : w7.frozen? ⟨g, 197 + rgN r.f0, none⟩ = false := T7.frozen 0 rfl _
  have H7 := Lib.hid T7
  clear T7 hB7 H6 HF6
  go_upto_region 9 with fail
  have T8 := H7.out.set 0 rfl (197 + rgN r.f0) (.int .u64 (Go.bits .xor .u64 (dgL s.L (rgN r.f0) : Nat) (digI r)))
  have hx : Go.bits .xor .u64 (dgL s.L (rgN r.f0) : Nat) (digI r) = ((dgL s.L (rgN r.f0) ^^^ digN r : Nat) : Int) := by rw [digN_i]; exact u64_xor_nat _ _ (dgL_lt _ _) (digN_lt r)
  rw [hx] at T8
  rw [hx]
  have eC : Cl.toArray.setIfInBounds (197 + rgN r.f0) (.int .u64 ((dgL s.L (rgN r.f0) ^^^ digN r : Nat) : Int)) = (sCells (.slice (some ⟨rb, 0, none⟩) c.most rc) (.slice (some ⟨fb, 0, none⟩) fl kf) x.tg x.ug x.wg c s.F (x.d.D.set (rgN r.f0) (dgL s.L (rgN r.f0) ^^^ digN r)) (szL s.L) s.ev).toArray := by
    rw [List.setIfInBounds_toArray, ← HCL.out, sc_setDig HDL.out.2.1 (by rw [HDL.out.2.2]; exact rgN_lt _)]
  rw [eC] at T8
  clear eC hx e7 x7 hkl
  generalize hD' : x.d.D.set (rgN r.f0) (dgL s.L (rgN r.f0) ^^^ digN r) = D' at *
  have hDl : D'.length = 64 := by rw [← hD', List.length_set]; exact HDL.out.2.2
  have HDl := Lib.hid hDl
  clear hD' hDl
  generalize World.setCell w7 _ _ = w8 at *
  obtain ⟨Cm, hCm⟩ : ∃ Cm, sCells (.slice (some ⟨rb, 0, none⟩) c.most rc) (.slice (some ⟨fb, 0, none⟩) fl kf) x.tg x.ug x.wg c s.F D' (szL s.L) s.ev = Cm := ⟨_, rfl⟩
  rw [hCm] at T8
  have HCM := Lib.hid hCm
  have HN : Hid (Cm[264]? = some (.int .i64 (szL s.L : Nat))) := by
    rw [← hCm]
    exact Lib.hid (sc_end HDL.out.2.1 HDl.out 3)
  clear hCm
  have T8' : St F w0 w8 (sQ g Cm.toArray (.slice (some ⟨rb, 0, none⟩) c.most rc) (.slice (some ⟨fb, 0, none⟩) fl kf) (x.d.R.set p r) fr (tO x.tg c.most S' ((r.f0, (p : Int)) :: x.d.T)) (lA x.ug x.bg c.most (p :: dropO x.d.o (p : Int))) (wO x.wg Sw (addM x.d.m (p : Int) (r.f1.f0 + (c.keep : Int)))) (SI c s x.d) ++ (M ++ [blk z (eRc r).toArray 37])) := T8
  have H8 := Lib.hid T8'
  clear T8 T8' H7
  have hlt := And.intro (H8.out.blt 0 rfl) (H8.out.blt (7 + M.length) (q_end _ _ _ _ _ _ _ _ _ _ _ _))
  have HF8 : Hid (∀ w', Below w8.heap.size w8 w' → w'.cell? ⟨z, 0, none⟩ = some (.string r.f0) ∧ w'.cell? ⟨z, 1, none⟩ = some (.int .u64 r.f1.f0) ∧ w'.cell? ⟨z, 2, none⟩ = some (.int .u32 r.f1.f1) ∧ w'.cell? ⟨z, 3, none⟩ = some (.int .u8 r.f1.f2) ∧ w'.cell? ⟨z, 4, none⟩ = some (.int .u8 r.f2) ∧ w'.cell? ⟨z, 5, none⟩ = some (.int .u32 r.f3) ∧ w'.cell? ⟨z, 6, none⟩ = some (.int .u64 r.f4) ∧ w'.cell? ⟨z, 7, none⟩ = some (.string r.f5) ∧ w'.cell? ⟨g, 264, none⟩ = some (.int .i64 (szL s.L : Nat))) := Lib.hid fun w' b => by
    have hz0 := blk_cell (H8.out.get (7 + M.length) (q_end _ _ _ _ _ _ _ _ _ _ _ _))
    have hg0 := blk_cell (H8.out.get 0 rfl)
    have e : ∀ j, w'.cell? ⟨z, j, none⟩ = (eRc r).toArray[j]? := fun j => (b.cell (p := ⟨z, j, none⟩) hlt.2).trans (hz0 j)
    have e' : ∀ j, w'.cell? ⟨g, j, none⟩ = Cm[j]? := fun j => ((b.cell (p := ⟨g, j, none⟩) hlt.1).trans (hg0 j)).trans (by rw [List.getElem?_toArray])
    exact ⟨e 0, e 1, e 2, e 3, e 4, e 5, e 6, e 7, (e' _).trans (HN.out)⟩
  clear hlt
  obtain ⟨sz, hsz⟩ : ∃ sz, szL s.L = sz := ⟨_, rfl⟩
  have hs1 : (sz : Int) ≤ 2000000 := by have h1 := HI.out.size; have h2 := HI.out.b2; omega
  have hs2 : (wgt r : Int) ≤ 2000000 := by have h1 := HSZ.out; have h2 := HI.out.b2; omega
  rw [hsz] at HF8
  have HSZ2 := Lib.hid hsz
  clear hsz
  refine wp_region_qtail (fun w' => Below w8.heap.size w8 w') 9 (by kernel_rfl) (by kernel_rfl) (Below.refl _ _).drew ?_
  simp only [List.take_succ_cons, List.take_zero, List.drop_succ_cons, List.drop_zero]
  repeat (first | go_big_quiet_skip | (go_big_quiet_want; refine quiet_mk (v := ?_) ?_ ?_; rotate_left; (focus (intro w' hC; obtain ⟨f0, f1, f2, f3, f4, f5, f6, f7, f8⟩ := HF8.out w' hC; go_simp; first | done | with_reducible rfl | (go_at_call 32; refine (weight_c r (by have := HX.out; omega) (by have := HX.out; omega) _).mono ?_; rintro e w5 ⟨rfl, hB5⟩; refine ⟨?_, hC.trans (hB5.mono hC.size)⟩; with_reducible rfl))); go_big_quiet_on; simp only [Act.put, List.setIfInBounds_toArray, List.set_cons_zero, List.set_cons_succ]))
  refine wpQuiet_nil ?_
  intro w9 hB9
  have T9 := H8.out.below hB9
  have e9 : w9.cell? ⟨g, 264, none⟩ = some (.int .i64 (sz : Nat)) := (HF8.out w9 hB9).2.2.2.2.2.2.2.2
  have x9 : w9.frozen? ⟨g, 264, none⟩ = false := T9.frozen 0 rfl _
  have H9 := Lib.hid T9
  clear T9 hB9 H8 HF8
  go_wp2_with fail
  go_end0
  have T10 := H9.out.set 0 rfl 264 (.int .i64 ((sz : Int) + (wgt r : Int)))
  have hx : (sz : Int) + (wgt r : Int) = ((szL (r :: s.L) : Nat) : Int) := by rw [szL_cons]; have h2 := HSZ2.out; omega
  rw [hx] at T10
  rw [hx]
  have eC : Cm.toArray.setIfInBounds 264 (.int .i64 ((szL (r :: s.L) : Nat) : Int)) = (sCells (.slice (some ⟨rb, 0, none⟩) c.most rc) (.slice (some ⟨fb, 0, none⟩) fl kf) x.tg x.ug x.wg c s.F D' (szL (r :: s.L)) s.ev).toArray := by
    rw [List.setIfInBounds_toArray, ← HCM.out, sc_setSize HDL.out.2.1 HDl.out]
  rw [eC] at T10
  have T11 := T10.pure 6 rfl (p' := SI c ⟨r :: s.L, s.F, s.ev⟩ ⟨x.d.R.set p r, fr, (r.f0, (p : Int)) :: x.d.T, p :: dropO x.d.o (p : Int), addM x.d.m (p : Int) (r.f1.f0 + (c.keep : Int)), D', x.d.b⟩) HR.out
  have T12 : St F w0 _ (sL g c ⟨r :: s.L, s.F, s.ev⟩ ⟨(.slice (some ⟨rb, 0, none⟩) c.most rc), (.slice (some ⟨fb, 0, none⟩) fl kf), x.tg, x.ug, x.bg, x.wg, S', Sw, ⟨x.d.R.set p r, fr, (r.f0, (p : Int)) :: x.d.T, p :: dropO x.d.o (p : Int), addM x.d.m (p : Int) (r.f1.f0 + (c.keep : Int)), D', x.d.b⟩⟩ ++ (M ++ [blk z (eRc r).toArray 37])) := T11
  exact ⟨rfl, _, T12.sub (List.Sublist.append_left (List.sublist_append_left M _) _), HBT.out⟩
end Go.Proofs.Ytecgnfklfgjgaaa
