/- The store's take: a record taken out of its place. -/
import Derived.Test.YtecgnfklfgjgaaaStA
set_option linter.unusedVariables false
set_option linter.unusedSimpArgs false
namespace Go.Proofs.Ytecgnfklfgjgaaa
open Go.RowKit Go.Tat Go.Tab Go.Proofs.YtecgnfklfgjgaaaW.PrintWords PStorePeeks
def sQ (g : Nat) (C : Array Value) (vR vF : Value) (R : List Rc) (fr : List Nat) (a b c : Asr) (p : Prop) : List Asr :=
  [blk g C 70, slc k37 37 vR R, slc (Kd.int .i64) 3 vF (ofFr fr), a, b, c, pureA p]
theorem sL_q (g : Nat) (c : SC) (s : SM) (x : SD) : sL g c s x = sQ g (sCells x.vR x.vF x.tg x.ug x.wg c s.F x.d.D (szL s.L) s.ev).toArray x.vR x.vF x.d.R x.d.fr (tO x.tg c.most x.Ft x.d.T) (lA x.ug x.bg c.most x.d.o) (wO x.wg x.Fw x.d.m) (SI c s x.d) := rfl
theorem rec_size : (Try.prog.info? 37).map (·.size) = some 8 := by kernel_rfl
theorem int_info : (Try.prog.info? 3).map (fun i => (i.zero, i.size, i.bytes)) = some (some (.int .i64 0), 1, 8) := by kernel_rfl
theorem q_end (g : Nat) (C : Array Value) (vR vF : Value) (R : List Rc) (fr : List Nat) (a b c : Asr) (p : Prop) (M : List Asr) (y : Asr) : (sQ g C vR vF R fr a b c p ++ (M ++ [y]))[7 + M.length]? = some y := by
  unfold sQ
  rw [List.getElem?_append_right (by simp), List.getElem?_append_right (by simp)]
  simp
def takePost (F : Nat → Prop) (w0 : World) (g : Nat) (c : SC) (s : SM) (x : SD) (p : Nat) (M : List Asr) (e : Ending) (w' : World) : Prop :=
  e = .returned (.tuple #[]) ∧ ∃ x', St F w0 w' (sL g c ⟨wo s.L (rAt x.d.R p).f0, s.F, s.ev⟩ x' ++ M) ∧ x'.d.R = x.d.R.set p zRc ∧ x'.d.o = dropO x.d.o (p : Int) ∧ x'.d.m = x.d.m.filter (notId (p : Int)) ∧ x'.d.b = x.d.b
set_option maxRecDepth 100000 in
set_option maxHeartbeats 8000000 in
theorem take_st {F : Nat → Prop} {w0 w : World} {g : Nat} {c : SC} {s : SM} {x : SD} {M : List Asr} (h : St F w0 w (sL g c s x ++ M)) {p : Nat} (hp : p ∈ x.d.o) :
    Calls Try.prog 33 #[.pointer (some ⟨g, 0, none⟩), .int .i64 (p : Int)] w (takePost F w0 g c s x p M) := by
  have hI := sL_si h
  have HI := Lib.hid hI
  obtain ⟨rb, rc, hvR⟩ := sL_R h
  obtain ⟨Af, kf, hvF⟩ := sL_F h
  have hpm : p < c.most := hI.olt hp
  have hRp : x.d.R[p]? = some (rAt x.d.R p) := rAt_get (by rw [hI.rl]; exact hpm)
  have hr := hI.may _ (hI.mem hp)
  have hlens := may_lens hr.1
  have g0 := sL_cell h 0
  have r0 := (sL_rec h hvR hRp 0 (by decide)).1
  have r1 := (sL_rec h hvR hRp 1 (by decide)).1
  have r2 := (sL_rec h hvR hRp 2 (by decide)).1
  have r3 := (sL_rec h hvR hRp 3 (by decide)).1
  have r4 := (sL_rec h hvR hRp 4 (by decide)).1
  have r5 := (sL_rec h hvR hRp 5 (by decide)).1
  have r6 := (sL_rec h hvR hRp 6 (by decide)).1
  have r7 := (sL_rec h hvR hRp 7 (by decide)).1
  have HT : Hid (∃ T', x.d.T.Perm (((rAt x.d.R p).f0, (p : Int)) :: T')) := Lib.hid (by
    have hm : ((rAt x.d.R p).f0, (p : Int)) ∈ x.d.T := hI.T.mem_iff.2 (List.mem_map.2 ⟨p, hp, rfl⟩)
    obtain ⟨u, v, e⟩ := List.append_of_mem hm
    exact ⟨u ++ v, by rw [e]; exact List.perm_middle⟩)
  obtain ⟨T', hT'⟩ := HT.out
  clear HT
  have HT := Lib.hid hT'
  have HP := Lib.hid hp
  have HR : Hid (SI c ⟨wo s.L (rAt x.d.R p).f0, s.F, s.ev⟩ ⟨x.d.R.set p zRc, x.d.fr ++ [p], T', dropO x.d.o (p : Int), x.d.m.filter (notId (p : Int)), x.d.D.set (rgN (rAt x.d.R p).f0) (dgL s.L (rgN (rAt x.d.R p).f0) ^^^ digN (rAt x.d.R p)), x.d.b⟩) := Lib.hid (hI.take hp hT')
  have hsz : szL s.L = wgt (rAt x.d.R p) + szL (wo s.L (rAt x.d.R p).f0) := by rw [szL_perm (wo_perm hI.keys (hI.mem hp)), szL_cons]
  have HZ := Lib.hid hsz
  have hfl : x.d.fr.length + 1 ≤ c.most := by have h1 := hI.lens; have h2 := List.length_pos_of_mem hp; omega
  have HFL := Lib.hid hfl
  have hpi : (p : Int) < (c.most : Int) := by omega
  have hmi : (c.most : Int) ≤ 1024 := by have := hI.m2; omega
  have HX := Lib.hid hlens
  have HM1 := Lib.hid (And.intro hpm hI.m2)
  have HRP := Lib.hid hRp
  rw [sL_q, hvR, hvF] at h
  obtain ⟨r, hrr⟩ : ∃ r, rAt x.d.R p = r := ⟨_, rfl⟩
  have hdl : x.d.D[rgN r.f0]? = some (dgL s.L (rgN r.f0)) := hI.D _ (rgN_lt _)
  have HDL := Lib.hid (And.intro hdl (And.intro hI.Fl hI.Dl))
  rw [hrr] at HR HT HX HZ HRP r0 r1 r2 r3 r4 r5 r6 r7
  have HRR := Lib.hid hrr
  have H := Lib.hid h
  clear h hI hp hr hlens hT' hsz hfl hpm hRp hrr hdl
  rw [show (sCells x.vR x.vF x.tg x.ug x.wg c s.F x.d.D (szL s.L) s.ev)[0]? = some x.vR from rfl, hvR] at g0
  have HVR := Lib.hid (And.intro hvR hvF)
  clear hvR hvF
  simp only [eRc, List.getElem?_cons_zero, List.getElem?_cons_succ, Nat.add_zero] at r0 r1 r2 r3 r4 r5 r6 r7
  go_enter Try.func33, Try.ntmps33
  go_upto_region 1 with fail
  have S1 := H.out.new' #[.string r.f0, .int .u64 r.f1.f0, .int .u32 r.f1.f1, .int .u8 r.f1.f2, .int .u8 r.f2, .int .u32 r.f3, .int .u64 r.f4, .string r.f5] 37 w.heap.size rfl
  rw [List.append_assoc] at S1
  obtain ⟨z, hz⟩ : ∃ z, w.heap.size = z := ⟨_, rfl⟩
  rw [hz] at S1 ⊢
  clear hz
  generalize World.alloc w _ = w1 at *
  clear g0 r0 r1 r2 r3 r4 r5 r6 r7
  obtain ⟨Cl, hCl⟩ : ∃ Cl, sCells (.slice (some ⟨rb, 0, none⟩) c.most rc) (.slice Af x.d.fr.length kf) x.tg x.ug x.wg c s.F x.d.D (szL s.L) s.ev = Cl := ⟨_, rfl⟩
  have HCL := Lib.hid hCl
  rw [hCl] at S1
  have HC : Hid (Cl[0]? = some (.slice (some ⟨rb, 0, none⟩) c.most rc) ∧ Cl[1]? = some (.slice Af x.d.fr.length kf) ∧ Cl[2]? = some (.pointer (some ⟨x.tg, 0, none⟩)) ∧ Cl[3]? = some (.pointer (some ⟨x.ug, 0, none⟩)) ∧ Cl[4]? = some (.pointer (some ⟨x.wg, 0, none⟩)) ∧ Cl[197 + rgN r.f0]? = some (.int .u64 (dgL s.L (rgN r.f0) : Nat)) ∧ Cl[264]? = some (.int .i64 (szL s.L : Nat))) := by
    rw [← hCl]
    exact Lib.hid ⟨rfl, rfl, rfl, rfl, rfl, sc_dig HDL.out.2.1 HDL.out.1, sc_end HDL.out.2.1 HDL.out.2.2 3⟩
  clear hCl
  have hg0 := blk_cell (S1.get 0 rfl)
  have c2 : w1.cell? ⟨g, 2, none⟩ = some (.pointer (some ⟨x.tg, 0, none⟩)) := (hg0 2).trans (by rw [List.getElem?_toArray]; exact HC.out.2.2.1)
  have z0 : w1.cell? ⟨z, 0, none⟩ = some (.string r.f0) := blk_cell (S1.get (7 + M.length) (q_end _ _ _ _ _ _ _ _ _ _ _ _)) 0
  have H1 := Lib.hid S1
  clear S1 hg0
  refine wp_region_qtail_drewN 6 (by kernel_rfl) (by kernel_rfl) ?_
  simp only [List.take_succ_cons, List.take_zero, List.drop_succ_cons, List.drop_zero]
  repeat (go_big_quiet_step (fail))
  refine wpQuiet_nil ?_
  rintro _ ⟨n1, rfl⟩
  go_upto_region 2 with (go_at_call 53; refine (tdrop_st (H1.out.drewN n1) 3 rfl r.f0 (p : Int) (by have := HX.out; omega) HT.out).mono ?_; rintro e w2 ⟨rfl, S', h2⟩)
  have S2 : St F w0 w2 (sQ g Cl.toArray (.slice (some ⟨rb, 0, none⟩) c.most rc) (.slice Af x.d.fr.length kf) x.d.R x.d.fr (tO x.tg c.most S' T') (lA x.ug x.bg c.most x.d.o) (wO x.wg x.Fw x.d.m) (SI c s x.d) ++ (M ++ [blk z (eRc r).toArray 37])) := h2
  have H2 := Lib.hid S2
  have c3 : w2.cell? ⟨g, 3, none⟩ = some (.pointer (some ⟨x.ug, 0, none⟩)) := (blk_cell (S2.get 0 rfl) 3).trans (by rw [List.getElem?_toArray]; exact HC.out.2.2.2.1)
  clear h2 S2 c2 z0 H1
  go_upto_region 3 with (go_at_call 54; refine (ldrop_st H2.out 4 rfl (p : Int)).mono ?_; rintro e w3 ⟨⟨v3, rfl⟩, h3⟩)
  have S3 : St F w0 w3 (sQ g Cl.toArray (.slice (some ⟨rb, 0, none⟩) c.most rc) (.slice Af x.d.fr.length kf) x.d.R x.d.fr (tO x.tg c.most S' T') (lA x.ug x.bg c.most (dropO x.d.o (p : Int))) (wO x.wg x.Fw x.d.m) (SI c s x.d) ++ (M ++ [blk z (eRc r).toArray 37])) := h3
  have H3 := Lib.hid S3
  have c4 : w3.cell? ⟨g, 4, none⟩ = some (.pointer (some ⟨x.wg, 0, none⟩)) := (blk_cell (S3.get 0 rfl) 4).trans (by rw [List.getElem?_toArray]; exact HC.out.2.2.2.2.1)
  clear h3 S3 c3 H2
  go_upto_region 4 with (go_at_call 55; refine (wdrop_st H3.out 5 rfl (p : Int)).mono ?_; rintro e w4 ⟨rfl, Sw, h4⟩)
  have S4 : St F w0 w4 (sQ g Cl.toArray (.slice (some ⟨rb, 0, none⟩) c.most rc) (.slice Af x.d.fr.length kf) x.d.R x.d.fr (tO x.tg c.most S' T') (lA x.ug x.bg c.most (dropO x.d.o (p : Int))) (wO x.wg Sw (x.d.m.filter (notId (p : Int)))) (SI c s x.d) ++ (M ++ [blk z (eRc r).toArray 37])) := h4
  clear h4 c4 H3
  have H4 := Lib.hid S4
  have hkl : (rgN r.f0 : Int) < 64 := by have := rgN_lt r.f0; omega
  have hlt := And.intro (S4.blt 0 rfl) (S4.blt (7 + M.length) (q_end _ _ _ _ _ _ _ _ _ _ _ _))
  have HF4 : Hid (∀ w', Below w4.heap.size w4 w' → w'.cell? ⟨z, 0, none⟩ = some (.string r.f0) ∧ w'.cell? ⟨z, 1, none⟩ = some (.int .u64 r.f1.f0) ∧ w'.cell? ⟨z, 2, none⟩ = some (.int .u32 r.f1.f1) ∧ w'.cell? ⟨z, 3, none⟩ = some (.int .u8 r.f1.f2) ∧ w'.cell? ⟨z, 4, none⟩ = some (.int .u8 r.f2) ∧ w'.cell? ⟨z, 5, none⟩ = some (.int .u32 r.f3) ∧ w'.cell? ⟨z, 6, none⟩ = some (.int .u64 r.f4) ∧ w'.cell? ⟨z, 7, none⟩ = some (.string r.f5) ∧ w'.cell? ⟨g, 197 + rgN r.f0, none⟩ = some (.int .u64 (dgL s.L (rgN r.f0) : Nat)) ∧ w'.cell? ⟨g, 264, none⟩ = some (.int .i64 (szL s.L : Nat))) := Lib.hid fun w' b => by
    have hz0 := blk_cell (H4.out.get (7 + M.length) (q_end _ _ _ _ _ _ _ _ _ _ _ _))
    have hg0 := blk_cell (H4.out.get 0 rfl)
    have e : ∀ j, w'.cell? ⟨z, j, none⟩ = (eRc r).toArray[j]? := fun j => (b.cell (p := ⟨z, j, none⟩) hlt.2).trans (hz0 j)
    have e' : ∀ j, w'.cell? ⟨g, j, none⟩ = Cl[j]? := fun j => ((b.cell (p := ⟨g, j, none⟩) hlt.1).trans (hg0 j)).trans (by rw [List.getElem?_toArray])
    exact ⟨e 0, e 1, e 2, e 3, e 4, e 5, e 6, e 7, (e' _).trans HC.out.2.2.2.2.2.1, (e' _).trans HC.out.2.2.2.2.2.2⟩
  clear S4 hlt
  refine wp_region_qtail (fun w' => Below w4.heap.size w4 w') 14 (by kernel_rfl) (by kernel_rfl) (Below.refl _ _).drew ?_
  simp only [List.take_succ_cons, List.take_zero, List.drop_succ_cons, List.drop_zero]
  repeat (first | go_big_quiet_skip | (go_big_quiet_want; refine quiet_mk (v := ?_) ?_ ?_; rotate_left; (focus (intro w' hC; obtain ⟨f0, f1, f2, f3, f4, f5, f6, f7, f8, f9⟩ := HF4.out w' hC; go_simp; first | done | with_reducible rfl | (first | (go_at_call 31; refine (range_c r.f0 (by have := HX.out; omega) _).mono ?_; rintro e w5 ⟨rfl, ⟨n5, rfl⟩⟩; refine ⟨?_, pw_below_drewN hC _⟩; with_reducible rfl) | (go_at_call 56; refine (dig_c r (by have := HX.out; omega) _).mono ?_; rintro e w5 ⟨rfl, hB5⟩; refine ⟨?_, hC.trans (hB5.mono hC.size)⟩; with_reducible rfl)))); go_big_quiet_on; simp only [Act.put, List.setIfInBounds_toArray, List.set_cons_zero, List.set_cons_succ]))
  refine wpQuiet_nil ?_
  intro w5 hB5
  have T5 := H4.out.below hB5
  have e5 : w5.cell? ⟨g, 197 + rgN r.f0, none⟩ = some (.int .u64 (dgL s.L (rgN r.f0) : Nat)) := (HF4.out w5 hB5).2.2.2.2.2.2.2.2.1
  have x5 : w5.frozen? ⟨g, 197 + rgN r.f0, none⟩ = false := T5.frozen 0 rfl _
  have H5 := Lib.hid T5
  clear T5 hB5 H4 HF4
  go_upto_region 5 with fail
  have T6 := H5.out.set 0 rfl (197 + rgN r.f0) (.int .u64 (Go.bits .xor .u64 (dgL s.L (rgN r.f0) : Nat) (digI r)))
  have hx : Go.bits .xor .u64 (dgL s.L (rgN r.f0) : Nat) (digI r) = ((dgL s.L (rgN r.f0) ^^^ digN r : Nat) : Int) := by rw [digN_i]; exact u64_xor_nat _ _ (dgL_lt _ _) (digN_lt r)
  rw [hx] at T6
  rw [hx]
  have eC : Cl.toArray.setIfInBounds (197 + rgN r.f0) (.int .u64 ((dgL s.L (rgN r.f0) ^^^ digN r : Nat) : Int)) = (sCells (.slice (some ⟨rb, 0, none⟩) c.most rc) (.slice Af x.d.fr.length kf) x.tg x.ug x.wg c s.F (x.d.D.set (rgN r.f0) (dgL s.L (rgN r.f0) ^^^ digN r)) (szL s.L) s.ev).toArray := by
    rw [List.setIfInBounds_toArray, ← HCL.out, sc_setDig HDL.out.2.1 (by rw [HDL.out.2.2]; exact rgN_lt _)]
  rw [eC] at T6
  clear eC hx e5 x5
  generalize hD' : x.d.D.set (rgN r.f0) (dgL s.L (rgN r.f0) ^^^ digN r) = D' at *
  have hDl : D'.length = 64 := by rw [← hD', List.length_set]; exact HDL.out.2.2
  have HDl := Lib.hid hDl
  have HD' := Lib.hid hD'
  clear hD' hDl
  generalize World.setCell w5 _ _ = w6 at *
  obtain ⟨Cm, hCm⟩ : ∃ Cm, sCells (.slice (some ⟨rb, 0, none⟩) c.most rc) (.slice Af x.d.fr.length kf) x.tg x.ug x.wg c s.F D' (szL s.L) s.ev = Cm := ⟨_, rfl⟩
  rw [hCm] at T6
  have HCM := Lib.hid hCm
  have HN : Hid (Cm[0]? = some (.slice (some ⟨rb, 0, none⟩) c.most rc) ∧ Cm[264]? = some (.int .i64 (szL s.L : Nat))) := by
    rw [← hCm]
    exact Lib.hid ⟨rfl, sc_end HDL.out.2.1 HDl.out 3⟩
  clear hCm
  have T6' : St F w0 w6 (sQ g Cm.toArray (.slice (some ⟨rb, 0, none⟩) c.most rc) (.slice Af x.d.fr.length kf) x.d.R x.d.fr (tO x.tg c.most S' T') (lA x.ug x.bg c.most (dropO x.d.o (p : Int))) (wO x.wg Sw (x.d.m.filter (notId (p : Int)))) (SI c s x.d) ++ (M ++ [blk z (eRc r).toArray 37])) := T6
  have H6 := Lib.hid T6'
  have hlt := And.intro (T6'.blt 0 rfl) (T6'.blt (7 + M.length) (q_end _ _ _ _ _ _ _ _ _ _ _ _))
  have HF6 : Hid (∀ w', Below w6.heap.size w6 w' → w'.cell? ⟨z, 0, none⟩ = some (.string r.f0) ∧ w'.cell? ⟨z, 1, none⟩ = some (.int .u64 r.f1.f0) ∧ w'.cell? ⟨z, 2, none⟩ = some (.int .u32 r.f1.f1) ∧ w'.cell? ⟨z, 3, none⟩ = some (.int .u8 r.f1.f2) ∧ w'.cell? ⟨z, 4, none⟩ = some (.int .u8 r.f2) ∧ w'.cell? ⟨z, 5, none⟩ = some (.int .u32 r.f3) ∧ w'.cell? ⟨z, 6, none⟩ = some (.int .u64 r.f4) ∧ w'.cell? ⟨z, 7, none⟩ = some (.string r.f5) ∧ w'.cell? ⟨g, 264, none⟩ = some (.int .i64 (szL s.L : Nat))) := Lib.hid fun w' b => by
    have hz0 := blk_cell (H6.out.get (7 + M.length) (q_end _ _ _ _ _ _ _ _ _ _ _ _))
    have hg0 := blk_cell (H6.out.get 0 rfl)
    have e : ∀ j, w'.cell? ⟨z, j, none⟩ = (eRc r).toArray[j]? := fun j => (b.cell (p := ⟨z, j, none⟩) hlt.2).trans (hz0 j)
    have e' : ∀ j, w'.cell? ⟨g, j, none⟩ = Cm[j]? := fun j => ((b.cell (p := ⟨g, j, none⟩) hlt.1).trans (hg0 j)).trans (by rw [List.getElem?_toArray])
    exact ⟨e 0, e 1, e 2, e 3, e 4, e 5, e 6, e 7, (e' _).trans HN.out.2⟩
  clear T6 T6' hlt hkl H5
  obtain ⟨sz, hsz⟩ : ∃ sz, szL s.L = sz := ⟨_, rfl⟩
  have hs1 : (sz : Int) ≤ 2000000 := by have h1 := HI.out.size; have h2 := HI.out.b2; omega
  have hs2 : (wgt r : Int) ≤ (sz : Int) := by have := HZ.out; omega
  rw [hsz] at HF6
  have HSZ := Lib.hid hsz
  clear hsz
  refine wp_region_qtail (fun w' => Below w6.heap.size w6 w') 9 (by kernel_rfl) (by kernel_rfl) (Below.refl _ _).drew ?_
  simp only [List.take_succ_cons, List.take_zero, List.drop_succ_cons, List.drop_zero]
  repeat (first | go_big_quiet_skip | (go_big_quiet_want; refine quiet_mk (v := ?_) ?_ ?_; rotate_left; (focus (intro w' hC; obtain ⟨f0, f1, f2, f3, f4, f5, f6, f7, f8⟩ := HF6.out w' hC; go_simp; first | done | with_reducible rfl | (go_at_call 32; refine (weight_c r (by have := HX.out; omega) (by have := HX.out; omega) _).mono ?_; rintro e w5 ⟨rfl, hB5⟩; refine ⟨?_, hC.trans (hB5.mono hC.size)⟩; with_reducible rfl))); go_big_quiet_on; simp only [Act.put, List.setIfInBounds_toArray, List.set_cons_zero, List.set_cons_succ]))
  refine wpQuiet_nil ?_
  intro w7 hB7
  have T7 := H6.out.below hB7
  have e7 : w7.cell? ⟨g, 264, none⟩ = some (.int .i64 (sz : Nat)) := (HF6.out w7 hB7).2.2.2.2.2.2.2.2
  have x7 : w7.frozen? ⟨g, 264, none⟩ = false := T7.frozen 0 rfl _
  have H7 := Lib.hid T7
  clear T7 hB7 H6 HF6
  go_upto_region 6 with fail
  have T8 := H7.out.set 0 rfl 264 (.int .i64 ((sz : Int) - (wgt r : Int)))
  have hx : (sz : Int) - (wgt r : Int) = ((szL (wo s.L r.f0) : Nat) : Int) := by have h1 := HZ.out; have h2 := HSZ.out; omega
  rw [hx] at T8
  rw [hx]
  have eC : Cm.toArray.setIfInBounds 264 (.int .i64 ((szL (wo s.L r.f0) : Nat) : Int)) = (sCells (.slice (some ⟨rb, 0, none⟩) c.most rc) (.slice Af x.d.fr.length kf) x.tg x.ug x.wg c s.F D' (szL (wo s.L r.f0)) s.ev).toArray := by
    rw [List.setIfInBounds_toArray, ← HCM.out, sc_setSize HDL.out.2.1 HDl.out]
  rw [eC] at T8
  clear eC hx e7 x7 hs1 hs2
  generalize World.setCell w7 _ _ = w8 at *
  have T8' : St F w0 w8 (sQ g (sCells (.slice (some ⟨rb, 0, none⟩) c.most rc) (.slice Af x.d.fr.length kf) x.tg x.ug x.wg c s.F D' (szL (wo s.L r.f0)) s.ev).toArray (.slice (some ⟨rb, 0, none⟩) c.most rc) (.slice Af x.d.fr.length kf) x.d.R x.d.fr (tO x.tg c.most S' T') (lA x.ug x.bg c.most (dropO x.d.o (p : Int))) (wO x.wg Sw (x.d.m.filter (notId (p : Int)))) (SI c s x.d) ++ (M ++ [blk z (eRc r).toArray 37])) := T8
  have H8 := Lib.hid T8'
  have g0 : w8.cell? ⟨g, 0, none⟩ = some (.slice (some ⟨rb, 0, none⟩) c.most rc) := blk_cell (T8'.get 0 rfl) 0
  clear T8 T8' H7
  go_upto_region 7 with (refine St.wpRow flRc rfl 37 _ _ rfl H8.out 1 rfl p zRc ?_ ?_ ?_ rec_size ?_; (rw [HI.out.rl]; exact HM1.out.1); rfl; rfl; intro w9 H9)
  have T9 := H9.out
  have c1 : w9.cell? ⟨g, 1, none⟩ = some (.slice Af x.d.fr.length kf) := blk_cell (T9.get 0 rfl) 1
  have hcap := Lib.hid (show ((ofFr x.d.fr).length + 1) * 8 ≤ 140737488355328 by unfold ofFr; rw [List.length_map]; have h1 := HFL.out; have h2 := HM1.out.2; omega)
  clear T9 g0 H8
  go_wp2_with (at_builtin; go_loud (refine St.wp1 (flInt .i64) rfl _ _ 66 3 (.int .i64 0) 8 rfl Try.underlying66 int_info rfl (by decide) (by decide) H9.out 2 rfl (p : Int) #[.int .i64 (p : Int)] rfl rfl rfl hcap.out ?_))
  intro T A10 k10 w10 h10
  have HTT := Lib.hid h10.out.1
  have T10 := h10.out.2
  have d1 : w10.cell? ⟨g, 1, none⟩ = some (.slice Af x.d.fr.length kf) := blk_cell (T10.get 0 rfl) 1
  have y1 : w10.frozen? ⟨g, 1, none⟩ = false := T10.frozen 0 rfl _
  have H10 := Lib.hid T10
  clear T10 h10 c1 H9
  go_wp2_with fail
  go_end0
  have hT2 : T = ofFr (x.d.fr ++ [p]) := by rw [HTT.out]; unfold ofFr; simp
  have T11 := (H10.out.set 0 rfl 1 (.slice A10 T.length k10)).pure 6 rfl (p' := SI c ⟨wo s.L r.f0, s.F, s.ev⟩ ⟨x.d.R.set p zRc, x.d.fr ++ [p], T', dropO x.d.o (p : Int), x.d.m.filter (notId (p : Int)), D', x.d.b⟩) HR.out
  have e1 : (sCells (.slice (some ⟨rb, 0, none⟩) c.most rc) (.slice Af x.d.fr.length kf) x.tg x.ug x.wg c s.F D' (szL (wo s.L r.f0)) s.ev).toArray.setIfInBounds 1 (.slice A10 T.length k10) = (sCells (.slice (some ⟨rb, 0, none⟩) c.most rc) (.slice A10 T.length k10) x.tg x.ug x.wg c s.F D' (szL (wo s.L r.f0)) s.ev).toArray := by rw [List.setIfInBounds_toArray, sc_set1]
  rw [e1] at T11
  subst hT2
  have T12 : St F w0 _ (sL g c ⟨wo s.L r.f0, s.F, s.ev⟩ ⟨.slice (some ⟨rb, 0, none⟩) c.most rc, .slice A10 (ofFr (x.d.fr ++ [p])).length k10, x.tg, x.ug, x.bg, x.wg, S', Sw, ⟨x.d.R.set p zRc, x.d.fr ++ [p], T', dropO x.d.o (p : Int), x.d.m.filter (notId (p : Int)), D', x.d.b⟩⟩ ++ (M ++ [blk z (eRc r).toArray 37])) := T11
  unfold takePost
  rw [HRR.out]
  exact ⟨rfl, _, T12.sub (List.Sublist.append_left (List.sublist_append_left M _) _), rfl, rfl, rfl, rfl⟩
end Go.Proofs.Ytecgnfklfgjgaaa
