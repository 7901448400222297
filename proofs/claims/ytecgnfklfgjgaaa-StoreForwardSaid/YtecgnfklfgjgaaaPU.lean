/- The store's Put. -/
import Derived.Test.YtecgnfklfgjgaaaLA
import Derived.Test.YtecgnfklfgjgaaaEV
set_option linter.unusedVariables false
set_option linter.unusedSimpArgs false
namespace Go.Proofs.Ytecgnfklfgjgaaa
open Go.RowKit Go.Tat Go.Tab Go.Proofs.YtecgnfklfgjgaaaW.PrintWords PStorePeeks
/-! ### What Put does -/
def evict1 (s : SM) : SM := match s.L.getLast? with
  | none => s
  | some r => ⟨s.L.dropLast, raise s.F r, s.ev + 1⟩
/-- Records are evicted till another one of n bytes has room. -/
def evl (c : SC) (n : Nat) : Nat → SM → SM
  | 0, s => s
  | d + 1, s => if s.L.length = c.most ∨ c.bytes < szL s.L + n then evl c n d (evict1 s) else s
def put1 (c : SC) (s : SM) (r : Rc) : SM := ⟨r :: (evl c (wgt r) s.L.length s).L, (evl c (wgt r) s.L.length s).F, (evl c (wgt r) s.L.length s).ev⟩
def putF (c : SC) (s : SM) (r : Rc) (now : Int) : Bool × Int × SM :=
  if mayB r = false then (false, 1, s) else if r.f1.f0 + (c.keep : Int) ≤ now then (false, 8, s) else
  match hasK s.L r.f0 with
  | some q => if q = r then (false, 0, s) else if recF r q < 0 then (false, 8, s) else if c.bytes < wgt r then (false, 6, s) else (true, 0, put1 c ⟨wo s.L r.f0, s.F, s.ev⟩ r)
  | none => if hlcF r.f1 (flAt s.F (rgN r.f0)) ≤ 0 then (false, 8, s) else if c.bytes < wgt r then (false, 6, s) else (true, 0, put1 c s r)
def putPost (F : Nat → Prop) (w0 : World) (g : Nat) (c : SC) (M : List Asr) (res : Bool × Int × SM) (e : Ending) (w' : World) : Prop :=
  e = .returned (.tuple #[.bool res.1, .int .i64 res.2.1]) ∧ ∃ x', St F w0 w' (sL g c res.2.2 x' ++ M) ∧ x'.d.b = true
/-! ### What lies where, in later worlds -/
section
variable {F : Nat → Prop} {w0 w : World} {g : Nat} {c : SC} {s : SM} {x : SD} {M : List Asr}
theorem z_at (g : Nat) (c : SC) (s : SM) (x : SD) (M : List Asr) (y : Asr) : (sL g c s x ++ (M ++ [y]))[7 + M.length]? = some y := by rw [sL_q]; exact q_end _ _ _ _ _ _ _ _ _ _ _ _
theorem z_facts {z : Nat} {r : Rc} (h : St F w0 w (sL g c s x ++ (M ++ [blk z (eRc r).toArray 37]))) (w' : World) (b : Below w.heap.size w w') :
    w'.cell? ⟨z, 0, none⟩ = some (.string r.f0) ∧ w'.cell? ⟨z, 1, none⟩ = some (.int .u64 r.f1.f0) ∧ w'.cell? ⟨z, 2, none⟩ = some (.int .u32 r.f1.f1) ∧ w'.cell? ⟨z, 3, none⟩ = some (.int .u8 r.f1.f2) ∧ w'.cell? ⟨z, 4, none⟩ = some (.int .u8 r.f2) ∧ w'.cell? ⟨z, 5, none⟩ = some (.int .u32 r.f3) ∧ w'.cell? ⟨z, 6, none⟩ = some (.int .u64 r.f4) ∧ w'.cell? ⟨z, 7, none⟩ = some (.string r.f5) := by
  have hz0 := blk_cell (h.get (7 + M.length) (z_at _ _ _ _ _ _))
  have hl := h.blt (7 + M.length) (z_at _ _ _ _ _ _)
  have e : ∀ j, w'.cell? ⟨z, j, none⟩ = (eRc r).toArray[j]? := fun j => (b.cell (p := ⟨z, j, none⟩) hl).trans (hz0 j)
  exact ⟨e 0, e 1, e 2, e 3, e 4, e 5, e 6, e 7⟩
theorem g_facts (h : St F w0 w (sL g c s x ++ M)) (w' : World) (b : Below w.heap.size w w') :
    w'.cell? ⟨g, 0, none⟩ = some x.vR ∧ w'.cell? ⟨g, 2, none⟩ = some (.pointer (some ⟨x.tg, 0, none⟩)) ∧ w'.cell? ⟨g, 261, none⟩ = some (.int .i64 c.most) ∧ w'.cell? ⟨g, 262, none⟩ = some (.int .i64 c.bytes) ∧ w'.cell? ⟨g, 263, none⟩ = some (.int .u64 c.keep) ∧ w'.cell? ⟨g, 264, none⟩ = some (.int .i64 (szL s.L : Nat)) := by
  have hl := h.blt 0 rfl
  have hI := sL_si h
  have e' : ∀ j, w'.cell? ⟨g, j, none⟩ = _ := fun j => (b.cell (p := ⟨g, j, none⟩) hl).trans (sL_cell h j)
  exact ⟨e' 0, e' 2, (e' _).trans (sc_end hI.Fl hI.Dl 0), (e' _).trans (sc_end hI.Fl hI.Dl 1), (e' _).trans (sc_end hI.Fl hI.Dl 2), (e' _).trans (sc_end hI.Fl hI.Dl 3)⟩
theorem fl_facts (h : St F w0 w (sL g c s x ++ M)) {k : Nat} (hk : k < 64) (w' : World) (b : Below w.heap.size w w') :
    w'.cell? ⟨g, 5 + k * 3, none⟩ = some (.int .u64 (flAt s.F k).f0) ∧ w'.cell? ⟨g, 5 + k * 3 + 1, none⟩ = some (.int .u32 (flAt s.F k).f1) ∧ w'.cell? ⟨g, 5 + k * 3 + 2, none⟩ = some (.int .u8 (flAt s.F k).f2) := by
  have hl := h.blt 0 rfl
  have hI := sL_si h
  have e' : ∀ j, w'.cell? ⟨g, j, none⟩ = _ := fun j => (b.cell (p := ⟨g, j, none⟩) hl).trans (sL_cell h j)
  have hf := flAt_get hI.Fl hk
  exact ⟨(e' _).trans (sc_floor hI.Fl hf (j := 0) (by decide)), (e' _).trans (sc_floor hI.Fl hf (j := 1) (by decide)), (e' _).trans (sc_floor hI.Fl hf (j := 2) (by decide))⟩
theorem rec_facts (h : St F w0 w (sL g c s x ++ M)) {rb rc : Nat} (hv : x.vR = .slice (some ⟨rb, 0, none⟩) c.most rc) {p : Nat} {q : Rc} (hp : x.d.R[p]? = some q) (w' : World) (b : Below w.heap.size w w') :
    w'.cell? ⟨rb, p * 8, none⟩ = some (.string q.f0) ∧ w'.cell? ⟨rb, p * 8 + 1, none⟩ = some (.int .u64 q.f1.f0) ∧ w'.cell? ⟨rb, p * 8 + 2, none⟩ = some (.int .u32 q.f1.f1) ∧ w'.cell? ⟨rb, p * 8 + 3, none⟩ = some (.int .u8 q.f1.f2) ∧ w'.cell? ⟨rb, p * 8 + 4, none⟩ = some (.int .u8 q.f2) ∧ w'.cell? ⟨rb, p * 8 + 5, none⟩ = some (.int .u32 q.f3) ∧ w'.cell? ⟨rb, p * 8 + 6, none⟩ = some (.int .u64 q.f4) ∧ w'.cell? ⟨rb, p * 8 + 7, none⟩ = some (.string q.f5) := by
  have h1 : (sL g c s x ++ M)[1]? = some (slc k37 37 (.slice (some ⟨rb, 0, none⟩) c.most rc) x.d.R) := by rw [← hv]; rfl
  have hl : rb < w.heap.size := (slc k37 37 (.slice (some ⟨rb, 0, none⟩) c.most rc) x.d.R).lt (h.get 1 h1) rfl
  have e : ∀ j, j < 8 → w'.cell? ⟨rb, p * 8 + j, none⟩ = (eRc q)[j]? := fun j hj => (b.cell (p := ⟨rb, p * 8 + j, none⟩) hl).trans (sL_rec h hv hp j hj).1
  exact ⟨e 0 (by decide), e 1 (by decide), e 2 (by decide), e 3 (by decide), e 4 (by decide), e 5 (by decide), e 6 (by decide), e 7 (by decide)⟩
end
theorem rc_eq (q r : Rc) : (q.f0.toList == r.f0.toList && (q.f1.f0 == r.f1.f0 && (q.f1.f1 == r.f1.f1 && (q.f1.f2 == r.f1.f2)) && (q.f2 == r.f2 && (q.f3 == r.f3 && (q.f4 == r.f4 && (q.f5.toList == r.f5.toList)))))) = decide (q = r) := by
  obtain ⟨k, ⟨a0, a1, a2⟩, a3, a4, a5, a6⟩ := q
  obtain ⟨k', ⟨b0, b1, b2⟩, b3, b4, b5, b6⟩ := r
  rw [Bool.eq_iff_iff]
  simp only [Bool.and_eq_true, beq_iff_eq, decide_eq_true_eq, tl_eq]
  constructor
  · rintro ⟨rfl, ⟨rfl, rfl, rfl⟩, rfl, rfl, rfl, rfl⟩; rfl
  · intro e; injection e with e1 e2 e3 e4 e5 e6; injection e2 with e7 e8 e9; exact ⟨e1, ⟨e7, e8, e9⟩, e3, e4, e5, e6⟩
theorem evl_stop {c : SC} {n : Nat} {s : SM} {d : Nat} (h : ¬ (s.L.length = c.most ∨ c.bytes < szL s.L + n)) : evl c n d s = s := by
  cases d with
  | zero => rfl
  | succ d => rw [evl, if_neg h]
theorem putF_old {c : SC} {s : SM} {r : Rc} {now : Int} (h1 : mayB r = true) (h2 : r.f1.f0 + (c.keep : Int) ≤ now) : putF c s r now = (false, 8, s) := by
  unfold putF; rw [if_neg (by rw [h1]; simp), if_pos h2]
theorem putF_some {c : SC} {s : SM} {r q : Rc} {now : Int} (h1 : mayB r = true) (h2 : ¬ (r.f1.f0 + (c.keep : Int) ≤ now)) (h3 : hasK s.L r.f0 = some q) : putF c s r now = if q = r then (false, 0, s) else if recF r q < 0 then (false, 8, s) else if c.bytes < wgt r then (false, 6, s) else (true, 0, put1 c ⟨wo s.L r.f0, s.F, s.ev⟩ r) := by
  unfold putF; rw [if_neg (by rw [h1]; simp), if_neg h2, h3]
theorem putF_none {c : SC} {s : SM} {r : Rc} {now : Int} (h1 : mayB r = true) (h2 : ¬ (r.f1.f0 + (c.keep : Int) ≤ now)) (h3 : hasK s.L r.f0 = none) : putF c s r now = if hlcF r.f1 (flAt s.F (rgN r.f0)) ≤ 0 then (false, 8, s) else if c.bytes < wgt r then (false, 6, s) else (true, 0, put1 c s r) := by
  unfold putF; rw [if_neg (by rw [h1]; simp), if_neg h2, h3]
set_option maxRecDepth 100000 in
set_option maxHeartbeats 16000000 in
theorem put_st {F : Nat → Prop} {w0 w : World} {g : Nat} {c : SC} {s : SM} {x : SD} {M : List Asr} (h : St F w0 w (sL g c s x ++ M)) (r : Rc) (now : Int) (hk : r.f0.size < 4611686018427387904) (hph : 0 ≤ r.f1.f0) (hev : s.ev + s.L.length < 1000000) (hbt : x.d.b = true) :
    Calls Try.prog 11 #[.pointer (some ⟨g, 0, none⟩), .agg (eRc r).toArray, .int .u64 now] w (putPost F w0 g c M (putF c s r now)) := by
  have HI := Lib.hid (sL_si h)
  have HKS := Lib.hid hk
  have HMAY := Lib.hid (may_c r hk)
  have HEV := Lib.hid hev
  have HBT := Lib.hid hbt
  obtain ⟨bm, hbm⟩ : ∃ bm, mayB r = bm := ⟨_, rfl⟩
  have hmayl : bm = true → 1 ≤ r.f0.size ∧ r.f0.size ≤ 250 ∧ r.f5.size ≤ 1024 ∧ r.f1.f0 ≤ 281474976710655 := fun e => may_lens (hbm.trans e)
  have HML := Lib.hid hmayl
  have HBM := Lib.hid hbm
  obtain ⟨res, hres⟩ : ∃ res, putF c s r now = res := ⟨_, rfl⟩
  have HRES := Lib.hid hres
  rw [hres]
  rw [hbm] at HMAY
  have H := Lib.hid h
  clear h hk hev hbt hmayl hbm hres
  unfold eRc
  go_enter Try.func11, Try.ntmps11
  go_upto_region 1 with fail
  have S1 := H.out.new' (eRc r).toArray 37 w.heap.size rfl
  rw [List.append_assoc] at S1
  unfold eRc at S1
  obtain ⟨z, hz⟩ : ∃ z, w.heap.size = z := ⟨_, rfl⟩
  rw [hz] at S1 ⊢
  clear hz
  generalize World.alloc w _ = w1 at *
  have H1 : Hid (St F w0 w1 (sL g c s x ++ (M ++ [blk z (eRc r).toArray 37]))) := Lib.hid S1
  clear S1
  obtain ⟨f0, f1, f2, f3, f4, f5, f6, f7⟩ := z_facts H1.out w1 (Below.refl _ _)
  cases bm with
  | false =>
    go_wp2_with (go_at_call 27; refine (HMAY.out _).mono ?_; rintro e w2 ⟨rfl, hB2⟩)
    go_ret2
    have e : res = (false, 1, s) := by rw [← HRES.out]; unfold putF; rw [if_pos HBM.out]
    rw [e]
    exact ⟨rfl, x, (H1.out.below hB2).sub (List.Sublist.append_left (List.sublist_append_left M _) _), HBT.out⟩
  | true =>
    go_upto_region 3 with (go_at_call 27; refine (HMAY.out _).mono ?_; rintro e w2 ⟨rfl, hB2⟩)
    have S2 := H1.out.below hB2
    have H2 := Lib.hid S2
    clear f0 f1 f2 f3 f4 f5 f6 f7 S2 hB2 H1 HMAY
    have f1 := (z_facts H2.out w2 (Below.refl _ _)).2.1
    have g3 := (g_facts H2.out w2 (Below.refl _ _)).2.2.2.2.1
    obtain ⟨hk1, hk2, hb5, hp2⟩ := HML.out (by trivial)
    have hkp : (c.keep : Int) ≤ 1000 := by have := HI.out.k2; omega
    obtain ⟨bo, hbo⟩ : ∃ bo, decide (r.f1.f0 + (c.keep : Int) ≤ now) = bo := ⟨_, rfl⟩
    have HX := Lib.hid (And.intro hk1 (And.intro hk2 (And.intro hb5 hp2)))
    clear hk1 hk2 hb5 HML
    go_quiet (fail)
    have HBO := Lib.hid hbo
    have HPH := Lib.hid hph
    have S3 := H2.out.drewN nq
    generalize w2.drewN nq = w3 at *
    have H3 := Lib.hid S3
    clear hbo S3 H2 f1 g3 hkp hp2 hph
    cases bo with
    | true =>
      go_wp2_with fail
      go_ret2
      have e : res = (false, 8, s) := by rw [← HRES.out]; exact putF_old HBM.out (by have := HBO.out; simpa using this)
      rw [e]
      exact ⟨rfl, x, H3.out.sub (List.Sublist.append_left (List.sublist_append_left M _) _), HBT.out⟩
    | false =>
      have hnow : ¬ (r.f1.f0 + (c.keep : Int) ≤ now) := by have := HBO.out; simpa using this
      have HNOW := Lib.hid hnow
      clear hnow
      go_upto_region 5 with fail
      have f0 := (z_facts H3.out w3 (Below.refl _ _)).1
      have g2 := (g_facts H3.out w3 (Below.refl _ _)).2.1
      cases hh : hasK s.L r.f0 with
      | none =>
        have HH := Lib.hid hh
        have HG : Hid (∀ n, Calls Try.prog 28 #[.pointer (some ⟨x.tg, 0, none⟩), .string r.f0] (w3.drewN n) fun e w' => e = .returned (.tuple #[.int .i64 0, .bool false]) ∧ ∃ m, w' = (w3.drewN n).drewN m) := Lib.hid fun n => by
          have := tget_c (g := x.tg) (most := c.most) (S := x.Ft) (T := x.d.T) ((H3.out.drewN n).get 3 rfl) r.f0 HKS.out
          rw [HI.out.look_none.2 HH.out] at this
          exact this
        clear hh
        go_quiet (first | (go_at_call 28; refine Calls.quiet_of (HG.out _)))
        have S4 := H3.out.drewN nq
        generalize w3.drewN nq = w4 at *
        have H4 := Lib.hid S4
        clear S4 H3 f0 g2 HG
        go_upto_region 6 with fail
        go_quiet (fail)
        have S5 := H4.out.drewN nq
        generalize w4.drewN nq = w5 at *
        have H5 := Lib.hid S5
        clear S5 H4
        go_upto_region 8 with fail
        go_quiet (fail)
        have S6 := H5.out.drewN nq
        generalize w5.drewN nq = w6 at *
        have H6 := Lib.hid S6
        clear S6 H5
        go_upto_region 10 with fail
        have HRG := Lib.hid (range_c r.f0 HKS.out)
        have hkl : (rgN r.f0 : Int) < 64 := by have := rgN_lt r.f0; omega
        have HF6 : Hid (∀ w', Below w6.heap.size w6 w' → _) := Lib.hid fun w' b => And.intro (z_facts H6.out w' b) (fl_facts H6.out (rgN_lt r.f0) w' b)
        have HPN := Lib.hid (putF_none (c := c) (now := now) HBM.out HNOW.out HH.out)
        generalize rgN r.f0 = k at *
        obtain ⟨fl, hfl⟩ : ∃ fl, flAt s.F k = fl := ⟨_, rfl⟩
        rw [hfl] at HF6 HPN
        have HHL := Lib.hid (hlc_c r.f1 fl)
        generalize hlcF r.f1 fl = hv at *
        obtain ⟨bb, hbb⟩ : ∃ bb, decide (hv ≤ 0) = bb := ⟨_, rfl⟩
        clear hfl
        refine wp_region_quietC (fun w' => Below w6.heap.size w6 w') (by kernel_rfl) (by kernel_rfl) (Below.refl _ _).drew ?_
        repeat (first | go_big_quiet_skip | (go_big_quiet_want; refine quiet_mk (v := ?_) ?_ ?_; rotate_left; (focus (intro w' hC; obtain ⟨⟨f0, f1, f2, f3, f4, f5, f6, f7⟩, q0, q1, q2⟩ := HF6.out w' hC; go_simp; first | done | with_reducible rfl | (first | (go_at_call 31; refine (HRG.out _).mono ?_; rintro e w5 ⟨rfl, ⟨n5, rfl⟩⟩; refine ⟨?_, pw_below_drewN hC _⟩; with_reducible rfl) | (go_at_call 30; refine (HHL.out _).mono ?_; rintro e w5 ⟨rfl, rfl⟩; refine ⟨?_, ?_⟩; with_reducible rfl; (unfold hlcW; exact ((hC.alloc hC.size _).alloc (by have := hC.size; simp; omega) _)))))); go_big_quiet_on; simp only [Act.put, List.setIfInBounds_toArray, List.set_cons_zero, List.set_cons_succ]))
        refine wpQuiet_nil ?_
        intro w7 hB7
        have S7 := H6.out.below hB7
        have H7 := Lib.hid S7
        have HBB := Lib.hid hbb
        clear S7 hB7 H6 HF6 hbb hkl HHL HRG
        cases bb with
        | true =>
          go_wp2_with fail
          go_ret2
          have e : res = (false, 8, s) := by rw [← HRES.out, HPN.out, if_pos (by have := HBB.out; simpa using this)]
          rw [e]
          exact ⟨rfl, x, H7.out.sub (List.Sublist.append_left (List.sublist_append_left M _) _), HBT.out⟩
        | false =>
          have hng : ¬ (hv ≤ 0) := by have := HBB.out; simpa using this
          have hpn := HPN.out
          rw [if_neg hng] at hpn
          have HPN2 := Lib.hid hpn
          clear hng hpn HPN HBB
          go_upto_region 12 with fail
          have HF7 : Hid (∀ w', Below w7.heap.size w7 w' → _) := Lib.hid fun w' b => And.intro (z_facts H7.out w' b) (g_facts H7.out w' b)
          have HWC := Lib.hid (weight_c r HKS.out (by have := HX.out; omega))
          obtain ⟨bw, hbw⟩ : ∃ bw, decide (c.bytes < wgt r) = bw := ⟨_, rfl⟩
          refine wp_region_quietC (fun w' => Below w7.heap.size w7 w') (by kernel_rfl) (by kernel_rfl) (Below.refl _ _).drew ?_
          repeat (first | go_big_quiet_skip | (go_big_quiet_want; refine quiet_mk (v := ?_) ?_ ?_; rotate_left; (focus (intro w' hC; obtain ⟨⟨f0, f1, f2, f3, f4, f5, f6, f7⟩, g0, g1, g2, g3, g4, g5⟩ := HF7.out w' hC; go_simp; first | done | with_reducible rfl | (go_at_call 32; refine (HWC.out _).mono ?_; rintro e w5 ⟨rfl, hB5⟩; refine ⟨?_, hC.trans (hB5.mono hC.size)⟩; with_reducible rfl))); go_big_quiet_on; simp only [Act.put, List.setIfInBounds_toArray, List.set_cons_zero, List.set_cons_succ]))
          refine wpQuiet_nil ?_
          intro w8 hB8
          have S8 := H7.out.below hB8
          have H8 := Lib.hid S8
          have HBW := Lib.hid hbw
          clear S8 hB8 H7 HF7 hbw
          cases bw with
          | true =>
            go_wp2_with fail
            go_ret2
            have e : res = (false, 6, s) := by rw [← HRES.out, HPN2.out, if_pos (by have := HBW.out; simpa using this)]
            rw [e]
            exact ⟨rfl, x, H8.out.sub (List.Sublist.append_left (List.sublist_append_left M _) _), HBT.out⟩
          | false =>
            have hnw : ¬ (c.bytes < wgt r) := by have := HBW.out; simpa using this
            have hpn := HPN2.out
            rw [if_neg hnw, HRES.out] at hpn
            have HRT := Lib.hid hpn
            have HNW := Lib.hid hnw
            clear hpn hnw HBW HPN2
            go_wp2_with fail
            have H9 := H8
            obtain ⟨X0, hX0⟩ : ∃ X0, x = X0 := ⟨_, rfl⟩
            rw [hX0] at H9
            have HXB : Hid (X0.d.b = true) := by rw [← hX0]; exact HBT
            clear hX0
            have HS0 : Hid (hasK (s).L r.f0 = none ∧ (s).ev + (s).L.length < 1000000) := Lib.hid ⟨HH.out, HEV.out⟩
            generalize (s : SM) = S0 at *
            obtain ⟨TG, hTG⟩ : ∃ TG, evl c (wgt r) S0.L.length S0 = TG := ⟨_, rfl⟩
            have HTG := Lib.hid hTG
            go_loopg [] S0.L.length (fun kq W => ∃ s1 x1, St F w0 W (sL g c s1 x1 ++ (M ++ [blk z (eRc r).toArray 37])) ∧ evl c (wgt r) s1.L.length s1 = TG ∧ kq = s1.L.length ∧ hasK s1.L r.f0 = none ∧ s1.ev + s1.L.length < 1000000 ∧ x1.d.b = true)
            case atStart => exact ⟨S0, X0, H9.out, hTG, rfl, HS0.out.1, HS0.out.2, HXB.out⟩
            case round =>
              clear H9
              obtain ⟨s1, x1, S10, hev1, rfl, hn1, hb1, hx1⟩ := hrel
              have hI1 := sL_si S10
              have HI1 := Lib.hid hI1
              have H10 := Lib.hid S10
              have HF10 : Hid (∀ w', Below wr.heap.size wr w' → _) := Lib.hid fun w' b => And.intro (z_facts H10.out w' b) (g_facts H10.out w' b)
              have HLN : Hid (∀ w', Below wr.heap.size wr w' → Calls Try.prog 34 #[.pointer (some ⟨x1.tg, 0, none⟩)] w' fun e w'' => e = .returned (.int .i64 (s1.L.length : Nat)) ∧ w'' = w') := Lib.hid fun w' b => by
                have := tlen_c (g := x1.tg) (most := c.most) (S := x1.Ft) (T := x1.d.T) ((H10.out.below b).get 3 rfl)
                rw [HI1.out.tlen] at this
                exact this
              have HEV1 := Lib.hid hev1
              have HN1 := Lib.hid hn1
              have HB1 := Lib.hid hb1
              have HX1 := Lib.hid hx1
              clear S10 hev1 hn1 hb1 hx1 hI1 hTG
              by_cases hm : s1.L.length = c.most
              · have he : (((s1.L.length : Nat) : Int) == (c.most : Int)) = true := by rw [hm]; simp
                have HCO := Lib.hid (show s1.L.length = c.most ∨ c.bytes < szL s1.L + wgt r from .inl hm)
                have HNE := Lib.hid (show s1.L ≠ [] by intro e; rw [e] at hm; have := HI1.out.m1; simp at hm; omega)
                clear hm
                go_upto_region 16 with fail
                refine wp_region_quietC (fun w' => Below wr.heap.size wr w') (by kernel_rfl) (by kernel_rfl) (Below.refl _ _).drew ?_
                repeat (first | go_big_quiet_skip | (go_big_quiet_want; refine quiet_mk (v := ?_) ?_ ?_; rotate_left; (focus (intro w' hC; obtain ⟨⟨f0, f1, f2, f3, f4, f5, f6, f7⟩, g0, g1, g2, g3, g4, g5⟩ := HF10.out w' hC; go_simp; first | done | with_reducible rfl | (first | (go_at_call 34; refine (HLN.out _ hC).mono ?_; rintro e w5 ⟨rfl, rfl⟩; refine ⟨?_, hC⟩; with_reducible rfl) | (go_at_call 32; refine (HWC.out _).mono ?_; rintro e w5 ⟨rfl, hB5⟩; refine ⟨?_, hC.trans (hB5.mono hC.size)⟩; with_reducible rfl)))); go_big_quiet_on; simp only [Act.put, List.setIfInBounds_toArray, List.set_cons_zero, List.set_cons_succ]))
                refine wpQuiet_nil ?_
                intro w11 hB11
                have S11 := H10.out.below hB11
                have H11 := Lib.hid S11
                clear S11 hB11 H10 HF10 HLN
                clear he
                obtain ⟨L0, q0, hL0⟩ : ∃ L0 q0, s1.L = L0 ++ [q0] := by
                  rcases List.eq_nil_or_concat s1.L with e | ⟨a, b, e⟩
                  · exact absurd e HNE.out
                  · exact ⟨a, b, by rw [e, List.concat_eq_append]⟩
                have HL0 := Lib.hid hL0
                clear hL0
                go_wp2_with (go_at_call 35; refine (evict_st H11.out L0 q0 HL0.out (by have := HB1.out; omega)).mono ?_; rintro e w12 ⟨rfl, x2, h12, hb12⟩)
                go_roundg L0.length
                case measure => rw [HL0.out, List.length_append, List.length_singleton]; omega
                case rel =>
                  have hE : evict1 s1 = ⟨L0, raise s1.F q0, s1.ev + 1⟩ := by unfold evict1; rw [HL0.out]; simp
                  have h1 := HEV1.out
                  rw [HL0.out, List.length_append, List.length_singleton] at h1
                  rw [evl, if_pos HCO.out, hE] at h1
                  have hb := HB1.out
                  rw [HL0.out, List.length_append, List.length_singleton] at hb
                  refine ⟨_, x2, h12, h1, rfl, ?_, by show s1.ev + 1 + L0.length < 1000000; omega, hb12.trans HX1.out⟩
                  rw [hasK_none]
                  intro y hy
                  exact hasK_none.1 HN1.out y (by rw [HL0.out]; exact List.mem_append_left _ hy)
              · have he : (((s1.L.length : Nat) : Int) == (c.most : Int)) = false := by rw [beq_eq_false_iff_ne]; omega
                have HMN := Lib.hid hm
                have hz1 : (szL s1.L : Int) ≤ 2000000 := by have h1 := HI1.out.size; have h2 := HI1.out.b2; omega
                have hw1 : (wgt r : Int) ≤ 2000000 := by have h1 := HNW.out; have h2 := HI1.out.b2; omega
                obtain ⟨sz1, hsz1⟩ : ∃ sz1, szL s1.L = sz1 := ⟨_, rfl⟩
                rw [hsz1] at HF10 hz1
                obtain ⟨be, hbe⟩ : ∃ be, decide ((c.bytes : Int) < (sz1 : Int) + (wgt r : Int)) = be := ⟨_, rfl⟩
                have HSZ1 := Lib.hid hsz1
                have hwr : IntKind.i64.wrap ((sz1 : Int) + (wgt r : Int)) = (sz1 : Int) + (wgt r : Int) := by rw [IntKind.wrap_i64]; omega
                clear hm hsz1
                go_upto_region 16 with fail
                refine wp_region_quietC (fun w' => Below wr.heap.size wr w') (by kernel_rfl) (by kernel_rfl) (Below.refl _ _).drew ?_
                repeat (first | go_big_quiet_skip | (go_big_quiet_want; refine quiet_mk (v := ?_) ?_ ?_; rotate_left; (focus (intro w' hC; obtain ⟨⟨f0, f1, f2, f3, f4, f5, f6, f7⟩, g0, g1, g2, g3, g4, g5⟩ := HF10.out w' hC; go_simp; first | done | with_reducible rfl | (first | (go_at_call 34; refine (HLN.out _ hC).mono ?_; rintro e w5 ⟨rfl, rfl⟩; refine ⟨?_, hC⟩; with_reducible rfl) | (go_at_call 32; refine (HWC.out _).mono ?_; rintro e w5 ⟨rfl, hB5⟩; refine ⟨?_, hC.trans (hB5.mono hC.size)⟩; with_reducible rfl)))); go_big_quiet_on; simp only [Act.put, List.setIfInBounds_toArray, List.set_cons_zero, List.set_cons_succ]))
                refine wpQuiet_nil ?_
                intro w11 hB11
                have S11 := H10.out.below hB11
                have H11 := Lib.hid S11
                clear S11 hB11 H10 HF10 HLN
                have HBE := Lib.hid hbe
                clear he hbe hz1 hw1 hwr
                cases be with
                | true =>
                  have hc : c.bytes < szL s1.L + wgt r := by have h1 := HBE.out; simp only [decide_eq_true_eq] at h1; rw [HSZ1.out]; omega
                  have HCO := Lib.hid (show s1.L.length = c.most ∨ c.bytes < szL s1.L + wgt r from .inr hc)
                  have HNE := Lib.hid (show s1.L ≠ [] by intro e; rw [e] at hc; have := HNW.out; simp [szL] at hc; omega)
                  clear hc
                  obtain ⟨L0, q0, hL0⟩ : ∃ L0 q0, s1.L = L0 ++ [q0] := by
                    rcases List.eq_nil_or_concat s1.L with e | ⟨a, b, e⟩
                    · exact absurd e HNE.out
                    · exact ⟨a, b, by rw [e, List.concat_eq_append]⟩
                  have HL0 := Lib.hid hL0
                  clear hL0
                  go_wp2_with (go_at_call 35; refine (evict_st H11.out L0 q0 HL0.out (by have := HB1.out; omega)).mono ?_; rintro e w12 ⟨rfl, x2, h12, hb12⟩)
                  go_roundg L0.length
                  case measure => rw [HL0.out, List.length_append, List.length_singleton]; omega
                  case rel =>
                    have hE : evict1 s1 = ⟨L0, raise s1.F q0, s1.ev + 1⟩ := by unfold evict1; rw [HL0.out]; simp
                    have h1 := HEV1.out
                    rw [HL0.out, List.length_append, List.length_singleton] at h1
                    rw [evl, if_pos HCO.out, hE] at h1
                    have hb := HB1.out
                    rw [HL0.out, List.length_append, List.length_singleton] at hb
                    refine ⟨_, x2, h12, h1, rfl, ?_, by show s1.ev + 1 + L0.length < 1000000; omega, hb12.trans HX1.out⟩
                    rw [hasK_none]
                    intro y hy
                    exact hasK_none.1 HN1.out y (by rw [HL0.out]; exact List.mem_append_left _ hy)
                | false =>
                  have hc : ¬ (c.bytes < szL s1.L + wgt r) := by have h1 := HBE.out; simp only [decide_eq_false_iff_not] at h1; rw [HSZ1.out]; omega
                  have HHC := Lib.hid hc
                  clear hc HBE
                  have hle : s1.L.length ≤ c.most := by rw [HI1.out.llen]; have := HI1.out.lens; omega
                  have HLE := Lib.hid hle
                  clear hle
                  have hstop := evl_stop (c := c) (n := wgt r) (s := s1) (d := s1.L.length) (by intro h; rcases h with h | h; exact HMN.out h; exact HHC.out h)
                  rw [HEV1.out] at hstop
                  have HST := Lib.hid hstop
                  clear hstop
                  obtain ⟨f0, f1, f2, f3, f4, f5, f6, f7⟩ := z_facts H11.out w11 (Below.refl _ _)
                  go_wp2_with (go_at_call 36; refine (lay_st H11.out r HN1.out HBM.out HPH.out (by have := HHC.out; omega) (by have h1 := HLE.out; have h2 := HMN.out; omega) HX1.out).mono ?_; rintro e w12 ⟨rfl, x2, h12, hb12⟩)
                  go_ret2
                  have e : res = (true, 0, ⟨r :: s1.L, s1.F, s1.ev⟩) := by rw [HRT.out]; unfold put1; rw [HTG.out, HST.out]
                  rw [e]
                  exact ⟨rfl, x2, h12.sub (List.Sublist.append_left (List.sublist_append_left M _) _), hb12⟩
      | some q =>
        obtain ⟨p, hp, hmg, hrp⟩ := HI.out.look_some hh
        have HH := Lib.hid (And.intro hh (And.intro hp hrp))
        have HG : Hid (∀ n, Calls Try.prog 28 #[.pointer (some ⟨x.tg, 0, none⟩), .string r.f0] (w3.drewN n) fun e w' => e = .returned (.tuple #[.int .i64 (p : Int), .bool true]) ∧ ∃ m, w' = (w3.drewN n).drewN m) := Lib.hid fun n => by
          have := tget_c (g := x.tg) (most := c.most) (S := x.Ft) (T := x.d.T) ((H3.out.drewN n).get 3 rfl) r.f0 HKS.out
          rw [hmg] at this
          exact this
        clear hh hp hmg hrp
        go_quiet (first | (go_at_call 28; refine Calls.quiet_of (HG.out _)))
        have S4 := H3.out.drewN nq
        generalize w3.drewN nq = w4 at *
        have H4 := Lib.hid S4
        clear S4 H3 f0 g2 HG
        go_upto_region 6 with fail
        obtain ⟨rb, rc, hvR⟩ := sL_R H4.out
        have hpm : p < c.most := HI.out.olt HH.out.2.1
        have hRp : x.d.R[p]? = some q := by rw [← HH.out.2.2]; exact rAt_get (by rw [HI.out.rl]; exact hpm)
        have HVR := Lib.hid (And.intro hvR hRp)
        have hpi : (p : Int) < (c.most : Int) := by omega
        have hmi : (c.most : Int) ≤ 1024 := by have := HI.out.m2; omega
        have HF4 : Hid (∀ w', Below w4.heap.size w4 w' → _) := Lib.hid fun w' b => And.intro (z_facts H4.out w' b) (And.intro ((g_facts H4.out w' b).1.trans (congrArg some HVR.out.1)) (rec_facts H4.out HVR.out.1 HVR.out.2 w' b))
        have HPS := Lib.hid (putF_some (c := c) (now := now) HBM.out HNOW.out HH.out.1)
        have hw := fun (d : Nat) (W : World) => eqA37 d W q.f0 r.f0 q.f1.f0 r.f1.f0 q.f1.f1 r.f1.f1 q.f1.f2 r.f1.f2 q.f2 r.f2 q.f3 r.f3 q.f4 r.f4 q.f5 r.f5
        simp only [rc_eq] at hw
        obtain ⟨bq, hbq⟩ : ∃ bq, decide (q = r) = bq := ⟨_, rfl⟩
        rw [hbq] at hw
        have HBQ := Lib.hid hbq
        have hu37 := Try.underlying37
        clear hbq hvR hpm hRp
        refine wp_region_quietC (fun w' => Below w4.heap.size w4 w') (by kernel_rfl) (by kernel_rfl) (Below.refl _ _).drew ?_
        repeat (first | go_big_quiet_skip | (go_big_quiet_want; refine quiet_mk (v := ?_) ?_ ?_; rotate_left; (focus (intro w' hC; obtain ⟨⟨f0, f1, f2, f3, f4, f5, f6, f7⟩, g0, p0, p1, p2, p3, p4, p5, p6, p7⟩ := HF4.out w' hC; go_simp; first | done | with_reducible rfl | (fail))); go_big_quiet_on; simp only [Act.put, List.setIfInBounds_toArray, List.set_cons_zero, List.set_cons_succ]))
        refine wpQuiet_nil ?_
        intro w5 hB5
        have S5 := H4.out.below hB5
        have H5 := Lib.hid S5
        clear S5 hB5 H4 HF4 hw hu37
        cases bq with
        | true =>
          go_wp2_with fail
          go_ret2
          have e : res = (false, 0, s) := by rw [← HRES.out, HPS.out, if_pos (by have := HBQ.out; simpa using this)]
          rw [e]
          exact ⟨rfl, x, H5.out.sub (List.Sublist.append_left (List.sublist_append_left M _) _), HBT.out⟩
        | false =>
          have hnq : ¬ (q = r) := by have := HBQ.out; simpa using this
          have hps := HPS.out
          rw [if_neg hnq] at hps
          have HPS2 := Lib.hid hps
          clear hps hnq HPS HBQ
          go_upto_region 8 with fail
          have HF5 : Hid (∀ w', Below w5.heap.size w5 w' → _) := Lib.hid fun w' b => And.intro (z_facts H5.out w' b) (And.intro ((g_facts H5.out w' b).1.trans (congrArg some HVR.out.1)) (rec_facts H5.out HVR.out.1 HVR.out.2 w' b))
          have HRC := Lib.hid (rec_c r q)
          generalize recF r q = hv at *
          obtain ⟨bb, hbb⟩ : ∃ bb, decide (hv < 0) = bb := ⟨_, rfl⟩
          refine wp_region_quietC (fun w' => Below w5.heap.size w5 w') (by kernel_rfl) (by kernel_rfl) (Below.refl _ _).drew ?_
          repeat (first | go_big_quiet_skip | (go_big_quiet_want; refine quiet_mk (v := ?_) ?_ ?_; rotate_left; (focus (intro w' hC; obtain ⟨⟨f0, f1, f2, f3, f4, f5, f6, f7⟩, g0, p0, p1, p2, p3, p4, p5, p6, p7⟩ := HF5.out w' hC; go_simp; first | done | with_reducible rfl | (go_at_call 29; refine (HRC.out _).mono ?_; rintro e w5 ⟨rfl, hB5⟩; refine ⟨?_, hC.trans (hB5.mono hC.size)⟩; with_reducible rfl))); go_big_quiet_on; simp only [Act.put, List.setIfInBounds_toArray, List.set_cons_zero, List.set_cons_succ]))
          refine wpQuiet_nil ?_
          intro w6 hB6
          have S6 := H5.out.below hB6
          have H6 := Lib.hid S6
          have HBB := Lib.hid hbb
          clear S6 hB6 H5 HF5 hbb HRC hpi hmi
          cases bb with
          | true =>
            go_wp2_with fail
            go_ret2
            have e : res = (false, 8, s) := by rw [← HRES.out, HPS2.out, if_pos (by have := HBB.out; simpa using this)]
            rw [e]
            exact ⟨rfl, x, H6.out.sub (List.Sublist.append_left (List.sublist_append_left M _) _), HBT.out⟩
          | false =>
            have hng : ¬ (hv < 0) := by have := HBB.out; simpa using this
            have hpn := HPS2.out
            rw [if_neg hng] at hpn
            have HPN2 := Lib.hid hpn
            clear hng hpn HPS2 HBB
            go_upto_region 10 with fail
            go_quiet (fail)
            have S7 := H6.out.drewN nq
            generalize w6.drewN nq = w7 at *
            have H7 := Lib.hid S7
            clear S7 H6
            go_upto_region 12 with fail
            have HF7 : Hid (∀ w', Below w7.heap.size w7 w' → _) := Lib.hid fun w' b => And.intro (z_facts H7.out w' b) (g_facts H7.out w' b)
            have HWC := Lib.hid (weight_c r HKS.out (by have := HX.out; omega))
            obtain ⟨bw, hbw⟩ : ∃ bw, decide (c.bytes < wgt r) = bw := ⟨_, rfl⟩
            refine wp_region_quietC (fun w' => Below w7.heap.size w7 w') (by kernel_rfl) (by kernel_rfl) (Below.refl _ _).drew ?_
            repeat (first | go_big_quiet_skip | (go_big_quiet_want; refine quiet_mk (v := ?_) ?_ ?_; rotate_left; (focus (intro w' hC; obtain ⟨⟨f0, f1, f2, f3, f4, f5, f6, f7⟩, g0, g1, g2, g3, g4, g5⟩ := HF7.out w' hC; go_simp; first | done | with_reducible rfl | (go_at_call 32; refine (HWC.out _).mono ?_; rintro e w5 ⟨rfl, hB5⟩; refine ⟨?_, hC.trans (hB5.mono hC.size)⟩; with_reducible rfl))); go_big_quiet_on; simp only [Act.put, List.setIfInBounds_toArray, List.set_cons_zero, List.set_cons_succ]))
            refine wpQuiet_nil ?_
            intro w8 hB8
            have S8 := H7.out.below hB8
            have H8 := Lib.hid S8
            have HBW := Lib.hid hbw
            clear S8 hB8 H7 HF7 hbw
            cases bw with
            | true =>
              go_wp2_with fail
              go_ret2
              have e : res = (false, 6, s) := by rw [← HRES.out, HPN2.out, if_pos (by have := HBW.out; simpa using this)]
              rw [e]
              exact ⟨rfl, x, H8.out.sub (List.Sublist.append_left (List.sublist_append_left M _) _), HBT.out⟩
            | false =>
              have hnw : ¬ (c.bytes < wgt r) := by have := HBW.out; simpa using this
              have hpn := HPN2.out
              rw [if_neg hnw, HRES.out] at hpn
              have HRT := Lib.hid hpn
              have HNW := Lib.hid hnw
              clear hpn hnw HBW HPN2
              go_wp2_with (go_at_call 33; refine (take_st H8.out HH.out.2.1).mono ?_; rintro e w9 ⟨rfl, X0, h9, hx9⟩)
              have HXB := Lib.hid (hx9.2.2.2.trans HBT.out)
              clear hx9
              rw [HH.out.2.2, (hasK_mem HH.out.1).2] at h9
              have H9 := Lib.hid h9
              clear h9
              have HS0 : Hid (hasK ((⟨wo s.L r.f0, s.F, s.ev⟩ : SM)).L r.f0 = none ∧ ((⟨wo s.L r.f0, s.F, s.ev⟩ : SM)).ev + ((⟨wo s.L r.f0, s.F, s.ev⟩ : SM)).L.length < 1000000) := Lib.hid ⟨hasK_none.2 (fun y hy => (notK_iff _ _).1 (List.mem_filter.1 hy).2), by have h1 := List.length_filter_le (notK r.f0) s.L; have h2 := HEV.out; show s.ev + (s.L.filter (notK r.f0)).length < 1000000; omega⟩
              generalize ((⟨wo s.L r.f0, s.F, s.ev⟩ : SM) : SM) = S0 at *
              obtain ⟨TG, hTG⟩ : ∃ TG, evl c (wgt r) S0.L.length S0 = TG := ⟨_, rfl⟩
              have HTG := Lib.hid hTG
              go_loopg [] S0.L.length (fun kq W => ∃ s1 x1, St F w0 W (sL g c s1 x1 ++ (M ++ [blk z (eRc r).toArray 37])) ∧ evl c (wgt r) s1.L.length s1 = TG ∧ kq = s1.L.length ∧ hasK s1.L r.f0 = none ∧ s1.ev + s1.L.length < 1000000 ∧ x1.d.b = true)
              case atStart => exact ⟨S0, X0, H9.out, hTG, rfl, HS0.out.1, HS0.out.2, HXB.out⟩
              case round =>
                clear H9
                obtain ⟨s1, x1, S10, hev1, rfl, hn1, hb1, hx1⟩ := hrel
                have hI1 := sL_si S10
                have HI1 := Lib.hid hI1
                have H10 := Lib.hid S10
                have HF10 : Hid (∀ w', Below wr.heap.size wr w' → _) := Lib.hid fun w' b => And.intro (z_facts H10.out w' b) (g_facts H10.out w' b)
                have HLN : Hid (∀ w', Below wr.heap.size wr w' → Calls Try.prog 34 #[.pointer (some ⟨x1.tg, 0, none⟩)] w' fun e w'' => e = .returned (.int .i64 (s1.L.length : Nat)) ∧ w'' = w') := Lib.hid fun w' b => by
                  have := tlen_c (g := x1.tg) (most := c.most) (S := x1.Ft) (T := x1.d.T) ((H10.out.below b).get 3 rfl)
                  rw [HI1.out.tlen] at this
                  exact this
                have HEV1 := Lib.hid hev1
                have HN1 := Lib.hid hn1
                have HB1 := Lib.hid hb1
                have HX1 := Lib.hid hx1
                clear S10 hev1 hn1 hb1 hx1 hI1 hTG
                by_cases hm : s1.L.length = c.most
                · have he : (((s1.L.length : Nat) : Int) == (c.most : Int)) = true := by rw [hm]; simp
                  have HCO := Lib.hid (show s1.L.length = c.most ∨ c.bytes < szL s1.L + wgt r from .inl hm)
                  have HNE := Lib.hid (show s1.L ≠ [] by intro e; rw [e] at hm; have := HI1.out.m1; simp at hm; omega)
                  clear hm
                  go_upto_region 16 with fail
                  refine wp_region_quietC (fun w' => Below wr.heap.size wr w') (by kernel_rfl) (by kernel_rfl) (Below.refl _ _).drew ?_
                  repeat (first | go_big_quiet_skip | (go_big_quiet_want; refine quiet_mk (v := ?_) ?_ ?_; rotate_left; (focus (intro w' hC; obtain ⟨⟨f0, f1, f2, f3, f4, f5, f6, f7⟩, g0, g1, g2, g3, g4, g5⟩ := HF10.out w' hC; go_simp; first | done | with_reducible rfl | (first | (go_at_call 34; refine (HLN.out _ hC).mono ?_; rintro e w5 ⟨rfl, rfl⟩; refine ⟨?_, hC⟩; with_reducible rfl) | (go_at_call 32; refine (HWC.out _).mono ?_; rintro e w5 ⟨rfl, hB5⟩; refine ⟨?_, hC.trans (hB5.mono hC.size)⟩; with_reducible rfl)))); go_big_quiet_on; simp only [Act.put, List.setIfInBounds_toArray, List.set_cons_zero, List.set_cons_succ]))
                  refine wpQuiet_nil ?_
                  intro w11 hB11
                  have S11 := H10.out.below hB11
                  have H11 := Lib.hid S11
                  clear S11 hB11 H10 HF10 HLN
                  clear he
                  obtain ⟨L0, q0, hL0⟩ : ∃ L0 q0, s1.L = L0 ++ [q0] := by
                    rcases List.eq_nil_or_concat s1.L with e | ⟨a, b, e⟩
                    · exact absurd e HNE.out
                    · exact ⟨a, b, by rw [e, List.concat_eq_append]⟩
                  have HL0 := Lib.hid hL0
                  clear hL0
                  go_wp2_with (go_at_call 35; refine (evict_st H11.out L0 q0 HL0.out (by have := HB1.out; omega)).mono ?_; rintro e w12 ⟨rfl, x2, h12, hb12⟩)
                  go_roundg L0.length
                  case measure => rw [HL0.out, List.length_append, List.length_singleton]; omega
                  case rel =>
                    have hE : evict1 s1 = ⟨L0, raise s1.F q0, s1.ev + 1⟩ := by unfold evict1; rw [HL0.out]; simp
                    have h1 := HEV1.out
                    rw [HL0.out, List.length_append, List.length_singleton] at h1
                    rw [evl, if_pos HCO.out, hE] at h1
                    have hb := HB1.out
                    rw [HL0.out, List.length_append, List.length_singleton] at hb
                    refine ⟨_, x2, h12, h1, rfl, ?_, by show s1.ev + 1 + L0.length < 1000000; omega, hb12.trans HX1.out⟩
                    rw [hasK_none]
                    intro y hy
                    exact hasK_none.1 HN1.out y (by rw [HL0.out]; exact List.mem_append_left _ hy)
                · have he : (((s1.L.length : Nat) : Int) == (c.most : Int)) = false := by rw [beq_eq_false_iff_ne]; omega
                  have HMN := Lib.hid hm
                  have hz1 : (szL s1.L : Int) ≤ 2000000 := by have h1 := HI1.out.size; have h2 := HI1.out.b2; omega
                  have hw1 : (wgt r : Int) ≤ 2000000 := by have h1 := HNW.out; have h2 := HI1.out.b2; omega
                  obtain ⟨sz1, hsz1⟩ : ∃ sz1, szL s1.L = sz1 := ⟨_, rfl⟩
                  rw [hsz1] at HF10 hz1
                  obtain ⟨be, hbe⟩ : ∃ be, decide ((c.bytes : Int) < (sz1 : Int) + (wgt r : Int)) = be := ⟨_, rfl⟩
                  have HSZ1 := Lib.hid hsz1
                  have hwr : IntKind.i64.wrap ((sz1 : Int) + (wgt r : Int)) = (sz1 : Int) + (wgt r : Int) := by rw [IntKind.wrap_i64]; omega
                  clear hm hsz1
                  go_upto_region 16 with fail
                  refine wp_region_quietC (fun w' => Below wr.heap.size wr w') (by kernel_rfl) (by kernel_rfl) (Below.refl _ _).drew ?_
                  repeat (first | go_big_quiet_skip | (go_big_quiet_want; refine quiet_mk (v := ?_) ?_ ?_; rotate_left; (focus (intro w' hC; obtain ⟨⟨f0, f1, f2, f3, f4, f5, f6, f7⟩, g0, g1, g2, g3, g4, g5⟩ := HF10.out w' hC; go_simp; first | done | with_reducible rfl | (first | (go_at_call 34; refine (HLN.out _ hC).mono ?_; rintro e w5 ⟨rfl, rfl⟩; refine ⟨?_, hC⟩; with_reducible rfl) | (go_at_call 32; refine (HWC.out _).mono ?_; rintro e w5 ⟨rfl, hB5⟩; refine ⟨?_, hC.trans (hB5.mono hC.size)⟩; with_reducible rfl)))); go_big_quiet_on; simp only [Act.put, List.setIfInBounds_toArray, List.set_cons_zero, List.set_cons_succ]))
                  refine wpQuiet_nil ?_
                  intro w11 hB11
                  have S11 := H10.out.below hB11
                  have H11 := Lib.hid S11
                  clear S11 hB11 H10 HF10 HLN
                  have HBE := Lib.hid hbe
                  clear he hbe hz1 hw1 hwr
                  cases be with
                  | true =>
                    have hc : c.bytes < szL s1.L + wgt r := by have h1 := HBE.out; simp only [decide_eq_true_eq] at h1; rw [HSZ1.out]; omega
                    have HCO := Lib.hid (show s1.L.length = c.most ∨ c.bytes < szL s1.L + wgt r from .inr hc)
                    have HNE := Lib.hid (show s1.L ≠ [] by intro e; rw [e] at hc; have := HNW.out; simp [szL] at hc; omega)
                    clear hc
                    obtain ⟨L0, q0, hL0⟩ : ∃ L0 q0, s1.L = L0 ++ [q0] := by
                      rcases List.eq_nil_or_concat s1.L with e | ⟨a, b, e⟩
                      · exact absurd e HNE.out
                      · exact ⟨a, b, by rw [e, List.concat_eq_append]⟩
                    have HL0 := Lib.hid hL0
                    clear hL0
                    go_wp2_with (go_at_call 35; refine (evict_st H11.out L0 q0 HL0.out (by have := HB1.out; omega)).mono ?_; rintro e w12 ⟨rfl, x2, h12, hb12⟩)
                    go_roundg L0.length
                    case measure => rw [HL0.out, List.length_append, List.length_singleton]; omega
                    case rel =>
                      have hE : evict1 s1 = ⟨L0, raise s1.F q0, s1.ev + 1⟩ := by unfold evict1; rw [HL0.out]; simp
                      have h1 := HEV1.out
                      rw [HL0.out, List.length_append, List.length_singleton] at h1
                      rw [evl, if_pos HCO.out, hE] at h1
                      have hb := HB1.out
                      rw [HL0.out, List.length_append, List.length_singleton] at hb
                      refine ⟨_, x2, h12, h1, rfl, ?_, by show s1.ev + 1 + L0.length < 1000000; omega, hb12.trans HX1.out⟩
                      rw [hasK_none]
                      intro y hy
                      exact hasK_none.1 HN1.out y (by rw [HL0.out]; exact List.mem_append_left _ hy)
                  | false =>
                    have hc : ¬ (c.bytes < szL s1.L + wgt r) := by have h1 := HBE.out; simp only [decide_eq_false_iff_not] at h1; rw [HSZ1.out]; omega
                    have HHC := Lib.hid hc
                    clear hc HBE
                    have hle : s1.L.length ≤ c.most := by rw [HI1.out.llen]; have := HI1.out.lens; omega
                    have HLE := Lib.hid hle
                    clear hle
                    have hstop := evl_stop (c := c) (n := wgt r) (s := s1) (d := s1.L.length) (by intro h; rcases h with h | h; exact HMN.out h; exact HHC.out h)
                    rw [HEV1.out] at hstop
                    have HST := Lib.hid hstop
                    clear hstop
                    obtain ⟨f0, f1, f2, f3, f4, f5, f6, f7⟩ := z_facts H11.out w11 (Below.refl _ _)
                    go_wp2_with (go_at_call 36; refine (lay_st H11.out r HN1.out HBM.out HPH.out (by have := HHC.out; omega) (by have h1 := HLE.out; have h2 := HMN.out; omega) HX1.out).mono ?_; rintro e w12 ⟨rfl, x2, h12, hb12⟩)
                    go_ret2
                    have e : res = (true, 0, ⟨r :: s1.L, s1.F, s1.ev⟩) := by rw [HRT.out]; unfold put1; rw [HTG.out, HST.out]
                    rw [e]
                    exact ⟨rfl, x2, h12.sub (List.Sublist.append_left (List.sublist_append_left M _) _), hb12⟩
end Go.Proofs.Ytecgnfklfgjgaaa
