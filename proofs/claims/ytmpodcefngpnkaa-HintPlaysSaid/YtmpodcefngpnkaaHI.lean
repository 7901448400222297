/- Hints: one is added. -/
import Derived.Test.YtmpodcefngpnkaaHF
import Derived.Test.YtmpodcefngpnkaaI52
import Derived.StillTailTactics
import Derived.Deep.DeepCutAuto
import Derived.Deep.CutBlock
namespace Go.Proofs.Ytmpodcefngpnkaa
open Go.RowKit Go.Tat Go.Proofs.YtmpodcefngpnkaaW.PrintWords PHintPlays
theorem add_nilarg (r : Rc) (w : World) : Calls Try.prog 12 #[.pointer none, .agg (eRc r).toArray] w fun e w' => e = .returned (.int .i64 1) ∧ Below w.heap.size w w' := by
  obtain ⟨rk, ⟨rp, rl, rn⟩, rd, rf, re, rb⟩ := r
  unfold eRc
  go_enter Try.func12, Try.ntmps12
  go_wp2
  go_ret
  exact ⟨rfl, (Below.refl _ _).alloc (Nat.le_refl _) _⟩
set_option maxRecDepth 100000 in
set_option maxHeartbeats 4000000 in
theorem add_arg (g : Nat) (r : Rc) (hk : r.f0.size < 4611686018427387904) (hb : mayB r = false ∨ r.f2 = 3) (w : World) : Calls Try.prog 12 #[.pointer (some ⟨g, 0, none⟩), .agg (eRc r).toArray] w fun e w' => e = .returned (.int .i64 1) ∧ Below w.heap.size w w' := by
  have HM := Lib.hid (fun w => may_c r hk w)
  obtain ⟨z, hz⟩ : ∃ z, w.heap.size = z := ⟨_, rfl⟩
  have S1 := (St.nil (fun _ => False) w).new' (eRc r).toArray 35 z hz
  have H1 := Lib.hid S1
  obtain ⟨m, hm⟩ : ∃ m, mayB r = m := ⟨_, rfl⟩
  rw [hm] at HM hb
  obtain ⟨rk, ⟨rp, rl, rn⟩, rd, rf, re, rb⟩ := r
  unfold eRc at *
  dsimp only at *
  clear S1 hm hk
  have HB := Lib.hid hb
  clear hb
  go_enter Try.func12, Try.ntmps12
  go_upto_region 1 with fail
  rw [hz] at *
  clear hz
  generalize World.alloc w _ = w1 at *
  have HC := Lib.hid (fun i v (h : (#[.string rk, .int .u64 rp, .int .u32 rl, .int .u8 rn, .int .u8 rd, .int .u32 rf, .int .u64 re, .string rb] : Array Value)[i]? = some v) => (H1.out.cell 0 rfl i).trans h)
  have z0 := HC.out 0 _ rfl
  have z1 := HC.out 1 _ rfl
  have z2 := HC.out 2 _ rfl
  have z3 := HC.out 3 _ rfl
  have z4 := HC.out 4 _ rfl
  have z5 := HC.out 5 _ rfl
  have z6 := HC.out 6 _ rfl
  have z7 := HC.out 7 _ rfl
  go_wp2_with fail
  refine (HM.out _).mono ?_
  rintro e w2 ⟨rfl, b2⟩
  have S2 := H1.out.below b2
  have z4' : w2.cell? ⟨z, 4, none⟩ = some (.int .u8 rd) := S2.cell 0 rfl 4
  have H2 := Lib.hid S2
  clear S2 b2 z0 z1 z2 z3 z4 z5 z6 z7
  cases m with
  | false =>
    go_wp2_with fail
    go_ret
    exact ⟨rfl, H2.out.base⟩
  | true =>
    have e : rd = 3 := HB.out.resolve_left (by simp)
    subst e
    go_wp2_with fail
    go_ret
    exact ⟨rfl, H2.out.base⟩
def addPost (F : Nat → Prop) (w0 : World) (A : List Asr) (i g : Nat) (most : Int) (l' : List Hn) (r : Int) (e : Ending) (w' : World) : Prop := e = .returned (.int .i64 r) ∧ ∃ S', St F w0 w' (A.set i (hO g S' most l'))
theorem below_call {w1 w2 w' : World} (h : Below w1.heap.size w1 w2) (b : Below w2.heap.size w2 w') : Below w1.heap.size w1 w' := h.trans (b.mono h.size)
theorem keepR {w1 w' : World} {z gb g k : Nat} {a0 a1 a2 a3 a4 a5 a6 a7 b0 b1 b2 b3 b4 b5 b6 b7 c0 : Value} (e : w1.cell? ⟨z, 0, none⟩ = some a0 ∧ w1.cell? ⟨z, 1, none⟩ = some a1 ∧ w1.cell? ⟨z, 2, none⟩ = some a2 ∧ w1.cell? ⟨z, 3, none⟩ = some a3 ∧ w1.cell? ⟨z, 4, none⟩ = some a4 ∧ w1.cell? ⟨z, 5, none⟩ = some a5 ∧ w1.cell? ⟨z, 6, none⟩ = some a6 ∧ w1.cell? ⟨z, 7, none⟩ = some a7 ∧ w1.cell? ⟨gb, k * 9, none⟩ = some b0 ∧ w1.cell? ⟨gb, k * 9 + 1, none⟩ = some b1 ∧ w1.cell? ⟨gb, k * 9 + 2, none⟩ = some b2 ∧ w1.cell? ⟨gb, k * 9 + 3, none⟩ = some b3 ∧ w1.cell? ⟨gb, k * 9 + 4, none⟩ = some b4 ∧ w1.cell? ⟨gb, k * 9 + 5, none⟩ = some b5 ∧ w1.cell? ⟨gb, k * 9 + 6, none⟩ = some b6 ∧ w1.cell? ⟨gb, k * 9 + 7, none⟩ = some b7 ∧ w1.cell? ⟨g, 0, none⟩ = some c0) (l : g < w1.heap.size ∧ gb < w1.heap.size ∧ z < w1.heap.size) (b : Below w1.heap.size w1 w') : w'.cell? ⟨z, 0, none⟩ = some a0 ∧ w'.cell? ⟨z, 1, none⟩ = some a1 ∧ w'.cell? ⟨z, 2, none⟩ = some a2 ∧ w'.cell? ⟨z, 3, none⟩ = some a3 ∧ w'.cell? ⟨z, 4, none⟩ = some a4 ∧ w'.cell? ⟨z, 5, none⟩ = some a5 ∧ w'.cell? ⟨z, 6, none⟩ = some a6 ∧ w'.cell? ⟨z, 7, none⟩ = some a7 ∧ w'.cell? ⟨gb, k * 9, none⟩ = some b0 ∧ w'.cell? ⟨gb, k * 9 + 1, none⟩ = some b1 ∧ w'.cell? ⟨gb, k * 9 + 2, none⟩ = some b2 ∧ w'.cell? ⟨gb, k * 9 + 3, none⟩ = some b3 ∧ w'.cell? ⟨gb, k * 9 + 4, none⟩ = some b4 ∧ w'.cell? ⟨gb, k * 9 + 5, none⟩ = some b5 ∧ w'.cell? ⟨gb, k * 9 + 6, none⟩ = some b6 ∧ w'.cell? ⟨gb, k * 9 + 7, none⟩ = some b7 ∧ w'.cell? ⟨g, 0, none⟩ = some c0 := by
  obtain ⟨e0, e1, e2, e3, e4, e5, e6, e7, e8, e9, e10, e11, e12, e13, e14, e15, e16⟩ := e
  have c : ∀ (p : Addr) v, p.block < w1.heap.size → w1.cell? p = some v → w'.cell? p = some v := fun p v h1 h2 => (b.cell h1).trans h2
  exact ⟨c _ _ l.2.2 e0, c _ _ l.2.2 e1, c _ _ l.2.2 e2, c _ _ l.2.2 e3, c _ _ l.2.2 e4, c _ _ l.2.2 e5, c _ _ l.2.2 e6, c _ _ l.2.2 e7, c _ _ l.2.1 e8, c _ _ l.2.1 e9, c _ _ l.2.1 e10, c _ _ l.2.1 e11, c _ _ l.2.1 e12, c _ _ l.2.1 e13, c _ _ l.2.1 e14, c _ _ l.2.1 e15, c _ _ l.1 e16⟩
set_option maxRecDepth 100000 in
set_option maxHeartbeats 8000000 in
theorem add_full {F : Nat → Prop} {w0 w : World} {A : List Asr} (h : St F w0 w A) (i : Nat) {g : Nat} {S : Nat → Prop} {most : Int} {l : List Hn} (hi : A[i]? = some (hO g S most l)) (hs : SortedH l) (hl : l.length ≤ 1000000) (r : Rc) (hk : r.f0.size < 4611686018427387904) (hm : mayB r = true) (h3 : r.f2 ≠ 3) (ht : thereH l r.f0 = false) (hfull : (l.length : Int) = most) :
    Calls Try.prog 12 #[.pointer (some ⟨g, 0, none⟩), .agg (eRc r).toArray] w (addPost F w0 A i g most l 6) := by
  obtain ⟨v, S1⟩ := Asr.ex_open (h.get i hi)
  obtain ⟨Av, cv, rfl⟩ := Kd.R_slice (S1.get 1 rfl).1
  have HO := Lib.hid (And.intro h hi)
  have HM := Lib.hid (fun w => may_c r hk w)
  rw [hm] at HM
  have HL := Lib.hid (And.intro (posH_le l r.f0) hl)
  have HA := Lib.hid (fun w2 (b : Below w.heap.size w w2) => at_c (h.below b) i hi hs hl r.f0)
  have HW := Lib.hid ((Below.refl w.heap.size w).alloc (Nat.le_refl _) (.cells (eRc r).toArray 35))
  obtain ⟨z, hz⟩ : ∃ z, w.heap.size = z := ⟨_, rfl⟩
  have H1 := Lib.hid (S1.new' (eRc r).toArray 35 z hz)
  obtain ⟨k, hkp⟩ : ∃ k, posH l r.f0 = k := ⟨_, rfl⟩
  rw [hkp] at HA HL
  rw [ht] at HA
  obtain ⟨l', hl'⟩ : ∃ l' : List Hn, l = l' := ⟨_, rfl⟩
  rw [hl']
  have HLL := Lib.hid hl'
  clear h hi S1 hs hk hm ht hl' hkp 
  obtain ⟨rk, ⟨rp, rl, rn⟩, rd, rf, re, rb⟩ := r
  unfold eRc at *
  dsimp only at *
  have h3' : ¬ rd = 3 := h3
  clear h3
  go_enter Try.func12, Try.ntmps12
  go_upto_region 1 with fail

  generalize World.alloc w _ = w1 at *
  clear hz
  have hC1 : ∀ (i : Nat) v, (#[.string rk, .int .u64 rp, .int .u32 rl, .int .u8 rn, .int .u8 rd, .int .u32 rf, .int .u64 re, .string rb] : Array Value)[i]? = some v → w1.cell? ⟨z, i, none⟩ = some v := fun i v h => (H1.out.cell 2 rfl i).trans h
  have z0 := hC1 0 _ rfl
  have z1 := hC1 1 _ rfl
  have z2 := hC1 2 _ rfl
  have z3 := hC1 3 _ rfl
  have z4 := hC1 4 _ rfl
  have z5 := hC1 5 _ rfl
  have z6 := hC1 6 _ rfl
  have z7 := hC1 7 _ rfl
  clear hC1

  go_wp2_with fail
  refine (HM.out _).mono ?_
  rintro e w2 ⟨rfl, b2⟩
  have H2 := Lib.hid (H1.out.below b2)
  have HW2 := Lib.hid (HW.out.trans (b2.mono HW.out.size))
  clear b2 z0 z1 z2 z3 z4 z5 z6 z7 H1 HW
  have z4 : w2.cell? ⟨z, 4, none⟩ = some (.int .u8 rd) := H2.out.cell 2 rfl 4
  have z0 : w2.cell? ⟨z, 0, none⟩ = some (.string rk) := H2.out.cell 2 rfl 0
  go_wp2_with fail
  refine (HA.out w2 HW2.out).mono ?_
  rintro e w3 ⟨rfl, b3⟩
  have H3 := Lib.hid (H2.out.below b3)
  clear b3 z4 z0 H2 HA HM HW2
  have g0 : w3.cell? ⟨g, 0, none⟩ = some (.slice Av l.length cv) := H3.out.cell 0 rfl 0
  have g1 : w3.cell? ⟨g, 1, none⟩ = some (.int .i64 most) := H3.out.cell 0 rfl 1
  go_upto_region 4 with fail
  go_quiet (fail)
  have H4 := Lib.hid (H3.out.drewN 0)
  clear H4
  go_upto_region 9 with fail
  go_quiet (fail)
  go_wp2_with fail
  go_ret
  have hll := HLL.out
  subst hll
  exact ⟨rfl, _, HO.out.1.exUpd i HO.out.2 (L1 := hP g most l) (.slice Av l.length cv) (((H3.out.sub (List.sublist_append_left _ _)).drewN _).drewN _)⟩
set_option maxRecDepth 100000 in
set_option maxHeartbeats 8000000 in
theorem add_old {F : Nat → Prop} {w0 w : World} {A : List Asr} (h : St F w0 w A) (i : Nat) {g : Nat} {S : Nat → Prop} {most : Int} {l : List Hn} (hi : A[i]? = some (hO g S most l)) (hs : SortedH l) (hl : l.length ≤ 1000000) (r : Rc) (hk : r.f0.size < 4611686018427387904) (hm : mayB r = true) (h3 : r.f2 ≠ 3) (ht : thereH l r.f0 = true) (hq : ∀ x, l[posH l r.f0]? = some x → recF r x.f0 ≤ 0) :
    Calls Try.prog 12 #[.pointer (some ⟨g, 0, none⟩), .agg (eRc r).toArray] w (addPost F w0 A i g most l 0) := by
  obtain ⟨v, S1⟩ := Asr.ex_open (h.get i hi)
  obtain ⟨x, hx, hxk⟩ := thereH_get ht
  obtain ⟨gb, cv, hv, _, _⟩ := slc_form (S1.get 1 rfl) (by have := (List.getElem?_eq_some_iff.1 hx).1; omega)
  subst hv
  have HO := Lib.hid (And.intro h hi)
  have HM := Lib.hid (fun w => may_c r hk w)
  rw [hm] at HM
  have HL := Lib.hid (And.intro (posH_le l r.f0) hl)
  have HQ := Lib.hid (fun w => rec_c r x.f0 w)
  have hqx := hq x hx
  obtain ⟨q, hqq⟩ : ∃ q, recF r x.f0 = q := ⟨_, rfl⟩
  rw [hqq] at HQ hqx
  have HN := Lib.hid hqx
  have HX := Lib.hid hx
  have HA := Lib.hid (fun w2 (b : Below w.heap.size w w2) => at_c (h.below b) i hi hs hl r.f0)
  have HW := Lib.hid ((Below.refl w.heap.size w).alloc (Nat.le_refl _) (.cells (eRc r).toArray 35))
  obtain ⟨z, hz⟩ : ∃ z, w.heap.size = z := ⟨_, rfl⟩
  have H1 := Lib.hid (S1.new' (eRc r).toArray 35 z hz)
  obtain ⟨k, hkp⟩ : ∃ k, posH l r.f0 = k := ⟨_, rfl⟩
  rw [hkp] at HA HL HX
  rw [ht] at HA
  obtain ⟨l', hl'⟩ : ∃ l' : List Hn, l = l' := ⟨_, rfl⟩
  rw [hl']
  have HLL := Lib.hid hl'
  clear h hi S1 hs hk hm ht hl' hkp hqx hqq hq hx hxk
  obtain ⟨rk, ⟨rp, rl, rn⟩, rd, rf, re, rb⟩ := r
  unfold eRc at *
  dsimp only at *
  have h3' : ¬ rd = 3 := h3
  clear h3
  go_enter Try.func12, Try.ntmps12
  go_upto_region 1 with fail

  generalize World.alloc w _ = w1 at *
  clear hz
  have hC1 : ∀ (i : Nat) v, (#[.string rk, .int .u64 rp, .int .u32 rl, .int .u8 rn, .int .u8 rd, .int .u32 rf, .int .u64 re, .string rb] : Array Value)[i]? = some v → w1.cell? ⟨z, i, none⟩ = some v := fun i v h => (H1.out.cell 2 rfl i).trans h
  have z0 := hC1 0 _ rfl
  have z1 := hC1 1 _ rfl
  have z2 := hC1 2 _ rfl
  have z3 := hC1 3 _ rfl
  have z4 := hC1 4 _ rfl
  have z5 := hC1 5 _ rfl
  have z6 := hC1 6 _ rfl
  have z7 := hC1 7 _ rfl
  clear hC1

  go_wp2_with fail
  refine (HM.out _).mono ?_
  rintro e w2 ⟨rfl, b2⟩
  have H2 := Lib.hid (H1.out.below b2)
  have HW2 := Lib.hid (HW.out.trans (b2.mono HW.out.size))
  clear b2 z0 z1 z2 z3 z4 z5 z6 z7 H1 HW
  have z4 : w2.cell? ⟨z, 4, none⟩ = some (.int .u8 rd) := H2.out.cell 2 rfl 4
  have z0 : w2.cell? ⟨z, 0, none⟩ = some (.string rk) := H2.out.cell 2 rfl 0
  go_wp2_with fail
  refine (HA.out w2 HW2.out).mono ?_
  rintro e w3 ⟨rfl, b3⟩
  have H3 := Lib.hid (H2.out.below b3)
  clear b3 z4 z0 H2 HA HM HW2
  have HZ : ∀ (j : Nat) v, (#[.string rk, .int .u64 rp, .int .u32 rl, .int .u8 rn, .int .u8 rd, .int .u32 rf, .int .u64 re, .string rb] : Array Value)[j]? = some v → w3.cell? ⟨z, j, none⟩ = some v := fun j v h => (H3.out.cell 2 rfl j).trans h
  have HE : ∀ c v, c < 9 → (eHn x)[c]? = some v → w3.cell? ⟨gb, k * 9 + c, none⟩ = some v := fun c v hc h => ((H3.out.elem flHn 1 rfl (i := k) (c := c) HX.out hc).1).trans h
  have hkl : (k : Int) < (l.length : Int) := by have := (List.getElem?_eq_some_iff.1 HX.out).1; omega
  have hkb : (k : Int) < 1000000 := by have := HL.out.2; omega
  have hk0 : (0 : Int) ≤ (k : Int) := by omega
  obtain ⟨⟨xk, ⟨xp, xl, xn⟩, xd, xf, xe, xb⟩, xa⟩ := x
  unfold eHn at HE
  dsimp only at HE HQ
  have HC := Lib.hid (And.intro (HZ 0 _ rfl) (And.intro (HZ 1 _ rfl) (And.intro (HZ 2 _ rfl) (And.intro (HZ 3 _ rfl) (And.intro (HZ 4 _ rfl) (And.intro (HZ 5 _ rfl) (And.intro (HZ 6 _ rfl) (And.intro (HZ 7 _ rfl) (And.intro (HE 0 _ (by decide) rfl) (And.intro (HE 1 _ (by decide) rfl) (And.intro (HE 2 _ (by decide) rfl) (And.intro (HE 3 _ (by decide) rfl) (And.intro (HE 4 _ (by decide) rfl) (And.intro (HE 5 _ (by decide) rfl) (And.intro (HE 6 _ (by decide) rfl) (And.intro (HE 7 _ (by decide) rfl) (show w3.cell? ⟨g, 0, none⟩ = some (.slice (some ⟨gb, 0, none⟩) l.length cv) from H3.out.cell 0 rfl 0)))))))))))))))))
  have HLT := Lib.hid (And.intro (H3.out.blt 0 rfl) (And.intro ((slc k52 52 _ l).lt (H3.out.get 1 rfl) (k := gb) rfl) (H3.out.blt 2 rfl)))
  clear HZ HE
  go_upto_region 4 with fail
  have hd : decide (q ≤ 0) = true := decide_eq_true (by have := HN.out; omega)
  go_region_held3 (fun w' => w'.cell? ⟨z, 0, none⟩ = some (.string rk) ∧ w'.cell? ⟨z, 1, none⟩ = some (.int .u64 rp) ∧ w'.cell? ⟨z, 2, none⟩ = some (.int .u32 rl) ∧ w'.cell? ⟨z, 3, none⟩ = some (.int .u8 rn) ∧ w'.cell? ⟨z, 4, none⟩ = some (.int .u8 rd) ∧ w'.cell? ⟨z, 5, none⟩ = some (.int .u32 rf) ∧ w'.cell? ⟨z, 6, none⟩ = some (.int .u64 re) ∧ w'.cell? ⟨z, 7, none⟩ = some (.string rb) ∧ w'.cell? ⟨gb, k * 9, none⟩ = some (.string xk) ∧ w'.cell? ⟨gb, k * 9 + 1, none⟩ = some (.int .u64 xp) ∧ w'.cell? ⟨gb, k * 9 + 2, none⟩ = some (.int .u32 xl) ∧ w'.cell? ⟨gb, k * 9 + 3, none⟩ = some (.int .u8 xn) ∧ w'.cell? ⟨gb, k * 9 + 4, none⟩ = some (.int .u8 xd) ∧ w'.cell? ⟨gb, k * 9 + 5, none⟩ = some (.int .u32 xf) ∧ w'.cell? ⟨gb, k * 9 + 6, none⟩ = some (.int .u64 xe) ∧ w'.cell? ⟨gb, k * 9 + 7, none⟩ = some (.string xb) ∧ w'.cell? ⟨g, 0, none⟩ = some (.slice (some ⟨gb, 0, none⟩) l.length cv))
    (refine keepR HC.out HLT.out (by repeat (first | exact Below.refl _ _ | apply below_alloc | apply below_drew1 | apply pw_below_drewN | refine below_call ?_ (by assumption))))
    (first | (go_at_call 30; refine (HQ.out _).mono ?_; rintro e w' ⟨rfl, b⟩))
  have H4 := Lib.hid (H3.out.drew.below b)
  rename_i hHeld
  clear hHeld b
  go_wp2_with fail
  go_ret
  have hll := HLL.out
  subst hll
  exact ⟨rfl, _, HO.out.1.exUpd i HO.out.2 (L1 := hP g most l) (.slice (some ⟨gb, 0, none⟩) l.length cv) (H4.out.sub (List.sublist_append_left _ _))⟩
set_option maxRecDepth 100000 in
set_option maxHeartbeats 8000000 in
theorem add_new {F : Nat → Prop} {w0 w : World} {A : List Asr} (h : St F w0 w A) (i : Nat) {g : Nat} {S : Nat → Prop} {most : Int} {l : List Hn} (hi : A[i]? = some (hO g S most l)) (hs : SortedH l) (hl : l.length ≤ 1000000) (r : Rc) (hk : r.f0.size < 4611686018427387904) (hm : mayB r = true) (h3 : r.f2 ≠ 3) (ht : thereH l r.f0 = true) (hq : ∀ x, l[posH l r.f0]? = some x → ¬ recF r x.f0 ≤ 0) :
    Calls Try.prog 12 #[.pointer (some ⟨g, 0, none⟩), .agg (eRc r).toArray] w (addPost F w0 A i g most (l.set (posH l r.f0) ⟨r, 0⟩) 0) := by
  obtain ⟨v, S1⟩ := Asr.ex_open (h.get i hi)
  obtain ⟨x, hx, hxk⟩ := thereH_get ht
  obtain ⟨gb, cv, hv, _, _⟩ := slc_form (S1.get 1 rfl) (by have := (List.getElem?_eq_some_iff.1 hx).1; omega)
  subst hv
  have HO := Lib.hid (And.intro h hi)
  have HM := Lib.hid (fun w => may_c r hk w)
  rw [hm] at HM
  have HL := Lib.hid (And.intro (posH_le l r.f0) hl)
  have HQ := Lib.hid (fun w => rec_c r x.f0 w)
  have hqx := hq x hx
  obtain ⟨q, hqq⟩ : ∃ q, recF r x.f0 = q := ⟨_, rfl⟩
  rw [hqq] at HQ hqx
  have HN := Lib.hid hqx
  have HX := Lib.hid hx
  have HA := Lib.hid (fun w2 (b : Below w.heap.size w w2) => at_c (h.below b) i hi hs hl r.f0)
  have HW := Lib.hid ((Below.refl w.heap.size w).alloc (Nat.le_refl _) (.cells (eRc r).toArray 35))
  obtain ⟨z, hz⟩ : ∃ z, w.heap.size = z := ⟨_, rfl⟩
  have H1 := Lib.hid (S1.new' (eRc r).toArray 35 z hz)
  obtain ⟨k, hkp⟩ : ∃ k, posH l r.f0 = k := ⟨_, rfl⟩
  rw [hkp] at HA HL HX ⊢
  rw [ht] at HA
  obtain ⟨l', hl'⟩ : ∃ l' : List Hn, l.set k ⟨r, 0⟩ = l' := ⟨_, rfl⟩
  rw [hl']
  have HLL := Lib.hid hl'
  clear h hi S1 hs hk hm ht hl' hkp hqx hqq hq hx hxk
  obtain ⟨rk, ⟨rp, rl, rn⟩, rd, rf, re, rb⟩ := r
  unfold eRc at *
  dsimp only at *
  have h3' : ¬ rd = 3 := h3
  clear h3
  go_enter Try.func12, Try.ntmps12
  go_upto_region 1 with fail

  generalize World.alloc w _ = w1 at *
  clear hz
  have hC1 : ∀ (i : Nat) v, (#[.string rk, .int .u64 rp, .int .u32 rl, .int .u8 rn, .int .u8 rd, .int .u32 rf, .int .u64 re, .string rb] : Array Value)[i]? = some v → w1.cell? ⟨z, i, none⟩ = some v := fun i v h => (H1.out.cell 2 rfl i).trans h
  have z0 := hC1 0 _ rfl
  have z1 := hC1 1 _ rfl
  have z2 := hC1 2 _ rfl
  have z3 := hC1 3 _ rfl
  have z4 := hC1 4 _ rfl
  have z5 := hC1 5 _ rfl
  have z6 := hC1 6 _ rfl
  have z7 := hC1 7 _ rfl
  clear hC1

  go_wp2_with fail
  refine (HM.out _).mono ?_
  rintro e w2 ⟨rfl, b2⟩
  have H2 := Lib.hid (H1.out.below b2)
  have HW2 := Lib.hid (HW.out.trans (b2.mono HW.out.size))
  clear b2 z0 z1 z2 z3 z4 z5 z6 z7 H1 HW
  have z4 : w2.cell? ⟨z, 4, none⟩ = some (.int .u8 rd) := H2.out.cell 2 rfl 4
  have z0 : w2.cell? ⟨z, 0, none⟩ = some (.string rk) := H2.out.cell 2 rfl 0
  go_wp2_with fail
  refine (HA.out w2 HW2.out).mono ?_
  rintro e w3 ⟨rfl, b3⟩
  have H3 := Lib.hid (H2.out.below b3)
  clear b3 z4 z0 H2 HA HM HW2
  have HZ : ∀ (j : Nat) v, (#[.string rk, .int .u64 rp, .int .u32 rl, .int .u8 rn, .int .u8 rd, .int .u32 rf, .int .u64 re, .string rb] : Array Value)[j]? = some v → w3.cell? ⟨z, j, none⟩ = some v := fun j v h => (H3.out.cell 2 rfl j).trans h
  have HE : ∀ c v, c < 9 → (eHn x)[c]? = some v → w3.cell? ⟨gb, k * 9 + c, none⟩ = some v := fun c v hc h => ((H3.out.elem flHn 1 rfl (i := k) (c := c) HX.out hc).1).trans h
  have hkl : (k : Int) < (l.length : Int) := by have := (List.getElem?_eq_some_iff.1 HX.out).1; omega
  have hkb : (k : Int) < 1000000 := by have := HL.out.2; omega
  have hk0 : (0 : Int) ≤ (k : Int) := by omega
  obtain ⟨⟨xk, ⟨xp, xl, xn⟩, xd, xf, xe, xb⟩, xa⟩ := x
  unfold eHn at HE
  dsimp only at HE HQ
  have HC := Lib.hid (And.intro (HZ 0 _ rfl) (And.intro (HZ 1 _ rfl) (And.intro (HZ 2 _ rfl) (And.intro (HZ 3 _ rfl) (And.intro (HZ 4 _ rfl) (And.intro (HZ 5 _ rfl) (And.intro (HZ 6 _ rfl) (And.intro (HZ 7 _ rfl) (And.intro (HE 0 _ (by decide) rfl) (And.intro (HE 1 _ (by decide) rfl) (And.intro (HE 2 _ (by decide) rfl) (And.intro (HE 3 _ (by decide) rfl) (And.intro (HE 4 _ (by decide) rfl) (And.intro (HE 5 _ (by decide) rfl) (And.intro (HE 6 _ (by decide) rfl) (And.intro (HE 7 _ (by decide) rfl) (show w3.cell? ⟨g, 0, none⟩ = some (.slice (some ⟨gb, 0, none⟩) l.length cv) from H3.out.cell 0 rfl 0)))))))))))))))))
  have HLT := Lib.hid (And.intro (H3.out.blt 0 rfl) (And.intro ((slc k52 52 _ l).lt (H3.out.get 1 rfl) (k := gb) rfl) (H3.out.blt 2 rfl)))
  clear HZ HE
  go_upto_region 4 with fail
  have hd : decide (q ≤ 0) = false := decide_eq_false (by have := HN.out; omega)
  go_region_held3 (fun w' => w'.cell? ⟨z, 0, none⟩ = some (.string rk) ∧ w'.cell? ⟨z, 1, none⟩ = some (.int .u64 rp) ∧ w'.cell? ⟨z, 2, none⟩ = some (.int .u32 rl) ∧ w'.cell? ⟨z, 3, none⟩ = some (.int .u8 rn) ∧ w'.cell? ⟨z, 4, none⟩ = some (.int .u8 rd) ∧ w'.cell? ⟨z, 5, none⟩ = some (.int .u32 rf) ∧ w'.cell? ⟨z, 6, none⟩ = some (.int .u64 re) ∧ w'.cell? ⟨z, 7, none⟩ = some (.string rb) ∧ w'.cell? ⟨gb, k * 9, none⟩ = some (.string xk) ∧ w'.cell? ⟨gb, k * 9 + 1, none⟩ = some (.int .u64 xp) ∧ w'.cell? ⟨gb, k * 9 + 2, none⟩ = some (.int .u32 xl) ∧ w'.cell? ⟨gb, k * 9 + 3, none⟩ = some (.int .u8 xn) ∧ w'.cell? ⟨gb, k * 9 + 4, none⟩ = some (.int .u8 xd) ∧ w'.cell? ⟨gb, k * 9 + 5, none⟩ = some (.int .u32 xf) ∧ w'.cell? ⟨gb, k * 9 + 6, none⟩ = some (.int .u64 xe) ∧ w'.cell? ⟨gb, k * 9 + 7, none⟩ = some (.string xb) ∧ w'.cell? ⟨g, 0, none⟩ = some (.slice (some ⟨gb, 0, none⟩) l.length cv))
    (refine keepR HC.out HLT.out (by repeat (first | exact Below.refl _ _ | apply below_alloc | apply below_drew1 | apply pw_below_drewN | refine below_call ?_ (by assumption))))
    (first | (go_at_call 30; refine (HQ.out _).mono ?_; rintro e w' ⟨rfl, b⟩))
  have H4 := Lib.hid (H3.out.drew.below b)
  rename_i hHeld
  clear hHeld b
  go_upto_region 7 with fail
  have c0 : w'.cell? ⟨g, 0, none⟩ = some (.slice (some ⟨gb, 0, none⟩) l.length cv) := H4.out.cell 0 rfl 0
  have hC4 : ∀ (i : Nat) v, (#[.string rk, .int .u64 rp, .int .u32 rl, .int .u8 rn, .int .u8 rd, .int .u32 rf, .int .u64 re, .string rb] : Array Value)[i]? = some v → w'.cell? ⟨z, i, none⟩ = some v := fun i v h => (H4.out.cell 2 rfl i).trans h
  have z0 := hC4 0 _ rfl
  have z1 := hC4 1 _ rfl
  have z2 := hC4 2 _ rfl
  have z3 := hC4 3 _ rfl
  have z4 := hC4 4 _ rfl
  have z5 := hC4 5 _ rfl
  have z6 := hC4 6 _ rfl
  have z7 := hC4 7 _ rfl
  clear hC4
  go_still_tail 8, (by kernel_rfl)
  change wpList _ _ _ _ _ w'.drew
  obtain ⟨ex, hR, hcc, hmm, hex⟩ : ∃ ex, Row w'.drew gb 52 eHn l ex ∧ l.length ≤ cv ∧ cv ≤ maxLen ∧ ex.length = (cv - l.length) * 9 := by
    rcases (slc_iff flHn).1 (H4.out.drew.get 1 rfl) with ⟨h, _⟩ | ⟨g', c', ex, h, hR, h1, h2, h3⟩
    · cases h
    · cases h; exact ⟨ex, hR, h1, h2, h3⟩
  refine wpList_store_row_at flHn rfl 52 _ _ rfl gb 52 k l ⟨⟨rk, ⟨rp, rl, rn⟩, rd, rf, re, rb⟩, 0⟩ ex rfl rfl sizeHn hR (by omega) ?_
  intro w5 hR5 m5 s5
  have hS5 : (slc k52 52 (.slice (some ⟨gb, 0, none⟩) l.length cv) (l.set k ⟨⟨rk, ⟨rp, rl, rn⟩, rd, rf, re, rb⟩, 0⟩)).holds w5 := (slc_iff flHn).2 (.inr ⟨gb, cv, ex, by rw [List.length_set], hR5, by rw [List.length_set]; exact hcc, hmm, by rw [List.length_set]; exact hex⟩)
  have H5 := Lib.hid (H4.out.drew.upd 1 rfl (a' := slc k52 52 (.slice (some ⟨gb, 0, none⟩) l.length cv) (l.set k ⟨⟨rk, ⟨rp, rl, rn⟩, rd, rf, re, rb⟩, 0⟩)) (m5.mono (fun k' _ hk => by rw [hk]; exact rfl)) hS5 (fun k hk => .inl hk))
  clear hS5 hR5 m5 s5 hR hcc hmm hex z0 z1 z2 z3 z4 z5 z6 z7 c0
  go_wp2_with fail
  go_ret
  have hll := HLL.out
  subst hll
  exact ⟨rfl, _, HO.out.1.exUpd i HO.out.2 (L1 := hP g most _) (.slice (some ⟨gb, 0, none⟩) l.length cv) (H5.out.sub (List.sublist_append_left _ _))⟩
set_option maxRecDepth 100000 in
set_option maxHeartbeats 8000000 in
theorem add_ins {F : Nat → Prop} {w0 w : World} {A : List Asr} (h : St F w0 w A) (i : Nat) {g : Nat} {S : Nat → Prop} {most : Int} {l : List Hn} (hi : A[i]? = some (hO g S most l)) (hs : SortedH l) (hl : l.length ≤ 1000000) (r : Rc) (hk : r.f0.size < 4611686018427387904) (hm : mayB r = true) (h3 : r.f2 ≠ 3) (ht : thereH l r.f0 = false) (hfull : ¬ (l.length : Int) = most) :
    Calls Try.prog 12 #[.pointer (some ⟨g, 0, none⟩), .agg (eRc r).toArray] w (addPost F w0 A i g most (l.take (posH l r.f0) ++ ⟨r, 0⟩ :: l.drop (posH l r.f0)) 0) := by
  obtain ⟨v, S1⟩ := Asr.ex_open (h.get i hi)
  obtain ⟨Av, cv, rfl⟩ := Kd.R_slice (S1.get 1 rfl).1
  have HO := Lib.hid (And.intro h hi)
  have HM := Lib.hid (fun w => may_c r hk w)
  rw [hm] at HM
  have HL := Lib.hid (And.intro (posH_le l r.f0) hl)
  have HA := Lib.hid (fun w2 (b : Below w.heap.size w w2) => at_c (h.below b) i hi hs hl r.f0)
  have HW := Lib.hid ((Below.refl w.heap.size w).alloc (Nat.le_refl _) (.cells (eRc r).toArray 35))
  obtain ⟨z, hz⟩ : ∃ z, w.heap.size = z := ⟨_, rfl⟩
  have H1 := Lib.hid (S1.new' (eRc r).toArray 35 z hz)
  obtain ⟨k, hkp⟩ : ∃ k, posH l r.f0 = k := ⟨_, rfl⟩
  rw [hkp] at HA HL ⊢
  rw [ht] at HA
  obtain ⟨l', hl'⟩ : ∃ l' : List Hn, l.take k ++ ⟨r, 0⟩ :: l.drop k = l' := ⟨_, rfl⟩
  rw [hl']
  have HLL := Lib.hid hl'
  clear h hi S1 hs hk hm ht hl' hkp 
  obtain ⟨rk, ⟨rp, rl, rn⟩, rd, rf, re, rb⟩ := r
  unfold eRc at *
  dsimp only at *
  have h3' : ¬ rd = 3 := h3
  clear h3
  go_enter Try.func12, Try.ntmps12
  go_upto_region 1 with fail

  generalize World.alloc w _ = w1 at *
  clear hz
  have hC1 : ∀ (i : Nat) v, (#[.string rk, .int .u64 rp, .int .u32 rl, .int .u8 rn, .int .u8 rd, .int .u32 rf, .int .u64 re, .string rb] : Array Value)[i]? = some v → w1.cell? ⟨z, i, none⟩ = some v := fun i v h => (H1.out.cell 2 rfl i).trans h
  have z0 := hC1 0 _ rfl
  have z1 := hC1 1 _ rfl
  have z2 := hC1 2 _ rfl
  have z3 := hC1 3 _ rfl
  have z4 := hC1 4 _ rfl
  have z5 := hC1 5 _ rfl
  have z6 := hC1 6 _ rfl
  have z7 := hC1 7 _ rfl
  clear hC1

  go_wp2_with fail
  refine (HM.out _).mono ?_
  rintro e w2 ⟨rfl, b2⟩
  have H2 := Lib.hid (H1.out.below b2)
  have HW2 := Lib.hid (HW.out.trans (b2.mono HW.out.size))
  clear b2 z0 z1 z2 z3 z4 z5 z6 z7 H1 HW
  have z4 : w2.cell? ⟨z, 4, none⟩ = some (.int .u8 rd) := H2.out.cell 2 rfl 4
  have z0 : w2.cell? ⟨z, 0, none⟩ = some (.string rk) := H2.out.cell 2 rfl 0
  go_wp2_with fail
  refine (HA.out w2 HW2.out).mono ?_
  rintro e w3 ⟨rfl, b3⟩
  have H3 := Lib.hid (H2.out.below b3)
  clear b3 z4 z0 H2 HA HM HW2
  have g0 : w3.cell? ⟨g, 0, none⟩ = some (.slice Av l.length cv) := H3.out.cell 0 rfl 0
  have g1 : w3.cell? ⟨g, 1, none⟩ = some (.int .i64 most) := H3.out.cell 0 rfl 1
  go_upto_region 4 with fail
  go_quiet (fail)
  go_upto_region 9 with fail
  go_quiet (fail)
  go_upto_region 11 with fail
  generalize hw : World.drewN (World.drewN w3 _) _ = w4
  have S4 : St S w w4 (hP g most l (.slice Av l.length cv) ++ [blk z #[.string rk, .int .u64 rp, .int .u32 rl, .int .u8 rn, .int .u8 rd, .int .u32 rf, .int .u64 re, .string rb] 35]) := by rw [← hw]; exact (H3.out.drewN _).drewN _
  clear g0 g1 hw
  obtain ⟨y, hy⟩ : ∃ y, w4.heap.size = y := ⟨_, rfl⟩
  have S5 := S4.new' (eHn ⟨⟨rk, ⟨rp, rl, rn⟩, rd, rf, re, rb⟩, 0⟩).toArray 52 y hy
  have HI := Lib.hid (fun W (S : St S w W (hP g most l (.slice Av l.length cv) ++ [blk z #[.string rk, .int .u64 rp, .int .u32 rl, .int .u8 rn, .int .u8 rd, .int .u32 rf, .int .u64 re, .string rb] 35, blk y (eHn ⟨⟨rk, ⟨rp, rl, rn⟩, rd, rf, re, rb⟩, 0⟩).toArray 52])) => I52.insert_s flHn l ⟨⟨rk, ⟨rp, rl, rn⟩, rd, rf, re, rb⟩, 0⟩ k HL.out.1 (.slice Av l.length cv) W (S.get 1 rfl) y (S.get 3 rfl) (fun e => S.ne 1 3 rfl rfl (by decide) y e rfl) HL.out.2)
  have H5 := Lib.hid S5
  have H4 := Lib.hid S4
  clear S5 S4 hfull
  have g0 : w4.cell? ⟨g, 0, none⟩ = some (.slice Av l.length cv) := H4.out.cell 0 rfl 0
  have g0a : ∀ cs t, (w4.alloc (.cells cs t)).cell? ⟨g, 0, none⟩ = some (.slice Av l.length cv) := fun cs t => (H4.out.alloc (.cells cs t)).cell 0 rfl 0
  have hC4 : ∀ (i : Nat) v, (#[.string rk, .int .u64 rp, .int .u32 rl, .int .u8 rn, .int .u8 rd, .int .u32 rf, .int .u64 re, .string rb] : Array Value)[i]? = some v → w4.cell? ⟨z, i, none⟩ = some v := fun i v h => (H4.out.cell 2 rfl i).trans h
  have z0 := hC4 0 _ rfl
  have z1 := hC4 1 _ rfl
  have z2 := hC4 2 _ rfl
  have z3 := hC4 3 _ rfl
  have z4 := hC4 4 _ rfl
  have z5 := hC4 5 _ rfl
  have z6 := hC4 6 _ rfl
  have z7 := hC4 7 _ rfl
  clear hC4
  have hk0 : (0 : Int) ≤ (k : Int) := by omega
  go_region_law
    ((go_simp; refine (HI.out _ H5.out.drew).mono ?_; rintro e w6 ⟨v6, rfl, hS6, m6, ho6⟩; obtain ⟨A6, n6, c6, rfl⟩ : ∃ A n c, v6 = .slice A n c := (by obtain ⟨A, c, h⟩ := Kd.R_slice hS6.1; exact ⟨A, _, c, h⟩); have S6 := H5.out.drew.upd 1 rfl m6 (a' := slc k52 52 (.slice A6 n6 c6) (l.take k ++ ⟨⟨rk, ⟨rp, rl, rn⟩, rd, rf, re, rb⟩, 0⟩ :: l.drop k)) hS6 ho6; have e6 : w6.cell? ⟨g, 0, none⟩ = some (.slice Av l.length cv) := S6.cell 0 rfl 0; have f6 : w6.frozen? ⟨g, 0, none⟩ = false := S6.frozen 0 rfl 0; have H6 := Lib.hid S6; clear S6 hS6 ho6 m6; simp only []))
  all_goals
    go_wp2_with fail
    go_ret
    have hll := HLL.out
    subst hll
    have S7 := (H6.out.set 0 rfl 0 (.slice A6 n6 c6))
    exact ⟨rfl, _, HO.out.1.exUpd i HO.out.2 (L1 := hP g most _) (.slice A6 n6 c6) (S7.sub (List.sublist_append_left _ _))⟩
end Go.Proofs.Ytmpodcefngpnkaa
