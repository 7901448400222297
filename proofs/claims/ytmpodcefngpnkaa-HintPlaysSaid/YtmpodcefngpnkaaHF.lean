/- Hints: made, counted, copied, acked. -/
import Derived.Test.YtmpodcefngpnkaaHE
namespace Go.Proofs.Ytmpodcefngpnkaa
open Go.RowKit Go.Tat Go.Proofs.YtmpodcefngpnkaaW.PrintWords PHintPlays
def newPost (F : Nat → Prop) (w0 : World) (A : List Asr) (n : Int) (e : Ending) (w' : World) : Prop := ∃ g S, e = .returned (.tuple #[.pointer (some ⟨g, 0, none⟩), .int .i64 0]) ∧ St F w0 w' (A ++ [hO g S n []])
theorem new_st {F : Nat → Prop} {w0 w : World} {A : List Asr} (h : St F w0 w A) (n : Int) (h1 : 1 ≤ n ∧ n ≤ 64) : Calls Try.prog 8 #[.int .i64 n] w (newPost F w0 A n) := by
  have H := Lib.hid h
  have a1 := h1.1
  have a2 := h1.2
  clear h h1
  go_enter Try.func8, Try.ntmps8
  go_wp2_with fail
  go_ret2
  have S1 := (((St.nil (fun _ => False) w).new' #[.slice none 0 0, .int .i64 n] 70 w.heap.size rfl)).nils k52 52
  have e5 := H.out.exAdd (L1 := hP w.heap.size n []) (.slice none 0 0) S1
  exact ⟨w.heap.size, _, rfl, e5⟩
theorem new_bad {w : World} (n : Int) (hb : ¬(1 ≤ n ∧ n ≤ 64)) : Calls Try.prog 8 #[.int .i64 n] w fun e w' => e = .returned (.tuple #[.pointer none, .int .i64 1]) ∧ w' = w := by
  by_cases h1 : n < 1
  · clear hb
    go_enter Try.func8, Try.ntmps8
    go_wp2
    go_ret2
    exact ⟨rfl, rfl⟩
  · have h2 : 64 < n := by omega
    clear hb
    go_enter Try.func8, Try.ntmps8
    go_wp2
    go_ret2
    exact ⟨rfl, rfl⟩
theorem len_c {F : Nat → Prop} {w0 w : World} {A : List Asr} (h : St F w0 w A) (i : Nat) {g : Nat} {S : Nat → Prop} {most : Int} {l : List Hn} (hi : A[i]? = some (hO g S most l)) :
    Calls Try.prog 15 #[.pointer (some ⟨g, 0, none⟩)] w fun e w' => e = .returned (.int .i64 l.length) ∧ w' = w := by
  obtain ⟨v, S1⟩ := Asr.ex_open (h.get i hi)
  obtain ⟨Av, cv, rfl⟩ := Kd.R_slice (S1.get 1 rfl).1
  have g0 : w.cell? ⟨g, 0, none⟩ = some (.slice Av l.length cv) := S1.cell 0 rfl 0
  clear h hi S1
  go_enter Try.func15, Try.ntmps15
  go_wp2_with fail
  go_ret
  exact ⟨rfl, rfl⟩
theorem len_nil (w : World) : Calls Try.prog 15 #[.pointer none] w fun e w' => e = .returned (.int .i64 0) ∧ w' = w := by
  go_enter Try.func15, Try.ntmps15
  go_wp2
  go_ret
  exact ⟨rfl, rfl⟩
theorem all_nil (w : World) : Calls Try.prog 18 #[.pointer none] w fun e w' => e = .returned (.slice none 0 0) ∧ w' = w := by
  go_enter Try.func18, Try.ntmps18
  go_wp2
  go_ret
  exact ⟨rfl, rfl⟩
theorem ack_nil (key : ByteArray) (s : Stp) (n : Int) (w : World) : Calls Try.prog 11 #[.pointer none, .string key, .agg (eStp s).toArray, .int .u8 n] w fun e w' => e = .returned (.bool false) ∧ Below w.heap.size w w' := by
  obtain ⟨s0, s1, s2⟩ := s
  unfold eStp
  go_enter Try.func11, Try.ntmps11
  go_wp2
  go_ret
  exact ⟨rfl, (Below.refl _ _).alloc (Nat.le_refl _) _⟩
def clonePost (w : World) (l : List Hn) (e : Ending) (w' : World) : Prop := ∃ v, e = .returned v ∧ St (fun _ => False) w w' [slc k52 52 v l]
set_option maxRecDepth 100000 in
set_option maxHeartbeats 4000000 in
theorem clone_c (l : List Hn) (A : Option Addr) (c : Nat) (w : World) (hC : k52.C w A l.length l) (hn : A = none → c = 0) (hl : l.length ≤ 1000000) : Calls Try.prog 39 #[.slice A l.length c] w (clonePost w l) := by
  cases A with
  | none =>
    obtain rfl := hn rfl
    have hl0 : l = [] := by
      rcases Nat.eq_zero_or_pos l.length with h0 | h0
      · exact List.eq_nil_of_length_eq_zero h0
      · obtain ⟨ad, e, _⟩ := hC.2.2 h0
        cases e
    subst hl0
    clear hC hn
    have he : ∀ w : World, (binOp .eql 49 (.slice none 0 0) (.slice none 0 0)).run Try.prog w = .ok (.bool true) w := fun _ => rfl
    go_enter Try.func39, Try.ntmps39
    go_wp2
    go_ret
    exact ⟨_, rfl, (St.nil _ w).nils k52 52⟩
  | some ad =>
    clear hn
    have HC := Lib.hid hC
    clear hC
    have he : ∀ w : World, (binOp .eql 49 (.slice (some ad) l.length c) (.slice none 0 0)).run Try.prog w = .ok (.bool false) w := fun _ => rfl
    go_enter Try.func39, Try.ntmps39
    have HL := Lib.hid (show (([] : List Hn).length + l.length) * 72 ≤ 140737488355328 by simp only [List.length_nil]; omega)
    go_upto_region 3 with fail
    clear he
    obtain ⟨z, hz⟩ : ∃ z, w.heap.size = z := ⟨_, rfl⟩
    have H6 := Lib.hid ((St.nil (fun _ => False) w).empty flHn 52 z hz)
    have HCC := Lib.hid (Kd.C_below HC.out H6.out.base)
    go_wp2_with (at_builtin; go_loud (refine St.wpN flHn rfl _ _ 49 52 (.agg #[.string ⟨#[]⟩, .int .u64 0, .int .u32 0, .int .u8 0, .int .u8 0, .int .u32 0, .int .u64 0, .string ⟨#[]⟩, .int .u64 0]) 72 rfl Try.underlying49 infoHn rfl (by decide) (by decide) H6.out 0 rfl l (some ad) c rfl rfl HCC.out HL.out ?_))
    intro T A9 c9 w9 h9
    obtain rfl : T = l := h9.out.1
    go_wp2_with fail
    go_ret
    exact ⟨_, rfl, h9.out.2⟩
def allPost (F : Nat → Prop) (w0 : World) (A : List Asr) (l : List Hn) (e : Ending) (w' : World) : Prop := ∃ v, e = .returned v ∧ St F w0 w' (A ++ [slc k52 52 v l])
theorem all_st {F : Nat → Prop} {w0 w : World} {A : List Asr} (h : St F w0 w A) (i : Nat) {g : Nat} {S : Nat → Prop} {most : Int} {l : List Hn} (hi : A[i]? = some (hO g S most l)) (hl : l.length ≤ 1000000) :
    Calls Try.prog 18 #[.pointer (some ⟨g, 0, none⟩)] w (allPost F w0 A l) := by
  obtain ⟨v, S1⟩ := Asr.ex_open (h.get i hi)
  have hC : ∃ Av cv, v = .slice Av l.length cv ∧ k52.C w Av l.length l ∧ (Av = none → cv = 0) := by
    rcases (slc_iff flHn).1 (S1.get 1 rfl) with ⟨rfl, rfl⟩ | ⟨g', cap, ex, rfl, hR, hc, hm, hex⟩
    · exact ⟨none, 0, rfl, (Kd.R_reads' (S1.get 1 rfl).1).2.2, fun _ => rfl⟩
    · exact ⟨_, _, rfl, (Kd.R_reads' (S1.get 1 rfl).1).2.2, fun e => by cases e⟩
  obtain ⟨Av, cv, rfl, hC, hn⟩ := hC
  have g0 : w.cell? ⟨g, 0, none⟩ = some (.slice Av l.length cv) := S1.cell 0 rfl 0
  have HB := Lib.hid (clone_c l Av cv w hC hn hl)
  have H := Lib.hid h
  clear h hi S1 hC hn
  go_enter Try.func18, Try.ntmps18
  go_wp2_with fail
  refine HB.out.mono ?_
  rintro e w2 ⟨v, rfl, S2⟩
  have H2 := Lib.hid (H.out.adds S2)
  clear S2
  go_wp2_with fail
  go_ret
  exact ⟨_, rfl, H2.out⟩
theorem thereH_get {l : List Hn} {key : ByteArray} (h : thereH l key = true) : ∃ x, l[posH l key]? = some x ∧ x.f0.f0 = key := by
  unfold thereH at h
  cases hx : l[posH l key]? with
  | none => rw [hx] at h; cases h
  | some x => rw [hx] at h; exact ⟨x, rfl, (cS_eq _ _).1 (by simpa using h)⟩
theorem keepA {w1 w' : World} {gb g z : Nat} {k1 k2 k3 k8 : Nat} {a1 a2 a3 a8 b0 b1 b2 c0 : Value} (e : w1.cell? ⟨gb, k1, none⟩ = some a1 ∧ w1.cell? ⟨gb, k2, none⟩ = some a2 ∧ w1.cell? ⟨gb, k3, none⟩ = some a3 ∧ w1.cell? ⟨gb, k8, none⟩ = some a8 ∧ w1.cell? ⟨z, 0, none⟩ = some b0 ∧ w1.cell? ⟨z, 1, none⟩ = some b1 ∧ w1.cell? ⟨z, 2, none⟩ = some b2 ∧ w1.cell? ⟨g, 0, none⟩ = some c0) (l : g < w1.heap.size ∧ gb < w1.heap.size ∧ z < w1.heap.size) (b : Below w1.heap.size w1 w') :
    w'.cell? ⟨gb, k1, none⟩ = some a1 ∧ w'.cell? ⟨gb, k2, none⟩ = some a2 ∧ w'.cell? ⟨gb, k3, none⟩ = some a3 ∧ w'.cell? ⟨gb, k8, none⟩ = some a8 ∧ w'.cell? ⟨z, 0, none⟩ = some b0 ∧ w'.cell? ⟨z, 1, none⟩ = some b1 ∧ w'.cell? ⟨z, 2, none⟩ = some b2 ∧ w'.cell? ⟨g, 0, none⟩ = some c0 := by
  obtain ⟨e1, e2, e3, e4, e5, e6, e7, e8⟩ := e
  have c : ∀ (p : Addr) v, p.block < w1.heap.size → w1.cell? p = some v → w'.cell? p = some v := fun p v h1 h2 => (b.cell h1).trans h2
  exact ⟨c _ _ l.2.1 e1, c _ _ l.2.1 e2, c _ _ l.2.1 e3, c _ _ l.2.1 e4, c _ _ l.2.2 e5, c _ _ l.2.2 e6, c _ _ l.2.2 e7, c _ _ l.1 e8⟩
/-- Whether a bit is set; a bit set. -/
def bitM (a n : Int) : Bool := bits .and .u64 (a / 2 ^ n.toNat) 1 == 1
def ackX (x : Hn) (n : Int) : Hn := { x with f1 := bits .or .u64 x.f1 (IntKind.u64.wrap (2 ^ n.toNat)) }
def ackB (l : List Hn) (key : ByteArray) (s : Stp) (n : Int) : Bool := match l[posH l key]? with | some x => decide (cS x.f0.f0 key = 0) && !decide (0 < hlcF x.f0.f1 s) && !bitM x.f1 n | none => false
def ackL (l : List Hn) (key : ByteArray) (s : Stp) (n : Int) : List Hn := if ackB l key s n then (match l[posH l key]? with | some x => l.set (posH l key) (ackX x n) | none => l) else l
def ackPost (F : Nat → Prop) (w0 : World) (A : List Asr) (i g : Nat) (most : Int) (l' : List Hn) (r : Bool) (e : Ending) (w' : World) : Prop := e = .returned (.bool r) ∧ ∃ S', St F w0 w' (A.set i (hO g S' most l'))
theorem ack_high (g : Nat) (key : ByteArray) (s : Stp) (n : Int) (hn : 64 ≤ n) (w : World) : Calls Try.prog 11 #[.pointer (some ⟨g, 0, none⟩), .string key, .agg (eStp s).toArray, .int .u8 n] w fun e w' => e = .returned (.bool false) ∧ Below w.heap.size w w' := by
  obtain ⟨s0, s1, s2⟩ := s
  unfold eStp
  go_enter Try.func11, Try.ntmps11
  go_wp2
  go_ret
  exact ⟨rfl, (Below.refl _ _).alloc (Nat.le_refl _) _⟩
set_option maxRecDepth 100000 in
set_option maxHeartbeats 4000000 in
theorem ack_none {F : Nat → Prop} {w0 w : World} {A : List Asr} (h : St F w0 w A) (i : Nat) {g : Nat} {S : Nat → Prop} {most : Int} {l : List Hn} (hi : A[i]? = some (hO g S most l)) (hs : SortedH l) (hl : l.length ≤ 1000000) (key : ByteArray) (s : Stp) (n : Int) (hn : n < 64) (ht : thereH l key = false) :
    Calls Try.prog 11 #[.pointer (some ⟨g, 0, none⟩), .string key, .agg (eStp s).toArray, .int .u8 n] w fun e w' => e = .returned (.bool false) ∧ Below w.heap.size w w' := by
  obtain ⟨s0, s1, s2⟩ := s
  have HA := Lib.hid (at_c (h.alloc (.cells #[.int .u64 s0, .int .u32 s1, .int .u8 s2] 33)) i hi hs hl key)
  rw [ht] at HA
  have HW := Lib.hid ((Below.refl w.heap.size w).alloc (Nat.le_refl _) (.cells #[.int .u64 s0, .int .u32 s1, .int .u8 s2] 33))
  unfold eStp
  dsimp only
  clear h hi hs ht
  obtain ⟨k, hk⟩ : ∃ k, posH l key = k := ⟨_, rfl⟩
  rw [hk] at HA
  clear hk
  go_enter Try.func11, Try.ntmps11
  go_wp2_with fail
  generalize World.alloc w _ = w1 at *
  refine HA.out.mono ?_
  rintro e w2 ⟨rfl, b2⟩
  have HB := Lib.hid (HW.out.trans (b2.mono HW.out.size))
  clear b2 HA
  go_upto_region 4 with fail
  go_quiet (fail)
  go_wp2_with fail
  go_ret
  exact ⟨rfl, pw_below_drewN HB.out _⟩
set_option maxRecDepth 100000 in
set_option maxHeartbeats 8000000 in
theorem ack_le {F : Nat → Prop} {w0 w : World} {A : List Asr} (h : St F w0 w A) (i : Nat) {g : Nat} {S : Nat → Prop} {most : Int} {l : List Hn} (hi : A[i]? = some (hO g S most l)) (hs : SortedH l) (hl : l.length ≤ 1000000) (key : ByteArray) (s : Stp) (n : Int) (hn : 0 ≤ n ∧ n < 64) (ht : thereH l key = true) (hc : ∀ x, l[posH l key]? = some x → hlcF x.f0.f1 s < 1) :
    Calls Try.prog 11 #[.pointer (some ⟨g, 0, none⟩), .string key, .agg (eStp s).toArray, .int .u8 n] w (ackPost F w0 A i g most (ackL l key s n) (ackB l key s n)) := by
  have HO := Lib.hid (And.intro h hi)
  obtain ⟨v, S1⟩ := Asr.ex_open (h.get i hi)
  obtain ⟨x, hx, hxk⟩ := thereH_get ht
  obtain ⟨gb, cb, hv, _, _⟩ := slc_form (S1.get 1 rfl) (by have := (List.getElem?_eq_some_iff.1 hx).1; omega)
  subst hv
  obtain ⟨z, hz⟩ : ∃ z, w.heap.size = z := ⟨_, rfl⟩
  obtain ⟨s0, s1, s2⟩ := s
  have hpl := (List.getElem?_eq_some_iff.1 hx).1
  have HA := Lib.hid (at_c (h.alloc (.cells #[.int .u64 s0, .int .u32 s1, .int .u8 s2] 33)) i hi hs hl key)
  obtain ⟨k, hk⟩ : ∃ k, posH l key = k := ⟨_, rfl⟩
  have hcx := hc x hx
  clear hc
  rw [hk] at HA hx hpl
  rw [ht] at HA
  have S2 := S1.new' #[.int .u64 s0, .int .u32 s1, .int .u8 s2] 33 z hz
  have H2 := Lib.hid S2
  have HX := Lib.hid (And.intro hx (And.intro hs hl))
  have hn0 := hn.1
  have hn1 := hn.2
  unfold eStp
  dsimp only
  have hck : cS x.f0.f0 key = 0 := (cS_eq _ _).2 hxk
  have hB : ackB l key ⟨s0, s1, s2⟩ n = (!decide (0 < hlcF x.f0.f1 ⟨s0, s1, s2⟩) && !bitM x.f1 n) := by unfold ackB; rw [hk, hx]; simp [hck]
  have hLL : ackL l key ⟨s0, s1, s2⟩ n = if ackB l key ⟨s0, s1, s2⟩ n then l.set k (ackX x n) else l := by unfold ackL; rw [hk, hx]
  obtain ⟨l', hl'⟩ : ∃ l', ackL l key ⟨s0, s1, s2⟩ n = l' := ⟨_, rfl⟩
  obtain ⟨r', hr'⟩ : ∃ r', ackB l key ⟨s0, s1, s2⟩ n = r' := ⟨_, rfl⟩
  rw [hl', hr'] at hLL
  rw [hr'] at hB
  rw [hl', hr']
  have HLB := Lib.hid (And.intro hLL hB)
  clear hLL hB hck hxk hl' hr'
  clear h hi S1 S2 hs ht hk hn
  go_enter Try.func11, Try.ntmps11
  go_wp2_with fail
  rw [hz] at *
  generalize World.alloc w _ = w1 at *
  refine HA.out.mono ?_
  rintro e w2 ⟨rfl, b2⟩
  have H3 := Lib.hid (H2.out.below b2)
  clear b2 HA H2
  have hk0 : (0 : Int) ≤ (k : Int) := by omega
  have hkl : (k : Int) < (l.length : Int) := by omega
  have hkb : (k : Int) < 1000000 := by omega
  have g0 : w2.cell? ⟨g, 0, none⟩ = some (.slice (some ⟨gb, 0, none⟩) l.length cb) := H3.out.cell 0 rfl 0
  have E : ∀ c, c < 9 → w2.cell? ⟨gb, k * 9 + c, none⟩ = (eHn x)[c]? ∧ w2.frozen? ⟨gb, k * 9 + c, none⟩ = false := fun c hc => H3.out.elem flHn 1 rfl (i := k) (c := c) hx hc
  obtain ⟨⟨xk, ⟨xp, xl, xn⟩, xd, xf, xe, xb⟩, xa⟩ := x
  have u1 : w2.cell? ⟨gb, k * 9 + 1, none⟩ = some (.int .u64 xp) := (E 1 (by decide)).1
  have u2 : w2.cell? ⟨gb, k * 9 + 2, none⟩ = some (.int .u32 xl) := (E 2 (by decide)).1
  have u3 : w2.cell? ⟨gb, k * 9 + 3, none⟩ = some (.int .u8 xn) := (E 3 (by decide)).1
  have u8 : w2.cell? ⟨gb, k * 9 + 8, none⟩ = some (.int .u64 xa) := (E 8 (by decide)).1
  have z0 : w2.cell? ⟨z, 0, none⟩ = some (.int .u64 s0) := H3.out.cell 2 rfl 0
  have z1 : w2.cell? ⟨z, 1, none⟩ = some (.int .u32 s1) := H3.out.cell 2 rfl 1
  have z2 : w2.cell? ⟨z, 2, none⟩ = some (.int .u8 s2) := H3.out.cell 2 rfl 2
  have HE := Lib.hid (And.intro u1 (And.intro u2 (And.intro u3 (And.intro u8 (And.intro z0 (And.intro z1 (And.intro z2 g0)))))))
  have HL := Lib.hid (And.intro (H3.out.blt 0 rfl) (And.intro ((slc k52 52 _ l).lt (H3.out.get 1 rfl) (k := gb) rfl) (H3.out.blt 2 rfl)))
  clear E hx hpl u1 u2 u3 u8 z0 z1 z2 g0
  obtain ⟨r, hr⟩ : ∃ r, hlcF ⟨xp, xl, xn⟩ ⟨s0, s1, s2⟩ = r := ⟨_, rfl⟩
  have HH := Lib.hid (hlc_c ⟨xp, xl, xn⟩ ⟨s0, s1, s2⟩)
  rw [hr] at HH
  unfold hlcW eStp at HH
  dsimp only at HH
  dsimp only at HLB hcx
  rw [hr] at HLB hcx
  have hneg : r < 1 := hcx
  clear hcx
  clear hr
  go_upto_region 4 with fail
  have hd : decide (0 < r) = false := decide_eq_false (by omega)
  have HN := Lib.hid hneg
  clear hneg
  go_region_held3 (fun w' => w'.cell? ⟨gb, k * 9 + 1, none⟩ = some (.int .u64 xp) ∧ w'.cell? ⟨gb, k * 9 + 2, none⟩ = some (.int .u32 xl) ∧ w'.cell? ⟨gb, k * 9 + 3, none⟩ = some (.int .u8 xn) ∧ w'.cell? ⟨gb, k * 9 + 8, none⟩ = some (.int .u64 xa) ∧ w'.cell? ⟨z, 0, none⟩ = some (.int .u64 s0) ∧ w'.cell? ⟨z, 1, none⟩ = some (.int .u32 s1) ∧ w'.cell? ⟨z, 2, none⟩ = some (.int .u8 s2) ∧ w'.cell? ⟨g, 0, none⟩ = some (.slice (some ⟨gb, 0, none⟩) l.length cb))
    (refine keepA HE.out HL.out (by repeat (first | exact Below.refl _ _ | apply below_alloc | apply below_drew1 | apply pw_below_drewN)))
    (first | (go_at_call 28; refine (HH.out _).mono ?_; rintro e w' ⟨rfl, rfl⟩))
  have S4 := ((H3.out.alloc (.cells #[.int .u64 xp, .int .u32 xl, .int .u8 xn] 33)).alloc (.cells #[.int .u64 s0, .int .u32 s1, .int .u8 s2] 33)).drew
  rename_i hHeld
  clear hHeld
  generalize World.drew _ = w4 at *
  have g0 : w4.cell? ⟨g, 0, none⟩ = some (.slice (some ⟨gb, 0, none⟩) l.length cb) := S4.cell 0 rfl 0
  have u8 : w4.cell? ⟨gb, k * 9 + 8, none⟩ = some (.int .u64 xa) := (S4.elem flHn 1 rfl (i := k) (c := 8) HX.out.1 (by decide)).1
  have f8 : w4.frozen? ⟨gb, k * 9 + 8, none⟩ = false := (S4.elem flHn 1 rfl (i := k) (c := 8) HX.out.1 (by decide)).2
  have H4 := Lib.hid S4
  clear S4
  obtain ⟨bb, hbb⟩ : ∃ bb, (bits .and .u64 (xa / 2 ^ n.toNat) 1 == 1) = bb := ⟨_, rfl⟩
  have HBB := Lib.hid (show bitM xa n = bb from hbb)
  rw [hbb]
  clear hbb
  cases bb with
  | true =>
    go_wp2_with fail
    go_ret
    have hr : r' = false := by rw [HLB.out.2, HBB.out]; simp
    have hl : l' = l := by rw [HLB.out.1, hr]; rfl
    rw [hr, hl]
    have e5 := HO.out.1.exUpd i HO.out.2 (L1 := hP g most l) (.slice (some ⟨gb, 0, none⟩) l.length cb) (H4.out.sub (List.sublist_append_left _ _))
    exact ⟨rfl, _, e5⟩
  | false =>
    have S6 := H4.out.put flHn 1 rfl (i := k) (c := 8) (y := ackX ⟨⟨xk, ⟨xp, xl, xn⟩, xd, xf, xe, xb⟩, xa⟩ n) (v := .int .u64 (bits .or .u64 xa (IntKind.u64.wrap (2 ^ n.toNat)))) HX.out.1 (by decide) rfl
    have S7 := S6.sub (M := hP g most (l.set k (ackX ⟨⟨xk, ⟨xp, xl, xn⟩, xd, xf, xe, xb⟩, xa⟩ n)) (.slice (some ⟨gb, 0, none⟩) l.length cb)) (List.sublist_append_left _ _)
    have H7 := Lib.hid S7
    clear S6 S7
    go_wp2_with fail
    go_ret
    have hr : r' = true := by rw [HLB.out.2, HBB.out]; have := HN.out; simp; omega
    have hl : l' = l.set k (ackX ⟨⟨xk, ⟨xp, xl, xn⟩, xd, xf, xe, xb⟩, xa⟩ n) := by rw [HLB.out.1, hr]; rfl
    rw [hr, hl]
    have e5 := HO.out.1.exUpd i HO.out.2 (L1 := hP g most (l.set k (ackX ⟨⟨xk, ⟨xp, xl, xn⟩, xd, xf, xe, xb⟩, xa⟩ n))) (.slice (some ⟨gb, 0, none⟩) l.length cb) H7.out
    exact ⟨rfl, _, e5⟩
end Go.Proofs.Ytmpodcefngpnkaa
