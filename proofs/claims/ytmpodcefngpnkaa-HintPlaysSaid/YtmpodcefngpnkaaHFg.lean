import Derived.Test.YtmpodcefngpnkaaHF
import Derived.Deep.DrawnRows
attribute [local go_sem ↓] Go.wp_at_zero Go.wp_at_succ
namespace Go.Proofs.Ytmpodcefngpnkaa
open Go.RowKit Go.Tat Go.Proofs.YtmpodcefngpnkaaW.PrintWords PHintPlays
set_option maxRecDepth 100000 in
set_option maxHeartbeats 8000000 in
theorem ack_gt {F : Nat → Prop} {w0 w : World} {A : List Asr} (h : St F w0 w A) (i : Nat) {g : Nat} {S : Nat → Prop} {most : Int} {l : List Hn} (hi : A[i]? = some (hO g S most l)) (hs : SortedH l) (hl : l.length ≤ 1000000) (key : ByteArray) (s : Stp) (n : Int) (hn : 0 ≤ n ∧ n < 64) (ht : thereH l key = true) (hc : ∀ x, l[posH l key]? = some x → 0 < hlcF x.f0.f1 s) :
    Calls Try.prog 11 #[.pointer (some ⟨g, 0, none⟩), .string key, .agg (eStp s).toArray, .int .u8 n] w (ackPost F w0 A i g most (ackL l key s n) (ackB l key s n)) := by
  have HO := Lib.hid (And.intro h hi)
  obtain ⟨v, S1⟩ := Asr.ex_open (h.get i hi)
  obtain ⟨x, hx, hxk⟩ := thereH_get ht
  obtain ⟨gb, cb, hv, _, _⟩ := slc_form (S1.get 1 rfl) (by have := (List.getElem?_eq_some_iff.1 hx).1; omega)
  subst hv
  obtain ⟨z, hz⟩ : ∃ z, w.heap.size = z := ⟨_, rfl⟩
  obtain ⟨s0, s1, s2⟩ := s
  have hpl := (List.getElem?_eq_some_iff.1 hx).1
  have HA := Lib.hid (at_c (h.alloc (.cells #[.int .u64 s0, .int .u32 s1, .int .u8 s2] 33)) i hi hs hl key)
  obtain ⟨k, hk⟩ : ∃ k, posH l key = k := ⟨_, rfl⟩
  have hcx := hc x hx
  clear hc
  rw [hk] at HA hx hpl
  rw [ht] at HA
  have S2 := S1.new' #[.int .u64 s0, .int .u32 s1, .int .u8 s2] 33 z hz
  have H2 := Lib.hid S2
  have HX := Lib.hid (And.intro hx (And.intro hs hl))
  have hn0 := hn.1
  have hn1 := hn.2
  unfold eStp
  dsimp only
  have hck : cS x.f0.f0 key = 0 := (cS_eq _ _).2 hxk
  have hB : ackB l key ⟨s0, s1, s2⟩ n = (!decide (0 < hlcF x.f0.f1 ⟨s0, s1, s2⟩) && !bitM x.f1 n) := by unfold ackB; rw [hk, hx]; simp [hck]
  have hLL : ackL l key ⟨s0, s1, s2⟩ n = if ackB l key ⟨s0, s1, s2⟩ n then l.set k (ackX x n) else l := by unfold ackL; rw [hk, hx]
  obtain ⟨l', hl'⟩ : ∃ l', ackL l key ⟨s0, s1, s2⟩ n = l' := ⟨_, rfl⟩
  obtain ⟨r', hr'⟩ : ∃ r', ackB l key ⟨s0, s1, s2⟩ n = r' := ⟨_, rfl⟩
  rw [hl', hr'] at hLL
  rw [hr'] at hB
  rw [hl', hr']
  have HLB := Lib.hid (And.intro hLL hB)
  clear hLL hB hck hxk hl' hr'
  clear h hi S1 S2 hs ht hk hn
  go_enter Try.func11, Try.ntmps11
  go_wp2_with fail
  rw [hz] at *
  generalize World.alloc w _ = w1 at *
  refine HA.out.mono ?_
  rintro e w2 ⟨rfl, b2⟩
  have H3 := Lib.hid (H2.out.below b2)
  clear b2 HA H2
  have hk0 : (0 : Int) ≤ (k : Int) := by omega
  have hkl : (k : Int) < (l.length : Int) := by omega
  have hkb : (k : Int) < 1000000 := by omega
  have g0 : w2.cell? ⟨g, 0, none⟩ = some (.slice (some ⟨gb, 0, none⟩) l.length cb) := H3.out.cell 0 rfl 0
  have E : ∀ c, c < 9 → w2.cell? ⟨gb, k * 9 + c, none⟩ = (eHn x)[c]? ∧ w2.frozen? ⟨gb, k * 9 + c, none⟩ = false := fun c hc => H3.out.elem flHn 1 rfl (i := k) (c := c) hx hc
  obtain ⟨⟨xk, ⟨xp, xl, xn⟩, xd, xf, xe, xb⟩, xa⟩ := x
  have u1 : w2.cell? ⟨gb, k * 9 + 1, none⟩ = some (.int .u64 xp) := (E 1 (by decide)).1
  have u2 : w2.cell? ⟨gb, k * 9 + 2, none⟩ = some (.int .u32 xl) := (E 2 (by decide)).1
  have u3 : w2.cell? ⟨gb, k * 9 + 3, none⟩ = some (.int .u8 xn) := (E 3 (by decide)).1
  have u8 : w2.cell? ⟨gb, k * 9 + 8, none⟩ = some (.int .u64 xa) := (E 8 (by decide)).1
  have z0 : w2.cell? ⟨z, 0, none⟩ = some (.int .u64 s0) := H3.out.cell 2 rfl 0
  have z1 : w2.cell? ⟨z, 1, none⟩ = some (.int .u32 s1) := H3.out.cell 2 rfl 1
  have z2 : w2.cell? ⟨z, 2, none⟩ = some (.int .u8 s2) := H3.out.cell 2 rfl 2
  have HE := Lib.hid (And.intro u1 (And.intro u2 (And.intro u3 (And.intro u8 (And.intro z0 (And.intro z1 (And.intro z2 g0)))))))
  have HL := Lib.hid (And.intro (H3.out.blt 0 rfl) (And.intro ((slc k52 52 _ l).lt (H3.out.get 1 rfl) (k := gb) rfl) (H3.out.blt 2 rfl)))
  clear E hx hpl u1 u2 u3 u8 z0 z1 z2 g0
  obtain ⟨r, hr⟩ : ∃ r, hlcF ⟨xp, xl, xn⟩ ⟨s0, s1, s2⟩ = r := ⟨_, rfl⟩
  have HH := Lib.hid (hlc_c ⟨xp, xl, xn⟩ ⟨s0, s1, s2⟩)
  rw [hr] at HH
  unfold hlcW eStp at HH
  dsimp only at HH
  dsimp only at HLB hcx
  rw [hr] at HLB hcx
  have hneg : 0 < r := hcx
  clear hcx
  clear hr
  go_upto_region 4 with fail
  have HN := Lib.hid hneg
  have hd : decide (0 < r) = true := decide_eq_true hneg
  clear hneg
  refine wp_region_held_drew (S := (fun w' => w'.cell? ⟨gb, k * 9 + 1, none⟩ = some (.int .u64 xp) ∧ w'.cell? ⟨gb, k * 9 + 2, none⟩ = some (.int .u32 xl) ∧ w'.cell? ⟨gb, k * 9 + 3, none⟩ = some (.int .u8 xn) ∧ w'.cell? ⟨gb, k * 9 + 8, none⟩ = some (.int .u64 xa) ∧ w'.cell? ⟨z, 0, none⟩ = some (.int .u64 s0) ∧ w'.cell? ⟨z, 1, none⟩ = some (.int .u32 s1) ∧ w'.cell? ⟨z, 2, none⟩ = some (.int .u8 s2) ∧ w'.cell? ⟨g, 0, none⟩ = some (.slice (some ⟨gb, 0, none⟩) l.length cb))) (by kernel_rfl) ?_ (fun hHeld => ?_)
  · (try dsimp only); (refine keepA HE.out HL.out (by repeat (first | exact Below.refl _ _ | apply below_alloc | apply below_drew1 | apply pw_below_drewN)))
  refine wpAnyH_take (i := 0) (oi := ({ dst := some 23, op := Go.Op.move (Go.Operand.tmp 10), type := 4, pos := "hint.go:58", after := #[], guard := none } : Oper)) (v := ?_) rfl (by kernel_rfl) (by kernel_rfl) (by kernel_rfl) (fun _ _ _ h => h) (Or.inl ⟨by rfl, ?_⟩) (by assumption) ?_
  rotate_left
  · (intro w hSw; (try dsimp only at hSw); go_simp; first | done | with_reducible rfl)
  try simp only [Act.put, List.setIfInBounds_toArray, List.set_cons_zero, List.set_cons_succ]
  refine wpAnyH_take (i := 1) (oi := ({ dst := some 24, op := Go.Op.unOp Go.UnOp.not 4 (Go.Operand.tmp 23), type := 4, pos := "hint.go:58", after := #[{ on := 0, ground := Go.Ground.data }], guard := none } : Oper)) (v := ?_) rfl (by kernel_rfl) (by kernel_rfl) (by kernel_rfl) (fun _ _ _ h => h) (Or.inl ⟨by rfl, ?_⟩) (by assumption) ?_
  rotate_left
  · (intro w hSw; (try dsimp only at hSw); go_simp; first | done | with_reducible rfl)
  try simp only [Act.put, List.setIfInBounds_toArray, List.set_cons_zero, List.set_cons_succ]
  refine wpAnyH_take (i := 2) (oi := ({ dst := some 25, op := Go.Op.move (Go.Operand.tmp 24), type := 4, pos := "hint.go:58", after := #[{ on := 1, ground := Go.Ground.data }], guard := none } : Oper)) (v := ?_) rfl (by kernel_rfl) (by kernel_rfl) (by kernel_rfl) (fun _ _ _ h => h) (Or.inl ⟨by rfl, ?_⟩) (by assumption) ?_
  rotate_left
  · (intro w hSw; (try dsimp only at hSw); go_simp; first | done | with_reducible rfl)
  try simp only [Act.put, List.setIfInBounds_toArray, List.set_cons_zero, List.set_cons_succ]
  refine wpAnyH_take (i := 3) (oi := ({ dst := some 26, op := Go.Op.move (Go.Operand.tmp 0), type := 24, pos := "hint.go:58", after := #[{ on := 2, ground := Go.Ground.guard }], guard := some (2, false) } : Oper)) (v := ?_) rfl (by kernel_rfl) (by kernel_rfl) (by kernel_rfl) (fun _ _ _ h => h) (Or.inl ⟨by rfl, ?_⟩) (by assumption) ?_
  rotate_left
  · (intro w hSw; (try dsimp only at hSw); go_simp; first | done | with_reducible rfl)
  try simp only [Act.put, List.setIfInBounds_toArray, List.set_cons_zero, List.set_cons_succ]
  refine wpAnyH_take (i := 4) (oi := ({ dst := some 27, op := Go.Op.nilCheck (Go.Operand.tmp 26), type := 0, pos := "hint.go:58", after := #[{ on := 3, ground := Go.Ground.data }, { on := 2, ground := Go.Ground.guard }], guard := some (2, false) } : Oper)) (v := ?_) rfl (by kernel_rfl) (by kernel_rfl) (by kernel_rfl) (fun _ _ _ h => h) (Or.inl ⟨by rfl, ?_⟩) (by assumption) ?_
  rotate_left
  · (intro w hSw; (try dsimp only at hSw); go_simp; first | done | with_reducible rfl)
  try simp only [Act.put, List.setIfInBounds_toArray, List.set_cons_zero, List.set_cons_succ]
  refine wpAnyH_take (i := 5) (oi := ({ dst := some 28, op := Go.Op.fieldAddr 70 (Go.Operand.tmp 27) 0, type := 0, pos := "hint.go:58", after := #[{ on := 4, ground := Go.Ground.data }, { on := 2, ground := Go.Ground.guard }], guard := some (2, false) } : Oper)) (v := ?_) rfl (by kernel_rfl) (by kernel_rfl) (by kernel_rfl) (fun _ _ _ h => h) (Or.inl ⟨by rfl, ?_⟩) (by assumption) ?_
  rotate_left
  · (intro w hSw; (try dsimp only at hSw); go_simp; first | done | with_reducible rfl)
  try simp only [Act.put, List.setIfInBounds_toArray, List.set_cons_zero, List.set_cons_succ]
  refine wpAnyH_take (i := 6) (oi := ({ dst := some 29, op := Go.Op.load 49 (Go.Operand.tmp 28), type := 49, pos := "hint.go:58", after := #[{ on := 5, ground := Go.Ground.data }, { on := 2, ground := Go.Ground.guard }], guard := some (2, false) } : Oper)) (v := ?_) rfl (by kernel_rfl) (by kernel_rfl) (by kernel_rfl) (fun _ _ _ h => h) (Or.inl ⟨by rfl, ?_⟩) (by assumption) ?_
  rotate_left
  · (intro w hSw; (try dsimp only at hSw); go_simp; first | done | with_reducible rfl)
  try simp only [Act.put, List.setIfInBounds_toArray, List.set_cons_zero, List.set_cons_succ]
  refine wpAnyH_take (i := 7) (oi := ({ dst := some 30, op := Go.Op.move (Go.Operand.tmp 9), type := 3, pos := "hint.go:58", after := #[{ on := 2, ground := Go.Ground.guard }], guard := some (2, false) } : Oper)) (v := ?_) rfl (by kernel_rfl) (by kernel_rfl) (by kernel_rfl) (fun _ _ _ h => h) (Or.inl ⟨by rfl, ?_⟩) (by assumption) ?_
  rotate_left
  · (intro w hSw; (try dsimp only at hSw); go_simp; first | done | with_reducible rfl)
  try simp only [Act.put, List.setIfInBounds_toArray, List.set_cons_zero, List.set_cons_succ]
  refine wpAnyH_take (i := 8) (oi := ({ dst := some 31, op := Go.Op.indexAddr 49 (Go.Operand.tmp 29) (Go.Operand.tmp 30), type := 0, pos := "hint.go:58", after := #[{ on := 6, ground := Go.Ground.data }, { on := 7, ground := Go.Ground.data }, { on := 2, ground := Go.Ground.guard }], guard := some (2, false) } : Oper)) (v := ?_) rfl (by kernel_rfl) (by kernel_rfl) (by kernel_rfl) (fun _ _ _ h => h) (Or.inl ⟨by rfl, ?_⟩) (by assumption) ?_
  rotate_left
  · (intro w hSw; (try dsimp only at hSw); go_simp; first | done | with_reducible rfl)
  try simp only [Act.put, List.setIfInBounds_toArray, List.set_cons_zero, List.set_cons_succ]
  refine wpAnyH_take (i := 9) (oi := ({ dst := some 32, op := Go.Op.fieldAddr 52 (Go.Operand.tmp 31) 0, type := 0, pos := "hint.go:58", after := #[{ on := 8, ground := Go.Ground.data }, { on := 2, ground := Go.Ground.guard }], guard := some (2, false) } : Oper)) (v := ?_) rfl (by kernel_rfl) (by kernel_rfl) (by kernel_rfl) (fun _ _ _ h => h) (Or.inl ⟨by rfl, ?_⟩) (by assumption) ?_
  rotate_left
  · (intro w hSw; (try dsimp only at hSw); go_simp; first | done | with_reducible rfl)
  try simp only [Act.put, List.setIfInBounds_toArray, List.set_cons_zero, List.set_cons_succ]
  refine wpAnyH_take (i := 10) (oi := ({ dst := some 33, op := Go.Op.fieldAddr 35 (Go.Operand.tmp 32) 1, type := 0, pos := "hint.go:58", after := #[{ on := 9, ground := Go.Ground.data }, { on := 2, ground := Go.Ground.guard }], guard := some (2, false) } : Oper)) (v := ?_) rfl (by kernel_rfl) (by kernel_rfl) (by kernel_rfl) (fun _ _ _ h => h) (Or.inl ⟨by rfl, ?_⟩) (by assumption) ?_
  rotate_left
  · (intro w hSw; (try dsimp only at hSw); go_simp; first | done | with_reducible rfl)
  try simp only [Act.put, List.setIfInBounds_toArray, List.set_cons_zero, List.set_cons_succ]
  refine wpAnyH_take (i := 11) (oi := ({ dst := some 34, op := Go.Op.load 33 (Go.Operand.tmp 33), type := 33, pos := "hint.go:58", after := #[{ on := 10, ground := Go.Ground.data }, { on := 2, ground := Go.Ground.guard }], guard := some (2, false) } : Oper)) (v := ?_) rfl (by kernel_rfl) (by kernel_rfl) (by kernel_rfl) (fun _ _ _ h => h) (Or.inl ⟨by rfl, ?_⟩) (by assumption) ?_
  rotate_left
  · (intro w hSw; (try dsimp only at hSw); go_simp; first | done | with_reducible rfl)
  try simp only [Act.put, List.setIfInBounds_toArray, List.set_cons_zero, List.set_cons_succ]
  refine wpAnyH_take (i := 12) (oi := ({ dst := some 35, op := Go.Op.load 33 (Go.Operand.tmp 6), type := 33, pos := "hint.go:58", after := #[{ on := 2, ground := Go.Ground.guard }], guard := some (2, false) } : Oper)) (v := ?_) rfl (by kernel_rfl) (by kernel_rfl) (by kernel_rfl) (fun _ _ _ h => h) (Or.inl ⟨by rfl, ?_⟩) (by assumption) ?_
  rotate_left
  · (intro w hSw; (try dsimp only at hSw); go_simp; first | done | with_reducible rfl)
  try simp only [Act.put, List.setIfInBounds_toArray, List.set_cons_zero, List.set_cons_succ]
  refine wpAnyH_ready (rs := [13]) (by kernel_rfl) (by simp) ?_
  refine AllReadyH.cons (o := ({ dst := some 36, op := Go.Op.call { callee := Go.Callee.value (Go.Operand.func 28), args := #[Go.Operand.tmp 34, Go.Operand.tmp 35], argTypes := #[33, 33] }, type := 3, pos := "hint.go:58", after := #[{ on := 11, ground := Go.Ground.data }, { on := 12, ground := Go.Ground.data }, { on := 2, ground := Go.Ground.chain }, { on := 2, ground := Go.Ground.guard }], guard := some (2, false) } : Oper)) rfl (fun K hK => ?_) AllReadyH.nil
  go_simp
  go_at_call 28
  refine (HH.out _).mono ?_
  rintro e w' ⟨rfl, rfl⟩
  go_wp2_with fail
  refine hK.out _ _ ?_ (fun hHeld2 => ?_)
  · (try dsimp only); (refine keepA HE.out HL.out (by repeat (first | exact Below.refl _ _ | apply below_alloc | apply below_drew1 | apply pw_below_drewN)))
  clear hK K hHeld
  try simp only [Act.put, List.setIfInBounds_toArray, List.set_cons_zero, List.set_cons_succ]
  refine wpAnyH_take (i := 14) (oi := ({ dst := some 37, op := Go.Op.binOp Go.BinOp.gtr 3 (Go.Operand.tmp 36) (Go.Operand.const (Go.Value.int Go.IntKind.i64 0)) 3, type := 4, pos := "hint.go:58", after := #[{ on := 13, ground := Go.Ground.data }, { on := 2, ground := Go.Ground.guard }], guard := some (2, false) } : Oper)) (v := ?_) rfl (by kernel_rfl) (by kernel_rfl) (by kernel_rfl) (fun _ _ _ h => h) (Or.inl ⟨by rfl, ?_⟩) (by assumption) ?_
  rotate_left
  · (intro w hSw; (try dsimp only at hSw); go_simp; first | done | with_reducible rfl)
  try simp only [Act.put, List.setIfInBounds_toArray, List.set_cons_zero, List.set_cons_succ]
  refine wpAnyH_take (i := 15) (oi := ({ dst := some 38, op := Go.Op.pick (Go.Operand.tmp 25) (Go.Operand.const (Go.Value.bool true)) (Go.Operand.tmp 37), type := 4, pos := "hint.go:58", after := #[{ on := 2, ground := Go.Ground.data }, { on := 14, ground := Go.Ground.data }], guard := none } : Oper)) (v := ?_) rfl (by kernel_rfl) (by kernel_rfl) (by kernel_rfl) (fun _ _ _ h => h) (Or.inl ⟨by rfl, ?_⟩) (by assumption) ?_
  rotate_left
  · (intro w hSw; (try dsimp only at hSw); go_simp; first | done | with_reducible rfl)
  try simp only [Act.put, List.setIfInBounds_toArray, List.set_cons_zero, List.set_cons_succ]
  refine wpAnyH_take (i := 16) (oi := ({ dst := some 39, op := Go.Op.move (Go.Operand.tmp 38), type := 4, pos := "hint.go:58", after := #[{ on := 15, ground := Go.Ground.data }, { on := 13, ground := Go.Ground.chain }], guard := none } : Oper)) (v := ?_) rfl (by kernel_rfl) (by kernel_rfl) (by kernel_rfl) (fun _ _ _ h => h) (Or.inl ⟨by rfl, ?_⟩) (by assumption) ?_
  rotate_left
  · (intro w hSw; (try dsimp only at hSw); go_simp; first | done | with_reducible rfl)
  try simp only [Act.put, List.setIfInBounds_toArray, List.set_cons_zero, List.set_cons_succ]
  refine wpAnyH_take (i := 17) (oi := ({ dst := some 40, op := Go.Op.move (Go.Operand.tmp 0), type := 24, pos := "hint.go:58", after := #[{ on := 16, ground := Go.Ground.guard }], guard := some (16, false) } : Oper)) (v := undef) rfl (by kernel_rfl) (by kernel_rfl) (by kernel_rfl) (fun _ _ _ h => h) (Or.inr ⟨by rfl, rfl⟩) (by assumption) ?_
  try simp only [Act.put, List.setIfInBounds_toArray, List.set_cons_zero, List.set_cons_succ]
  refine wpAnyH_take (i := 18) (oi := ({ dst := some 41, op := Go.Op.nilCheck (Go.Operand.tmp 40), type := 0, pos := "hint.go:58", after := #[{ on := 17, ground := Go.Ground.data }, { on := 16, ground := Go.Ground.guard }], guard := some (16, false) } : Oper)) (v := undef) rfl (by kernel_rfl) (by kernel_rfl) (by kernel_rfl) (fun _ _ _ h => h) (Or.inr ⟨by rfl, rfl⟩) (by assumption) ?_
  try simp only [Act.put, List.setIfInBounds_toArray, List.set_cons_zero, List.set_cons_succ]
  refine wpAnyH_take (i := 19) (oi := ({ dst := some 42, op := Go.Op.fieldAddr 70 (Go.Operand.tmp 41) 0, type := 0, pos := "hint.go:58", after := #[{ on := 18, ground := Go.Ground.data }, { on := 16, ground := Go.Ground.guard }], guard := some (16, false) } : Oper)) (v := undef) rfl (by kernel_rfl) (by kernel_rfl) (by kernel_rfl) (fun _ _ _ h => h) (Or.inr ⟨by rfl, rfl⟩) (by assumption) ?_
  try simp only [Act.put, List.setIfInBounds_toArray, List.set_cons_zero, List.set_cons_succ]
  refine wpAnyH_take (i := 20) (oi := ({ dst := some 43, op := Go.Op.load 49 (Go.Operand.tmp 42), type := 49, pos := "hint.go:58", after := #[{ on := 19, ground := Go.Ground.data }, { on := 16, ground := Go.Ground.guard }], guard := some (16, false) } : Oper)) (v := undef) rfl (by kernel_rfl) (by kernel_rfl) (by kernel_rfl) (fun _ _ _ h => h) (Or.inr ⟨by rfl, rfl⟩) (by assumption) ?_
  try simp only [Act.put, List.setIfInBounds_toArray, List.set_cons_zero, List.set_cons_succ]
  refine wpAnyH_take (i := 21) (oi := ({ dst := some 44, op := Go.Op.move (Go.Operand.tmp 9), type := 3, pos := "hint.go:58", after := #[{ on := 16, ground := Go.Ground.guard }], guard := some (16, false) } : Oper)) (v := undef) rfl (by kernel_rfl) (by kernel_rfl) (by kernel_rfl) (fun _ _ _ h => h) (Or.inr ⟨by rfl, rfl⟩) (by assumption) ?_
  try simp only [Act.put, List.setIfInBounds_toArray, List.set_cons_zero, List.set_cons_succ]
  refine wpAnyH_take (i := 22) (oi := ({ dst := some 45, op := Go.Op.indexAddr 49 (Go.Operand.tmp 43) (Go.Operand.tmp 44), type := 0, pos := "hint.go:58", after := #[{ on := 20, ground := Go.Ground.data }, { on := 21, ground := Go.Ground.data }, { on := 16, ground := Go.Ground.guard }], guard := some (16, false) } : Oper)) (v := undef) rfl (by kernel_rfl) (by kernel_rfl) (by kernel_rfl) (fun _ _ _ h => h) (Or.inr ⟨by rfl, rfl⟩) (by assumption) ?_
  try simp only [Act.put, List.setIfInBounds_toArray, List.set_cons_zero, List.set_cons_succ]
  refine wpAnyH_take (i := 23) (oi := ({ dst := some 46, op := Go.Op.fieldAddr 52 (Go.Operand.tmp 45) 1, type := 0, pos := "hint.go:58", after := #[{ on := 22, ground := Go.Ground.data }, { on := 16, ground := Go.Ground.guard }], guard := some (16, false) } : Oper)) (v := undef) rfl (by kernel_rfl) (by kernel_rfl) (by kernel_rfl) (fun _ _ _ h => h) (Or.inr ⟨by rfl, rfl⟩) (by assumption) ?_
  try simp only [Act.put, List.setIfInBounds_toArray, List.set_cons_zero, List.set_cons_succ]
  refine wpAnyH_take (i := 24) (oi := ({ dst := some 47, op := Go.Op.load 30 (Go.Operand.tmp 46), type := 30, pos := "hint.go:58", after := #[{ on := 23, ground := Go.Ground.data }, { on := 16, ground := Go.Ground.guard }], guard := some (16, false) } : Oper)) (v := undef) rfl (by kernel_rfl) (by kernel_rfl) (by kernel_rfl) (fun _ _ _ h => h) (Or.inr ⟨by rfl, rfl⟩) (by assumption) ?_
  try simp only [Act.put, List.setIfInBounds_toArray, List.set_cons_zero, List.set_cons_succ]
  refine wpAnyH_take (i := 25) (oi := ({ dst := some 48, op := Go.Op.move (Go.Operand.tmp 3), type := 5, pos := "hint.go:58", after := #[{ on := 16, ground := Go.Ground.guard }], guard := some (16, false) } : Oper)) (v := undef) rfl (by kernel_rfl) (by kernel_rfl) (by kernel_rfl) (fun _ _ _ h => h) (Or.inr ⟨by rfl, rfl⟩) (by assumption) ?_
  try simp only [Act.put, List.setIfInBounds_toArray, List.set_cons_zero, List.set_cons_succ]
  refine wpAnyH_take (i := 26) (oi := ({ dst := some 49, op := Go.Op.binOp Go.BinOp.shr 30 (Go.Operand.tmp 47) (Go.Operand.tmp 48) 5, type := 30, pos := "hint.go:58", after := #[{ on := 24, ground := Go.Ground.data }, { on := 25, ground := Go.Ground.data }, { on := 16, ground := Go.Ground.guard }], guard := some (16, false) } : Oper)) (v := undef) rfl (by kernel_rfl) (by kernel_rfl) (by kernel_rfl) (fun _ _ _ h => h) (Or.inr ⟨by rfl, rfl⟩) (by assumption) ?_
  try simp only [Act.put, List.setIfInBounds_toArray, List.set_cons_zero, List.set_cons_succ]
  refine wpAnyH_take (i := 27) (oi := ({ dst := some 50, op := Go.Op.binOp Go.BinOp.and 30 (Go.Operand.tmp 49) (Go.Operand.const (Go.Value.int Go.IntKind.u64 1)) 30, type := 30, pos := "hint.go:58", after := #[{ on := 26, ground := Go.Ground.data }, { on := 16, ground := Go.Ground.guard }], guard := some (16, false) } : Oper)) (v := undef) rfl (by kernel_rfl) (by kernel_rfl) (by kernel_rfl) (fun _ _ _ h => h) (Or.inr ⟨by rfl, rfl⟩) (by assumption) ?_
  try simp only [Act.put, List.setIfInBounds_toArray, List.set_cons_zero, List.set_cons_succ]
  refine wpAnyH_take (i := 28) (oi := ({ dst := some 51, op := Go.Op.binOp Go.BinOp.eql 30 (Go.Operand.tmp 50) (Go.Operand.const (Go.Value.int Go.IntKind.u64 1)) 30, type := 4, pos := "hint.go:58", after := #[{ on := 27, ground := Go.Ground.data }, { on := 16, ground := Go.Ground.guard }], guard := some (16, false) } : Oper)) (v := undef) rfl (by kernel_rfl) (by kernel_rfl) (by kernel_rfl) (fun _ _ _ h => h) (Or.inr ⟨by rfl, rfl⟩) (by assumption) ?_
  try simp only [Act.put, List.setIfInBounds_toArray, List.set_cons_zero, List.set_cons_succ]
  refine wpAnyH_take (i := 29) (oi := ({ dst := some 52, op := Go.Op.pick (Go.Operand.tmp 39) (Go.Operand.const (Go.Value.bool true)) (Go.Operand.tmp 51), type := 4, pos := "hint.go:58", after := #[{ on := 16, ground := Go.Ground.data }, { on := 28, ground := Go.Ground.data }], guard := none } : Oper)) (v := ?_) rfl (by kernel_rfl) (by kernel_rfl) (by kernel_rfl) (fun _ _ _ h => h) (Or.inl ⟨by rfl, ?_⟩) (by assumption) ?_
  rotate_left
  · (intro w hSw; (try dsimp only at hSw); go_simp; first | done | with_reducible rfl)
  try simp only [Act.put, List.setIfInBounds_toArray, List.set_cons_zero, List.set_cons_succ]
  refine wpAnyH_done (by kernel_rfl) ?_ _
  have S4 := ((H3.out.alloc (.cells #[.int .u64 xp, .int .u32 xl, .int .u8 xn] 33)).alloc (.cells #[.int .u64 s0, .int .u32 s1, .int .u8 s2] 33)).drew
  clear hHeld2
  generalize World.drew _ = w4 at *
  have H4 := Lib.hid S4
  clear S4
  go_wp2_with fail
  go_ret
  have hr : r' = false := by rw [HLB.out.2]; have := HN.out; simp; omega
  have hl : l' = l := by rw [HLB.out.1, hr]; rfl
  rw [hr, hl]
  have e5 := HO.out.1.exUpd i HO.out.2 (L1 := hP g most l) (.slice (some ⟨gb, 0, none⟩) l.length cb) (H4.out.sub (List.sublist_append_left _ _))
  exact ⟨rfl, _, e5⟩
end Go.Proofs.Ytmpodcefngpnkaa
