/- Hints: those that all owners have are dropped. -/
import Derived.Test.YtmpodcefngpnkaaHF
import Derived.Test.YtmpodcefngpnkaaGF
import Derived.Test.YtmpodcefngpnkaaGJ
import Derived.Test.YtmpodcefngpnkaaQ52
import Derived.Laws.BitsAllLaws
namespace Go.Proofs.Ytmpodcefngpnkaa
open Go.RowKit Go.Tat Go.Proofs.YtmpodcefngpnkaaW.PrintWords PHintPlays
/-! ### Bits -/
theorem bitM_mod (a n : Int) (h : 0 ≤ a ∧ a < 18446744073709551616) : bits .and .u64 (a / 2 ^ n.toNat) 1 = (a / 2 ^ n.toNat) % 2 := by
  have hp : (0 : Int) < 2 ^ n.toNat := Int.pow_pos (by decide)
  have h1 : 0 ≤ a / 2 ^ n.toNat := Int.ediv_nonneg h.1 (by omega)
  have h2 : a / 2 ^ n.toNat ≤ a := Int.ediv_le_self _ h.1
  rw [_root_.Go.u64_and _ _ h1 (by omega) (by decide) (by decide)]
  obtain ⟨q, hq⟩ := Int.eq_ofNat_of_zero_le h1
  rw [hq]
  simp [Nat.and_one_is_mod]
theorem bitM_zero (a n : Int) (h : 0 ≤ a ∧ a < 18446744073709551616) : (bits .and .u64 (a / 2 ^ n.toNat) 1 == 0) = !bitM a n := by
  unfold bitM
  rw [bitM_mod a n h]
  generalize a / 2 ^ n.toNat = q
  rcases Int.emod_two_eq q with e | e <;> rw [e] <;> rfl
theorem c11_c (a n : Int) (h : 0 ≤ a ∧ a < 18446744073709551616) (hn : 0 ≤ n ∧ n < 64) (z : Nat) (W : World) (hc : W.cell? ⟨z, 8, none⟩ = some (.int .u64 a)) : Calls Try.prog 38 #[.int .u8 n, .pointer (some ⟨z, 0, none⟩)] W fun e w' => e = .returned (.bool (!bitM a n)) ∧ W = w' := by
  rw [← bitM_zero a n h]
  have hn0 := hn.1
  have hn1 := hn.2
  clear h hn
  go_enter Try.func38, Try.ntmps38
  go_wp2
  go_ret
  exact ⟨rfl, rfl⟩
theorem enters11 : ∀ args w, (callFunc 38 args).run Try.prog w = .ok (.enter 38 args) w := enters_of Try.func38 (by kernel_rfl) rfl
set_option maxRecDepth 100000 in
set_option maxHeartbeats 2000000 in
theorem idx_c (a : Int) (h : 0 ≤ a ∧ a < 18446744073709551616) (l : List Int) (h0 : ∀ n ∈ l, 0 ≤ n ∧ n < 64) (hm : l.length ≤ 1000000) (b c z : Nat) (w : World) (hz : w.cell? ⟨z, 8, none⟩ = some (.int .u64 a)) (hC : ∀ (j : Nat) x, l[j]? = some x → w.cell? ⟨b, j, none⟩ = some (.int .u8 x)) :
    Calls Try.prog 59 #[.slice (some ⟨b, 0, none⟩) l.length c, .func (.func 38) #[] #[.pointer (some ⟨z, 0, none⟩)]] w fun e w' => (∃ r : Int, e = .returned (.int .i64 r) ∧ decide (0 ≤ r) = l.any fun n => !bitM a n) ∧ w = w' := by
  have HZ := Lib.hid (And.intro hz (And.intro hC (And.intro h h0)))
  have eg := enters11
  clear hz hC h h0
  go_enter Try.func59, Try.ntmps59
  go_wp2_with fail
  go_loopg [8] (l.length + 1) (fun k v W => ∃ j : Nat, j + k = l.length + 1 ∧ j ≤ l.length ∧ v = .int .i64 j ∧ (∀ (i : Nat) x, i < j → l[i]? = some x → bitM a x = true) ∧ w = W)
  case atStart => exact ⟨0, by omega, by omega, rfl, fun i x h => absurd h (Nat.not_lt_zero _), rfl⟩
  case round =>
    obtain ⟨j, hjk, hj, rfl, hno, hw⟩ := hrel
    subst hw
    have HJ := Lib.hid (And.intro hjk hno)
    clear hjk hno
    by_cases hjl : j < l.length
    · have hjl' : (j : Int) < (l.length : Int) := by omega
      have hxs : l[j]? = some l[j] := List.getElem?_eq_getElem hjl
      generalize l[j] = y at *
      have HX := Lib.hid hxs
      have u0 : w.cell? ⟨b, j, none⟩ = some (.int .u8 y) := HZ.out.2.1 j y hxs
      clear hxs
      have HK := Lib.hid (c11_c a y HZ.out.2.2.1 (HZ.out.2.2.2 y (List.mem_of_getElem? HX.out)) z w HZ.out.1)
      go_wp2_with fail
      refine HK.out.mono ?_
      rintro e w2 ⟨rfl, rfl⟩
      cases hpy : bitM a y with
      | false =>
        have HY := Lib.hid hpy
        clear hpy
        go_wp2
        go_ret
        refine ⟨⟨(j : Int), rfl, ?_⟩, rfl⟩
        rw [List.any_eq_true.2 ⟨y, List.mem_of_getElem? HX.out, by rw [HY.out]; rfl⟩, decide_eq_true_eq]
        exact Int.natCast_nonneg j
      | true =>
        have HY := Lib.hid hpy
        clear hpy
        go_wp2
        go_roundg (l.length - j)
        case measure => have := HJ.out.1; omega
        case rel =>
          refine ⟨j + 1, by have := HJ.out.1; omega, by omega, by go_num, fun i x hi hx => ?_, rfl⟩
          by_cases e : i = j
          · subst e
            have := HX.out
            rw [hx] at this; cases this; exact HY.out
          · exact HJ.out.2 i x (by omega) hx
    · have hjl' : ¬ (j : Int) < (l.length : Int) := by omega
      go_wp2
      go_ret
      refine ⟨⟨-1, rfl, ?_⟩, rfl⟩
      symm
      rw [show decide ((0 : Int) ≤ -1) = false from rfl, List.any_eq_false]
      intro x hx
      obtain ⟨i, hi⟩ := List.getElem?_of_mem hx
      rw [HJ.out.2 i x (by have := (List.getElem?_eq_some_iff.1 hi).1; omega) hi]
      simp
theorem con_c (a : Int) (h : 0 ≤ a ∧ a < 18446744073709551616) (l : List Int) (h0 : ∀ n ∈ l, 0 ≤ n ∧ n < 64) (hm : l.length ≤ 1000000) (b c z : Nat) (w : World) (hz : w.cell? ⟨z, 8, none⟩ = some (.int .u64 a)) (hC : ∀ (j : Nat) x, l[j]? = some x → w.cell? ⟨b, j, none⟩ = some (.int .u8 x)) :
    Calls Try.prog 37 #[.slice (some ⟨b, 0, none⟩) l.length c, .func (.func 38) #[] #[.pointer (some ⟨z, 0, none⟩)]] w fun e w' => e = .returned (.bool (l.any fun n => !bitM a n)) ∧ w = w' := by
  have HI := Lib.hid (idx_c a h l h0 hm b c z w hz hC)
  clear h h0 hz hC
  go_enter Try.func37, Try.ntmps37
  go_wp2_with fail
  refine HI.out.mono ?_
  rintro e w2 ⟨⟨r, rfl, hr⟩, rfl⟩
  have HR := Lib.hid hr
  clear hr
  go_wp2
  go_ret
  rw [← HR.out]
  exact ⟨rfl, rfl⟩
/-- All owners have it. -/
def setP (up : List Int) (x : Hn) : Bool := decide (0 < (own x.f0.f0 up).length) && !((own x.f0.f0 up).any fun n => !bitM x.f1 n)
/-- What a hint among them is. -/
structure GoodH (x : Hn) : Prop where
  key : x.f0.f0.size ≤ 1000000
  bits : 0 ≤ x.f1 ∧ x.f1 < 18446744073709551616
set_option maxRecDepth 100000 in
set_option maxHeartbeats 4000000 in
theorem says1 {w : World} {F : Nat → Prop} {zu : Nat} {Au : Option Addr} {cu : Nat} {up : List Int} (hz : w.cell? ⟨zu, 0, none⟩ = some (.slice Au up.length cu)) (hF : ¬ F zu) (hC : ∀ W, Mod F w W → (Kd.int .u8).C W Au up.length up) (h0 : ∀ x ∈ up, 0 ≤ x ∧ x < 256) (hl : up.length ≤ 1000000) (xs : List Hn) (hg : ∀ x ∈ xs, GoodH x) :
    Q52.Says 36 #[.pointer (some ⟨zu, 0, none⟩)] (setP up) F w xs := by
  intro W x hx m
  have g := hg x hx
  have hzl := World.block_lt_of_cell? w _ hz
  have u0 := (World.cell?_of_block (a := ⟨zu, 0, none⟩) (m.block zu hzl hF)).trans hz
  have hCW : (Kd.int .u8).C W Au up.length up := hC W m
  have hzW := World.block_lt_of_cell? W _ u0
  clear hz hF hC hg hx m hzl
  obtain ⟨z, hzz⟩ : ∃ z, W.heap.size = z := ⟨_, rfl⟩
  have S1 := (St.nil (fun _ => False) W).new' (eHn x).toArray 52 z hzz
  have HB := Lib.hid S1.base
  have b1 := (World.cell?_of_block (a := ⟨zu, 0, none⟩) (S1.base.block zu hzW)).trans u0
  have HO := Lib.hid (owners_st S1 x.f0.f0 g.key up Au cu (Kd.C_below hCW S1.base) h0 hl)
  have H1 := Lib.hid S1
  have HG := Lib.hid g
  have hm : ∀ n ∈ own x.f0.f0 up, 0 ≤ n ∧ n < 64 := fun n hn => ⟨(h0 n (own_mem hn).1).1, (own_mem hn).2⟩
  have HM := Lib.hid (And.intro hm (own_len x.f0.f0 up))
  obtain ⟨os, hos⟩ : ∃ os, own x.f0.f0 up = os := ⟨_, rfl⟩
  obtain ⟨p, hp⟩ : ∃ p, setP up x = p := ⟨_, rfl⟩
  have HP := Lib.hid hp
  unfold setP at HP
  rw [hp]
  rw [hos] at HP HM HO
  clear g S1 hCW hzW u0 hm hos hp h0 hl
  obtain ⟨⟨xk, ⟨xp, xl, xn⟩, xd, xf, xe, xb⟩, xa⟩ := x
  unfold eHn at *
  dsimp only at *
  go_enter Try.func36, Try.ntmps36
  go_upto_region 1 with fail
  generalize World.alloc W _ = W1 at *
  clear hzz
  have z0 : W1.cell? ⟨z, 0, none⟩ = some (.string xk) := H1.out.cell 0 rfl 0
  go_wp2_with fail
  refine HO.out.mono ?_
  rintro e W2 ⟨v, rfl, S2⟩
  have HB2 := Lib.hid S2.base
  rcases Nat.eq_zero_or_pos os.length with e0 | e0
  · obtain ⟨A, c, rfl⟩ := Kd.R_slice (S2.get 1 rfl).1
    have he : os = [] := List.eq_nil_of_length_eq_zero e0
    subst he
    have hp : p = false := by rw [← HP.out]; rfl
    subst hp
    rw [List.length_nil]
    clear S2 e0
    go_wp2_with fail
    go_ret
    exact ⟨rfl, HB2.out⟩
  · obtain ⟨b, c, rfl, _, _⟩ := slc_form (S2.get 1 rfl) e0
    have HI := Lib.hid (con_c xa HG.out.bits os HM.out.1 (by have := HM.out.2; omega) b c z W2 (S2.cell 0 rfl 8) (fun j x hj => slc_int (S2.get 1 rfl) hj))
    have hp : (!(os.any fun n => !bitM xa n)) = p := by rw [← HP.out]; simp [e0]
    have HQ := Lib.hid hp
    have e1 : (0 : Int) < (os.length : Int) := by omega
    clear S2 e0 hp
    generalize (os.any fun n => !bitM xa n) = q at *
    go_wp2_with fail
    refine HI.out.mono ?_
    rintro e W3 ⟨rfl, rfl⟩
    go_wp2_with fail
    go_ret
    rw [← HQ.out]
    exact ⟨rfl, HB2.out⟩
theorem enters1 : ∀ args w, (callFunc 36 args).run Try.prog w = .ok (.enter 36 args) w := enters_of Try.func36 (by kernel_rfl) rfl
def setL (up : List Int) (l : List Hn) : List Hn := l.filter fun x => !setP up x
def setPost (F : Nat → Prop) (w0 : World) (A : List Asr) (i g : Nat) (most : Int) (l l' : List Hn) (e : Ending) (w' : World) : Prop := e = .returned (.int .i64 ((l.length : Int) - l'.length)) ∧ ∃ S', St F w0 w' (A.set i (hO g S' most l'))
set_option maxRecDepth 100000 in
set_option maxHeartbeats 4000000 in
theorem settle_c {F : Nat → Prop} {w0 w : World} {A : List Asr} (h : St F w0 w A) (i : Nat) {g : Nat} {S : Nat → Prop} {most : Int} {l : List Hn} (hi : A[i]? = some (hO g S most l)) (hg : ∀ x ∈ l, GoodH x) (hl : l.length ≤ 1000000) {Au : Option Addr} {cu : Nat} {up : List Int} (hC : ∀ W, Mod S w W → (Kd.int .u8).C W Au up.length up) (h0 : ∀ x ∈ up, 0 ≤ x ∧ x < 256) (hu : up.length ≤ 1000000) :
    Calls Try.prog 17 #[.pointer (some ⟨g, 0, none⟩), .slice Au up.length cu] w (setPost F w0 A i g most l (setL up l)) := by
  obtain ⟨v, S1⟩ := Asr.ex_open (h.get i hi)
  obtain ⟨Av, cv, rfl⟩ := Kd.R_slice (S1.get 1 rfl).1
  have HO := Lib.hid (And.intro h hi)
  obtain ⟨z, hz⟩ : ∃ z, w.heap.size = z := ⟨_, rfl⟩
  have S2 := S1.new' #[.slice Au up.length cu] 23 z hz
  have hs1 := says1 (F := fun k => (Value.slice Av l.length cv).ownBlock = some k) (S2.cell 2 rfl 0) (fun e => S2.ne 1 2 rfl rfl (by decide) z e rfl) (fun W m => hC W ((Mod.alloc S w _).trans' m (fun k hk e => S1.inn _ (List.mem_of_getElem? (i := 1) rfl) k e hk))) h0 hu l hg
  have HD := Lib.hid (Q52.delete_s flHn _ zeroHn rfl (by decide) 36 #[.pointer (some ⟨z, 0, none⟩)] (setP up) l (.slice Av l.length cv) _ hs1 enters1 (S2.get 1 rfl))
  have HF : (l.filter fun x => !setP up x) = setL up l := rfl
  rw [HF] at HD
  have hll : (setL up l).length ≤ l.length := List.length_filter_le _ _
  obtain ⟨l', hl'⟩ : ∃ l', setL up l = l' := ⟨_, rfl⟩
  rw [hl'] at HD hll ⊢
  obtain ⟨n', hn'⟩ : ∃ n' : Nat, l'.length = n' := ⟨_, rfl⟩
  obtain ⟨n, hn⟩ : ∃ n : Nat, l.length = n := ⟨_, rfl⟩
  have HN := Lib.hid (And.intro hn hn')
  rw [hn] at S2 HD hll hl
  rw [hn'] at hll
  have g0 : (w.alloc (.cells #[.slice Au up.length cu] 23)).cell? ⟨g, 0, none⟩ = some (.slice Av n cv) := S2.cell 0 rfl 0
  have H2 := Lib.hid S2
  have hw : wrap64 ((n : Int) - (n' : Int)) = (n : Int) - n' := by unfold wrap64; omega
  clear h hi S1 hg hC h0 hu S2 hs1 HF hl' hn hn'
  go_enter Try.func17, Try.ntmps17
  go_upto_region 1 with fail
  generalize World.alloc w _ = w1 at *
  clear hz
  go_wp2_with fail
  refine HD.out.mono ?_
  rintro e w2 ⟨v', rfl, hS, ho, m2⟩
  have S3 := H2.out.upd 1 rfl m2 (a' := slc k52 52 v' l') hS (fun k hk => .inl (ho.symm.trans hk))
  obtain ⟨A', n2, c', rfl, hn2⟩ : ∃ A n2 c, v' = .slice A n2 c ∧ n2 = n' := by
    obtain ⟨A, c, h⟩ := Kd.R_slice hS.1
    exact ⟨A, _, c, h, HN.out.2⟩
  subst hn2
  have g0 : w2.cell? ⟨g, 0, none⟩ = some (.slice Av n cv) := S3.cell 0 rfl 0
  have f0 : w2.frozen? ⟨g, 0, none⟩ = false := S3.frozen 0 rfl 0
  have S4 := S3.set 0 rfl 0 (.slice A' n2 c')
  have g1 : (w2.setCell ⟨g, 0, none⟩ (.slice A' n2 c')).cell? ⟨g, 0, none⟩ = some (.slice A' n2 c') := S4.cell 0 rfl 0
  have H4 := Lib.hid S4
  clear S3 S4 hS ho m2
  go_wp2_with fail
  go_ret
  exact ⟨by rw [HN.out.1, HN.out.2]; rfl, _, HO.out.1.exUpd i HO.out.2 (L1 := hP g most l') (.slice A' n2 c') (H4.out.sub (List.sublist_append_left _ _))⟩
theorem settle_st {w0 w : World} {A : List Asr} (h : St (fun _ => False) w0 w A) (i : Nat) {g : Nat} {S : Nat → Prop} {most : Int} {l : List Hn} (hi : A[i]? = some (hO g S most l)) (hg : ∀ x ∈ l, GoodH x) (hl : l.length ≤ 1000000) {Au : Option Addr} {cu : Nat} {up : List Int} (hC : (Kd.int .u8).C w0 Au up.length up) (h0 : ∀ x ∈ up, 0 ≤ x ∧ x < 256) (hu : up.length ≤ 1000000) :
    Calls Try.prog 17 #[.pointer (some ⟨g, 0, none⟩), .slice Au up.length cu] w (setPost (fun _ => False) w0 A i g most l (setL up l)) :=
  settle_c h i hi hg hl (fun W m => Kd.C_below hC (h.base.trans (m.below h.base.size fun k hk e => by have := h.ge i hi e; omega))) h0 hu
theorem settle_nil (Au : Option Addr) (nu cu : Nat) (w : World) : Calls Try.prog 17 #[.pointer none, .slice Au nu cu] w fun e w' => e = .returned (.int .i64 0) ∧ Below w.heap.size w w' := by
  go_enter Try.func17, Try.ntmps17
  go_wp2
  go_ret
  exact ⟨rfl, (Below.refl _ _).alloc (Nat.le_refl _) _⟩
end Go.Proofs.Ytmpodcefngpnkaa
