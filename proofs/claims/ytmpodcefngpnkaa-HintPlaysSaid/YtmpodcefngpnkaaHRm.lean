/- Several texts put together. -/
import Derived.Test.YtmpodcefngpnkaaHPl
import Derived.Test.YtmpodcefngpnkaaLib
import Derived.Test.YtmpodcefngpnkaaHX
import Derived.StillTailTactics
import Derived.Deep.RegionHeld3
import Derived.Test.YtmpodcefngpnkaaBuild1
set_option linter.unusedVariables false
set_option linter.unusedSimpArgs false
/- The document's hints: as a row; the search, the copy, the comparison. -/
set_option linter.unusedVariables false
set_option linter.unusedSimpArgs false
namespace Go.Proofs.Ytmpodcefngpnkaa
open Go.RowKit Go.Tat Go.Proofs.YtmpodcefngpnkaaW.PrintWords PHintPlays
/-- A hint of the document's: its record, its bits as a table. -/
def eRf (x : Hn) : List Value := eRc x.f0 ++ (List.range 64).map fun m : Nat => Value.bool (bitM x.f1 (m : Int))
theorem eRf_len (x : Hn) : (eRf x).length = 72 := by unfold eRf eRc; rw [List.length_append, List.length_map, List.length_range]; rfl
theorem eRf_one (x : Hn) : ∀ u ∈ eRf x, u.oneCell' = true := by
  intro u hu
  unfold eRf at hu
  rcases List.mem_append.1 hu with h | h
  · unfold eRc at h
    simp only [List.mem_cons, List.not_mem_nil, or_false] at h
    rcases h with rfl | rfl | rfl | rfl | rfl | rfl | rfl | rfl <;> rfl
  · obtain ⟨m, _, rfl⟩ := List.mem_map.1 h
    rfl
def kRf : Kd Hn where
  sz := 72
  E := []
  K := fun _ x cs => cs = eRf x
  M := fun _ _ _ x cs => cs = eRf x
  K_len := fun h => by rw [h]; exact eRf_len _
  K_one := fun h => by rw [h]; exact eRf_one _
  K_below := fun _ h => h
  K_of_M := fun h => h
  M_mono := fun _ h => h
  M_bound := fun h => h
  M_move := fun _ h => h
  M_lower := fun _ h => h
theorem flRf : Flat kRf eRf := ⟨rfl, Iff.rfl, Iff.rfl⟩
def zRf : Hn := ⟨⟨⟨#[]⟩, ⟨0, 0, 0⟩, 0, 0, 0, ⟨#[]⟩⟩, 0⟩
theorem infoRf : (Try.prog.info? 87).map (fun i => (i.zero, i.size, i.bytes)) = some (some (.agg (eRf zRf).toArray), 72, 128) := by kernel_rfl
theorem sizeRf : (Try.prog.info? 87).map (·.size) = some 72 := by kernel_rfl
theorem eRf_rec (x : Hn) (c : Nat) (h : c < 8) : (eRf x)[c]? = (eRc x.f0)[c]? := by unfold eRf; rw [List.getElem?_append_left (by unfold eRc; exact h)]
theorem eRf_bit (x : Hn) (m : Nat) (h : m < 64) : (eRf x)[8 + m]? = some (.bool (bitM x.f1 (m : Int))) := by
  unfold eRf
  rw [List.getElem?_append_right (by unfold eRc; exact Nat.le_add_right 8 m)]
  have e : 8 + m - (eRc x.f0).length = m := by unfold eRc; show 8 + m - 8 = m; omega
  rw [e, List.getElem?_map, List.getElem?_range h]
  rfl
theorem eRf_ack {x : Hn} (g : GoodM x) {n : Int} (hn : 0 ≤ n ∧ n < 64) : eRf (ackX x n) = (eRf x).set (8 + n.toNat) (.bool true) := by
  apply List.ext_getElem?
  intro c
  rw [List.getElem?_set]
  rcases Nat.lt_or_ge c 8 with h | h
  · rw [if_neg (by omega), eRf_rec _ c h, eRf_rec _ c h]
    rfl
  · rcases Nat.lt_or_ge c 72 with h7 | h7
    · obtain ⟨m, rfl⟩ : ∃ m, c = 8 + m := ⟨c - 8, by omega⟩
      rw [eRf_bit _ m (by omega), ackX_bit g hn ⟨Int.natCast_nonneg m, by omega⟩]
      split
      · rename_i e
        have e2 : (m : Int) = n := by omega
        rw [if_pos (by rw [eRf_len]; omega), e2]
        simp
      · rename_i e
        have e2 : ¬ (m : Int) = n := by omega
        rw [eRf_bit _ m (by omega)]
        simp [e2]
    · rw [List.getElem?_eq_none (by rw [eRf_len]; exact h7)]
      split
      · rw [if_neg (by rw [eRf_len]; omega)]
      · rw [List.getElem?_eq_none (by rw [eRf_len]; exact h7)]
/-- The place of a key, or -1. -/
def findR (l : List Hn) (key : ByteArray) : Int := if thereH l key then (posH l key : Int) else -1
theorem findR_hit {l : List Hn} (hs : SortedH l) {i : Nat} {x : Hn} (hx : l[i]? = some x) : findR l x.f0.f0 = i := by
  have h := posH_of hs hx
  unfold findR thereH
  rw [h, hx]
  simp [cS_self]
theorem findR_none {l : List Hn} {key : ByteArray} (h : ∀ (j : Nat) x, l[j]? = some x → x.f0.f0 ≠ key) : findR l key = -1 := by
  unfold findR
  cases ht : thereH l key with
  | false => rfl
  | true =>
    obtain ⟨x, hx, e⟩ := thereH_get ht
    exact absurd e (h _ x hx)
set_option maxRecDepth 100000 in
set_option maxHeartbeats 2000000 in
theorem find_c (l : List Hn) (key : ByteArray) (hs : SortedH l) (A : Option Addr) (c : Nat) (w : World) (hC : kRf.C w A l.length l) (hl : l.length ≤ 1000000) :
    Calls Try.prog 41 #[.slice A l.length c, .string key] w fun e w' => e = .returned (.int .i64 (findR l key)) ∧ w = w' := by
  have HC := Lib.hid (And.intro hC (And.intro hs hl))
  obtain ⟨N, hN⟩ : ∃ N, l.length = N := ⟨_, rfl⟩
  have HN := Lib.hid hN
  rw [hN]
  obtain ⟨r, hr⟩ : ∃ r, findR l key = r := ⟨_, rfl⟩
  have HR := Lib.hid hr
  rw [hr]
  rw [hN] at hl
  clear hC hs hN hr
  go_enter Try.func41, Try.ntmps41
  go_wp2_with fail
  go_loopg [5, 8] (N + 1) (fun m v5 v8 W => ∃ j : Nat, v8 = .int .i64 j ∧ j ≤ N ∧ N - j < m ∧ (∀ (i : Nat) x, i < j → l[i]? = some x → x.f0.f0 ≠ key) ∧ w = W)
  case atStart => exact ⟨0, rfl, by omega, by omega, fun i x h => absurd h (Nat.not_lt_zero _), rfl⟩
  case round =>
    obtain ⟨j, rfl, hj, hjm, hno, hw⟩ := hrel
    subst hw
    have HJ := Lib.hid (And.intro hno (And.intro hj hjm))
    clear hno hjm
    by_cases hjl : j < N
    · have hjl' : (j : Int) < (N : Int) := by omega
      have hj0 : (0 : Int) ≤ (j : Int) := by omega
      have hjb : (j : Int) < 1000000 := by omega
      obtain ⟨x, hx⟩ : ∃ x, l[j]? = some x := ⟨_, List.getElem?_eq_getElem (by rw [HN.out]; exact hjl)⟩
      have HX := Lib.hid hx
      obtain ⟨ad, b, o, cs, rfl, had, hb, hK, hcs⟩ := C_at HC.out.1 hx (by decide)
      have hK' : cs = eRf x := hK
      subst hK'
      have u0 : w.cell? ⟨b, o, none⟩ = some (.string x.f0.f0) := hcs 0 _ rfl
      have had' : ad.add (j * 72) = ⟨b, o, none⟩ := had
      obtain ⟨xk, hxk⟩ : ∃ xk, x.f0.f0 = xk := ⟨_, rfl⟩
      rw [hxk] at u0
      have HXK := Lib.hid hxk
      clear hx hcs had hb hK hxk
      by_cases he : xk = key
      · subst he
        have hf : (xk.toList == xk.toList) = true := beq_self_eq_true _
        clear hj
        go_wp2_with fail
        go_ret
        refine ⟨?_, rfl⟩
        have h1 := findR_hit HC.out.2.1 HX.out
        rw [HXK.out, HR.out] at h1
        rw [h1]
        rfl
      · have HE := Lib.hid he
        have hf : (xk.toList == key.toList) = false := by rw [beq_eq_false_iff_ne]; exact fun e => he ((tl_eq _ _).1 e)
        clear he hj
        go_wp2_with fail
        go_roundg (N - j)
        case measure => have := HJ.out; omega
        case rel =>
          have := HJ.out
          refine ⟨j + 1, by go_num, by omega, by omega, fun i y hi hy => ?_, rfl⟩
          rcases Nat.lt_or_ge i j with h1 | h1
          · exact HJ.out.1 i y h1 hy
          · obtain rfl : i = j := by omega
            rw [HX.out] at hy; cases hy
            rw [HXK.out]; exact HE.out
    · have e : j = N := by omega
      subst e
      have hjl' : ¬ (j : Int) < (j : Int) := by omega
      clear hj
      go_wp2_with fail
      go_ret
      refine ⟨?_, rfl⟩
      rw [← HR.out, findR_none (fun i x h => HJ.out.1 i x (by have := (List.getElem?_eq_some_iff.1 h).1; have := HN.out; omega) h)]
      rfl
def copyPost (w : World) (l : List Hn) (e : Ending) (w' : World) : Prop := ∃ b, e = .returned (.slice (some ⟨b, 0, none⟩) l.length l.length) ∧ St (fun _ => False) w w' [slc kRf 87 (.slice (some ⟨b, 0, none⟩) l.length l.length) l]
set_option maxRecDepth 100000 in
set_option maxHeartbeats 2000000 in
theorem copied_c (l : List Hn) (A : Option Addr) (c : Nat) (w : World) (hC : kRf.C w A l.length l) (hl : l.length ≤ 1000000) :
    Calls Try.prog 42 #[.slice A l.length c] w (copyPost w l) := by
  have HC := Lib.hid hC
  have H0 := Lib.hid (St.nil (fun _ => False) w)
  have HL := Lib.hid hl
  clear hC hl
  go_enter Try.func42, Try.ntmps42
  go_upto_region 2 with (at_make; refine St.wpMake flRf rfl _ _ 54 87 rfl Try.underlying54 zRf _ 128 infoRf rfl l.length _ _ rfl rfl ?hX ?hY ?b1 ?b2 H0.out ?_)
  case hX => rfl
  case hY => rfl
  case b1 => have := HL.out; omega
  case b2 => have := HL.out; unfold maxLen; omega
  intro T b w2 h2
  have HCC := Lib.hid (show kRf.C w2 A l.length l from Kd.C_below HC.out h2.out.2.2.base)
  go_upto_region 3 with (refine St.wpCopy flRf rfl _ _ 54 54 87 rfl Try.underlying54 sizeRf (by decide) h2.out.2.2 0 rfl l A c rfl rfl HCC.out h2.out.2.1.symm ?_)
  intro w3 H3
  clear HCC h2 H0
  go_wp2_with fail
  go_ret
  exact ⟨b, rfl, H3.out⟩
theorem bitM_rem (a : Int) (n : Nat) (h : 0 ≤ a ∧ a < 18446744073709551616) : ((a / 2 ^ n) % 2 == 1) = bitM a n := by
  have e := bitM_mod a n h
  unfold bitM
  rw [e, Int.toNat_natCast]
theorem shr_nn (a : Int) (n : Nat) (h : 0 ≤ a) : (0 : Int) ≤ a / 2 ^ n := Int.ediv_nonneg h (by have : (0 : Int) < 2 ^ n := Int.pow_pos (by decide); omega)
set_option maxRecDepth 100000 in
set_option maxHeartbeats 4000000 in
theorem same_c (l : List Hn) (hg : ∀ x ∈ l, GoodM x) (A A' : Option Addr) (c c' : Nat) (w : World) (hC : k52.C w A l.length l) (hC' : kRf.C w A' l.length l) (hl : l.length ≤ 1000000) :
    Calls Try.prog 24 #[.slice A l.length c, .slice A' l.length c'] w fun e w' => e = .returned (.bool true) ∧ Below w.heap.size w w' := by
  have HC := Lib.hid (And.intro hC (And.intro hC' hg))
  obtain ⟨N, hN⟩ : ∃ N, l.length = N := ⟨_, rfl⟩
  have HN := Lib.hid hN
  rw [hN]
  rw [hN] at hl
  clear hC hC' hN hg
  go_enter Try.func24, Try.ntmps24
  go_wp2_with fail
  go_loopg [14] (N + 1) (fun m v14 wx => ∃ j : Nat, v14 = .int .i64 j ∧ j ≤ N ∧ N - j < m ∧ Below w.heap.size w wx)
  case atStart => exact ⟨0, rfl, by omega, by omega, Below.refl _ _⟩
  case round =>
    obtain ⟨j, rfl, hj, hjm, hB⟩ := hrel
    have HB := Lib.hid (And.intro hB (And.intro hj hjm))
    clear hB hjm
    by_cases hjl : j < N
    · have hjl' : (j : Int) < (N : Int) := by omega
      have hj0 : (0 : Int) ≤ (j : Int) := by omega
      have hjb : (j : Int) < 1000000 := by omega
      obtain ⟨x, hx⟩ : ∃ x, l[j]? = some x := ⟨_, List.getElem?_eq_getElem (by rw [HN.out]; exact hjl)⟩
      have HG := Lib.hid (HC.out.2.2 x (List.mem_of_getElem? hx))
      obtain ⟨ad, b, o, cs, rfl, had, hb, hK, hcs⟩ := C_at HC.out.1 hx (by decide)
      have hK' := flHn.K.1 hK
      subst hK'
      obtain ⟨ad2, b2, o2, cs, rfl, had2, hb2, hK, hcs2⟩ := C_at HC.out.2.1 hx (by decide)
      have hK' : cs = eRf x := hK
      subst hK'
      have F : ∀ {p : Addr} {v : Value}, p.block < w.heap.size → w.cell? p = some v → wr.cell? p = some v := fun {p v} h1 h2 => (HB.out.1.cell h1).trans h2
      have RC : ∀ c v, c < 8 → (eRc x.f0)[c]? = some v → wr.cell? ⟨b2, o2 + c, none⟩ = some v := fun c v hc hv => F (p := ⟨b2, o2 + c, none⟩) hb2 (hcs2 c v (by rw [eRf_rec x c hc]; exact hv))
      have RB : Hid (∀ (n : Nat) (W : World), n < 64 → Below w.heap.size w W → W.cell? ⟨b2, o2 + 8 + n, none⟩ = some (.bool (bitM x.f1 (n : Int)))) := Lib.hid fun n W hn h => by rw [Nat.add_assoc]; exact (h.cell (p := ⟨b2, o2 + (8 + n), none⟩) hb2).trans (hcs2 (8 + n) _ (eRf_bit x n hn))
      have RA : Hid (∀ W : World, Below w.heap.size w W → W.cell? ⟨b, o + 8, none⟩ = some (.int .u64 x.f1)) := Lib.hid fun W h => (h.cell (p := ⟨b, o + 8, none⟩) hb).trans (hcs 8 _ rfl)
      obtain ⟨⟨xk, ⟨xp, xl, xn⟩, xd, xf, xe, xb⟩, xa⟩ := x
      have u0 : wr.cell? ⟨b, o, none⟩ = some (.string xk) := F hb (hcs 0 _ rfl)
      have u1 : wr.cell? ⟨b, o + 1, none⟩ = some (.int .u64 xp) := F (p := ⟨b, o + 1, none⟩) hb (hcs 1 _ rfl)
      have u2 : wr.cell? ⟨b, o + 2, none⟩ = some (.int .u32 xl) := F (p := ⟨b, o + 2, none⟩) hb (hcs 2 _ rfl)
      have u3 : wr.cell? ⟨b, o + 3, none⟩ = some (.int .u8 xn) := F (p := ⟨b, o + 3, none⟩) hb (hcs 3 _ rfl)
      have u4 : wr.cell? ⟨b, o + 4, none⟩ = some (.int .u8 xd) := F (p := ⟨b, o + 4, none⟩) hb (hcs 4 _ rfl)
      have u5 : wr.cell? ⟨b, o + 5, none⟩ = some (.int .u32 xf) := F (p := ⟨b, o + 5, none⟩) hb (hcs 5 _ rfl)
      have u6 : wr.cell? ⟨b, o + 6, none⟩ = some (.int .u64 xe) := F (p := ⟨b, o + 6, none⟩) hb (hcs 6 _ rfl)
      have u7 : wr.cell? ⟨b, o + 7, none⟩ = some (.string xb) := F (p := ⟨b, o + 7, none⟩) hb (hcs 7 _ rfl)
      have v0 : wr.cell? ⟨b2, o2, none⟩ = some (.string xk) := RC 0 _ (by decide) rfl
      have v1 : wr.cell? ⟨b2, o2 + 1, none⟩ = some (.int .u64 xp) := RC 1 _ (by decide) rfl
      have v2 : wr.cell? ⟨b2, o2 + 2, none⟩ = some (.int .u32 xl) := RC 2 _ (by decide) rfl
      have v3 : wr.cell? ⟨b2, o2 + 3, none⟩ = some (.int .u8 xn) := RC 3 _ (by decide) rfl
      have v4 : wr.cell? ⟨b2, o2 + 4, none⟩ = some (.int .u8 xd) := RC 4 _ (by decide) rfl
      have v5 : wr.cell? ⟨b2, o2 + 5, none⟩ = some (.int .u32 xf) := RC 5 _ (by decide) rfl
      have v6 : wr.cell? ⟨b2, o2 + 6, none⟩ = some (.int .u64 xe) := RC 6 _ (by decide) rfl
      have v7 : wr.cell? ⟨b2, o2 + 7, none⟩ = some (.string xb) := RC 7 _ (by decide) rfl
      have had' : ad.add (j * 9) = ⟨b, o, none⟩ := had
      have had2' : ad2.add (j * 72) = ⟨b2, o2, none⟩ := had2
      have heq : ∀ d w, (Op.equalIn (d + 3) 35 (.agg #[.string xk, .int .u64 xp, .int .u32 xl, .int .u8 xn, .int .u8 xd, .int .u32 xf, .int .u64 xe, .string xb]) (.agg #[.string xk, .int .u64 xp, .int .u32 xl, .int .u8 xn, .int .u8 xd, .int .u32 xf, .int .u64 xe, .string xb])).run Try.prog w = .ok true w := fun d w => by
        rw [eqA35 d w]; simp
      dsimp only at HG RB RA
      have HX := Lib.hid hx
      clear hx hcs had hb hK hcs2 had2 hb2 F RC hj
      go_upto_region 6 with fail
      go_quiet (fail)
      have HB6 := Lib.hid (pw_below_drewN HB.out.1 nq)
      clear heq u0 u1 u2 u3 u4 u5 u6 u7 v0 v1 v2 v3 v4 v5 v6 v7
      generalize World.drewN wr nq = w6 at *
      go_wp2_with fail
      go_loopg [6] 65 (fun m v6 wx => ∃ n : Nat, v6 = .int .i64 n ∧ n ≤ 64 ∧ 64 - n < m ∧ Below w.heap.size w wx)
      case atStart => exact ⟨0, rfl, by omega, by omega, HB6.out⟩
      case round =>
        clear HB6
        obtain ⟨n, rfl, hn, hnm, hB7⟩ := hrel
        have HQ := Lib.hid (And.intro hB7 (And.intro hn hnm))
        have ua := RA.out _ hB7
        clear hnm
        by_cases hnl : n < 64
        · have hnl' : (n : Int) < 64 := by omega
          have hn0 : (0 : Int) ≤ (n : Int) := by omega
          obtain ⟨bb, hbb⟩ : ∃ bb, bitM xa (n : Int) = bb := ⟨_, rfl⟩
          have ub := RB.out n _ hnl hB7
          rw [hbb] at ub
          have hrem := bitM_rem xa n HG.out.bits
          have hn1 := shr_nn xa n HG.out.bits.1
          rw [hbb] at hrem
          clear hB7 hn hbb
          cases bb with
          | true =>
            go_upto_region 11 with fail
            go_quiet (fail)
            have HNL := Lib.hid hnl
            clear ua ub hrem hn1 hn0 hj0 hjl' had' had2' hnl hnl' hjl hjb RA RB HG HX
            go_wp2_with fail
            go_roundg (64 - n)
            case measure => have := HQ.out; have := HNL.out; omega
            case rel => have := HQ.out; have := HNL.out; exact ⟨n + 1, congrArg (Value.int .i64) (wrap64_succ (i := n) (m := 1000000) (by omega) (by decide)), by omega, by omega, pw_below_drewN HQ.out.1 _⟩
          | false =>
            go_upto_region 11 with fail
            go_quiet (fail)
            have HNL := Lib.hid hnl
            clear ua ub hrem hn1 hn0 hj0 hjl' had' had2' hnl hnl' hjl hjb RA RB HG HX
            go_wp2_with fail
            go_roundg (64 - n)
            case measure => have := HQ.out; have := HNL.out; omega
            case rel => have := HQ.out; have := HNL.out; exact ⟨n + 1, congrArg (Value.int .i64) (wrap64_succ (i := n) (m := 1000000) (by omega) (by decide)), by omega, by omega, pw_below_drewN HQ.out.1 _⟩
        · have hnl' : ¬ (n : Int) < 64 := by omega
          clear hB7 hn
          go_wp2_with fail
          go_roundg (N - j)
          case measure => have := HB.out; omega
          case rel => have := HB.out; exact ⟨j + 1, by go_num, by omega, by omega, HQ.out.1⟩
    · have hjl' : ¬ (j : Int) < (N : Int) := by omega
      clear hj
      go_wp2_with fail
      go_ret
      exact ⟨rfl, HB.out.1⟩
end Go.Proofs.Ytmpodcefngpnkaa
/- The document's Add: the row behind so many rounds. -/
set_option linter.unusedVariables false
set_option linter.unusedSimpArgs false
namespace Go.Proofs.Ytmpodcefngpnkaa
open Go.RowKit Go.Tat Go.Proofs.YtmpodcefngpnkaaW.PrintWords PHintPlays
/-- What is out when the first j are gone through, a new one going in ahead of place p. -/
def insJ (l : List Hn) (p j : Nat) (y : Hn) : List Hn := if j ≤ p then l.take j else l.take p ++ y :: (l.take j).drop p
theorem insJ_zero (l : List Hn) (p : Nat) (y : Hn) : insJ l p 0 y = [] := by unfold insJ; simp
theorem insJ_low {l : List Hn} {p j : Nat} {x : Hn} (y : Hn) (hj : l[j]? = some x) (h : j < p) : insJ l p (j + 1) y = insJ l p j y ++ [x] := by
  unfold insJ
  rw [if_pos (by omega), if_pos (by omega), List.take_add_one, hj]
  rfl
theorem insJ_at {l : List Hn} {p : Nat} {x : Hn} (y : Hn) (hj : l[p]? = some x) : insJ l p (p + 1) y = (insJ l p p y ++ [y]) ++ [x] := by
  have hp := (List.getElem?_eq_some_iff.1 hj).1
  unfold insJ
  rw [if_neg (by omega), if_pos (by omega), List.take_add_one, hj]
  have e : (l.take p ++ [x]).drop p = [x] := by rw [List.drop_left' (by rw [List.length_take]; omega)]
  show l.take p ++ y :: (l.take p ++ [x]).drop p = _
  rw [e]
  simp
theorem insJ_high {l : List Hn} {p j : Nat} {x : Hn} (y : Hn) (hj : l[j]? = some x) (h : p < j) : insJ l p (j + 1) y = insJ l p j y ++ [x] := by
  have hp := (List.getElem?_eq_some_iff.1 hj).1
  unfold insJ
  rw [if_neg (by omega), if_neg (by omega), List.take_add_one, hj]
  show l.take p ++ y :: (l.take j ++ [x]).drop p = _
  rw [List.drop_append_of_le_length (by rw [List.length_take]; omega)]
  simp
theorem insJ_len (l : List Hn) (p j : Nat) (y : Hn) : (insJ l p j y).length ≤ l.length + 1 := by
  unfold insJ
  split
  · rw [List.length_take]; omega
  · rw [List.length_append, List.length_cons, List.length_drop, List.length_take, List.length_take]; omega
theorem insJ_end {l : List Hn} {p : Nat} (y : Hn) (h : p < l.length) : insJ l p l.length y = l.take p ++ y :: l.drop p := by
  unfold insJ
  rw [if_neg (by omega), List.take_length]
theorem insJ_last {l : List Hn} (y : Hn) : insJ l l.length l.length y ++ [y] = l.take l.length ++ y :: l.drop l.length := by
  unfold insJ
  rw [if_pos (by omega), List.drop_length]
/-- Where the new one's key stands. -/
theorem key_low {l : List Hn} {key : ByteArray} {j : Nat} {x : Hn} (hx : l[j]? = some x) (h : j < posH l key) : cS key x.f0.f0 > 0 := by
  have := posH_low (l := l) (key := key) (x := x) (List.mem_of_getElem? (i := j) (by rw [List.getElem?_take_of_lt h]; exact hx))
  have := cS_neg key x.f0.f0
  omega
theorem key_high {l : List Hn} (hs : SortedH l) {key : ByteArray} (ht : thereH l key = false) {j : Nat} {x : Hn} (hx : l[j]? = some x) (h : posH l key ≤ j) : cS key x.f0.f0 < 0 :=
  posH_high hs ht (List.mem_of_getElem? (i := j - posH l key) (by rw [List.getElem?_drop, show posH l key + (j - posH l key) = j by omega]; exact hx))
/-- A string that is greater than another one. -/
theorem gtr_run (a b : ByteArray) (t : TypeId) (w : World) : Sem.run Try.prog (binOp .gtr t (.string a) (.string b)) w = .ok (.bool (decide (cS b a < 0))) w := by
  have e : binOp .gtr t (.string a) (.string b) = pure (.bool (!Op.bytesLess a.toList b.toList && !(a.toList == b.toList))) := by simp [binOp, Op.stringOp]
  have h2 : Op.bytesLess a.toList b.toList = decide (cS a b < 0) := by rw [Lib.toList_data, Lib.toList_data, cb_less]; rfl
  have h3 : (a.toList == b.toList) = decide (cS a b = 0) := by
    rw [Bool.eq_iff_iff, beq_iff_eq, decide_eq_true_eq, tl_eq, cS_eq]
  have h4 := cS_neg a b
  have h5 : (!decide (cS a b < 0) && !decide (cS a b = 0)) = decide (cS b a < 0) := by
    rw [Bool.eq_iff_iff]
    simp only [Bool.and_eq_true, Bool.not_eq_true', decide_eq_false_iff_not, decide_eq_true_eq]
    omega
  rw [e, h2, h3, h5]
  rfl
end Go.Proofs.Ytmpodcefngpnkaa
/- The document's Ack. -/
namespace Go.Proofs.Ytmpodcefngpnkaa
open Go.RowKit Go.Tat Go.Proofs.YtmpodcefngpnkaaW.PrintWords PHintPlays
/-- The row that is answered: the one that came in, or new memory. -/
def rres (w : World) (A : Option Addr) (c : Nat) (l l' : List Hn) (v : Value) (w' : World) : Prop := (v = .slice A l.length c ∧ l' = l ∧ Below w.heap.size w w') ∨ St (fun _ => False) w w' [slc kRf 87 v l']
def rackPost (w : World) (A : Option Addr) (c : Nat) (l l' : List Hn) (r : Bool) (e : Ending) (w' : World) : Prop := ∃ v, e = .returned (.tuple #[.bool r, v]) ∧ rres w A c l l' v w'
theorem find_b (l : List Hn) (key : ByteArray) (hs : SortedH l) (A : Option Addr) (c : Nat) (w : World) (hC : kRf.C w A l.length l) (hl : l.length ≤ 1000000) (r : Int) (hr : findR l key = r) :
    Calls Try.prog 41 #[.slice A l.length c, .string key] w fun e w' => e = .returned (.int .i64 r) ∧ w = w' := hr ▸ find_c l key hs A c w hC hl
set_option maxRecDepth 100000 in
set_option maxHeartbeats 8000000 in
theorem rack_high (l : List Hn) (hs : SortedH l) (key : ByteArray) (s : Stp) (n : Int) (hn : 64 ≤ n) (A : Option Addr) (c : Nat) (w : World) (hC : kRf.C w A l.length l) (hl : l.length ≤ 1000000) :
    Calls Try.prog 20 #[.slice A l.length c, .string key, .agg (eStp s).toArray, .int .u8 n] w (rackPost w A c l l false) := by
  obtain ⟨s0, s1, s2⟩ := s
  have HW := Lib.hid ((Below.refl w.heap.size w).alloc (Nat.le_refl _) (.cells #[.int .u64 s0, .int .u32 s1, .int .u8 s2] 33))
  have HF := Lib.hid (find_b l key hs A c _ (Kd.C_below hC HW.out) hl _ rfl)
  unfold eStp
  dsimp only
  obtain ⟨k, hk⟩ : ∃ k, findR l key = k := ⟨_, rfl⟩
  rw [hk] at HF
  obtain ⟨N, hN⟩ : ∃ N, l.length = N := ⟨_, rfl⟩
  rw [hN] at HF ⊢
  have HN := Lib.hid hN
  clear hC hs hk hN hl
  have hn' : (63 : Int) < n := by omega
  have hnb : decide ((63 : Int) < n) = true := decide_eq_true hn'
  clear hn
  go_enter Try.func20, Try.ntmps20
  go_wp2_with fail
  generalize World.alloc w _ = w1 at *
  refine HF.out.mono ?_
  rintro e w2 ⟨rfl, rfl⟩
  go_upto_region 2 with fail
  go_quiet (fail)
  go_wp2_with fail
  go_ret2
  exact ⟨_, rfl, .inl ⟨by rw [HN.out]; rfl, rfl, pw_below_drewN HW.out _⟩⟩
set_option maxRecDepth 100000 in
set_option maxHeartbeats 8000000 in
theorem rack_none (l : List Hn) (hs : SortedH l) (key : ByteArray) (s : Stp) (n : Int) (hn : n < 64) (ht : thereH l key = false) (A : Option Addr) (c : Nat) (w : World) (hC : kRf.C w A l.length l) (hl : l.length ≤ 1000000) :
    Calls Try.prog 20 #[.slice A l.length c, .string key, .agg (eStp s).toArray, .int .u8 n] w (rackPost w A c l l false) := by
  obtain ⟨s0, s1, s2⟩ := s
  have HW := Lib.hid ((Below.refl w.heap.size w).alloc (Nat.le_refl _) (.cells #[.int .u64 s0, .int .u32 s1, .int .u8 s2] 33))
  have HF := Lib.hid (find_b l key hs A c _ (Kd.C_below hC HW.out) hl (-1) (by unfold findR; rw [ht]; rfl))
  unfold eStp
  dsimp only
  obtain ⟨N, hN⟩ : ∃ N, l.length = N := ⟨_, rfl⟩
  rw [hN] at HF ⊢
  have HN := Lib.hid hN
  clear hC hs hN hl ht
  have hnb : decide ((63 : Int) < n) = false := decide_eq_false (by omega)
  clear hn
  go_enter Try.func20, Try.ntmps20
  go_wp2_with fail
  generalize World.alloc w _ = w1 at *
  refine HF.out.mono ?_
  rintro e w2 ⟨rfl, rfl⟩
  go_upto_region 2 with fail
  go_quiet (fail)
  go_wp2_with fail
  go_ret2
  exact ⟨_, rfl, .inl ⟨by rw [HN.out]; rfl, rfl, pw_below_drewN HW.out _⟩⟩
set_option maxRecDepth 100000 in
set_option maxHeartbeats 16000000 in
theorem rack_there (l : List Hn) (hs : SortedH l) (hg : ∀ x ∈ l, GoodM x) (key : ByteArray) (s : Stp) (n : Nat) (hn : n < 64) (ht : thereH l key = true) (A : Option Addr) (c : Nat) (w : World) (hC : kRf.C w A l.length l) (hl : l.length ≤ 1000000) :
    Calls Try.prog 20 #[.slice A l.length c, .string key, .agg (eStp s).toArray, .int .u8 (n : Int)] w (rackPost w A c l (ackL l key s n) (ackB l key s n)) := by
  obtain ⟨s0, s1, s2⟩ := s
  obtain ⟨z, hz⟩ : ∃ z, w.heap.size = z := ⟨_, rfl⟩
  have S1 := (St.nil (fun _ => False) w).new' #[.int .u64 s0, .int .u32 s1, .int .u8 s2] 33 z hz
  have hC1 := Kd.C_below hC S1.base
  obtain ⟨x, hx, hxk⟩ := thereH_get ht
  obtain ⟨k, hk⟩ : ∃ k, posH l key = k := ⟨_, rfl⟩
  have HF := Lib.hid (find_b l key hs A c _ hC1 hl (k : Int) (by unfold findR; rw [ht, hk]; rfl))
  rw [hk] at hx
  have hkl := (List.getElem?_eq_some_iff.1 hx).1
  have hGx := hg x (List.mem_of_getElem? hx)
  have hB : ackB l key ⟨s0, s1, s2⟩ n = (!decide (0 < hlcF x.f0.f1 ⟨s0, s1, s2⟩) && !bitM x.f1 n) := by rw [← hxk]; exact ackB_at hs hx _ _
  have hLL : ackL l key ⟨s0, s1, s2⟩ n = if ackB l key ⟨s0, s1, s2⟩ n then l.set k (ackX x n) else l := by rw [← hxk]; exact ackL_at hs hx _ _
  obtain ⟨l', hl'⟩ : ∃ l', ackL l key ⟨s0, s1, s2⟩ n = l' := ⟨_, rfl⟩
  obtain ⟨r', hr'⟩ : ∃ r', ackB l key ⟨s0, s1, s2⟩ n = r' := ⟨_, rfl⟩
  rw [hl', hr'] at hLL
  rw [hr'] at hB
  rw [hl', hr']
  obtain ⟨ad, b2, o2, cs, rfl, had, hb, hK, hcs⟩ := C_at hC1 hx (by decide)
  have hK' : cs = eRf x := hK
  subst hK'
  have had' : ad.add (k * 72) = ⟨b2, o2, none⟩ := had
  have hrec : ∀ c v, c < 8 → (eRc x.f0)[c]? = some v → (w.alloc (.cells #[.int .u64 s0, .int .u32 s1, .int .u8 s2] 33)).cell? ⟨b2, o2 + c, none⟩ = some v := fun c v hc hv => hcs c v (by rw [eRf_rec x c hc]; exact hv)
  have hbit : (w.alloc (.cells #[.int .u64 s0, .int .u32 s1, .int .u8 s2] 33)).cell? ⟨b2, o2 + (8 + n), none⟩ = some (.bool (bitM x.f1 n)) := hcs (8 + n) _ (eRf_bit x n hn)
  have HXX := Lib.hid (And.intro hx (And.intro hGx hn))
  obtain ⟨⟨xk, ⟨xp, xl, xn⟩, xd, xf, xe, xb⟩, xa⟩ := x
  obtain ⟨bb, hbb⟩ : ∃ bb, bitM xa (n : Int) = bb := ⟨_, rfl⟩
  obtain ⟨bl, hbl⟩ : ∃ bl, decide (hlcF ⟨s0, s1, s2⟩ ⟨xp, xl, xn⟩ < 0) = bl := ⟨_, rfl⟩
  have hneg : decide (0 < hlcF ⟨xp, xl, xn⟩ ⟨s0, s1, s2⟩) = bl := by
    rw [← hbl, hlcF_neg ⟨xp, xl, xn⟩ ⟨s0, s1, s2⟩, Bool.eq_iff_iff, decide_eq_true_eq, decide_eq_true_eq]
    omega
  dsimp only at hB hLL hbit hrec
  rw [hneg, hbb] at hB
  rw [hbb] at hbit
  have HLS := Lib.hid (fun W => sless_c ⟨s0, s1, s2⟩ ⟨xp, xl, xn⟩ W)
  rw [hbl] at HLS
  unfold eStp at HLS
  dsimp only at HLS
  have HLB := Lib.hid (And.intro hLL hB)
  have HCW := Lib.hid (And.intro hC (And.intro hl hkl))
  obtain ⟨N, hN⟩ : ∃ N, l.length = N := ⟨_, rfl⟩
  rw [hN] at HF hkl ⊢
  have HN := Lib.hid hN
  have hk0 : (0 : Int) ≤ (k : Int) := by omega
  have hkN : (k : Int) < (N : Int) := by omega
  have hkb : (k : Int) < 1000000 := by omega
  have hn0 : (0 : Int) ≤ (n : Int) := by omega
  have hn6 : (n : Int) < 64 := by omega
  have hnb : decide ((63 : Int) < (n : Int)) = false := decide_eq_false (by omega)
  have hkd : decide ((k : Int) < 0) = false := decide_eq_false (by omega)
  have HS1 := Lib.hid S1
  have HKP : Hid (∀ w', Below (w.alloc (.cells #[.int .u64 s0, .int .u32 s1, .int .u8 s2] 33)).heap.size (w.alloc (.cells #[.int .u64 s0, .int .u32 s1, .int .u8 s2] 33)) w' → w'.cell? ⟨b2, o2 + 1, none⟩ = some (.int .u64 xp) ∧ w'.cell? ⟨b2, o2 + 2, none⟩ = some (.int .u32 xl) ∧ w'.cell? ⟨b2, o2 + 3, none⟩ = some (.int .u8 xn) ∧ w'.cell? ⟨b2, o2 + 8 + n, none⟩ = some (.bool bb) ∧ w'.cell? ⟨z, 0, none⟩ = some (.int .u64 s0) ∧ w'.cell? ⟨z, 1, none⟩ = some (.int .u32 s1) ∧ w'.cell? ⟨z, 2, none⟩ = some (.int .u8 s2)) := Lib.hid fun w' B => by
    have F : ∀ {p : Addr} {v : Value}, p.block < _ → _ = some v → w'.cell? p = some v := fun {p v} h1 h2 => (B.cell h1).trans h2
    exact ⟨F hb (hrec 1 _ (by decide) rfl), F hb (hrec 2 _ (by decide) rfl), F hb (hrec 3 _ (by decide) rfl), F hb (by rw [Nat.add_assoc]; exact hbit), F (p := ⟨z, 0, none⟩) (S1.blt 0 rfl) (S1.cell 0 rfl 0), F (p := ⟨z, 1, none⟩) (S1.blt 0 rfl) (S1.cell 0 rfl 1), F (p := ⟨z, 2, none⟩) (S1.blt 0 rfl) (S1.cell 0 rfl 2)⟩
  unfold eStp
  dsimp only
  clear hC hC1 hs hg ht hx hxk hk hB hLL hl' hr' hK hcs hb had hrec hbit hbb hbl hneg hN hl hkl hGx hn S1
  go_enter Try.func20, Try.ntmps20
  go_wp2_with fail
  generalize World.alloc w _ = w1 at *
  refine HF.out.mono ?_
  rintro e w2 ⟨rfl, rfl⟩
  go_upto_region 2 with fail
  cases bl with
  | true =>
    refine wp_region_held_drew (S := (fun w' => w'.cell? ⟨b2, o2 + 1, none⟩ = some (.int .u64 xp) ∧ w'.cell? ⟨b2, o2 + 2, none⟩ = some (.int .u32 xl) ∧ w'.cell? ⟨b2, o2 + 3, none⟩ = some (.int .u8 xn) ∧ w'.cell? ⟨b2, o2 + 8 + n, none⟩ = some (.bool bb) ∧ w'.cell? ⟨z, 0, none⟩ = some (.int .u64 s0) ∧ w'.cell? ⟨z, 1, none⟩ = some (.int .u32 s1) ∧ w'.cell? ⟨z, 2, none⟩ = some (.int .u8 s2))) (by kernel_rfl) ?_ (fun hHeld => ?_)
    · (try dsimp only); exact HKP.out _ (Below.refl _ _).drew
    refine wpAnyH_take (i := 0) (oi := ({ dst := some 15, op := Go.Op.move (Go.Operand.tmp 3), type := 5, pos := "ref.go:67", after := #[], guard := none } : Oper)) (v := ?_) rfl (by kernel_rfl) (by kernel_rfl) (by kernel_rfl) (fun _ _ _ h => h) (Or.inl ⟨by rfl, ?_⟩) (by assumption) ?_
    rotate_left
    · (intro w hSw; (try dsimp only at hSw); go_simp; first | done | with_reducible rfl)
    try simp only [Act.put, List.setIfInBounds_toArray, List.set_cons_zero, List.set_cons_succ]
    refine wpAnyH_take (i := 1) (oi := ({ dst := some 16, op := Go.Op.binOp Go.BinOp.gtr 5 (Go.Operand.tmp 15) (Go.Operand.const (Go.Value.int Go.IntKind.u8 63)) 5, type := 4, pos := "ref.go:67", after := #[{ on := 0, ground := Go.Ground.data }], guard := none } : Oper)) (v := ?_) rfl (by kernel_rfl) (by kernel_rfl) (by kernel_rfl) (fun _ _ _ h => h) (Or.inl ⟨by rfl, ?_⟩) (by assumption) ?_
    rotate_left
    · (intro w hSw; (try dsimp only at hSw); go_simp; first | done | with_reducible rfl)
    try simp only [Act.put, List.setIfInBounds_toArray, List.set_cons_zero, List.set_cons_succ]
    refine wpAnyH_take (i := 2) (oi := ({ dst := some 17, op := Go.Op.move (Go.Operand.tmp 16), type := 4, pos := "ref.go:67", after := #[{ on := 1, ground := Go.Ground.data }], guard := none } : Oper)) (v := ?_) rfl (by kernel_rfl) (by kernel_rfl) (by kernel_rfl) (fun _ _ _ h => h) (Or.inl ⟨by rfl, ?_⟩) (by assumption) ?_
    rotate_left
    · (intro w hSw; (try dsimp only at hSw); go_simp; first | done | with_reducible rfl)
    try simp only [Act.put, List.setIfInBounds_toArray, List.set_cons_zero, List.set_cons_succ]
    refine wpAnyH_take (i := 3) (oi := ({ dst := some 18, op := Go.Op.move (Go.Operand.tmp 10), type := 3, pos := "ref.go:67", after := #[{ on := 2, ground := Go.Ground.guard }], guard := some (2, false) } : Oper)) (v := ?_) rfl (by kernel_rfl) (by kernel_rfl) (by kernel_rfl) (fun _ _ _ h => h) (Or.inl ⟨by rfl, ?_⟩) (by assumption) ?_
    rotate_left
    · (intro w hSw; (try dsimp only at hSw); go_simp; first | done | with_reducible rfl)
    try simp only [Act.put, List.setIfInBounds_toArray, List.set_cons_zero, List.set_cons_succ]
    refine wpAnyH_take (i := 4) (oi := ({ dst := some 19, op := Go.Op.binOp Go.BinOp.lss 3 (Go.Operand.tmp 18) (Go.Operand.const (Go.Value.int Go.IntKind.i64 0)) 3, type := 4, pos := "ref.go:67", after := #[{ on := 3, ground := Go.Ground.data }, { on := 2, ground := Go.Ground.guard }], guard := some (2, false) } : Oper)) (v := ?_) rfl (by kernel_rfl) (by kernel_rfl) (by kernel_rfl) (fun _ _ _ h => h) (Or.inl ⟨by rfl, ?_⟩) (by assumption) ?_
    rotate_left
    · (intro w hSw; (try dsimp only at hSw); go_simp; first | done | with_reducible rfl)
    try simp only [Act.put, List.setIfInBounds_toArray, List.set_cons_zero, List.set_cons_succ]
    refine wpAnyH_take (i := 5) (oi := ({ dst := some 20, op := Go.Op.pick (Go.Operand.tmp 17) (Go.Operand.const (Go.Value.bool true)) (Go.Operand.tmp 19), type := 4, pos := "ref.go:67", after := #[{ on := 2, ground := Go.Ground.data }, { on := 4, ground := Go.Ground.data }], guard := none } : Oper)) (v := ?_) rfl (by kernel_rfl) (by kernel_rfl) (by kernel_rfl) (fun _ _ _ h => h) (Or.inl ⟨by rfl, ?_⟩) (by assumption) ?_
    rotate_left
    · (intro w hSw; (try dsimp only at hSw); go_simp; first | done | with_reducible rfl)
    try simp only [Act.put, List.setIfInBounds_toArray, List.set_cons_zero, List.set_cons_succ]
    refine wpAnyH_take (i := 6) (oi := ({ dst := some 21, op := Go.Op.move (Go.Operand.tmp 20), type := 4, pos := "ref.go:67", after := #[{ on := 5, ground := Go.Ground.data }, { on := 2, ground := Go.Ground.chain }], guard := none } : Oper)) (v := ?_) rfl (by kernel_rfl) (by kernel_rfl) (by kernel_rfl) (fun _ _ _ h => h) (Or.inl ⟨by rfl, ?_⟩) (by assumption) ?_
    rotate_left
    · (intro w hSw; (try dsimp only at hSw); go_simp; first | done | with_reducible rfl)
    try simp only [Act.put, List.setIfInBounds_toArray, List.set_cons_zero, List.set_cons_succ]
    refine wpAnyH_take (i := 7) (oi := ({ dst := some 22, op := Go.Op.load 33 (Go.Operand.tmp 6), type := 33, pos := "ref.go:67", after := #[{ on := 6, ground := Go.Ground.guard }], guard := some (6, false) } : Oper)) (v := ?_) rfl (by kernel_rfl) (by kernel_rfl) (by kernel_rfl) (fun _ _ _ h => h) (Or.inl ⟨by rfl, ?_⟩) (by assumption) ?_
    rotate_left
    · (intro w hSw; (try dsimp only at hSw); go_simp; first | done | with_reducible rfl)
    try simp only [Act.put, List.setIfInBounds_toArray, List.set_cons_zero, List.set_cons_succ]
    refine wpAnyH_take (i := 8) (oi := ({ dst := some 23, op := Go.Op.move (Go.Operand.tmp 0), type := 54, pos := "ref.go:67", after := #[{ on := 6, ground := Go.Ground.guard }], guard := some (6, false) } : Oper)) (v := ?_) rfl (by kernel_rfl) (by kernel_rfl) (by kernel_rfl) (fun _ _ _ h => h) (Or.inl ⟨by rfl, ?_⟩) (by assumption) ?_
    rotate_left
    · (intro w hSw; (try dsimp only at hSw); go_simp; first | done | with_reducible rfl)
    try simp only [Act.put, List.setIfInBounds_toArray, List.set_cons_zero, List.set_cons_succ]
    refine wpAnyH_take (i := 9) (oi := ({ dst := some 24, op := Go.Op.move (Go.Operand.tmp 10), type := 3, pos := "ref.go:67", after := #[{ on := 6, ground := Go.Ground.guard }], guard := some (6, false) } : Oper)) (v := ?_) rfl (by kernel_rfl) (by kernel_rfl) (by kernel_rfl) (fun _ _ _ h => h) (Or.inl ⟨by rfl, ?_⟩) (by assumption) ?_
    rotate_left
    · (intro w hSw; (try dsimp only at hSw); go_simp; first | done | with_reducible rfl)
    try simp only [Act.put, List.setIfInBounds_toArray, List.set_cons_zero, List.set_cons_succ]
    refine wpAnyH_take (i := 10) (oi := ({ dst := some 25, op := Go.Op.indexAddr 54 (Go.Operand.tmp 23) (Go.Operand.tmp 24), type := 0, pos := "ref.go:67", after := #[{ on := 8, ground := Go.Ground.data }, { on := 9, ground := Go.Ground.data }, { on := 6, ground := Go.Ground.guard }], guard := some (6, false) } : Oper)) (v := ?_) rfl (by kernel_rfl) (by kernel_rfl) (by kernel_rfl) (fun _ _ _ h => h) (Or.inl ⟨by rfl, ?_⟩) (by assumption) ?_
    rotate_left
    · (intro w hSw; (try dsimp only at hSw); go_simp; first | done | with_reducible rfl)
    try simp only [Act.put, List.setIfInBounds_toArray, List.set_cons_zero, List.set_cons_succ]
    refine wpAnyH_take (i := 11) (oi := ({ dst := some 26, op := Go.Op.fieldAddr 87 (Go.Operand.tmp 25) 0, type := 0, pos := "ref.go:67", after := #[{ on := 10, ground := Go.Ground.data }, { on := 6, ground := Go.Ground.guard }], guard := some (6, false) } : Oper)) (v := ?_) rfl (by kernel_rfl) (by kernel_rfl) (by kernel_rfl) (fun _ _ _ h => h) (Or.inl ⟨by rfl, ?_⟩) (by assumption) ?_
    rotate_left
    · (intro w hSw; (try dsimp only at hSw); go_simp; first | done | with_reducible rfl)
    try simp only [Act.put, List.setIfInBounds_toArray, List.set_cons_zero, List.set_cons_succ]
    refine wpAnyH_take (i := 12) (oi := ({ dst := some 27, op := Go.Op.fieldAddr 35 (Go.Operand.tmp 26) 1, type := 0, pos := "ref.go:67", after := #[{ on := 11, ground := Go.Ground.data }, { on := 6, ground := Go.Ground.guard }], guard := some (6, false) } : Oper)) (v := ?_) rfl (by kernel_rfl) (by kernel_rfl) (by kernel_rfl) (fun _ _ _ h => h) (Or.inl ⟨by rfl, ?_⟩) (by assumption) ?_
    rotate_left
    · (intro w hSw; (try dsimp only at hSw); go_simp; first | done | with_reducible rfl)
    try simp only [Act.put, List.setIfInBounds_toArray, List.set_cons_zero, List.set_cons_succ]
    refine wpAnyH_take (i := 13) (oi := ({ dst := some 28, op := Go.Op.load 33 (Go.Operand.tmp 27), type := 33, pos := "ref.go:67", after := #[{ on := 12, ground := Go.Ground.data }, { on := 6, ground := Go.Ground.guard }], guard := some (6, false) } : Oper)) (v := ?_) rfl (by kernel_rfl) (by kernel_rfl) (by kernel_rfl) (fun _ _ _ h => h) (Or.inl ⟨by rfl, ?_⟩) (by assumption) ?_
    rotate_left
    · (intro w hSw; (try dsimp only at hSw); go_simp; first | done | with_reducible rfl)
    try simp only [Act.put, List.setIfInBounds_toArray, List.set_cons_zero, List.set_cons_succ]
    refine wpAnyH_ready (rs := [14]) (by kernel_rfl) (by simp) ?_
    refine AllReadyH.cons (o := ({ dst := some 29, op := Go.Op.call { callee := Go.Callee.value (Go.Operand.func 26), args := #[Go.Operand.tmp 22, Go.Operand.tmp 28], argTypes := #[33, 33] }, type := 4, pos := "ref.go:67", after := #[{ on := 7, ground := Go.Ground.data }, { on := 13, ground := Go.Ground.data }, { on := 6, ground := Go.Ground.chain }, { on := 6, ground := Go.Ground.guard }], guard := some (6, false) } : Oper)) rfl (fun K hK => ?_) AllReadyH.nil
    go_simp
    go_at_call 26
    refine (HLS.out _).mono ?_
    rintro e w6 ⟨rfl, b6⟩
    have HB6 := Lib.hid (show Below w1.heap.size w1 w6 from (Below.refl w1.heap.size w1).drew.trans b6)
    clear b6
    go_wp2_with fail
    refine hK.out _ _ ?_ (fun hHeld2 => ?_)
    · (try dsimp only); exact HKP.out _ HB6.out
    clear hK K hHeld
    try simp only [Act.put, List.setIfInBounds_toArray, List.set_cons_zero, List.set_cons_succ]
    refine wpAnyH_take (i := 15) (oi := ({ dst := some 30, op := Go.Op.pick (Go.Operand.tmp 21) (Go.Operand.const (Go.Value.bool true)) (Go.Operand.tmp 29), type := 4, pos := "ref.go:67", after := #[{ on := 6, ground := Go.Ground.data }, { on := 14, ground := Go.Ground.data }], guard := none } : Oper)) (v := ?_) rfl (by kernel_rfl) (by kernel_rfl) (by kernel_rfl) (fun _ _ _ h => h) (Or.inl ⟨by rfl, ?_⟩) (by assumption) ?_
    rotate_left
    · (intro w hSw; (try dsimp only at hSw); go_simp; first | done | with_reducible rfl)
    try simp only [Act.put, List.setIfInBounds_toArray, List.set_cons_zero, List.set_cons_succ]
    refine wpAnyH_take (i := 16) (oi := ({ dst := some 31, op := Go.Op.move (Go.Operand.tmp 30), type := 4, pos := "ref.go:67", after := #[{ on := 15, ground := Go.Ground.data }, { on := 14, ground := Go.Ground.chain }], guard := none } : Oper)) (v := ?_) rfl (by kernel_rfl) (by kernel_rfl) (by kernel_rfl) (fun _ _ _ h => h) (Or.inl ⟨by rfl, ?_⟩) (by assumption) ?_
    rotate_left
    · (intro w hSw; (try dsimp only at hSw); go_simp; first | done | with_reducible rfl)
    try simp only [Act.put, List.setIfInBounds_toArray, List.set_cons_zero, List.set_cons_succ]
    refine wpAnyH_take (i := 17) (oi := ({ dst := some 32, op := Go.Op.move (Go.Operand.tmp 0), type := 54, pos := "ref.go:67", after := #[{ on := 16, ground := Go.Ground.guard }], guard := some (16, false) } : Oper)) (v := undef) rfl (by kernel_rfl) (by kernel_rfl) (by kernel_rfl) (fun _ _ _ h => h) (Or.inr ⟨by rfl, rfl⟩) (by assumption) ?_
    try simp only [Act.put, List.setIfInBounds_toArray, List.set_cons_zero, List.set_cons_succ]
    refine wpAnyH_take (i := 18) (oi := ({ dst := some 33, op := Go.Op.move (Go.Operand.tmp 10), type := 3, pos := "ref.go:67", after := #[{ on := 16, ground := Go.Ground.guard }], guard := some (16, false) } : Oper)) (v := undef) rfl (by kernel_rfl) (by kernel_rfl) (by kernel_rfl) (fun _ _ _ h => h) (Or.inr ⟨by rfl, rfl⟩) (by assumption) ?_
    try simp only [Act.put, List.setIfInBounds_toArray, List.set_cons_zero, List.set_cons_succ]
    refine wpAnyH_take (i := 19) (oi := ({ dst := some 34, op := Go.Op.move (Go.Operand.tmp 3), type := 5, pos := "ref.go:67", after := #[{ on := 16, ground := Go.Ground.guard }], guard := some (16, false) } : Oper)) (v := undef) rfl (by kernel_rfl) (by kernel_rfl) (by kernel_rfl) (fun _ _ _ h => h) (Or.inr ⟨by rfl, rfl⟩) (by assumption) ?_
    try simp only [Act.put, List.setIfInBounds_toArray, List.set_cons_zero, List.set_cons_succ]
    refine wpAnyH_take (i := 20) (oi := ({ dst := some 35, op := Go.Op.indexAddr 54 (Go.Operand.tmp 32) (Go.Operand.tmp 33), type := 0, pos := "ref.go:67", after := #[{ on := 17, ground := Go.Ground.data }, { on := 18, ground := Go.Ground.data }, { on := 16, ground := Go.Ground.guard }], guard := some (16, false) } : Oper)) (v := undef) rfl (by kernel_rfl) (by kernel_rfl) (by kernel_rfl) (fun _ _ _ h => h) (Or.inr ⟨by rfl, rfl⟩) (by assumption) ?_
    try simp only [Act.put, List.setIfInBounds_toArray, List.set_cons_zero, List.set_cons_succ]
    refine wpAnyH_take (i := 21) (oi := ({ dst := some 36, op := Go.Op.fieldAddr 87 (Go.Operand.tmp 35) 1, type := 0, pos := "ref.go:67", after := #[{ on := 20, ground := Go.Ground.data }, { on := 16, ground := Go.Ground.guard }], guard := some (16, false) } : Oper)) (v := undef) rfl (by kernel_rfl) (by kernel_rfl) (by kernel_rfl) (fun _ _ _ h => h) (Or.inr ⟨by rfl, rfl⟩) (by assumption) ?_
    try simp only [Act.put, List.setIfInBounds_toArray, List.set_cons_zero, List.set_cons_succ]
    refine wpAnyH_take (i := 22) (oi := ({ dst := some 37, op := Go.Op.indexAddr 85 (Go.Operand.tmp 36) (Go.Operand.tmp 34), type := 0, pos := "ref.go:67", after := #[{ on := 21, ground := Go.Ground.data }, { on := 19, ground := Go.Ground.data }, { on := 16, ground := Go.Ground.guard }], guard := some (16, false) } : Oper)) (v := undef) rfl (by kernel_rfl) (by kernel_rfl) (by kernel_rfl) (fun _ _ _ h => h) (Or.inr ⟨by rfl, rfl⟩) (by assumption) ?_
    try simp only [Act.put, List.setIfInBounds_toArray, List.set_cons_zero, List.set_cons_succ]
    refine wpAnyH_take (i := 23) (oi := ({ dst := some 38, op := Go.Op.load 4 (Go.Operand.tmp 37), type := 4, pos := "ref.go:67", after := #[{ on := 22, ground := Go.Ground.data }, { on := 16, ground := Go.Ground.guard }], guard := some (16, false) } : Oper)) (v := undef) rfl (by kernel_rfl) (by kernel_rfl) (by kernel_rfl) (fun _ _ _ h => h) (Or.inr ⟨by rfl, rfl⟩) (by assumption) ?_
    try simp only [Act.put, List.setIfInBounds_toArray, List.set_cons_zero, List.set_cons_succ]
    refine wpAnyH_take (i := 24) (oi := ({ dst := some 39, op := Go.Op.pick (Go.Operand.tmp 31) (Go.Operand.const (Go.Value.bool true)) (Go.Operand.tmp 38), type := 4, pos := "ref.go:67", after := #[{ on := 16, ground := Go.Ground.data }, { on := 23, ground := Go.Ground.data }], guard := none } : Oper)) (v := ?_) rfl (by kernel_rfl) (by kernel_rfl) (by kernel_rfl) (fun _ _ _ h => h) (Or.inl ⟨by rfl, ?_⟩) (by assumption) ?_
    rotate_left
    · (intro w hSw; (try dsimp only at hSw); go_simp; first | done | with_reducible rfl)
    try simp only [Act.put, List.setIfInBounds_toArray, List.set_cons_zero, List.set_cons_succ]
    refine wpAnyH_done (by kernel_rfl) ?_ _
    clear hHeld2
    generalize hw7 : w6 = w7 at *
    clear hw7
    go_wp2_with fail
    go_ret2
    have hr : r' = false := by rw [HLB.out.2]; rfl
    have hl : l' = l := by rw [HLB.out.1, hr]; rfl
    rw [hr, hl]
    exact ⟨_, rfl, .inl ⟨by rw [HN.out]; rfl, rfl, HS1.out.base.trans (HB6.out.mono HS1.out.base.size)⟩⟩
  | false =>
    refine wp_region_held_drew (S := (fun w' => w'.cell? ⟨b2, o2 + 1, none⟩ = some (.int .u64 xp) ∧ w'.cell? ⟨b2, o2 + 2, none⟩ = some (.int .u32 xl) ∧ w'.cell? ⟨b2, o2 + 3, none⟩ = some (.int .u8 xn) ∧ w'.cell? ⟨b2, o2 + 8 + n, none⟩ = some (.bool bb) ∧ w'.cell? ⟨z, 0, none⟩ = some (.int .u64 s0) ∧ w'.cell? ⟨z, 1, none⟩ = some (.int .u32 s1) ∧ w'.cell? ⟨z, 2, none⟩ = some (.int .u8 s2))) (by kernel_rfl) ?_ (fun hHeld => ?_)
    · (try dsimp only); exact HKP.out _ (Below.refl _ _).drew
    refine wpAnyH_take (i := 0) (oi := ({ dst := some 15, op := Go.Op.move (Go.Operand.tmp 3), type := 5, pos := "ref.go:67", after := #[], guard := none } : Oper)) (v := ?_) rfl (by kernel_rfl) (by kernel_rfl) (by kernel_rfl) (fun _ _ _ h => h) (Or.inl ⟨by rfl, ?_⟩) (by assumption) ?_
    rotate_left
    · (intro w hSw; (try dsimp only at hSw); go_simp; first | done | with_reducible rfl)
    try simp only [Act.put, List.setIfInBounds_toArray, List.set_cons_zero, List.set_cons_succ]
    refine wpAnyH_take (i := 1) (oi := ({ dst := some 16, op := Go.Op.binOp Go.BinOp.gtr 5 (Go.Operand.tmp 15) (Go.Operand.const (Go.Value.int Go.IntKind.u8 63)) 5, type := 4, pos := "ref.go:67", after := #[{ on := 0, ground := Go.Ground.data }], guard := none } : Oper)) (v := ?_) rfl (by kernel_rfl) (by kernel_rfl) (by kernel_rfl) (fun _ _ _ h => h) (Or.inl ⟨by rfl, ?_⟩) (by assumption) ?_
    rotate_left
    · (intro w hSw; (try dsimp only at hSw); go_simp; first | done | with_reducible rfl)
    try simp only [Act.put, List.setIfInBounds_toArray, List.set_cons_zero, List.set_cons_succ]
    refine wpAnyH_take (i := 2) (oi := ({ dst := some 17, op := Go.Op.move (Go.Operand.tmp 16), type := 4, pos := "ref.go:67", after := #[{ on := 1, ground := Go.Ground.data }], guard := none } : Oper)) (v := ?_) rfl (by kernel_rfl) (by kernel_rfl) (by kernel_rfl) (fun _ _ _ h => h) (Or.inl ⟨by rfl, ?_⟩) (by assumption) ?_
    rotate_left
    · (intro w hSw; (try dsimp only at hSw); go_simp; first | done | with_reducible rfl)
    try simp only [Act.put, List.setIfInBounds_toArray, List.set_cons_zero, List.set_cons_succ]
    refine wpAnyH_take (i := 3) (oi := ({ dst := some 18, op := Go.Op.move (Go.Operand.tmp 10), type := 3, pos := "ref.go:67", after := #[{ on := 2, ground := Go.Ground.guard }], guard := some (2, false) } : Oper)) (v := ?_) rfl (by kernel_rfl) (by kernel_rfl) (by kernel_rfl) (fun _ _ _ h => h) (Or.inl ⟨by rfl, ?_⟩) (by assumption) ?_
    rotate_left
    · (intro w hSw; (try dsimp only at hSw); go_simp; first | done | with_reducible rfl)
    try simp only [Act.put, List.setIfInBounds_toArray, List.set_cons_zero, List.set_cons_succ]
    refine wpAnyH_take (i := 4) (oi := ({ dst := some 19, op := Go.Op.binOp Go.BinOp.lss 3 (Go.Operand.tmp 18) (Go.Operand.const (Go.Value.int Go.IntKind.i64 0)) 3, type := 4, pos := "ref.go:67", after := #[{ on := 3, ground := Go.Ground.data }, { on := 2, ground := Go.Ground.guard }], guard := some (2, false) } : Oper)) (v := ?_) rfl (by kernel_rfl) (by kernel_rfl) (by kernel_rfl) (fun _ _ _ h => h) (Or.inl ⟨by rfl, ?_⟩) (by assumption) ?_
    rotate_left
    · (intro w hSw; (try dsimp only at hSw); go_simp; first | done | with_reducible rfl)
    try simp only [Act.put, List.setIfInBounds_toArray, List.set_cons_zero, List.set_cons_succ]
    refine wpAnyH_take (i := 5) (oi := ({ dst := some 20, op := Go.Op.pick (Go.Operand.tmp 17) (Go.Operand.const (Go.Value.bool true)) (Go.Operand.tmp 19), type := 4, pos := "ref.go:67", after := #[{ on := 2, ground := Go.Ground.data }, { on := 4, ground := Go.Ground.data }], guard := none } : Oper)) (v := ?_) rfl (by kernel_rfl) (by kernel_rfl) (by kernel_rfl) (fun _ _ _ h => h) (Or.inl ⟨by rfl, ?_⟩) (by assumption) ?_
    rotate_left
    · (intro w hSw; (try dsimp only at hSw); go_simp; first | done | with_reducible rfl)
    try simp only [Act.put, List.setIfInBounds_toArray, List.set_cons_zero, List.set_cons_succ]
    refine wpAnyH_take (i := 6) (oi := ({ dst := some 21, op := Go.Op.move (Go.Operand.tmp 20), type := 4, pos := "ref.go:67", after := #[{ on := 5, ground := Go.Ground.data }, { on := 2, ground := Go.Ground.chain }], guard := none } : Oper)) (v := ?_) rfl (by kernel_rfl) (by kernel_rfl) (by kernel_rfl) (fun _ _ _ h => h) (Or.inl ⟨by rfl, ?_⟩) (by assumption) ?_
    rotate_left
    · (intro w hSw; (try dsimp only at hSw); go_simp; first | done | with_reducible rfl)
    try simp only [Act.put, List.setIfInBounds_toArray, List.set_cons_zero, List.set_cons_succ]
    refine wpAnyH_take (i := 7) (oi := ({ dst := some 22, op := Go.Op.load 33 (Go.Operand.tmp 6), type := 33, pos := "ref.go:67", after := #[{ on := 6, ground := Go.Ground.guard }], guard := some (6, false) } : Oper)) (v := ?_) rfl (by kernel_rfl) (by kernel_rfl) (by kernel_rfl) (fun _ _ _ h => h) (Or.inl ⟨by rfl, ?_⟩) (by assumption) ?_
    rotate_left
    · (intro w hSw; (try dsimp only at hSw); go_simp; first | done | with_reducible rfl)
    try simp only [Act.put, List.setIfInBounds_toArray, List.set_cons_zero, List.set_cons_succ]
    refine wpAnyH_take (i := 8) (oi := ({ dst := some 23, op := Go.Op.move (Go.Operand.tmp 0), type := 54, pos := "ref.go:67", after := #[{ on := 6, ground := Go.Ground.guard }], guard := some (6, false) } : Oper)) (v := ?_) rfl (by kernel_rfl) (by kernel_rfl) (by kernel_rfl) (fun _ _ _ h => h) (Or.inl ⟨by rfl, ?_⟩) (by assumption) ?_
    rotate_left
    · (intro w hSw; (try dsimp only at hSw); go_simp; first | done | with_reducible rfl)
    try simp only [Act.put, List.setIfInBounds_toArray, List.set_cons_zero, List.set_cons_succ]
    refine wpAnyH_take (i := 9) (oi := ({ dst := some 24, op := Go.Op.move (Go.Operand.tmp 10), type := 3, pos := "ref.go:67", after := #[{ on := 6, ground := Go.Ground.guard }], guard := some (6, false) } : Oper)) (v := ?_) rfl (by kernel_rfl) (by kernel_rfl) (by kernel_rfl) (fun _ _ _ h => h) (Or.inl ⟨by rfl, ?_⟩) (by assumption) ?_
    rotate_left
    · (intro w hSw; (try dsimp only at hSw); go_simp; first | done | with_reducible rfl)
    try simp only [Act.put, List.setIfInBounds_toArray, List.set_cons_zero, List.set_cons_succ]
    refine wpAnyH_take (i := 10) (oi := ({ dst := some 25, op := Go.Op.indexAddr 54 (Go.Operand.tmp 23) (Go.Operand.tmp 24), type := 0, pos := "ref.go:67", after := #[{ on := 8, ground := Go.Ground.data }, { on := 9, ground := Go.Ground.data }, { on := 6, ground := Go.Ground.guard }], guard := some (6, false) } : Oper)) (v := ?_) rfl (by kernel_rfl) (by kernel_rfl) (by kernel_rfl) (fun _ _ _ h => h) (Or.inl ⟨by rfl, ?_⟩) (by assumption) ?_
    rotate_left
    · (intro w hSw; (try dsimp only at hSw); go_simp; first | done | with_reducible rfl)
    try simp only [Act.put, List.setIfInBounds_toArray, List.set_cons_zero, List.set_cons_succ]
    refine wpAnyH_take (i := 11) (oi := ({ dst := some 26, op := Go.Op.fieldAddr 87 (Go.Operand.tmp 25) 0, type := 0, pos := "ref.go:67", after := #[{ on := 10, ground := Go.Ground.data }, { on := 6, ground := Go.Ground.guard }], guard := some (6, false) } : Oper)) (v := ?_) rfl (by kernel_rfl) (by kernel_rfl) (by kernel_rfl) (fun _ _ _ h => h) (Or.inl ⟨by rfl, ?_⟩) (by assumption) ?_
    rotate_left
    · (intro w hSw; (try dsimp only at hSw); go_simp; first | done | with_reducible rfl)
    try simp only [Act.put, List.setIfInBounds_toArray, List.set_cons_zero, List.set_cons_succ]
    refine wpAnyH_take (i := 12) (oi := ({ dst := some 27, op := Go.Op.fieldAddr 35 (Go.Operand.tmp 26) 1, type := 0, pos := "ref.go:67", after := #[{ on := 11, ground := Go.Ground.data }, { on := 6, ground := Go.Ground.guard }], guard := some (6, false) } : Oper)) (v := ?_) rfl (by kernel_rfl) (by kernel_rfl) (by kernel_rfl) (fun _ _ _ h => h) (Or.inl ⟨by rfl, ?_⟩) (by assumption) ?_
    rotate_left
    · (intro w hSw; (try dsimp only at hSw); go_simp; first | done | with_reducible rfl)
    try simp only [Act.put, List.setIfInBounds_toArray, List.set_cons_zero, List.set_cons_succ]
    refine wpAnyH_take (i := 13) (oi := ({ dst := some 28, op := Go.Op.load 33 (Go.Operand.tmp 27), type := 33, pos := "ref.go:67", after := #[{ on := 12, ground := Go.Ground.data }, { on := 6, ground := Go.Ground.guard }], guard := some (6, false) } : Oper)) (v := ?_) rfl (by kernel_rfl) (by kernel_rfl) (by kernel_rfl) (fun _ _ _ h => h) (Or.inl ⟨by rfl, ?_⟩) (by assumption) ?_
    rotate_left
    · (intro w hSw; (try dsimp only at hSw); go_simp; first | done | with_reducible rfl)
    try simp only [Act.put, List.setIfInBounds_toArray, List.set_cons_zero, List.set_cons_succ]
    refine wpAnyH_ready (rs := [14]) (by kernel_rfl) (by simp) ?_
    refine AllReadyH.cons (o := ({ dst := some 29, op := Go.Op.call { callee := Go.Callee.value (Go.Operand.func 26), args := #[Go.Operand.tmp 22, Go.Operand.tmp 28], argTypes := #[33, 33] }, type := 4, pos := "ref.go:67", after := #[{ on := 7, ground := Go.Ground.data }, { on := 13, ground := Go.Ground.data }, { on := 6, ground := Go.Ground.chain }, { on := 6, ground := Go.Ground.guard }], guard := some (6, false) } : Oper)) rfl (fun K hK => ?_) AllReadyH.nil
    go_simp
    go_at_call 26
    refine (HLS.out _).mono ?_
    rintro e w6 ⟨rfl, b6⟩
    have HB6 := Lib.hid (show Below w1.heap.size w1 w6 from (Below.refl w1.heap.size w1).drew.trans b6)
    clear b6
    go_wp2_with fail
    refine hK.out _ _ ?_ (fun hHeld2 => ?_)
    · (try dsimp only); exact HKP.out _ HB6.out
    clear hK K hHeld
    try simp only [Act.put, List.setIfInBounds_toArray, List.set_cons_zero, List.set_cons_succ]
    refine wpAnyH_take (i := 15) (oi := ({ dst := some 30, op := Go.Op.pick (Go.Operand.tmp 21) (Go.Operand.const (Go.Value.bool true)) (Go.Operand.tmp 29), type := 4, pos := "ref.go:67", after := #[{ on := 6, ground := Go.Ground.data }, { on := 14, ground := Go.Ground.data }], guard := none } : Oper)) (v := ?_) rfl (by kernel_rfl) (by kernel_rfl) (by kernel_rfl) (fun _ _ _ h => h) (Or.inl ⟨by rfl, ?_⟩) (by assumption) ?_
    rotate_left
    · (intro w hSw; (try dsimp only at hSw); go_simp; first | done | with_reducible rfl)
    try simp only [Act.put, List.setIfInBounds_toArray, List.set_cons_zero, List.set_cons_succ]
    refine wpAnyH_take (i := 16) (oi := ({ dst := some 31, op := Go.Op.move (Go.Operand.tmp 30), type := 4, pos := "ref.go:67", after := #[{ on := 15, ground := Go.Ground.data }, { on := 14, ground := Go.Ground.chain }], guard := none } : Oper)) (v := ?_) rfl (by kernel_rfl) (by kernel_rfl) (by kernel_rfl) (fun _ _ _ h => h) (Or.inl ⟨by rfl, ?_⟩) (by assumption) ?_
    rotate_left
    · (intro w hSw; (try dsimp only at hSw); go_simp; first | done | with_reducible rfl)
    try simp only [Act.put, List.setIfInBounds_toArray, List.set_cons_zero, List.set_cons_succ]
    refine wpAnyH_take (i := 17) (oi := ({ dst := some 32, op := Go.Op.move (Go.Operand.tmp 0), type := 54, pos := "ref.go:67", after := #[{ on := 16, ground := Go.Ground.guard }], guard := some (16, false) } : Oper)) (v := ?_) rfl (by kernel_rfl) (by kernel_rfl) (by kernel_rfl) (fun _ _ _ h => h) (Or.inl ⟨by rfl, ?_⟩) (by assumption) ?_
    rotate_left
    · (intro w hSw; (try dsimp only at hSw); go_simp; first | done | with_reducible rfl)
    try simp only [Act.put, List.setIfInBounds_toArray, List.set_cons_zero, List.set_cons_succ]
    refine wpAnyH_take (i := 18) (oi := ({ dst := some 33, op := Go.Op.move (Go.Operand.tmp 10), type := 3, pos := "ref.go:67", after := #[{ on := 16, ground := Go.Ground.guard }], guard := some (16, false) } : Oper)) (v := ?_) rfl (by kernel_rfl) (by kernel_rfl) (by kernel_rfl) (fun _ _ _ h => h) (Or.inl ⟨by rfl, ?_⟩) (by assumption) ?_
    rotate_left
    · (intro w hSw; (try dsimp only at hSw); go_simp; first | done | with_reducible rfl)
    try simp only [Act.put, List.setIfInBounds_toArray, List.set_cons_zero, List.set_cons_succ]
    refine wpAnyH_take (i := 19) (oi := ({ dst := some 34, op := Go.Op.move (Go.Operand.tmp 3), type := 5, pos := "ref.go:67", after := #[{ on := 16, ground := Go.Ground.guard }], guard := some (16, false) } : Oper)) (v := ?_) rfl (by kernel_rfl) (by kernel_rfl) (by kernel_rfl) (fun _ _ _ h => h) (Or.inl ⟨by rfl, ?_⟩) (by assumption) ?_
    rotate_left
    · (intro w hSw; (try dsimp only at hSw); go_simp; first | done | with_reducible rfl)
    try simp only [Act.put, List.setIfInBounds_toArray, List.set_cons_zero, List.set_cons_succ]
    refine wpAnyH_take (i := 20) (oi := ({ dst := some 35, op := Go.Op.indexAddr 54 (Go.Operand.tmp 32) (Go.Operand.tmp 33), type := 0, pos := "ref.go:67", after := #[{ on := 17, ground := Go.Ground.data }, { on := 18, ground := Go.Ground.data }, { on := 16, ground := Go.Ground.guard }], guard := some (16, false) } : Oper)) (v := ?_) rfl (by kernel_rfl) (by kernel_rfl) (by kernel_rfl) (fun _ _ _ h => h) (Or.inl ⟨by rfl, ?_⟩) (by assumption) ?_
    rotate_left
    · (intro w hSw; (try dsimp only at hSw); go_simp; first | done | with_reducible rfl)
    try simp only [Act.put, List.setIfInBounds_toArray, List.set_cons_zero, List.set_cons_succ]
    refine wpAnyH_take (i := 21) (oi := ({ dst := some 36, op := Go.Op.fieldAddr 87 (Go.Operand.tmp 35) 1, type := 0, pos := "ref.go:67", after := #[{ on := 20, ground := Go.Ground.data }, { on := 16, ground := Go.Ground.guard }], guard := some (16, false) } : Oper)) (v := ?_) rfl (by kernel_rfl) (by kernel_rfl) (by kernel_rfl) (fun _ _ _ h => h) (Or.inl ⟨by rfl, ?_⟩) (by assumption) ?_
    rotate_left
    · (intro w hSw; (try dsimp only at hSw); go_simp; first | done | with_reducible rfl)
    try simp only [Act.put, List.setIfInBounds_toArray, List.set_cons_zero, List.set_cons_succ]
    refine wpAnyH_take (i := 22) (oi := ({ dst := some 37, op := Go.Op.indexAddr 85 (Go.Operand.tmp 36) (Go.Operand.tmp 34), type := 0, pos := "ref.go:67", after := #[{ on := 21, ground := Go.Ground.data }, { on := 19, ground := Go.Ground.data }, { on := 16, ground := Go.Ground.guard }], guard := some (16, false) } : Oper)) (v := ?_) rfl (by kernel_rfl) (by kernel_rfl) (by kernel_rfl) (fun _ _ _ h => h) (Or.inl ⟨by rfl, ?_⟩) (by assumption) ?_
    rotate_left
    · (intro w hSw; (try dsimp only at hSw); go_simp; first | done | with_reducible rfl)
    try simp only [Act.put, List.setIfInBounds_toArray, List.set_cons_zero, List.set_cons_succ]
    refine wpAnyH_take (i := 23) (oi := ({ dst := some 38, op := Go.Op.load 4 (Go.Operand.tmp 37), type := 4, pos := "ref.go:67", after := #[{ on := 22, ground := Go.Ground.data }, { on := 16, ground := Go.Ground.guard }], guard := some (16, false) } : Oper)) (v := ?_) rfl (by kernel_rfl) (by kernel_rfl) (by kernel_rfl) (fun _ _ _ h => h) (Or.inl ⟨by rfl, ?_⟩) (by assumption) ?_
    rotate_left
    · (intro w hSw; (try dsimp only at hSw); go_simp; first | done | with_reducible rfl)
    try simp only [Act.put, List.setIfInBounds_toArray, List.set_cons_zero, List.set_cons_succ]
    refine wpAnyH_take (i := 24) (oi := ({ dst := some 39, op := Go.Op.pick (Go.Operand.tmp 31) (Go.Operand.const (Go.Value.bool true)) (Go.Operand.tmp 38), type := 4, pos := "ref.go:67", after := #[{ on := 16, ground := Go.Ground.data }, { on := 23, ground := Go.Ground.data }], guard := none } : Oper)) (v := ?_) rfl (by kernel_rfl) (by kernel_rfl) (by kernel_rfl) (fun _ _ _ h => h) (Or.inl ⟨by rfl, ?_⟩) (by assumption) ?_
    rotate_left
    · (intro w hSw; (try dsimp only at hSw); go_simp; first | done | with_reducible rfl)
    try simp only [Act.put, List.setIfInBounds_toArray, List.set_cons_zero, List.set_cons_succ]
    refine wpAnyH_done (by kernel_rfl) ?_ _
    clear hHeld2
    cases bb with
    | true =>
      go_wp2_with fail
      go_ret2
      have hr : r' = false := by rw [HLB.out.2]; rfl
      have hl : l' = l := by rw [HLB.out.1, hr]; rfl
      rw [hr, hl]
      exact ⟨_, rfl, .inl ⟨by rw [HN.out]; rfl, rfl, HS1.out.base.trans (HB6.out.mono HS1.out.base.size)⟩⟩
    | false =>
      have hr : r' = true := by rw [HLB.out.2]; rfl
      have hl : l' = l.set k (ackX ⟨⟨xk, ⟨xp, xl, xn⟩, xd, xf, xe, xb⟩, xa⟩ n) := by rw [HLB.out.1, hr]; rfl
      have HRL := Lib.hid (And.intro hr hl)
      clear hr hl
      have HCP := Lib.hid (copied_c l (some ad) c w6 (Kd.C_below HCW.out.1 (HS1.out.base.trans (HB6.out.mono HS1.out.base.size))) HCW.out.2.1)
      rw [HN.out] at HCP
      have HBW := Lib.hid (HS1.out.base.trans (HB6.out.mono HS1.out.base.size))
      clear HB6 HLS HKP HF HS1
      go_wp2_with fail
      refine HCP.out.mono ?_
      rintro e w7 ⟨b, rfl, S7⟩
      have S7' := (St.nil (fun _ => False) w).below HBW.out
      have S8 := S7'.adds S7
      have f8 : w7.frozen? ⟨b, k * 72 + 8 + n, none⟩ = false := by rw [Nat.add_assoc]; exact (S8.elem flRf 0 rfl (i := k) (c := 8 + n) HXX.out.1 (by have := HXX.out.2.2; show 8 + n < 72; omega)).2
      have u8 : w7.cell? ⟨b, k * 72 + 8 + n, none⟩ = some (.bool (bitM xa n)) := by rw [Nat.add_assoc]; exact (S8.elem flRf 0 rfl (i := k) (c := 8 + n) HXX.out.1 (by have := HXX.out.2.2; show 8 + n < 72; omega)).1.trans (eRf_bit _ n HXX.out.2.2)
      have S9 := S8.put flRf 0 rfl (i := k) (c := 8 + n) (y := ackX ⟨⟨xk, ⟨xp, xl, xn⟩, xd, xf, xe, xb⟩, xa⟩ n) (v := .bool true) HXX.out.1 (by have := HXX.out.2.2; show 8 + n < 72; omega) (eRf_ack HXX.out.2.1 (n := (n : Int)) ⟨by omega, by have := HXX.out.2.2; omega⟩)
      have S9' : St (fun _ => False) w (w7.setCell ⟨b, k * 72 + 8 + n, none⟩ (.bool true)) [slc kRf 87 (.slice (some ⟨b, 0, none⟩) N N) (l.set k (ackX ⟨⟨xk, ⟨xp, xl, xn⟩, xd, xf, xe, xb⟩, xa⟩ n))] := by rw [Nat.add_assoc, ← HN.out]; exact S9
      have H9 := Lib.hid S9'
      rw [HN.out]
      clear S7 S7' S8 S9 S9' HCP hnb hkd
      go_wp2_with fail
      go_ret2
      rw [HRL.out.1, HRL.out.2]
      exact ⟨_, rfl, .inr H9.out⟩
end Go.Proofs.Ytmpodcefngpnkaa
/- The document's Add. -/
set_option linter.unusedVariables false
set_option linter.unusedSimpArgs false
namespace Go.Proofs.Ytmpodcefngpnkaa
open Go.RowKit Go.Tat Go.Proofs.YtmpodcefngpnkaaW.PrintWords PHintPlays
theorem zcRf : (Value.agg (eRf zRf).toArray).cells.size = kRf.sz := by
  show (eRf zRf).toArray.size = 72
  rw [List.size_toArray, eRf_len]
def raddPost (w : World) (A : Option Addr) (c : Nat) (l l' : List Hn) (f : Int) (e : Ending) (w' : World) : Prop := ∃ v, e = .returned (.tuple #[.int .i64 f, v]) ∧ rres w A c l l' v w'
theorem mayB_body {r : Rc} (h : mayB r = true) : r.f5.size ≤ 1024 := by
  unfold mayB at h
  simp only [Bool.and_eq_true, decide_eq_true_eq] at h
  omega
theorem eRf_zero (r : Rc) : eRf ⟨r, 0⟩ = eRc r ++ List.replicate 64 (.bool false) := by
  unfold eRf
  congr 1
  apply List.ext_getElem?
  intro i
  rw [List.getElem?_map, List.getElem?_replicate]
  rcases Nat.lt_or_ge i 64 with h | h
  · rw [List.getElem?_range h, if_pos h, Option.map_some, bitM_0 _ (Int.natCast_nonneg i)]
  · rw [List.getElem?_eq_none (by rw [List.length_range]; exact h), if_neg (by omega)]; rfl
theorem eRf_new (qk : ByteArray) (qp ql qn qd qf qe : Int) (qb : ByteArray) : eRf ⟨⟨qk, ⟨qp, ql, qn⟩, qd, qf, qe, qb⟩, 0⟩ = (#[.string qk, .int .u64 qp, .int .u32 ql, .int .u8 qn, .int .u8 qd, .int .u32 qf, .int .u64 qe, .string qb, .bool false, .bool false, .bool false, .bool false, .bool false, .bool false, .bool false, .bool false, .bool false, .bool false, .bool false, .bool false, .bool false, .bool false, .bool false, .bool false, .bool false, .bool false, .bool false, .bool false, .bool false, .bool false, .bool false, .bool false, .bool false, .bool false, .bool false, .bool false, .bool false, .bool false, .bool false, .bool false, .bool false, .bool false, .bool false, .bool false, .bool false, .bool false, .bool false, .bool false, .bool false, .bool false, .bool false, .bool false, .bool false, .bool false, .bool false, .bool false, .bool false, .bool false, .bool false, .bool false, .bool false, .bool false, .bool false, .bool false, .bool false, .bool false, .bool false, .bool false, .bool false, .bool false, .bool false, .bool false] : Array Value).toList := by rw [eRf_zero]; rfl
theorem eRf_lit (xk : ByteArray) (xp xl xn xd xf xe : Int) (xb : ByteArray) (xa : Int) (β : Nat → Bool) (h : (fun m : Nat => bitM xa (m : Int)) = β) : eRf ⟨⟨xk, ⟨xp, xl, xn⟩, xd, xf, xe, xb⟩, xa⟩ = (#[.string xk, .int .u64 xp, .int .u32 xl, .int .u8 xn, .int .u8 xd, .int .u32 xf, .int .u64 xe, .string xb, .bool (β 0), .bool (β 1), .bool (β 2), .bool (β 3), .bool (β 4), .bool (β 5), .bool (β 6), .bool (β 7), .bool (β 8), .bool (β 9), .bool (β 10), .bool (β 11), .bool (β 12), .bool (β 13), .bool (β 14), .bool (β 15), .bool (β 16), .bool (β 17), .bool (β 18), .bool (β 19), .bool (β 20), .bool (β 21), .bool (β 22), .bool (β 23), .bool (β 24), .bool (β 25), .bool (β 26), .bool (β 27), .bool (β 28), .bool (β 29), .bool (β 30), .bool (β 31), .bool (β 32), .bool (β 33), .bool (β 34), .bool (β 35), .bool (β 36), .bool (β 37), .bool (β 38), .bool (β 39), .bool (β 40), .bool (β 41), .bool (β 42), .bool (β 43), .bool (β 44), .bool (β 45), .bool (β 46), .bool (β 47), .bool (β 48), .bool (β 49), .bool (β 50), .bool (β 51), .bool (β 52), .bool (β 53), .bool (β 54), .bool (β 55), .bool (β 56), .bool (β 57), .bool (β 58), .bool (β 59), .bool (β 60), .bool (β 61), .bool (β 62), .bool (β 63)] : Array Value).toList := by subst h; rfl
set_option maxRecDepth 100000 in
set_option maxHeartbeats 4000000 in
theorem radd_arg (l : List Hn) (hs : SortedH l) (r : Rc) (hk : r.f0.size ≤ 1000) (hb : r.f5.size ≤ 3000) (most : Int) (ha : mayB r = false ∨ r.f2 = 3) (A : Option Addr) (c : Nat) (w : World) (hC : kRf.C w A l.length l) (hl : l.length ≤ 1000000) :
    Calls Try.prog 19 #[.slice A l.length c, .int .i64 most, .agg (eRc r).toArray] w (raddPost w A c l l 1) := by
  obtain ⟨z, hz⟩ : ∃ z, w.heap.size = z := ⟨_, rfl⟩
  obtain ⟨qk, ⟨qp, ql, qn⟩, qd, qf, qe, qb⟩ := r
  have S1 := (St.nil (fun _ => False) w).new' #[.string qk, .int .u64 qp, .int .u32 ql, .int .u8 qn, .int .u8 qd, .int .u32 qf, .int .u64 qe, .string qb] 35 z hz
  have H1 := Lib.hid (show St (fun _ => False) w _ [blk z #[.string qk, .int .u64 qp, .int .u32 ql, .int .u8 qn, .int .u8 qd, .int .u32 qf, .int .u64 qe, .string qb] 35] from S1)
  have HM := Lib.hid (rmay_c ⟨qk, ⟨qp, ql, qn⟩, qd, qf, qe, qb⟩ (by show qk.size < _; have : qk.size ≤ 1000 := hk; omega) (w.alloc (.cells #[.string qk, .int .u64 qp, .int .u32 ql, .int .u8 qn, .int .u8 qd, .int .u32 qf, .int .u64 qe, .string qb] 35)))
  unfold eRc at HM ⊢
  dsimp only at HM ⊢
  have HC := Lib.hid hC
  obtain ⟨N, hN⟩ : ∃ N, l.length = N := ⟨_, rfl⟩
  rw [hN]
  have HN := Lib.hid hN
  have q4 := S1.cell 0 rfl 4
  clear hC hs hN hl hk hb S1
  cases hm : mayB ⟨qk, ⟨qp, ql, qn⟩, qd, qf, qe, qb⟩ with
  | false =>
    rw [hm] at HM
    clear hm ha
    go_enter Try.func19, Try.ntmps19
    go_wp2_with fail
    generalize World.alloc w _ = w1 at *
    refine HM.out.mono ?_
    rintro e w2 ⟨rfl, b2⟩
    have H2 := Lib.hid (H1.out.below b2)
    clear b2 H1 HM
    go_wp2_with fail
    go_ret2
    exact ⟨_, rfl, .inl ⟨by rw [HN.out]; rfl, rfl, H2.out.base⟩⟩
  | true =>
    have h3 : qd = 3 := by
      rcases ha with h | h
      · rw [hm] at h; cases h
      · exact h
    subst h3
    rw [hm] at HM
    clear hm ha
    go_enter Try.func19, Try.ntmps19
    go_wp2_with fail
    generalize World.alloc w _ = w1 at *
    refine HM.out.mono ?_
    rintro e w2 ⟨rfl, b2⟩
    have S2 := H1.out.below b2
    clear q4
    have q4 : w2.cell? ⟨z, 4, none⟩ = some (.int .u8 3) := S2.cell 0 rfl 4
    have H2 := Lib.hid S2
    clear b2 H1 HM S2
    go_wp2_with fail
    go_ret2
    exact ⟨_, rfl, .inl ⟨by rw [HN.out]; rfl, rfl, H2.out.base⟩⟩
set_option maxRecDepth 100000 in
set_option maxHeartbeats 4000000 in
theorem radd_old (l : List Hn) (hs : SortedH l) (r : Rc) (hk : r.f0.size ≤ 1000) (hb : r.f5.size ≤ 3000) (most : Int) (hm : mayB r = true) (h3 : r.f2 ≠ 3) (ht : thereH l r.f0 = true) (hc : ∀ x, l[posH l r.f0]? = some x → decide (recF x.f0 r < 0) = false) (hg : ∀ x ∈ l, GoodM x) (A : Option Addr) (c : Nat) (w : World) (hC : kRf.C w A l.length l) (hl : l.length ≤ 1000000) :
    Calls Try.prog 19 #[.slice A l.length c, .int .i64 most, .agg (eRc r).toArray] w (raddPost w A c l l 0) := by
  obtain ⟨z, hz⟩ : ∃ z, w.heap.size = z := ⟨_, rfl⟩
  obtain ⟨qk, ⟨qp, ql, qn⟩, qd, qf, qe, qb⟩ := r
  have S1 := (St.nil (fun _ => False) w).new' #[.string qk, .int .u64 qp, .int .u32 ql, .int .u8 qn, .int .u8 qd, .int .u32 qf, .int .u64 qe, .string qb] 35 z hz
  have H1 := Lib.hid (show St (fun _ => False) w _ [blk z #[.string qk, .int .u64 qp, .int .u32 ql, .int .u8 qn, .int .u8 qd, .int .u32 qf, .int .u64 qe, .string qb] 35] from S1)
  have HM := Lib.hid (rmay_c ⟨qk, ⟨qp, ql, qn⟩, qd, qf, qe, qb⟩ (by show qk.size < _; have : qk.size ≤ 1000 := hk; omega) (w.alloc (.cells #[.string qk, .int .u64 qp, .int .u32 ql, .int .u8 qn, .int .u8 qd, .int .u32 qf, .int .u64 qe, .string qb] 35)))
  rw [hm] at HM
  have h3b : (qd == 3) = false := by
    have h3' : qd ≠ 3 := h3
    simpa using h3'
  unfold eRc at HM ⊢
  dsimp only at HM ⊢
  have HC := Lib.hid (And.intro hC (And.intro hs hl))
  obtain ⟨N, hN⟩ : ∃ N, l.length = N := ⟨_, rfl⟩
  rw [hN]
  have HN := Lib.hid hN
  clear hm h3 S1
  obtain ⟨x, hx, hxk⟩ := thereH_get ht
  obtain ⟨k, hkp⟩ : ∃ k, posH l qk = k := ⟨_, rfl⟩
  have hfr : findR l qk = (k : Int) := by
    have ht' : thereH l qk = true := ht
    unfold findR
    rw [ht', hkp]; rfl
  have hx' : l[k]? = some x := by rw [← hkp]; exact hx
  have hkl := (List.getElem?_eq_some_iff.1 hx').1
  have hcx := hc x hx
  have HQS := Lib.hid (show qb.size ≤ 3000 from hb)
  obtain ⟨⟨xk, ⟨xp, xl, xn⟩, xd, xf, xe, xb⟩, xa⟩ := x
  dsimp only at hcx
  have HLX := Lib.hid (fun W => less_c ⟨xk, ⟨xp, xl, xn⟩, xd, xf, xe, xb⟩ ⟨qk, ⟨qp, ql, qn⟩, qd, qf, qe, qb⟩ (by have h9 : xb.size ≤ 1024 := mayB_body (hg _ (List.mem_of_getElem? hx')).may; show xb.size < _; omega) W)
  rw [hcx] at HLX
  unfold eRc at HLX
  dsimp only at HLX
  obtain ⟨ad, b2x, o2, cs, rfl, had, hbx, hK, hcs⟩ := C_at hC hx' (by decide)
  have hK' : cs = eRf ⟨⟨xk, ⟨xp, xl, xn⟩, xd, xf, xe, xb⟩, xa⟩ := hK
  subst hK'
  have had' : ad.add (k * 72) = ⟨b2x, o2, none⟩ := had
  have HXC := Lib.hid (fun (W : World) (B : Below w.heap.size w W) => (fun c v (hc : c < 8) (hv : (eRc ⟨xk, ⟨xp, xl, xn⟩, xd, xf, xe, xb⟩)[c]? = some v) => (show W.cell? ⟨b2x, o2 + c, none⟩ = some v from (B.cell (p := ⟨b2x, o2 + c, none⟩) hbx).trans (hcs c v (by rw [eRf_rec _ c hc]; exact hv)))))
  have hk0 : (0 : Int) ≤ (k : Int) := by omega
  have hkN : (k : Int) < (l.length : Int) := by omega
  have hkb : (k : Int) < 1000000 := by omega
  have hge : decide ((0 : Int) ≤ (k : Int)) = true := decide_eq_true hk0
  rw [HN.out] at hkN
  have HXX := Lib.hid hx'
  clear hC hs hl hk hb ht hc hx hx' hkp hxk hkl hK hcs had hbx hcx
  go_enter Try.func19, Try.ntmps19
  go_wp2_with fail
  generalize World.alloc w _ = w1 at *
  refine HM.out.mono ?_
  rintro e w2 ⟨rfl, b2⟩
  have S2 := H1.out.below b2
  have q0 : w2.cell? ⟨z, 0, none⟩ = some (.string qk) := S2.cell 0 rfl 0
  have q1 : w2.cell? ⟨z, 1, none⟩ = some (.int .u64 qp) := S2.cell 0 rfl 1
  have q2 : w2.cell? ⟨z, 2, none⟩ = some (.int .u32 ql) := S2.cell 0 rfl 2
  have q3 : w2.cell? ⟨z, 3, none⟩ = some (.int .u8 qn) := S2.cell 0 rfl 3
  have q4 : w2.cell? ⟨z, 4, none⟩ = some (.int .u8 qd) := S2.cell 0 rfl 4
  have q5 : w2.cell? ⟨z, 5, none⟩ = some (.int .u32 qf) := S2.cell 0 rfl 5
  have q6 : w2.cell? ⟨z, 6, none⟩ = some (.int .u64 qe) := S2.cell 0 rfl 6
  have q7 : w2.cell? ⟨z, 7, none⟩ = some (.string qb) := S2.cell 0 rfl 7
  have H2 := Lib.hid S2
  have HF := Lib.hid (find_b l qk HC.out.2.1 _ c w2 (Kd.C_below HC.out.1 S2.base) HC.out.2.2 (k : Int) hfr)
  rw [HN.out] at HF
  clear b2 H1 HM S2
  go_wp2_with fail
  refine HF.out.mono ?_
  rintro e w3 ⟨rfl, rfl⟩
  have B2 := H2.out.base
  have x0 : w2.cell? ⟨b2x, o2, none⟩ = some (.string xk) := HXC.out w2 B2 0 _ (by decide) rfl
  have x1 : w2.cell? ⟨b2x, o2 + 1, none⟩ = some (.int .u64 xp) := HXC.out w2 B2 1 _ (by decide) rfl
  have x2 : w2.cell? ⟨b2x, o2 + 2, none⟩ = some (.int .u32 xl) := HXC.out w2 B2 2 _ (by decide) rfl
  have x3 : w2.cell? ⟨b2x, o2 + 3, none⟩ = some (.int .u8 xn) := HXC.out w2 B2 3 _ (by decide) rfl
  have x4 : w2.cell? ⟨b2x, o2 + 4, none⟩ = some (.int .u8 xd) := HXC.out w2 B2 4 _ (by decide) rfl
  have x5 : w2.cell? ⟨b2x, o2 + 5, none⟩ = some (.int .u32 xf) := HXC.out w2 B2 5 _ (by decide) rfl
  have x6 : w2.cell? ⟨b2x, o2 + 6, none⟩ = some (.int .u64 xe) := HXC.out w2 B2 6 _ (by decide) rfl
  have x7 : w2.cell? ⟨b2x, o2 + 7, none⟩ = some (.string xb) := HXC.out w2 B2 7 _ (by decide) rfl
  clear B2
  go_upto_region 5 with fail
  go_still_tail 6, (by kernel_rfl)
  change wpList _ _ _ _ _ w2.drew
  go_wp2_with fail
  refine (HLX.out _).mono ?_
  rintro e w4 ⟨rfl, b4⟩
  have H4 := Lib.hid (H2.out.drew.below b4)
  clear b4 HLX H2 x0 x1 x2 x3 x4 x5 x6 x7
  clear HF HXC q0 q1 q2 q3 q4 q5 q6 q7
  go_wp2_with fail
  go_ret2
  exact ⟨_, rfl, .inl ⟨by rw [HN.out]; rfl, rfl, H4.out.base⟩⟩
set_option maxRecDepth 100000 in
set_option maxHeartbeats 4000000 in
theorem radd_new (l : List Hn) (hs : SortedH l) (r : Rc) (hk : r.f0.size ≤ 1000) (hb : r.f5.size ≤ 3000) (most : Int) (hm : mayB r = true) (h3 : r.f2 ≠ 3) (ht : thereH l r.f0 = true) (hc : ∀ x, l[posH l r.f0]? = some x → decide (recF x.f0 r < 0) = true) (hg : ∀ x ∈ l, GoodM x) (l2 : List Hn) (h2 : l.set (posH l r.f0) ⟨r, 0⟩ = l2) (A : Option Addr) (c : Nat) (w : World) (hC : kRf.C w A l.length l) (hl : l.length ≤ 1000000) :
    Calls Try.prog 19 #[.slice A l.length c, .int .i64 most, .agg (eRc r).toArray] w (raddPost w A c l l2 0) := by
  obtain ⟨z, hz⟩ : ∃ z, w.heap.size = z := ⟨_, rfl⟩
  obtain ⟨qk, ⟨qp, ql, qn⟩, qd, qf, qe, qb⟩ := r
  have S1 := (St.nil (fun _ => False) w).new' #[.string qk, .int .u64 qp, .int .u32 ql, .int .u8 qn, .int .u8 qd, .int .u32 qf, .int .u64 qe, .string qb] 35 z hz
  have H1 := Lib.hid (show St (fun _ => False) w _ [blk z #[.string qk, .int .u64 qp, .int .u32 ql, .int .u8 qn, .int .u8 qd, .int .u32 qf, .int .u64 qe, .string qb] 35] from S1)
  have HM := Lib.hid (rmay_c ⟨qk, ⟨qp, ql, qn⟩, qd, qf, qe, qb⟩ (by show qk.size < _; have : qk.size ≤ 1000 := hk; omega) (w.alloc (.cells #[.string qk, .int .u64 qp, .int .u32 ql, .int .u8 qn, .int .u8 qd, .int .u32 qf, .int .u64 qe, .string qb] 35)))
  rw [hm] at HM
  have h3b : (qd == 3) = false := by
    have h3' : qd ≠ 3 := h3
    simpa using h3'
  unfold eRc at HM ⊢
  dsimp only at HM ⊢
  have HC := Lib.hid (And.intro hC (And.intro hs hl))
  obtain ⟨N, hN⟩ : ∃ N, l.length = N := ⟨_, rfl⟩
  rw [hN]
  have HN := Lib.hid hN
  clear hm h3 S1
  obtain ⟨x, hx, hxk⟩ := thereH_get ht
  obtain ⟨k, hkp⟩ : ∃ k, posH l qk = k := ⟨_, rfl⟩
  have hfr : findR l qk = (k : Int) := by
    have ht' : thereH l qk = true := ht
    unfold findR
    rw [ht', hkp]; rfl
  have hx' : l[k]? = some x := by rw [← hkp]; exact hx
  have hkl := (List.getElem?_eq_some_iff.1 hx').1
  have hcx := hc x hx
  have HQS := Lib.hid (show qb.size ≤ 3000 from hb)
  obtain ⟨⟨xk, ⟨xp, xl, xn⟩, xd, xf, xe, xb⟩, xa⟩ := x
  dsimp only at hcx
  have HLX := Lib.hid (fun W => less_c ⟨xk, ⟨xp, xl, xn⟩, xd, xf, xe, xb⟩ ⟨qk, ⟨qp, ql, qn⟩, qd, qf, qe, qb⟩ (by have h9 : xb.size ≤ 1024 := mayB_body (hg _ (List.mem_of_getElem? hx')).may; show xb.size < _; omega) W)
  rw [hcx] at HLX
  unfold eRc at HLX
  dsimp only at HLX
  obtain ⟨ad, b2x, o2, cs, rfl, had, hbx, hK, hcs⟩ := C_at hC hx' (by decide)
  have hK' : cs = eRf ⟨⟨xk, ⟨xp, xl, xn⟩, xd, xf, xe, xb⟩, xa⟩ := hK
  subst hK'
  have had' : ad.add (k * 72) = ⟨b2x, o2, none⟩ := had
  have HXC := Lib.hid (fun (W : World) (B : Below w.heap.size w W) => (fun c v (hc : c < 8) (hv : (eRc ⟨xk, ⟨xp, xl, xn⟩, xd, xf, xe, xb⟩)[c]? = some v) => (show W.cell? ⟨b2x, o2 + c, none⟩ = some v from (B.cell (p := ⟨b2x, o2 + c, none⟩) hbx).trans (hcs c v (by rw [eRf_rec _ c hc]; exact hv)))))
  have hk0 : (0 : Int) ≤ (k : Int) := by omega
  have hkN : (k : Int) < (l.length : Int) := by omega
  have hkb : (k : Int) < 1000000 := by omega
  have hge : decide ((0 : Int) ≤ (k : Int)) = true := decide_eq_true hk0
  rw [HN.out] at hkN
  have HXX := Lib.hid hx'
  have HL2 := Lib.hid (show l.set k ⟨⟨qk, ⟨qp, ql, qn⟩, qd, qf, qe, qb⟩, 0⟩ = l2 by rw [← hkp]; exact h2)
  clear h2
  clear hC hs hl hk hb ht hc hx hx' hkp hxk hkl hK hcs had hbx hcx
  go_enter Try.func19, Try.ntmps19
  go_wp2_with fail
  generalize World.alloc w _ = w1 at *
  refine HM.out.mono ?_
  rintro e w2 ⟨rfl, b2⟩
  have S2 := H1.out.below b2
  have q0 : w2.cell? ⟨z, 0, none⟩ = some (.string qk) := S2.cell 0 rfl 0
  have q1 : w2.cell? ⟨z, 1, none⟩ = some (.int .u64 qp) := S2.cell 0 rfl 1
  have q2 : w2.cell? ⟨z, 2, none⟩ = some (.int .u32 ql) := S2.cell 0 rfl 2
  have q3 : w2.cell? ⟨z, 3, none⟩ = some (.int .u8 qn) := S2.cell 0 rfl 3
  have q4 : w2.cell? ⟨z, 4, none⟩ = some (.int .u8 qd) := S2.cell 0 rfl 4
  have q5 : w2.cell? ⟨z, 5, none⟩ = some (.int .u32 qf) := S2.cell 0 rfl 5
  have q6 : w2.cell? ⟨z, 6, none⟩ = some (.int .u64 qe) := S2.cell 0 rfl 6
  have q7 : w2.cell? ⟨z, 7, none⟩ = some (.string qb) := S2.cell 0 rfl 7
  have H2 := Lib.hid S2
  have HF := Lib.hid (find_b l qk HC.out.2.1 _ c w2 (Kd.C_below HC.out.1 S2.base) HC.out.2.2 (k : Int) hfr)
  rw [HN.out] at HF
  clear b2 H1 HM S2
  go_wp2_with fail
  refine HF.out.mono ?_
  rintro e w3 ⟨rfl, rfl⟩
  have B2 := H2.out.base
  have x0 : w2.cell? ⟨b2x, o2, none⟩ = some (.string xk) := HXC.out w2 B2 0 _ (by decide) rfl
  have x1 : w2.cell? ⟨b2x, o2 + 1, none⟩ = some (.int .u64 xp) := HXC.out w2 B2 1 _ (by decide) rfl
  have x2 : w2.cell? ⟨b2x, o2 + 2, none⟩ = some (.int .u32 xl) := HXC.out w2 B2 2 _ (by decide) rfl
  have x3 : w2.cell? ⟨b2x, o2 + 3, none⟩ = some (.int .u8 xn) := HXC.out w2 B2 3 _ (by decide) rfl
  have x4 : w2.cell? ⟨b2x, o2 + 4, none⟩ = some (.int .u8 xd) := HXC.out w2 B2 4 _ (by decide) rfl
  have x5 : w2.cell? ⟨b2x, o2 + 5, none⟩ = some (.int .u32 xf) := HXC.out w2 B2 5 _ (by decide) rfl
  have x6 : w2.cell? ⟨b2x, o2 + 6, none⟩ = some (.int .u64 xe) := HXC.out w2 B2 6 _ (by decide) rfl
  have x7 : w2.cell? ⟨b2x, o2 + 7, none⟩ = some (.string xb) := HXC.out w2 B2 7 _ (by decide) rfl
  clear B2
  go_upto_region 5 with fail
  go_still_tail 6, (by kernel_rfl)
  change wpList _ _ _ _ _ w2.drew
  go_wp2_with fail
  refine (HLX.out _).mono ?_
  rintro e w4 ⟨rfl, b4⟩
  have H4 := Lib.hid (H2.out.drew.below b4)
  clear b4 HLX H2 x0 x1 x2 x3 x4 x5 x6 x7
  have HCP := Lib.hid (copied_c l (some ad) c w4 (Kd.C_below HC.out.1 H4.out.base) HC.out.2.2)
  rw [HN.out] at HCP
  clear HF HXC q0 q1 q2 q3 q4 q5 q6 q7
  go_wp2_with fail
  refine HCP.out.mono ?_
  rintro e w5 ⟨b, rfl, S5⟩
  have S6 := H4.out.adds S5
  have q0 : w5.cell? ⟨z, 0, none⟩ = some (.string qk) := S6.cell 0 rfl 0
  have q1 : w5.cell? ⟨z, 1, none⟩ = some (.int .u64 qp) := S6.cell 0 rfl 1
  have q2 : w5.cell? ⟨z, 2, none⟩ = some (.int .u32 ql) := S6.cell 0 rfl 2
  have q3 : w5.cell? ⟨z, 3, none⟩ = some (.int .u8 qn) := S6.cell 0 rfl 3
  have q4 : w5.cell? ⟨z, 4, none⟩ = some (.int .u8 qd) := S6.cell 0 rfl 4
  have q5 : w5.cell? ⟨z, 5, none⟩ = some (.int .u32 qf) := S6.cell 0 rfl 5
  have q6 : w5.cell? ⟨z, 6, none⟩ = some (.int .u64 qe) := S6.cell 0 rfl 6
  have q7 : w5.cell? ⟨z, 7, none⟩ = some (.string qb) := S6.cell 0 rfl 7
  have H6 := Lib.hid S6
  have hRx : ∃ ex, Row w5 b 87 eRf l ex ∧ l.length ≤ N ∧ N ≤ maxLen ∧ ex.length = (N - l.length) * 72 := by
    rcases (slc_iff flRf).1 (S6.get 1 rfl) with ⟨h, _⟩ | ⟨g', c', ex, h, hR, h1, h2, h3⟩
    · cases h
    · rw [HN.out] at h; cases h; exact ⟨ex, hR, h1, h2, h3⟩
  obtain ⟨ex, hR, hcc, hmm, hex⟩ := hRx
  have HEX := Lib.hid (And.intro hR (And.intro hcc (And.intro hmm hex)))
  have hkl2 : k < l.length := (List.getElem?_eq_some_iff.1 HXX.out).1
  have HKL := Lib.hid hkl2
  rw [HN.out]
  clear S5 S6 HCP H4 hR hcc hmm hex hkl2
  go_upto_region 8 with (refine wpList_store_row_at flRf rfl 87 _ _ rfl b 87 k l ⟨⟨qk, ⟨qp, ql, qn⟩, qd, qf, qe, qb⟩, 0⟩ ex rfl (by rw [eRf_new]; rfl) sizeRf HEX.out.1 HKL.out ?_)
  intro w6 hR6 m6 s6
  have S7 := H6.out.upd 1 rfl (m6.mono (fun k' _ hk => by rw [hk]; exact rfl)) (a' := slc kRf 87 (.slice (some ⟨b, 0, none⟩) N N) (l.set k ⟨⟨qk, ⟨qp, ql, qn⟩, qd, qf, qe, qb⟩, 0⟩)) ((slc_iff flRf).2 (.inr ⟨b, N, ex, by rw [List.length_set, HN.out], hR6, by rw [List.length_set]; exact HEX.out.2.1, HEX.out.2.2.1, by rw [List.length_set]; exact HEX.out.2.2.2⟩)) (fun k h => .inl h)
  rw [HL2.out] at S7
  have H7 := Lib.hid (show St (fun _ => False) w w6 [slc kRf 87 (.slice (some ⟨b, 0, none⟩) N N) l2] from S7.drop 0)
  clear hR6 m6 s6 S7 H6 HEX q0 q1 q2 q3 q4 q5 q6 q7
  go_wp2_with fail
  go_ret2
  exact ⟨_, rfl, .inr H7.out⟩
set_option maxRecDepth 100000 in
set_option maxHeartbeats 4000000 in
theorem radd_full (l : List Hn) (hs : SortedH l) (r : Rc) (hk : r.f0.size ≤ 1000) (hb : r.f5.size ≤ 3000) (most : Int) (hm : mayB r = true) (h3 : r.f2 ≠ 3) (ht : thereH l r.f0 = false) (hf : (l.length : Int) = most) (A : Option Addr) (c : Nat) (w : World) (hC : kRf.C w A l.length l) (hl : l.length ≤ 1000000) :
    Calls Try.prog 19 #[.slice A l.length c, .int .i64 most, .agg (eRc r).toArray] w (raddPost w A c l l 6) := by
  obtain ⟨z, hz⟩ : ∃ z, w.heap.size = z := ⟨_, rfl⟩
  obtain ⟨qk, ⟨qp, ql, qn⟩, qd, qf, qe, qb⟩ := r
  have S1 := (St.nil (fun _ => False) w).new' #[.string qk, .int .u64 qp, .int .u32 ql, .int .u8 qn, .int .u8 qd, .int .u32 qf, .int .u64 qe, .string qb] 35 z hz
  have H1 := Lib.hid (show St (fun _ => False) w _ [blk z #[.string qk, .int .u64 qp, .int .u32 ql, .int .u8 qn, .int .u8 qd, .int .u32 qf, .int .u64 qe, .string qb] 35] from S1)
  have HM := Lib.hid (rmay_c ⟨qk, ⟨qp, ql, qn⟩, qd, qf, qe, qb⟩ (by show qk.size < _; have : qk.size ≤ 1000 := hk; omega) (w.alloc (.cells #[.string qk, .int .u64 qp, .int .u32 ql, .int .u8 qn, .int .u8 qd, .int .u32 qf, .int .u64 qe, .string qb] 35)))
  rw [hm] at HM
  have h3b : (qd == 3) = false := by
    have h3' : qd ≠ 3 := h3
    simpa using h3'
  unfold eRc at HM ⊢
  dsimp only at HM ⊢
  have HC := Lib.hid (And.intro hC (And.intro hs hl))
  obtain ⟨N, hN⟩ : ∃ N, l.length = N := ⟨_, rfl⟩
  rw [hN]
  have HN := Lib.hid hN
  clear hm h3 S1
  have hfr : findR l qk = -1 := by
    have ht' : thereH l qk = false := ht
    unfold findR
    rw [ht']; rfl
  have hmost : most = (N : Int) := by rw [← HN.out]; exact hf.symm
  subst hmost
  clear hC hs hl hk hb ht hf
  go_enter Try.func19, Try.ntmps19
  go_wp2_with fail
  generalize World.alloc w _ = w1 at *
  refine HM.out.mono ?_
  rintro e w2 ⟨rfl, b2⟩
  have S2 := H1.out.below b2
  have q0 : w2.cell? ⟨z, 0, none⟩ = some (.string qk) := S2.cell 0 rfl 0
  have q1 : w2.cell? ⟨z, 1, none⟩ = some (.int .u64 qp) := S2.cell 0 rfl 1
  have q2 : w2.cell? ⟨z, 2, none⟩ = some (.int .u32 ql) := S2.cell 0 rfl 2
  have q3 : w2.cell? ⟨z, 3, none⟩ = some (.int .u8 qn) := S2.cell 0 rfl 3
  have q4 : w2.cell? ⟨z, 4, none⟩ = some (.int .u8 qd) := S2.cell 0 rfl 4
  have q5 : w2.cell? ⟨z, 5, none⟩ = some (.int .u32 qf) := S2.cell 0 rfl 5
  have q6 : w2.cell? ⟨z, 6, none⟩ = some (.int .u64 qe) := S2.cell 0 rfl 6
  have q7 : w2.cell? ⟨z, 7, none⟩ = some (.string qb) := S2.cell 0 rfl 7
  have H2 := Lib.hid S2
  have HF := Lib.hid (find_b l qk HC.out.2.1 _ c w2 (Kd.C_below HC.out.1 S2.base) HC.out.2.2 (-1) hfr)
  rw [HN.out] at HF
  clear b2 H1 HM S2
  go_wp2_with fail
  refine HF.out.mono ?_
  rintro e w3 ⟨rfl, rfl⟩
  clear HF hfr q0 q1 q2 q3 q4 q5 q6 q7
  go_wp2_with fail
  go_ret2
  exact ⟨_, rfl, .inl ⟨by rw [HN.out]; rfl, rfl, H2.out.base⟩⟩
set_option maxRecDepth 100000 in
set_option maxHeartbeats 16000000 in
theorem radd_ins (l : List Hn) (hs : SortedH l) (r : Rc) (hk : r.f0.size ≤ 1000) (hb : r.f5.size ≤ 3000) (most : Int) (hm : mayB r = true) (h3 : r.f2 ≠ 3) (ht : thereH l r.f0 = false) (hf : (l.length : Int) < most) (l2 : List Hn) (h2 : l.take (posH l r.f0) ++ ⟨r, 0⟩ :: l.drop (posH l r.f0) = l2) (A : Option Addr) (c : Nat) (w : World) (hC : kRf.C w A l.length l) (hl : l.length ≤ 1000000) :
    Calls Try.prog 19 #[.slice A l.length c, .int .i64 most, .agg (eRc r).toArray] w (raddPost w A c l l2 0) := by
  obtain ⟨z, hz⟩ : ∃ z, w.heap.size = z := ⟨_, rfl⟩
  obtain ⟨qk, ⟨qp, ql, qn⟩, qd, qf, qe, qb⟩ := r
  have S1 := (St.nil (fun _ => False) w).new' #[.string qk, .int .u64 qp, .int .u32 ql, .int .u8 qn, .int .u8 qd, .int .u32 qf, .int .u64 qe, .string qb] 35 z hz
  have H1 := Lib.hid (show St (fun _ => False) w _ [blk z #[.string qk, .int .u64 qp, .int .u32 ql, .int .u8 qn, .int .u8 qd, .int .u32 qf, .int .u64 qe, .string qb] 35] from S1)
  have HM := Lib.hid (rmay_c ⟨qk, ⟨qp, ql, qn⟩, qd, qf, qe, qb⟩ (by show qk.size < _; have : qk.size ≤ 1000 := hk; omega) (w.alloc (.cells #[.string qk, .int .u64 qp, .int .u32 ql, .int .u8 qn, .int .u8 qd, .int .u32 qf, .int .u64 qe, .string qb] 35)))
  rw [hm] at HM
  have h3b : (qd == 3) = false := by
    have h3' : qd ≠ 3 := h3
    simpa using h3'
  unfold eRc at HM ⊢
  dsimp only at HM ⊢
  have HC := Lib.hid (And.intro hC (And.intro hs hl))
  obtain ⟨N, hN⟩ : ∃ N, l.length = N := ⟨_, rfl⟩
  rw [hN]
  have HN := Lib.hid hN
  clear hm h3 S1
  have hfr : findR l qk = -1 := by
    have ht' : thereH l qk = false := ht
    unfold findR
    rw [ht']; rfl
  obtain ⟨P, hP⟩ : ∃ P, posH l qk = P := ⟨_, rfl⟩
  have HP := Lib.hid (And.intro hP (And.intro (show thereH l qk = false from ht) (show P ≤ l.length from hP ▸ posH_le l qk)))
  have HL2 := Lib.hid (show l.take P ++ ⟨⟨qk, ⟨qp, ql, qn⟩, qd, qf, qe, qb⟩, 0⟩ :: l.drop P = l2 by rw [← hP]; exact h2)
  have hmost : ¬ most ≤ (N : Int) := by rw [← HN.out]; omega
  have HCAP := Lib.hid (fun j => (show ((insJ l P j ⟨⟨qk, ⟨qp, ql, qn⟩, qd, qf, qe, qb⟩, 0⟩).length + 1) * 128 ≤ 140737488355328 by have := insJ_len l P j ⟨⟨qk, ⟨qp, ql, qn⟩, qd, qf, qe, qb⟩, 0⟩; omega))
  have HCAP1 := Lib.hid (fun j => (show ((insJ l P j ⟨⟨qk, ⟨qp, ql, qn⟩, qd, qf, qe, qb⟩, 0⟩ ++ [(⟨⟨qk, ⟨qp, ql, qn⟩, qd, qf, qe, qb⟩, 0⟩ : Hn)]).length + 1) * 128 ≤ 140737488355328 by have := insJ_len l P j ⟨⟨qk, ⟨qp, ql, qn⟩, qd, qf, qe, qb⟩, 0⟩; rw [List.length_append, List.length_singleton]; omega))
  clear hC hs hl hk hb ht hf hP h2
  go_enter Try.func19, Try.ntmps19
  go_wp2_with fail
  generalize World.alloc w _ = w1 at *
  refine HM.out.mono ?_
  rintro e w2 ⟨rfl, b2⟩
  have S2 := H1.out.below b2
  have q0 : w2.cell? ⟨z, 0, none⟩ = some (.string qk) := S2.cell 0 rfl 0
  have q1 : w2.cell? ⟨z, 1, none⟩ = some (.int .u64 qp) := S2.cell 0 rfl 1
  have q2 : w2.cell? ⟨z, 2, none⟩ = some (.int .u32 ql) := S2.cell 0 rfl 2
  have q3 : w2.cell? ⟨z, 3, none⟩ = some (.int .u8 qn) := S2.cell 0 rfl 3
  have q4 : w2.cell? ⟨z, 4, none⟩ = some (.int .u8 qd) := S2.cell 0 rfl 4
  have q5 : w2.cell? ⟨z, 5, none⟩ = some (.int .u32 qf) := S2.cell 0 rfl 5
  have q6 : w2.cell? ⟨z, 6, none⟩ = some (.int .u64 qe) := S2.cell 0 rfl 6
  have q7 : w2.cell? ⟨z, 7, none⟩ = some (.string qb) := S2.cell 0 rfl 7
  have H2 := Lib.hid S2
  have HF := Lib.hid (find_b l qk HC.out.2.1 _ c w2 (Kd.C_below HC.out.1 S2.base) HC.out.2.2 (-1) hfr)
  rw [HN.out] at HF
  clear b2 H1 HM S2
  go_wp2_with fail
  refine HF.out.mono ?_
  rintro e w3 ⟨rfl, rfl⟩
  clear HF hfr
  go_upto_region 12 with fail
  obtain ⟨b, hb⟩ : ∃ b, w2.heap.size = b := ⟨_, rfl⟩
  have S4 := H2.out.empty flRf 87 b hb
  rw [hb]
  clear hb
  generalize World.alloc w2 _ = w4 at *
  have H4 := Lib.hid S4
  clear S4 H2 q0 q1 q2 q3 q4 q5 q6 q7
  go_wp2_with fail
  go_loopg [9, 10, 50] (N + 1) (fun m v9 v10 v50 wx => ∃ j : Nat, v50 = .int .i64 j ∧ j ≤ N ∧ N - j < m ∧ v10 = .bool (decide (P < j)) ∧ St (fun _ => False) w wx [blk z #[.string qk, .int .u64 qp, .int .u32 ql, .int .u8 qn, .int .u8 qd, .int .u32 qf, .int .u64 qe, .string qb] 35, slc kRf 87 v9 (insJ l P j ⟨⟨qk, ⟨qp, ql, qn⟩, qd, qf, qe, qb⟩, 0⟩)])
  case atStart => exact ⟨0, rfl, by omega, by omega, by simp, by rw [insJ_zero]; exact H4.out⟩
  case round =>
    clear H4
    obtain ⟨j, rfl, hj, hjm, rfl, S5⟩ := hrel
    obtain ⟨O, hO⟩ : ∃ O, insJ l P j ⟨⟨qk, ⟨qp, ql, qn⟩, qd, qf, qe, qb⟩, 0⟩ = O := ⟨_, rfl⟩
    have hcap := HCAP.out j
    have hcap1 := HCAP1.out j
    rw [hO] at S5 hcap hcap1
    obtain ⟨vA, vc, rfl⟩ := Kd.R_slice (S5.get 1 rfl).1
    have q0 : wr.cell? ⟨z, 0, none⟩ = some (.string qk) := S5.cell 0 rfl 0
    have q1 : wr.cell? ⟨z, 1, none⟩ = some (.int .u64 qp) := S5.cell 0 rfl 1
    have q2 : wr.cell? ⟨z, 2, none⟩ = some (.int .u32 ql) := S5.cell 0 rfl 2
    have q3 : wr.cell? ⟨z, 3, none⟩ = some (.int .u8 qn) := S5.cell 0 rfl 3
    have q4 : wr.cell? ⟨z, 4, none⟩ = some (.int .u8 qd) := S5.cell 0 rfl 4
    have q5 : wr.cell? ⟨z, 5, none⟩ = some (.int .u32 qf) := S5.cell 0 rfl 5
    have q6 : wr.cell? ⟨z, 6, none⟩ = some (.int .u64 qe) := S5.cell 0 rfl 6
    have q7 : wr.cell? ⟨z, 7, none⟩ = some (.string qb) := S5.cell 0 rfl 7
    have H5 := Lib.hid S5
    have HJ := Lib.hid (And.intro hO (And.intro hcap (And.intro hcap1 (And.intro hj hjm))))
    have hB := S5.base
    clear hO hcap hcap1 hjm
    by_cases hjl : j < N
    · have hjl' : (j : Int) < (N : Int) := by omega
      have hj0 : (0 : Int) ≤ (j : Int) := by omega
      obtain ⟨x, hx⟩ : ∃ x, l[j]? = some x := ⟨_, List.getElem?_eq_getElem (by rw [HN.out]; exact hjl)⟩
      obtain ⟨ad, b2x, o2, cs, rfl, had, hbx, hK, hcs⟩ := C_at HC.out.1 hx (by decide)
      have hK' : cs = eRf x := hK
      subst hK'
      have had' : ad.add (j * 72) = ⟨b2x, o2, none⟩ := had
      have hlow := fun h => key_low (key := qk) hx (h : j < posH l qk)
      have hhigh := fun h => key_high HC.out.2.1 HP.out.2.1 hx (h : posH l qk ≤ j)
      rw [HP.out.1] at hlow hhigh
      have HXX := Lib.hid hx
      obtain ⟨⟨xk, ⟨xp, xl, xn⟩, xd, xf, xe, xb⟩, xa⟩ := x
      obtain ⟨Lx, hLx⟩ : ∃ Lx, eRf ⟨⟨xk, ⟨xp, xl, xn⟩, xd, xf, xe, xb⟩, xa⟩ = Lx := ⟨_, rfl⟩
      have u0' : (eRf ⟨⟨xk, ⟨xp, xl, xn⟩, xd, xf, xe, xb⟩, xa⟩)[0]? = some (.string xk) := by rw [eRf_rec _ 0 (by decide)]; rfl
      have hLl := eRf_len ⟨⟨xk, ⟨xp, xl, xn⟩, xd, xf, xe, xb⟩, xa⟩
      rw [hLx] at hcs u0' hLl
      dsimp only at hlow hhigh
      have HLD : Hid (∀ W : World, Below w.heap.size w W → ∀ (i : Nat) v, Lx[i]? = some v → W.cell? ⟨b2x, o2 + i, none⟩ = some v) := Lib.hid fun W B i v h => (B.cell (p := ⟨b2x, o2 + i, none⟩) hbx).trans (hcs i v h)
      have HLT := Lib.hid (show eRf ⟨⟨xk, ⟨xp, xl, xn⟩, xd, xf, xe, xb⟩, xa⟩ = Lx.toArray.toList by rw [hLx])
      have HLS := Lib.hid (And.intro (show Lx.toArray.size = kRf.sz by rw [List.size_toArray, hLl]; rfl) (show (Try.prog.info? 87).map (·.size) = some Lx.length by rw [hLl]; exact sizeRf))
      have u0 : wr.cell? ⟨b2x, o2, none⟩ = some (.string xk) := HLD.out _ hB 0 _ u0'
      clear hx had hbx hK hcs hLx hLl u0' S5 hB hj
      rcases Nat.lt_trichotomy j P with hjp | hjp | hjp
      · have hd : decide (P < j) = false := decide_eq_false (by omega)
        have hgt : ∀ W : World, Sem.run Try.prog (binOp .gtr 9 (.string xk) (.string qk)) W = .ok (.bool false) W := fun W => by rw [gtr_run, decide_eq_false (by have := hlow hjp; omega)]
        have hd2 : decide (P < j + 1) = false := decide_eq_false (by omega)
        have HNX := Lib.hid (And.intro (insJ_low ⟨⟨qk, ⟨qp, ql, qn⟩, qd, qf, qe, qb⟩, 0⟩ HXX.out hjp) hd2)
        rw [hd]
        clear hlow hhigh hd hd2
        go_upto_region 16 with fail
        go_quiet (fail)
        have H6 := Lib.hid (H5.out.drewN nq)
        clear hgt H5 u0 q0 q1 q2 q3 q4 q5 q6 q7
        generalize World.drewN wr nq = w6 at *
        go_upto_region 20 with (first | (refine wpList_load_at rfl 87 _ rfl b2x o2 _ Lx rfl (HLD.out _ H6.out.base) Try.underlying87 rfl HLS.out.2 ?_) | (refine wpList_build1 flRf rfl 54 87 _ rfl Try.underlying54 _ 128 infoRf zcRf (by decide) (by decide) Lx.toArray HLS.out.1 rfl ?_) | (at_builtin; go_loud (refine St.wp1 flRf rfl _ _ 54 87 _ 128 rfl Try.underlying54 infoRf zcRf (by decide) (by decide) H6.out 1 rfl ⟨⟨xk, ⟨xp, xl, xn⟩, xd, xf, xe, xb⟩, xa⟩ Lx.toArray HLT.out rfl rfl HJ.out.2.1 ?_)))
        intro T2 A2 c2 w8 h8
        have hT2 := h8.out.1
        rw [← HJ.out.1] at hT2
        have H8 := Lib.hid h8.out.2
        have HT2 := Lib.hid hT2
        clear h8 hT2
        go_wp2_with fail
        go_roundg (N - j)
        case measure => have := HJ.out; omega
        case rel =>
          have := HJ.out
          exact ⟨j + 1, congrArg (Value.int .i64) (wrap64_succ (i := j) (m := 100000000) (by have := HC.out.2.2; have := HN.out; omega) (by decide)), by omega, by omega, by rw [HNX.out.2], by rw [HNX.out.1, ← HT2.out]; exact H8.out⟩
      · subst hjp
        have hd : decide (j < j) = false := decide_eq_false (by omega)
        have hgt : ∀ W : World, Sem.run Try.prog (binOp .gtr 9 (.string xk) (.string qk)) W = .ok (.bool true) W := fun W => by rw [gtr_run, decide_eq_true (hhigh (Nat.le_refl _))]
        have hd2 : decide (j < j + 1) = true := decide_eq_true (by omega)
        have HNX := Lib.hid (And.intro (insJ_at ⟨⟨qk, ⟨qp, ql, qn⟩, qd, qf, qe, qb⟩, 0⟩ HXX.out) hd2)
        rw [hd]
        clear hlow hhigh hd hd2
        go_upto_region 16 with fail
        go_quiet (fail)
        have S6 := H5.out.drewN nq
        clear q0 q1 q2 q3 q4 q5 q6 q7
        have q0 : (wr.drewN nq).cell? ⟨z, 0, none⟩ = some (.string qk) := S6.cell 0 rfl 0
        have q1 : (wr.drewN nq).cell? ⟨z, 1, none⟩ = some (.int .u64 qp) := S6.cell 0 rfl 1
        have q2 : (wr.drewN nq).cell? ⟨z, 2, none⟩ = some (.int .u32 ql) := S6.cell 0 rfl 2
        have q3 : (wr.drewN nq).cell? ⟨z, 3, none⟩ = some (.int .u8 qn) := S6.cell 0 rfl 3
        have q4 : (wr.drewN nq).cell? ⟨z, 4, none⟩ = some (.int .u8 qd) := S6.cell 0 rfl 4
        have q5 : (wr.drewN nq).cell? ⟨z, 5, none⟩ = some (.int .u32 qf) := S6.cell 0 rfl 5
        have q6 : (wr.drewN nq).cell? ⟨z, 6, none⟩ = some (.int .u64 qe) := S6.cell 0 rfl 6
        have q7 : (wr.drewN nq).cell? ⟨z, 7, none⟩ = some (.string qb) := S6.cell 0 rfl 7
        have H6 := Lib.hid S6
        clear hgt H5 u0 S6
        generalize World.drewN wr nq = w6 at *
        go_upto_region 18 with (first | (refine wpList_build1 flRf rfl 54 87 _ rfl Try.underlying54 _ 128 infoRf zcRf (by decide) (by decide) _ (by rfl) rfl ?_) | (at_builtin; go_loud (refine St.wp1 flRf rfl _ _ 54 87 _ 128 rfl Try.underlying54 infoRf zcRf (by decide) (by decide) H6.out 1 rfl ⟨⟨qk, ⟨qp, ql, qn⟩, qd, qf, qe, qb⟩, 0⟩ _ (by rw [eRf_zero]; rfl) rfl rfl HJ.out.2.1 ?_)))
        intro T1 A1 c1 w7 h7
        have hT1 := h7.out.1
        have H7 := Lib.hid h7.out.2
        have HT1 := Lib.hid hT1
        have HCP1 := Lib.hid (show (T1.length + 1) * 128 ≤ 140737488355328 by rw [hT1]; exact HJ.out.2.2.1)
        clear h7 hT1 H6 q0 q1 q2 q3 q4 q5 q6 q7
        go_upto_region 20 with (first | (refine wpList_load_at rfl 87 _ rfl b2x o2 _ Lx rfl (HLD.out _ H7.out.base) Try.underlying87 rfl HLS.out.2 ?_) | (refine wpList_build1 flRf rfl 54 87 _ rfl Try.underlying54 _ 128 infoRf zcRf (by decide) (by decide) Lx.toArray HLS.out.1 rfl ?_) | (at_builtin; go_loud (refine St.wp1 flRf rfl _ _ 54 87 _ 128 rfl Try.underlying54 infoRf zcRf (by decide) (by decide) H7.out 1 rfl ⟨⟨xk, ⟨xp, xl, xn⟩, xd, xf, xe, xb⟩, xa⟩ Lx.toArray HLT.out rfl rfl HCP1.out ?_)))
        intro T2 A2 c2 w8 h8
        have hT2 := h8.out.1
        rw [HT1.out, ← HJ.out.1] at hT2
        have H8 := Lib.hid h8.out.2
        have HT2 := Lib.hid hT2
        clear h8 hT2
        go_wp2_with fail
        go_roundg (N - j)
        case measure => have := HJ.out; omega
        case rel =>
          have := HJ.out
          exact ⟨j + 1, congrArg (Value.int .i64) (wrap64_succ (i := j) (m := 100000000) (by have := HC.out.2.2; have := HN.out; omega) (by decide)), by omega, by omega, by rw [HNX.out.2], by rw [HNX.out.1, ← HT2.out]; exact H8.out⟩
      · have hd : decide (P < j) = true := decide_eq_true hjp
        have hd2 : decide (P < j + 1) = true := decide_eq_true (by omega)
        have HNX := Lib.hid (And.intro (insJ_high ⟨⟨qk, ⟨qp, ql, qn⟩, qd, qf, qe, qb⟩, 0⟩ HXX.out hjp) hd2)
        rw [hd]
        clear hlow hhigh hd hd2
        go_upto_region 16 with fail
        go_quiet (fail)
        have H6 := Lib.hid (H5.out.drewN nq)
        clear H5 u0 q0 q1 q2 q3 q4 q5 q6 q7
        generalize World.drewN wr nq = w6 at *
        go_upto_region 20 with (first | (refine wpList_load_at rfl 87 _ rfl b2x o2 _ Lx rfl (HLD.out _ H6.out.base) Try.underlying87 rfl HLS.out.2 ?_) | (refine wpList_build1 flRf rfl 54 87 _ rfl Try.underlying54 _ 128 infoRf zcRf (by decide) (by decide) Lx.toArray HLS.out.1 rfl ?_) | (at_builtin; go_loud (refine St.wp1 flRf rfl _ _ 54 87 _ 128 rfl Try.underlying54 infoRf zcRf (by decide) (by decide) H6.out 1 rfl ⟨⟨xk, ⟨xp, xl, xn⟩, xd, xf, xe, xb⟩, xa⟩ Lx.toArray HLT.out rfl rfl HJ.out.2.1 ?_)))
        intro T2 A2 c2 w8 h8
        have hT2 := h8.out.1
        rw [← HJ.out.1] at hT2
        have H8 := Lib.hid h8.out.2
        have HT2 := Lib.hid hT2
        clear h8 hT2
        go_wp2_with fail
        go_roundg (N - j)
        case measure => have := HJ.out; omega
        case rel =>
          have := HJ.out
          exact ⟨j + 1, congrArg (Value.int .i64) (wrap64_succ (i := j) (m := 100000000) (by have := HC.out.2.2; have := HN.out; omega) (by decide)), by omega, by omega, by rw [HNX.out.2], by rw [HNX.out.1, ← HT2.out]; exact H8.out⟩
    · have hjl' : ¬ (j : Int) < (N : Int) := by omega
      have e : j = N := by omega
      subst e
      have HJE := HJ.out.1
      clear hB S5 hj
      by_cases hpn : P < l.length
      · have hd : decide (P < j) = true := decide_eq_true (by rw [← HN.out]; exact hpn)
        rw [hd]
        have hO2 : O = l2 := by rw [← HJE, ← HL2.out, ← insJ_end ⟨⟨qk, ⟨qp, ql, qn⟩, qd, qf, qe, qb⟩, 0⟩ hpn, HN.out]
        subst hO2
        clear hd q0 q1 q2 q3 q4 q5 q6 q7
        go_wp2_with fail
        go_ret2
        exact ⟨_, rfl, .inr (H5.out.drop 0)⟩
      · have hd : decide (P < j) = false := decide_eq_false (by rw [← HN.out]; exact hpn)
        rw [hd]
        have hPl : P = l.length := by have := HP.out.2.2; omega
        have hO2 : O ++ [⟨⟨qk, ⟨qp, ql, qn⟩, qd, qf, qe, qb⟩, 0⟩] = l2 := by rw [← HJE, ← HL2.out, hPl, ← HN.out]; exact insJ_last ⟨⟨qk, ⟨qp, ql, qn⟩, qd, qf, qe, qb⟩, 0⟩
        have HO2 := Lib.hid hO2
        clear hd hO2 hPl hpn HJE
        go_wp2_with (first | (refine wpList_build1 flRf rfl 54 87 _ rfl Try.underlying54 _ 128 infoRf zcRf (by decide) (by decide) _ (by rfl) rfl ?_) | (at_builtin; go_loud (refine St.wp1 flRf rfl _ _ 54 87 _ 128 rfl Try.underlying54 infoRf zcRf (by decide) (by decide) H5.out 1 rfl ⟨⟨qk, ⟨qp, ql, qn⟩, qd, qf, qe, qb⟩, 0⟩ _ (by rw [eRf_zero]; rfl) rfl rfl HJ.out.2.1 ?_)))
        intro T1 A1 c1 w7 h7
        have hT1 := h7.out.1
        rw [HO2.out] at hT1
        subst hT1
        have H7 := Lib.hid h7.out.2
        clear h7 q0 q1 q2 q3 q4 q5 q6 q7
        go_wp2_with fail
        go_ret2
        exact ⟨_, rfl, .inr (H7.out.drop 0)⟩
end Go.Proofs.Ytmpodcefngpnkaa
/- The document's Missing and Settle. -/
set_option linter.unusedVariables false
set_option linter.unusedSimpArgs false
namespace Go.Proofs.Ytmpodcefngpnkaa
open Go.RowKit Go.Tat Go.Proofs.YtmpodcefngpnkaaW.PrintWords PHintPlays
theorem own_nat {key : ByteArray} {up : List Int} (h0 : ∀ x ∈ up, 0 ≤ x ∧ x < 256) {q : Nat} {n : Int} (h : (own key up)[q]? = some n) : ∃ m : Nat, n = (m : Int) ∧ m < 64 := by
  have hm := own_mem (List.mem_of_getElem? h)
  have := (h0 n hm.1).1
  exact ⟨n.toNat, by omega, by omega⟩
def rsetPost (w : World) (r : List Hn) (e : Ending) (w' : World) : Prop := ∃ v, e = .returned v ∧ St (fun _ => False) w w' [slc kRf 87 v r]
theorem setL_take (up : List Int) (l : List Hn) (j : Nat) (x : Hn) (h : l[j]? = some x) : setL up (l.take (j + 1)) = setL up (l.take j) ++ (if setP up x then [] else [x]) := by
  unfold setL
  rw [List.take_add_one, h, List.filter_append]
  cases hb : setP up x <;> simp [hb]
theorem setP_all (up : List Int) (x : Hn) : setP up x = (decide (0 < (own x.f0.f0 up).length) && (own x.f0.f0 up).all fun n => bitM x.f1 n) := by
  unfold setP
  congr 1
  rw [← List.all_eq_not_any_not]
set_option maxRecDepth 100000 in
set_option maxHeartbeats 8000000 in
theorem rmis_c (l : List Hn) (hg : ∀ x ∈ l, GoodM x) (A : Option Addr) (c : Nat) (w : World) (hC : kRf.C w A l.length l) (hl : l.length ≤ 100000) {Au : Option Addr} {cu : Nat} {up : List Int} (hCu : (Kd.int .u8).C w Au up.length up) (hcu : up.length ≤ cu) (h0 : ∀ x ∈ up, 0 ≤ x ∧ x < 256) (hu : up.length ≤ 1000000) :
    Calls Try.prog 22 #[.slice A l.length c, .slice Au up.length cu] w (misPost w [] (misL up l)) := by
  have HC := Lib.hid (And.intro hC (And.intro hl hg))
  have HU := Lib.hid (And.intro hCu (And.intro hcu (And.intro h0 hu)))
  obtain ⟨N, hN⟩ : ∃ N, l.length = N := ⟨_, rfl⟩
  have HN := Lib.hid hN
  obtain ⟨nup, hnup⟩ : ∃ nup, up.length = nup := ⟨_, rfl⟩
  have HNU := Lib.hid hnup
  rw [hN, hnup]
  rw [hN] at hl
  have HLN := Lib.hid hl
  clear hC hg hCu hcu h0 hu hN hnup
  go_enter Try.func22, Try.ntmps22
  go_upto_region 2 with fail
  obtain ⟨b, hb⟩ : ∃ b, w.heap.size = b := ⟨_, rfl⟩
  have S4 := (St.nil (fun _ => False) w).empty flSd 43 b hb
  rw [hb]
  clear hb
  generalize World.alloc w _ = w4 at *
  have H4 := Lib.hid S4
  clear S4
  go_wp2_with fail
  go_loopg [5, 12] (N + 1) (fun m v5 v12 wx => ∃ j : Nat, v12 = .int .i64 j ∧ j ≤ N ∧ N - j < m ∧ St (fun _ => False) w wx [slc k43 43 v5 (misL up (l.take j))])
  case atStart => exact ⟨0, rfl, by omega, by omega, H4.out⟩
  case round =>
    clear H4
    obtain ⟨j, rfl, hj, hjm, S5⟩ := hrel
    by_cases hjl : j < N
    · have hjl' : (j : Int) < (N : Int) := by omega
      have hj0 : (0 : Int) ≤ (j : Int) := by omega
      have hjb : (j : Int) < 1000000 := by omega
      obtain ⟨x, hx⟩ : ∃ x, l[j]? = some x := ⟨_, List.getElem?_eq_getElem (by rw [HN.out]; exact hjl)⟩
      have HGX := Lib.hid (HC.out.2.2 x (List.mem_of_getElem? hx))
      obtain ⟨ad, b2x, o2, cs, rfl, had, hbx, hK, hcs⟩ := C_at HC.out.1 hx (by decide)
      have hK' : cs = eRf x := hK
      subst hK'
      have had' : ad.add (j * 72) = ⟨b2x, o2, none⟩ := had
      have HREC : Hid (∀ W : World, Below w.heap.size w W → ∀ (i : Nat) v, i < 8 → (eRc x.f0)[i]? = some v → W.cell? ⟨b2x, o2 + i, none⟩ = some v) := Lib.hid fun W B i v hi h => (B.cell (p := ⟨b2x, o2 + i, none⟩) hbx).trans (hcs i v (by rw [eRf_rec x i hi]; exact h))
      have HBIT : Hid (∀ W : World, Below w.heap.size w W → ∀ m : Nat, m < 64 → W.cell? ⟨b2x, o2 + 8 + m, none⟩ = some (.bool (bitM x.f1 (m : Int)))) := Lib.hid fun W B m hm => by rw [Nat.add_assoc]; exact (B.cell (p := ⟨b2x, o2 + (8 + m), none⟩) hbx).trans (hcs (8 + m) _ (eRf_bit x m hm))
      have HALL : Hid (∀ W : World, Below w.heap.size w W → ∀ (i : Nat) v, (eRf x)[i]? = some v → W.cell? ⟨b2x, o2 + i, none⟩ = some v) := Lib.hid fun W B i v h => (B.cell (p := ⟨b2x, o2 + i, none⟩) hbx).trans (hcs i v h)
      have hB := S5.base
      obtain ⟨os, hos⟩ : ∃ os, own x.f0.f0 up = os := ⟨_, rfl⟩
      have HOS : Hid (∀ (q : Nat) n, os[q]? = some n → ∃ m : Nat, n = (m : Int) ∧ m < 64) := Lib.hid fun q n h => own_nat (key := x.f0.f0) HU.out.2.2.1 (by rw [hos]; exact h)
      have hol : os.length ≤ 2 := by rw [← hos]; exact own_len _ _
      have HO := Lib.hid (rown_c x.f0.f0 (by have := mayB_key HGX.out.may; omega) up HU.out.2.2.2 HU.out.2.2.1 Au cu _ (Kd.C_below HU.out.1 hB) HU.out.2.1)
      rw [hos, HNU.out] at HO
      have HXX := Lib.hid (And.intro hx hos)
      obtain ⟨⟨xk, ⟨xp, xl, xn⟩, xd, xf, xe, xb⟩, xa⟩ := x
      dsimp only at HGX HREC HBIT HO HXX
      have u0 : wr.cell? ⟨b2x, o2, none⟩ = some (.string xk) := HREC.out _ hB 0 _ (by decide) rfl
      obtain ⟨O, hO⟩ : ∃ O, misL up (l.take j) = O := ⟨_, rfl⟩
      rw [hO] at S5
      have HOO := Lib.hid hO
      obtain ⟨vA, vc, rfl⟩ := Kd.R_slice (S5.get 0 rfl).1
      have hcap : O.length ≤ 200000 := by rw [← hO]; have h8 := misL_len up (l.take j); have h9 := HLN.out; rw [List.length_take] at h8; omega
      have HJ := Lib.hid (And.intro hcap (And.intro hj hjm))
      have H5 := Lib.hid S5
      clear hx had hbx hK hcs hos S5 hB hO hcap hj hjm
      go_wp2_with fail
      refine HO.out.mono ?_
      rintro e w6 ⟨vo, rfl, S6⟩
      obtain ⟨Ao, co, rfl⟩ := Kd.R_slice (S6.get 0 rfl).1
      obtain ⟨M, hM⟩ : ∃ M, os.length = M := ⟨_, rfl⟩
      have HM := Lib.hid (And.intro hM hol)
      rw [hM] at S6 ⊢
      rw [hM] at hol
      have H6 := Lib.hid (H5.out.adds S6)
      clear S6 hM HO H5 u0
      go_wp2_with fail
      go_loopg [5, 25] (M + 1) (fun m v5 v25 wx => ∃ q : Nat, v25 = .int .i64 q ∧ q ≤ M ∧ M - q < m ∧ St (fun _ => False) w wx [slc k43 43 v5 (O ++ tell ⟨⟨xk, ⟨xp, xl, xn⟩, xd, xf, xe, xb⟩, xa⟩ (os.take q)), slc (Kd.int .u8) 5 (.slice Ao M co) os])
      case atStart => exact ⟨0, rfl, by omega, by omega, by rw [List.take_zero]; unfold tell; simpa using H6.out⟩
      case round =>
        clear H6
        obtain ⟨q, rfl, hq, hqm, S7⟩ := hrel
        by_cases hql : q < M
        · have hql' : (q : Int) < (M : Int) := by omega
          have hq0 : (0 : Int) ≤ (q : Int) := by omega
          have hqb : (q : Int) < 1000000 := by omega
          obtain ⟨n, hn⟩ : ∃ n, os[q]? = some n := ⟨_, List.getElem?_eq_getElem (by rw [HM.out.1]; exact hql)⟩
          obtain ⟨m, rfl, hm⟩ := HOS.out q n hn
          obtain ⟨gB, cB, hv, _, _⟩ := slc_form (S7.get 1 rfl) (by rw [HM.out.1]; omega)
          injection hv with hv1 hv3 hv2
          subst hv1; subst hv2
          clear hv3
          have hB := S7.base
          have c0 : wr.cell? ⟨gB, q, none⟩ = some (.int .u8 (m : Int)) := slc_int (S7.get 1 rfl) hn
          obtain ⟨bb, hbb⟩ : ∃ bb, bitM xa (m : Int) = bb := ⟨_, rfl⟩
          have ub := HBIT.out _ hB m hm
          rw [hbb] at ub
          have hm0 : (0 : Int) ≤ (m : Int) := by omega
          have hm6 : (m : Int) < 64 := by omega
          have HT := Lib.hid (tell_take ⟨⟨xk, ⟨xp, xl, xn⟩, xd, xf, xe, xb⟩, xa⟩ os q (m : Int) hn)
          dsimp only at HT
          rw [hbb] at HT
          obtain ⟨O2, hO2⟩ : ∃ O2, O ++ tell ⟨⟨xk, ⟨xp, xl, xn⟩, xd, xf, xe, xb⟩, xa⟩ (os.take q) = O2 := ⟨_, rfl⟩
          have hcap : (O2.length + 1) * 72 ≤ 140737488355328 := by
            have h1 := tell_len ⟨⟨xk, ⟨xp, xl, xn⟩, xd, xf, xe, xb⟩, xa⟩ (os.take q)
            rw [List.length_take] at h1
            rw [← hO2, List.length_append]
            have := HJ.out.1
            have := HM.out.2
            omega
          rw [hO2] at S7
          obtain ⟨vB, vd, rfl⟩ := Kd.R_slice (S7.get 0 rfl).1
          have HQ := Lib.hid (And.intro hq (And.intro hqm (And.intro hO2 hcap)))
          have u0 : wr.cell? ⟨b2x, o2, none⟩ = some (.string xk) := HREC.out _ hB 0 _ (by decide) rfl
          have u1 : wr.cell? ⟨b2x, o2 + 1, none⟩ = some (.int .u64 xp) := HREC.out _ hB 1 _ (by decide) rfl
          have u2 : wr.cell? ⟨b2x, o2 + 2, none⟩ = some (.int .u32 xl) := HREC.out _ hB 2 _ (by decide) rfl
          have u3 : wr.cell? ⟨b2x, o2 + 3, none⟩ = some (.int .u8 xn) := HREC.out _ hB 3 _ (by decide) rfl
          have u4 : wr.cell? ⟨b2x, o2 + 4, none⟩ = some (.int .u8 xd) := HREC.out _ hB 4 _ (by decide) rfl
          have u5 : wr.cell? ⟨b2x, o2 + 5, none⟩ = some (.int .u32 xf) := HREC.out _ hB 5 _ (by decide) rfl
          have u6 : wr.cell? ⟨b2x, o2 + 6, none⟩ = some (.int .u64 xe) := HREC.out _ hB 6 _ (by decide) rfl
          have u7 : wr.cell? ⟨b2x, o2 + 7, none⟩ = some (.string xb) := HREC.out _ hB 7 _ (by decide) rfl
          have HNN := Lib.hid hn
          have H7 := Lib.hid S7
          clear S7 hn hm hbb hO2 hcap hq hqm hB
          cases bb with
          | true =>
            have HT1 := Lib.hid (show O ++ tell ⟨⟨xk, ⟨xp, xl, xn⟩, xd, xf, xe, xb⟩, xa⟩ (os.take (q + 1)) = O2 by rw [HT.out, ← HQ.out.2.2.1]; simp)
            clear u0 u1 u2 u3 u4 u5 u6 u7
            go_upto_region 9 with fail
            go_quiet (fail)
            have H8 := Lib.hid (H7.out.drewN nq)
            clear H7 ub c0
            generalize World.drewN wr nq = w8 at *
            go_wp2_with fail
            go_roundg (M - q)
            case measure => have := HQ.out; omega
            case rel => have := HQ.out; exact ⟨q + 1, by go_num, by omega, by omega, by rw [HT1.out]; exact H8.out⟩
          | false =>
            have HT1 := Lib.hid (show O ++ tell ⟨⟨xk, ⟨xp, xl, xn⟩, xd, xf, xe, xb⟩, xa⟩ (os.take (q + 1)) = O2 ++ [⟨(m : Int), ⟨xk, ⟨xp, xl, xn⟩, xd, xf, xe, xb⟩⟩] by rw [HT.out, ← HQ.out.2.2.1]; simp)
            go_upto_region 9 with fail
            go_quiet (fail)
            have H8 := Lib.hid (H7.out.drewN nq)
            clear H7 ub u0 u1 u2 u3 u4 u5 u6 u7
            have c1 : (World.drewN wr nq).cell? ⟨gB, q, none⟩ = some (.int .u8 (m : Int)) := by
              exact c0
            clear c0
            generalize World.drewN wr nq = w8 at *
            have hB8 := H8.out.base
            have u0 : w8.cell? ⟨b2x, o2, none⟩ = some (.string xk) := HREC.out _ hB8 0 _ (by decide) rfl
            have u1 : w8.cell? ⟨b2x, o2 + 1, none⟩ = some (.int .u64 xp) := HREC.out _ hB8 1 _ (by decide) rfl
            have u2 : w8.cell? ⟨b2x, o2 + 2, none⟩ = some (.int .u32 xl) := HREC.out _ hB8 2 _ (by decide) rfl
            have u3 : w8.cell? ⟨b2x, o2 + 3, none⟩ = some (.int .u8 xn) := HREC.out _ hB8 3 _ (by decide) rfl
            have u4 : w8.cell? ⟨b2x, o2 + 4, none⟩ = some (.int .u8 xd) := HREC.out _ hB8 4 _ (by decide) rfl
            have u5 : w8.cell? ⟨b2x, o2 + 5, none⟩ = some (.int .u32 xf) := HREC.out _ hB8 5 _ (by decide) rfl
            have u6 : w8.cell? ⟨b2x, o2 + 6, none⟩ = some (.int .u64 xe) := HREC.out _ hB8 6 _ (by decide) rfl
            have u7 : w8.cell? ⟨b2x, o2 + 7, none⟩ = some (.string xb) := HREC.out _ hB8 7 _ (by decide) rfl
            clear hB8
            go_upto_region 10 with fail
            refine wp_region_held_drew (S := (fun w' => w'.cell? ⟨gB, q, none⟩ = some (.int .u8 (m : Int)) ∧ w'.cell? ⟨b2x, o2, none⟩ = some (.string xk) ∧ w'.cell? ⟨b2x, o2 + 1, none⟩ = some (.int .u64 xp) ∧ w'.cell? ⟨b2x, o2 + 2, none⟩ = some (.int .u32 xl) ∧ w'.cell? ⟨b2x, o2 + 3, none⟩ = some (.int .u8 xn) ∧ w'.cell? ⟨b2x, o2 + 4, none⟩ = some (.int .u8 xd) ∧ w'.cell? ⟨b2x, o2 + 5, none⟩ = some (.int .u32 xf) ∧ w'.cell? ⟨b2x, o2 + 6, none⟩ = some (.int .u64 xe) ∧ w'.cell? ⟨b2x, o2 + 7, none⟩ = some (.string xb))) (by kernel_rfl) ?_ (fun hHeld => ?_)
            · (try dsimp only); exact ⟨slc_int (H8.out.drew.get 1 rfl) HNN.out, HREC.out _ (H8.out.drew.base) 0 _ (by decide) rfl, HREC.out _ (H8.out.drew.base) 1 _ (by decide) rfl, HREC.out _ (H8.out.drew.base) 2 _ (by decide) rfl, HREC.out _ (H8.out.drew.base) 3 _ (by decide) rfl, HREC.out _ (H8.out.drew.base) 4 _ (by decide) rfl, HREC.out _ (H8.out.drew.base) 5 _ (by decide) rfl, HREC.out _ (H8.out.drew.base) 6 _ (by decide) rfl, HREC.out _ (H8.out.drew.base) 7 _ (by decide) rfl⟩
            refine wpAnyH_take (i := 0) (oi := ({ dst := some 39, op := Go.Op.move (Go.Operand.tmp 5), type := 40, pos := "ref.go:82", after := #[], guard := none } : Oper)) (v := ?_) rfl (by kernel_rfl) (by kernel_rfl) (by kernel_rfl) (fun _ _ _ h => h) (Or.inl ⟨by rfl, ?_⟩) (by assumption) ?_
            rotate_left
            · (intro w hSw; (try dsimp only at hSw); go_simp; first | done | with_reducible rfl)
            try simp only [Act.put, List.setIfInBounds_toArray, List.set_cons_zero, List.set_cons_succ]
            refine wpAnyH_take (i := 1) (oi := ({ dst := some 40, op := Go.Op.move (Go.Operand.tmp 7), type := 23, pos := "ref.go:82", after := #[], guard := none } : Oper)) (v := ?_) rfl (by kernel_rfl) (by kernel_rfl) (by kernel_rfl) (fun _ _ _ h => h) (Or.inl ⟨by rfl, ?_⟩) (by assumption) ?_
            rotate_left
            · (intro w hSw; (try dsimp only at hSw); go_simp; first | done | with_reducible rfl)
            try simp only [Act.put, List.setIfInBounds_toArray, List.set_cons_zero, List.set_cons_succ]
            refine wpAnyH_take (i := 2) (oi := ({ dst := some 41, op := Go.Op.move (Go.Operand.tmp 8), type := 3, pos := "ref.go:82", after := #[], guard := none } : Oper)) (v := ?_) rfl (by kernel_rfl) (by kernel_rfl) (by kernel_rfl) (fun _ _ _ h => h) (Or.inl ⟨by rfl, ?_⟩) (by assumption) ?_
            rotate_left
            · (intro w hSw; (try dsimp only at hSw); go_simp; first | done | with_reducible rfl)
            try simp only [Act.put, List.setIfInBounds_toArray, List.set_cons_zero, List.set_cons_succ]
            refine wpAnyH_take (i := 3) (oi := ({ dst := some 42, op := Go.Op.indexAddr 23 (Go.Operand.tmp 40) (Go.Operand.tmp 41), type := 0, pos := "ref.go:82", after := #[{ on := 1, ground := Go.Ground.data }, { on := 2, ground := Go.Ground.data }], guard := none } : Oper)) (v := ?_) rfl (by kernel_rfl) (by kernel_rfl) (by kernel_rfl) (fun _ _ _ h => h) (Or.inl ⟨by rfl, ?_⟩) (by assumption) ?_
            rotate_left
            · (intro w hSw; (try dsimp only at hSw); go_simp; first | done | with_reducible rfl)
            try simp only [Act.put, List.setIfInBounds_toArray, List.set_cons_zero, List.set_cons_succ]
            refine wpAnyH_take (i := 4) (oi := ({ dst := some 43, op := Go.Op.load 5 (Go.Operand.tmp 42), type := 5, pos := "ref.go:82", after := #[{ on := 3, ground := Go.Ground.data }], guard := none } : Oper)) (v := ?_) rfl (by kernel_rfl) (by kernel_rfl) (by kernel_rfl) (fun _ _ _ h => h) (Or.inl ⟨by rfl, ?_⟩) (by assumption) ?_
            rotate_left
            · (intro w hSw; (try dsimp only at hSw); go_simp; first | done | with_reducible rfl)
            try simp only [Act.put, List.setIfInBounds_toArray, List.set_cons_zero, List.set_cons_succ]
            refine wpAnyH_take (i := 5) (oi := ({ dst := some 44, op := Go.Op.move (Go.Operand.tmp 0), type := 54, pos := "ref.go:82", after := #[], guard := none } : Oper)) (v := ?_) rfl (by kernel_rfl) (by kernel_rfl) (by kernel_rfl) (fun _ _ _ h => h) (Or.inl ⟨by rfl, ?_⟩) (by assumption) ?_
            rotate_left
            · (intro w hSw; (try dsimp only at hSw); go_simp; first | done | with_reducible rfl)
            try simp only [Act.put, List.setIfInBounds_toArray, List.set_cons_zero, List.set_cons_succ]
            refine wpAnyH_take (i := 6) (oi := ({ dst := some 45, op := Go.Op.move (Go.Operand.tmp 6), type := 3, pos := "ref.go:82", after := #[], guard := none } : Oper)) (v := ?_) rfl (by kernel_rfl) (by kernel_rfl) (by kernel_rfl) (fun _ _ _ h => h) (Or.inl ⟨by rfl, ?_⟩) (by assumption) ?_
            rotate_left
            · (intro w hSw; (try dsimp only at hSw); go_simp; first | done | with_reducible rfl)
            try simp only [Act.put, List.setIfInBounds_toArray, List.set_cons_zero, List.set_cons_succ]
            refine wpAnyH_take (i := 7) (oi := ({ dst := some 46, op := Go.Op.indexAddr 54 (Go.Operand.tmp 44) (Go.Operand.tmp 45), type := 0, pos := "ref.go:82", after := #[{ on := 5, ground := Go.Ground.data }, { on := 6, ground := Go.Ground.data }], guard := none } : Oper)) (v := ?_) rfl (by kernel_rfl) (by kernel_rfl) (by kernel_rfl) (fun _ _ _ h => h) (Or.inl ⟨by rfl, ?_⟩) (by assumption) ?_
            rotate_left
            · (intro w hSw; (try dsimp only at hSw); go_simp; first | done | with_reducible rfl)
            try simp only [Act.put, List.setIfInBounds_toArray, List.set_cons_zero, List.set_cons_succ]
            refine wpAnyH_take (i := 8) (oi := ({ dst := some 47, op := Go.Op.fieldAddr 87 (Go.Operand.tmp 46) 0, type := 0, pos := "ref.go:82", after := #[{ on := 7, ground := Go.Ground.data }], guard := none } : Oper)) (v := ?_) rfl (by kernel_rfl) (by kernel_rfl) (by kernel_rfl) (fun _ _ _ h => h) (Or.inl ⟨by rfl, ?_⟩) (by assumption) ?_
            rotate_left
            · (intro w hSw; (try dsimp only at hSw); go_simp; first | done | with_reducible rfl)
            try simp only [Act.put, List.setIfInBounds_toArray, List.set_cons_zero, List.set_cons_succ]
            refine wpAnyH_take (i := 9) (oi := ({ dst := some 48, op := Go.Op.load 35 (Go.Operand.tmp 47), type := 35, pos := "ref.go:82", after := #[{ on := 8, ground := Go.Ground.data }], guard := none } : Oper)) (v := ?_) rfl (by kernel_rfl) (by kernel_rfl) (by kernel_rfl) (fun _ _ _ h => h) (Or.inl ⟨by rfl, ?_⟩) (by assumption) ?_
            rotate_left
            · (intro w hSw; (try dsimp only at hSw); go_simp; first | done | with_reducible rfl)
            try simp only [Act.put, List.setIfInBounds_toArray, List.set_cons_zero, List.set_cons_succ]
            refine wpAnyH_take (i := 10) (oi := ({ dst := some 49, op := Go.Op.build 43 #[(0, Go.Operand.tmp 43), (1, Go.Operand.tmp 48)], type := 43, pos := "ref.go:82", after := #[{ on := 4, ground := Go.Ground.data }, { on := 9, ground := Go.Ground.data }], guard := none } : Oper)) (v := ?_) rfl (by kernel_rfl) (by kernel_rfl) (by kernel_rfl) (fun _ _ _ h => h) (Or.inl ⟨by rfl, ?_⟩) (by assumption) ?_
            rotate_left
            · (intro w hSw; (try dsimp only at hSw); go_simp; first | done | with_reducible rfl)
            try simp only [Act.put, List.setIfInBounds_toArray, List.set_cons_zero, List.set_cons_succ]
            have H9 := Lib.hid H8.out.drew
            obtain ⟨z, hz⟩ : ∃ z, (World.drew w8).heap.size = z := ⟨_, rfl⟩
            have H10 : Hid (St (fun _ => False) w (World.drew (World.alloc w8 (.cells #[.int .u8 (m : Int), .string xk, .int .u64 xp, .int .u32 xl, .int .u8 xn, .int .u8 xd, .int .u32 xf, .int .u64 xe, .string xb] 43))) ([slc k43 43 (.slice vB O2.length vd) O2, slc (Kd.int .u8) 5 (.slice (some ⟨gB, 0, none⟩) M co) os] ++ [blk z #[.int .u8 (m : Int), .string xk, .int .u64 xp, .int .u32 xl, .int .u8 xn, .int .u8 xd, .int .u32 xf, .int .u64 xe, .string xb] 43])) := Lib.hid (H9.out.new' #[.int .u8 (m : Int), .string xk, .int .u64 xp, .int .u32 xl, .int .u8 xn, .int .u8 xd, .int .u32 xf, .int .u64 xe, .string xb] 43 z hz)
            refine wpAnyH_ready (rs := [11]) (by kernel_rfl) (by simp) ?_
            refine AllReadyH.cons (o := ({ dst := some 50, op := Go.Op.buildSlice 40 1 #[(0, Go.Operand.tmp 49)], type := 40, pos := "ref.go:82", after := #[{ on := 10, ground := Go.Ground.data }], guard := none } : Oper)) rfl (fun K hK => ?_) AllReadyH.nil
            go_simp
            refine hK.out _ _ ?_ (fun hHeld2 => ?_)
            · (try dsimp only); exact ⟨slc_int (H10.out.get 1 rfl) HNN.out, HREC.out _ (H10.out.base) 0 _ (by decide) rfl, HREC.out _ (H10.out.base) 1 _ (by decide) rfl, HREC.out _ (H10.out.base) 2 _ (by decide) rfl, HREC.out _ (H10.out.base) 3 _ (by decide) rfl, HREC.out _ (H10.out.base) 4 _ (by decide) rfl, HREC.out _ (H10.out.base) 5 _ (by decide) rfl, HREC.out _ (H10.out.base) 6 _ (by decide) rfl, HREC.out _ (H10.out.base) 7 _ (by decide) rfl⟩
            clear hK K hHeld
            try simp only [Act.put, List.setIfInBounds_toArray, List.set_cons_zero, List.set_cons_succ]
            first | rw [show w8.heap.size = z from hz] | skip
            generalize World.drew (World.alloc w8 _) = w10 at *
            have HCC := Lib.hid (show k43.C w10 (some ⟨z, 0, none⟩) ([⟨(m : Int), ⟨xk, ⟨xp, xl, xn⟩, xd, xf, xe, xb⟩⟩] : List Sd).length [⟨(m : Int), ⟨xk, ⟨xp, xl, xn⟩, xd, xf, xe, xb⟩⟩] from (Kd.R_reads' (lit_slc flSd (xs := [⟨(m : Int), ⟨xk, ⟨xp, xl, xn⟩, xd, xf, xe, xb⟩⟩]) (H10.out.get 2 rfl) rfl (by show 1 ≤ maxLen; decide)).1).2.2)
            refine wpAnyH_ready (rs := [12]) (by kernel_rfl) (by simp) ?_
            refine AllReadyH.cons (o := ({ dst := some 51, op := Go.Op.call { callee := Go.Callee.builtin Go.Builtin.append, args := #[Go.Operand.tmp 39, Go.Operand.tmp 50], argTypes := #[40, 40] }, type := 40, pos := "ref.go:82", after := #[{ on := 0, ground := Go.Ground.data }, { on := 11, ground := Go.Ground.data }], guard := none } : Oper)) rfl (fun K hK => ?_) AllReadyH.nil
            refine St.stepN (v := .slice vB O2.length vd) (xs := O2) (W := w10) flSd (by rfl) _ _ 40 43 _ 72 rfl Try.underlying40 infoSd rfl (by decide) (by decide) H10.out 0 rfl [⟨(m : Int), ⟨xk, ⟨xp, xl, xn⟩, xd, xf, xe, xb⟩⟩] (some ⟨z, 0, none⟩) 1 rfl rfl HCC.out HQ.out.2.2.2 ?_
            intro T A12 c12 w12 H12
            refine hK.out _ _ ?_ (fun hHeld3 => ?_)
            · (try dsimp only); exact ⟨slc_int (H12.out.2.get 1 rfl) HNN.out, HREC.out _ (H12.out.2.base) 0 _ (by decide) rfl, HREC.out _ (H12.out.2.base) 1 _ (by decide) rfl, HREC.out _ (H12.out.2.base) 2 _ (by decide) rfl, HREC.out _ (H12.out.2.base) 3 _ (by decide) rfl, HREC.out _ (H12.out.2.base) 4 _ (by decide) rfl, HREC.out _ (H12.out.2.base) 5 _ (by decide) rfl, HREC.out _ (H12.out.2.base) 6 _ (by decide) rfl, HREC.out _ (H12.out.2.base) 7 _ (by decide) rfl⟩
            clear hK K hHeld2
            try simp only [Act.put, List.setIfInBounds_toArray, List.set_cons_zero, List.set_cons_succ]
            refine wpAnyH_take (i := 13) (oi := ({ dst := some 5, op := Go.Op.assign (Go.Operand.tmp 51), type := 40, pos := "ref.go:82", after := #[{ on := 12, ground := Go.Ground.data }, { on := 12, ground := Go.Ground.chain }, { on := 0, ground := Go.Ground.phase }, { on := 1, ground := Go.Ground.phase }, { on := 2, ground := Go.Ground.phase }, { on := 3, ground := Go.Ground.phase }, { on := 4, ground := Go.Ground.phase }, { on := 5, ground := Go.Ground.phase }, { on := 6, ground := Go.Ground.phase }, { on := 7, ground := Go.Ground.phase }, { on := 8, ground := Go.Ground.phase }, { on := 9, ground := Go.Ground.phase }, { on := 10, ground := Go.Ground.phase }, { on := 11, ground := Go.Ground.phase }, { on := 12, ground := Go.Ground.phase }], guard := none } : Oper)) (v := ?_) rfl (by kernel_rfl) (by kernel_rfl) (by kernel_rfl) (fun _ _ _ h => h) (Or.inl ⟨by rfl, ?_⟩) (by assumption) ?_
            rotate_left
            · (intro w hSw; (try dsimp only at hSw); go_simp; first | done | with_reducible rfl)
            try simp only [Act.put, List.setIfInBounds_toArray, List.set_cons_zero, List.set_cons_succ]
            refine wpAnyH_done (by kernel_rfl) ?_ _
            clear hHeld3 HCC H10 H9 H8
            go_wp2_with fail
            go_roundg (M - q)
            case measure => have := HQ.out; omega
            case rel =>
              have := HQ.out
              obtain ⟨hT, S8⟩ := H12.out
              exact ⟨q + 1, by go_num, by omega, by omega, by rw [HT1.out, ← hT]; exact S8.drop 2⟩
        · have hql' : ¬ (q : Int) < (M : Int) := by omega
          have e : q = M := by omega
          subst e
          have hf : O ++ tell ⟨⟨xk, ⟨xp, xl, xn⟩, xd, xf, xe, xb⟩, xa⟩ (os.take q) = misL up (l.take (j + 1)) := by rw [misL_take up l j _ HXX.out.1, HOO.out]; unfold misP; rw [HXX.out.2, ← HM.out.1, List.take_length]
          rw [hf] at S7
          have H7 := Lib.hid (S7.drop 1)
          clear S7 hf hq hqm
          go_wp2_with fail
          go_roundg (N - j)
          case measure => have := HJ.out; omega
          case rel => have := HJ.out; exact ⟨j + 1, by go_num, by omega, by omega, H7.out⟩
    · have e : j = N := by omega
      subst e
      have hjl' : ¬ (j : Int) < (j : Int) := by omega
      have hf : misL up (l.take j) = misL up l := by rw [← HN.out, List.take_length]
      rw [hf] at S5
      have H5 := Lib.hid S5
      clear S5 hf hj hjm
      go_wp2_with fail
      go_ret
      exact ⟨_, rfl, H5.out⟩
set_option maxRecDepth 100000 in
set_option maxHeartbeats 8000000 in
theorem rset_c (l : List Hn) (hg : ∀ x ∈ l, GoodM x) (A : Option Addr) (c : Nat) (w : World) (hC : kRf.C w A l.length l) (hl : l.length ≤ 100000) {Au : Option Addr} {cu : Nat} {up : List Int} (hCu : (Kd.int .u8).C w Au up.length up) (hcu : up.length ≤ cu) (h0 : ∀ x ∈ up, 0 ≤ x ∧ x < 256) (hu : up.length ≤ 1000000) :
    Calls Try.prog 23 #[.slice A l.length c, .slice Au up.length cu] w (rsetPost w (setL up l)) := by
  have HC := Lib.hid (And.intro hC (And.intro hl hg))
  have HU := Lib.hid (And.intro hCu (And.intro hcu (And.intro h0 hu)))
  obtain ⟨N, hN⟩ : ∃ N, l.length = N := ⟨_, rfl⟩
  have HN := Lib.hid hN
  obtain ⟨nup, hnup⟩ : ∃ nup, up.length = nup := ⟨_, rfl⟩
  have HNU := Lib.hid hnup
  rw [hN, hnup]
  rw [hN] at hl
  have HLN := Lib.hid hl
  clear hC hg hCu hcu h0 hu hN hnup
  go_enter Try.func23, Try.ntmps23
  go_upto_region 2 with fail
  obtain ⟨b, hb⟩ : ∃ b, w.heap.size = b := ⟨_, rfl⟩
  have S4 := (St.nil (fun _ => False) w).empty flRf 87 b hb
  rw [hb]
  clear hb
  generalize World.alloc w _ = w4 at *
  have H4 := Lib.hid S4
  clear S4
  go_wp2_with fail
  go_loopg [5, 13] (N + 1) (fun m v5 v13 wx => ∃ j : Nat, v13 = .int .i64 j ∧ j ≤ N ∧ N - j < m ∧ St (fun _ => False) w wx [slc kRf 87 v5 (setL up (l.take j))])
  case atStart => exact ⟨0, rfl, by omega, by omega, H4.out⟩
  case round =>
    clear H4
    obtain ⟨j, rfl, hj, hjm, S5⟩ := hrel
    by_cases hjl : j < N
    · have hjl' : (j : Int) < (N : Int) := by omega
      have hj0 : (0 : Int) ≤ (j : Int) := by omega
      have hjb : (j : Int) < 1000000 := by omega
      obtain ⟨x, hx⟩ : ∃ x, l[j]? = some x := ⟨_, List.getElem?_eq_getElem (by rw [HN.out]; exact hjl)⟩
      have HGX := Lib.hid (HC.out.2.2 x (List.mem_of_getElem? hx))
      obtain ⟨ad, b2x, o2, cs, rfl, had, hbx, hK, hcs⟩ := C_at HC.out.1 hx (by decide)
      have hK' : cs = eRf x := hK
      subst hK'
      have had' : ad.add (j * 72) = ⟨b2x, o2, none⟩ := had
      have HREC : Hid (∀ W : World, Below w.heap.size w W → ∀ (i : Nat) v, i < 8 → (eRc x.f0)[i]? = some v → W.cell? ⟨b2x, o2 + i, none⟩ = some v) := Lib.hid fun W B i v hi h => (B.cell (p := ⟨b2x, o2 + i, none⟩) hbx).trans (hcs i v (by rw [eRf_rec x i hi]; exact h))
      have HBIT : Hid (∀ W : World, Below w.heap.size w W → ∀ m : Nat, m < 64 → W.cell? ⟨b2x, o2 + 8 + m, none⟩ = some (.bool (bitM x.f1 (m : Int)))) := Lib.hid fun W B m hm => by rw [Nat.add_assoc]; exact (B.cell (p := ⟨b2x, o2 + (8 + m), none⟩) hbx).trans (hcs (8 + m) _ (eRf_bit x m hm))
      have HALL : Hid (∀ W : World, Below w.heap.size w W → ∀ (i : Nat) v, (eRf x)[i]? = some v → W.cell? ⟨b2x, o2 + i, none⟩ = some v) := Lib.hid fun W B i v h => (B.cell (p := ⟨b2x, o2 + i, none⟩) hbx).trans (hcs i v h)
      have hB := S5.base
      obtain ⟨os, hos⟩ : ∃ os, own x.f0.f0 up = os := ⟨_, rfl⟩
      have HOS : Hid (∀ (q : Nat) n, os[q]? = some n → ∃ m : Nat, n = (m : Int) ∧ m < 64) := Lib.hid fun q n h => own_nat (key := x.f0.f0) HU.out.2.2.1 (by rw [hos]; exact h)
      have hol : os.length ≤ 2 := by rw [← hos]; exact own_len _ _
      have HO := Lib.hid (rown_c x.f0.f0 (by have := mayB_key HGX.out.may; omega) up HU.out.2.2.2 HU.out.2.2.1 Au cu _ (Kd.C_below HU.out.1 hB) HU.out.2.1)
      rw [hos, HNU.out] at HO
      have HXX := Lib.hid (And.intro hx hos)
      obtain ⟨⟨xk, ⟨xp, xl, xn⟩, xd, xf, xe, xb⟩, xa⟩ := x
      dsimp only at HGX HREC HBIT HO HXX
      have u0 : wr.cell? ⟨b2x, o2, none⟩ = some (.string xk) := HREC.out _ hB 0 _ (by decide) rfl
      obtain ⟨O, hO⟩ : ∃ O, setL up (l.take j) = O := ⟨_, rfl⟩
      rw [hO] at S5
      have HOO := Lib.hid hO
      obtain ⟨vA, vc, rfl⟩ := Kd.R_slice (S5.get 0 rfl).1
      have hcap : O.length ≤ 100000 := by rw [← hO]; have := List.length_filter_le (fun x => !setP up x) (l.take j); have h9 := HLN.out; rw [List.length_take] at this; unfold setL; omega
      have HJ := Lib.hid (And.intro hcap (And.intro hj hjm))
      have H5 := Lib.hid S5
      clear hx had hbx hK hcs hos S5 hB hO hcap hj hjm
      go_wp2_with fail
      refine HO.out.mono ?_
      rintro e w6 ⟨vo, rfl, S6⟩
      obtain ⟨Ao, co, rfl⟩ := Kd.R_slice (S6.get 0 rfl).1
      obtain ⟨M, hM⟩ : ∃ M, os.length = M := ⟨_, rfl⟩
      have HM := Lib.hid (And.intro hM hol)
      rw [hM] at S6 ⊢
      rw [hM] at hol
      have H6 := Lib.hid (H5.out.adds S6)
      clear S6 hM HO H5 u0
      go_wp2_with fail
      go_loopg [8, 29] (M + 1) (fun m v8 v29 wx => ∃ q : Nat, v29 = .int .i64 q ∧ q ≤ M ∧ M - q < m ∧ v8 = .bool (decide ((0 : Int) < (M : Int)) && (os.take q).all fun n => bitM xa n) ∧ St (fun _ => False) w wx [slc kRf 87 (.slice vA O.length vc) O, slc (Kd.int .u8) 5 (.slice Ao M co) os])
      case atStart => exact ⟨0, rfl, by omega, by omega, by simp, H6.out⟩
      case round =>
        clear H6
        obtain ⟨q, rfl, hq, hqm, rfl, S7⟩ := hrel
        obtain ⟨B, hBv⟩ : ∃ B, (decide ((0 : Int) < (M : Int)) && (os.take q).all fun n => bitM xa n) = B := ⟨_, rfl⟩
        rw [hBv]
        have hB := S7.base
        by_cases hql : q < M
        · have hql' : (q : Int) < (M : Int) := by omega
          have hq0 : (0 : Int) ≤ (q : Int) := by omega
          have hqb : (q : Int) < 1000000 := by omega
          obtain ⟨n, hn⟩ : ∃ n, os[q]? = some n := ⟨_, List.getElem?_eq_getElem (by rw [HM.out.1]; exact hql)⟩
          obtain ⟨m, rfl, hm⟩ := HOS.out q n hn
          obtain ⟨gB, cB, hv, _, _⟩ := slc_form (S7.get 1 rfl) (by rw [HM.out.1]; omega)
          injection hv with hv1 hv3 hv2
          subst hv1; subst hv2
          clear hv3
          have c0 : wr.cell? ⟨gB, q, none⟩ = some (.int .u8 (m : Int)) := slc_int (S7.get 1 rfl) hn
          obtain ⟨bb, hbb⟩ : ∃ bb, bitM xa (m : Int) = bb := ⟨_, rfl⟩
          have ub := HBIT.out _ hB m hm
          rw [hbb] at ub
          have hm0 : (0 : Int) ≤ (m : Int) := by omega
          have hm6 : (m : Int) < 64 := by omega
          have HNX := Lib.hid (show (decide ((0 : Int) < (M : Int)) && (os.take (q + 1)).all fun n => bitM xa n) = (B && bb) by
            rw [List.take_add_one, hn, List.all_append, ← Bool.and_assoc, hBv, ← hbb]
            simp)
          have HQ := Lib.hid (And.intro hq hqm)
          have H7 := Lib.hid S7
          clear S7 hn hm hbb hq hqm hB hBv
          cases B with
          | true =>
            go_upto_region 10 with fail
            go_quiet (fail)
            have H8 := Lib.hid (H7.out.drewN nq)
            clear H7 ub c0
            generalize World.drewN wr nq = w8 at *
            go_wp2_with fail
            go_roundg (M - q)
            case measure => have := HQ.out; omega
            case rel => have := HQ.out; exact ⟨q + 1, by go_num, by omega, by omega, by rw [HNX.out]; simp, H8.out⟩
          | false =>
            go_upto_region 10 with fail
            go_quiet (fail)
            have H8 := Lib.hid (H7.out.drewN nq)
            clear H7 ub c0
            generalize World.drewN wr nq = w8 at *
            go_wp2_with fail
            go_roundg (M - q)
            case measure => have := HQ.out; omega
            case rel => have := HQ.out; exact ⟨q + 1, by go_num, by omega, by omega, by rw [HNX.out]; simp, H8.out⟩
        · have hql' : ¬ (q : Int) < (M : Int) := by omega
          have hs : setP up ⟨⟨xk, ⟨xp, xl, xn⟩, xd, xf, xe, xb⟩, xa⟩ = B := by
            have e2 : os.take q = os := by rw [show q = M by omega, ← HM.out.1, List.take_length]
            rw [setP_all, ← hBv, e2]
            show (decide (0 < (own xk up).length) && (own xk up).all fun n => bitM xa n) = _
            rw [HXX.out.2, HM.out.1]
            congr 1
            simp
          have hst := setL_take up l j _ HXX.out.1
          rw [hs, HOO.out] at hst
          have HST := Lib.hid hst
          have H7 := Lib.hid (S7.drop 1)
          clear S7 hB hBv hs hst hq hqm
          cases B with
          | true =>
            go_wp2_with fail
            go_roundg (N - j)
            case measure => have := HJ.out; omega
            case rel => have := HJ.out; exact ⟨j + 1, by go_num, by omega, by omega, by rw [HST.out]; simpa using H7.out⟩
          | false =>
            obtain ⟨Lx, hLx⟩ : ∃ Lx, eRf ⟨⟨xk, ⟨xp, xl, xn⟩, xd, xf, xe, xb⟩, xa⟩ = Lx := ⟨_, rfl⟩
            have hLl := eRf_len ⟨⟨xk, ⟨xp, xl, xn⟩, xd, xf, xe, xb⟩, xa⟩
            have HLD : Hid (∀ W : World, Below w.heap.size w W → ∀ (i : Nat) v, Lx[i]? = some v → W.cell? ⟨b2x, o2 + i, none⟩ = some v) := Lib.hid (hLx ▸ HALL.out)
            rw [hLx] at hLl
            have HLT := Lib.hid (show eRf ⟨⟨xk, ⟨xp, xl, xn⟩, xd, xf, xe, xb⟩, xa⟩ = Lx.toArray.toList by rw [hLx])
            have HLS := Lib.hid (And.intro (show Lx.toArray.size = kRf.sz by rw [List.size_toArray, hLl]; rfl) (show (Try.prog.info? 87).map (·.size) = some Lx.length by rw [hLl]; exact sizeRf))
            have HCAP := Lib.hid (show (O.length + 1) * 128 ≤ 140737488355328 by have := HJ.out.1; omega)
            clear hLx hLl HALL
            go_upto_region 14 with (first | (refine wpList_load_at rfl 87 _ rfl b2x o2 _ Lx rfl (HLD.out _ H7.out.base) Try.underlying87 rfl HLS.out.2 ?_) | (refine wpList_build1 flRf rfl 54 87 _ rfl Try.underlying54 _ 128 infoRf zcRf (by decide) (by decide) Lx.toArray HLS.out.1 rfl ?_) | (at_builtin; go_loud (refine St.wp1 flRf rfl _ _ 54 87 _ 128 rfl Try.underlying54 infoRf zcRf (by decide) (by decide) H7.out 0 rfl ⟨⟨xk, ⟨xp, xl, xn⟩, xd, xf, xe, xb⟩, xa⟩ Lx.toArray HLT.out rfl rfl HCAP.out ?_)))
            intro T2 A2 c2 w8 h8
            have hT2 := h8.out.1
            have H8 := Lib.hid h8.out.2
            have HT2 := Lib.hid hT2
            clear h8 hT2
            go_wp2_with fail
            go_roundg (N - j)
            case measure => have := HJ.out; omega
            case rel => have := HJ.out; exact ⟨j + 1, by go_num, by omega, by omega, by rw [HST.out, if_neg (by decide), ← HT2.out]; exact H8.out⟩
    · have e : j = N := by omega
      subst e
      have hjl' : ¬ (j : Int) < (j : Int) := by omega
      have hf : setL up (l.take j) = setL up l := by rw [← HN.out, List.take_length]
      rw [hf] at S5
      have H5 := Lib.hid S5
      clear S5 hf hj hjm
      go_wp2_with fail
      go_ret
      exact ⟨_, rfl, H5.out⟩
end Go.Proofs.Ytmpodcefngpnkaa
/- The document's calls, put together. -/
set_option linter.unusedVariables false
set_option linter.unusedSimpArgs false
namespace Go.Proofs.Ytmpodcefngpnkaa
open Go.RowKit Go.Tat Go.Proofs.YtmpodcefngpnkaaW.PrintWords PHintPlays
theorem sends_l (xs : List Sd) (hl : xs.length ≤ 1000000) : ∀ d i k, i + d = xs.length → d < k → tattlerref20_SameSends.l0 k xs xs (xs.length : Int) (i : Int) = some true := by
  intro d
  induction d with
  | zero =>
    intro i k hi hk
    obtain ⟨k, rfl⟩ : ∃ m, k = m + 1 := ⟨k - 1, by omega⟩
    simp only [tattlerref20_SameSends.l0]
    rw [if_neg (by omega)]
  | succ d ih =>
    intro i k hi hk
    obtain ⟨k, rfl⟩ : ∃ m, k = m + 1 := ⟨k - 1, by omega⟩
    have h := ih (i + 1) k (by omega) (by omega)
    simp only [tattlerref20_SameSends.l0]
    rw [if_pos (by omega), if_pos (by omega), if_pos (by omega), if_pos (by omega), if_neg (by simp), wrap64_succ (i := i) (m := 10000000) (by omega) (by decide)]
    exact h
theorem sends_is (xs : List Sd) (hl : xs.length ≤ 1000000) : tattlerref20_SameSends.f (xs.length + 1) xs xs = some true := by
  unfold tattlerref20_SameSends.f
  rw [if_pos rfl]
  exact sends_l xs hl xs.length 0 _ (by omega) (by omega)
theorem sends_c (xs : List Sd) (hl : xs.length ≤ 1000000) (A0 A1 : Option Addr) (c0 c1 : Nat) (w : World) (h0 : k43.C w A0 xs.length xs) (hc0 : xs.length ≤ c0) (h1 : k43.C w A1 xs.length xs) (hc1 : xs.length ≤ c1) :
    Calls Try.prog 21 #[.slice A0 xs.length c0, .slice A1 xs.length c1] w fun e w' => e = .returned (.bool true) ∧ Below w.heap.size w w' :=
  (tattlerref20_SameSends.calls (xs.length + 1) A0 c0 xs A1 c1 xs true w h0 hc0 h1 hc1 (sends_is xs hl)).mono fun e w' h => ⟨h.1, h.2.below⟩
theorem radd_c (l : List Hn) {most : Int} (hI : HInv most l) (r : Rc) (hk : r.f0.size ≤ 1000) (hb : r.f5.size ≤ 3000) (hm : most ≤ 1000) (A : Option Addr) (c : Nat) (w : World) (hC : kRf.C w A l.length l) :
    Calls Try.prog 19 #[.slice A l.length c, .int .i64 most, .agg (eRc r).toArray] w (raddPost w A c l (addP most l r).1 (addP most l r).2) := by
  have hl : l.length ≤ 1000000 := by have := hI.len; omega
  by_cases ha : mayB r = false ∨ r.f2 = 3
  · have e : addP most l r = (l, 1) := by unfold addP; rw [if_pos ha]
    rw [e]
    exact radd_arg l hI.srt r hk hb most ha A c w hC hl
  · have hmy : mayB r = true := by cases hb : mayB r with | true => rfl | false => exact absurd (.inl hb) ha
    have h3 : r.f2 ≠ 3 := fun e => ha (.inr e)
    cases ht : thereH l r.f0 with
    | true =>
      obtain ⟨x, hx, _⟩ := thereH_get ht
      have hn := recF_neg x.f0 r
      by_cases hc : recF r x.f0 ≤ 0
      · have e : addP most l r = (l, 0) := by unfold addP; rw [if_neg ha, if_pos ht, hx]; simp [hc]
        rw [e]
        exact radd_old l hI.srt r hk hb most hmy h3 ht (fun y hy => by rw [hx] at hy; cases hy; exact decide_eq_false (by omega)) hI.good A c w hC hl
      · have e : addP most l r = (l.set (posH l r.f0) ⟨r, 0⟩, 0) := by unfold addP; rw [if_neg ha, if_pos ht, hx]; simp [hc]
        rw [e]
        exact radd_new l hI.srt r hk hb most hmy h3 ht (fun y hy => by rw [hx] at hy; cases hy; exact decide_eq_true (by omega)) hI.good _ rfl A c w hC hl
    | false =>
      by_cases hf : (l.length : Int) = most
      · have e : addP most l r = (l, 6) := by unfold addP; rw [if_neg ha, ht, if_neg (by decide), if_pos hf]
        rw [e]
        exact radd_full l hI.srt r hk hb most hmy h3 ht hf A c w hC hl
      · have e : addP most l r = (l.take (posH l r.f0) ++ ⟨r, 0⟩ :: l.drop (posH l r.f0), 0) := by unfold addP; rw [if_neg ha, ht, if_neg (by decide), if_neg hf]
        rw [e]
        exact radd_ins l hI.srt r hk hb most hmy h3 ht (by have := hI.len; omega) _ rfl A c w hC hl
theorem rack_c (l : List Hn) {most : Int} (hI : HInv most l) (hm : most ≤ 1000) (key : ByteArray) (s : Stp) (n : Int) (hn : 0 ≤ n ∧ n < 64) (A : Option Addr) (c : Nat) (w : World) (hC : kRf.C w A l.length l) :
    Calls Try.prog 20 #[.slice A l.length c, .string key, .agg (eStp s).toArray, .int .u8 n] w (rackPost w A c l (ackL l key s n) (ackB l key s n)) := by
  have hl : l.length ≤ 1000000 := by have := hI.len; omega
  cases ht : thereH l key with
  | true =>
    obtain ⟨m, rfl⟩ := Int.eq_ofNat_of_zero_le hn.1
    exact rack_there l hI.srt hI.good key s m (by omega) ht A c w hC hl
  | false =>
    have hB : ackB l key s n = false := by
      unfold thereH at ht
      unfold ackB
      cases hx : l[posH l key]? with
      | none => rfl
      | some x => rw [hx] at ht; simp only [] at ht ⊢; rw [ht]; rfl
    have hL : ackL l key s n = l := by unfold ackL; rw [hB]; rfl
    rw [hB, hL]
    exact rack_none l hI.srt key s n hn.2 ht A c w hC hl
/-- The row that is answered takes the other one's place. -/
theorem rres_st {W w1 w2 : World} {a b : Asr} {A : Option Addr} {c : Nat} {l l' : List Hn} {v' : Value} (h : St (fun _ => False) W w1 [a, b, slc kRf 87 (.slice A l.length c) l]) (r : rres w1 A c l l' v' w2) : St (fun _ => False) W w2 [a, b, slc kRf 87 v' l'] := by
  rcases r with ⟨rfl, rfl, b⟩ | S2
  · exact h.below b
  · exact (h.adds S2).drop 2
end Go.Proofs.Ytmpodcefngpnkaa
