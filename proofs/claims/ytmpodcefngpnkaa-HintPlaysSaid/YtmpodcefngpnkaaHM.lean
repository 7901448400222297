/- Hints: who is to be told what. -/
import Derived.Test.YtmpodcefngpnkaaHK
import Derived.Test.YtmpodcefngpnkaaLib
namespace Go.Proofs.Ytmpodcefngpnkaa
open Go.RowKit Go.Tat Go.Proofs.YtmpodcefngpnkaaW.PrintWords PHintPlays
abbrev Sd := S43
def eSd (x : Sd) : List Value := [.int .u8 x.f0, .string x.f1.f0, .int .u64 x.f1.f1.f0, .int .u32 x.f1.f1.f1, .int .u8 x.f1.f1.f2, .int .u8 x.f1.f2, .int .u32 x.f1.f3, .int .u64 x.f1.f4, .string x.f1.f5]
theorem flSd : Flat k43 eSd := ⟨rfl, ⟨fun h => k43_openM h, fun h => h ▸ k43_mkM _ _ _ _⟩, ⟨fun h => k43_open h, fun h => h ▸ k43_mk _ _⟩⟩
theorem infoSd : (Try.prog.info? 43).map (fun i => (i.zero, i.size, i.bytes)) = some (some (.agg #[.int .u8 0, .string ⟨#[]⟩, .int .u64 0, .int .u32 0, .int .u8 0, .int .u8 0, .int .u32 0, .int .u64 0, .string ⟨#[]⟩]), 9, 72) := by kernel_rfl
def tell (x : Hn) (ns : List Int) : List Sd := (ns.filter fun n => !bitM x.f1 n).map fun n => ⟨n, x.f0⟩
def misP (up : List Int) (x : Hn) : List Sd := tell x (own x.f0.f0 up)
def misL (up : List Int) (l : List Hn) : List Sd := l.flatMap (misP up)
theorem tell_len (x : Hn) (ns : List Int) : (tell x ns).length ≤ ns.length := by unfold tell; rw [List.length_map]; exact List.length_filter_le _ _
theorem misL_len (up : List Int) (l : List Hn) : (misL up l).length ≤ 2 * l.length := by
  unfold misL
  induction l with
  | nil => simp
  | cons x l ih =>
    rw [List.flatMap_cons, List.length_append, List.length_cons]
    have := tell_len x (own x.f0.f0 up)
    have := own_len x.f0.f0 up
    unfold misP at *
    omega
theorem misL_take (up : List Int) (l : List Hn) (j : Nat) (x : Hn) (h : l[j]? = some x) : misL up (l.take (j + 1)) = misL up (l.take j) ++ misP up x := by
  unfold misL
  rw [List.take_add_one, h]
  simp
theorem tell_take (x : Hn) (ns : List Int) (j : Nat) (n : Int) (h : ns[j]? = some n) : tell x (ns.take (j + 1)) = tell x (ns.take j) ++ (if bitM x.f1 n then [] else [⟨n, x.f0⟩]) := by
  unfold tell
  rw [List.take_add_one, h, List.filter_append, List.map_append]
  cases hb : bitM x.f1 n <;> simp [hb]
def misPost (w0 : World) (A : List Asr) (r : List Sd) (e : Ending) (w' : World) : Prop := ∃ v, e = .returned v ∧ St (fun _ => False) w0 w' (A ++ [slc k43 43 v r])
set_option maxRecDepth 100000 in
theorem missing_nil (Au : Option Addr) (nu cu : Nat) (w : World) : Calls Try.prog 13 #[.pointer none, .slice Au nu cu] w fun e w' => e = .returned (.slice none 0 0) ∧ w' = w := by
  go_enter Try.func13, Try.ntmps13
  go_wp2
  go_ret
  exact ⟨rfl, rfl⟩
set_option maxRecDepth 100000 in
set_option maxHeartbeats 8000000 in
theorem missing_c (l : List Hn) (v : Value) (w : World) (g : Nat) (hg0 : w.cell? ⟨g, 0, none⟩ = some v) (hS : (slc k52 52 v l).holds w) (hg : ∀ x ∈ l, GoodH x) (hl : l.length ≤ 1000000) {Au : Option Addr} {cu : Nat} {up : List Int} (hC : (Kd.int .u8).C w Au up.length up) (h0 : ∀ x ∈ up, 0 ≤ x ∧ x < 256) (hu : up.length ≤ 1000000) :
    Calls Try.prog 13 #[.pointer (some ⟨g, 0, none⟩), .slice Au up.length cu] w (misPost w [] (misL up l)) := by
  obtain ⟨A, c, rfl⟩ := Kd.R_slice hS.1
  have H0 := Lib.hid (And.intro hS (And.intro hg (And.intro hC (And.intro h0 hu))))
  have S0 := (St.nil (fun _ => False) w).nils k43 43
  have H1 := Lib.hid S0
  obtain ⟨N, hN⟩ : ∃ N, l.length = N := ⟨_, rfl⟩
  have HN := Lib.hid hN
  rw [hN] at hg0 hl
  clear hS hg hC h0 hu S0 hN
  go_enter Try.func13, Try.ntmps13
  go_wp2_with fail
  go_loopg [5, 18] (N + 1) (fun m v5 v18 wx => ∃ j : Nat, v18 = .int .i64 j ∧ j ≤ N ∧ N - j < m ∧ St (fun _ => False) w wx [slc k43 43 v5 (misL up (l.take j))])
  case atStart => exact ⟨0, rfl, by omega, by omega, H1.out⟩
  case round =>
    clear H1
    obtain ⟨j, rfl, hj, hjm, S2⟩ := hrel
    by_cases hjl : j < N
    · have hjl' : (j : Int) < (N : Int) := by omega
      have hj0 : (0 : Int) ≤ (j : Int) := by omega
      have hjb : (j : Int) < 1000000 := by omega
      obtain ⟨x, hx⟩ : ∃ x, l[j]? = some x := ⟨_, List.getElem?_eq_getElem (by rw [HN.out]; exact hjl)⟩
      obtain ⟨b, ex, c', hA, hR⟩ : ∃ b ex c', A = some ⟨b, 0, none⟩ ∧ Row w b 52 eHn l ex ∧ c' = c := by
        rcases (slc_iff flHn).1 H0.out.1 with ⟨_, h⟩ | ⟨b, c', ex, h, hR, _⟩
        · subst h; simp at hx
        · cases h; exact ⟨b, ex, _, rfl, hR, rfl⟩
      subst hA
      have hRw : Row wr b 52 eHn l ex := hR.1.block (S2.base.block b hR.1.lt)
      have HX := Lib.hid (And.intro hx (And.intro hRw (And.intro hj hjm)))
      have H2 := Lib.hid S2
      clear hx hRw hR hj hjm S2
      have HG := Lib.hid (H0.out.2.1 x (List.mem_of_getElem? HX.out.1))
      go_upto_region 7 with (first
        | (refine wpList_load_row_at flHn rfl 52 _ rfl b 52 j l x ex _ rfl Try.underlying52 rfl sizeHn HX.out.2.1 HX.out.1 ?_)
        | (refine St.wpAlloc rfl 52 rfl _ _ zeroHn rfl H2.out ?_; intro z w3 H3)
        | (refine St.wpStoreV flHn rfl 52 _ _ rfl H3.out 1 rfl rfl x rfl rfl sizeHn ?_; intro w4 H4))
      have HO := Lib.hid (owners_st H4.out x.f0.f0 HG.out.key up Au cu (Kd.C_below H0.out.2.2.1 H4.out.base) H0.out.2.2.2.1 H0.out.2.2.2.2)
      have hm : ∀ n ∈ own x.f0.f0 up, 0 ≤ n ∧ n < 64 := fun n hn => ⟨(H0.out.2.2.2.1 n (own_mem hn).1).1, (own_mem hn).2⟩
      have HM := Lib.hid (And.intro hm (own_len x.f0.f0 up))
      have HML := Lib.hid (misL_take up l j x HX.out.1)
      unfold misP at HML
      obtain ⟨os, hos⟩ : ∃ os, own x.f0.f0 up = os := ⟨_, rfl⟩
      rw [hos] at HO HM HML
      have hll : (misL up (l.take j)).length ≤ 2000000 := by have := misL_len up (l.take j); rw [List.length_take] at this; omega
      obtain ⟨O, hO⟩ : ∃ O, misL up (l.take j) = O := ⟨_, rfl⟩
      rw [hO] at HML H2 H3 H4 HO hll
      have HOL := Lib.hid hll
      have HML2 := Lib.hid (show ∀ q, (O ++ tell x (os.take q)).length ≤ 2000002 from fun q => by
        have h1 := tell_len x (os.take q)
        have h2 := HM.out.2
        rw [List.length_take] at h1
        rw [List.length_append]
        have h3 := HOL.out
        omega)
      clear hm hos hO hll
      obtain ⟨⟨xk, ⟨xp, xl, xn⟩, xd, xf, xe, xb⟩, xa⟩ := x
      unfold eHn at H4 HO
      dsimp only at H4 HO
      have z0 : w4.cell? ⟨z, 0, none⟩ = some (.string xk) := H4.out.cell 1 rfl 0
      go_wp2_with fail
      refine HO.out.mono ?_
      rintro e w5 ⟨vo, rfl, S5⟩
      obtain ⟨Ao, co, rfl⟩ := Kd.R_slice (S5.get 2 rfl).1
      obtain ⟨M, hM⟩ : ∃ M, os.length = M := ⟨_, rfl⟩
      have HMM := Lib.hid hM
      rw [hM] at S5 ⊢
      have hM2 : M ≤ 2 := by rw [← hM]; exact HM.out.2
      have H5 := Lib.hid S5
      clear S5 hM z0 HO H4 H3 H2
      go_wp2_with fail
      go_loopg [5, 28] (M + 1) (fun m v5 v28 wx => ∃ q : Nat, v28 = .int .i64 q ∧ q ≤ M ∧ M - q < m ∧ St (fun _ => False) w wx [slc k43 43 v5 (O ++ tell ⟨⟨xk, ⟨xp, xl, xn⟩, xd, xf, xe, xb⟩, xa⟩ (os.take q)), blk z #[.string xk, .int .u64 xp, .int .u32 xl, .int .u8 xn, .int .u8 xd, .int .u32 xf, .int .u64 xe, .string xb, .int .u64 xa] 52, slc (Kd.int .u8) 5 (.slice Ao M co) os])
      case atStart => exact ⟨0, rfl, by omega, by omega, by rw [List.take_zero]; unfold tell; simpa using H5.out⟩
      case round =>
        clear H5
        obtain ⟨q, rfl, hq, hqm, S6⟩ := hrel
        by_cases hql : q < M
        · have hql' : (q : Int) < (M : Int) := by omega
          have hq0 : (0 : Int) ≤ (q : Int) := by omega
          have hqb : (q : Int) < 1000000 := by omega
          obtain ⟨n, hn⟩ : ∃ n, os[q]? = some n := ⟨_, List.getElem?_eq_getElem (by rw [HMM.out]; exact hql)⟩
          obtain ⟨bo, co', hvo, _, _⟩ := slc_form (S6.get 2 rfl) (by rw [HMM.out]; omega)
          cases hvo
          have c0 : wr.cell? ⟨bo, q, none⟩ = some (.int .u8 n) := slc_int (S6.get 2 rfl) hn
          have z8 : wr.cell? ⟨z, 8, none⟩ = some (.int .u64 xa) := S6.cell 1 rfl 8
          have z0 : wr.cell? ⟨z, 0, none⟩ = some (.string xk) := S6.cell 1 rfl 0
          have z1 : wr.cell? ⟨z, 1, none⟩ = some (.int .u64 xp) := S6.cell 1 rfl 1
          have z2 : wr.cell? ⟨z, 2, none⟩ = some (.int .u32 xl) := S6.cell 1 rfl 2
          have z3 : wr.cell? ⟨z, 3, none⟩ = some (.int .u8 xn) := S6.cell 1 rfl 3
          have z4 : wr.cell? ⟨z, 4, none⟩ = some (.int .u8 xd) := S6.cell 1 rfl 4
          have z5 : wr.cell? ⟨z, 5, none⟩ = some (.int .u32 xf) := S6.cell 1 rfl 5
          have z6 : wr.cell? ⟨z, 6, none⟩ = some (.int .u64 xe) := S6.cell 1 rfl 6
          have z7 : wr.cell? ⟨z, 7, none⟩ = some (.string xb) := S6.cell 1 rfl 7
          have hnr := HM.out.1 n (List.mem_of_getElem? hn)
          have hn0 := hnr.1
          have hn1 := hnr.2
          obtain ⟨bb, hbb⟩ : ∃ bb, bitM xa n = bb := ⟨_, rfl⟩
          have hzz : (bits .and .u64 (xa / 2 ^ n.toNat) 1 == 0) = !bb := by rw [bitM_zero xa n HG.out.bits, hbb]
          have HT := Lib.hid (tell_take ⟨⟨xk, ⟨xp, xl, xn⟩, xd, xf, xe, xb⟩, xa⟩ os q n hn)
          dsimp only at HT
          rw [hbb] at HT
          have HQ := Lib.hid (And.intro hq hqm)
          obtain ⟨O2, hO2⟩ : ∃ O2, O ++ tell ⟨⟨xk, ⟨xp, xl, xn⟩, xd, xf, xe, xb⟩, xa⟩ (os.take q) = O2 := ⟨_, rfl⟩
          have HOO := Lib.hid hO2
          have hcap := HML2.out q
          rw [hO2] at hcap S6
          have HCAP := Lib.hid (show (O2.length + 1) * 72 ≤ 140737488355328 by omega)
          have H6 := Lib.hid S6
          clear S6 hn hnr hbb hO2 hcap hq hqm
          cases bb with
          | true =>
            have HT1 := Lib.hid (show O ++ tell ⟨⟨xk, ⟨xp, xl, xn⟩, xd, xf, xe, xb⟩, xa⟩ (os.take (q + 1)) = O2 by rw [HT.out, ← HOO.out]; simp)
            clear z0 z1 z2 z3 z4 z5 z6 z7
            go_wp2_with fail
            go_roundg (os.length - q)
            case measure => have := HQ.out; omega
            case rel => exact ⟨q + 1, by go_num, by omega, by omega, by rw [HT1.out]; exact H6.out⟩
          | false =>
            have HT1 := Lib.hid (show O ++ tell ⟨⟨xk, ⟨xp, xl, xn⟩, xd, xf, xe, xb⟩, xa⟩ (os.take (q + 1)) = O2 ++ [⟨n, ⟨xk, ⟨xp, xl, xn⟩, xd, xf, xe, xb⟩⟩] by rw [HT.out, ← HOO.out]; simp)
            go_wp2_with (at_builtin; go_loud (refine St.wp1 flSd rfl _ _ 40 43 _ 72 rfl Try.underlying40 infoSd rfl (by decide) (by decide) H6.out 0 rfl ⟨n, ⟨xk, ⟨xp, xl, xn⟩, xd, xf, xe, xb⟩⟩ #[.int .u8 n, .string xk, .int .u64 xp, .int .u32 xl, .int .u8 xn, .int .u8 xd, .int .u32 xf, .int .u64 xe, .string xb] rfl rfl rfl HCAP.out ?_))
            intro T A7 c7 w7 H7
            go_wp2_with fail
            go_roundg (os.length - q)
            case measure => have := HQ.out; omega
            case rel =>
              obtain ⟨hT, S7⟩ := H7.out
              exact ⟨q + 1, by go_num, by omega, by omega, by rw [HT1.out, ← hT]; exact S7⟩
        · have hql' : ¬ (q : Int) < (M : Int) := by omega
          have e : q = M := by omega
          subst e
          have hf : O ++ tell ⟨⟨xk, ⟨xp, xl, xn⟩, xd, xf, xe, xb⟩, xa⟩ (os.take q) = misL up (l.take (j + 1)) := by rw [HML.out, ← HMM.out, List.take_length]
          rw [hf] at S6
          have S7 := S6.sub (M := [slc k43 43 u5 (misL up (l.take (j + 1)))]) (by simp)
          have H7 := Lib.hid S7
          clear S6 S7 hf hq hqm
          go_wp2_with fail
          go_roundg (N - j)
          case measure => have := HX.out; omega
          case rel => exact ⟨j + 1, by go_num, by omega, by omega, H7.out⟩
    · have e : j = N := by omega
      subst e
      have hjl' : ¬ (j : Int) < (j : Int) := by omega
      have hf : misL up (l.take j) = misL up l := by rw [← HN.out, List.take_length]
      rw [hf] at S2
      have H2 := Lib.hid S2
      clear S2 hf hj hjm
      go_wp2_with fail
      go_ret
      exact ⟨_, rfl, H2.out⟩
theorem missing_st {w0 w : World} {A : List Asr} (h : St (fun _ => False) w0 w A) (i : Nat) {g : Nat} {S : Nat → Prop} {most : Int} {l : List Hn} (hi : A[i]? = some (hO g S most l)) (hg : ∀ x ∈ l, GoodH x) (hl : l.length ≤ 1000000) {Au : Option Addr} {cu : Nat} {up : List Int} (hC : (Kd.int .u8).C w0 Au up.length up) (h0 : ∀ x ∈ up, 0 ≤ x ∧ x < 256) (hu : up.length ≤ 1000000) :
    Calls Try.prog 13 #[.pointer (some ⟨g, 0, none⟩), .slice Au up.length cu] w (misPost w0 A (misL up l)) := by
  obtain ⟨v, S1⟩ := Asr.ex_open (h.get i hi)
  refine (missing_c l v w g (S1.cell 0 rfl 0) (S1.get 1 rfl) hg hl (Kd.C_below hC h.base) h0 hu).mono ?_
  rintro e w' ⟨v, rfl, S2⟩
  exact ⟨v, rfl, h.adds S2⟩
end Go.Proofs.Ytmpodcefngpnkaa
