import Derived.Test.YtjhmkmcongjngaaQT
import Derived.Test.YtjhmkmcongjngaaQPt
import Derived.Test.YtjhmkmcongjngaaLib
set_option linter.unusedVariables false
set_option linter.unusedSimpArgs false
namespace Go.Proofs.Ytjhmkmcongjngaa
open Go.RowKit Go.Tat Go.Proofs.YtjhmkmcongjngaaW.PrintWords PProbePlays
theorem Try.cells29 : Try.prog.cellsOf 29 = (Kd.int .u64).sz := by kernel_rfl
theorem keys5 : KeyLaw Try.prog 5 (Value.int .u8) := KeyLaw.int Try.underlying5
theorem zero4 : (Try.prog.info? 4).map (·.zero) = some (some (.bool false)) := by kernel_rfl
theorem opens29 : Opens Try.prog 29 (Kd.int .u64) (fun n => (Lit.int .u64 n).wf = true) := Opens.int Try.underlying29
set_option maxRecDepth 100000 in
set_option maxHeartbeats 8000000 in
theorem turns_c (a n : Nat) (ha : a < 256) (hn : n < 256) (ds : List Int) (A : Option Addr) (c : Nat) (W : World) (hC : (Kd.int .u64).C W A ds.length ds) (hd : ∀ x ∈ ds, 0 ≤ x) :
    Calls Try.prog 3 #[.int .u8 a, .int .u8 n, .slice A ds.length c] W fun e w' => e = .returned (.bool true) ∧ Below W.heap.size W w' := by
  obtain ⟨k, hk⟩ : ∃ k, 2 + n % 20 = k := ⟨_, rfl⟩
  obtain ⟨s, hs⟩ : ∃ s, a % k = s := ⟨_, rfl⟩
  have hk2 : 2 ≤ k := by omega
  have hk22 : k ≤ 21 := by omega
  have hsk : s < k := hs ▸ Nat.mod_lt _ (by omega)
  have hmx := Kd.C_max hC
  have HC := Lib.hid (And.intro hC hd)
  clear hC hd
  have hni : (n : Int) < 256 := by omega
  have hai : (a : Int) < 256 := by omega
  go_enter Try.func3, Try.ntmps3
  go_upto_region 2 with fail
  have ek : (2 : Int) + (n : Int) % 20 = (k : Int) := by omega
  rw [ek]
  have hki : (k : Int) ≤ 21 := by omega
  have hki0 : (2 : Int) ≤ (k : Int) := by omega
  clear ek hk
  go_wp2_with fail
  have es : (a : Int) % (k : Int) = (s : Int) := by rw [← hs]; exact (Int.natCast_emod a k).symm
  rw [es]
  have HES := Lib.hid es
  clear es hs
  refine (new_st (St.nil (fun _ => False) W) s k (by omega) (by omega) hsk).mono ?_
  rintro e w1 ⟨g, S, rfl, S1⟩
  have HS := Lib.hid S1
  clear S1
  go_wp2_with fail
  refine (fixed_c w1).mono ?_
  rintro e w2 ⟨rfl, b2⟩
  have S2 : St (fun _ => False) W w2 [pO g S (newPr s k k)] := HS.out.below b2
  have HS2 := Lib.hid S2
  clear S2 b2 HS
  go_upto_block 0 with fail
  go_cut [10] (fun v10 wx => ∃ p ys, TInv s k p ys ∧ ys.length ≤ 121 ∧ St (fun _ => False) W wx [slc (Kd.int .u8) 5 v10 ys])
  case first =>
    go_wp2_with fail
    go_loopg [10, 43] (ds.length + 1) (fun m v10 v43 wx => ∃ (j : Nat) (p : Pr) (ys : List Int) (S : Nat → Prop), ds.length - j < m ∧ j ≤ ds.length ∧ v43 = .int .i64 j ∧ TInv s k p ys ∧ ys.length = j ∧ j ≤ 121 ∧ p.waits.length ≤ j ∧ St (fun _ => False) W wx [pO g S p, slc (Kd.int .u8) 5 v10 ys])
    case atStart => exact ⟨0, _, [], S, by omega, by omega, rfl, TInv.start hk2 (by omega) hsk, rfl, by omega, by simp [newPr], HS2.out.nils (Kd.int .u8) 5⟩
    case round =>
      clear HS2
      obtain ⟨j, p, ys, S, hjm, hj, rfl, TI, hyl, hj2, hwl, S3⟩ := hrel
      have H3 := Lib.hid (And.intro TI (And.intro hyl S3))
      obtain ⟨Av, cv, rfl⟩ := Kd.R_slice (S3.get 1 rfl).1
      clear TI S3 hyl
      by_cases hjl : j < ds.length
      · have hjl' : (j : Int) < (ds.length : Int) := by omega
        have hj0 : (0 : Int) ≤ (j : Int) := by omega
        obtain ⟨ad, hA, cx⟩ := Kd.at_int (Kd.C_below HC.out.1 (H3.out.2.2.mod.below (Nat.le_refl _) (by simp))) (j : Int) hj0 hjl'
        subst hA
        have hx : 0 ≤ rd ds (j : Int) := HC.out.2 _ (by unfold rd; rw [Int.toNat_natCast]; simp [List.getD, List.getElem?_eq_getElem hjl])
        generalize rd ds (j : Int) = x at *
        obtain ⟨pb, po, had⟩ : ∃ b o, ad.add (j : Int).toNat = ⟨b, o, none⟩ := by
          generalize ad.add (j : Int).toNat = q at cx
          obtain ⟨b, o, s⟩ := q
          cases s with
          | none => exact ⟨b, o, rfl⟩
          | some s => unfold World.cell? at cx; dsimp only at cx; split at cx <;> simp at cx
        rw [Int.toNat_natCast] at had cx
        rw [had] at cx
        by_cases hj3 : (120 : Int) < (j : Int)
        · go_wp2_with fail
          go_meet
          exact ⟨p, ys, H3.out.1, by rw [H3.out.2.1]; exact hj2, H3.out.2.2.drop 0⟩
        · go_wp2_with fail
          obtain ⟨t, ht, TI'⟩ := H3.out.1.step hk2 hsk (by omega) x
          have htb := oth_bound (TI'.mem hk2 hsk t (by simp))
          have hwl' := (tick_okay H3.out.1.ok (by omega) x []).2
          refine (tick_st H3.out.2.2 0 rfl H3.out.1.ok x none 0 [] hx (Kd.C_nil _ _) (by decide) (by decide) (by decide) (fun ad h _ => by cases h)).mono ?_
          rintro e w3 ⟨vP, vA, vF, S', rfl, S4⟩
          rw [ht] at S4
          obtain ⟨gP, cP, rfl, _, hcP⟩ := slc_form (S4.get 2 rfl) (by simp)
          obtain ⟨AA, cA, rfl⟩ := Kd.R_slice (S4.get 3 rfl).1
          obtain ⟨AF, cF, rfl⟩ := Kd.R_slice (S4.get 4 rfl).1
          generalize hp' : (tickF p x []).2 = p' at *
          have H4 := Lib.hid (And.intro S4 TI')
          clear S4 TI' ht hp'
          generalize (tickF p x []).1.asks.length = na at *
          generalize (tickF p x []).1.failed.length = nf at *
          go_upto_region 13 with fail
          have S5 := (H4.out.1.sub (M := [pO g S' p', slc (Kd.int .u8) 5 (.slice Av ys.length cv) ys, slc (Kd.int .u8) 5 (.slice (some ⟨gP, 0, none⟩) 1 cP) [t]]) (by simp)).new' #[.slice (some ⟨gP, 0, none⟩) 1 cP, .slice AA na cA, .slice AF nf cF] 32 w3.heap.size rfl
          generalize hz : w3.heap.size = z at *
          clear hz
          have ey := H3.out.2.1
          have TI' := H4.out.2
          generalize World.alloc _ _ = w4 at *
          have x0 : w4.cell? ⟨z, 0, none⟩ = some (.slice (some ⟨gP, 0, none⟩) 1 cP) := S5.cell 3 rfl 0
          have x1 : w4.cell? ⟨gP, 0, none⟩ = some (.int .u8 t) := slc_int (S5.get 2 rfl) (i := 0) rfl
          have H5 := Lib.hid (And.intro S5 (And.intro TI' ey))
          clear S5 TI' ey H4 H3
          go_wp2_with (at_builtin; go_loud (refine wpList_app1 (Kd.int .u8) rfl _ _ 28 5 (.int .u8 0) 1 rfl Try.underlying28 info5 rfl (by decide) (by decide) (.slice Av ys.length cv) ys t [.int .u8 t] (fun k => (Value.slice Av ys.length cv).ownBlock = some k) rfl rfl rfl (slc_R (H5.out.1.get 1 rfl)) (by have := H5.out.2.2; omega) ?_))
          intro A6 c6 w6 R6 m6 ho6
          have S6 := H5.out.1.app 1 rfl rfl R6 m6 ho6
          have H6 := Lib.hid S6
          clear S6 R6 m6 ho6 x0 x1
          go_wp2
          go_roundg (ds.length - j)
          case measure => omega
          case rel =>
            have ey := H5.out.2.2
            exact ⟨j + 1, p', ys ++ [t], S', by omega, by omega, by go_num, H5.out.2.1, by simp; omega, by omega, by omega, H6.out.sub (by simp)⟩
      · have hjl' : ¬ (j : Int) < (ds.length : Int) := by omega
        go_wp2_with fail
        go_meet
        exact ⟨p, ys, H3.out.1, by rw [H3.out.2.1]; exact hj2, H3.out.2.2.drop 0⟩
  case rest =>
    clear HS2 HC
    obtain ⟨p, ys, TI, hyl, S1⟩ := hcut
    obtain ⟨Av, cv, rfl⟩ := Kd.R_slice (S1.get 0 rfl).1
    have HT := Lib.hid TI
    have H1 := Lib.hid S1
    clear TI S1
    go_wp2_with fail
    go_loopg [14] (ys.length + 1) (fun m v14 wx => ∃ i lo : Nat, v14 = .int .i64 lo ∧ i * (k - 1) = lo ∧ lo ≤ ys.length ∧ ys.length - lo < m ∧ St (fun _ => False) W wx [slc (Kd.int .u8) 5 (.slice Av ys.length cv) ys])
    case atStart => exact ⟨0, 0, rfl, by omega, by omega, by omega, H1.out⟩
    case round =>
      clear H1
      obtain ⟨i, lo, rfl, hlo, hlol, hm, S2⟩ := hrel
      have HL := Lib.hid hlo
      clear hlo
      have hlo0 : (0 : Int) ≤ (lo : Int) := by omega
      by_cases hin : lo + k - 1 ≤ ys.length
      · have hin' : (lo : Int) + (k : Int) - 1 ≤ (ys.length : Int) := by omega
        obtain ⟨gy, cy, hv, hgy, hcy⟩ := slc_form (S2.get 0 rfl) (by omega)
        injection hv with hv1 _ hv2
        subst hv1; subst hv2
        have H2 := Lib.hid S2
        clear S2
        have hlc : ¬ cv = lo := by omega
        have hhc : (lo : Int) + (k : Int) - 1 ≤ (cv : Int) := by omega
        go_wp2_with (refine wpList_makeMap rfl 34 rfl (Value.int .u8) Value.bool ?_; intro hM)
        have S3 := H2.out.add (a := mapA wr.heap.size (Value.int .u8) Value.bool (seenF [])) ((Below.refl _ _).alloc (Nat.le_refl _) _) hM (fun k h => Nat.le_of_eq h.symm)
        have er : lo + k - 1 - lo = k - 1 := by omega
        rw [er]
        clear er hM
        generalize wr.heap.size = mb at *
        generalize wr.alloc _ = w3 at *
        generalize hr : k - 1 = r at *
        have HRR := Lib.hid hr
        have H3 := Lib.hid S3
        have hrl : lo + r ≤ ys.length := by omega
        clear S3 H2 hr
        go_loopg [85] (r + 1) (fun m v wx => ∃ q : Nat, v = .int .i64 q ∧ q ≤ r ∧ r - q < m ∧ St (fun _ => False) W wx [slc (Kd.int .u8) 5 (.slice (some ⟨gy, 0, none⟩) ys.length cv) ys, mapA mb (Value.int .u8) Value.bool (seenF ((ys.drop lo).take q))])
        case atStart => exact ⟨0, rfl, by omega, by omega, H3.out⟩
        case round =>
          clear H3
          obtain ⟨q, rfl, hq, hqm, S4⟩ := hrel
          have H4 := Lib.hid S4
          clear S4
          by_cases hqr : q < r
          · have hqr' : (q : Int) < (r : Int) := by omega
            have hq0 : (0 : Int) ≤ (q : Int) := by omega
            obtain ⟨t, ht⟩ : ∃ t, ys[lo + q]? = some t := ⟨_, List.getElem?_eq_getElem (by omega)⟩
            have ct : wr.cell? ⟨gy, lo + q, none⟩ = some (.int .u8 t) := slc_int (H4.out.get 0 rfl) ht
            have htk : (ys.drop lo).take (q + 1) = (ys.drop lo).take q ++ [t] := by
              have : (ys.drop lo)[q]? = some t := by rw [List.getElem?_drop]; exact ht
              obtain ⟨hl, he⟩ := List.getElem?_eq_some_iff.1 this
              rw [← List.take_append_getElem hl, he]
            have HTK := Lib.hid htk
            clear htk ht
            go_wp2_with (at_mapUpdate; refine wpList_mapUpdate rfl 34 5 4 _ _ _ rfl Try.underlying34 keys5 Value.bool mb _ (H4.out.get 1 rfl) t true rfl rfl rfl ?_; intro w5 M5 m5)
            have S5 := H4.out.upd 1 rfl m5 (a' := mapA mb (Value.int .u8) Value.bool (seenF ((ys.drop lo).take (q + 1)))) (by rw [HTK.out, seenF_snoc]; exact M5) (fun k h => .inl h)
            have H5 := Lib.hid S5
            clear S5 M5 m5
            go_roundg (r - q)
            case measure => omega
            case rel => exact ⟨q + 1, by go_num, by omega, by omega, H5.out⟩
          · have hqr' : ¬ (q : Int) < (r : Int) := by omega
            have : q = r := by omega
            subst this
            have hfst := HT.out.first hk2 hsk i (by have h1 := HL.out; have h2 := HRR.out; rw [h2]; omega)
            rw [HRR.out] at hfst
            have hl2 := HL.out
            rw [hl2] at hfst
            have hlk := (MapAt.look Try.underlying34 keys5 (H4.out.get 1 rfl) (s : Int) _ zero4 none hfst.2 (.bool false) rfl).1
            have hml := Lib.hid hfst.1
            have es : (a : Int) % (k : Int) = (s : Int) := HES.out
            have hkq : (k : Int) - 1 = (q : Int) := by have := HRR.out; omega
            clear hfst hl2
            go_wp2_with (at_len; refine wpList_mapLen rfl 34 5 4 _ rfl Try.underlying34 (Value.int .u8) Value.bool mb _ (H4.out.get 1 rfl) rfl ?_; rw [hml.out])
            have hnx : (i + 1) * q = lo + q := by have h1 := HL.out; rw [Nat.succ_mul, h1]
            have HNX := Lib.hid hnx
            clear hnx hlk es
            go_roundg (ys.length - lo)
            case measure => omega
            case rel => exact ⟨i + 1, lo + q, by go_num, HNX.out, by omega, by omega, H4.out.drop 1⟩

      · have hin' : ¬ (lo : Int) + (k : Int) - 1 ≤ (ys.length : Int) := by omega
        have H1 := Lib.hid S2
        clear S2
        clear hin' HL
        go_wp2_with fail
        go_loopg [18] (ys.length + 1) (fun m v18 wx => ∃ lo : Nat, v18 = .int .i64 lo ∧ lo ≤ ys.length ∧ ys.length - lo < m ∧ St (fun _ => False) W wx [slc (Kd.int .u8) 5 (.slice Av ys.length cv) ys])
        case atStart => exact ⟨0, rfl, by omega, by omega, H1.out⟩
        case round =>
          clear H1
          obtain ⟨lo2, rfl, hlol2, hm2, S2⟩ := hrel
          have hlo0 : (0 : Int) ≤ (lo2 : Int) := by omega
          by_cases hin2 : lo2 + 2 * k - 3 ≤ ys.length
          · have hin' : (lo2 : Int) + 2 * (k : Int) - 3 ≤ (ys.length : Int) := by omega
            obtain ⟨gy, cy, hv, hgy, hcy⟩ := slc_form (S2.get 0 rfl) (by omega)
            injection hv with hv1 _ hv2
            subst hv1; subst hv2
            have H2 := Lib.hid S2
            clear S2
            have hlc : ¬ cv = lo2 := by omega
            have hhc : (lo2 : Int) + 2 * (k : Int) - 3 ≤ (cv : Int) := by omega
            go_wp2_with (refine wpList_makeMap rfl 34 rfl (Value.int .u8) Value.bool ?_; intro hM)
            have S3 := H2.out.add (a := mapA wr.heap.size (Value.int .u8) Value.bool (seenF [])) ((Below.refl _ _).alloc (Nat.le_refl _) _) hM (fun k h => Nat.le_of_eq h.symm)
            have er : lo2 + (2 * k) - 3 - lo2 = 2 * k - 3 := by omega
            rw [er]
            clear er hM
            generalize wr.heap.size = mb at *
            generalize wr.alloc _ = w3 at *
            generalize hr : 2 * k - 3 = r at *
            have HRR := Lib.hid hr
            have H3 := Lib.hid S3
            have hrl : lo2 + r ≤ ys.length := by omega
            clear S3 H2 hr
            go_loopg [125] (r + 1) (fun m v wx => ∃ q : Nat, v = .int .i64 q ∧ q ≤ r ∧ r - q < m ∧ St (fun _ => False) W wx [slc (Kd.int .u8) 5 (.slice (some ⟨gy, 0, none⟩) ys.length cv) ys, mapA mb (Value.int .u8) Value.bool (seenF ((ys.drop lo2).take q))])
            case atStart => exact ⟨0, rfl, by omega, by omega, H3.out⟩
            case round =>
              clear H3
              obtain ⟨q, rfl, hq, hqm, S4⟩ := hrel
              have H4 := Lib.hid S4
              clear S4
              by_cases hqr : q < r
              · have hqr' : (q : Int) < (r : Int) := by omega
                have hq0 : (0 : Int) ≤ (q : Int) := by omega
                obtain ⟨t, ht⟩ : ∃ t, ys[lo2 + q]? = some t := ⟨_, List.getElem?_eq_getElem (by omega)⟩
                have ct : wr.cell? ⟨gy, lo2 + q, none⟩ = some (.int .u8 t) := slc_int (H4.out.get 0 rfl) ht
                have htk : (ys.drop lo2).take (q + 1) = (ys.drop lo2).take q ++ [t] := by
                  have : (ys.drop lo2)[q]? = some t := by rw [List.getElem?_drop]; exact ht
                  obtain ⟨hl, he⟩ := List.getElem?_eq_some_iff.1 this
                  rw [← List.take_append_getElem hl, he]
                have HTK := Lib.hid htk
                clear htk ht
                go_wp2_with (at_mapUpdate; refine wpList_mapUpdate rfl 34 5 4 _ _ _ rfl Try.underlying34 keys5 Value.bool mb _ (H4.out.get 1 rfl) t true rfl rfl rfl ?_; intro w5 M5 m5)
                have S5 := H4.out.upd 1 rfl m5 (a' := mapA mb (Value.int .u8) Value.bool (seenF ((ys.drop lo2).take (q + 1)))) (by rw [HTK.out, seenF_snoc]; exact M5) (fun k h => .inl h)
                have H5 := Lib.hid S5
                clear S5 M5 m5
                go_roundg (r - q)
                case measure => omega
                case rel => exact ⟨q + 1, by go_num, by omega, by omega, H5.out⟩
              · have hqr' : ¬ (q : Int) < (r : Int) := by omega
                have : q = r := by omega
                subst this
                have hml := Lib.hid (HT.out.window hk2 hsk lo2 (by have := HRR.out; omega))
                have hkq : 2 * (k : Int) - 3 = (q : Int) := by have := HRR.out; omega
                have hrr2 := HRR.out
                rw [hrr2] at hml
                have hkn : ((k - 1 : Nat) : Int) = (k : Int) - 1 := by omega
                have HKN := Lib.hid hkn
                clear hkn hrr2
                go_wp2_with (at_len; refine wpList_mapLen rfl 34 5 4 _ rfl Try.underlying34 (Value.int .u8) Value.bool mb _ (H4.out.get 1 rfl) rfl ?_; rw [hml.out, HKN.out])
                go_roundg (ys.length - lo2)
                case measure => omega
                case rel => exact ⟨lo2 + 1, by go_num, by omega, by omega, H4.out.drop 1⟩
          · have hin' : ¬ (lo2 : Int) + 2 * (k : Int) - 3 ≤ (ys.length : Int) := by omega
            have HM := Lib.hid S2.mod
            clear S2
            go_wp2
            go_ret
            exact ⟨rfl, HM.out.below (Nat.le_refl _) (by simp)⟩
theorem turns_row (a0 a1 : Int) (w0 : (Lit.int .u8 a0).wf = true) (w1 : (Lit.int .u8 a1).wf = true) (ds : List Int) (A : Option Addr) (c : Nat) (W : World) (hC : (Kd.int .u64).C W A ds.length ds) (hg : ∀ x ∈ ds, (Lit.int .u64 x).wf = true) :
    Calls Try.prog 3 #[.int .u8 a0, .int .u8 a1, .slice A ds.length c] W fun e w' => e = .returned (.bool true) ∧ Below W.heap.size W w' := by
  have b0 : IntKind.u8.min ≤ a0 ∧ a0 ≤ IntKind.u8.max := by simpa [Lit.wf] using w0
  have b1 : IntKind.u8.min ≤ a1 ∧ a1 ≤ IntKind.u8.max := by simpa [Lit.wf] using w1
  have e0 : IntKind.u8.min = 0 := rfl
  have e1 : IntKind.u8.max = 255 := rfl
  rw [e0, e1] at b0 b1
  obtain ⟨a, rfl⟩ : ∃ a : Nat, a0 = a := ⟨a0.toNat, by omega⟩
  obtain ⟨n, rfl⟩ : ∃ n : Nat, a1 = n := ⟨a1.toNat, by omega⟩
  refine turns_c a n (by omega) (by omega) ds A c W hC fun x hx => ?_
  have b : IntKind.u64.min ≤ x ∧ x ≤ IntKind.u64.max := by simpa [Lit.wf] using hg x hx
  exact b.1
end Go.Proofs.Ytjhmkmcongjngaa
