import Derived.Test.YtjhmkmcongjngaaQV
import Derived.Test.YtjhmkmcongjngaaQU
set_option linter.unusedVariables false
set_option linter.unusedSimpArgs false
namespace Go.Proofs.Ytjhmkmcongjngaa
open Go.RowKit Go.Tat Go.Proofs.YtjhmkmcongjngaaW.PrintWords PProbePlays
/-! #### struct type 43 -/
structure S43 where
  f0 : Int
  f1 : Int
  f2 : (List Int)
  f3 : Int
def z43 : S43 := ⟨(0 : Int), (0 : Int), ([] : List Int), (0 : Int)⟩
def k43 : Kd S43 := Kd.iso (Kd.pair (Kd.int .i64) (Kd.pair (Kd.int .u64) (Kd.pair (Kd.slice 5 (Kd.int .u8)) (Kd.int .u8)))) (fun x : S43 => (x.f0, x.f1, x.f2, x.f3))
theorem k43_open {w : World} {x : S43} {cs : List Value} (h : k43.K w x cs) : ∃ A2 c2, cs = [.int .i64 x.f0, .int .u64 x.f1, .slice A2 x.f2.length c2, .int .u8 x.f3] ∧ x.f2.length ≤ c2 ∧ (Kd.int .u8).C w A2 x.f2.length x.f2 := by
  obtain ⟨_, _, rfl, rfl, ⟨_, _, rfl, rfl, ⟨_, _, rfl, ⟨A2, c2, rfl, l2, g2⟩, rfl⟩⟩⟩ := h
  exact ⟨A2, c2, rfl, l2, g2⟩
theorem k43_openM {w : World} {base : Nat} {ok : Nat → Prop} {x : S43} {cs : List Value} (h : k43.M w base ok x cs) : ∃ v2, cs = [.int .i64 x.f0, .int .u64 x.f1, v2, .int .u8 x.f3] ∧ (Kd.int .u8).R 5 w base ok v2 x.f2 := by
  obtain ⟨_, _, rfl, rfl, ⟨_, _, rfl, rfl, ⟨_, _, rfl, ⟨v2, rfl, g2⟩, rfl⟩⟩⟩ := h
  exact ⟨v2, rfl, g2⟩
theorem k43_mk (w : World) (x : S43) {A2 : Option Addr} {c2 : Nat} (l2 : x.f2.length ≤ c2) (g2 : (Kd.int .u8).C w A2 x.f2.length x.f2) : k43.K w x [.int .i64 x.f0, .int .u64 x.f1, .slice A2 x.f2.length c2, .int .u8 x.f3] := ⟨[.int .i64 x.f0], [.int .u64 x.f1, .slice A2 x.f2.length c2, .int .u8 x.f3], rfl, rfl, ⟨[.int .u64 x.f1], [.slice A2 x.f2.length c2, .int .u8 x.f3], rfl, rfl, ⟨[.slice A2 x.f2.length c2], [.int .u8 x.f3], rfl, ⟨A2, c2, rfl, l2, g2⟩, rfl⟩⟩⟩
theorem k43_mkM (w : World) (base : Nat) (ok : Nat → Prop) (x : S43) {v2 : Value} (g2 : (Kd.int .u8).R 5 w base ok v2 x.f2) : k43.M w base ok x [.int .i64 x.f0, .int .u64 x.f1, v2, .int .u8 x.f3] := ⟨[.int .i64 x.f0], [.int .u64 x.f1, v2, .int .u8 x.f3], rfl, rfl, ⟨[.int .u64 x.f1], [v2, .int .u8 x.f3], rfl, rfl, ⟨[v2], [.int .u8 x.f3], rfl, ⟨v2, rfl, g2⟩, rfl⟩⟩⟩
def rd_T43 (xs : List S43) (i : Int) : S43 := xs.getD i.toNat z43
theorem at_T43 {w : World} {A : Option Addr} {n : Nat} {xs : List S43} (h : Kd.C k43 w A n xs) (i : Int) (h0 : 0 ≤ i) (h1 : i < n) : ∃ ad A2 c2, A = some ad ∧ w.cell? (ad.add (i.toNat * 4)) = some (.int .i64 (rd_T43 xs i).f0) ∧ w.cell? ⟨(ad.add (i.toNat * 4)).block, (ad.add (i.toNat * 4)).off + 1, none⟩ = some (.int .u64 (rd_T43 xs i).f1) ∧ w.cell? ⟨(ad.add (i.toNat * 4)).block, (ad.add (i.toNat * 4)).off + 2, none⟩ = some (.slice A2 (rd_T43 xs i).f2.length c2) ∧ w.cell? ⟨(ad.add (i.toNat * 4)).block, (ad.add (i.toNat * 4)).off + 3, none⟩ = some (.int .u8 (rd_T43 xs i).f3) ∧ (rd_T43 xs i).f2.length ≤ c2 ∧ (Kd.int .u8).C w A2 (rd_T43 xs i).f2.length (rd_T43 xs i).f2 := by
  obtain ⟨ad, c, e, _, hK, hc0⟩ := Kd.C_get h z43 i h0 h1
  have hc : ∀ j u, c[j]? = some u → w.cell? (ad.add (i.toNat * 4 + j)) = some u := hc0
  obtain ⟨A2, c2, rfl, l2, g2⟩ := k43_open hK
  exact ⟨ad, A2, c2, e, hc 0 _ rfl, by rw [← add_field _ _ 1 (by omega)]; exact hc 1 _ rfl, by rw [← add_field _ _ 2 (by omega)]; exact hc 2 _ rfl, by rw [← add_field _ _ 3 (by omega)]; exact hc 3 _ rfl, l2, g2⟩
instance : Inhabited S43 := ⟨z43⟩
theorem Try.cells43 : Try.prog.cellsOf 43 = k43.sz := by kernel_rfl
def g43 (x : S43) : Prop := (Lit.int .i64 x.f0).wf = true ∧ (Lit.int .u64 x.f1).wf = true ∧ (∀ y ∈ x.f2, (Lit.int .u8 y).wf = true) ∧ (Lit.int .u8 x.f3).wf = true
theorem opens43 : Opens Try.prog 43 k43 g43 := by
  have h := Opens.struct (P := Try.prog) (t := 43) (d := Kd.pair (Kd.int .i64) (Kd.pair (Kd.int .u64) (Kd.pair (Kd.slice 5 (Kd.int .u8)) (Kd.int .u8)))) (g := fun p => (Lit.int .i64 p.1).wf = true ∧ (Lit.int .u64 p.2.1).wf = true ∧ (∀ y ∈ p.2.2.1, (Lit.int .u8 y).wf = true) ∧ (Lit.int .u8 p.2.2.2).wf = true) Try.underlying43 Try.cells43
    (OpensF.cons rfl (by kernel_rfl) (Opens.int (by kernel_rfl)) (OpensF.cons (by rfl) (by kernel_rfl) (Opens.int (by kernel_rfl)) (OpensF.cons (by rfl) (by kernel_rfl) (Opens.slice (by kernel_rfl) (by kernel_rfl) (Opens.int (by kernel_rfl))) (OpensF.one (by rfl) (by kernel_rfl) (Opens.int (by kernel_rfl)))))) (fun x : S43 => (x.f0, x.f1, x.f2, x.f3)) (fun p => ⟨p.1, p.2.1, p.2.2.1, p.2.2.2⟩) (fun p => rfl)
  exact .mk fun hx => let ⟨p, hg, hk⟩ := h.out hx; ⟨p, hg, hk⟩
theorem u8_wf {x : Int} (h : (Lit.int .u8 x).wf = true) : 0 ≤ x ∧ x < 256 := by
  have b : IntKind.u8.min ≤ x ∧ x ≤ IntKind.u8.max := by simpa [Lit.wf] using h
  have e0 : IntKind.u8.min = 0 := rfl
  have e1 : IntKind.u8.max = 255 := rfl
  omega
theorem u64_wf {x : Int} (h : (Lit.int .u64 x).wf = true) : 0 ≤ x := by
  have b : IntKind.u64.min ≤ x ∧ x ≤ IntKind.u64.max := by simpa [Lit.wf] using h
  exact b.1
theorem zero3 : (Try.prog.info? 3).map (·.zero) = some (some (.int .i64 0)) := by kernel_rfl
set_option maxRecDepth 100000 in
set_option maxHeartbeats 8000000 in
theorem fails_c (a n : Nat) (ha : a < 256) (hn : n < 256) (ops : List S43) (A : Option Addr) (c : Nat) (W : World) (hC : k43.C W A ops.length ops) (hg : ∀ x ∈ ops, g43 x) :
    Calls Try.prog 5 #[.int .u8 a, .int .u8 n, .slice A ops.length c] W fun e w' => e = .returned (.bool true) ∧ Below W.heap.size W w' := by
  obtain ⟨k, hk⟩ : ∃ k, 2 + n % 10 = k := ⟨_, rfl⟩
  obtain ⟨s, hs⟩ : ∃ s, a % k = s := ⟨_, rfl⟩
  have hk2 : 2 ≤ k := by omega
  have hk22 : k ≤ 21 := by omega
  have hsk : s < k := hs ▸ Nat.mod_lt _ (by omega)
  have hmx := Kd.C_max hC
  have HC := Lib.hid (And.intro hC hg)
  clear hC hg
  have hni : (n : Int) < 256 := by omega
  have hai : (a : Int) < 256 := by omega
  go_enter Try.func5, Try.ntmps5
  go_upto_region 2 with fail
  have ek : (2 : Int) + (n : Int) % 10 = (k : Int) := by omega
  rw [ek]
  have hki : (k : Int) ≤ 21 := by omega
  have hki0 : (2 : Int) ≤ (k : Int) := by omega
  clear ek hk
  go_wp2_with fail
  have es : (a : Int) % (k : Int) = (s : Int) := by rw [← hs]; exact (Int.natCast_emod a k).symm
  rw [es]
  have HES := Lib.hid es
  clear es hs
  refine (new_st (St.nil (fun _ => False) W) s k (by omega) (by omega) hsk).mono ?_
  rintro e w1 ⟨g, S, rfl, S1⟩
  have HS := Lib.hid S1
  clear S1
  go_wp2_with fail
  refine (fixed_c w1).mono ?_
  rintro e w2 ⟨rfl, b2⟩
  have S2 : St (fun _ => False) W w2 [pO g S (newPr s k k)] := HS.out.below b2
  have HS2 := Lib.hid S2
  clear S2 b2 HS
  go_upto_region 6 with (refine wpList_makeMap rfl 53 rfl (Value.int .u8) (Value.int .i64) ?_; intro hM)
  have S3 := HS2.out.add (a := mapA w2.heap.size (Value.int .u8) (Value.int .i64) ([] : List (Int × Int))) ((Below.refl _ _).alloc (Nat.le_refl _) _) hM (fun k h => Nat.le_of_eq h.symm)
  have H3 := Lib.hid S3
  clear S3 hM HS2
  generalize w2.heap.size = mb at *
  generalize w2.alloc _ = w3 at *
  go_upto_block 0 with fail
  go_cut [] (fun wx => ∃ p M T S, FInv p.waits M T ∧ Okay p ∧ p.waits.length ≤ 151 ∧ St (fun _ => False) W wx [pO g S p, mapA mb (Value.int .u8) (Value.int .i64) M])
  case first =>
    go_wp2_with fail
    go_loopg [11, 49] (ops.length + 1) (fun m v11 v49 wx => ∃ (j T : Nat) (p : Pr) (M : List (Int × Int)) (S : Nat → Prop), v11 = .int .i64 T ∧ v49 = .int .i64 j ∧ ops.length - j < m ∧ j ≤ ops.length ∧ j ≤ 151 ∧ T ≤ j ∧ p.waits.length ≤ j ∧ p.n = k ∧ Okay p ∧ FInv p.waits M T ∧ St (fun _ => False) W wx [pO g S p, mapA mb (Value.int .u8) (Value.int .i64) M])
    case atStart => exact ⟨0, 0, _, [], S, rfl, rfl, by omega, by omega, by omega, by omega, by simp [newPr], rfl, new_okay (by omega) (by omega) hsk, FInv.start, H3.out⟩
    case round =>
      clear H3
      obtain ⟨j, T, p, M, S, rfl, rfl, hjm, hj, hj2, hT, hwl, hpn, hok, FI, S4⟩ := hrel
      have H4 := Lib.hid (And.intro hok (And.intro FI (And.intro hpn S4)))
      clear hok FI S4 hpn
      by_cases hjl : j < ops.length
      · have hjl' : (j : Int) < (ops.length : Int) := by omega
        have hj0 : (0 : Int) ≤ (j : Int) := by omega
        obtain ⟨x, hx⟩ : ∃ x, ops[j]? = some x := ⟨_, List.getElem?_eq_getElem hjl⟩
        have hgx := HC.out.2 x (List.mem_of_getElem? hx)
        obtain ⟨ad, b, o, cs, rfl, had, hb, hK, hcs⟩ := C_at HC.out.1 hx (by decide)
        obtain ⟨xk, xx, xh, xn⟩ := x
        obtain ⟨A2, c2, rfl, hc2, hC2⟩ := k43_open hK
        obtain ⟨hg1, hg2, hg3, hg4⟩ := hgx
        dsimp only at hc2 hC2 hg1 hg2 hg3 hg4 hcs
        have hBw := H4.out.2.2.2.base
        have c0 := (hBw.cell (p := ⟨b, o, none⟩) hb).trans (hcs 0 _ rfl)
        have c1 := (hBw.cell (p := ⟨b, o + 1, none⟩) hb).trans (hcs 1 _ rfl)
        have c2' := (hBw.cell (p := ⟨b, o + 2, none⟩) hb).trans (hcs 2 _ rfl)
        have c3 := (hBw.cell (p := ⟨b, o + 3, none⟩) hb).trans (hcs 3 _ rfl)
        have had' : ad.add (j * 4) = ⟨b, o, none⟩ := had
        have HX := Lib.hid (And.intro hc2 (And.intro hC2 (And.intro hg1 (And.intro hg2 (And.intro hg3 hg4)))))
        have hhm := Kd.C_max hC2
        clear hc2 hC2 hg1 hg2 hg3 hg4 hK hcs had hx hBw
        go_upto_region 10 with fail
        have S5 := H4.out.2.2.2.new' #[.int .i64 xk, .int .u64 xx, .slice A2 xh.length c2, .int .u8 xn] 43 wr.heap.size rfl
        generalize wr.heap.size = z at *
        generalize World.alloc _ _ = w4 at *
        have d0 : w4.cell? ⟨z, 0, none⟩ = some (.int .i64 xk) := S5.cell 2 rfl 0
        have d1 : w4.cell? ⟨z, 1, none⟩ = some (.int .u64 xx) := S5.cell 2 rfl 1
        have d2 : w4.cell? ⟨z, 2, none⟩ = some (.slice A2 xh.length c2) := S5.cell 2 rfl 2
        have d3 : w4.cell? ⟨z, 3, none⟩ = some (.int .u8 xn) := S5.cell 2 rfl 3
        have H5 := Lib.hid (And.intro S5 (And.intro H4.out.1 (And.intro H4.out.2.1 H4.out.2.2.1)))
        clear S5 H4 c0 c1 c2' c3 had'
        by_cases hbr : (150 : Int) < (j : Int) ∨ (100 : Int) < (xh.length : Int)
        · have hend : ∃ p M T S, FInv p.waits M T ∧ Okay p ∧ p.waits.length ≤ 151 ∧ St (fun _ => False) W w4 [pO g S p, mapA mb (Value.int .u8) (Value.int .i64) M] := ⟨p, M, T, S, H5.out.2.2.1, H5.out.2.1, by omega, H5.out.1.drop 2⟩
          have HE := Lib.hid hend
          clear hend
          by_cases hb1 : (150 : Int) < (j : Int)
          · clear hbr
            go_wp2_with fail
            go_meet
            exact HE.out
          · have hb2 : (100 : Int) < (xh.length : Int) := hbr.resolve_left hb1
            clear hbr
            go_wp2_with fail
            go_meet
            exact HE.out
        · have hb1 : ¬ (150 : Int) < (j : Int) := fun h => hbr (.inl h)
          have hb2 : ¬ (100 : Int) < (xh.length : Int) := fun h => hbr (.inr h)
          clear hbr
          by_cases hk0 : xk = 0
          · subst hk0
            have hn1 : p.n ≠ 1 := by have := H5.out.2.2.2; omega
            obtain ⟨t, htp, htf, htw, htn⟩ := tick_eq xx xh hn1
            obtain ⟨hok', hwl'⟩ := tick_okay H5.out.2.1 (by omega) xx xh
            have HQ := Lib.hid (And.intro htp (And.intro htf (And.intro htw (And.intro htn hok'))))
            have HWL := Lib.hid hwl'
            clear htp htf htw htn hok' hwl'
            have hgW : W.heap.size ≤ g := H5.out.1.ge 0 rfl (H5.out.1.get 0 rfl).1.mem
            go_wp2_with fail
            refine (tick_st H5.out.1 0 rfl H5.out.2.1 xx A2 c2 xh (u64_wf HX.out.2.2.2.1) (Kd.C_below HX.out.2.1 H5.out.1.base) HX.out.1 (by omega) (fun y hy => u8_wf (HX.out.2.2.2.2.1 y hy)) (fun ad h hp => by subst h; have := C_block HX.out.2.1 hp (by decide); omega)).mono ?_
            rintro e w5 ⟨vP, vA, vF, S', rfl, S6⟩
            rw [HQ.out.1, HQ.out.2.1] at S6
            generalize (tickF (p : Pr) xx xh).2 = p' at *
            obtain ⟨AP, cP, rfl⟩ := Kd.R_slice (S6.get 3 rfl).1
            obtain ⟨AA, cA, rfl⟩ := Kd.R_slice (S6.get 4 rfl).1
            obtain ⟨AF, cF, rfl⟩ := Kd.R_slice (S6.get 5 rfl).1
            generalize (tickF p xx xh).1.asks.length = na at *
            have S7 : St (fun _ => False) W w5 [pO g S' p', mapA mb (Value.int .u8) (Value.int .i64) M, slc (Kd.int .u8) 5 (.slice AP 1 cP) [t], slc (Kd.int .u8) 5 (.slice AF (lateF p.waits).length cF) (lateF p.waits)] := S6.sub (by simp)
            have H7 := Lib.hid S7
            clear S6 S7 d0 d1 d2 d3
            generalize hlf : lateF p.waits = lf at *
            have HLF := Lib.hid hlf
            clear hlf
            go_upto_region 18 with fail
            have S8 := H7.out.new' #[.slice AP 1 cP, .slice AA na cA, .slice AF lf.length cF] 32 w5.heap.size rfl
            generalize w5.heap.size = y at *
            generalize World.alloc _ _ = w6 at *
            have x2 : w6.cell? ⟨y, 2, none⟩ = some (.slice AF lf.length cF) := S8.cell 4 rfl 2
            have H8 := Lib.hid S8
            have hfm := Kd.C_max (Kd.R_reads' (S8.get 3 rfl).1).2.2
            clear S8 H7
            have hT0 : (0 : Int) ≤ (T : Int) := by omega
            have hT1 : (T : Int) ≤ 151 := by omega
            go_wp2_with fail
            clear x2
            go_loopg [92] (lf.length + 1) (fun m v92 wx => ∃ q : Nat, v92 = .int .i64 q ∧ q ≤ lf.length ∧ lf.length - q < m ∧ St (fun _ => False) W wx [pO g S' p', mapA mb (Value.int .u8) (Value.int .i64) ((lf.take q).foldl mdel M), slc (Kd.int .u8) 5 (.slice AP 1 cP) [t], slc (Kd.int .u8) 5 (.slice AF lf.length cF) lf, blk y #[.slice AP 1 cP, .slice AA na cA, .slice AF lf.length cF] 32])
            case atStart => exact ⟨0, rfl, by omega, by omega, H8.out⟩
            case round =>
              clear H8
              obtain ⟨q, rfl, hq, hqm, S9⟩ := hrel
              by_cases hql : q < lf.length
              · have hql' : (q : Int) < (lf.length : Int) := by omega
                have hq0 : (0 : Int) ≤ (q : Int) := by omega
                obtain ⟨f, hf⟩ : ∃ f, lf[q]? = some f := ⟨_, List.getElem?_eq_getElem hql⟩
                have hmf : mget ((lf.take q).foldl mdel M) f = some ((T : Int) - 1) := by
                  have := H5.out.2.2.1.fail (j := q) (f := f) (by rw [HLF.out]; exact hf)
                  rw [HLF.out] at this; exact this
                have htk : (lf.take (q + 1)).foldl mdel M = mdel ((lf.take q).foldl mdel M) f := by
                  obtain ⟨hl, he⟩ := List.getElem?_eq_some_iff.1 hf
                  rw [← List.take_append_getElem hl, List.foldl_append, he]; rfl
                have HTK := Lib.hid htk
                clear htk
                obtain ⟨gF, cF', hv, _, hcF⟩ := slc_form (S9.get 3 rfl) (by omega)
                injection hv with hv1 _ hv2
                subst hv1; subst hv2
                have cf : wr.cell? ⟨gF, q, none⟩ = some (.int .u8 f) := slc_int (S9.get 3 rfl) hf
                obtain ⟨sv, hsv⟩ : ∃ sv, (T : Int) - 1 = sv := ⟨_, rfl⟩
                rw [hsv] at hmf
                have hlk := ((S9.get 1 rfl : MapAt wr mb (Value.int .u8) (Value.int .i64) ((lf.take q).foldl mdel M)).look Try.underlying53 keys5 f _ zero3 (some sv) hmf (.int .i64 sv) rfl).2
                have hs1 : (T : Int) + 1 - sv = 2 := by omega
                have hs2 : -1 ≤ sv := by omega
                have hs3 : sv ≤ 151 := by omega
                have H9 := Lib.hid S9
                clear S9 hmf hf hsv
                go_wp2_with (refine wpList_mapDelete rfl 53 5 3 _ _ rfl Try.underlying53 keys5 (Value.int .i64) mb _ (H9.out.get 1 rfl) f rfl rfl ?_; intro w7 M7 m7)
                have S10 := H9.out.upd 1 rfl m7 (a' := mapA mb (Value.int .u8) (Value.int .i64) ((lf.take (q + 1)).foldl mdel M)) (by rw [HTK.out]; exact M7) (fun k h => .inl h)
                have H10 := Lib.hid S10
                clear S10 M7 m7 hlk
                go_roundg (lf.length - q)
                case measure => omega
                case rel => exact ⟨q + 1, by go_num, by omega, by omega, H10.out⟩
              · have hql' : ¬ (q : Int) < (lf.length : Int) := by omega
                have hqe : q = lf.length := by omega
                subst hqe
                rw [List.take_length] at S9
                have FR := H5.out.2.2.1.rest
                rw [HLF.out] at FR
                have hone := rest_one H5.out.2.1.wf
                generalize hM1 : lf.foldl mdel M = M1 at *
                have H9 := Lib.hid (And.intro S9 (And.intro FR hone))
                clear S9 FR hone hM1
                go_wp2_with (refine wpList_range rfl 53 5 3 _ rfl Try.underlying53 (Value.int .u8) (Value.int .i64) mb M1 (H9.out.1.get 1 rfl) rfl ?_; intro r w7 hr hR mR _)
                have S10 := H9.out.1.ranged 1 rfl hr hR mR
                have H10 := Lib.hid S10
                clear S10 hR mR hr
                go_loopg [] (cntL M1 (fun _ => true) + 1) (fun m wx => ∃ left : Int → Bool, cntL M1 left < m ∧ St (fun _ => False) W wx [pO g S' p', rngA mb r (Value.int .u8) (Value.int .i64) M1 left, slc (Kd.int .u8) 5 (.slice AP 1 cP) [t], slc (Kd.int .u8) 5 (.slice AF lf.length cF) lf, blk y #[.slice AP 1 cP, .slice AA na cA, .slice AF lf.length cF] 32])
                case atStart => exact ⟨_, Nat.lt_succ_self _, H10.out⟩
                case round =>
                  clear H10
                  obtain ⟨left, hcm, S11⟩ := hrel
                  have H11 := Lib.hid S11
                  have HCM := Lib.hid hcm
                  clear S11 hcm
                  go_wp2_with (refine wpList_next rfl _ rfl (Value.int .u8) (Value.int .i64) mb r M1 left rfl (H11.out.get 1 rfl) ?_ ?_)
                  · intro hdone
                    clear hdone
                    have H12 := Lib.hid (H11.out.unranged 1 rfl)
                    have x0 : wr.cell? ⟨y, 0, none⟩ = some (.slice AP 1 cP) := H12.out.cell 4 rfl 0
                    go_wp2_with fail
                    clear x0
                    generalize hM2 : (if (mget M1 t).isSome then M1 else mput M1 t ((T : Int) + 1)) = M2 at *
                    have HM2 := Lib.hid hM2
                    clear hM2
                    go_loopg [128] 2 (fun m v128 wx => (v128 = .int .i64 0 ∧ m = 2 ∧ St (fun _ => False) W wx [pO g S' p', mapA mb (Value.int .u8) (Value.int .i64) M1, slc (Kd.int .u8) 5 (.slice AP 1 cP) [t]]) ∨ (v128 = .int .i64 1 ∧ m = 1 ∧ St (fun _ => False) W wx [pO g S' p', mapA mb (Value.int .u8) (Value.int .i64) M2, slc (Kd.int .u8) 5 (.slice AP 1 cP) [t]]))
                    case atStart => exact .inl ⟨rfl, rfl, H12.out.sub (by simp)⟩
                    case round =>
                      clear H12
                      rcases hrel with ⟨rfl, rfl, S13⟩ | ⟨rfl, rfl, S13⟩
                      · obtain ⟨gP, cP', hv, _, hcP⟩ := slc_form (S13.get 2 rfl) (by simp)
                        injection hv with hv1 hv3 hv2
                        clear hv3
                        subst hv1; subst hv2
                        have ct : wr.cell? ⟨gP, 0, none⟩ = some (.int .u8 t) := slc_int (S13.get 2 rfl) (i := 0) rfl
                        obtain ⟨bb, hbb⟩ : ∃ bb, (mget M1 t).isSome = bb := ⟨_, rfl⟩
                        have hlk := (S13.get 1 rfl : MapAt wr mb (Value.int .u8) (Value.int .i64) M1).run_lookup true Try.underlying53 keys5 t (.int .i64 0) zero3
                        rw [hbb] at hlk
                        simp only [if_true] at hlk
                        generalize (Option.map (Value.int IntKind.i64) (mget M1 t)).getD (.int .i64 0) = vv at hlk
                        have h2 := HM2.out
                        rw [hbb] at h2
                        have H13 := Lib.hid S13
                        clear S13 hbb
                        cases bb with
                        | true =>
                          have h2' : M1 = M2 := h2
                          have HE := Lib.hid h2'
                          clear h2 h2'
                          go_wp2_with fail
                          go_roundg 1
                          case measure => omega
                          case rel => exact .inr ⟨rfl, rfl, HE.out ▸ H13.out⟩
                        | false =>
                          have h2' : mput M1 t ((T : Int) + 1) = M2 := h2
                          have HE := Lib.hid h2'
                          clear h2 h2'
                          go_wp2_with (at_mapUpdate; refine wpList_mapUpdate rfl 53 5 3 _ _ _ rfl Try.underlying53 keys5 (Value.int .i64) mb _ (H13.out.get 1 rfl) t ((T : Int) + 1) rfl rfl rfl ?_; intro w9 M9 m9)
                          have S14 := H13.out.upd 1 rfl m9 (a' := mapA mb (Value.int .u8) (Value.int .i64) M2) (by rw [← HE.out]; exact M9) (fun k h => .inl h)
                          have H14 := Lib.hid S14
                          clear S14 M9 m9 hlk
                          go_roundg 1
                          case measure => omega
                          case rel => exact .inr ⟨rfl, rfl, H14.out⟩
                      · have H13 := Lib.hid S13
                        clear S13
                        go_wp2_with fail
                        go_roundg (ops.length - j)
                        case measure => omega
                        case rel =>
                          have hq := HQ.out
                          have hw := HWL.out
                          have FP := H9.out.2.1.ping t
                          rw [HM2.out, ← hq.2.2.1] at FP
                          exact ⟨j + 1, T + 1, p', M2, S', by go_num, by go_num, by omega, by omega, by omega, by omega, by omega, by rw [hq.2.2.2.1]; exact H5.out.2.2.2, hq.2.2.2.2, FP, H13.out.sub (by simp)⟩
                  · intro qk qv w8 hq hlq hR8 mR8 hen
                    have S12 := H11.out.next 1 rfl hR8 mR8
                    have hyg : (T : Int) + 1 - qv = 1 := H9.out.2.1.young H9.out.2.2 hq
                    have hcl := cntL_lt (p := (qk, qv)) hq hlq
                    have hv1 : -1 ≤ qv := by omega
                    have hv2 : qv ≤ 153 := by omega
                    have H12 := Lib.hid (And.intro S12 hcl)
                    clear S12 hR8 mR8 hlq hq hcl H11
                    go_wp2_with fail
                    go_roundg (cntL M1 left)
                    case measure => exact HCM.out
                    case rel => exact ⟨_, H12.out.2, H12.out.1⟩
          · obtain ⟨bb, hbb⟩ : ∃ bb, (mget M xn).isSome = bb := ⟨_, rfl⟩
            have hlk := (H5.out.1.get 1 rfl : MapAt w4 mb (Value.int .u8) (Value.int .i64) M).run_lookup true Try.underlying53 keys5 xn (.int .i64 0) zero3
            rw [hbb] at hlk
            simp only [if_true] at hlk
            generalize (Option.map (Value.int IntKind.i64) (mget M xn)).getD (.int .i64 0) = vv at hlk
            have hany : (p.waits.any fun x => x.f0 == xn) = bb := by rw [← H5.out.2.2.1.there]; exact hbb
            have HAN := Lib.hid hany
            clear hany hbb
            go_wp2_with fail
            refine (answer_st H5.out.1 0 rfl xn).mono ?_
            rintro e w5 ⟨rfl, S6⟩
            rw [HAN.out]
            have d3' : w5.cell? ⟨z, 3, none⟩ = some (.int .u8 xn) := S6.cell 2 rfl 3
            have H6 := Lib.hid S6
            clear S6 hlk d0 d1 d2 d3
            go_wp2_with (refine wpList_mapDelete rfl 53 5 3 _ _ rfl Try.underlying53 keys5 (Value.int .i64) mb M (H6.out.get 1 rfl) xn rfl rfl ?_; intro w6 M6 m6)
            have S7 := H6.out.upd 1 rfl m6 (a' := mapA mb (Value.int .u8) (Value.int .i64) (mdel M xn)) M6 (fun k h => .inl h)
            have H7 := Lib.hid (S7.drop 2)
            clear S7 M6 m6
            go_roundg (ops.length - j)
            case measure => omega
            case rel =>
              have hfl := List.length_filter_le (fun x : S82 => !(x.f0 == xn)) p.waits
              have hok := H5.out.2.1
              exact ⟨j + 1, T, ansF p xn, mdel M xn, S, rfl, by go_num, by omega, by omega, by omega, by omega, by show (p.waits.filter _).length ≤ j + 1; omega, H5.out.2.2.2, ⟨hok.n1, hok.n2, hok.rl, hok.pl0, hok.pl1, Nat.le_trans hfl hok.wl, fun u hu => hok.wf u (List.mem_filter.1 hu).1⟩, H5.out.2.2.1.ans xn, H7.out⟩
      · have hjl' : ¬ (j : Int) < (ops.length : Int) := by omega
        go_wp2_with fail
        go_meet
        exact ⟨p, M, T, S, H4.out.2.1, H4.out.1, by omega, H4.out.2.2.2⟩
  case rest =>
    clear H3 HC
    obtain ⟨p, M, T, S', FI, hok, hwl, S4⟩ := hcut
    have hlen := FI.len
    have HL := Lib.hid hlen
    have H4 := Lib.hid S4
    clear hlen S4 FI hok
    go_wp2_with fail
    refine (waits_st H4.out 0 rfl (by omega)).mono ?_
    rintro e w5 ⟨v, rfl, S5⟩
    obtain ⟨Av, cv, rfl⟩ := Kd.R_slice (S5.get 2 rfl).1
    have hln : (p.waits.map (·.f0)).length = M.length := by rw [List.length_map]; exact HL.out.symm
    rw [hln]
    have HM := Lib.hid (And.intro (S5.get 1 rfl) S5.base)
    clear S5 hln HL hwl H4
    go_wp2_with (at_len; refine wpList_mapLen rfl 53 5 3 _ rfl Try.underlying53 (Value.int .u8) (Value.int .i64) mb M HM.out.1 rfl ?_)
    go_ret
    exact ⟨by simp, HM.out.2⟩
theorem fails_row (a0 a1 : Int) (w0 : (Lit.int .u8 a0).wf = true) (w1 : (Lit.int .u8 a1).wf = true) (ops : List S43) (A : Option Addr) (c : Nat) (W : World) (hC : k43.C W A ops.length ops) (hg : ∀ x ∈ ops, g43 x) :
    Calls Try.prog 5 #[.int .u8 a0, .int .u8 a1, .slice A ops.length c] W fun e w' => e = .returned (.bool true) ∧ Below W.heap.size W w' := by
  have b0 := u8_wf w0
  have b1 := u8_wf w1
  obtain ⟨a, rfl⟩ : ∃ a : Nat, a0 = a := ⟨a0.toNat, by omega⟩
  obtain ⟨n, rfl⟩ : ∃ n : Nat, a1 = n := ⟨a1.toNat, by omega⟩
  exact fails_c a n (by omega) (by omega) ops A c W hC hg
end Go.Proofs.Ytjhmkmcongjngaa
