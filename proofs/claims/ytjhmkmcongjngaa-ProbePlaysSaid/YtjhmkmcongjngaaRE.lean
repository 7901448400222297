/- The document's Tick. -/
import Derived.Test.YtjhmkmcongjngaaRD
import Derived.Test.YtjhmkmcongjngaaLib
import Derived.Test.YtjhmkmcongjngaaQO
import Derived.Deep.RegionLaw
set_option linter.unusedVariables false
set_option linter.unusedSimpArgs false
namespace Go.Proofs.Ytjhmkmcongjngaa
open Go.RowKit Go.Tat Go.Proofs.YtjhmkmcongjngaaW.PrintWords PProbePlays
theorem zero32 : (Try.prog.info? 32).map (·.zero) = some (some (.agg #[.slice none 0 0, .slice none 0 0, .slice none 0 0])) := by kernel_rfl
theorem info80 : (Try.prog.info? 80).map (fun i => (i.zero, i.size, i.bytes)) = some (some (.agg #[.int .u8 0, .int .u8 0]), 2, 2) := by kernel_rfl
def Z32 : Array Value := #[.slice none 0 0, .slice none 0 0, .slice none 0 0]
def Z39 : Array Value := #[.int .u8 0, .int .i64 0, .slice none 0 0, .int .i64 0, .slice none 0 0, .int .i64 0]
theorem pass_take (s n x : Int) (hs : List Int) (ws : List S82) (j : Nat) (u : S82) (hj : ws[j]? = some u) : (ws.take (j + 1)).foldl (passF s n x hs) (⟨[], [], []⟩, []) = passF s n x hs ((ws.take j).foldl (passF s n x hs) (⟨[], [], []⟩, [])) u := by
  rw [List.take_add_one, hj, List.foldl_append]
  rfl
/-- The lengths, behind j of the waits. -/
theorem pass_lens (s n x : Int) (hs : List Int) : ∀ (ws : List S82) (st : Rd × List S82), (ws.foldl (passF s n x hs) st).1.asks.length ≤ st.1.asks.length + 2 * ws.length ∧ (ws.foldl (passF s n x hs) st).1.failed.length ≤ st.1.failed.length + ws.length ∧ (ws.foldl (passF s n x hs) st).2.length ≤ st.2.length + ws.length
  | [], st => by simp
  | u :: ws, st => by
    have h := pass_lens s n x hs ws (passF s n x hs st u)
    have h2 : (passF s n x hs st u).1.asks.length ≤ st.1.asks.length + 2 ∧ (passF s n x hs st u).1.failed.length ≤ st.1.failed.length + 1 ∧ (passF s n x hs st u).2.length ≤ st.2.length + 1 := by
      unfold passF
      have hh : (hlpF s n x hs u.f0).length ≤ 2 := hlp_le s n u.f0 _ _ (by decide)
      split
      · simp
      · simp; omega
    rw [List.foldl_cons, List.length_cons]
    omega
def tB (z3 z6 z7 z8 : Nat) (pv : Array Value) (vP vA vF v9 : Value) (T1 : Int) (rd : Rd) (left : List S82) : List Asr := [blk z3 pv 39, blk z6 Z32 32, blk z7 Z39 39, blk z8 #[vP, vA, vF] 32, slc k80 80 vA rd.asks, slc (Kd.int .u8) 5 vF rd.failed, slc (kW T1) 88 v9 left]
def rtickPost (w : World) (vR : Value) (p : Pr) (T1 x : Int) (hs : List Int) (e : Ending) (w' : World) : Prop :=
  ∃ vP vA vF vR' vW', e = .returned (.tuple #[.agg #[vP, vA, vF], .agg (pV p.self p.n vR' (tickF p x hs).2.place vW' T1)]) ∧
    ((vR' = vR ∧ (tickF p x hs).2.row = p.row ∧ St (fun _ => False) w w' [slc k80 80 vA (tickF p x hs).1.asks, slc (Kd.int .u8) 5 vF (tickF p x hs).1.failed, slc (kW T1) 88 vW' (tickF p x hs).2.waits, slc (Kd.int .u8) 5 vP (tickF p x hs).1.pings]) ∨
      St (fun _ => False) w w' [slc k80 80 vA (tickF p x hs).1.asks, slc (Kd.int .u8) 5 vF (tickF p x hs).1.failed, slc (kW T1) 88 vW' (tickF p x hs).2.waits, slc (Kd.int .u8) 5 vP (tickF p x hs).1.pings, slc (Kd.int .u8) 5 vR' (tickF p x hs).2.row])
theorem wk4 (k : Nat) (h : k ≤ 1000) : IntKind.u64.wrap (k : Int) = (k : Int) ∧ wrap64 ((k : Int) + 1) = ((k + 1 : Nat) : Int) ∧ wrap64 (k : Int) = (k : Int) ∧ wrap64 ((k : Int) - 1) = (k : Int) - 1 := by
  refine ⟨?_, ?_, ?_, ?_⟩
  · rw [IntKind.wrap_u64]; omega
  · unfold wrap64; omega
  · unfold wrap64; omega
  · unfold wrap64; omega
theorem km1 {i k : Nat} (h : i + 1 = k) : (k : Int) - 1 = (i : Int) := by omega
theorem one3 {a b c : Value} (ha : a.oneCell' = true) (hb : b.oneCell' = true) (hc : c.oneCell' = true) : ∀ v ∈ (#[a, b, c] : Array Value).toList, v.oneCell' = true := by
  intro v hv
  simp only [List.mem_cons, List.not_mem_nil, or_false] at hv
  rcases hv with rfl | rfl | rfl
  · exact ha
  · exact hb
  · exact hc
set_option maxRecDepth 100000 in
set_option maxHeartbeats 16000000 in
theorem rtick_c (s n pl T T1 : Int) (hT1 : wrap64 (T + 1) = T1) (hT2 : T1 = T + 1) (hTb : 0 ≤ T ∧ T ≤ 1000000) (row : List Int) (AR : Option Addr) (cR : Nat) (hrow : ∀ h ∈ row, 0 ≤ h ∧ h < 256) (hrl : (row.length : Int) = n - 1) (hn : 1 ≤ n ∧ n ≤ 64) (hpl : 0 ≤ pl ∧ pl ≤ row.length) (ws : List S82) (hws : ∀ u ∈ ws, u.f1 = 0 ∨ u.f1 = 1) (hwl : ws.length ≤ 1000) (x : Int) (hx : 0 ≤ x ∧ x < 18446744073709551616) (hs : List Int) (hsv : ∀ h ∈ hs, 0 ≤ h ∧ h < 256) (hsl : hs.length ≤ 1000000) (AW : Option Addr) (cW : Nat) (A : Option Addr) (c : Nat) (w : World)
    (hCR : (Kd.int .u8).C w AR row.length row) (hcR : row.length ≤ cR) (hCW : (kW T).C w AW ws.length ws) (hC : (Kd.int .u8).C w A hs.length hs) (hc : hs.length ≤ c) :
    Calls Try.prog 12 #[.agg (pV s n (.slice AR row.length cR) pl (.slice AW ws.length cW) T), .int .u64 x, .slice A hs.length c] w (rtickPost w (.slice AR row.length cR) ⟨s, n, row, pl, ws⟩ T1 x hs) := by
  obtain ⟨z3, hz⟩ : ∃ z, w.heap.size = z := ⟨_, rfl⟩
  obtain ⟨NR, hNR⟩ : ∃ NR, row.length = NR := ⟨_, rfl⟩
  have HRW := Lib.hid (And.intro hCR (And.intro hcR (And.intro hrow (And.intro hrl (And.intro hn (And.intro hpl hNR))))))
  rw [hNR]
  clear hCR hcR hrow hrl hn hpl hNR
  obtain ⟨NW, hNW⟩ : ∃ NW, ws.length = NW := ⟨_, rfl⟩
  obtain ⟨NH, hNH⟩ : ∃ NH, hs.length = NH := ⟨_, rfl⟩
  have HC := Lib.hid (And.intro hCW (And.intro hC (And.intro hc (And.intro hsv (And.intro hsl hws)))))
  have HNW := Lib.hid hNW
  have HNH := Lib.hid hNH
  have HT := Lib.hid (And.intro hT2 hTb)
  have HX := Lib.hid hx
  rw [hNW] at hwl ⊢
  rw [hNH]
  have S1 := (St.nil (fun _ => False) w).new' (pV s n (.slice AR NR cR) pl (.slice AW NW cW) T) 39 z3 hz
  have H1 := Lib.hid (show St (fun _ => False) w _ [blk z3 (pV s n (.slice AR NR cR) pl (.slice AW NW cW) T) 39] from S1)
  clear hCW hC hc hsv hsl hws hNW hNH hT2 hTb hx S1
  unfold pV at *
  go_enter Try.func12, Try.ntmps12
  go_upto_region 1 with (first
    | (refine St.wpAlloc rfl 32 rfl _ _ zero32 rfl H1.out ?_; intro z6 w2 H2)
    | (refine St.wpAlloc rfl 39 rfl _ _ zero39 rfl H2.out ?_; intro z7 w3 H3))
  clear H1 H2 hz
  go_upto_region 2 with fail
  obtain ⟨z8, hz8⟩ : ∃ z, w3.heap.size = z := ⟨_, rfl⟩
  have S4 := H3.out.new' #[.slice none 0 0, .slice none 0 0, .slice none 0 0] 32 z8 hz8
  rw [hz8]
  clear hz8
  generalize World.alloc w3 _ = w4 at *
  have d5 : w4.cell? ⟨z3, 5, none⟩ = some (.int .i64 T) := S4.cell 0 rfl 5
  have f5 := S4.frozen 0 rfl 5
  have S5 := S4.set 0 rfl 5 (.int .i64 T1)
  have H5 := Lib.hid S5
  clear S4 S5 H3
  go_upto_region 3 with fail
  generalize World.setCell w4 _ _ = w5 at *
  clear d5 f5 hT1
  go_upto_region 4 with fail
  obtain ⟨b9, hb9⟩ : ∃ b, w5.heap.size = b := ⟨_, rfl⟩
  have S6 := ((H5.out.nils k80 80).nils (Kd.int .u8) 5).empty (flW T1) 88 b9 hb9
  rw [hb9]
  clear hb9
  generalize World.alloc w5 _ = w6 at *
  have H6 := Lib.hid (show St (fun _ => False) w w6 (tB z3 z6 z7 z8 (pV s n (.slice AR NR cR) pl (.slice AW NW cW) T1) (.slice none 0 0) (.slice none 0 0) (.slice none 0 0) (.slice (some ⟨b9, 0, none⟩) 0 0) T1 ⟨[], [], []⟩ []) from S6)
  have d4 : w6.cell? ⟨z3, 4, none⟩ = some (.slice AW NW cW) := S6.cell 0 rfl 4
  clear S6 H5
  obtain ⟨st, hst⟩ : ∃ st, ws.foldl (passF s n x hs) (⟨[], [], []⟩, []) = st := ⟨_, rfl⟩
  have HST := Lib.hid hst
  clear hst
  go_upto_block 0 with fail
  clear d4
  go_cut [9] (fun v9 W => ∃ vA vF, St (fun _ => False) w W (tB z3 z6 z7 z8 (pV s n (.slice AR NR cR) pl (.slice AW NW cW) T1) (.slice none 0 0) vA vF v9 T1 st.1 st.2))
  case first =>
    go_wp2_with fail
    go_loopg [9, 29] (NW + 1) (fun m v9 v29 W => ∃ (j : Nat) (vA vF : Value), v29 = .int .i64 j ∧ j ≤ NW ∧ NW - j < m ∧ St (fun _ => False) w W (tB z3 z6 z7 z8 (pV s n (.slice AR NR cR) pl (.slice AW NW cW) T1) (.slice none 0 0) vA vF v9 T1 ((ws.take j).foldl (passF s n x hs) (⟨[], [], []⟩, [])).1 ((ws.take j).foldl (passF s n x hs) (⟨[], [], []⟩, [])).2))
    case atStart => exact ⟨0, _, _, rfl, by omega, by omega, H6.out⟩
    case round =>
      clear H6
      obtain ⟨j, vA, vF, rfl, hj, hjm, S7⟩ := hrel
      have hlens := pass_lens s n x hs (ws.take j) (⟨[], [], []⟩, [])
      obtain ⟨sj, hsj⟩ : ∃ sj, (ws.take j).foldl (passF s n x hs) (⟨[], [], []⟩, []) = sj := ⟨_, rfl⟩
      rw [hsj] at S7 hlens
      obtain ⟨⟨PS, AS, FS⟩, LS⟩ := sj
      have hlens2 : AS.length ≤ 2000 ∧ FS.length ≤ 1000 ∧ LS.length ≤ 1000 := by
        rw [List.length_take] at hlens
        simp only [List.length_nil] at hlens
        omega
      have S7' : St (fun _ => False) w wr [blk z3 #[.int .u8 s, .int .i64 n, .slice AR NR cR, .int .i64 pl, .slice AW NW cW, .int .i64 T1] 39, blk z6 Z32 32, blk z7 Z39 39, blk z8 #[.slice none 0 0, vA, vF] 32, slc k80 80 vA AS, slc (Kd.int .u8) 5 vF FS, slc (kW T1) 88 u9 LS] := S7
      obtain ⟨A9, c9, rfl⟩ := Kd.R_slice (S7'.get 6 rfl).1
      obtain ⟨AA, cA, rfl⟩ := Kd.R_slice (S7'.get 4 rfl).1
      obtain ⟨AF, cF, rfl⟩ := Kd.R_slice (S7'.get 5 rfl).1
      have HJ := Lib.hid (And.intro hsj (And.intro hlens2 (And.intro hj hjm)))
      clear hsj hlens hlens2 hjm S7
      by_cases hjl : j < NW
      · have hjl' : (j : Int) < (NW : Int) := by omega
        have hj0 : (0 : Int) ≤ (j : Int) := by omega
        have hjb : (j : Int) < 1000000 := by omega
        obtain ⟨u, hu⟩ : ∃ u, ws[j]? = some u := ⟨_, List.getElem?_eq_getElem (by rw [HNW.out]; exact hjl)⟩
        have hu01 := HC.out.2.2.2.2.2 u (List.mem_of_getElem? hu)
        obtain ⟨ad, b, o, cs, rfl, had, hb, hK, hcs⟩ := C_at HC.out.1 hu (by show 0 < 2; decide)
        have hK' : cs = eW T u := hK
        subst hK'
        have hnx := pass_take s n x hs ws j u hu
        rw [HJ.out.1] at hnx
        obtain ⟨xn, xa⟩ := u
        obtain ⟨sv, hsv⟩ : ∃ sv, T - xa = sv := ⟨_, rfl⟩
        have u0 : wr.cell? ⟨b, o, none⟩ = some (.int .u8 xn) := (S7'.base.cell (p := ⟨b, o, none⟩) hb).trans (hcs 0 _ rfl)
        have u1 : wr.cell? ⟨b, o + 1, none⟩ = some (.int .i64 sv) := by rw [← hsv]; exact (S7'.base.cell (p := ⟨b, o + 1, none⟩) hb).trans (hcs 1 _ rfl)
        have had' : ad.add (j * 2) = ⟨b, o, none⟩ := had
        have d4 : wr.cell? ⟨z3, 4, none⟩ = some (.slice (some ad) NW cW) := S7'.cell 0 rfl 4
        have hsub : wrap64 (T1 - sv) = xa + 1 := by
          have h1 := HT.out
          rw [h1.1, ← hsv]
          rcases hu01 with h | h <;> (have h' : xa = _ := h) <;> rw [h'] <;> unfold wrap64 <;> omega
        have HU := Lib.hid (And.intro hu (And.intro hu01 hsv))
        clear hu hcs had hb hK hj hsv
        go_upto_region 8 with fail
        have S8 := S7'.new' #[.int .u8 xn, .int .i64 sv] 88 wr.heap.size rfl
        obtain ⟨zw, hzw⟩ : ∃ z, wr.heap.size = z := ⟨_, rfl⟩
        rw [hzw] at S8 ⊢
        clear hzw
        generalize World.alloc wr _ = w8 at *
        have e5 : w8.cell? ⟨z3, 5, none⟩ = some (.int .i64 T1) := S8.cell 0 rfl 5
        have w0 : w8.cell? ⟨zw, 0, none⟩ = some (.int .u8 xn) := S8.cell 7 rfl 0
        have w1 : w8.cell? ⟨zw, 1, none⟩ = some (.int .i64 sv) := S8.cell 7 rfl 1
        clear u0 u1 d4 S7'
        rcases hu01 with h01 | h01
        · have hx0 : xa = 0 := h01
          subst hx0
          have hnx0 : passF s n x hs (⟨PS, AS, FS⟩, LS) ⟨xn, 0⟩ = (⟨PS, AS ++ (hlpF s n x hs xn).map fun h => ⟨h, xn⟩, FS⟩, LS ++ [⟨xn, 1⟩]) := rfl
          rw [hnx0] at hnx
          have HNX := Lib.hid hnx
          clear hnx hnx0 h01
          have e0 : w8.cell? ⟨z3, 0, none⟩ = some (.int .u8 s) := S8.cell 0 rfl 0
          have e1 : w8.cell? ⟨z3, 1, none⟩ = some (.int .i64 n) := S8.cell 0 rfl 1
          have e2 : w8.cell? ⟨z3, 2, none⟩ = some (.slice AR NR cR) := S8.cell 0 rfl 2
          have e3 : w8.cell? ⟨z3, 3, none⟩ = some (.int .i64 pl) := S8.cell 0 rfl 3
          have e4 : w8.cell? ⟨z3, 4, none⟩ = some (.slice (some ad) NW cW) := S8.cell 0 rfl 4
          have HTW := Lib.hid (rtwo_c s n pl T1 (.slice AR NR cR) (.slice (some ad) NW cW) x HX.out xn hs HC.out.2.2.2.1 A c w8 (Kd.C_below HC.out.2.1 S8.base) HC.out.2.2.1 HC.out.2.2.2.2.1)
          obtain ⟨hl, hhl⟩ : ∃ hl, hlpF s n x hs xn = hl := ⟨_, rfl⟩
          have hll : hl.length ≤ 2 := by rw [← hhl]; exact hlp_le s n xn _ _ (by decide)
          rw [hhl, HNH.out] at HTW
          rw [hhl] at HNX
          unfold pV at HTW
          have H8 := Lib.hid S8
          have HLL := Lib.hid hll
          have hsub1 : wrap64 (T1 - sv) = 1 := hsub
          clear S8 hhl hll hsub had'
          go_wp2_with fail
          refine HTW.out.mono ?_
          rintro e w9 ⟨vh, rfl, S9⟩
          obtain ⟨Ah, ch, rfl⟩ := Kd.R_slice (S9.get 0 rfl).1
          obtain ⟨M, hM⟩ : ∃ M, hl.length = M := ⟨_, rfl⟩
          have HM := Lib.hid hM
          have hll := HLL.out
          rw [hM] at S9 hll ⊢
          clear hsub1
          have H9 := Lib.hid (show St (fun _ => False) w w9 [blk z3 #[.int .u8 s, .int .i64 n, .slice AR NR cR, .int .i64 pl, .slice (some ad) NW cW, .int .i64 T1] 39, blk z6 Z32 32, blk z7 Z39 39, blk z8 #[.slice none 0 0, (.slice AA AS.length cA), .slice AF FS.length cF] 32, slc k80 80 (.slice AA AS.length cA) AS, slc (Kd.int .u8) 5 (.slice AF FS.length cF) FS, slc (kW T1) 88 (.slice A9 LS.length c9) LS, blk zw #[.int .u8 xn, .int .i64 sv] 88, slc (Kd.int .u8) 5 (.slice Ah M ch) hl] from H8.out.adds S9)
          clear S9 hM HTW H8 e0 e1 e2 e3 e4 e5 w0
          go_upto_block 2 with fail
          go_cut [] (fun W => ∃ vA', St (fun _ => False) w W [blk z3 #[.int .u8 s, .int .i64 n, .slice AR NR cR, .int .i64 pl, .slice (some ad) NW cW, .int .i64 T1] 39, blk z6 Z32 32, blk z7 Z39 39, blk z8 #[.slice none 0 0, vA', .slice AF FS.length cF] 32, slc k80 80 vA' (AS ++ hl.map (fun h => (⟨h, xn⟩ : S80))), slc (Kd.int .u8) 5 (.slice AF FS.length cF) FS, slc (kW T1) 88 (.slice A9 LS.length c9) LS, blk zw #[.int .u8 xn, .int .i64 sv] 88])
          case first =>
            go_wp2_with fail
            go_loopg [58] (M + 1) (fun m v58 W => ∃ (q : Nat) (vA' : Value), v58 = .int .i64 q ∧ q ≤ M ∧ M - q < m ∧ St (fun _ => False) w W [blk z3 #[.int .u8 s, .int .i64 n, .slice AR NR cR, .int .i64 pl, .slice (some ad) NW cW, .int .i64 T1] 39, blk z6 Z32 32, blk z7 Z39 39, blk z8 #[.slice none 0 0, vA', .slice AF FS.length cF] 32, slc k80 80 vA' (AS ++ (hl.take q).map (fun h => (⟨h, xn⟩ : S80))), slc (Kd.int .u8) 5 (.slice AF FS.length cF) FS, slc (kW T1) 88 (.slice A9 LS.length c9) LS, blk zw #[.int .u8 xn, .int .i64 sv] 88, slc (Kd.int .u8) 5 (.slice Ah M ch) hl])
            case atStart => exact ⟨0, _, rfl, by omega, by omega, by simpa using H9.out⟩
            case round =>
              clear H9
              obtain ⟨q, vA', rfl, hq, hqm, S10⟩ := hrel
              obtain ⟨AS2, hAS2⟩ : ∃ X, AS ++ (hl.take q).map (fun h => (⟨h, xn⟩ : S80)) = X := ⟨_, rfl⟩
              rw [hAS2] at S10
              have hASl : AS2.length ≤ 2002 := by
                rw [← hAS2, List.length_append, List.length_map, List.length_take]
                have := HJ.out.2.1
                omega
              obtain ⟨AB, cB, rfl⟩ := Kd.R_slice (S10.get 4 rfl).1
              have HQ := Lib.hid (And.intro hAS2 (And.intro hq hqm))
              clear hqm hAS2
              by_cases hql : q < M
              · have hql' : (q : Int) < (M : Int) := by omega
                have hq0 : (0 : Int) ≤ (q : Int) := by omega
                have hqb : (q : Int) < 1000000 := by omega
                obtain ⟨hq1, hhq⟩ : ∃ h, hl[q]? = some h := ⟨_, List.getElem?_eq_getElem (by rw [HM.out]; exact hql)⟩
                obtain ⟨gB, cG, hv, _, _⟩ := slc_form (S10.get 8 rfl) (by rw [HM.out]; omega)
                injection hv with hv1 hv3 hv2
                subst hv1; subst hv2
                clear hv3
                have c0 : wr.cell? ⟨gB, q, none⟩ = some (.int .u8 hq1) := slc_int (S10.get 8 rfl) hhq
                have w0 : wr.cell? ⟨zw, 0, none⟩ = some (.int .u8 xn) := S10.cell 7 rfl 0
                have k1 : wr.cell? ⟨z8, 1, none⟩ = some (.slice AB AS2.length cB) := S10.cell 3 rfl 1
                have ga : ∀ cs t, (wr.alloc (.cells cs t)).cell? ⟨z8, 1, none⟩ = some (.slice AB AS2.length cB) := fun cs t => (S10.new cs t).cell 3 rfl 1
                have HRA := Lib.hid (S10.get 4 rfl).1
                have HCAP := Lib.hid (show (AS2.length + 1) * 2 ≤ 140737488355328 by omega)
                have HHQ := Lib.hid hhq
                have H10 := Lib.hid S10
                clear S10 hhq hASl hq
                go_upto_region 14 with fail
                go_region_law
                  ((refine step_app1 (W := wr) k80 (by rfl) _ _ 30 80 (.agg #[.int .u8 0, .int .u8 0]) 2 rfl Try.underlying30 info80 rfl (by decide) (by decide) (.slice AB AS2.length cB) AS2 ⟨hq1, xn⟩ [.int .u8 hq1, .int .u8 xn] _ rfl rfl (k80_mkM _ _ _ ⟨hq1, xn⟩) HRA.out HCAP.out ?_; intro A15 c15 w15 R15 m15 o15; have S15 := H10.out.app 4 rfl rfl R15 m15 o15; have e15 : w15.cell? ⟨z8, 1, none⟩ = some (.slice AB AS2.length cB) := S15.cell 3 rfl 1; have f15 : w15.frozen? ⟨z8, 1, none⟩ = false := S15.frozen 3 rfl 1; have H15 := Lib.hid S15; clear S15 R15 m15 o15))
                all_goals
                  have H16 := Lib.hid (H15.out.set 3 rfl 1 (.slice A15 (AS2 ++ [(⟨hq1, xn⟩ : S80)]).length c15))
                  clear H15 c0 w0 k1 ga
                  go_wp2_with fail
                  go_roundg (M - q)
                  case measure => have := HQ.out; omega
                  case rel =>
                    have := HQ.out
                    have hnq : AS ++ (hl.take (q + 1)).map (fun h => (⟨h, xn⟩ : S80)) = AS2 ++ [⟨hq1, xn⟩] := by rw [List.take_add_one, HHQ.out, List.map_append, ← List.append_assoc, HQ.out.1]; rfl
                    exact ⟨q + 1, .slice A15 (AS2.length + 1) c15, by first | go_num | exact congrArg (Value.int .i64) (wsucc (i := q) (m := 1000000) (by omega) (by decide)), by omega, by omega, by rw [hnq]; have h16 := H16.out; rw [List.length_append, List.length_singleton] at h16; exact h16⟩
              · have hql' : ¬ (q : Int) < (M : Int) := by omega
                have e : AS2 = AS ++ hl.map (fun h => (⟨h, xn⟩ : S80)) := by have := HQ.out; rw [← HQ.out.1, show q = M by omega, ← HM.out, List.take_length]
                subst e
                have H10 := Lib.hid (S10.drop 8)
                clear S10 hq hASl
                go_wp2_with fail
                go_meet
                exact ⟨_, H10.out⟩
          case rest =>
            clear H9
            obtain ⟨vA', S10⟩ := hcut
            have w0 := S10.cell 7 rfl 0
            have w1 := S10.cell 7 rfl 1
            have HCAP := Lib.hid (show (LS.length + 1) * 16 ≤ 140737488355328 by have := HJ.out.2.1; omega)
            have HEW := Lib.hid (show eW T1 ⟨xn, 1⟩ = [.int .u8 xn, .int .i64 sv] by
              have h1 := HU.out.2.2
              have h2 := HT.out.1
              unfold eW
              rw [h2, ← h1]
              show [Value.int .u8 xn, Value.int .i64 (T + 1 - 1)] = [Value.int .u8 xn, Value.int .i64 (T - 0)]
              rw [show T + 1 - 1 = T - 0 by omega])
            have H10 := Lib.hid S10
            clear S10
            go_wp2_with (at_builtin; go_loud (refine St.wp1 (flW T1) rfl _ _ 37 88 _ 16 rfl Try.underlying37 infoW rfl (by show 0 < 2; decide) (by decide) H10.out 6 rfl ⟨xn, 1⟩ #[.int .u8 xn, .int .i64 sv] HEW.out rfl rfl HCAP.out ?_))
            intro T9 A10 c10 w11 h9
            have hT9 := h9.out.1
            have H11 := Lib.hid h9.out.2
            have HT9 := Lib.hid hT9
            clear h9 hT9 H10 w0 w1
            go_wp2_with fail
            go_roundg (NW - j)
            case measure => have := HJ.out; omega
            case rel =>
              have := HJ.out
              exact ⟨j + 1, _, _, by go_num, by omega, by omega, by rw [HNX.out, ← HT9.out]; exact H11.out.drop 7⟩
        · have hx1 : xa = 1 := h01
          subst hx1
          have hnx0 : passF s n x hs (⟨PS, AS, FS⟩, LS) ⟨xn, 1⟩ = (⟨PS, AS, FS ++ [xn]⟩, LS) := rfl
          rw [hnx0] at hnx
          have HNX := Lib.hid hnx
          have h8 : w8.cell? ⟨z8, 2, none⟩ = some (.slice AF FS.length cF) := S8.cell 3 rfl 2
          have HCAP := Lib.hid (show (FS.length + 1) * 1 ≤ 140737488355328 by have := HJ.out.2.1; omega)
          have H8 := Lib.hid S8
          clear hnx hnx0 h01 S8
          go_wp2_with (at_builtin; go_loud (refine St.wp1 (flInt .u8) rfl _ _ 28 5 _ 1 rfl Try.underlying28 infoU rfl (by decide) (by decide) H8.out 5 rfl xn #[.int .u8 xn] rfl rfl rfl HCAP.out ?_))
          intro T9 A10 c10 w9 h9
          have hT9 := h9.out.1
          have S9 := h9.out.2
          have f9 := S9.frozen 3 rfl 2
          have g9 := S9.cell 3 rfl 2
          have S10 := S9.set 3 rfl 2 (.slice A10 T9.length c10)
          have H10 := Lib.hid S10
          have HT9 := Lib.hid hT9
          clear h9 hT9 S9 S10 H8 e5 w0 w1 h8
          go_wp2_with fail
          go_roundg (NW - j)
          case measure => have := HJ.out; omega
          case rel =>
            have := HJ.out
            exact ⟨j + 1, _, _, by go_num, by omega, by omega, by rw [HNX.out, ← HT9.out]; exact H10.out.drop 7⟩
      · have hjl' : ¬ (j : Int) < (NW : Int) := by omega
        have e : st = (⟨PS, AS, FS⟩, LS) := by rw [← HST.out, ← HJ.out.1, show j = NW by omega, ← HNW.out, List.take_length]
        subst e
        have d4 : wr.cell? ⟨z3, 4, none⟩ = some (.slice AW NW cW) := S7'.cell 0 rfl 4
        have H7 := Lib.hid S7'
        clear hj S7'
        go_wp2_with fail
        go_meet
        exact ⟨_, _, H7.out⟩
  case rest =>
    clear H6
    obtain ⟨vA, vF, S7⟩ := hcut
    obtain ⟨⟨PS, AS, FS⟩, LS⟩ := st
    have hps : PS = [] := by have := pass_pings ⟨s, n, row, pl, ws⟩ x hs; unfold pass at this; rw [HST.out] at this; exact this
    subst hps
    have S7' : St (fun _ => False) w wc [blk z3 #[.int .u8 s, .int .i64 n, .slice AR NR cR, .int .i64 pl, .slice AW NW cW, .int .i64 T1] 39, blk z6 Z32 32, blk z7 Z39 39, blk z8 #[.slice none 0 0, vA, vF] 32, slc k80 80 vA AS, slc (Kd.int .u8) 5 vF FS, slc (kW T1) 88 u9 LS] := S7
    obtain ⟨A9, c9, rfl⟩ := Kd.R_slice (S7'.get 6 rfl).1
    obtain ⟨AA, cA, rfl⟩ := Kd.R_slice (S7'.get 4 rfl).1
    obtain ⟨AF, cF, rfl⟩ := Kd.R_slice (S7'.get 5 rfl).1
    have hlens := pass_lens s n x hs ws (⟨[], [], []⟩, [])
    rw [HST.out] at hlens
    have HLS := Lib.hid (show LS.length ≤ 1000 by have := HNW.out; simp only [List.length_nil] at hlens; omega)
    obtain ⟨NA, hNA⟩ : ∃ X, AS.length = X := ⟨_, rfl⟩
    obtain ⟨NF, hNF⟩ : ∃ X, FS.length = X := ⟨_, rfl⟩
    obtain ⟨NL, hNL⟩ : ∃ X, LS.length = X := ⟨_, rfl⟩
    rw [hNA, hNF, hNL] at S7'
    rw [hNL]
    have HNN := Lib.hid (And.intro hNA (And.intro hNF hNL))
    have d4 : wc.cell? ⟨z3, 4, none⟩ = some (.slice AW NW cW) := S7'.cell 0 rfl 4
    have f4 := S7'.frozen 0 rfl 4
    have S8 := S7'.set 0 rfl 4 (.slice A9 NL c9)
    have HPS : Hid (pass ⟨s, n, row, pl, ws⟩ x hs = (⟨[], AS, FS⟩, LS)) := Lib.hid (by unfold pass; exact HST.out)
    have H8 := Lib.hid (show St (fun _ => False) w _ [blk z3 #[.int .u8 s, .int .i64 n, .slice AR NR cR, .int .i64 pl, .slice A9 NL c9, .int .i64 T1] 39, blk z6 Z32 32, blk z7 Z39 39, blk z8 #[.slice none 0 0, .slice AA NA cA, .slice AF NF cF] 32, slc k80 80 (.slice AA NA cA) AS, slc (Kd.int .u8) 5 (.slice AF NF cF) FS, slc (kW T1) 88 (.slice A9 NL c9) LS] from S8)
    clear S7 S7' S8 hlens hNA hNF hNL HST
    go_upto_region 19 with fail
    generalize World.setCell wc _ _ = w8 at *
    clear d4 f4
    have e1 : w8.cell? ⟨z3, 1, none⟩ = some (.int .i64 n) := H8.out.cell 0 rfl 1
    by_cases hn1 : n = 1
    · subst hn1
      go_upto_region 20 with fail
      clear e1
      refine wp_region_held_drew (S := (fun w' => w'.cell? ⟨z8, 0, none⟩ = some (.slice none 0 0) ∧ w'.cell? ⟨z8, 1, none⟩ = some (.slice AA NA cA) ∧ w'.cell? ⟨z8, 2, none⟩ = some (.slice AF NF cF) ∧ w'.cell? ⟨z3, 0, none⟩ = some (.int .u8 s) ∧ w'.cell? ⟨z3, 1, none⟩ = some (.int .i64 1) ∧ w'.cell? ⟨z3, 2, none⟩ = some (.slice AR NR cR) ∧ w'.cell? ⟨z3, 3, none⟩ = some (.int .i64 pl) ∧ w'.cell? ⟨z3, 4, none⟩ = some (.slice A9 NL c9) ∧ w'.cell? ⟨z3, 5, none⟩ = some (.int .i64 T1))) (by kernel_rfl) ?_ (fun hHeld => ?_)
      · (try dsimp only); exact ⟨H8.out.drew.cell 3 rfl 0, H8.out.drew.cell 3 rfl 1, H8.out.drew.cell 3 rfl 2, H8.out.drew.cell 0 rfl 0, H8.out.drew.cell 0 rfl 1, H8.out.drew.cell 0 rfl 2, H8.out.drew.cell 0 rfl 3, H8.out.drew.cell 0 rfl 4, H8.out.drew.cell 0 rfl 5⟩
      refine wpAnyH_take (i := 0) (oi := ({ dst := some 84, op := Go.Op.load 32 (Go.Operand.tmp 8), type := 32, pos := "ref.go:78", after := #[], guard := none } : Oper)) (v := ?_) rfl (by kernel_rfl) (by kernel_rfl) (by kernel_rfl) (fun _ _ _ h => h) (Or.inl ⟨by rfl, ?_⟩) (by assumption) ?_
      rotate_left
      · (intro w hSw; (try dsimp only at hSw); go_simp; first | done | with_reducible rfl)
      try simp only [Act.put, List.setIfInBounds_toArray, List.set_cons_zero, List.set_cons_succ]
      refine wpAnyH_take (i := 1) (oi := ({ dst := some 85, op := Go.Op.load 39 (Go.Operand.tmp 3), type := 39, pos := "ref.go:78", after := #[{ on := 2, ground := Go.Ground.gcOnly Go.Departure.lateStores }], guard := none } : Oper)) (v := ?_) rfl (by kernel_rfl) (by kernel_rfl) (by kernel_rfl) (fun _ _ _ h => h) (Or.inl ⟨by rfl, ?_⟩) (by assumption) ?_
      rotate_left
      · (intro w hSw; (try dsimp only at hSw); go_simp; first | done | with_reducible rfl)
      try simp only [Act.put, List.setIfInBounds_toArray, List.set_cons_zero, List.set_cons_succ]
      refine wpAnyH_ready (rs := [2]) (by kernel_rfl) (by simp) ?_
      refine AllReadyH.cons (o := ({ dst := none, op := Go.Op.store 32 (Go.Operand.tmp 6) (Go.Operand.tmp 84), type := 0, pos := "ref.go:78", after := #[{ on := 0, ground := Go.Ground.data }, { on := 0, ground := Go.Ground.phase }, { on := 1, ground := Go.Ground.textOnly Go.Departure.lateStores }], guard := none } : Oper)) rfl (fun K hK => ?_) AllReadyH.nil
      refine St.stepStoreA (by rfl) 32 _ _ rfl H8.out.drew 1 rfl #[.slice none 0 0, .slice AA NA cA, .slice AF NF cF] rfl (one3 rfl rfl rfl) rfl rfl (by kernel_rfl) ?_
      intro wA HA
      refine hK.out _ _ ?_ (fun hHeld2 => ?_)
      · (try dsimp only); exact ⟨HA.out.cell 3 rfl 0, HA.out.cell 3 rfl 1, HA.out.cell 3 rfl 2, HA.out.cell 0 rfl 0, HA.out.cell 0 rfl 1, HA.out.cell 0 rfl 2, HA.out.cell 0 rfl 3, HA.out.cell 0 rfl 4, HA.out.cell 0 rfl 5⟩
      clear hK K hHeld
      try simp only [Act.put, List.setIfInBounds_toArray, List.set_cons_zero, List.set_cons_succ]
      refine wpAnyH_ready (rs := [3]) (by kernel_rfl) (by simp) ?_
      refine AllReadyH.cons (o := ({ dst := none, op := Go.Op.store 39 (Go.Operand.tmp 7) (Go.Operand.tmp 85), type := 0, pos := "ref.go:78", after := #[{ on := 1, ground := Go.Ground.data }, { on := 2, ground := Go.Ground.chain }, { on := 0, ground := Go.Ground.phase }, { on := 1, ground := Go.Ground.phase }, { on := 2, ground := Go.Ground.phase }], guard := none } : Oper)) rfl (fun K hK => ?_) AllReadyH.nil
      refine St.stepStoreA (by rfl) 39 _ _ rfl HA.out 2 rfl (#[.int .u8 s, .int .i64 1, .slice AR NR cR, .int .i64 pl, .slice A9 NL c9, .int .i64 T1] : Array Value) rfl (pV_one rfl rfl) rfl rfl (by kernel_rfl) ?_
      intro wB HB
      refine hK.out _ _ ?_ (fun hHeld3 => ?_)
      · (try dsimp only); exact ⟨HB.out.cell 3 rfl 0, HB.out.cell 3 rfl 1, HB.out.cell 3 rfl 2, HB.out.cell 0 rfl 0, HB.out.cell 0 rfl 1, HB.out.cell 0 rfl 2, HB.out.cell 0 rfl 3, HB.out.cell 0 rfl 4, HB.out.cell 0 rfl 5⟩
      clear hK K hHeld2
      try simp only [Act.put, List.setIfInBounds_toArray, List.set_cons_zero, List.set_cons_succ]
      refine wpAnyH_done (by kernel_rfl) ?_ _
      clear hHeld3 HA
      go_wp2_with fail
      refine bodyPost_ret (results_cc rfl _ _ z6 z7 32 39 #[.slice none 0 0, .slice AA NA cA, .slice AF NF cF] (#[.int .u8 s, .int .i64 1, .slice AR NR cR, .int .i64 pl, .slice A9 NL c9, .int .i64 T1] : Array Value) (0, 0) (0, 0) _ _ rfl (HB.out.get 1 rfl) Try.underlying32 rfl (by kernel_rfl) rfl (HB.out.get 2 rfl) Try.underlying39 rfl (by kernel_rfl)) rfl ?_
      have ht : tickF ⟨s, 1, row, pl, ws⟩ x hs = (⟨[], AS, FS⟩, ⟨s, 1, row, pl, LS⟩) := by unfold tickF; rw [HPS.out]; rfl
      unfold rtickPost
      rw [ht]
      exact ⟨_, _, _, _, _, rfl, .inl ⟨rfl, rfl, ((((HB.out.drop 0).drop 0).drop 0).drop 0).nils (Kd.int .u8) 5⟩⟩
    · have hn1b : (n == 1) = false := by simpa using hn1
      have HN1 := Lib.hid hn1
      obtain ⟨P, hP⟩ := Int.eq_ofNat_of_zero_le HRW.out.2.2.2.2.2.1.1
      subst hP
      have hPl : P ≤ NR := by have h1 := HRW.out.2.2.2.2.2.1.2; have h2 := HRW.out.2.2.2.2.2.2; omega
      have hnR : (NR : Int) = n - 1 := by rw [← HRW.out.2.2.2.2.2.2]; exact HRW.out.2.2.2.1
      have hN64 : NR ≤ 63 := by have := HRW.out.2.2.2.2.1; omega
      have hnm : wrap64 (n - 1) = (NR : Int) := by rw [← hnR]; unfold wrap64; omega
      have HNR := Lib.hid (And.intro hnR hN64)
      have e3 : w8.cell? ⟨z3, 3, none⟩ = some (.int .i64 (P : Int)) := H8.out.cell 0 rfl 3
      have HPL := Lib.hid hPl
      clear hn1 hnR hN64
      by_cases hpn : P = NR
      · have hpb : ((P : Int) == (NR : Int)) = true := by rw [hpn]; exact beq_self_eq_true _
        have HPE := Lib.hid hpn
        have hNR1 : 1 ≤ NR := by have h1 := HNR.out.1; have h2 := HN1.out; have h3 := HRW.out.2.2.2.2.1.1; omega
        have hn2 : wrap64 (n - 2) = ((NR - 1 : Nat) : Int) := by have h1 := HNR.out.1; have h2 := HNR.out.2; unfold wrap64; omega
        have HR1 := Lib.hid hNR1
        have HN2 := Lib.hid hn2
        have e2 : w8.cell? ⟨z3, 2, none⟩ = some (.slice AR NR cR) := H8.out.cell 0 rfl 2
        clear hpn hPl hNR1
        go_upto_region 23 with fail
        clear hpb hnm
        obtain ⟨b14, hb14⟩ : ∃ b, w8.heap.size = b := ⟨_, rfl⟩
        have S9 := H8.out.empty (flInt .u8) 5 b14 hb14
        rw [hb14]
        clear hb14 e1 e2 e3
        generalize World.alloc w8 _ = w9 at *
        have e2 : w9.cell? ⟨z3, 2, none⟩ = some (.slice AR NR cR) := S9.cell 0 rfl 2
        have H9 := Lib.hid S9
        clear S9 H8
        go_upto_region 24 with (at_builtin; go_loud (refine St.wpN (flInt .u8) rfl _ _ 28 5 _ 1 rfl Try.underlying28 infoU rfl (by decide) (by decide) H9.out 7 rfl row AR cR rfl (by rw [HRW.out.2.2.2.2.2.2]; rfl) (Kd.C_below HRW.out.1 H9.out.base) (by have h1 := HRW.out.2.2.2.2.2.2; have h2 := HNR.out.2; simp only [List.length_nil]; omega) ?_))
        intro X A14 c14 w10 h10
        have hX : X = row := h10.out.1
        have hX' := hX.symm
        subst hX'
        have H10 := Lib.hid h10.out.2
        clear h10 H9 e2
        rw [HRW.out.2.2.2.2.2.2] at H10 ⊢
        obtain ⟨gB, cB, hv, _, _⟩ := slc_form (H10.out.get 7 rfl) (by have h1 := HRW.out.2.2.2.2.2.2; have h2 := HR1.out; omega)
        injection hv with hv1 hv3 hv2
        subst hv1; subst hv2
        clear hv3
        have e1 : w10.cell? ⟨z3, 1, none⟩ = some (.int .i64 n) := H10.out.cell 0 rfl 1
        have hi0 : (0 : Int) ≤ ((NR - 1 : Nat) : Int) := by omega
        go_upto_block 4 with fail
        clear e1 hn2
        go_cut [] (fun W => ∃ X : List Int, X = mixRow x (NR - 1) row ∧ X.length = NR ∧ St (fun _ => False) w W [blk z3 #[.int .u8 s, .int .i64 n, .slice AR NR cR, .int .i64 (P : Int), .slice A9 NL c9, .int .i64 T1] 39, blk z6 Z32 32, blk z7 Z39 39, blk z8 #[.slice none 0 0, .slice AA NA cA, .slice AF NF cF] 32, slc k80 80 (.slice AA NA cA) AS, slc (Kd.int .u8) 5 (.slice AF NF cF) FS, slc (kW T1) 88 (.slice A9 NL c9) LS, slc (Kd.int .u8) 5 (.slice (some ⟨gB, 0, none⟩) NR c14) X])
        case first =>
          go_wp2_with fail
          go_loopg [15] (NR + 1) (fun m v15 W => ∃ (i : Nat) (X : List Int), v15 = .int .i64 i ∧ i ≤ NR - 1 ∧ i < m ∧ mixRow x i X = mixRow x (NR - 1) row ∧ X.length = NR ∧ St (fun _ => False) w W [blk z3 #[.int .u8 s, .int .i64 n, .slice AR NR cR, .int .i64 (P : Int), .slice A9 NL c9, .int .i64 T1] 39, blk z6 Z32 32, blk z7 Z39 39, blk z8 #[.slice none 0 0, .slice AA NA cA, .slice AF NF cF] 32, slc k80 80 (.slice AA NA cA) AS, slc (Kd.int .u8) 5 (.slice AF NF cF) FS, slc (kW T1) 88 (.slice A9 NL c9) LS, slc (Kd.int .u8) 5 (.slice (some ⟨gB, 0, none⟩) NR c14) X])
          case atStart => exact ⟨NR - 1, row, congrArg (Value.int .i64) HN2.out, by omega, by omega, rfl, HRW.out.2.2.2.2.2.2, H10.out⟩
          case round =>
            clear H10
            obtain ⟨i, X, rfl, hi, him, hmx, hXl, S11⟩ := hrel
            have HI := Lib.hid (And.intro hi (And.intro him (And.intro hmx hXl)))
            clear hi him hmx hXl
            cases i with
            | zero =>
              have H11 := Lib.hid S11
              clear S11
              go_wp2_with fail
              go_meet
              exact ⟨X, HI.out.2.2.1, HI.out.2.2.2, H11.out⟩
            | succ i =>
              obtain ⟨k, hk⟩ : ∃ k, i + 1 = k := ⟨_, rfl⟩
              have hkN : k < NR := by have := HI.out.1; have := HR1.out; omega
              have hkX : k < X.length := by rw [HI.out.2.2.2]; exact hkN
              obtain ⟨rv, hrv⟩ : ∃ rv, two x (k : Int) = rv := ⟨_, rfl⟩
              have hrv0 : 0 ≤ rv := by rw [← hrv]; exact (two_some x (k : Int)).2
              obtain ⟨jj, hjj⟩ : ∃ jj : Nat, rv % ((k + 1 : Nat) : Int) = (jj : Int) := ⟨(rv % ((k + 1 : Nat) : Int)).toNat, by have := (mod_bound rv (k + 1) (by omega)).1; omega⟩
              have hjk : jj < k + 1 := by have := (mod_bound rv (k + 1) (by omega)).2; omega
              obtain ⟨av, hav⟩ : ∃ v, X[k]? = some v := ⟨_, List.getElem?_eq_getElem hkX⟩
              obtain ⟨bv, hbv⟩ : ∃ v, X[jj]? = some v := ⟨_, List.getElem?_eq_getElem (by omega)⟩
              have hsw : mixRow x i ((X.set k bv).set jj av) = mixRow x (NR - 1) row := by
                rw [← HI.out.2.2.1, hk]
                have e1 : mixRow x (i + 1) X = mixRow x i (swp X (i + 1) ((two x ((i + 1 : Nat) : Int)) % ((i + 2 : Nat) : Int)).toNat) := rfl
                have e2 : ((two x ((i + 1 : Nat) : Int)) % ((i + 2 : Nat) : Int)).toNat = jj := by
                  rw [hk, hrv, show i + 2 = k + 1 by omega, hjj, Int.toNat_natCast]
                rw [← hk] at hav ⊢
                rw [e1, e2]
                unfold swp
                rw [List.getD_eq_getElem?_getD, List.getD_eq_getElem?_getD, hav, hbv]
                rfl
              have HTW := Lib.hid (fun W => rtwo01_c x (k : Int) HX.out W)
              rw [hrv] at HTW
              have HKK := Lib.hid (And.intro hk (And.intro hkN (And.intro hjk (And.intro hav (And.intro hbv hsw)))))
              have hkb : k ≤ 62 := by have := HNR.out.2; omega
              have hk1i : (1 : Int) ≤ (k : Int) := by omega
              have hk1j : ¬ ((k + 1 : Nat) : Int) = 0 := by omega
              have WK := wk4 k (Nat.le_trans hkb (by decide))
              have WK1 := wk4 (k + 1) (Nat.le_trans (Nat.succ_le_succ hkb) (by decide))
              have WJ := wk4 jj (Nat.le_trans (Nat.le_of_lt_succ hjk) (Nat.le_trans hkb (by decide)))
              have hw1 : IntKind.u64.wrap (k : Int) = (k : Int) := WK.1
              have hw2 : wrap64 ((k : Int) + 1) = ((k + 1 : Nat) : Int) := WK.2.1
              have hw3 : IntKind.u64.wrap ((k + 1 : Nat) : Int) = ((k + 1 : Nat) : Int) := WK1.1
              have hw4 : wrap64 (jj : Int) = (jj : Int) := WJ.2.2.1
              have hkge : decide ((1 : Int) ≤ (k : Int)) = true := decide_eq_true hk1i
              obtain ⟨k1, hk1⟩ : ∃ k1, ((k + 1 : Nat) : Int) = k1 := ⟨_, rfl⟩
              have hk1n : ¬ k1 = 0 := by rw [← hk1]; exact hk1j
              rw [hk1] at hw2 hw3 hjj
              have HW := Lib.hid (And.intro hw1 (And.intro hw2 (And.intro hw3 (And.intro hw4 (And.intro hjj (And.intro hkge (And.intro hrv0 hk1n)))))))
              rw [hk]
              have H11 := Lib.hid S11
              clear hkb hk1i hk1j WK WK1 WJ
              clear hk hkN hkX hrv hjk hav hbv hsw hk1 S11 hw1 hw2 hw3 hw4 hjj hkge hrv0 hk1n
              have hw1 := HW.out.1
              have hkge := HW.out.2.2.2.2.2.1
              go_wp2_with fail
              refine (HTW.out _).mono ?_
              rintro e w12 ⟨rfl, b12⟩
              have S12 := H11.out.below b12
              have hw2 := HW.out.2.1
              have hw3 := HW.out.2.2.1
              have hw4 := HW.out.2.2.2.1
              have hjj := HW.out.2.2.2.2.1
              have hrv0 := HW.out.2.2.2.2.2.2.1
              have hk1n := HW.out.2.2.2.2.2.2.2
              have ca : w12.cell? ⟨gB, k, none⟩ = some (.int .u8 av) := slc_int (S12.get 7 rfl) HKK.out.2.2.2.1
              have cb : w12.cell? ⟨gB, jj, none⟩ = some (.int .u8 bv) := slc_int (S12.get 7 rfl) HKK.out.2.2.2.2.1
              have fa : w12.frozen? ⟨gB, k, none⟩ = false := by have h := (S12.elem (flInt .u8) 7 rfl (i := k) (c := 0) HKK.out.2.2.2.1 (by decide)).2; rw [show k * (Kd.int .u8).sz + 0 = k from by show k * 1 + 0 = k; omega] at h; exact h
              have S13 := S12.put (flInt .u8) 7 rfl (i := k) (c := 0) (y := bv) (v := .int .u8 bv) HKK.out.2.2.2.1 (by decide) rfl
              rw [show k * (Kd.int .u8).sz + 0 = k from by show k * 1 + 0 = k; omega] at S13
              have H13 := Lib.hid S13
              have hk0 : (0 : Int) ≤ (k : Int) := by omega
              have hkN : (k : Int) < (NR : Int) := by have := HKK.out.2.1; omega
              have hj0 : (0 : Int) ≤ (jj : Int) := by omega
              have hjN : (jj : Int) < (NR : Int) := by have h1 := HKK.out.2.1; have h2 := HKK.out.2.2.1; omega
              clear S12 S13 b12 H11 HTW hw1 hkge
              go_upto_region 31 with fail
              clear hw2 hw3 hjj hrv0 hk1n ca cb fa
              generalize World.setCell w12 _ _ = w13 at *
              obtain ⟨b2, hb2⟩ : ∃ v, (X.set k bv)[jj]? = some v := ⟨_, List.getElem?_eq_getElem (by rw [List.length_set, HI.out.2.2.2]; have h1 := HKK.out.2.1; have h2 := HKK.out.2.2.1; omega)⟩
              have cb : w13.cell? ⟨gB, jj, none⟩ = some (.int .u8 b2) := slc_int (H13.out.get 7 rfl) hb2
              have fb : w13.frozen? ⟨gB, jj, none⟩ = false := by have h := (H13.out.elem (flInt .u8) 7 rfl (i := jj) (c := 0) hb2 (by decide)).2; rw [show jj * (Kd.int .u8).sz + 0 = jj from by show jj * 1 + 0 = jj; omega] at h; exact h
              have S14 := H13.out.put (flInt .u8) 7 rfl (i := jj) (c := 0) (y := av) (v := .int .u8 av) hb2 (by decide) rfl
              rw [show jj * (Kd.int .u8).sz + 0 = jj from by show jj * 1 + 0 = jj; omega] at S14
              have H14 := Lib.hid S14
              have hkm : wrap64 ((k : Int) - 1) = (i : Int) := by have h1 := HKK.out.1; have h2 := HNR.out.2; have h3 := HKK.out.2.1; rw [(wk4 k (Nat.le_trans (Nat.le_of_lt h3) (Nat.le_trans h2 (by decide)))).2.2.2]; exact km1 h1
              clear S14 H13 hb2
              go_wp2_with fail
              go_roundg (i + 1)
              case measure => have := HI.out.2.1; omega
              case rel =>
                have h1 := HI.out.1
                exact ⟨i, (X.set k bv).set jj av, congrArg (Value.int .i64) hkm, by omega, by omega, HKK.out.2.2.2.2.2, by rw [List.length_set, List.length_set]; exact HI.out.2.2.2, H14.out⟩
        case rest =>
          clear H10
          obtain ⟨X, hX, hXl, S11⟩ := hcut
          have e2 := S11.cell 0 rfl 2
          have f2 := S11.frozen 0 rfl 2
          have S12 := S11.set 0 rfl 2 (.slice (some ⟨gB, 0, none⟩) NR c14)
          have H12 := Lib.hid S12
          clear S11 S12
          go_upto_region 33 with fail
          generalize World.setCell _ _ _ = w12 at *
          clear e2 f2
          have e3 := H12.out.cell 0 rfl 3
          have f3 := H12.out.frozen 0 rfl 3
          have HT8 := Lib.hid (show St (fun _ => False) w _ [blk z3 #[.int .u8 s, .int .i64 n, .slice (some ⟨gB, 0, none⟩) NR c14, .int .i64 0, .slice A9 NL c9, .int .i64 T1] 39, blk z6 Z32 32, blk z7 Z39 39, blk z8 #[.slice none 0 0, .slice AA NA cA, .slice AF NF cF] 32, slc k80 80 (.slice AA NA cA) AS, slc (Kd.int .u8) 5 (.slice AF NF cF) FS, slc (kW T1) 88 (.slice A9 NL c9) LS, slc (Kd.int .u8) 5 (.slice (some ⟨gB, 0, none⟩) NR c14) X] from H12.out.set 0 rfl 3 (.int .i64 0))
          obtain ⟨t, ht⟩ : ∃ t, X[0]? = some t := ⟨_, List.getElem?_eq_getElem (by rw [hXl]; exact HR1.out)⟩
          have HTT := Lib.hid (And.intro ht (And.intro hX hXl))
          clear hX hXl ht H12
          go_upto_region 34 with fail
          generalize World.setCell w12 _ _ = wt at *
          clear e3 f3
          have ut : wt.cell? ⟨gB, 0, none⟩ = some (.int .u8 t) := slc_int (HT8.out.get 7 rfl) HTT.out.1
          have e2 : wt.cell? ⟨z3, 2, none⟩ = some (.slice (some ⟨gB, 0, none⟩) NR c14) := HT8.out.cell 0 rfl 2
          have e3 : wt.cell? ⟨z3, 3, none⟩ = some (.int .i64 0) := HT8.out.cell 0 rfl 3
          have e1 : wt.cell? ⟨z3, 1, none⟩ = some (.int .i64 n) := HT8.out.cell 0 rfl 1
          have hNp : (0 : Int) < (NR : Int) := by have := HR1.out; omega
          go_upto_region 35 with fail
          have f3 := HT8.out.frozen 0 rfl 3
          have H9 := Lib.hid (HT8.out.set 0 rfl 3 (.int .i64 1))
          go_upto_region 36 with fail
          generalize World.setCell wt _ _ = w9 at *
          clear e1 e2 e3 f3 ut
          obtain ⟨zp, hzp⟩ : ∃ z, w9.heap.size = z := ⟨_, rfl⟩
          have H10 := Lib.hid (H9.out.new' #[.int .u8 t] 5 zp hzp)
          have g0 : (w9.alloc (.cells #[.int .u8 t] 5)).cell? ⟨z8, 0, none⟩ = some (.slice none 0 0) := H10.out.cell 3 rfl 0
          have h0 : (w9.alloc (.cells #[.int .u8 t] 5)).frozen? ⟨z8, 0, none⟩ = false := H10.out.frozen 3 rfl 0
          have H11 := Lib.hid (H10.out.set 3 rfl 0 (.slice (some ⟨zp, 0, none⟩) 1 1))
          clear H9
          go_upto_region 37 with fail
          first | rw [hzp] | skip
          generalize World.setCell (World.alloc w9 _) _ _ = w11 at *
          clear g0 h0 hzp H10
          have e0 : w11.cell? ⟨z3, 0, none⟩ = some (.int .u8 s) := H11.out.cell 0 rfl 0
          have e1 : w11.cell? ⟨z3, 1, none⟩ = some (.int .i64 n) := H11.out.cell 0 rfl 1
          have e2 : w11.cell? ⟨z3, 2, none⟩ = some (.slice (some ⟨gB, 0, none⟩) NR c14) := H11.out.cell 0 rfl 2
          have e3 : w11.cell? ⟨z3, 3, none⟩ = some (.int .i64 1) := H11.out.cell 0 rfl 3
          have e4 : w11.cell? ⟨z3, 4, none⟩ = some (.slice A9 NL c9) := H11.out.cell 0 rfl 4
          have e5 : w11.cell? ⟨z3, 5, none⟩ = some (.int .i64 T1) := H11.out.cell 0 rfl 5
          obtain ⟨bb, hbb⟩ : ∃ bb, (LS.any fun u => u.f0 == t) = bb := ⟨_, rfl⟩
          have HWT := Lib.hid (rwaiting_c T1 LS t s n 1 T1 (.slice (some ⟨gB, 0, none⟩) NR c14) A9 c9 w11 (HNN.out.2.2 ▸ (Kd.R_reads' (H11.out.get 6 rfl).1).2.2) (by have := HLS.out; omega))
          rw [hbb, HNN.out.2.2] at HWT
          unfold pV at HWT
          have HBB := Lib.hid hbb
          clear hbb
          go_wp2_with fail
          refine HWT.out.mono ?_
          rintro e w12 ⟨rfl, b12⟩
          have H12 := Lib.hid (H11.out.below b12)
          clear b12 HWT H11 e0 e1 e2 e3 e4 e5
          cases bb with
          | true =>
            go_upto_region 39 with fail
            refine wp_region_held_drew (S := (fun w' => w'.cell? ⟨z8, 0, none⟩ = some (.slice (some ⟨zp, 0, none⟩) 1 1) ∧ w'.cell? ⟨z8, 1, none⟩ = some (.slice AA NA cA) ∧ w'.cell? ⟨z8, 2, none⟩ = some (.slice AF NF cF) ∧ w'.cell? ⟨z3, 0, none⟩ = some (.int .u8 s) ∧ w'.cell? ⟨z3, 1, none⟩ = some (.int .i64 n) ∧ w'.cell? ⟨z3, 2, none⟩ = some (.slice (some ⟨gB, 0, none⟩) NR c14) ∧ w'.cell? ⟨z3, 3, none⟩ = some (.int .i64 1) ∧ w'.cell? ⟨z3, 4, none⟩ = some (.slice A9 NL c9) ∧ w'.cell? ⟨z3, 5, none⟩ = some (.int .i64 T1))) (by kernel_rfl) ?_ (fun hHeld => ?_)
            · (try dsimp only); exact ⟨H12.out.drew.cell 3 rfl 0, H12.out.drew.cell 3 rfl 1, H12.out.drew.cell 3 rfl 2, H12.out.drew.cell 0 rfl 0, H12.out.drew.cell 0 rfl 1, H12.out.drew.cell 0 rfl 2, H12.out.drew.cell 0 rfl 3, H12.out.drew.cell 0 rfl 4, H12.out.drew.cell 0 rfl 5⟩
            refine wpAnyH_take (i := 0) (oi := ({ dst := some 158, op := Go.Op.load 32 (Go.Operand.tmp 8), type := 32, pos := "ref.go:99", after := #[], guard := none } : Oper)) (v := ?_) rfl (by kernel_rfl) (by kernel_rfl) (by kernel_rfl) (fun _ _ _ h => h) (Or.inl ⟨by rfl, ?_⟩) (by assumption) ?_
            rotate_left
            · (intro w hSw; (try dsimp only at hSw); go_simp; first | done | with_reducible rfl)
            try simp only [Act.put, List.setIfInBounds_toArray, List.set_cons_zero, List.set_cons_succ]
            refine wpAnyH_take (i := 1) (oi := ({ dst := some 159, op := Go.Op.load 39 (Go.Operand.tmp 3), type := 39, pos := "ref.go:99", after := #[{ on := 2, ground := Go.Ground.gcOnly Go.Departure.lateStores }], guard := none } : Oper)) (v := ?_) rfl (by kernel_rfl) (by kernel_rfl) (by kernel_rfl) (fun _ _ _ h => h) (Or.inl ⟨by rfl, ?_⟩) (by assumption) ?_
            rotate_left
            · (intro w hSw; (try dsimp only at hSw); go_simp; first | done | with_reducible rfl)
            try simp only [Act.put, List.setIfInBounds_toArray, List.set_cons_zero, List.set_cons_succ]
            refine wpAnyH_ready (rs := [2]) (by kernel_rfl) (by simp) ?_
            refine AllReadyH.cons (o := ({ dst := none, op := Go.Op.store 32 (Go.Operand.tmp 6) (Go.Operand.tmp 158), type := 0, pos := "ref.go:99", after := #[{ on := 0, ground := Go.Ground.data }, { on := 0, ground := Go.Ground.phase }, { on := 1, ground := Go.Ground.textOnly Go.Departure.lateStores }], guard := none } : Oper)) rfl (fun K hK => ?_) AllReadyH.nil
            refine St.stepStoreA (by rfl) 32 _ _ rfl H12.out.drew 1 rfl #[.slice (some ⟨zp, 0, none⟩) 1 1, .slice AA NA cA, .slice AF NF cF] rfl (one3 rfl rfl rfl) rfl rfl (by kernel_rfl) ?_
            intro wA HA
            refine hK.out _ _ ?_ (fun hHeld2 => ?_)
            · (try dsimp only); exact ⟨HA.out.cell 3 rfl 0, HA.out.cell 3 rfl 1, HA.out.cell 3 rfl 2, HA.out.cell 0 rfl 0, HA.out.cell 0 rfl 1, HA.out.cell 0 rfl 2, HA.out.cell 0 rfl 3, HA.out.cell 0 rfl 4, HA.out.cell 0 rfl 5⟩
            clear hK K hHeld
            try simp only [Act.put, List.setIfInBounds_toArray, List.set_cons_zero, List.set_cons_succ]
            refine wpAnyH_ready (rs := [3]) (by kernel_rfl) (by simp) ?_
            refine AllReadyH.cons (o := ({ dst := none, op := Go.Op.store 39 (Go.Operand.tmp 7) (Go.Operand.tmp 159), type := 0, pos := "ref.go:99", after := #[{ on := 1, ground := Go.Ground.data }, { on := 2, ground := Go.Ground.chain }, { on := 0, ground := Go.Ground.phase }, { on := 1, ground := Go.Ground.phase }, { on := 2, ground := Go.Ground.phase }], guard := none } : Oper)) rfl (fun K hK => ?_) AllReadyH.nil
            refine St.stepStoreA (by rfl) 39 _ _ rfl HA.out 2 rfl (#[.int .u8 s, .int .i64 n, .slice (some ⟨gB, 0, none⟩) NR c14, .int .i64 1, .slice A9 NL c9, .int .i64 T1] : Array Value) rfl (pV_one rfl rfl) rfl rfl (by kernel_rfl) ?_
            intro wB HB
            refine hK.out _ _ ?_ (fun hHeld3 => ?_)
            · (try dsimp only); exact ⟨HB.out.cell 3 rfl 0, HB.out.cell 3 rfl 1, HB.out.cell 3 rfl 2, HB.out.cell 0 rfl 0, HB.out.cell 0 rfl 1, HB.out.cell 0 rfl 2, HB.out.cell 0 rfl 3, HB.out.cell 0 rfl 4, HB.out.cell 0 rfl 5⟩
            clear hK K hHeld2
            try simp only [Act.put, List.setIfInBounds_toArray, List.set_cons_zero, List.set_cons_succ]
            refine wpAnyH_done (by kernel_rfl) ?_ _
            clear hHeld3 HA
            go_wp2_with fail
            refine bodyPost_ret (results_cc rfl _ _ z6 z7 32 39 #[.slice (some ⟨zp, 0, none⟩) 1 1, .slice AA NA cA, .slice AF NF cF] (#[.int .u8 s, .int .i64 n, .slice (some ⟨gB, 0, none⟩) NR c14, .int .i64 1, .slice A9 NL c9, .int .i64 T1] : Array Value) (0, 0) (0, 0) _ _ rfl (HB.out.get 1 rfl) Try.underlying32 rfl (by kernel_rfl) rfl (HB.out.get 2 rfl) Try.underlying39 rfl (by kernel_rfl)) rfl ?_
            have htk : tickF ⟨s, n, row, (P : Int), ws⟩ x hs = (⟨[t], AS, FS⟩, ⟨s, n, X, 1, LS⟩) := by
              have hpr : (P : Int) = (row.length : Int) := by rw [HRW.out.2.2.2.2.2.2, HPE.out]
              have hXX : mixRow x (row.length - 1) row = X := by rw [HRW.out.2.2.2.2.2.2]; exact HTT.out.2.1.symm
              have hgd : X.getD 0 0 = t := by rw [List.getD_eq_getElem?_getD, HTT.out.1]; rfl
              unfold tickF
              rw [HPS.out]
              simp only []
              rw [if_neg HN1.out]
              unfold turned
              rw [if_pos hpr]
              unfold pinged
              simp only [hXX, Int.toNat_zero, hgd, List.nil_append]
              rw [HBB.out]
              rfl
            unfold rtickPost
            rw [htk]
            have S20 := (((HB.out.drop 0).drop 0).drop 0).drop 0
            have S21 := S20.upd 4 rfl (Mod.refl _ _) (a' := slc (Kd.int .u8) 5 (.slice (some ⟨zp, 0, none⟩) 1 1) [t]) (lit_slc (flInt .u8) (S20.get 4 rfl) rfl (by show 1 ≤ maxLen; decide)) (fun k hk => .inl (show zp = k by simpa [slcF, Value.ownBlock] using hk).symm)
            have S22 := S21.perm (.cons _ (.cons _ (.cons _ (.swap _ _ _))))
            exact ⟨_, _, _, _, _, rfl, .inr S22⟩
          | false =>
            have e4 : w12.cell? ⟨z3, 4, none⟩ = some (.slice A9 NL c9) := H12.out.cell 0 rfl 4
            have e5 : w12.cell? ⟨z3, 5, none⟩ = some (.int .i64 T1) := H12.out.cell 0 rfl 5
            have HCAP := Lib.hid (show (LS.length + 1) * 16 ≤ 140737488355328 by have := HLS.out; omega)
            have HEW := Lib.hid (show eW T1 ⟨t, 0⟩ = [.int .u8 t, .int .i64 T1] by unfold eW; rw [Int.sub_zero])
            have H12' := H12
            clear H12
            go_upto_region 39 with (at_builtin; go_loud (refine St.wp1 (flW T1) rfl _ _ 37 88 _ 16 rfl Try.underlying37 infoW rfl (by show 0 < 2; decide) (by decide) H12'.out 6 rfl ⟨t, 0⟩ #[.int .u8 t, .int .i64 T1] HEW.out rfl rfl HCAP.out ?_))
            intro T9 A10 c10 w13 h9
            have hT9 := h9.out.1
            have S13 := h9.out.2
            have f4 := S13.frozen 0 rfl 4
            have g4 := S13.cell 0 rfl 4
            obtain ⟨N9, hN9⟩ : ∃ X, T9.length = X := ⟨_, rfl⟩
            rw [hN9] at S13
            rw [hN9]
            have H14 := Lib.hid (S13.set 0 rfl 4 (.slice A10 N9 c10))
            have HT9 := Lib.hid (And.intro hT9 hN9)
            clear h9 hT9 S13 H12' e4 e5 hN9
            go_upto_region 39 with fail
            generalize World.setCell w13 _ _ = w14 at *
            clear f4 g4
            refine wp_region_held_drew (S := (fun w' => w'.cell? ⟨z8, 0, none⟩ = some (.slice (some ⟨zp, 0, none⟩) 1 1) ∧ w'.cell? ⟨z8, 1, none⟩ = some (.slice AA NA cA) ∧ w'.cell? ⟨z8, 2, none⟩ = some (.slice AF NF cF) ∧ w'.cell? ⟨z3, 0, none⟩ = some (.int .u8 s) ∧ w'.cell? ⟨z3, 1, none⟩ = some (.int .i64 n) ∧ w'.cell? ⟨z3, 2, none⟩ = some (.slice (some ⟨gB, 0, none⟩) NR c14) ∧ w'.cell? ⟨z3, 3, none⟩ = some (.int .i64 1) ∧ w'.cell? ⟨z3, 4, none⟩ = some (.slice A10 N9 c10) ∧ w'.cell? ⟨z3, 5, none⟩ = some (.int .i64 T1))) (by kernel_rfl) ?_ (fun hHeld => ?_)
            · (try dsimp only); exact ⟨H14.out.drew.cell 3 rfl 0, H14.out.drew.cell 3 rfl 1, H14.out.drew.cell 3 rfl 2, H14.out.drew.cell 0 rfl 0, H14.out.drew.cell 0 rfl 1, H14.out.drew.cell 0 rfl 2, H14.out.drew.cell 0 rfl 3, H14.out.drew.cell 0 rfl 4, H14.out.drew.cell 0 rfl 5⟩
            refine wpAnyH_take (i := 0) (oi := ({ dst := some 158, op := Go.Op.load 32 (Go.Operand.tmp 8), type := 32, pos := "ref.go:99", after := #[], guard := none } : Oper)) (v := ?_) rfl (by kernel_rfl) (by kernel_rfl) (by kernel_rfl) (fun _ _ _ h => h) (Or.inl ⟨by rfl, ?_⟩) (by assumption) ?_
            rotate_left
            · (intro w hSw; (try dsimp only at hSw); go_simp; first | done | with_reducible rfl)
            try simp only [Act.put, List.setIfInBounds_toArray, List.set_cons_zero, List.set_cons_succ]
            refine wpAnyH_take (i := 1) (oi := ({ dst := some 159, op := Go.Op.load 39 (Go.Operand.tmp 3), type := 39, pos := "ref.go:99", after := #[{ on := 2, ground := Go.Ground.gcOnly Go.Departure.lateStores }], guard := none } : Oper)) (v := ?_) rfl (by kernel_rfl) (by kernel_rfl) (by kernel_rfl) (fun _ _ _ h => h) (Or.inl ⟨by rfl, ?_⟩) (by assumption) ?_
            rotate_left
            · (intro w hSw; (try dsimp only at hSw); go_simp; first | done | with_reducible rfl)
            try simp only [Act.put, List.setIfInBounds_toArray, List.set_cons_zero, List.set_cons_succ]
            refine wpAnyH_ready (rs := [2]) (by kernel_rfl) (by simp) ?_
            refine AllReadyH.cons (o := ({ dst := none, op := Go.Op.store 32 (Go.Operand.tmp 6) (Go.Operand.tmp 158), type := 0, pos := "ref.go:99", after := #[{ on := 0, ground := Go.Ground.data }, { on := 0, ground := Go.Ground.phase }, { on := 1, ground := Go.Ground.textOnly Go.Departure.lateStores }], guard := none } : Oper)) rfl (fun K hK => ?_) AllReadyH.nil
            refine St.stepStoreA (by rfl) 32 _ _ rfl H14.out.drew 1 rfl #[.slice (some ⟨zp, 0, none⟩) 1 1, .slice AA NA cA, .slice AF NF cF] rfl (one3 rfl rfl rfl) rfl rfl (by kernel_rfl) ?_
            intro wA HA
            refine hK.out _ _ ?_ (fun hHeld2 => ?_)
            · (try dsimp only); exact ⟨HA.out.cell 3 rfl 0, HA.out.cell 3 rfl 1, HA.out.cell 3 rfl 2, HA.out.cell 0 rfl 0, HA.out.cell 0 rfl 1, HA.out.cell 0 rfl 2, HA.out.cell 0 rfl 3, HA.out.cell 0 rfl 4, HA.out.cell 0 rfl 5⟩
            clear hK K hHeld
            try simp only [Act.put, List.setIfInBounds_toArray, List.set_cons_zero, List.set_cons_succ]
            refine wpAnyH_ready (rs := [3]) (by kernel_rfl) (by simp) ?_
            refine AllReadyH.cons (o := ({ dst := none, op := Go.Op.store 39 (Go.Operand.tmp 7) (Go.Operand.tmp 159), type := 0, pos := "ref.go:99", after := #[{ on := 1, ground := Go.Ground.data }, { on := 2, ground := Go.Ground.chain }, { on := 0, ground := Go.Ground.phase }, { on := 1, ground := Go.Ground.phase }, { on := 2, ground := Go.Ground.phase }], guard := none } : Oper)) rfl (fun K hK => ?_) AllReadyH.nil
            refine St.stepStoreA (by rfl) 39 _ _ rfl HA.out 2 rfl (#[.int .u8 s, .int .i64 n, .slice (some ⟨gB, 0, none⟩) NR c14, .int .i64 1, .slice A10 N9 c10, .int .i64 T1] : Array Value) rfl (pV_one rfl rfl) rfl rfl (by kernel_rfl) ?_
            intro wB HB
            refine hK.out _ _ ?_ (fun hHeld3 => ?_)
            · (try dsimp only); exact ⟨HB.out.cell 3 rfl 0, HB.out.cell 3 rfl 1, HB.out.cell 3 rfl 2, HB.out.cell 0 rfl 0, HB.out.cell 0 rfl 1, HB.out.cell 0 rfl 2, HB.out.cell 0 rfl 3, HB.out.cell 0 rfl 4, HB.out.cell 0 rfl 5⟩
            clear hK K hHeld2
            try simp only [Act.put, List.setIfInBounds_toArray, List.set_cons_zero, List.set_cons_succ]
            refine wpAnyH_done (by kernel_rfl) ?_ _
            clear hHeld3 HA
            go_wp2_with fail
            refine bodyPost_ret (results_cc rfl _ _ z6 z7 32 39 #[.slice (some ⟨zp, 0, none⟩) 1 1, .slice AA NA cA, .slice AF NF cF] (#[.int .u8 s, .int .i64 n, .slice (some ⟨gB, 0, none⟩) NR c14, .int .i64 1, .slice A10 N9 c10, .int .i64 T1] : Array Value) (0, 0) (0, 0) _ _ rfl (HB.out.get 1 rfl) Try.underlying32 rfl (by kernel_rfl) rfl (HB.out.get 2 rfl) Try.underlying39 rfl (by kernel_rfl)) rfl ?_
            have htk : tickF ⟨s, n, row, (P : Int), ws⟩ x hs = (⟨[t], AS, FS⟩, ⟨s, n, X, 1, LS ++ [⟨t, 0⟩]⟩) := by
              have hpr : (P : Int) = (row.length : Int) := by rw [HRW.out.2.2.2.2.2.2, HPE.out]
              have hXX : mixRow x (row.length - 1) row = X := by rw [HRW.out.2.2.2.2.2.2]; exact HTT.out.2.1.symm
              have hgd : X.getD 0 0 = t := by rw [List.getD_eq_getElem?_getD, HTT.out.1]; rfl
              unfold tickF
              rw [HPS.out]
              simp only []
              rw [if_neg HN1.out]
              unfold turned
              rw [if_pos hpr]
              unfold pinged
              simp only [hXX, Int.toNat_zero, hgd, List.nil_append]
              rw [HBB.out]
              rfl
            unfold rtickPost
            rw [htk]
            have S20 := (((HB.out.drop 0).drop 0).drop 0).drop 0
            have S21 := S20.upd 4 rfl (Mod.refl _ _) (a' := slc (Kd.int .u8) 5 (.slice (some ⟨zp, 0, none⟩) 1 1) [t]) (lit_slc (flInt .u8) (S20.get 4 rfl) rfl (by show 1 ≤ maxLen; decide)) (fun k hk => .inl (show zp = k by simpa [slcF, Value.ownBlock] using hk).symm)
            have S22 := S21.perm (.cons _ (.cons _ (.cons _ (.swap _ _ _))))
            rw [← HT9.out.1]
            exact ⟨_, _, _, _, _, rfl, .inr S22⟩
      · have hpb : ((P : Int) == (NR : Int)) = false := by
          have : ¬ (P : Int) = (NR : Int) := by omega
          simpa using this
        have hPlt : P < NR := by omega
        obtain ⟨t, ht⟩ : ∃ t, row[P]? = some t := ⟨_, List.getElem?_eq_getElem (by have := HRW.out.2.2.2.2.2.2; omega)⟩
        obtain ⟨ad, b, o, cs, rfl, had, hb, hK, hcs⟩ := C_at HRW.out.1 ht (by show 0 < 1; decide)
        have hK' := (flInt .u8).K.1 hK
        subst hK'
        have had' : ad.add P = ⟨b, o, none⟩ := by have h1 := had; rw [show (Kd.int .u8).sz = 1 from rfl, Nat.mul_one] at h1; exact h1
        have HUT : Hid (∀ W : World, Below w.heap.size w W → W.cell? ⟨b, o, none⟩ = some (.int .u8 t)) := Lib.hid fun W B => (B.cell (p := ⟨b, o, none⟩) hb).trans (hcs 0 _ rfl)
        have HTT := Lib.hid ht
        have HPN := Lib.hid (And.intro hpn hPlt)
        have hP0 : (0 : Int) ≤ (P : Int) := by omega
        have hPN : (P : Int) < (NR : Int) := by omega
        have hPb : (P : Int) < 1000000 := by have := HNR.out.2; omega
        have ut := HUT.out _ H8.out.base
        have e2 : w8.cell? ⟨z3, 2, none⟩ = some (.slice (some ad) NR cR) := H8.out.cell 0 rfl 2
        clear hpn hPlt had hb hK hcs ht hPl
        go_upto_region 35 with fail
        clear hpb hnm
        have f3 := H8.out.frozen 0 rfl 3
        have hw3 : wrap64 ((P : Int) + 1) = ((P : Int) + 1) := by unfold wrap64; omega
        have H9 := Lib.hid (H8.out.set 0 rfl 3 (.int .i64 ((P : Int) + 1)))
        go_upto_region 36 with fail
        generalize World.setCell w8 _ _ = w9 at *
        clear e1 e2 e3 f3 ut hw3
        obtain ⟨zp, hzp⟩ : ∃ z, w9.heap.size = z := ⟨_, rfl⟩
        have H10 := Lib.hid (H9.out.new' #[.int .u8 t] 5 zp hzp)
        have g0 : (w9.alloc (.cells #[.int .u8 t] 5)).cell? ⟨z8, 0, none⟩ = some (.slice none 0 0) := H10.out.cell 3 rfl 0
        have h0 : (w9.alloc (.cells #[.int .u8 t] 5)).frozen? ⟨z8, 0, none⟩ = false := H10.out.frozen 3 rfl 0
        have H11 := Lib.hid (H10.out.set 3 rfl 0 (.slice (some ⟨zp, 0, none⟩) 1 1))
        clear H9
        go_upto_region 37 with fail
        first | rw [hzp] | skip
        generalize World.setCell (World.alloc w9 _) _ _ = w11 at *
        clear g0 h0 hzp H10
        have e0 : w11.cell? ⟨z3, 0, none⟩ = some (.int .u8 s) := H11.out.cell 0 rfl 0
        have e1 : w11.cell? ⟨z3, 1, none⟩ = some (.int .i64 n) := H11.out.cell 0 rfl 1
        have e2 : w11.cell? ⟨z3, 2, none⟩ = some (.slice (some ad) NR cR) := H11.out.cell 0 rfl 2
        have e3 : w11.cell? ⟨z3, 3, none⟩ = some (.int .i64 ((P : Int) + 1)) := H11.out.cell 0 rfl 3
        have e4 : w11.cell? ⟨z3, 4, none⟩ = some (.slice A9 NL c9) := H11.out.cell 0 rfl 4
        have e5 : w11.cell? ⟨z3, 5, none⟩ = some (.int .i64 T1) := H11.out.cell 0 rfl 5
        obtain ⟨bb, hbb⟩ : ∃ bb, (LS.any fun u => u.f0 == t) = bb := ⟨_, rfl⟩
        have HWT := Lib.hid (rwaiting_c T1 LS t s n ((P : Int) + 1) T1 (.slice (some ad) NR cR) A9 c9 w11 (HNN.out.2.2 ▸ (Kd.R_reads' (H11.out.get 6 rfl).1).2.2) (by have := HLS.out; omega))
        rw [hbb, HNN.out.2.2] at HWT
        unfold pV at HWT
        have HBB := Lib.hid hbb
        clear hbb
        go_wp2_with fail
        refine HWT.out.mono ?_
        rintro e w12 ⟨rfl, b12⟩
        have H12 := Lib.hid (H11.out.below b12)
        clear b12 HWT H11 e0 e1 e2 e3 e4 e5
        cases bb with
        | true =>
          go_upto_region 39 with fail
          refine wp_region_held_drew (S := (fun w' => w'.cell? ⟨z8, 0, none⟩ = some (.slice (some ⟨zp, 0, none⟩) 1 1) ∧ w'.cell? ⟨z8, 1, none⟩ = some (.slice AA NA cA) ∧ w'.cell? ⟨z8, 2, none⟩ = some (.slice AF NF cF) ∧ w'.cell? ⟨z3, 0, none⟩ = some (.int .u8 s) ∧ w'.cell? ⟨z3, 1, none⟩ = some (.int .i64 n) ∧ w'.cell? ⟨z3, 2, none⟩ = some (.slice (some ad) NR cR) ∧ w'.cell? ⟨z3, 3, none⟩ = some (.int .i64 ((P : Int) + 1)) ∧ w'.cell? ⟨z3, 4, none⟩ = some (.slice A9 NL c9) ∧ w'.cell? ⟨z3, 5, none⟩ = some (.int .i64 T1))) (by kernel_rfl) ?_ (fun hHeld => ?_)
          · (try dsimp only); exact ⟨H12.out.drew.cell 3 rfl 0, H12.out.drew.cell 3 rfl 1, H12.out.drew.cell 3 rfl 2, H12.out.drew.cell 0 rfl 0, H12.out.drew.cell 0 rfl 1, H12.out.drew.cell 0 rfl 2, H12.out.drew.cell 0 rfl 3, H12.out.drew.cell 0 rfl 4, H12.out.drew.cell 0 rfl 5⟩
          refine wpAnyH_take (i := 0) (oi := ({ dst := some 158, op := Go.Op.load 32 (Go.Operand.tmp 8), type := 32, pos := "ref.go:99", after := #[], guard := none } : Oper)) (v := ?_) rfl (by kernel_rfl) (by kernel_rfl) (by kernel_rfl) (fun _ _ _ h => h) (Or.inl ⟨by rfl, ?_⟩) (by assumption) ?_
          rotate_left
          · (intro w hSw; (try dsimp only at hSw); go_simp; first | done | with_reducible rfl)
          try simp only [Act.put, List.setIfInBounds_toArray, List.set_cons_zero, List.set_cons_succ]
          refine wpAnyH_take (i := 1) (oi := ({ dst := some 159, op := Go.Op.load 39 (Go.Operand.tmp 3), type := 39, pos := "ref.go:99", after := #[{ on := 2, ground := Go.Ground.gcOnly Go.Departure.lateStores }], guard := none } : Oper)) (v := ?_) rfl (by kernel_rfl) (by kernel_rfl) (by kernel_rfl) (fun _ _ _ h => h) (Or.inl ⟨by rfl, ?_⟩) (by assumption) ?_
          rotate_left
          · (intro w hSw; (try dsimp only at hSw); go_simp; first | done | with_reducible rfl)
          try simp only [Act.put, List.setIfInBounds_toArray, List.set_cons_zero, List.set_cons_succ]
          refine wpAnyH_ready (rs := [2]) (by kernel_rfl) (by simp) ?_
          refine AllReadyH.cons (o := ({ dst := none, op := Go.Op.store 32 (Go.Operand.tmp 6) (Go.Operand.tmp 158), type := 0, pos := "ref.go:99", after := #[{ on := 0, ground := Go.Ground.data }, { on := 0, ground := Go.Ground.phase }, { on := 1, ground := Go.Ground.textOnly Go.Departure.lateStores }], guard := none } : Oper)) rfl (fun K hK => ?_) AllReadyH.nil
          refine St.stepStoreA (by rfl) 32 _ _ rfl H12.out.drew 1 rfl #[.slice (some ⟨zp, 0, none⟩) 1 1, .slice AA NA cA, .slice AF NF cF] rfl (one3 rfl rfl rfl) rfl rfl (by kernel_rfl) ?_
          intro wA HA
          refine hK.out _ _ ?_ (fun hHeld2 => ?_)
          · (try dsimp only); exact ⟨HA.out.cell 3 rfl 0, HA.out.cell 3 rfl 1, HA.out.cell 3 rfl 2, HA.out.cell 0 rfl 0, HA.out.cell 0 rfl 1, HA.out.cell 0 rfl 2, HA.out.cell 0 rfl 3, HA.out.cell 0 rfl 4, HA.out.cell 0 rfl 5⟩
          clear hK K hHeld
          try simp only [Act.put, List.setIfInBounds_toArray, List.set_cons_zero, List.set_cons_succ]
          refine wpAnyH_ready (rs := [3]) (by kernel_rfl) (by simp) ?_
          refine AllReadyH.cons (o := ({ dst := none, op := Go.Op.store 39 (Go.Operand.tmp 7) (Go.Operand.tmp 159), type := 0, pos := "ref.go:99", after := #[{ on := 1, ground := Go.Ground.data }, { on := 2, ground := Go.Ground.chain }, { on := 0, ground := Go.Ground.phase }, { on := 1, ground := Go.Ground.phase }, { on := 2, ground := Go.Ground.phase }], guard := none } : Oper)) rfl (fun K hK => ?_) AllReadyH.nil
          refine St.stepStoreA (by rfl) 39 _ _ rfl HA.out 2 rfl (#[.int .u8 s, .int .i64 n, .slice (some ad) NR cR, .int .i64 ((P : Int) + 1), .slice A9 NL c9, .int .i64 T1] : Array Value) rfl (pV_one rfl rfl) rfl rfl (by kernel_rfl) ?_
          intro wB HB
          refine hK.out _ _ ?_ (fun hHeld3 => ?_)
          · (try dsimp only); exact ⟨HB.out.cell 3 rfl 0, HB.out.cell 3 rfl 1, HB.out.cell 3 rfl 2, HB.out.cell 0 rfl 0, HB.out.cell 0 rfl 1, HB.out.cell 0 rfl 2, HB.out.cell 0 rfl 3, HB.out.cell 0 rfl 4, HB.out.cell 0 rfl 5⟩
          clear hK K hHeld2
          try simp only [Act.put, List.setIfInBounds_toArray, List.set_cons_zero, List.set_cons_succ]
          refine wpAnyH_done (by kernel_rfl) ?_ _
          clear hHeld3 HA
          go_wp2_with fail
          refine bodyPost_ret (results_cc rfl _ _ z6 z7 32 39 #[.slice (some ⟨zp, 0, none⟩) 1 1, .slice AA NA cA, .slice AF NF cF] (#[.int .u8 s, .int .i64 n, .slice (some ad) NR cR, .int .i64 ((P : Int) + 1), .slice A9 NL c9, .int .i64 T1] : Array Value) (0, 0) (0, 0) _ _ rfl (HB.out.get 1 rfl) Try.underlying32 rfl (by kernel_rfl) rfl (HB.out.get 2 rfl) Try.underlying39 rfl (by kernel_rfl)) rfl ?_
          have hgd : row.getD P 0 = t := by rw [List.getD_eq_getElem?_getD, HTT.out]; rfl
          have htk : tickF ⟨s, n, row, (P : Int), ws⟩ x hs = (⟨[t], AS, FS⟩, ⟨s, n, row, (P : Int) + 1, LS⟩) := by
            have hpr : ¬ (P : Int) = (row.length : Int) := by rw [HRW.out.2.2.2.2.2.2]; have := HPN.out.1; omega
            unfold tickF
            rw [HPS.out]
            simp only []
            rw [if_neg HN1.out]
            unfold turned
            rw [if_neg hpr]
            unfold pinged
            simp only [Int.toNat_natCast, hgd, List.nil_append]
            rw [HBB.out]
            rfl
          unfold rtickPost
          rw [htk]
          have S20 := (((HB.out.drop 0).drop 0).drop 0).drop 0
          have S21 := S20.upd 3 rfl (Mod.refl _ _) (a' := slc (Kd.int .u8) 5 (.slice (some ⟨zp, 0, none⟩) 1 1) [t]) (lit_slc (flInt .u8) (S20.get 3 rfl) rfl (by show 1 ≤ maxLen; decide)) (fun k hk => .inl (show zp = k by simpa [slcF, Value.ownBlock] using hk).symm)
          exact ⟨_, _, _, _, _, rfl, .inl ⟨rfl, rfl, S21⟩⟩
        | false =>
          have e4 : w12.cell? ⟨z3, 4, none⟩ = some (.slice A9 NL c9) := H12.out.cell 0 rfl 4
          have e5 : w12.cell? ⟨z3, 5, none⟩ = some (.int .i64 T1) := H12.out.cell 0 rfl 5
          have HCAP := Lib.hid (show (LS.length + 1) * 16 ≤ 140737488355328 by have := HLS.out; omega)
          have HEW := Lib.hid (show eW T1 ⟨t, 0⟩ = [.int .u8 t, .int .i64 T1] by unfold eW; rw [Int.sub_zero])
          have H12' := H12
          clear H12
          go_upto_region 39 with (at_builtin; go_loud (refine St.wp1 (flW T1) rfl _ _ 37 88 _ 16 rfl Try.underlying37 infoW rfl (by show 0 < 2; decide) (by decide) H12'.out 6 rfl ⟨t, 0⟩ #[.int .u8 t, .int .i64 T1] HEW.out rfl rfl HCAP.out ?_))
          intro T9 A10 c10 w13 h9
          have hT9 := h9.out.1
          have S13 := h9.out.2
          have f4 := S13.frozen 0 rfl 4
          have g4 := S13.cell 0 rfl 4
          obtain ⟨N9, hN9⟩ : ∃ X, T9.length = X := ⟨_, rfl⟩
          rw [hN9] at S13
          rw [hN9]
          have H14 := Lib.hid (S13.set 0 rfl 4 (.slice A10 N9 c10))
          have HT9 := Lib.hid (And.intro hT9 hN9)
          clear h9 hT9 S13 H12' e4 e5 hN9
          go_upto_region 39 with fail
          generalize World.setCell w13 _ _ = w14 at *
          clear f4 g4
          refine wp_region_held_drew (S := (fun w' => w'.cell? ⟨z8, 0, none⟩ = some (.slice (some ⟨zp, 0, none⟩) 1 1) ∧ w'.cell? ⟨z8, 1, none⟩ = some (.slice AA NA cA) ∧ w'.cell? ⟨z8, 2, none⟩ = some (.slice AF NF cF) ∧ w'.cell? ⟨z3, 0, none⟩ = some (.int .u8 s) ∧ w'.cell? ⟨z3, 1, none⟩ = some (.int .i64 n) ∧ w'.cell? ⟨z3, 2, none⟩ = some (.slice (some ad) NR cR) ∧ w'.cell? ⟨z3, 3, none⟩ = some (.int .i64 ((P : Int) + 1)) ∧ w'.cell? ⟨z3, 4, none⟩ = some (.slice A10 N9 c10) ∧ w'.cell? ⟨z3, 5, none⟩ = some (.int .i64 T1))) (by kernel_rfl) ?_ (fun hHeld => ?_)
          · (try dsimp only); exact ⟨H14.out.drew.cell 3 rfl 0, H14.out.drew.cell 3 rfl 1, H14.out.drew.cell 3 rfl 2, H14.out.drew.cell 0 rfl 0, H14.out.drew.cell 0 rfl 1, H14.out.drew.cell 0 rfl 2, H14.out.drew.cell 0 rfl 3, H14.out.drew.cell 0 rfl 4, H14.out.drew.cell 0 rfl 5⟩
          refine wpAnyH_take (i := 0) (oi := ({ dst := some 158, op := Go.Op.load 32 (Go.Operand.tmp 8), type := 32, pos := "ref.go:99", after := #[], guard := none } : Oper)) (v := ?_) rfl (by kernel_rfl) (by kernel_rfl) (by kernel_rfl) (fun _ _ _ h => h) (Or.inl ⟨by rfl, ?_⟩) (by assumption) ?_
          rotate_left
          · (intro w hSw; (try dsimp only at hSw); go_simp; first | done | with_reducible rfl)
          try simp only [Act.put, List.setIfInBounds_toArray, List.set_cons_zero, List.set_cons_succ]
          refine wpAnyH_take (i := 1) (oi := ({ dst := some 159, op := Go.Op.load 39 (Go.Operand.tmp 3), type := 39, pos := "ref.go:99", after := #[{ on := 2, ground := Go.Ground.gcOnly Go.Departure.lateStores }], guard := none } : Oper)) (v := ?_) rfl (by kernel_rfl) (by kernel_rfl) (by kernel_rfl) (fun _ _ _ h => h) (Or.inl ⟨by rfl, ?_⟩) (by assumption) ?_
          rotate_left
          · (intro w hSw; (try dsimp only at hSw); go_simp; first | done | with_reducible rfl)
          try simp only [Act.put, List.setIfInBounds_toArray, List.set_cons_zero, List.set_cons_succ]
          refine wpAnyH_ready (rs := [2]) (by kernel_rfl) (by simp) ?_
          refine AllReadyH.cons (o := ({ dst := none, op := Go.Op.store 32 (Go.Operand.tmp 6) (Go.Operand.tmp 158), type := 0, pos := "ref.go:99", after := #[{ on := 0, ground := Go.Ground.data }, { on := 0, ground := Go.Ground.phase }, { on := 1, ground := Go.Ground.textOnly Go.Departure.lateStores }], guard := none } : Oper)) rfl (fun K hK => ?_) AllReadyH.nil
          refine St.stepStoreA (by rfl) 32 _ _ rfl H14.out.drew 1 rfl #[.slice (some ⟨zp, 0, none⟩) 1 1, .slice AA NA cA, .slice AF NF cF] rfl (one3 rfl rfl rfl) rfl rfl (by kernel_rfl) ?_
          intro wA HA
          refine hK.out _ _ ?_ (fun hHeld2 => ?_)
          · (try dsimp only); exact ⟨HA.out.cell 3 rfl 0, HA.out.cell 3 rfl 1, HA.out.cell 3 rfl 2, HA.out.cell 0 rfl 0, HA.out.cell 0 rfl 1, HA.out.cell 0 rfl 2, HA.out.cell 0 rfl 3, HA.out.cell 0 rfl 4, HA.out.cell 0 rfl 5⟩
          clear hK K hHeld
          try simp only [Act.put, List.setIfInBounds_toArray, List.set_cons_zero, List.set_cons_succ]
          refine wpAnyH_ready (rs := [3]) (by kernel_rfl) (by simp) ?_
          refine AllReadyH.cons (o := ({ dst := none, op := Go.Op.store 39 (Go.Operand.tmp 7) (Go.Operand.tmp 159), type := 0, pos := "ref.go:99", after := #[{ on := 1, ground := Go.Ground.data }, { on := 2, ground := Go.Ground.chain }, { on := 0, ground := Go.Ground.phase }, { on := 1, ground := Go.Ground.phase }, { on := 2, ground := Go.Ground.phase }], guard := none } : Oper)) rfl (fun K hK => ?_) AllReadyH.nil
          refine St.stepStoreA (by rfl) 39 _ _ rfl HA.out 2 rfl (#[.int .u8 s, .int .i64 n, .slice (some ad) NR cR, .int .i64 ((P : Int) + 1), .slice A10 N9 c10, .int .i64 T1] : Array Value) rfl (pV_one rfl rfl) rfl rfl (by kernel_rfl) ?_
          intro wB HB
          refine hK.out _ _ ?_ (fun hHeld3 => ?_)
          · (try dsimp only); exact ⟨HB.out.cell 3 rfl 0, HB.out.cell 3 rfl 1, HB.out.cell 3 rfl 2, HB.out.cell 0 rfl 0, HB.out.cell 0 rfl 1, HB.out.cell 0 rfl 2, HB.out.cell 0 rfl 3, HB.out.cell 0 rfl 4, HB.out.cell 0 rfl 5⟩
          clear hK K hHeld2
          try simp only [Act.put, List.setIfInBounds_toArray, List.set_cons_zero, List.set_cons_succ]
          refine wpAnyH_done (by kernel_rfl) ?_ _
          clear hHeld3 HA
          go_wp2_with fail
          refine bodyPost_ret (results_cc rfl _ _ z6 z7 32 39 #[.slice (some ⟨zp, 0, none⟩) 1 1, .slice AA NA cA, .slice AF NF cF] (#[.int .u8 s, .int .i64 n, .slice (some ad) NR cR, .int .i64 ((P : Int) + 1), .slice A10 N9 c10, .int .i64 T1] : Array Value) (0, 0) (0, 0) _ _ rfl (HB.out.get 1 rfl) Try.underlying32 rfl (by kernel_rfl) rfl (HB.out.get 2 rfl) Try.underlying39 rfl (by kernel_rfl)) rfl ?_
          have hgd : row.getD P 0 = t := by rw [List.getD_eq_getElem?_getD, HTT.out]; rfl
          have htk : tickF ⟨s, n, row, (P : Int), ws⟩ x hs = (⟨[t], AS, FS⟩, ⟨s, n, row, (P : Int) + 1, LS ++ [⟨t, 0⟩]⟩) := by
            have hpr : ¬ (P : Int) = (row.length : Int) := by rw [HRW.out.2.2.2.2.2.2]; have := HPN.out.1; omega
            unfold tickF
            rw [HPS.out]
            simp only []
            rw [if_neg HN1.out]
            unfold turned
            rw [if_neg hpr]
            unfold pinged
            simp only [Int.toNat_natCast, hgd, List.nil_append]
            rw [HBB.out]
            rfl
          unfold rtickPost
          rw [htk]
          have S20 := (((HB.out.drop 0).drop 0).drop 0).drop 0
          have S21 := S20.upd 3 rfl (Mod.refl _ _) (a' := slc (Kd.int .u8) 5 (.slice (some ⟨zp, 0, none⟩) 1 1) [t]) (lit_slc (flInt .u8) (S20.get 3 rfl) rfl (by show 1 ≤ maxLen; decide)) (fun k hk => .inl (show zp = k by simpa [slcF, Value.ownBlock] using hk).symm)
          rw [← HT9.out.1]
          exact ⟨_, _, _, _, _, rfl, .inl ⟨rfl, rfl, S21⟩⟩
end Go.Proofs.Ytjhmkmcongjngaa
