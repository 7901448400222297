/- Several texts put together. -/
import Derived.Test.YtecgnfklfgjgaaaRecB
import Derived.Test.YtecgnfklfgjgaaaTabA
import Derived.Test.YtecgnfklfgjgaaaLib
set_option linter.unusedVariables false
set_option linter.unusedSimpArgs false
/- slots.Table: where a key lies; what is found. -/
set_option linter.unusedVariables false
set_option linter.unusedSimpArgs false
namespace Go.Proofs.Ytecgnfklfgjgaaa
open Go.RowKit Go.Tat Go.Tab Go.Proofs.YtecgnfklfgjgaaaW.PrintWords PStorePeeks
def eSl (s : Sl) : List Value := [.bool s.used, .string s.key, .int .i64 s.home, .int .i64 s.v]
abbrev kSl : Kd Sl := kEnc 4 eSl (fun _ => rfl) (fun x u hu => by
  simp only [eSl, List.mem_cons, List.not_mem_nil, or_false] at hu
  rcases hu with rfl | rfl | rfl | rfl <;> rfl)
theorem flSl : Flat kSl eSl := flEnc _ _ _ _
def hmN (m : Nat) (k : ByteArray) : Nat := (txI k).toNat % m
theorem hmN_lt {m : Nat} (h : 0 < m) (k : ByteArray) : hmN m k < m := Nat.mod_lt _ h
theorem hmN_i (m : Nat) (k : ByteArray) : txI k % (m : Int) = (hmN m k : Int) := by
  have h := (txI_64 k).1
  unfold hmN
  obtain ⟨x, hx⟩ := Int.eq_ofNat_of_zero_le h
  rw [hx]; simp
structure Ti where
  v : Value
  sl : List Sl
def tL (g most : Nat) (T : List (ByteArray × Int)) (i : Ti) : List Asr := [blk g #[i.v, .int .i64 most, .int .i64 T.length] 89, slc kSl 102 i.v i.sl, pureA (i.sl.length ≤ 1000000 ∧ most ≤ 1000000 ∧ TI (hmN i.sl.length) most i.sl T)]
/-- The table at g for so many keys, with these. -/
def tO (g most : Nat) (F : Nat → Prop) (T : List (ByteArray × Int)) : Asr := Asr.ex F (tL g most T)
set_option maxRecDepth 100000 in
set_option maxHeartbeats 4000000 in
theorem home_c (g m c : Nat) (A : Option Addr) (k : ByteArray) (hs : k.size < 4611686018427387904) (hm0 : 0 < m) (hm1 : m ≤ 1000000) (w : World) (h0 : w.cell? ⟨g, 0, none⟩ = some (.slice A m c)) :
    Calls Try.prog 67 #[.pointer (some ⟨g, 0, none⟩), .string k] w fun e w' => e = .returned (.int .i64 (hmN m k : Int)) ∧ ∃ n, w' = w.drewN n := by
  have H1 : Hid (∀ w, Calls Try.prog 52 #[.string k] w fun e w' => e = .returned (.int .u64 (txI k)) ∧ ∃ n, w' = w.drewN n) := Lib.hid (fun w => (text_c k hs w).mono fun _ _ h => ⟨h.1, h.2.out⟩)
  have HR := Lib.hid (And.intro (hmN_i m k) (hmN_lt hm0 k))
  have hX0 := (txI_64 k).1
  generalize txI k = X at *
  have hw : IntKind.u64.wrap (m : Int) = (m : Int) := by rw [IntKind.wrap_u64]; omega
  have hz : ((m : Int) == 0) = false := beq_eq_false_iff_ne.2 (by omega)
  have hm2 : (0 : Int) < (m : Int) := by omega
  clear hs hm0
  go_enter Try.func67, Try.ntmps67
  go_wp2_with fail
  go_quiet (first | (go_at_call 52; refine Calls.quiet_of (H1.out _)))
  go_wp2
  go_ret
  refine ⟨?_, _, rfl⟩
  have := HR.out.2
  simp only [HR.out.1]
  rw [show wrap64 (hmN m k : Int) = (hmN m k : Int) by unfold wrap64; omega]
  rfl
theorem cadd_tmod {m i : Nat} (hi : i < m) (hm : 1 < m) (h2 : m ≤ 1000000) : ((i : Int) + 1) % (m : Int) = (cadd m i 1 : Int) := by
  have h := mod_next hi hm
  have e : (((i : Int) + 1) % (m : Int)) = ((i + 1) % m : Nat) := by rw [Int.natCast_emod]; rfl
  rw [e, h]
def findPost (m : Nat) (sl : List Sl) (k : ByteArray) (w : World) (e : Ending) (w' : World) : Prop := ∃ (i : Nat) (b : Bool), e = .returned (.tuple #[.int .i64 (i : Int), .bool b]) ∧ FoundK (hmN m) sl k i b ∧ ∃ n, w' = w.drewN n
set_option maxRecDepth 100000 in
set_option maxHeartbeats 4000000 in
theorem find_c (g b m c most : Nat) (sl : List Sl) (T : List (ByteArray × Int)) (k : ByteArray) (hs : k.size < 4611686018427387904) (hm1 : m ≤ 1000000) (hm : sl.length = m) (I : TI (hmN m) most sl T) (w : World) (h0 : w.cell? ⟨g, 0, none⟩ = some (.slice (some ⟨b, 0, none⟩) m c))
    (hc : ∀ (j : Nat) s, sl[j]? = some s → w.cell? ⟨b, j * 4, none⟩ = some (.bool s.used) ∧ w.cell? ⟨b, j * 4 + 1, none⟩ = some (.string s.key)) :
    Calls Try.prog 47 #[.pointer (some ⟨g, 0, none⟩), .string k] w (findPost m sl k w) := by
  have h1 : 1 < m := hm ▸ I.m1
  have H1 := Lib.hid (home_c g m c (some ⟨b, 0, none⟩) k hs (by omega) hm1 w h0)
  have HI := Lib.hid I
  have HC := Lib.hid hc
  obtain ⟨d0, hd0, hn0, hu0⟩ := room_ahead (hm ▸ I.roomy) (hmN_lt (by omega : 0 < m) k)
  have HD := Lib.hid (And.intro hd0 (And.intro hn0 hu0))
  have HM := Lib.hid (And.intro hm (And.intro h1 hm1))
  have hm0 : (0 : Int) < (m : Int) := by omega
  have hmz : ((m : Int) == 0) = false := beq_eq_false_iff_ne.2 (by omega)
  clear I hc hd0 hn0 hu0 hs hm h1
  go_enter Try.func47, Try.ntmps47
  go_wp2_with (go_at_call 67; refine H1.out.mono ?_; rintro e w1 ⟨rfl, hdr⟩)
  go_loopg [6] m (fun kq v W => ∃ d : Nat, d < m ∧ kq = m - d ∧ v = .int .i64 (cadd m (hmN m k) d : Nat) ∧ (∀ e, e < d → ∃ k', kf sl (cadd m (hmN m k) e) = some k' ∧ k' ≠ k) ∧ ∃ n, W = w.drewN n)
  case atStart =>
    have := HM.out
    exact ⟨0, by omega, by omega, by rw [cadd_zero (hmN_lt (by omega) k)], fun e he => absurd he (Nat.not_lt_zero _), hdr⟩
  case round =>
    obtain ⟨d, hd, hk, rfl, hpre, hdr⟩ := hrel
    obtain ⟨hm, h1, hm1⟩ := HM.out
    have hil : cadd m (hmN m k) d < m := cadd_lt (hmN_lt (by omega) k) hd
    have hnext := cadd_succ (d := d) (hmN_lt (by omega : 0 < m) k)
    have HK := Lib.hid (And.intro hk (And.intro hpre hnext))
    have hpd : d ≤ d0 := by
      rcases Nat.lt_or_ge d0 d with h | h
      · obtain ⟨k', h3, _⟩ := hpre d0 h
        rw [HD.out.2.1] at h3; cases h3
      · exact h
    clear hpre hnext
    generalize hi : cadd m (hmN m k) d = i at *
    obtain ⟨s, hs⟩ : ∃ s : Sl, sl[i]? = some s := ⟨_, List.getElem?_eq_getElem (by omega)⟩
    have hi1 : (i : Int) < (m : Int) := by omega
    have hi2 : (i : Int) < 1000000 := by omega
    obtain ⟨n0, hW⟩ := hdr
    have hcs := HC.out i s hs
    have c0 : wr.cell? ⟨b, i * 4, none⟩ = some (.bool s.used) := by rw [hW]; exact hcs.1
    have c1 : wr.cell? ⟨b, i * 4 + 1, none⟩ = some (.string s.key) := by rw [hW]; exact hcs.2
    have g0 : wr.cell? ⟨g, 0, none⟩ = some (.slice (some ⟨b, 0, none⟩) m c) := by rw [hW]; exact h0
    have hkf := kf_get hs
    have HF := Lib.hid hkf
    have HE := Lib.hid (cadd_tmod hil h1 hm1)
    have HI := Lib.hid (And.intro hi (And.intro hil (And.intro hpd (And.intro hd hW))))
    obtain ⟨su, sk, sh, sv⟩ := s
    dsimp only at c0 c1 hkf
    clear hi hk hil hpd hd hW hcs hkf hs h1 hm1 hm h0
    cases su with
    | false =>
      go_wp2
      go_ret2
      obtain ⟨q1, q2, q3, q4, q5⟩ := HI.out
      refine ⟨i, false, rfl, ⟨d, by rw [HM.out.1]; exact q4, by rw [HM.out.1]; exact q1.symm, by rw [HM.out.1]; exact HK.out.2.1, HF.out⟩, n0, q5⟩
    | true =>
      by_cases hkk : sk = k
      · subst hkk
        go_wp2
        go_ret2
        obtain ⟨q1, q2, q3, q4, q5⟩ := HI.out
        refine ⟨i, true, rfl, ⟨d, by rw [HM.out.1]; exact q4, by rw [HM.out.1]; exact q1.symm, by rw [HM.out.1]; exact HK.out.2.1, HF.out⟩, n0, q5⟩
      · have hb : (sk.toList == k.toList) = false := by
          rw [beq_eq_false_iff_ne]
          exact fun h => hkk ((tl_eq _ _).1 h)
        clear hkk
        have hlt : d + 1 < m := by
          obtain ⟨q1, q2, q3, q4, q5⟩ := HI.out
          have h3 := HD.out.2.1
          have h4 := HD.out.1
          have h5 := HF.out
          have : d ≠ d0 := by
            rintro rfl
            rw [q1, h5] at h3
            exact absurd h3 (by simp)
          omega
        have HLT := Lib.hid hlt
        have hne : ∃ k', kf sl i = some k' ∧ k' ≠ k := ⟨sk, HF.out, fun h => by rw [h] at hb; simp at hb⟩
        have HN := Lib.hid hne
        clear hlt hne
        go_wp2
        go_roundg (m - (d + 1))
        case measure => have h1 := HK.out.1; have h2 := HLT.out; omega
        case rel =>
          refine ⟨d + 1, HLT.out, rfl, ?_, fun e he => ?_, n0, HI.out.2.2.2.2⟩
          · have h3 := HK.out.2.2 HLT.out
            rw [HE.out, h3]
          · rcases Nat.lt_or_ge e d with h | h
            · exact HK.out.2.1 e h
            · have : e = d := by omega
              rw [this, HI.out.1]
              exact HN.out
end Go.Proofs.Ytecgnfklfgjgaaa
/- slots.Table: Get, Len, Set of a new key. -/
set_option linter.unusedVariables false
set_option linter.unusedSimpArgs false
namespace Go.Proofs.Ytecgnfklfgjgaaa
open Go.RowKit Go.Tat Go.Tab Go.Proofs.YtecgnfklfgjgaaaW.PrintWords PStorePeeks
theorem tab_open {w : World} {g most : Nat} {S : Nat → Prop} {T : List (ByteArray × Int)} (h : (tO g most S T).holds w) :
    ∃ (b c m : Nat) (sl : List Sl), St S w w (tL g most T ⟨.slice (some ⟨b, 0, none⟩) m c, sl⟩) ∧ sl.length = m ∧ m ≤ 1000000 ∧ most ≤ 1000000 ∧ TI (hmN m) most sl T := by
  obtain ⟨⟨v, sl⟩, S1⟩ := Asr.ex_open h
  obtain ⟨h1, h2, I⟩ := (show sl.length ≤ 1000000 ∧ most ≤ 1000000 ∧ TI (hmN sl.length) most sl T from S1.get 2 rfl)
  have h3 := I.m1
  obtain ⟨b, c, hv, _⟩ := slc_form (S1.get 1 rfl) (by show 0 < sl.length; omega)
  have hv' : v = .slice (some ⟨b, 0, none⟩) sl.length c := hv
  clear hv
  subst hv'
  exact ⟨b, c, sl.length, sl, S1, rfl, h1, h2, I⟩
section
variable {w w' : World} {g most b c m : Nat} {F : Nat → Prop} {T : List (ByteArray × Int)} {sl : List Sl} {M : List Asr}
theorem tL_c (S : St F w w' (tL g most T ⟨.slice (some ⟨b, 0, none⟩) m c, sl⟩ ++ M)) : w'.cell? ⟨g, 0, none⟩ = some (.slice (some ⟨b, 0, none⟩) m c) ∧ w'.cell? ⟨g, 1, none⟩ = some (.int .i64 most) ∧ w'.cell? ⟨g, 2, none⟩ = some (.int .i64 T.length) :=
  ⟨blk_cell (S.get 0 rfl) 0, blk_cell (S.get 0 rfl) 1, blk_cell (S.get 0 rfl) 2⟩
theorem tL_s (S : St F w w' (tL g most T ⟨.slice (some ⟨b, 0, none⟩) m c, sl⟩ ++ M)) {j : Nat} {s : Sl} (hj : sl[j]? = some s) : w'.cell? ⟨b, j * 4, none⟩ = some (.bool s.used) ∧ w'.cell? ⟨b, j * 4 + 1, none⟩ = some (.string s.key) ∧ w'.cell? ⟨b, j * 4 + 2, none⟩ = some (.int .i64 s.home) ∧ w'.cell? ⟨b, j * 4 + 3, none⟩ = some (.int .i64 s.v) :=
  ⟨(S.elem flSl 1 rfl (i := j) (c := 0) hj (show 0 < 4 by decide)).1, (S.elem flSl 1 rfl (i := j) (c := 1) hj (show 1 < 4 by decide)).1, (S.elem flSl 1 rfl (i := j) (c := 2) hj (show 2 < 4 by decide)).1, (S.elem flSl 1 rfl (i := j) (c := 3) hj (show 3 < 4 by decide)).1⟩
theorem find_at (S : St F w w' (tL g most T ⟨.slice (some ⟨b, 0, none⟩) m c, sl⟩)) (k : ByteArray) (hs : k.size < 4611686018427387904) (hm : sl.length = m) (hm1 : m ≤ 1000000) (I : TI (hmN m) most sl T) :
    Calls Try.prog 47 #[.pointer (some ⟨g, 0, none⟩), .string k] w' (findPost m sl k w') := by
  have S' : St F w w' (tL g most T ⟨.slice (some ⟨b, 0, none⟩) m c, sl⟩ ++ []) := by rw [List.append_nil]; exact S
  exact find_c g b m c most sl T k hs hm1 hm I w' (tL_c S').1 fun j s hj => ⟨(tL_s S' hj).1, (tL_s S' hj).2.1⟩
end
def getV (o : Option Int) : Value := match o with | some v => .tuple #[.int .i64 v, .bool true] | none => .tuple #[.int .i64 0, .bool false]
set_option maxRecDepth 100000 in
set_option maxHeartbeats 4000000 in
theorem tget_c {w : World} {g most : Nat} {S : Nat → Prop} {T : List (ByteArray × Int)} (h : (tO g most S T).holds w) (k : ByteArray) (hs : k.size < 4611686018427387904) :
    Calls Try.prog 28 #[.pointer (some ⟨g, 0, none⟩), .string k] w fun e w' => e = .returned (getV (mg T k)) ∧ ∃ n, w' = w.drewN n := by
  obtain ⟨b, c, m, sl, S1, hm, hm1, hm2, I⟩ := tab_open h
  have HF := Lib.hid (find_at S1 k hs hm hm1 I)
  have HI := Lib.hid I
  have HS := Lib.hid S1
  have HM := Lib.hid hm
  have hm3 : (m : Int) ≤ 1000000 := by omega
  clear h S1 I hs hm hm1 hm2
  go_enter Try.func28, Try.ntmps28
  go_upto_region 4 with (go_at_call 47; refine HF.out.mono ?_; rintro e w1 ⟨i, bb, rfl, hf, n, rfl⟩)
  cases bb with
  | false =>
    have hu := Lib.hid (TI.unfound HI.out hf)
    clear hf
    go_wp2
    go_ret2
    exact ⟨by rw [hu.out]; rfl, n, rfl⟩
  | true =>
    have hil : (i : Int) < (m : Int) := by have := hf.lt HI.out; rw [HM.out] at this; omega
    obtain ⟨s, hs, hu, hk, hg⟩ := TI.found HI.out hf
    have HG := Lib.hid hg
    have S2 : St S w (w.drewN n) (tL g most T ⟨.slice (some ⟨b, 0, none⟩) m c, sl⟩ ++ []) := by rw [List.append_nil]; exact HS.out.drewN n
    have c0 := (tL_c S2).1
    have c3 := (tL_s S2 hs).2.2.2
    clear S2 hf hs hu hk hg
    go_wp2
    go_ret2
    exact ⟨by rw [HG.out]; rfl, n, rfl⟩
set_option maxRecDepth 100000 in
theorem tlen_c {w : World} {g most : Nat} {S : Nat → Prop} {T : List (ByteArray × Int)} (h : (tO g most S T).holds w) :
    Calls Try.prog 34 #[.pointer (some ⟨g, 0, none⟩)] w fun e w' => e = .returned (.int .i64 T.length) ∧ w' = w := by
  obtain ⟨b, c, m, sl, S1, hm, hm1, hm2, I⟩ := tab_open h
  have S2 : St S w w (tL g most T ⟨.slice (some ⟨b, 0, none⟩) m c, sl⟩ ++ []) := by rw [List.append_nil]; exact S1
  have c2 := (tL_c S2).2.2
  clear h S1 S2 hm hm1 hm2 I
  go_enter Try.func34, Try.ntmps34
  go_wp2
  go_ret
  exact ⟨rfl, rfl⟩
end Go.Proofs.Ytecgnfklfgjgaaa
/- slots.Table: Set of a new key. -/
set_option linter.unusedVariables false
set_option linter.unusedSimpArgs false
namespace Go.Proofs.Ytecgnfklfgjgaaa
open Go.RowKit Go.Tat Go.Tab Go.Proofs.YtecgnfklfgjgaaaW.PrintWords PStorePeeks
def setPost (F : Nat → Prop) (w0 : World) (A : List Asr) (i g most : Nat) (T : List (ByteArray × Int)) (e : Ending) (w' : World) : Prop := e = .returned (.int .i64 0) ∧ ∃ S', St F w0 w' (A.set i (tO g most S' T))
set_option maxRecDepth 100000 in
set_option maxHeartbeats 4000000 in
theorem tset_st {F : Nat → Prop} {w0 w : World} {A : List Asr} (h : St F w0 w A) (i0 : Nat) {g most : Nat} {S : Nat → Prop} {T : List (ByteArray × Int)} (hi : A[i0]? = some (tO g most S T)) (k : ByteArray) (v : Int) (hs : k.size < 4611686018427387904) (hn : mg T k = none) (hl : T.length < most) :
    Calls Try.prog 58 #[.pointer (some ⟨g, 0, none⟩), .string k, .int .i64 v] w (setPost F w0 A i0 g most ((k, v) :: T)) := by
  obtain ⟨b, c, m, sl, S1, hm, hm1, hm2, I⟩ := tab_open (h.get i0 hi)
  have HO := Lib.hid (And.intro h hi)
  have HF := Lib.hid (find_at S1 k hs hm hm1 I)
  have HI := Lib.hid I
  have HS := Lib.hid S1
  have HM := Lib.hid hm
  have HN := Lib.hid (And.intro hn hl)
  have HB := Lib.hid (And.intro hm1 hm2)
  have hm3 : (m : Int) ≤ 1000000 := by omega
  have hTm : ((T.length : Int) == (most : Int)) = false := beq_eq_false_iff_ne.2 (by omega)
  have hTl : (T.length : Int) < 1000000 := by omega
  have S1' : St S w w (tL g most T ⟨.slice (some ⟨b, 0, none⟩) m c, sl⟩ ++ []) := by rw [List.append_nil]; exact S1
  obtain ⟨c0, c1, c2⟩ := tL_c S1'
  have HH := Lib.hid (fun w' (e : w'.cell? ⟨g, 0, none⟩ = some (.slice (some ⟨b, 0, none⟩) m c)) => home_c g m c (some ⟨b, 0, none⟩) k hs (by have := I.m1; omega) hm1 w' e)
  clear h hi S1 S1' I hs hm hm1 hm2 hn hl
  go_enter Try.func58, Try.ntmps58
  go_upto_region 4 with (go_at_call 47; refine HF.out.mono ?_; rintro e w1 ⟨i, bb, rfl, hf, n, rfl⟩)
  cases bb with
  | true =>
    obtain ⟨s, _, _, _, hg⟩ := TI.found HI.out hf
    rw [HN.out.1] at hg
    exact absurd hg (by simp)
  | false =>
    have hil : (i : Int) < (m : Int) := by have := hf.lt HI.out; rw [HM.out] at this; omega
    obtain ⟨s, hs⟩ : ∃ s : Sl, sl[i]? = some s := ⟨_, List.getElem?_eq_getElem (hf.lt HI.out)⟩
    have HFF := Lib.hid (And.intro hf hs)
    clear hf hs
    go_upto_region 7 with fail
    go_quiet (fail)
    go_upto_region 9 with fail
    have hsz : (Try.prog.info? 102).map (·.size) = some 4 := by kernel_rfl
    have HZ := Lib.hid hsz
    clear hsz
    have S3 := (HS.out.drewN n).drewN nq
    generalize (w.drewN n).drewN nq = wq at *
    have e0 : wq.cell? ⟨g, 0, none⟩ = some (.slice (some ⟨b, 0, none⟩) m c) := blk_cell (S3.get 0 rfl) 0
    have H3 := Lib.hid S3
    clear S3
    refine wp_region_qtail_drewN 12 (by kernel_rfl) (by kernel_rfl) ?_
    simp only [List.take_succ_cons, List.take_zero, List.drop_succ_cons, List.drop_zero]
    repeat (go_big_quiet_step (first | (go_at_call 67; refine Calls.quiet_of (HH.out _ ?_); exact e0)))
    refine wpQuiet_nil ?_
    rintro _ ⟨nq2, rfl⟩
    refine St.wpRow flSl rfl 102 _ _ rfl (H3.out.drewN nq2) 1 rfl i ⟨true, k, (hmN m k : Nat), v⟩ (HFF.out.1.lt HI.out) rfl rfl HZ.out ?_
    intro w6 H6
    have S6 := H6.out
    have d2 : w6.cell? ⟨g, 2, none⟩ = some (.int .i64 T.length) := blk_cell (S6.get 0 rfl) 2
    have f2 : w6.frozen? ⟨g, 2, none⟩ = false := S6.frozen 0 rfl 2
    clear S6 c0 c1 c2 e0
    go_wp2
    go_ret
    have S7 := H6.out.set 0 rfl 2 (.int .i64 ((T.length : Int) + 1))
    have hT := HI.out.put HFF.out.1 HN.out.2 v
    have hlen : (sl.set i ⟨true, k, (hmN m k : Nat), v⟩).length = m := by rw [List.length_set]; exact HM.out
    have S8 := S7.pure 2 rfl (p' := (sl.set i ⟨true, k, (hmN m k : Nat), v⟩).length ≤ 1000000 ∧ most ≤ 1000000 ∧ TI (hmN (sl.set i ⟨true, k, (hmN m k : Nat), v⟩).length) most (sl.set i ⟨true, k, (hmN m k : Nat), v⟩) ((k, v) :: T)) (by rw [hlen]; exact ⟨HB.out.1, HB.out.2, hT⟩)
    obtain ⟨h, hi⟩ := HO.out
    have e := h.exUpd i0 hi (L1 := tL g most ((k, v) :: T)) ⟨.slice (some ⟨b, 0, none⟩) m c, sl.set i ⟨true, k, (hmN m k : Nat), v⟩⟩ S8
    refine ⟨rfl, _, e⟩
end Go.Proofs.Ytecgnfklfgjgaaa
/- slots.Table: Drop of a key that is there. -/
set_option linter.unusedVariables false
set_option linter.unusedSimpArgs false
namespace Go.Proofs.Ytecgnfklfgjgaaa
open Go.RowKit Go.Tat Go.Tab Go.Proofs.YtecgnfklfgjgaaaW.PrintWords PStorePeeks
theorem cdist_two {m a x y : Nat} (ha : a < m) (hxy : x ≤ y) (hy : y < m) : cdist m (cadd m a x) (cadd m a y) = y - x := by
  unfold cdist cadd; (repeat' split) <;> omega
theorem dist_int {m a b : Nat} (ha : a < m) (hb : b < m) : ((b : Int) - (a : Int) + (m : Int)) % (m : Int) = (cdist m a b : Int) := by
  have h := mod_dist ha hb
  rw [← h, Int.natCast_emod]
  congr 1
  omega
def tS (g most b m c : Nat) (n : Int) (sl : List Sl) : List Asr := [blk g #[.slice (some ⟨b, 0, none⟩) m c, .int .i64 most, .int .i64 n] 89, slc kSl 102 (.slice (some ⟨b, 0, none⟩) m c) sl]
theorem tS_c {F : Nat → Prop} {w w' : World} {g most b m c : Nat} {n : Int} {sl : List Sl} (S : St F w w' (tS g most b m c n sl)) : w'.cell? ⟨g, 0, none⟩ = some (.slice (some ⟨b, 0, none⟩) m c) ∧ w'.cell? ⟨g, 1, none⟩ = some (.int .i64 most) ∧ w'.cell? ⟨g, 2, none⟩ = some (.int .i64 n) :=
  ⟨blk_cell (S.get 0 rfl) 0, blk_cell (S.get 0 rfl) 1, blk_cell (S.get 0 rfl) 2⟩
theorem tS_s {F : Nat → Prop} {w w' : World} {g most b m c : Nat} {n : Int} {sl : List Sl} (S : St F w w' (tS g most b m c n sl)) {j : Nat} {s : Sl} (hj : sl[j]? = some s) : w'.cell? ⟨b, j * 4, none⟩ = some (.bool s.used) ∧ w'.cell? ⟨b, j * 4 + 1, none⟩ = some (.string s.key) ∧ w'.cell? ⟨b, j * 4 + 2, none⟩ = some (.int .i64 s.home) ∧ w'.cell? ⟨b, j * 4 + 3, none⟩ = some (.int .i64 s.v) :=
  ⟨(S.elem flSl 1 rfl (i := j) (c := 0) hj (show 0 < 4 by decide)).1, (S.elem flSl 1 rfl (i := j) (c := 1) hj (show 1 < 4 by decide)).1, (S.elem flSl 1 rfl (i := j) (c := 2) hj (show 2 < 4 by decide)).1, (S.elem flSl 1 rfl (i := j) (c := 3) hj (show 3 < 4 by decide)).1⟩
theorem slot_size : (Try.prog.info? 102).map (·.size) = some 4 := by kernel_rfl
theorem ip_ne {m p i d dp cb : Nat} (h : cb = d - dp) (hd : dp < d) (hc : cdist m p i = cb) : i ≠ p := by
  rintro rfl
  rw [cdist_self] at hc
  omega
def dropPostT (F : Nat → Prop) (w0 : World) (A : List Asr) (i g most : Nat) (T : List (ByteArray × Int)) (e : Ending) (w' : World) : Prop := e = .returned (.bool true) ∧ ∃ S', St F w0 w' (A.set i (tO g most S' T))
set_option maxRecDepth 100000 in
set_option maxHeartbeats 4000000 in
theorem tdrop_st {F : Nat → Prop} {w0 w : World} {A : List Asr} (h : St F w0 w A) (i0 : Nat) {g most : Nat} {S : Nat → Prop} {T T' : List (ByteArray × Int)} (hi : A[i0]? = some (tO g most S T)) (k : ByteArray) (v : Int) (hs : k.size < 4611686018427387904) (hT : T.Perm ((k, v) :: T')) :
    Calls Try.prog 53 #[.pointer (some ⟨g, 0, none⟩), .string k] w (dropPostT F w0 A i0 g most T') := by
  obtain ⟨b, c, m, sl, S1, hm, hm1, hm2, I⟩ := tab_open (h.get i0 hi)
  have HO := Lib.hid (And.intro h hi)
  have HF := Lib.hid (find_at S1 k hs hm hm1 I)
  have HI := Lib.hid I
  have HS : Hid (St S w w (tS g most b m c T.length sl)) := Lib.hid (S1.sub (by simp [tL, tS]))
  have HM := Lib.hid (And.intro hm (And.intro (hm ▸ I.m1) (And.intro hm1 hm2)))
  have HN := Lib.hid ((mg_some I.keys).2 (hT.mem_iff.2 (List.mem_cons_self ..)))
  have HT := Lib.hid hT
  have hTl : T.length = T'.length + 1 := hT.length_eq
  have hTl1 : (T.length : Int) ≤ 1000000 := by have := I.len; omega
  have hTl2 : (1 : Int) ≤ (T.length : Int) := by omega
  have hm3 : (m : Int) ≤ 1000000 := by omega
  have hm0 : (0 : Int) < (m : Int) := by have := I.m1; omega
  have hmz : ((m : Int) == 0) = false := beq_eq_false_iff_ne.2 (by omega)
  have hTn : (T.length : Int) = (T'.length : Int) + 1 := by omega
  generalize (T.length : Int) = tn at *
  have HTL := Lib.hid hTn
  have HLE := Lib.hid (show T'.length ≤ most by have := I.len; omega)
  obtain ⟨c0, c1, c2⟩ := tS_c HS.out
  clear h hi S1 I hs hm hm1 hm2 hT hTl hTn
  go_enter Try.func53, Try.ntmps53
  go_upto_region 4 with (go_at_call 47; refine HF.out.mono ?_; rintro e w1 ⟨p0, bb, rfl, hf, n, rfl⟩)
  cases bb with
  | false =>
    have hg := TI.unfound HI.out hf
    rw [HN.out] at hg
    exact absurd hg (by simp)
  | true =>
    obtain ⟨s0, hs0, hu0, hk0, hg0⟩ := TI.found HI.out hf
    have hv0 : s0.v = v := by rw [HN.out] at hg0; exact (Option.some.inj hg0).symm
    have hp0 : p0 < m := by have := hf.lt HI.out; rw [HM.out.1] at this; exact this
    have hH := TI.hole HI.out hs0 hu0 hk0 (hv0 ▸ HT.out)
    rw [HM.out.1] at hH
    obtain ⟨d0, hd0, hn0, hpre⟩ := room_ahead HI.out.roomy (HM.out.1.symm ▸ hp0)
    rw [HM.out.1] at hd0 hn0 hpre
    have hd1 : 0 < d0 := by
      rcases Nat.eq_zero_or_pos d0 with e | e
      · rw [e, cadd_zero hp0, kf_get hs0, hu0] at hn0
        exact absurd hn0 (by simp)
      · exact e
    have mv : ∀ d, d ≤ d0 → ∀ {i : Nat}, cadd m p0 d = i → (kf sl i).isSome = true → d + 1 ≤ d0 := fun d hd i hi hs => by
      rcases Nat.lt_or_eq_of_le hd with h | h
      · exact h
      · rw [h] at hi
        rw [← hi, hn0] at hs
        exact absurd hs (by simp)
    have HMV := Lib.hid @mv
    clear mv
    have HH := Lib.hid hH
    have HD := Lib.hid (And.intro hd0 (And.intro hn0 (And.intro hpre hd1)))
    have hpi : (p0 : Int) < (m : Int) := by omega
    have HC := Lib.hid (cadd_tmod hp0 HM.out.2.1 HM.out.2.2.1)
    have HP := Lib.hid hp0
    have hp2 : (p0 : Int) < 1000000 := by omega
    have HS2 := Lib.hid (HS.out.drewN n)
    clear hf hs0 hu0 hk0 hg0 hv0 hH hd0 hn0 hpre hd1 hp0
    go_wp2
    go_loopg [5, 8] m (fun kq v5 v8 W => ∃ (dp d : Nat) (sl' : List Sl), dp < d ∧ d ≤ d0 ∧ kq = m + 1 - d ∧ v5 = .int .i64 (cadd m p0 dp : Nat) ∧ v8 = .int .i64 (cadd m p0 d : Nat) ∧ sl'.length = m ∧ TH (hmN m) most k sl sl' T' (cadd m p0 dp) (cadd m p0 d) ∧ St S w W (tS g most b m c tn sl'))
    case atStart =>
      refine ⟨0, 1, sl, by omega, HD.out.2.2.2, by omega, by rw [cadd_zero HP.out], by rw [HC.out], HM.out.1, ?_, HS2.out⟩
      rw [cadd_zero HP.out]
      exact HH.out
    case round =>
      obtain ⟨dp, d, sl', hdd, hd, hkq, rfl, rfl, hl', hTH, S3⟩ := hrel
      clear c0 c1 c2
      have hd0m := HD.out.1
      have hdist := cdist_two HP.out (Nat.le_of_lt hdd) (show d < m by omega)
      have hil : cadd m p0 d < m := cadd_lt HP.out (by omega)
      have hpl : cadd m p0 dp < m := cadd_lt HP.out (by omega)
      have HX := Lib.hid (And.intro hdd (And.intro hd (And.intro hkq (fun h => cadd_succ (d := d) HP.out h))))
      generalize hpe : cadd m p0 dp = p at *
      generalize hie : cadd m p0 d = i at *
      obtain ⟨s, hs⟩ : ∃ s : Sl, sl'[i]? = some s := ⟨_, List.getElem?_eq_getElem (by omega)⟩
      obtain ⟨sp, hsp⟩ : ∃ s : Sl, sl'[p]? = some s := ⟨_, List.getElem?_eq_getElem (by omega)⟩
      obtain ⟨g0, _, g2⟩ := tS_c S3
      obtain ⟨b0, b1, b2, b3⟩ := tS_s S3 hs
      have hi1 : (i : Int) < (m : Int) := by omega
      have hi2 : (i : Int) < 1000000 := by have := HM.out.2.2.1; omega
      have hp1 : (p : Int) < (m : Int) := by omega
      have hp3 : (p : Int) < 1000000 := by have := HM.out.2.2.1; omega
      have H3 := Lib.hid S3
      have HSP := Lib.hid (And.intro hs (And.intro hsp hl'))
      have HTH := Lib.hid hTH
      have hsu := kf_used hs
      rw [hTH.sames i] at hsu
      have HU := Lib.hid (And.intro hsu (And.intro hpe (And.intro hie hdist)))
      have HIL := Lib.hid (And.intro hil hpl)
      obtain ⟨su, sk, sh, sv⟩ := s
      dsimp only at b0 b1 b2 b3
      cases su with
      | false =>
        clear hdd hd hkq hdist hil hpl hs hsp hl' hTH hsu hpe hie hd0m hp2 S3
        go_upto_region 13 with fail
        go_wp2_with (refine St.wpRow flSl rfl 102 _ _ rfl H3.out 1 rfl p Sl.zero ?_ ?_ ?_ slot_size ?_; (have := HIL.out.2; have := HSP.out.2.2; omega); rfl; rfl; intro w5 H5; have d2 : w5.cell? ⟨g, 2, none⟩ = some (.int .i64 tn) := blk_cell (H5.out.get 0 rfl) 2; have f2 : w5.frozen? ⟨g, 2, none⟩ = false := H5.out.frozen 0 rfl 2; clear g0 g2)
        go_ret
        have hU := HU.out
        have hcd : 0 < cdist sl'.length p i := by rw [HSP.out.2.2, hU.2.2.2]; have := HX.out.1; omega
        have hTI := HTH.out.done (by rw [HSP.out.2.2]; have := HI.out.room; have := HM.out.1; omega) HLE.out HSP.out.1 rfl hcd
        have S6 := H5.out.set 0 rfl 2 (.int .i64 (tn - 1))
        have etn : tn - 1 = (T'.length : Int) := by rw [HTL.out]; omega
        have hlen : (sl'.set p Sl.zero).length = m := by rw [List.length_set]; exact HSP.out.2.2
        have S7 := S6.addPure (p := (sl'.set p Sl.zero).length ≤ 1000000 ∧ most ≤ 1000000 ∧ TI (hmN (sl'.set p Sl.zero).length) most (sl'.set p Sl.zero) T') (by rw [hlen]; exact ⟨HM.out.2.2.1, HM.out.2.2.2, hTI⟩)
        rw [etn] at S7
        rw [etn]
        obtain ⟨h, hi⟩ := HO.out
        have e := h.exUpd i0 hi (L1 := tL g most T') ⟨.slice (some ⟨b, 0, none⟩) m c, sl'.set p Sl.zero⟩ S7
        exact ⟨rfl, _, e⟩
      | true =>
        have hhome := hTH.homes i _ hs rfl
        dsimp only at hhome
        have hhl : hmN m sk < m := hmN_lt (by omega) sk
        subst hhome
        have hh2 : ((hmN m sk : Nat) : Int) < (m : Int) := by omega
        have hh1 : ((hmN m sk : Nat) : Int) < 1000000 := by have := HM.out.2.2.1; omega
        have HE1 := Lib.hid (And.intro (dist_int hhl hil) (dist_int hpl hil))
        obtain ⟨e1, e2⟩ := HE1.out
        have HHL := Lib.hid hhl
        generalize hA : cdist m (hmN m sk) i = ca at *
        generalize hB : cdist m p i = cb at *
        obtain ⟨bb, hbb⟩ : ∃ bb, decide (cb ≤ ca) = bb := ⟨_, rfl⟩
        generalize hho : hmN m sk = hom at *
        have HHO := Lib.hid (And.intro hho (And.intro hA hB))
        have hm4 := HM.out.2.2.1
        clear hdd hd hkq hdist hil hpl hs hsp hl' hTH hsu hpe hie hd0m hp2 S3 hhl hA hB hho hm4
        go_upto_region 10 with fail
        go_quiet (fail)
        --HERE
        have HBB := Lib.hid hbb
        clear e1 e2 hbb hh2
        cases bb with
        | false =>
          clear hTl1 hTl2 hp1 hp3 hpi hh1 hm3
          go_wp2
          go_roundg (m + 1 - (d + 1))
          case measure => have := HX.out; have := HM.out; have := HD.out.1; omega
          case rel =>
            have hb : ca < cb := by have := HBB.out; simpa using this
            obtain ⟨x1, x2, x3, x4⟩ := HX.out
            have hdl := HMV.out d x2 HU.out.2.2.1 HU.out.1
            obtain ⟨y1, y2, y3⟩ := HHO.out
            refine ⟨dp, d + 1, sl', by omega, hdl, rfl, by rw [HU.out.2.1], ?_, HSP.out.2.2, ?_, H3.out.drewN nq⟩
            · rw [cadd_tmod HIL.out.1 HM.out.2.1 HM.out.2.2.1, x4 (by have := HD.out.1; omega)]
            · rw [HU.out.2.1, ← x4 (by have := HD.out.1; omega)]
              have hsk := HTH.out.skip HSP.out.1 rfl (ip_ne HU.out.2.2.2 x1 y3) (by rw [HSP.out.2.2]; show cdist m (hmN m sk) i < cdist m p i; rw [y1, y2, y3]; exact hb) (by rw [HSP.out.2.2, y3]; have := HU.out.2.2.2; have := HD.out.1; omega)
              rw [HSP.out.2.2] at hsk
              exact hsk
        | true =>
          clear hTl1 hTl2 hpi hh1 hm3 g2
          have S4 := H3.out.drewN nq
          generalize wr.drewN nq = wq at *
          have k0 := (tS_c S4).1
          obtain ⟨q0, q1, q2, q3⟩ := tS_s S4 HSP.out.1
          have H4 := Lib.hid S4
          dsimp only at q0 q1 q2 q3
          clear S4 g0 b0 b1 b2 b3
          go_upto_region 11 with fail
          refine wp_region_qtail_drewN 13 (by kernel_rfl) (by kernel_rfl) ?_
          simp only [List.take_succ_cons, List.take_zero, List.drop_succ_cons, List.drop_zero]
          repeat (go_big_quiet_step (fail))
          refine wpQuiet_nil ?_
          rintro _ ⟨nq2, rfl⟩
          refine St.wpRow flSl rfl 102 _ _ rfl (H4.out.drewN nq2) 1 rfl p ⟨true, sk, (hom : Int), sv⟩ ?_ ?_ ?_ slot_size ?_
          · have := HIL.out.2; have := HSP.out.2.2; omega
          · rfl
          · rfl
          intro w5 H5
          clear k0 q0 q1 q2 q3
          go_wp2
          go_roundg (m + 1 - (d + 1))
          case measure => have := HX.out; have := HM.out; have := HD.out.1; omega
          case rel =>
            have hb : cb ≤ ca := by have := HBB.out; simpa using this
            obtain ⟨x1, x2, x3, x4⟩ := HX.out
            have hdl := HMV.out d x2 HU.out.2.2.1 HU.out.1
            obtain ⟨y1, y2, y3⟩ := HHO.out
            refine ⟨d, d + 1, sl'.set p ⟨true, sk, (hom : Int), sv⟩, by omega, hdl, rfl, by rw [HU.out.2.2.1], ?_, by rw [List.length_set]; exact HSP.out.2.2, ?_, H5.out⟩
            · rw [cadd_tmod HIL.out.1 HM.out.2.1 HM.out.2.2.1, x4 (by have := HD.out.1; omega)]
            · rw [HU.out.2.2.1, ← x4 (by have := HD.out.1; omega)]
              have hsk := HTH.out.move HSP.out.1 rfl (ip_ne HU.out.2.2.2 x1 y3) (by rw [HSP.out.2.2]; show cdist m p i ≤ cdist m (hmN m sk) i; rw [y1, y2, y3]; exact hb)
              rw [HSP.out.2.2] at hsk
              exact hsk
end Go.Proofs.Ytecgnfklfgjgaaa
/- slots.Table: New, Keys. -/
set_option linter.unusedVariables false
set_option linter.unusedSimpArgs false
namespace Go.Proofs.Ytecgnfklfgjgaaa
open Go.RowKit Go.Tat Go.Tab Go.Proofs.YtecgnfklfgjgaaaW.PrintWords PStorePeeks
theorem slot_info : (Try.prog.info? 102).map (fun i => (i.zero, i.size, i.bytes)) = some (some (.agg #[.bool false, .string ByteArray.empty, .int .i64 0, .int .i64 0]), 4, 40) := by kernel_rfl
def tnewPost (F : Nat → Prop) (w0 : World) (A : List Asr) (n : Nat) (e : Ending) (w' : World) : Prop := ∃ g S, e = .returned (.tuple #[.pointer (some ⟨g, 0, none⟩), .int .i64 0]) ∧ St F w0 w' (A ++ [tO g n S []])
set_option maxRecDepth 100000 in
set_option maxHeartbeats 4000000 in
theorem tnew_st {F : Nat → Prop} {w0 w : World} {A : List Asr} (h : St F w0 w A) (n : Nat) (h1 : 1 ≤ n) (h2 : n ≤ 1024) : Calls Try.prog 24 #[.int .i64 n] w (tnewPost F w0 A n) := by
  have H := Lib.hid h
  have h0 := Lib.hid (St.nil (fun _ => False) w)
  have n1 : ¬ ((n : Int) < 1) := by omega
  have n2 : ¬ ((n : Int) > 1024) := by omega
  clear h
  go_enter Try.func24, Try.ntmps24
  go_wp2_with fail
  go_loopg [4] 4999 (fun kq v W => ∃ m : Nat, v = .int .i64 (m : Int) ∧ 1 ≤ m ∧ (m = 1 ∨ m < 4 * n) ∧ kq = 5000 - m ∧ W = w)
  case atStart => exact ⟨1, rfl, by omega, by omega, by omega, rfl⟩
  case round =>
    obtain ⟨m, rfl, hm1, hm2, hk, rfl⟩ := hrel
    have HM := Lib.hid (And.intro hm1 (And.intro hm2 hk))
    have hmb : (m : Int) < 10000 := by omega
    by_cases hlt : m < 2 * n
    · have hlt' : (m : Int) < 2 * (n : Int) := by omega
      clear hm1 hm2 hk hlt
      go_wp2_with fail
      go_roundg (5000 - 2 * m)
      case measure => have := HM.out; omega
      case rel => exact ⟨2 * m, congrArg (Value.int .i64) (by omega), by have := HM.out; omega, by have := HM.out; omega, rfl, rfl⟩
    · have hlt' : ¬ ((m : Int) < 2 * (n : Int)) := by omega
      have hm3 : m ≤ 10000 := by omega
      have HX := Lib.hid (And.intro hm3 hlt)
      clear hm1 hm2 hk hlt
      go_wp2_with (refine St.wpMake flSl rfl _ _ 87 102 rfl Try.underlying87 Sl.zero (.agg #[.bool false, .string ByteArray.empty, .int .i64 0, .int .i64 0]) 40 slot_info rfl m _ _ rfl rfl rfl rfl (by have := HX.out.1; omega) (by have := HX.out.1; simp [maxLen]; omega) h0.out ?_; intro T b w1 hT)
      go_ret2
      obtain ⟨rfl, hl, S1⟩ := hT.out
      have S2 := S1.new' #[.slice (some ⟨b, 0, none⟩) m m, .int .i64 n, .int .i64 ((([] : List (ByteArray × Int)).length : Nat) : Int)] 89 w1.heap.size rfl
      have S3 := S2.perm (List.Perm.swap _ _ [])
      have hm1 := HM.out.1
      have hI : TI (hmN m) n (List.replicate m Sl.zero) [] := TI.new (fun k => hmN_lt (by omega) k) (by have := HX.out.2; omega) (by have := HX.out.2; omega)
      have S4 := S3.addPure (p := (List.replicate m Sl.zero).length ≤ 1000000 ∧ n ≤ 1000000 ∧ TI (hmN (List.replicate m Sl.zero).length) n (List.replicate m Sl.zero) []) (by rw [hl]; exact ⟨by have := HX.out.1; omega, by omega, hI⟩)
      have e := H.out.exAdd (L1 := tL w1.heap.size n []) ⟨.slice (some ⟨b, 0, none⟩) m m, List.replicate m Sl.zero⟩ S4
      exact ⟨w1.heap.size, _, rfl, e⟩
set_option maxRecDepth 100000 in
theorem tnew_no (n : Int) (w : World) (h : ¬ (1 ≤ n ∧ n ≤ 1024)) : Calls Try.prog 24 #[.int .i64 n] w fun e w' => e = .returned (.tuple #[.pointer none, .int .i64 1]) ∧ w' = w := by
  by_cases h1 : n < 1
  · clear h
    go_enter Try.func24, Try.ntmps24
    go_wp2
    go_ret2
    exact ⟨rfl, rfl⟩
  · have h2 : 1024 < n := by omega
    clear h
    go_enter Try.func24, Try.ntmps24
    go_wp2
    go_ret2
    exact ⟨rfl, rfl⟩
/-! ### Keys -/
theorem flStr : Flat Kd.string (fun s => [Value.string s]) := ⟨rfl, Iff.rfl, Iff.rfl⟩
theorem str_info : (Try.prog.info? 9).map (fun i => (i.zero, i.size, i.bytes)) = some (some (.string ByteArray.empty), 1, 16) := by kernel_rfl
def keysOf (sl : List Sl) : List ByteArray := (prs sl).map (·.1)
theorem keysOf_succ {sl : List Sl} {q : Nat} {s : Sl} (h : sl[q]? = some s) : keysOf (sl.take (q + 1)) = keysOf (sl.take q) ++ (if s.used then [s.key] else []) := by
  unfold keysOf prs
  rw [List.take_add_one, h, List.filterMap_append, List.map_append]
  congr 1
  unfold Sl.pair
  cases hu : s.used <;> simp [hu]
def keysPost (F : Nat → Prop) (w0 : World) (A : List Asr) (i g most : Nat) (T : List (ByteArray × Int)) (e : Ending) (w' : World) : Prop := ∃ v ks S', e = .returned v ∧ ks.Perm (T.map (·.1)) ∧ St F w0 w' (A.set i (tO g most S' T) ++ [slc Kd.string 9 v ks])
set_option maxRecDepth 100000 in
set_option maxHeartbeats 4000000 in
theorem tkeys_st {F : Nat → Prop} {w0 w : World} {A : List Asr} (h : St F w0 w A) (i0 : Nat) {g most : Nat} {S : Nat → Prop} {T : List (ByteArray × Int)} (hi : A[i0]? = some (tO g most S T)) :
    Calls Try.prog 41 #[.pointer (some ⟨g, 0, none⟩)] w (keysPost F w0 A i0 g most T) := by
  obtain ⟨b, c, m, sl, S1, hm, hm1, hm2, I⟩ := tab_open (h.get i0 hi)
  have HO := Lib.hid (And.intro h hi)
  have HP := Lib.hid (I.perm.map (·.1))
  have HL := Lib.hid I.len
  have S2 : St S w w (tS g most b m c T.length sl) := S1.sub (by simp [tL, tS])
  have S3 := S2.nils Kd.string 9
  have c0 := (tS_c S2).1
  have HM := Lib.hid (And.intro hm (And.intro hm1 hm2))
  have HI := Lib.hid I
  have HS := Lib.hid S3
  have hm3 : (m : Int) ≤ 1000000 := by omega
  clear h hi S1 S2 S3 I hm hm1 hm2
  go_enter Try.func41, Try.ntmps41
  go_wp2_with fail
  go_loopg [3, 14] (m + 1) (fun kq v3 v14 W => ∃ q : Nat, v14 = .int .i64 q ∧ q ≤ m ∧ m - q < kq ∧ St S w W (tS g most b m c T.length sl ++ [slc Kd.string 9 v3 (keysOf (sl.take q))]))
  case atStart => exact ⟨0, rfl, by omega, by omega, HS.out⟩
  case round =>
    clear HS c0
    obtain ⟨q, rfl, hq, hqm, S4⟩ := hrel
    by_cases hql : q < m
    · have hql' : (q : Int) < (m : Int) := by omega
      obtain ⟨s, hs⟩ : ∃ s : Sl, sl[q]? = some s := ⟨_, List.getElem?_eq_getElem (by have := HM.out.1; omega)⟩
      have HK := Lib.hid (keysOf_succ hs)
      have c0 : wr.cell? ⟨g, 0, none⟩ = some (.slice (some ⟨b, 0, none⟩) m c) := blk_cell (S4.get 0 rfl) 0
      have b0 : wr.cell? ⟨b, q * 4, none⟩ = some (.bool s.used) := (S4.elem flSl 1 rfl (i := q) (c := 0) hs (show 0 < 4 by decide)).1
      have b1 : wr.cell? ⟨b, q * 4 + 1, none⟩ = some (.string s.key) := (S4.elem flSl 1 rfl (i := q) (c := 1) hs (show 1 < 4 by decide)).1
      have b2 : wr.cell? ⟨b, q * 4 + 2, none⟩ = some (.int .i64 s.home) := (S4.elem flSl 1 rfl (i := q) (c := 2) hs (show 2 < 4 by decide)).1
      have b3 : wr.cell? ⟨b, q * 4 + 3, none⟩ = some (.int .i64 s.v) := (S4.elem flSl 1 rfl (i := q) (c := 3) hs (show 3 < 4 by decide)).1
      have hkl : (keysOf (sl.take q)).length ≤ q := by
        unfold keysOf prs
        rw [List.length_map]
        exact Nat.le_trans (List.length_filterMap_le _ _) (List.length_take_le _ _)
      obtain ⟨E, hE⟩ : ∃ E, keysOf (sl.take q) = E := ⟨_, rfl⟩
      rw [hE] at S4 HK hkl
      obtain ⟨A3, c3, h3⟩ := Kd.R_slice (S4.get 2 rfl).1
      subst h3
      have HQ := Lib.hid (And.intro hq (And.intro hqm hkl))
      have H4 := Lib.hid S4
      obtain ⟨su, sk, sh, sv⟩ := s
      dsimp only at b0 b1 b2 b3
      have hqb : (q : Int) < 1000000 := by omega
      have HQL := Lib.hid hql
      clear S4 hs hE hq hqm hkl hql
      go_upto_region 7 with fail
      have S5 := H4.out.new' #[.bool su, .string sk, .int .i64 sh, .int .i64 sv] 102 wr.heap.size rfl
      obtain ⟨z, hz⟩ : ∃ z, wr.heap.size = z := ⟨_, rfl⟩
      rw [hz] at S5 ⊢
      clear hz
      generalize World.alloc wr _ = w5 at *
      have d0 : w5.cell? ⟨z, 0, none⟩ = some (.bool su) := blk_cell (S5.get 3 rfl) 0
      have d1 : w5.cell? ⟨z, 1, none⟩ = some (.string sk) := blk_cell (S5.get 3 rfl) 1
      have H5 := Lib.hid S5
      clear S5 H4 b0 b1 b2 b3
      cases su with
      | false =>
        go_wp2_with fail
        go_roundg (m - q)
        case measure => have := HQ.out; omega
        case rel =>
          have := HQL.out
          refine ⟨q + 1, congrArg (Value.int .i64) (by omega), by omega, by omega, ?_⟩
          rw [HK.out, if_neg (by simp), List.append_nil]
          exact H5.out.drop 3
      | true =>
        have hcap := Lib.hid (show (E.length + 1) * 16 ≤ 140737488355328 by have := HQ.out; have := HM.out; omega)
        go_wp2_with (at_builtin; go_loud (refine St.wp1 flStr rfl _ _ 53 9 (.string ByteArray.empty) 16 rfl Try.underlying53 str_info rfl (by decide) (by decide) H5.out 2 rfl sk _ rfl rfl rfl hcap.out ?_))
        intro T1 A10 c10 w10 h10
        have HT := Lib.hid h10.out.1
        have H10 := Lib.hid h10.out.2
        clear h10 H5 d0 d1
        go_wp2_with fail
        go_roundg (m - q)
        case measure => have := HQ.out; omega
        case rel =>
          have := HQL.out
          refine ⟨q + 1, congrArg (Value.int .i64) (by omega), by omega, by omega, ?_⟩
          rw [HK.out, if_pos trivial, ← HT.out]
          exact H10.out.drop 3
    · have hql' : ¬ ((q : Int) < (m : Int)) := by omega
      have hqe : q = sl.length := by have := HM.out.1; omega
      have hall : keysOf (sl.take q) = (prs sl).map (·.1) := by rw [hqe, List.take_length]; rfl
      rw [hall] at S4
      have H4 := Lib.hid S4
      clear S4 hq hqm hql hqe hall
      go_wp2_with fail
      go_ret
      obtain ⟨h, hi⟩ := HO.out
      have S5 := H4.out.addPure (p := sl.length ≤ 1000000 ∧ most ≤ 1000000 ∧ TI (hmN sl.length) most sl T) (by rw [HM.out.1]; exact ⟨HM.out.2.1, HM.out.2.2, HI.out⟩)
      have S6 : St S w wr (tL g most T ⟨.slice (some ⟨b, 0, none⟩) m c, sl⟩ ++ [slc Kd.string 9 u3 ((prs sl).map (·.1))]) := S5.perm ((List.Perm.swap _ _ []).append_left (tS g most b m c T.length sl)).symm
      exact ⟨_, _, _, rfl, HP.out, h.exUpd2 i0 hi (L1 := tL g most T) ⟨.slice (some ⟨b, 0, none⟩) m c, sl⟩ S6⟩
end Go.Proofs.Ytecgnfklfgjgaaa
