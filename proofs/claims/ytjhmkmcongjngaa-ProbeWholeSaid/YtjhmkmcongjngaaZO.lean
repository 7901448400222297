/- ProbeWhole: a doubt is over no sooner than its ticks behind its beginning. -/
import Derived.Test.YtjhmkmcongjngaaZMN
import Derived.Test.YtjhmkmcongjngaaQPt
set_option linter.unusedVariables false
set_option linter.unusedSimpArgs false
namespace Go.Proofs.Ytjhmkmcongjngaa
open Go.RowKit Go.Tat Go.Proofs.YtjhmkmcongjngaaW.PrintWords PProbePlays
structure S64 where
  f0 : Int
  f1 : Int
  f2 : Int
  f3 : Int
instance : Inhabited S64 := ⟨⟨0, 0, 0, 0⟩⟩
def k64 : Kd S64 := Kd.iso (Kd.pair (Kd.int .i64) (Kd.pair (Kd.int .u8) (Kd.pair (Kd.int .u32) (Kd.int .u64)))) (fun x : S64 => (x.f0, x.f1, x.f2, x.f3))
theorem k64_open {w : World} {x : S64} {cs : List Value} (h : k64.K w x cs) : cs = [.int .i64 x.f0, .int .u8 x.f1, .int .u32 x.f2, .int .u64 x.f3] := by
  obtain ⟨_, _, rfl, rfl, ⟨_, _, rfl, rfl, ⟨_, _, rfl, rfl, rfl⟩⟩⟩ := h
  rfl
theorem Try.cells64 : Try.prog.cellsOf 64 = k64.sz := by kernel_rfl
def g64 (x : S64) : Prop := (Lit.int .i64 x.f0).wf = true ∧ (Lit.int .u8 x.f1).wf = true ∧ (Lit.int .u32 x.f2).wf = true ∧ (Lit.int .u64 x.f3).wf = true
theorem opens64 : Opens Try.prog 64 k64 g64 := by
  have h := Opens.struct (P := Try.prog) (t := 64) (d := Kd.pair (Kd.int .i64) (Kd.pair (Kd.int .u8) (Kd.pair (Kd.int .u32) (Kd.int .u64)))) (g := fun p => (Lit.int .i64 p.1).wf = true ∧ (Lit.int .u8 p.2.1).wf = true ∧ (Lit.int .u32 p.2.2.1).wf = true ∧ (Lit.int .u64 p.2.2.2).wf = true) Try.underlying64 Try.cells64
    (OpensF.cons rfl (by kernel_rfl) (Opens.int (by kernel_rfl)) (OpensF.cons (by rfl) (by kernel_rfl) (Opens.int (by kernel_rfl)) (OpensF.cons (by rfl) (by kernel_rfl) (Opens.int (by kernel_rfl)) (OpensF.one (by rfl) (by kernel_rfl) (Opens.int (by kernel_rfl)))))) (fun x : S64 => (x.f0, x.f1, x.f2, x.f3)) (fun p => ⟨p.1, p.2.1, p.2.2.1, p.2.2.2⟩) (fun p => rfl)
  exact .mk fun hx => let ⟨p, hg, hk⟩ := h.out hx; ⟨p, hg, hk⟩
theorem wf64 {x : Int} (h : (Lit.int .u64 x).wf = true) : 0 ≤ x := by
  have b : IntKind.u64.min ≤ x ∧ x ≤ IntKind.u64.max := by simpa [Lit.wf] using h
  exact b.1
theorem wf16 {x : Int} (h : (Lit.int .u16 x).wf = true) : 0 ≤ x ∧ x < 65536 := by
  have b : IntKind.u16.min ≤ x ∧ x ≤ IntKind.u16.max := by simpa [Lit.wf] using h
  have e0 : IntKind.u16.min = 0 := rfl
  have e1 : IntKind.u16.max = 65535 := rfl
  omega
/-- What the law keeps beside the doubts. -/
def DInv (M : List (Int × Db)) (B : List (Int × Bg)) (n : Nat) (now : Int) : Prop := ∀ k, (mget M k = none ∧ mget B k = none) ∨ ∃ x b, mget M k = some x ∧ mget B k = some b ∧ b.inc = x.inc ∧ x.over = b.t + n ∧ 0 ≤ b.t ∧ b.t ≤ now
theorem DInv.later {M : List (Int × Db)} {B : List (Int × Bg)} {n : Nat} {now now' : Int} (h : DInv M B n now) (hn : now ≤ now') : DInv M B n now' := fun k => (h k).imp id fun ⟨x, b, h1, h2, h3, h4, h5, h6⟩ => ⟨x, b, h1, h2, h3, h4, h5, by omega⟩
theorem DInv.put {M : List (Int × Db)} {B : List (Int × Bg)} {n : Nat} {now : Int} (h : DInv M B n now) (node inc : Int) (h0 : 0 ≤ now) : DInv (mput M node ⟨inc, now + n⟩) (mput B node ⟨inc, now⟩) n now := by
  intro k
  rw [mget_mput, mget_mput]
  by_cases e : k = node
  · rw [if_pos e, if_pos e]
    exact .inr ⟨_, _, rfl, rfl, rfl, rfl, h0, Int.le_refl _⟩
  · rw [if_neg e, if_neg e]
    exact h k
theorem DInv.del {M : List (Int × Db)} {B : List (Int × Bg)} {n : Nat} {now : Int} (h : DInv M B n now) (hM : (M.map (·.1)).Nodup) (hB : (B.map (·.1)).Nodup) (node : Int) : DInv (mdel M node) (mdel B node) n now := by
  intro k
  rw [mget_mdel hM, mget_mdel hB]
  by_cases e : k = node
  · rw [if_pos e, if_pos e]
    exact .inl ⟨rfl, rfl⟩
  · rw [if_neg e, if_neg e]
    exact h k
theorem DInv.fold {M : List (Int × Db)} {B : List (Int × Bg)} {n : Nat} {now : Int} (h : DInv M B n now) (hM : (M.map (·.1)).Nodup) (hB : (B.map (·.1)).Nodup) (l : List Int) : DInv (l.foldl mdel M) (l.foldl mdel B) n now := by
  intro k
  rw [(fold_mdel l M hM).2 k, (fold_mdel l B hB).2 k]
  by_cases e : k ∈ l
  · rw [if_pos e, if_pos e]
    exact .inl ⟨rfl, rfl⟩
  · rw [if_neg e, if_neg e]
    exact h k
theorem fold_len {ν : Type} (l : List Int) : ∀ (M : List (Int × ν)), (l.foldl mdel M).length ≤ M.length := by
  induction l with
  | nil => intro M; exact Nat.le_refl _
  | cons a l ih =>
    intro M
    have h1 := ih (mdel M a)
    have h2 : (mdel M a).length ≤ M.length := by rw [mdel_length]; split <;> omega
    exact Nat.le_trans h1 h2
theorem not_taken {l : List Int} (h : l.Nodup) {j : Nat} {k : Int} (hk : l[j]? = some k) : k ∉ l.take j := by
  intro hmem
  obtain ⟨i, hi⟩ := List.mem_iff_getElem?.1 hmem
  have hij : i < j := by
    have := (List.getElem?_eq_some_iff.1 hi).1
    rw [List.length_take] at this
    omega
  rw [List.getElem?_take_of_lt hij] at hi
  obtain ⟨h1, h2⟩ := List.getElem?_eq_some_iff.1 hi
  obtain ⟨h3, h4⟩ := List.getElem?_eq_some_iff.1 hk
  exact List.pairwise_iff_getElem.1 h i j h1 h3 hij (by rw [h2, h4])
theorem zero72 : (Try.prog.info? 72).map (·.zero) = some (some (.agg #[.int .u8 0, .int .u8 0, .int .u32 0])) := by kernel_rfl
theorem DO.lift2 {W w w' : World} {gd mb n : Nat} {M M' : List (Int × Db)} {X Y : List Asr} (h : St (fun _ => False) W w (blk gd #[.int .u64 n, .map (some mb)] 92 :: mapA mb eu8 evD M :: X)) (h' : St (two2 gd mb) w w' (blk gd #[.int .u64 n, .map (some mb)] 92 :: mapA mb eu8 evD M' :: Y)) : St (fun _ => False) W w' ((blk gd #[.int .u64 n, .map (some mb)] 92 :: mapA mb eu8 evD M' :: X) ++ Y) := by
  have h1 := DO.lift h (h'.sub (List.Sublist.cons_cons _ (List.Sublist.cons_cons _ (List.nil_sublist Y))))
  have e1 := List.pairwise_cons.1 h'.sat.dis
  have e2 := List.pairwise_cons.1 e1.2
  have hn : ∀ y ∈ Y, ∀ k, y.fp k → w.heap.size ≤ k := by
    intro y hy k hk
    rcases Nat.lt_or_ge k w.heap.size with hl | hl
    · rcases h'.inn y (by simp [hy]) k hk hl with rfl | rfl
      · exact (e1.1 y (by simp [hy]) _ rfl hk).elim
      · exact (e2.1 y hy _ rfl hk).elim
    · exact hl
  refine ⟨Sat.adds h1.sat (h'.sat.sub ((List.sublist_cons_self _ _).trans (List.sublist_cons_self _ _))) fun a ha b hb => ?_, fun a ha k hk hl => ?_, h1.mod⟩
  · rcases List.mem_cons.1 ha with rfl | hx
    · exact e1.1 b (by simp [hb])
    · rcases List.mem_cons.1 hx with rfl | hy
      · exact e2.1 b hb
      · intro k hk hk'
        have h2 := a.lt (h.sat.all a (by simp [hy])) hk
        have h3 := hn b hb k hk'
        omega
  · rcases List.mem_append.1 ha with hx | hy
    · exact h1.inn a hx k hk hl
    · have h3 := hn a hy k hk
      have h4 := h.mod.size
      omega
set_option maxRecDepth 100000 in
set_option maxHeartbeats 16000000 in
theorem whole_c (a : Nat) (ha : a < 65536) (ops : List S64) (A : Option Addr) (c : Nat) (W : World) (hC : k64.C W A ops.length ops) (hg : ∀ x ∈ ops, g64 x) :
    Calls Try.prog 6 #[.int .u16 a, .slice A ops.length c] W fun e w' => e = .returned (.bool true) ∧ Below W.heap.size W w' := by
  obtain ⟨n, hn⟩ : ∃ n, 1 + a % 1000 = n := ⟨_, rfl⟩
  have hn1 : 1 ≤ n := by omega
  have hn2 : n ≤ 1000 := by omega
  have HNN := Lib.hid (And.intro hn1 hn2)
  have hmx := Kd.C_max hC
  have HC := Lib.hid (And.intro hC hg)
  have HN := Lib.hid (newd_c (St.nil (fun _ => False) W) n hn1 hn2)
  clear hC hg
  have hai : (a : Int) < 65536 := by omega
  have en : (1 : Int) + (a : Int) % 1000 = (n : Int) := by omega
  clear hn hn1 hn2 ha
  go_enter Try.func6, Try.ntmps6
  go_wp2_with fail
  clear en
  refine HN.out.mono ?_
  rintro e w1 ⟨gd, mb, rfl, S1⟩
  have H1 := Lib.hid S1
  clear S1 HN
  go_wp2_with fail
  refine (fixed_c _).mono ?_
  rintro e w2 ⟨rfl, b2⟩
  have H2 := Lib.hid (H1.out.below b2)
  clear b2 H1
  go_wp2_with (refine wpList_makeMap rfl 61 rfl eu8 evB ?_; intro hM)
  have S3 := H2.out.add (a := mapA w2.heap.size eu8 evB ([] : List (Int × Bg))) ((Below.refl _ _).alloc (Nat.le_refl _) _) hM (fun k h => Nat.le_of_eq h.symm)
  have H3 := Lib.hid S3
  clear S3 hM H2
  generalize w2.heap.size = bm at *
  generalize w2.alloc _ = w3 at *
  go_loopg [9, 34] (ops.length + 1) (fun m v9 v34 wx => ∃ (j : Nat) (now : Int) (M : List (Int × Db)) (B : List (Int × Bg)), v9 = .int .u64 now ∧ v34 = .int .i64 j ∧ ops.length - j < m ∧ j ≤ ops.length ∧ j ≤ 201 ∧ 0 ≤ now ∧ now ≤ 100 * (j : Int) ∧ M.length ≤ j ∧ DInv M B n now ∧ St (fun _ => False) W wx [blk gd #[.int .u64 n, .map (some mb)] 92, mapA mb eu8 evD M, mapA bm eu8 evB B])
  case atStart => exact ⟨0, 0, [], [], rfl, rfl, by omega, by omega, by omega, by omega, by omega, by simp, fun k => .inl ⟨rfl, rfl⟩, H3.out⟩
  case round =>
    clear H3
    obtain ⟨j, now, M, B, rfl, rfl, hjm, hj, hj2, hn0, hn1, hml, hI, S4⟩ := hrel
    have H4 := Lib.hid S4
    have HJ := Lib.hid (And.intro hjm (And.intro hj (And.intro hj2 (And.intro hn0 (And.intro hn1 (And.intro hml hI))))))
    clear S4 hjm hml hI
    by_cases hjl : j < ops.length
    · have hjl' : (j : Int) < (ops.length : Int) := by omega
      have hj0 : (0 : Int) ≤ (j : Int) := by omega
      obtain ⟨x, hx⟩ : ∃ x, ops[j]? = some x := ⟨_, List.getElem?_eq_getElem hjl⟩
      have hgx := HC.out.2 x (List.mem_of_getElem? hx)
      obtain ⟨ad, b, o, cs, rfl, had, hb, hK, hcs⟩ := C_at HC.out.1 hx (by decide)
      have hcs' := k64_open hK
      subst hcs'
      obtain ⟨xk, xn, xi, xt⟩ := x
      obtain ⟨hg1, hg2, hg3, hg4⟩ := hgx
      dsimp only at hg1 hg2 hg3 hg4 hcs
      have ht0 := wf64 hg4
      have hBw := H4.out.base
      have c0 := (hBw.cell (p := ⟨b, o, none⟩) hb).trans (hcs 0 _ rfl)
      have c1 := (hBw.cell (p := ⟨b, o + 1, none⟩) hb).trans (hcs 1 _ rfl)
      have c2 := (hBw.cell (p := ⟨b, o + 2, none⟩) hb).trans (hcs 2 _ rfl)
      have c3 := (hBw.cell (p := ⟨b, o + 3, none⟩) hb).trans (hcs 3 _ rfl)
      have had' : ad.add (j * 4) = ⟨b, o, none⟩ := had
      clear hg1 hg2 hg3 hg4 hK hcs had hx hBw
      go_upto_region 10 with fail
      have S5 := H4.out.new' #[.int .i64 xk, .int .u8 xn, .int .u32 xi, .int .u64 xt] 64 wr.heap.size rfl
      generalize wr.heap.size = z at *
      generalize World.alloc _ _ = w5 at *
      have d0 : w5.cell? ⟨z, 0, none⟩ = some (.int .i64 xk) := S5.cell 3 rfl 0
      have d1 : w5.cell? ⟨z, 1, none⟩ = some (.int .u8 xn) := S5.cell 3 rfl 1
      have d2 : w5.cell? ⟨z, 2, none⟩ = some (.int .u32 xi) := S5.cell 3 rfl 2
      have d3 : w5.cell? ⟨z, 3, none⟩ = some (.int .u64 xt) := S5.cell 3 rfl 3
      have H5 := Lib.hid S5
      clear S5 H4 c0 c1 c2 c3 had'
      by_cases hb1 : (200 : Int) < (j : Int)
      · go_wp2_with fail
        go_ret
        exact ⟨rfl, H5.out.base⟩
      · obtain ⟨t1, ht1⟩ : ∃ t1, xt % 100 = t1 := ⟨_, rfl⟩
        have ht2 : 0 ≤ t1 ∧ t1 < 100 := by omega
        obtain ⟨ht3, ht4⟩ := ht2
        obtain ⟨nt, hnt⟩ : ∃ nt, now + t1 = nt := ⟨_, rfl⟩
        have hn2 : now ≤ 20100 := by omega
        have HT := Lib.hid (show 0 ≤ nt ∧ nt ≤ 100 * ((j + 1 : Nat) : Int) ∧ now ≤ nt ∧ j ≤ 200 by omega)
        have hnt0 : 0 ≤ nt := by omega
        have hnt1 : nt ≤ 30000 := by omega
        have et : Int.tmod xt 100 = t1 := by rw [Int.tmod_eq_emod_of_nonneg ht0]; exact ht1
        go_upto_region 12 with fail
        clear hb1 ht1 ht3 ht4 hnt et hn0 hn1 d3
        have HI := Lib.hid (HJ.out.2.2.2.2.2.2.later HT.out.2.2.1)
        have HNDM := Lib.hid ((H5.out.get 1 rfl : MapAt w5 mb eu8 evD M).nd)
        have HNDB := Lib.hid ((H5.out.get 2 rfl : MapAt w5 bm eu8 evB B).nd)
        by_cases hk0 : xk = 0
        · subst hk0
          have HB := Lib.hid (begin_c gd mb n HNN.out.2 M w5 (DO.start H5.out) xn xi nt ⟨HT.out.1, by omega⟩)
          obtain ⟨r, hr⟩ : ∃ r, begR M xn xi = r := ⟨_, rfl⟩
          rw [hr] at HB
          clear hr
          go_wp2_with fail
          refine HB.out.mono ?_
          rintro e w6 ⟨rfl, S6⟩
          have S7 := DO.lift H5.out S6
          clear S6 HB d0 d1 d2
          cases r with
          | true =>
            have S7 : St (fun _ => False) W w6 [blk gd #[.int .u64 n, .map (some mb)] 92, mapA mb eu8 evD (mput M xn ⟨xi, nt + n⟩), mapA bm eu8 evB B, blk z #[.int .i64 0, .int .u8 xn, .int .u32 xi, .int .u64 xt] 64] := S7
            have d1 : w6.cell? ⟨z, 1, none⟩ = some (.int .u8 xn) := S7.cell 3 rfl 1
            have d2 : w6.cell? ⟨z, 2, none⟩ = some (.int .u32 xi) := S7.cell 3 rfl 2
            have H7 := Lib.hid S7
            clear S7 H5
            go_wp2_with (at_mapUpdate; refine wpList_mapUpdate rfl 61 5 64 _ _ _ rfl Try.underlying61 keysU evB bm B (H7.out.get 2 rfl) xn ⟨xi, nt⟩ rfl rfl rfl ?_; intro w8 M8 m8)
            have S8 := H7.out.upd 2 rfl m8 (a' := mapA bm eu8 evB (mput B xn ⟨xi, nt⟩)) M8 (fun k h => .inl h)
            have H8 := Lib.hid (S8.drop 3)
            clear S8 M8 m8 H7 d1 d2
            go_roundg (ops.length - j)
            case measure => exact HJ.out.1
            case rel => exact ⟨j + 1, nt, _, _, rfl, by go_num, by have := HJ.out.1; omega, by have := HJ.out.2.1; omega, by have := HT.out.2.2.2; omega, HT.out.1, HT.out.2.1, by rw [mput_length]; have := HJ.out.2.2.2.2.2.1; split <;> omega, HI.out.put xn xi HT.out.1, H8.out⟩
          | false =>
            have H7 := Lib.hid (show St (fun _ => False) W w6 [blk gd #[.int .u64 n, .map (some mb)] 92, mapA mb eu8 evD M, mapA bm eu8 evB B] from S7.drop 3)
            clear S7 H5
            go_wp2_with fail
            go_roundg (ops.length - j)
            case measure => exact HJ.out.1
            case rel => exact ⟨j + 1, nt, M, B, rfl, by go_num, by have := HJ.out.1; omega, by have := HJ.out.2.1; omega, by have := HT.out.2.2.2; omega, HT.out.1, HT.out.2.1, by have := HJ.out.2.2.2.2.2.1; omega, HI.out, H7.out⟩
        · have k0 : (xk == 0) = false := by simpa using hk0
          by_cases hk1 : xk = 1
          · subst hk1
            have HB := Lib.hid (end_c gd mb n M w5 (DO.start H5.out) xn xi)
            obtain ⟨r, hr⟩ : ∃ r, endR M xn xi = r := ⟨_, rfl⟩
            rw [hr] at HB
            clear hr
            go_wp2_with fail
            refine HB.out.mono ?_
            rintro e w6 ⟨rfl, S6⟩
            have S7 := DO.lift H5.out S6
            clear S6 HB d0 d1 d2 k0 hk0
            cases r with
            | true =>
              have S7 : St (fun _ => False) W w6 [blk gd #[.int .u64 n, .map (some mb)] 92, mapA mb eu8 evD (mdel M xn), mapA bm eu8 evB B, blk z #[.int .i64 1, .int .u8 xn, .int .u32 xi, .int .u64 xt] 64] := S7
              have d1 : w6.cell? ⟨z, 1, none⟩ = some (.int .u8 xn) := S7.cell 3 rfl 1
              have H7 := Lib.hid S7
              clear S7 H5
              go_wp2_with (refine wpList_mapDelete rfl 61 5 64 _ _ rfl Try.underlying61 keysU evB bm B (H7.out.get 2 rfl) xn rfl rfl ?_; intro w8 M8 m8)
              have S8 := H7.out.upd 2 rfl m8 (a' := mapA bm eu8 evB (mdel B xn)) M8 (fun k h => .inl h)
              have H8 := Lib.hid (S8.drop 3)
              clear S8 M8 m8 H7 d1
              go_roundg (ops.length - j)
              case measure => exact HJ.out.1
              case rel => exact ⟨j + 1, nt, _, _, rfl, by go_num, by have := HJ.out.1; omega, by have := HJ.out.2.1; omega, by have := HT.out.2.2.2; omega, HT.out.1, HT.out.2.1, by rw [mdel_length]; have := HJ.out.2.2.2.2.2.1; split <;> omega, HI.out.del HNDM.out HNDB.out xn, H8.out⟩
            | false =>
              have H7 := Lib.hid (show St (fun _ => False) W w6 [blk gd #[.int .u64 n, .map (some mb)] 92, mapA mb eu8 evD M, mapA bm eu8 evB B] from S7.drop 3)
              clear S7 H5
              go_wp2_with fail
              go_roundg (ops.length - j)
              case measure => exact HJ.out.1
              case rel => exact ⟨j + 1, nt, M, B, rfl, by go_num, by have := HJ.out.1; omega, by have := HJ.out.2.1; omega, by have := HT.out.2.2.2; omega, HT.out.1, HT.out.2.1, by have := HJ.out.2.2.2.2.2.1; omega, HI.out, H7.out⟩
          · have k1 : (xk == 1) = false := by simpa using hk1
            clear hk0 hk1
            have HB := Lib.hid (over_c gd mb n M (by have := HJ.out.2.2.2.2.2.1; omega) w5 (DO.start H5.out) nt)
            go_wp2_with fail
            refine HB.out.mono ?_
            rintro e w6 ⟨v, l, rfl, hov, S6⟩
            clear d0 d1 d2 k0 k1
            have S7 : St (fun _ => False) W w6 [blk gd #[.int .u64 n, .map (some mb)] 92, mapA mb eu8 evD (l.foldl mdel M), mapA bm eu8 evB B, blk z #[.int .i64 xk, .int .u8 xn, .int .u32 xi, .int .u64 xt] 64, slc kN 72 v (newsOf M l)] := DO.lift2 H5.out S6
            have HOV := Lib.hid hov
            obtain ⟨L, hL⟩ : ∃ L, newsOf M l = L := ⟨_, rfl⟩
            have hLl : L.length = l.length := by rw [← hL]; unfold newsOf; rw [List.length_map]
            have hl1 : l.length ≤ 1000 := hov.2.2
            rw [hL] at S7
            have HL := Lib.hid (And.intro hL hLl)
            obtain ⟨vA, vc, rfl⟩ := Kd.R_slice (S7.get 4 rfl).1
            have H7 := Lib.hid (S7.drop 3)
            clear S6 S7 hov HB H5 hL hLl
            have HL1 := Lib.hid hl1
            clear hl1
            go_wp2_with fail
            go_loopg [52] (L.length + 1) (fun m v52 wx => ∃ (q : Nat), v52 = .int .i64 q ∧ L.length - q < m ∧ q ≤ L.length ∧ St (fun _ => False) W wx [blk gd #[.int .u64 n, .map (some mb)] 92, mapA mb eu8 evD (l.foldl mdel M), mapA bm eu8 evB ((l.take q).foldl mdel B), slc kN 72 (.slice vA L.length vc) L])
            case atStart => exact ⟨0, rfl, by omega, by omega, H7.out⟩
            case round =>
              clear H7
              obtain ⟨q, rfl, hqm, hq, S8⟩ := hrel
              have HQ := Lib.hid (And.intro hqm hq)
              clear hqm
              by_cases hql : q < L.length
              · have hql' : (q : Int) < (L.length : Int) := by omega
                have hq0 : (0 : Int) ≤ (q : Int) := by omega
                have hqb : (q : Int) < 1000000 := by have := HL1.out; have := HL.out.2; omega
                obtain ⟨k, hk⟩ : ∃ k, l[q]? = some k := ⟨_, List.getElem?_eq_getElem (by have := HL.out.2; omega)⟩
                obtain ⟨x, hx, hxo⟩ := HOV.out.2.1 k (List.mem_of_getElem? hk)
                obtain ⟨ic, ov⟩ := x
                have hLq : L[q]? = some (k, ic) := by
                  rw [← HL.out.1]
                  unfold newsOf
                  rw [List.getElem?_map, hk]
                  simp [incOf, hx]
                have hnt := not_taken HOV.out.1 hk
                rcases HI.out k with ⟨h9, _⟩ | ⟨x2, b, h1, h2, h3, h4, h5, h6⟩
                · rw [hx] at h9; cases h9
                obtain ⟨bi, bt⟩ := b
                rw [hx] at h1
                cases h1
                dsimp only at h3 h4 h5 h6 hxo
                subst h3
                have hB' : mget ((l.take q).foldl mdel B) k = some ⟨bi, bt⟩ := by rw [(fold_mdel (l.take q) B HNDB.out).2 k, if_neg hnt]; exact h2
                have HB2 := Lib.hid hB'
                have hage : ¬ nt - bt < (n : Int) := by omega
                have HT2 := Lib.hid (show (l.take (q + 1)).foldl mdel B = mdel ((l.take q).foldl mdel B) k by rw [List.take_add_one, hk, List.foldl_append]; rfl)
                obtain ⟨gA, cA, hv, _, hcA⟩ := slc_form (S8.get 3 rfl) (by omega)
                injection hv with hv1 hvl hv2
                subst hv1; subst hv2
                have f0 := (St.elem flN S8 3 rfl hLq (c := 0) (by show 0 < 3; decide)).1
                have f1 := (St.elem flN S8 3 rfl hLq (c := 1) (by show 1 < 3; decide)).1
                have f2 := (St.elem flN S8 3 rfl hLq (c := 2) (by show 2 < 3; decide)).1
                have x0 : wr.cell? ⟨gA, q * 3, none⟩ = some (.int .u8 k) := f0
                have x1 : wr.cell? ⟨gA, q * 3 + 1, none⟩ = some (.int .u8 3) := f1
                have x2 : wr.cell? ⟨gA, q * 3 + 2, none⟩ = some (.int .u32 bi) := f2
                have H8 := Lib.hid S8
                have HNN2 := HNN.out.2
                have hbt1 : bt ≤ 30000 := by omega
                have hnn : (n : Int) ≤ 1000 := by omega
                have hnn0 : (0 : Int) ≤ (n : Int) := by omega
                clear S8 hx hLq hnt h2 h4 hB' hk hvl hcA f0 f1 f2 hxo hq HNN2
                go_upto_region 16 with (first
                  | (refine St.wpAlloc rfl 72 rfl _ #[.int .u8 0, .int .u8 0, .int .u32 0] zero72 rfl H8.out ?_; intro z2 w9 H9)
                  | (refine St.wpStoreA rfl 72 _ _ rfl H9.out 4 rfl #[.int .u8 k, .int .u8 3, .int .u32 bi] rfl (by simp [Value.oneCell']) rfl rfl (by kernel_rfl) ?_; intro w10 H10))
                clear x0 x1 x2 H9 H8
                have hlk := (MapAt.look (t := 61) Try.underlying61 keysU (H10.out.get 2 rfl) k _ zero64 (some ⟨bi, bt⟩) HB2.out (evB ⟨bi, bt⟩) rfl).2
                unfold evB at hlk
                dsimp only at hlk
                have y0 : w10.cell? ⟨z2, 0, none⟩ = some (.int .u8 k) := H10.out.cell 4 rfl 0
                go_upto_region 17 with (first
                  | (refine St.wpAlloc rfl 64 rfl _ _ zero64 rfl H10.out ?_; intro z3 w11 H11)
                  | (refine St.wpStoreA rfl 64 _ _ rfl H11.out 5 rfl #[.int .i64 0, .int .u8 0, .int .u32 bi, .int .u64 bt] rfl (by simp [Value.oneCell']) rfl rfl (by kernel_rfl) ?_; intro w12 H12))
                clear hlk y0 H11 H10
                have y0 : w12.cell? ⟨z2, 0, none⟩ = some (.int .u8 k) := H12.out.cell 4 rfl 0
                have y1 : w12.cell? ⟨z2, 1, none⟩ = some (.int .u8 3) := H12.out.cell 4 rfl 1
                have y2 : w12.cell? ⟨z2, 2, none⟩ = some (.int .u32 bi) := H12.out.cell 4 rfl 2
                have v2 : w12.cell? ⟨z3, 2, none⟩ = some (.int .u32 bi) := H12.out.cell 5 rfl 2
                have v3 : w12.cell? ⟨z3, 3, none⟩ = some (.int .u64 bt) := H12.out.cell 5 rfl 3
                go_wp2_with (refine wpList_mapDelete rfl 61 5 64 _ _ rfl Try.underlying61 keysU evB bm _ (H12.out.get 2 rfl) k rfl rfl ?_; intro w13 M13 m13)
                have S13 := H12.out.upd 2 rfl m13 (a' := mapA bm eu8 evB ((l.take (q + 1)).foldl mdel B)) (by rw [HT2.out]; exact M13) (fun k h => .inl h)
                have H13 := Lib.hid ((S13.drop 5).drop 4)
                clear S13 M13 m13 H12 y0 y1 y2 v2 v3
                go_roundg (L.length - q)
                case measure => exact HQ.out.1
                case rel => exact ⟨q + 1, by go_num, by have := HQ.out; omega, by omega, H13.out⟩
              · have hql' : ¬ (q : Int) < (L.length : Int) := by omega
                have hqe : q = l.length := by have := HL.out.2; omega
                subst hqe
                rw [List.take_length] at S8
                have H8 := Lib.hid (S8.drop 3)
                clear S8 hq hql
                go_wp2_with fail
                go_roundg (ops.length - j)
                case measure => exact HJ.out.1
                case rel => exact ⟨j + 1, nt, _, _, rfl, by go_num, by have := HJ.out.1; omega, by have := HJ.out.2.1; omega, by have := HT.out.2.2.2; omega, HT.out.1, HT.out.2.1, by have := HJ.out.2.2.2.2.2.1; have := fold_len l M; omega, HI.out.fold HNDM.out HNDB.out l, H8.out⟩
    · have hjl' : ¬ (j : Int) < (ops.length : Int) := by omega
      clear hjl
      go_wp2_with fail
      go_ret
      exact ⟨rfl, H4.out.base⟩
theorem whole_row (a0 : Int) (w0 : (Lit.int .u16 a0).wf = true) (ops : List S64) (A : Option Addr) (c : Nat) (W : World) (hC : k64.C W A ops.length ops) (hg : ∀ x ∈ ops, g64 x) :
    Calls Try.prog 6 #[.int .u16 a0, .slice A ops.length c] W fun e w' => e = .returned (.bool true) ∧ Below W.heap.size W w' := by
  have b0 := wf16 w0
  obtain ⟨a, rfl⟩ : ∃ a : Nat, a0 = a := ⟨a0.toNat, by omega⟩
  exact whole_c a (by omega) ops A c W hC hg
end Go.Proofs.Ytjhmkmcongjngaa
