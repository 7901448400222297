import Derived.Test.YtgfkfmnncjjopaaLH
import Derived.Deep.DeepCutAuto
import Derived.Deep.CutBlock
namespace Go.Proofs.Ytgfkfmnncjjopaa
open Go.RowKit Go.Tat Go.Proofs.YtgfkfmnncjjopaaW.PrintWords
def lruUsePost (g b n : Nat) (w : World) (e : Ending) (w' : World) : Prop := ∃ r o', e = .returned (.int .i64 r) ∧ Mod (· = b) w w' ∧ Lru w' g b n o'
theorem lru_use_any {g b n : Nat} {o : List Nat} {w : World} (i : Int) (H : Lru w g b n o) : Calls Try.prog 11 #[.pointer (some ⟨g, 0, none⟩), .int .i64 i] w (lruUsePost g b n w) := by
  by_cases hi : 0 ≤ i ∧ i < n
  · exact (lru_use i hi H).mono fun e w' ⟨h1, h2, h3⟩ => ⟨0, _, h1, h2, h3⟩
  · refine (lru_use_no i hi H).mono ?_
    rintro e w' ⟨h1, rfl⟩
    exact ⟨1, _, h1, Mod.refl _ _, H⟩
theorem take_drop {o : List Nat} {j : Nat} (hj : j < o.length) (h : o.Nodup) : dropO (o.take (j + 1)) ((o[j] : Nat) : Int) = o.take j := by
  have h' := h
  rw [← List.take_append_getElem hj] 
  unfold dropO
  rw [List.filter_append]
  have h1 : (o.take j).filter (fun (x : Nat) => ((x : Int) != ((o[j] : Nat) : Int))) = o.take j := by
    rw [List.filter_eq_self]
    intro x hx
    simp only [bne_iff_ne, ne_eq, Int.natCast_inj]
    intro e
    obtain ⟨k, hk, rfl⟩ := List.mem_take_iff_getElem.1 hx
    have := (List.getElem_inj h').1 e
    omega
  rw [h1]; simp
theorem u8_lim {a : Int} (h : (Lit.int .u8 a).wf = true) : 0 ≤ a ∧ a < 256 := by
  have : IntKind.u8.min ≤ a ∧ a ≤ IntKind.u8.max := by simpa [Lit.wf] using h
  have h1 : IntKind.u8.min = 0 := by decide
  have h2 : IntKind.u8.max = 255 := by decide
  omega
set_option maxRecDepth 100000 in
set_option maxHeartbeats 4000000 in
theorem oldest_any (n : Nat) (ops : List S30) (A : Option Addr) (c : Nat) (w : World) (hC : k30.C w A ops.length ops) (h2 : n ≤ 255) :
    Calls Try.prog 5 #[.int .u8 n, .slice A ops.length c] w fun e w' => e = .returned (.bool true) ∧ Below w.heap.size w w' := by
  have HC := Lib.hid hC
  have hmax := Kd.C_max hC
  clear hC
  have hn2 : (n : Int) ≤ 255 := by omega
  have hn0 : (0 : Int) ≤ (n : Int) := by omega
  go_enter Try.func5, Try.ntmps5
  go_wp2_with fail
  have hw1 : (1 : Int) + n = ((n + 1 : Nat) : Int) := by omega
  rw [hw1]
  refine (lru_new (n + 1) _ (by omega) (by omega)).mono ?_
  rintro e w1 ⟨g, b, rfl, hg, hb, B1, L1⟩
  go_wp2_with fail
  refine (fixed_true _).mono ?_
  rintro e w2 ⟨rfl, B2⟩
  have L2 := L1.below B2
  have B2' := B1.trans (B2.mono B1.size)
  clear L1 B1 B2 hw1
  go_upto_block 0 with fail
  go_cut [] (fun wx => ∃ o, Lru wx g b (n + 1) o ∧ Below w.heap.size w wx)
  case first =>
    go_wp2_with fail
    go_loopg [33] (ops.length + 1) (fun k i W => ∃ (j : Nat) (o : List Nat), j + k = ops.length + 1 ∧ j ≤ ops.length ∧ i = .int .i64 j ∧ Lru W g b (n + 1) o ∧ Below w.heap.size w W)
    case atStart => exact ⟨0, [], by omega, by omega, rfl, L2, B2'⟩
    case round =>
      clear L2 B2'
      obtain ⟨j, o, hjk, hj, rfl, L, B⟩ := hrel
      have HJ := Lib.hid hjk
      clear hjk
      have HL := Lib.hid (And.intro L B)
      clear L B
      by_cases hjl : j < ops.length
      · have hjl' : (j : Int) < (ops.length : Int) := by omega
        obtain ⟨ad, rfl, cx0, cx1⟩ := at_T30 HC.out (j : Int) (by omega) hjl'
        replace cx0 := (HL.out.2.cell (World.block_lt_of_cell? w _ cx0)).trans cx0
        replace cx1 := (HL.out.2.cell (World.block_lt_of_cell? w _ cx1)).trans cx1
        generalize hx : rd_T30 ops (j : Int) = x at *
        clear hx
        obtain ⟨x0, x1⟩ := x
        dsimp only at cx0 cx1
        rw [Int.toNat_natCast] at cx0 cx1
        obtain ⟨pb, po, had⟩ := addr_plain cx0
        rw [had] at cx0 cx1
        dsimp only at cx1
        by_cases h300 : 300 < j
        · have h300' : 300 < (j : Int) := by omega
          go_wp2_with fail
          go_meet
          case rel => exact ⟨o, HL.out.1.below ((Below.refl _ _).alloc (Nat.le_refl _) _), HL.out.2.trans (((Below.refl _ _).alloc (Nat.le_refl _) _).mono HL.out.2.size)⟩
        · have h300' : ¬ 300 < (j : Int) := by omega
          go_wp2_with fail
          obtain ⟨L, B⟩ := HL.out
          generalize hwb : wr.alloc _ = wb
          have mb : Below wr.heap.size wr wb := hwb ▸ (Below.refl _ _).alloc (Nat.le_refl _) _
          have bx : wb.cell? ⟨wr.heap.size, 1, none⟩ = some (.int .i64 x1) := by rw [← hwb]; exact World.cell?_alloc_new _ _ _ _
          replace L := L.below mb
          replace B := B.trans (mb.mono B.size)
          generalize wr.heap.size = x at *
          clear hwb cx0 cx1 had HL mb
          go_wp2_with fail
          refine (lru_use_any x1 L).mono ?_
          rintro e w3 ⟨r, o', rfl, m3, L3⟩
          go_wp2
          go_roundg (ops.length - j)
          case measure => have := HJ.out; omega
          case rel => exact ⟨j + 1, o', by omega, by omega, by go_num, L3, B.trans (m3.below B.size (by intro k hk h; omega))⟩
      · have hjl' : ¬ (j : Int) < (ops.length : Int) := by omega
        go_wp2_with fail
        go_meet
        case rel => exact ⟨o, HL.out.1, HL.out.2⟩
  case rest =>
    clear L2 B2'
    obtain ⟨o, L3, B3⟩ := hcut
    have HB := Lib.hid B3
    clear B3
    go_wp2_with fail
    refine (lru_order L3 (by omega)).mono ?_
    rintro e w4 ⟨v4, rfl, R4, b4⟩
    have L4 := L3.below b4
    have B4 := HB.out.trans (b4.mono HB.out.size)
    have R4' : (Kd.int .i64).R 3 w4 w.heap.size (fun k => k ≠ b) v4 (ofN o) := Kd.R_lower (Kd.R_mono (Kd.R_bound R4) (fun k hk => by have := L3.lt; have := hk.2.1; omega)) HB.out.size
    have hnd := L3.nd
    clear L3 HB R4 b4
    obtain ⟨A4, c4, rfl, hc4, C4⟩ := Kd.R_reads R4'
    have hlen : (ofN o).length = o.length := by simp [ofN]
    have hmax4 := Kd.C_max C4
    clear C4
    have H4 := Lib.hid (And.intro (And.intro L4 R4') (And.intro B4 hnd))
    have hol : o.length ≤ 256 := by have := hnd.2.2; omega
    rw [hlen] at hmax4 hc4
    clear L4 R4' B4 hnd
    rw [hlen]
    go_wp2_with fail
    go_loopg [10] (o.length + 1) (fun k kv W => ∃ (j : Nat), j + 1 = k ∧ j ≤ o.length ∧ kv = .int .i64 ((j : Int) - 1) ∧ Lru W g b (n + 1) (o.take j) ∧ (Kd.int .i64).R 3 W w.heap.size (fun k => k ≠ b) (.slice A4 o.length c4) (ofN o) ∧ Below w.heap.size w W)
    case atStart => exact ⟨o.length, rfl, Nat.le_refl _, by go_num, by rw [List.take_length]; exact H4.out.1.1, by have := H4.out.1.2; rw [hlen] at this; exact this, H4.out.2.1⟩
    case round =>
      obtain ⟨j, hjk, hj, rfl, L, R, B⟩ := hrel
      have HJ := Lib.hid hjk
      clear hjk
      have HR := Lib.hid (And.intro R B)
      have hnd := H4.out.2.2.1
      clear R B
      cases j with
      | zero =>
        rw [List.take_zero] at L
        have hz : ¬ (0 : Int) ≤ ((0 : Nat) : Int) - 1 := by omega
        go_wp2_with fail
        have HQ := Lib.hid HR.out.2
        clear HR H4
        refine (lru_oldest_nil L).mono ?_
        rintro e w5 ⟨rfl, b5⟩
        have L5 := L.below b5
        have B5 := HQ.out.trans (b5.mono HQ.out.size)
        clear L HQ b5
        go_wp2_with fail
        have ON : Calls Try.prog 13 #[.pointer none] w5 fun e w' => e = .returned (.tuple #[.int .i64 0, .bool false]) ∧ Below w5.heap.size w5 w' :=
          (oldest_nil w5).mono fun e w' ⟨h1, k, h2⟩ => ⟨h1, h2 ▸ (Mod.drewN (fun _ => False) w5 k).below (Nat.le_refl _) (by simp)⟩
        refine ON.mono ?_
        rintro e w6 ⟨rfl, b6⟩
        have L6 := L5.below b6
        have B6 := B5.trans (b6.mono B5.size)
        clear ON L5 B5 b6
        go_wp2_with fail
        refine (lru_order L6 (by omega)).mono ?_
        rintro e w7 ⟨v7, rfl, R7, b7⟩
        obtain ⟨A7, c7, rfl, hc7, C7⟩ := Kd.R_reads R7
        have B7 := B6.trans (b7.mono B6.size)
        clear L6 B6 R7 b7 hc7 C7
        simp only [ofN, List.map_nil, List.length_nil]
        go_wp2_with (first | (go_at_call 11; refine (use_nil 0 _).mono ?_; rintro e w8 ⟨rfl, rfl⟩) | (go_at_call 10; refine (drop_no none 0 _ (has_nil 0 _)).mono ?_; rintro e w9 ⟨rfl, rfl⟩) | (go_at_call 15; refine (order_nil _).mono ?_; rintro e w10 ⟨rfl, rfl⟩))
        go_ret
        exact ⟨rfl, B7⟩
      | succ j =>
        have hz : (0 : Int) ≤ ((j + 1 : Nat) : Int) - 1 := by omega
        have htk : o.take (j + 1) = o.take j ++ [o[j]] := (List.take_append_getElem hj).symm
        have hdr := take_drop hj hnd
        obtain ⟨hle5, hvc5, C5⟩ := Kd.R_reads' HR.out.1
        obtain ⟨ad5, rfl, cc5⟩ := Kd.at_int C5 (((j + 1 : Nat) : Int) - 1) (by omega) (by omega)
        have hrd5 : rd (ofN o) (((j + 1 : Nat) : Int) - 1) = ((o[j] : Nat) : Int) := by
          have : (((j + 1 : Nat) : Int) - 1).toNat = j := by omega
          unfold rd; rw [this]; simp [ofN, List.getD, List.getElem?_eq_getElem (show j < o.length from hj)]
        rw [hrd5] at cc5
        have ht : (((j + 1 : Nat) : Int) - 1).toNat = j := by omega
        have hjj : ((j + 1 : Nat) : Int) - 1 < (o.length : Int) := by omega
        obtain ⟨pb5, po5, had5⟩ := addr_plain cc5
        rw [had5] at cc5
        have HD := Lib.hid (And.intro htk (And.intro hdr L))
        clear ht htk hdr L C5 hvc5 hrd5 hnd hle5
        generalize hy : o[j] = y at *
        clear hy
        generalize hi : ((j + 1 : Nat) : Int) - 1 = i at *
        have HI := Lib.hid hi
        clear hi
        go_wp2_with fail
        refine (lru_oldest_snoc (HD.out.1 ▸ HD.out.2.2)).mono ?_
        rintro e w5 ⟨rfl, b5⟩
        have R5 := Kd.R_below HR.out.1 b5
        have B5 := HR.out.2.trans (b5.mono HR.out.2.size)
        have L5 := HD.out.2.2.below b5
        have H5 := Lib.hid (And.intro R5 (And.intro B5 L5))
        have cc6 := (b5.cell (World.block_lt_of_cell? wr _ cc5)).trans cc5
        clear R5 B5 L5 b5 cc5
        go_wp2_with fail
        refine (lru_drop (y : Nat) H5.out.2.2).mono ?_
        rintro e w6 ⟨rfl, m6, L6⟩
        have R6 := Kd.R_step H5.out.1 (fun k hk hl => m6.block k hl hk)
        have B6 := H5.out.2.1.trans (m6.below H5.out.2.1.size (by intro k hk h; omega))
        rw [HD.out.2.1] at L6
        have hc : (ofN (o.take (j + 1))).contains ((y : Nat) : Int) = true := by rw [HD.out.1]; simp [ofN]
        rw [hc]
        go_wp2
        have := HJ.out
        go_roundg (gk - 1)
        case measure => omega
        case rel => exact ⟨j, by omega, by omega, by have := HI.out; go_num, L6, R6, B6⟩
theorem oldest_row (a0 : Int) (h : (Lit.int .u8 a0).wf = true) (ops : List S30) (A : Option Addr) (c : Nat) (w : World) (hC : k30.C w A ops.length ops) :
    Calls Try.prog 5 #[.int .u8 a0, .slice A ops.length c] w fun e w' => e = .returned (.bool true) ∧ Below w.heap.size w w' := by
  have hw := u8_lim h
  obtain ⟨n, rfl⟩ := Int.eq_ofNat_of_zero_le hw.1
  exact oldest_any n ops A c w hC (by omega)
end Go.Proofs.Ytgfkfmnncjjopaa
