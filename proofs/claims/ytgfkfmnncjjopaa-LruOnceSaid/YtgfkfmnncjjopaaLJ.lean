import Derived.Test.YtgfkfmnncjjopaaLI
import Derived.Test.YtgfkfmnncjjopaaMap
import Derived.Maps.OwnOps
import Derived.Maps.OwnSet
namespace Go.Proofs.Ytgfkfmnncjjopaa
open Go.RowKit Go.Tat Go.Proofs.YtgfkfmnncjjopaaW.PrintWords
/-- The numbers seen so far. -/
def seenL (o : List Nat) : List (Int × Bool) := o.map fun (x : Nat) => ((x : Int), true)
theorem seen_get {o : List Nat} {x : Nat} (h : x ∉ o) : mpos (seenL o) (x : Int) = none := by
  rw [mpos_none]
  intro p hp
  obtain ⟨y, hy, rfl⟩ := List.mem_map.1 hp
  intro e
  have e' : (y : Int) = x := e
  have : y = x := by omega
  exact h (this ▸ hy)
theorem seen_put {o : List Nat} {x : Nat} (h : x ∉ o) : mput (seenL o) (x : Int) true = seenL (o ++ [x]) := by
  unfold mput
  rw [seen_get h]
  simp [seenL]
theorem not_mem_take {o : List Nat} {j : Nat} (hj : j < o.length) (h : o.Nodup) : o[j] ∉ o.take j := by
  intro hm
  obtain ⟨k, hk, e⟩ := List.mem_take_iff_getElem.1 hm
  have := (List.getElem_inj h).1 e
  omega
theorem keysI : KeyLaw Try.prog 3 (Value.int .i64) := KeyLaw.int Try.underlying3
theorem Try.zero4 : (Try.prog.info? 4).map (·.zero) = some (some (.bool false)) := by kernel_rfl
def withoutPost (o : List Nat) (x : Int) (w : World) (e : Ending) (w' : World) : Prop := ∃ v, e = .returned (.tuple #[v, .bool ((ofN o).contains x)]) ∧ (Kd.int .i64).R 3 w' w.heap.size (fun _ => True) v (ofN (dropO o x)) ∧ Below w.heap.size w w'
theorem without_calls (o : List Nat) (x : Int) (A : Option Addr) (n c : Nat) (w : World) (hn : n = (ofN o).length) (hc : n ≤ c) (ho : o.length ≤ 10000) (hC : (Kd.int .i64).C w A (ofN o).length (ofN o)) :
    Calls Try.prog 9 #[.slice A n c, .int .i64 x] w (withoutPost o x w) := by
  subst hn
  have hw : (ofN o).length ≤ 17592186044416 := by simp [ofN]; omega
  have h := without_f (ofN o) x hw
  rw [ofN_drop] at h
  exact (PLruPlays.tattlerref11_Without.calls _ A c (ofN o) x _ _ w hC hc h).mono fun e w' ⟨v, h1, h2, h3⟩ => ⟨v, h1, h2, h3⟩
theorem same_calls' (a : List Int) (A0 A1 : Option Addr) (n0 n1 c0 c1 : Nat) (w : World) (hr0 : (Kd.int .i64).C w A0 n0 a) (hc0 : n0 ≤ c0) (hr1 : (Kd.int .i64).C w A1 n1 a) (hc1 : n1 ≤ c1) :
    Calls Try.prog 14 #[.slice A0 n0 c0, .slice A1 n1 c1] w fun e w' => e = .returned (.bool true) ∧ Below w.heap.size w w' := by
  have h0 := Kd.C_len hr0
  have h1 := Kd.C_len hr1
  subst h0; subst h1
  exact same_calls a a A0 A1 c0 c1 w hr0 hc0 hr1 hc1 rfl
set_option maxRecDepth 100000 in
set_option maxHeartbeats 4000000 in
theorem once_any (n : Nat) (ops : List S30) (A : Option Addr) (c : Nat) (i : Int) (w : World) (hC : k30.C w A ops.length ops) (h2 : n ≤ 255) :
    Calls Try.prog 4 #[.int .u8 n, .slice A ops.length c, .int .i64 i] w fun e w' => e = .returned (.bool true) ∧ Below w.heap.size w w' := by
  have HC := Lib.hid hC
  have hmax := Kd.C_max hC
  clear hC
  have hn2 : (n : Int) ≤ 255 := by omega
  have hn0 : (0 : Int) ≤ (n : Int) := by omega
  go_enter Try.func4, Try.ntmps4
  go_wp2_with fail
  have hw1 : (1 : Int) + n = ((n + 1 : Nat) : Int) := by omega
  rw [hw1]
  refine (lru_new (n + 1) _ (by omega) (by omega)).mono ?_
  rintro e w1 ⟨g, b, rfl, hg, hb, B1, L1⟩
  go_wp2_with fail
  refine (fixed_true _).mono ?_
  rintro e w2 ⟨rfl, B2⟩
  have L2 := L1.below B2
  have B2' := B1.trans (B2.mono B1.size)
  clear L1 B1 B2 hw1
  go_upto_block 0 with fail
  go_cut [] (fun wx => ∃ o, Lru wx g b (n + 1) o ∧ Below w.heap.size w wx)
  case first =>
    go_wp2_with fail
    go_loopg [35] (ops.length + 1) (fun k i W => ∃ (j : Nat) (o : List Nat), j + k = ops.length + 1 ∧ j ≤ ops.length ∧ i = .int .i64 j ∧ Lru W g b (n + 1) o ∧ Below w.heap.size w W)
    case atStart => exact ⟨0, [], by omega, by omega, rfl, L2, B2'⟩
    case round =>
      clear L2 B2'
      obtain ⟨j, o, hjk, hj, rfl, L, B⟩ := hrel
      have HJ := Lib.hid hjk
      clear hjk
      have HL := Lib.hid (And.intro L B)
      clear L B
      by_cases hjl : j < ops.length
      · have hjl' : (j : Int) < (ops.length : Int) := by omega
        obtain ⟨ad, rfl, cx0, cx1⟩ := at_T30 HC.out (j : Int) (by omega) hjl'
        replace cx0 := (HL.out.2.cell (World.block_lt_of_cell? w _ cx0)).trans cx0
        replace cx1 := (HL.out.2.cell (World.block_lt_of_cell? w _ cx1)).trans cx1
        generalize hx : rd_T30 ops (j : Int) = x at *
        clear hx
        obtain ⟨x0, x1⟩ := x
        dsimp only at cx0 cx1
        rw [Int.toNat_natCast] at cx0 cx1
        obtain ⟨pb, po, had⟩ := addr_plain cx0
        rw [had] at cx0 cx1
        dsimp only at cx1
        by_cases h300 : 300 < j
        · have h300' : 300 < (j : Int) := by omega
          go_wp2_with fail
          go_meet
          case rel => exact ⟨o, HL.out.1.below ((Below.refl _ _).alloc (Nat.le_refl _) _), HL.out.2.trans (((Below.refl _ _).alloc (Nat.le_refl _) _).mono HL.out.2.size)⟩
        · have h300' : ¬ 300 < (j : Int) := by omega
          cases x0 with
          | true =>
            go_wp2_with fail
            obtain ⟨L, B⟩ := HL.out
            generalize hwb : wr.alloc _ = wb
            have mb : Below wr.heap.size wr wb := hwb ▸ (Below.refl _ _).alloc (Nat.le_refl _) _
            have bx : wb.cell? ⟨wr.heap.size, 1, none⟩ = some (.int .i64 x1) := by rw [← hwb]; exact World.cell?_alloc_new _ _ _ _
            replace L := L.below mb
            replace B := B.trans (mb.mono B.size)
            generalize wr.heap.size = x at *
            clear hwb cx0 cx1 had HL mb
            go_wp2_with fail
            refine (lru_drop x1 L).mono ?_
            rintro e w3 ⟨rfl, m3, L3⟩
            go_wp2
            go_roundg (ops.length - j)
            case measure => have := HJ.out; omega
            case rel => exact ⟨j + 1, _, by omega, by omega, by go_num, L3, B.trans (m3.below B.size (by intro k hk h; omega))⟩
          | false =>
            go_wp2_with fail
            obtain ⟨L, B⟩ := HL.out
            generalize hwb : wr.alloc _ = wb
            have mb : Below wr.heap.size wr wb := hwb ▸ (Below.refl _ _).alloc (Nat.le_refl _) _
            have bx : wb.cell? ⟨wr.heap.size, 1, none⟩ = some (.int .i64 x1) := by rw [← hwb]; exact World.cell?_alloc_new _ _ _ _
            replace L := L.below mb
            replace B := B.trans (mb.mono B.size)
            generalize wr.heap.size = x at *
            clear hwb cx0 cx1 had HL mb
            go_wp2_with fail
            refine (lru_use_any x1 L).mono ?_
            rintro e w3 ⟨r, o', rfl, m3, L3⟩
            go_wp2
            go_roundg (ops.length - j)
            case measure => have := HJ.out; omega
            case rel => exact ⟨j + 1, o', by omega, by omega, by go_num, L3, B.trans (m3.below B.size (by intro k hk h; omega))⟩
      · have hjl' : ¬ (j : Int) < (ops.length : Int) := by omega
        go_wp2_with fail
        go_meet
        case rel => exact ⟨o, HL.out.1, HL.out.2⟩
  case rest =>
    clear L2 B2' HC hmax
    obtain ⟨o, L3, B3⟩ := hcut
    have HB := Lib.hid B3
    clear B3
    go_wp2_with fail
    refine (lru_order L3 (by omega)).mono ?_
    rintro e w4 ⟨v4, rfl, R4, b4⟩
    have L4 := L3.below b4
    have B4 := HB.out.trans (b4.mono HB.out.size)
    have R4' : (Kd.int .i64).R 3 w4 w.heap.size (fun k => k ≠ b) v4 (ofN o) := Kd.R_lower (Kd.R_mono (Kd.R_bound R4) (fun k hk => by have := L3.lt; have := hk.2.1; omega)) HB.out.size
    have hnd := L3.nd
    clear L3 HB R4 b4
    obtain ⟨A4, c4, rfl, hc4, C4⟩ := Kd.R_reads R4'
    have hlen : (ofN o).length = o.length := by simp [ofN]
    have hmax4 := Kd.C_max C4
    clear C4
    have hol : o.length ≤ 256 := by have := hnd.2.2; omega
    rw [hlen] at hmax4 hc4 R4'
    have hs4 : w.heap.size ≤ w4.heap.size := B4.size
    have hb4 := L4.lt.2
    have hg4 := L4.lt.1
    have H4 := Lib.hid (And.intro (And.intro L4 R4') (And.intro B4 hnd))
    clear L4 R4' B4 hnd
    rw [hlen]
    clear hlen
    go_wp2_with (refine wpList_makeMap rfl 41 rfl (Value.int .i64) Value.bool ?_)
    intro M5
    obtain ⟨⟨L4, R4⟩, B4, hnd⟩ := H4.out
    clear H4
    have m5 : Below w4.heap.size w4 (w4.alloc (.map #[] 0)) := (Below.refl _ _).alloc (Nat.le_refl _) _
    have L5 := L4.below m5
    have R5 : (Kd.int .i64).R 3 (w4.alloc (.map #[] 0)) w.heap.size (fun k => k ≠ b ∧ k ≠ w4.heap.size) _ (ofN o) := Kd.R_below (Kd.R_mono (Kd.R_bound R4) (fun k hk => ⟨hk.1, by have := hk.2.2.1; omega⟩)) m5
    have B5 := B4.trans (m5.mono B4.size)
    clear L4 R4 B4 m5
    generalize w4.alloc (.map #[] 0) = w5 at *
    generalize w4.heap.size = mb at *
    have hbm : b ≠ mb := by omega
    have hgm : g ≠ mb := by omega
    have H5 := Lib.hid (And.intro (And.intro L5 R5) (And.intro (And.intro B5 M5) hnd))
    clear L5 R5 B5 M5 hnd
    go_wp2_with fail
    go_loopg [58] (o.length + 1) (fun k kv W => ∃ (j : Nat), j + k = o.length + 1 ∧ j ≤ o.length ∧ kv = .int .i64 j ∧ Lru W g b (n + 1) o ∧ (Kd.int .i64).R 3 W w.heap.size (fun k => k ≠ b ∧ k ≠ mb) (.slice A4 o.length c4) (ofN o) ∧ Below w.heap.size w W ∧ MapAt W mb (Value.int .i64) Value.bool (seenL (o.take j)))
    case atStart => exact ⟨0, by omega, by omega, rfl, H5.out.1.1, H5.out.1.2, H5.out.2.1.1, H5.out.2.1.2⟩
    case round =>
      obtain ⟨j, hjk, hj, rfl, L, R, B, M⟩ := hrel
      have HJ := Lib.hid hjk
      have HR := Lib.hid (And.intro R (And.intro B L))
      have HM := Lib.hid M
      have hnd := H5.out.2.2
      clear R B L M hjk
      by_cases hjl : j < o.length
      · have hjl' : (j : Int) < (o.length : Int) := by omega
        obtain ⟨hle5, hvc5, C5⟩ := Kd.R_reads' HR.out.1
        obtain ⟨ad5, rfl, cc5⟩ := Kd.at_int C5 (j : Int) (by omega) (by omega)
        have hrd5 : rd (ofN o) (j : Int) = ((o[j] : Nat) : Int) := by
          unfold rd; rw [Int.toNat_natCast]; simp [ofN, List.getD, List.getElem?_eq_getElem hjl]
        rw [hrd5, Int.toNat_natCast] at cc5
        obtain ⟨pb5, po5, had5⟩ := addr_plain cc5
        rw [had5] at cc5
        have hnm := not_mem_take hjl hnd.1
        have hyl : (o[j] : Nat) < n + 1 := hnd.2.1 _ (List.getElem_mem hjl)
        have htk : o.take (j + 1) = o.take j ++ [o[j]] := (List.take_append_getElem hjl).symm
        clear hle5 hvc5 C5 hrd5 hnd
        generalize o[j] = y at *
        have hlk := (HM.out.look Try.underlying41 keysI (y : Int) _ Try.zero4 none (by unfold mget; rw [seen_get hnm]; rfl) (.bool false) rfl).1
        have hput := seen_put hnm
        rw [← htk] at hput
        have HP := Lib.hid hput
        clear hput htk hnm
        have hy0 : ¬ (y : Int) < 0 := by omega
        have hy1 : ¬ (1 + (n : Int)) ≤ (y : Int) := by omega
        go_wp2_with (at_mapUpdate; refine wpList_mapUpdate rfl 41 3 4 _ _ _ rfl Try.underlying41 keysI Value.bool mb _ HM.out (y : Int) true rfl rfl rfl ?_)
        intro w6 M6 m6
        rw [HP.out] at M6
        have L6 := HR.out.2.2.mod m6 hgm hbm
        have R6 := Kd.R_step HR.out.1 (fun k hk hl => m6.block k hl hk.2)
        have B6 := HR.out.2.1.trans (m6.below HR.out.2.1.size (by intro k hk h; omega))
        have H6 := Lib.hid (And.intro L6 (And.intro R6 (And.intro B6 M6)))
        clear L6 R6 B6 M6 m6
        go_wp2
        go_roundg (o.length - j)
        case measure => have := HJ.out; omega
        case rel => exact ⟨j + 1, by have := HJ.out; omega, by omega, by go_num, H6.out.1, H6.out.2.1, H6.out.2.2.1, H6.out.2.2.2⟩
      · have hjl' : ¬ (j : Int) < (o.length : Int) := by omega
        have hle : o.length = (ofN o).length := by simp [ofN]
        have HG := Lib.hid (And.intro H5.out.2.2 (And.intro hle (And.intro hc4 hmax4)))
        clear H5 HM HJ hjl hle
        go_wp2_with fail
        clear hjl' hn2 hn0 hol hj hs4 hb4 hg4
        by_cases hi : 0 ≤ i ∧ i < ((n + 1 : Nat) : Int)
        · have hi0 := Int.toNat_of_nonneg hi.1
          refine (lru_use i hi HR.out.2.2).mono ?_
          clear hi
          rintro e w6 ⟨rfl, m6, L6⟩
          have R6 := Kd.R_step HR.out.1 (fun k hk hl => m6.block k hl hk.1)
          have B6 := HR.out.2.1.trans (m6.below HR.out.2.1.size (by intro k hk h; omega))
          clear HR m6
          obtain ⟨hle6, hvc6, C6⟩ := Kd.R_reads' R6
          have H6 := Lib.hid (And.intro (And.intro hle6 hvc6) C6)
          have H6' := Lib.hid (And.intro L6 B6)
          have HI := Lib.hid hi0
          clear hle6 hvc6 C6 R6 L6 B6 hi0
          go_wp2_with fail
          have hol := HG.out.1.2.2
          refine (without_calls o i A4 _ c4 w6 H6.out.1.1 H6.out.1.2 (by omega) H6.out.2).mono ?_
          clear hol
          rintro e w7 ⟨v7, rfl, R7, b7⟩
          have L7 := H6'.out.1.below b7
          have B7 := H6'.out.2.trans (b7.mono H6'.out.2.size)
          clear H6 H6' b7
          obtain ⟨A7, c7, rfl, hc7, C7⟩ := Kd.R_reads R7
          have H7 := Lib.hid (And.intro (And.intro L7 B7) (And.intro hc7 C7))
          clear R7 L7 B7 hc7 C7
          go_wp2_with fail
          refine (lru_order H7.out.1.1 (by omega)).mono ?_
          rintro e w8 ⟨v8, rfl, R8, b8⟩
          have B8 := H7.out.1.2.trans (b8.mono H7.out.1.2.size)
          have C7 := Kd.C_below H7.out.2.2 b8
          obtain ⟨A8, c8, rfl, hc8, C8⟩ := Kd.R_reads R8
          clear R8 b8
          have hln : (ofN (i.toNat :: dropO o i)).length = (ofN (dropO o i)).length + 1 := by simp [ofN]
          rw [hln] at C8 hc8
          obtain ⟨ad8, rfl, cc8⟩ := Kd.at_int C8 0 (by omega) (by omega)
          have hrd : rd (ofN (i.toNat :: dropO o i)) 0 = i := by
            show ((i.toNat : Nat) : Int) = i
            exact HI.out
          rw [hrd] at cc8
          have ha8 : ad8.add (0 : Int).toNat = ad8 := rfl
          rw [ha8] at cc8
          have hD := Kd.C_drop (m := 1) (c := c8) (by rw [hln]; exact C8) (by omega) (by omega)
          have hx : (ofN (i.toNat :: dropO o i)).drop 1 = ofN (dropO o i) := rfl
          rw [hx] at hD
          have hl7 : (ofN (dropO o i)).length ≤ 2000 := by
            have := List.length_filter_le (fun (x : Nat) => (x : Int) != i) o
            have := HG.out.1.2.2
            simp only [ofN, dropO, List.length_map]; omega
          have H8 := Lib.hid (And.intro (And.intro B8 C7) (And.intro hD hc8))
          have hc7 := H7.out.2.1
          clear B8 C7 C8 hD hc8 H7 hx ha8 hrd
          rw [hln]
          clear hln
          generalize (ofN (dropO o i)).length = ln at *
          have hl0 : (1 : Int) ≤ (ln : Int) + 1 := by omega
          go_wp2_with fail
          · obtain ⟨⟨B8, C7⟩, hD, hc8⟩ := H8.out
            rw [if_pos h] at hD
            refine (same_calls' (ofN (dropO o i)) _ _ _ _ _ _ _ hD (by omega) C7 hc7).mono ?_
            rintro e w9 ⟨rfl, b9⟩
            have B9 := B8.trans (b9.mono B8.size)
            clear B8 C7 hD hc8 b9 H8
            go_wp2
            go_ret
            exact ⟨rfl, B9⟩
          · obtain ⟨⟨B8, C7⟩, hD, hc8⟩ := H8.out
            rw [if_neg h] at hD
            refine (same_calls' (ofN (dropO o i)) _ _ _ _ _ _ _ hD (by omega) C7 hc7).mono ?_
            rintro e w9 ⟨rfl, b9⟩
            have B9 := B8.trans (b9.mono B8.size)
            clear B8 C7 hD hc8 b9 H8
            go_wp2
            go_ret
            exact ⟨rfl, B9⟩
        · refine (lru_use_no i hi HR.out.2.2).mono ?_
          rintro e w6 ⟨rfl, hw6⟩
          clear hi
          obtain rfl := hw6.symm
          go_wp2_with fail
          refine (lru_order HR.out.2.2 (by omega)).mono ?_
          rintro e w8 ⟨v8, rfl, R8, b8⟩
          have B8 := HR.out.2.1.trans (b8.mono HR.out.2.1.size)
          obtain ⟨hle6, hvc6, C6⟩ := Kd.R_reads' (Kd.R_below HR.out.1 b8)
          obtain ⟨A8, c8, rfl, hc8, C8⟩ := Kd.R_reads R8
          have H8 := Lib.hid (And.intro (And.intro C8 hc8) (And.intro C6 (And.intro hvc6 hle6)))
          clear HR b8 hle6 hvc6 C6 R8 C8 hc8
          go_wp2_with fail
          refine (same_calls' (ofN o) _ _ _ _ _ _ _ H8.out.1.1 H8.out.1.2 (by rw [H8.out.2.2.2]; exact H8.out.2.1) H8.out.2.2.1).mono ?_
          rintro e w9 ⟨rfl, b9⟩
          have B9 := B8.trans (b9.mono B8.size)
          clear B8 b9 H8
          go_wp2
          go_ret
          exact ⟨rfl, B9⟩
theorem once_row (a0 : Int) (h : (Lit.int .u8 a0).wf = true) (ops : List S30) (A : Option Addr) (c : Nat) (i : Int) (w : World) (hC : k30.C w A ops.length ops) :
    Calls Try.prog 4 #[.int .u8 a0, .slice A ops.length c, .int .i64 i] w fun e w' => e = .returned (.bool true) ∧ Below w.heap.size w w' := by
  have hw := u8_lim h
  obtain ⟨n, rfl⟩ := Int.eq_ofNat_of_zero_le hw.1
  exact once_any n ops A c i w hC (by omega)
end Go.Proofs.Ytgfkfmnncjjopaa
