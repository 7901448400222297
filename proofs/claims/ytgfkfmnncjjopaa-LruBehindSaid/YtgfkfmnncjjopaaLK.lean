import Derived.Test.YtgfkfmnncjjopaaLJ
import Derived.BigQuiet
namespace Go.Proofs.Ytgfkfmnncjjopaa
open Go.RowKit Go.Tat Go.Proofs.YtgfkfmnncjjopaaW.PrintWords
/-- The order o, and at which call each of its numbers was used last (of j calls). -/
structure Behind (o : List Nat) (L : List (Int × Int)) (j : Nat) : Prop where
  len : L.length = o.length
  has : ∀ y : Int, (mget L y).isSome = (ofN o).contains y
  lt : ∀ (y : Int) v, mget L y = some v → v < (j : Int)
  down : o.Pairwise fun (a b : Nat) => ∀ va vb, mget L (a : Int) = some va → mget L (b : Int) = some vb → vb < va
theorem Behind.start (j : Nat) : Behind [] [] j := ⟨rfl, fun y => rfl, fun y v h => (by cases h), .nil⟩
theorem Behind.mono {o : List Nat} {L : List (Int × Int)} {j : Nat} (h : Behind o L j) : Behind o L (j + 1) :=
  ⟨h.len, h.has, fun y v e => by have := h.lt y v e; omega, h.down⟩
theorem drop_len {o : List Nat} (hn : o.Nodup) (x : Nat) : (dropO o (x : Int)).length = if (ofN o).contains (x : Int) then o.length - 1 else o.length := by
  have hc : (ofN o).contains (x : Int) = decide (x ∈ o) := by
    rw [Bool.eq_iff_iff]; simp only [ofN, List.contains_iff_mem, List.mem_map, decide_eq_true_eq]
    exact ⟨fun ⟨a, ha, e⟩ => (by omega : a = x) ▸ ha, fun h => ⟨x, h, rfl⟩⟩
  have hd : dropO o (x : Int) = o.filter (fun y => y != x) := by
    unfold dropO; congr 1; funext y; rw [Bool.eq_iff_iff, bne_iff_ne, bne_iff_ne]; omega
  rw [hc, hd]
  by_cases hx : x ∈ o
  · rw [decide_eq_true hx, if_pos rfl, ← List.length_erase_of_mem hx, hn.erase_eq_filter]
  · rw [decide_eq_false hx, if_neg (by decide), List.filter_eq_self.2]
    intro a ha; simp only [bne_iff_ne]; rintro rfl; exact hx ha
theorem Behind.step {o : List Nat} {L : List (Int × Int)} {j : Nat} (h : Behind o L j) (hn : o.Nodup) (x : Nat) : Behind (x :: dropO o (x : Int)) (mput L (x : Int) (j : Int)) (j + 1) := by
  have hmem : ∀ a, a ∈ dropO o (x : Int) → a ∈ o ∧ a ≠ x := by
    intro a ha
    unfold dropO at ha
    rw [List.mem_filter] at ha
    exact ⟨ha.1, by rintro rfl; simp at ha⟩
  have hpos : (ofN o).contains (x : Int) = true → 0 < o.length := by
    intro hc; cases o with
    | nil => cases hc
    | cons => simp
  refine ⟨?_, ?_, ?_, ?_⟩
  · rw [mput_length, h.has, List.length_cons, drop_len hn, h.len]
    cases hc : (ofN o).contains (x : Int) with
    | true => have := hpos hc; simp only [if_true]; omega
    | false => simp
  · intro y
    rw [mget_mput]
    show _ = (((x : Nat) : Int) :: ofN (dropO o x)).contains y
    rw [List.contains_cons, ← ofN_drop]
    by_cases hy : y = (x : Int)
    · simp [hy]
    · rw [if_neg hy, h.has]
      rw [Bool.eq_iff_iff]
      simp [hy]
  · intro y v e
    rw [mget_mput] at e
    split at e
    · cases e; omega
    · have := h.lt y v e; omega
  · rw [List.pairwise_cons]
    refine ⟨fun b hb va vb ea eb => ?_, ?_⟩
    · rw [mget_mput, if_pos rfl] at ea
      rw [mget_mput, if_neg (by have := (hmem b hb).2; omega)] at eb
      cases ea
      exact h.lt _ _ eb
    · have hf : (dropO o (x : Int)).Pairwise fun (a b : Nat) => ∀ va vb, mget L (a : Int) = some va → mget L (b : Int) = some vb → vb < va := by
        unfold dropO; exact h.down.filter _
      refine hf.imp_of_mem ?_
      intro a b ha hb hab va vb ea eb
      rw [mget_mput, if_neg (by have := (hmem a ha).2; omega)] at ea
      rw [mget_mput, if_neg (by have := (hmem b hb).2; omega)] at eb
      exact hab va vb ea eb
theorem Try.zero3 : (Try.prog.info? 3).map (·.zero) = some (some (.int .i64 0)) := by kernel_rfl
set_option maxRecDepth 100000 in
set_option maxHeartbeats 4000000 in
theorem behind_any (n : Nat) (us : List Int) (A : Option Addr) (c : Nat) (w : World) (hC : (Kd.int .i64).C w A us.length us) (h2 : n ≤ 255) :
    Calls Try.prog 6 #[.int .u8 n, .slice A us.length c] w fun e w' => e = .returned (.bool true) ∧ Below w.heap.size w w' := by
  have HC := Lib.hid hC
  have hmax := Kd.C_max hC
  clear hC
  have hn2 : (n : Int) ≤ 255 := by omega
  have hn0 : (0 : Int) ≤ (n : Int) := by omega
  by_cases hlen : 300 < us.length
  · have hlen' : 300 < (us.length : Int) := by omega
    go_enter Try.func6, Try.ntmps6
    go_wp2_with fail
    have hw1 : (1 : Int) + n = ((n + 1 : Nat) : Int) := by omega
    rw [hw1]
    refine (lru_new (n + 1) _ (by omega) (by omega)).mono ?_
    rintro e w1 ⟨g, b, rfl, hg, hb, B1, L1⟩
    clear hw1
    go_wp2_with fail
    refine (fixed_true _).mono ?_
    rintro e w2 ⟨rfl, B2⟩
    have B2' := B1.trans (B2.mono B1.size)
    clear L1 B1 B2
    go_wp2_with fail
    refine (fixed_true _).mono ?_
    rintro e w3 ⟨rfl, B3⟩
    have B3' := B2'.trans (B3.mono B2'.size)
    go_wp2
    go_ret
    exact ⟨rfl, B3'⟩
  · have hlen' : ¬ 300 < (us.length : Int) := by omega
    go_enter Try.func6, Try.ntmps6
    go_wp2_with fail
    have hw1 : (1 : Int) + n = ((n + 1 : Nat) : Int) := by omega
    rw [hw1]
    refine (lru_new (n + 1) _ (by omega) (by omega)).mono ?_
    rintro e w1 ⟨g, b, rfl, hg, hb, B1, L1⟩
    clear hw1
    go_wp2_with fail
    refine (fixed_true _).mono ?_
    rintro e w2 ⟨rfl, B2⟩
    have L2 := L1.below B2
    have B2' := B1.trans (B2.mono B1.size)
    have hg2 := L2.lt
    clear L1 B1 B2
    have H2 := Lib.hid (And.intro L2 B2')
    clear L2 B2'
    go_wp2_with (refine wpList_makeMap rfl 44 rfl (Value.int .i64) (Value.int .i64) ?_)
    intro M5
    obtain ⟨L2, B2⟩ := H2.out
    clear H2
    have m5 : Below w2.heap.size w2 (w2.alloc (.map #[] 0)) := (Below.refl _ _).alloc (Nat.le_refl _) _
    have L5 := L2.below m5
    have B5 := B2.trans (m5.mono B2.size)
    have hsb := B2.size
    have hml := M5.lt
    clear L2 B2 m5
    generalize w2.alloc (.map #[] 0) = w5 at *
    generalize w2.heap.size = mb at *
    have hbm : b ≠ mb := by omega
    have hgm : g ≠ mb := by omega
    have H5 := Lib.hid (And.intro L5 (And.intro B5 M5))
    clear L5 B5 M5
    go_wp2_with fail
    go_loopg [43] (us.length + 1) (fun k kv W => ∃ (j : Nat) (o : List Nat) (L : List (Int × Int)), j + k = us.length + 1 ∧ j ≤ us.length ∧ kv = .int .i64 j ∧ Lru W g b (n + 1) o ∧ Below w.heap.size w W ∧ MapAt W mb (Value.int .i64) (Value.int .i64) L ∧ Behind o L j)
    case atStart => exact ⟨0, [], [], by omega, by omega, rfl, H5.out.1, H5.out.2.1, H5.out.2.2, .start 0⟩
    case round =>
      obtain ⟨j, o, L, hjk, hj, rfl, LR, B, M, BH⟩ := hrel
      have HJ := Lib.hid hjk
      have HR := Lib.hid (And.intro LR (And.intro B M))
      have HB := Lib.hid BH
      clear LR B M BH hjk H5
      by_cases hjl : j < us.length
      · have hjl' : (j : Int) < (us.length : Int) := by omega
        obtain ⟨ad5, rfl, cc5⟩ := Kd.at_int HC.out (j : Int) (by omega) hjl'
        generalize rd us (j : Int) = x at *
        rw [Int.toNat_natCast] at cc5
        replace cc5 := (HR.out.2.1.cell (World.block_lt_of_cell? w _ cc5)).trans cc5
        obtain ⟨pb5, po5, had5⟩ := addr_plain cc5
        rw [had5] at cc5
        by_cases hx : 0 ≤ x ∧ x < ((n + 1 : Nat) : Int)
        · obtain ⟨y, rfl⟩ := Int.eq_ofNat_of_zero_le hx.1
          have HU := Lib.hid (lru_use (y : Int) hx HR.out.1)
          clear hx
          go_wp2_with fail
          refine HU.out.mono ?_
          rintro e w6 ⟨rfl, m6, L6⟩
          have B6 := HR.out.2.1.trans (m6.below HR.out.2.1.size (by intro k hk h; omega))
          have M6 := HR.out.2.2.mod m6 (Ne.symm hbm)
          have H6 := Lib.hid (And.intro L6 (And.intro B6 HR.out.1.nd.1))
          clear HU HR L6 B6 m6
          go_wp2_with (at_mapUpdate; refine wpList_mapUpdate rfl 44 3 3 _ _ _ rfl Try.underlying44 keysI (Value.int .i64) mb _ M6 (y : Int) (j : Int) rfl rfl rfl ?_)
          intro w7 M7 m7
          have L7 := H6.out.1.mod m7 hgm hbm
          have B7 := H6.out.2.1.trans (m7.below H6.out.2.1.size (by intro k hk h; omega))
          have H7 := Lib.hid (And.intro L7 (And.intro B7 (And.intro M7 (HB.out.step H6.out.2.2 y))))
          clear L7 B7 M7 m7 M6 H6
          go_wp2
          go_roundg (us.length - j)
          case measure => have := HJ.out; omega
          case rel => exact ⟨j + 1, _, _, by have := HJ.out; omega, by omega, by go_num, by have := H7.out.1; rw [Int.toNat_natCast] at this; exact this, H7.out.2.1, H7.out.2.2.1, H7.out.2.2.2⟩
        · go_wp2_with fail
          refine (lru_use_no x hx HR.out.1).mono ?_
          clear hx
          rintro e w6 ⟨rfl, hw6⟩
          obtain rfl := hw6.symm
          go_wp2
          go_roundg (us.length - j)
          case measure => have := HJ.out; omega
          case rel => exact ⟨j + 1, _, _, by have := HJ.out; omega, by omega, by go_num, HR.out.1, HR.out.2.1, HR.out.2.2, HB.out.mono⟩
      · have hjl' : ¬ (j : Int) < (us.length : Int) := by omega
        go_wp2_with fail
        refine (lru_order HR.out.1 (by omega)).mono ?_
        rintro e w6 ⟨v6, rfl, R6, b6⟩
        have B6 := HR.out.2.1.trans (b6.mono HR.out.2.1.size)
        have M6 := HR.out.2.2.below b6
        have hol := HR.out.1.nd.2.2
        clear HR b6
        obtain ⟨A6, c6, rfl, hc6, C6⟩ := Kd.R_reads R6
        have hlo : (ofN o).length = o.length := by simp [ofN]
        have hmax6 := Kd.C_max C6
        clear R6 HJ
        rw [hlo] at hmax6 hc6
        rw [hlo] at C6
        have H6 := Lib.hid (And.intro C6 (And.intro B6 M6))
        rw [hlo]
        clear C6 B6 M6 hlo
        have hol' : o.length ≤ 256 := by omega
        go_wp2_with fail
        go_loopg [60] (o.length + 1) (fun k kv W => ∃ (j : Nat), j + k = o.length + 1 ∧ j ≤ o.length ∧ kv = .int .i64 j ∧ (Kd.int .i64).C W A6 o.length (ofN o) ∧ Below w.heap.size w W ∧ MapAt W mb (Value.int .i64) (Value.int .i64) L)
        case atStart => exact ⟨0, by omega, by omega, rfl, H6.out⟩
        case round =>
          clear H6
          obtain ⟨k, hjk, hk, rfl, C, B, M⟩ := hrel
          have HJ := Lib.hid hjk
          have HR := Lib.hid (And.intro C (And.intro B M))
          clear C B M hjk
          by_cases hkl : k < o.length
          · have hkl' : (k : Int) < (o.length : Int) := by omega
            obtain ⟨ad5, rfl, cc5⟩ := Kd.at_int HR.out.1 (k : Int) (by omega) hkl'
            have hrd5 : rd (ofN o) (k : Int) = ((o[k] : Nat) : Int) := by
              unfold rd; rw [Int.toNat_natCast]; simp [ofN, List.getD, List.getElem?_eq_getElem hkl]
            rw [hrd5, Int.toNat_natCast] at cc5
            obtain ⟨pb5, po5, had5⟩ := addr_plain cc5
            rw [had5] at cc5
            clear hrd5
            obtain ⟨v, hv⟩ : ∃ v, mget L ((o[k] : Nat) : Int) = some v := by
              have := HB.out.has ((o[k] : Nat) : Int)
              rw [show (ofN o).contains ((o[k] : Nat) : Int) = true by simp only [ofN, List.contains_iff_mem, List.mem_map]; exact ⟨_, List.getElem_mem hkl, rfl⟩] at this
              exact Option.isSome_iff_exists.1 this
            obtain ⟨lk1, lk2⟩ := HR.out.2.2.look Try.underlying44 keysI ((o[k] : Nat) : Int) _ Try.zero3 (some v) hv (.int .i64 v) rfl
            dsimp only [Option.isSome_some] at lk2
            cases k with
            | zero =>
              clear hv
              generalize o[0] = y at *
              go_wp2_with fail
              go_quiet (fail)
              go_wp2
              go_roundg (o.length - 0)
              case measure => have := HJ.out; omega
              case rel => exact ⟨1, by have := HJ.out; omega, by omega, by go_num, Kd.C_drewN HR.out.1 _, HR.out.2.1.trans ((Mod.drewN (fun _ => False) wr _).below HR.out.2.1.size (by simp)), HR.out.2.2.mod (Mod.drewN (fun _ => False) wr _) (by simp)⟩
            | succ k =>
              obtain ⟨ad6, he6, cc6⟩ := Kd.at_int HR.out.1 (k : Int) (by omega) (by omega)
              cases he6
              have hrd6 : rd (ofN o) (k : Int) = ((o[k] : Nat) : Int) := by
                unfold rd; rw [Int.toNat_natCast]; simp [ofN, List.getD, List.getElem?_eq_getElem (show k < o.length by omega)]
              rw [hrd6, Int.toNat_natCast] at cc6
              obtain ⟨pb6, po6, had6⟩ := addr_plain cc6
              rw [had6] at cc6
              clear hrd6
              obtain ⟨v', hv'⟩ : ∃ v, mget L ((o[k] : Nat) : Int) = some v := by
                have := HB.out.has ((o[k] : Nat) : Int)
                rw [show (ofN o).contains ((o[k] : Nat) : Int) = true by simp only [ofN, List.contains_iff_mem, List.mem_map]; exact ⟨_, List.getElem_mem (by omega), rfl⟩] at this
                exact Option.isSome_iff_exists.1 this
              obtain ⟨lk3, lk4⟩ := HR.out.2.2.look Try.underlying44 keysI ((o[k] : Nat) : Int) _ Try.zero3 (some v') hv' (.int .i64 v') rfl
              have hvv : ¬ v' ≤ v := by
                have := List.pairwise_iff_getElem.1 HB.out.down k (k + 1) (by omega) (by omega) (by omega) v' v hv' hv
                omega
              have lq1 : ∀ m, (Instr.lookup 44 (.map (some mb)) (.int .i64 ((o[k + 1] : Nat) : Int)) false).run Try.prog (wr.drewN m) = .ok (.int .i64 v) (wr.drewN m) := fun m =>
                ((HR.out.2.2.mod (Mod.drewN (fun _ => False) wr m) (by simp)).look Try.underlying44 keysI ((o[k + 1] : Nat) : Int) _ Try.zero3 (some v) hv (.int .i64 v) rfl).1
              have lq3 : ∀ m, (Instr.lookup 44 (.map (some mb)) (.int .i64 ((o[k] : Nat) : Int)) false).run Try.prog (wr.drewN m) = .ok (.int .i64 v') (wr.drewN m) := fun m =>
                ((HR.out.2.2.mod (Mod.drewN (fun _ => False) wr m) (by simp)).look Try.underlying44 keysI ((o[k] : Nat) : Int) _ Try.zero3 (some v') hv' (.int .i64 v') rfl).1
              clear lk4 lk3 hv hv'
              generalize o[k + 1] = y at *
              generalize o[k] = z at *
              go_wp2_with fail
              go_quiet (fail)
              go_wp2
              go_roundg (o.length - (k + 1))
              case measure => have := HJ.out; omega
              case rel => exact ⟨k + 2, by have := HJ.out; omega, by omega, by go_num, Kd.C_drewN HR.out.1 _, HR.out.2.1.trans ((Mod.drewN (fun _ => False) wr _).below HR.out.2.1.size (by simp)), HR.out.2.2.mod (Mod.drewN (fun _ => False) wr _) (by simp)⟩
          · have hkl' : ¬ (k : Int) < (o.length : Int) := by omega
            go_wp2_with (at_len; refine wpList_mapLen rfl 44 3 3 _ rfl Try.underlying44 (Value.int .i64) (Value.int .i64) mb L HR.out.2.2 rfl ?_)
            go_ret
            exact ⟨by rw [HB.out.len]; simp, HR.out.2.1⟩
theorem behind_row (a0 : Int) (h : (Lit.int .u8 a0).wf = true) (us : List Int) (A : Option Addr) (c : Nat) (w : World) (hC : (Kd.int .i64).C w A us.length us) :
    Calls Try.prog 6 #[.int .u8 a0, .slice A us.length c] w fun e w' => e = .returned (.bool true) ∧ Below w.heap.size w w' := by
  have hw := u8_lim h
  obtain ⟨n, rfl⟩ := Int.eq_ofNat_of_zero_le hw.1
  exact behind_any n us A c w hC (by omega)
theorem Try.cells3 : Try.prog.cellsOf 3 = (Kd.int .i64).sz := by kernel_rfl
end Go.Proofs.Ytgfkfmnncjjopaa
