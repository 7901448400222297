import Derived.Test.YtgfkfmnncjjopaaLE
namespace Go.Proofs.Ytgfkfmnncjjopaa
open Go.RowKit Go.Tat Go.Proofs.YtgfkfmnncjjopaaW.PrintWords
/-- An operation that lays one new block. -/
theorem wpList_new {P : Program} {w : World} {ops : Array Oper} {rest : List Oper} {o : Oper} {a : Act} {Q : Exit → Act → World → Prop} (hg : o.guard = none) (cs : Array Value) (e : TypeId) (vf : Nat → Value)
    (hr : (execOp a.eval o).run P w = .ok (.value (vf w.heap.size)) (w.alloc (.cells cs e)))
    (h : ∀ g w', Blk w' g (fun j => cs[j]?) → w.heap.size = g → Mod (fun _ => False) w w' → w'.heap.size = g + 1 → w'.heap[g]? = some (.cells cs e (0, 0)) → wpList P ops Q rest (a.put o.dst (vf g)) w') : wpList P ops Q (o :: rest) a w := by
  refine wpList_plain hg fun K hK => ?_
  unfold Oper.wp
  rw [hr]
  exact hK _ _ (h _ _ (Blk.new w cs e) rfl (Mod.alloc _ _ _) (by simp) (heap_alloc_new w _))
theorem C_of_blk {w : World} {g : Nat} {k : IntKind} {cs : Array Value} {xs : List Int} (h : Blk w g (fun j => cs[j]?)) (hc : cs.toList = xs.map (Value.int k)) (hl : xs.length ≤ 9223372036854775807) : (Kd.int k).C w (some ⟨g, 0, none⟩) xs.length xs := by
  refine ⟨rfl, hl, fun _ => ⟨_, rfl, fun j p hp => ⟨[.int k p], rfl, rfl, fun i u hu => ?_⟩⟩⟩
  have hi : i = 0 ∧ u = .int k p := by
    rcases i with _ | i
    · simpa using hu.symm
    · simp at hu
  obtain ⟨rfl, rfl⟩ := hi
  have hadd : (⟨g, 0, none⟩ : Addr).add (j * (Kd.int k).sz + 0) = ⟨g, j, none⟩ := by
    unfold Addr.add; simp [Kd.int, Kd.scalar]; intro h0; exact h0.symm
  rw [hadd, h.cell]
  show cs[j]? = _
  rw [← Array.getElem?_toList, hc]; simp [hp]
section
open PLruPlays
theorem wrap_lt {i : Int} (h0 : 0 ≤ i) (h : i < 9223372036854775807) : wrap64 (i + 1) = i + 1 := by unfold wrap64; omega
theorem same_l0 (a : List Int) (hl : a.length ≤ 9223372036854775807) : ∀ (d k : Nat) (i : Int), 0 ≤ i → (a.length : Int) - i = d → d < k → tattlerref11_Same.l0 k a a (a.length : Int) i = some true := by
  intro d
  induction d with
  | zero =>
    intro k i h0 hd hk
    obtain ⟨k, rfl⟩ : ∃ m, k = m + 1 := ⟨k - 1, by omega⟩
    simp only [tattlerref11_Same.l0]; rw [if_neg (by omega)]
  | succ d ih =>
    intro k i h0 hd hk
    obtain ⟨k, rfl⟩ : ∃ m, k = m + 1 := ⟨k - 1, by omega⟩
    simp only [tattlerref11_Same.l0]
    rw [if_pos (by omega), if_pos h0, if_pos (by omega), if_pos (by omega), if_pos trivial, wrap_lt h0 (by omega)]
    exact ih k (i + 1) (by omega) (by omega) (by omega)
theorem same_f (a : List Int) (hl : a.length ≤ 9223372036854775807) : tattlerref11_Same.f (a.length + 1) a a = some true := by
  unfold tattlerref11_Same.f
  rw [if_pos rfl]
  exact same_l0 a hl a.length _ 0 (by omega) (by omega) (by omega)
theorem same_calls (a b : List Int) (A0 A1 : Option Addr) (c0 c1 : Nat) (w : World) (hr0 : (Kd.int .i64).C w A0 a.length a) (hc0 : a.length ≤ c0) (hr1 : (Kd.int .i64).C w A1 b.length b) (hc1 : b.length ≤ c1) (e : a = b) :
    Calls Try.prog 14 #[.slice A0 a.length c0, .slice A1 b.length c1] w fun e w' => e = .returned (.bool true) ∧ Below w.heap.size w w' := by
  subst e
  exact (tattlerref11_Same.calls _ A0 c0 a A1 c1 a true w hr0 hc0 hr1 hc1 (same_f a hr0.2.1)).mono fun _ _ ⟨h, hd⟩ => ⟨h, hd.below⟩
end
def fxV (k : Nat) : Nat := if k = 1 then 1 else if k = 2 then 2 else 0
def fxO : Nat → List Nat
  | 0 => []
  | k + 1 => fxV k :: dropO (fxO k) (fxV k)
set_option maxHeartbeats 2000000 in
theorem fixed_true (w : World) : Calls Try.prog 8 #[] w fun e w' => e = .returned (.bool true) ∧ Below w.heap.size w w' := by
  go_enter Try.func8, Try.ntmps8
  go_wp2_with (go_at_call 7; refine (lru_new 3 _ (by omega) (by omega)).mono ?_; rintro e w1 ⟨g, b, rfl, hg, hb, B1, L1⟩)
  obtain ⟨s, hs⟩ : ∃ s, w1.heap.size = s := ⟨_, rfl⟩
  obtain ⟨w2, hw2⟩ : ∃ w2, w1.alloc (.cells #[.int .i64 0, .int .i64 1, .int .i64 2, .int .i64 0] 3) = w2 := ⟨_, rfl⟩
  rw [hs, hw2]
  have V2 : Blk w2 s _ := hs ▸ hw2 ▸ Blk.new w1 #[.int .i64 0, .int .i64 1, .int .i64 2, .int .i64 0] 3
  have M2 : Mod (· = b) w1 w2 := hw2 ▸ Mod.alloc _ _ _
  have L2 : Lru w2 g b 3 [] := L1.mod (hw2 ▸ Mod.alloc (fun _ => False) w1 _) (by simp) (by simp)
  have hlt := L1.lt
  have B2 : Below w.heap.size w w2 := B1.trans (M2.below (by have := B1.size; omega) (by intro k hk h; omega))
  have hbs : ¬ b = s := by omega
  have hsw : w.heap.size ≤ s := by have := B1.size; omega
  clear hs hw2 M2 L1 B1 hlt
  go_loopg [20] 4 (fun k i W => ∃ j : Nat, j + k = 4 ∧ i = .int .i64 j ∧ Lru W g b 3 (fxO j) ∧ Blk W s (fun j => #[Value.int .i64 0, .int .i64 1, .int .i64 2, .int .i64 0][j]?) ∧ Below w.heap.size w W)
  case atStart => exact ⟨0, rfl, rfl, L2, V2, B2⟩
  case round =>
    clear L2 V2 B2
    obtain ⟨j, hj, rfl, L, V, B⟩ := hrel
    by_cases h4 : j < 4
    · have cv : wr.cell? ⟨s, j, none⟩ = some (.int .i64 (fxV j)) := by
        rw [V.cell]
        have : j = 0 ∨ j = 1 ∨ j = 2 ∨ j = 3 := by omega
        rcases this with rfl | rfl | rfl | rfl <;> rfl
      have hv : 0 ≤ ((fxV j : Nat) : Int) ∧ ((fxV j : Nat) : Int) < (3 : Nat) := by unfold fxV; split <;> (try split) <;> omega
      have HJ := Lib.hid hj
      clear hj
      have hdr : (j : Int) < 4 := by omega
      have HU := Lib.hid (lru_use (fxV j : Nat) hv L)
      have hfx : fxO (j + 1) = fxV j :: dropO (fxO j) (fxV j) := rfl
      have HX := Lib.hid hfx
      clear hfx
      go_wp2_with (go_at_call 11; refine HU.out.mono ?_; rintro e w3 ⟨rfl, M3, L3⟩)
      go_roundg (3 - j)
      case measure => have := HJ.out; omega
      case rel => exact ⟨j + 1, by have := HJ.out; omega, by go_num, by rw [HX.out]; exact L3, V.mod M3 (Ne.symm hbs), B.trans (M3.below B.size (by intro k hk h; omega))⟩
    · have : j = 4 := by omega
      subst this
      clear hj h4 V
      have hO : fxO 4 = [0, 2, 1] := by decide
      rw [hO] at L
      clear hO
      have HO := Lib.hid (lru_oldest L)
      go_wp2_with (go_at_call 13; refine HO.out.mono ?_; rintro e w3 ⟨rfl, b3⟩)
      have L3 := L.below b3
      have B3 := B.trans (b3.mono B.size)
      clear b3 L B HO
      have HP := Lib.hid (lru_order L3 (by omega))
      refine HP.out.mono ?_
      rintro e w4 ⟨v4, rfl, R4, b4⟩
      have L4 := L3.below b4
      have B4 := B3.trans (b4.mono B3.size)
      clear HP b4 L3 B3
      obtain ⟨A4, c4, rfl, hc4, C4⟩ := Kd.R_reads R4
      clear R4
      have H4 := Lib.hid (And.intro hc4 C4)
      clear hc4 C4
      go_wp2_with fail
      obtain ⟨hc4, C4⟩ := H4.out
      generalize hw5 : w4.alloc _ = w5
      have m5 : Below w4.heap.size w4 w5 := hw5 ▸ (Below.refl _ _).alloc (Nat.le_refl _) _
      have V5 : Blk w5 w4.heap.size (fun j => #[Value.int .i64 0, .int .i64 2, .int .i64 1][j]?) := hw5 ▸ Blk.new w4 _ _
      refine (same_calls (ofN [0, 2, 1]) [0, 2, 1] A4 _ c4 3 _ (Kd.C_below C4 m5) hc4 (C_of_blk V5 rfl (by simp)) (by simp) rfl).mono ?_
      rintro e w6 ⟨rfl, b6⟩
      have L6 := (L4.below m5).below b6
      have B6 := (B4.trans (m5.mono B4.size)).trans (b6.mono (Nat.le_trans B4.size m5.size))
      clear L4 B4 H4 hc4 C4 hw5 m5 V5 b6
      go_wp2_with fail
      refine Calls.mono (R := fun e w' => e = .returned (.bool true) ∧ Mod (· = b) _ w' ∧ Lru w' g b 3 [0, 1]) (lru_drop 2 L6) ?_
      rintro e w7 ⟨rfl, m7, L7⟩
      have B7 := B6.trans (m7.below B6.size (by intro k hk h; omega))
      clear L6 B6 m7
      go_wp2_with fail
      refine (lru_order L7 (by omega)).mono ?_
      rintro e w8 ⟨v8, rfl, R8, b8⟩
      have B8 := B7.trans (b8.mono B7.size)
      clear b8 B7 L7
      obtain ⟨A8, c8, rfl, hc8, C8⟩ := Kd.R_reads R8
      clear R8
      have H8 := Lib.hid (And.intro hc8 C8)
      clear hc8 C8
      go_wp2_with fail
      obtain ⟨hc8, C8⟩ := H8.out
      generalize hw9 : w8.alloc _ = w9
      have m9 : Below w8.heap.size w8 w9 := hw9 ▸ (Below.refl _ _).alloc (Nat.le_refl _) _
      have V9 : Blk w9 w8.heap.size (fun j => #[Value.int .i64 0, .int .i64 1][j]?) := hw9 ▸ Blk.new w8 _ _
      refine (same_calls (ofN [0, 1]) [0, 1] A8 _ c8 2 _ (Kd.C_below C8 m9) hc8 (C_of_blk V9 rfl (by simp)) (by simp) rfl).mono ?_
      rintro e w10 ⟨rfl, b10⟩
      have B10 := (B8.trans (m9.mono B8.size)).trans (b10.mono (Nat.le_trans B8.size m9.size))
      clear B8 H8 hc8 C8 hw9 m9 V9 b10
      go_wp2
      go_ret
      exact ⟨rfl, B10⟩
end Go.Proofs.Ytgfkfmnncjjopaa
