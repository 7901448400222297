/- Several texts put together. -/
import Derived.Test.YtjhmkmcongjngaaQL
set_option linter.unusedVariables false
set_option linter.unusedSimpArgs false
set_option linter.unusedVariables false
set_option linter.unusedSimpArgs false
namespace Go.Proofs.Ytjhmkmcongjngaa
open Go.RowKit Go.Tat Go.Proofs.YtjhmkmcongjngaaW.PrintWords PProbePlays
def waitsPost (p : Pr) (w : World) (e : Ending) (w' : World) : Prop := ∃ v, e = .returned v ∧ (Kd.int .u8).R 5 w' 0 (fun k => w.heap.size ≤ k) v (p.waits.map (·.f0)) ∧ Below w.heap.size w w'
set_option maxRecDepth 100000 in
set_option maxHeartbeats 4000000 in
theorem waits_c (g : Nat) (S : Nat → Prop) (p : Pr) (w : World) (h : PRep w g S p) (hl : p.waits.length ≤ 1000000) : Calls Try.prog 17 #[.pointer (some ⟨g, 0, none⟩)] w (waitsPost p w) := by
  have hgl := h.lt
  obtain ⟨vr, vw, hb, hgg, hr, hw⟩ := h
  obtain ⟨A4, c4, rfl⟩ := Kd.R_slice hw
  have cg4 : w.cell? ⟨g, 4, none⟩ = some (.slice A4 p.waits.length c4) := blk_cell hb 4
  obtain ⟨_, _, hC⟩ := Kd.R_reads' hw
  have HC := Lib.hid hC
  clear hb hr hw hgg hC
  go_enter Try.func17, Try.ntmps17
  go_wp2_with fail
  go_loopg [3, 14] (p.waits.length + 1) (fun k v3 v14 W => ∃ (j : Nat) (ys : List Int), p.waits.length - j < k ∧ j ≤ p.waits.length ∧ v14 = .int .i64 j ∧ ys.length ≤ j ∧ (Kd.int .u8).R 5 W 0 (fun k => w.heap.size ≤ k) v3 ys ∧ Below w.heap.size w W ∧ ys = (p.waits.take j).map (·.f0))
  case atStart => exact ⟨0, [], by omega, by omega, rfl, by simp, Kd.R_nil _ _ _ _ _, Below.refl _ _, rfl⟩
  case round =>
    obtain ⟨j, ys, hjk, hj, rfl, hyl, hR, B, hys⟩ := hrel
    have HJ := Lib.hid (And.intro hR B)
    have HYS := Lib.hid hys
    clear hys
    obtain ⟨A3, c3, rfl⟩ := Kd.R_slice hR
    clear hR B
    by_cases hjl : j < p.waits.length
    · have hjl' : (j : Int) < (p.waits.length : Int) := by omega
      obtain ⟨ad, hA4, cx0, cx1⟩ := at_T82 HC.out (j : Int) (by omega) hjl'
      subst hA4
      have hx : rd_T82 p.waits (j : Int) = p.waits[j] := by unfold rd_T82; rw [Int.toNat_natCast]; simp [List.getD, List.getElem?_eq_getElem hjl]
      rw [hx] at cx0 cx1
      replace cx0 := (HJ.out.2.cell (World.block_lt_of_cell? w _ cx0)).trans cx0
      replace cx1 := (HJ.out.2.cell (World.block_lt_of_cell? w _ cx1)).trans cx1
      rw [Int.toNat_natCast] at cx0 cx1
      obtain ⟨pb, po, had⟩ : ∃ b o, ad.add (j * 2) = ⟨b, o, none⟩ := by
        generalize ad.add (j * 2) = q at cx0
        obtain ⟨b, o, s⟩ := q
        cases s with
        | none => exact ⟨b, o, rfl⟩
        | some s => unfold World.cell? at cx0; dsimp only at cx0; split at cx0 <;> simp at cx0
      rw [had] at cx0 cx1
      dsimp only at cx1
      clear hx
      have htk : (p.waits.take (j + 1)).map (·.f0) = (p.waits.take j).map (·.f0) ++ [p.waits[j].f0] := by rw [← List.take_append_getElem hjl, List.map_append]; rfl
      have hll : (ys.length + 1) * 1 ≤ 140737488355328 := by omega
      generalize hy : p.waits[j] = u at *
      clear hy
      have HT := Lib.hid htk
      clear htk
      obtain ⟨u0, u1⟩ := u
      dsimp only at cx0 cx1
      go_upto_region 7 with fail
      have b3 : Below wr.heap.size wr (wr.alloc (.cells #[.int .u8 u0, .int .i64 u1] 82)) := (Below.refl wr.heap.size wr).alloc (Nat.le_refl _) _
      have hb3 : (wr.alloc (.cells #[.int .u8 u0, .int .i64 u1] 82)).heap[wr.heap.size]? = some (.cells #[.int .u8 u0, .int .i64 u1] 82 (0, 0)) := heap_alloc_new wr _
      have R3 := Kd.R_below HJ.out.1 b3
      have B3 := HJ.out.2.trans (b3.mono HJ.out.2.size)
      generalize wr.alloc _ = w3 at *
      generalize wr.heap.size = bq at *
      have cq0 : w3.cell? ⟨bq, 0, none⟩ = some (.int .u8 u0) := blk_cell hb3 0
      have H3 := Lib.hid (And.intro R3 B3)
      clear R3 B3 hb3 b3 cx0 cx1 had HJ
      go_wp2_with (at_builtin; go_loud (refine wpList_app1 (Kd.int .u8) rfl _ _ 28 5 (.int .u8 0) 1 rfl Try.underlying28 info5 rfl (by decide) (by decide) (.slice A3 ys.length c3) ys u0 [.int .u8 u0] (fun k => w.heap.size ≤ k) rfl rfl rfl H3.out.1 hll ?_))
      intro A5 c5 w5 R5 m5 ho5
      have H5 := Lib.hid (And.intro R5 (And.intro m5 ho5))
      clear R5 m5 ho5
      go_wp2
      go_roundg (p.waits.length - j)
      case measure => omega
      case rel =>
        obtain ⟨R5, m5, ho5⟩ := H5.out
        have hs3 := H3.out.2.size
        exact ⟨j + 1, ys ++ [u0], by omega, by omega, by go_num, by simp; omega, Kd.R_mono R5 fun k hk => by omega, H3.out.2.trans (m5.below hs3 fun k hk e => by have := H3.out.1.1 k e; omega), by rw [HT.out, HYS.out]⟩
    · have hjl' : ¬ (j : Int) < (p.waits.length : Int) := by omega
      go_wp2
      go_ret
      have : j = p.waits.length := by omega
      subst this
      have h := HYS.out
      rw [List.take_length] at h
      exact ⟨_, rfl, h ▸ HJ.out.1, HJ.out.2⟩
end Go.Proofs.Ytjhmkmcongjngaa
set_option linter.unusedVariables false
set_option linter.unusedSimpArgs false
namespace Go.Proofs.Ytjhmkmcongjngaa
open Go.RowKit Go.Tat Go.Proofs.YtjhmkmcongjngaaW.PrintWords PProbePlays
/-! ### A tick keeps a probe in order -/
theorem passF_wf (self n x : Int) (hs : List Int) : ∀ (ws : List S82) (st : Rd × List S82), (∀ u ∈ ws, 0 ≤ u.f1 ∧ u.f1 ≤ 1) → (∀ u ∈ st.2, 0 ≤ u.f1 ∧ u.f1 ≤ 1) → ∀ u ∈ (ws.foldl (passF self n x hs) st).2, 0 ≤ u.f1 ∧ u.f1 ≤ 1
  | [], st, _, h => h
  | w :: ws, st, hw, h => by
    rw [List.foldl_cons]
    refine passF_wf self n x hs ws _ (fun u hu => hw u (by simp [hu])) ?_
    have h1 := hw w (by simp)
    unfold passF
    split
    · exact h
    · rename_i h2
      intro u hu
      rcases List.mem_append.1 hu with hu | hu
      · exact h u hu
      · rw [List.mem_singleton.1 hu]; unfold oneMore; dsimp only; omega
theorem tick_okay {p : Pr} (ok : Okay p) (hl : p.waits.length + 1 ≤ 1000000) (x : Int) (hs : List Int) : Okay (tickF p x hs).2 ∧ (tickF p x hs).2.waits.length ≤ p.waits.length + 1 := by
  have h1 := pass_len p x hs
  have h2 : ∀ u ∈ (pass p x hs).2, 0 ≤ u.f1 ∧ u.f1 ≤ 1 := passF_wf p.self p.n x hs p.waits _ ok.wf (by simp)
  unfold tickF
  simp only
  by_cases hn : p.n = 1
  · rw [if_pos hn]
    exact ⟨⟨ok.n1, ok.n2, ok.rl, ok.pl0, ok.pl1, by show (pass p x hs).2.length ≤ _; omega, h2⟩, by show (pass p x hs).2.length ≤ _; omega⟩
  · rw [if_neg hn]
    have hn1 := ok.n1
    have hrl := ok.rl
    have t1 := turned_row { p with waits := (pass p x hs).2 } x
    have t2 := turned_place { p with waits := (pass p x hs).2 } x ok.pl0 ok.pl1 (by show 0 < p.row.length; omega)
    obtain ⟨t3, t4, t5⟩ := turned_waits { p with waits := (pass p x hs).2 } x
    generalize turned { p with waits := (pass p x hs).2 } x = q at *
    dsimp only at t1 t2 t3 t4 t5
    unfold pinged
    dsimp only
    have hwl : (if (q.waits.any fun w => w.f0 == q.row.getD q.place.toNat 0) = true then q.waits else q.waits ++ [⟨q.row.getD q.place.toNat 0, 0⟩]).length ≤ p.waits.length + 1 := by
      split
      · rw [t3]; omega
      · rw [List.length_append, t3]; simp; omega
    refine ⟨⟨?_, ?_, ?_, ?_, ?_, ?_, ?_⟩, hwl⟩
    · show 1 ≤ q.n; rw [t5]; exact ok.n1
    · show q.n ≤ 64; rw [t5]; exact ok.n2
    · show (q.row.length : Int) = q.n - 1; rw [t5, t1]; exact ok.rl
    · show 0 ≤ q.place + 1; omega
    · show q.place + 1 ≤ q.row.length; omega
    · exact Nat.le_trans hwl (by omega)
    · intro u hu
      have hu : u ∈ (if (q.waits.any fun w => w.f0 == q.row.getD q.place.toNat 0) = true then q.waits else q.waits ++ [⟨q.row.getD q.place.toNat 0, 0⟩]) := hu
      split at hu
      · exact h2 u (t3 ▸ hu)
      · rcases List.mem_append.1 hu with hu | hu
        · exact h2 u (t3 ▸ hu)
        · rw [List.mem_singleton.1 hu]; dsimp only; omega
theorem tick_pings {p : Pr} (x : Int) (hs : List Int) (hn : p.n ≠ 1) : (tickF p x hs).1.pings = (pass p x hs).1.pings ++ [(turned { p with waits := (pass p x hs).2 } x).row.getD (turned { p with waits := (pass p x hs).2 } x).place.toNat 0] := by
  unfold tickF
  simp only
  rw [if_neg hn]
  rfl
theorem passF_pings (self n x : Int) (hs : List Int) : ∀ (ws : List S82) (st : Rd × List S82), (ws.foldl (passF self n x hs) st).1.pings = st.1.pings
  | [], st => rfl
  | w :: ws, st => by
    rw [List.foldl_cons, passF_pings self n x hs ws]
    unfold passF; split <;> rfl
theorem pass_pings (p : Pr) (x : Int) (hs : List Int) : (pass p x hs).1.pings = [] := passF_pings _ _ _ _ _ _
theorem oth_bound {s j : Nat} {i : Int} (h : i ∈ oth s j) : 0 ≤ i ∧ i < j ∧ i ≠ s := by
  unfold oth at h
  obtain ⟨k, hk, rfl⟩ := List.mem_map.1 h
  obtain ⟨h1, h2⟩ := List.mem_filter.1 hk
  have h3 := List.mem_range.1 h1
  have h4 : k ≠ s := by simpa using h2
  exact ⟨by omega, by omega, by omega⟩
theorem oth_length {s n : Nat} (h : s < n) : (oth s n).length + 1 = n := by
  have key : ∀ j, (oth s j).length = if s < j then j - 1 else j := by
    intro j
    induction j with
    | zero => simp [oth]
    | succ j ih =>
      rw [oth_succ]
      by_cases e : j = s
      · rw [if_pos e, ih, if_neg (by omega), if_pos (by omega)]; omega
      · rw [if_neg e, List.length_append, ih]
        by_cases e2 : s < j
        · rw [if_pos e2, if_pos (by omega)]; simp; omega
        · rw [if_neg e2, if_neg (by omega)]; simp
  rw [key n, if_pos h]; omega
theorem new_okay {s n : Nat} (h1 : 1 ≤ n) (h2 : n ≤ 64) (hs : s < n) : Okay (newPr s n n) :=
  ⟨by show (1 : Int) ≤ (n : Int); omega, by show (n : Int) ≤ 64; omega, by show ((oth s n).length : Int) = (n : Int) - 1; have := oth_length hs; omega, by show (0 : Int) ≤ 0; omega, by show (0 : Int) ≤ _; omega, by show 0 ≤ 1000000; omega, fun u hu => by cases hu⟩
end Go.Proofs.Ytjhmkmcongjngaa
