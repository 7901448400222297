import Derived.Test.YtjhmkmcongjngaaQE
set_option linter.unusedVariables false
set_option linter.unusedSimpArgs false
namespace Go.Tat
open Go.RowKit Go.Proofs.YtjhmkmcongjngaaW.PrintWords
/-- A slice stays where blocks of other types alone are changed. -/
theorem R_other {α : Type} {d : Kd α} {e : Nat} {W w1 : World} {b : Nat} {ok : Nat → Prop} {u : Value} {xs : List α} (h : d.R e W b ok u xs) {F : Nat → Prop} (m : Mod F W w1) (q : Nat) (hF : ∀ k, F k → ∃ cells, W.heap[k]? = some (.cells cells q (0, 0))) (hq : ∀ q' ∈ e :: d.E, q' ≠ q) : d.R e w1 b ok u xs := by
  refine Kd.R_mono (Kd.R_step (Kd.R_bound h) fun k hk hl => m.block k hl fun hf => ?_) fun k hk => hk.1
  obtain ⟨_, _, _, q', hq', cs, hc⟩ := hk
  obtain ⟨cs', hc'⟩ := hF k hf
  rw [hc] at hc'
  injection hc' with hc'
  injection hc' with _ h2
  exact hq q' hq' h2
theorem R_block {α : Type} {d : Kd α} {e : Nat} {W : World} {b : Nat} {ok : Nat → Prop} {u : Value} {xs : List α} (h : d.R e W b ok u xs) : ∀ k, u.ownBlock = some k → ∃ cells, W.heap[k]? = some (.cells cells e (0, 0)) := Kd.R_typed h
/-- A block of another type than a slice's. -/
theorem blk_other {α : Type} {d : Kd α} {e : Nat} {W w1 : World} {b : Nat} {ok : Nat → Prop} {u : Value} {xs : List α} (h : d.R e W b ok u xs) (m : Mod (fun k => u.ownBlock = some k) W w1) {r t : Nat} {cs : Array Value} (hr : W.heap[r]? = some (.cells cs t (0, 0))) (ht : e ≠ t) : w1.heap[r]? = some (.cells cs t (0, 0)) := by
  refine (m.block r (Array.getElem?_eq_some_iff.1 hr).1 fun hf => ?_).trans hr
  obtain ⟨cs', hc'⟩ := Kd.R_typed h r hf
  rw [hr] at hc'
  injection hc' with hc'
  injection hc' with _ h2
  exact ht h2.symm
end Go.Tat
namespace Go.Proofs.Ytjhmkmcongjngaa
open Go.RowKit Go.Tat Go.Proofs.YtjhmkmcongjngaaW.PrintWords PProbePlays
/-- The round at r: what it holds so far; no pings yet. -/
structure Rnd (w : World) (r s0 : Nat) (vA vF : Value) (rd : Rd) : Prop where
  blk : w.heap[r]? = some (.cells #[.slice none 0 0, vA, vF] 32 (0, 0))
  A : k80.R 80 w 0 (fun k => s0 ≤ k) vA rd.asks
  F : (Kd.int .u8).R 5 w 0 (fun k => s0 ≤ k) vF rd.failed
  P : rd.pings = []
theorem Rnd.below {w w' : World} {r s0 : Nat} {vA vF : Value} {rd : Rd} (h : Rnd w r s0 vA vF rd) (b : Below w.heap.size w w') : Rnd w' r s0 vA vF rd :=
  ⟨(b.block r (Array.getElem?_eq_some_iff.1 h.blk).1).trans h.blk, Kd.R_below h.A b, Kd.R_below h.F b, h.P⟩
/-- One more that failed. -/
theorem Rnd.addF {W w1 : World} {r s0 : Nat} {vA vF v5 : Value} {rd : Rd} (h : Rnd W r s0 vA vF rd) (x : Int) (m : Mod (fun k => vF.ownBlock = some k) W w1) (hR : (Kd.int .u8).R 5 w1 0 (fun k => s0 ≤ k ∨ W.heap.size ≤ k) v5 (rd.failed ++ [x])) (hs : s0 ≤ W.heap.size) :
    Rnd (w1.setCell ⟨r, 2, none⟩ v5) r s0 vA v5 { rd with failed := rd.failed ++ [x] } := by
  have hb := blk_other h.F m h.blk (by decide)
  have mr : Mod (fun k => k = r) w1 (w1.setCell ⟨r, 2, none⟩ v5) := Mod.setCell (S := fun k => k = r) rfl v5
  have hr : ∀ k, k = r → ∃ cells, w1.heap[k]? = some (.cells cells 32 (0, 0)) := fun k hk => ⟨_, hk ▸ hb⟩
  refine ⟨by simpa using blk_set hb 2 v5, ?_, ?_, h.P⟩
  · exact R_other (R_other h.A m 5 (R_block h.F) (by decide)) mr 32 hr (by decide)
  · exact R_other (Kd.R_mono hR fun k hk => hk.elim id fun h => Nat.le_trans hs h) mr 32 hr (by decide)
/-- One more that is asked. -/
theorem Rnd.addA {W w1 : World} {r s0 : Nat} {vA vF v5 : Value} {rd : Rd} (h : Rnd W r s0 vA vF rd) (x : S80) (m : Mod (fun k => vA.ownBlock = some k) W w1) (hR : k80.R 80 w1 0 (fun k => s0 ≤ k ∨ W.heap.size ≤ k) v5 (rd.asks ++ [x])) (hs : s0 ≤ W.heap.size) :
    Rnd (w1.setCell ⟨r, 1, none⟩ v5) r s0 v5 vF { rd with asks := rd.asks ++ [x] } := by
  have hb := blk_other h.A m h.blk (by decide)
  have mr : Mod (fun k => k = r) w1 (w1.setCell ⟨r, 1, none⟩ v5) := Mod.setCell (S := fun k => k = r) rfl v5
  have hr : ∀ k, k = r → ∃ cells, w1.heap[k]? = some (.cells cells 32 (0, 0)) := fun k hk => ⟨_, hk ▸ hb⟩
  refine ⟨by simpa using blk_set hb 1 v5, ?_, ?_, h.P⟩
  · exact R_other (Kd.R_mono hR fun k hk => hk.elim id fun h => Nat.le_trans hs h) mr 32 hr (by decide)
  · exact R_other (R_other h.F m 80 (R_block h.A) (by decide)) mr 32 hr (by decide)
/-- The row of waits that is laid anew stays, where the round's own rows grow. -/
theorem W_stay {w w' : World} {s0 : Nat} {v : Value} {ws : List S82} {F : Nat → Prop} (h : k82.R 82 w 0 (fun k => s0 ≤ k) v ws) (m : Mod F w w') (q : Nat) (hq : q ≠ 82) (hF : ∀ k, F k → ∃ cells, w.heap[k]? = some (.cells cells q (0, 0))) : k82.R 82 w' 0 (fun k => s0 ≤ k) v ws :=
  R_other h m q hF (fun q' hq' => by
    have : q' = 82 := by simpa [k82, Kd.iso, Kd.pair, Kd.int, Kd.scalar] using hq'
    rw [this]; exact Ne.symm hq)
theorem below_of_mod {w0 w w' : World} {s0 : Nat} {F : Nat → Prop} (b : Below s0 w0 w) (m : Mod F w w') (hs : s0 ≤ w.heap.size) (hF : ∀ k, F k → s0 ≤ k) : Below s0 w0 w' :=
  b.trans (m.below hs fun k hk hf => by have := hF k hf; omega)
end Go.Proofs.Ytjhmkmcongjngaa
