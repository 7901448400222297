import Derived.Test.YtjhmkmcongjngaaQA
set_option linter.unusedVariables false
set_option linter.unusedSimpArgs false
namespace Go.Proofs.Ytjhmkmcongjngaa
open Go.RowKit Go.Tat Go.Proofs.YtjhmkmcongjngaaW.PrintWords PProbePlays
/-- A probe, as the program has it. -/
structure Pr where
  self : Int
  n : Int
  row : List Int
  place : Int
  waits : List S82
/-- The probe at g; its blocks are of S. -/
def PRep (w : World) (g : Nat) (S : Nat → Prop) (p : Pr) : Prop := ∃ vr vw, w.heap[g]? = some (.cells #[.int .u8 p.self, .int .i64 p.n, vr, .int .i64 p.place, vw] 78 (0, 0)) ∧ S g ∧
  (Kd.int .u8).R 5 w 0 (fun k => S k ∧ k ≠ g) vr p.row ∧ k82.R 82 w 0 (fun k => S k ∧ k ≠ g ∧ some k ≠ vr.ownBlock) vw p.waits
theorem heap_lt {w : World} {g : Nat} {o : Obj} (h : w.heap[g]? = some o) : g < w.heap.size := (Array.getElem?_eq_some_iff.1 h).1
theorem PRep.lt {w : World} {g : Nat} {S : Nat → Prop} {p : Pr} (h : PRep w g S p) : g < w.heap.size := by
  obtain ⟨_, _, h, _⟩ := h; exact heap_lt h
theorem PRep.mem {w : World} {g : Nat} {S : Nat → Prop} {p : Pr} (h : PRep w g S p) : S g := by
  obtain ⟨_, _, _, h, _⟩ := h; exact h
theorem PRep.mono {w : World} {g : Nat} {S S' : Nat → Prop} {p : Pr} (h : PRep w g S p) (hS : ∀ k, S k → S' k) : PRep w g S' p := by
  obtain ⟨vr, vw, h1, h2, h3, h4⟩ := h
  exact ⟨vr, vw, h1, hS _ h2, Kd.R_mono h3 fun k hk => ⟨hS k hk.1, hk.2⟩, Kd.R_mono h4 fun k hk => ⟨hS k hk.1, hk.2⟩⟩
theorem PRep.bound {w : World} {g : Nat} {S : Nat → Prop} {p : Pr} (h : PRep w g S p) : PRep w g (fun k => S k ∧ k < w.heap.size) p := by
  have hl := h.lt
  obtain ⟨vr, vw, h1, h2, h3, h4⟩ := h
  exact ⟨vr, vw, h1, ⟨h2, hl⟩, Kd.R_mono (Kd.R_bound h3) fun k hk => ⟨⟨hk.1.1, hk.2.2.1⟩, hk.1.2⟩, Kd.R_mono (Kd.R_bound h4) fun k hk => ⟨⟨hk.1.1, hk.2.2.1⟩, hk.1.2⟩⟩
theorem PRep.mod {w w' : World} {g : Nat} {S F : Nat → Prop} {p : Pr} (h : PRep w g S p) (m : Mod F w w') (hF : ∀ k, S k → ¬ F k) : PRep w' g S p := by
  have hl := h.lt
  obtain ⟨vr, vw, h1, h2, h3, h4⟩ := h
  exact ⟨vr, vw, (m.block g hl (hF g h2)).trans h1, h2, Kd.R_step h3 fun k hk hl => m.block k hl (hF k hk.1), Kd.R_step h4 fun k hk hl => m.block k hl (hF k hk.1)⟩
theorem PRep.below {w w' : World} {g : Nat} {S : Nat → Prop} {p : Pr} (h : PRep w g S p) (m : Below w.heap.size w w') : PRep w' g S p :=
  h.mod (Mod.of_below (S := fun _ => False) m) (by simp)
def hlpPost (self n x : Int) (l : List Int) (tgt : Int) (w : World) (e : Ending) (w' : World) : Prop := ∃ v, e = .returned v ∧ (Kd.int .u8).R 5 w' w.heap.size (fun _ => True) v (hlpF self n x l tgt) ∧ Below w.heap.size w w'
theorem R_isSlice {α : Type} {d : Kd α} {e : Nat} {w : World} {b : Nat} {ok : Nat → Prop} {v : Value} {xs : List α} (h : d.R e w b ok v xs) : ∃ A c, v = .slice A xs.length c := Kd.R_slice h
theorem helpers_c {w : World} {g : Nat} {S : Nat → Prop} {p : Pr} (h : PRep w g S p) (x : Int) (A : Option Addr) (c : Nat) (l : List Int) (tgt : Int) (hx : 0 ≤ x) (hC : (Kd.int .u8).C w A l.length l) (hc : l.length ≤ c) (hl : l.length ≤ 4000000000000000000) (hv : ∀ h ∈ l, 0 ≤ h ∧ h < 256)
    (hg : ∀ ad, A = some ad → 0 < l.length → ad.block ≠ g) : Calls Try.prog 23 #[.pointer (some ⟨g, 0, none⟩), .int .u64 x, .slice A l.length c, .int .u8 tgt] w (hlpPost p.self p.n x l tgt w) := by
  obtain ⟨vr, vw, h1, h2, h3, h4⟩ := h
  obtain ⟨A2, c2, rfl⟩ := Kd.R_slice h3
  obtain ⟨A4, c4, rfl⟩ := Kd.R_slice h4
  have hB : Below ((⟨{ w with heap := #[] }, .slice A2 p.row.length c2, .slice A4 p.waits.length c4⟩ : Own.W0) : World).heap.size { w with heap := #[] } w := ⟨rfl, rfl, rfl, by simp, fun k hk => by simp at hk⟩
  have hI : Own.IsS78 ⟨{ w with heap := #[] }, .slice A2 p.row.length c2, .slice A4 p.waits.length c4⟩ w g p.self p.n p.row p.place p.waits := ⟨A2, c2, A4, c4, h1, by simp, rfl, rfl⟩
  refine (Own.probe_Probe_helpers.calls (l.length + 5) g p.self p.n p.row p.place p.waits x A c l tgt _ _ _ _ _ w hI hB hC hc hg (hlp_f p.self p.n p.place x tgt p.row p.waits l hx hl hv)).mono ?_
  rintro e w' ⟨v, rfl, hR, ⟨A2', c2', A4', c4', hh, _, hq2, hq4⟩, hBl, hK⟩
  refine ⟨v, rfl, hR, hBl.os, hBl.tape, hBl.output, hK.1, fun k hk => ?_⟩
  by_cases hkg : k = g
  · subst hkg
    rw [hh, h1, hq2, hq4]
  · exact hK.2 k hk hkg (by simp)
end Go.Proofs.Ytjhmkmcongjngaa
