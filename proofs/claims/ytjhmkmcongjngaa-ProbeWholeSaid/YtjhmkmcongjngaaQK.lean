import Derived.Test.YtjhmkmcongjngaaQF
import Derived.Test.YtjhmkmcongjngaaQI
import Derived.Test.YtjhmkmcongjngaaQJ
import Derived.OpenShut
import Derived.Deep.RegionLaw
set_option linter.unusedVariables false
set_option linter.unusedSimpArgs false
namespace Go.Proofs.Ytjhmkmcongjngaa
open Go.RowKit Go.Tat Go.Proofs.YtjhmkmcongjngaaW.PrintWords PProbePlays
theorem info82 : (Try.prog.info? 82).map (fun i => (i.zero, i.size, i.bytes)) = some (some (.agg #[(.int .u8 0), (.int .i64 0)]), 2, 16) := by kernel_rfl
theorem size32 : (Try.prog.info? 32).map (·.size) = some 3 := by kernel_rfl
structure Okay (p : Pr) : Prop where
  n1 : 1 ≤ p.n
  n2 : p.n ≤ 64
  rl : (p.row.length : Int) = p.n - 1
  pl0 : 0 ≤ p.place
  pl1 : p.place ≤ p.row.length
  wl : p.waits.length ≤ 1000000
  wf : ∀ u ∈ p.waits, 0 ≤ u.f1 ∧ u.f1 ≤ 1
def agg3 (vP vA vF : Value) : Value := .agg #[vP, vA, vF]
/-- New blocks beside those of two rows. -/
def ND (s0 : Nat) (vA vF : Value) (k : Nat) : Prop := (s0 ≤ k ∧ some k ≠ vF.ownBlock) ∧ some k ≠ vA.ownBlock
def TS (S : Nat → Prop) (s0 : Nat) (vA vF : Value) (k : Nat) : Prop := (S k ∧ k < s0) ∨ ND s0 vA vF k
/-- What a probe has behind a tick: what it had, and new blocks that are none of the round's. -/
def TE (S : Nat → Prop) (s0 : Nat) (vP vA vF : Value) (k : Nat) : Prop := TS S s0 vA vF k ∧ some k ≠ vP.ownBlock
theorem TS.cases {S : Nat → Prop} {s0 : Nat} {vA vF : Value} {k : Nat} (h : TS S s0 vA vF k) : (S k ∧ k < s0) ∨ s0 ≤ k := h.elim .inl fun h => .inr h.1.1
theorem TS.low {S : Nat → Prop} {s0 : Nat} {vA vF : Value} {k : Nat} (h : S k) (hk : k < s0) : TS S s0 vA vF k := .inl ⟨h, hk⟩
def tickPost (p : Pr) (g : Nat) (S : Nat → Prop) (x : Int) (hs : List Int) (w : World) (e : Ending) (w' : World) : Prop :=
  ∃ vP vA vF, e = .returned (.agg #[vP, vA, vF]) ∧ (Kd.int .u8).R 5 w' 0 (fun k => w.heap.size ≤ k) vP (tickF p x hs).1.pings ∧ k80.R 80 w' 0 (fun k => w.heap.size ≤ k) vA (tickF p x hs).1.asks ∧ (Kd.int .u8).R 5 w' 0 (fun k => w.heap.size ≤ k) vF (tickF p x hs).1.failed ∧
    PRep w' g (TE S w.heap.size vP vA vF) (tickF p x hs).2 ∧ Mod S w w' ∧ ∀ k, vP.ownBlock = some k → vF.ownBlock ≠ some k
/-- The waits set anew. -/
theorem PRep.putWaits {w : World} {g : Nat} {S S2 okv : Nat → Prop} {p : Pr} {v : Value} {ws : List S82} (h : PRep w g S p) (hS : ∀ k, S k → S2 k) (hv : k82.R 82 w 0 okv v ws) (h2 : ∀ k, okv k → S2 k) (h3 : ∀ k, okv k → ¬ S k) : PRep (w.setCell ⟨g, 4, none⟩ v) g S2 { p with waits := ws } := by
  obtain ⟨vr, vw, hb, hg, hr, hw⟩ := h
  refine ⟨vr, v, by simpa using blk_set hb 4 v, hS _ hg, ?_, ?_⟩
  · exact Kd.R_far (Kd.R_mono hr fun k hk => ⟨hS _ hk.1, hk.2⟩) (fun k hk => hk.2) v
  · exact Kd.R_far (Kd.R_mono hv fun k hk => ⟨h2 k hk, fun e => h3 k hk (e ▸ hg), fun e => h3 k hk (hr.1 k e.symm).1⟩) (fun k hk => hk.2.1) v
theorem Rnd.far {w : World} {r s0 : Nat} {vA vF : Value} {rd : Rd} (h : Rnd w r s0 vA vF rd) {p : Addr} (hp : p.block < s0) (hr : s0 ≤ r) (u : Value) : Rnd (w.setCell p u) r s0 vA vF rd :=
  ⟨blk_far h.blk (by omega) u, Kd.R_far h.A (fun k hk => by omega) u, Kd.R_far h.F (fun k hk => by omega) u, h.P⟩
theorem PRep.other {w w' : World} {g : Nat} {S F : Nat → Prop} {p : Pr} (h : PRep w g S p) (m : Mod F w w') (q : Nat) (hF : ∀ k, F k → ∃ cells, w.heap[k]? = some (.cells cells q (0, 0))) (h1 : q ≠ 78) (h2 : q ≠ 5) (h3 : q ≠ 82) : PRep w' g S p := by
  obtain ⟨vr, vw, hb, hg, hr, hw⟩ := h
  refine ⟨vr, vw, (m.block g (heap_lt hb) fun hf => ?_).trans hb, hg, ?_, ?_⟩
  · obtain ⟨cs, hc⟩ := hF g hf
    rw [hb] at hc
    injection hc with hc
    injection hc with _ e
    exact h1 e.symm
  · exact R_other hr m q hF (fun q' hq' => by
      have : q' = 5 := by simpa [Kd.int, Kd.scalar] using hq'
      rw [this]; exact Ne.symm h2)
  · exact R_other hw m q hF (fun q' hq' => by
      have : q' = 82 := by simpa [k82, Kd.iso, Kd.pair, Kd.int, Kd.scalar] using hq'
      rw [this]; exact Ne.symm h3)
theorem bits_nonneg (op : BinOp) (x y : Int) : 0 ≤ Go.bits op .u64 x y := by
  have h := wf_bits op .u64 x y
  have h2 : IntKind.u64.min ≤ Go.bits op .u64 x y ∧ Go.bits op .u64 x y ≤ IntKind.u64.max := by simpa [Lit.wf] using h
  exact h2.1
theorem mix_nonneg {a r : Int} (h : mix_Mix.f a = some r) : 0 ≤ r := by
  unfold mix_Mix.f at h
  rw [← Option.some.inj h]
  exact bits_nonneg _ _ _
theorem two_some (x y : Int) : mix_Two.f x y = some (two x y) ∧ 0 ≤ two x y := by
  obtain ⟨a, ha⟩ : ∃ a, mix_Mix.f x = some a := ⟨_, rfl⟩
  obtain ⟨b, hb⟩ : ∃ b, mix_Mix.f (Go.bits .xor .u64 a y) = some b := ⟨_, rfl⟩
  have h : mix_Two.f x y = some b := by unfold mix_Two.f; rw [ha, Option.bind_some, hb, Option.bind_some]
  unfold two
  rw [h]
  exact ⟨rfl, mix_nonneg hb⟩
theorem Rnd.low {w w' : World} {r s0 : Nat} {vA vF : Value} {rd : Rd} {F : Nat → Prop} (h : Rnd w r s0 vA vF rd) (m : Mod F w w') (hr : s0 ≤ r) (hF : ∀ k, F k → k < s0) : Rnd w' r s0 vA vF rd :=
  ⟨(m.block r (heap_lt h.blk) fun hf => by have := hF r hf; omega).trans h.blk, Kd.R_step h.A fun k hk hl => m.block k hl fun hf => by have := hF k hf; omega, Kd.R_step h.F fun k hk hl => m.block k hl fun hf => by have := hF k hf; omega, h.P⟩
def W1post (p : Pr) (g r s0 : Nat) (S : Nat → Prop) (x : Int) (hs : List Int) (w : World) (v : Value) (W : World) : Prop := ∃ vA vF, Rnd W r s0 vA vF (pass p x hs).1 ∧ k82.R 82 W 0 (fun k => s0 ≤ k) v (pass p x hs).2 ∧ PRep W g S p ∧ Below s0 w W
/-- A tick's end: the round and the probe. -/
structure Fin (w wx : World) (g s0 : Nat) (S S' : Nat → Prop) (vP vA vF : Value) (rd : Rd) (q : Pr) : Prop where
  P : PRep wx g S' q
  blk : wx.heap[s0 + 1]? = some (.cells #[vP, vA, vF] 32 (0, 0))
  p : (Kd.int .u8).R 5 wx 0 (fun k => s0 ≤ k) vP rd.pings
  a : k80.R 80 wx 0 (fun k => s0 ≤ k) vA rd.asks
  f : (Kd.int .u8).R 5 wx 0 (fun k => s0 ≤ k) vF rd.failed
  res : wx.heap[s0]? = some (.cells #[.slice none 0 0, .slice none 0 0, .slice none 0 0] 32 (0, 0))
  M : Mod S w wx
  d : ∀ k, vP.ownBlock = some k → vF.ownBlock ≠ some k
theorem Fin.below {w wx wy : World} {g s0 : Nat} {S S' : Nat → Prop} {vP vA vF : Value} {rd : Rd} {q : Pr} (h : Fin w wx g s0 S S' vP vA vF rd q) (b : Below wx.heap.size wx wy) : Fin w wy g s0 S S' vP vA vF rd q :=
  ⟨h.P.below b, (b.block _ (heap_lt h.blk)).trans h.blk, Kd.R_below h.p b, Kd.R_below h.a b, Kd.R_below h.f b, (b.block _ (heap_lt h.res)).trans h.res, h.M.trans (Mod.of_below b), h.d⟩
/-- The waits grown by one. -/
theorem PRep.addWait {w0 w : World} {g : Nat} {S : Nat → Prop} {p : Pr} {vr vw v5 : Value} {ws : List S82} (hg : g < w0.heap.size) (hb : w0.heap[g]? = some (.cells #[.int .u8 p.self, .int .i64 p.n, vr, .int .i64 p.place, vw] 78 (0, 0))) (hS : S g)
    (hr : (Kd.int .u8).R 5 w0 0 (fun k => S k ∧ k ≠ g) vr p.row) (hw : k82.R 82 w0 0 (fun k => S k ∧ k ≠ g ∧ some k ≠ vr.ownBlock) vw p.waits) (m : Mod (fun k => vw.ownBlock = some k) w0 w)
    (h5 : k82.R 82 w 0 (fun k => (S k ∧ k ≠ g ∧ some k ≠ vr.ownBlock) ∨ w0.heap.size ≤ k) v5 ws) :
    PRep (w.setCell ⟨g, 4, none⟩ v5) g (fun k => S k ∨ w0.heap.size ≤ k) { p with waits := ws } := by
  have hb1 := (m.block g hg fun e => (hw.1 g e).2.1 rfl).trans hb
  have hrl : ∀ k, vr.ownBlock = some k → k < w0.heap.size := fun k hk => Kd.R_lt hr k hk
  have hr1 : (Kd.int .u8).R 5 w 0 (fun k => S k ∧ k ≠ g) vr p.row := R_other hr m 82 (R_block hw) (by decide)
  refine ⟨vr, v5, by simpa using blk_set hb1 4 v5, .inl hS, ?_, ?_⟩
  · exact Kd.R_far (Kd.R_mono hr1 fun k hk => ⟨.inl hk.1, hk.2⟩) (fun k hk => hk.2) v5
  · refine Kd.R_far (Kd.R_mono h5 fun k hk => ?_) (fun k hk => hk.2.1) v5
    rcases hk with hk | hk
    · exact ⟨.inl hk.1, hk.2.1, hk.2.2⟩
    · exact ⟨.inr hk, by omega, fun e => by have := hrl k e.symm; omega⟩
end Go.Proofs.Ytjhmkmcongjngaa
namespace Go.Proofs.Ytjhmkmcongjngaa
open Go.RowKit Go.Tat Go.Proofs.YtjhmkmcongjngaaW.PrintWords PProbePlays
theorem passF_len (self n x : Int) (hs : List Int) : ∀ (ws : List S82) (st : Rd × List S82), (ws.foldl (passF self n x hs) st).2.length ≤ st.2.length + ws.length
  | [], st => by simp
  | w :: ws, st => by
    rw [List.foldl_cons]
    refine Nat.le_trans (passF_len self n x hs ws _) ?_
    unfold passF
    split <;> simp <;> omega
theorem pass_len (p : Pr) (x : Int) (hs : List Int) : (pass p x hs).2.length ≤ p.waits.length := by
  have := passF_len p.self p.n x hs p.waits (⟨[], [], []⟩, [])
  simpa [pass] using this
end Go.Proofs.Ytjhmkmcongjngaa
namespace Go.Proofs.Ytjhmkmcongjngaa
open Go.RowKit Go.Tat Go.Proofs.YtjhmkmcongjngaaW.PrintWords PProbePlays
theorem Fin.grow {w w0 w1 : World} {g s0 : Nat} {S : Nat → Prop} {vP vA vF vr vw v5 : Value} {rd : Rd} {q : Pr} {ws : List S82} (hs : w.heap.size = s0) (hgs : g < s0) (hSg : S g) (h : Fin w w0 g s0 S (TE S s0 vP vA vF) vP vA vF rd q)
    (hb : w0.heap[g]? = some (.cells #[.int .u8 q.self, .int .i64 q.n, vr, .int .i64 q.place, vw] 78 (0, 0)))
    (hr : (Kd.int .u8).R 5 w0 0 (fun k => TE S s0 vP vA vF k ∧ k ≠ g) vr q.row) (hw : k82.R 82 w0 0 (fun k => TE S s0 vP vA vF k ∧ k ≠ g ∧ some k ≠ vr.ownBlock) vw q.waits) (m : Mod (fun k => vw.ownBlock = some k) w0 w1)
    (h5 : k82.R 82 w1 0 (fun k => (TE S s0 vP vA vF k ∧ k ≠ g ∧ some k ≠ vr.ownBlock) ∨ w0.heap.size ≤ k) v5 ws) :
    Fin w (w1.setCell ⟨g, 4, none⟩ v5) g s0 S (TE S s0 vP vA vF) vP vA vF rd { q with waits := ws } := by
  have hM0 : s0 ≤ w0.heap.size := by have := h.M.size; omega
  have hb1 := (m.block g (heap_lt hb) fun e => (hw.1 g e).2.1 rfl).trans hb
  have mg : Mod (fun k => k = g) w1 (w1.setCell ⟨g, 4, none⟩ v5) := Mod.setCell (S := fun k => k = g) rfl v5
  have hF : ∀ k, k = g → ∃ cells, w1.heap[k]? = some (.cells cells 78 (0, 0)) := fun k hk => ⟨_, hk ▸ hb1⟩
  have lP := Kd.R_lt h.p
  have lA := Kd.R_lt h.a
  have lF := Kd.R_lt h.f
  have hTg : TE S s0 vP vA vF g := by
    obtain ⟨_, _, _, hg, _⟩ := h.P
    exact hg
  have PW := PRep.addWait (p := q) (heap_lt hb) hb hTg hr hw m h5
  refine ⟨PW.mono fun k hk => ?_, blk_far (blk_other hw m h.blk (by decide)) (by show s0 + 1 ≠ g; omega) _, ?_, ?_, ?_, blk_far (blk_other hw m h.res (by decide)) (by show s0 ≠ g; omega) _, ?_, h.d⟩
  · rcases hk with hk | hk
    · exact hk
    · exact ⟨.inr ⟨⟨by omega, fun e => by have := lF k e.symm; omega⟩, fun e => by have := lA k e.symm; omega⟩, fun e => by have := lP k e.symm; omega⟩
  · exact R_other (R_other h.p m 82 (R_block hw) (by decide)) mg 78 hF (by decide)
  · exact R_other (R_other h.a m 82 (R_block hw) (by decide)) mg 78 hF (by decide)
  · exact R_other (R_other h.f m 82 (R_block hw) (by decide)) mg 78 hF (by decide)
  · refine (h.M.trans' m fun k hk he => ?_).set hSg v5
    rcases (hw.1 k he).1.1.cases with h1 | h1
    · exact h1.1
    · omega
theorem Fin.ends {w wx : World} {g s0 : Nat} {S : Nat → Prop} {vP vA vF : Value} {rd : Rd} {q : Pr} {cs : Array Value} (hs : w.heap.size = s0) (h : Fin w wx g s0 S (TE S s0 vP vA vF) vP vA vF rd q)
    (m : Mod (fun k => k = s0) wx (wx.setRow s0 cs)) (p : Pr) (x : Int) (l : List Int) (ht : tickF p x l = (rd, q)) : tickPost p g S x l w (.returned (.agg #[vP, vA, vF])) (wx.setRow s0 cs) := by
  have hF : ∀ k, k = s0 → ∃ cells, wx.heap[k]? = some (.cells cells 32 (0, 0)) := fun k hk => ⟨_, hk ▸ h.res⟩
  unfold tickPost
  rw [ht, hs]
  exact ⟨_, _, _, rfl, R_other h.p m 32 hF (by decide), R_other h.a m 32 hF (by decide), R_other h.f m 32 hF (by decide), h.P.other m 32 hF (by decide) (by decide) (by decide), h.M.trans' m fun k hk e => by omega, h.d⟩
end Go.Proofs.Ytjhmkmcongjngaa
