import Derived.Test.YtjhmkmcongjngaaQ82
import Derived.Test.YtjhmkmcongjngaaQK
set_option linter.unusedVariables false
set_option linter.unusedSimpArgs false
namespace Go.Proofs.Ytjhmkmcongjngaa
open Go.RowKit Go.Tat Go.Proofs.YtjhmkmcongjngaaW.PrintWords PProbePlays
/-- An answer: who is waited for then. -/
def ansF (p : Pr) (t : Int) : Pr := { p with waits := p.waits.filter fun x => !(x.f0 == t) }
theorem says31' {w : World} {v : Value} {xs : List S82} (hv : (slc k82 82 v xs).holds w) {b : Nat} {t : Int} (h : w.heap[b]? = some (.cells #[.int .u8 t] 5 (0, 0))) : Q82.Says 31 #[.pointer (some ⟨b, 0, none⟩)] (fun x => x.f0 == t) (fun k => v.ownBlock = some k) w := by
  intro W x m
  have hb := blk_other (slc_R hv) m h (by decide)
  exact isnt_c x b t W (blk_cell hb 0)
theorem info82' : (Try.prog.info? 82).map (·.zero) = some (some (.agg #[(.int .u8 0), (.int .i64 0)])) := by kernel_rfl
/-- The waits cut. -/
theorem PRep.cutWaits {w0 w : World} {g : Nat} {S : Nat → Prop} {p : Pr} {vr vw v5 : Value} {ws : List S82} (hb : w0.heap[g]? = some (.cells #[.int .u8 p.self, .int .i64 p.n, vr, .int .i64 p.place, vw] 78 (0, 0))) (hS : S g)
    (hr : (Kd.int .u8).R 5 w0 0 (fun k => S k ∧ k ≠ g) vr p.row) (hw : k82.R 82 w0 0 (fun k => S k ∧ k ≠ g ∧ some k ≠ vr.ownBlock) vw p.waits) (m : Mod (fun k => vw.ownBlock = some k) w0 w)
    (h5 : (slc k82 82 v5 ws).holds w) (ho : v5.ownBlock = vw.ownBlock) :
    PRep (w.setCell ⟨g, 4, none⟩ v5) g S { p with waits := ws } := by
  have hb1 := (m.block g (heap_lt hb) fun e => (hw.1 g e).2.1 rfl).trans hb
  have hr1 : (Kd.int .u8).R 5 w 0 (fun k => S k ∧ k ≠ g) vr p.row := R_other hr m 82 (R_block hw) (by decide)
  refine ⟨vr, v5, by simpa using blk_set hb1 4 v5, hS, ?_, ?_⟩
  · exact Kd.R_far (Kd.R_mono hr1 fun k hk => hk) (fun k hk => hk.2) v5
  · exact Kd.R_far (Kd.R_mono (slc_R h5) fun k hk => hw.1 k (ho ▸ hk)) (fun k hk => hk.2.1) v5
def ansPost (p : Pr) (g : Nat) (S : Nat → Prop) (t : Int) (w : World) (e : Ending) (w' : World) : Prop :=
  e = .returned (.bool (p.waits.any fun x => x.f0 == t)) ∧ PRep w' g S (ansF p t) ∧ Mod S w w'
theorem filter_lt {α : Type} (q : α → Bool) : ∀ (l : List α), decide ((l.filter fun x => !q x).length < l.length) = l.any q
  | [] => rfl
  | x :: l => by
    have ih := filter_lt q l
    have h := List.length_filter_le (fun x => !q x) l
    cases hx : q x
    · simp only [List.filter_cons, hx, List.any_cons, Bool.false_or, ← ih, Bool.not_false, if_true, List.length_cons]
      congr 1; simp
    · simp only [List.filter_cons, hx, List.any_cons, Bool.true_or, Bool.not_true, List.length_cons]
      exact decide_eq_true (by simp; omega)
set_option maxRecDepth 100000 in
set_option maxHeartbeats 4000000 in
theorem answer_c (g : Nat) (S : Nat → Prop) (p : Pr) (t : Int) (w : World) (h : PRep w g S p) : Calls Try.prog 15 #[.pointer (some ⟨g, 0, none⟩), .int .u8 t] w (ansPost p g S t w) := by
  have hgl := h.lt
  have HP := Lib.hid h.mem
  obtain ⟨vr, vw, hb, hgg, hr, hw⟩ := h
  obtain ⟨A4, c4, rfl⟩ := Kd.R_slice hw
  have cg4 : w.cell? ⟨g, 4, none⟩ = some (.slice A4 p.waits.length c4) := blk_cell hb 4
  have hW := Lib.hid (And.intro hb (And.intro hr hw))
  have hmx := Q82.slc_max (slc_of hw rfl)
  clear hb hr hw hgg
  go_enter Try.func15, Try.ntmps15
  go_upto_region 4 with fail
  have b1 : Below w.heap.size w (w.alloc (.cells #[.int .u8 t] 5)) := (Below.refl _ _).alloc (Nat.le_refl _) _
  have ht1 : (w.alloc (.cells #[.int .u8 t] 5)).heap[w.heap.size]? = some (.cells #[.int .u8 t] 5 (0, 0)) := heap_alloc_new w _
  generalize w.alloc (.cells #[.int .u8 t] 5) = w1 at *
  have hb1 := (b1.block g hgl).trans hW.out.1
  have hr1 := Kd.R_below hW.out.2.1 b1
  have hw1 := Kd.R_below hW.out.2.2 b1
  have cg5 : w1.cell? ⟨g, 4, none⟩ = some (.slice A4 p.waits.length c4) := blk_cell hb1 4
  have m1 : Mod S w w1 := Mod.of_below b1
  generalize w.heap.size = tb at *
  have HD := Lib.hid (Q82.delete_s fl82 _ info82' rfl (by decide) 31 #[.pointer (some ⟨tb, 0, none⟩)] (fun x => x.f0 == t) p.waits (.slice A4 p.waits.length c4) w1 (says31' (slc_of hw1 rfl) ht1) enters31 (slc_of hw1 rfl))
  have H1 := Lib.hid (And.intro hb1 (And.intro hr1 (And.intro hw1 m1)))
  clear hb1 hr1 hw1 m1 ht1 b1
  go_wp2_with fail
  refine HD.out.mono ?_
  rintro e w2 ⟨v2, rfl, hv2, ho2, m2⟩
  obtain ⟨A2, c2, rfl⟩ := Kd.R_slice hv2.1
  obtain ⟨hb1, hr1, hw1, m1⟩ := H1.out
  have PC := PRep.cutWaits hb1 HP.out hr1 hw1 m2 hv2 ho2
  have hb2 := (m2.block g (heap_lt hb1) fun e => (hw1.1 g e).2.1 rfl).trans hb1
  have ce2 : w2.cell? ⟨g, 4, none⟩ = some (.slice A4 p.waits.length c4) := blk_cell hb2 4
  have fe2 := blk_frozen hb2 4
  have M2 : Mod S w (w2.setCell ⟨g, 4, none⟩ (.slice A2 (p.waits.filter fun x => !(x.f0 == t)).length c2)) := (m1.trans' m2 fun k _ hk => (hw1.1 k hk).1).set HP.out _
  have hfl := filter_lt (fun x : S82 => x.f0 == t) p.waits
  have H2 := Lib.hid (And.intro PC (And.intro M2 hfl))
  clear PC M2 hfl hb1 hr1 hw1 m1 hb2 hv2 ho2 m2 H1 HD
  generalize hn : (p.waits.filter fun x => !(x.f0 == t)).length = n at *
  have HN := Lib.hid hn
  clear hn
  go_wp2
  go_ret
  refine ⟨?_, H2.out.1, H2.out.2.1⟩
  rw [← H2.out.2.2]
  simp
end Go.Proofs.Ytjhmkmcongjngaa
