import Derived.Test.YtkfofcgonkkdaaaTB
import Derived.Test.YtkfofcgonkkdaaaApp
namespace Go.Proofs.Ytkfofcgonkkdaaa
open Go.RowKit Go.Tat Go.Proofs.YtkfofcgonkkdaaaW.PrintWords PTalkPlays
/-! ### A talk -/
structure Tk where
  pieces : List S60
  times : Int
  most : Int
  came : Int
def tP (g : Nat) (p : Tk) (v : Value) : List Asr := [blk g #[v, .int .i64 p.times, .int .i64 p.most, .int .i64 p.came] 53, slc k60 60 v p.pieces]
def tO (g : Nat) (F : Nat → Prop) (p : Tk) : Asr := Asr.ex F (tP g p)
def addF (p : Tk) (x : S33) : Tk := { p with pieces := (p.pieces.filter fun y => !(y.f0.f0 == x.f0)) ++ [⟨x, 0, p.came + 1⟩], came := p.came + 1 }
theorem info60 : (Try.prog.info? 60).map (fun i => (i.zero, i.size, i.bytes)) = some (some (.agg #[.int .u8 0, .int .u8 0, .int .u32 0, .int .i64 0, .int .i64 0]), 5, 32) := by kernel_rfl
theorem zero60 : (Try.prog.info? 60).map (·.zero) = some (some (.agg #[.int .u8 0, .int .u8 0, .int .u32 0, .int .i64 0, .int .i64 0])) := by kernel_rfl
theorem enters21 : ∀ args w, (callFunc 21 args).run Try.prog w = .ok (.enter 21 args) w := enters_of Try.func21 (by kernel_rfl) rfl
theorem enters20 : ∀ args w, (callFunc 20 args).run Try.prog w = .ok (.enter 20 args) w := enters_of Try.func20 (by kernel_rfl) rfl
theorem says21 {w : World} {z : Nat} {t : Int} {F : Nat → Prop} (h : w.cell? ⟨z, 0, none⟩ = some (.int .u8 t)) (hF : ¬ F z) : Q60.Says 21 #[.pointer (some ⟨z, 0, none⟩)] (fun y => y.f0.f0 == t) F w := by
  intro W x m
  have hz := World.block_lt_of_cell? w _ h
  have c := (World.cell?_of_block (a := ⟨z, 0, none⟩) (m.block z hz hF)).trans h
  have hl := World.block_lt_of_cell? W _ c
  obtain ⟨⟨xn, xs, xi⟩, xt, xc⟩ := x
  unfold e60
  clear h hz m
  go_enter Try.func21, Try.ntmps21
  go_wp2
  go_ret
  exact ⟨rfl, (Below.refl _ _).alloc (Nat.le_refl _) _⟩
def addPost (F : Nat → Prop) (w0 : World) (A : List Asr) (i g : Nat) (p : Tk) (e : Ending) (w' : World) : Prop := e = .returned (.int .i64 0) ∧ ∃ S', St F w0 w' (A.set i (tO g S' p))
set_option maxRecDepth 100000 in
set_option maxHeartbeats 4000000 in
theorem add_st {F : Nat → Prop} {w0 w : World} {A : List Asr} (h : St F w0 w A) (i : Nat) {g : Nat} {S : Nat → Prop} {p : Tk} (hi : A[i]? = some (tO g S p)) (x : S33) (hx : x.f0 < 64) (hc0 : 0 ≤ p.came) (hc1 : p.came ≤ 1000000) (hl : p.pieces.length ≤ 1000000) :
    Calls Try.prog 12 #[.pointer (some ⟨g, 0, none⟩), .agg (e33 x).toArray] w (addPost F w0 A i g (addF p x)) := by
  obtain ⟨v, S1⟩ := Asr.ex_open (h.get i hi)
  obtain ⟨Av, cv, rfl⟩ := Kd.R_slice (S1.get 1 rfl).1
  have HO := Lib.hid (And.intro h hi)
  obtain ⟨xn, xs, xi⟩ := x
  have hx' : xn < 64 := hx
  have g0 : w.cell? ⟨g, 0, none⟩ = some (.slice Av p.pieces.length cv) := S1.cell 0 rfl 0
  have hgl := S1.blt 0 rfl
  have H1 := Lib.hid S1
  clear h hi S1 hx
  unfold e33
  go_enter Try.func12, Try.ntmps12
  go_upto_region 3 with fail
  have S2 := H1.out.new' #[.int .u8 xn, .int .u8 xs, .int .u32 xi] 33 w.heap.size rfl
  obtain ⟨z, hz⟩ : ∃ z, w.heap.size = z := ⟨_, rfl⟩
  rw [hz] at S2 hgl ⊢
  have HZ := Lib.hid hz
  clear hz g0
  generalize w.alloc _ = w1 at *
  have g0 : w1.cell? ⟨g, 0, none⟩ = some (.slice Av p.pieces.length cv) := S2.cell 0 rfl 0
  have z0 : w1.cell? ⟨z, 0, none⟩ = some (.int .u8 xn) := S2.cell 2 rfl 0
  have hap := S2.ne 1 2 rfl rfl (by decide)
  have HD := Lib.hid (Q60.delete_s fl60 _ zero60 rfl (by decide) 21 #[.pointer (some ⟨z, 0, none⟩)] (fun y => y.f0.f0 == xn) p.pieces (.slice Av p.pieces.length cv) w1 (says21 z0 (fun e => hap z e rfl)) enters21 (S2.get 1 rfl))
  have H2 := Lib.hid S2
  clear S2 hap z0
  go_wp2_with fail
  refine HD.out.mono ?_
  rintro e w2 ⟨v2, rfl, hv2, ho2, m2⟩
  obtain ⟨A2, c2, rfl⟩ := Kd.R_slice hv2.1
  have hfl := List.length_filter_le (fun y : S60 => !(y.f0.f0 == xn)) p.pieces
  generalize hfs : (p.pieces.filter fun y => !(y.f0.f0 == xn)) = fs at *
  have HFS := Lib.hid hfs
  have S3 := H2.out.upd 1 rfl m2 (a' := slc k60 60 (.slice A2 fs.length c2) fs) hv2 (fun k hk => .inl (ho2.symm.trans hk))
  have g0' : w2.cell? ⟨g, 0, none⟩ = some (.slice Av p.pieces.length cv) := S3.cell 0 rfl 0
  have f0' := S3.frozen 0 rfl 0
  have S4 := S3.set 0 rfl 0 (.slice A2 fs.length c2)
  have g3 : (w2.setCell ⟨g, 0, none⟩ (.slice A2 fs.length c2)).cell? ⟨g, 3, none⟩ = some (.int .i64 p.came) := S4.cell 0 rfl 3
  have f3 : w2.frozen? ⟨g, 3, none⟩ = false := S3.frozen 0 rfl 3
  have H4 := Lib.hid S4
  clear S3 S4 hv2 ho2 m2 HD H2 hfs g0
  have wc : wrap64 (p.came + 1) = p.came + 1 := by unfold wrap64; omega
  have hc2 := Lib.hid (And.intro hc0 hc1)
  have hl2 := Lib.hid (And.intro hl hfl)
  clear hc0 hc1 hl hfl
  go_upto_region 5 with fail
  have S5 := H4.out.set 0 rfl 3 (.int .i64 (p.came + 1))
  clear H4 g0' f0' g3 f3
  generalize (World.setCell _ _ _).setCell _ _ = w4 at *
  have g0 : w4.cell? ⟨g, 0, none⟩ = some (.slice A2 fs.length c2) := S5.cell 0 rfl 0
  have f0 : w4.frozen? ⟨g, 0, none⟩ = false := S5.frozen 0 rfl 0
  have g3 : w4.cell? ⟨g, 3, none⟩ = some (.int .i64 (p.came + 1)) := S5.cell 0 rfl 3
  have z0 : w4.cell? ⟨z, 0, none⟩ = some (.int .u8 xn) := S5.cell 2 rfl 0
  have z1 : w4.cell? ⟨z, 1, none⟩ = some (.int .u8 xs) := S5.cell 2 rfl 1
  have z2 : w4.cell? ⟨z, 2, none⟩ = some (.int .u32 xi) := S5.cell 2 rfl 2
  have hR := (S5.get 1 rfl).1
  have HW := Lib.hid (S5.get 1 rfl).2
  have H5 := Lib.hid S5
  clear S5
  have ga : ∀ cs t, (w4.alloc (.cells cs t)).cell? ⟨g, 0, none⟩ = some (.slice A2 fs.length c2) := fun cs t => (H5.out.new cs t).cell 0 rfl 0
  have hwl : (fs.length + 1) * 32 ≤ 140737488355328 := by have := hl2.out; omega
  go_region_law
    ((refine step_app1 (W := w4) k60 (by rfl) _ _ 51 60 (.agg #[.int .u8 0, .int .u8 0, .int .u32 0, .int .i64 0, .int .i64 0]) 32 rfl Try.underlying51 info60 rfl (by decide) (by decide) (.slice A2 fs.length c2) fs ⟨⟨xn, ⟨xs, xi⟩⟩, 0, p.came + 1⟩ [.int .u8 xn, .int .u8 xs, .int .u32 xi, .int .i64 0, .int .i64 (p.came + 1)] _ rfl rfl (k60_mkM _ _ _ ⟨⟨xn, ⟨xs, xi⟩⟩, 0, p.came + 1⟩) hR hwl ?_; intro A15 c15 w15 R15 m15 ho15; have S6 := H5.out.app 1 rfl rfl R15 m15 ho15; have e15 : w15.cell? ⟨g, 0, none⟩ = some (.slice A2 fs.length c2) := S6.cell 0 rfl 0; have f15 : w15.frozen? ⟨g, 0, none⟩ = false := S6.frozen 0 rfl 0; have H6 := Lib.hid S6; clear S6 R15 m15 ho15))
  all_goals
    go_wp2_with fail
    go_ret
    refine ⟨rfl, ?_⟩
    have S7 := H6.out.set 0 rfl 0 (.slice A15 (fs ++ [(⟨⟨xn, ⟨xs, xi⟩⟩, 0, p.came + 1⟩ : S60)]).length c15)
    rw [List.length_append] at S7
    have e := HFS.out
    subst e
    obtain ⟨h, hi⟩ := HO.out
    exact ⟨_, h.exUpd i hi (L1 := tP g (addF p ⟨xn, ⟨xs, xi⟩⟩)) (.slice A15 _ c15) (S7.drop 2)⟩
end Go.Proofs.Ytkfofcgonkkdaaa
