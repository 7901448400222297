/- Several texts put together. -/
import Derived.Test.YtecgnfklfgjgaaaPU
import Derived.Laws.ResultCell
import Derived.Laws.Rows
import Derived.Test.YtecgnfklfgjgaaaLib
import Derived.Test.YtecgnfklfgjgaaaShelfR
set_option linter.unusedVariables false
set_option linter.unusedSimpArgs false
/- The store's readers; Get; Put among other things. -/
set_option linter.unusedVariables false
set_option linter.unusedSimpArgs false
namespace Go.Proofs.Ytecgnfklfgjgaaa
open Go.RowKit Go.Tat Go.Tab Go.Proofs.YtecgnfklfgjgaaaW.PrintWords PStorePeeks
theorem results_cell_row_tmp {P : Program} {fn : Func} {p u : Tmp} {ty : TypeId} (h : fn.results = #[.cell p ty, .tmp u]) (tmps : Array Value) (w : World) (g : Nat) (t : TypeId) (cs : Array Value) (fr : Nat × Nat) (d : TypeDesc)
    (hp : tmps.getD p undef = .pointer (some ⟨g, 0, none⟩)) (hg : w.heap[g]? = some (.cells cs t fr))
    (hu : P.underlying ty = some d) (hd : (match d with | .struct _ | .array _ _ => true | _ => false) = true) (hi : (P.info? ty).map (·.size) = some cs.size) :
    (results fn tmps).run P w = .ok (.tuple #[.agg cs, tmps.getD u undef]) w := by
  rw [results_cell_tmp h, hp]
  simp [asAddr, Result.andThen, run_loadVar_row w g t ty cs fr d hg hu hd hi]
section
variable {F : Nat → Prop} {w0 w : World} {A : List Asr} {i g : Nat} {S : Nat → Prop} {c : SC} {s : SM}
theorem so_open2 (h : (sO g S c s).holds w) : ∃ x, St S w w (sL g c s x ++ []) ∧ x.d.b = true := by
  obtain ⟨x, S1⟩ := Asr.ex_open h
  have hb : x.d.b = true := S1.get 7 rfl
  exact ⟨x, S1.sub (List.Sublist.append_left (List.nil_sublist _) _), hb⟩
theorem so_open (h : (sO g S c s).holds w) : ∃ x, St S w w (sL g c s x ++ []) := by
  obtain ⟨x, h1, _⟩ := so_open2 h
  exact ⟨x, h1⟩
theorem so_upd {w' : World} {s' : SM} {x : SD} (h : St F w0 w A) (hi : A[i]? = some (sO g S c s)) (h' : St S w w' (sL g c s' x ++ [])) (hb : x.d.b = true) : ∃ S', St F w0 w' (A.set i (sO g S' c s')) := by
  rw [List.append_nil] at h'
  exact ⟨_, h.exUpd i hi (L1 := fun x => sL g c s' x ++ [pureA (x.d.b = true)]) x (h'.addPure hb)⟩
theorem so_si (h : (sO g S c s).holds w) : ∃ d, SI c s d := by
  obtain ⟨x, S1⟩ := so_open h
  exact ⟨_, sL_si S1⟩
theorem put_o (h : St F w0 w A) (hi : A[i]? = some (sO g S c s)) (r : Rc) (now : Int) (hk : r.f0.size < 4611686018427387904) (hph : 0 ≤ r.f1.f0) (hev : s.ev + s.L.length < 1000000) :
    Calls Try.prog 11 #[.pointer (some ⟨g, 0, none⟩), .agg (eRc r).toArray, .int .u64 now] w fun e w' => e = .returned (.tuple #[.bool (putF c s r now).1, .int .i64 (putF c s r now).2.1]) ∧ ∃ S', St F w0 w' (A.set i (sO g S' c (putF c s r now).2.2)) := by
  obtain ⟨x, S1, hb⟩ := so_open2 (h.get i hi)
  exact (put_st S1 r now hk hph hev hb).mono fun e w' hh => ⟨hh.1, by obtain ⟨x', h', hb'⟩ := hh.2; exact so_upd h hi h' hb'⟩
set_option maxRecDepth 100000 in
theorem slen_c (h : (sO g S c s).holds w) : Calls Try.prog 17 #[.pointer (some ⟨g, 0, none⟩)] w fun e w' => e = .returned (.int .i64 (s.L.length : Nat)) ∧ w' = w := by
  obtain ⟨x, S1⟩ := so_open h
  have g2 := (g_facts S1 w (Below.refl _ _)).2.1
  have HL : Hid (Calls Try.prog 34 #[.pointer (some ⟨x.tg, 0, none⟩)] w fun e w'' => e = .returned (.int .i64 (s.L.length : Nat)) ∧ w'' = w) := Lib.hid (by
    have := tlen_c (g := x.tg) (most := c.most) (S := x.Ft) (T := x.d.T) (S1.get 3 rfl)
    rw [(sL_si S1).tlen] at this
    exact this)
  clear h S1
  go_enter Try.func17, Try.ntmps17
  go_wp2_with (go_at_call 34; refine HL.out.mono ?_; rintro e w1 ⟨rfl, rfl⟩)
  go_ret
  exact ⟨rfl, rfl⟩
set_option maxRecDepth 100000 in
theorem ssize_c (h : (sO g S c s).holds w) : Calls Try.prog 18 #[.pointer (some ⟨g, 0, none⟩)] w fun e w' => e = .returned (.int .i64 (szL s.L : Nat)) ∧ w' = w := by
  obtain ⟨x, S1⟩ := so_open h
  have g2 := (g_facts S1 w (Below.refl _ _)).2.2.2.2.2
  clear h S1
  go_enter Try.func18, Try.ntmps18
  go_wp2_with fail
  go_ret
  exact ⟨rfl, rfl⟩
set_option maxRecDepth 100000 in
theorem sev_c (h : (sO g S c s).holds w) : Calls Try.prog 23 #[.pointer (some ⟨g, 0, none⟩)] w fun e w' => e = .returned (.int .i64 (s.ev : Nat)) ∧ w' = w := by
  obtain ⟨x, S1⟩ := so_open h
  have g2 : w.cell? ⟨g, 265, none⟩ = some (.int .i64 (s.ev : Nat)) := (sL_cell S1 265).trans (sc_end (sL_si S1).Fl (sL_si S1).Dl 4)
  clear h S1
  go_enter Try.func23, Try.ntmps23
  go_wp2_with fail
  go_ret
  exact ⟨rfl, rfl⟩
def digV (s : SM) (k : Int) : Int := if 0 ≤ k ∧ k < 64 then (dgL s.L k.toNat : Nat) else 0
set_option maxRecDepth 100000 in
theorem sdig_c (h : (sO g S c s).holds w) (k : Int) : Calls Try.prog 20 #[.pointer (some ⟨g, 0, none⟩), .int .i64 k] w fun e w' => e = .returned (.int .u64 (digV s k)) ∧ w' = w := by
  obtain ⟨x, S1⟩ := so_open h
  unfold digV
  by_cases h0 : k < 0
  · rw [if_neg (by omega)]
    clear h S1
    go_enter Try.func20, Try.ntmps20
    go_wp2_with fail
    go_ret
    exact ⟨rfl, rfl⟩
  · by_cases h1 : 64 ≤ k
    · rw [if_neg (by omega)]
      clear h S1
      go_enter Try.func20, Try.ntmps20
      go_wp2_with fail
      go_ret
      exact ⟨rfl, rfl⟩
    · rw [if_pos (by omega)]
      obtain ⟨j, rfl⟩ := Int.eq_ofNat_of_zero_le (by omega : 0 ≤ k)
      rw [Int.toNat_natCast]
      have hj : j < 64 := by omega
      have g2 : w.cell? ⟨g, 197 + j, none⟩ = some (.int .u64 (dgL s.L j : Nat)) := (sL_cell S1 _).trans (sc_dig (sL_si S1).Fl ((sL_si S1).D j hj))
      have hj1 : (j : Int) < 64 := by omega
      have hj0 : ¬ ((j : Int) ≥ 64) := by omega
      clear h S1 h0 h1 hj
      go_enter Try.func20, Try.ntmps20
      go_wp2_with fail
      go_ret
      exact ⟨rfl, rfl⟩
def floorV (s : SM) (k : Int) : Stp := if 0 ≤ k ∧ k < 64 then flAt s.F k.toNat else zSt
set_option maxRecDepth 100000 in
theorem sfloor_c (h : (sO g S c s).holds w) (k : Int) : Calls Try.prog 22 #[.pointer (some ⟨g, 0, none⟩), .int .i64 k] w fun e w' => e = .returned (.agg (eStp (floorV s k)).toArray) ∧ Below w.heap.size w w' := by
  obtain ⟨x, S1⟩ := so_open h
  unfold floorV
  by_cases h0 : k < 0
  · rw [if_neg (by omega)]
    clear h S1
    go_enter Try.func22, Try.ntmps22
    go_wp2_with fail
    refine bodyPost_ret (results_cell_row rfl _ _ w.heap.size 35 _ (0, 0) _ rfl (heap_alloc_new w _) Try.underlying35 rfl stamp_size) rfl ?_
    exact ⟨rfl, (Below.refl _ _).alloc (Nat.le_refl _) _⟩
  · by_cases h1 : 64 ≤ k
    · rw [if_neg (by omega)]
      clear h S1
      go_enter Try.func22, Try.ntmps22
      go_wp2_with fail
      refine bodyPost_ret (results_cell_row rfl _ _ w.heap.size 35 _ (0, 0) _ rfl (heap_alloc_new w _) Try.underlying35 rfl stamp_size) rfl ?_
      exact ⟨rfl, (Below.refl _ _).alloc (Nat.le_refl _) _⟩
    · rw [if_pos (by omega)]
      obtain ⟨j, rfl⟩ := Int.eq_ofNat_of_zero_le (by omega : 0 ≤ k)
      rw [Int.toNat_natCast]
      have hj : j < 64 := by omega
      have hF : ∀ o, (w.alloc o).cell? ⟨g, 5 + j * 3, none⟩ = _ ∧ (w.alloc o).cell? ⟨g, 5 + j * 3 + 1, none⟩ = _ ∧ (w.alloc o).cell? ⟨g, 5 + j * 3 + 2, none⟩ = _ := fun o => fl_facts S1 hj (w.alloc o) ((Below.refl _ _).alloc (Nat.le_refl _) o)
      obtain ⟨q0, q1, q2⟩ := fl_facts S1 hj w (Below.refl _ _)
      have hgl := S1.blt 0 rfl
      have hj1 : (j : Int) < 64 := by omega
      clear h S1 h0 h1 hj
      go_enter Try.func22, Try.ntmps22
      go_wp2_with fail
      refine bodyPost_ret (results_cell_row rfl _ _ w.heap.size 35 _ (0, 0) _ rfl (heap_alloc_new w _) Try.underlying35 rfl stamp_size) rfl ?_
      exact ⟨rfl, (Below.refl _ _).alloc (Nat.le_refl _) _⟩
end
end Go.Proofs.Ytecgnfklfgjgaaa
/- The store's Peek and Get. -/
set_option linter.unusedVariables false
set_option linter.unusedSimpArgs false
namespace Go.Proofs.Ytecgnfklfgjgaaa
open Go.RowKit Go.Tat Go.Tab Go.Proofs.YtecgnfklfgjgaaaW.PrintWords PStorePeeks
section
variable {F : Nat → Prop} {w0 w : World} {A : List Asr} {i g : Nat} {S : Nat → Prop} {c : SC} {s : SM}
theorem rc_one (q : Rc) : ∀ v ∈ (eRc q).toArray.toList, v.oneCell' = true := by
  intro v hv
  simp only [eRc, List.mem_cons, List.not_mem_nil, or_false] at hv
  rcases hv with rfl | rfl | rfl | rfl | rfl | rfl | rfl | rfl <;> rfl
def peekPost (s : SM) (k : ByteArray) (w : World) (e : Ending) (w' : World) : Prop := e = .returned (.tuple #[.agg (eRc ((hasK s.L k).getD zRc)).toArray, .bool (hasK s.L k).isSome]) ∧ Below w.heap.size w w'
set_option maxRecDepth 100000 in
set_option maxHeartbeats 8000000 in
theorem peek_c (h : (sO g S c s).holds w) (k : ByteArray) (hk : k.size < 4611686018427387904) : Calls Try.prog 14 #[.pointer (some ⟨g, 0, none⟩), .string k] w (peekPost s k w) := by
  obtain ⟨x, S1, hbt⟩ := so_open2 h
  have HBT := Lib.hid hbt
  have HI := Lib.hid (sL_si S1)
  have H1 := Lib.hid S1
  have H0 := Lib.hid ((St.nil (fun _ => False) w).new' #[.string ⟨#[]⟩, .int .u64 0, .int .u32 0, .int .u8 0, .int .u8 0, .int .u32 0, .int .u64 0, .string ⟨#[]⟩] 37 w.heap.size rfl)
  have HB1 := Lib.hid ((Below.refl w.heap.size w).alloc (Nat.le_refl _) (.cells #[.string ⟨#[]⟩, .int .u64 0, .int .u32 0, .int .u8 0, .int .u8 0, .int .u32 0, .int .u64 0, .string ⟨#[]⟩] 37))
  have HZ1 := Lib.hid (S1.new' #[.string ⟨#[]⟩, .int .u64 0, .int .u32 0, .int .u8 0, .int .u8 0, .int .u32 0, .int .u64 0, .string ⟨#[]⟩] 37 w.heap.size rfl)
  clear h S1 hbt
  go_enter Try.func14, Try.ntmps14
  go_upto_region 1 with fail
  generalize World.alloc w _ = w1 at *
  obtain ⟨z, hz⟩ : ∃ z, w.heap.size = z := ⟨_, rfl⟩
  have HZ := Lib.hid hz
  rw [hz] at H0 HZ1 ⊢
  clear hz
  have g2 := (g_facts H1.out w1 HB1.out).2.1
  have HG : Hid (Calls Try.prog 28 #[.pointer (some ⟨x.tg, 0, none⟩), .string k] w1 fun e w' => e = .returned (getV (mg x.d.T k)) ∧ ∃ m, w' = w1.drewN m) := Lib.hid (tget_c (g := x.tg) (most := c.most) (S := x.Ft) (T := x.d.T) ((H1.out.below HB1.out).get 3 rfl) k hk)
  clear hk
  cases hh : hasK s.L k with
  | none =>
    have hm := HI.out.look_none.2 hh
    rw [hm] at HG
    unfold getV at HG
    have HH := Lib.hid hh
    clear hm hh
    go_wp2_with (first | (go_at_call 28; refine HG.out.mono ?_; rintro e w2 ⟨rfl, n2, rfl⟩) | (refine St.wpStoreA rfl 37 _ _ rfl (H0.out.drewN n2) 0 rfl (eRc zRc).toArray rfl (rc_one zRc) rfl rfl rec_size ?_; intro w3 H3))
    refine bodyPost_ret (results_cell_row_tmp rfl _ _ z 37 _ (0, 0) _ rfl (H3.out.get 0 rfl) Try.underlying37 rfl rec_size) rfl ?_
    unfold peekPost
    rw [HH.out]
    exact ⟨rfl, H3.out.base⟩
  | some q =>
    obtain ⟨p, hp, hmg, hrp⟩ := HI.out.look_some hh
    rw [hmg] at HG
    unfold getV at HG
    obtain ⟨rb, rc, hvR⟩ := sL_R H1.out
    have hpm : p < c.most := HI.out.olt hp
    have hRp : x.d.R[p]? = some q := by rw [← hrp]; exact rAt_get (by rw [HI.out.rl]; exact hpm)
    have HH := Lib.hid (And.intro hh (And.intro hp (And.intro hpm hrp)))
    have HVR := Lib.hid (And.intro hvR hRp)
    have hpi : (p : Int) < (c.most : Int) := by omega
    have hmi : (c.most : Int) ≤ 1024 := by have := HI.out.m2; omega
    clear hh hp hmg hrp hpm hRp hvR
    go_upto_region 6 with (go_at_call 28; refine HG.out.mono ?_; rintro e w2 ⟨rfl, n2, rfl⟩)
    have g0 := ((g_facts H1.out w1 HB1.out).1).trans (congrArg some HVR.out.1)
    obtain ⟨p0, p1, p2, p3, p4, p5, p6, p7⟩ := rec_facts H1.out HVR.out.1 HVR.out.2 w1 HB1.out
    go_wp2_with (refine St.wpStoreA rfl 37 _ _ rfl (H0.out.drewN n2) 0 rfl (eRc q).toArray rfl (rc_one q) rfl rfl rec_size ?_; intro w3 H3)
    refine bodyPost_ret (results_cell_row_tmp rfl _ _ z 37 _ (0, 0) _ rfl (H3.out.get 0 rfl) Try.underlying37 rfl rec_size) rfl ?_
    unfold peekPost
    rw [HH.out.1]
    exact ⟨rfl, H3.out.base⟩
/-- What Get does. -/
def getM (s : SM) (k : ByteArray) : SM := match hasK s.L k with
  | none => s
  | some r => ⟨r :: wo s.L k, s.F, s.ev⟩
def getPost (F : Nat → Prop) (w0 : World) (A : List Asr) (i g : Nat) (c : SC) (s : SM) (k : ByteArray) (e : Ending) (w' : World) : Prop := e = .returned (.tuple #[.agg (eRc ((hasK s.L k).getD zRc)).toArray, .bool (hasK s.L k).isSome]) ∧ ∃ S', St F w0 w' (A.set i (sO g S' c (getM s k)))
set_option maxRecDepth 100000 in
set_option maxHeartbeats 8000000 in
theorem get_o (h0 : St F w0 w A) (hi : A[i]? = some (sO g S c s)) (k : ByteArray) (hk : k.size < 4611686018427387904) : Calls Try.prog 12 #[.pointer (some ⟨g, 0, none⟩), .string k] w (getPost F w0 A i g c s k) := by
  have HO := Lib.hid (And.intro h0 hi)
  have h := h0.get i hi
  clear h0 hi
  obtain ⟨x, S1, hbt⟩ := so_open2 h
  have HBT := Lib.hid hbt
  have HI := Lib.hid (sL_si S1)
  have H1 := Lib.hid S1
  have H0 := Lib.hid ((St.nil (fun _ => False) w).new' #[.string ⟨#[]⟩, .int .u64 0, .int .u32 0, .int .u8 0, .int .u8 0, .int .u32 0, .int .u64 0, .string ⟨#[]⟩] 37 w.heap.size rfl)
  have HB1 := Lib.hid ((Below.refl w.heap.size w).alloc (Nat.le_refl _) (.cells #[.string ⟨#[]⟩, .int .u64 0, .int .u32 0, .int .u8 0, .int .u8 0, .int .u32 0, .int .u64 0, .string ⟨#[]⟩] 37))
  have HZ1 := Lib.hid (S1.new' #[.string ⟨#[]⟩, .int .u64 0, .int .u32 0, .int .u8 0, .int .u8 0, .int .u32 0, .int .u64 0, .string ⟨#[]⟩] 37 w.heap.size rfl)
  clear h S1 hbt
  go_enter Try.func12, Try.ntmps12
  go_upto_region 1 with fail
  generalize World.alloc w _ = w1 at *
  obtain ⟨z, hz⟩ : ∃ z, w.heap.size = z := ⟨_, rfl⟩
  have HZ := Lib.hid hz
  rw [hz] at H0 HZ1 ⊢
  clear hz
  have g2 := (g_facts H1.out w1 HB1.out).2.1
  have HG : Hid (Calls Try.prog 28 #[.pointer (some ⟨x.tg, 0, none⟩), .string k] w1 fun e w' => e = .returned (getV (mg x.d.T k)) ∧ ∃ m, w' = w1.drewN m) := Lib.hid (tget_c (g := x.tg) (most := c.most) (S := x.Ft) (T := x.d.T) ((H1.out.below HB1.out).get 3 rfl) k hk)
  clear hk
  cases hh : hasK s.L k with
  | none =>
    have hm := HI.out.look_none.2 hh
    rw [hm] at HG
    unfold getV at HG
    have HH := Lib.hid hh
    clear hm hh
    go_wp2_with (first | (go_at_call 28; refine HG.out.mono ?_; rintro e w2 ⟨rfl, n2, rfl⟩) | (refine St.wpStoreA rfl 37 _ _ rfl (H0.out.drewN n2) 0 rfl (eRc zRc).toArray rfl (rc_one zRc) rfl rfl rec_size ?_; intro w3 H3))
    refine bodyPost_ret (results_cell_row_tmp rfl _ _ z 37 _ (0, 0) _ rfl (H3.out.get 0 rfl) Try.underlying37 rfl rec_size) rfl ?_
    unfold getPost getM
    rw [HH.out]
    have e2 : St S w w3 (sL g c s x ++ []) := H1.out.below (by rw [← HZ.out] at H3; exact H3.out.base)
    exact ⟨rfl, so_upd HO.out.1 HO.out.2 e2 HBT.out⟩
  | some q =>
    obtain ⟨p, hp, hmg, hrp⟩ := HI.out.look_some hh
    rw [hmg] at HG
    unfold getV at HG
    obtain ⟨rb, rc, hvR⟩ := sL_R H1.out
    have hpm : p < c.most := HI.out.olt hp
    have hRp : x.d.R[p]? = some q := by rw [← hrp]; exact rAt_get (by rw [HI.out.rl]; exact hpm)
    have HH := Lib.hid (And.intro hh (And.intro hp (And.intro hpm hrp)))
    have HVR := Lib.hid (And.intro hvR hRp)
    have hpi : (p : Int) < (c.most : Int) := by omega
    have hmi : (c.most : Int) ≤ 1024 := by have := HI.out.m2; omega
    clear hh hp hmg hrp hpm hRp hvR
    go_upto_region 6 with (go_at_call 28; refine HG.out.mono ?_; rintro e w2 ⟨rfl, n2, rfl⟩)
    have S2 : St S w (w1.drewN n2) (sL g c s x ++ [blk z #[.string ⟨#[]⟩, .int .u64 0, .int .u32 0, .int .u8 0, .int .u8 0, .int .u32 0, .int .u64 0, .string ⟨#[]⟩] 37]) := (HZ1.out.sub (List.Sublist.refl _)).drewN n2
    generalize w1.drewN n2 = w2 at *
    have g3 : w2.cell? ⟨g, 3, none⟩ = some (.pointer (some ⟨x.ug, 0, none⟩)) := sL_cell S2 3
    have H2 := Lib.hid S2
    clear S2 H0 HZ1 g2 HG
    go_upto_region 7 with (go_at_call 37; refine (luse_st H2.out 4 rfl p HH.out.2.2.1).mono ?_; rintro e w3 ⟨rfl, h3⟩)
    have S3 : St S w w3 (sQ g (sCells x.vR x.vF x.tg x.ug x.wg c s.F x.d.D (szL s.L) s.ev).toArray x.vR x.vF x.d.R x.d.fr (tO x.tg c.most x.Ft x.d.T) (lA x.ug x.bg c.most (p :: dropO x.d.o (p : Int))) (wO x.wg x.Fw x.d.m) (SI c s x.d) ++ [blk z #[.string ⟨#[]⟩, .int .u64 0, .int .u32 0, .int .u8 0, .int .u8 0, .int .u32 0, .int .u64 0, .string ⟨#[]⟩] 37]) := h3
    have g0 : w3.cell? ⟨g, 0, none⟩ = some (.slice (some ⟨rb, 0, none⟩) c.most rc) := (blk_cell (S3.get 0 rfl) 0).trans (congrArg some HVR.out.1)
    have h1 : (sQ g (sCells x.vR x.vF x.tg x.ug x.wg c s.F x.d.D (szL s.L) s.ev).toArray x.vR x.vF x.d.R x.d.fr (tO x.tg c.most x.Ft x.d.T) (lA x.ug x.bg c.most (p :: dropO x.d.o (p : Int))) (wO x.wg x.Fw x.d.m) (SI c s x.d) ++ [blk z #[.string ⟨#[]⟩, .int .u64 0, .int .u32 0, .int .u8 0, .int .u8 0, .int .u32 0, .int .u64 0, .string ⟨#[]⟩] 37])[1]? = some (slc k37 37 (.slice (some ⟨rb, 0, none⟩) c.most rc) x.d.R) := by rw [← HVR.out.1]; rfl
    have e : ∀ j, j < 8 → w3.cell? ⟨rb, p * 8 + j, none⟩ = (eRc q)[j]? := fun j hj => (S3.elem flRc 1 h1 (i := p) (c := j) HVR.out.2 hj).1
    have p0 : w3.cell? ⟨rb, p * 8, none⟩ = some (.string q.f0) := e 0 (by decide)
    have p1 : w3.cell? ⟨rb, p * 8 + 1, none⟩ = some (.int .u64 q.f1.f0) := e 1 (by decide)
    have p2 : w3.cell? ⟨rb, p * 8 + 2, none⟩ = some (.int .u32 q.f1.f1) := e 2 (by decide)
    have p3 : w3.cell? ⟨rb, p * 8 + 3, none⟩ = some (.int .u8 q.f1.f2) := e 3 (by decide)
    have p4 : w3.cell? ⟨rb, p * 8 + 4, none⟩ = some (.int .u8 q.f2) := e 4 (by decide)
    have p5 : w3.cell? ⟨rb, p * 8 + 5, none⟩ = some (.int .u32 q.f3) := e 5 (by decide)
    have p6 : w3.cell? ⟨rb, p * 8 + 6, none⟩ = some (.int .u64 q.f4) := e 6 (by decide)
    have p7 : w3.cell? ⟨rb, p * 8 + 7, none⟩ = some (.string q.f5) := e 7 (by decide)
    have H3 := Lib.hid S3
    clear e h1 h3 S3 g3 H2
    go_wp2_with (refine St.wpStoreA rfl 37 _ _ rfl H3.out 7 rfl (eRc q).toArray rfl (rc_one q) rfl rfl rec_size ?_; intro w4 H4)
    refine bodyPost_ret (results_cell_row_tmp rfl _ _ z 37 _ (0, 0) _ rfl (H4.out.get 7 rfl) Try.underlying37 rfl rec_size) rfl ?_
    unfold getPost getM
    rw [HH.out.1]
    have hU := HI.out.use HH.out.2.1
    rw [HH.out.2.2.2, (hasK_mem HH.out.1).2] at hU
    have hsz : szL s.L = szL (q :: wo s.L k) := by
      have h5 := wo_perm HI.out.keys (hasK_mem HH.out.1).1
      rw [(hasK_mem HH.out.1).2] at h5
      exact szL_perm h5
    have S5 := H4.out.pure 6 rfl (p' := SI c ⟨q :: wo s.L k, s.F, s.ev⟩ ⟨x.d.R, x.d.fr, x.d.T, p :: dropO x.d.o (p : Int), x.d.m, x.d.D, x.d.b⟩) hU
    rw [hsz] at S5
    have S6 : St S w w4 (sL g c ⟨q :: wo s.L k, s.F, s.ev⟩ ⟨x.vR, x.vF, x.tg, x.ug, x.bg, x.wg, x.Ft, x.Fw, ⟨x.d.R, x.d.fr, x.d.T, p :: dropO x.d.o (p : Int), x.d.m, x.d.D, x.d.b⟩⟩ ++ [blk z (eRc q).toArray 37]) := S5
    have S7 : St S w w4 (sL g c ⟨q :: wo s.L k, s.F, s.ev⟩ ⟨x.vR, x.vF, x.tg, x.ug, x.bg, x.wg, x.Ft, x.Fw, ⟨x.d.R, x.d.fr, x.d.T, p :: dropO x.d.o (p : Int), x.d.m, x.d.D, x.d.b⟩⟩ ++ []) := S6.sub (List.Sublist.append_left (List.nil_sublist _) _)
    exact ⟨rfl, so_upd HO.out.1 HO.out.2 S7 HBT.out⟩
end
end Go.Proofs.Ytecgnfklfgjgaaa
/- The store's Purge. -/
set_option linter.unusedVariables false
set_option linter.unusedSimpArgs false
namespace Go.Proofs.Ytecgnfklfgjgaaa
open Go.RowKit Go.Tat Go.Tab Go.Proofs.YtecgnfklfgjgaaaW.PrintWords PStorePeeks
theorem filter_both {α : Type} (f : α → Bool) : ∀ l : List α, l.length = (l.filter f).length + (l.filter fun x => !f x).length
  | [] => rfl
  | x :: l => by
    have := filter_both f l
    by_cases h : f x = true
    · rw [List.filter_cons_of_pos h, List.filter_cons_of_neg (by rw [h]; simp)]; simp; omega
    · rw [List.filter_cons_of_neg h, List.filter_cons_of_pos (by simpa using h)]; simp; omega
/-- A record that isn't old. -/
def fresh (c : SC) (now : Int) (r : Rc) : Bool := decide (now < r.f1.f0 + (c.keep : Int))
def purM (c : SC) (s : SM) (now : Int) : SM := ⟨s.L.filter (fresh c now), s.F, s.ev⟩
theorem due_tm (c : SC) (R : List Rc) (now : Int) (p : Nat) : dueB now (tmOf c R p) = !fresh c now (rAt R p) := by
  unfold dueB fresh tmOf
  rw [Bool.eq_iff_iff]
  simp
theorem tm_id (c : SC) (R : List Rc) (p : Nat) : (tmOf c R p).f0 = (p : Int) := rfl
/-- The places whose records are due. -/
theorem due_places {c : SC} {s : SM} {d : PD} (h : SI c s d) (hb : d.b = true) {now : Int} {ys : List S114} (hy : ys.Perm (d.m.filter (dueB now))) :
    ∃ ps : List Nat, ys.map S114.f0 = ofFr ps ∧ ps.Nodup ∧ ∀ p, p ∈ ps ↔ p ∈ d.o ∧ fresh c now (rAt d.R p) = false := by
  have h1 : ys.Perm ((d.o.map (tmOf c d.R)).filter (dueB now)) := hy.trans ((h.m hb).filter _)
  rw [List.filter_map] at h1
  have h2 := h1.map S114.f0
  rw [List.map_map] at h2
  have e : (List.filter (dueB now ∘ tmOf c d.R) d.o).map (S114.f0 ∘ tmOf c d.R) = ofFr (List.filter (dueB now ∘ tmOf c d.R) d.o) := rfl
  rw [e] at h2
  refine ⟨(ys.map S114.f0).map Int.toNat, ?_, ?_, fun p => ?_⟩
  · unfold ofFr
    rw [List.map_map]
    symm
    have : ∀ x ∈ ys.map S114.f0, ((fun (x : Nat) => (x : Int)) ∘ Int.toNat) x = x := fun x hx => by
      have hx2 := h2.mem_iff.1 hx
      unfold ofFr at hx2
      obtain ⟨n, _, rfl⟩ := List.mem_map.1 hx2
      simp
    rw [List.map_congr_left this]
    simp
  · have h3 := h2.map Int.toNat
    refine h3.nodup_iff.2 ?_
    unfold ofFr
    rw [List.map_map]
    have e2 : (Int.toNat ∘ fun (x : Nat) => (x : Int)) = id := by funext x; simp
    rw [e2, List.map_id]
    exact h.ond.filter _
  · have h3 := (h2.map Int.toNat).mem_iff (a := p)
    rw [h3]
    unfold ofFr
    rw [List.map_map]
    have e2 : (Int.toNat ∘ fun (x : Nat) => (x : Int)) = id := by funext x; simp
    rw [e2, List.map_id, List.mem_filter]
    refine and_congr_right fun _ => ?_
    show dueB now (tmOf c d.R p) = true ↔ _
    rw [due_tm]
    simp
/-- While the due ones are taken out: behind q of them. -/
structure PI (c : SC) (s : SM) (d : PD) (ps : List Nat) (m1 : List S114) (q : Nat) (s2 : SM) (d2 : PD) : Prop where
  si : SI c s2 d2
  o : d2.o = d.o.filter fun p => !(ps.take q).contains p
  R : ∀ p ∈ d2.o, rAt d2.R p = rAt d.R p
  F : s2.F = s.F
  ev : s2.ev = s.ev
  m : d2.m = m1
theorem PI.place {c : SC} {s : SM} {d d2 : PD} {ps : List Nat} {m1 : List S114} {q : Nat} {s2 : SM} (h : PI c s d ps m1 q s2 d2) (hn : ps.Nodup) (hs : ∀ p ∈ ps, p ∈ d.o) {p : Nat} (hp : ps[q]? = some p) : p ∈ d2.o := by
  rw [h.o, List.mem_filter]
  refine ⟨hs p (List.mem_of_getElem? hp), ?_⟩
  simp only [Bool.not_eq_true', List.contains_eq_mem, decide_eq_false_iff_not]
  intro hm
  obtain ⟨j, hj⟩ := List.getElem?_of_mem hm
  rw [List.getElem?_take] at hj
  split at hj
  · rename_i hjq
    obtain ⟨hl1, e1⟩ := List.getElem?_eq_some_iff.1 hj
    obtain ⟨hl2, e2⟩ := List.getElem?_eq_some_iff.1 hp
    have := (List.getElem_inj hn).1 (e1.trans e2.symm)
    omega
  · cases hj
theorem PI.step {c : SC} {s : SM} {d d2 d3 : PD} {ps : List Nat} {m1 : List S114} {q : Nat} {s2 s3 : SM} (h : PI c s d ps m1 q s2 d2) {p : Nat} (hp : ps[q]? = some p) (hm1 : ∀ t ∈ m1, t.f0 ≠ (p : Int))
    (hI : SI c s3 d3) (hF : s3.F = s2.F) (hev : s3.ev = s2.ev) (hR : d3.R = d2.R.set p zRc) (ho : d3.o = dropO d2.o (p : Int)) (hm : d3.m = d2.m.filter (notId (p : Int))) : PI c s d ps m1 (q + 1) s3 d3 := by
  refine ⟨hI, ?_, fun x hx => ?_, hF.trans h.F, hev.trans h.ev, ?_⟩
  · rw [ho, h.o]
    unfold dropO
    rw [List.filter_filter]
    refine List.filter_congr fun x hx => ?_
    have e : (ps.take (q + 1)).contains x = ((ps.take q).contains x || x == p) := by
      rw [List.take_add_one, hp, List.contains_eq_any_beq, List.any_append, ← List.contains_eq_any_beq]
      simp [BEq.comm]
    rw [e, Bool.not_or, Bool.and_comm]
    congr 1
    rw [Bool.eq_iff_iff]
    simp [bne_iff_ne]
    omega
  · rw [ho] at hx
    obtain ⟨h1, h2⟩ := drop_mem.1 hx
    rw [hR, rAt_set _ _ _ _ h2]
    exact h.R x h1
  · rw [hm, h.m, List.filter_eq_self]
    exact fun t ht => (notId_iff _ _).2 (hm1 t ht)
/-- All of them taken out. -/
theorem PI.done {c : SC} {s : SM} {d d2 : PD} {ps : List Nat} {now : Int} {s2 : SM} {q : Nat} (h : PI c s d ps (d.m.filter fun t => !dueB now t) q s2 d2) (hI : SI c s d) (hb : d.b = true) (hn : ps.Nodup) (hq : q = ps.length) (hp : ∀ p, p ∈ ps ↔ p ∈ d.o ∧ fresh c now (rAt d.R p) = false) :
    s2 = purM c s now ∧ SI c s2 ⟨d2.R, d2.fr, d2.T, d2.o, d2.m, d2.D, true⟩ ∧ s.L.length - (purM c s now).L.length = ps.length := by
  have ho : d2.o = d.o.filter fun p => fresh c now (rAt d.R p) := by
    rw [h.o, hq, List.take_length]
    refine List.filter_congr fun p hpo => ?_
    rw [Bool.eq_iff_iff, Bool.not_eq_true', List.contains_eq_mem, decide_eq_false_iff_not, hp]
    cases fresh c now (rAt d.R p) <;> simp [hpo]
  have hL : s2.L = s.L.filter (fresh c now) := by
    rw [h.si.L, hI.L, List.filter_map]
    have e : List.filter (fresh c now ∘ rAt d.R) d.o = d2.o := by rw [ho]; rfl
    rw [e]
    exact List.map_congr_left fun p hp => h.R p hp
  have hs2 : s2 = purM c s now := by
    obtain ⟨L2, F2, e2⟩ := s2
    have hF := h.F
    have hev := h.ev
    dsimp only at hL hF hev
    subst hL; subst hF; subst hev
    rfl
  have hm : d2.m.Perm (d2.o.map (tmOf c d2.R)) := by
    have e : d2.o.map (tmOf c d2.R) = d2.o.map (tmOf c d.R) := List.map_congr_left fun p hp => by unfold tmOf; rw [h.R p hp]
    rw [h.m, e, ho]
    have h1 := (hI.m hb).filter fun t => !dueB now t
    rw [List.filter_map] at h1
    have e2 : List.filter ((fun t => !dueB now t) ∘ tmOf c d.R) d.o = d.o.filter fun p => fresh c now (rAt d.R p) := by
      refine List.filter_congr fun p _ => ?_
      show (!dueB now (tmOf c d.R p)) = _
      rw [due_tm, Bool.not_not]
    rw [e2] at h1
    exact h1
  refine ⟨hs2, ?_, ?_⟩
  · obtain ⟨a1, a2, a3, a4, a5, a6, a7, a8, a9, a10, a11, a12, a13, a14, a15, a16⟩ := h.si
    exact ⟨a1, a2, a3, a4, a5, a6, a7, a8, a9, fun _ => hm, a11, a12, a13, a14, a15, a16⟩
  · have h1 := h.si.lens
    have h2 := hI.llen
    have h3 : (purM c s now).L.length = d2.o.length := by rw [← hs2]; exact h.si.llen
    have h4 : d.o.length = d2.o.length + ps.length := by
      have h5 := filter_both (fun p => fresh c now (rAt d.R p)) d.o
      rw [ho, h5]
      congr 1
      have h6 : (d.o.filter fun p => !fresh c now (rAt d.R p)).Perm ps := by
        refine (List.perm_ext_iff_of_nodup (hI.ond.filter _) ?_).2 fun p => ?_
        · exact hn
        · rw [List.mem_filter, hp]; simp
      exact h6.length_eq
    rw [h3, h2, h4]
    omega
def purgePost (F : Nat → Prop) (w0 : World) (A : List Asr) (i g : Nat) (c : SC) (s : SM) (now : Int) (e : Ending) (w' : World) : Prop :=
  e = .returned (.int .i64 (s.L.length - (purM c s now).L.length : Nat)) ∧ ∃ S', St F w0 w' (A.set i (sO g S' c (purM c s now)))
set_option maxRecDepth 100000 in
set_option maxHeartbeats 8000000 in
theorem purge_o {F : Nat → Prop} {w0 w : World} {A : List Asr} {i g : Nat} {S : Nat → Prop} {c : SC} {s : SM} (h0 : St F w0 w A) (hi : A[i]? = some (sO g S c s)) (now : Int) : Calls Try.prog 13 #[.pointer (some ⟨g, 0, none⟩), .int .u64 now] w (purgePost F w0 A i g c s now) := by
  have HO := Lib.hid (And.intro h0 hi)
  obtain ⟨x, S1, hbt⟩ := so_open2 (h0.get i hi)
  have hI := sL_si S1
  have HI := Lib.hid hI
  have HBT := Lib.hid hbt
  have g4 : w.cell? ⟨g, 4, none⟩ = some (.pointer (some ⟨x.wg, 0, none⟩)) := sL_cell S1 4
  have HD := Lib.hid (wdue_st S1 5 (g := x.wg) (S := x.Fw) (m := x.d.m) rfl now (by rw [hI.mlen hbt, hI.llen]; have := hI.lens; have := hI.m2; omega))
  clear h0 hi S1 hI hbt
  go_enter Try.func13, Try.ntmps13
  go_upto_region 4 with (go_at_call 38; refine HD.out.mono ?_; rintro e w1 ⟨v, ys, S', rfl, hp, hso, h1⟩)
  obtain ⟨ps, hps, hn, hmem⟩ := due_places HI.out HBT.out hp
  rw [hps] at h1
  have hIx : SI c s ⟨x.d.R, x.d.fr, x.d.T, x.d.o, x.d.m.filter fun t => !dueB now t, x.d.D, false⟩ := by
    obtain ⟨a1, a2, a3, a4, a5, a6, a7, a8, a9, a10, a11, a12, a13, a14, a15, a16⟩ := HI.out
    exact ⟨a1, a2, a3, a4, a5, a6, a7, a8, a9, fun e => absurd e (by simp), a11, a12, a13, a14, a15, a16⟩
  have S2 := h1.pure 6 rfl hIx
  have S3 : St S w w1 (sL g c s ⟨x.vR, x.vF, x.tg, x.ug, x.bg, x.wg, x.Ft, S', ⟨x.d.R, x.d.fr, x.d.T, x.d.o, x.d.m.filter fun t => !dueB now t, x.d.D, false⟩⟩ ++ [slc (Kd.int .i64) 3 v (ofFr ps)]) := S2
  have HP := Lib.hid (And.intro hn hmem)
  have HI0 : Hid (PI c s x.d ps (x.d.m.filter fun t => !dueB now t) 0 s ⟨x.d.R, x.d.fr, x.d.T, x.d.o, x.d.m.filter fun t => !dueB now t, x.d.D, false⟩) := Lib.hid ⟨hIx, (List.filter_eq_self.2 fun p _ => by rw [List.take_zero]; rfl).symm, fun p _ => rfl, rfl, rfl, rfl⟩
  obtain ⟨A1, c1, hv⟩ := Kd.R_slice (S3.get 7 rfl).1
  subst hv
  have hlen : (ofFr ps).length = ps.length := by unfold ofFr; rw [List.length_map]
  rw [hlen] at S3
  have H3 := Lib.hid S3
  have hpl : ps.length ≤ 1024 := by
    have h5 := nodup_le c.most ps hn (fun p hp => HI.out.olt ((hmem p).1 hp).1)
    have := HI.out.m2
    omega
  have hpl2 : (ps.length : Int) ≤ 1024 := by omega
  have HPL := Lib.hid hpl
  rw [hlen]
  generalize hN : ps.length = N at *
  have HN := Lib.hid hN
  clear h1 S2 S3 hIx hp hso hps hn hmem g4 HD hlen hpl hN
  go_wp2_with fail
  go_loopg [18] (N + 1) (fun kq v18 W => ∃ (q : Nat) (s2 : SM) (x2 : SD), v18 = .int .i64 q ∧ q ≤ N ∧ N - q < kq ∧ St S w W (sL g c s2 x2 ++ [slc (Kd.int .i64) 3 (.slice A1 N c1) (ofFr ps)]) ∧ PI c s x.d ps (x.d.m.filter fun t => !dueB now t) q s2 x2.d)
  case atStart => exact ⟨0, s, _, rfl, by omega, by omega, H3.out, HI0.out⟩
  case round =>
    clear H3 HI0
    obtain ⟨q, s2, x2, rfl, hq, hqm, S4, hPI⟩ := hrel
    by_cases hql : q < N
    · have hql' : (q : Int) < (N : Int) := by omega
      obtain ⟨p, hp⟩ : ∃ p, ps[q]? = some p := ⟨_, List.getElem?_eq_getElem (by rw [HN.out]; exact hql)⟩
      obtain ⟨fb, cB, hv, _, hcB⟩ := slc_form (S4.get 7 rfl) (by unfold ofFr; rw [List.length_map, HN.out]; omega)
      injection hv with hv1 hvl hv2
      subst hv1; subst hv2
      have u0 : wr.cell? ⟨fb, q, none⟩ = some (.int .i64 (p : Int)) := slc_int (S4.get 7 rfl) (by unfold ofFr; rw [List.getElem?_map, hp]; rfl)
      have hpo := hPI.place HP.out.1 (fun p hp => ((HP.out.2 p).1 hp).1) hp
      have hm1 : ∀ t ∈ x.d.m.filter (fun t => !dueB now t), t.f0 ≠ (p : Int) := fun t ht e => by
        obtain ⟨h1, h2⟩ := List.mem_filter.1 ht
        obtain ⟨p', hp', rfl⟩ := List.mem_map.1 ((HI.out.m HBT.out).mem_iff.1 h1)
        have e2 : p' = p := by have : (p' : Int) = (p : Int) := e; omega
        subst e2
        rw [due_tm, ((HP.out.2 p').1 (List.mem_of_getElem? hp)).2] at h2
        simp at h2
      have HS := Lib.hid (fun s3 d3 a b cc dd ee ff => hPI.step (s3 := s3) (d3 := d3) hp hm1 a b cc dd ee ff)
      have HPO := Lib.hid hpo
      have H4 := Lib.hid S4
      have HQ := Lib.hid (And.intro hq (And.intro hqm hql))
      clear S4 hPI hp hpo hm1 hvl hcB hq hqm hql
      go_wp2_with (go_at_call 33; refine (take_st H4.out HPO.out).mono ?_; rintro e w5 ⟨rfl, x3, h5, hR, ho, hm, hb⟩)
      go_roundg (N - q)
      case measure => have := HQ.out; omega
      case rel =>
        have := HQ.out
        exact ⟨q + 1, _, x3, congrArg (Value.int .i64) (by omega), by omega, by omega, h5, HS.out _ _ (sL_si h5) rfl rfl hR ho hm⟩
    · have hql' : ¬ ((q : Int) < (N : Int)) := by omega
      obtain ⟨e1, e2, e3⟩ := hPI.done HI.out HBT.out HP.out.1 (by rw [HN.out]; omega) HP.out.2
      have HE := Lib.hid (And.intro e1 (And.intro e2 e3))
      have H4 := Lib.hid S4
      clear S4 hPI e1 e2 e3 hq hqm hql
      go_wp2_with fail
      go_ret
      obtain ⟨e1, e2, e3⟩ := HE.out
      subst e1
      have S5 := H4.out.pure 6 rfl e2
      have S6 : St S w wr (sL g c (purM c s now) ⟨x2.vR, x2.vF, x2.tg, x2.ug, x2.bg, x2.wg, x2.Ft, x2.Fw, ⟨x2.d.R, x2.d.fr, x2.d.T, x2.d.o, x2.d.m, x2.d.D, true⟩⟩ ++ [slc (Kd.int .i64) 3 (.slice A1 N c1) (ofFr ps)]) := S5
      refine ⟨by rw [e3, HN.out]; rfl, so_upd HO.out.1 HO.out.2 (S6.sub (List.Sublist.append_left (List.nil_sublist _) _)) rfl⟩
end Go.Proofs.Ytecgnfklfgjgaaa
/- The store's New. -/
set_option linter.unusedVariables false
set_option linter.unusedSimpArgs false
namespace Go.Proofs.Ytecgnfklfgjgaaa
open Go.RowKit Go.Tat Go.Tab Go.Proofs.YtecgnfklfgjgaaaW.PrintWords PStorePeeks
theorem rec_info : (Try.prog.info? 37).map (fun i => (i.zero, i.size, i.bytes)) = some (some (.agg (eRc zRc).toArray), 8, 64) := by kernel_rfl
def confOk (n b k : Int) : Prop := 1 ≤ n ∧ n ≤ 1024 ∧ 1 ≤ b ∧ b ≤ 1048576 ∧ 1 ≤ k ∧ k ≤ 1000
instance (n b k : Int) : Decidable (confOk n b k) := by unfold confOk; infer_instance
set_option maxRecDepth 100000 in
set_option maxHeartbeats 8000000 in
theorem snew_no (n b k : Int) (w : World) (h : ¬ confOk n b k) : Calls Try.prog 8 #[.int .i64 n, .int .i64 b, .int .i64 k] w fun e w' => e = .returned (.tuple #[.pointer none, .int .i64 1]) ∧ w' = w := by
  unfold confOk at h
  by_cases h1 : n < 1
  · clear h
    go_enter Try.func8, Try.ntmps8
    go_wp2
    go_ret2
    exact ⟨rfl, rfl⟩
  · by_cases h2 : 1024 < n
    · clear h
      go_enter Try.func8, Try.ntmps8
      go_wp2
      go_ret2
      exact ⟨rfl, rfl⟩
    · by_cases h3 : b < 1
      · clear h
        go_enter Try.func8, Try.ntmps8
        go_wp2
        go_ret2
        exact ⟨rfl, rfl⟩
      · by_cases h4 : 1048576 < b
        · clear h
          go_enter Try.func8, Try.ntmps8
          go_wp2
          go_ret2
          exact ⟨rfl, rfl⟩
        · by_cases h5 : k < 1
          · clear h
            go_enter Try.func8, Try.ntmps8
            go_wp2
            go_ret2
            exact ⟨rfl, rfl⟩
          · have h6 : 1000 < k := by omega
            clear h
            go_enter Try.func8, Try.ntmps8
            go_wp2
            go_ret2
            exact ⟨rfl, rfl⟩
theorem perm_a (a b c d e f : Asr) : [e, c, f, a, b, d].Perm [a, b, c, d, e, f] := by
  refine List.Perm.trans (l₂ := [e, f, c, a, b, d]) ?_ ?_
  · exact (List.Perm.swap _ _ _).cons _
  · have h1 : ([e, f, c, a, b, d] : List Asr).Perm ([c, a, b, d] ++ [e, f]) := List.perm_append_comm (l₁ := [e, f]) (l₂ := [c, a, b, d])
    refine h1.trans ?_
    have h2 : ([c] ++ ([a, b] ++ [d, e, f])).Perm ([a, b] ++ ([c] ++ [d, e, f])) := List.perm_append_comm_assoc [c] [a, b] [d, e, f]
    exact h2
theorem perm_b (a b c d e f : Asr) : [e, d, f, a, b, c].Perm [a, b, c, d, e, f] := by
  refine (perm_a a b d c e f).trans ?_
  exact (((List.Perm.swap _ _ _).cons _).cons _)
def snewPost (F : Nat → Prop) (w0 : World) (A : List Asr) (c : SC) (e : Ending) (w' : World) : Prop := ∃ g S, e = .returned (.tuple #[.pointer (some ⟨g, 0, none⟩), .int .i64 0]) ∧ St F w0 w' (A ++ [sO g S c ⟨[], List.replicate 64 zSt, 0⟩])
theorem zero_store : (Try.prog.info? 70).map (·.zero) = some (some (.agg ([Value.slice none 0 0, Value.slice none 0 0, Value.pointer none, Value.pointer none, Value.pointer none] ++ ((List.replicate 64 zSt).flatMap eStp ++ (dV (List.replicate 64 0) ++ [Value.int .i64 0, Value.int .i64 0, Value.int .u64 0, Value.int .i64 0, Value.int .i64 0]))).toArray)) := by kernel_rfl
theorem zero_store_run (w : World) : (zeroValue 70).run Try.prog w = .ok (.agg ([Value.slice none 0 0, Value.slice none 0 0, Value.pointer none, Value.pointer none, Value.pointer none] ++ ((List.replicate 64 zSt).flatMap eStp ++ (dV (List.replicate 64 0) ++ [Value.int .i64 0, Value.int .i64 0, Value.int .u64 0, Value.int .i64 0, Value.int .i64 0]))).toArray) w := by
  obtain ⟨i, hi, hz⟩ := Option.map_eq_some_iff.1 zero_store
  simp only [zeroValue, typeInfo, Sem.run_bind, run_program, Result.andThen, hi, hz, Sem.run_pure]
set_option maxRecDepth 100000 in
set_option maxHeartbeats 8000000 in
theorem snew_st {F : Nat → Prop} {w0 w : World} {A : List Asr} (h : St F w0 w A) (c : SC) (hc : confOk c.most c.bytes c.keep) : Calls Try.prog 8 #[.int .i64 c.most, .int .i64 c.bytes, .int .i64 c.keep] w (snewPost F w0 A c) := by
  unfold confOk at hc
  obtain ⟨n1, n2, b1, b2, k1, k2⟩ := hc
  have H := Lib.hid h
  have H0 := Lib.hid (St.nil (fun _ => False) w)
  have HT := Lib.hid (tnew_st H0.out c.most (by omega) (by omega))
  have HN := Lib.hid (And.intro n1 (And.intro n2 (And.intro b1 (And.intro b2 (And.intro k1 k2)))))
  have m1 : ¬ ((c.most : Int) < 1) := by omega
  have m2 : ¬ ((c.most : Int) > 1024) := by omega
  have m3 : ¬ ((c.bytes : Int) < 1) := by omega
  have m4 : ¬ ((c.bytes : Int) > 1048576) := by omega
  have m5 : ¬ ((c.keep : Int) < 1) := by omega
  have m6 : ¬ ((c.keep : Int) > 1000) := by omega
  have hz := zero_store_run
  clear h n1 n2 b1 b2 k1 k2
  go_enter Try.func8, Try.ntmps8
  go_upto_region 4 with (go_at_call 24; refine HT.out.mono ?_; rintro e w1 ⟨tg, St1, rfl, h1⟩)
  have HL := Lib.hid (lnew_st h1 c.most (by have := HN.out; omega) (by have := HN.out; omega))
  clear h1
  go_upto_region 5 with (go_at_call 25; refine HL.out.mono ?_; rintro e w2 ⟨ug, bg, rfl, h2⟩)
  have H2 := Lib.hid h2
  clear h2 HL HT
  obtain ⟨zc, hzc⟩ : ∃ zc, ([Value.slice none 0 0, Value.slice none 0 0, Value.pointer none, Value.pointer none, Value.pointer none] ++ ((List.replicate 64 zSt).flatMap eStp ++ (dV (List.replicate 64 0) ++ [Value.int .i64 0, Value.int .i64 0, Value.int .u64 0, Value.int .i64 0, Value.int .i64 0]))).toArray = zc := ⟨_, rfl⟩
  rw [hzc] at hz
  have HZC := Lib.hid hzc
  have hzs : zc.size = 266 := by rw [← hzc]; rfl
  have hzn : zc ≠ #[] := by intro e; rw [e] at hzs; simp at hzs
  clear hzc
  have hkw : IntKind.u64.wrap (c.keep : Int) = (c.keep : Int) := by rw [IntKind.wrap_u64]; have := HN.out; omega
  refine wp_region_any (by kernel_rfl) ?_
  refine wpAny_take (i := 0) (oi := ({ dst := some 46, op := Go.Op.move (Go.Operand.tmp 0), type := 3, pos := "store.go:40", after := #[], guard := none } : Oper)) (v := ?_) rfl (by kernel_rfl) (by kernel_rfl) (by kernel_rfl) (fun _ _ _ h => h) (Or.inl ⟨by rfl, ?_⟩) ?_
  rotate_left
  · (intro w; go_simp; first | done | with_reducible rfl)
  try simp only [Act.put, List.setIfInBounds_toArray, List.set_cons_zero, List.set_cons_succ]
  refine wpAny_take (i := 2) (oi := ({ dst := some 48, op := Go.Op.move (Go.Operand.tmp 8), type := 58, pos := "store.go:40", after := #[], guard := none } : Oper)) (v := ?_) rfl (by kernel_rfl) (by kernel_rfl) (by kernel_rfl) (fun _ _ _ h => h) (Or.inl ⟨by rfl, ?_⟩) ?_
  rotate_left
  · (intro w; go_simp; first | done | with_reducible rfl)
  try simp only [Act.put, List.setIfInBounds_toArray, List.set_cons_zero, List.set_cons_succ]
  refine wpAny_take (i := 3) (oi := ({ dst := some 49, op := Go.Op.move (Go.Operand.tmp 10), type := 61, pos := "store.go:40", after := #[], guard := none } : Oper)) (v := ?_) rfl (by kernel_rfl) (by kernel_rfl) (by kernel_rfl) (fun _ _ _ h => h) (Or.inl ⟨by rfl, ?_⟩) ?_
  rotate_left
  · (intro w; go_simp; first | done | with_reducible rfl)
  try simp only [Act.put, List.setIfInBounds_toArray, List.set_cons_zero, List.set_cons_succ]
  refine wpAny_take (i := 5) (oi := ({ dst := some 51, op := Go.Op.move (Go.Operand.tmp 0), type := 3, pos := "store.go:40", after := #[], guard := none } : Oper)) (v := ?_) rfl (by kernel_rfl) (by kernel_rfl) (by kernel_rfl) (fun _ _ _ h => h) (Or.inl ⟨by rfl, ?_⟩) ?_
  rotate_left
  · (intro w; go_simp; first | done | with_reducible rfl)
  try simp only [Act.put, List.setIfInBounds_toArray, List.set_cons_zero, List.set_cons_succ]
  refine wpAny_take (i := 6) (oi := ({ dst := some 52, op := Go.Op.move (Go.Operand.tmp 1), type := 3, pos := "store.go:40", after := #[], guard := none } : Oper)) (v := ?_) rfl (by kernel_rfl) (by kernel_rfl) (by kernel_rfl) (fun _ _ _ h => h) (Or.inl ⟨by rfl, ?_⟩) ?_
  rotate_left
  · (intro w; go_simp; first | done | with_reducible rfl)
  try simp only [Act.put, List.setIfInBounds_toArray, List.set_cons_zero, List.set_cons_succ]
  refine wpAny_take (i := 7) (oi := ({ dst := some 53, op := Go.Op.move (Go.Operand.tmp 2), type := 3, pos := "store.go:40", after := #[], guard := none } : Oper)) (v := ?_) rfl (by kernel_rfl) (by kernel_rfl) (by kernel_rfl) (fun _ _ _ h => h) (Or.inl ⟨by rfl, ?_⟩) ?_
  rotate_left
  · (intro w; go_simp; first | done | with_reducible rfl)
  try simp only [Act.put, List.setIfInBounds_toArray, List.set_cons_zero, List.set_cons_succ]
  refine wpAny_take (i := 8) (oi := ({ dst := some 54, op := Go.Op.convert 3 31 (Go.Operand.tmp 53), type := 31, pos := "store.go:40", after := #[{ on := 7, ground := Go.Ground.data }], guard := none } : Oper)) (v := ?_) rfl (by kernel_rfl) (by kernel_rfl) (by kernel_rfl) (fun _ _ _ h => h) (Or.inl ⟨by rfl, ?_⟩) ?_
  rotate_left
  · (intro w; go_simp; first | done | with_reducible rfl)
  try simp only [Act.put, List.setIfInBounds_toArray, List.set_cons_zero, List.set_cons_succ]
  refine wpAny_ready (rs := [1, 4]) (by kernel_rfl) (by simp) ?_
  refine AllReady.cons (o := ({ dst := some 47, op := Go.Op.makeSlice 47 (Go.Operand.tmp 46) (Go.Operand.tmp 46), type := 47, pos := "store.go:40", after := #[{ on := 0, ground := Go.Ground.data }, { on := 0, ground := Go.Ground.data }], guard := none } : Oper)) rfl (fun K1 hK1 => ?_) (AllReady.cons (o := ({ dst := some 50, op := Go.Op.call { callee := Go.Callee.value (Go.Operand.func 26), args := #[], argTypes := #[] }, type := 64, pos := "store.go:40", after := #[], guard := none } : Oper)) rfl (fun K4 hK4 => ?_) AllReady.nil)
  · refine St.stepMake flRc (by rfl) _ _ 47 37 rfl Try.underlying47 zRc (.agg (eRc zRc).toArray) 64 rec_info rfl c.most rfl rfl (by have := HN.out; omega) (by have := HN.out; simp [maxLen]; omega) H2.out.drew ?_
    intro T rb w3 h3
    refine hK1 _ _ ?_
    clear hK1 K1
    try simp only [Act.put, List.setIfInBounds_toArray, List.set_cons_zero, List.set_cons_succ]
    refine wpAny_ready (rs := [4]) (by kernel_rfl) (by simp) ?_
    refine AllReady.cons (o := ({ dst := some 50, op := Go.Op.call { callee := Go.Callee.value (Go.Operand.func 26), args := #[], argTypes := #[] }, type := 64, pos := "store.go:40", after := #[], guard := none } : Oper)) rfl (fun K4 hK4 => ?_) AllReady.nil
    go_simp
    refine (wnew_st h3.out.2.2).mono ?_
    rintro e w4 ⟨wg, Sw, rfl, h4⟩
    refine hK4 _ _ ?_
    clear hK4 K4
    try simp only [Act.put, List.setIfInBounds_toArray, List.set_cons_zero, List.set_cons_succ]
    refine wpAny_take (i := 9) (oi := ({ dst := some 55, op := Go.Op.build 70 #[(0, Go.Operand.tmp 47), (2, Go.Operand.tmp 48), (3, Go.Operand.tmp 49), (4, Go.Operand.tmp 50), (7, Go.Operand.tmp 51), (8, Go.Operand.tmp 52), (9, Go.Operand.tmp 54)], type := 70, pos := "store.go:40", after := #[{ on := 1, ground := Go.Ground.data }, { on := 2, ground := Go.Ground.data }, { on := 3, ground := Go.Ground.data }, { on := 4, ground := Go.Ground.data }, { on := 5, ground := Go.Ground.data }, { on := 6, ground := Go.Ground.data }, { on := 8, ground := Go.Ground.data }], guard := none } : Oper)) (v := ?_) rfl (by kernel_rfl) (by kernel_rfl) (by kernel_rfl) (fun _ _ _ h => h) (Or.inl ⟨by rfl, ?_⟩) ?_
    rotate_left
    · (intro w; go_simp; first | done | with_reducible rfl)
    try simp only [Act.put, List.setIfInBounds_toArray, List.set_cons_zero, List.set_cons_succ]
    refine wpAny_ready (rs := [10]) (by kernel_rfl) (by simp) ?_
    refine AllReady.cons (o := ({ dst := some 56, op := Go.Op.box 70 (Go.Operand.tmp 55), type := 25, pos := "store.go:40", after := #[{ on := 9, ground := Go.Ground.data }], guard := none } : Oper)) rfl (fun K7 hK7 => ?_) AllReady.nil
    go_simp
    refine hK7 _ _ ?_
    clear hK7 K7
    try simp only [Act.put, List.setIfInBounds_toArray, List.set_cons_zero, List.set_cons_succ]
    refine wpAny_take (i := 11) (oi := ({ dst := some 12, op := Go.Op.assign (Go.Operand.tmp 56), type := 25, pos := "store.go:40", after := #[{ on := 10, ground := Go.Ground.data }, { on := 4, ground := Go.Ground.chain }, { on := 0, ground := Go.Ground.phase }, { on := 1, ground := Go.Ground.phase }, { on := 2, ground := Go.Ground.phase }, { on := 3, ground := Go.Ground.phase }, { on := 4, ground := Go.Ground.phase }, { on := 5, ground := Go.Ground.phase }, { on := 6, ground := Go.Ground.phase }, { on := 7, ground := Go.Ground.phase }, { on := 8, ground := Go.Ground.phase }, { on := 9, ground := Go.Ground.phase }, { on := 10, ground := Go.Ground.phase }], guard := none } : Oper)) (v := ?_) rfl (by kernel_rfl) (by kernel_rfl) (by kernel_rfl) (fun _ _ _ h => h) (Or.inl ⟨by rfl, ?_⟩) ?_
    rotate_left
    · (intro w; go_simp; first | done | with_reducible rfl)
    try simp only [Act.put, List.setIfInBounds_toArray, List.set_cons_zero, List.set_cons_succ]
    refine wpAny_done (by kernel_rfl) ?_ _
    have S6 := h4.new' (((((((zc.setIfInBounds 0 (.slice (some ⟨rb, 0, none⟩) c.most c.most)).setIfInBounds 2 (.pointer (some ⟨tg, 0, none⟩))).setIfInBounds 3 (.pointer (some ⟨ug, 0, none⟩))).setIfInBounds 4 (.pointer (some ⟨wg, 0, none⟩))).setIfInBounds 261 (.int .i64 (c.most : Int))).setIfInBounds 262 (.int .i64 (c.bytes : Int))).setIfInBounds 263 (.int .u64 (c.keep : Int))) 70 w4.heap.size rfl
    obtain ⟨g, hg⟩ : ∃ g, w4.heap.size = g := ⟨_, rfl⟩
    rw [hg] at S6 ⊢
    clear hg
    generalize World.alloc w4 _ = w7 at *
    have eC : (((((((zc.setIfInBounds 0 (.slice (some ⟨rb, 0, none⟩) c.most c.most)).setIfInBounds 2 (.pointer (some ⟨tg, 0, none⟩))).setIfInBounds 3 (.pointer (some ⟨ug, 0, none⟩))).setIfInBounds 4 (.pointer (some ⟨wg, 0, none⟩))).setIfInBounds 261 (.int .i64 (c.most : Int))).setIfInBounds 262 (.int .i64 (c.bytes : Int))).setIfInBounds 263 (.int .u64 (c.keep : Int))) = (sCells (.slice (some ⟨rb, 0, none⟩) c.most c.most) (.slice none 0 0) tg ug wg c (List.replicate 64 zSt) (List.replicate 64 0) 0 0).toArray := by
      rw [← HZC.out]
      rfl
    rw [eC] at S6
    clear eC hz hzs hzn
    have S7 := S6.nils (Kd.int .i64) 3
    have S8 : St (fun _ => False) w w7 [blk g (sCells (.slice (some ⟨rb, 0, none⟩) c.most c.most) (.slice none 0 0) tg ug wg c (List.replicate 64 zSt) (List.replicate 64 0) 0 0).toArray 70, slc k37 37 (.slice (some ⟨rb, 0, none⟩) c.most c.most) (List.replicate c.most zRc), slc (Kd.int .i64) 3 (.slice none 0 0) (ofFr (((List.range c.most).reverse).take 0)), tO tg c.most St1 [], lA ug bg c.most [], wO wg Sw []] := by
      have hT := h3.out.1
      rw [hT] at S7
      refine S7.perm ?_
      exact perm_a _ _ _ _ _ _
    obtain ⟨F0, hF0⟩ : ∃ F0, List.replicate 64 zSt = F0 := ⟨_, rfl⟩
    obtain ⟨D0, hD0⟩ : ∃ D0, List.replicate 64 0 = D0 := ⟨_, rfl⟩
    rw [hF0, hD0] at S8
    have HF0 := Lib.hid hF0
    have HD0 := Lib.hid hD0
    have H8 := Lib.hid S8
    clear S6 S7 S8 h3 h4 H2 H0 hF0 hD0 HZC
    go_wp2_with fail
    go_loopg [58] (c.most + 1) (fun kq v58 W => ∃ (q : Nat) (v : Value), v58 = .int .i64 q ∧ q ≤ c.most ∧ c.most - q < kq ∧ St (fun _ => False) w W [blk g (sCells (.slice (some ⟨rb, 0, none⟩) c.most c.most) v tg ug wg c F0 D0 0 0).toArray 70, slc k37 37 (.slice (some ⟨rb, 0, none⟩) c.most c.most) (List.replicate c.most zRc), slc (Kd.int .i64) 3 v (ofFr (((List.range c.most).reverse).take q)), tO tg c.most St1 [], lA ug bg c.most [], wO wg Sw []])
    case atStart => exact ⟨0, _, rfl, by omega, by omega, H8.out⟩
    case round =>
      clear H8
      obtain ⟨q, v, rfl, hq, hqm, S9⟩ := hrel
      by_cases hql : q < c.most
      · have hql' : (q : Int) < (c.most : Int) := by omega
        obtain ⟨A2, k2, hv⟩ := Kd.R_slice (S9.get 2 rfl).1
        obtain ⟨E, hE⟩ : ∃ E, ofFr (((List.range c.most).reverse).take q) = E := ⟨_, rfl⟩
        have hEl : E.length = q := by rw [← hE]; unfold ofFr; simp; omega
        rw [hE] at S9 hv
        have HEE := Lib.hid hE
        subst hv
        have c1 : wr.cell? ⟨g, 1, none⟩ = some (.slice A2 E.length k2) := blk_cell (S9.get 0 rfl) 1
        have hcap := Lib.hid (show (E.length + 1) * 8 ≤ 140737488355328 by rw [hEl]; have := HN.out; omega)
        have H9 := Lib.hid S9
        have HQ := Lib.hid (And.intro hq (And.intro hqm (And.intro hql hEl)))
        have hn2 : (c.most : Int) ≤ 1024 := by have := HN.out; omega
        clear S9 hE hEl hq hqm hql
        go_wp2_with (at_builtin; go_loud (refine St.wp1 (flInt .i64) rfl _ _ 66 3 (.int .i64 0) 8 rfl Try.underlying66 int_info rfl (by decide) (by decide) H9.out 2 rfl ((c.most : Int) - 1 - (q : Int)) _ rfl rfl rfl hcap.out ?_))
        intro T2 A10 k10 w10 h10
        have HTT := Lib.hid h10.out.1
        have S10 := h10.out.2
        have d1 : w10.cell? ⟨g, 1, none⟩ = some (.slice A2 E.length k2) := blk_cell (S10.get 0 rfl) 1
        have y1 : w10.frozen? ⟨g, 1, none⟩ = false := S10.frozen 0 rfl _
        have H10 := Lib.hid S10
        clear S10 h10 c1 H9
        go_wp2_with fail
        go_roundg (c.most - q)
        case measure => have := HQ.out; omega
        case rel =>
          have hq := HQ.out
          refine ⟨q + 1, .slice A10 T2.length k10, congrArg (Value.int .i64) (by omega), by omega, by omega, ?_⟩
          have e2 : T2 = ofFr (((List.range c.most).reverse).take (q + 1)) := by
            rw [HTT.out, ← HEE.out, List.take_add_one]
            unfold ofFr
            rw [List.map_append]
            congr 1
            rw [List.getElem?_reverse (by rw [List.length_range]; exact hq.2.2.1), List.length_range, List.getElem?_range (by omega)]
            simp only [Option.toList_some, List.map_cons, List.map_nil]
            congr 1
            omega
          rw [← e2]
          have S11 := H10.out.set 0 rfl 1 (.slice A10 T2.length k10)
          rw [show (sCells (.slice (some ⟨rb, 0, none⟩) c.most c.most) (.slice A2 E.length k2) tg ug wg c F0 D0 0 0).toArray.setIfInBounds 1 (.slice A10 T2.length k10) = (sCells (.slice (some ⟨rb, 0, none⟩) c.most c.most) (.slice A10 T2.length k10) tg ug wg c F0 D0 0 0).toArray by rw [List.setIfInBounds_toArray, sc_set1]] at S11
          exact S11
      · have hql' : ¬ ((q : Int) < (c.most : Int)) := by omega
        have hqe : q = c.most := by omega
        subst hqe
        have H9 := Lib.hid S9
        clear S9 hq hqm hql
        go_wp2_with fail
        go_ret2
        have hn := HN.out
        have S10 := H9.out
        rw [List.take_of_length_le (by simp), ← HF0.out, ← HD0.out] at S10
        have S11 := (S10.addPure (SI.new c (by omega) (by omega) (by omega) (by omega) (by omega))).addPure (p := true = true) rfl
        exact ⟨g, _, rfl, H.out.exAdd (L1 := fun x => sL g c ⟨[], List.replicate 64 zSt, 0⟩ x ++ [pureA (x.d.b = true)]) ⟨.slice (some ⟨rb, 0, none⟩) c.most c.most, v, tg, ug, bg, wg, St1, Sw, ⟨List.replicate c.most zRc, (List.range c.most).reverse, [], [], [], List.replicate 64 0, true⟩⟩ S11⟩
  · go_simp
    refine (wnew_st H2.out.drew).mono ?_
    rintro e w4 ⟨wg, Sw, rfl, h4⟩
    refine hK4 _ _ ?_
    clear hK4 K4
    try simp only [Act.put, List.setIfInBounds_toArray, List.set_cons_zero, List.set_cons_succ]
    refine wpAny_ready (rs := [1]) (by kernel_rfl) (by simp) ?_
    refine AllReady.cons (o := ({ dst := some 47, op := Go.Op.makeSlice 47 (Go.Operand.tmp 46) (Go.Operand.tmp 46), type := 47, pos := "store.go:40", after := #[{ on := 0, ground := Go.Ground.data }, { on := 0, ground := Go.Ground.data }], guard := none } : Oper)) rfl (fun K1 hK1 => ?_) AllReady.nil
    refine St.stepMake flRc (by rfl) _ _ 47 37 rfl Try.underlying47 zRc (.agg (eRc zRc).toArray) 64 rec_info rfl c.most rfl rfl (by have := HN.out; omega) (by have := HN.out; simp [maxLen]; omega) h4 ?_
    intro T rb w3 h3
    refine hK1 _ _ ?_
    clear hK1 K1
    try simp only [Act.put, List.setIfInBounds_toArray, List.set_cons_zero, List.set_cons_succ]
    refine wpAny_take (i := 9) (oi := ({ dst := some 55, op := Go.Op.build 70 #[(0, Go.Operand.tmp 47), (2, Go.Operand.tmp 48), (3, Go.Operand.tmp 49), (4, Go.Operand.tmp 50), (7, Go.Operand.tmp 51), (8, Go.Operand.tmp 52), (9, Go.Operand.tmp 54)], type := 70, pos := "store.go:40", after := #[{ on := 1, ground := Go.Ground.data }, { on := 2, ground := Go.Ground.data }, { on := 3, ground := Go.Ground.data }, { on := 4, ground := Go.Ground.data }, { on := 5, ground := Go.Ground.data }, { on := 6, ground := Go.Ground.data }, { on := 8, ground := Go.Ground.data }], guard := none } : Oper)) (v := ?_) rfl (by kernel_rfl) (by kernel_rfl) (by kernel_rfl) (fun _ _ _ h => h) (Or.inl ⟨by rfl, ?_⟩) ?_
    rotate_left
    · (intro w; go_simp; first | done | with_reducible rfl)
    try simp only [Act.put, List.setIfInBounds_toArray, List.set_cons_zero, List.set_cons_succ]
    refine wpAny_ready (rs := [10]) (by kernel_rfl) (by simp) ?_
    refine AllReady.cons (o := ({ dst := some 56, op := Go.Op.box 70 (Go.Operand.tmp 55), type := 25, pos := "store.go:40", after := #[{ on := 9, ground := Go.Ground.data }], guard := none } : Oper)) rfl (fun K7 hK7 => ?_) AllReady.nil
    go_simp
    refine hK7 _ _ ?_
    clear hK7 K7
    try simp only [Act.put, List.setIfInBounds_toArray, List.set_cons_zero, List.set_cons_succ]
    refine wpAny_take (i := 11) (oi := ({ dst := some 12, op := Go.Op.assign (Go.Operand.tmp 56), type := 25, pos := "store.go:40", after := #[{ on := 10, ground := Go.Ground.data }, { on := 4, ground := Go.Ground.chain }, { on := 0, ground := Go.Ground.phase }, { on := 1, ground := Go.Ground.phase }, { on := 2, ground := Go.Ground.phase }, { on := 3, ground := Go.Ground.phase }, { on := 4, ground := Go.Ground.phase }, { on := 5, ground := Go.Ground.phase }, { on := 6, ground := Go.Ground.phase }, { on := 7, ground := Go.Ground.phase }, { on := 8, ground := Go.Ground.phase }, { on := 9, ground := Go.Ground.phase }, { on := 10, ground := Go.Ground.phase }], guard := none } : Oper)) (v := ?_) rfl (by kernel_rfl) (by kernel_rfl) (by kernel_rfl) (fun _ _ _ h => h) (Or.inl ⟨by rfl, ?_⟩) ?_
    rotate_left
    · (intro w; go_simp; first | done | with_reducible rfl)
    try simp only [Act.put, List.setIfInBounds_toArray, List.set_cons_zero, List.set_cons_succ]
    refine wpAny_done (by kernel_rfl) ?_ _
    have S6 := h3.out.2.2.new' (((((((zc.setIfInBounds 0 (.slice (some ⟨rb, 0, none⟩) c.most c.most)).setIfInBounds 2 (.pointer (some ⟨tg, 0, none⟩))).setIfInBounds 3 (.pointer (some ⟨ug, 0, none⟩))).setIfInBounds 4 (.pointer (some ⟨wg, 0, none⟩))).setIfInBounds 261 (.int .i64 (c.most : Int))).setIfInBounds 262 (.int .i64 (c.bytes : Int))).setIfInBounds 263 (.int .u64 (c.keep : Int))) 70 w3.heap.size rfl
    obtain ⟨g, hg⟩ : ∃ g, w3.heap.size = g := ⟨_, rfl⟩
    rw [hg] at S6 ⊢
    clear hg
    generalize World.alloc w3 _ = w7 at *
    have eC : (((((((zc.setIfInBounds 0 (.slice (some ⟨rb, 0, none⟩) c.most c.most)).setIfInBounds 2 (.pointer (some ⟨tg, 0, none⟩))).setIfInBounds 3 (.pointer (some ⟨ug, 0, none⟩))).setIfInBounds 4 (.pointer (some ⟨wg, 0, none⟩))).setIfInBounds 261 (.int .i64 (c.most : Int))).setIfInBounds 262 (.int .i64 (c.bytes : Int))).setIfInBounds 263 (.int .u64 (c.keep : Int))) = (sCells (.slice (some ⟨rb, 0, none⟩) c.most c.most) (.slice none 0 0) tg ug wg c (List.replicate 64 zSt) (List.replicate 64 0) 0 0).toArray := by
      rw [← HZC.out]
      rfl
    rw [eC] at S6
    clear eC hz hzs hzn
    have S7 := S6.nils (Kd.int .i64) 3
    have S8 : St (fun _ => False) w w7 [blk g (sCells (.slice (some ⟨rb, 0, none⟩) c.most c.most) (.slice none 0 0) tg ug wg c (List.replicate 64 zSt) (List.replicate 64 0) 0 0).toArray 70, slc k37 37 (.slice (some ⟨rb, 0, none⟩) c.most c.most) (List.replicate c.most zRc), slc (Kd.int .i64) 3 (.slice none 0 0) (ofFr (((List.range c.most).reverse).take 0)), tO tg c.most St1 [], lA ug bg c.most [], wO wg Sw []] := by
      have hT := h3.out.1
      rw [hT] at S7
      refine S7.perm ?_
      exact perm_b _ _ _ _ _ _
    obtain ⟨F0, hF0⟩ : ∃ F0, List.replicate 64 zSt = F0 := ⟨_, rfl⟩
    obtain ⟨D0, hD0⟩ : ∃ D0, List.replicate 64 0 = D0 := ⟨_, rfl⟩
    rw [hF0, hD0] at S8
    have HF0 := Lib.hid hF0
    have HD0 := Lib.hid hD0
    have H8 := Lib.hid S8
    clear S6 S7 S8 h3 h4 H2 H0 hF0 hD0 HZC
    go_wp2_with fail
    go_loopg [58] (c.most + 1) (fun kq v58 W => ∃ (q : Nat) (v : Value), v58 = .int .i64 q ∧ q ≤ c.most ∧ c.most - q < kq ∧ St (fun _ => False) w W [blk g (sCells (.slice (some ⟨rb, 0, none⟩) c.most c.most) v tg ug wg c F0 D0 0 0).toArray 70, slc k37 37 (.slice (some ⟨rb, 0, none⟩) c.most c.most) (List.replicate c.most zRc), slc (Kd.int .i64) 3 v (ofFr (((List.range c.most).reverse).take q)), tO tg c.most St1 [], lA ug bg c.most [], wO wg Sw []])
    case atStart => exact ⟨0, _, rfl, by omega, by omega, H8.out⟩
    case round =>
      clear H8
      obtain ⟨q, v, rfl, hq, hqm, S9⟩ := hrel
      by_cases hql : q < c.most
      · have hql' : (q : Int) < (c.most : Int) := by omega
        obtain ⟨A2, k2, hv⟩ := Kd.R_slice (S9.get 2 rfl).1
        obtain ⟨E, hE⟩ : ∃ E, ofFr (((List.range c.most).reverse).take q) = E := ⟨_, rfl⟩
        have hEl : E.length = q := by rw [← hE]; unfold ofFr; simp; omega
        rw [hE] at S9 hv
        have HEE := Lib.hid hE
        subst hv
        have c1 : wr.cell? ⟨g, 1, none⟩ = some (.slice A2 E.length k2) := blk_cell (S9.get 0 rfl) 1
        have hcap := Lib.hid (show (E.length + 1) * 8 ≤ 140737488355328 by rw [hEl]; have := HN.out; omega)
        have H9 := Lib.hid S9
        have HQ := Lib.hid (And.intro hq (And.intro hqm (And.intro hql hEl)))
        have hn2 : (c.most : Int) ≤ 1024 := by have := HN.out; omega
        clear S9 hE hEl hq hqm hql
        go_wp2_with (at_builtin; go_loud (refine St.wp1 (flInt .i64) rfl _ _ 66 3 (.int .i64 0) 8 rfl Try.underlying66 int_info rfl (by decide) (by decide) H9.out 2 rfl ((c.most : Int) - 1 - (q : Int)) _ rfl rfl rfl hcap.out ?_))
        intro T2 A10 k10 w10 h10
        have HTT := Lib.hid h10.out.1
        have S10 := h10.out.2
        have d1 : w10.cell? ⟨g, 1, none⟩ = some (.slice A2 E.length k2) := blk_cell (S10.get 0 rfl) 1
        have y1 : w10.frozen? ⟨g, 1, none⟩ = false := S10.frozen 0 rfl _
        have H10 := Lib.hid S10
        clear S10 h10 c1 H9
        go_wp2_with fail
        go_roundg (c.most - q)
        case measure => have := HQ.out; omega
        case rel =>
          have hq := HQ.out
          refine ⟨q + 1, .slice A10 T2.length k10, congrArg (Value.int .i64) (by omega), by omega, by omega, ?_⟩
          have e2 : T2 = ofFr (((List.range c.most).reverse).take (q + 1)) := by
            rw [HTT.out, ← HEE.out, List.take_add_one]
            unfold ofFr
            rw [List.map_append]
            congr 1
            rw [List.getElem?_reverse (by rw [List.length_range]; exact hq.2.2.1), List.length_range, List.getElem?_range (by omega)]
            simp only [Option.toList_some, List.map_cons, List.map_nil]
            congr 1
            omega
          rw [← e2]
          have S11 := H10.out.set 0 rfl 1 (.slice A10 T2.length k10)
          rw [show (sCells (.slice (some ⟨rb, 0, none⟩) c.most c.most) (.slice A2 E.length k2) tg ug wg c F0 D0 0 0).toArray.setIfInBounds 1 (.slice A10 T2.length k10) = (sCells (.slice (some ⟨rb, 0, none⟩) c.most c.most) (.slice A10 T2.length k10) tg ug wg c F0 D0 0 0).toArray by rw [List.setIfInBounds_toArray, sc_set1]] at S11
          exact S11
      · have hql' : ¬ ((q : Int) < (c.most : Int)) := by omega
        have hqe : q = c.most := by omega
        subst hqe
        have H9 := Lib.hid S9
        clear S9 hq hqm hql
        go_wp2_with fail
        go_ret2
        have hn := HN.out
        have S10 := H9.out
        rw [List.take_of_length_le (by simp), ← HF0.out, ← HD0.out] at S10
        have S11 := (S10.addPure (SI.new c (by omega) (by omega) (by omega) (by omega) (by omega))).addPure (p := true = true) rfl
        exact ⟨g, _, rfl, H.out.exAdd (L1 := fun x => sL g c ⟨[], List.replicate 64 zSt, 0⟩ x ++ [pureA (x.d.b = true)]) ⟨.slice (some ⟨rb, 0, none⟩) c.most c.most, v, tg, ug, bg, wg, St1, Sw, ⟨List.replicate c.most zRc, (List.range c.most).reverse, [], [], [], List.replicate 64 0, true⟩⟩ S11⟩
end Go.Proofs.Ytecgnfklfgjgaaa
/- Records sorted by their keys. -/
set_option linter.unusedVariables false
set_option linter.unusedSimpArgs false
namespace Go.Proofs.Ytecgnfklfgjgaaa
open Go.RowKit Go.Tat Go.Tab Go.Proofs.YtecgnfklfgjgaaaW.PrintWords PStorePeeks
instance : Inhabited Rc := ⟨zRc⟩
def cfK (x y : Rc) : Int := cS x.f0 y.f0
def rcmpPost (x y : Rc) (W : World) (e : Ending) (w' : World) : Prop := e = .returned (.int .i64 (cfK x y)) ∧ ∃ q os', w' = Sort.grow (W.drewN q) os'
theorem rgrow2 (W : World) (a b : Obj) : (W.alloc a).alloc b = Sort.grow (W.drewN 0) #[a, b] := by
  rw [Sort.alloc_eq_grow, Sort.alloc_eq_grow, Sort.grow_grow]
  rfl
set_option maxRecDepth 100000 in
set_option maxHeartbeats 4000000 in
theorem rcmp_c (x y : Rc) (W : World) : Calls Try.prog 43 #[.agg (eRc x).toArray, .agg (eRc y).toArray] W (rcmpPost x y W) := by
  have HS := Lib.hid (scmp_c x.f0 y.f0)
  have S1 := ((St.nil (fun _ => True) W).new' (eRc x).toArray 37 W.heap.size rfl).new' (eRc y).toArray 37 (W.heap.size + 1) (by simp)
  have HG := Lib.hid (rgrow2 W (.cells (eRc x).toArray 37) (.cells (eRc y).toArray 37))
  unfold eRc at S1 HG
  unfold eRc
  go_enter Try.func43, Try.ntmps43
  go_upto_region 1 with fail
  generalize (W.alloc _).alloc _ = w1 at *
  have x0 : w1.cell? ⟨W.heap.size, 0, none⟩ = some (.string x.f0) := S1.cell 0 rfl 0
  have y0 : w1.cell? ⟨W.heap.size + 1, 0, none⟩ = some (.string y.f0) := S1.cell 1 rfl 0
  clear S1
  go_wp2_with (go_at_call 44; refine (HS.out _).mono ?_; rintro e w' ⟨rfl, rfl⟩)
  go_ret
  exact ⟨rfl, 0, _, HG.out⟩
theorem rcmp_lays (blk size : Nat) (w : World) : CmpLays Try.prog 43 #[] eRc 8 cfK blk 0 size w := fun m os dk _ x y => by
  have := rcmp_c x y (sortWorldK eRc 8 w blk 0 m dk os)
  exact this
theorem ltK (x y : Rc) : ltOf cfK x y = true ↔ cS x.f0 y.f0 < 0 := by unfold ltOf cfK; simp
theorem ltK2 (x y : Rc) : ltOf cfK x y = false ↔ ¬ cS x.f0 y.f0 < 0 := by rw [← ltK, Bool.not_eq_true]
theorem cfK_swo : Sort.SWO (ltOf cfK) := by
  refine ⟨fun x => ?_, fun x y z h1 h2 => ?_, fun x y z h1 h2 => ?_⟩
  · rw [ltK2, cS_self]; omega
  · rw [ltK] at *; exact cS_trans h1 h2
  · rw [ltK2] at *
    intro h3
    have h4 := cS_neg x.f0 y.f0
    rcases cS_is x.f0 y.f0 with h | h | h
    · omega
    · rw [(cS_eq _ _).1 h] at h3; exact h2 h3
    · exact h2 (cS_trans (show cS y.f0 x.f0 < 0 by omega) h3)
theorem isAggR : ∀ w, (isAgg (Try.laysSortR_ren.t 24)).run Try.prog w = .ok true w := fun w => Try.isAgg37 w
theorem sizeOfR : ∀ w, (Go.sizeOf (Try.laysSortR_ren.t 24)).run Try.prog w = .ok 8 w := fun w => Try.sizeOf37 w
/-- By rising keys. -/
def SortedK (xs : List Rc) : Prop := xs.Pairwise fun x y => ¬ cS y.f0 x.f0 < 0
theorem rsort_c (v : Value) (xs : List Rc) (w : World) (hS : (slc k37 37 v xs).holds w) (hl : xs.length < 4611686018427387904) :
    Calls Try.prog 42 #[v, .func (.func 43) #[] #[]] w fun e w' => e = .returned (.tuple #[]) ∧ ∃ ys, ys.Perm xs ∧ SortedK ys ∧ (slc k37 37 v ys).holds w' ∧ Mod (fun k => v.ownBlock = some k) w w' := by
  rcases (slc_iff flRc).1 hS with ⟨rfl, rfl⟩ | ⟨g, c, ex, rfl, hR, hc, hm, hex⟩
  · refine (AnyF.slices_SortFunc_none Try.laysSortR none 0 _ w).mono ?_
    rintro e w' ⟨rfl, rfl⟩
    exact ⟨rfl, [], List.Perm.refl _, List.Pairwise.nil, slc_nil _ _ _, Mod.refl _ _⟩
  · have h := AnyQ.slices_SortFunc Try.laysSortR 8 isAggR sizeOfR eRc flRc.len flRc.one cfK cfK_swo 43 #[] g 0 c xs.toArray w (enters_of Try.func43 (by kernel_rfl) rfl) (rcmp_lays g _ w) (hR.holds flRc) hR.lt (by simpa using hl)
    simp only [List.size_toArray] at h
    refine h.mono ?_
    rintro e w' ⟨rfl, D, n, os, hp, hs, rfl⟩
    obtain ⟨h1, h2⟩ := perm_of_in hp
    have h1' : D.size = xs.length := by simpa using h1
    obtain ⟨R, M⟩ := sort_row flRc hR n os D h1'
    refine ⟨rfl, D.toList, by simpa using h2, ?_, ?_, M.mono fun k _ e => by rw [e]; rfl⟩
    · refine (sorted_of_in h1'.symm hs).imp fun {x y} hxy => ?_
      exact (ltK2 y x).1 hxy
    · have hlen : D.toList.length = xs.length := by simpa using h1'
      refine (slc_iff flRc).2 (.inr ⟨g, c, ex, by rw [hlen], R, by omega, hm, by rw [hlen]; exact hex⟩)
end Go.Proofs.Ytecgnfklfgjgaaa
/- The store's Range. -/
set_option linter.unusedVariables false
set_option linter.unusedSimpArgs false
namespace Go.Proofs.Ytecgnfklfgjgaaa
open Go.RowKit Go.Tat Go.Tab Go.Proofs.YtecgnfklfgjgaaaW.PrintWords PStorePeeks
def inR (k : Int) (r : Rc) : Bool := decide ((rgN r.f0 : Int) = k)
def recK (s : SM) (key : ByteArray) : Rc := (hasK s.L key).getD zRc
def readR (s : SM) (k : Int) (ks : List ByteArray) : List Rc := (ks.filter fun key => decide ((rgN key : Int) = k)).map (recK s)
theorem readR_succ {s : SM} {k : Int} {ks : List ByteArray} {q : Nat} {key : ByteArray} (h : ks[q]? = some key) : readR s k (ks.take (q + 1)) = readR s k (ks.take q) ++ (if (rgN key : Int) = k then [recK s key] else []) := by
  unfold readR
  rw [List.take_add_one, h, List.filter_append, List.map_append]
  congr 1
  by_cases e : (rgN key : Int) = k <;> simp [e]
theorem readR_all {c : SC} {s : SM} {d : PD} (h : SI c s d) (k : Int) {ks : List ByteArray} (hp : ks.Perm (d.T.map (·.1))) : (readR s k ks).Perm (s.L.filter (inR k)) := by
  have h1 : (d.T.map (·.1)).Perm (s.L.map (·.f0)) := by
    have := h.T.map (·.1)
    rw [List.map_map] at this
    rw [h.L, List.map_map]
    exact this
  have h2 := ((hp.trans h1).filter fun key => decide ((rgN key : Int) = k)).map (recK s)
  refine h2.trans ?_
  rw [List.filter_map, List.map_map]
  have e : List.map (recK s ∘ fun r : Rc => r.f0) (List.filter ((fun key => decide ((rgN key : Int) = k)) ∘ fun r : Rc => r.f0) s.L) = List.filter (inR k) s.L := by
    have e1 : List.filter ((fun key => decide ((rgN key : Int) = k)) ∘ fun r : Rc => r.f0) s.L = List.filter (inR k) s.L := rfl
    rw [e1]
    have : ∀ r ∈ List.filter (inR k) s.L, (recK s ∘ fun r : Rc => r.f0) r = r := fun r hr => by
      show (hasK s.L r.f0).getD zRc = r
      rw [hasK_of h.keys (List.mem_filter.1 hr).1]; rfl
    rw [List.map_congr_left this, List.map_id']
  rw [e]
def rangePost (F : Nat → Prop) (w0 : World) (A : List Asr) (i g : Nat) (c : SC) (s : SM) (k : Int) (e : Ending) (w' : World) : Prop :=
  ∃ v ys S', e = .returned v ∧ ys.Perm (s.L.filter (inR k)) ∧ SortedK ys ∧ St F w0 w' (A.set i (sO g S' c s) ++ [slc k37 37 v ys])
theorem so_upd2 {F : Nat → Prop} {w0 w w' : World} {A : List Asr} {i g : Nat} {S : Nat → Prop} {c : SC} {s s' : SM} {x : SD} {M : List Asr} (h : St F w0 w A) (hi : A[i]? = some (sO g S c s)) (h' : St S w w' (sL g c s' x ++ M)) (hb : x.d.b = true) : ∃ S', St F w0 w' (A.set i (sO g S' c s') ++ M) := by
  refine ⟨_, h.exUpd2 i hi (L1 := fun x => sL g c s' x ++ [pureA (x.d.b = true)]) x ?_⟩
  have h2 := h'.addPure hb
  rw [List.append_assoc] at h2 ⊢
  exact h2.perm (List.perm_append_comm.append_left _)
set_option maxRecDepth 100000 in
set_option maxHeartbeats 8000000 in
theorem range_o {F : Nat → Prop} {w0 w : World} {A : List Asr} {i g : Nat} {S : Nat → Prop} {c : SC} {s : SM} (h0 : St F w0 w A) (hi : A[i]? = some (sO g S c s)) (k : Int) : Calls Try.prog 16 #[.pointer (some ⟨g, 0, none⟩), .int .i64 k] w (rangePost F w0 A i g c s k) := by
  have HO := Lib.hid (And.intro h0 hi)
  obtain ⟨x, S1, hbt⟩ := so_open2 (h0.get i hi)
  have hI := sL_si S1
  have HI := Lib.hid hI
  have HBT := Lib.hid hbt
  have g2 := (g_facts S1 w (Below.refl _ _)).2.1
  obtain ⟨rb, rc, hvR⟩ := sL_R S1
  have HVR := Lib.hid hvR
  have HK := Lib.hid (tkeys_st S1 3 (g := x.tg) (most := c.most) (S := x.Ft) (T := x.d.T) rfl)
  clear h0 hi S1 hI hbt hvR
  go_enter Try.func16, Try.ntmps16
  go_wp2_with (go_at_call 41; refine HK.out.mono ?_; rintro e w1 ⟨v, ks, S', rfl, hp, h1⟩; obtain ⟨A1, c1, hv⟩ := Kd.R_slice (h1.get 7 rfl).1; subst hv; have HH1 := Lib.hid h1; have HP := Lib.hid hp; clear h1 hp g2 HK)
  have S3 : St S w w1 (sL g c s ⟨x.vR, x.vF, x.tg, x.ug, x.bg, x.wg, S', x.Fw, x.d⟩ ++ [slc Kd.string 9 (.slice A1 ks.length c1) ks]) := HH1.out
  have S4 := S3.nils k37 37
  rw [List.append_assoc] at S4
  have hkl : ks.length ≤ 1024 := by
    have h1 := HP.out.length_eq
    rw [List.length_map, HI.out.tlen, HI.out.llen] at h1
    have := HI.out.lens
    have := HI.out.m2
    omega
  obtain ⟨N, hN⟩ : ∃ N, ks.length = N := ⟨_, rfl⟩
  rw [hN] at S4 hkl ⊢
  have HN := Lib.hid hN
  have H4 := Lib.hid S4
  have hkl2 : (N : Int) ≤ 1024 := by omega
  have HKL := Lib.hid hkl
  have hmi : (c.most : Int) ≤ 1024 := by have := HI.out.m2; omega
  clear S3 S4 hN hkl HH1
  go_loopg [5, 19] (N + 1) (fun kq v5 v19 W => ∃ q : Nat, v19 = .int .i64 q ∧ q ≤ N ∧ N - q < kq ∧ St S w W (sL g c s ⟨x.vR, x.vF, x.tg, x.ug, x.bg, x.wg, S', x.Fw, x.d⟩ ++ ([slc Kd.string 9 (.slice A1 N c1) ks] ++ [slc k37 37 v5 (readR s k (ks.take q))])))
  case atStart => exact ⟨0, rfl, by omega, by omega, H4.out⟩
  case round =>
    clear H4
    obtain ⟨q, rfl, hq, hqm, S5⟩ := hrel
    by_cases hql : q < N
    · have hql' : (q : Int) < (N : Int) := by omega
      obtain ⟨key, hkey⟩ : ∃ key, ks[q]? = some key := ⟨_, List.getElem?_eq_getElem (by rw [HN.out]; exact hql)⟩
      obtain ⟨sb, cB, hv, _, hcB⟩ := slc_form (S5.get 7 rfl) (by rw [HN.out]; omega)
      injection hv with hv1 hvl hv2
      subst hv1; subst hv2
      have u0 : wr.cell? ⟨sb, q, none⟩ = some (.string key) := by
        have := (S5.elem flStr 7 rfl (i := q) (c := 0) hkey (show 0 < 1 by decide)).1
        rw [show q * Kd.string.sz + 0 = q from by show q * 1 + 0 = q; omega] at this
        exact this
      have hkT : key ∈ x.d.T.map (·.1) := HP.out.mem_iff.1 (List.mem_of_getElem? hkey)
      obtain ⟨⟨key', pv⟩, hmT, hke⟩ := List.mem_map.1 hkT
      have hke' : key' = key := hke
      subst hke'
      obtain ⟨p, hp, hpe⟩ := List.mem_map.1 (HI.out.T.mem_iff.1 hmT)
      injection hpe with hpe1 hpe2
      have hlens := may_lens (HI.out.may _ (HI.out.mem hp)).1
      rw [hpe1] at hlens
      have hpm : p < c.most := HI.out.olt hp
      have hRp : x.d.R[p]? = some (rAt x.d.R p) := rAt_get (by rw [HI.out.rl]; exact hpm)
      have hmg : mg x.d.T key' = some (p : Int) := (HI.out.look HI.out.tnd).2 ⟨p, hp, rfl, hpe1⟩
      have hrk : recK s key' = rAt x.d.R p := by
        unfold recK
        rw [← hpe1, hasK_of HI.out.keys (HI.out.mem hp)]
        rfl
      have hss := readR_succ (s := s) (k := k) hkey
      rw [hrk] at hss
      have HSS := Lib.hid hss
      have HKE := Lib.hid hlens
      have hEl : (readR s k (ks.take q)).length ≤ q := by
        unfold readR
        rw [List.length_map]
        exact Nat.le_trans (List.length_filter_le _ _) (List.length_take_le _ _)
      obtain ⟨E, hE⟩ : ∃ E, readR s k (ks.take q) = E := ⟨_, rfl⟩
      rw [hE] at S5 hEl
      rw [hE] at HSS
      obtain ⟨A5, c5, h5⟩ := Kd.R_slice (S5.get 8 rfl).1
      subst h5
      have hpi : (p : Int) < (c.most : Int) := by omega
      have HRG := Lib.hid (range_c key' (by omega))
      have HPQ := Lib.hid (And.intro hp (And.intro hRp hmg))
      have H5 := Lib.hid S5
      have hqb : (q : Int) < 1000000 := by omega
      have HQ := Lib.hid (And.intro hq (And.intro hqm (And.intro hql hEl)))
      clear S5 hE hEl hss hrk hmg hRp hpm hlens hpe1 hpe2 hp hmT hke hkT hkey hvl hcB hq hqm hql
      by_cases hin : (rgN key' : Int) = k
      · have hie : ((rgN key' : Int) == k) = true := by rw [hin]; simp
        have HIN := Lib.hid hin
        clear hin
        go_upto_region 8 with (go_at_call 31; refine (HRG.out _).mono ?_; rintro e w2 ⟨rfl, ⟨n2, rfl⟩⟩)
        have S6 := H5.out.drewN n2
        generalize wr.drewN n2 = w2 at *
        have g2 := (g_facts S6 w2 (Below.refl _ _)).2.1
        have HG : Hid (Calls Try.prog 28 #[.pointer (some ⟨x.tg, 0, none⟩), .string key'] w2 fun e w' => e = .returned (.tuple #[.int .i64 (p : Int), .bool true]) ∧ ∃ m, w' = w2.drewN m) := Lib.hid (by
          have := tget_c (g := x.tg) (most := c.most) (S := S') (T := x.d.T) (S6.get 3 rfl) key' (by have := HKE.out; omega)
          rw [HPQ.out.2.2] at this
          exact this)
        have H6 := Lib.hid S6
        clear S6 hie H5 u0
        go_upto_region 9 with (go_at_call 28; refine HG.out.mono ?_; rintro e w3 ⟨rfl, n3, rfl⟩)
        have S7 := H6.out.drewN n3
        generalize w2.drewN n3 = w3 at *
        have g0 := ((g_facts S7 w3 (Below.refl _ _)).1).trans (congrArg some HVR.out)
        have hrf := rec_facts S7 HVR.out HPQ.out.2.1 w3 (Below.refl _ _)
        obtain ⟨rr, hrr⟩ : ∃ rr, rAt x.d.R p = rr := ⟨_, rfl⟩
        rw [hrr] at hrf HSS
        obtain ⟨p0, p1, p2, p3, p4, p5, p6, p7⟩ := hrf
        have H7 := Lib.hid S7
        have hcap := Lib.hid (show (E.length + 1) * 64 ≤ 140737488355328 by have := HQ.out; have := HKL.out; omega)
        clear S7 H6 HG g2 hrr
        go_wp2_with (at_builtin; go_loud (refine St.wp1 flRc rfl _ _ 47 37 (.agg (eRc zRc).toArray) 64 rfl Try.underlying47 rec_info rfl (by decide) (by decide) H7.out 8 rfl rr #[.string rr.f0, .int .u64 rr.f1.f0, .int .u32 rr.f1.f1, .int .u8 rr.f1.f2, .int .u8 rr.f2, .int .u32 rr.f3, .int .u64 rr.f4, .string rr.f5] rfl rfl rfl hcap.out ?_))
        intro T2 A10 k10 w10 h10
        have HT := Lib.hid h10.out.1
        have H10 := Lib.hid h10.out.2
        clear h10 H7 g0 p0 p1 p2 p3 p4 p5 p6 p7
        go_wp2_with fail
        go_roundg (N - q)
        case measure => have := HQ.out; omega
        case rel =>
          have := HQ.out
          refine ⟨q + 1, congrArg (Value.int .i64) (by omega), by omega, by omega, ?_⟩
          rw [HSS.out, if_pos HIN.out, ← HT.out]
          exact H10.out
      · have hie : ((rgN key' : Int) == k) = false := by rw [beq_eq_false_iff_ne]; exact hin
        have HIN := Lib.hid hin
        clear hin
        go_wp2_with (go_at_call 31; refine (HRG.out _).mono ?_; rintro e w2 ⟨rfl, ⟨n2, rfl⟩⟩)
        go_roundg (N - q)
        case measure => have := HQ.out; omega
        case rel =>
          have := HQ.out
          refine ⟨q + 1, congrArg (Value.int .i64) (by omega), by omega, by omega, ?_⟩
          rw [HSS.out, if_neg HIN.out, List.append_nil]
          exact H5.out.drewN n2
    · have hql' : ¬ ((q : Int) < (N : Int)) := by omega
      have hqe : q = ks.length := by rw [HN.out]; omega
      rw [hqe, List.take_length] at S5
      have hall := readR_all HI.out k HP.out
      obtain ⟨xs, hxs⟩ : ∃ xs, readR s k ks = xs := ⟨_, rfl⟩
      rw [hxs] at S5 hall
      have HALL := Lib.hid hall
      have hxl : xs.length < 4611686018427387904 := by
        rw [hall.length_eq]
        have h1 := List.length_filter_le (inR k) s.L
        have h2 := HI.out.llen
        have h3 := HI.out.lens
        have h4 := HI.out.m2
        omega
      have HSO := Lib.hid (rsort_c u5 xs wr (S5.get 8 rfl) hxl)
      have H5 := Lib.hid S5
      subst hqe
      clear S5 hall hxs hxl hq hqm hql
      go_wp2_with (go_at_call 42; refine HSO.out.mono ?_; rintro e w6 ⟨rfl, ys, hpy, hso, hys, hmd⟩)
      go_ret
      have S6 := H5.out.upd 8 rfl hmd (a' := slc k37 37 u5 ys) hys (fun k hk => .inl hk)
      have S7 : St S w w6 (sL g c s ⟨x.vR, x.vF, x.tg, x.ug, x.bg, x.wg, S', x.Fw, x.d⟩ ++ [slc k37 37 u5 ys]) := S6.drop 7
      obtain ⟨S'', h8⟩ := so_upd2 HO.out.1 HO.out.2 S7 HBT.out
      exact ⟨_, ys, S'', rfl, hpy.trans HALL.out, hso, h8⟩
end Go.Proofs.Ytecgnfklfgjgaaa
/- The chapter's example. -/
set_option linter.unusedVariables false
set_option linter.unusedSimpArgs false
namespace Go.Proofs.Ytecgnfklfgjgaaa
open Go.RowKit Go.Tat Go.Tab Go.Proofs.YtecgnfklfgjgaaaW.PrintWords PStorePeeks
def fxa : Rc := ⟨⟨#[97]⟩, ⟨5, 0, 0⟩, 2, 0, 0, ⟨#[]⟩⟩
def fxb : Rc := ⟨⟨#[98]⟩, ⟨4, 0, 0⟩, 2, 0, 0, ⟨#[]⟩⟩
def fxc : SC := ⟨1, 100, 10⟩
def fx0 : SM := ⟨[], List.replicate 64 zSt, 0⟩
def fx1 : SM := ⟨[fxa], List.replicate 64 zSt, 0⟩
def fx2 : SM := ⟨[fxb], raise (List.replicate 64 zSt) fxa, 1⟩
def fx3 : SM := ⟨[], raise (List.replicate 64 zSt) fxa, 1⟩
theorem fl0 (k : Nat) : flAt (List.replicate 64 zSt) k = zSt := by
  unfold flAt
  rw [List.getD_eq_getElem?_getD, List.getElem?_replicate]
  split <;> rfl
theorem fx_may : mayB fxa = true ∧ mayB fxb = true := by
  have e : emptyB ⟨#[]⟩ = true := by unfold emptyB; rw [Lib.toList_data]; rfl
  have ka : keyB fxa.f0 = true := by kernel_rfl
  have kb : keyB fxb.f0 = true := by kernel_rfl
  constructor
  · unfold mayB; rw [ka]; show (_ && (_ || (_ && _ && _ && emptyB ⟨#[]⟩))) = true; rw [e]; rfl
  · unfold mayB; rw [kb]; show (_ && (_ || (_ && _ && _ && emptyB ⟨#[]⟩))) = true; rw [e]; rfl
theorem fx_put1 : putF fxc fx0 fxa 5 = (true, 0, fx1) := by
  rw [putF_none fx_may.1 (by decide) rfl]
  show (if hlcF fxa.f1 (flAt (List.replicate 64 zSt) (rgN fxa.f0)) ≤ 0 then _ else _) = _
  rw [fl0, if_neg (by decide), if_neg (by decide)]
  rfl
theorem fx_put2 : putF fxc fx1 fxb 5 = (true, 0, fx2) := by
  rw [putF_none fx_may.2 (by decide) rfl]
  show (if hlcF fxb.f1 (flAt (List.replicate 64 zSt) (rgN fxb.f0)) ≤ 0 then _ else _) = _
  rw [fl0, if_neg (by decide), if_neg (by decide)]
  rfl
theorem fx_put3 : putF fxc fx2 fxa 5 = (false, 8, fx2) := by
  rw [putF_none fx_may.1 (by decide) rfl]
  have h : flAt fx2.F (rgN fxa.f0) = fxa.f1 := by
    show flAt (raise (List.replicate 64 zSt) fxa) (rgN fxa.f0) = _
    unfold raise
    rw [fl0, if_pos (by decide)]
    unfold flAt
    rw [List.getD_eq_getElem?_getD, List.getElem?_set_self (by rw [List.length_replicate]; exact rgN_lt _)]
    rfl
  rw [h, if_pos (by decide)]
theorem fx_purge : purM fxc fx2 14 = fx3 := rfl
set_option maxRecDepth 100000 in
set_option maxHeartbeats 8000000 in
theorem fixed_c (w : World) : Calls Try.prog 9 #[] w fun e w' => e = .returned (.bool true) ∧ Below w.heap.size w w' := by
  have HN := Lib.hid (snew_st (St.nil (fun _ => False) w) fxc (by decide))
  go_enter Try.func9, Try.ntmps9
  go_upto_region 6 with (go_at_call 8; refine HN.out.mono ?_; rintro e w1 ⟨g, S, rfl, h1⟩)
  have S2 := (h1.new' #[.string ⟨#[97]⟩, .int .u64 5, .int .u32 0, .int .u8 0, .int .u8 2, .int .u32 0, .int .u64 0, .string ⟨#[]⟩] 37 w1.heap.size rfl).new' #[.string ⟨#[98]⟩, .int .u64 4, .int .u32 0, .int .u8 0, .int .u8 2, .int .u32 0, .int .u64 0, .string ⟨#[]⟩] 37 (w1.heap.size + 1) (by simp)
  obtain ⟨z, hz⟩ : ∃ z, w1.heap.size = z := ⟨_, rfl⟩
  rw [hz] at S2 ⊢
  clear hz
  generalize (World.alloc w1 _).alloc _ = w2 at *
  have S2' : St (fun _ => False) w w2 [sO g S fxc fx0, blk z (eRc fxa).toArray 37, blk (z + 1) (eRc fxb).toArray 37] := S2
  have HP := Lib.hid (put_o S2' (i := 0) rfl fxa 5 (by decide) (by decide) (by decide))
  rw [fx_put1] at HP
  obtain ⟨a0, a1, a2, a3, a4, a5, a6, a7⟩ : w2.cell? ⟨z, 0, none⟩ = some (.string ⟨#[97]⟩) ∧ w2.cell? ⟨z, 1, none⟩ = some (.int .u64 5) ∧ w2.cell? ⟨z, 2, none⟩ = some (.int .u32 0) ∧ w2.cell? ⟨z, 3, none⟩ = some (.int .u8 0) ∧ w2.cell? ⟨z, 4, none⟩ = some (.int .u8 2) ∧ w2.cell? ⟨z, 5, none⟩ = some (.int .u32 0) ∧ w2.cell? ⟨z, 6, none⟩ = some (.int .u64 0) ∧ w2.cell? ⟨z, 7, none⟩ = some (.string ⟨#[]⟩) :=
    ⟨blk_cell (S2'.get 1 rfl) 0, blk_cell (S2'.get 1 rfl) 1, blk_cell (S2'.get 1 rfl) 2, blk_cell (S2'.get 1 rfl) 3, blk_cell (S2'.get 1 rfl) 4, blk_cell (S2'.get 1 rfl) 5, blk_cell (S2'.get 1 rfl) 6, blk_cell (S2'.get 1 rfl) 7⟩
  clear S2 S2' h1 HN
  go_upto_region 7 with (go_at_call 11; refine HP.out.mono ?_; rintro e w3 ⟨rfl, S3, h3⟩)
  have S3' : St (fun _ => False) w w3 [sO g S3 fxc fx1, blk z (eRc fxa).toArray 37, blk (z + 1) (eRc fxb).toArray 37] := h3
  have HP2 := Lib.hid (put_o S3' (i := 0) rfl fxb 5 (by decide) (by decide) (by decide))
  rw [fx_put2] at HP2
  clear a0 a1 a2 a3 a4 a5 a6 a7 h3 HP
  obtain ⟨a0, a1, a2, a3, a4, a5, a6, a7⟩ : w3.cell? ⟨z + 1, 0, none⟩ = some (.string ⟨#[98]⟩) ∧ w3.cell? ⟨z + 1, 1, none⟩ = some (.int .u64 4) ∧ w3.cell? ⟨z + 1, 2, none⟩ = some (.int .u32 0) ∧ w3.cell? ⟨z + 1, 3, none⟩ = some (.int .u8 0) ∧ w3.cell? ⟨z + 1, 4, none⟩ = some (.int .u8 2) ∧ w3.cell? ⟨z + 1, 5, none⟩ = some (.int .u32 0) ∧ w3.cell? ⟨z + 1, 6, none⟩ = some (.int .u64 0) ∧ w3.cell? ⟨z + 1, 7, none⟩ = some (.string ⟨#[]⟩) :=
    ⟨blk_cell (S3'.get 2 rfl) 0, blk_cell (S3'.get 2 rfl) 1, blk_cell (S3'.get 2 rfl) 2, blk_cell (S3'.get 2 rfl) 3, blk_cell (S3'.get 2 rfl) 4, blk_cell (S3'.get 2 rfl) 5, blk_cell (S3'.get 2 rfl) 6, blk_cell (S3'.get 2 rfl) 7⟩
  clear S3'
  go_upto_region 8 with (go_at_call 11; refine HP2.out.mono ?_; rintro e w4 ⟨rfl, S4, h4⟩)
  have S4' : St (fun _ => False) w w4 [sO g S4 fxc fx2, blk z (eRc fxa).toArray 37, blk (z + 1) (eRc fxb).toArray 37] := h4
  have HP3 := Lib.hid (put_o S4' (i := 0) rfl fxa 5 (by decide) (by decide) (by decide))
  rw [fx_put3] at HP3
  clear a0 a1 a2 a3 a4 a5 a6 a7 h4 HP2
  obtain ⟨a0, a1, a2, a3, a4, a5, a6, a7⟩ : w4.cell? ⟨z, 0, none⟩ = some (.string ⟨#[97]⟩) ∧ w4.cell? ⟨z, 1, none⟩ = some (.int .u64 5) ∧ w4.cell? ⟨z, 2, none⟩ = some (.int .u32 0) ∧ w4.cell? ⟨z, 3, none⟩ = some (.int .u8 0) ∧ w4.cell? ⟨z, 4, none⟩ = some (.int .u8 2) ∧ w4.cell? ⟨z, 5, none⟩ = some (.int .u32 0) ∧ w4.cell? ⟨z, 6, none⟩ = some (.int .u64 0) ∧ w4.cell? ⟨z, 7, none⟩ = some (.string ⟨#[]⟩) :=
    ⟨blk_cell (S4'.get 1 rfl) 0, blk_cell (S4'.get 1 rfl) 1, blk_cell (S4'.get 1 rfl) 2, blk_cell (S4'.get 1 rfl) 3, blk_cell (S4'.get 1 rfl) 4, blk_cell (S4'.get 1 rfl) 5, blk_cell (S4'.get 1 rfl) 6, blk_cell (S4'.get 1 rfl) 7⟩
  clear S4'
  go_upto_region 9 with (go_at_call 11; refine HP3.out.mono ?_; rintro e w5 ⟨rfl, S5, h5⟩)
  have S5' : St (fun _ => False) w w5 [sO g S5 fxc fx2, blk z (eRc fxa).toArray 37, blk (z + 1) (eRc fxb).toArray 37] := h5
  have HPG := Lib.hid (purge_o S5' (i := 0) rfl 14)
  unfold purgePost at HPG
  rw [fx_purge] at HPG
  clear a0 a1 a2 a3 a4 a5 a6 a7 h5 HP3 S5'
  have HL : Hid (∀ w6 S6, St (fun _ => False) w w6 [sO g S6 fxc fx3, blk z (eRc fxa).toArray 37, blk (z + 1) (eRc fxb).toArray 37] → (Calls Try.prog 17 #[.pointer (some ⟨g, 0, none⟩)] w6 fun e w' => e = .returned (.int .i64 0) ∧ w' = w6) ∧ (Calls Try.prog 23 #[.pointer (some ⟨g, 0, none⟩)] w6 fun e w' => e = .returned (.int .i64 1) ∧ w' = w6)) :=
    Lib.hid fun w6 S6 h6 => ⟨slen_c (h6.get 0 rfl), sev_c (h6.get 0 rfl)⟩
  go_wp2_with (first | (go_at_call 13; refine HPG.out.mono ?_; rintro e w6 ⟨rfl, S6, h6⟩; have HL6 := Lib.hid (HL.out w6 S6 h6); have HB := Lib.hid h6.base; clear h6) | (go_at_call 17; refine HL6.out.1.mono ?_; rintro e w7 ⟨rfl, rfl⟩) | (go_at_call 23; refine HL6.out.2.mono ?_; rintro e w7 ⟨rfl, rfl⟩))
  go_ret
  exact ⟨rfl, HB.out⟩
end Go.Proofs.Ytecgnfklfgjgaaa
