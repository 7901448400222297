/- Several texts put together. -/
import Derived.Test.YtjhmkmcongjngaaZL
import Derived.StillTailTactics
set_option linter.unusedVariables false
set_option linter.unusedSimpArgs false
/- Doubts: how they begin and end. -/
set_option linter.unusedVariables false
set_option linter.unusedSimpArgs false
namespace Go.Proofs.Ytjhmkmcongjngaa
open Go.RowKit Go.Tat Go.Proofs.YtjhmkmcongjngaaW.PrintWords
structure Db where
  inc : Int
  over : Int
structure Bg where
  inc : Int
  t : Int
def evD (x : Db) : Value := .agg #[.int .u32 x.inc, .int .u64 x.over]
def evB (x : Bg) : Value := .agg #[.int .i64 0, .int .u8 0, .int .u32 x.inc, .int .u64 x.t]
theorem keysU : KeyLaw Try.prog 5 (Value.int .u8) := KeyLaw.int Try.underlying5
theorem zero94 : (Try.prog.info? 94).map (·.zero) = some (some (evD ⟨0, 0⟩)) := by kernel_rfl
theorem zero64 : (Try.prog.info? 64).map (·.zero) = some (some (evB ⟨0, 0⟩)) := by kernel_rfl
abbrev eu8 : Int → Value := Value.int .u8
/-- The doubts at gd, their map at mb. -/
abbrev DO (F : Nat → Prop) (W w : World) (gd mb n : Nat) (M : List (Int × Db)) : Prop := St F W w [blk gd #[.int .u64 n, .map (some mb)] 92, mapA mb eu8 evD M]
def two2 (gd mb : Nat) (k : Nat) : Prop := k = gd ∨ k = mb
theorem DO.lift {W w w' : World} {gd mb n : Nat} {M M' : List (Int × Db)} {X : List Asr} (h : St (fun _ => False) W w (blk gd #[.int .u64 n, .map (some mb)] 92 :: mapA mb eu8 evD M :: X)) (h' : DO (two2 gd mb) w w' gd mb n M') : St (fun _ => False) W w' (blk gd #[.int .u64 n, .map (some mb)] 92 :: mapA mb eu8 evD M' :: X) := by
  have d1 := List.pairwise_cons.1 h.sat.dis
  have d2 := List.pairwise_cons.1 d1.2
  refine ⟨⟨fun a ha => ?_, List.Pairwise.cons (fun b hb => ?_) (List.Pairwise.cons (fun b hb => d2.1 b hb) d2.2)⟩, fun a ha k hk hl => ?_, h.mod.trans' h'.mod fun k hl hk => ?_⟩
  · rcases List.mem_cons.1 ha with rfl | hx
    · exact h'.get 0 rfl
    · rcases List.mem_cons.1 hx with rfl | hy
      · exact h'.get 1 rfl
      · have hh := h.sat.all a (by simp [hy])
        refine a.loc hh fun k hk => h'.mod.block k (a.lt hh hk) ?_
        rintro (rfl | rfl)
        · exact d1.1 a (by simp [hy]) _ rfl hk
        · exact d2.1 a hy _ rfl hk
  · rcases List.mem_cons.1 hb with rfl | hb'
    · exact d1.1 (mapA mb eu8 evD M) (by simp)
    · exact d1.1 b (by simp [hb'])
  · rcases List.mem_cons.1 ha with rfl | hx
    · exact h.inn _ (by simp) k hk hl
    · rcases List.mem_cons.1 hx with rfl | hy
      · exact h.inn (mapA mb eu8 evD M) (by simp) k hk hl
      · exact h.inn a (by simp [hy]) k hk hl
  · rcases hk with rfl | rfl
    · exact h.inn (blk k #[.int .u64 n, .map (some mb)] 92) (by simp) k rfl hl
    · exact h.inn (mapA k eu8 evD M) (by simp) k rfl hl
theorem DO.start {F : Nat → Prop} {W w : World} {gd mb n : Nat} {M : List (Int × Db)} {X : List Asr} (h : St F W w (blk gd #[.int .u64 n, .map (some mb)] 92 :: mapA mb eu8 evD M :: X)) : DO (two2 gd mb) w w gd mb n M := by
  have d1 := List.pairwise_cons.1 h.sat.dis
  refine St.start ⟨fun a ha => h.sat.all a ?_, List.Pairwise.cons (fun b hb => ?_) (List.pairwise_singleton _ _)⟩ fun a ha k hk => ?_
  · simp only [List.mem_cons, List.not_mem_nil, or_false] at ha
    rcases ha with rfl | rfl <;> simp
  · rw [List.mem_singleton.1 hb]; exact d1.1 _ (by simp)
  · simp only [List.mem_cons, List.not_mem_nil, or_false] at ha
    rcases ha with rfl | rfl
    · exact .inl hk
    · exact .inr hk
def begR (M : List (Int × Db)) (node inc : Int) : Bool := match mget M node with | some x => decide (x.inc < inc) | none => true
def endR (M : List (Int × Db)) (node inc : Int) : Bool := match mget M node with | some x => decide (x.inc < inc) | none => false
def begPost (w : World) (gd mb n : Nat) (M : List (Int × Db)) (r : Bool) (e : Ending) (w' : World) : Prop := e = .returned (.bool r) ∧ DO (two2 gd mb) w w' gd mb n M
set_option maxRecDepth 100000 in
set_option maxHeartbeats 4000000 in
theorem end_c (gd mb n : Nat) (M : List (Int × Db)) (w : World) (h : DO (two2 gd mb) w w gd mb n M) (node inc : Int) :
    Calls Try.prog 21 #[.pointer (some ⟨gd, 0, none⟩), .int .u8 node, .int .u32 inc] w (begPost w gd mb n (if endR M node inc then mdel M node else M) (endR M node inc)) := by
  have H0 := Lib.hid h
  have c1 : w.cell? ⟨gd, 1, none⟩ = some (.map (some mb)) := h.cell 0 rfl 1
  obtain ⟨r, hr⟩ : ∃ r, endR M node inc = r := ⟨_, rfl⟩
  rw [hr]
  unfold endR at hr
  rcases hm : mget M node with _ | x
  · rw [hm] at hr
    dsimp only at hr
    subst hr
    have hlk := (MapAt.look (t := 90) Try.underlying90 keysU (h.get 1 rfl) node _ zero94 none hm (evD ⟨0, 0⟩) rfl).2
    unfold evD at hlk
    clear h hm
    go_enter Try.func21, Try.ntmps21
    go_upto_region 4 with (first
      | (refine St.wpAlloc rfl 94 rfl _ _ zero94 rfl H0.out ?_; intro z w1 H1)
      | (refine St.wpStoreA rfl 94 _ _ rfl H1.out 2 rfl #[.int .u32 0, .int .u64 0] rfl (by simp [Value.oneCell']) rfl rfl (by kernel_rfl) ?_; intro w2 H2))
    clear hlk c1 H1
    go_wp2_with fail
    go_ret
    exact ⟨rfl, H2.out.drop 2⟩
  · obtain ⟨xi, xo⟩ := x
    rw [hm] at hr
    dsimp only at hr
    have hlk := (MapAt.look (t := 90) Try.underlying90 keysU (h.get 1 rfl) node _ zero94 (some ⟨xi, xo⟩) hm (evD ⟨xi, xo⟩) rfl).2
    unfold evD at hlk
    clear h hm
    go_enter Try.func21, Try.ntmps21
    go_upto_region 4 with (first
      | (refine St.wpAlloc rfl 94 rfl _ _ zero94 rfl H0.out ?_; intro z w1 H1)
      | (refine St.wpStoreA rfl 94 _ _ rfl H1.out 2 rfl #[.int .u32 xi, .int .u64 xo] rfl (by simp [Value.oneCell']) rfl rfl (by kernel_rfl) ?_; intro w2 H2))
    clear hlk c1 H1
    have d0 : w2.cell? ⟨z, 0, none⟩ = some (.int .u32 xi) := H2.out.cell 2 rfl 0
    have c1 : w2.cell? ⟨gd, 1, none⟩ = some (.map (some mb)) := H2.out.cell 0 rfl 1
    by_cases hlt : xi < inc
    · have hr' : r = true := by rw [← hr]; simpa using hlt
      subst hr'
      have hge : ¬ inc ≤ xi := by omega
      clear hr
      go_wp2_with (refine wpList_mapDelete rfl 90 5 94 _ _ rfl Try.underlying90 keysU evD mb M (H2.out.get 1 rfl) node rfl rfl ?_; intro w3 M3 m3)
      have S3 := H2.out.upd 1 rfl m3 (a' := mapA mb eu8 evD (mdel M node)) M3 (fun k h => .inl h)
      have H3 := Lib.hid (S3.drop 2)
      clear S3 M3 m3 d0 c1
      go_wp2_with fail
      go_ret
      exact ⟨rfl, H3.out⟩
    · have hr' : r = false := by rw [← hr]; simpa using hlt
      subst hr'
      have hge : inc ≤ xi := by omega
      clear hr
      go_wp2_with fail
      go_ret
      exact ⟨rfl, H2.out.drop 2⟩
theorem over_w (now : Int) (n : Nat) (h : 0 ≤ now ∧ now ≤ 1000000) (hn : n ≤ 1000) : IntKind.u64.wrap (now + min (n : Int) (IntKind.u64.wrap (18446744073709551615 - now))) = now + n := by
  have e : IntKind.u64.wrap (18446744073709551615 - now) = 18446744073709551615 - now := by rw [IntKind.wrap_u64]; omega
  rw [e, Int.min_def, if_pos (by omega), IntKind.wrap_u64]
  omega
set_option maxRecDepth 100000 in
set_option maxHeartbeats 4000000 in
theorem begin_c (gd mb n : Nat) (hn : n ≤ 1000) (M : List (Int × Db)) (w : World) (h : DO (two2 gd mb) w w gd mb n M) (node inc now : Int) (hnow : 0 ≤ now ∧ now ≤ 1000000) :
    Calls Try.prog 20 #[.pointer (some ⟨gd, 0, none⟩), .int .u8 node, .int .u32 inc, .int .u64 now] w (begPost w gd mb n (if begR M node inc then mput M node ⟨inc, now + n⟩ else M) (begR M node inc)) := by
  have H0 := Lib.hid h
  have c1 : w.cell? ⟨gd, 1, none⟩ = some (.map (some mb)) := h.cell 0 rfl 1
  obtain ⟨r, hr⟩ : ∃ r, begR M node inc = r := ⟨_, rfl⟩
  rw [hr]
  unfold begR at hr
  have hnow0 := hnow.1
  have hnow1 := hnow.2
  have HW := Lib.hid (over_w now n hnow hn)
  rcases hm : mget M node with _ | x
  · rw [hm] at hr
    dsimp only at hr
    subst hr
    have hlk := (MapAt.look (t := 90) Try.underlying90 keysU (h.get 1 rfl) node _ zero94 none hm (evD ⟨0, 0⟩) rfl).2
    unfold evD at hlk
    clear h hm
    go_enter Try.func20, Try.ntmps20
    go_upto_region 4 with (first
      | (refine St.wpAlloc rfl 94 rfl _ _ zero94 rfl H0.out ?_; intro z w1 H1)
      | (refine St.wpStoreA rfl 94 _ _ rfl H1.out 2 rfl #[.int .u32 0, .int .u64 0] rfl (by simp [Value.oneCell']) rfl rfl (by kernel_rfl) ?_; intro w2 H2))
    clear hlk c1 H1
    have c0 : w2.cell? ⟨gd, 0, none⟩ = some (.int .u64 n) := H2.out.cell 0 rfl 0
    have c1 : w2.cell? ⟨gd, 1, none⟩ = some (.map (some mb)) := H2.out.cell 0 rfl 1
    have H3 := Lib.hid H2.out.drew
    go_upto_region 6 with fail
    go_still_tail 16, (by kernel_rfl)
    change wpList _ _ _ _ _ w2.drew
    refine wpList_mapUpdate rfl 90 5 94 _ _ _ rfl Try.underlying90 keysU evD mb M (H3.out.get 1 rfl) node ⟨inc, IntKind.u64.wrap (now + min (n : Int) (IntKind.u64.wrap (18446744073709551615 - now)))⟩ rfl rfl rfl ?_
    intro w4 M4 m4
    rw [HW.out] at M4
    have S4 := H3.out.upd 1 rfl m4 (a' := mapA mb eu8 evD (mput M node ⟨inc, now + n⟩)) M4 (fun k h => .inl h)
    have H4 := Lib.hid (S4.drop 2)
    clear S4 M4 m4 c0 c1 H3 H2
    go_wp2_with fail
    go_ret
    exact ⟨rfl, H4.out⟩
  · obtain ⟨xi, xo⟩ := x
    rw [hm] at hr
    dsimp only at hr
    have hlk := (MapAt.look (t := 90) Try.underlying90 keysU (h.get 1 rfl) node _ zero94 (some ⟨xi, xo⟩) hm (evD ⟨xi, xo⟩) rfl).2
    unfold evD at hlk
    clear h hm
    go_enter Try.func20, Try.ntmps20
    go_upto_region 4 with (first
      | (refine St.wpAlloc rfl 94 rfl _ _ zero94 rfl H0.out ?_; intro z w1 H1)
      | (refine St.wpStoreA rfl 94 _ _ rfl H1.out 2 rfl #[.int .u32 xi, .int .u64 xo] rfl (by simp [Value.oneCell']) rfl rfl (by kernel_rfl) ?_; intro w2 H2))
    clear hlk c1 H1
    have d0 : w2.cell? ⟨z, 0, none⟩ = some (.int .u32 xi) := H2.out.cell 2 rfl 0
    by_cases hlt : xi < inc
    · have hr' : r = true := by rw [← hr]; simpa using hlt
      subst hr'
      have hge : ¬ inc ≤ xi := by omega
      clear hr
      have c0 : w2.cell? ⟨gd, 0, none⟩ = some (.int .u64 n) := H2.out.cell 0 rfl 0
      have c1 : w2.cell? ⟨gd, 1, none⟩ = some (.map (some mb)) := H2.out.cell 0 rfl 1
      have H3 := Lib.hid H2.out.drew
      go_upto_region 6 with fail
      go_still_tail 16, (by kernel_rfl)
      change wpList _ _ _ _ _ w2.drew
      refine wpList_mapUpdate rfl 90 5 94 _ _ _ rfl Try.underlying90 keysU evD mb M (H3.out.get 1 rfl) node ⟨inc, IntKind.u64.wrap (now + min (n : Int) (IntKind.u64.wrap (18446744073709551615 - now)))⟩ rfl rfl rfl ?_
      intro w4 M4 m4
      rw [HW.out] at M4
      have S4 := H3.out.upd 1 rfl m4 (a' := mapA mb eu8 evD (mput M node ⟨inc, now + n⟩)) M4 (fun k h => .inl h)
      have H4 := Lib.hid (S4.drop 2)
      clear S4 M4 m4 c0 c1 H3 H2
      go_wp2_with fail
      go_ret
      exact ⟨rfl, H4.out⟩
    · have hr' : r = false := by rw [← hr]; simpa using hlt
      subst hr'
      have hge : inc ≤ xi := by omega
      clear hr
      go_wp2_with fail
      go_ret
      exact ⟨rfl, H2.out.drop 2⟩
end Go.Proofs.Ytjhmkmcongjngaa
/- Doubts: those that are over. -/
set_option linter.unusedVariables false
set_option linter.unusedSimpArgs false
namespace Go.Proofs.Ytjhmkmcongjngaa
open Go.RowKit Go.Tat Go.Proofs.YtjhmkmcongjngaaW.PrintWords
theorem fold_mdel {ν : Type} (l : List Int) : ∀ (M : List (Int × ν)), (M.map (·.1)).Nodup → ((l.foldl mdel M).map (·.1)).Nodup ∧ ∀ x, mget (l.foldl mdel M) x = if x ∈ l then none else mget M x := by
  induction l with
  | nil => intro M h; exact ⟨h, fun x => by simp⟩
  | cons a l ih =>
    intro M h
    obtain ⟨h1, h2⟩ := ih (mdel M a) (mdel_nodup h)
    refine ⟨h1, fun x => ?_⟩
    show mget (l.foldl mdel (mdel M a)) x = _
    rw [h2 x, mget_mdel h]
    by_cases hx : x ∈ l
    · simp [hx]
    · by_cases ha : x = a
      · simp [ha]
      · simp [hx, ha]
/-- What is told of one that is over: a node, dead, with its incarnation. -/
def eN (x : Int × Int) : List Value := [.int .u8 x.1, .int .u8 3, .int .u32 x.2]
theorem eN_len (x : Int × Int) : (eN x).length = 3 := rfl
theorem eN_one (x : Int × Int) : ∀ u ∈ eN x, u.oneCell' = true := by
  intro u hu
  unfold eN at hu
  simp only [List.mem_cons, List.not_mem_nil, or_false] at hu
  rcases hu with rfl | rfl | rfl <;> rfl
def kN : Kd (Int × Int) := kEnc 3 eN eN_len eN_one
theorem flN : Flat kN eN := flEnc 3 eN eN_len eN_one
theorem infoN : (Try.prog.info? 72).map (fun i => (i.zero, i.size, i.bytes)) = some (some (.agg #[.int .u8 0, .int .u8 0, .int .u32 0]), 3, 12) := by kernel_rfl
theorem infoU8 : (Try.prog.info? 5).map (fun i => (i.zero, i.size, i.bytes)) = some (some (.int .u8 0), 1, 1) := by kernel_rfl
def incOf (M : List (Int × Db)) (k : Int) : Int := ((mget M k).getD ⟨0, 0⟩).inc
def newsOf (M : List (Int × Db)) (l : List Int) : List (Int × Int) := l.map fun k => (k, incOf M k)
def OverOk (M : List (Int × Db)) (now : Int) (l : List Int) : Prop := l.Nodup ∧ (∀ k ∈ l, ∃ x, mget M k = some x ∧ x.over ≤ now) ∧ l.length ≤ 1000
def overPost (w : World) (gd mb n : Nat) (M : List (Int × Db)) (now : Int) (e : Ending) (w' : World) : Prop := ∃ v l, e = .returned v ∧ OverOk M now l ∧ St (two2 gd mb) w w' [blk gd #[.int .u64 n, .map (some mb)] 92, mapA mb eu8 evD (l.foldl mdel M), slc kN 72 v (newsOf M l)]
def newPost2 (F : Nat → Prop) (w0 : World) (n : Nat) (e : Ending) (w' : World) : Prop := ∃ gd mb, e = .returned (.tuple #[.pointer (some ⟨gd, 0, none⟩), .int .i64 0]) ∧ DO F w0 w' gd mb n []
set_option maxRecDepth 100000 in
theorem newd_c {F : Nat → Prop} {w0 w : World} (h : St F w0 w []) (n : Nat) (h1 : 1 ≤ n) (h2 : n ≤ 1000) : Calls Try.prog 19 #[.int .i64 n] w (newPost2 F w0 n) := by
  have H0 := Lib.hid h
  have b1 : (1 : Int) ≤ (n : Int) := by omega
  have b2 : (n : Int) ≤ 1000 := by omega
  clear h h1 h2
  go_enter Try.func19, Try.ntmps19
  go_wp2_with (refine wpList_makeMap rfl 90 rfl eu8 evD ?_; intro hM)
  have S1 := H0.out.add (a := mapA w.heap.size eu8 evD ([] : List (Int × Db))) ((Below.refl _ _).alloc (Nat.le_refl _) _) hM (fun k h => Nat.le_of_eq h.symm)
  have S2 := S1.new' #[.int .u64 n, .map (some w.heap.size)] 92 (w.heap.size + 1) (by simp)
  have H2 := Lib.hid (S2.perm (List.Perm.swap _ _ _))
  go_ret2
  exact ⟨_, _, rfl, H2.out⟩
set_option maxRecDepth 100000 in
set_option maxHeartbeats 8000000 in
theorem over_c (gd mb n : Nat) (M : List (Int × Db)) (hml : M.length ≤ 1000) (w : World) (h : DO (two2 gd mb) w w gd mb n M) (now : Int) :
    Calls Try.prog 22 #[.pointer (some ⟨gd, 0, none⟩), .int .u64 now] w (overPost w gd mb n M now) := by
  have H0 := Lib.hid h
  have HND := Lib.hid ((h.get 1 rfl : MapAt w mb eu8 evD M).nd)
  have c1 : w.cell? ⟨gd, 1, none⟩ = some (.map (some mb)) := h.cell 0 rfl 1
  clear h
  go_enter Try.func22, Try.ntmps22
  go_wp2_with (refine wpList_range rfl 90 5 94 _ rfl Try.underlying90 eu8 evD mb M (H0.out.get 1 rfl) rfl ?_; intro r w1 hr hR mR _)
  have S1 := (H0.out.ranged 1 rfl hr hR mR).nils (Kd.int .u8) 5
  have H1 := Lib.hid (show St (two2 gd mb) w w1 [blk gd #[.int .u64 n, .map (some mb)] 92, rngA mb r eu8 evD M (fun _ => true), slc (Kd.int .u8) 5 (.slice none 0 0) []] from S1)
  clear S1 hr hR mR c1
  simp only [Act.put, List.setIfInBounds_toArray, List.set_cons_zero, List.set_cons_succ]
  go_loopg [5] (cntL M (fun _ => true) + 1) (fun m v5 wx => ∃ (left : Int → Bool) (l : List Int), cntL M left < m ∧ l.length + cntL M left ≤ M.length ∧ l.Nodup ∧ (∀ k ∈ l, left k = false ∧ ∃ x, mget M k = some x ∧ x.over ≤ now) ∧ St (two2 gd mb) w wx [blk gd #[.int .u64 n, .map (some mb)] 92, rngA mb r eu8 evD M left, slc (Kd.int .u8) 5 v5 l])
  case atStart => exact ⟨_, [], Nat.lt_succ_self _, by show 0 + _ ≤ _; rw [Nat.zero_add]; exact List.length_filter_le _ _, List.nodup_nil, by simp, H1.out⟩
  case round =>
    clear H1
    obtain ⟨left, l, hcm, hll, hnd, hok, S2⟩ := hrel
    obtain ⟨vA, vc, rfl⟩ := Kd.R_slice (S2.get 2 rfl).1
    have H2 := Lib.hid S2
    have HC := Lib.hid (And.intro hcm (And.intro hll (And.intro hnd hok)))
    have hl1 : l.length ≤ 1000 := by omega
    clear S2 hcm hll hnd hok
    go_wp2_with (refine wpList_next rfl _ rfl eu8 evD mb r M left rfl (H2.out.get 1 rfl) ?_ ?_)
    · intro hdone
      clear hdone
      have H3 := Lib.hid (show St (two2 gd mb) w wr [blk gd #[.int .u64 n, .map (some mb)] 92, mapA mb eu8 evD M, slc (Kd.int .u8) 5 (.slice vA l.length vc) l] from H2.out.unranged 1 rfl)
      have HS := Lib.hid (sort_st H3.out 2 rfl (by omega))
      clear H2
      go_wp2_with fail
      refine HS.out.mono ?_
      rintro e w4 ⟨rfl, l2, hp, S4⟩
      have hlen : l2.length = l.length := hp.length_eq
      have HK := Lib.hid (show OverOk M now l2 ∧ l2.length ≤ 1000 from ⟨⟨hp.nodup_iff.2 HC.out.2.2.1, fun k hk => (HC.out.2.2.2 k (hp.mem_iff.1 hk)).2, by omega⟩, by omega⟩)
      have S5 := (show St (two2 gd mb) w w4 [blk gd #[.int .u64 n, .map (some mb)] 92, mapA mb eu8 evD M, slc (Kd.int .u8) 5 (.slice vA l.length vc) l2] from S4).nils kN 72
      rw [← hlen] at S5 ⊢
      have H5 := Lib.hid (show St (two2 gd mb) w w4 [blk gd #[.int .u64 n, .map (some mb)] 92, mapA mb eu8 evD M, slc (Kd.int .u8) 5 (.slice vA l2.length vc) l2, slc kN 72 (.slice none 0 0) []] from S5)
      clear S4 S5 HS H3 hp hlen HC hl1
      go_wp2_with fail
      go_loopg [8, 35] (l2.length + 1) (fun m v8 v35 wx => ∃ (j : Nat), v35 = .int .i64 j ∧ l2.length - j < m ∧ j ≤ l2.length ∧ St (two2 gd mb) w wx [blk gd #[.int .u64 n, .map (some mb)] 92, mapA mb eu8 evD ((l2.take j).foldl mdel M), slc (Kd.int .u8) 5 (.slice vA l2.length vc) l2, slc kN 72 v8 (newsOf M (l2.take j))])
      case atStart => exact ⟨0, rfl, by omega, by omega, H5.out⟩
      case round =>
        clear H5
        obtain ⟨j, rfl, hjm, hj, S6⟩ := hrel
        obtain ⟨O, hO⟩ : ∃ O, newsOf M (l2.take j) = O := ⟨_, rfl⟩
        have hOl : O.length ≤ j := by rw [← hO]; unfold newsOf; rw [List.length_map, List.length_take]; omega
        rw [hO] at S6
        have HO := Lib.hid hO
        have HJ := Lib.hid (And.intro hjm hj)
        clear hO hjm
        obtain ⟨vO, cO, rfl⟩ := Kd.R_slice (S6.get 3 rfl).1
        by_cases hjl : j < l2.length
        · have hjl' : (j : Int) < (l2.length : Int) := by omega
          have hj0 : (0 : Int) ≤ (j : Int) := by omega
          have hjb : (j : Int) < 1000000 := by have := HK.out.2; omega
          obtain ⟨k, hk⟩ : ∃ k, l2[j]? = some k := ⟨_, List.getElem?_eq_getElem hjl⟩
          obtain ⟨x, hx, _⟩ := HK.out.1.2.1 k (List.mem_of_getElem? hk)
          obtain ⟨xi, xo⟩ := x
          have hnt : k ∉ l2.take j := by
            intro hmem
            obtain ⟨i, hi⟩ := List.mem_iff_getElem?.1 hmem
            have hij : i < j := by
              have := (List.getElem?_eq_some_iff.1 hi).1
              rw [List.length_take] at this
              omega
            rw [List.getElem?_take_of_lt hij] at hi
            obtain ⟨h1, h2⟩ := List.getElem?_eq_some_iff.1 hi
            obtain ⟨h3, h4⟩ := List.getElem?_eq_some_iff.1 hk
            exact List.pairwise_iff_getElem.1 HK.out.1.1 i j h1 h3 hij (by rw [h2, h4])
          have hx' : mget ((l2.take j).foldl mdel M) k = some ⟨xi, xo⟩ := by rw [(fold_mdel (l2.take j) M HND.out).2 k, if_neg hnt]; exact hx
          have hlk := (MapAt.look (t := 90) Try.underlying90 keysU (S6.get 1 rfl) k _ zero94 (some ⟨xi, xo⟩) hx' (evD ⟨xi, xo⟩) rfl).1
          unfold evD at hlk
          dsimp only at hlk
          have HT := Lib.hid (show (l2.take (j + 1)).foldl mdel M = mdel ((l2.take j).foldl mdel M) k ∧ newsOf M (l2.take (j + 1)) = O ++ [(k, xi)] by
            rw [List.take_add_one, hk]
            refine ⟨by rw [List.foldl_append]; rfl, ?_⟩
            rw [← HO.out]
            unfold newsOf
            rw [List.map_append]
            show _ = _ ++ [(k, xi)]
            simp [incOf, hx])
          obtain ⟨gA, cA, hv, _, hcA⟩ := slc_form (S6.get 2 rfl) (by omega)
          injection hv with hv1 hvl hv2
          subst hv1; subst hv2
          have ck : wr.cell? ⟨gA, j, none⟩ = some (.int .u8 k) := slc_int (S6.get 2 rfl) hk
          have c1 : wr.cell? ⟨gd, 1, none⟩ = some (.map (some mb)) := S6.cell 0 rfl 1
          have HCAP := Lib.hid (show (O.length + 1) * 12 ≤ 140737488355328 by have := HK.out.2; omega)
          have H6 := Lib.hid S6
          clear S6 hx hx' hnt hk hvl hcA hOl hj
          have hfd : ∀ w : World, (Instr.field 94 (.agg #[.int .u32 xi, .int .u64 xo]) 0).run Try.prog w = .ok (.int .u32 xi) w := fun _ => by kernel_rfl
          go_wp2_with (at_builtin; go_loud (refine St.wp1 flN rfl _ _ 67 72 _ 12 rfl Try.underlying67 infoN rfl (by show 0 < 3; decide) (by decide) H6.out 3 rfl (k, xi) #[.int .u8 k, .int .u8 3, .int .u32 xi] rfl rfl rfl HCAP.out ?_))
          intro T2 A2 c2 w7 h7
          have HT2 := Lib.hid h7.out.1
          have H7 := Lib.hid h7.out.2
          have c1 : w7.cell? ⟨gd, 1, none⟩ = some (.map (some mb)) := h7.out.2.cell 0 rfl 1
          clear h7 hlk ck H6 hfd
          go_wp2_with (refine wpList_mapDelete rfl 90 5 94 _ _ rfl Try.underlying90 keysU evD mb _ (H7.out.get 1 rfl) k rfl rfl ?_; intro w8 M8 m8)
          have S8 := H7.out.upd 1 rfl m8 (a' := mapA mb eu8 evD ((l2.take (j + 1)).foldl mdel M)) (by rw [HT.out.1]; exact M8) (fun k h => .inl h)
          have H8 := Lib.hid S8
          clear S8 M8 m8 H7 c1
          go_roundg (l2.length - j)
          case measure => exact HJ.out.1
          case rel =>
            have := HJ.out.2
            refine ⟨j + 1, by go_num, by omega, by omega, ?_⟩
            rw [HT.out.2, ← HT2.out]
            exact H8.out
        · have hjl' : ¬ (j : Int) < (l2.length : Int) := by omega
          have hje : j = l2.length := by omega
          subst hje
          rw [List.take_length] at S6
          have HO2 := Lib.hid (show O = newsOf M l2 by rw [← HO.out, List.take_length])
          have H6 := Lib.hid (S6.drop 2)
          clear S6 hOl hj
          go_wp2_with fail
          go_ret
          exact ⟨_, l2, rfl, HK.out.1, HO2.out ▸ H6.out⟩
    · intro qk qv w3 hq hlq hR3 mR3 hen
      have S3 := H2.out.next 1 rfl hR3 mR3
      have H3 := Lib.hid (show St (two2 gd mb) w w3 [blk gd #[.int .u64 n, .map (some mb)] 92, rngA mb r eu8 evD M (fun k => left k && !decide (k = qk)), slc (Kd.int .u8) 5 (.slice vA l.length vc) l] from S3)
      obtain ⟨qi, qo⟩ := qv
      have hcl := cntL_lt (p := (qk, (⟨qi, qo⟩ : Db))) hq hlq
      have HQ := Lib.hid (show cntL M (fun k => left k && !decide (k = qk)) < cntL M left ∧ qk ∉ l ∧ mget M qk = some ⟨qi, qo⟩ from ⟨hcl, (fun hk => by have h9 := (HC.out.2.2.2 qk hk).1; rw [hlq] at h9; exact absurd h9 (by decide)), mget_mem HND.out hq⟩)
      unfold evD at hen
      dsimp only at hen
      have HCAP := Lib.hid (show (l.length + 1) * 1 ≤ 140737488355328 by omega)
      clear S3 H2 hcl hq hlq hR3 mR3
      go_upto_region 7 with (first
        | (refine St.wpAlloc rfl 94 rfl _ _ zero94 rfl H3.out ?_; intro z w4 H4)
        | (refine St.wpStoreA rfl 94 _ _ rfl H4.out 3 rfl #[.int .u32 qi, .int .u64 qo] rfl (by simp [Value.oneCell']) rfl rfl (by kernel_rfl) ?_; intro w5 H5))
      have d1 : w5.cell? ⟨z, 1, none⟩ = some (.int .u64 qo) := H5.out.cell 3 rfl 1
      clear hen H4 H3
      by_cases hov : qo ≤ now
      · go_wp2_with (at_builtin; go_loud (refine St.wp1 (flInt .u8) rfl _ _ 28 5 _ 1 rfl Try.underlying28 infoU8 rfl (by decide) (by decide) H5.out 2 rfl qk #[.int .u8 qk] rfl rfl rfl HCAP.out ?_))
        intro T2 A2 c2 w6 h6
        have HT2 := Lib.hid h6.out.1
        have H6 := Lib.hid (h6.out.2.drop 3)
        clear h6 d1 H5
        go_wp2_with fail
        go_roundg (cntL M left)
        case measure => exact HC.out.1
        case rel =>
          refine ⟨_, T2, HQ.out.1, ?_, ?_, ?_, H6.out⟩
          · rw [HT2.out, List.length_append]
            have h1 := HC.out.2.1
            have h2 := HQ.out.1
            simp only [List.length_singleton]
            omega
          · rw [HT2.out]
            refine List.nodup_append.2 ⟨HC.out.2.2.1, by simp, ?_⟩
            intro a ha b hb hab
            rw [List.mem_singleton.1 hb] at hab
            exact HQ.out.2.1 (hab ▸ ha)
          · intro k hk
            rw [HT2.out] at hk
            rcases List.mem_append.1 hk with hk | hk
            · have := HC.out.2.2.2 k hk
              exact ⟨by rw [this.1]; rfl, this.2⟩
            · rw [List.mem_singleton.1 hk]
              exact ⟨by simp, _, HQ.out.2.2, hov⟩
      · go_wp2_with fail
        go_roundg (cntL M left)
        case measure => exact HC.out.1
        case rel =>
          refine ⟨_, l, HQ.out.1, ?_, HC.out.2.2.1, ?_, H5.out.drop 3⟩
          · have h1 := HC.out.2.1
            have h2 := HQ.out.1
            omega
          · intro k hk
            have := HC.out.2.2.2 k hk
            exact ⟨by rw [this.1]; rfl, this.2⟩
end Go.Proofs.Ytjhmkmcongjngaa
