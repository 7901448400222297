import Derived.Test.YtgfkfmnncjjopaaLA
import Derived.Test.YtgfkfmnncjjopaaMod
import Derived.Test.YtgfkfmnncjjopaaLP
import Derived.StillTailTactics
import Derived.Lib.Hide
namespace Go.Proofs.Ytgfkfmnncjjopaa
open Go.RowKit Go.Tat
/-- The links' block: of each place whether it is there, the one ahead, the one behind. -/
def enc (len : Nat) (th : Nat → Bool) (pr sc : Nat → Nat) : Nat → Option Value := fun j =>
  if j / 3 < len then (if j % 3 = 0 then some (.bool (th (j / 3))) else if j % 3 = 1 then some (.int .i64 (pr (j / 3))) else some (.int .i64 (sc (j / 3)))) else none
theorem enc_0 {len : Nat} {th : Nat → Bool} {pr sc : Nat → Nat} {i : Nat} (h : i < len) : enc len th pr sc (i * 3) = some (.bool (th i)) := by
  unfold enc; rw [show i * 3 / 3 = i by omega, if_pos h, if_pos (by omega)]
theorem enc_1 {len : Nat} {th : Nat → Bool} {pr sc : Nat → Nat} {i : Nat} (h : i < len) : enc len th pr sc (i * 3 + 1) = some (.int .i64 (pr i)) := by
  unfold enc; rw [show (i * 3 + 1) / 3 = i by omega, if_pos h, if_neg (by omega), if_pos (by omega)]
theorem enc_2 {len : Nat} {th : Nat → Bool} {pr sc : Nat → Nat} {i : Nat} (h : i < len) : enc len th pr sc (i * 3 + 2) = some (.int .i64 (sc i)) := by
  unfold enc; rw [show (i * 3 + 2) / 3 = i by omega, if_pos h, if_neg (by omega), if_neg (by omega)]
theorem enc_set0 {len : Nat} {th : Nat → Bool} {pr sc : Nat → Nat} {i : Nat} (h : i < len) (v : Bool) : upd (enc len th pr sc) (i * 3) (.bool v) = enc len (fset th i v) pr sc := by
  funext j; unfold upd enc fset
  by_cases e : j = i * 3
  · subst e; rw [if_pos rfl, show i * 3 / 3 = i by omega, if_pos h, if_pos (by omega), if_pos rfl]
  · rw [if_neg e]; by_cases h3 : j % 3 = 0
    · rw [if_pos h3, if_pos h3, if_neg (by omega : ¬ j / 3 = i)]
    · rw [if_neg h3, if_neg h3]
theorem enc_set1 {len : Nat} {th : Nat → Bool} {pr sc : Nat → Nat} {i : Nat} (h : i < len) (v : Nat) : upd (enc len th pr sc) (i * 3 + 1) (.int .i64 v) = enc len th (fset pr i v) sc := by
  funext j; unfold upd enc fset
  by_cases e : j = i * 3 + 1
  · subst e; rw [if_pos rfl, show (i * 3 + 1) / 3 = i by omega, if_pos h, if_neg (by omega), if_pos (by omega), if_pos rfl]
  · rw [if_neg e]; by_cases h3 : j % 3 = 1
    · rw [if_neg (by omega : ¬ j % 3 = 0), if_pos h3, if_neg (by omega : ¬ j % 3 = 0), if_pos h3, if_neg (by omega : ¬ j / 3 = i)]
    · rw [if_neg h3, if_neg h3]
theorem enc_set2 {len : Nat} {th : Nat → Bool} {pr sc : Nat → Nat} {i : Nat} (h : i < len) (v : Nat) : upd (enc len th pr sc) (i * 3 + 2) (.int .i64 v) = enc len th pr (fset sc i v) := by
  funext j; unfold upd enc fset
  by_cases e : j = i * 3 + 2
  · subst e; rw [if_pos rfl, show (i * 3 + 2) / 3 = i by omega, if_pos h, if_neg (by omega), if_neg (by omega), if_pos rfl]
  · rw [if_neg e]; by_cases h0 : j % 3 = 0
    · rw [if_pos h0, if_pos h0]
    · by_cases h1 : j % 3 = 1
      · rw [if_neg h0, if_pos h1, if_neg h0, if_pos h1]
      · rw [if_neg (by omega : ¬ j / 3 = i)]
def lcells (b n cap : Nat) : Nat → Option Value := fun j => if j = 0 then some (.slice (some ⟨b, 0, none⟩) (n+1) cap) else if j = 1 then some (.int .i64 n) else none
/-- The list that lies at g. -/
structure LRep (w : World) (g b cap n : Nat) (S : LS) : Prop where
  ne : g ≠ b
  hg : Blk w g (lcells b n cap)
  hb : Blk w b (enc (n + 1) S.th S.pr S.sc)
section
variable {w w' : World} {g b cap n : Nat} {S : LS}
theorem LRep.c0 (h : LRep w g b cap n S) : w.cell? ⟨g, 0, none⟩ = some (.slice (some ⟨b, 0, none⟩) (n+1) cap) := h.hg.cell 0
theorem LRep.c1 (h : LRep w g b cap n S) : w.cell? ⟨g, 1, none⟩ = some (.int .i64 n) := h.hg.cell 1
theorem LRep.t (h : LRep w g b cap n S) {i : Nat} (hi : i ≤ n) : w.cell? ⟨b, i*3, none⟩ = some (.bool (S.th i)) := (h.hb.cell _).trans (enc_0 (by omega))
theorem LRep.p (h : LRep w g b cap n S) {i : Nat} (hi : i ≤ n) : w.cell? ⟨b, i*3+1, none⟩ = some (.int .i64 (S.pr i)) := (h.hb.cell _).trans (enc_1 (by omega))
theorem LRep.s (h : LRep w g b cap n S) {i : Nat} (hi : i ≤ n) : w.cell? ⟨b, i*3+2, none⟩ = some (.int .i64 (S.sc i)) := (h.hb.cell _).trans (enc_2 (by omega))
theorem LRep.mod {F : Nat → Prop} (h : LRep w g b cap n S) (m : Mod F w w') (h1 : ¬ F g) (h2 : ¬ F b) : LRep w' g b cap n S :=
  ⟨h.ne, h.hg.mod m h1, h.hb.mod m h2⟩
theorem LRep.alloc (h : LRep w g b cap n S) (o : Obj) : LRep (w.alloc o) g b cap n S := ⟨h.ne, h.hg.alloc o, h.hb.alloc o⟩
theorem LRep.drew (h : LRep w g b cap n S) : LRep w.drew g b cap n S := ⟨h.ne, h.hg.drew, h.hb.drew⟩
theorem LRep.drewN (h : LRep w g b cap n S) (k : Nat) : LRep (w.drewN k) g b cap n S := ⟨h.ne, h.hg.drewN k, h.hb.drewN k⟩
end
theorem enc_w {len : Nat} {th : Nat → Bool} {pr sc : Nat → Nat} {i : Nat} (h : i < len) (t : Bool) (p s : Nat) : updL (enc len th pr sc) (i * 3) [.bool t, .int .i64 p, .int .i64 s] = enc len (fset th i t) (fset pr i p) (fset sc i s) := by
  rw [updL_cons, updL_cons, updL_cons, updL_nil, enc_set0 h, enc_set1 h, enc_set2 h]
theorem enc_w1 {len : Nat} {th : Nat → Bool} {pr sc : Nat → Nat} {i : Nat} (h : i < len) (v : Nat) : updL (enc len th pr sc) (i * 3 + 1) [.int .i64 v] = enc len th (fset pr i v) sc := by
  rw [updL_cons, updL_nil, enc_set1 h]
theorem enc_w2 {len : Nat} {th : Nat → Bool} {pr sc : Nat → Nat} {i : Nat} (h : i < len) (v : Nat) : updL (enc len th pr sc) (i * 3 + 2) [.int .i64 v] = enc len th pr (fset sc i v) := by
  rw [updL_cons, updL_nil, enc_set2 h]
theorem Try.info3 : (Try.prog.info? 3).map (·.size) = some 1 := by kernel_rfl
theorem Try.info50 : (Try.prog.info? 50).map (·.size) = some 3 := by kernel_rfl
section
variable {w : World} {ops : Array Oper} {rest : List Oper} {o : Oper} {a : Act} {Q : Exit → Act → World → Prop} {w0 : World} {F : Nat → Prop} {g b cap n : Nat} {S : LS}
/-- A link's 'prev' is stored. -/
theorem st_prev (L : LRep w g b cap n S) (M : Mod F w0 w) (hF : F b) (hg : o.guard = none) (x y : Operand) (hop : o.op = .store 3 x y) (i v : Nat) (hi : i < n + 1) (hx : a.eval x = .pointer (some ⟨b, i * 3 + 1, none⟩)) (hy : a.eval y = .int .i64 v)
    (h : ∀ w', LRep w' g b cap n ⟨S.th, fset S.pr i v, S.sc⟩ → Mod F w0 w' → Mod (· = b) w w' → wpList Try.prog ops Q rest (a.put o.dst undef) w') : wpList Try.prog ops Q (o :: rest) a w :=
  wpList_store1 hg 3 x y hop b (i * 3 + 1) _ _ _ hx hy rfl Try.info3 L.hb (enc_1 hi) rfl
    fun w' hB hM _ => h w' ⟨L.ne, L.hg.mod hM (by simpa using L.ne), enc_set1 hi v ▸ hB⟩ (M.trans (hM.mono fun k _ hk => hk ▸ hF)) hM
theorem st_succ (L : LRep w g b cap n S) (M : Mod F w0 w) (hF : F b) (hg : o.guard = none) (x y : Operand) (hop : o.op = .store 3 x y) (i v : Nat) (hi : i < n + 1) (hx : a.eval x = .pointer (some ⟨b, i * 3 + 2, none⟩)) (hy : a.eval y = .int .i64 v)
    (h : ∀ w', LRep w' g b cap n ⟨S.th, S.pr, fset S.sc i v⟩ → Mod F w0 w' → Mod (· = b) w w' → wpList Try.prog ops Q rest (a.put o.dst undef) w') : wpList Try.prog ops Q (o :: rest) a w :=
  wpList_store1 hg 3 x y hop b (i * 3 + 2) _ _ _ hx hy rfl Try.info3 L.hb (enc_2 hi) rfl
    fun w' hB hM _ => h w' ⟨L.ne, L.hg.mod hM (by simpa using L.ne), enc_set2 hi v ▸ hB⟩ (M.trans (hM.mono fun k _ hk => hk ▸ hF)) hM
theorem st_link (L : LRep w g b cap n S) (M : Mod F w0 w) (hF : F b) (hg : o.guard = none) (x y : Operand) (hop : o.op = .store 50 x y) (i : Nat) (t : Bool) (p s : Nat) (hi : i < n + 1) (hx : a.eval x = .pointer (some ⟨b, i * 3, none⟩)) (hy : a.eval y = .agg #[.bool t, .int .i64 p, .int .i64 s])
    (h : ∀ w', LRep w' g b cap n ⟨fset S.th i t, fset S.pr i p, fset S.sc i s⟩ → Mod F w0 w' → Mod (· = b) w w' → wpList Try.prog ops Q rest (a.put o.dst undef) w') : wpList Try.prog ops Q (o :: rest) a w :=
  wpList_store_blk hg 50 x y hop b (i * 3) _ _ [.bool t, .int .i64 p, .int .i64 s] hx hy rfl Try.info50 L.hb (fun j hj => by
      have : j = 0 ∨ j = 1 ∨ j = 2 := by simp only [List.length_cons, List.length_nil] at hj; omega
      rcases this with rfl | rfl | rfl
      · exact (congrArg Option.isSome (enc_0 hi)).trans rfl
      · rw [enc_1 hi]; rfl
      · rw [enc_2 hi]; rfl) (by intro v hv; simp only [List.mem_cons, List.not_mem_nil, or_false] at hv; rcases hv with rfl | rfl | rfl <;> rfl)
    fun w' hB hM _ => h w' ⟨L.ne, L.hg.mod hM (by simpa using L.ne), enc_w hi t p s ▸ hB⟩ (M.trans (hM.mono fun k _ hk => hk ▸ hF)) hM
end

set_option maxHeartbeats 1000000 in
theorem drop_in (g b cap n i : Nat) (S : LS) (w : World) (L : LRep w g b cap n S) (hi : i < n) (hW : WF n S) (ht : S.th i = true) :
    Calls Try.prog 10 #[.pointer (some ⟨g, 0, none⟩), .int .i64 i] w fun e w' => e = .returned (.bool true) ∧ Mod (· = b) w w' ∧ LRep w' g b cap n (dropS S i) := by
  obtain ⟨hpr, hsc⟩ := hW i (by omega)
  have c0 := L.c0
  have c1 := L.c1
  have ct := L.t (i := i) (by omega)
  have cp := L.p (i := i) (by omega)
  have cs := L.s (i := i) (by omega)
  rw [ht] at ct
  have hlt : i < n + 1 := by omega
  have hin : (i : Int) < (n : Int) + 1 := by omega
  unfold dropS
  generalize hP : S.pr i = P at *
  generalize hS : S.sc i = X at *
  clear hP hS ht hW
  have hPn : (P : Int) < (n : Int) + 1 := by omega
  have hSn : (X : Int) < (n : Int) + 1 := by omega
  go_enter Try.func10, Try.ntmps10
  go_wp2_with (go_at_call 16; refine (has_in g b cap n i true _ hi c0 c1 ct).mono ?_; rintro e w' ⟨rfl, rfl⟩)
  clear c0 c1 ct cp cs
  obtain ⟨x, hx⟩ : ∃ x, x = w'.heap.size := ⟨_, rfl⟩
  obtain ⟨w1, hw1⟩ : ∃ w1, w1 = w'.alloc (.cells #[.bool true, .int .i64 P, .int .i64 X] 50) := ⟨_, rfl⟩
  rw [← hx, ← hw1]
  have L1 : LRep w1 g b cap n S := hw1 ▸ L.alloc _
  have X1 : Blk w1 x _ := hx ▸ hw1 ▸ Blk.new w' #[.bool true, .int .i64 P, .int .i64 X] 50
  have M1 : Mod (· = b) w' w1 := hw1 ▸ Mod.alloc _ _ _
  have xb : x ≠ b := by have := L.hb.lt; omega
  clear hw1 hx
  have c0 := L1.c0
  have x1 : w1.cell? ⟨x, 1, none⟩ = some (.int .i64 P) := X1.cell 1
  have x2 : w1.cell? ⟨x, 2, none⟩ = some (.int .i64 X) := X1.cell 2
  go_still_tail 10, (by kernel_rfl)
  change wpList _ _ _ _ _ w1.drew
  refine st_succ L1.drew M1.dr rfl rfl _ _ rfl P X (by omega) rfl rfl ?_
  intro w2 L2 M2 m
  replace X2 := X1.drew.mod m xb
  clear c0 x1 x2 L1 X1 M1 m
  have c0 := L2.c0
  have x1 : w2.cell? ⟨x, 1, none⟩ = some (.int .i64 P) := X2.cell 1
  have x2 : w2.cell? ⟨x, 2, none⟩ = some (.int .i64 X) := X2.cell 2
  go_wp2
  go_still_tail 10, (by kernel_rfl)
  change wpList _ _ _ _ _ w2.drew
  refine st_prev L2.drew M2.dr rfl rfl _ _ rfl X P (by omega) rfl rfl ?_
  intro w3 L3 M3 m
  clear c0 x1 x2 L2 X2 M2 m
  have c0 := L3.c0
  go_wp2_with (refine st_link L3 M3 rfl rfl _ _ rfl i false 0 0 (by omega) rfl rfl ?_; intro w4 L4 M4 m)
  go_ret
  exact ⟨rfl, M4, L4⟩
set_option maxHeartbeats 400000 in
theorem has_out (p : Option Addr) (i : Int) (w : World) (h : p = none ∨ ∃ g b cap n S, p = some ⟨g, 0, none⟩ ∧ LRep w g b cap n S ∧ ¬ (0 ≤ i ∧ i < n)) :
    Calls Try.prog 16 #[.pointer p, .int .i64 i] w fun e w' => e = .returned (.bool false) ∧ w' = w := by
  rcases h with rfl | ⟨g, b, cap, n, S, rfl, L, hi⟩
  · exact has_nil i w
  · have c1 := L.c1
    by_cases h0 : 0 ≤ i
    · have h1 : ¬ i < n := fun h => hi ⟨h0, h⟩
      clear hi
      go_enter Try.func16, Try.ntmps16
      go_wp2
      go_ret
      exact ⟨rfl, rfl⟩
    · clear hi
      go_enter Try.func16, Try.ntmps16
      go_wp2
      go_ret
      exact ⟨rfl, rfl⟩
set_option maxHeartbeats 400000 in
theorem drop_no (p : Option Addr) (i : Int) (w : World) (h : Calls Try.prog 16 #[.pointer p, .int .i64 i] w fun e w' => e = .returned (.bool false) ∧ w' = w) :
    Calls Try.prog 10 #[.pointer p, .int .i64 i] w fun e w' => e = .returned (.bool false) ∧ w' = w := by
  have H := Lib.hid h
  clear h
  go_enter Try.func10, Try.ntmps10
  go_wp2_with (go_at_call 16; refine H.out.mono ?_; rintro e w' ⟨rfl, rfl⟩)
  go_ret
  exact ⟨rfl, rfl⟩
/-- 'Drop' of whatever number. -/
theorem drop_any (g b cap n i : Nat) (S : LS) (w : World) (L : LRep w g b cap n S) (hi : i < n) (hW : WF n S) :
    Calls Try.prog 10 #[.pointer (some ⟨g, 0, none⟩), .int .i64 i] w fun e w' => e = .returned (.bool (S.th i)) ∧ Mod (· = b) w w' ∧ LRep w' g b cap n (dropF S i) := by
  cases ht : S.th i with
  | true => rw [show dropF S i = dropS S i from if_pos ht]; exact drop_in g b cap n i S w L hi hW ht
  | false =>
    rw [show dropF S i = S from if_neg (by rw [ht]; simp)]
    refine (drop_no _ _ _ (has_in g b cap n i false w hi L.c0 L.c1 (by have := L.t (i := i) (by omega); rwa [ht] at this))).mono ?_
    rintro e w' ⟨rfl, rfl⟩
    exact ⟨rfl, Mod.refl _ _, L⟩
set_option maxHeartbeats 1000000 in
theorem use_in (g b cap n i : Nat) (S : LS) (w : World) (L : LRep w g b cap n S) (hi : i < n) (hW : WF n S) :
    Calls Try.prog 11 #[.pointer (some ⟨g, 0, none⟩), .int .i64 i] w fun e w' => e = .returned (.int .i64 0) ∧ Mod (· = b) w w' ∧ LRep w' g b cap n (useF n S i) := by
  have c1 := L.c1
  have hin : (i : Int) < (n : Int) + 1 := by omega
  have hnn : (n : Int) < (n : Int) + 1 := by omega
  obtain ⟨_, hF⟩ := hW.drop i (by omega) n (Nat.le_refl n)
  unfold useF
  dsimp only
  have HD := Lib.hid (drop_any g b cap n i S w L hi hW)
  generalize dropF S i = S1 at *
  clear hW
  generalize hX : S1.sc n = X at *
  have HX := Lib.hid hX
  clear hX
  have hXn : (X : Int) < (n : Int) + 1 := by omega
  go_enter Try.func11, Try.ntmps11
  go_wp2_with (go_at_call 10; refine HD.out.mono ?_; rintro e w1 ⟨rfl, M1, L1⟩; clear HD c1 L)
  have c0 := L1.c0
  have c1 := L1.c1
  have cs := L1.s (i := n) (Nat.le_refl n)
  rw [HX.out] at cs
  go_quiet (fail)
  generalize hw2 : w1.drewN _ = w2
  have L2 : LRep w2 g b cap n S1 := hw2 ▸ L1.drewN _
  have M2 : Mod (· = b) w w2 := hw2 ▸ M1.drN _
  clear c0 c1 cs hw2 L1 M1
  have c0 := L2.c0
  have c1 := L2.c1
  go_wp2
  go_still_tail 12, (by kernel_rfl)
  change wpList _ _ _ _ _ w2.drew
  refine st_link L2.drew M2.dr rfl rfl _ _ rfl i true n X (by omega) rfl rfl ?_
  intro w3 L3 M3 m
  clear c0 c1 L2 M2 m
  have c0 := L3.c0
  go_wp2_with (refine st_prev L3 M3 rfl rfl _ _ rfl X i (by omega) rfl rfl ?_; intro w4 L4 M4 m; clear c0 L3 M3 m; have c0 := L4.c0; have c1 := L4.c1)
  go_still_tail 11, (by kernel_rfl)
  change wpList _ _ _ _ _ w4.drew
  refine st_succ L4.drew M4.dr rfl rfl _ _ rfl n i (by omega) rfl rfl ?_
  intro w5 L5 M5 m
  clear c0 c1
  go_wp2
  go_ret
  exact ⟨rfl, M5, L5⟩
set_option maxHeartbeats 400000 in
theorem use_nil (i : Int) (w : World) : Calls Try.prog 11 #[.pointer none, .int .i64 i] w fun e w' => e = .returned (.int .i64 1) ∧ w' = w := by
  go_enter Try.func11, Try.ntmps11
  go_wp2
  go_ret
  exact ⟨rfl, rfl⟩
set_option maxHeartbeats 400000 in
theorem use_out (g b cap n : Nat) (i : Int) (S : LS) (w : World) (L : LRep w g b cap n S) (hi : ¬ (0 ≤ i ∧ i < n)) :
    Calls Try.prog 11 #[.pointer (some ⟨g, 0, none⟩), .int .i64 i] w fun e w' => e = .returned (.int .i64 1) ∧ w' = w := by
  have c1 := L.c1
  by_cases h0 : 0 ≤ i
  · have h1 : ¬ i < n := fun h => hi ⟨h0, h⟩
    clear hi
    go_enter Try.func11, Try.ntmps11
    go_wp2
    go_ret
    exact ⟨rfl, rfl⟩
  · clear hi
    go_enter Try.func11, Try.ntmps11
    go_wp2
    go_ret
    exact ⟨rfl, rfl⟩
set_option maxHeartbeats 400000 in
theorem oldest_nil (w : World) : Calls Try.prog 13 #[.pointer none] w fun e w' => e = .returned (.tuple #[.int .i64 0, .bool false]) ∧ ∃ k, w' = w.drewN k := by
  go_enter Try.func13, Try.ntmps13
  go_wp2
  go_quiet (fail)
  go_wp2
  go_ret2
  exact ⟨rfl, _, rfl⟩
set_option maxHeartbeats 400000 in
theorem oldest_in (g b cap n : Nat) (S : LS) (w : World) (L : LRep w g b cap n S) (hW : WF n S) :
    Calls Try.prog 13 #[.pointer (some ⟨g, 0, none⟩)] w fun e w' => e = .returned (if S.pr n = n then .tuple #[.int .i64 0, .bool false] else .tuple #[.int .i64 (S.pr n), .bool true]) ∧ ∃ k, w' = w.drewN k := by
  have c0 := L.c0
  have c1 := L.c1
  have cp := L.p (i := n) (Nat.le_refl n)
  have hnn : (n : Int) < (n : Int) + 1 := by omega
  by_cases h : S.pr n = n
  · rw [if_pos h]
    rw [h] at cp
    clear h
    go_enter Try.func13, Try.ntmps13
    go_wp2
    go_quiet (fail)
    go_wp2
    go_ret2
    exact ⟨rfl, _, rfl⟩
  · rw [if_neg h]
    have h' : ((S.pr n : Int) == (n : Int)) = false := beq_eq_false_iff_ne.2 (by omega)
    clear h
    generalize S.pr n = X at *
    go_enter Try.func13, Try.ntmps13
    go_wp2
    go_quiet (fail)
    go_wp2
    go_quiet (fail)
    go_wp2
    go_ret2
    exact ⟨rfl, _, World.drewN_drewN ..⟩
end Go.Proofs.Ytgfkfmnncjjopaa
