/- lru.List: a ring of links as a list of numbers, the one used last first (turned from chapter 11's texts). -/
import Derived.Test.YtecgnfklfgjgaaaProg
import Derived.Test.YtecgnfklfgjgaaaLib
import Derived.WalkKit
import Derived.WalkSpells
import Derived.WalkLawsBesides
import Derived.BigQuiet
import Derived.Deep.QuietTactic
import Derived.StillTailTactics
import Derived.Lib.Hide
set_option linter.unusedVariables false
set_option linter.unusedSimpArgs false
namespace Go.Proofs.Ytecgnfklfgjgaaa
open Go.RowKit Go.Tat
def fset {α : Type} (f : Nat → α) (i : Nat) (v : α) : Nat → α := fun j => if j = i then v else f j
theorem fset_same {α : Type} (f : Nat → α) (i : Nat) (v : α) : fset f i v i = v := by simp [fset]
theorem fset_ne {α : Type} (f : Nat → α) {i j : Nat} (v : α) (h : j ≠ i) : fset f i v j = f j := by simp [fset, h]
/-- What the links hold. -/
structure LS where
  th : Nat → Bool
  pr : Nat → Nat
  sc : Nat → Nat
/-- No link leads out. -/
def WF (n : Nat) (S : LS) : Prop := ∀ i, i ≤ n → S.pr i ≤ n ∧ S.sc i ≤ n
/-- What 'Drop' makes of the links, where the number is there. -/
def dropS (S : LS) (i : Nat) : LS := ⟨fset S.th i false, fset (fset S.pr (S.sc i) (S.pr i)) i 0, fset (fset S.sc (S.pr i) (S.sc i)) i 0⟩
def dropF (S : LS) (i : Nat) : LS := if S.th i = true then dropS S i else S
/-- What 'Use' makes of them. -/
def useF (n : Nat) (S : LS) (i : Nat) : LS :=
  let S1 := dropF S i
  ⟨fset S1.th i true, fset (fset S1.pr i n) (S1.sc n) i, fset (fset S1.sc i (S1.sc n)) n i⟩
theorem WF.drop {n : Nat} {S : LS} (h : WF n S) (i : Nat) (hi : i ≤ n) : WF n (dropF S i) := by
  unfold dropF; split
  · intro j hj
    have hI := h i hi; have hJ := h j hj
    unfold dropS fset
    refine ⟨?_, ?_⟩ <;> dsimp only <;> (repeat' split) <;> omega
  · exact h
theorem WF.use {n : Nat} {S : LS} (h : WF n S) (i : Nat) (hi : i ≤ n) : WF n (useF n S i) := by
  have h1 := h.drop i hi
  intro j hj
  have hJ := h1 j hj; have hN := h1 n (Nat.le_refl n)
  unfold useF fset
  refine ⟨?_, ?_⟩ <;> dsimp only <;> (repeat' split) <;> omega
/-- Each one's next is the next one, and back. -/
def Lk (S : LS) : List Nat → Prop
  | x :: y :: r => S.sc x = y ∧ S.pr y = x ∧ Lk S (y :: r)
  | _ => True
theorem Lk_app {S : LS} : ∀ (a : List Nat) (x : Nat) (b : List Nat), Lk S (a ++ x :: b) ↔ Lk S (a ++ [x]) ∧ Lk S (x :: b)
  | [], x, b => by simp [Lk]
  | [y], x, b => by simp [Lk, and_assoc]
  | y :: z :: a, x, b => by
    have := Lk_app (S := S) (z :: a) x b
    simp only [List.cons_append] at this
    simp only [List.cons_append, Lk, this, and_assoc]
theorem Lk_congr {S S' : LS} : ∀ (l : List Nat), (∀ x ∈ l.dropLast, S'.sc x = S.sc x) → (∀ y ∈ l.tail, S'.pr y = S.pr y) → Lk S l → Lk S' l
  | [], _, _, _ => trivial
  | [x], _, _, _ => trivial
  | x :: y :: r, h1, h2, h => by
    refine ⟨by rw [h1 x (by simp)]; exact h.1, by rw [h2 y (by simp)]; exact h.2.1, Lk_congr (y :: r) (fun z hz => h1 z ?_) (fun z hz => h2 z ?_) h.2.2⟩
    · simp only [List.dropLast_cons_cons]; exact List.mem_cons_of_mem _ hz
    · simp only [List.tail_cons] at hz ⊢; exact List.mem_cons_of_mem _ hz
/-- The links are those of this order. -/
structure Cyc (n : Nat) (S : LS) (o : List Nat) : Prop where
  nd : o.Nodup
  lt : ∀ x ∈ o, x < n
  th : ∀ x, x < n → (S.th x = true ↔ x ∈ o)
  lk : Lk S (n :: (o ++ [n]))
theorem Lk_head {S : LS} {x y : Nat} {r : List Nat} (h : Lk S (x :: y :: r)) : S.sc x = y ∧ S.pr y = x := ⟨h.1, h.2.1⟩
theorem Lk_mid {S : LS} {a : List Nat} {x y : Nat} {b : List Nat} (h : Lk S (a ++ x :: y :: b)) : S.sc x = y ∧ S.pr y = x := Lk_head ((Lk_app a x (y :: b)).1 h).2
theorem filter_ne_of_not_mem {i : Nat} : ∀ (l : List Nat), i ∉ l → l.filter (fun x => x != i) = l := fun l h => List.filter_eq_self.2 fun x hx => by simp; rintro rfl; exact h hx
theorem exists_last (x : Nat) (a : List Nat) : ∃ a' p, x :: a = a' ++ [p] := ⟨(x :: a).dropLast, (x :: a).getLast (by simp), (List.dropLast_concat_getLast (by simp)).symm⟩
theorem Cyc.dropF {n : Nat} {S : LS} {o : List Nat} (h : Cyc n S o) {i : Nat} (hi : i < n) : Cyc n (dropF S i) (o.filter (fun x => x != i)) := by
  unfold Ytecgnfklfgjgaaa.dropF
  by_cases ht : S.th i = true
  · rw [if_pos ht]
    have hm : i ∈ o := (h.th i hi).1 ht
    obtain ⟨a, b, rfl⟩ := List.append_of_mem hm
    have hnd := h.nd
    rw [List.nodup_append] at hnd
    obtain ⟨nda, ndb, dis⟩ := hnd
    obtain ⟨hib, ndb⟩ := List.nodup_cons.1 ndb
    have hia : i ∉ a := fun hx => dis i hx i (by simp) rfl
    have hna : ∀ x ∈ a, x < n := fun x hx => h.lt x (by simp [hx])
    have hnb : ∀ x ∈ b, x < n := fun x hx => h.lt x (by simp [hx])
    have hf : (a ++ i :: b).filter (fun x => x != i) = a ++ b := by
      rw [List.filter_append, filter_ne_of_not_mem a hia, List.filter_cons]
      simp [filter_ne_of_not_mem b hib]
    rw [hf]
    obtain ⟨a', p, ha⟩ := exists_last n a
    obtain ⟨s, b', hb⟩ : ∃ s b', b ++ [n] = s :: b' := by
      cases b with
      | nil => exact ⟨n, [], rfl⟩
      | cons y r => exact ⟨y, r ++ [n], rfl⟩
    have hc : n :: ((a ++ i :: b) ++ [n]) = a' ++ p :: i :: s :: b' := by
      calc n :: ((a ++ i :: b) ++ [n]) = (n :: a) ++ i :: (b ++ [n]) := by simp
        _ = _ := by rw [ha, hb]; simp
    have hlk := h.lk
    rw [hc] at hlk
    have h1 := Lk_mid hlk
    have h2 : S.sc i = s ∧ S.pr s = i := Lk_mid (a := a' ++ [p]) (by simpa using hlk)
    have l1 : Lk S (a' ++ [p]) := ((Lk_app a' p _).1 hlk).1
    have l2 : Lk S (s :: b') := by
      have := (Lk_app (a' ++ [p, i]) s b').1 (by simpa using hlk)
      exact this.2
    have ndp : (a' ++ [p]).Nodup := by rw [← ha]; exact List.nodup_cons.2 ⟨fun hx => by have := hna n hx; omega, nda⟩
    have nds : (s :: b').Nodup := by
      rw [← hb, List.nodup_append]
      refine ⟨ndb, by simp, ?_⟩
      intro x hx y hy
      have := hnb x hx; simp at hy; omega
    have pin : p = n ∨ p ∈ a := by
      have : p ∈ n :: a := by rw [ha]; simp
      simpa using this
    have sin : s = n ∨ s ∈ b := by
      have : s ∈ b ++ [n] := by rw [hb]; simp
      simp at this; exact this.symm
    have hpi : p ≠ i := by rcases pin with rfl | hp; omega; rintro rfl; exact hia hp
    have hsi : s ≠ i := by rcases sin with rfl | hp; omega; rintro rfl; exact hib hp
    refine ⟨?_, ?_, ?_, ?_⟩
    · rw [List.nodup_append]; exact ⟨nda, ndb, fun x hx y hy => dis x hx y (by simp [hy])⟩
    · intro x hx; rw [List.mem_append] at hx; rcases hx with hx | hx; exact hna x hx; exact hnb x hx
    · intro x hx
      have := h.th x hx
      unfold dropS
      dsimp only
      by_cases hxi : x = i
      · subst hxi; rw [fset_same]; simp [hia, hib]
      · rw [fset_ne _ _ hxi, this]; simp [hxi]
    · have e : n :: ((a ++ b) ++ [n]) = a' ++ p :: s :: b' := by
        calc n :: ((a ++ b) ++ [n]) = (n :: a) ++ (b ++ [n]) := by simp
          _ = _ := by rw [ha, hb]; simp
      rw [e, Lk_app]
      have es : ∀ x, x ≠ p → x ≠ i → (dropS S i).sc x = S.sc x := fun x h3 h4 => by unfold dropS; dsimp only; rw [fset_ne _ _ h4, h1.2, fset_ne _ _ h3]
      have ep : ∀ x, x ≠ s → x ≠ i → (dropS S i).pr x = S.pr x := fun x h3 h4 => by unfold dropS; dsimp only; rw [fset_ne _ _ h4, h2.1, fset_ne _ _ h3]
      refine ⟨Lk_congr _ ?_ ?_ l1, ?_, ?_, Lk_congr _ ?_ ?_ l2⟩
      · intro x hx
        rw [List.dropLast_concat] at hx
        have hxp : x ≠ p := by rintro rfl; rw [List.nodup_append] at ndp; exact ndp.2.2 x hx x (by simp) rfl
        have hxa : x = n ∨ x ∈ a := by
          have : x ∈ n :: a := by rw [ha]; simp [hx]
          simpa using this
        exact es x hxp (by rcases hxa with rfl | hp; omega; rintro rfl; exact hia hp)
      · intro y hy
        rw [← ha, List.tail_cons] at hy
        refine ep y ?_ (by rintro rfl; exact hia hy)
        rintro rfl
        rcases sin with rfl | hs
        · have := hna _ hy; omega
        · exact dis _ hy _ (by simp [hs]) rfl
      · unfold dropS; dsimp only; rw [fset_ne _ _ hpi, h1.2, fset_same, h2.1]
      · unfold dropS; dsimp only; rw [fset_ne _ _ hsi, h2.1, fset_same, h1.2]
      · intro x hx
        rw [← hb, List.dropLast_concat] at hx
        refine es x ?_ (by rintro rfl; exact hib hx)
        rintro rfl
        rcases pin with rfl | hp
        · have := hnb _ hx; omega
        · exact dis _ hp _ (by simp [hx]) rfl
      · intro y hy
        simp only [List.tail_cons] at hy
        have hys : y ≠ s := by rintro rfl; exact (List.nodup_cons.1 nds).1 hy
        refine ep y hys ?_
        rintro rfl
        have : y ∈ b ++ [n] := by rw [hb]; simp [hy]
        simp at this
        rcases this with h5 | h5
        · exact hib h5
        · omega
  · rw [if_neg ht, filter_ne_of_not_mem]
    · exact h
    · intro hm; exact ht ((h.th i hi).2 hm)
theorem Cyc.useF {n : Nat} {S : LS} {o : List Nat} (h : Cyc n S o) {i : Nat} (hi : i < n) : Cyc n (useF n S i) (i :: o.filter (fun x => x != i)) := by
  have h1 := h.dropF hi
  have hni : i ∉ o.filter (fun x => x != i) := by simp
  unfold Ytecgnfklfgjgaaa.useF
  generalize Ytecgnfklfgjgaaa.dropF S i = S1 at *
  generalize o.filter (fun x => x != i) = o1 at *
  obtain ⟨s, b', hb⟩ : ∃ s b', o1 ++ [n] = s :: b' := by
    cases o1 with
    | nil => exact ⟨n, [], rfl⟩
    | cons y r => exact ⟨y, r ++ [n], rfl⟩
  have hlk := h1.lk
  rw [hb] at hlk
  have hs := Lk_head hlk
  have sin : s = n ∨ s ∈ o1 := by
    have : s ∈ o1 ++ [n] := by rw [hb]; simp
    simp at this; exact this.symm
  have hsi : s ≠ i := by rcases sin with rfl | hp; omega; rintro rfl; exact hni hp
  have hin : i ≠ n := by omega
  have nds : (s :: b').Nodup := by
    rw [← hb, List.nodup_append]
    refine ⟨h1.nd, by simp, ?_⟩
    intro x hx y hy
    have := h1.lt x hx; simp at hy; omega
  dsimp only
  rw [hs.1]
  refine ⟨List.nodup_cons.2 ⟨hni, h1.nd⟩, ?_, ?_, ?_⟩
  · intro x hx; rcases List.mem_cons.1 hx with rfl | hx; exact hi; exact h1.lt x hx
  · intro x hx
    have := h1.th x hx
    by_cases hxi : x = i
    · subst hxi; simp [fset_same]
    · dsimp only; rw [fset_ne _ _ hxi, this]; simp [hxi]
  · show Lk _ (n :: i :: (o1 ++ [n]))
    rw [hb]
    refine ⟨by dsimp only; rw [fset_same], by dsimp only; rw [fset_ne _ _ (Ne.symm hsi), fset_same], by dsimp only; rw [fset_ne _ _ hin, fset_same], by dsimp only; rw [fset_same], ?_⟩
    refine Lk_congr _ ?_ ?_ hlk.2.2
    · intro x hx
      rw [← hb, List.dropLast_concat] at hx
      dsimp only
      rw [fset_ne _ _ (by rintro rfl; have := h1.lt _ hx; omega), fset_ne _ _ (by rintro rfl; exact hni hx)]
    · intro y hy
      simp only [List.tail_cons] at hy
      have hyo : y ∈ o1 ++ [n] := by rw [hb]; simp [hy]
      dsimp only
      rw [fset_ne _ _ (by rintro rfl; exact (List.nodup_cons.1 nds).1 hy), fset_ne _ _ (by
        rintro rfl; simp at hyo; rcases hyo with h5 | h5
        · exact hni h5
        · omega)]
/-- The last one. -/
theorem Cyc.last {n : Nat} {S : LS} {o : List Nat} (h : Cyc n S o) : S.pr n = o.getLastD n := by
  rcases List.eq_nil_or_concat o with rfl | ⟨a, x, rfl⟩
  · exact (Lk_head h.lk).2
  · have := h.lk
    rw [List.concat_eq_append] at *
    have h2 : S.sc x = n ∧ S.pr n = x := Lk_mid (a := n :: a) (b := []) (by simpa using this)
    rw [h2.2]; simp
/-- The k-th one's next. -/
theorem Cyc.next {n : Nat} {S : LS} {o a b : List Nat} {x : Nat} (h : Cyc n S o) (e : o = a ++ x :: b) : S.sc x = b.headD n := by
  subst e
  have := h.lk
  cases b with
  | nil => exact (Lk_mid (a := n :: a) (b := []) (y := n) (by simpa using this)).1
  | cons y r => exact (Lk_mid (a := n :: a) (b := r ++ [n]) (y := y) (by simpa using this)).1
theorem Cyc.first {n : Nat} {S : LS} {o : List Nat} (h : Cyc n S o) : S.sc n = o.headD n := by
  have := h.lk
  cases o with
  | nil => exact (Lk_head this).1
  | cons y r => exact (Lk_head this).1
set_option maxRecDepth 100000 in
set_option maxHeartbeats 4000000 in
theorem has_nil (i : Int) (w : World) :
    Calls Try.prog 72 #[.pointer none, .int .i64 i] w fun e w' => e = .returned (.bool false) ∧ w' = w := by
  go_enter Try.func72, Try.ntmps72
  go_wp2
  go_ret
  exact ⟨rfl, rfl⟩
set_option maxRecDepth 100000 in
set_option maxHeartbeats 4000000 in
theorem has_in (g b cap n i : Nat) (t : Bool) (w : World) (hi : i < n) (hg0 : w.cell? ⟨g, 0, none⟩ = some (.slice (some ⟨b, 0, none⟩) (n+1) cap))
    (hg1 : w.cell? ⟨g, 1, none⟩ = some (.int .i64 n)) (ht : w.cell? ⟨b, i*3, none⟩ = some (.bool t)) :
    Calls Try.prog 72 #[.pointer (some ⟨g, 0, none⟩), .int .i64 i] w fun e w' => e = .returned (.bool t) ∧ w' = w := by
  go_enter Try.func72, Try.ntmps72
  go_wp2
  go_ret
  exact ⟨rfl, rfl⟩
/-- The links' block: of each place whether it is there, the one ahead, the one behind. -/
def enc (len : Nat) (th : Nat → Bool) (pr sc : Nat → Nat) : Nat → Option Value := fun j =>
  if j / 3 < len then (if j % 3 = 0 then some (.bool (th (j / 3))) else if j % 3 = 1 then some (.int .i64 (pr (j / 3))) else some (.int .i64 (sc (j / 3)))) else none
theorem enc_0 {len : Nat} {th : Nat → Bool} {pr sc : Nat → Nat} {i : Nat} (h : i < len) : enc len th pr sc (i * 3) = some (.bool (th i)) := by
  unfold enc; rw [show i * 3 / 3 = i by omega, if_pos h, if_pos (by omega)]
theorem enc_1 {len : Nat} {th : Nat → Bool} {pr sc : Nat → Nat} {i : Nat} (h : i < len) : enc len th pr sc (i * 3 + 1) = some (.int .i64 (pr i)) := by
  unfold enc; rw [show (i * 3 + 1) / 3 = i by omega, if_pos h, if_neg (by omega), if_pos (by omega)]
theorem enc_2 {len : Nat} {th : Nat → Bool} {pr sc : Nat → Nat} {i : Nat} (h : i < len) : enc len th pr sc (i * 3 + 2) = some (.int .i64 (sc i)) := by
  unfold enc; rw [show (i * 3 + 2) / 3 = i by omega, if_pos h, if_neg (by omega), if_neg (by omega)]
theorem enc_set0 {len : Nat} {th : Nat → Bool} {pr sc : Nat → Nat} {i : Nat} (h : i < len) (v : Bool) : upd (enc len th pr sc) (i * 3) (.bool v) = enc len (fset th i v) pr sc := by
  funext j; unfold upd enc fset
  by_cases e : j = i * 3
  · subst e; rw [if_pos rfl, show i * 3 / 3 = i by omega, if_pos h, if_pos (by omega), if_pos rfl]
  · rw [if_neg e]; by_cases h3 : j % 3 = 0
    · rw [if_pos h3, if_pos h3, if_neg (by omega : ¬ j / 3 = i)]
    · rw [if_neg h3, if_neg h3]
theorem enc_set1 {len : Nat} {th : Nat → Bool} {pr sc : Nat → Nat} {i : Nat} (h : i < len) (v : Nat) : upd (enc len th pr sc) (i * 3 + 1) (.int .i64 v) = enc len th (fset pr i v) sc := by
  funext j; unfold upd enc fset
  by_cases e : j = i * 3 + 1
  · subst e; rw [if_pos rfl, show (i * 3 + 1) / 3 = i by omega, if_pos h, if_neg (by omega), if_pos (by omega), if_pos rfl]
  · rw [if_neg e]; by_cases h3 : j % 3 = 1
    · rw [if_neg (by omega : ¬ j % 3 = 0), if_pos h3, if_neg (by omega : ¬ j % 3 = 0), if_pos h3, if_neg (by omega : ¬ j / 3 = i)]
    · rw [if_neg h3, if_neg h3]
theorem enc_set2 {len : Nat} {th : Nat → Bool} {pr sc : Nat → Nat} {i : Nat} (h : i < len) (v : Nat) : upd (enc len th pr sc) (i * 3 + 2) (.int .i64 v) = enc len th pr (fset sc i v) := by
  funext j; unfold upd enc fset
  by_cases e : j = i * 3 + 2
  · subst e; rw [if_pos rfl, show (i * 3 + 2) / 3 = i by omega, if_pos h, if_neg (by omega), if_neg (by omega), if_pos rfl]
  · rw [if_neg e]; by_cases h0 : j % 3 = 0
    · rw [if_pos h0, if_pos h0]
    · by_cases h1 : j % 3 = 1
      · rw [if_neg h0, if_pos h1, if_neg h0, if_pos h1]
      · rw [if_neg (by omega : ¬ j / 3 = i)]
def lcells (b n cap : Nat) : Nat → Option Value := fun j => if j = 0 then some (.slice (some ⟨b, 0, none⟩) (n+1) cap) else if j = 1 then some (.int .i64 n) else none
/-- The list that lies at g. -/
structure LRep (w : World) (g b cap n : Nat) (S : LS) : Prop where
  ne : g ≠ b
  hg : Blk w g (lcells b n cap)
  hb : Blk w b (enc (n + 1) S.th S.pr S.sc)
section
variable {w w' : World} {g b cap n : Nat} {S : LS}
theorem LRep.c0 (h : LRep w g b cap n S) : w.cell? ⟨g, 0, none⟩ = some (.slice (some ⟨b, 0, none⟩) (n+1) cap) := h.hg.cell 0
theorem LRep.c1 (h : LRep w g b cap n S) : w.cell? ⟨g, 1, none⟩ = some (.int .i64 n) := h.hg.cell 1
theorem LRep.t (h : LRep w g b cap n S) {i : Nat} (hi : i ≤ n) : w.cell? ⟨b, i*3, none⟩ = some (.bool (S.th i)) := (h.hb.cell _).trans (enc_0 (by omega))
theorem LRep.p (h : LRep w g b cap n S) {i : Nat} (hi : i ≤ n) : w.cell? ⟨b, i*3+1, none⟩ = some (.int .i64 (S.pr i)) := (h.hb.cell _).trans (enc_1 (by omega))
theorem LRep.s (h : LRep w g b cap n S) {i : Nat} (hi : i ≤ n) : w.cell? ⟨b, i*3+2, none⟩ = some (.int .i64 (S.sc i)) := (h.hb.cell _).trans (enc_2 (by omega))
theorem LRep.mod {F : Nat → Prop} (h : LRep w g b cap n S) (m : Mod F w w') (h1 : ¬ F g) (h2 : ¬ F b) : LRep w' g b cap n S :=
  ⟨h.ne, h.hg.mod m h1, h.hb.mod m h2⟩
theorem LRep.alloc (h : LRep w g b cap n S) (o : Obj) : LRep (w.alloc o) g b cap n S := ⟨h.ne, h.hg.alloc o, h.hb.alloc o⟩
theorem LRep.drew (h : LRep w g b cap n S) : LRep w.drew g b cap n S := ⟨h.ne, h.hg.drew, h.hb.drew⟩
theorem LRep.drewN (h : LRep w g b cap n S) (k : Nat) : LRep (w.drewN k) g b cap n S := ⟨h.ne, h.hg.drewN k, h.hb.drewN k⟩
end
theorem enc_w {len : Nat} {th : Nat → Bool} {pr sc : Nat → Nat} {i : Nat} (h : i < len) (t : Bool) (p s : Nat) : updL (enc len th pr sc) (i * 3) [.bool t, .int .i64 p, .int .i64 s] = enc len (fset th i t) (fset pr i p) (fset sc i s) := by
  rw [updL_cons, updL_cons, updL_cons, updL_nil, enc_set0 h, enc_set1 h, enc_set2 h]
theorem enc_w1 {len : Nat} {th : Nat → Bool} {pr sc : Nat → Nat} {i : Nat} (h : i < len) (v : Nat) : updL (enc len th pr sc) (i * 3 + 1) [.int .i64 v] = enc len th (fset pr i v) sc := by
  rw [updL_cons, updL_nil, enc_set1 h]
theorem enc_w2 {len : Nat} {th : Nat → Bool} {pr sc : Nat → Nat} {i : Nat} (h : i < len) (v : Nat) : updL (enc len th pr sc) (i * 3 + 2) [.int .i64 v] = enc len th pr (fset sc i v) := by
  rw [updL_cons, updL_nil, enc_set2 h]
theorem Try.infoI : (Try.prog.info? 3).map (·.size) = some 1 := by kernel_rfl
theorem Try.info94 : (Try.prog.info? 94).map (·.size) = some 3 := by kernel_rfl
section
variable {w : World} {ops : Array Oper} {rest : List Oper} {o : Oper} {a : Act} {Q : Exit → Act → World → Prop} {w0 : World} {F : Nat → Prop} {g b cap n : Nat} {S : LS}
/-- A link's 'prev' is stored. -/
theorem st_prev (L : LRep w g b cap n S) (M : Mod F w0 w) (hF : F b) (hg : o.guard = none) (x y : Operand) (hop : o.op = .store 3 x y) (i v : Nat) (hi : i < n + 1) (hx : a.eval x = .pointer (some ⟨b, i * 3 + 1, none⟩)) (hy : a.eval y = .int .i64 v)
    (h : ∀ w', LRep w' g b cap n ⟨S.th, fset S.pr i v, S.sc⟩ → Mod F w0 w' → Mod (· = b) w w' → wpList Try.prog ops Q rest (a.put o.dst undef) w') : wpList Try.prog ops Q (o :: rest) a w :=
  wpList_store1 hg 3 x y hop b (i * 3 + 1) _ _ _ hx hy rfl Try.infoI L.hb (enc_1 hi) rfl
    fun w' hB hM _ => h w' ⟨L.ne, L.hg.mod hM (by simpa using L.ne), enc_set1 hi v ▸ hB⟩ (M.trans (hM.mono fun k _ hk => hk ▸ hF)) hM
theorem st_succ (L : LRep w g b cap n S) (M : Mod F w0 w) (hF : F b) (hg : o.guard = none) (x y : Operand) (hop : o.op = .store 3 x y) (i v : Nat) (hi : i < n + 1) (hx : a.eval x = .pointer (some ⟨b, i * 3 + 2, none⟩)) (hy : a.eval y = .int .i64 v)
    (h : ∀ w', LRep w' g b cap n ⟨S.th, S.pr, fset S.sc i v⟩ → Mod F w0 w' → Mod (· = b) w w' → wpList Try.prog ops Q rest (a.put o.dst undef) w') : wpList Try.prog ops Q (o :: rest) a w :=
  wpList_store1 hg 3 x y hop b (i * 3 + 2) _ _ _ hx hy rfl Try.infoI L.hb (enc_2 hi) rfl
    fun w' hB hM _ => h w' ⟨L.ne, L.hg.mod hM (by simpa using L.ne), enc_set2 hi v ▸ hB⟩ (M.trans (hM.mono fun k _ hk => hk ▸ hF)) hM
theorem st_link (L : LRep w g b cap n S) (M : Mod F w0 w) (hF : F b) (hg : o.guard = none) (x y : Operand) (hop : o.op = .store 94 x y) (i : Nat) (t : Bool) (p s : Nat) (hi : i < n + 1) (hx : a.eval x = .pointer (some ⟨b, i * 3, none⟩)) (hy : a.eval y = .agg #[.bool t, .int .i64 p, .int .i64 s])
    (h : ∀ w', LRep w' g b cap n ⟨fset S.th i t, fset S.pr i p, fset S.sc i s⟩ → Mod F w0 w' → Mod (· = b) w w' → wpList Try.prog ops Q rest (a.put o.dst undef) w') : wpList Try.prog ops Q (o :: rest) a w :=
  wpList_store_blk hg 94 x y hop b (i * 3) _ _ [.bool t, .int .i64 p, .int .i64 s] hx hy rfl Try.info94 L.hb (fun j hj => by
      have : j = 0 ∨ j = 1 ∨ j = 2 := by simp only [List.length_cons, List.length_nil] at hj; omega
      rcases this with rfl | rfl | rfl
      · exact (congrArg Option.isSome (enc_0 hi)).trans rfl
      · rw [enc_1 hi]; rfl
      · rw [enc_2 hi]; rfl) (by intro v hv; simp only [List.mem_cons, List.not_mem_nil, or_false] at hv; rcases hv with rfl | rfl | rfl <;> rfl)
    fun w' hB hM _ => h w' ⟨L.ne, L.hg.mod hM (by simpa using L.ne), enc_w hi t p s ▸ hB⟩ (M.trans (hM.mono fun k _ hk => hk ▸ hF)) hM
end

set_option maxRecDepth 100000 in
set_option maxHeartbeats 4000000 in
theorem drop_in (g b cap n i : Nat) (S : LS) (w : World) (L : LRep w g b cap n S) (hi : i < n) (hW : WF n S) (ht : S.th i = true) :
    Calls Try.prog 54 #[.pointer (some ⟨g, 0, none⟩), .int .i64 i] w fun e w' => e = .returned (.bool true) ∧ Mod (· = b) w w' ∧ LRep w' g b cap n (dropS S i) := by
  obtain ⟨hpr, hsc⟩ := hW i (by omega)
  have c0 := L.c0
  have c1 := L.c1
  have ct := L.t (i := i) (by omega)
  have cp := L.p (i := i) (by omega)
  have cs := L.s (i := i) (by omega)
  rw [ht] at ct
  have hlt : i < n + 1 := by omega
  have hin : (i : Int) < (n : Int) + 1 := by omega
  unfold dropS
  generalize hP : S.pr i = P at *
  generalize hS : S.sc i = X at *
  clear hP hS ht hW
  have hPn : (P : Int) < (n : Int) + 1 := by omega
  have hSn : (X : Int) < (n : Int) + 1 := by omega
  go_enter Try.func54, Try.ntmps54
  go_wp2_with (go_at_call 72; refine (has_in g b cap n i true _ hi c0 c1 ct).mono ?_; rintro e w' ⟨rfl, rfl⟩)
  clear c0 c1 ct cp cs
  obtain ⟨x, hx⟩ : ∃ x, x = w'.heap.size := ⟨_, rfl⟩
  obtain ⟨w1, hw1⟩ : ∃ w1, w1 = w'.alloc (.cells #[.bool true, .int .i64 P, .int .i64 X] 94) := ⟨_, rfl⟩
  rw [← hx, ← hw1]
  have L1 : LRep w1 g b cap n S := hw1 ▸ L.alloc _
  have X1 : Blk w1 x _ := hx ▸ hw1 ▸ Blk.new w' #[.bool true, .int .i64 P, .int .i64 X] 94
  have M1 : Mod (· = b) w' w1 := hw1 ▸ Mod.alloc _ _ _
  have xb : x ≠ b := by have := L.hb.lt; omega
  clear hw1 hx
  have c0 := L1.c0
  have x1 : w1.cell? ⟨x, 1, none⟩ = some (.int .i64 P) := X1.cell 1
  have x2 : w1.cell? ⟨x, 2, none⟩ = some (.int .i64 X) := X1.cell 2
  go_still_tail 10, (by kernel_rfl)
  change wpList _ _ _ _ _ w1.drew
  refine st_succ L1.drew M1.dr rfl rfl _ _ rfl P X (by omega) rfl rfl ?_
  intro w2 L2 M2 m
  replace X2 := X1.drew.mod m xb
  clear c0 x1 x2 L1 X1 M1 m
  have c0 := L2.c0
  have x1 : w2.cell? ⟨x, 1, none⟩ = some (.int .i64 P) := X2.cell 1
  have x2 : w2.cell? ⟨x, 2, none⟩ = some (.int .i64 X) := X2.cell 2
  go_wp2
  go_still_tail 10, (by kernel_rfl)
  change wpList _ _ _ _ _ w2.drew
  refine st_prev L2.drew M2.dr rfl rfl _ _ rfl X P (by omega) rfl rfl ?_
  intro w3 L3 M3 m
  clear c0 x1 x2 L2 X2 M2 m
  have c0 := L3.c0
  go_wp2_with (refine st_link L3 M3 rfl rfl _ _ rfl i false 0 0 (by omega) rfl rfl ?_; intro w4 L4 M4 m)
  go_ret
  exact ⟨rfl, M4, L4⟩
set_option maxRecDepth 100000 in
set_option maxHeartbeats 4000000 in
theorem has_out (p : Option Addr) (i : Int) (w : World) (h : p = none ∨ ∃ g b cap n S, p = some ⟨g, 0, none⟩ ∧ LRep w g b cap n S ∧ ¬ (0 ≤ i ∧ i < n)) :
    Calls Try.prog 72 #[.pointer p, .int .i64 i] w fun e w' => e = .returned (.bool false) ∧ w' = w := by
  rcases h with rfl | ⟨g, b, cap, n, S, rfl, L, hi⟩
  · exact has_nil i w
  · have c1 := L.c1
    by_cases h0 : 0 ≤ i
    · have h1 : ¬ i < n := fun h => hi ⟨h0, h⟩
      clear hi
      go_enter Try.func72, Try.ntmps72
      go_wp2
      go_ret
      exact ⟨rfl, rfl⟩
    · clear hi
      go_enter Try.func72, Try.ntmps72
      go_wp2
      go_ret
      exact ⟨rfl, rfl⟩
set_option maxRecDepth 100000 in
set_option maxHeartbeats 4000000 in
theorem drop_no (p : Option Addr) (i : Int) (w : World) (h : Calls Try.prog 72 #[.pointer p, .int .i64 i] w fun e w' => e = .returned (.bool false) ∧ w' = w) :
    Calls Try.prog 54 #[.pointer p, .int .i64 i] w fun e w' => e = .returned (.bool false) ∧ w' = w := by
  have H := Lib.hid h
  clear h
  go_enter Try.func54, Try.ntmps54
  go_wp2_with (go_at_call 72; refine H.out.mono ?_; rintro e w' ⟨rfl, rfl⟩)
  go_ret
  exact ⟨rfl, rfl⟩
/-- 'Drop' of whatever number. -/
theorem drop_any (g b cap n i : Nat) (S : LS) (w : World) (L : LRep w g b cap n S) (hi : i < n) (hW : WF n S) :
    Calls Try.prog 54 #[.pointer (some ⟨g, 0, none⟩), .int .i64 i] w fun e w' => e = .returned (.bool (S.th i)) ∧ Mod (· = b) w w' ∧ LRep w' g b cap n (dropF S i) := by
  cases ht : S.th i with
  | true => rw [show dropF S i = dropS S i from if_pos ht]; exact drop_in g b cap n i S w L hi hW ht
  | false =>
    rw [show dropF S i = S from if_neg (by rw [ht]; simp)]
    refine (drop_no _ _ _ (has_in g b cap n i false w hi L.c0 L.c1 (by have := L.t (i := i) (by omega); rwa [ht] at this))).mono ?_
    rintro e w' ⟨rfl, rfl⟩
    exact ⟨rfl, Mod.refl _ _, L⟩
set_option maxRecDepth 100000 in
set_option maxHeartbeats 4000000 in
theorem use_in (g b cap n i : Nat) (S : LS) (w : World) (L : LRep w g b cap n S) (hi : i < n) (hW : WF n S) :
    Calls Try.prog 37 #[.pointer (some ⟨g, 0, none⟩), .int .i64 i] w fun e w' => e = .returned (.int .i64 0) ∧ Mod (· = b) w w' ∧ LRep w' g b cap n (useF n S i) := by
  have c1 := L.c1
  have hin : (i : Int) < (n : Int) + 1 := by omega
  have hnn : (n : Int) < (n : Int) + 1 := by omega
  obtain ⟨_, hF⟩ := hW.drop i (by omega) n (Nat.le_refl n)
  unfold useF
  dsimp only
  have HD := Lib.hid (drop_any g b cap n i S w L hi hW)
  generalize dropF S i = S1 at *
  clear hW
  generalize hX : S1.sc n = X at *
  have HX := Lib.hid hX
  clear hX
  have hXn : (X : Int) < (n : Int) + 1 := by omega
  go_enter Try.func37, Try.ntmps37
  go_wp2_with (go_at_call 54; refine HD.out.mono ?_; rintro e w1 ⟨rfl, M1, L1⟩; clear HD c1 L)
  have c0 := L1.c0
  have c1 := L1.c1
  have cs := L1.s (i := n) (Nat.le_refl n)
  rw [HX.out] at cs
  go_quiet (fail)
  generalize hw2 : w1.drewN _ = w2
  have L2 : LRep w2 g b cap n S1 := hw2 ▸ L1.drewN _
  have M2 : Mod (· = b) w w2 := hw2 ▸ M1.drN _
  clear c0 c1 cs hw2 L1 M1
  have c0 := L2.c0
  have c1 := L2.c1
  go_wp2
  go_still_tail 12, (by kernel_rfl)
  change wpList _ _ _ _ _ w2.drew
  refine st_link L2.drew M2.dr rfl rfl _ _ rfl i true n X (by omega) rfl rfl ?_
  intro w3 L3 M3 m
  clear c0 c1 L2 M2 m
  have c0 := L3.c0
  go_wp2_with (refine st_prev L3 M3 rfl rfl _ _ rfl X i (by omega) rfl rfl ?_; intro w4 L4 M4 m; clear c0 L3 M3 m; have c0 := L4.c0; have c1 := L4.c1)
  go_still_tail 11, (by kernel_rfl)
  change wpList _ _ _ _ _ w4.drew
  refine st_succ L4.drew M4.dr rfl rfl _ _ rfl n i (by omega) rfl rfl ?_
  intro w5 L5 M5 m
  clear c0 c1
  go_wp2
  go_ret
  exact ⟨rfl, M5, L5⟩
set_option maxRecDepth 100000 in
set_option maxHeartbeats 4000000 in
theorem use_nil (i : Int) (w : World) : Calls Try.prog 37 #[.pointer none, .int .i64 i] w fun e w' => e = .returned (.int .i64 1) ∧ w' = w := by
  go_enter Try.func37, Try.ntmps37
  go_wp2
  go_ret
  exact ⟨rfl, rfl⟩
set_option maxRecDepth 100000 in
set_option maxHeartbeats 4000000 in
theorem use_out (g b cap n : Nat) (i : Int) (S : LS) (w : World) (L : LRep w g b cap n S) (hi : ¬ (0 ≤ i ∧ i < n)) :
    Calls Try.prog 37 #[.pointer (some ⟨g, 0, none⟩), .int .i64 i] w fun e w' => e = .returned (.int .i64 1) ∧ w' = w := by
  have c1 := L.c1
  by_cases h0 : 0 ≤ i
  · have h1 : ¬ i < n := fun h => hi ⟨h0, h⟩
    clear hi
    go_enter Try.func37, Try.ntmps37
    go_wp2
    go_ret
    exact ⟨rfl, rfl⟩
  · clear hi
    go_enter Try.func37, Try.ntmps37
    go_wp2
    go_ret
    exact ⟨rfl, rfl⟩
set_option maxRecDepth 100000 in
set_option maxHeartbeats 4000000 in
theorem oldest_nil (w : World) : Calls Try.prog 57 #[.pointer none] w fun e w' => e = .returned (.tuple #[.int .i64 0, .bool false]) ∧ ∃ k, w' = w.drewN k := by
  go_enter Try.func57, Try.ntmps57
  go_wp2
  go_quiet (fail)
  go_wp2
  go_ret2
  exact ⟨rfl, _, rfl⟩
set_option maxRecDepth 100000 in
set_option maxHeartbeats 4000000 in
theorem oldest_in (g b cap n : Nat) (S : LS) (w : World) (L : LRep w g b cap n S) (hW : WF n S) :
    Calls Try.prog 57 #[.pointer (some ⟨g, 0, none⟩)] w fun e w' => e = .returned (if S.pr n = n then .tuple #[.int .i64 0, .bool false] else .tuple #[.int .i64 (S.pr n), .bool true]) ∧ ∃ k, w' = w.drewN k := by
  have c0 := L.c0
  have c1 := L.c1
  have cp := L.p (i := n) (Nat.le_refl n)
  have hnn : (n : Int) < (n : Int) + 1 := by omega
  by_cases h : S.pr n = n
  · rw [if_pos h]
    rw [h] at cp
    clear h
    go_enter Try.func57, Try.ntmps57
    go_wp2
    go_quiet (fail)
    go_wp2
    go_ret2
    exact ⟨rfl, _, rfl⟩
  · rw [if_neg h]
    have h' : ((S.pr n : Int) == (n : Int)) = false := beq_eq_false_iff_ne.2 (by omega)
    clear h
    generalize S.pr n = X at *
    go_enter Try.func57, Try.ntmps57
    go_wp2
    go_quiet (fail)
    go_wp2
    go_quiet (fail)
    go_wp2
    go_ret2
    exact ⟨rfl, _, World.drewN_drewN ..⟩
/-- A list of no numbers. -/
def newS (n : Nat) : LS := ⟨fset (fun _ => false) n true, fset (fun _ => 0) n n, fset (fun _ => 0) n n⟩
theorem newS_wf (n : Nat) : WF n (newS n) := by
  intro i hi
  unfold newS fset
  refine ⟨?_, ?_⟩ <;> dsimp only <;> split <;> omega
theorem newS_cyc (n : Nat) : Cyc n (newS n) [] := by
  refine ⟨List.nodup_nil, by simp, ?_, ?_⟩
  · intro x hx; unfold newS; dsimp only; rw [fset_ne _ _ (by omega)]; simp
  · exact ⟨fset_same (fun _ => 0) n n, fset_same (fun _ => 0) n n, trivial⟩
theorem enc_zero (m : Nat) : enc m (fun _ => false) (fun _ => 0) (fun _ => 0) = fun j => (madeCells #[.bool false, .int .i64 0, .int .i64 0] (m * 3))[j]? := by
  funext j
  unfold enc madeCells
  by_cases h : j / 3 < m
  · have hj : j < m * 3 := by omega
    rw [if_pos h]
    simp only [List.size_toArray, List.length_cons, List.length_nil, Array.getElem?_map, Array.getElem?_range, hj, if_true, Option.map_some]
    have h3 : j % 3 = 0 ∨ j % 3 = 1 ∨ j % 3 = 2 := by omega
    rcases h3 with h3 | h3 | h3 <;> simp [h3]
  · rw [if_neg h]
    have hj : ¬ j < m * 3 := by omega
    simp [Array.getElem?_range, hj]
theorem Try.inf94 : (Try.prog.info? 94).map (fun i => (i.zero, i.size, i.bytes)) = some (some (.agg #[.bool false, .int .i64 0, .int .i64 0]), 3, 24) := by kernel_rfl
theorem blk_made {w : World} {g m : Nat} {cs : Array Value} (h : w.ownsRow 0 94 3 (.slice (some ⟨g, 0, none⟩) m m) m cs.toList) : Blk w g (fun j => cs[j]?) := by
  obtain ⟨h1, h2⟩ := h
  rcases h2 with ⟨h2, _⟩ | ⟨g', cap, cur, hv, _, hh, _, _, hs, ht⟩
  · simp at h2
  · simp only [Value.slice.injEq, Option.some.injEq, Addr.mk.injEq, and_true, true_and] at hv
    obtain ⟨rfl, rfl⟩ := hv
    have : cur = cs := by
      apply Array.toList_inj.1
      rw [← ht, List.take_of_length_le (by simp [hs])]
    subst this
    exact Blk.of_heap hh
def NewPost (n : Nat) (w : World) (e : Ending) (w' : World) : Prop := ∃ g b, e = .returned (.tuple #[.pointer (some ⟨g, 0, none⟩), .int .i64 0]) ∧ w.heap.size ≤ g ∧ w.heap.size ≤ b ∧ Below w.heap.size w w' ∧ LRep w' g b (n+1) n (newS n)
set_option maxRecDepth 100000 in
set_option maxHeartbeats 4000000 in
theorem new_in (n : Nat) (w : World) (h1 : 1 ≤ n) (h2 : n ≤ 1024) :
    Calls Try.prog 25 #[.int .i64 n] w (NewPost n w) := by
  obtain ⟨i0, hi, hz0, hz1, hz2⟩ := info_parts Try.inf94
  go_enter Try.func25, Try.ntmps25
  go_wp2_with (at_make; refine wpList_make_full _ rfl _ _ 90 rfl 0 94 i0 (.agg #[.bool false, .int .i64 0, .int .i64 0]) 3 Try.underlying90 hi hz0 hz1 _ _ _ _ (n+1) rfl rfl ?hL ?hC ?b2 ?b3 (Nat.zero_le _) ?_)
  case hL => simp
  case hC => simp
  case b2 => rw [hz2]; omega
  case b3 => unfold maxLen; omega
  intro w1 hown hgrow
  have B1 := blk_made hown
  have M1 : Mod (fun _ => False) w w1 := Mod.of_grown hgrow (by simp)
  generalize hb : w.heap.size = b at *
  rw [← enc_zero] at B1
  clear hown hgrow hi hz0 hz1 hz2
  have hlt := B1.lt
  have hnn : (n : Int) < (n : Int) + 1 := by omega
  have HB := Lib.hid hb
  clear hb
  have hL : ∀ g w2, Blk w2 g (fun j => #[Value.slice (some ⟨b, 0, none⟩) (n+1) (n+1), .int .i64 n][j]?) → w1.heap.size = g → Mod (fun _ => False) w1 w2 → LRep w2 g b (n+1) n ⟨fun _ => false, fun _ => 0, fun _ => 0⟩ := fun g w2 G2 hg m2 =>
    ⟨by omega, ⟨fun j => by rw [G2.cell]; unfold lcells; rcases j with _ | _ | j <;> simp, G2.fz, G2.lt⟩, B1.mod m2 (by simp)⟩
  have HL := Lib.hid hL
  clear hL
  go_wp2_with (first | (refine st_link L2 M2 (F := (· = b)) rfl rfl _ _ rfl n true n n (by omega) rfl rfl ?_; intro w3 L3 M3 m) | (refine wpList_box rfl _ _ rfl (.agg #[.slice (some ⟨b, 0, none⟩) (n+1) (n+1), .int .i64 n]) #[.slice (some ⟨b, 0, none⟩) (n+1) (n+1), .int .i64 n] rfl rfl ?_; intro g w2 G2 hg m2 _ _; have L2 := HL.out _ _ G2 hg m2; have M2 : Mod (· = b) w w2 := (M1.trans m2).mono (fun _ _ h => h.elim); have c0 := L2.c0; have hgg := Lib.hid hg; clear G2 hg m2))
  go_ret2
  exact ⟨g, b, rfl, by have := HB.out; have := hgg.out; omega, by have := HB.out; omega, M3.below (Nat.le_refl _) (by intro k hk h; have := HB.out; omega), L3⟩
set_option maxRecDepth 100000 in
set_option maxHeartbeats 4000000 in
theorem new_no (n : Int) (w : World) (h : ¬ (1 ≤ n ∧ n ≤ 1024)) :
    Calls Try.prog 25 #[.int .i64 n] w fun e w' => e = .returned (.tuple #[.pointer none, .int .i64 1]) ∧ w' = w := by
  by_cases h1 : n < 1
  · clear h
    go_enter Try.func25, Try.ntmps25
    go_wp2
    go_ret2
    exact ⟨rfl, rfl⟩
  · have h2 : 1024 < n := by omega
    clear h
    go_enter Try.func25, Try.ntmps25
    go_wp2
    go_ret2
    exact ⟨rfl, rfl⟩
theorem nodup_le : ∀ (n : Nat) (o : List Nat), o.Nodup → (∀ x ∈ o, x < n) → o.length ≤ n
  | 0, o, _, h => by
    cases o with
    | nil => simp
    | cons x r => have := h x (by simp); omega
  | n + 1, o, hd, h => by
    by_cases hm : n ∈ o
    · have h1 := nodup_le n (o.erase n) (hd.erase n) (fun x hx => by
        have h2 := h x (List.mem_of_mem_erase hx)
        have h3 : x ≠ n := by rintro rfl; exact (List.Nodup.not_mem_erase hd) hx
        omega)
      rw [List.length_erase_of_mem hm] at h1
      omega
    · have h1 := nodup_le n o hd (fun x hx => by
        have h2 := h x hx
        have h3 : x ≠ n := by rintro rfl; exact hm hx
        omega)
      omega
theorem Cyc.len {n : Nat} {S : LS} {o : List Nat} (h : Cyc n S o) : o.length ≤ n := nodup_le n o h.nd h.lt
/-- The list at g (its links at b) has these numbers, the one used last first. -/
def Lru (w : World) (g b n : Nat) (o : List Nat) : Prop := ∃ cap S, LRep w g b cap n S ∧ Cyc n S o ∧ WF n S
theorem Lru.mod {w w' : World} {g b n : Nat} {o : List Nat} {F : Nat → Prop} (h : Lru w g b n o) (m : Mod F w w') (h1 : ¬ F g) (h2 : ¬ F b) : Lru w' g b n o := by
  obtain ⟨cap, S, L, C, W⟩ := h; exact ⟨cap, S, L.mod m h1 h2, C, W⟩
theorem Lru.below {w w' : World} {g b n : Nat} {o : List Nat} (h : Lru w g b n o) (m : Below w.heap.size w w') : Lru w' g b n o :=
  h.mod (Mod.of_below (S := fun _ => False) m) (by simp) (by simp)
theorem Lru.lt {w : World} {g b n : Nat} {o : List Nat} (h : Lru w g b n o) : g < w.heap.size ∧ b < w.heap.size := by
  obtain ⟨cap, S, L, C, W⟩ := h; exact ⟨L.hg.lt, L.hb.lt⟩
theorem Lru.nd {w : World} {g b n : Nat} {o : List Nat} (h : Lru w g b n o) : o.Nodup ∧ (∀ x ∈ o, x < n) ∧ o.length ≤ n := by
  obtain ⟨cap, S, L, C, W⟩ := h; exact ⟨C.nd, C.lt, C.len⟩
def lruNewPost (n : Nat) (w : World) (e : Ending) (w' : World) : Prop := ∃ g b, e = .returned (.tuple #[.pointer (some ⟨g, 0, none⟩), .int .i64 0]) ∧ w.heap.size ≤ g ∧ w.heap.size ≤ b ∧ Below w.heap.size w w' ∧ Lru w' g b n []
theorem lru_new (n : Nat) (w : World) (h1 : 1 ≤ n) (h2 : n ≤ 1024) : Calls Try.prog 25 #[.int .i64 n] w (lruNewPost n w) :=
  (new_in n w h1 h2).mono fun _ _ ⟨g, b, he, h3, h4, hB, L⟩ => ⟨g, b, he, h3, h4, hB, _, _, L, newS_cyc n, newS_wf n⟩
def ofNs (o : List Nat) : List Int := o.map fun (x : Nat) => (x : Int)
def dropO (o : List Nat) (i : Int) : List Nat := o.filter fun (x : Nat) => (x : Int) != i
theorem lru_drop {g b n : Nat} {o : List Nat} {w : World} (i : Int) (H : Lru w g b n o) :
    Calls Try.prog 54 #[.pointer (some ⟨g, 0, none⟩), .int .i64 i] w fun e w' => e = .returned (.bool ((ofNs o).contains i)) ∧ Mod (· = b) w w' ∧ Lru w' g b n (dropO o i) := by
  obtain ⟨cap, S, L, C, W⟩ := H
  by_cases hi : 0 ≤ i ∧ i < n
  · obtain ⟨j, rfl⟩ := Int.eq_ofNat_of_zero_le hi.1
    have hj : j < n := by omega
    refine (drop_any g b cap n j S w L hj W).mono ?_
    rintro e w' ⟨rfl, M, L'⟩
    have hc : S.th j = (ofNs o).contains (j : Int) := by
      rw [Bool.eq_iff_iff, C.th j hj]; simp only [ofNs, List.contains_iff_mem, List.mem_map]
      exact ⟨fun h => ⟨j, h, rfl⟩, fun ⟨a, ha, e⟩ => (by omega : a = j) ▸ ha⟩
    have hd : dropO o (j : Int) = o.filter (fun x => x != j) := by
      unfold dropO; congr 1; funext x; rw [Bool.eq_iff_iff, bne_iff_ne, bne_iff_ne]; omega
    refine ⟨by rw [hc], M, cap, _, L', ?_, W.drop j (by omega)⟩
    rw [hd]; exact C.dropF hj
  · refine (drop_no _ _ _ (has_out _ _ w (.inr ⟨g, b, cap, n, S, rfl, L, hi⟩))).mono ?_
    rintro e w' ⟨rfl, rfl⟩
    have hn : ∀ x ∈ o, (x : Int) ≠ i := fun x hx h => hi (by have := C.lt x hx; omega)
    have hc : (ofNs o).contains i = false := by
      rw [Bool.eq_false_iff]; intro h; simp [ofNs] at h; obtain ⟨x, hx, rfl⟩ := h; exact hn x hx rfl
    refine ⟨by rw [hc], Mod.refl _ _, cap, S, L, ?_, W⟩
    unfold dropO
    rw [List.filter_eq_self.2 (fun x hx => by simpa using hn x hx)]; exact C
theorem lru_use {g b n : Nat} {o : List Nat} {w : World} (i : Int) (hi : 0 ≤ i ∧ i < n) (H : Lru w g b n o) :
    Calls Try.prog 37 #[.pointer (some ⟨g, 0, none⟩), .int .i64 i] w fun e w' => e = .returned (.int .i64 0) ∧ Mod (· = b) w w' ∧ Lru w' g b n (i.toNat :: dropO o i) := by
  obtain ⟨cap, S, L, C, W⟩ := H
  obtain ⟨j, rfl⟩ := Int.eq_ofNat_of_zero_le hi.1
  have hj : j < n := by omega
  refine (use_in g b cap n j S w L hj W).mono ?_
  rintro e w' ⟨rfl, M, L'⟩
  have hd : dropO o (j : Int) = o.filter (fun x => x != j) := by
    unfold dropO; congr 1; funext x; rw [Bool.eq_iff_iff, bne_iff_ne, bne_iff_ne]; omega
  refine ⟨rfl, M, cap, _, L', ?_, W.use j (by omega)⟩
  rw [hd]; exact C.useF hj
theorem lru_use_no {g b n : Nat} {o : List Nat} {w : World} (i : Int) (hi : ¬ (0 ≤ i ∧ i < n)) (H : Lru w g b n o) :
    Calls Try.prog 37 #[.pointer (some ⟨g, 0, none⟩), .int .i64 i] w fun e w' => e = .returned (.int .i64 1) ∧ w' = w := by
  obtain ⟨cap, S, L, C, W⟩ := H
  exact use_out g b cap n i S w L hi
theorem getLastD_eq (o : List Nat) (n : Nat) (h : ∀ x ∈ o, x < n) : (o.getLastD n = n ↔ o = []) := by
  rcases List.eq_nil_or_concat o with rfl | ⟨a, x, rfl⟩
  · simp
  · have := h x (by simp); simp; omega
theorem lru_oldest {g b n : Nat} {o : List Nat} {w : World} (H : Lru w g b n o) :
    Calls Try.prog 57 #[.pointer (some ⟨g, 0, none⟩)] w fun e w' => e = .returned (.tuple #[.int .i64 ((o.getLastD 0 : Nat) : Int), .bool (!o.isEmpty)]) ∧ Below w.heap.size w w' := by
  obtain ⟨cap, S, L, C, W⟩ := H
  refine (oldest_in g b cap n S w L W).mono ?_
  rintro e w' ⟨rfl, k, rfl⟩
  refine ⟨?_, (Mod.drewN (fun _ => False) w k).below (Nat.le_refl _) (by simp)⟩
  rw [C.last]
  rcases List.eq_nil_or_concat o with rfl | ⟨a, x, rfl⟩
  · simp
  · have := C.lt x (by simp)
    rw [if_neg (by simp; omega)]; simp
theorem lru_oldest_nil {g b n : Nat} {w : World} (H : Lru w g b n []) :
    Calls Try.prog 57 #[.pointer (some ⟨g, 0, none⟩)] w fun e w' => e = .returned (.tuple #[.int .i64 0, .bool false]) ∧ Below w.heap.size w w' :=
  (lru_oldest H).mono fun _ _ h => h
theorem lru_oldest_snoc {g b n x : Nat} {a : List Nat} {w : World} (H : Lru w g b n (a ++ [x])) :
    Calls Try.prog 57 #[.pointer (some ⟨g, 0, none⟩)] w fun e w' => e = .returned (.tuple #[.int .i64 (x : Nat), .bool true]) ∧ Below w.heap.size w w' :=
  (lru_oldest H).mono fun _ _ h => ⟨by rw [h.1]; simp, h.2⟩
end Go.Proofs.Ytecgnfklfgjgaaa
