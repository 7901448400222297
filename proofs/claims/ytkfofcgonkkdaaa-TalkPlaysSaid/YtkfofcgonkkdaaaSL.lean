/- Assertions on memory that speak of blocks of their own; what a call may have changed. -/
import Derived.Test.YtkfofcgonkkdaaaMod
import Derived.Test.YtkfofcgonkkdaaaMap
import Derived.Test.YtkfofcgonkkdaaaWWords
namespace Go.Tat
open Go.RowKit Go.Proofs.YtkfofcgonkkdaaaW.PrintWords
/-- An assertion: it speaks of its own blocks alone. -/
structure Asr where
  fp : Nat → Prop
  holds : World → Prop
  lt : ∀ {w : World} {k : Nat}, holds w → fp k → k < w.heap.size
  loc : ∀ {w w' : World}, holds w → (∀ k, fp k → w'.heap[k]? = w.heap[k]?) → holds w'
def Apart (a b : Asr) : Prop := ∀ k, a.fp k → ¬ b.fp k
structure Sat (w : World) (L : List Asr) : Prop where
  all : ∀ a ∈ L, a.holds w
  dis : L.Pairwise Apart
theorem Sat.get {w : World} {L : List Asr} (h : Sat w L) (i : Nat) {a : Asr} (hi : L[i]? = some a) : a.holds w := h.all a (List.mem_of_getElem? hi)
theorem Sat.nil (w : World) : Sat w [] := ⟨by simp, List.Pairwise.nil⟩
theorem Sat.keep {w w' : World} {L : List Asr} (h : Sat w L) (m : ∀ a ∈ L, ∀ k, a.fp k → w'.heap[k]? = w.heap[k]?) : Sat w' L :=
  ⟨fun a ha => a.loc (h.all a ha) (m a ha), h.dis⟩
theorem split_at {α : Type} {L : List α} {i : Nat} {a : α} (hi : L[i]? = some a) : L = L.take i ++ a :: L.drop (i + 1) := by
  obtain ⟨hl, he⟩ := List.getElem?_eq_some_iff.1 hi
  rw [← he, ← List.drop_eq_getElem_cons hl, List.take_append_drop]
theorem set_at {α : Type} {L : List α} {i : Nat} {a : α} (hi : L[i]? = some a) (a' : α) : L.set i a' = L.take i ++ a' :: L.drop (i + 1) := by
  obtain ⟨hl, _⟩ := List.getElem?_eq_some_iff.1 hi
  rw [List.set_eq_take_append_cons_drop, if_pos hl]
/-- One assertion's blocks were changed. -/
theorem Sat.upd {w w' : World} {L : List Asr} (h : Sat w L) (i : Nat) {a a' : Asr} (hi : L[i]? = some a) (m : Mod a.fp w w') (ha : a'.holds w') (hf : ∀ k, a'.fp k → a.fp k ∨ w.heap.size ≤ k) : Sat w' (L.set i a') := by
  rw [set_at hi]
  have e := split_at hi
  generalize L.take i = L1 at *
  generalize L.drop (i + 1) = L2 at *
  subst e
  have hd := h.dis
  rw [List.pairwise_append, List.pairwise_cons] at hd
  obtain ⟨d1, ⟨d2, d3⟩, d4⟩ := hd
  refine ⟨fun b hb => ?_, ?_⟩
  · rcases List.mem_append.1 hb with hb | hb
    · exact b.loc (h.all b (by simp [hb])) fun k hk => m.block k (b.lt (h.all b (by simp [hb])) hk) (d4 b hb a (by simp) k hk)
    · rcases List.mem_cons.1 hb with rfl | hb
      · exact ha
      · exact b.loc (h.all b (by simp [hb])) fun k hk => m.block k (b.lt (h.all b (by simp [hb])) hk) fun hka => d2 b hb k hka hk
  · rw [List.pairwise_append, List.pairwise_cons]
    refine ⟨d1, ⟨fun b hb k hk hkb => ?_, d3⟩, fun b hb c hc k hk hkc => ?_⟩
    · rcases hf k hk with h1 | h1
      · exact d2 b hb k h1 hkb
      · have := b.lt (h.all b (by simp [hb])) hkb; omega
    · rcases List.mem_cons.1 hc with rfl | hc
      · rcases hf k hkc with h1 | h1
        · exact d4 b hb a (by simp) k hk h1
        · have := b.lt (h.all b (by simp [hb])) hk; omega
      · exact d4 b hb c (by simp [hc]) k hk hkc
theorem Sat.add {w w' : World} {L : List Asr} (h : Sat w L) {a : Asr} (m : Below w.heap.size w w') (ha : a.holds w') (hf : ∀ k, a.fp k → w.heap.size ≤ k) : Sat w' (L ++ [a]) := by
  refine ⟨fun b hb => ?_, ?_⟩
  · rcases List.mem_append.1 hb with hb | hb
    · exact b.loc (h.all b hb) fun k hk => m.block k (b.lt (h.all b hb) hk)
    · rw [List.mem_singleton.1 hb]; exact ha
  · rw [List.pairwise_append]
    refine ⟨h.dis, List.pairwise_singleton _ _, fun b hb c hc k hk hkc => ?_⟩
    rw [List.mem_singleton.1 hc] at hkc
    have h1 := b.lt (h.all b hb) hk
    have h2 := hf k hkc
    omega
theorem Sat.sub {w : World} {L M : List Asr} (h : Sat w L) (hs : M.Sublist L) : Sat w M := ⟨fun a ha => h.all a (hs.subset ha), h.dis.sublist hs⟩
theorem Apart.symm {a b : Asr} (h : Apart a b) : Apart b a := fun k hb ha => h k ha hb
theorem Sat.perm {w : World} {L M : List Asr} (h : Sat w L) (hs : M.Perm L) : Sat w M :=
  ⟨fun a ha => h.all a (hs.subset ha), (hs.pairwise_iff (fun h => Apart.symm h)).2 h.dis⟩
/-- Two assertions speak of other blocks. -/
theorem Sat.ne {w : World} {L : List Asr} (h : Sat w L) (i j : Nat) {a b : Asr} (hi : L[i]? = some a) (hj : L[j]? = some b) (hij : i < j) : Apart a b := by
  obtain ⟨h1, rfl⟩ := List.getElem?_eq_some_iff.1 hi
  obtain ⟨h2, rfl⟩ := List.getElem?_eq_some_iff.1 hj
  exact List.pairwise_iff_getElem.1 h.dis i j h1 h2 hij
/-! ### What a walk holds: F: which of the blocks of w0 it may change -/
structure St (F : Nat → Prop) (w0 w : World) (L : List Asr) : Prop where
  sat : Sat w L
  inn : ∀ a ∈ L, ∀ k, a.fp k → k < w0.heap.size → F k
  mod : Mod F w0 w
section
variable {F : Nat → Prop} {w0 w w' : World} {L : List Asr}
theorem St.start (h : Sat w L) (hF : ∀ a ∈ L, ∀ k, a.fp k → F k) : St F w w L := ⟨h, fun a ha k hk _ => hF a ha k hk, Mod.refl _ _⟩
theorem St.nil (F : Nat → Prop) (w : World) : St F w w [] := ⟨Sat.nil w, by simp, Mod.refl _ _⟩
theorem St.upd (h : St F w0 w L) (i : Nat) {a a' : Asr} (hi : L[i]? = some a) (m : Mod a.fp w w') (ha : a'.holds w') (hf : ∀ k, a'.fp k → a.fp k ∨ w.heap.size ≤ k) : St F w0 w' (L.set i a') := by
  have hmem := List.mem_of_getElem? hi
  refine ⟨h.sat.upd i hi m ha hf, fun b hb k hk hl => ?_, h.mod.trans' m fun k hl hk => h.inn a hmem k hk hl⟩
  rcases List.mem_or_eq_of_mem_set hb with hb | rfl
  · exact h.inn b hb k hk hl
  · rcases hf k hk with h1 | h1
    · exact h.inn a hmem k h1 hl
    · have := h.mod.size; omega
theorem St.below (h : St F w0 w L) (m : Below w.heap.size w w') : St F w0 w' L :=
  ⟨h.sat.keep fun a ha k hk => m.block k (a.lt (h.sat.all a ha) hk), h.inn, h.mod.trans (Mod.of_below m)⟩
theorem St.drew (h : St F w0 w L) : St F w0 w.drew L := h.below (Below.refl _ _).drew
theorem St.drewN (h : St F w0 w L) (n : Nat) : St F w0 (w.drewN n) L := h.below (pw_below_drewN (Below.refl _ _) n)
theorem St.alloc (h : St F w0 w L) (o : Obj) : St F w0 (w.alloc o) L := h.below ((Below.refl _ _).alloc (Nat.le_refl _) o)
theorem St.add (h : St F w0 w L) {a : Asr} (m : Below w.heap.size w w') (ha : a.holds w') (hf : ∀ k, a.fp k → w.heap.size ≤ k) : St F w0 w' (L ++ [a]) := by
  refine ⟨h.sat.add m ha hf, fun b hb k hk hl => ?_, h.mod.trans (Mod.of_below m)⟩
  rcases List.mem_append.1 hb with hb | hb
  · exact h.inn b hb k hk hl
  · rw [List.mem_singleton.1 hb] at hk
    have h1 := hf k hk
    have h2 := h.mod.size
    omega
theorem St.sub {M : List Asr} (h : St F w0 w L) (hs : M.Sublist L) : St F w0 w M := ⟨h.sat.sub hs, fun a ha => h.inn a (hs.subset ha), h.mod⟩
theorem St.drop (h : St F w0 w L) (i : Nat) : St F w0 w (L.eraseIdx i) := h.sub (List.eraseIdx_sublist L i)
theorem St.perm {M : List Asr} (h : St F w0 w L) (hs : M.Perm L) : St F w0 w M := ⟨h.sat.perm hs, fun a ha => h.inn a (hs.subset ha), h.mod⟩
theorem St.get (h : St F w0 w L) (i : Nat) {a : Asr} (hi : L[i]? = some a) : a.holds w := h.sat.get i hi
theorem St.ne (h : St F w0 w L) (i j : Nat) {a b : Asr} (hi : L[i]? = some a) (hj : L[j]? = some b) (hij : i < j) : Apart a b := h.sat.ne i j hi hj hij
end
/-! ### Blocks, slices, maps -/
/-- The block b holds these cells. -/
def blk (b : Nat) (cs : Array Value) (t : TypeId) : Asr where
  fp := (· = b)
  holds w := w.heap[b]? = some (.cells cs t (0, 0))
  lt h hk := by rw [hk]; exact (Array.getElem?_eq_some_iff.1 h).1
  loc h m := (m b rfl).trans h
/-- A slice of the call's own; it lies in F. -/
def slcF {α : Type} (F : Nat → Prop) (d : Kd α) (e : Nat) (v : Value) (xs : List α) : Asr where
  fp := F
  holds w := d.R e w 0 F v xs ∧ ∀ k, F k → k < w.heap.size
  lt h hk := h.2 _ hk
  loc {w w'} h m := ⟨Kd.R_move h.1 m, fun k hk => by
    have h1 := h.2 k hk
    have h2 := m k hk
    rw [Array.getElem?_eq_getElem h1] at h2
    exact (Array.getElem?_eq_some_iff.1 h2).1⟩
/-- A slice whose elements lie in its own block. -/
abbrev slc {α : Type} (d : Kd α) (e : Nat) (v : Value) (xs : List α) : Asr := slcF (fun k => v.ownBlock = some k) d e v xs
/-- A map. -/
def mapA {κ ν : Type} (b : Nat) (ek : κ → Value) (ev : ν → Value) (M : List (κ × ν)) : Asr where
  fp := (· = b)
  holds w := MapAt w b ek ev M
  lt h hk := by rw [hk]; exact h.lt
  loc h m := by
    obtain ⟨es, c, hb, r⟩ := h.rep
    exact ⟨h.nd, es, c, (m b rfl).trans hb, r⟩
/-- Assertions behind one: F is where they lie. -/
def Asr.ex {ι : Type} (F : Nat → Prop) (L : ι → List Asr) : Asr where
  fp := F
  holds w := (∃ i, Sat w (L i) ∧ ∀ a ∈ L i, ∀ k, a.fp k → F k) ∧ ∀ k, F k → k < w.heap.size
  lt h hk := h.2 _ hk
  loc {w w'} h m := by
    obtain ⟨⟨i, h, e⟩, hl⟩ := h
    refine ⟨⟨i, h.keep fun a ha k hk => m k (e a ha k hk), e⟩, fun k hk => ?_⟩
    have h1 := hl k hk
    have h2 := m k hk
    rw [Array.getElem?_eq_getElem h1] at h2
    exact (Array.getElem?_eq_some_iff.1 h2).1
theorem slc_of {α : Type} {d : Kd α} {e : Nat} {w : World} {b : Nat} {ok : Nat → Prop} {v : Value} {xs : List α} (h : d.R e w b ok v xs) (hE : d.E = []) : (slc d e v xs).holds w := by
  have h1 := Kd.R_lower (Kd.R_bound h) (Nat.zero_le b)
  refine ⟨⟨fun k hk => hk, ?_⟩, fun k hk => (h1.1 k hk).2.2.1⟩
  obtain ⟨inner, ho, hr⟩ := h1.2
  exact ⟨inner, ho, hr.imp_ fun p c hp => d.M_mono (fun k hk => by
    obtain ⟨_, _, _, q, hq, _⟩ := hk
    rw [hE] at hq; simp at hq) (d.M_bound hp)⟩
theorem slc_R {α : Type} {d : Kd α} {e : Nat} {w : World} {v : Value} {xs : List α} (h : (slc d e v xs).holds w) : d.R e w 0 (fun k => v.ownBlock = some k) v xs := h.1
theorem slc_nil {α : Type} (d : Kd α) (e : Nat) (w : World) : (slc d e (.slice none 0 0) []).holds w := ⟨Kd.R_nil _ _ _ _ _, by simp [Value.ownBlock]⟩
section
variable {F : Nat → Prop} {w0 w w' : World} {L : List Asr}
theorem St.set (h : St F w0 w L) (i : Nat) {b : Nat} {cs : Array Value} {t : TypeId} (hi : L[i]? = some (blk b cs t)) (k : Nat) (v : Value) : St F w0 (w.setCell ⟨b, k, none⟩ v) (L.set i (blk b (cs.setIfInBounds k v) t)) :=
  h.upd i hi (Mod.setCell (S := fun k => k = b) rfl v) (blk_set (h.get i hi) k v) (fun k hk => .inl hk)
theorem St.new (h : St F w0 w L) (cs : Array Value) (t : TypeId) : St F w0 (w.alloc (.cells cs t)) (L ++ [blk w.heap.size cs t]) :=
  h.add ((Below.refl _ _).alloc (Nat.le_refl _) _) (heap_alloc_new w _) (fun k hk => Nat.le_of_eq hk.symm)
theorem St.new' (h : St F w0 w L) (cs : Array Value) (t : TypeId) (b : Nat) (hb : w.heap.size = b) : St F w0 (w.alloc (.cells cs t)) (L ++ [blk b cs t]) := hb ▸ h.new cs t
theorem St.nils (h : St F w0 w L) {α : Type} (d : Kd α) (e : Nat) : St F w0 w (L ++ [slc d e (.slice none 0 0) []]) :=
  h.add (Below.refl _ _) (slc_nil d e w) (by simp [Value.ownBlock, slcF])
theorem St.cell (h : St F w0 w L) (i : Nat) {b : Nat} {cs : Array Value} {t : TypeId} (hi : L[i]? = some (blk b cs t)) (k : Nat) : w.cell? ⟨b, k, none⟩ = cs[k]? := blk_cell (h.get i hi) k
theorem St.frozen (h : St F w0 w L) (i : Nat) {b : Nat} {cs : Array Value} {t : TypeId} (hi : L[i]? = some (blk b cs t)) (k : Nat) : w.frozen? ⟨b, k, none⟩ = false := blk_frozen (h.get i hi) k
theorem St.blt (h : St F w0 w L) (i : Nat) {b : Nat} {cs : Array Value} {t : TypeId} (hi : L[i]? = some (blk b cs t)) : b < w.heap.size := (blk b cs t).lt (h.get i hi) rfl
/-- A slice grown by append. -/
theorem St.app (h : St F w0 w L) (i : Nat) {α : Type} {d : Kd α} {e : Nat} {v v' : Value} {xs ys : List α} (hi : L[i]? = some (slc d e v xs)) (hE : d.E = []) {ok : Nat → Prop} (hR : d.R e w' 0 ok v' ys) (m : Mod (fun k => v.ownBlock = some k) w w') (ho : ∀ k, v'.ownBlock = some k → v.ownBlock = some k ∨ w.heap.size ≤ k) : St F w0 w' (L.set i (slc d e v' ys)) :=
  h.upd i hi m (slc_of hR hE) ho
/-- Another value in a slice's place, of the same block. -/
theorem St.slice (h : St F w0 w L) (i : Nat) {α : Type} {d : Kd α} {e : Nat} {v : Value} {xs : List α} (hi : L[i]? = some (slc d e v xs)) : ∃ A c, v = .slice A xs.length c ∧ xs.length ≤ c ∧ d.C w A xs.length xs := Kd.R_reads (h.get i hi).1
end
theorem Apart.new {w : World} {a b : Asr} (h : a.holds w) (hb : ∀ k, b.fp k → w.heap.size ≤ k) : Apart a b := fun k hk hk' => by
  have := a.lt h hk; have := hb k hk'; omega
/-- Some more assertions, on new blocks. -/
theorem Sat.adds {w' : World} {L M : List Asr} (h : Sat w' L) (hM : Sat w' M) (hd : ∀ a ∈ L, ∀ b ∈ M, Apart a b) : Sat w' (L ++ M) :=
  ⟨fun a ha => (List.mem_append.1 ha).elim (h.all a) (hM.all a), by
    rw [List.pairwise_append]; exact ⟨h.dis, hM.dis, fun a ha b hb => hd a ha b hb⟩⟩
/-- A method that changes one object, and gives new things. -/
theorem St.method {F : Nat → Prop} {w0 w w' : World} {L M : List Asr} (h : St F w0 w L) (i : Nat) {a a' : Asr} (hi : L[i]? = some a) (m : Mod a.fp w w') (ha : a'.holds w') (hf : ∀ k, a'.fp k → a.fp k ∨ w.heap.size ≤ k) (hM : Sat w' M) (hn : ∀ b ∈ M, ∀ k, b.fp k → w.heap.size ≤ k) (hd : ∀ b ∈ M, Apart a' b) : St F w0 w' (L.set i a' ++ M) := by
  have h1 := h.upd i hi m ha hf
  refine ⟨Sat.adds h1.sat hM fun b hb c hc => ?_, fun b hb k hk hl => ?_, h1.mod⟩
  · rw [set_at hi] at hb
    have e := split_at hi
    rcases List.mem_append.1 hb with hb | hb
    · intro k hk hk'
      have hbL : b ∈ L := by rw [e]; simp [hb]
      have := b.lt (h.sat.all b hbL) hk
      have := hn c hc k hk'
      omega
    · rcases List.mem_cons.1 hb with rfl | hb
      · exact hd c hc
      · intro k hk hk'
        have hbL : b ∈ L := by rw [e]; simp [hb]
        have := b.lt (h.sat.all b hbL) hk
        have := hn c hc k hk'
        omega
  · rcases List.mem_append.1 hb with hb | hb
    · exact h1.inn b hb k hk hl
    · have := hn b hb k hk
      have := h.mod.size
      omega
/-- Blocks of other types lie apart. -/
theorem slc_apart {α β : Type} {d : Kd α} {d' : Kd β} {e e' : Nat} {w : World} {v u : Value} {xs : List α} {ys : List β} (h : (slc d e v xs).holds w) (h' : (slc d' e' u ys).holds w) (he : e ≠ e') : Apart (slc d e v xs) (slc d' e' u ys) := by
  intro k hk hk'
  obtain ⟨c1, h1⟩ := Kd.R_typed h.1 k hk
  obtain ⟨c2, h2⟩ := Kd.R_typed h'.1 k hk'
  rw [h1] at h2
  injection h2 with h2
  injection h2 with _ h3
  exact he h3
/-! ### Assertions behind one, opened and closed -/
def fpsL (L : List Asr) (k : Nat) : Prop := ∃ a ∈ L, a.fp k
theorem Asr.ex_open {ι : Type} {F : Nat → Prop} {L : ι → List Asr} {w : World} (h : (Asr.ex F L).holds w) : ∃ i, St F w w (L i) := by
  obtain ⟨⟨i, hs, he⟩, _⟩ := h
  exact ⟨i, St.start hs he⟩
theorem St.exUpd {F Fp : Nat → Prop} {w0 w w' : World} {A : List Asr} (h : St F w0 w A) (i : Nat) {ι κ : Type} {L0 : ι → List Asr} (hi : A[i]? = some (Asr.ex Fp L0)) {L1 : κ → List Asr} (j : κ) (h' : St Fp w w' (L1 j)) : St F w0 w' (A.set i (Asr.ex (fpsL (L1 j)) L1)) := by
  refine h.upd i hi h'.mod (a' := Asr.ex (fpsL (L1 j)) L1) ⟨⟨j, h'.sat, fun a ha k hk => ⟨a, ha, hk⟩⟩, fun k hk => ?_⟩ fun k hk => ?_
  · obtain ⟨a, ha, hk⟩ := hk
    exact a.lt (h'.sat.all a ha) hk
  · obtain ⟨a, ha, hk⟩ := hk
    rcases Nat.lt_or_ge k w.heap.size with h1 | h1
    · exact .inl (h'.inn a ha k hk h1)
    · exact .inr h1
theorem St.exAdd {F : Nat → Prop} {w0 w w' : World} {A : List Asr} (h : St F w0 w A) {κ : Type} {L1 : κ → List Asr} (j : κ) (h' : St (fun _ => False) w w' (L1 j)) : St F w0 w' (A ++ [Asr.ex (fpsL (L1 j)) L1]) := by
  refine h.add (h'.mod.below (Nat.le_refl _) (by simp)) (a := Asr.ex (fpsL (L1 j)) L1) ⟨⟨j, h'.sat, fun a ha k hk => ⟨a, ha, hk⟩⟩, fun k hk => ?_⟩ fun k hk => ?_
  · obtain ⟨a, ha, hk⟩ := hk
    exact a.lt (h'.sat.all a ha) hk
  · obtain ⟨a, ha, hk⟩ := hk
    rcases Nat.lt_or_ge k w.heap.size with h1 | h1
    · exact (h'.inn a ha k hk h1).elim
    · exact h1
end Go.Tat
