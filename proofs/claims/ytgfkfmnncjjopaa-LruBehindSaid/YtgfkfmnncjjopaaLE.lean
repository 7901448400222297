import Derived.Test.YtgfkfmnncjjopaaLD
import Derived.Test.YtgfkfmnncjjopaaPLruPlaysx1
namespace Go.Proofs.Ytgfkfmnncjjopaa
open Go.RowKit Go.Tat Go.Proofs.YtgfkfmnncjjopaaW.PrintWords
/-- The list at g (its links at b) has these numbers, the one used last first. -/
def Lru (w : World) (g b n : Nat) (o : List Nat) : Prop := ∃ cap S, LRep w g b cap n S ∧ Cyc n S o ∧ WF n S
theorem Lru.mod {w w' : World} {g b n : Nat} {o : List Nat} {F : Nat → Prop} (h : Lru w g b n o) (m : Mod F w w') (h1 : ¬ F g) (h2 : ¬ F b) : Lru w' g b n o := by
  obtain ⟨cap, S, L, C, W⟩ := h; exact ⟨cap, S, L.mod m h1 h2, C, W⟩
theorem Lru.below {w w' : World} {g b n : Nat} {o : List Nat} (h : Lru w g b n o) (m : Below w.heap.size w w') : Lru w' g b n o :=
  h.mod (Mod.of_below (S := fun _ => False) m) (by simp) (by simp)
theorem Lru.lt {w : World} {g b n : Nat} {o : List Nat} (h : Lru w g b n o) : g < w.heap.size ∧ b < w.heap.size := by
  obtain ⟨cap, S, L, C, W⟩ := h; exact ⟨L.hg.lt, L.hb.lt⟩
theorem Lru.nd {w : World} {g b n : Nat} {o : List Nat} (h : Lru w g b n o) : o.Nodup ∧ (∀ x ∈ o, x < n) ∧ o.length ≤ n := by
  obtain ⟨cap, S, L, C, W⟩ := h; exact ⟨C.nd, C.lt, C.len⟩
def lruNewPost (n : Nat) (w : World) (e : Ending) (w' : World) : Prop := ∃ g b, e = .returned (.tuple #[.pointer (some ⟨g, 0, none⟩), .int .i64 0]) ∧ w.heap.size ≤ g ∧ w.heap.size ≤ b ∧ Below w.heap.size w w' ∧ Lru w' g b n []
theorem lru_new (n : Nat) (w : World) (h1 : 1 ≤ n) (h2 : n ≤ 1024) : Calls Try.prog 7 #[.int .i64 n] w (lruNewPost n w) :=
  (new_in n w h1 h2).mono fun _ _ ⟨g, b, he, h3, h4, hB, L⟩ => ⟨g, b, he, h3, h4, hB, _, _, L, newS_cyc n, newS_wf n⟩
def ofN (o : List Nat) : List Int := o.map fun (x : Nat) => (x : Int)
def dropO (o : List Nat) (i : Int) : List Nat := o.filter fun (x : Nat) => (x : Int) != i
theorem lru_drop {g b n : Nat} {o : List Nat} {w : World} (i : Int) (H : Lru w g b n o) :
    Calls Try.prog 10 #[.pointer (some ⟨g, 0, none⟩), .int .i64 i] w fun e w' => e = .returned (.bool ((ofN o).contains i)) ∧ Mod (· = b) w w' ∧ Lru w' g b n (dropO o i) := by
  obtain ⟨cap, S, L, C, W⟩ := H
  by_cases hi : 0 ≤ i ∧ i < n
  · obtain ⟨j, rfl⟩ := Int.eq_ofNat_of_zero_le hi.1
    have hj : j < n := by omega
    refine (drop_any g b cap n j S w L hj W).mono ?_
    rintro e w' ⟨rfl, M, L'⟩
    have hc : S.th j = (ofN o).contains (j : Int) := by
      rw [Bool.eq_iff_iff, C.th j hj]; simp only [ofN, List.contains_iff_mem, List.mem_map]
      exact ⟨fun h => ⟨j, h, rfl⟩, fun ⟨a, ha, e⟩ => (by omega : a = j) ▸ ha⟩
    have hd : dropO o (j : Int) = o.filter (fun x => x != j) := by
      unfold dropO; congr 1; funext x; rw [Bool.eq_iff_iff, bne_iff_ne, bne_iff_ne]; omega
    refine ⟨by rw [hc], M, cap, _, L', ?_, W.drop j (by omega)⟩
    rw [hd]; exact C.dropF hj
  · refine (drop_no _ _ _ (has_out _ _ w (.inr ⟨g, b, cap, n, S, rfl, L, hi⟩))).mono ?_
    rintro e w' ⟨rfl, rfl⟩
    have hn : ∀ x ∈ o, (x : Int) ≠ i := fun x hx h => hi (by have := C.lt x hx; omega)
    have hc : (ofN o).contains i = false := by
      rw [Bool.eq_false_iff]; intro h; simp [ofN] at h; obtain ⟨x, hx, rfl⟩ := h; exact hn x hx rfl
    refine ⟨by rw [hc], Mod.refl _ _, cap, S, L, ?_, W⟩
    unfold dropO
    rw [List.filter_eq_self.2 (fun x hx => by simpa using hn x hx)]; exact C
theorem lru_use {g b n : Nat} {o : List Nat} {w : World} (i : Int) (hi : 0 ≤ i ∧ i < n) (H : Lru w g b n o) :
    Calls Try.prog 11 #[.pointer (some ⟨g, 0, none⟩), .int .i64 i] w fun e w' => e = .returned (.int .i64 0) ∧ Mod (· = b) w w' ∧ Lru w' g b n (i.toNat :: dropO o i) := by
  obtain ⟨cap, S, L, C, W⟩ := H
  obtain ⟨j, rfl⟩ := Int.eq_ofNat_of_zero_le hi.1
  have hj : j < n := by omega
  refine (use_in g b cap n j S w L hj W).mono ?_
  rintro e w' ⟨rfl, M, L'⟩
  have hd : dropO o (j : Int) = o.filter (fun x => x != j) := by
    unfold dropO; congr 1; funext x; rw [Bool.eq_iff_iff, bne_iff_ne, bne_iff_ne]; omega
  refine ⟨rfl, M, cap, _, L', ?_, W.use j (by omega)⟩
  rw [hd]; exact C.useF hj
theorem lru_use_no {g b n : Nat} {o : List Nat} {w : World} (i : Int) (hi : ¬ (0 ≤ i ∧ i < n)) (H : Lru w g b n o) :
    Calls Try.prog 11 #[.pointer (some ⟨g, 0, none⟩), .int .i64 i] w fun e w' => e = .returned (.int .i64 1) ∧ w' = w := by
  obtain ⟨cap, S, L, C, W⟩ := H
  exact use_out g b cap n i S w L hi
theorem getLastD_eq (o : List Nat) (n : Nat) (h : ∀ x ∈ o, x < n) : (o.getLastD n = n ↔ o = []) := by
  rcases List.eq_nil_or_concat o with rfl | ⟨a, x, rfl⟩
  · simp
  · have := h x (by simp); simp; omega
theorem lru_oldest {g b n : Nat} {o : List Nat} {w : World} (H : Lru w g b n o) :
    Calls Try.prog 13 #[.pointer (some ⟨g, 0, none⟩)] w fun e w' => e = .returned (.tuple #[.int .i64 ((o.getLastD 0 : Nat) : Int), .bool (!o.isEmpty)]) ∧ Below w.heap.size w w' := by
  obtain ⟨cap, S, L, C, W⟩ := H
  refine (oldest_in g b cap n S w L W).mono ?_
  rintro e w' ⟨rfl, k, rfl⟩
  refine ⟨?_, (Mod.drewN (fun _ => False) w k).below (Nat.le_refl _) (by simp)⟩
  rw [C.last]
  rcases List.eq_nil_or_concat o with rfl | ⟨a, x, rfl⟩
  · simp
  · have := C.lt x (by simp)
    rw [if_neg (by simp; omega)]; simp
theorem lru_oldest_nil {g b n : Nat} {w : World} (H : Lru w g b n []) :
    Calls Try.prog 13 #[.pointer (some ⟨g, 0, none⟩)] w fun e w' => e = .returned (.tuple #[.int .i64 0, .bool false]) ∧ Below w.heap.size w w' :=
  (lru_oldest H).mono fun _ _ h => h
theorem lru_oldest_snoc {g b n x : Nat} {a : List Nat} {w : World} (H : Lru w g b n (a ++ [x])) :
    Calls Try.prog 13 #[.pointer (some ⟨g, 0, none⟩)] w fun e w' => e = .returned (.tuple #[.int .i64 (x : Nat), .bool true]) ∧ Below w.heap.size w w' :=
  (lru_oldest H).mono fun _ _ h => ⟨by rw [h.1]; simp, h.2⟩
theorem R_of_own {k : IntKind} {e : Nat} {w : World} {base : Nat} {v : Value} {xs : List Int} (h : w.ownsRow base e 1 v xs.length (xs.map (Value.int k))) : (Kd.int k).R e w base (fun _ => True) v xs :=
  ⟨fun _ _ => trivial, _, h, by
    refine ⟨by simp [Kd.int, Kd.scalar], fun j p hp => ?_⟩
    show ((xs.map (Value.int k)).drop (j * 1)).take 1 = [Value.int k p]
    rw [Nat.mul_one, ← List.map_drop, ← List.map_take]
    have hj := (List.getElem?_eq_some_iff.1 hp).1
    rw [List.drop_eq_getElem_cons hj]
    have : xs[j] = p := by rw [List.getElem?_eq_getElem hj] at hp; exact Option.some.inj hp
    simp [this]⟩
def lruOutPost (o : List Nat) (w : World) (e : Ending) (w' : World) : Prop := ∃ v, e = .returned v ∧ (Kd.int .i64).R 3 w' w.heap.size (fun _ => True) v (ofN o) ∧ Below w.heap.size w w'
theorem lru_order {g b n : Nat} {o : List Nat} {w : World} (H : Lru w g b n o) (hn : n ≤ 1024) : Calls Try.prog 15 #[.pointer (some ⟨g, 0, none⟩)] w (lruOutPost o w) := by
  obtain ⟨cap, S, L, C, W⟩ := H
  refine (order_in g b cap n S o w L C hn).mono ?_
  rintro e w' ⟨v, he, hv, hB⟩
  refine ⟨v, he, R_of_own ?_, hB⟩
  have : ints o = (ofN o).map (Value.int .i64) := by unfold ints ofN; simp
  rw [← this]; simpa [ofN] using hv
end Go.Proofs.Ytgfkfmnncjjopaa
