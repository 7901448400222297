import Derived.Test.YthkaahpaechljaaVC
import Derived.Test.YthkaahpaechljaaMapR
import Derived.Test.YthkaahpaechljaaStApp
import Derived.Test.YthkaahpaechljaaMore
import Derived.Test.YthkaahpaechljaaCell
namespace Go.Proofs.Ythkaahpaechljaa
open Go.RowKit Go.Tat Go.Proofs.YthkaahpaechljaaW.PrintWords PWheelPlays
/-! ### A wheel -/
structure WInv (M : List (Int × Int)) (B : List (List S56)) (m : List S56) : Prop where
  len : B.length = 64
  perm : B.flatten.Perm m
  ids : (m.map S56.f0).Nodup
  own : ∀ (k : Nat) xs, B[k]? = some xs → ∀ t ∈ xs, t.f1 % 64 = (k : Int)
  map : M.Perm (m.map fun t => (t.f0, t.f1))
  rng : ∀ t ∈ m, 0 ≤ t.f1 ∧ t.f1 < 18446744073709551616
def notId (id : Int) (t : S56) : Bool := !(t.f0 == id)
theorem notId_iff (id : Int) (t : S56) : notId id t = true ↔ t.f0 ≠ id := by simp [notId]
theorem WInv.to {M : List (Int × Int)} {B : List (List S56)} {m m' : List S56} (h : WInv M B m) (p : m.Perm m') : WInv M B m' :=
  ⟨h.len, h.perm.trans p, (p.map S56.f0).nodup h.ids, h.own, h.map.trans (p.map _), fun t ht => h.rng t (p.mem_iff.2 ht)⟩
theorem WInv.keys {M : List (Int × Int)} {B : List (List S56)} {m : List S56} (h : WInv M B m) : (M.map (·.1)).Nodup := by
  have := (h.map.map (·.1)).symm
  rw [List.map_map] at this
  exact this.nodup h.ids
theorem WInv.get {M : List (Int × Int)} {B : List (List S56)} {m : List S56} (h : WInv M B m) (id due : Int) : mget M id = some due ↔ (⟨id, due⟩ : S56) ∈ m := by
  rw [mget_iff h.keys, h.map.mem_iff, List.mem_map]
  constructor
  · rintro ⟨⟨i, d⟩, ht, e⟩
    injection e with e1 e2
    subst e1 e2
    exact ht
  · exact fun ht => ⟨_, ht, rfl⟩
theorem WInv.noneOf {M : List (Int × Int)} {B : List (List S56)} {m : List S56} (h : WInv M B m) {id : Int} (hn : mget M id = none) : m.filter (notId id) = m := by
  rw [List.filter_eq_self]
  intro t ht
  rw [notId_iff]
  rintro rfl
  have := (h.get t.f0 t.f1).2 ht
  rw [hn] at this
  exact absurd this (by simp)
theorem one_id {m : List S56} (h : (m.map S56.f0).Nodup) {x y : S56} (hx : x ∈ m) (hy : y ∈ m) (e : x.f0 = y.f0) : x = y := by
  induction m with
  | nil => exact absurd hx List.not_mem_nil
  | cons z l ih =>
    rw [List.map_cons, List.nodup_cons] at h
    rcases List.mem_cons.1 hx with hx1 | hx1 <;> rcases List.mem_cons.1 hy with hy1 | hy1
    · rw [hx1, hy1]
    · exact absurd (List.mem_map.2 ⟨y, hy1, by rw [← e, hx1]⟩ : z.f0 ∈ l.map S56.f0) h.1
    · exact absurd (List.mem_map.2 ⟨x, hx1, by rw [e, hy1]⟩ : z.f0 ∈ l.map S56.f0) h.1
    · exact ih h.2 hx1 hy1
theorem WInv.drop {M : List (Int × Int)} {B : List (List S56)} {m : List S56} (h : WInv M B m) {id due : Int} (hg : mget M id = some due) {k : Nat} {xs : List S56} (hk : due % 64 = (k : Int)) (hB : B[k]? = some xs) :
    WInv (mdel M id) (B.set k (xs.filter fun t => !(t.f0 == id))) (m.filter (notId id)) := by
  have ht := (h.get id due).1 hg
  have hmem : ∀ j ys, B[j]? = some ys → ∀ t ∈ ys, t ∈ m := fun j ys hj t hty => h.perm.mem_iff.1 (List.mem_flatten.2 ⟨ys, List.mem_of_getElem? hj, hty⟩)
  have hset : B.set k (xs.filter fun t => !(t.f0 == id)) = B.map (List.filter (notId id)) := by
    refine List.ext_getElem? fun j => ?_
    rw [List.getElem?_set, List.getElem?_map]
    by_cases hjk : k = j
    · subst hjk
      rw [if_pos rfl, if_pos (List.getElem?_eq_some_iff.1 hB).1, hB]
      rfl
    · rw [if_neg hjk]
      cases hj : B[j]? with
      | none => rfl
      | some ys =>
        rw [Option.map_some]
        congr 1
        symm
        rw [List.filter_eq_self]
        intro t hty
        rw [notId_iff]
        intro e
        have h1 := one_id h.ids (hmem j ys hj t hty) ht e
        have h2 := h.own j ys hj t hty
        rw [h1, hk] at h2
        exact hjk (by exact_mod_cast h2)
  refine ⟨by rw [List.length_set]; exact h.len, ?_, (List.filter_sublist.map _).nodup h.ids, fun j ys hj t hty => ?_, ?_, fun t htm => h.rng t (List.mem_filter.1 htm).1⟩
  · rw [hset, ← List.filter_flatten]
    exact h.perm.filter _
  · rw [hset, List.getElem?_map] at hj
    cases hj' : B[j]? with
    | none => rw [hj'] at hj; exact absurd hj (by simp)
    | some zs =>
      rw [hj', Option.map_some] at hj
      injection hj with hj
      subst hj
      exact h.own j zs hj' t (List.mem_filter.1 hty).1
  · rw [mdel_eq _ _ h.keys]
    have := h.map.filter fun p => decide (p.1 ≠ id)
    rw [List.filter_map] at this
    refine this.trans (List.Perm.of_eq ?_)
    congr 2
    funext t
    simp only [notId, Function.comp_apply, ne_eq]
    by_cases e : t.f0 = id <;> simp [e]
theorem WInv.add {M : List (Int × Int)} {B : List (List S56)} {m : List S56} (h : WInv M B m) {id due : Int} (hn : ∀ t ∈ m, t.f0 ≠ id) (hd0 : 0 ≤ due) (hd1 : due < 18446744073709551616) {k : Nat} {xs : List S56} (hk : due % 64 = (k : Int)) (hB : B[k]? = some xs) :
    WInv (mput M id due) (B.set k (xs ++ [⟨id, due⟩])) (m ++ [⟨id, due⟩]) := by
  have hg : mpos M id = none := by
    rw [mpos_none]
    rintro p hp rfl
    obtain ⟨t, ht, e⟩ := List.mem_map.1 (h.map.mem_iff.1 hp)
    exact hn t ht (congrArg Prod.fst e)
  obtain ⟨hkl, hke⟩ := List.getElem?_eq_some_iff.1 hB
  refine ⟨by rw [List.length_set]; exact h.len, ?_, ?_, fun j ys hj t hty => ?_, ?_, fun t ht => ?_⟩
  · rw [List.set_eq_take_append_cons_drop, if_pos hkl, List.flatten_append, List.flatten_cons]
    have e : B = B.take k ++ xs :: B.drop (k + 1) := by rw [← hke, ← List.drop_eq_getElem_cons hkl, List.take_append_drop]
    have hp := h.perm
    rw [e, List.flatten_append, List.flatten_cons] at hp
    refine List.Perm.trans ?_ (hp.append_right _)
    simp only [List.append_assoc]
    refine List.Perm.append_left _ (List.Perm.append_left _ ?_)
    exact List.perm_append_comm
  · rw [List.map_append, List.nodup_append]
    refine ⟨h.ids, by simp, fun a ha b hb => ?_⟩
    obtain ⟨t, ht, rfl⟩ := List.mem_map.1 ha
    simp only [List.map_cons, List.map_nil, List.mem_singleton] at hb
    subst hb
    exact hn t ht
  · rw [List.getElem?_set] at hj
    by_cases hjk : k = j
    · subst hjk
      rw [if_pos rfl, if_pos hkl] at hj
      injection hj with hj
      subst hj
      rcases List.mem_append.1 hty with h1 | h1
      · exact h.own k xs hB t h1
      · rw [List.mem_singleton.1 h1]; exact hk
    · rw [if_neg hjk] at hj
      exact h.own j ys hj t hty
  · unfold mput
    rw [hg, List.map_append]
    exact h.map.append_right _
  · rcases List.mem_append.1 ht with h1 | h1
    · exact h.rng t h1
    · rw [List.mem_singleton.1 h1]; exact ⟨hd0, hd1⟩
theorem WInv.new : WInv [] (List.replicate 64 []) [] := ⟨by simp, by simp, by simp, fun k xs h t ht => by
  obtain ⟨_, e⟩ := List.getElem?_eq_some_iff.1 h
  rw [List.getElem_replicate] at e
  subst e
  exact absurd ht List.not_mem_nil, List.Perm.refl _, fun t ht => absurd ht List.not_mem_nil⟩
def zipA (V : List Value) (B : List (List S56)) : List Asr := List.zipWith (fun v xs => slc k56 56 v xs) V B
theorem zipA_get {V : List Value} {B : List (List S56)} {k : Nat} {v : Value} {xs : List S56} (hv : V[k]? = some v) (hx : B[k]? = some xs) : (zipA V B)[k]? = some (slc k56 56 v xs) := by
  unfold zipA
  rw [List.getElem?_zipWith, hv, hx]
theorem zipA_set : ∀ (V : List Value) (B : List (List S56)) (k : Nat) (v : Value) (xs : List S56), (zipA V B).set k (slc k56 56 v xs) = zipA (V.set k v) (B.set k xs)
  | [], B, k, v, xs => by simp [zipA]
  | u :: V, [], k, v, xs => by simp [zipA]
  | u :: V, ys :: B, 0, v, xs => by simp [zipA]
  | u :: V, ys :: B, k + 1, v, xs => by
    have := zipA_set V B k v xs
    unfold zipA at *
    simp only [List.zipWith_cons_cons, List.set_cons_succ, this]
/-- A fact, among assertions on memory. -/
def pureA (p : Prop) : Asr := ⟨fun _ => False, fun _ => p, fun _ h => h.elim, fun h _ => h⟩
theorem _root_.Go.Tat.St.pure {F : Nat → Prop} {w0 w : World} {L : List Asr} (h : St F w0 w L) (i : Nat) {p p' : Prop} (hi : L[i]? = some (pureA p)) (hp : p') : St F w0 w (L.set i (pureA p')) :=
  h.upd i hi (Mod.refl _ _) hp fun k hk => False.elim hk
structure Wi where
  mb : Nat
  V : List Value
  M : List (Int × Int)
  B : List (List S56)
def wL (g : Nat) (m : List S56) (i : Wi) : List Asr := blk g (i.V ++ [Value.map (some i.mb)]).toArray 54 :: mapA i.mb (Value.int .i64) (Value.int .u64) i.M :: pureA (i.V.length = 64 ∧ WInv i.M i.B m) :: zipA i.V i.B
def wO (g : Nat) (F : Nat → Prop) (m : List S56) : Asr := Asr.ex F (wL g m)
theorem wcell {w : World} {g mb : Nat} {V : List Value} {t : TypeId} (h : (blk g (V ++ [Value.map (some mb)]).toArray t).holds w) (vl : V.length = 64) : w.cell? ⟨g, 64, none⟩ = some (Value.map (some mb)) := by
  rw [blk_cell h 64]
  simp [vl]
theorem wbucket {w : World} {g mb k : Nat} {V : List Value} {v : Value} {t : TypeId} (h : (blk g (V ++ [Value.map (some mb)]).toArray t).holds w) (hv : V[k]? = some v) : w.cell? ⟨g, k, none⟩ = some v := by
  rw [blk_cell h k]
  have := (List.getElem?_eq_some_iff.1 hv).1
  rw [List.getElem?_toArray, List.getElem?_append_left this, hv]
theorem wset (V : List Value) (mb k : Nat) (v : Value) (hk : k < V.length) : (V ++ [Value.map (some mb)]).toArray.setIfInBounds k v = (V.set k v ++ [Value.map (some mb)]).toArray := by
  rw [List.setIfInBounds_toArray, List.set_append_left _ _ hk]
end Go.Proofs.Ythkaahpaechljaa
