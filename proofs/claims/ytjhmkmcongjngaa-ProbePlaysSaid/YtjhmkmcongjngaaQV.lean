import Derived.Test.YtjhmkmcongjngaaQMN
import Derived.Test.YtjhmkmcongjngaaLib
set_option linter.unusedVariables false
set_option linter.unusedSimpArgs false
namespace Go.Proofs.Ytjhmkmcongjngaa
open Go.RowKit Go.Tat Go.Proofs.YtjhmkmcongjngaaW.PrintWords PProbePlays
/-! ### Since when a node is waited for -/
structure FInv (ws : List S82) (M : List (Int × Int)) (T : Int) : Prop where
  mn : (M.map (·.1)).Nodup
  wn : (ws.map (·.f0)).Nodup
  at_ : ∀ x v, mget M x = some v ↔ ∃ u ∈ ws, u.f0 = x ∧ v = T - u.f1
theorem FInv.start : FInv [] [] 0 := ⟨by simp, by simp, fun x v => by simp [mget, mpos]⟩
theorem FInv.key {ws : List S82} {M : List (Int × Int)} {T : Int} (h : FInv ws M T) (x : Int) : x ∈ M.map (·.1) ↔ x ∈ ws.map (·.f0) := by
  constructor
  · intro hx
    obtain ⟨p, hp, rfl⟩ := List.mem_map.1 hx
    obtain ⟨u, hu, e, _⟩ := (h.at_ p.1 p.2).1 (mget_mem h.mn hp)
    exact List.mem_map.2 ⟨u, hu, e⟩
  · intro hx
    obtain ⟨u, hu, rfl⟩ := List.mem_map.1 hx
    exact List.mem_map.2 ⟨_, mget_some_mem ((h.at_ u.f0 _).2 ⟨u, hu, rfl, rfl⟩), rfl⟩
theorem FInv.len {ws : List S82} {M : List (Int × Int)} {T : Int} (h : FInv ws M T) : M.length = ws.length := by
  have := ((List.perm_ext_iff_of_nodup h.mn h.wn).2 h.key).length_eq
  simpa using this
theorem FInv.there {ws : List S82} {M : List (Int × Int)} {T : Int} (h : FInv ws M T) (t : Int) : (mget M t).isSome = ws.any fun x => x.f0 == t := by
  rw [Bool.eq_iff_iff, Option.isSome_iff_ne_none, Ne, mget_none, Decidable.not_not, h.key, List.any_eq_true, List.mem_map]
  simp
theorem nodup_inj {ws : List S82} (h : (ws.map (·.f0)).Nodup) {u v : S82} (hu : u ∈ ws) (hv : v ∈ ws) (e : u.f0 = v.f0) : u = v := by
  obtain ⟨i, hi, rfl⟩ := List.mem_iff_getElem.1 hu
  obtain ⟨j, hj, rfl⟩ := List.mem_iff_getElem.1 hv
  have : i = j := (List.getElem?_inj (by simpa using hi) h).1 (by simp [hi, hj, e])
  subst this; rfl
theorem FInv.ans {ws : List S82} {M : List (Int × Int)} {T : Int} (h : FInv ws M T) (t : Int) : FInv (ws.filter fun x => !(x.f0 == t)) (mdel M t) T := by
  refine ⟨mdel_nodup h.mn, (List.filter_sublist.map _).nodup h.wn, fun x v => ?_⟩
  rw [mget_mdel h.mn]
  by_cases e : x = t
  · subst e
    simp only [if_true]
    constructor
    · intro h; cases h
    · rintro ⟨u, hu, rfl, _⟩
      have := (List.mem_filter.1 hu).2
      simp at this
  · rw [if_neg e, h.at_]
    constructor
    · rintro ⟨u, hu, rfl, hv⟩
      exact ⟨u, List.mem_filter.2 ⟨hu, by simpa using e⟩, rfl, hv⟩
    · rintro ⟨u, hu, rfl, hv⟩
      exact ⟨u, (List.mem_filter.1 hu).1, rfl, hv⟩
/-- What a tick makes of the waits. -/
def lateF (ws : List S82) : List Int := (ws.filter fun u => decide (u.f1 + 1 = 2)).map (·.f0)
def restF (ws : List S82) : List S82 := (ws.filter fun u => !decide (u.f1 + 1 = 2)).map oneMore
theorem passF_eq (self n x : Int) (hs : List Int) : ∀ (ws : List S82) (st : Rd × List S82), (ws.foldl (passF self n x hs) st).1.failed = st.1.failed ++ lateF ws ∧ (ws.foldl (passF self n x hs) st).2 = st.2 ++ restF ws
  | [], st => by simp [lateF, restF]
  | u :: ws, st => by
    rw [List.foldl_cons]
    obtain ⟨h1, h2⟩ := passF_eq self n x hs ws (passF self n x hs st u)
    rw [h1, h2]
    unfold passF lateF restF
    by_cases h : u.f1 + 1 = 2
    · rw [if_pos h, List.filter_cons_of_pos (by simpa using h), List.filter_cons_of_neg (by simpa using h)]
      simp
    · rw [if_neg h, List.filter_cons_of_neg (by simpa using h), List.filter_cons_of_pos (by simpa using h)]
      simp
theorem pass_eq (p : Pr) (x : Int) (hs : List Int) : (pass p x hs).1.failed = lateF p.waits ∧ (pass p x hs).2 = restF p.waits := by
  have := passF_eq p.self p.n x hs p.waits (⟨[], [], []⟩, [])
  simpa [pass] using this
theorem tick_eq {p : Pr} (x : Int) (hs : List Int) (hn : p.n ≠ 1) : ∃ t, (tickF p x hs).1.pings = [t] ∧ (tickF p x hs).1.failed = lateF p.waits ∧ (tickF p x hs).2.waits = (if (restF p.waits).any (fun w => w.f0 == t) then restF p.waits else restF p.waits ++ [⟨t, 0⟩]) ∧ (tickF p x hs).2.n = p.n := by
  obtain ⟨h1, h2⟩ := pass_eq p x hs
  have h3 := pass_pings p x hs
  obtain ⟨t3, t4, t5⟩ := turned_waits { p with waits := (pass p x hs).2 } x
  unfold tickF
  simp only
  rw [if_neg hn]
  generalize turned { p with waits := (pass p x hs).2 } x = q at *
  dsimp only at t3 t4 t5
  unfold pinged
  dsimp only
  rw [h3, t3, h2]
  exact ⟨_, rfl, h1, rfl, t5⟩
theorem foldl_mdel (l : List Int) : ∀ (M : List (Int × Int)), (M.map (·.1)).Nodup → ((l.foldl mdel M).map (·.1)).Nodup ∧ ∀ x, mget (l.foldl mdel M) x = if x ∈ l then none else mget M x := by
  induction l with
  | nil => intro M hM; exact ⟨hM, fun x => by simp⟩
  | cons t l ih =>
    intro M hM
    obtain ⟨h1, h2⟩ := ih (mdel M t) (mdel_nodup hM)
    refine ⟨h1, fun x => ?_⟩
    rw [List.foldl_cons, h2, mget_mdel hM]
    by_cases e1 : x ∈ l
    · simp [e1]
    · by_cases e2 : x = t
      · simp [e2]
      · simp [e1, e2]
theorem late_nodup {ws : List S82} (h : (ws.map (·.f0)).Nodup) : (lateF ws).Nodup := (List.filter_sublist.map _).nodup h
theorem FInv.fail {ws : List S82} {M : List (Int × Int)} {T : Int} (h : FInv ws M T) {j : Nat} {f : Int} (hj : (lateF ws)[j]? = some f) : mget (((lateF ws).take j).foldl mdel M) f = some (T - 1) := by
  have hn := late_nodup h.wn
  rw [(foldl_mdel _ M h.mn).2]
  have hlt := (List.getElem?_eq_some_iff.1 hj).1
  have hnot : f ∉ (lateF ws).take j := by
    intro hf
    obtain ⟨i, hi⟩ := List.mem_iff_getElem?.1 hf
    rw [List.getElem?_take] at hi
    split at hi
    · rename_i hij
      have : i = j := (List.getElem?_inj (by omega) hn).1 (by rw [hi, hj])
      omega
    · simp at hi
  rw [if_neg hnot]
  have hm := List.mem_of_getElem? hj
  obtain ⟨u, hu, rfl⟩ := List.mem_map.1 hm
  obtain ⟨hu1, hu2⟩ := List.mem_filter.1 hu
  have hu2 : u.f1 + 1 = 2 := by simpa using hu2
  exact (h.at_ _ _).2 ⟨u, hu1, rfl, by omega⟩
theorem FInv.rest {ws : List S82} {M : List (Int × Int)} {T : Int} (h : FInv ws M T) : FInv (restF ws) ((lateF ws).foldl mdel M) (T + 1) := by
  obtain ⟨h1, h2⟩ := foldl_mdel (lateF ws) M h.mn
  have hmem : ∀ u ∈ ws, (u.f0 ∈ lateF ws ↔ u.f1 + 1 = 2) := by
    intro u hu
    constructor
    · intro hf
      obtain ⟨v, hv, e⟩ := List.mem_map.1 hf
      obtain ⟨hv1, hv2⟩ := List.mem_filter.1 hv
      have := nodup_inj h.wn hv1 hu e
      subst this
      simpa using hv2
    · intro hu2
      exact List.mem_map.2 ⟨u, List.mem_filter.2 ⟨hu, by simpa using hu2⟩, rfl⟩
  refine ⟨h1, ?_, fun x v => ?_⟩
  · unfold restF
    rw [List.map_map]
    have : ((fun u : S82 => u.f0) ∘ oneMore) = fun u => u.f0 := rfl
    rw [this]
    exact (List.filter_sublist.map _).nodup h.wn
  · rw [h2]
    by_cases hx : x ∈ lateF ws
    · rw [if_pos hx]
      constructor
      · intro h; cases h
      · rintro ⟨u, hu, rfl, _⟩
        obtain ⟨u', hu', rfl⟩ := List.mem_map.1 hu
        obtain ⟨a1, a2⟩ := List.mem_filter.1 hu'
        have := (hmem u' a1).1 hx
        simp [this] at a2
    · rw [if_neg hx, h.at_]
      constructor
      · rintro ⟨u, hu, rfl, rfl⟩
        refine ⟨oneMore u, List.mem_map.2 ⟨u, List.mem_filter.2 ⟨hu, ?_⟩, rfl⟩, rfl, ?_⟩
        · have := fun e => hx ((hmem u hu).2 e)
          simpa using this
        · show _ = T + 1 - (u.f1 + 1); omega
      · rintro ⟨u, hu, rfl, rfl⟩
        obtain ⟨u', hu', rfl⟩ := List.mem_map.1 hu
        refine ⟨u', (List.mem_filter.1 hu').1, rfl, ?_⟩
        show T + 1 - (u'.f1 + 1) = T - u'.f1; omega
theorem rest_one {ws : List S82} (hw : ∀ u ∈ ws, 0 ≤ u.f1 ∧ u.f1 ≤ 1) : ∀ u ∈ restF ws, u.f1 = 1 := by
  intro u hu
  obtain ⟨v, hv, rfl⟩ := List.mem_map.1 hu
  obtain ⟨h1, h2⟩ := List.mem_filter.1 hv
  have h3 := hw v h1
  have h4 : ¬ v.f1 + 1 = 2 := by simpa using h2
  show v.f1 + 1 = 1
  omega
theorem FInv.young {ws : List S82} {M : List (Int × Int)} {T : Int} (h : FInv ws M T) (hw : ∀ u ∈ ws, u.f1 = 1) {q : Int × Int} (hq : q ∈ M) : T - q.2 = 1 := by
  obtain ⟨u, hu, _, e⟩ := (h.at_ q.1 q.2).1 (mget_mem h.mn hq)
  have := hw u hu
  omega
theorem FInv.ping {ws : List S82} {M : List (Int × Int)} {T : Int} (h : FInv ws M T) (t : Int) : FInv (if ws.any (fun w => w.f0 == t) then ws else ws ++ [⟨t, 0⟩]) (if (mget M t).isSome then M else mput M t T) T := by
  rw [h.there t]
  cases ha : ws.any fun w => w.f0 == t with
  | true => exact h
  | false =>
    have hn : ∀ u ∈ ws, u.f0 ≠ t := by
      intro u hu e
      have := List.any_eq_false.1 ha u hu
      simp [e] at this
    refine ⟨mput_nodup h.mn, ?_, fun x v => ?_⟩
    · show ((ws ++ [(⟨t, 0⟩ : S82)]).map (·.f0)).Nodup
      rw [List.map_append, List.nodup_append]
      refine ⟨h.wn, by simp, fun a ha b hb => ?_⟩
      obtain ⟨u, hu, rfl⟩ := List.mem_map.1 ha
      have : b = t := by simpa using hb
      rw [this]; exact hn u hu
    · show mget (mput M t T) x = some v ↔ ∃ u ∈ ws ++ [(⟨t, 0⟩ : S82)], u.f0 = x ∧ v = T - u.f1
      rw [mget_mput]
      by_cases e : x = t
      · subst e
        rw [if_pos rfl]
        constructor
        · intro hv
          cases hv
          exact ⟨⟨x, 0⟩, by simp, rfl, by simp⟩
        · rintro ⟨u, hu, e, rfl⟩
          rcases List.mem_append.1 hu with hu | hu
          · exact absurd e (hn u hu)
          · rw [List.mem_singleton.1 hu]; simp
      · rw [if_neg e, h.at_]
        constructor
        · rintro ⟨u, hu, h1, h2⟩
          exact ⟨u, List.mem_append_left _ hu, h1, h2⟩
        · rintro ⟨u, hu, h1, h2⟩
          rcases List.mem_append.1 hu with hu | hu
          · exact ⟨u, hu, h1, h2⟩
          · rw [List.mem_singleton.1 hu] at h1
            exact absurd h1.symm e
end Go.Proofs.Ytjhmkmcongjngaa
