import Derived.Test.YtkfofcgonkkdaaaTG
import Derived.Test.YtkfofcgonkkdaaaMapR
namespace Go.Proofs.Ytkfofcgonkkdaaa
open Go.RowKit Go.Tat Go.Proofs.YtkfofcgonkkdaaaW.PrintWords PTalkPlays
/-! ### A talk beside what was added last of each node -/
def nod (x : S60) : Int := x.f0.f0
structure MI (p : Tk) (M : List (Int × S33)) : Prop where
  ti : TkI p
  nodes : (p.pieces.map nod).Nodup
  last : ∀ x ∈ p.pieces, mget M x.f0.f0 = some x.f0
theorem MI.start (n k : Int) : MI ⟨[], n, k, 0⟩ [] := ⟨⟨List.Pairwise.nil, by simp, by simp⟩, List.nodup_nil, by simp⟩
theorem MI.add {p : Tk} {M : List (Int × S33)} (h : MI p M) (x : S33) (ht : 1 ≤ p.times) : MI (addF p x) (mput M x.f0 x) := by
  refine ⟨addF_I h.ti x ht, ?_, fun y hy => ?_⟩
  · show (((p.pieces.filter fun y => !(y.f0.f0 == x.f0)) ++ [(⟨x, 0, p.came + 1⟩ : S60)]).map nod).Nodup
    rw [List.map_append, List.nodup_append]
    refine ⟨(List.filter_sublist.map _).nodup h.nodes, by simp, fun a ha b hb => ?_⟩
    obtain ⟨y, hy, rfl⟩ := List.mem_map.1 ha
    have h1 := (List.mem_filter.1 hy).2
    simp only [List.map_cons, List.map_nil, List.mem_singleton] at hb
    subst hb
    intro e
    have e' : y.f0.f0 = x.f0 := e
    rw [e'] at h1
    simp at h1
  · rw [mget_mput]
    rcases List.mem_append.1 hy with hy | hy
    · obtain ⟨h1, h2⟩ := List.mem_filter.1 hy
      have : ¬ y.f0.f0 = x.f0 := by simpa using h2
      rw [if_neg this]
      exact h.last y h1
    · rw [List.mem_singleton.1 hy]
      rw [if_pos rfl]
theorem bump_nod (j : Nat) (ys : List S60) : (bump j ys).map nod = ys.map nod := by
  unfold bump
  rw [List.map_append, List.map_map]
  show (ys.take j).map nod ++ _ = _
  rw [← List.map_append, List.take_append_drop]
theorem bump_news {j : Nat} {ys : List S60} {y : S60} (h : y ∈ bump j ys) : ∃ x ∈ ys, y.f0 = x.f0 := by
  obtain ⟨x, hx, e⟩ := bump_mem h
  exact ⟨x, hx, by rcases e with rfl | rfl <;> rfl⟩
theorem MI.take {p : Tk} {M : List (Int × S33)} (h : MI p M) : MI (takeD p) M := by
  refine ⟨takeD_I h.ti, ?_, fun y hy => ?_⟩
  · refine (List.filter_sublist.map _).nodup ?_
    rw [bump_nod]
    exact ((isort_perm p.pieces).map nod).nodup_iff.2 h.nodes
  · obtain ⟨x, hx, e⟩ := bump_news (List.mem_filter.1 hy).1
    rw [e]
    exact h.last x ((isort_perm p.pieces).mem_iff.1 hx)
theorem MI.told {p : Tk} {M : List (Int × S33)} (h : MI p M) {u : S33} (hu : u ∈ takeL p) : mget M u.f0 = some u := by
  obtain ⟨x, hx, rfl⟩ := List.mem_map.1 hu
  exact h.last x ((isort_perm p.pieces).mem_iff.1 (List.mem_of_mem_take hx))
theorem MI.once {p : Tk} {M : List (Int × S33)} (h : MI p M) : ((takeL p).map (fun u => u.f0)).Nodup := by
  have h1 : (takeL p).map (fun u => u.f0) = ((isort p.pieces).take (takeN p)).map nod := List.map_map
  rw [h1]
  exact ((List.take_sublist _ _).map nod).nodup (((isort_perm p.pieces).map nod).nodup_iff.2 h.nodes)
theorem takeL_len {p : Tk} (hm : 0 ≤ p.most) : ((takeL p).length : Int) ≤ p.most := by
  have h1 : (takeL p).length = ((isort p.pieces).take (takeN p)).length := List.length_map _
  rw [h1, List.length_take]
  unfold takeN
  omega
theorem addF_len (p : Tk) (x : S33) : (addF p x).pieces.length ≤ p.pieces.length + 1 := by
  show ((p.pieces.filter fun y => !(y.f0.f0 == x.f0)) ++ [(⟨x, 0, p.came + 1⟩ : S60)]).length ≤ _
  rw [List.length_append]
  have := List.length_filter_le (fun y : S60 => !(y.f0.f0 == x.f0)) p.pieces
  simp only [List.length_cons, List.length_nil]
  omega
theorem takeD_len (p : Tk) : (takeD p).pieces.length ≤ p.pieces.length := by
  show ((bump (takeN p) (isort p.pieces)).filter _).length ≤ _
  refine Nat.le_trans (List.length_filter_le _ _) ?_
  rw [bump_len, (isort_perm p.pieces).length_eq]
  exact Nat.le_refl _
end Go.Proofs.Ytkfofcgonkkdaaa
