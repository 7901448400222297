/- Two slices of the same records are the same. -/
import Derived.Test.YtecgnfklfgjgaaaStR
set_option linter.unusedVariables false
set_option linter.unusedSimpArgs false
namespace Go.Proofs.Ytecgnfklfgjgaaa
open Go.RowKit Go.Tat Go.Tab Go.Proofs.YtecgnfklfgjgaaaW.PrintWords PStorePeeks
theorem same_l (l : List Rc) (hl : l.length < 4611686018427387904) : ∀ d i k, i + d = l.length → d < k → tattlerref06_Same.l0 k l l (l.length : Int) (i : Int) = some true
  | 0, i, k + 1, h, _ => by
    unfold tattlerref06_Same.l0
    rw [if_neg (by omega)]
  | d + 1, i, k + 1, h, hk => by
    unfold tattlerref06_Same.l0
    rw [if_pos (by omega), if_pos (by omega), if_pos (by omega), if_pos (by omega), if_neg (by simp), wrap64_succ (m := l.length) (by omega) hl]
    exact same_l l hl d (i + 1) k (by omega) (by omega)
theorem same_is (l : List Rc) (hl : l.length < 4611686018427387904) : tattlerref06_Same.f (l.length + 1) l l = some true := by
  unfold tattlerref06_Same.f
  rw [if_pos rfl]
  exact same_l l hl l.length 0 _ (by omega) (by omega)
theorem same_c (l : List Rc) (hl : l.length < 4611686018427387904) (A B : Option Addr) (c d : Nat) (w : World) (h1 : (slc k37 37 (.slice A l.length c) l).holds w) (h2 : (slc k37 37 (.slice B l.length d) l).holds w) :
    Calls Try.prog 19 #[.slice A l.length c, .slice B l.length d] w fun e w' => e = .returned (.bool true) ∧ ∃ n, w' = w.drewN n := by
  obtain ⟨_, c1, C1⟩ := Kd.R_reads' h1.1
  obtain ⟨_, c2, C2⟩ := Kd.R_reads' h2.1
  exact (tattlerref06_Same.calls (l.length + 1) A c l B d l true w C1 c1 C2 c2 (same_is l hl)).mono fun e w' ⟨h, ⟨n, hn⟩⟩ => ⟨h, n, hn⟩
theorem sorted_same {L ys zs : List Rc} (hn : (L.map (·.f0)).Nodup) (h1 : ys.Perm L) (h2 : zs.Perm L) (s1 : SortedK ys) (s2 : SortedK zs) : ys = zs := by
  refine List.Perm.eq_of_pairwise (le := fun (x y : Rc) => ¬ cS y.f0 x.f0 < 0) (fun a b ha hb hab hba => ?_) s1 s2 (h1.trans h2.symm)
  refine one_key hn (h1.mem_iff.1 ha) (h2.mem_iff.1 hb) ((cS_eq _ _).1 ?_)
  have := cS_neg a.f0 b.f0
  omega
theorem range_same {c : SC} {s : SM} {d : PD} (h : SI c s d) {k : Int} {ys zs : List Rc} (h1 : ys.Perm (s.L.filter (inR k))) (h2 : zs.Perm (s.L.filter (inR k))) (s1 : SortedK ys) (s2 : SortedK zs) : ys = zs :=
  sorted_same (h.keys.sublist (List.filter_sublist.map _)) h1 h2 s1 s2
theorem range_len {c : SC} {s : SM} {d : PD} (h : SI c s d) {k : Int} {ys : List Rc} (h1 : ys.Perm (s.L.filter (inR k))) : ys.length ≤ 1024 := by
  rw [h1.length_eq]
  have h2 := List.length_filter_le (inR k) s.L
  have h3 := h.llen
  have h4 := h.lens
  have h5 := h.m2
  omega
end Go.Proofs.Ytecgnfklfgjgaaa
