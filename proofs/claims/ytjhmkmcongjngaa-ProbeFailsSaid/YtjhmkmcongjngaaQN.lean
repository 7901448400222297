import Derived.Test.YtjhmkmcongjngaaQM
namespace Go.Proofs.Ytjhmkmcongjngaa
open Go.RowKit Go.Tat Go.Proofs.YtjhmkmcongjngaaW.PrintWords PProbePlays
/-! ### A tick keeps a probe in order -/
theorem passF_wf (self n x : Int) (hs : List Int) : ∀ (ws : List S82) (st : Rd × List S82), (∀ u ∈ ws, 0 ≤ u.f1 ∧ u.f1 ≤ 1) → (∀ u ∈ st.2, 0 ≤ u.f1 ∧ u.f1 ≤ 1) → ∀ u ∈ (ws.foldl (passF self n x hs) st).2, 0 ≤ u.f1 ∧ u.f1 ≤ 1
  | [], st, _, h => h
  | w :: ws, st, hw, h => by
    rw [List.foldl_cons]
    refine passF_wf self n x hs ws _ (fun u hu => hw u (by simp [hu])) ?_
    have h1 := hw w (by simp)
    unfold passF
    split
    · exact h
    · rename_i h2
      intro u hu
      rcases List.mem_append.1 hu with hu | hu
      · exact h u hu
      · rw [List.mem_singleton.1 hu]; unfold oneMore; dsimp only; omega
theorem tick_okay {p : Pr} (ok : Okay p) (hl : p.waits.length + 1 ≤ 1000000) (x : Int) (hs : List Int) : Okay (tickF p x hs).2 ∧ (tickF p x hs).2.waits.length ≤ p.waits.length + 1 := by
  have h1 := pass_len p x hs
  have h2 : ∀ u ∈ (pass p x hs).2, 0 ≤ u.f1 ∧ u.f1 ≤ 1 := passF_wf p.self p.n x hs p.waits _ ok.wf (by simp)
  unfold tickF
  simp only
  by_cases hn : p.n = 1
  · rw [if_pos hn]
    exact ⟨⟨ok.n1, ok.n2, ok.rl, ok.pl0, ok.pl1, by show (pass p x hs).2.length ≤ _; omega, h2⟩, by show (pass p x hs).2.length ≤ _; omega⟩
  · rw [if_neg hn]
    have hn1 := ok.n1
    have hrl := ok.rl
    have t1 := turned_row { p with waits := (pass p x hs).2 } x
    have t2 := turned_place { p with waits := (pass p x hs).2 } x ok.pl0 ok.pl1 (by show 0 < p.row.length; omega)
    obtain ⟨t3, t4, t5⟩ := turned_waits { p with waits := (pass p x hs).2 } x
    generalize turned { p with waits := (pass p x hs).2 } x = q at *
    dsimp only at t1 t2 t3 t4 t5
    unfold pinged
    dsimp only
    have hwl : (if (q.waits.any fun w => w.f0 == q.row.getD q.place.toNat 0) = true then q.waits else q.waits ++ [⟨q.row.getD q.place.toNat 0, 0⟩]).length ≤ p.waits.length + 1 := by
      split
      · rw [t3]; omega
      · rw [List.length_append, t3]; simp; omega
    refine ⟨⟨?_, ?_, ?_, ?_, ?_, ?_, ?_⟩, hwl⟩
    · show 1 ≤ q.n; rw [t5]; exact ok.n1
    · show q.n ≤ 64; rw [t5]; exact ok.n2
    · show (q.row.length : Int) = q.n - 1; rw [t5, t1]; exact ok.rl
    · show 0 ≤ q.place + 1; omega
    · show q.place + 1 ≤ q.row.length; omega
    · exact Nat.le_trans hwl (by omega)
    · intro u hu
      have hu : u ∈ (if (q.waits.any fun w => w.f0 == q.row.getD q.place.toNat 0) = true then q.waits else q.waits ++ [⟨q.row.getD q.place.toNat 0, 0⟩]) := hu
      split at hu
      · exact h2 u (t3 ▸ hu)
      · rcases List.mem_append.1 hu with hu | hu
        · exact h2 u (t3 ▸ hu)
        · rw [List.mem_singleton.1 hu]; dsimp only; omega
theorem tick_pings {p : Pr} (x : Int) (hs : List Int) (hn : p.n ≠ 1) : (tickF p x hs).1.pings = (pass p x hs).1.pings ++ [(turned { p with waits := (pass p x hs).2 } x).row.getD (turned { p with waits := (pass p x hs).2 } x).place.toNat 0] := by
  unfold tickF
  simp only
  rw [if_neg hn]
  rfl
theorem passF_pings (self n x : Int) (hs : List Int) : ∀ (ws : List S82) (st : Rd × List S82), (ws.foldl (passF self n x hs) st).1.pings = st.1.pings
  | [], st => rfl
  | w :: ws, st => by
    rw [List.foldl_cons, passF_pings self n x hs ws]
    unfold passF; split <;> rfl
theorem pass_pings (p : Pr) (x : Int) (hs : List Int) : (pass p x hs).1.pings = [] := passF_pings _ _ _ _ _ _
theorem oth_bound {s j : Nat} {i : Int} (h : i ∈ oth s j) : 0 ≤ i ∧ i < j ∧ i ≠ s := by
  unfold oth at h
  obtain ⟨k, hk, rfl⟩ := List.mem_map.1 h
  obtain ⟨h1, h2⟩ := List.mem_filter.1 hk
  have h3 := List.mem_range.1 h1
  have h4 : k ≠ s := by simpa using h2
  exact ⟨by omega, by omega, by omega⟩
theorem oth_length {s n : Nat} (h : s < n) : (oth s n).length + 1 = n := by
  have key : ∀ j, (oth s j).length = if s < j then j - 1 else j := by
    intro j
    induction j with
    | zero => simp [oth]
    | succ j ih =>
      rw [oth_succ]
      by_cases e : j = s
      · rw [if_pos e, ih, if_neg (by omega), if_pos (by omega)]; omega
      · rw [if_neg e, List.length_append, ih]
        by_cases e2 : s < j
        · rw [if_pos e2, if_pos (by omega)]; simp; omega
        · rw [if_neg e2, if_neg (by omega)]; simp
  rw [key n, if_pos h]; omega
theorem new_okay {s n : Nat} (h1 : 1 ≤ n) (h2 : n ≤ 64) (hs : s < n) : Okay (newPr s n n) :=
  ⟨by show (1 : Int) ≤ (n : Int); omega, by show (n : Int) ≤ 64; omega, by show ((oth s n).length : Int) = (n : Int) - 1; have := oth_length hs; omega, by show (0 : Int) ≤ 0; omega, by show (0 : Int) ≤ _; omega, by show 0 ≤ 1000000; omega, fun u hu => by cases hu⟩
end Go.Proofs.Ytjhmkmcongjngaa
