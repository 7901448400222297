/- The sort of []uint8: what is sorted stays a row of the same numbers. -/
import Derived.Test.YtjhmkmcongjngaaLib
import Derived.Test.YtjhmkmcongjngaaProg
import Derived.Deep.DeepCutAuto
import Derived.Deep.CutBlock
import Derived.Deep.QuietTactic
import Derived.BigRegion
set_option linter.unusedVariables false
set_option linter.unusedSimpArgs false
namespace Go.Proofs.Ytjhmkmcongjngaa
open Go.RowKit Go.Tat Go.Proofs.YtjhmkmcongjngaaW.PrintWords
/-- The row at g holds l. -/
abbrev SS (w0 w : World) (g n c : Nat) (l : List Int) : Prop := St (fun k => k = g) w0 w [slc (Kd.int .u8) 5 (.slice (some ⟨g, 0, none⟩) n c) l]
theorem SS.len {w0 w : World} {g n c : Nat} {l : List Int} (h : SS w0 w g n c l) : l.length = n := by
  rcases (slc_iff (flInt .u8)).1 (h.get 0 rfl) with ⟨hv, _⟩ | ⟨g', cp, ex, hv, hR, _⟩
  · injection hv with h1; cases h1
  · injection hv with a1 a2 a3
    exact a2.symm
theorem SS.cell {w0 w : World} {g n c : Nat} {l : List Int} (h : SS w0 w g n c l) {i : Nat} (hi : i < n) : ∃ x, l[i]? = some x ∧ w.cell? ⟨g, i, none⟩ = some (.int .u8 x) ∧ w.frozen? ⟨g, i, none⟩ = false := by
  have hl := h.len
  obtain ⟨x, hx⟩ : ∃ x, l[i]? = some x := ⟨_, List.getElem?_eq_getElem (by omega)⟩
  have e := St.elem (flInt .u8) h 0 rfl hx (c := 0) (by decide)
  have e1 : i * (Kd.int .u8).sz + 0 = i := by show i * 1 + 0 = i; omega
  rw [e1] at e
  exact ⟨x, hx, e.1, e.2⟩
theorem SS.put {w0 w : World} {g n c : Nat} {l : List Int} (h : SS w0 w g n c l) {i : Nat} (hi : i < n) (y : Int) : SS w0 (w.setCell ⟨g, i, none⟩ (.int .u8 y)) g n c (l.set i y) := by
  have hl := h.len
  obtain ⟨x, hx⟩ : ∃ x, l[i]? = some x := ⟨_, List.getElem?_eq_getElem (by omega)⟩
  have e := St.put (flInt .u8) h 0 rfl (y := y) (v := .int .u8 y) hx (c := 0) (by decide) rfl
  have e1 : i * (Kd.int .u8).sz + 0 = i := by show i * 1 + 0 = i; omega
  rw [e1] at e
  exact e
theorem SS.trans {w0 w w' : World} {g n c : Nat} {l l' : List Int} (h : SS w0 w g n c l) (h' : SS w w' g n c l') : SS w0 w' g n c l' := by
  refine ⟨h'.sat, fun a ha k hk hl => ?_, h.mod.trans h'.mod⟩
  rw [List.mem_singleton.1 ha] at hk
  have : some g = some k := hk
  cases this
  rfl
/-- What a part of the sort leaves behind. -/
def SPost (v : Value) (w0 : World) (g n c : Nat) (l : List Int) (e : Ending) (w' : World) : Prop := e = .returned v ∧ ∃ l', l'.Perm l ∧ SS w0 w' g n c l'
theorem swap_perm (l : List Int) (i j : Nat) (x y : Int) (hi : l[i]? = some x) (hj : l[j]? = some y) : ((l.set i y).set j x).Perm l := by
  obtain ⟨hi1, hi2⟩ := List.getElem?_eq_some_iff.1 hi
  obtain ⟨hj1, hj2⟩ := List.getElem?_eq_some_iff.1 hj
  rw [List.perm_iff_count]
  intro a
  by_cases hij : i = j
  · subst hij
    rw [List.set_set]
    have : l.set i x = l := by rw [← hi2]; exact List.set_getElem_self _
    rw [this]
  · rw [List.count_set (by simpa using hj1), List.count_set hi1, List.getElem_set_ne hij, hi2, hj2]
    have c1 : 0 < l.count x := List.count_pos_iff.2 (hi2 ▸ List.getElem_mem hi1)
    have c2 : 0 < l.count y := List.count_pos_iff.2 (hj2 ▸ List.getElem_mem hj1)
    by_cases h1 : x = a <;> by_cases h2 : y = a
    · subst h1; simp [h2] <;> omega
    · subst h1; simp [h2] <;> omega
    · subst h2; simp [h1] <;> omega
    · simp [h1, h2]
/-- Two of a row changed: the cells that the walk asks for, and what is behind it. -/
theorem SS.swap {w0 w : World} {g n c : Nat} {l : List Int} (h : SS w0 w g n c l) {i j : Nat} (hi : i < n) (hj : j < n) : ∃ x y z, w.cell? ⟨g, i, none⟩ = some (.int .u8 x) ∧ w.frozen? ⟨g, i, none⟩ = false ∧ w.cell? ⟨g, j, none⟩ = some (.int .u8 y) ∧ w.frozen? ⟨g, j, none⟩ = false ∧
    (w.setCell ⟨g, i, none⟩ (.int .u8 y)).cell? ⟨g, j, none⟩ = some (.int .u8 z) ∧ (w.setCell ⟨g, i, none⟩ (.int .u8 y)).frozen? ⟨g, j, none⟩ = false ∧
    ∃ l', l'.Perm l ∧ SS w0 ((w.setCell ⟨g, i, none⟩ (.int .u8 y)).setCell ⟨g, j, none⟩ (.int .u8 x)) g n c l' := by
  obtain ⟨x, hx, cx, fx⟩ := h.cell hi
  obtain ⟨y, hy, cy, fy⟩ := h.cell hj
  have h1 := h.put hi y
  obtain ⟨z, hz, cz, fz⟩ := h1.cell hj
  exact ⟨x, y, z, cx, fx, cy, fy, cz, fz, _, swap_perm l i j x y hx hy, h1.put hj x⟩
theorem nsucc {i : Nat} (h : i < 4611686018427387904) : wrap64 ((i : Int) + 1) = ((i + 1 : Nat) : Int) := by unfold wrap64; omega
theorem npred {i m : Nat} (h : i = m + 1) (hm : m < 4611686018427387904) : wrap64 ((i : Int) - 1) = (m : Int) := by unfold wrap64; omega
theorem iw (n : Int) : IntKind.i64.wrap n = wrap64 n := by unfold wrap64; exact IntKind.wrap_i64 n
theorem ipred {i m : Nat} (h : i = m + 1) (hm : m < 4611686018427387904) : IntKind.i64.wrap ((i : Int) - 1) = (m : Int) := (iw _).trans (npred h hm)
/-- The comparison: quiet. -/
theorem less_c (x y : Int) (w : World) : Calls Try.prog 47 #[.int .u8 x, .int .u8 y] w fun e w' => e = .returned (.bool (decide (x < y))) ∧ ∃ m, w' = w.drewN m := by
  go_enter Try.func47, Try.ntmps47
  go_wp2
  go_ret
  exact ⟨rfl, 0, rfl⟩
set_option maxRecDepth 100000 in
theorem insertion_c (g n c a b : Nat) (hab : a ≤ b) (hb : b ≤ n) (hn : n ≤ 1000000) (l : List Int) (w : World) (h : SS w w g n c l) : Calls Try.prog 41 #[.slice (some ⟨g, 0, none⟩) n c, .int .i64 a, .int .i64 b] w (SPost (.tuple #[]) w g n c l) := by
  have H0 := Lib.hid h
  clear h
  have ha1 := nsucc (i := a) (by omega)
  have hnn : (n : Int) ≤ 1000000 := by omega
  go_enter Try.func41, Try.ntmps41
  go_wp2_with fail
  go_loopg [6] (b - a + 1) (fun m v6 wx => ∃ (i : Nat) (l' : List Int), v6 = .int .i64 i ∧ b - i < m ∧ a < i ∧ l'.Perm l ∧ SS w wx g n c l')
  case atStart => exact ⟨a + 1, l, by go_num, by omega, by omega, List.Perm.refl _, H0.out⟩
  case round =>
    clear H0 ha1
    obtain ⟨i, l1, rfl, him, hai, hp, S1⟩ := hrel
    have H1 := Lib.hid (And.intro him (And.intro hp S1))
    clear hp S1 him
    by_cases hib : i < b
    · have hib' : (i : Int) < (b : Int) := by omega
      go_upto_region 4 with fail
      clear hib'
      go_loopg [7] (i + 1) (fun m v7 wx => ∃ (j : Nat) (l' : List Int), v7 = .int .i64 j ∧ j < m ∧ j ≤ i ∧ l'.Perm l ∧ SS w wx g n c l')
      case atStart => exact ⟨i, l1, rfl, by omega, by omega, H1.out.2.1, H1.out.2.2⟩
      case round =>
        obtain ⟨j, l2, rfl, hjm, hji, hp2, S2⟩ := hrel
        have H2 := Lib.hid (And.intro hjm (And.intro hp2 S2))
        clear hp2 S2 hjm
        by_cases hja : a < j
        · have hja' : (a : Int) < (j : Int) := by omega
          obtain ⟨m, hm⟩ : ∃ m, j = m + 1 := ⟨j - 1, by omega⟩
          have hw := ipred hm (by omega)
          obtain ⟨x, _, cx, _⟩ := H2.out.2.2.cell (i := j) (by omega)
          obtain ⟨y, _, cy, _⟩ := H2.out.2.2.cell (i := m) (by omega)
          have hj0 : (0 : Int) ≤ (j : Int) := by omega
          have hj1 : (j : Int) < (n : Int) := by omega
          have hm0 : (0 : Int) ≤ (m : Int) := by omega
          have hm1 : (m : Int) < (n : Int) := by omega
          have HM := Lib.hid hm
          clear hm
          obtain ⟨bb, hbb⟩ : ∃ bb, decide (x < y) = bb := ⟨_, rfl⟩
          have HQ := Lib.hid (fun W => hbb ▸ less_c x y W)
          clear hbb
          cases bb with
          | true =>
            go_upto_region 4 with fail
            go_quiet (first | (go_at_call 47; refine Calls.quiet_of (HQ.out _)))
            have S4 := H2.out.2.2.drewN nq
            clear cx cy
            go_upto_region 6 with fail
            generalize wr.drewN nq = w5 at *
            obtain ⟨x, y, z, cx, fx, cy, fy, cz, fz, l3, hp3, S5⟩ := SS.swap S4 (i := j) (j := m) (by omega) (by have := HM.out; omega)
            have H3 := Lib.hid (And.intro hp3 S5)
            clear hp3 S5 S4
            as_aux_lemma =>
              go_region
              go_wp2
              go_roundg j
              case measure => exact H2.out.1
              case rel => exact ⟨m, l3, by go_num, by have := HM.out; omega, by have := HM.out; omega, H3.out.1.trans H2.out.2.1, H3.out.2.drew⟩
          | false =>
            go_upto_region 4 with fail
            go_quiet (first | (go_at_call 47; refine Calls.quiet_of (HQ.out _)))
            have H4 := Lib.hid (H2.out.2.2.drewN nq)
            clear cx cy
            go_wp2_with fail
            go_roundg (b - i)
            case measure => exact H1.out.1
            case rel => exact ⟨i + 1, l2, by go_num, by omega, by omega, H2.out.2.1, H4.out⟩
        · have hja' : ¬ (a : Int) < (j : Int) := by omega
          go_upto_region 4 with fail
          go_quiet (fail)
          have H4 := Lib.hid (H2.out.2.2.drewN nq)
          go_wp2_with fail
          go_roundg (b - i)
          case measure => exact H1.out.1
          case rel => exact ⟨i + 1, l2, by go_num, by omega, by omega, H2.out.2.1, H4.out⟩
    · have hib' : ¬ (i : Int) < (b : Int) := by omega
      go_wp2_with fail
      first | go_end0 | ((try simp only [Exit.inBlock, Exit.then]); refine bodyPost_ret (results_none rfl _ _ _) rfl ?_)
      exact ⟨rfl, _, H1.out.2⟩
end Go.Proofs.Ytjhmkmcongjngaa
