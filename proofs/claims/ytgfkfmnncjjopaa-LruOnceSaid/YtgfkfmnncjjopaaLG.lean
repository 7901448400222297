import Derived.Test.YtgfkfmnncjjopaaLF
import Derived.Test.YtgfkfmnncjjopaaOpen
namespace Go.Proofs.Ytgfkfmnncjjopaa
open Go.RowKit Go.Tat Go.Proofs.YtgfkfmnncjjopaaW.PrintWords
/-! #### struct type 30 -/
structure S30 where
  f0 : Bool
  f1 : Int
def z30 : S30 := ⟨false, (0 : Int)⟩
def k30 : Kd S30 := Kd.iso (Kd.pair Kd.bool (Kd.int .i64)) (fun x : S30 => (x.f0, x.f1))
theorem k30_open {w : World} {x : S30} {cs : List Value} (h : k30.K w x cs) : cs = [.bool x.f0, .int .i64 x.f1] := by
  obtain ⟨_, _, rfl, rfl, rfl⟩ := h
  exact rfl
theorem k30_openM {w : World} {base : Nat} {ok : Nat → Prop} {x : S30} {cs : List Value} (h : k30.M w base ok x cs) : cs = [.bool x.f0, .int .i64 x.f1] := by
  obtain ⟨_, _, rfl, rfl, rfl⟩ := h
  exact rfl
theorem k30_mk (w : World) (x : S30)  : k30.K w x [.bool x.f0, .int .i64 x.f1] := ⟨[.bool x.f0], [.int .i64 x.f1], rfl, rfl, rfl⟩
theorem k30_mkM (w : World) (base : Nat) (ok : Nat → Prop) (x : S30)  : k30.M w base ok x [.bool x.f0, .int .i64 x.f1] := ⟨[.bool x.f0], [.int .i64 x.f1], rfl, rfl, rfl⟩
def rd_T30 (xs : List S30) (i : Int) : S30 := xs.getD i.toNat z30
theorem at_T30 {w : World} {A : Option Addr} {n : Nat} {xs : List S30} (h : Kd.C k30 w A n xs) (i : Int) (h0 : 0 ≤ i) (h1 : i < n) : ∃ ad , A = some ad ∧ w.cell? (ad.add (i.toNat * 2)) = some (.bool (rd_T30 xs i).f0) ∧ w.cell? ⟨(ad.add (i.toNat * 2)).block, (ad.add (i.toNat * 2)).off + 1, none⟩ = some (.int .i64 (rd_T30 xs i).f1) := by
  obtain ⟨ad, c, e, _, hK, hc0⟩ := Kd.C_get h z30 i h0 h1
  have hc : ∀ j u, c[j]? = some u → w.cell? (ad.add (i.toNat * 2 + j)) = some u := hc0
  obtain rfl := k30_open hK
  exact ⟨ad, e, hc 0 _ rfl, by rw [← add_field _ _ 1 (by omega)]; exact hc 1 _ rfl⟩


instance : Inhabited S30 := ⟨z30⟩
theorem Try.cells30 : Try.prog.cellsOf 30 = k30.sz := by kernel_rfl
theorem opens30 : Opens Try.prog 30 k30 (fun x => (Lit.int .i64 x.f1).wf = true) := by
  have h := Opens.struct (P := Try.prog) (t := 30) (d := Kd.pair Kd.bool (Kd.int .i64)) (g := fun p => True ∧ (Lit.int .i64 p.2).wf = true) Try.underlying30 Try.cells30
    (OpensF.cons rfl (by kernel_rfl) (Opens.bool (by kernel_rfl)) (OpensF.one (by rfl) (by kernel_rfl) (Opens.int (by kernel_rfl)))) (fun x : S30 => (x.f0, x.f1)) (fun p => ⟨p.1, p.2⟩) (fun p => rfl)
  exact .mk fun hx => let ⟨p, hg, hk⟩ := h.out hx; ⟨p, hg.2, hk⟩
/-! ### The document's answers -/
section
open PLruPlays
theorem without_l0 (l : List Int) (a : Int) (hl : l.length ≤ 17592186044416) : ∀ (d k : Nat) (i : Nat) (r : List Int) (t : Bool), i ≤ l.length → l.length - i = d → d < k → r.length ≤ i →
    tattlerref11_Without.l0 k l a r t (l.length : Int) (i : Int) = some (r ++ (l.drop i).filter (fun x => x != a), t || (l.drop i).contains a) := by
  intro d
  induction d with
  | zero =>
    intro k i r t h0 hd hk hr
    obtain ⟨k, rfl⟩ : ∃ m, k = m + 1 := ⟨k - 1, by omega⟩
    simp only [tattlerref11_Without.l0]; rw [if_neg (by omega), List.drop_eq_nil_of_le (by omega)]; simp
  | succ d ih =>
    intro k i r t h0 hd hk hr
    obtain ⟨k, rfl⟩ : ∃ m, k = m + 1 := ⟨k - 1, by omega⟩
    have hi : i < l.length := by omega
    have hrd : rd l (i : Int) = l[i] := by unfold rd; simp [List.getD, hi]
    simp only [tattlerref11_Without.l0]
    rw [if_pos (by omega), if_pos (by omega), if_pos (by omega), hrd, wrap_lt (by omega) (by omega), List.drop_eq_getElem_cons hi]
    have e1 : ((i : Int) + 1) = ((i + 1 : Nat) : Int) := by omega
    rw [e1]
    by_cases h : l[i] = a
    · rw [if_pos h, ih k (i + 1) r true (by omega) (by omega) (by omega) (by omega)]
      generalize l[i] = y at *; generalize l.drop (i + 1) = rest
      simp [h]
    · rw [if_neg h, if_pos (by omega), ih k (i + 1) (r ++ [l[i]]) t (by omega) (by omega) (by omega) (by simp; omega)]
      have h' : ¬ a = l[i] := fun e => h e.symm
      generalize l[i] = y at *; generalize l.drop (i + 1) = rest
      simp [h, h']
theorem without_f (l : List Int) (a : Int) (hl : l.length ≤ 17592186044416) : tattlerref11_Without.f (l.length + 1) l a = some (l.filter (fun x => x != a), l.contains a) := by
  unfold tattlerref11_Without.f
  have := without_l0 l a hl l.length (l.length + 1) 0 [] false (by omega) (by omega) (by omega) (by simp)
  simpa using this
theorem use_f (l : List Int) (a : Int) (hl : l.length ≤ 10000) : tattlerref11_Use.f (l.length + 1) l a = some (a :: l.filter (fun x => x != a)) := by
  unfold tattlerref11_Use.f
  rw [without_f l a (by omega)]
  have := List.length_filter_le (fun x => x != a) l
  simp only [Option.bind_some]
  rw [if_pos (by simp; omega)]; simp
end
theorem ofN_drop (o : List Nat) (a : Int) : (ofN o).filter (fun x => x != a) = ofN (dropO o a) := by
  unfold ofN dropO; rw [List.filter_map]; rfl
end Go.Proofs.Ytgfkfmnncjjopaa
