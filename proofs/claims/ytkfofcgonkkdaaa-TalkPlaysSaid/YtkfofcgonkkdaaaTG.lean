import Derived.Test.YtkfofcgonkkdaaaTF
namespace Go.Proofs.Ytkfofcgonkkdaaa
open Go.RowKit Go.Tat Go.Proofs.YtkfofcgonkkdaaaW.PrintWords PTalkPlays
def takeD (p : Tk) : Tk := takeF p (isort p.pieces)
def takeL (p : Tk) : List S33 := takeO p (isort p.pieces)
theorem takeD_I {p : Tk} (h : TkI p) : TkI (takeD p) := takeF_I h (isort_perm _)
def takeSt (F : Nat → Prop) (w0 : World) (A : List Asr) (i g : Nat) (p : Tk) (e : Ending) (w' : World) : Prop :=
  ∃ v' S', e = .returned v' ∧ St F w0 w' (A.set i (tO g S' (takeD p)) ++ [slc k33 33 v' (takeL p)])
theorem take_d {F : Nat → Prop} {w0 w : World} {A : List Asr} (h : St F w0 w A) (i : Nat) {g : Nat} {S : Nat → Prop} {p : Tk} (hi : A[i]? = some (tO g S p)) (I : TkI p) (hl : p.pieces.length ≤ 1000000) (hm : 1 ≤ p.most ∧ p.most ≤ 64) (ht : p.times ≤ 64) :
    Calls Try.prog 11 #[.pointer (some ⟨g, 0, none⟩)] w (takeSt F w0 A i g p) := by
  refine (take_st h i hi hl hm fun x hx => ?_).mono ?_
  · have := I.told x hx
    omega
  · rintro e w' ⟨v', ys, S', rfl, hp, hs, h'⟩
    have e := sort_is I.dist hp hs
    subst e
    exact ⟨v', S', rfl, h'⟩
end Go.Proofs.Ytkfofcgonkkdaaa
