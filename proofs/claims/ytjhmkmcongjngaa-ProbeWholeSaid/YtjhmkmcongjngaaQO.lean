import Derived.Test.YtjhmkmcongjngaaQG
import Derived.Test.YtjhmkmcongjngaaQMN
set_option linter.unusedVariables false
set_option linter.unusedSimpArgs false
namespace Go.Proofs.Ytjhmkmcongjngaa
open Go.RowKit Go.Tat Go.Proofs.YtjhmkmcongjngaaW.PrintWords PProbePlays
/-- The probe at g, in S. -/
def pO (g : Nat) (S : Nat → Prop) (p : Pr) : Asr where
  fp := S
  holds w := PRep w g S p ∧ ∀ k, S k → k < w.heap.size
  lt h hk := h.2 _ hk
  loc {w w'} h m := by
    obtain ⟨⟨vr, vw, h1, h2, h3, h4⟩, hl⟩ := h
    refine ⟨⟨vr, vw, (m g h2).trans h1, h2, Kd.R_move h3 fun k hk => m k hk.1, Kd.R_move h4 fun k hk => m k hk.1⟩, fun k hk => ?_⟩
    have h1 := hl k hk
    have h2 := m k hk
    rw [Array.getElem?_eq_getElem h1] at h2
    exact (Array.getElem?_eq_some_iff.1 h2).1
def e80 (x : S80) : List Value := [.int .u8 x.f0, .int .u8 x.f1]
theorem fl80 : Flat k80 e80 := ⟨rfl, ⟨fun h => k80_openM h, fun h => h ▸ k80_mkM _ _ _ _⟩, ⟨fun h => k80_open h, fun h => h ▸ k80_mk _ _⟩⟩
theorem slc_own {α : Type} {d : Kd α} {e : Nat} {w : World} {b : Nat} {ok : Nat → Prop} {v : Value} {xs : List α} (h : d.R e w b ok v xs) (k : Nat) (hk : v.ownBlock = some k) : ok k := h.1 k hk
def tickSt (F : Nat → Prop) (w0 : World) (L : List Asr) (i g : Nat) (p : Pr) (x : Int) (hs : List Int) (e : Ending) (w' : World) : Prop :=
  ∃ vP vA vF S', e = .returned (.agg #[vP, vA, vF]) ∧ St F w0 w' (L.set i (pO g S' (tickF p x hs).2) ++ [slc (Kd.int .u8) 5 vP (tickF p x hs).1.pings, slc k80 80 vA (tickF p x hs).1.asks, slc (Kd.int .u8) 5 vF (tickF p x hs).1.failed])
theorem tick_st {F : Nat → Prop} {w0 w : World} {L : List Asr} (h : St F w0 w L) (i : Nat) {g : Nat} {S : Nat → Prop} {p : Pr} (hi : L[i]? = some (pO g S p)) (ok : Okay p) (x : Int) (A : Option Addr) (c : Nat) (hs : List Int) (hx : 0 ≤ x) (hC : (Kd.int .u8).C w A hs.length hs) (hc : hs.length ≤ c) (hl : hs.length ≤ 4000000000000000000) (hv : ∀ h ∈ hs, 0 ≤ h ∧ h < 256)
    (hg : ∀ ad, A = some ad → 0 < hs.length → ad.block ≠ g) : Calls Try.prog 10 #[.pointer (some ⟨g, 0, none⟩), .int .u64 x, .slice A hs.length c] w (tickSt F w0 L i g p x hs) := by
  obtain ⟨hP, hPl⟩ := h.get i hi
  refine (tick_c g S p x A c hs w hP ok hx hC hc hl hv hg).mono ?_
  rintro e w' ⟨vP, vA, vF, rfl, RP, RA, RF, PP, M, hd⟩
  have hgl := hP.lt
  have PB := PP.bound
  have sP := slc_of RP rfl
  have sA := slc_of RA rfl
  have sF := slc_of RF rfl
  refine ⟨vP, vA, vF, _, rfl, h.method i hi M (a' := pO g _ _) ⟨PB, fun k hk => hk.2⟩ (fun k hk => hk.1.1.cases.imp (fun h => h.1) id) ⟨?_, ?_⟩ ?_ ?_⟩
  · intro a ha
    simp only [List.mem_cons, List.not_mem_nil, or_false] at ha
    rcases ha with rfl | rfl | rfl
    · exact sP
    · exact sA
    · exact sF
  · refine List.Pairwise.cons (fun b hb => ?_) (List.Pairwise.cons (fun b hb => ?_) (List.pairwise_singleton _ _))
    · simp only [List.mem_cons, List.not_mem_nil, or_false] at hb
      rcases hb with rfl | rfl
      · exact slc_apart sP sA (by decide)
      · exact fun k hk hk' => hd k hk hk'
    · rw [List.mem_singleton.1 hb]
      exact slc_apart sA sF (by decide)
  · intro b hb k hk
    simp only [List.mem_cons, List.not_mem_nil, or_false] at hb
    rcases hb with rfl | rfl | rfl
    · exact RP.1 k hk
    · exact RA.1 k hk
    · exact RF.1 k hk
  · intro b hb k hk hk'
    simp only [List.mem_cons, List.not_mem_nil, or_false] at hb
    obtain ⟨⟨hT, hnP⟩, _⟩ := hk
    rcases hb with rfl | rfl | rfl
    · exact hnP hk'.symm
    · rcases hT with h1 | h1
      · have := RA.1 k hk'; omega
      · exact h1.2 hk'.symm
    · rcases hT with h1 | h1
      · have := RF.1 k hk'; omega
      · exact h1.1.2 hk'.symm
def ansSt (F : Nat → Prop) (w0 : World) (L : List Asr) (i g : Nat) (S : Nat → Prop) (p : Pr) (t : Int) (e : Ending) (w' : World) : Prop :=
  e = .returned (.bool (p.waits.any fun x => x.f0 == t)) ∧ St F w0 w' (L.set i (pO g S (ansF p t)))
theorem answer_st {F : Nat → Prop} {w0 w : World} {L : List Asr} (h : St F w0 w L) (i : Nat) {g : Nat} {S : Nat → Prop} {p : Pr} (hi : L[i]? = some (pO g S p)) (t : Int) : Calls Try.prog 15 #[.pointer (some ⟨g, 0, none⟩), .int .u8 t] w (ansSt F w0 L i g S p t) := by
  obtain ⟨hP, hPl⟩ := h.get i hi
  refine (answer_c g S p t w hP).mono ?_
  rintro e w' ⟨rfl, PP, M⟩
  exact ⟨rfl, h.upd i hi M ⟨PP, fun k hk => Nat.lt_of_lt_of_le (hPl k hk) M.size⟩ fun k hk => .inl hk⟩
def waitsSt (F : Nat → Prop) (w0 : World) (L : List Asr) (p : Pr) (e : Ending) (w' : World) : Prop := ∃ v, e = .returned v ∧ St F w0 w' (L ++ [slc (Kd.int .u8) 5 v (p.waits.map (·.f0))])
theorem waits_st {F : Nat → Prop} {w0 w : World} {L : List Asr} (h : St F w0 w L) (i : Nat) {g : Nat} {S : Nat → Prop} {p : Pr} (hi : L[i]? = some (pO g S p)) (hl : p.waits.length ≤ 1000000) : Calls Try.prog 17 #[.pointer (some ⟨g, 0, none⟩)] w (waitsSt F w0 L p) := by
  obtain ⟨hP, hPl⟩ := h.get i hi
  refine (waits_c g S p w hP hl).mono ?_
  rintro e w' ⟨v, rfl, R, B⟩
  exact ⟨v, rfl, h.add B (slc_of R rfl) fun k hk => R.1 k hk⟩
def newSt (F : Nat → Prop) (w0 : World) (L : List Asr) (s n : Nat) (e : Ending) (w' : World) : Prop := ∃ g S, e = .returned (.tuple #[.pointer (some ⟨g, 0, none⟩), .int .i64 0]) ∧ St F w0 w' (L ++ [pO g S (newPr s n n)])
theorem new_st {F : Nat → Prop} {w0 w : World} {L : List Asr} (h : St F w0 w L) (s n : Nat) (h1 : 1 ≤ n) (h2 : n ≤ 64) (hs : s < n) : Calls Try.prog 8 #[.int .u8 s, .int .i64 n] w (newSt F w0 L s n) := by
  refine (new_c s n w h1 h2 hs).mono ?_
  rintro e w' ⟨g, rfl, PP, B⟩
  exact ⟨g, _, rfl, h.add B (a := pO g _ _) ⟨PP.bound, fun k hk => hk.2⟩ fun k hk => hk.1⟩
end Go.Proofs.Ytjhmkmcongjngaa
