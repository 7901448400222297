/- ProbePlays: what the walk needs beside the ticks. -/
import Derived.Test.YtjhmkmcongjngaaRE
import Derived.Test.YtjhmkmcongjngaaQT
import Derived.Test.YtjhmkmcongjngaaQW
set_option linter.unusedVariables false
set_option linter.unusedSimpArgs false
namespace Go.Proofs.Ytjhmkmcongjngaa
open Go.RowKit Go.Tat Go.Proofs.YtjhmkmcongjngaaW.PrintWords PProbePlays
/-! ### The document's comparison of two rounds -/
theorem sr_l0 (P F : List Int) (A : List S80) (hm : A.length ≤ 4000000000000000000) : ∀ (d k i : Nat), i + d = A.length → d < k → tattlerref19_SameRound.l0 k (A.length : Int) (i : Int) P A F P A F = some true
  | 0, k + 1, i, h, _ => by
    rw [tattlerref19_SameRound.l0, if_neg (by omega)]
  | d + 1, k + 1, i, h, hk => by
    have ih := sr_l0 P F A hm d k (i + 1) (by omega) (by omega)
    have hw : wrap64 ((i : Int) + 1) = ((i + 1 : Nat) : Int) := by unfold wrap64; omega
    rw [tattlerref19_SameRound.l0, if_pos (by omega), if_pos (by omega), if_pos (by omega), if_pos (by omega), if_neg (by simp), hw]
    exact ih
theorem sr_f (P F : List Int) (A : List S80) (hm : A.length ≤ 4000000000000000000) : tattlerref19_SameRound.f (A.length + 2) P A F P A F = some true := by
  unfold tattlerref19_SameRound.f
  rw [if_pos rfl, if_pos rfl, tattlerref19_SameRound.j0, if_neg (by simp)]
  exact sr_l0 P F A hm A.length (A.length + 1) 0 (by omega) (by omega)
theorem round_c (w : World) (P F : List Int) (A : List S80) (v1 v2 v3 u1 u2 u3 : Value) (h1 : (slc (Kd.int .u8) 5 v1 P).holds w) (h2 : (slc k80 80 v2 A).holds w) (h3 : (slc (Kd.int .u8) 5 v3 F).holds w)
    (g1 : (slc (Kd.int .u8) 5 u1 P).holds w) (g2 : (slc k80 80 u2 A).holds w) (g3 : (slc (Kd.int .u8) 5 u3 F).holds w) (hm : A.length ≤ 4000000000000000000) :
    Calls Try.prog 13 #[.agg #[v1, v2, v3], .agg #[u1, u2, u3]] w fun e w' => e = .returned (.bool true) ∧ Below w.heap.size w w' := by
  obtain ⟨A1, c1, rfl, hc1, C1⟩ := Kd.R_reads h1.1
  obtain ⟨A2, c2, rfl, hc2, C2⟩ := Kd.R_reads h2.1
  obtain ⟨A3, c3, rfl, hc3, C3⟩ := Kd.R_reads h3.1
  obtain ⟨B1, b1, rfl, hb1, D1⟩ := Kd.R_reads g1.1
  obtain ⟨B2, b2, rfl, hb2, D2⟩ := Kd.R_reads g2.1
  obtain ⟨B3, b3, rfl, hb3, D3⟩ := Kd.R_reads g3.1
  exact tattlerref19_SameRound.calls (A.length + 2) A1 c1 P A2 c2 A A3 c3 F B1 b1 P B2 b2 A B3 b3 F true w C1 hc1 C2 hc2 C3 hc3 D1 hb1 D2 hb2 D3 hb3 (sr_f P F A hm)
/-! ### The document's new probe -/
def e88 (x : S88) : List Value := [.int .u8 x.f0, .int .i64 x.f1]
theorem fl88 : Flat k88 e88 := ⟨rfl, ⟨fun h => k88_openM h, fun h => h ▸ k88_mkM _ _ _ _⟩, ⟨fun h => k88_open h, fun h => h ▸ k88_mk _ _⟩⟩
theorem R_zero {w : World} {v : Value} (h : (slc k88 88 v []).holds w) : (slc (kW 0) 88 v []).holds w := by
  rcases (slc_iff fl88).1 h with ⟨hv, _⟩ | ⟨g, cap, ex, hv, hR, h1, h2, h3⟩
  · exact (slc_iff (flW 0)).2 (.inl ⟨hv, rfl⟩)
  · refine (slc_iff (flW 0)).2 (.inr ⟨g, cap, ex, hv, ⟨hR.rep⟩, h1, h2, h3⟩)
theorem St.both {w0 w : World} {a b : Asr} (h : St (fun _ => False) w0 w [a]) (h' : St (fun _ => False) w0 w [b]) (hd : Apart a b) : St (fun _ => False) w0 w [a, b] := by
  refine ⟨⟨fun c hc => ?_, List.Pairwise.cons (fun c hc => ?_) (List.pairwise_singleton _ _)⟩, fun c hc k hk hl => ?_, h.mod⟩
  · simp only [List.mem_cons, List.not_mem_nil, or_false] at hc
    rcases hc with rfl | rfl
    · exact h.get 0 rfl
    · exact h'.get 0 rfl
  · rw [List.mem_singleton.1 hc]; exact hd
  · simp only [List.mem_cons, List.not_mem_nil, or_false] at hc
    rcases hc with rfl | rfl
    · exact h.inn _ (by simp) k hk hl
    · exact h'.inn _ (by simp) k hk hl
theorem R_oneCell {α : Type} {d : Kd α} {e : Nat} {w : World} {b : Nat} {ok : Nat → Prop} {v : Value} {xs : List α} (h : d.R e w b ok v xs) : v.oneCell' = true := by
  obtain ⟨A, c, rfl, _⟩ := Kd.R_reads h
  rfl
theorem rnew_bad2 (s n : Int) (hs : 0 ≤ s ∧ s < 256) (h : n < 1 ∨ 64 < n ∨ n ≤ s) (w : World) : Calls Try.prog 11 #[.int .u8 s, .int .i64 n] w fun e w' => (∃ v vW, e = .returned (.tuple #[.agg (pV 0 0 v 0 vW 0), .int .i64 1]) ∧ v.oneCell' = true ∧ vW.oneCell' = true) ∧ Below w.heap.size w w' := by
  refine (tattlerref19_New.calls 70 s n 0 0 [] 0 [] 0 1 w (new_no s n hs h)).mono ?_
  rintro e w' ⟨v2, v4, rfl, h2, h4, hB⟩
  exact ⟨⟨v2, v4, rfl, R_oneCell h2, R_oneCell h4⟩, hB⟩
def rnewSt (F : Nat → Prop) (w0 : World) (L : List Asr) (s n : Nat) (e : Ending) (w' : World) : Prop := ∃ v vW, e = .returned (.tuple #[.agg (pV s n v 0 vW 0), .int .i64 0]) ∧ St F w0 w' (L ++ [slc (Kd.int .u8) 5 v (oth s n), slc (kW 0) 88 vW []])
theorem rnew_st {F : Nat → Prop} {w0 w : World} {L : List Asr} (h : St F w0 w L) (s n : Nat) (h1 : 1 ≤ n) (hn : n ≤ 64) (hs : s < n) : Calls Try.prog 11 #[.int .u8 s, .int .i64 n] w (rnewSt F w0 L s n) := by
  refine (rnew_c s n h1 hn hs w).mono ?_
  rintro e w' ⟨v, vW, rfl, S1, S2⟩
  have S3 : St (fun _ => False) w w' [slc (kW 0) 88 vW []] := ⟨⟨fun a ha => by rw [List.mem_singleton.1 ha]; exact R_zero (S2.get 0 rfl), List.pairwise_singleton _ _⟩, fun a ha k hk hl => S2.inn (slc k88 88 vW []) (by simp) k (by rw [List.mem_singleton.1 ha] at hk; exact hk) hl, S2.mod⟩
  exact ⟨v, vW, rfl, h.adds (St.both S1 S3 (slc_apart (S1.get 0 rfl) (S3.get 0 rfl) (by decide)))⟩
/-! ### What stays -/
theorem u64_top {x : Int} (h : (Lit.int .u64 x).wf = true) : x < 18446744073709551616 := by
  have b : IntKind.u64.min ≤ x ∧ x ≤ IntKind.u64.max := by simpa [Lit.wf] using h
  have e1 : IntKind.u64.max = 18446744073709551615 := rfl
  omega
theorem i64_wf {x : Int} (h : (Lit.int .i64 x).wf = true) : -9223372036854775808 ≤ x ∧ x ≤ 9223372036854775807 := by
  have b : IntKind.i64.min ≤ x ∧ x ≤ IntKind.i64.max := by simpa [Lit.wf] using h
  exact b
theorem turned_mem (p : Pr) (x : Int) (hp : ∀ h ∈ p.row, 0 ≤ h ∧ h < 256) : ∀ h ∈ (turned p x).row, 0 ≤ h ∧ h < 256 := by
  unfold turned
  split
  · by_cases hl : p.row.length = 0
    · have : p.row = [] := List.length_eq_zero_iff.1 hl
      rw [this]
      intro h hh
      cases hh
    · intro h hh
      exact hp h ((mixRow_perm x (p.row.length - 1) p.row (by omega)).mem_iff.1 hh)
  · exact hp
theorem tick_keeps (p : Pr) (x : Int) (hs : List Int) (hp : ∀ h ∈ p.row, 0 ≤ h ∧ h < 256) : (tickF p x hs).2.self = p.self ∧ (tickF p x hs).2.n = p.n ∧ ∀ h ∈ (tickF p x hs).2.row, 0 ≤ h ∧ h < 256 := by
  unfold tickF
  dsimp only
  split
  · exact ⟨rfl, rfl, hp⟩
  · unfold pinged
    dsimp only
    have h := turned_waits { p with waits := (pass p x hs).2 } x
    exact ⟨h.2.1, h.2.2, turned_mem _ x hp⟩
theorem oth_wf {s n : Nat} (hn : n ≤ 64) : ∀ h ∈ oth s n, 0 ≤ h ∧ h < 256 := fun h hh => by
  have := oth_bound hh
  omega
theorem ans_okay {p : Pr} (hok : Okay p) (t : Int) : Okay (ansF p t) ∧ (ansF p t).waits.length ≤ p.waits.length :=
  have hfl := List.length_filter_le (fun x : S82 => !(x.f0 == t)) p.waits
  ⟨⟨hok.n1, hok.n2, hok.rl, hok.pl0, hok.pl1, Nat.le_trans hfl hok.wl, fun u hu => hok.wf u (List.mem_filter.1 hu).1⟩, hfl⟩
/-- The document's probe in the walk's order: behind a tick. -/
theorem asks_len (p : Pr) (x : Int) (hs : List Int) : (tickF p x hs).1.asks.length ≤ 2 * p.waits.length := by
  have h := (pass_lens p.self p.n x hs p.waits (⟨[], [], []⟩, [])).1
  have e : (tickF p x hs).1.asks = (pass p x hs).1.asks := by
    unfold tickF
    dsimp only
    split <;> rfl
  rw [e]
  simpa [pass] using h
set_option maxRecDepth 100000 in
/-- No probe for what isn't a node of them. -/
theorem new_bad (s n : Int) (hs : 0 ≤ s ∧ s < 256) (h : n < 1 ∨ 64 < n ∨ n ≤ s) (w : World) : Calls Try.prog 8 #[.int .u8 s, .int .i64 n] w fun e w' => e = .returned (.tuple #[.pointer none, .int .i64 1]) ∧ w' = w := by
  by_cases h1 : n < 1
  · go_enter Try.func8, Try.ntmps8
    go_wp2_with fail
    go_ret2
    exact ⟨rfl, rfl⟩
  · by_cases h2 : 64 < n
    · go_enter Try.func8, Try.ntmps8
      go_wp2_with fail
      go_ret2
      exact ⟨rfl, rfl⟩
    · have h3 : n ≤ s := by omega
      have hs0 := hs.1
      have hs1 := hs.2
      clear h hs
      go_enter Try.func8, Try.ntmps8
      go_wp2_with fail
      go_ret2
      exact ⟨rfl, rfl⟩
end Go.Proofs.Ytjhmkmcongjngaa
