/- Several texts put together. -/
set_option linter.unusedVariables false
set_option linter.unusedSimpArgs false
/- A table of slots, plain: where a key lies; a key set; a key dropped. (No program in sight: it serves slots.Table, which Store reaches.) -/
set_option linter.unusedVariables false
set_option linter.unusedSimpArgs false
namespace Go.Tab
/-- From a on to b, around m. -/
def cdist (m a b : Nat) : Nat := if a ≤ b then b - a else b + m - a
/-- d behind a, around m. -/
def cadd (m a d : Nat) : Nat := if a + d < m then a + d else a + d - m
theorem cadd_lt {m a d : Nat} (ha : a < m) (hd : d < m) : cadd m a d < m := by unfold cadd; split <;> omega
theorem cdist_lt {m a b : Nat} (ha : a < m) (hb : b < m) : cdist m a b < m := by unfold cdist; split <;> omega
theorem cadd_cdist {m a b : Nat} (ha : a < m) (hb : b < m) : cadd m a (cdist m a b) = b := by unfold cadd cdist; split <;> split <;> omega
theorem cdist_cadd {m a d : Nat} (ha : a < m) (hd : d < m) : cdist m a (cadd m a d) = d := by unfold cadd cdist; split <;> split <;> omega
theorem cadd_zero {m a : Nat} (ha : a < m) : cadd m a 0 = a := by unfold cadd; split <;> omega
theorem cadd_succ {m a d : Nat} (ha : a < m) (hd : d + 1 < m) : cadd m (cadd m a d) 1 = cadd m a (d + 1) := by unfold cadd; (repeat' split) <;> omega
theorem cdist_succ {m a b : Nat} (ha : a < m) (hb : b < m) (h : cdist m a b + 1 < m) : cdist m a (cadd m b 1) = cdist m a b + 1 := by unfold cadd cdist at *; (repeat' split at *) <;> omega
theorem cdist_self {m a : Nat} : cdist m a a = 0 := by unfold cdist; split <;> omega
theorem cdist_zero {m a b : Nat} (ha : a < m) (hb : b < m) (h : cdist m a b = 0) : a = b := by unfold cdist at h; split at h <;> omega
/-- A way from a through p to b. -/
theorem cdist_via {m a p b : Nat} (ha : a < m) (hp : p < m) (hb : b < m) (h : cdist m p b ≤ cdist m a b) : cdist m a p + cdist m p b = cdist m a b := by unfold cdist at *; (repeat' split at *) <;> omega
theorem via_le {m a p b : Nat} (ha : a < m) (hp : p < m) (hb : b < m) (h : cdist m a p ≤ cdist m a b) : cdist m a p + cdist m p b = cdist m a b := by unfold cdist at *; (repeat' split at *) <;> omega
section
variable {κ : Type}
/-- Each key lies behind used slots from its home on; no key twice. -/
structure Inv (m : Nat) (h : κ → Nat) (f : Nat → Option κ) : Prop where
  home : ∀ k, h k < m
  one : ∀ i j k, i < m → j < m → f i = some k → f j = some k → i = j
  path : ∀ j k, j < m → f j = some k → ∀ d, d < cdist m (h k) j → (f (cadd m (h k) d)).isSome = true
/-- Where the search for a key stands behind d steps that met used slots with other keys. -/
theorem Inv.search {m : Nat} {h : κ → Nat} {f : Nat → Option κ} (I : Inv m h f) (k : κ) {j d : Nat} (hj : j < m) (hf : f j = some k) (hd : ∀ e, e < d → ∃ k', f (cadd m (h k) e) = some k' ∧ k' ≠ k) : d ≤ cdist m (h k) j := by
  rcases Nat.lt_or_ge (cdist m (h k) j) d with hl | hl
  · obtain ⟨k', h1, h2⟩ := hd _ hl
    rw [cadd_cdist (I.home k) hj, hf] at h1
    cases h1
    exact absurd rfl h2
  · exact hl
/-- An empty slot met: the key isn't there. -/
theorem Inv.absent {m : Nat} {h : κ → Nat} {f : Nat → Option κ} (I : Inv m h f) (k : κ) {d : Nat} (hd : ∀ e, e < d → ∃ k', f (cadd m (h k) e) = some k' ∧ k' ≠ k) (hn : f (cadd m (h k) d) = none) : ∀ j, j < m → f j ≠ some k := by
  intro j hj hf
  have h1 := I.search k hj hf hd
  rcases Nat.lt_or_ge d (cdist m (h k) j) with hl | hl
  · have := I.path j k hj hf d hl
    rw [hn] at this
    cases this
  · have : d = cdist m (h k) j := by omega
    rw [this, cadd_cdist (I.home k) hj, hf] at hn
    cases hn
/-- A new key laid into the slot that the search found empty. -/
theorem Inv.put {m : Nat} {h : κ → Nat} {f : Nat → Option κ} (I : Inv m h f) (k : κ) {d : Nat} (hdm : d < m) (hd : ∀ e, e < d → ∃ k', f (cadd m (h k) e) = some k' ∧ k' ≠ k) (hn : f (cadd m (h k) d) = none) : Inv m h (fun i => if i = cadd m (h k) d then some k else f i) := by
  have ha := I.absent k hd hn
  refine ⟨I.home, fun i j x hi hj h1 h2 => ?_, fun j x hj h1 e he => ?_⟩
  · have h1 : (if i = cadd m (h k) d then some k else f i) = some x := h1
    have h2 : (if j = cadd m (h k) d then some k else f j) = some x := h2
    by_cases e1 : i = cadd m (h k) d <;> by_cases e2 : j = cadd m (h k) d
    · omega
    · rw [if_pos e1] at h1; rw [if_neg e2] at h2; cases h1; exact (ha j hj h2).elim
    · rw [if_neg e1] at h1; rw [if_pos e2] at h2; cases h2; exact (ha i hi h1).elim
    · rw [if_neg e1] at h1; rw [if_neg e2] at h2; exact I.one i j x hi hj h1 h2
  · have h1 : (if j = cadd m (h k) d then some k else f j) = some x := h1
    show (if cadd m (h x) e = cadd m (h k) d then some k else f (cadd m (h x) e)).isSome = true
    by_cases e1 : j = cadd m (h k) d
    · rw [if_pos e1] at h1
      cases h1
      rw [e1, cdist_cadd (I.home k) hdm] at he
      obtain ⟨k', h3, _⟩ := hd e he
      split
      · rfl
      · rw [h3]; rfl
    · rw [if_neg e1] at h1
      have := I.path j x hj h1 e he
      split
      · rfl
      · exact this
/-- While a slot is dropped: a hole at p; what lies between the hole and i doesn't need it. -/
structure Hole (m : Nat) (h : κ → Nat) (f : Nat → Option κ) (p i : Nat) : Prop where
  home : ∀ k, h k < m
  hp : p < m
  hi : i < m
  none : f p = none
  one : ∀ i j k, i < m → j < m → f i = some k → f j = some k → i = j
  path : ∀ j k, j < m → f j = some k → ∀ d, d < cdist m (h k) j → (f (cadd m (h k) d)).isSome = true ∨ cadd m (h k) d = p
  near : ∀ j k, j < m → f j = some k → cdist m p j < cdist m p i → ∀ d, d < cdist m (h k) j → cadd m (h k) d ≠ p
theorem Hole.done {m : Nat} {h : κ → Nat} {f : Nat → Option κ} {p i : Nat} (H : Hole m h f p i) (hn : f i = Option.none) (hpi : 0 < cdist m p i) : Inv m h f := by
  refine ⟨H.home, H.one, fun j k hj hf d hd => ?_⟩
  rcases H.path j k hj hf d hd with h1 | h1
  · exact h1
  · exfalso
    have hjp : j ≠ p := by rintro rfl; rw [H.none] at hf; cases hf
    have hdm : d < m := Nat.lt_trans hd (cdist_lt (H.home k) hj)
    have e1 : cdist m (h k) p = d := by rw [← h1]; exact cdist_cadd (H.home k) hdm
    have v := via_le (H.home k) H.hp hj (by omega)
    by_cases hlt : cdist m p j < cdist m p i
    · exact H.near j k hj hf hlt d hd h1
    · -- the way from p to j goes through i, which is empty
      have hij : cdist m p i ≤ cdist m p j := by omega
      have v2 := via_le H.hp H.hi hj hij
      by_cases hji : i = j
      · rw [hji, hf] at hn; cases hn
      · have hpos : 0 < cdist m i j := by
          rcases Nat.eq_zero_or_pos (cdist m i j) with h0 | h0
          · exact absurd (cdist_zero H.hi hj h0) hji
          · exact h0
        have hd2 : d + cdist m p i < cdist m (h k) j := by omega
        have e2 : cadd m (h k) (d + cdist m p i) = i := by
          have h3 : cdist m (h k) i = d + cdist m p i := by
            have h4 := H.home k
            have h5 := H.hp
            have h6 := H.hi
            have h7 := cdist_lt h4 hj
            have h8 : d + cdist m p i < m := by omega
            clear hn hf v v2 hij hlt hd hd2 hpos hji h1
            unfold cdist at *
            (repeat' split at *) <;> omega
          rw [← h3]; exact cadd_cdist (H.home k) H.hi
        rcases H.path j k hj hf _ hd2 with h3 | h3
        · rw [e2, hn] at h3; cases h3
        · rw [e2] at h3
          rw [h3, cdist_self] at hpi
          omega
/-- A key taken out: the hole. -/
theorem Hole.start {m : Nat} {h : κ → Nat} {f : Nat → Option κ} (I : Inv m h f) {p : Nat} (hp : p < m) (hm : 1 < m) : Hole m h (fun x => if x = p then Option.none else f x) p (cadd m p 1) := by
  have hsome : ∀ j k, (if j = p then Option.none else f j) = some k → j ≠ p ∧ f j = some k := by
    intro j k hf
    by_cases e : j = p
    · rw [if_pos e] at hf; cases hf
    · rw [if_neg e] at hf; exact ⟨e, hf⟩
  refine ⟨I.home, hp, cadd_lt hp hm, if_pos rfl, fun i j k hi hj h1 h2 => I.one i j k hi hj (hsome i k h1).2 (hsome j k h2).2, fun j k hj hf d hd => ?_, fun j k hj hf hl d hd => ?_⟩
  · obtain ⟨h1, h2⟩ := hsome j k hf
    by_cases e : cadd m (h k) d = p
    · exact .inr e
    · exact .inl (by rw [if_neg e]; exact I.path j k hj h2 d hd)
  · obtain ⟨h1, h2⟩ := hsome j k hf
    have h3 := cdist_cadd hp hm
    rw [h3] at hl
    exact absurd (cdist_zero hp hj (by omega)).symm h1
/-- The key at i doesn't need the hole: on. -/
theorem Hole.skip {m : Nat} {h : κ → Nat} {f : Nat → Option κ} {p i : Nat} (H : Hole m h f p i) {k : κ} (hf : f i = some k) (hlt : cdist m (h k) i < cdist m p i) (hnext : cdist m p i + 1 < m) : Hole m h f p (cadd m i 1) := by
  have hm1 : 1 < m := by omega
  refine ⟨H.home, H.hp, cadd_lt H.hi hm1, H.none, H.one, H.path, fun j x hj hx hl d hd => ?_⟩
  rw [cdist_succ H.hp H.hi hnext] at hl
  by_cases e : cdist m p j < cdist m p i
  · exact H.near j x hj hx e d hd
  · have e2 : cdist m p j = cdist m p i := by omega
    have e3 : j = i := by
      have := cadd_cdist H.hp hj
      rw [e2, cadd_cdist H.hp H.hi] at this
      exact this.symm
    subst e3
    rw [hf] at hx
    cases hx
    intro hc
    have hdm : d < m := Nat.lt_trans hd (cdist_lt (H.home k) hj)
    have e4 : cdist m (h k) p = d := by rw [← hc]; exact cdist_cadd (H.home k) hdm
    have v := via_le (H.home k) H.hp hj (by omega)
    omega
/-- The key at i laid into the hole: the hole is at i. -/
theorem Hole.move {m : Nat} {h : κ → Nat} {f : Nat → Option κ} {p i : Nat} (H : Hole m h f p i) {k : κ} (hf : f i = some k) (hge : cdist m p i ≤ cdist m (h k) i) (hm1 : 1 < m) : Hole m h (fun x => if x = p then some k else if x = i then Option.none else f x) i (cadd m i 1) := by
  have hip : i ≠ p := by rintro rfl; rw [H.none] at hf; cases hf
  have hsome : ∀ j x, (if j = p then some k else if j = i then Option.none else f j) = some x → (j = p ∧ x = k) ∨ (j ≠ p ∧ j ≠ i ∧ f j = some x) := by
    intro j x hj
    by_cases e : j = p
    · rw [if_pos e] at hj; cases hj; exact .inl ⟨e, rfl⟩
    · rw [if_neg e] at hj
      by_cases e2 : j = i
      · rw [if_pos e2] at hj; cases hj
      · rw [if_neg e2] at hj; exact .inr ⟨e, e2, hj⟩
  have v := cdist_via (H.home k) H.hp H.hi hge
  refine ⟨H.home, H.hi, cadd_lt H.hi hm1, by show (if i = p then some k else if i = i then Option.none else f i) = Option.none; rw [if_neg hip, if_pos rfl], fun a b x ha hb h1 h2 => ?_, fun j x hj hx d hd => ?_, fun j x hj hx hl d hd => ?_⟩
  · rcases hsome a x h1 with ⟨a1, a2⟩ | ⟨a1, a2, a3⟩ <;> rcases hsome b x h2 with ⟨b1, b2⟩ | ⟨b1, b2, b3⟩
    · omega
    · subst a2; exact absurd (H.one b i x hb H.hi b3 hf) b2
    · subst b2; exact absurd (H.one a i x ha H.hi a3 hf) a2
    · exact H.one a b x ha hb a3 b3
  · show (if cadd m (h x) d = p then some k else if cadd m (h x) d = i then Option.none else f (cadd m (h x) d)).isSome = true ∨ cadd m (h x) d = i
    by_cases e : cadd m (h x) d = p
    · exact .inl (by rw [if_pos e]; rfl)
    · by_cases e2 : cadd m (h x) d = i
      · exact .inr e2
      · refine .inl ?_
        rw [if_neg e, if_neg e2]
        rcases hsome j x hx with ⟨j1, j2⟩ | ⟨j1, j2, j3⟩
        · subst j1; subst j2
          rcases H.path i x H.hi hf d (by omega) with h3 | h3
          · exact h3
          · exact absurd h3 e
        · rcases H.path j x hj j3 d hd with h3 | h3
          · exact h3
          · exact absurd h3 e
  · rw [cdist_cadd H.hi hm1] at hl
    have hji : j = i := (cdist_zero H.hi hj (by omega)).symm
    rcases hsome j x hx with ⟨j1, _⟩ | ⟨_, j2, _⟩
    · exact absurd (hji.symm.trans j1) hip
    · exact absurd hji j2
/-- How many slots are used. -/
def cnt (m : Nat) (f : Nat → Option κ) : Nat := (List.range m).countP fun i => (f i).isSome
theorem cnt_succ (m : Nat) (f : Nat → Option κ) : cnt (m + 1) f = cnt m f + if (f m).isSome then 1 else 0 := by
  unfold cnt
  rw [List.range_succ, List.countP_append, List.countP_singleton]
theorem cnt_same {m : Nat} {f f' : Nat → Option κ} (h : ∀ i, i < m → (f i).isSome = (f' i).isSome) : cnt m f = cnt m f' := by
  induction m with
  | zero => rfl
  | succ m ih =>
    rw [cnt_succ, cnt_succ, ih (fun i hi => h i (by omega)), h m (by omega)]
/-- One slot turned from empty to used. -/
theorem cnt_put {m : Nat} {f f' : Nat → Option κ} {p : Nat} (hp : p < m) (h0 : f p = none) (h1 : (f' p).isSome = true) (h : ∀ i, i < m → i ≠ p → (f i).isSome = (f' i).isSome) : cnt m f' = cnt m f + 1 := by
  induction m with
  | zero => omega
  | succ m ih =>
    rw [cnt_succ, cnt_succ]
    by_cases e : p = m
    · subst e
      rw [cnt_same (f := f') (f' := f) fun i hi => (h i (by omega) (by omega)).symm, h0, h1]
      simp
    · rw [ih (by omega) (fun i hi hn => h i (by omega) hn), h m (by omega) (fun e2 => e e2.symm)]
      omega
/-- Fewer keys than slots: one is empty. -/
theorem cnt_room {m : Nat} {f : Nat → Option κ} (h : cnt m f < m) : ∃ j, j < m ∧ f j = none := by
  induction m with
  | zero => omega
  | succ m ih =>
    rw [cnt_succ] at h
    cases hf : f m with
    | none => exact ⟨m, by omega, hf⟩
    | some k =>
      rw [hf] at h
      obtain ⟨j, h1, h2⟩ := ih (by simpa using h)
      exact ⟨j, by omega, h2⟩
/-- The search ends: of the slots from a on one is empty within m steps. -/
theorem room_ahead {m : Nat} {f : Nat → Option κ} (h : cnt m f < m) {a : Nat} (ha : a < m) : ∃ d, d < m ∧ f (cadd m a d) = none ∧ ∀ e, e < d → (f (cadd m a e)).isSome = true := by
  obtain ⟨j, hj, hn⟩ := cnt_room h
  have key : ∀ d, f (cadd m a d) = none → d < m → ∃ d', d' ≤ d ∧ f (cadd m a d') = none ∧ ∀ e, e < d' → (f (cadd m a e)).isSome = true := by
    intro d
    induction d with
    | zero => intro h0 _; exact ⟨0, Nat.le_refl _, h0, fun e he => absurd he (Nat.not_lt_zero _)⟩
    | succ d ih =>
      intro h0 hd
      by_cases hex : ∃ e, e ≤ d ∧ f (cadd m a e) = none
      · obtain ⟨e, he, hne⟩ := hex
        -- the least of them
        have : ∀ n, ∀ e, e ≤ n → f (cadd m a e) = none → ∃ d', d' ≤ n ∧ f (cadd m a d') = none ∧ ∀ x, x < d' → (f (cadd m a x)).isSome = true := by
          intro n
          induction n with
          | zero => intro e he h1; exact ⟨0, Nat.le_refl _, by rw [show e = 0 by omega] at h1; exact h1, fun x hx => absurd hx (Nat.not_lt_zero _)⟩
          | succ n ihn =>
            intro e he h1
            by_cases hx : ∃ x, x ≤ n ∧ f (cadd m a x) = none
            · obtain ⟨x, hx1, hx2⟩ := hx
              obtain ⟨d', a1, a2, a3⟩ := ihn x hx1 hx2
              exact ⟨d', by omega, a2, a3⟩
            · refine ⟨e, he, h1, fun x hxe => ?_⟩
              cases hfx : f (cadd m a x) with
              | none => exact absurd ⟨x, by omega, hfx⟩ hx
              | some _ => rfl
        obtain ⟨d', a1, a2, a3⟩ := this d e he hne
        exact ⟨d', by omega, a2, a3⟩
      · refine ⟨d + 1, Nat.le_refl _, h0, fun e he => ?_⟩
        cases hfe : f (cadd m a e) with
        | none => exact absurd ⟨e, by omega, hfe⟩ hex
        | some _ => rfl
  obtain ⟨d', a1, a2, a3⟩ := key (cdist m a j) (by rw [cadd_cdist ha hj]; exact hn) (cdist_lt ha hj)
  exact ⟨d', Nat.lt_of_le_of_lt a1 (cdist_lt ha hj), a2, a3⟩
/-- A key moved into the hole: the keys are the same. -/
theorem move_mem {m : Nat} {f : Nat → Option κ} {p i : Nat} {k : κ} (hp : p < m) (hi : i < m) (hip : i ≠ p) (hf : f i = some k) (h0 : f p = none) (x : κ) : (∃ j, j < m ∧ (if j = p then some k else if j = i then none else f j) = some x) ↔ ∃ j, j < m ∧ f j = some x := by
  constructor
  · rintro ⟨j, hj, h⟩
    by_cases e : j = p
    · rw [if_pos e] at h; cases h; exact ⟨i, hi, hf⟩
    · rw [if_neg e] at h
      by_cases e2 : j = i
      · rw [if_pos e2] at h; cases h
      · rw [if_neg e2] at h; exact ⟨j, hj, h⟩
  · rintro ⟨j, hj, h⟩
    by_cases e : j = i
    · subst e; rw [hf] at h; cases h; exact ⟨p, hp, if_pos rfl⟩
    · have e2 : j ≠ p := by rintro rfl; rw [h0] at h; cases h
      exact ⟨j, hj, by rw [if_neg e2, if_neg e]; exact h⟩
/-- The code's numbers: one on, and how far, around m. -/
theorem mod_next {m i : Nat} (hi : i < m) (hm : 1 < m) : (i + 1) % m = cadd m i 1 := by
  unfold cadd
  split
  · exact Nat.mod_eq_of_lt (by omega)
  · rw [show i + 1 = m by omega, Nat.mod_self]; omega
theorem mod_dist {m a b : Nat} (ha : a < m) (hb : b < m) : (b + m - a) % m = cdist m a b := by
  unfold cdist
  split
  · rw [show b + m - a = (b - a) + m by omega, Nat.add_mod_right]
    exact Nat.mod_eq_of_lt (by omega)
  · exact Nat.mod_eq_of_lt (by omega)
end
end Go.Tab
/- A table of slots as a list: what it holds. Plain, no program in sight. -/
set_option linter.unusedVariables false
set_option linter.unusedSimpArgs false
namespace Go.Tab
/-- A slot. -/
structure Sl where
  used : Bool
  key : ByteArray
  home : Int
  v : Int
def Sl.zero : Sl := ⟨false, ByteArray.empty, 0, 0⟩
def Sl.pair (s : Sl) : Option (ByteArray × Int) := if s.used then some (s.key, s.v) else none
/-- The keys by their slots. -/
def kf (sl : List Sl) (i : Nat) : Option ByteArray := (sl[i]?).bind fun s => if s.used then some s.key else none
def prs (sl : List Sl) : List (ByteArray × Int) := sl.filterMap Sl.pair
theorem kf_get {sl : List Sl} {i : Nat} {s : Sl} (h : sl[i]? = some s) : kf sl i = if s.used then some s.key else none := by unfold kf; rw [h]; rfl
theorem kf_set {sl : List Sl} {i : Nat} (hi : i < sl.length) (s : Sl) : kf (sl.set i s) = fun j => if j = i then (if s.used then some s.key else none) else kf sl j := by
  funext j
  unfold kf
  rw [List.getElem?_set]
  by_cases e : i = j
  · subst e; rw [if_pos rfl, if_pos hi, if_pos rfl]; rfl
  · rw [if_neg e, if_neg (fun h => e h.symm)]
theorem split2 {α : Type} {L : List α} {i : Nat} {a : α} (hi : L[i]? = some a) : L = L.take i ++ a :: L.drop (i + 1) ∧ ∀ a', L.set i a' = L.take i ++ a' :: L.drop (i + 1) := by
  obtain ⟨hl, he⟩ := List.getElem?_eq_some_iff.1 hi
  refine ⟨?_, fun a' => ?_⟩
  · rw [← he, ← List.drop_eq_getElem_cons hl, List.take_append_drop]
  · rw [List.set_eq_take_append_cons_drop, if_pos hl]
theorem prs_set {sl : List Sl} {i : Nat} {s s' : Sl} (h : sl[i]? = some s) : (s.pair.toList ++ prs (sl.set i s')).Perm (s'.pair.toList ++ prs sl) := by
  obtain ⟨e1, e2⟩ := split2 h
  rw [e2 s']
  have : prs sl = prs (sl.take i ++ s :: sl.drop (i + 1)) := congrArg prs e1
  rw [this]
  generalize sl.take i = a
  generalize sl.drop (i + 1) = b
  have key : ∀ t : Sl, prs (a ++ t :: b) = prs a ++ t.pair.toList ++ prs b := by
    intro t
    unfold prs
    rw [List.filterMap_append, List.filterMap_cons, List.append_assoc]
    cases t.pair <;> rfl
  rw [key, key]
  generalize s.pair.toList = x
  generalize s'.pair.toList = y
  generalize prs a = a'
  generalize prs b = b'
  have h1 : (x ++ (a' ++ y ++ b')).Perm (y ++ (x ++ (a' ++ b'))) := by
    refine (List.Perm.append_left x ?_ : (x ++ (a' ++ y ++ b')).Perm (x ++ (y ++ (a' ++ b')))).trans ?_
    · rw [List.append_assoc]; exact List.perm_append_comm_assoc a' y b'
    · exact List.perm_append_comm_assoc x y (a' ++ b')
  refine h1.trans (List.Perm.append_left y ?_)
  rw [List.append_assoc]
  exact List.perm_append_comm_assoc x a' b'
theorem mem_prs {sl : List Sl} {k : ByteArray} {v : Int} : (k, v) ∈ prs sl ↔ ∃ (i : Nat) (s : Sl), sl[i]? = some s ∧ s.used = true ∧ s.key = k ∧ s.v = v := by
  unfold prs
  rw [List.mem_filterMap]
  constructor
  · rintro ⟨s, hs, e⟩
    obtain ⟨i, hi⟩ := List.getElem?_of_mem hs
    unfold Sl.pair at e
    cases hu : s.used with
    | false => rw [hu] at e; simp at e
    | true => 
      rw [hu] at e
      simp only [if_true, Option.some.injEq, Prod.mk.injEq] at e
      exact ⟨i, s, hi, hu, e.1, e.2⟩
  · rintro ⟨i, s, hi, hu, rfl, rfl⟩
    exact ⟨s, List.mem_of_getElem? hi, by unfold Sl.pair; rw [hu]; rfl⟩
theorem kf_some {sl : List Sl} {i : Nat} {k : ByteArray} : kf sl i = some k ↔ ∃ s : Sl, sl[i]? = some s ∧ s.used = true ∧ s.key = k := by
  unfold kf
  cases h : sl[i]? with
  | none => simp
  | some s => 
    simp only [Option.bind_some, Option.some.injEq]
    cases hu : s.used with
    | false => simp [hu]
    | true => simp [hu]
theorem kf_lt {sl : List Sl} {i : Nat} {k : ByteArray} (h : kf sl i = some k) : i < sl.length := by
  obtain ⟨s, h1, _⟩ := kf_some.1 h
  exact (List.getElem?_eq_some_iff.1 h1).1
theorem kf_used {sl : List Sl} {i : Nat} {s : Sl} (h : sl[i]? = some s) : (kf sl i).isSome = s.used := by
  rw [kf_get h]; cases s.used <;> rfl
theorem cnt_prs (sl : List Sl) : cnt sl.length (kf sl) = (prs sl).length := by
  have key : ∀ (n : Nat) (l : List Sl), n ≤ l.length → cnt n (kf l) = (prs (l.take n)).length := by
    intro n
    induction n with
    | zero => intro l _; rfl
    | succ n ih =>
      intro l hn
      rw [cnt_succ, ih l (by omega)]
      have hn' : n < l.length := by omega
      rw [List.take_succ_eq_append_getElem hn']
      unfold prs
      rw [List.filterMap_append, List.length_append]
      congr 1
      rw [kf_used (List.getElem?_eq_getElem hn')]
      unfold Sl.pair
      cases h : l[n].used <;> simp [h]
  have := key sl.length sl (Nat.le_refl _)
  rwa [List.take_length] at this
/-- A table: its slots, what it holds. -/
structure TI (hm : ByteArray → Nat) (most : Nat) (sl : List Sl) (T : List (ByteArray × Int)) : Prop where
  m1 : 1 < sl.length
  room : 2 * most ≤ sl.length
  inv : Inv sl.length hm (kf sl)
  homes : ∀ (i : Nat) (s : Sl), sl[i]? = some s → s.used = true → s.home = (hm s.key : Nat)
  perm : (prs sl).Perm T
  len : T.length ≤ most
def mg (T : List (ByteArray × Int)) (k : ByteArray) : Option Int := (T.find? fun p => decide (p.1 = k)).map (·.2)
theorem mg_some {T : List (ByteArray × Int)} {k : ByteArray} {v : Int} (hn : (T.map (·.1)).Nodup) : mg T k = some v ↔ (k, v) ∈ T := by
  unfold mg
  induction T with
  | nil => simp
  | cons p T ih =>
    rw [List.map_cons, List.nodup_cons] at hn
    rw [List.find?_cons]
    by_cases e : p.1 = k
    · have : decide (p.1 = k) = true := decide_eq_true e
      rw [this]
      simp only [Option.map_some, Option.some.injEq, List.mem_cons]
      constructor
      · intro h; exact .inl (by rw [← e, ← h])
      · rintro (h | h)
        · rw [← h]
        · exact absurd (List.mem_map.2 ⟨_, h, by rw [e]⟩) hn.1
    · have : decide (p.1 = k) = false := decide_eq_false e
      rw [this, List.mem_cons]
      simp only
      rw [ih hn.2]
      constructor
      · exact .inr
      · rintro (h | h)
        · rw [← h] at e; exact absurd rfl e
        · exact h
theorem mg_none {T : List (ByteArray × Int)} {k : ByteArray} : mg T k = none ↔ ∀ v, (k, v) ∉ T := by
  unfold mg
  rw [Option.map_eq_none_iff, List.find?_eq_none]
  constructor
  · intro h v hv; have := h _ hv; simp at this
  · intro h p hp e
    have : p.1 = k := by simpa using e
    exact h p.2 (by rw [← this]; exact hp)
section
variable {hm : ByteArray → Nat} {most : Nat} {sl : List Sl} {T : List (ByteArray × Int)}
theorem TI.keys (h : TI hm most sl T) : (T.map (·.1)).Nodup := by
  refine (h.perm.map (·.1)).nodup_iff.1 ?_
  have h1 := h.inv.one
  have : ∀ (l : List Sl), (∀ i j k, i < l.length → j < l.length → kf l i = some k → kf l j = some k → i = j) → ((prs l).map (·.1)).Nodup := by
    intro l
    induction l with
    | nil => intro _; simp [prs]
    | cons s l ih =>
      intro hk
      have ih' := ih fun i j k hi hj h1 h2 => by
        have := hk (i + 1) (j + 1) k (by simpa using hi) (by simpa using hj) h1 h2
        omega
      unfold prs
      rw [List.filterMap_cons]
      cases hp : s.pair with
      | none => exact ih'
      | some p =>
        rw [List.map_cons, List.nodup_cons]
        refine ⟨fun hm => ?_, ih'⟩
        obtain ⟨q, hq, e⟩ := List.mem_map.1 hm
        obtain ⟨i, t, hi, hu, e1, e2⟩ := mem_prs.1 (show (q.1, q.2) ∈ prs l from hq)
        have hps : s.used = true ∧ s.key = p.1 := by
          unfold Sl.pair at hp
          cases hu : s.used with
          | false => rw [hu] at hp; simp at hp
          | true => rw [hu] at hp; simp at hp; exact ⟨rfl, by rw [← hp]⟩
        have h0 : kf (s :: l) 0 = some p.1 := kf_some.2 ⟨s, rfl, hps.1, hps.2⟩
        have h1 : kf (s :: l) (i + 1) = some p.1 := kf_some.2 ⟨t, by simpa using hi, hu, by rw [e1, e]⟩
        have := hk 0 (i + 1) p.1 (by simp) (by have := (List.getElem?_eq_some_iff.1 hi).1; simpa using this) h0 h1
        omega
  exact this sl h1
theorem TI.mem (h : TI hm most sl T) {k : ByteArray} {v : Int} : (k, v) ∈ T ↔ ∃ (i : Nat) (s : Sl), sl[i]? = some s ∧ s.used = true ∧ s.key = k ∧ s.v = v := by
  rw [← h.perm.mem_iff]; exact mem_prs
theorem TI.cnt (h : TI hm most sl T) : cnt sl.length (kf sl) = T.length := by rw [cnt_prs, h.perm.length_eq]
theorem TI.roomy (h : TI hm most sl T) : Tab.cnt sl.length (kf sl) < sl.length := by
  rw [h.cnt]; have := h.len; have := h.room; have := h.m1; omega
/-- Where the search for a key ends. -/
def FoundK (hm : ByteArray → Nat) (sl : List Sl) (k : ByteArray) (i : Nat) (there : Bool) : Prop :=
  ∃ d, d < sl.length ∧ i = cadd sl.length (hm k) d ∧ (∀ e, e < d → ∃ k', kf sl (cadd sl.length (hm k) e) = some k' ∧ k' ≠ k) ∧ (if there then kf sl i = some k else kf sl i = none)
theorem FoundK.lt {k : ByteArray} {i : Nat} {b : Bool} (h : TI hm most sl T) (F : FoundK hm sl k i b) : i < sl.length := by
  obtain ⟨d, h1, rfl, _⟩ := F; exact cadd_lt (h.inv.home k) h1
theorem TI.found (h : TI hm most sl T) {k : ByteArray} {i : Nat} (F : FoundK hm sl k i true) : ∃ s : Sl, sl[i]? = some s ∧ s.used = true ∧ s.key = k ∧ mg T k = some s.v := by
  obtain ⟨d, h1, h2, h3, h4⟩ := F
  obtain ⟨s, e1, e2, e3⟩ := kf_some.1 (show kf sl i = some k from h4)
  exact ⟨s, e1, e2, e3, (mg_some h.keys).2 (h.mem.2 ⟨i, s, e1, e2, e3, rfl⟩)⟩
theorem TI.unfound (h : TI hm most sl T) {k : ByteArray} {i : Nat} (F : FoundK hm sl k i false) : mg T k = none := by
  obtain ⟨d, h1, rfl, h3, h4⟩ := F
  rw [mg_none]
  intro v hv
  obtain ⟨j, s, e1, e2, e3, e4⟩ := h.mem.1 hv
  exact h.inv.absent k h3 h4 j (List.getElem?_eq_some_iff.1 e1).1 (kf_some.2 ⟨s, e1, e2, e3⟩)
/-- A number changed. -/
theorem TI.setv (h : TI hm most sl T) {k : ByteArray} {i : Nat} {s : Sl} (hs : sl[i]? = some s) (hu : s.used = true) (hk : s.key = k) (v : Int) {T' : List (ByteArray × Int)} (hT : ((k, v) :: T).Perm ((k, s.v) :: T')) : TI hm most (sl.set i ⟨true, s.key, s.home, v⟩) T' := by
  have hl := (List.getElem?_eq_some_iff.1 hs).1
  have hf : kf (sl.set i ⟨true, s.key, s.home, v⟩) = kf sl := by
    rw [kf_set hl]; funext j
    by_cases e : j = i
    · subst e; rw [if_pos rfl, kf_get hs, hu]
    · rw [if_neg e]
  have hp := prs_set (s' := ⟨true, s.key, s.home, v⟩) hs
  have hlen : T'.length = T.length := by have := hT.length_eq; simpa using this.symm
  refine ⟨by rw [List.length_set]; exact h.m1, by rw [List.length_set]; exact h.room, by rw [List.length_set, hf]; exact h.inv, fun j t hj hu' => ?_, ?_, by rw [hlen]; exact h.len⟩
  · rw [List.getElem?_set] at hj
    by_cases e : i = j
    · subst e; rw [if_pos rfl, if_pos hl] at hj; cases hj; exact h.homes i s hs hu
    · rw [if_neg e] at hj; exact h.homes j t hj hu'
  · have e1 : s.pair = some (k, s.v) := by unfold Sl.pair; rw [hu, hk]; rfl
    have e2 : Sl.pair ⟨true, s.key, s.home, v⟩ = some (k, v) := by unfold Sl.pair; rw [hk]; rfl
    rw [e1, e2] at hp
    have h3 : ((k, s.v) :: prs (sl.set i ⟨true, s.key, s.home, v⟩)).Perm ((k, v) :: prs sl) := hp
    exact (List.perm_cons _).1 ((h3.trans ((List.perm_cons _).2 h.perm)).trans hT)
/-- A new key. -/
theorem TI.put (h : TI hm most sl T) {k : ByteArray} {i : Nat} (F : FoundK hm sl k i false) (hlen : T.length < most) (v : Int) : TI hm most (sl.set i ⟨true, k, (hm k : Nat), v⟩) ((k, v) :: T) := by
  have hl := F.lt h
  obtain ⟨s, hs⟩ : ∃ s : Sl, sl[i]? = some s := ⟨_, List.getElem?_eq_getElem hl⟩
  obtain ⟨d, h1, h2, h3, h4⟩ := F
  have h4' : kf sl i = none := h4
  have hu : s.used = false := by have := kf_used hs; rw [h4'] at this; simpa using this.symm
  have hf : kf (sl.set i ⟨true, k, (hm k : Nat), v⟩) = fun j => if j = cadd sl.length (hm k) d then some k else kf sl j := by
    rw [kf_set hl, h2]; rfl
  have hp := prs_set (s' := ⟨true, k, (hm k : Nat), v⟩) hs
  have e1 : s.pair = none := by unfold Sl.pair; rw [hu]; rfl
  rw [e1] at hp
  refine ⟨by rw [List.length_set]; exact h.m1, by rw [List.length_set]; exact h.room, by rw [List.length_set, hf]; exact h.inv.put k h1 h3 (h2 ▸ h4'), fun j t hj hu' => ?_, ?_, by rw [List.length_cons]; exact hlen⟩
  · rw [List.getElem?_set] at hj
    by_cases e : i = j
    · subst e; rw [if_pos rfl, if_pos hl] at hj; cases hj; rfl
    · rw [if_neg e] at hj; exact h.homes j t hj hu'
  · have h5 : (prs (sl.set i ⟨true, k, (hm k : Nat), v⟩)).Perm ((k, v) :: prs sl) := hp
    exact h5.trans ((List.perm_cons _).2 h.perm)
/-- While a key is dropped: the hole at p, the scan at i. In code the slot at p still says what it said. -/
structure TH (hm : ByteArray → Nat) (most : Nat) (k : ByteArray) (sl0 sl : List Sl) (T : List (ByteArray × Int)) (p i : Nat) : Prop where
  m1 : 1 < sl.length
  len0 : sl.length = sl0.length
  hole : Hole sl.length hm (fun x => if x = p then none else kf sl x) p i
  homes : ∀ (j : Nat) (s : Sl), sl[j]? = some s → s.used = true → s.home = (hm s.key : Nat)
  pused : (kf sl p).isSome = true
  perm : (prs (sl.set p Sl.zero)).Perm T
  sames : ∀ j, (kf sl j).isSome = (kf sl0 j).isSome
theorem TI.hole (h : TI hm most sl T) {k : ByteArray} {p : Nat} {s : Sl} (hs : sl[p]? = some s) (hu : s.used = true) (hk : s.key = k) {T' : List (ByteArray × Int)} (hT : T.Perm ((k, s.v) :: T')) : TH hm most k sl sl T' p (cadd sl.length p 1) := by
  have hl := (List.getElem?_eq_some_iff.1 hs).1
  have hp := prs_set (s' := Sl.zero) hs
  have e1 : s.pair = some (k, s.v) := by unfold Sl.pair; rw [hu, hk]; rfl
  have e2 : Sl.pair Sl.zero = none := rfl
  rw [e1, e2] at hp
  have h3 : ((k, s.v) :: prs (sl.set p Sl.zero)).Perm (prs sl) := hp
  exact ⟨h.m1, rfl, Hole.start h.inv hl h.m1, h.homes, by rw [kf_used hs, hu], (List.perm_cons _).1 ((h3.trans h.perm).trans hT), fun _ => rfl⟩
/-- The scan met an empty slot: the hole is cleared. -/
theorem TH.done {k : ByteArray} {sl0 : List Sl} {p i : Nat} (h : TH hm most k sl0 sl T p i) (hroom : 2 * most ≤ sl.length) (hlen : T.length ≤ most) {s : Sl} (hs : sl[i]? = some s) (hu : s.used = false) (hip : 0 < cdist sl.length p i) : TI hm most (sl.set p Sl.zero) T := by
  have hpl := h.hole.hp
  have hf : kf (sl.set p Sl.zero) = fun x => if x = p then none else kf sl x := by rw [kf_set hpl]; rfl
  have hki : kf sl i = none := by have := kf_used hs; rw [hu] at this; simpa using this
  refine ⟨by rw [List.length_set]; exact h.m1, by rw [List.length_set]; exact hroom, ?_, fun j t hj hu' => ?_, h.perm, hlen⟩
  · rw [List.length_set, hf]
    refine h.hole.done ?_ hip
    show (if i = p then none else kf sl i) = none
    split
    · rfl
    · exact hki
  · rw [List.getElem?_set] at hj
    by_cases e : p = j
    · subst e; rw [if_pos rfl, if_pos hpl] at hj; cases hj; exact absurd hu' (by decide)
    · rw [if_neg e] at hj; exact h.homes j t hj hu'
theorem TH.skip {k : ByteArray} {sl0 : List Sl} {p i : Nat} (h : TH hm most k sl0 sl T p i) {s : Sl} (hs : sl[i]? = some s) (hu : s.used = true) (hip : i ≠ p) (hlt : cdist sl.length (hm s.key) i < cdist sl.length p i) (hnext : cdist sl.length p i + 1 < sl.length) : TH hm most k sl0 sl T p (cadd sl.length i 1) :=
  ⟨h.m1, h.len0, h.hole.skip (k := s.key) (by rw [if_neg hip, kf_get hs, hu]; rfl) hlt hnext, h.homes, h.pused, h.perm, h.sames⟩
theorem TH.move {k : ByteArray} {sl0 : List Sl} {p i : Nat} (h : TH hm most k sl0 sl T p i) {s : Sl} (hs : sl[i]? = some s) (hu : s.used = true) (hip : i ≠ p) (hge : cdist sl.length p i ≤ cdist sl.length (hm s.key) i) : TH hm most k sl0 (sl.set p s) T i (cadd sl.length i 1) := by
  have hpl := h.hole.hp
  obtain ⟨q, hq⟩ : ∃ q, sl[p]? = some q := ⟨_, List.getElem?_eq_getElem hpl⟩
  have hqu : q.used = true := by rw [← kf_used hq]; exact h.pused
  have hM := h.hole.move (k := s.key) (by rw [if_neg hip, kf_get hs, hu]; rfl) hge h.m1
  have hf : kf (sl.set p s) = fun x => if x = p then some s.key else kf sl x := by rw [kf_set hpl, hu]; rfl
  have hsi : (sl.set p s)[i]? = some s := by rw [List.getElem?_set, if_neg (fun e => hip e.symm)]; exact hs
  refine ⟨by rw [List.length_set]; exact h.m1, by rw [List.length_set]; exact h.len0, ?_, fun j t hj hu' => ?_, by rw [kf_used hsi, hu], ?_, fun j => ?_⟩
  · rw [List.length_set, hf]
    have e : (fun x => if x = p then some s.key else if x = i then none else (if x = p then none else kf sl x)) = (fun x => if x = i then none else if x = p then some s.key else kf sl x) := by
      funext x
      by_cases e1 : x = p
      · subst e1; rw [if_pos rfl, if_neg (fun h => hip h.symm), if_pos rfl]
      · rw [if_neg e1, if_neg e1, if_neg e1]
    rw [e] at hM
    exact hM
  · rw [List.getElem?_set] at hj
    by_cases e : p = j
    · subst e; rw [if_pos rfl, if_pos hpl] at hj; cases hj; exact h.homes i s hs hu'
    · rw [if_neg e] at hj; exact h.homes j t hj hu'
  · -- the pairs
    have h1 := prs_set (s' := Sl.zero) hsi
    have h2 := prs_set (s' := s) hq
    have h3 := prs_set (s' := Sl.zero) hq
    have hz : Sl.zero.pair.toList = [] := rfl
    rw [hz, List.nil_append] at h1 h3
    have h4 : (q.pair.toList ++ (s.pair.toList ++ prs ((sl.set p s).set i Sl.zero))).Perm (q.pair.toList ++ (s.pair.toList ++ prs (sl.set p Sl.zero))) := by
      refine ((List.Perm.append_left _ h1).trans (h2.trans ?_))
      refine (List.Perm.append_left s.pair.toList h3.symm).trans ?_
      exact List.perm_append_comm_assoc _ _ _
    exact ((List.perm_append_left_iff _).1 ((List.perm_append_left_iff _).1 h4)).trans h.perm
  · rw [hf, ← h.sames j]
    show (if j = p then some s.key else kf sl j).isSome = _
    by_cases e : j = p
    · subst e; rw [if_pos rfl, h.pused]; rfl
    · rw [if_neg e]
/-- The slots of a new table. -/
theorem TI.new {m : Nat} (hm0 : ∀ k, hm k < m) (h1 : 1 < m) (hr : 2 * most ≤ m) : TI hm most (List.replicate m Sl.zero) [] := by
  have hk : ∀ i, kf (List.replicate m Sl.zero) i = none := by
    intro i
    unfold kf
    rw [List.getElem?_replicate]
    split <;> rfl
  refine ⟨by simpa using h1, by simpa using hr, ⟨by simpa using hm0, fun i j k _ _ h _ => absurd h (by rw [hk]; simp), fun j k _ h => absurd h (by rw [hk]; simp)⟩, fun i s hi hu => ?_, ?_, by simp⟩
  · rw [List.getElem?_replicate] at hi
    split at hi
    · cases hi; exact absurd hu (by decide)
    · cases hi
  · have : prs (List.replicate m Sl.zero) = [] := by
      unfold prs
      rw [List.filterMap_eq_nil_iff]
      intro s hs
      rw [List.eq_of_mem_replicate hs]; rfl
    rw [this]
end
end Go.Tab
