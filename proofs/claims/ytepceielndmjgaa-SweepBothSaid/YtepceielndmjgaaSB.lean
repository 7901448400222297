import Derived.Test.YtepceielndmjgaaSA
namespace Go.Proofs.Ytepceielndmjgaa
open Go.RowKit Go.Tat Go.Proofs.YtepceielndmjgaaW.PrintWords PSweepTells
/-! ### What counts of each key -/
def bestS (M : List (ByteArray × S43)) (s : S43) : List (ByteArray × S43) := match mget M s.f0 with
  | none => mput M s.f0 s
  | some was => if ltS was s then mput M s.f0 s else M
def bestM (l : List S43) : List (ByteArray × S43) := l.foldl bestS []
theorem bestM_succ {l : List S43} {j : Nat} {x : S43} (h : l[j]? = some x) : bestM (l.take (j + 1)) = bestS (bestM (l.take j)) x := by
  obtain ⟨hl, he⟩ := List.getElem?_eq_some_iff.1 h
  unfold bestM
  rw [← List.take_append_getElem hl, List.foldl_append, he]; rfl
theorem ltS_trans {a b c : S43} (h1 : ltS a b) (h2 : ltS b c) : ltS a c := by unfold ltS at *; omega
theorem ltS_irrefl (a : S43) : ¬ ltS a a := by unfold ltS; omega
theorem ltS_cotrans {a b c : S43} (h : ¬ ltS a b) (h2 : ¬ ltS b c) : ¬ ltS a c := by unfold ltS at *; omega
theorem bestS_get (M : List (ByteArray × S43)) (s : S43) (k : ByteArray) : mget (bestS M s) k = if k = s.f0 then (match mget M k with | none => some s | some was => if ltS was s then some s else some was) else mget M k := by
  unfold bestS
  by_cases hk : k = s.f0
  · subst hk
    rw [if_pos rfl]
    cases h : mget M s.f0 with
    | none => simp only; rw [mget_mput, if_pos rfl]
    | some was =>
      simp only
      split
      · rw [mget_mput, if_pos rfl]
      · exact h
  · rw [if_neg hk]
    cases h : mget M s.f0 with
    | none => simp only; rw [mget_mput, if_neg hk]
    | some was =>
      simp only
      split
      · rw [mget_mput, if_neg hk]
      · rfl
/-- The greatest of a key. -/
def Top (l : List S43) (k : ByteArray) (o : Option S43) : Prop := match o with
  | none => ∀ t ∈ l, t.f0 ≠ k
  | some s => s ∈ l ∧ s.f0 = k ∧ ∀ t ∈ l, t.f0 = k → ¬ ltS s t
theorem bestM_top (l : List S43) (k : ByteArray) : Top l k (mget (bestM l) k) := by
  have : ∀ (l : List S43) (M : List (ByteArray × S43)) (l0 : List S43), Top l0 k (mget M k) → Top (l0 ++ l) k (mget (l.foldl bestS M) k) := by
    intro l
    induction l with
    | nil => intro M l0 h; simpa using h
    | cons x l ih =>
      intro M l0 h
      have e : l0 ++ x :: l = (l0 ++ [x]) ++ l := by simp
      rw [e, List.foldl_cons]
      refine ih _ _ ?_
      rw [bestS_get]
      by_cases hk : k = x.f0
      · rw [if_pos hk]
        cases hm : mget M k with
        | none =>
          rw [hm] at h
          refine ⟨by simp, hk.symm, fun t ht htk => ?_⟩
          rcases List.mem_append.1 ht with ht | ht
          · exact absurd htk (h t ht)
          · rw [List.mem_singleton.1 ht]; exact ltS_irrefl x
        | some was =>
          rw [hm] at h
          obtain ⟨h1, h2, h3⟩ := h
          simp only
          split
          · rename_i hlt
            refine ⟨by simp, hk.symm, fun t ht htk => ?_⟩
            rcases List.mem_append.1 ht with ht | ht
            · have := h3 t ht htk
              exact fun hc => this (ltS_trans hlt hc)
            · rw [List.mem_singleton.1 ht]; exact ltS_irrefl x
          · rename_i hlt
            refine ⟨List.mem_append_left _ h1, h2, fun t ht htk => ?_⟩
            rcases List.mem_append.1 ht with ht | ht
            · exact h3 t ht htk
            · rw [List.mem_singleton.1 ht]; exact hlt
      · rw [if_neg hk]
        cases hm : mget M k with
        | none =>
          rw [hm] at h
          intro t ht
          rcases List.mem_append.1 ht with ht | ht
          · exact h t ht
          · rw [List.mem_singleton.1 ht]; exact fun e => hk e.symm
        | some was =>
          rw [hm] at h
          obtain ⟨h1, h2, h3⟩ := h
          refine ⟨List.mem_append_left _ h1, h2, fun t ht htk => ?_⟩
          rcases List.mem_append.1 ht with ht | ht
          · exact h3 t ht htk
          · rw [List.mem_singleton.1 ht] at htk; exact absurd htk.symm hk
  exact this l [] [] (by intro t ht; simp at ht)
def ev43 (x : S43) : Value := .agg (e43 x).toArray
def zz43 : S43 := ⟨⟨#[]⟩, ⟨0, 0, 0⟩, 0⟩
theorem keys9 : KeyLaw Try.prog 9 Value.string := KeyLaw.string Try.underlying9
theorem zero43 : (Try.prog.info? 43).map (·.zero) = some (some (ev43 zz43)) := by kernel_rfl
def bestPost (w : World) (M : List (ByteArray × S43)) (e : Ending) (w' : World) : Prop := ∃ mb, e = .returned (.map (some mb)) ∧ St (fun _ => False) w w' [mapA mb Value.string ev43 M]
set_option maxRecDepth 100000 in
set_option maxHeartbeats 4000000 in
theorem best_c (l : List S43) (A : Option Addr) (c : Nat) (W : World) (hC : k43.C W A l.length l) : Calls Try.prog 21 #[.slice A l.length c] W (bestPost W (bestM l)) := by
  have hmx := Kd.C_max hC
  have HC := Lib.hid hC
  have HB := Lib.hid behind_c
  clear hC
  go_enter Try.func21, Try.ntmps21
  go_upto_region 2 with (refine wpList_makeMap rfl 45 rfl Value.string ev43 ?_; intro hM)
  have S1 := (St.nil (fun _ => False) W).add (a := mapA W.heap.size Value.string ev43 ([] : List (ByteArray × S43))) ((Below.refl _ _).alloc (Nat.le_refl _) _) hM (fun k h => Nat.le_of_eq h.symm)
  obtain ⟨mb, hmb⟩ : ∃ mb, W.heap.size = mb := ⟨_, rfl⟩
  rw [hmb] at S1 ⊢
  have H1 := Lib.hid S1
  clear S1 hM hmb
  generalize W.alloc _ = w1 at *
  go_wp2_with fail
  go_loopg [11] (l.length + 1) (fun m v11 wx => ∃ j : Nat, v11 = .int .i64 j ∧ j ≤ l.length ∧ l.length - j < m ∧ St (fun _ => False) W wx [mapA mb Value.string ev43 (bestM (l.take j))])
  case atStart => exact ⟨0, rfl, by omega, by omega, H1.out⟩
  case round =>
    clear H1
    obtain ⟨j, rfl, hj, hjm, S4⟩ := hrel
    by_cases hjl : j < l.length
    · have hjl' : (j : Int) < (l.length : Int) := by omega
      have hj0 : (0 : Int) ≤ (j : Int) := by omega
      obtain ⟨x, hx⟩ : ∃ x, l[j]? = some x := ⟨_, List.getElem?_eq_getElem hjl⟩
      obtain ⟨ad, b, o, cs, rfl, had, hb, hK, hcs⟩ := C_at HC.out hx (by decide)
      have hsc := Lib.hid (bestM_succ hx)
      generalize bestM (l.take j) = M at *
      obtain ⟨xk, ⟨xp, xl, xn⟩, xd⟩ := x
      obtain rfl := k43_open hK
      dsimp only at hcs
      have hBw := S4.base
      have c0 := (hBw.cell (p := ⟨b, o, none⟩) hb).trans (hcs 0 _ rfl)
      have c1 := (hBw.cell (p := ⟨b, o + 1, none⟩) hb).trans (hcs 1 _ rfl)
      have c2 := (hBw.cell (p := ⟨b, o + 2, none⟩) hb).trans (hcs 2 _ rfl)
      have c3 := (hBw.cell (p := ⟨b, o + 3, none⟩) hb).trans (hcs 3 _ rfl)
      have c4 := (hBw.cell (p := ⟨b, o + 4, none⟩) hb).trans (hcs 4 _ rfl)
      have had' : ad.add (j * 5) = ⟨b, o, none⟩ := had
      have HI := Lib.hid (And.intro hj hjm)
      have H4 := Lib.hid S4
      clear hK hcs had hx hBw hj hjm S4
      go_upto_region 5 with fail
      have S5 := H4.out.new' #[.string xk, .int .u64 xp, .int .u32 xl, .int .u8 xn, .int .u8 xd] 43 wr.heap.size rfl
      obtain ⟨z, hz⟩ : ∃ z, wr.heap.size = z := ⟨_, rfl⟩
      rw [hz] at S5 ⊢
      clear hz
      generalize World.alloc wr _ = w4 at *
      have d0 : w4.cell? ⟨z, 0, none⟩ = some (.string xk) := S5.cell 1 rfl 0
      clear c0 c1 c2 c3 c4 had'
      cases hm : mget M xk with
      | none =>
        have hlk := (S5.get 0 rfl : MapAt w4 mb Value.string ev43 M).run_lookup true Try.underlying45 keys9 xk _ zero43
        rw [hm] at hlk
        simp only [if_true] at hlk
        have hlk' : (Instr.lookup 45 (.map (some mb)) (.string xk) true).run Try.prog w4 = .ok (.tuple #[.agg #[.string ⟨#[]⟩, .int .u64 0, .int .u32 0, .int .u8 0, .int .u8 0], .bool false]) w4 := hlk
        have HM := Lib.hid hm
        have H5 := Lib.hid S5
        clear S5 hlk hm H4
        go_upto_region 7 with fail
        clear hlk' d0
        have S6 := H5.out.alloc (.cells #[.string ⟨#[]⟩, .int .u64 0, .int .u32 0, .int .u8 0, .int .u8 0] 43)
        generalize World.alloc w4 _ = w6 at *
        have d0 : w6.cell? ⟨z, 0, none⟩ = some (.string xk) := S6.cell 1 rfl 0
        have d1 : w6.cell? ⟨z, 1, none⟩ = some (.int .u64 xp) := S6.cell 1 rfl 1
        have d2 : w6.cell? ⟨z, 2, none⟩ = some (.int .u32 xl) := S6.cell 1 rfl 2
        have d3 : w6.cell? ⟨z, 3, none⟩ = some (.int .u8 xn) := S6.cell 1 rfl 3
        have d4 : w6.cell? ⟨z, 4, none⟩ = some (.int .u8 xd) := S6.cell 1 rfl 4
        have H6 := Lib.hid S6
        clear S6 H5
        go_wp2_with (at_mapUpdate; refine wpList_mapUpdate rfl 45 9 43 _ _ _ rfl Try.underlying45 keys9 ev43 mb _ (H6.out.get 0 rfl) xk ⟨xk, ⟨xp, xl, xn⟩, xd⟩ rfl rfl rfl ?_; intro w9 M9 m9)
        have S7 := H6.out.upd 0 rfl m9 (a' := mapA mb Value.string ev43 (mput M xk ⟨xk, ⟨xp, xl, xn⟩, xd⟩)) M9 (fun k h => .inl h)
        have H7 := Lib.hid (S7.drop 1)
        clear S7 M9 m9 H6 d0 d1 d2 d3 d4
        go_roundg (l.length - j)
        case measure => have := HI.out; omega
        case rel =>
          have := HI.out
          have e : bestM (l.take (j + 1)) = mput M xk ⟨xk, ⟨xp, xl, xn⟩, xd⟩ := by
            rw [hsc.out]
            unfold bestS
            simp only [HM.out]
          exact ⟨j + 1, by go_num, by omega, by omega, by rw [e]; exact H7.out⟩
      | some was =>
        have hlk := (S5.get 0 rfl : MapAt w4 mb Value.string ev43 M).run_lookup true Try.underlying45 keys9 xk _ zero43
        rw [hm] at hlk
        simp only [if_true] at hlk
        have HM := Lib.hid hm
        obtain ⟨ak, ⟨ap, al, an⟩, ad'⟩ := was
        have hlk' : (Instr.lookup 45 (.map (some mb)) (.string xk) true).run Try.prog w4 = .ok (.tuple #[.agg #[.string ak, .int .u64 ap, .int .u32 al, .int .u8 an, .int .u8 ad'], .bool true]) w4 := hlk
        have H5 := Lib.hid S5
        clear S5 hlk hm H4
        go_upto_region 6 with fail
        clear hlk' d0
        have S6 := H5.out.new' #[.string ak, .int .u64 ap, .int .u32 al, .int .u8 an, .int .u8 ad'] 43 w4.heap.size rfl
        obtain ⟨y, hy⟩ : ∃ y, w4.heap.size = y := ⟨_, rfl⟩
        rw [hy] at S6 ⊢
        clear hy
        generalize World.alloc w4 _ = w6 at *
        have d0 : w6.cell? ⟨z, 0, none⟩ = some (.string xk) := S6.cell 1 rfl 0
        have d1 : w6.cell? ⟨z, 1, none⟩ = some (.int .u64 xp) := S6.cell 1 rfl 1
        have d2 : w6.cell? ⟨z, 2, none⟩ = some (.int .u32 xl) := S6.cell 1 rfl 2
        have d3 : w6.cell? ⟨z, 3, none⟩ = some (.int .u8 xn) := S6.cell 1 rfl 3
        have d4 : w6.cell? ⟨z, 4, none⟩ = some (.int .u8 xd) := S6.cell 1 rfl 4
        have y0 : w6.cell? ⟨y, 0, none⟩ = some (.string ak) := S6.cell 2 rfl 0
        have y1 : w6.cell? ⟨y, 1, none⟩ = some (.int .u64 ap) := S6.cell 2 rfl 1
        have y2 : w6.cell? ⟨y, 2, none⟩ = some (.int .u32 al) := S6.cell 2 rfl 2
        have y3 : w6.cell? ⟨y, 3, none⟩ = some (.int .u8 an) := S6.cell 2 rfl 3
        have y4 : w6.cell? ⟨y, 4, none⟩ = some (.int .u8 ad') := S6.cell 2 rfl 4
        have H6 := Lib.hid S6
        clear S6 H5
        go_wp2_with fail
        refine (HB.out ⟨ak, ⟨ap, al, an⟩, ad'⟩ ⟨xk, ⟨xp, xl, xn⟩, xd⟩ w6).mono ?_
        rintro e w7 ⟨rfl, b7⟩
        have S7 := H6.out.below b7
        have H7 := Lib.hid S7
        clear b7 H6 d0 d1 d2 d3 d4 y0 y1 y2 y3 y4
        have d0 : w7.cell? ⟨z, 0, none⟩ = some (.string xk) := S7.cell 1 rfl 0
        have d1 : w7.cell? ⟨z, 1, none⟩ = some (.int .u64 xp) := S7.cell 1 rfl 1
        have d2 : w7.cell? ⟨z, 2, none⟩ = some (.int .u32 xl) := S7.cell 1 rfl 2
        have d3 : w7.cell? ⟨z, 3, none⟩ = some (.int .u8 xn) := S7.cell 1 rfl 3
        have d4 : w7.cell? ⟨z, 4, none⟩ = some (.int .u8 xd) := S7.cell 1 rfl 4
        clear S7
        by_cases hlt : ltS ⟨ak, ⟨ap, al, an⟩, ad'⟩ ⟨xk, ⟨xp, xl, xn⟩, xd⟩
        · rw [decide_eq_true hlt]
          have HLT := Lib.hid hlt
          clear hlt
          go_wp2_with (at_mapUpdate; refine wpList_mapUpdate rfl 45 9 43 _ _ _ rfl Try.underlying45 keys9 ev43 mb _ (H7.out.get 0 rfl) xk ⟨xk, ⟨xp, xl, xn⟩, xd⟩ rfl rfl rfl ?_; intro w9 M9 m9)
          have S8 := H7.out.upd 0 rfl m9 (a' := mapA mb Value.string ev43 (mput M xk ⟨xk, ⟨xp, xl, xn⟩, xd⟩)) M9 (fun k h => .inl h)
          have H8 := Lib.hid (S8.sub (M := [mapA mb Value.string ev43 (mput M xk ⟨xk, ⟨xp, xl, xn⟩, xd⟩)]) (by simp))
          clear S8 M9 m9 H7 d0 d1 d2 d3 d4
          go_roundg (l.length - j)
          case measure => have := HI.out; omega
          case rel =>
            have := HI.out
            have e : bestM (l.take (j + 1)) = mput M xk ⟨xk, ⟨xp, xl, xn⟩, xd⟩ := by
              rw [hsc.out]
              unfold bestS
              simp only [HM.out]
              rw [if_pos HLT.out]
            exact ⟨j + 1, by go_num, by omega, by omega, by rw [e]; exact H8.out⟩
        · rw [decide_eq_false hlt]
          have HLT := Lib.hid hlt
          have H8 := Lib.hid (H7.out.sub (M := [mapA mb Value.string ev43 M]) (by simp))
          clear hlt H7 d0 d1 d2 d3 d4
          go_wp2_with fail
          go_roundg (l.length - j)
          case measure => have := HI.out; omega
          case rel =>
            have := HI.out
            have e : bestM (l.take (j + 1)) = M := by
              rw [hsc.out]
              unfold bestS
              simp only [HM.out]
              rw [if_neg HLT.out]
            exact ⟨j + 1, by go_num, by omega, by omega, by rw [e]; exact H8.out⟩
    · have hjl' : ¬ (j : Int) < (l.length : Int) := by omega
      have ej : j = l.length := by omega
      subst ej
      rw [List.take_length] at S4
      have H4 := Lib.hid S4
      clear S4 hj hjm
      go_wp2_with fail
      go_ret
      exact ⟨_, rfl, H4.out⟩
end Go.Proofs.Ytepceielndmjgaa
