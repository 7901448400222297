/- make of a full row; a row copied over a row of its length. -/
import Derived.Test.YtkfofcgonkkdaaaStApp
import Derived.Laws.CopyRow
namespace Go.Tat
open Go.RowKit Go.Proofs.YtkfofcgonkkdaaaW.PrintWords
section
variable {α : Type} {d : Kd α} {enc : α → List Value}
theorem made_rep (F : Flat d enc) (z : α) (zc : Array Value) (hz : zc.toList = enc z) (n : Nat) : (madeCells zc (n * d.sz)).toList = (List.replicate n z).flatMap enc := by
  have hl := flat_len F.len (List.replicate n z)
  rw [List.length_replicate] at hl
  have hzs : zc.size = d.sz := by rw [← Array.length_toList, hz, F.len]
  apply List.ext_getElem?
  intro j
  by_cases hj : j < n * d.sz
  · have hp : 0 < d.sz := Nat.pos_of_ne_zero fun e => by rw [e] at hj; omega
    have hq : j / d.sz < n := Nat.div_lt_of_lt_mul (by rw [Nat.mul_comm]; exact hj)
    have hr := Nat.mod_lt j hp
    have hd : (j / d.sz) * d.sz + j % d.sz = j := by rw [Nat.mul_comm]; exact Nat.div_add_mod j d.sz
    have h1 := flat_get F.len (List.replicate n z) (j / d.sz) (j % d.sz) z (by rw [List.getElem?_replicate, if_pos hq]) hr
    rw [hd] at h1
    rw [h1, ← hz, Array.getElem?_toList, Array.getElem?_toList]
    unfold madeCells
    rw [Array.getElem?_map, Array.getElem?_range, if_pos hj, Option.map_some, hzs]
    have : j % d.sz < zc.size := by rw [hzs]; exact hr
    rw [Array.getElem?_eq_getElem this, getElem!_pos zc _ this]
  · rw [List.getElem?_eq_none (by rw [Array.length_toList, size_madeCells]; omega), List.getElem?_eq_none (by rw [hl]; omega)]
theorem C_flat (F : Flat d enc) {w : World} {ad : Addr} {ys : List α} (h : d.C w (some ad) ys.length ys) (hp : 0 < d.sz) (j : Nat) (v : Value) (hj : (ys.flatMap enc)[j]? = some v) : w.cell? (ad.add j) = some v := by
  have hlt := (List.getElem?_eq_some_iff.1 hj).1
  rw [flat_len F.len] at hlt
  have hq : j / d.sz < ys.length := Nat.div_lt_of_lt_mul (by rw [Nat.mul_comm]; exact hlt)
  have hr := Nat.mod_lt j hp
  have hd : (j / d.sz) * d.sz + j % d.sz = j := by rw [Nat.mul_comm]; exact Nat.div_add_mod j d.sz
  have h1 := flat_get F.len ys (j / d.sz) (j % d.sz) _ (List.getElem?_eq_getElem hq) hr
  rw [hd, hj] at h1
  obtain ⟨ad', e, h2⟩ := h.2.2 (Nat.lt_of_le_of_lt (Nat.zero_le _) hq)
  injection e with e
  subst e
  obtain ⟨cs, _, hK, hcs⟩ := h2 (j / d.sz) _ (List.getElem?_eq_getElem hq)
  have hK' := F.K.1 hK
  subst hK'
  have := hcs (j % d.sz) v h1.symm
  rw [hd] at this
  exact this
variable {P : Program} {ops : Array Oper} {rest : List Oper} {o : Oper} {a : Act} {Q : Exit → Act → World → Prop} {Fp : Nat → Prop} {w0 W : World} {L : List Asr}
theorem St.wpMake (F : Flat d enc) (hgd : o.guard = none) (l c : Operand) (t e : TypeId) (hop : o.op = Op.makeSlice t l c) (ht : P.underlying t = some (.slice e)) (z : α) (zv : Value) (bytes : Nat)
    (hinfo : (P.info? e).map (fun i => (i.zero, i.size, i.bytes)) = some (some zv, d.sz, bytes)) (hzv : zv.cells.toList = enc z) (n : Nat) (X Y : Int) (hl : a.eval l = .int .i64 X) (hc : a.eval c = .int .i64 Y) (hX : X = (n : Int)) (hY : Y = (n : Int)) (hb : bytes * n ≤ 281474976710656) (hn : n ≤ maxLen)
    (H : St Fp w0 W L) (h : ∀ (T : List α) b w1, Hid (T = List.replicate n z ∧ T.length = n ∧ St Fp w0 w1 (L ++ [slc d e (.slice (some ⟨b, 0, none⟩) n n) T])) → wpList P ops Q rest (a.put o.dst (.slice (some ⟨b, 0, none⟩) n n)) w1) :
    wpList P ops Q (o :: rest) a W := by
  refine wpList_plain hgd fun K hK => ?_
  subst hX; subst hY
  cases hq : P.info? e with
  | none => rw [hq] at hinfo; cases hinfo
  | some i =>
    rw [hq] at hinfo
    injection hinfo with hinfo
    injection hinfo with h1 h2
    injection h2 with h2 h3
    have hn' : (n : Int) ≤ 9223372036854775807 := by simp [maxLen] at hn; omega
    have hb' : (i.bytes : Int) * (n : Int) ≤ 281474976710656 := by
      have h : ((i.bytes * n : Nat) : Int) ≤ 281474976710656 := by rw [h3]; omega
      rwa [Int.natCast_mul] at h
    have hr := run_make (P := P) W t e i zv ht hq h1 .i64 .i64 n n (by omega) (Int.le_refl _) hb' hn'
    simp only [Int.toNat_natCast] at hr
    unfold Oper.wp
    simp [execOp, hop, hl, hc, hr, Result.andThen]
    refine hK _ _ (h (List.replicate n z) W.heap.size _ (Lib.hid ⟨rfl, List.length_replicate, ?_⟩))
    refine H.add ((Below.refl _ _).alloc (Nat.le_refl _) _) ((slc_iff F).2 (.inr ⟨W.heap.size, n, [], by rw [List.length_replicate], ⟨_, heap_alloc_new W _, ?_⟩, by simp, hn, by simp⟩)) (fun k hk => ?_)
    · rw [h2, made_rep F z zv.cells hzv, List.append_nil]
    · have e : W.heap.size = k := by simpa [slcF, Value.ownBlock] using hk
      omega
theorem St.wpCopy (F : Flat d enc) (hgd : o.guard = none) (s x : Operand) (dT sT e : TypeId) (ho : o.op = .call { callee := .builtin .copy, args := #[s, x], argTypes := #[dT, sT] }) (hu : P.underlying dT = some (.slice e)) (hsz : (P.info? e).map (·.size) = some d.sz) (hp : 0 < d.sz)
    (H : St Fp w0 W L) (i : Nat) {g n cap : Nat} {xs : List α} (hi : L[i]? = some (slc d e (.slice (some ⟨g, 0, none⟩) n cap) xs)) (ys : List α) (S : Option Addr) (c : Nat) (hs : a.eval s = .slice (some ⟨g, 0, none⟩) n cap) (hx : a.eval x = .slice S ys.length c) (HR : d.C W S ys.length ys) (hlen : ys.length = xs.length)
    (h : ∀ w1, Hid (St Fp w0 w1 (L.set i (slc d e (.slice (some ⟨g, 0, none⟩) n cap) ys))) → wpList P ops Q rest (a.put o.dst (.int .i64 (ys.length : Int))) w1) :
    wpList P ops Q (o :: rest) a W := by
  refine wpList_plain hgd fun K hK => ?_
  obtain ⟨ex, hR, hnl, h1, h2, h3⟩ : ∃ ex, Row W g e enc xs ex ∧ n = xs.length ∧ xs.length ≤ cap ∧ cap ≤ maxLen ∧ ex.length = (cap - xs.length) * d.sz := by
    rcases (slc_iff F).1 (H.get i hi) with ⟨hv, _⟩ | ⟨g', cp, ex, hv, hR, h1, h2, h3⟩
    · injection hv with h1; cases h1
    · injection hv with a1 a2 a3
      injection a1 with a1
      injection a1 with a1
      subst a1; subst a2; subst a3
      exact ⟨ex, hR, rfl, h1, h2, h3⟩
  subst hnl
  obtain ⟨cur, hg, hcu⟩ := hR.rep
  have hfy := flat_len F.len ys
  have hfx := flat_len F.len xs
  have hcl : cur.size = xs.length * d.sz + (cap - xs.length) * d.sz := by rw [← Array.length_toList, hcu, List.length_append, hfx, h3]
  have h1c : ∀ v ∈ ys.flatMap enc, v.oneCell' = true := fun v hv => by
    obtain ⟨y, _, hy⟩ := List.mem_flatMap.1 hv
    exact F.one y v hy
  have hst := _root_.Go.run_storeCells_at P g 0 e (ys.flatMap enc) 0 cur W hg (by rw [hfy, hlen, hcl]; omega) h1c
  have hin : ∀ w1 : World, w1.heap[g]? = some (.cells (ys.flatMap enc ++ ex).toArray e (0, 0)) → (slc d e (.slice (some ⟨g, 0, none⟩) xs.length cap) ys).holds w1 := fun w1 hw =>
    (slc_iff F).2 (.inr ⟨g, cap, ex, by rw [hlen], ⟨_, hw, rfl⟩, by omega, h2, by rw [hlen]; exact h3⟩)
  cases hq : P.info? e with
  | none => simp [hq] at hsz
  | some inf =>
    have hi' : inf.size = d.sz := by simpa [hq] using hsz
    have hld : (Builtin.firstCells inf.size ys.length (.slice S ys.length c)).run P W = .ok (ys.flatMap enc).toArray W := by
      rcases Nat.eq_zero_or_pos ys.length with h0 | h0
      · obtain rfl := List.eq_nil_of_length_eq_zero h0
        cases S with
        | none => simp [Builtin.firstCells]
        | some ad =>
          have := run_loadCells_list (P := P) W ad [] (by simp)
          simpa [Builtin.firstCells] using this
      · obtain ⟨ad, rfl, _⟩ := HR.2.2 h0
        have := run_loadCells_list (P := P) W ad (ys.flatMap enc) (C_flat F HR hp)
        rw [hfy] at this
        simpa [Builtin.firstCells, hi'] using this
    have hmin : Nat.min ys.length xs.length = ys.length := by rw [hlen]; exact Nat.min_self _
    have hrun : (Builtin.copy_ #[dT, sT] o.type #[.slice (some ⟨g, 0, none⟩) xs.length cap, .slice S ys.length c]).run P W = .ok (goInt ys.length) (W.setRow g (ys.flatMap enc ++ ex).toArray) := by
      simp [Builtin.copy_, run_underlying hu, Builtin.lenOf, sizeOf, typeInfo, hq, hmin, hld]
      rw [hst]
      simp only [Result.andThen_ok, Sem.run_pure]
      congr 2
      rw [hcu, hfy, hlen, ← hfx]
      simp
    unfold Oper.wp
    simp [execOp, ho, resolve, invoke, builtin, hs, hx, hrun, Result.andThen]
    refine hK _ _ (h _ (Lib.hid (H.upd i hi ⟨rfl, rfl, rfl, by simp [World.setRow], fun k hk hne => setRow_other W g k _ (by simpa [slcF, Value.ownBlock, eq_comm] using hne)⟩ (hin _ (setRow_heap W g cur _ e _ hg)) (fun k hk => .inl hk))))
end
end Go.Tat
