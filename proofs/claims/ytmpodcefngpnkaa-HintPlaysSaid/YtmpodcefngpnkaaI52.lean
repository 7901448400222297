/- slices.Insert of one element, at a flat struct. (filled by mkins.py: TS slice type, TE element type, AL KD ENC kinds, SZ cells, BY bytes, ZV zero, INS Insert, OVL overlaps) -/
import Derived.Test.YtmpodcefngpnkaaHE
import Derived.Test.YtmpodcefngpnkaaLib
import Derived.Laws.CopyRow
import Derived.Lib.AppendZerosOnto
import Derived.Lib.AppendZeros
import Derived.Lib.Overlaps
import Derived.Shelf.Spec.SlicesInsert
import Derived.Deep.RegionLaw
set_option linter.unusedVariables false
set_option linter.unusedSimpArgs false
namespace Go.Proofs.Ytmpodcefngpnkaa.I52
open Go.RowKit Go.Tat Go.Proofs.YtmpodcefngpnkaaW.PrintWords Go.Proofs.Ytmpodcefngpnkaa Go.Proofs.Ytmpodcefngpnkaa.PHintPlays
theorem run_copy_sz {P : Program} (w : World) (dT sT ty elem : TypeId) (g o dLen dCap : Nat) (a : Addr) (sLen sCap : Nat) (cur : Array Value) (t : TypeId) (cs : List Value) (sz : Nat)
    (hu : P.underlying dT = some (.slice elem)) (hs : (P.info? elem).map (·.size) = some sz)
    (hg : w.heap[g]? = some (.cells cur t (0, 0))) (k : Nat) (hk : Nat.min sLen dLen = k) (hn : cs.length = k * sz)
    (hsrc : ∀ j v, cs[j]? = some v → w.cell? (a.add j) = some v) (hfit : o + cs.length ≤ cur.size) (h1 : ∀ v ∈ cs, v.oneCell' = true) :
    (Builtin.copy_ #[dT, sT] ty #[.slice (some ⟨g, o, none⟩) dLen dCap, .slice (some a) sLen sCap]).run P w =
      .ok (goInt k) (w.setRow g (cur.toList.take o ++ cs ++ cur.toList.drop (o + cs.length)).toArray) := by
  have hl := run_loadCells_list (P := P) w a cs hsrc
  have hst := _root_.Go.run_storeCells_at P g o t cs 0 cur w hg (by simpa using hfit) h1
  rw [hn] at hl
  cases hq : P.info? elem with
  | none => simp [hq] at hs
  | some i =>
    have hi : i.size = sz := by simpa [hq] using hs
    simp [Builtin.copy_, run_underlying hu, Builtin.lenOf, Builtin.firstCells, sizeOf, typeInfo, hq, hi, hk, hl, hst]
def insPost (v : Value) (w : World) (l : List S52) (e : Ending) (w' : World) : Prop := ∃ v', e = .returned v' ∧ (slc k52 52 v' l).holds w' ∧ Mod (fun k => v.ownBlock = some k) w w' ∧ ∀ k, v'.ownBlock = some k → v.ownBlock = some k ∨ w.heap.size ≤ k
theorem infoI : (Try.prog.info? 52).map (fun i => (i.zero, i.size, i.bytes)) = some (some (.agg #[.string ⟨#[]⟩, .int .u64 0, .int .u32 0, .int .u8 0, .int .u8 0, .int .u32 0, .int .u64 0, .string ⟨#[]⟩, .int .u64 0]), 9, 72) := by kernel_rfl
theorem sizeI : (Try.prog.info? 52).map (·.size) = some 9 := by kernel_rfl
theorem own_slice (A : Option Addr) (n c k : Nat) : A.map (·.block) = some k ↔ (Value.slice A n c).ownBlock = some k := by cases A <;> simp [Value.ownBlock]
set_option maxRecDepth 100000 in
set_option maxHeartbeats 4000000 in
/-- At the end. -/
theorem insert_end (fl : Flat k52 eHn) (xs : List S52) (x : S52) (v : Value) (w : World) (hS : (slc k52 52 v xs).holds w) (vb : Nat) (hV : w.heap[vb]? = some (.cells (eHn x).toArray 52 (0, 0))) (hl : xs.length ≤ 1000000) :
    Calls Try.prog 31 #[v, .int .i64 (xs.length : Int), .slice (some ⟨vb, 0, none⟩) 1 1] w (insPost v w (xs ++ [x])) := by
  obtain ⟨A, c, hv⟩ := Kd.R_slice hS.1
  have HA := Lib.hid (show ∀ k, A.map (·.block) = some k ↔ v.ownBlock = some k from fun k => by rw [hv]; exact own_slice A _ _ k)
  obtain ⟨Q, hQ⟩ : ∃ Q, insPost v w (xs ++ [x]) = Q := ⟨_, rfl⟩
  rw [hQ]
  have HQ := Lib.hid hQ
  clear hQ
  subst hv
  have HS := Lib.hid (slc_R hS)
  have hcv := Kd.R_reads' hS.1
  have hnc : (xs.length : Int) ≤ (c : Int) := by have := hcv.2.1; omega
  have HC := Lib.hid (Kd.R_reads' (slc_lit fl [x] (eHn x).toArray (by simp) hV (by simp [maxLen])).1).2.2
  have HL := Lib.hid (show (xs.length + [x].length) * 72 ≤ 140737488355328 by simp only [List.length_singleton]; omega)
  clear hS hV hcv
  go_enter Try.func31, Try.ntmps31
  go_wp2_with (at_builtin; go_loud (refine wpList_appN fl rfl _ _ 49 52 (.agg #[.string ⟨#[]⟩, .int .u64 0, .int .u32 0, .int .u8 0, .int .u8 0, .int .u32 0, .int .u64 0, .string ⟨#[]⟩, .int .u64 0]) 72 rfl Try.underlying49 infoI rfl (by decide) (by decide) (.slice A xs.length c) xs [x] (some ⟨vb, 0, none⟩) 1 _ rfl rfl HS.out HC.out HL.out ?_))
  all_goals
    intro T A9 c9 w9 hT hR m ho
    have H := Lib.hid (And.intro hT (And.intro hR (And.intro (m.mono fun k _ hk => (own_slice A _ _ k).2 hk) (fun k hk => (ho k hk).imp (own_slice A _ _ k).2 id))))
    clear hT hR m ho
    go_wp2_with fail
    obtain ⟨hT, hR, m, ho⟩ := H.out
    subst hT
    rw [← HQ.out]
    exact ⟨_, rfl, slc_of hR fl.E, m.mono fun k _ hk => (HA.out k).1 hk, fun k hk => (ho k hk).imp (HA.out k).1 id⟩
theorem flatL (fl : Flat k52 eHn) (xs : List S52) : (xs.flatMap eHn).length = xs.length * 9 := flat_len fl.len xs
theorem oneL (fl : Flat k52 eHn) (xs : List S52) : ∀ v ∈ xs.flatMap eHn, v.oneCell' = true := fun v hv => by
  obtain ⟨y, _, hy⟩ := List.mem_flatMap.1 hv
  exact fl.one y v hy
theorem flat_split (xs : List S52) (i : Nat) : xs.flatMap eHn = (xs.take i).flatMap eHn ++ (xs.drop i).flatMap eHn := by
  rw [← List.flatMap_append, List.take_append_drop]
set_option maxRecDepth 100000 in
set_option maxHeartbeats 4000000 in
/-- In the midst, where there is room. -/
theorem insert_room (fl : Flat k52 eHn) (xs : List S52) (x : S52) (i : Nat) (hi : i < xs.length) (g c : Nat) (ex : List Value) (w : World) (hR : Row w g 52 eHn xs ex) (hc : xs.length + 1 ≤ c) (hm : c ≤ maxLen) (hex : ex.length = (c - xs.length) * 9) (vb : Nat) (hV : w.heap[vb]? = some (.cells (eHn x).toArray 52 (0, 0))) (hne : vb ≠ g) (hl : xs.length ≤ 1000000) :
    Calls Try.prog 31 #[.slice (some ⟨g, 0, none⟩) xs.length c, .int .i64 (i : Int), .slice (some ⟨vb, 0, none⟩) 1 1] w (insPost (.slice (some ⟨g, 0, none⟩) xs.length c) w (xs.take i ++ x :: xs.drop i)) := by
  obtain ⟨cur, hg, hcu⟩ := hR.rep
  obtain ⟨n, hn⟩ : ∃ n, xs.length = n := ⟨_, rfl⟩
  have hE : (eHn x).length = 9 := fl.len x
  have hcl : cur.size = c * 9 := by rw [← Array.length_toList, hcu, List.length_append, flatL fl, hex, hn]; omega
  have hfx := flatL fl (xs.take i)
  have hfd := flatL fl (xs.drop i)
  rw [List.length_take] at hfx
  rw [List.length_drop] at hfd
  have hsp := flat_split xs i
  obtain ⟨P1, hP1⟩ : ∃ P1, (xs.take i).flatMap eHn = P1 := ⟨_, rfl⟩
  obtain ⟨D1, hD1⟩ : ∃ D1, (xs.drop i).flatMap eHn = D1 := ⟨_, rfl⟩
  rw [hP1] at hsp hfx
  rw [hD1] at hsp hfd
  rw [hsp] at hcu
  have hoD : ∀ v ∈ D1, v.oneCell' = true := hD1 ▸ oneL fl _
  have hoE : ∀ v ∈ eHn x, v.oneCell' = true := fl.one x
  have hov : ∀ lb cb, (callFunc 52 #[.slice (some ⟨vb, 0, none⟩) 1 1, .slice (some ⟨g, (i + 1) * 9, none⟩) lb cb]).run Try.prog w = .ok (.value (.bool false)) w := fun lb cb => by
    rw [run_callFunc_extern Try.func52 (by kernel_rfl) (by kernel_rfl) (by kernel_rfl) (e := Extern.SlicesOverlaps.overlaps #[49, 49] #[4]) (by kernel_rfl),
      Lib.run_overlaps_apart w 49 4 52 Try.underlying49 9 Try.sizeOf52 ⟨vb, 0, none⟩ ⟨g, (i + 1) * 9, none⟩ 1 1 lb cb hne 52 52 9 cur.size (by simp [World.shape?, hV, hE]) (by simp [World.shape?, hg]) (by rw [hcl]; omega) (blk_frozen hV 0) (blk_frozen hV _)]
    rfl
  have hC1 : Array.toList cur = P1 ++ D1 ++ ex := hcu
  have hcp1 : ∀ ty dc sc, (Builtin.copy_ #[49, 49] ty #[.slice (some ⟨g, (i + 1) * 9, none⟩) (n - i) dc, .slice (some ⟨g, i * 9, none⟩) (n + 1 - i) sc]).run Try.prog w.drew = .ok (goInt (n - i : Nat)) (w.drew.setRow g (cur.toList.take ((i + 1) * 9) ++ D1 ++ cur.toList.drop ((i + 1) * 9 + D1.length)).toArray) := fun ty dc sc =>
    run_copy_sz w.drew 49 49 ty 52 g ((i + 1) * 9) (n - i) dc ⟨g, i * 9, none⟩ (n + 1 - i) sc cur 52 D1 9 Try.underlying49 sizeI hg (n - i) (by simp only [Nat.min_def]; split <;> omega) (by rw [hfd, hn]) (fun j v hj => by
      have hb : w.drew.cell? ⟨g, i * 9 + j, none⟩ = cur[i * 9 + j]? := blk_cell (w := w.drew) hg _
      have hlj := (List.getElem?_eq_some_iff.1 hj).1
      rw [Addr.add_lit, hb, ← Array.getElem?_toList, hC1, List.append_assoc, List.getElem?_append_right (by rw [hfx]; omega), List.getElem?_append_left (by rw [hfx]; omega), ← hj]
      congr 1
      rw [hfx]; omega) (by rw [hfd, hcl]; omega) hoD
  have hR1 : cur.toList.take ((i + 1) * 9) ++ D1 ++ cur.toList.drop ((i + 1) * 9 + D1.length) = P1 ++ (cur.toList.drop (i * 9)).take 9 ++ D1 ++ ex.drop 9 := by
    have e1 : cur.toList.take ((i + 1) * 9) = P1 ++ (cur.toList.drop (i * 9)).take 9 := by
      rw [show (i + 1) * 9 = i * 9 + 9 by omega, List.take_add]
      congr 1
      rw [hC1, List.append_assoc, List.take_left' (by rw [hfx]; omega)]
    have e2 : cur.toList.drop ((i + 1) * 9 + D1.length) = ex.drop 9 := by
      rw [hC1, show (i + 1) * 9 + D1.length = (P1 ++ D1).length + 9 by rw [List.length_append, hfx]; omega, ← List.drop_drop, List.drop_left]
    rw [e1, e2]
  rw [hR1] at hcp1
  have hmid : ((cur.toList.drop (i * 9)).take 9).length = 9 := by rw [List.length_take, List.length_drop, Array.length_toList, hcl]; omega
  generalize (cur.toList.drop (i * 9)).take 9 = M1 at hcp1 hmid
  obtain ⟨W1, hW1⟩ : ∃ W1, W1 = w.drew.setRow g (P1 ++ M1 ++ D1 ++ ex.drop 9).toArray := ⟨_, rfl⟩
  rw [← hW1] at hcp1
  have hg1 : W1.heap[g]? = some (.cells (P1 ++ M1 ++ D1 ++ ex.drop 9).toArray 52 (0, 0)) := by rw [hW1]; exact setRow_heap w.drew g cur _ 52 _ hg
  have hv1 : W1.heap[vb]? = some (.cells (eHn x).toArray 52 (0, 0)) := by rw [hW1, setRow_other w.drew g vb _ hne]; exact hV
  have hcp2 : ∀ ty dc, (Builtin.copy_ #[49, 49] ty #[.slice (some ⟨g, i * 9, none⟩) (n + 1 - i) dc, .slice (some ⟨vb, 0, none⟩) 1 1]).run Try.prog W1 = .ok (goInt (1 : Nat)) (W1.setRow g (P1 ++ eHn x ++ D1 ++ ex.drop 9).toArray) := fun ty dc => by
    have h := run_copy_sz W1 49 49 ty 52 g (i * 9) (n + 1 - i) dc ⟨vb, 0, none⟩ 1 1 _ 52 (eHn x) 9 Try.underlying49 sizeI hg1 1 (by simp only [Nat.min_def]; split <;> omega) (by rw [hE]) (fun j v hj => by
      rw [Addr.add_lit, Nat.zero_add, blk_cell hv1, List.getElem?_toArray]; exact hj) (by rw [hE]; simp; omega) hoE
    rw [h]
    congr 3
    have hP : P1.length = i * 9 := by rw [hfx]; omega
    simp only [List.append_assoc, List.toList_toArray]
    rw [List.take_left' hP, hE, show i * 9 + 9 = P1.length + M1.length by omega, ← List.drop_drop, List.drop_left, List.drop_left]
  have hMod : Mod (fun k => (Value.slice (some ⟨g, 0, none⟩) n c).ownBlock = some k) w (W1.setRow g (P1 ++ eHn x ++ D1 ++ ex.drop 9).toArray) := by
    rw [hW1, setRow_setRow]
    exact ⟨rfl, rfl, rfl, by simp [World.setRow], fun k hk hne' => setRow_other w.drew g k _ (by simpa [Value.ownBlock, eq_comm] using hne')⟩
  have hEnd : (slc k52 52 (.slice (some ⟨g, 0, none⟩) (n + 1) c) (xs.take i ++ x :: xs.drop i)).holds (W1.setRow g (P1 ++ eHn x ++ D1 ++ ex.drop 9).toArray) := by
    have hln : (xs.take i ++ x :: xs.drop i).length = n + 1 := by rw [List.length_append, List.length_cons, List.length_take, List.length_drop, hn]; omega
    refine (slc_iff fl).2 (.inr ⟨g, c, ex.drop 9, by rw [hln], ⟨_, setRow_heap W1 g _ _ 52 _ hg1, ?_⟩, by omega, hm, by rw [hln, List.length_drop, hex]; show _ = (c - (n + 1)) * 9; omega⟩)
    rw [List.flatMap_append, List.flatMap_cons, hP1, hD1]
    simp only [List.append_assoc]
  obtain ⟨Q, hQ⟩ : ∃ Q, insPost (.slice (some ⟨g, 0, none⟩) xs.length c) w (xs.take i ++ x :: xs.drop i) = Q := ⟨_, rfl⟩
  have HQ := Lib.hid (show Q (.returned (.slice (some ⟨g, 0, none⟩) (n + 1) c)) (W1.setRow g (P1 ++ eHn x ++ D1 ++ ex.drop 9).toArray) by
    rw [← hQ, hn]; exact ⟨_, rfl, hEnd, hMod, fun k hk => .inl hk⟩)
  rw [hQ, hn]
  rw [hn] at hi hc
  clear hEnd hMod hg1 hv1 hW1 hR1 hC1 hQ hcu hoD hoE hmid hfx hfd hE hP1 hD1 hsp hV hg hR hex hcl hm
  rw [hn] at hl
  clear hn
  have hi1 : (i : Int) + 1 ≤ (n : Int) := by omega
  have hi0 : (0 : Int) ≤ (i : Int) + 1 := by omega
  have hin : (i : Int) < (n : Int) := by omega
  have hz2 : ¬ ((i : Int) = (n : Int)) := by omega
  have hnc : ¬ (c : Int) < (n : Int) + 1 := by omega
  have hci : ¬ (c = i + 1) := by omega
  have hci0 : ¬ (c = i) := by omega
  have htn : ((i : Int) + 1).toNat = i + 1 := by omega
  have htn2 : ((n : Int) + 1).toNat = n + 1 := by omega
  have hb3 : (i : Int) ≤ (n : Int) + 1 := by omega
  have hile : i ≤ n := by omega
  have hile2 : i ≤ n + 1 := by omega
  have hw1 : IntKind.i64.wrap ((i : Int) + 1) = (i : Int) + 1 := by rw [IntKind.wrap_i64]; omega
  have hw2 : IntKind.i64.wrap ((n : Int) + 1) = (n : Int) + 1 := by rw [IntKind.wrap_i64]; omega
  go_enter Try.func31, Try.ntmps31
  go_wp2_with (simp only [hov])
  go_region_law (refine step_copy_runI rfl _ _ 49 49 rfl (.slice (some ⟨g, (i + 1) * 9, none⟩) (n - i) (c - (i + 1))) (.slice (some ⟨g, i * 9, none⟩) (n + 1 - i) (c - i)) (by simp [Act.eval, Act.put]) (by simp [Act.eval, Act.put]) (hcp1 _ _ _) ?_)
  go_wp2_with (refine wpList_copy_runI _ rfl _ _ 49 49 rfl (.slice (some ⟨g, i * 9, none⟩) (n + 1 - i) (c - i)) (.slice (some ⟨vb, 0, none⟩) 1 1) rfl rfl (hcp2 _ _) ?_)
  have h := HQ.out
  simp only [List.append_assoc] at h
  exact h
set_option maxRecDepth 100000 in
set_option maxHeartbeats 4000000 in
/-- In the midst, where there is no room: a new row. -/
theorem insert_grow (fl : Flat k52 eHn) (xs : List S52) (x : S52) (i : Nat) (hi : i < xs.length) (g : Nat) (ex : List Value) (w : World) (hR : Row w g 52 eHn xs ex) (vb : Nat) (hV : w.heap[vb]? = some (.cells (eHn x).toArray 52 (0, 0))) (hl : xs.length ≤ 1000000) :
    Calls Try.prog 31 #[.slice (some ⟨g, 0, none⟩) xs.length xs.length, .int .i64 (i : Int), .slice (some ⟨vb, 0, none⟩) 1 1] w (insPost (.slice (some ⟨g, 0, none⟩) xs.length xs.length) w (xs.take i ++ x :: xs.drop i)) := by
  obtain ⟨cur, hg, hcu⟩ := hR.rep
  obtain ⟨n, hn⟩ : ∃ n, xs.length = n := ⟨_, rfl⟩
  have hgl := hR.lt
  have hvl := (Array.getElem?_eq_some_iff.1 hV).1
  have hE : (eHn x).length = 9 := fl.len x
  have hfx := flatL fl (xs.take i)
  have hfd := flatL fl (xs.drop i)
  rw [List.length_take] at hfx
  rw [List.length_drop] at hfd
  have hsp := flat_split xs i
  obtain ⟨P1, hP1⟩ : ∃ P1, (xs.take i).flatMap eHn = P1 := ⟨_, rfl⟩
  obtain ⟨D1, hD1⟩ : ∃ D1, (xs.drop i).flatMap eHn = D1 := ⟨_, rfl⟩
  rw [hP1] at hsp hfx
  rw [hD1] at hsp hfd
  rw [hsp] at hcu
  have hoD : ∀ v ∈ D1, v.oneCell' = true := hD1 ▸ oneL fl _
  have hoE : ∀ v ∈ eHn x, v.oneCell' = true := fl.one x
  have hP : P1.length = i * 9 := by rw [hfx]; omega
  have hC1 : Array.toList cur = P1 ++ D1 ++ ex := hcu
  cases hq : Try.prog.info? 52 with
  | none => have := infoI; rw [hq] at this; cases this
  | some i0 =>
  have hinf := infoI
  rw [hq] at hinf
  injection hinf with hinf
  injection hinf with hz0 hinf
  injection hinf with hzs hzb
  have hkk : (n : Int) + 1 - (i : Int) = ((n + 1 - i : Nat) : Int) := by omega
  have hik : i + (n + 1 - i) = n + 1 := by omega
  have hold : (Builtin.firstCells i0.size i (.slice (some ⟨g, 0, none⟩) i n)).run Try.prog w.drew = .ok P1.toArray w.drew := by
    have h := run_loadCells_list (P := Try.prog) w.drew ⟨g, 0, none⟩ P1 (fun j v hj => by
      rw [Addr.add_lit, Nat.zero_add, show w.drew.cell? ⟨g, j, none⟩ = cur[j]? from blk_cell (w := w.drew) hg _, ← Array.getElem?_toList, hC1, List.append_assoc, List.getElem?_append_left (List.getElem?_eq_some_iff.1 hj).1]; exact hj)
    rw [hP] at h
    simpa [Builtin.firstCells, hzs] using h
  obtain ⟨G, hG⟩ : ∃ G, G = grownCap w (n + 1) n 52 := ⟨_, rfl⟩
  obtain ⟨Z1, hZ1⟩ : ∃ Z1, (Builtin.zeroCells (.agg #[.string ⟨#[]⟩, .int .u64 0, .int .u32 0, .int .u8 0, .int .u8 0, .int .u32 0, .int .u64 0, .string ⟨#[]⟩, .int .u64 0] : Value).cells (n + 1 - i)) = Z1 := ⟨_, rfl⟩
  obtain ⟨Z2, hZ2⟩ : ∃ Z2, (Builtin.zeroCells (.agg #[.string ⟨#[]⟩, .int .u64 0, .int .u32 0, .int .u8 0, .int .u8 0, .int .u32 0, .int .u64 0, .string ⟨#[]⟩, .int .u64 0] : Value).cells (G - (n + 1))) = Z2 := ⟨_, rfl⟩
  have hZ1l : Z1.size = (n + 1 - i) * 9 := by rw [← hZ1]; simp [Builtin.zeroCells, Value.cells]
  have hZ2l : Z2.size = (G - (n + 1)) * 9 := by rw [← hZ2]; simp [Builtin.zeroCells, Value.cells]
  obtain ⟨b0, hb0⟩ : ∃ b0, w.heap.size = b0 := ⟨_, rfl⟩
  obtain ⟨W1, hW1⟩ : ∃ W1, W1 = w.drew.alloc (.cells (P1.toArray ++ Z1 ++ Z2) 52) := ⟨_, rfl⟩
  have hrz : ∀ ty, (Builtin.append_ #[49, 3] ty #[.slice (some ⟨g, 0, none⟩) i n, .int .i64 ((n : Int) + 1 - (i : Int))]).run Try.prog w = .ok (.slice (some ⟨b0, 0, none⟩) (n + 1) G) W1 := fun ty => by
    have h := Lib.run_append_grow_zeros w 49 3 ty 52 i0 _ .i64 .i64 Try.underlying49 Try.underlying3 hq hz0 (some ⟨g, 0, none⟩) i n P1 hold (n + 1 - i) (by omega) (by rw [hzs]; decide) (by omega) (by omega) (by rw [hzb]; omega) (by rw [hzb, hik]; exact growslice_fits (by omega) (by omega))
    rw [hik, ← hG, hZ1, hZ2, hb0, ← hW1] at h
    rw [hkk]
    exact h
  have hg1 : W1.heap[b0]? = some (.cells (P1.toArray ++ Z1 ++ Z2) 52 (0, 0)) := by rw [hW1, ← hb0]; exact heap_alloc_new w.drew _
  have hold1 : ∀ k, k < b0 → W1.heap[k]? = w.heap[k]? := fun k hk => by rw [hW1]; exact Below.heap_alloc w.drew _ k (by rw [← hb0] at hk; exact hk)
  have hGn : n + 1 ≤ G := by rw [hG]; exact grownCap_ge w _ _ _
  have hG63 : G ≤ maxLen := by rw [hG]; exact grownCap_le_maxLen w (n + 1) n 52 (by unfold maxLen; omega)
  have hl1 : (P1.toArray ++ Z1 ++ Z2).toList = P1 ++ Z1.toList ++ Z2.toList := by simp
  have hZ1t : Z1.toList.length = (n + 1 - i) * 9 := by rw [Array.length_toList, hZ1l]
  obtain ⟨W2, hW2⟩ : ∃ W2, W2 = W1.setRow b0 (P1 ++ eHn x ++ Z1.toList.drop 9 ++ Z2.toList).toArray := ⟨_, rfl⟩
  have hcp2 : ∀ ty dc, (Builtin.copy_ #[49, 49] ty #[.slice (some ⟨b0, i * 9, none⟩) (n + 1 - i) dc, .slice (some ⟨vb, 0, none⟩) 1 1]).run Try.prog W1 = .ok (goInt (1 : Nat)) W2 := fun ty dc => by
    have h := run_copy_sz W1 49 49 ty 52 b0 (i * 9) (n + 1 - i) dc ⟨vb, 0, none⟩ 1 1 _ 52 (eHn x) 9 Try.underlying49 sizeI hg1 1 (by simp only [Nat.min_def]; split <;> omega) (by rw [hE]) (fun j v hj => by
      rw [Addr.add_lit, Nat.zero_add, blk_cell ((hold1 vb (by omega)).trans hV), List.getElem?_toArray]; exact hj) (by rw [hE, Array.size_append, Array.size_append, hZ1l]; simp only [List.size_toArray]; omega) hoE
    rw [h, hW2]
    congr 3
    rw [hl1]
    simp only [List.append_assoc]
    rw [List.take_left' hP, hE, show i * 9 + 9 = P1.length + 9 by omega, ← List.drop_drop, List.drop_left, List.drop_append_of_le_length (by rw [hZ1t]; omega)]
  have hg2 : W2.heap[b0]? = some (.cells (P1 ++ eHn x ++ Z1.toList.drop 9 ++ Z2.toList).toArray 52 (0, 0)) := by rw [hW2]; exact setRow_heap W1 b0 _ _ 52 _ hg1
  have hold2 : ∀ k, k < b0 → W2.heap[k]? = w.heap[k]? := fun k hk => by rw [hW2, setRow_other W1 b0 k _ (by omega)]; exact hold1 k hk
  obtain ⟨W3, hW3⟩ : ∃ W3, W3 = W2.drew.setRow b0 (P1 ++ eHn x ++ D1 ++ Z2.toList).toArray := ⟨_, rfl⟩
  have hcp3 : ∀ ty dc sc, (Builtin.copy_ #[49, 49] ty #[.slice (some ⟨b0, (i + 1) * 9, none⟩) (n - i) dc, .slice (some ⟨g, i * 9, none⟩) (n - i) sc]).run Try.prog W2.drew = .ok (goInt (n - i : Nat)) W3 := fun ty dc sc => by
    have h := run_copy_sz W2.drew 49 49 ty 52 b0 ((i + 1) * 9) (n - i) dc ⟨g, i * 9, none⟩ (n - i) sc _ 52 D1 9 Try.underlying49 sizeI hg2 (n - i) (by simp only [Nat.min_def]; split <;> omega) (by rw [hfd, hn]) (fun j v hj => by
      have hb : W2.drew.cell? ⟨g, i * 9 + j, none⟩ = cur[i * 9 + j]? := blk_cell (w := W2.drew) ((hold2 g (by omega)).trans hg) _
      have hlj := (List.getElem?_eq_some_iff.1 hj).1
      rw [Addr.add_lit, hb, ← Array.getElem?_toList, hC1, List.append_assoc, List.getElem?_append_right (by rw [hP]; omega), List.getElem?_append_left (by rw [hP]; omega), ← hj]
      congr 1
      rw [hP]; omega) (by simp only [List.size_toArray, List.length_append, List.length_drop, hZ1t, hfd, hP, hE]; omega) hoD
    rw [h, hW3]
    congr 3
    simp only [List.toList_toArray]
    have e1 : ((i + 1) * 9) = (P1 ++ eHn x).length := by rw [List.length_append, hP, hE]; omega
    rw [List.append_assoc (P1 ++ eHn x), List.take_left' e1.symm, e1, ← List.drop_drop, List.drop_left, List.drop_append, List.drop_drop]
    have e2 : List.drop (9 + D1.length) Z1.toList = [] := List.drop_eq_nil_of_le (by rw [hZ1t, hfd]; omega)
    rw [e2, List.nil_append, List.length_drop, hZ1t, show D1.length - ((n + 1 - i) * 9 - 9) = 0 by rw [hfd]; omega, List.drop_zero]
  have hMod : Mod (fun k => (Value.slice (some ⟨g, 0, none⟩) n n).ownBlock = some k) w W3 := by
    refine ⟨?_, ?_, ?_, ?_, fun k hk _ => ?_⟩
    · rw [hW3, hW2, hW1]; rfl
    · rw [hW3, hW2, hW1]; rfl
    · rw [hW3, hW2, hW1]; rfl
    · have s1 : W1.heap.size = w.heap.size + 1 := by rw [hW1]; exact Array.size_push ..
      have s2 : W2.heap.size = W1.heap.size := by rw [hW2]; simp [World.setRow]
      have s3 : W3.heap.size = W2.heap.size := by rw [hW3]; exact (show (W2.drew.setRow b0 _).heap.size = W2.drew.heap.size by simp [World.setRow])
      omega
    · rw [hW3, setRow_other W2.drew b0 k _ (by omega)]; exact hold2 k (by omega)
  have hEnd : (slc k52 52 (.slice (some ⟨b0, 0, none⟩) (n + 1) G) (xs.take i ++ x :: xs.drop i)).holds W3 := by
    have hln : (xs.take i ++ x :: xs.drop i).length = n + 1 := by rw [List.length_append, List.length_cons, List.length_take, List.length_drop, hn]; omega
    refine (slc_iff fl).2 (.inr ⟨b0, G, Z2.toList, by rw [hln], ⟨_, by rw [hW3]; exact setRow_heap W2.drew b0 _ _ 52 _ hg2, ?_⟩, by omega, hG63, by rw [hln, Array.length_toList, hZ2l]; rfl⟩)
    rw [List.flatMap_append, List.flatMap_cons, hP1, hD1]
    simp only [List.append_assoc]
  obtain ⟨Q, hQ⟩ : ∃ Q, insPost (.slice (some ⟨g, 0, none⟩) xs.length xs.length) w (xs.take i ++ x :: xs.drop i) = Q := ⟨_, rfl⟩
  have HQ := Lib.hid (show Q (.returned (.slice (some ⟨b0, 0, none⟩) (n + 1) G)) W3 by
    rw [← hQ, hn]; exact ⟨_, rfl, hEnd, hMod, fun k hk => .inr (by rw [hb0]; have e : b0 = k := by simpa [Value.ownBlock] using hk
                                                                   omega)⟩)
  rw [hQ, hn]
  rw [hn] at hi hl
  unfold maxLen at hG63
  clear hEnd hMod hg1 hg2 hold1 hold2 hW1 hW2 hW3 hC1 hQ hcu hoD hoE hfx hfd hE hP1 hD1 hsp hV hg hR hn hP hl1 hZ1t hZ1l hZ2l hZ1 hZ2 hG hold hq hz0 hzs hzb hkk hik hb0 hgl hvl
  have hi1 : (i : Int) + 1 ≤ (n : Int) := by omega
  have hi0 : (0 : Int) ≤ (i : Int) + 1 := by omega
  have hin : (i : Int) < (n : Int) := by omega
  have hz2 : ¬ ((i : Int) = (n : Int)) := by omega
  have hnc : (n : Int) < (n : Int) + 1 := by omega
  have hni : ¬ (n = i) := by omega
  have hGi : ¬ (G = i) := by omega
  have hGi1 : ¬ (G = i + 1) := by omega
  have htn : ((i : Int) + 1).toNat = i + 1 := by omega
  have htn2 : ((n : Int) + 1).toNat = n + 1 := by omega
  have hb3 : (i : Int) ≤ (n : Int) + 1 := by omega
  have hile : i ≤ n := by omega
  have hile2 : i ≤ n + 1 := by omega
  have hw1 : IntKind.i64.wrap ((i : Int) + 1) = (i : Int) + 1 := by rw [IntKind.wrap_i64]; omega
  have hw2 : IntKind.i64.wrap ((n : Int) + 1) = (n : Int) + 1 := by rw [IntKind.wrap_i64]; omega
  go_enter Try.func31, Try.ntmps31
  go_wp2_with (first | (at_builtin; refine Lib.wpList_append_run _ rfl _ _ _ _ rfl _ _ rfl rfl _ _ (hrz _) ?_) | (refine wpList_copy_runI _ rfl _ _ 49 49 rfl (.slice (some ⟨b0, i * 9, none⟩) (n + 1 - i) (G - i)) (.slice (some ⟨vb, 0, none⟩) 1 1) rfl rfl (hcp2 _ _) ?_))
  go_region_law (refine step_copy_runI rfl _ _ 49 49 rfl (.slice (some ⟨b0, (i + 1) * 9, none⟩) (n - i) (G - (i + 1))) (.slice (some ⟨g, i * 9, none⟩) (n - i) (n - i)) (by simp [Act.eval, Act.put]) (by simp [Act.eval, Act.put]) (hcp3 _ _ _) ?_)
  go_wp2_with fail
  exact HQ.out
/-- One element, anywhere. -/
theorem insert_s (fl : Flat k52 eHn) (xs : List S52) (x : S52) (i : Nat) (hi : i ≤ xs.length) (v : Value) (w : World) (hS : (slc k52 52 v xs).holds w) (vb : Nat) (hV : w.heap[vb]? = some (.cells (eHn x).toArray 52 (0, 0))) (hne : v.ownBlock ≠ some vb) (hl : xs.length ≤ 1000000) :
    Calls Try.prog 31 #[v, .int .i64 (i : Int), .slice (some ⟨vb, 0, none⟩) 1 1] w (insPost v w (xs.take i ++ x :: xs.drop i)) := by
  rcases Nat.eq_or_lt_of_le hi with rfl | hi
  · have h := insert_end fl xs x v w hS vb hV hl
    rw [List.take_length, List.drop_length]
    exact h
  · rcases (slc_iff fl).1 hS with ⟨rfl, rfl⟩ | ⟨g, c, ex, rfl, hR, hc, hm, hex⟩
    · simp at hi
    · have hne' : vb ≠ g := fun e => hne (by rw [e]; rfl)
      rcases Nat.eq_or_lt_of_le hc with e | h
      · subst e
        exact insert_grow fl xs x i hi g ex w hR vb hV hl
      · exact insert_room fl xs x i hi g c ex w hR h hm hex vb hV hne' hl
end Go.Proofs.Ytmpodcefngpnkaa.I52
