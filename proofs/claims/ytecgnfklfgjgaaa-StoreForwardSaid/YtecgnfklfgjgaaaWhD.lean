/- wheel: the invariant; Drop -/
import Derived.Test.YtecgnfklfgjgaaaWhC
import Derived.Test.YtecgnfklfgjgaaaLib
set_option linter.unusedVariables false
set_option linter.unusedSimpArgs false
namespace Go.Proofs.Ytecgnfklfgjgaaa
open Go.RowKit Go.Tat Go.Proofs.YtecgnfklfgjgaaaW.PrintWords PStorePeeks
/-! ### A wheel -/
structure WInv (M : List (Int × Int)) (B : List (List S114)) (m : List S114) : Prop where
  len : B.length = 64
  perm : B.flatten.Perm m
  ids : (m.map S114.f0).Nodup
  own : ∀ (k : Nat) xs, B[k]? = some xs → ∀ t ∈ xs, t.f1 % 64 = (k : Int)
  map : M.Perm (m.map fun t => (t.f0, t.f1))
  rng : ∀ t ∈ m, 0 ≤ t.f1 ∧ t.f1 < 18446744073709551616
def notId (id : Int) (t : S114) : Bool := !(t.f0 == id)
theorem notId_iff (id : Int) (t : S114) : notId id t = true ↔ t.f0 ≠ id := by simp [notId]
theorem WInv.to {M : List (Int × Int)} {B : List (List S114)} {m m' : List S114} (h : WInv M B m) (p : m.Perm m') : WInv M B m' :=
  ⟨h.len, h.perm.trans p, (p.map S114.f0).nodup h.ids, h.own, h.map.trans (p.map _), fun t ht => h.rng t (p.mem_iff.2 ht)⟩
theorem WInv.keys {M : List (Int × Int)} {B : List (List S114)} {m : List S114} (h : WInv M B m) : (M.map (·.1)).Nodup := by
  have := (h.map.map (·.1)).symm
  rw [List.map_map] at this
  exact this.nodup h.ids
theorem WInv.get {M : List (Int × Int)} {B : List (List S114)} {m : List S114} (h : WInv M B m) (id due : Int) : mget M id = some due ↔ (⟨id, due⟩ : S114) ∈ m := by
  rw [mget_iff h.keys, h.map.mem_iff, List.mem_map]
  constructor
  · rintro ⟨⟨i, d⟩, ht, e⟩
    injection e with e1 e2
    subst e1 e2
    exact ht
  · exact fun ht => ⟨_, ht, rfl⟩
theorem WInv.noneOf {M : List (Int × Int)} {B : List (List S114)} {m : List S114} (h : WInv M B m) {id : Int} (hn : mget M id = none) : m.filter (notId id) = m := by
  rw [List.filter_eq_self]
  intro t ht
  rw [notId_iff]
  rintro rfl
  have := (h.get t.f0 t.f1).2 ht
  rw [hn] at this
  exact absurd this (by simp)
theorem one_id {m : List S114} (h : (m.map S114.f0).Nodup) {x y : S114} (hx : x ∈ m) (hy : y ∈ m) (e : x.f0 = y.f0) : x = y := by
  induction m with
  | nil => exact absurd hx List.not_mem_nil
  | cons z l ih =>
    rw [List.map_cons, List.nodup_cons] at h
    rcases List.mem_cons.1 hx with hx1 | hx1 <;> rcases List.mem_cons.1 hy with hy1 | hy1
    · rw [hx1, hy1]
    · exact absurd (List.mem_map.2 ⟨y, hy1, by rw [← e, hx1]⟩ : z.f0 ∈ l.map S114.f0) h.1
    · exact absurd (List.mem_map.2 ⟨x, hx1, by rw [e, hy1]⟩ : z.f0 ∈ l.map S114.f0) h.1
    · exact ih h.2 hx1 hy1
theorem WInv.drop {M : List (Int × Int)} {B : List (List S114)} {m : List S114} (h : WInv M B m) {id due : Int} (hg : mget M id = some due) {k : Nat} {xs : List S114} (hk : due % 64 = (k : Int)) (hB : B[k]? = some xs) :
    WInv (mdel M id) (B.set k (xs.filter fun t => !(t.f0 == id))) (m.filter (notId id)) := by
  have ht := (h.get id due).1 hg
  have hmem : ∀ j ys, B[j]? = some ys → ∀ t ∈ ys, t ∈ m := fun j ys hj t hty => h.perm.mem_iff.1 (List.mem_flatten.2 ⟨ys, List.mem_of_getElem? hj, hty⟩)
  have hset : B.set k (xs.filter fun t => !(t.f0 == id)) = B.map (List.filter (notId id)) := by
    refine List.ext_getElem? fun j => ?_
    rw [List.getElem?_set, List.getElem?_map]
    by_cases hjk : k = j
    · subst hjk
      rw [if_pos rfl, if_pos (List.getElem?_eq_some_iff.1 hB).1, hB]
      rfl
    · rw [if_neg hjk]
      cases hj : B[j]? with
      | none => rfl
      | some ys =>
        rw [Option.map_some]
        congr 1
        symm
        rw [List.filter_eq_self]
        intro t hty
        rw [notId_iff]
        intro e
        have h1 := one_id h.ids (hmem j ys hj t hty) ht e
        have h2 := h.own j ys hj t hty
        rw [h1, hk] at h2
        exact hjk (by exact_mod_cast h2)
  refine ⟨by rw [List.length_set]; exact h.len, ?_, (List.filter_sublist.map _).nodup h.ids, fun j ys hj t hty => ?_, ?_, fun t htm => h.rng t (List.mem_filter.1 htm).1⟩
  · rw [hset, ← List.filter_flatten]
    exact h.perm.filter _
  · rw [hset, List.getElem?_map] at hj
    cases hj' : B[j]? with
    | none => rw [hj'] at hj; exact absurd hj (by simp)
    | some zs =>
      rw [hj', Option.map_some] at hj
      injection hj with hj
      subst hj
      exact h.own j zs hj' t (List.mem_filter.1 hty).1
  · rw [mdel_eq _ _ h.keys]
    have := h.map.filter fun p => decide (p.1 ≠ id)
    rw [List.filter_map] at this
    refine this.trans (List.Perm.of_eq ?_)
    congr 2
    funext t
    simp only [notId, Function.comp_apply, ne_eq]
    by_cases e : t.f0 = id <;> simp [e]
theorem WInv.add {M : List (Int × Int)} {B : List (List S114)} {m : List S114} (h : WInv M B m) {id due : Int} (hn : ∀ t ∈ m, t.f0 ≠ id) (hd0 : 0 ≤ due) (hd1 : due < 18446744073709551616) {k : Nat} {xs : List S114} (hk : due % 64 = (k : Int)) (hB : B[k]? = some xs) :
    WInv (mput M id due) (B.set k (xs ++ [⟨id, due⟩])) (m ++ [⟨id, due⟩]) := by
  have hg : mpos M id = none := by
    rw [mpos_none]
    rintro p hp rfl
    obtain ⟨t, ht, e⟩ := List.mem_map.1 (h.map.mem_iff.1 hp)
    exact hn t ht (congrArg Prod.fst e)
  obtain ⟨hkl, hke⟩ := List.getElem?_eq_some_iff.1 hB
  refine ⟨by rw [List.length_set]; exact h.len, ?_, ?_, fun j ys hj t hty => ?_, ?_, fun t ht => ?_⟩
  · rw [List.set_eq_take_append_cons_drop, if_pos hkl, List.flatten_append, List.flatten_cons]
    have e : B = B.take k ++ xs :: B.drop (k + 1) := by rw [← hke, ← List.drop_eq_getElem_cons hkl, List.take_append_drop]
    have hp := h.perm
    rw [e, List.flatten_append, List.flatten_cons] at hp
    refine List.Perm.trans ?_ (hp.append_right _)
    simp only [List.append_assoc]
    refine List.Perm.append_left _ (List.Perm.append_left _ ?_)
    exact List.perm_append_comm
  · rw [List.map_append, List.nodup_append]
    refine ⟨h.ids, by simp, fun a ha b hb => ?_⟩
    obtain ⟨t, ht, rfl⟩ := List.mem_map.1 ha
    simp only [List.map_cons, List.map_nil, List.mem_singleton] at hb
    subst hb
    exact hn t ht
  · rw [List.getElem?_set] at hj
    by_cases hjk : k = j
    · subst hjk
      rw [if_pos rfl, if_pos hkl] at hj
      injection hj with hj
      subst hj
      rcases List.mem_append.1 hty with h1 | h1
      · exact h.own k xs hB t h1
      · rw [List.mem_singleton.1 h1]; exact hk
    · rw [if_neg hjk] at hj
      exact h.own j ys hj t hty
  · unfold mput
    rw [hg, List.map_append]
    exact h.map.append_right _
  · rcases List.mem_append.1 ht with h1 | h1
    · exact h.rng t h1
    · rw [List.mem_singleton.1 h1]; exact ⟨hd0, hd1⟩
theorem WInv.new : WInv [] (List.replicate 64 []) [] := ⟨by simp, by simp, by simp, fun k xs h t ht => by
  obtain ⟨_, e⟩ := List.getElem?_eq_some_iff.1 h
  rw [List.getElem_replicate] at e
  subst e
  exact absurd ht List.not_mem_nil, List.Perm.refl _, fun t ht => absurd ht List.not_mem_nil⟩
def zipA (V : List Value) (B : List (List S114)) : List Asr := List.zipWith (fun v xs => slc k114 114 v xs) V B
theorem zipA_get {V : List Value} {B : List (List S114)} {k : Nat} {v : Value} {xs : List S114} (hv : V[k]? = some v) (hx : B[k]? = some xs) : (zipA V B)[k]? = some (slc k114 114 v xs) := by
  unfold zipA
  rw [List.getElem?_zipWith, hv, hx]
theorem zipA_set : ∀ (V : List Value) (B : List (List S114)) (k : Nat) (v : Value) (xs : List S114), (zipA V B).set k (slc k114 114 v xs) = zipA (V.set k v) (B.set k xs)
  | [], B, k, v, xs => by simp [zipA]
  | u :: V, [], k, v, xs => by simp [zipA]
  | u :: V, ys :: B, 0, v, xs => by simp [zipA]
  | u :: V, ys :: B, k + 1, v, xs => by
    have := zipA_set V B k v xs
    unfold zipA at *
    simp only [List.zipWith_cons_cons, List.set_cons_succ, this]
structure Wi where
  mb : Nat
  V : List Value
  M : List (Int × Int)
  B : List (List S114)
def wL (g : Nat) (m : List S114) (i : Wi) : List Asr := blk g (i.V ++ [Value.map (some i.mb)]).toArray 99 :: mapA i.mb (Value.int .i64) (Value.int .u64) i.M :: pureA (i.V.length = 64 ∧ WInv i.M i.B m) :: zipA i.V i.B
def wO (g : Nat) (F : Nat → Prop) (m : List S114) : Asr := Asr.ex F (wL g m)
theorem wcell {w : World} {g mb : Nat} {V : List Value} {t : TypeId} (h : (blk g (V ++ [Value.map (some mb)]).toArray t).holds w) (vl : V.length = 64) : w.cell? ⟨g, 64, none⟩ = some (Value.map (some mb)) := by
  rw [blk_cell h 64]
  simp [vl]
theorem wbucket {w : World} {g mb k : Nat} {V : List Value} {v : Value} {t : TypeId} (h : (blk g (V ++ [Value.map (some mb)]).toArray t).holds w) (hv : V[k]? = some v) : w.cell? ⟨g, k, none⟩ = some v := by
  rw [blk_cell h k]
  have := (List.getElem?_eq_some_iff.1 hv).1
  rw [List.getElem?_toArray, List.getElem?_append_left this, hv]
theorem wset (V : List Value) (mb k : Nat) (v : Value) (hk : k < V.length) : (V ++ [Value.map (some mb)]).toArray.setIfInBounds k v = (V.set k v ++ [Value.map (some mb)]).toArray := by
  rw [List.setIfInBounds_toArray, List.set_append_left _ _ hk]
theorem info114 : (Try.prog.info? 114).map (fun i => (i.zero, i.size, i.bytes)) = some (some (.agg #[.int .i64 0, .int .u64 0]), 2, 16) := by kernel_rfl
theorem zero114 : (Try.prog.info? 114).map (·.zero) = some (some (.agg #[.int .i64 0, .int .u64 0])) := by kernel_rfl
theorem zero31 : (Try.prog.info? 31).map (·.zero) = some (some (.int .u64 0)) := by kernel_rfl
theorem keys3 : KeyLaw Try.prog 3 (Value.int .i64) := KeyLaw.int Try.underlying3
theorem wenters74 : ∀ args w, (callFunc 74 args).run Try.prog w = .ok (.enter 74 args) w := enters_of Try.func74 (by kernel_rfl) rfl
theorem wsays74 {w : World} {z : Nat} {t : Int} {F : Nat → Prop} (h : w.cell? ⟨z, 0, none⟩ = some (.int .i64 t)) (hF : ¬ F z) : Q114.Says 74 #[.pointer (some ⟨z, 0, none⟩)] (fun y => y.f0 == t) F w := by
  intro W x m
  have hz := World.block_lt_of_cell? w _ h
  have c := (World.cell?_of_block (a := ⟨z, 0, none⟩) (m.block z hz hF)).trans h
  have hl := World.block_lt_of_cell? W _ c
  obtain ⟨xi, xd⟩ := x
  unfold e114
  clear h hz m
  go_enter Try.func74, Try.ntmps74
  go_wp2
  go_ret
  exact ⟨rfl, (Below.refl _ _).alloc (Nat.le_refl _) _⟩
theorem tail_at {α : Type} (L : List α) (a : α) : (L ++ [a])[L.length]? = some a := by simp
theorem zipA_len (V : List Value) (B : List (List S114)) : (zipA V B).length = min V.length B.length := by unfold zipA; simp
theorem wL_set (g : Nat) (m : List S114) (mb : Nat) (V : List Value) (M : List (Int × Int)) (B : List (List S114)) (k : Nat) (v : Value) (fs : List S114) (L : List Asr) (hk : k < (zipA V B).length) (hkV : k < V.length) :
    ((wL g m ⟨mb, V, M, B⟩ ++ L).set (k + 3) (slc k114 114 v fs)).set 0 (blk g ((V ++ [Value.map (some mb)]).toArray.setIfInBounds k v) 99) = blk g (V.set k v ++ [Value.map (some mb)]).toArray 99 :: mapA mb (Value.int .i64) (Value.int .u64) M :: pureA (V.length = 64 ∧ WInv M B m) :: (zipA (V.set k v) (B.set k fs) ++ L) := by
  rw [wset V mb k v hkV, ← zipA_set, ← List.set_append_left _ _ hk]
  rfl
def wdropPost (F : Nat → Prop) (w0 : World) (A : List Asr) (i g : Nat) (m : List S114) (id : Int) (e : Ending) (w' : World) : Prop := e = .returned (.bool (m.any fun t => t.f0 == id)) ∧ ∃ S', St F w0 w' (A.set i (wO g S' (m.filter (notId id))))
set_option maxRecDepth 100000 in
set_option maxHeartbeats 4000000 in
theorem wdrop_st {F : Nat → Prop} {w0 w : World} {A : List Asr} (h : St F w0 w A) (i : Nat) {g : Nat} {S : Nat → Prop} {m : List S114} (hi : A[i]? = some (wO g S m)) (id : Int) :
    Calls Try.prog 55 #[.pointer (some ⟨g, 0, none⟩), .int .i64 id] w (wdropPost F w0 A i g m id) := by
  obtain ⟨⟨mb, V, M, B⟩, S1⟩ := Asr.ex_open (h.get i hi)
  have HO := Lib.hid (And.intro h hi)
  have HV := Lib.hid (show V.length = 64 ∧ WInv M B m from S1.get 2 rfl)
  have hgl := S1.blt 0 rfl
  have H1 := Lib.hid S1
  clear h hi S1
  go_enter Try.func55, Try.ntmps55
  go_upto_region 3 with fail
  have S2 := H1.out.new' #[.int .i64 id] 3 w.heap.size rfl
  obtain ⟨z, hz⟩ : ∃ z, w.heap.size = z := ⟨_, rfl⟩
  rw [hz] at S2 hgl ⊢
  clear hz
  generalize w.alloc _ = w1 at *
  have gm : w1.cell? ⟨g, 64, none⟩ = some (.map (some mb)) := wcell (S2.get 0 rfl) HV.out.1
  have z0 : w1.cell? ⟨z, 0, none⟩ = some (.int .i64 id) := blk_cell (S2.get _ (tail_at _ _)) 0
  have hm1 : MapAt w1 mb (Value.int .i64) (Value.int .u64) M := S2.get 1 rfl
  have hlk := fun n => (hm1.below (pw_below_drewN (Below.refl _ _) n)).run_lookup true Try.underlying95 keys3 id _ zero31
  cases hg : mget M id with
  | none =>
    rw [hg] at hlk
    simp only [if_true] at hlk
    have hlk' : ∀ n, (Instr.lookup 95 (.map (some mb)) (.int .i64 id) true).run Try.prog (w1.drewN n) = .ok (.tuple #[.int .u64 0, .bool false]) (w1.drewN n) := hlk
    have HG := Lib.hid hg
    have H2 := Lib.hid S2
    clear hlk hm1 hg S2
    go_quiet (fail)
    have S3 := H2.out.drewN nq
    generalize w1.drewN nq = w2 at *
    have H3 := Lib.hid S3
    clear S3
    go_wp2_with fail
    go_ret
    have e1 := HV.out.2.noneOf HG.out
    have e2 : (m.any fun t => t.f0 == id) = false := by
      rw [List.any_eq_false]
      intro t ht hb
      have : t ∈ m.filter (notId id) := by rw [e1]; exact ht
      exact (notId_iff id t).1 (List.mem_filter.1 this).2 (by simpa using hb)
    refine ⟨by rw [e2]; rfl, ?_⟩
    rw [e1]
    obtain ⟨h, hi⟩ := HO.out
    exact ⟨_, h.exUpd i hi (L1 := wL g m) ⟨mb, V, M, B⟩ (H3.out.sub (List.sublist_append_left _ _))⟩
  | some due =>
    rw [hg] at hlk
    simp only [if_true] at hlk
    have hlk' : ∀ n, (Instr.lookup 95 (.map (some mb)) (.int .i64 id) true).run Try.prog (w1.drewN n) = .ok (.tuple #[.int .u64 due, .bool true]) (w1.drewN n) := hlk
    have HG := Lib.hid hg
    have H2 := Lib.hid S2
    clear hlk hm1 S2
    go_quiet (fail)
    have S3 := H2.out.drewN nq
    generalize w1.drewN nq = w2 at *
    have hdue := (HV.out.2.get id due).1 hg
    have hrg := HV.out.2.rng _ hdue
    obtain ⟨k, hk⟩ : ∃ k : Nat, due % 64 = (k : Int) := ⟨(due % 64).toNat, by omega⟩
    have hk64 : k < 64 := by omega
    have ht : due.tmod 64 = (k : Int) := by rw [Int.tmod_eq_emod_of_nonneg hrg.1, hk]
    obtain ⟨v, hv⟩ : ∃ v, V[k]? = some v := ⟨_, List.getElem?_eq_getElem (by rw [HV.out.1]; exact hk64)⟩
    obtain ⟨xs, hxs⟩ : ∃ xs, B[k]? = some xs := ⟨_, List.getElem?_eq_getElem (by rw [HV.out.2.len]; exact hk64)⟩
    have hz := zipA_get hv hxs
    have HK := Lib.hid (And.intro hk (And.intro hv (And.intro hxs hz)))
    have hk0 : (0 : Int) ≤ (k : Int) := by omega
    have hk1 : (k : Int) < 64 := by omega
    have hav : ∃ Av cv, v = .slice Av xs.length cv := by
      have h5 : (slc k114 114 v xs).holds w2 := S3.get (k + 3) (by show (zipA V B ++ _)[k]? = _; rw [List.getElem?_append_left (List.getElem?_eq_some_iff.1 hz).1]; exact hz)
      obtain ⟨Av, cv, rfl⟩ := Kd.R_slice h5.1
      exact ⟨Av, cv, rfl⟩
    obtain ⟨Av, cv, rfl⟩ := hav
    have hget : (wL g m ⟨mb, V, M, B⟩ ++ [blk z #[.int .i64 id] 3])[k + 3]? = some (slc k114 114 (.slice Av xs.length cv) xs) := by
      show (zipA V B ++ _)[k]? = _
      rw [List.getElem?_append_left (List.getElem?_eq_some_iff.1 hz).1]; exact hz
    have gk : w2.cell? ⟨g, k, none⟩ = some (.slice Av xs.length cv) := wbucket (S3.get 0 rfl) hv
    have z0 : w2.drew.cell? ⟨z, 0, none⟩ = some (.int .i64 id) := blk_cell (S3.drew.get _ (tail_at _ _)) 0
    have hap : ∀ q, (slc k114 114 (.slice Av xs.length cv) xs).fp q → q ≠ z := fun q hq e => S3.ne (k + 3) _ hget (tail_at _ _) (by
      show k + 3 < (zipA V B).length + 3
      have := (List.getElem?_eq_some_iff.1 hz).1
      omega) q hq e
    have HD := Lib.hid (Q114.delete_s fl114 _ zero114 rfl (by decide) 74 #[.pointer (some ⟨z, 0, none⟩)] (fun y => y.f0 == id) xs (.slice Av xs.length cv) w2.drew (wsays74 z0 (fun e => hap z e rfl)) wenters74 (S3.drew.get _ hget))
    have HGT := Lib.hid hget
    have H3 := Lib.hid S3.drew
    obtain ⟨fs, hfs⟩ : ∃ fs, (xs.filter fun y => !(y.f0 == id)) = fs := ⟨_, rfl⟩
    rw [hfs] at HD
    have HFS := Lib.hid hfs
    have hk64' : k < V.length := by rw [HV.out.1]; exact hk64
    have HKL := Lib.hid hk64'
    clear S3 hap hget hv hxs hz hk hdue hrg hg hk64 hk64' H2 hfs z0
    go_upto_region 7 with fail

    clear ht
    go_region_law (go_simp; first | (refine HD.out.mono ?_; rintro e w3 ⟨v3, rfl, hv3, ho3, m3⟩; obtain ⟨A3, c3, rfl⟩ := Kd.R_slice hv3.1; have H4 := Lib.hid (H3.out.upd (k + 3) HGT.out m3 (a' := slc k114 114 (.slice A3 fs.length c3) fs) hv3 (fun q hq => .inl (ho3.symm.trans hq))); clear hv3 ho3 m3; have gk3 : w3.cell? ⟨g, k, none⟩ = some (.slice Av xs.length cv) := wbucket (H4.out.get 0 rfl) HK.out.2.1; have fk3 : w3.frozen? ⟨g, k, none⟩ = false := H4.out.frozen 0 rfl k; simp only []))
    all_goals
      have S5 := H4.out.set 0 rfl k (.slice A3 fs.length c3)
      have hzl : k < (zipA V B).length := (List.getElem?_eq_some_iff.1 HK.out.2.2.2).1
      replace S5 := (wL_set g m mb V M B k (.slice A3 fs.length c3) fs [blk z #[.int .i64 id] 3] hzl HKL.out) ▸ S5
      generalize w3.setCell _ _ = w4 at *
      have gm : w4.cell? ⟨g, 64, none⟩ = some (.map (some mb)) := wcell (S5.get 0 rfl) (by rw [List.length_set]; exact HV.out.1)
      have z0 : w4.cell? ⟨z, 0, none⟩ = some (.int .i64 id) := blk_cell (S5.get _ (tail_at (_ :: _ :: _ :: zipA _ _) _)) 0
      have H5 := Lib.hid S5.drew
      clear S5 gk3 fk3 H4 hzl gk HD
      go_upto_region 8 with fail
      go_still_tail 5, (by kernel_rfl)
      change wpList _ _ _ _ _ w4.drew
      refine wpList_mapDelete rfl 95 3 31 _ _ rfl Try.underlying95 keys3 (Value.int .u64) mb M (H5.out.get 1 rfl) id rfl rfl ?_
      intro w6 M6 m6
      have S6 := (H5.out.upd 1 rfl m6 (a' := mapA mb (Value.int .i64) (Value.int .u64) (mdel M id)) M6 (fun _ h => .inl h)).pure 2 rfl (p' := (V.set k (.slice A3 fs.length c3)).length = 64 ∧ WInv (mdel M id) (B.set k fs) (m.filter (notId id))) ⟨by rw [List.length_set]; exact HV.out.1, by rw [← HFS.out]; exact HV.out.2.drop HG.out HK.out.1 HK.out.2.2.1⟩
      have H6 := Lib.hid S6
      clear S6 M6 m6 H5 gm z0
      go_wp2_with fail
      go_ret
      have e2 : (m.any fun t => t.f0 == id) = true := by
        rw [List.any_eq_true]
        exact ⟨⟨id, due⟩, (HV.out.2.get id due).1 HG.out, by simp⟩
      refine ⟨by rw [e2]; rfl, ?_⟩
      obtain ⟨h, hi⟩ := HO.out
      exact ⟨_, h.exUpd i hi (L1 := wL g (m.filter (notId id))) ⟨mb, V.set k (.slice A3 fs.length c3), mdel M id, B.set k fs⟩ (H6.out.sub (List.sublist_append_left (_ :: _ :: _ :: zipA _ _) _))⟩
end Go.Proofs.Ytecgnfklfgjgaaa
