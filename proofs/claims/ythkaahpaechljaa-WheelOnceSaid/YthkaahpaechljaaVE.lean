import Derived.Test.YthkaahpaechljaaVD
namespace Go.Proofs.Ythkaahpaechljaa
open Go.RowKit Go.Tat Go.Proofs.YthkaahpaechljaaW.PrintWords PWheelPlays
theorem info56 : (Try.prog.info? 56).map (fun i => (i.zero, i.size, i.bytes)) = some (some (.agg #[.int .i64 0, .int .u64 0]), 2, 16) := by kernel_rfl
theorem zero56 : (Try.prog.info? 56).map (·.zero) = some (some (.agg #[.int .i64 0, .int .u64 0])) := by kernel_rfl
theorem zero28 : (Try.prog.info? 28).map (·.zero) = some (some (.int .u64 0)) := by kernel_rfl
theorem keys3 : KeyLaw Try.prog 3 (Value.int .i64) := KeyLaw.int Try.underlying3
theorem enters24 : ∀ args w, (callFunc 24 args).run Try.prog w = .ok (.enter 24 args) w := enters_of Try.func24 (by kernel_rfl) rfl
theorem says24 {w : World} {z : Nat} {t : Int} {F : Nat → Prop} (h : w.cell? ⟨z, 0, none⟩ = some (.int .i64 t)) (hF : ¬ F z) : Q56.Says 24 #[.pointer (some ⟨z, 0, none⟩)] (fun y => y.f0 == t) F w := by
  intro W x m
  have hz := World.block_lt_of_cell? w _ h
  have c := (World.cell?_of_block (a := ⟨z, 0, none⟩) (m.block z hz hF)).trans h
  have hl := World.block_lt_of_cell? W _ c
  obtain ⟨xi, xd⟩ := x
  unfold e56
  clear h hz m
  go_enter Try.func24, Try.ntmps24
  go_wp2
  go_ret
  exact ⟨rfl, (Below.refl _ _).alloc (Nat.le_refl _) _⟩
theorem tail_at {α : Type} (L : List α) (a : α) : (L ++ [a])[L.length]? = some a := by simp
theorem zipA_len (V : List Value) (B : List (List S56)) : (zipA V B).length = min V.length B.length := by unfold zipA; simp
theorem wL_set (g : Nat) (m : List S56) (mb : Nat) (V : List Value) (M : List (Int × Int)) (B : List (List S56)) (k : Nat) (v : Value) (fs : List S56) (L : List Asr) (hk : k < (zipA V B).length) (hkV : k < V.length) :
    ((wL g m ⟨mb, V, M, B⟩ ++ L).set (k + 3) (slc k56 56 v fs)).set 0 (blk g ((V ++ [Value.map (some mb)]).toArray.setIfInBounds k v) 54) = blk g (V.set k v ++ [Value.map (some mb)]).toArray 54 :: mapA mb (Value.int .i64) (Value.int .u64) M :: pureA (V.length = 64 ∧ WInv M B m) :: (zipA (V.set k v) (B.set k fs) ++ L) := by
  rw [wset V mb k v hkV, ← zipA_set, ← List.set_append_left _ _ hk]
  rfl
def dropPost (F : Nat → Prop) (w0 : World) (A : List Asr) (i g : Nat) (m : List S56) (id : Int) (e : Ending) (w' : World) : Prop := e = .returned (.bool (m.any fun t => t.f0 == id)) ∧ ∃ S', St F w0 w' (A.set i (wO g S' (m.filter (notId id))))
set_option maxRecDepth 100000 in
set_option maxHeartbeats 4000000 in
theorem drop_st {F : Nat → Prop} {w0 w : World} {A : List Asr} (h : St F w0 w A) (i : Nat) {g : Nat} {S : Nat → Prop} {m : List S56} (hi : A[i]? = some (wO g S m)) (id : Int) :
    Calls Try.prog 15 #[.pointer (some ⟨g, 0, none⟩), .int .i64 id] w (dropPost F w0 A i g m id) := by
  obtain ⟨⟨mb, V, M, B⟩, S1⟩ := Asr.ex_open (h.get i hi)
  have HO := Lib.hid (And.intro h hi)
  have HV := Lib.hid (show V.length = 64 ∧ WInv M B m from S1.get 2 rfl)
  have hgl := S1.blt 0 rfl
  have H1 := Lib.hid S1
  clear h hi S1
  go_enter Try.func15, Try.ntmps15
  go_upto_region 3 with fail
  have S2 := H1.out.new' #[.int .i64 id] 3 w.heap.size rfl
  obtain ⟨z, hz⟩ : ∃ z, w.heap.size = z := ⟨_, rfl⟩
  rw [hz] at S2 hgl ⊢
  clear hz
  generalize w.alloc _ = w1 at *
  have gm : w1.cell? ⟨g, 64, none⟩ = some (.map (some mb)) := wcell (S2.get 0 rfl) HV.out.1
  have z0 : w1.cell? ⟨z, 0, none⟩ = some (.int .i64 id) := blk_cell (S2.get _ (tail_at _ _)) 0
  have hm1 : MapAt w1 mb (Value.int .i64) (Value.int .u64) M := S2.get 1 rfl
  have hlk := fun n => (hm1.below (pw_below_drewN (Below.refl _ _) n)).run_lookup true Try.underlying26 keys3 id _ zero28
  cases hg : mget M id with
  | none =>
    rw [hg] at hlk
    simp only [if_true] at hlk
    have hlk' : ∀ n, (Instr.lookup 26 (.map (some mb)) (.int .i64 id) true).run Try.prog (w1.drewN n) = .ok (.tuple #[.int .u64 0, .bool false]) (w1.drewN n) := hlk
    have HG := Lib.hid hg
    have H2 := Lib.hid S2
    clear hlk hm1 hg S2
    go_quiet (fail)
    have S3 := H2.out.drewN nq
    generalize w1.drewN nq = w2 at *
    have H3 := Lib.hid S3
    clear S3
    go_wp2_with fail
    go_ret
    have e1 := HV.out.2.noneOf HG.out
    have e2 : (m.any fun t => t.f0 == id) = false := by
      rw [List.any_eq_false]
      intro t ht hb
      have : t ∈ m.filter (notId id) := by rw [e1]; exact ht
      exact (notId_iff id t).1 (List.mem_filter.1 this).2 (by simpa using hb)
    refine ⟨by rw [e2]; rfl, ?_⟩
    rw [e1]
    obtain ⟨h, hi⟩ := HO.out
    exact ⟨_, h.exUpd i hi (L1 := wL g m) ⟨mb, V, M, B⟩ (H3.out.sub (List.sublist_append_left _ _))⟩
  | some due =>
    rw [hg] at hlk
    simp only [if_true] at hlk
    have hlk' : ∀ n, (Instr.lookup 26 (.map (some mb)) (.int .i64 id) true).run Try.prog (w1.drewN n) = .ok (.tuple #[.int .u64 due, .bool true]) (w1.drewN n) := hlk
    have HG := Lib.hid hg
    have H2 := Lib.hid S2
    clear hlk hm1 S2
    go_quiet (fail)
    have S3 := H2.out.drewN nq
    generalize w1.drewN nq = w2 at *
    have hdue := (HV.out.2.get id due).1 hg
    have hrg := HV.out.2.rng _ hdue
    obtain ⟨k, hk⟩ : ∃ k : Nat, due % 64 = (k : Int) := ⟨(due % 64).toNat, by omega⟩
    have hk64 : k < 64 := by omega
    have ht : due.tmod 64 = (k : Int) := by rw [Int.tmod_eq_emod_of_nonneg hrg.1, hk]
    obtain ⟨v, hv⟩ : ∃ v, V[k]? = some v := ⟨_, List.getElem?_eq_getElem (by rw [HV.out.1]; exact hk64)⟩
    obtain ⟨xs, hxs⟩ : ∃ xs, B[k]? = some xs := ⟨_, List.getElem?_eq_getElem (by rw [HV.out.2.len]; exact hk64)⟩
    have hz := zipA_get hv hxs
    have HK := Lib.hid (And.intro hk (And.intro hv (And.intro hxs hz)))
    have hk0 : (0 : Int) ≤ (k : Int) := by omega
    have hk1 : (k : Int) < 64 := by omega
    have hav : ∃ Av cv, v = .slice Av xs.length cv := by
      have h5 : (slc k56 56 v xs).holds w2 := S3.get (k + 3) (by show (zipA V B ++ _)[k]? = _; rw [List.getElem?_append_left (List.getElem?_eq_some_iff.1 hz).1]; exact hz)
      obtain ⟨Av, cv, rfl⟩ := Kd.R_slice h5.1
      exact ⟨Av, cv, rfl⟩
    obtain ⟨Av, cv, rfl⟩ := hav
    have hget : (wL g m ⟨mb, V, M, B⟩ ++ [blk z #[.int .i64 id] 3])[k + 3]? = some (slc k56 56 (.slice Av xs.length cv) xs) := by
      show (zipA V B ++ _)[k]? = _
      rw [List.getElem?_append_left (List.getElem?_eq_some_iff.1 hz).1]; exact hz
    have gk : w2.cell? ⟨g, k, none⟩ = some (.slice Av xs.length cv) := wbucket (S3.get 0 rfl) hv
    have z0 : w2.drew.cell? ⟨z, 0, none⟩ = some (.int .i64 id) := blk_cell (S3.drew.get _ (tail_at _ _)) 0
    have hap : ∀ q, (slc k56 56 (.slice Av xs.length cv) xs).fp q → q ≠ z := fun q hq e => S3.ne (k + 3) _ hget (tail_at _ _) (by
      show k + 3 < (zipA V B).length + 3
      have := (List.getElem?_eq_some_iff.1 hz).1
      omega) q hq e
    have HD := Lib.hid (Q56.delete_s fl56 _ zero56 rfl (by decide) 24 #[.pointer (some ⟨z, 0, none⟩)] (fun y => y.f0 == id) xs (.slice Av xs.length cv) w2.drew (says24 z0 (fun e => hap z e rfl)) enters24 (S3.drew.get _ hget))
    have HGT := Lib.hid hget
    have H3 := Lib.hid S3.drew
    obtain ⟨fs, hfs⟩ : ∃ fs, (xs.filter fun y => !(y.f0 == id)) = fs := ⟨_, rfl⟩
    rw [hfs] at HD
    have HFS := Lib.hid hfs
    have hk64' : k < V.length := by rw [HV.out.1]; exact hk64
    have HKL := Lib.hid hk64'
    clear S3 hap hget hv hxs hz hk hdue hrg hg hk64 hk64' H2 hfs z0
    go_upto_region 7 with fail

    clear ht
    go_region_law (go_simp; first | (refine HD.out.mono ?_; rintro e w3 ⟨v3, rfl, hv3, ho3, m3⟩; obtain ⟨A3, c3, rfl⟩ := Kd.R_slice hv3.1; have H4 := Lib.hid (H3.out.upd (k + 3) HGT.out m3 (a' := slc k56 56 (.slice A3 fs.length c3) fs) hv3 (fun q hq => .inl (ho3.symm.trans hq))); clear hv3 ho3 m3; have gk3 : w3.cell? ⟨g, k, none⟩ = some (.slice Av xs.length cv) := wbucket (H4.out.get 0 rfl) HK.out.2.1; have fk3 : w3.frozen? ⟨g, k, none⟩ = false := H4.out.frozen 0 rfl k; simp only []))
    all_goals
      have S5 := H4.out.set 0 rfl k (.slice A3 fs.length c3)
      have hzl : k < (zipA V B).length := (List.getElem?_eq_some_iff.1 HK.out.2.2.2).1
      replace S5 := (wL_set g m mb V M B k (.slice A3 fs.length c3) fs [blk z #[.int .i64 id] 3] hzl HKL.out) ▸ S5
      generalize w3.setCell _ _ = w4 at *
      have gm : w4.cell? ⟨g, 64, none⟩ = some (.map (some mb)) := wcell (S5.get 0 rfl) (by rw [List.length_set]; exact HV.out.1)
      have z0 : w4.cell? ⟨z, 0, none⟩ = some (.int .i64 id) := blk_cell (S5.get _ (tail_at (_ :: _ :: _ :: zipA _ _) _)) 0
      have H5 := Lib.hid S5.drew
      clear S5 gk3 fk3 H4 hzl gk HD
      go_upto_region 8 with fail
      go_still_tail 5, (by kernel_rfl)
      change wpList _ _ _ _ _ w4.drew
      refine wpList_mapDelete rfl 26 3 28 _ _ rfl Try.underlying26 keys3 (Value.int .u64) mb M (H5.out.get 1 rfl) id rfl rfl ?_
      intro w6 M6 m6
      have S6 := (H5.out.upd 1 rfl m6 (a' := mapA mb (Value.int .i64) (Value.int .u64) (mdel M id)) M6 (fun _ h => .inl h)).pure 2 rfl (p' := (V.set k (.slice A3 fs.length c3)).length = 64 ∧ WInv (mdel M id) (B.set k fs) (m.filter (notId id))) ⟨by rw [List.length_set]; exact HV.out.1, by rw [← HFS.out]; exact HV.out.2.drop HG.out HK.out.1 HK.out.2.2.1⟩
      have H6 := Lib.hid S6
      clear S6 M6 m6 H5 gm z0
      go_wp2_with fail
      go_ret
      have e2 : (m.any fun t => t.f0 == id) = true := by
        rw [List.any_eq_true]
        exact ⟨⟨id, due⟩, (HV.out.2.get id due).1 HG.out, by simp⟩
      refine ⟨by rw [e2]; rfl, ?_⟩
      obtain ⟨h, hi⟩ := HO.out
      exact ⟨_, h.exUpd i hi (L1 := wL g (m.filter (notId id))) ⟨mb, V.set k (.slice A3 fs.length c3), mdel M id, B.set k fs⟩ (H6.out.sub (List.sublist_append_left (_ :: _ :: _ :: zipA _ _) _))⟩
end Go.Proofs.Ythkaahpaechljaa
