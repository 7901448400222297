/- wheel: Add, New -/
import Derived.Test.YtecgnfklfgjgaaaWhD
set_option linter.unusedVariables false
set_option linter.unusedSimpArgs false
namespace Go.Proofs.Ytecgnfklfgjgaaa
open Go.RowKit Go.Tat Go.Proofs.YtecgnfklfgjgaaaW.PrintWords PStorePeeks
theorem set_self {α : Type} {A : List α} {i : Nat} {a : α} (h : A[i]? = some a) (x : α) : (A.set i x)[i]? = some x := by
  rw [List.getElem?_set, if_pos rfl, if_pos (List.getElem?_eq_some_iff.1 h).1]
theorem WInv.xlen {M : List (Int × Int)} {B : List (List S114)} {m : List S114} (h : WInv M B m) {k : Nat} {xs : List S114} (hB : B[k]? = some xs) : xs.length ≤ m.length := by
  rw [← h.perm.length_eq]
  exact (List.sublist_flatten_of_mem (List.mem_of_getElem? hB)).length_le
theorem wL_set0 (g mb : Nat) (V : List Value) (B : List (List S114)) (k : Nat) (v : Value) (fs : List S114) (a1 a2 : Asr) (hkV : k < V.length) :
    ((blk g (V ++ [Value.map (some mb)]).toArray 99 :: a1 :: a2 :: zipA V B).set (k + 3) (slc k114 114 v fs)).set 0 (blk g ((V ++ [Value.map (some mb)]).toArray.setIfInBounds k v) 99) = blk g (V.set k v ++ [Value.map (some mb)]).toArray 99 :: a1 :: a2 :: zipA (V.set k v) (B.set k fs) := by
  rw [wset V mb k v hkV, ← zipA_set]
  rfl
def addM (m : List S114) (id due : Int) : List S114 := m.filter (notId id) ++ [⟨id, due⟩]
def waddPost (F : Nat → Prop) (w0 : World) (A : List Asr) (i g : Nat) (m : List S114) (e : Ending) (w' : World) : Prop := e = .returned (.tuple #[]) ∧ ∃ S', St F w0 w' (A.set i (wO g S' m))
set_option maxRecDepth 100000 in
set_option maxHeartbeats 4000000 in
theorem wadd_st {F : Nat → Prop} {w0 w : World} {A : List Asr} (h : St F w0 w A) (i : Nat) {g : Nat} {S : Nat → Prop} {m : List S114} (hi : A[i]? = some (wO g S m)) (id due : Int) (hd0 : 0 ≤ due) (hd1 : due < 18446744073709551616) (hml : m.length ≤ 1000000) :
    Calls Try.prog 59 #[.pointer (some ⟨g, 0, none⟩), .int .i64 id, .int .u64 due] w (waddPost F w0 A i g (addM m id due)) := by
  have HD := Lib.hid (wdrop_st h i hi id)
  have hfl := List.length_filter_le (notId id) m
  have hnid : ∀ t ∈ m.filter (notId id), t.f0 ≠ id := fun t ht => (notId_iff id t).1 (List.mem_filter.1 ht).2
  unfold addM
  unfold wdropPost at HD
  obtain ⟨m1, hm1⟩ : ∃ m1, m.filter (notId id) = m1 := ⟨_, rfl⟩
  rw [hm1] at HD hfl hnid ⊢
  have HN := Lib.hid hnid
  have hi' := Lib.hid hi
  clear hm1 hnid h hi
  go_enter Try.func59, Try.ntmps59
  go_wp2_with fail
  refine HD.out.mono ?_
  rintro e w1 ⟨rfl, S1, h1⟩
  generalize (m.any fun t => t.f0 == id) = bb
  obtain ⟨⟨mb, V, M, B⟩, S2⟩ := Asr.ex_open (h1.get i (set_self hi'.out _))
  have HO := Lib.hid h1
  have HV := Lib.hid (show V.length = 64 ∧ WInv M B m1 from S2.get 2 rfl)
  have gm : w1.cell? ⟨g, 64, none⟩ = some (.map (some mb)) := wcell (S2.get 0 rfl) HV.out.1
  have H2 := Lib.hid S2
  clear h1 S2 HD
  go_wp2_with (at_mapUpdate; refine wpList_mapUpdate rfl 95 3 31 _ _ _ rfl Try.underlying95 keys3 (Value.int .u64) mb M (H2.out.get 1 rfl) id due rfl rfl rfl ?_; intro w3 M3 m3)
  have S3 := H2.out.upd 1 rfl m3 (a' := mapA mb (Value.int .i64) (Value.int .u64) (mput M id due)) M3 (fun _ h => .inl h)
  clear M3 m3 gm
  obtain ⟨k, hk⟩ : ∃ k : Nat, due % 64 = (k : Int) := ⟨(due % 64).toNat, by omega⟩
  have hk64 : k < 64 := by omega
  rw [hk]
  obtain ⟨v, hv⟩ : ∃ v, V[k]? = some v := ⟨_, List.getElem?_eq_getElem (by rw [HV.out.1]; exact hk64)⟩
  obtain ⟨xs, hxs⟩ : ∃ xs, B[k]? = some xs := ⟨_, List.getElem?_eq_getElem (by rw [HV.out.2.len]; exact hk64)⟩
  have hxl := HV.out.2.xlen hxs
  have hz := zipA_get hv hxs
  have HK := Lib.hid (And.intro hk (And.intro hv (And.intro hxs hz)))
  have hk0 : (0 : Int) ≤ (k : Int) := by omega
  have hk1 : (k : Int) < 64 := by omega
  have hav : ∃ Av cv, v = .slice Av xs.length cv := by
    have h5 : (slc k114 114 v xs).holds w3 := S3.get (k + 3) hz
    obtain ⟨Av, cv, rfl⟩ := Kd.R_slice h5.1
    exact ⟨Av, cv, rfl⟩
  obtain ⟨Av, cv, rfl⟩ := hav
  have gk : w3.cell? ⟨g, k, none⟩ = some (.slice Av xs.length cv) := wbucket (S3.get 0 rfl) hv
  have HR := Lib.hid (S3.get (k + 3) hz).1
  have hwl := Lib.hid (show (xs.length + 1) * 16 ≤ 140737488355328 by omega)
  have HKL := Lib.hid (show k < V.length by rw [HV.out.1]; exact hk64)
  have H3 := Lib.hid S3
  have ga : ∀ cs t, (w3.alloc (.cells cs t)).cell? ⟨g, k, none⟩ = some (.slice Av xs.length cv) := fun cs t => wbucket ((H3.out.new cs t).get 0 rfl) HK.out.2.1
  have HDU := Lib.hid (And.intro hd0 hd1)
  clear S3 hv hxs hz hk hxl hfl hk64 hml hd0 hd1 H2
  go_region_law
    ((refine step_app1 (W := w3) k114 (by rfl) _ _ 96 114 (.agg #[.int .i64 0, .int .u64 0]) 16 rfl Try.underlying96 info114 rfl (by decide) (by decide) (.slice Av xs.length cv) xs ⟨id, due⟩ [.int .i64 id, .int .u64 due] _ rfl rfl (k114_mkM _ _ _ ⟨id, due⟩) HR.out hwl.out ?_; intro A15 c15 w15 R15 m15 ho15; have S6 := H3.out.app (k + 3) HK.out.2.2.2 rfl R15 m15 ho15; have e15 : w15.cell? ⟨g, k, none⟩ = some (.slice Av xs.length cv) := wbucket (S6.get 0 rfl) HK.out.2.1; have f15 : w15.frozen? ⟨g, k, none⟩ = false := S6.frozen 0 rfl k; have H6 := Lib.hid S6; clear S6 R15 m15 ho15))
  all_goals
    go_wp2_with fail
    go_end0
    refine ⟨rfl, ?_⟩
    have S7 := H6.out.set 0 rfl k (.slice A15 (xs ++ [(⟨id, due⟩ : S114)]).length c15)
    replace S7 := (wL_set0 g mb V B k (.slice A15 (xs ++ [(⟨id, due⟩ : S114)]).length c15) (xs ++ [(⟨id, due⟩ : S114)]) _ _ HKL.out) ▸ S7
    rw [List.length_append] at S7
    have S8 := S7.pure 2 rfl (p' := (V.set k (.slice A15 (xs.length + 1) c15)).length = 64 ∧ WInv (mput M id due) (B.set k (xs ++ [⟨id, due⟩])) (m1 ++ [⟨id, due⟩])) ⟨by rw [List.length_set]; exact HV.out.1, HV.out.2.add HN.out HDU.out.1 HDU.out.2 HK.out.1 HK.out.2.2.1⟩
    have e := HO.out.exUpd i (set_self hi'.out _) (L1 := wL g (m1 ++ [⟨id, due⟩])) ⟨mb, V.set k (.slice A15 (xs.length + 1) c15), mput M id due, B.set k (xs ++ [⟨id, due⟩])⟩ S8
    rw [List.set_set] at e
    exact ⟨_, e⟩
theorem St.nilsN {F : Nat → Prop} {w0 w : World} : ∀ (n : Nat) {L : List Asr}, St F w0 w L → St F w0 w (L ++ zipA (List.replicate n (Value.slice none 0 0)) (List.replicate n []))
  | 0, L, h => by simpa [zipA] using h
  | n + 1, L, h => by
    have h1 := St.nilsN n (h.nils k114 114)
    rw [List.append_assoc] at h1
    exact h1
theorem info99 : (Try.prog.info? 99).map (·.zero) = some (some (.agg (List.replicate 64 (Value.slice none 0 0) ++ [Value.map none]).toArray)) := by kernel_rfl
theorem zero99 (w : World) : (zeroValue 99).run Try.prog w = .ok (.agg (List.replicate 64 (Value.slice none 0 0) ++ [Value.map none]).toArray) w := by
  obtain ⟨i, hi, hz⟩ := Option.map_eq_some_iff.1 info99
  simp only [zeroValue, typeInfo, Sem.run_bind, run_program, Result.andThen, hi, hz, Sem.run_pure]
def wnewPost (F : Nat → Prop) (w0 : World) (A : List Asr) (e : Ending) (w' : World) : Prop := ∃ g S, e = .returned (.pointer (some ⟨g, 0, none⟩)) ∧ St F w0 w' (A ++ [wO g S []])
set_option maxRecDepth 100000 in
set_option maxHeartbeats 4000000 in
theorem wnew_st {F : Nat → Prop} {w0 w : World} {A : List Asr} (h : St F w0 w A) : Calls Try.prog 26 #[] w (wnewPost F w0 A) := by
  have H := Lib.hid h
  have h0 := Lib.hid (St.nil (fun _ => False) w)
  have hz := zero99
  obtain ⟨zc, hzc⟩ : ∃ zc, (List.replicate 64 (Value.slice none 0 0) ++ [Value.map none]).toArray = zc := ⟨_, rfl⟩
  rw [hzc] at hz
  have hs : zc.size = 65 := by rw [← hzc]; simp
  have HZ := Lib.hid hzc
  clear h hzc
  go_enter Try.func26, Try.ntmps26
  go_wp2_with (refine wpList_makeMap rfl 95 rfl (Value.int .i64) (Value.int .u64) ?_; intro hM)
  go_ret
  have S1 := h0.out.add (a := mapA w.heap.size (Value.int .i64) (Value.int .u64) ([] : List (Int × Int))) ((Below.refl _ _).alloc (Nat.le_refl _) _) hM (fun k h => Nat.le_of_eq h.symm)
  have e : zc.setIfInBounds 64 (Value.map (some w.heap.size)) = (List.replicate 64 (Value.slice none 0 0) ++ [Value.map (some w.heap.size)]).toArray := by rw [← HZ.out]; rfl
  rw [e]
  have S2 := S1.new' (List.replicate 64 (Value.slice none 0 0) ++ [Value.map (some w.heap.size)]).toArray 99 (w.heap.size + 1) (by simp)
  have S3 := ((S2.perm (List.Perm.swap _ _ [])).add (a := pureA ((List.replicate 64 (Value.slice none 0 0)).length = 64 ∧ WInv [] (List.replicate 64 []) [])) (Below.refl _ _) ⟨by simp, WInv.new⟩ (fun k h => False.elim h))
  have S4 := St.nilsN 64 S3
  have e5 := H.out.exAdd (L1 := wL (w.heap.size + 1) []) ⟨w.heap.size, List.replicate 64 (Value.slice none 0 0), [], List.replicate 64 []⟩ S4
  exact ⟨w.heap.size + 1, _, rfl, e5⟩
end Go.Proofs.Ytecgnfklfgjgaaa
