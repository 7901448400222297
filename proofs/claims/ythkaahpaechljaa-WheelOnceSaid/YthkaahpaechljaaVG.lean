import Derived.Test.YthkaahpaechljaaVF
namespace Go.Proofs.Ythkaahpaechljaa
open Go.RowKit Go.Tat Go.Proofs.YthkaahpaechljaaW.PrintWords PWheelPlays
theorem St.nilsN {F : Nat → Prop} {w0 w : World} : ∀ (n : Nat) {L : List Asr}, St F w0 w L → St F w0 w (L ++ zipA (List.replicate n (Value.slice none 0 0)) (List.replicate n []))
  | 0, L, h => by simpa [zipA] using h
  | n + 1, L, h => by
    have h1 := St.nilsN n (h.nils k56 56)
    rw [List.append_assoc] at h1
    exact h1
theorem info54 : (Try.prog.info? 54).map (·.zero) = some (some (.agg (List.replicate 64 (Value.slice none 0 0) ++ [Value.map none]).toArray)) := by kernel_rfl
theorem zero54 (w : World) : (zeroValue 54).run Try.prog w = .ok (.agg (List.replicate 64 (Value.slice none 0 0) ++ [Value.map none]).toArray) w := by
  obtain ⟨i, hi, hz⟩ := Option.map_eq_some_iff.1 info54
  simp only [zeroValue, typeInfo, Sem.run_bind, run_program, Result.andThen, hi, hz, Sem.run_pure]
def newPost (F : Nat → Prop) (w0 : World) (A : List Asr) (e : Ending) (w' : World) : Prop := ∃ g S, e = .returned (.pointer (some ⟨g, 0, none⟩)) ∧ St F w0 w' (A ++ [wO g S []])
set_option maxRecDepth 100000 in
set_option maxHeartbeats 4000000 in
theorem new_st {F : Nat → Prop} {w0 w : World} {A : List Asr} (h : St F w0 w A) : Calls Try.prog 7 #[] w (newPost F w0 A) := by
  have H := Lib.hid h
  have h0 := Lib.hid (St.nil (fun _ => False) w)
  have hz := zero54
  obtain ⟨zc, hzc⟩ : ∃ zc, (List.replicate 64 (Value.slice none 0 0) ++ [Value.map none]).toArray = zc := ⟨_, rfl⟩
  rw [hzc] at hz
  have hs : zc.size = 65 := by rw [← hzc]; simp
  have HZ := Lib.hid hzc
  clear h hzc
  go_enter Try.func7, Try.ntmps7
  go_wp2_with (refine wpList_makeMap rfl 26 rfl (Value.int .i64) (Value.int .u64) ?_; intro hM)
  go_ret
  have S1 := h0.out.add (a := mapA w.heap.size (Value.int .i64) (Value.int .u64) ([] : List (Int × Int))) ((Below.refl _ _).alloc (Nat.le_refl _) _) hM (fun k h => Nat.le_of_eq h.symm)
  have e : zc.setIfInBounds 64 (Value.map (some w.heap.size)) = (List.replicate 64 (Value.slice none 0 0) ++ [Value.map (some w.heap.size)]).toArray := by rw [← HZ.out]; rfl
  rw [e]
  have S2 := S1.new' (List.replicate 64 (Value.slice none 0 0) ++ [Value.map (some w.heap.size)]).toArray 54 (w.heap.size + 1) (by simp)
  have S3 := ((S2.perm (List.Perm.swap _ _ [])).add (a := pureA ((List.replicate 64 (Value.slice none 0 0)).length = 64 ∧ WInv [] (List.replicate 64 []) [])) (Below.refl _ _) ⟨by simp, WInv.new⟩ (fun k h => False.elim h))
  have S4 := St.nilsN 64 S3
  have e5 := H.out.exAdd (L1 := wL (w.heap.size + 1) []) ⟨w.heap.size, List.replicate 64 (Value.slice none 0 0), [], List.replicate 64 []⟩ S4
  exact ⟨w.heap.size + 1, _, rfl, e5⟩
theorem len_c {F : Nat → Prop} {w0 w : World} {A : List Asr} (h : St F w0 w A) (i : Nat) {g : Nat} {S : Nat → Prop} {m : List S56} (hi : A[i]? = some (wO g S m)) :
    Calls Try.prog 11 #[.pointer (some ⟨g, 0, none⟩)] w fun e w' => e = .returned (.int .i64 m.length) ∧ w' = w := by
  obtain ⟨⟨mb, V, M, B⟩, S2⟩ := Asr.ex_open (h.get i hi)
  have HV := (show V.length = 64 ∧ WInv M B m from S2.get 2 rfl)
  have gm : w.cell? ⟨g, 64, none⟩ = some (.map (some mb)) := wcell (S2.get 0 rfl) HV.1
  have hl := MapAt.run_len (P := Try.prog) (r := 3) Try.underlying26 (S2.get 1 rfl : MapAt w mb (Value.int .i64) (Value.int .u64) M)
  have e : M.length = m.length := by rw [HV.2.map.length_eq, List.length_map]
  rw [e] at hl
  clear h hi S2 HV e
  go_enter Try.func11, Try.ntmps11
  go_wp2_with fail
  go_ret
  exact ⟨rfl, rfl⟩
theorem add_nil (id due : Int) (w : World) : Calls Try.prog 8 #[.pointer none, .int .i64 id, .int .u64 due] w fun e w' => e = .returned (.tuple #[]) ∧ Below w.heap.size w w' := by
  go_enter Try.func8, Try.ntmps8
  go_wp2
  refine bodyPost_ret (results_none rfl _ _ _) rfl ?_
  exact ⟨rfl, Below.refl _ _⟩
theorem drop_nil (id : Int) (w : World) : Calls Try.prog 15 #[.pointer none, .int .i64 id] w fun e w' => e = .returned (.bool false) ∧ Below w.heap.size w w' := by
  go_enter Try.func15, Try.ntmps15
  go_wp2
  go_ret
  exact ⟨rfl, (Below.refl _ _).alloc (Nat.le_refl _) _⟩
theorem due_nil (t : Int) (w : World) : Calls Try.prog 9 #[.pointer none, .int .u64 t] w fun e w' => e = .returned (.slice none 0 0) ∧ w' = w := by
  go_enter Try.func9, Try.ntmps9
  go_wp2
  go_ret
  exact ⟨rfl, rfl⟩
theorem next_nil (w : World) : Calls Try.prog 17 #[.pointer none] w fun e w' => e = .returned (.tuple #[.int .u64 0, .bool false]) ∧ w' = w := by
  go_enter Try.func17, Try.ntmps17
  go_wp2
  go_ret2
  exact ⟨rfl, rfl⟩
theorem len_nil (w : World) : Calls Try.prog 11 #[.pointer none] w fun e w' => e = .returned (.int .i64 0) ∧ w' = w := by
  go_enter Try.func11, Try.ntmps11
  go_wp2
  go_ret
  exact ⟨rfl, rfl⟩
end Go.Proofs.Ythkaahpaechljaa
