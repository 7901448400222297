import Derived.Test.YthkaahpaechljaaVH
namespace Go.Proofs.Ythkaahpaechljaa
open Go.RowKit Go.Tat Go.Proofs.YthkaahpaechljaaW.PrintWords Go.Proofs.YthkaahpaechljaaW.PrintLast Go.Proofs.YthkaahpaechljaaW.PrintMore PWheelPlays
def leastI (a : Int) (l : List S56) : Int := l.foldl (fun a t => min a t.f1) a
def nextD (m : List S56) : Int := if m.length = 0 then 0 else leastI 18446744073709551615 m
theorem leastI_app (a : Int) (l l' : List S56) : leastI a (l ++ l') = leastI (leastI a l) l' := List.foldl_append
theorem leastI_perm {l l' : List S56} (p : l.Perm l') : ∀ a, leastI a l = leastI a l' := by
  induction p with
  | nil => intro a; rfl
  | cons x _ ih => intro a; exact ih _
  | swap x y l => intro a; show leastI (min (min a _) _) l = leastI (min (min a _) _) l; congr 1; omega
  | trans _ _ h1 h2 => intro a; rw [h1, h2]
theorem take_flatten_succ {B : List (List S56)} {j : Nat} {xs : List S56} (h : B[j]? = some xs) : (B.take (j + 1)).flatten = (B.take j).flatten ++ xs := by
  rw [List.take_add_one, h, List.flatten_append]
  simp
theorem leastI_succ {xs : List S56} {q : Nat} {x : S56} (h : xs[q]? = some x) (a : Int) : leastI a (xs.take (q + 1)) = min (leastI a (xs.take q)) x.f1 := by
  rw [List.take_add_one, h, leastI_app]
  rfl
set_option maxRecDepth 100000 in
set_option maxHeartbeats 4000000 in
theorem next_c {F : Nat → Prop} {w0 w : World} {A : List Asr} (h : St F w0 w A) (i : Nat) {g : Nat} {S : Nat → Prop} {m : List S56} (hi : A[i]? = some (wO g S m)) (hml : m.length ≤ 1000000) :
    Calls Try.prog 17 #[.pointer (some ⟨g, 0, none⟩)] w fun e w' => e = .returned (.tuple #[.int .u64 (nextD m), .bool (decide (m.length ≠ 0))]) ∧ Below w.heap.size w w' := by
  obtain ⟨⟨mb, V, M, B⟩, S2⟩ := Asr.ex_open (h.get i hi)
  have HV := Lib.hid (show V.length = 64 ∧ WInv M B m from S2.get 2 rfl)
  have hbk : (blk g (V ++ [Value.map (some mb)]).toArray 54).holds w := S2.get 0 rfl
  have hcl : ∀ (j : Nat) v, V[j]? = some v → w.cell? ⟨g, 0 + j, none⟩ = some v := fun j v hv => by rw [Nat.zero_add]; exact wbucket hbk hv
  have HCL := Lib.hid hcl
  have hVl : (Try.prog.info? 52).map (·.size) = some V.length := by rw [HV.out.1]; kernel_rfl
  have HVL := Lib.hid hVl
  have gm : w.cell? ⟨g, 64, none⟩ = some (.map (some mb)) := wcell (S2.get 0 rfl) HV.out.1
  have hl := MapAt.run_len (P := Try.prog) (r := 3) Try.underlying26 (S2.get 1 rfl : MapAt w mb (Value.int .i64) (Value.int .u64) M)
  have e : M.length = m.length := by rw [HV.out.2.map.length_eq, List.length_map]
  rw [e] at hl
  have H2 := Lib.hid S2
  clear h hi S2 hbk hcl hVl e
  unfold nextD
  by_cases h0 : m.length = 0
  · rw [if_pos h0]
    have h0' : (m.length : Int) = 0 := by omega
    go_enter Try.func17, Try.ntmps17
    go_wp2_with fail
    go_ret2
    exact ⟨by simp [h0], Below.refl _ _⟩
  · rw [if_neg h0]
    have h0' : ¬ (m.length : Int) = 0 := by omega
    have hlp := leastI_perm HV.out.2.perm 18446744073709551615
    rw [← hlp]
    clear hlp
    go_enter Try.func17, Try.ntmps17
    go_wp2_with (refine wpList_load_at rfl 52 _ rfl g 0 (.array 64 51) V rfl HCL.out Try.underlying52 rfl HVL.out ?_)
    clear gm hl
    go_loopg [4, 23] 65 (fun n v4 v23 wx => ∃ j : Nat, v23 = .int .i64 j ∧ j ≤ 64 ∧ 64 - j < n ∧ v4 = .int .u64 (leastI 18446744073709551615 (B.take j).flatten) ∧ St S w wx (wL g m ⟨mb, V, M, B⟩) ∧ Below w.heap.size w wx)
    case atStart => exact ⟨0, rfl, by omega, by omega, rfl, H2.out, Below.refl _ _⟩
    case round =>
      clear H2
      obtain ⟨j, rfl, hj, hjm, rfl, S3, b3⟩ := hrel
      have HB3 := Lib.hid b3
      clear b3
      by_cases hjl : j < 64
      · have hjl' : (j : Int) < 64 := by omega
        have hj0 : (0 : Int) ≤ (j : Int) := by omega
        obtain ⟨v, hv⟩ : ∃ v, V[j]? = some v := ⟨_, List.getElem?_eq_getElem (by rw [HV.out.1]; exact hjl)⟩
        obtain ⟨xs, hxs⟩ : ∃ xs, B[j]? = some xs := ⟨_, List.getElem?_eq_getElem (by rw [HV.out.2.len]; exact hjl)⟩
        have hz := zipA_get hv hxs
        have hxl := HV.out.2.xlen hxs
        have hget : (wL g m ⟨mb, V, M, B⟩)[j + 3]? = some (slc k56 56 v xs) := hz
        have hav : ∃ Av cv, v = .slice Av xs.length cv := by
          obtain ⟨Av, cv, rfl⟩ := Kd.R_slice (S3.get (j + 3) hget).1
          exact ⟨Av, cv, rfl⟩
        obtain ⟨Av, cv, rfl⟩ := hav
        have hix := index_run hv hjl
        have hrs := Lib.hid (take_flatten_succ hxs)
        obtain ⟨a0, ha0⟩ : ∃ a0, leastI 18446744073709551615 (B.take j).flatten = a0 := ⟨_, rfl⟩
        rw [ha0]
        have HA0 := Lib.hid ha0
        have H3 := Lib.hid S3
        have HI := Lib.hid (And.intro hj (And.intro hjm hml))
        have HG := Lib.hid (show (wL g m ⟨mb, V, M, B⟩)[j + 3]? = some (slc k56 56 (.slice Av xs.length cv) xs) from hget)
        have HXL := Lib.hid hxl
        clear S3 ha0 hv hxs hz hget hxl hj hjm
        go_wp2_with fail
        clear hix
        go_loopg [4, 28] (xs.length + 1) (fun n v4 v28 wx => ∃ q : Nat, v28 = .int .i64 q ∧ q ≤ xs.length ∧ xs.length - q < n ∧ v4 = .int .u64 (leastI a0 (xs.take q)) ∧ St S w wx (wL g m ⟨mb, V, M, B⟩) ∧ Below w.heap.size w wx)
        case atStart => exact ⟨0, rfl, by omega, by omega, rfl, H3.out, HB3.out⟩
        case round =>
          clear H3 HB3
          obtain ⟨q, rfl, hq, hqm, rfl, S4, b4⟩ := hrel
          have HB4 := Lib.hid b4
          clear b4
          by_cases hql : q < xs.length
          · have hql' : (q : Int) < (xs.length : Int) := by omega
            have hq0 : (0 : Int) ≤ (q : Int) := by omega
            obtain ⟨x, hx⟩ : ∃ x, xs[q]? = some x := ⟨_, List.getElem?_eq_getElem hql⟩
            have hfs := Lib.hid (leastI_succ hx a0)
            obtain ⟨a1, ha1⟩ : ∃ a1, leastI a0 (xs.take q) = a1 := ⟨_, rfl⟩
            rw [ha1]
            have HA1 := Lib.hid ha1
            obtain ⟨gB, cB', hv, _, hcB⟩ := slc_form (S4.get _ HG.out) (by omega)
            injection hv with hv1 hvl hv2
            subst hv1; subst hv2
            have u0 : wr.cell? ⟨gB, q * 2, none⟩ = some (.int .i64 x.f0) := (S4.elem fl56 (j + 3) HG.out (i := q) (c := 0) hx (by decide)).1
            have u1 : wr.cell? ⟨gB, q * 2 + 1, none⟩ = some (.int .u64 x.f1) := (S4.elem fl56 (j + 3) HG.out (i := q) (c := 1) hx (by decide)).1
            obtain ⟨xi, xd⟩ := x
            have H4 := Lib.hid S4
            have HQ := Lib.hid (And.intro hq hqm)
            clear S4 ha1 hq hqm hx hvl hcB
            dsimp only at u0 u1
            have hqb : (q : Int) < 1000000 := by have := HXL.out; omega
            go_upto_region 10 with fail
            have S5 := H4.out.new' #[.int .i64 xi, .int .u64 xd] 56 wr.heap.size rfl
            have HB5 := Lib.hid (HB4.out.alloc HB4.out.size (.cells #[.int .i64 xi, .int .u64 xd] 56))
            obtain ⟨z, hz⟩ : ∃ z, wr.heap.size = z := ⟨_, rfl⟩
            rw [hz] at S5 ⊢
            clear hz
            generalize World.alloc wr _ = w5 at *
            have d1 : w5.cell? ⟨z, 1, none⟩ = some (.int .u64 xd) := blk_cell (S5.get _ (tail_at _ _)) 1
            have H5 := Lib.hid (S5.sub (List.sublist_append_left _ _))
            clear S5 H4 u0 u1 HB4
            go_wp2_with fail
            go_roundg (xs.length - q)
            case measure => have := HQ.out; omega
            case rel =>
              have := HQ.out
              exact ⟨q + 1, by go_num, by omega, by omega, by rw [hfs.out, HA1.out], H5.out, HB5.out⟩
          · have hqe : q = xs.length := by omega
            subst hqe
            have hql' : ¬ ((xs.length : Int) < (xs.length : Int)) := by omega
            rw [List.take_length]
            have H4 := Lib.hid S4
            clear S4
            go_wp2_with fail
            go_roundg (64 - j)
            case measure => have := HI.out; omega
            case rel =>
              have := HI.out
              exact ⟨j + 1, by go_num, by omega, by omega, by rw [hrs.out, leastI_app, HA0.out], H4.out, HB4.out⟩
      · have hje : j = 64 := by omega
        subst hje
        have hr : (B.take 64).flatten = B.flatten := by rw [← HV.out.2.len, List.take_length]
        rw [hr]
        clear hr S3
        go_wp2_with fail
        go_ret2
        exact ⟨by simp [h0], HB3.out⟩
end Go.Proofs.Ythkaahpaechljaa
