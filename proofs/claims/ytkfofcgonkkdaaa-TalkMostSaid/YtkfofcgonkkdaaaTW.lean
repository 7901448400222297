import Derived.Test.YtkfofcgonkkdaaaTV
namespace Go.Proofs.Ytkfofcgonkkdaaa
open Go.RowKit Go.Tat Go.Proofs.YtkfofcgonkkdaaaW.PrintWords PTalkPlays
/-- The nodes that were met. -/
def seenM (l : List S33) : List (Int × Bool) := l.foldl (fun s u => mput s u.f0 true) []
theorem seenM_succ {l : List S33} {q : Nat} {u : S33} (h : l[q]? = some u) : seenM (l.take (q + 1)) = mput (seenM (l.take q)) u.f0 true := by
  obtain ⟨hl, he⟩ := List.getElem?_eq_some_iff.1 h
  unfold seenM
  rw [← List.take_append_getElem hl, List.foldl_append, he]; rfl
theorem seenM_get (l : List S33) (x : Int) (hx : x ∉ l.map (fun u => u.f0)) : mget (seenM l) x = none := by
  rw [mget_none]
  intro h
  apply hx
  have : ∀ (l : List S33) (s : List (Int × Bool)), ∀ y, y ∈ (l.foldl (fun s u => mput s u.f0 true) s).map (·.1) → y ∈ s.map (·.1) ∨ y ∈ l.map (fun u => u.f0) := by
    intro l
    induction l with
    | nil => intro s y hy; exact .inl hy
    | cons a l ih =>
      intro s y hy
      rcases ih _ y hy with h | h
      · rw [mput_keys] at h
        split at h
        · exact .inl h
        · rcases List.mem_append.1 h with h | h
          · exact .inl h
          · rw [List.mem_singleton.1 h]; exact .inr (by simp)
      · exact .inr (by simp only [List.map_cons, List.mem_cons]; exact .inr h)
  rcases this l [] x h with h | h
  · simp at h
  · exact h
theorem seen_new {l : List S33} {q : Nat} {u : S33} (h : l[q]? = some u) (hn : (l.map (fun u => u.f0)).Nodup) : mget (seenM (l.take q)) u.f0 = none := by
  refine seenM_get _ _ fun hm => ?_
  obtain ⟨hl, he⟩ := List.getElem?_eq_some_iff.1 h
  have e : l = l.take q ++ u :: l.drop (q + 1) := by rw [← he, ← List.drop_eq_getElem_cons hl, List.take_append_drop]
  rw [e, List.map_append, List.map_cons, List.nodup_append] at hn
  exact hn.2.2 _ hm _ (by simp) rfl
set_option maxRecDepth 100000 in
set_option maxHeartbeats 8000000 in
theorem most_c (a b : Nat) (ha : a < 256) (hb : b < 256) (ops : List S35) (A : Option Addr) (c : Nat) (W : World) (hC : k35.C W A ops.length ops) :
    Calls Try.prog 6 #[.int .u8 a, .int .u8 b, .slice A ops.length c] W fun e w' => e = .returned (.bool true) ∧ Below W.heap.size W w' := by
  obtain ⟨k, hk⟩ : ∃ k : Nat, 1 + b % 64 = k := ⟨_, rfl⟩
  obtain ⟨n, hn⟩ : ∃ n : Nat, 1 + a % 64 = n := ⟨_, rfl⟩
  have hk1 : 1 ≤ k ∧ k ≤ 64 := by omega
  have hn1 : 1 ≤ n ∧ n ≤ 64 := by omega
  have hmx := Kd.C_max hC
  have HC := Lib.hid hC
  clear hC
  have hbi : (b : Int) < 256 := by omega
  have hai : (a : Int) < 256 := by omega
  have ek : (1 : Int) + (b : Int) % 64 = (k : Int) := by omega
  have en : (1 : Int) + (a : Int) % 64 = (n : Int) := by omega
  have EK := Lib.hid (And.intro ek (And.intro en (And.intro hk1 hn1)))
  have hkI : (k : Int) ≤ 64 := by omega
  clear ek en hk hn hk1 hn1 ha hb
  go_enter Try.func6, Try.ntmps6
  go_upto_region 2 with fail
  rw [EK.out.1]
  go_wp2_with fail
  rw [EK.out.2.1]
  have e1 := EK.out.2.2
  refine (new_st (St.nil (fun _ => False) W) n k (by omega) (by omega)).mono ?_
  clear e1
  rintro e w1 ⟨g, S, rfl, S1⟩
  have HS := Lib.hid S1
  clear S1
  go_wp2_with fail
  refine (fixed_c w1).mono ?_
  rintro e w2 ⟨rfl, b2⟩
  have S2 := HS.out.below b2
  have HS2 := Lib.hid S2
  clear S2 b2 HS
  go_upto_region 6 with (refine wpList_makeMap rfl 45 rfl (Value.int .u8) evN ?_; intro hM)
  have S3 := HS2.out.add (a := mapA w2.heap.size (Value.int .u8) evN ([] : List (Int × S33))) ((Below.refl _ _).alloc (Nat.le_refl _) _) hM (fun k h => Nat.le_of_eq h.symm)
  have H3 := Lib.hid S3
  clear S3 hM HS2
  generalize w2.heap.size = mb at *
  generalize w2.alloc _ = w3 at *
  go_upto_block 0 with fail
  go_cut [] (fun wx => Below W.heap.size W wx)
  case first =>
    go_wp2_with fail
    go_loopg [39] (ops.length + 1) (fun m v39 wx => ∃ (j : Nat) (p : Tk) (M : List (Int × S33)) (S : Nat → Prop), v39 = .int .i64 j ∧ ops.length - j < m ∧ j ≤ ops.length ∧ j ≤ 201 ∧ (0 ≤ p.came ∧ p.came ≤ j) ∧ p.pieces.length ≤ j ∧ (p.times = n ∧ p.most = k) ∧ MI p M ∧ St (fun _ => False) W wx [tO g S p, mapA mb (Value.int .u8) evN M])
    case atStart => exact ⟨0, _, [], S, rfl, by omega, by omega, by omega, ⟨Int.le_refl _, Int.le_refl _⟩, Nat.le_refl _, ⟨rfl, rfl⟩, MI.start _ _, H3.out⟩
    case round =>
      clear H3
      obtain ⟨j, p, M, S, rfl, hjm, hj, hj2, hcm, hpl, hp, I, S4⟩ := hrel
      have H4 := Lib.hid (And.intro S4 (And.intro I (And.intro hp (And.intro hcm (And.intro hpl (And.intro hjm (And.intro hj hj2)))))))
      clear I S4 hp hcm hpl hjm hj
      by_cases hjl : j < ops.length
      · have hjl' : (j : Int) < (ops.length : Int) := by omega
        have hj0 : (0 : Int) ≤ (j : Int) := by omega
        obtain ⟨x, hx⟩ : ∃ x, ops[j]? = some x := ⟨_, List.getElem?_eq_getElem hjl⟩
        obtain ⟨ad, b, o, cs, rfl, had, hb, hK, hcs⟩ := C_at HC.out hx (by decide)
        obtain ⟨xt, xn, xs, xi⟩ := x
        obtain rfl := k35_open hK
        dsimp only at hcs
        have hBw := H4.out.1.base
        have c0 := (hBw.cell (p := ⟨b, o, none⟩) hb).trans (hcs 0 _ rfl)
        have c1 := (hBw.cell (p := ⟨b, o + 1, none⟩) hb).trans (hcs 1 _ rfl)
        have c2 := (hBw.cell (p := ⟨b, o + 2, none⟩) hb).trans (hcs 2 _ rfl)
        have c3 := (hBw.cell (p := ⟨b, o + 3, none⟩) hb).trans (hcs 3 _ rfl)
        have had' : ad.add (j * 4) = ⟨b, o, none⟩ := had
        clear hK hcs had hx hBw
        go_upto_region 9 with fail
        have S5 := H4.out.1.new' #[.bool xt, .int .u8 xn, .int .u8 xs, .int .u32 xi] 35 wr.heap.size rfl
        generalize wr.heap.size = z at *
        generalize World.alloc _ _ = w4 at *
        have d0 : w4.cell? ⟨z, 0, none⟩ = some (.bool xt) := S5.cell 2 rfl 0
        have d1 : w4.cell? ⟨z, 1, none⟩ = some (.int .u8 xn) := S5.cell 2 rfl 1
        have d2 : w4.cell? ⟨z, 2, none⟩ = some (.int .u8 xs) := S5.cell 2 rfl 2
        have d3 : w4.cell? ⟨z, 3, none⟩ = some (.int .u32 xi) := S5.cell 2 rfl 3
        have H5 := Lib.hid (And.intro S5 H4.out.2)
        clear S5 H4 c0 c1 c2 c3 had'
        by_cases hbr : (200 : Int) < (j : Int)
        · go_wp2_with fail
          go_meet
          exact H5.out.1.base
        · have hj2' : j ≤ 200 := by omega
          cases xt with
          | false =>
            by_cases hx64 : xn < 64
            · go_wp2_with fail
              have hA := H5.out.2.2.2
              refine (add_st H5.out.1 0 rfl ⟨xn, ⟨xs, xi⟩⟩ hx64 hA.1.1 (by omega) (by omega)).mono ?_
              clear hA
              rintro e w5 ⟨rfl, S', S6⟩
              have d1' : w5.cell? ⟨z, 1, none⟩ = some (.int .u8 xn) := S6.cell 2 rfl 1
              have d2' : w5.cell? ⟨z, 2, none⟩ = some (.int .u8 xs) := S6.cell 2 rfl 2
              have d3' : w5.cell? ⟨z, 3, none⟩ = some (.int .u32 xi) := S6.cell 2 rfl 3
              have H6 := Lib.hid S6
              clear S6 d0 d1 d2 d3
              go_wp2_with (at_mapUpdate; refine wpList_mapUpdate rfl 45 5 33 _ _ _ rfl Try.underlying45 keys5 evN mb _ (H6.out.get 1 rfl) xn ⟨xn, ⟨xs, xi⟩⟩ rfl rfl rfl ?_; intro w9 M9 m9)
              have S7 := H6.out.upd 1 rfl m9 (a' := mapA mb (Value.int .u8) evN (mput M xn ⟨xn, ⟨xs, xi⟩⟩)) M9 (fun k h => .inl h)
              have H7 := Lib.hid (S7.drop 2)
              clear S7 M9 m9 H6 d1' d2' d3'
              go_roundg (ops.length - j)
              case measure => have := H5.out.2.2.2; omega
              case rel =>
                obtain ⟨I, hp, hcm, hpl, hjm, hj, hj2⟩ := H5.out.2
                have e1 := EK.out.2.2
                have hl := addF_len p ⟨xn, ⟨xs, xi⟩⟩
                exact ⟨j + 1, addF p ⟨xn, ⟨xs, xi⟩⟩, _, S', by go_num, by omega, by omega, by omega, ⟨by show 0 ≤ p.came + 1; omega, by show p.came + 1 ≤ _; omega⟩, by omega, hp, I.add _ (by rw [hp.1]; omega), H7.out⟩
            · go_wp2_with fail
              refine add_high ⟨xn, ⟨xs, xi⟩⟩ (by show 64 ≤ xn; omega) ?_
              intro w5 b5
              have H6 := Lib.hid ((H5.out.1.below b5).drop 2)
              clear d0 d1 d2 d3 b5
              go_wp2_with fail
              go_roundg (ops.length - j)
              case measure => have := H5.out.2.2.2; omega
              case rel =>
                obtain ⟨I, hp, hcm, hpl, hjm, hj, hj2⟩ := H5.out.2
                exact ⟨j + 1, p, M, S, by go_num, by omega, by omega, by omega, by omega, by omega, hp, I, H6.out⟩
          | true =>
            go_upto_region 14 with (refine wpList_makeMap rfl 49 rfl (Value.int .u8) Value.bool ?_; intro hM)
            have S6 := (H5.out.1.drop 2).add (a := mapA w4.heap.size (Value.int .u8) Value.bool ([] : List (Int × Bool))) ((Below.refl _ _).alloc (Nat.le_refl _) _) hM (fun k h => Nat.le_of_eq h.symm)
            have H6 := Lib.hid S6
            clear S6 hM d0 d1 d2 d3
            generalize w4.heap.size = sb at *
            generalize w4.alloc _ = w5 at *
            have hP := H5.out.2
            have HT := Lib.hid (take_d H6.out 0 rfl hP.1.ti (by omega) (by rw [hP.2.1.2]; have := EK.out.2.2; omega) (by rw [hP.2.1.1]; have := EK.out.2.2; omega))
            clear hP
            go_wp2_with fail
            refine HT.out.mono ?_
            rintro e w6 ⟨v', S', rfl, S7⟩
            have H7 := Lib.hid S7
            obtain ⟨AL, cL, rfl⟩ := Kd.R_slice (S7.get 3 rfl).1
            have hlm := Kd.C_max (Kd.R_reads' (S7.get 3 rfl).1).2.2
            have hln : ((takeL p).length : Int) ≤ (k : Int) := by have := takeL_len (p := p) (by rw [H5.out.2.2.1.2]; omega); rw [H5.out.2.2.1.2] at this; exact this
            clear S7 HT H6
            obtain ⟨L, hL⟩ : ∃ L, takeL p = L := ⟨_, rfl⟩
            have H7' := H7.out
            rw [hL] at H7' hlm hln
            rw [hL]
            have HL := Lib.hid hL
            have H8 := Lib.hid H7'
            clear H7' H7 hL
            go_wp2_with fail
            go_loopg [65] (L.length + 1) (fun m v65 wx => ∃ q : Nat, v65 = .int .i64 q ∧ q ≤ L.length ∧ L.length - q < m ∧ St (fun _ => False) W wx [tO g S' (takeD p), mapA mb (Value.int .u8) evN M, mapA sb (Value.int .u8) Value.bool (seenM (L.take q)), slc k33 33 (.slice AL L.length cL) L])
            case atStart => exact ⟨0, rfl, by omega, by omega, H8.out⟩
            case round =>
              clear H8
              obtain ⟨q, rfl, hq, hqm, S9⟩ := hrel
              by_cases hql : q < L.length
              · have hql' : (q : Int) < (L.length : Int) := by omega
                have hq0 : (0 : Int) ≤ (q : Int) := by omega
                obtain ⟨u, hu⟩ : ∃ u, L[q]? = some u := ⟨_, List.getElem?_eq_getElem hql⟩
                have hI := H5.out.2.1
                have hun : mget M u.f0 = some u := hI.told (by rw [HL.out]; exact List.mem_of_getElem? hu)
                have hus : mget (seenM (L.take q)) u.f0 = none := seen_new hu (by have := hI.once; rw [HL.out] at this; exact this)
                obtain ⟨gL, cL', hv, _, hcL⟩ := slc_form (S9.get 3 rfl) (by omega)
                injection hv with hv1 hvl hv2
                subst hv1; subst hv2
                have E0 : ∀ c, c < 3 → wr.cell? ⟨gL, q * 3 + c, none⟩ = (e33 u)[c]? ∧ wr.frozen? ⟨gL, q * 3 + c, none⟩ = false := fun c hc => (S9.elem fl33 3 rfl (i := q) (c := c) hu hc)
                have hsq := Lib.hid (seenM_succ hu)
                obtain ⟨un, us, ui⟩ := u
                have u0 : wr.cell? ⟨gL, q * 3, none⟩ = some (.int .u8 un) := (E0 0 (by decide)).1
                have u1 : wr.cell? ⟨gL, q * 3 + 1, none⟩ = some (.int .u8 us) := (E0 1 (by decide)).1
                have u2 : wr.cell? ⟨gL, q * 3 + 2, none⟩ = some (.int .u32 ui) := (E0 2 (by decide)).1
                have H9 := Lib.hid (And.intro S9 (And.intro hun hus))
                clear S9 hun hus hu E0 hI hcL hvl
                go_upto_region 18 with fail
                have S10 := H9.out.1.new' #[.int .u8 un, .int .u8 us, .int .u32 ui] 33 wr.heap.size rfl
                generalize wr.heap.size = y at *
                generalize World.alloc _ _ = w8 at *
                have y0 : w8.cell? ⟨y, 0, none⟩ = some (.int .u8 un) := S10.cell 4 rfl 0
                have y1 : w8.cell? ⟨y, 1, none⟩ = some (.int .u8 us) := S10.cell 4 rfl 1
                have y2 : w8.cell? ⟨y, 2, none⟩ = some (.int .u32 ui) := S10.cell 4 rfl 2
                have k1 := ((S10.get 2 rfl : MapAt w8 sb (Value.int .u8) Value.bool (seenM (L.take q))).look Try.underlying49 keys5 un _ zero4 none H9.out.2.2 (.bool false) rfl).1
                have k2 := ((S10.get 1 rfl : MapAt w8 mb (Value.int .u8) evN M).look Try.underlying45 keys5 un _ zero33 (some ⟨un, ⟨us, ui⟩⟩) H9.out.2.1 (.agg #[.int .u8 un, .int .u8 us, .int .u32 ui]) rfl).1
                have H10 := Lib.hid S10
                clear S10 H9 u0 u1 u2
                go_wp2_with (at_mapUpdate; refine wpList_mapUpdate rfl 49 5 4 _ _ _ rfl Try.underlying49 keys5 Value.bool sb _ (H10.out.get 2 rfl) un true rfl rfl rfl ?_; intro w9 M9 m9)
                have S11 := H10.out.upd 2 rfl m9 (a' := mapA sb (Value.int .u8) Value.bool (seenM (L.take (q + 1)))) (by rw [hsq.out]; exact M9) (fun k h => .inl h)
                have H11 := Lib.hid (S11.drop 4)
                clear S11 M9 m9 H10 k1 k2 y0 y1 y2
                go_roundg (L.length - q)
                case measure => omega
                case rel => exact ⟨q + 1, by go_num, by omega, by omega, H11.out⟩
              · have hql' : ¬ (q : Int) < (L.length : Int) := by omega
                have hlk : ¬ (k : Int) < (L.length : Int) := by omega
                have H9 := Lib.hid (S9.sub (M := [tO g S' (takeD p), mapA mb (Value.int .u8) evN M]) (by simp))
                clear S9
                go_wp2_with fail
                go_roundg (ops.length - j)
                case measure => have := H5.out.2.2.2; omega
                case rel =>
                  obtain ⟨I, hp, hcm, hpl, hjm, hj, hj2⟩ := H5.out.2
                  have hl := takeD_len p
                  exact ⟨j + 1, takeD p, M, S', by go_num, by omega, by omega, by omega, ⟨hcm.1, by show p.came ≤ _; omega⟩, by omega, hp, I.take, H9.out⟩
      · have hjl' : ¬ (j : Int) < (ops.length : Int) := by omega
        go_wp2_with fail
        go_meet
        exact H4.out.1.base
  case rest =>
    clear H3 HC
    have HB := Lib.hid hcut
    clear hcut
    go_wp2_with fail
    go_ret
    exact ⟨rfl, HB.out⟩
theorem most_row (a0 a1 : Int) (w0 : (Lit.int .u8 a0).wf = true) (w1 : (Lit.int .u8 a1).wf = true) (ops : List S35) (A : Option Addr) (c : Nat) (W : World) (hC : k35.C W A ops.length ops) :
    Calls Try.prog 6 #[.int .u8 a0, .int .u8 a1, .slice A ops.length c] W fun e w' => e = .returned (.bool true) ∧ Below W.heap.size W w' := by
  have b0 := u8_wf w0
  have b1 := u8_wf w1
  obtain ⟨a, rfl⟩ : ∃ a : Nat, a0 = a := ⟨a0.toNat, by omega⟩
  obtain ⟨n, rfl⟩ : ∃ n : Nat, a1 = n := ⟨a1.toNat, by omega⟩
  exact most_c a n (by omega) (by omega) ops A c W hC
end Go.Proofs.Ytkfofcgonkkdaaa
