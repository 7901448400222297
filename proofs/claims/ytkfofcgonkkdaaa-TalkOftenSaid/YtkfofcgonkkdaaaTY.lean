import Derived.Test.YtkfofcgonkkdaaaTX
namespace Go.Proofs.Ytkfofcgonkkdaaa
open Go.RowKit Go.Tat Go.Proofs.YtkfofcgonkkdaaaW.PrintWords PTalkPlays
structure AI (p : Tk) (M : List (Int × S33)) : Prop where
  mi : MI p M
  keys : ∀ x, x ∈ M.map (·.1) ↔ x ∈ p.pieces.map nod
  zero : ∀ x ∈ p.pieces, x.f1 = 0 ∧ 0 ≤ x.f0.f0 ∧ x.f0.f0 < 64
theorem AI.start (n k : Int) : AI ⟨[], n, k, 0⟩ [] := ⟨MI.start n k, by simp, by simp⟩
theorem AI.add {p : Tk} {M : List (Int × S33)} (h : AI p M) (x : S33) (ht : 1 ≤ p.times) (h0 : 0 ≤ x.f0) (h1 : x.f0 < 64) : AI (addF p x) (mput M x.f0 x) := by
  have hn : ∀ y, y ∈ (addF p x).pieces.map nod ↔ (y ∈ p.pieces.map nod ∧ y ≠ x.f0) ∨ y = x.f0 := fun y => by
    show y ∈ ((p.pieces.filter fun y => !(y.f0.f0 == x.f0)) ++ [(⟨x, 0, p.came + 1⟩ : S60)]).map nod ↔ _
    rw [List.map_append, List.mem_append]
    constructor
    · rintro (hy | hy)
      · obtain ⟨z, hz, rfl⟩ := List.mem_map.1 hy
        obtain ⟨hz1, hz2⟩ := List.mem_filter.1 hz
        exact .inl ⟨List.mem_map.2 ⟨z, hz1, rfl⟩, by show ¬ z.f0.f0 = x.f0; simpa using hz2⟩
      · exact .inr (by simpa [nod] using hy)
    · rintro (⟨hy, hne⟩ | rfl)
      · obtain ⟨z, hz, rfl⟩ := List.mem_map.1 hy
        exact .inl (List.mem_map.2 ⟨z, List.mem_filter.2 ⟨hz, by have h2 : ¬ z.f0.f0 = x.f0 := hne; simpa using h2⟩, rfl⟩)
      · exact .inr (by simp [nod])
  refine ⟨h.mi.add x ht, fun y => ?_, fun y hy => ?_⟩
  · rw [hn, mput_keys, ← h.keys]
    split
    · rename_i hm
      constructor
      · intro hy
        by_cases e : y = x.f0
        · exact .inr e
        · exact .inl ⟨hy, e⟩
      · rintro (⟨hy, _⟩ | rfl)
        · exact hy
        · exact hm
    · rename_i hm
      rw [List.mem_append, List.mem_singleton]
      constructor
      · rintro (hy | rfl)
        · exact .inl ⟨hy, fun e => hm (e ▸ hy)⟩
        · exact .inr rfl
      · rintro (⟨hy, _⟩ | rfl)
        · exact .inl hy
        · exact .inr rfl
  · rcases List.mem_append.1 hy with hy | hy
    · exact h.zero y (List.mem_filter.1 hy).1
    · rw [List.mem_singleton.1 hy]
      exact ⟨rfl, h0, h1⟩
theorem AI.often {p : Tk} {M : List (Int × S33)} (h : AI p M) (h1 : 1 ≤ p.times) : OI p M [] := by
  have hc : ∀ x, cnt [] x = 0 := fun _ => rfl
  exact ⟨h.mi, h1, fun x hx => by rw [hc]; exact (h.zero x hx).1.symm, fun x hx => .inl ((h.keys x).1 hx), by simp, fun x => by rw [hc]; omega⟩
theorem look_cnt (T : List (Int × Int)) (x : Int) : ((mget T x).map (Value.int .i64)).getD (.int .i64 0) = .int .i64 (cnt T x) := by
  unfold cnt
  cases mget T x <;> rfl
theorem OI.done {p : Tk} {M : List (Int × S33)} {T : List (Int × Int)} (h : OI p M T) (hp : p.pieces = []) {x : Int} (hx : x ∈ M.map (·.1)) : cnt T x = p.times := by
  rcases h.all x hx with h1 | h1
  · rw [hp] at h1; simp at h1
  · exact h1
theorem OI.same {p : Tk} {M : List (Int × S33)} {T : List (Int × Int)} (h : OI p M T) (hp : p.pieces = []) (hM : (M.map (·.1)).Nodup) (hT : (T.map (·.1)).Nodup) : T.length = M.length := by
  have : (T.map (·.1)).Perm (M.map (·.1)) := (List.perm_ext_iff_of_nodup hT hM).2 fun x => ⟨h.sub x, fun hx => by
    have h1 := h.done hp hx
    have h2 := h.one
    refine Decidable.byContradiction fun hn => ?_
    have : mget T x = none := mget_none.2 hn
    unfold cnt at h1
    rw [this] at h1
    simp at h1
    omega⟩
  simpa using this.length_eq
theorem keys46 : KeyLaw Try.prog 5 (Value.int .u8) := keys5
theorem zero3 : (Try.prog.info? 3).map (·.zero) = some (some (.int .i64 0)) := by kernel_rfl
set_option maxRecDepth 100000 in
set_option maxHeartbeats 8000000 in
theorem often_c (a b : Nat) (ha : a < 256) (hb : b < 256) (l : List S33) (A : Option Addr) (c : Nat) (W : World) (hC : k33.C W A l.length l) (h0 : ∀ x ∈ l, 0 ≤ x.f0) :
    Calls Try.prog 4 #[.int .u8 a, .int .u8 b, .slice A l.length c] W fun e w' => e = .returned (.bool true) ∧ Below W.heap.size W w' := by
  obtain ⟨k, hk⟩ : ∃ k : Nat, 1 + b % 8 = k := ⟨_, rfl⟩
  obtain ⟨n, hn⟩ : ∃ n : Nat, 1 + a % 8 = n := ⟨_, rfl⟩
  have hk1 : 1 ≤ k ∧ k ≤ 8 := by omega
  have hn1 : 1 ≤ n ∧ n ≤ 8 := by omega
  have hmx := Kd.C_max hC
  have HC := Lib.hid (And.intro hC h0)
  clear hC h0
  have hbi : (b : Int) < 256 := by omega
  have hai : (a : Int) < 256 := by omega
  have ek : (1 : Int) + (b : Int) % 8 = (k : Int) := by omega
  have en : (1 : Int) + (a : Int) % 8 = (n : Int) := by omega
  have EK := Lib.hid (And.intro ek (And.intro en (And.intro hk1 hn1)))
  have hkI : (k : Int) ≤ 8 := by omega
  have hnI : (n : Int) ≤ 8 := by omega
  clear ek en hk hn hk1 hn1 ha hb
  go_enter Try.func4, Try.ntmps4
  go_upto_region 2 with fail
  rw [EK.out.1, EK.out.2.1]
  go_wp2_with fail
  have e1 := EK.out.2.2
  refine (new_st (St.nil (fun _ => False) W) n k (by omega) (by omega)).mono ?_
  clear e1
  rintro e w1 ⟨g, S, rfl, S1⟩
  have HS := Lib.hid S1
  clear S1
  go_wp2_with fail
  refine (fixed_c w1).mono ?_
  rintro e w2 ⟨rfl, b2⟩
  have HS2 := Lib.hid (HS.out.below b2)
  clear b2 HS
  by_cases h100 : (100 : Int) < (l.length : Int)
  · go_wp2_with fail
    refine (fixed_c w2).mono ?_
    rintro e w3 ⟨rfl, b3⟩
    have HS3 := Lib.hid (HS2.out.below b3).base
    clear b3 HS2
    go_wp2_with fail
    go_ret
    exact ⟨rfl, HS3.out⟩
  have hll : l.length ≤ 100 := by omega
  go_upto_region 6 with (refine wpList_makeMap rfl 45 rfl (Value.int .u8) evN ?_; intro hM)
  have S3 := HS2.out.add (a := mapA w2.heap.size (Value.int .u8) evN ([] : List (Int × S33))) ((Below.refl _ _).alloc (Nat.le_refl _) _) hM (fun k h => Nat.le_of_eq h.symm)
  have H3 := Lib.hid S3
  clear S3 hM HS2
  generalize w2.heap.size = mb at *
  generalize w2.alloc _ = w3 at *
  go_wp2_with fail
  go_loopg [51] (l.length + 1) (fun m v51 wx => ∃ (j : Nat) (p : Tk) (M : List (Int × S33)) (S : Nat → Prop), v51 = .int .i64 j ∧ l.length - j < m ∧ j ≤ l.length ∧ (0 ≤ p.came ∧ p.came ≤ j) ∧ p.pieces.length ≤ j ∧ (p.times = n ∧ p.most = k) ∧ AI p M ∧ St (fun _ => False) W wx [tO g S p, mapA mb (Value.int .u8) evN M])
  case atStart => exact ⟨0, _, [], S, rfl, by omega, by omega, ⟨Int.le_refl _, Int.le_refl _⟩, Nat.le_refl _, ⟨rfl, rfl⟩, AI.start _ _, H3.out⟩
  case round =>
    clear H3
    obtain ⟨j, p, M, S, rfl, hjm, hj, hcm, hpl, hp, I, S4⟩ := hrel
    have H4 := Lib.hid (And.intro S4 (And.intro I (And.intro hp (And.intro hcm (And.intro hpl (And.intro hjm hj))))))
    clear I S4 hp hcm hpl hjm hj
    by_cases hjl : j < l.length
    · have hjl' : (j : Int) < (l.length : Int) := by omega
      have hj0 : (0 : Int) ≤ (j : Int) := by omega
      obtain ⟨x, hx⟩ : ∃ x, l[j]? = some x := ⟨_, List.getElem?_eq_getElem hjl⟩
      have hx0 := HC.out.2 x (List.mem_of_getElem? hx)
      obtain ⟨ad, b, o, cs, rfl, had, hb, hK, hcs⟩ := C_at HC.out.1 hx (by decide)
      obtain ⟨xn, xs, xi⟩ := x
      obtain rfl := k33_open hK
      dsimp only at hcs
      have hBw := H4.out.1.base
      have c0 := (hBw.cell (p := ⟨b, o, none⟩) hb).trans (hcs 0 _ rfl)
      have c1 := (hBw.cell (p := ⟨b, o + 1, none⟩) hb).trans (hcs 1 _ rfl)
      have c2 := (hBw.cell (p := ⟨b, o + 2, none⟩) hb).trans (hcs 2 _ rfl)
      have had' : ad.add (j * 3) = ⟨b, o, none⟩ := had
      clear hK hcs had hx hBw
      go_upto_region 9 with fail
      have S5 := H4.out.1.new' #[.int .u8 xn, .int .u8 xs, .int .u32 xi] 33 wr.heap.size rfl
      generalize wr.heap.size = z at *
      generalize World.alloc _ _ = w4 at *
      have d1 : w4.cell? ⟨z, 0, none⟩ = some (.int .u8 xn) := S5.cell 2 rfl 0
      have d2 : w4.cell? ⟨z, 1, none⟩ = some (.int .u8 xs) := S5.cell 2 rfl 1
      have d3 : w4.cell? ⟨z, 2, none⟩ = some (.int .u32 xi) := S5.cell 2 rfl 2
      have H5 := Lib.hid (And.intro S5 H4.out.2)
      clear S5 H4 c0 c1 c2 had'
      by_cases hx64 : xn < 64
      · go_wp2_with fail
        have hA := H5.out.2.2.2
        refine (add_st H5.out.1 0 rfl ⟨xn, ⟨xs, xi⟩⟩ hx64 hA.1.1 (by omega) (by omega)).mono ?_
        clear hA
        rintro e w5 ⟨rfl, S', S6⟩
        have d1' : w5.cell? ⟨z, 0, none⟩ = some (.int .u8 xn) := S6.cell 2 rfl 0
        have d2' : w5.cell? ⟨z, 1, none⟩ = some (.int .u8 xs) := S6.cell 2 rfl 1
        have d3' : w5.cell? ⟨z, 2, none⟩ = some (.int .u32 xi) := S6.cell 2 rfl 2
        have H6 := Lib.hid S6
        clear S6 d1 d2 d3
        go_wp2_with (at_mapUpdate; refine wpList_mapUpdate rfl 45 5 33 _ _ _ rfl Try.underlying45 keys5 evN mb _ (H6.out.get 1 rfl) xn ⟨xn, ⟨xs, xi⟩⟩ rfl rfl rfl ?_; intro w9 M9 m9)
        have S7 := H6.out.upd 1 rfl m9 (a' := mapA mb (Value.int .u8) evN (mput M xn ⟨xn, ⟨xs, xi⟩⟩)) M9 (fun k h => .inl h)
        have H7 := Lib.hid (S7.drop 2)
        clear S7 M9 m9 H6 d1' d2' d3'
        go_roundg (l.length - j)
        case measure => have := H5.out.2.2.2; omega
        case rel =>
          obtain ⟨I, hp, hcm, hpl, hjm, hj⟩ := H5.out.2
          have e1 := EK.out.2.2
          have hl := addF_len p ⟨xn, ⟨xs, xi⟩⟩
          exact ⟨j + 1, addF p ⟨xn, ⟨xs, xi⟩⟩, _, S', by go_num, by omega, by omega, ⟨by show 0 ≤ p.came + 1; omega, by show p.came + 1 ≤ _; omega⟩, by omega, hp, I.add _ (by rw [hp.1]; omega) hx0 hx64, H7.out⟩
      · go_wp2_with fail
        refine add_high ⟨xn, ⟨xs, xi⟩⟩ (by show 64 ≤ xn; omega) ?_
        intro w5 b5
        have H6 := Lib.hid ((H5.out.1.below b5).drop 2)
        clear d1 d2 d3 b5
        go_wp2_with fail
        go_roundg (l.length - j)
        case measure => have := H5.out.2.2.2; omega
        case rel =>
          obtain ⟨I, hp, hcm, hpl, hjm, hj⟩ := H5.out.2
          exact ⟨j + 1, p, M, S, by go_num, by omega, by omega, by omega, by omega, hp, I, H6.out⟩
    · have hjl' : ¬ (j : Int) < (l.length : Int) := by omega
      have e1 := EK.out.2.2
      obtain ⟨S4, I, hp, hcm, hpl, hjm, hj⟩ := H4.out
      have hO : OI p M [] := I.often (by rw [hp.1]; omega)
      have hL : left p.times p.pieces ≤ 64 * n := left_start M I.mi (fun x hx => (I.zero x hx).2) n hp.1
      have hpl' : p.pieces.length ≤ 100 := by omega
      have HO := Lib.hid (And.intro hO (And.intro hL (And.intro hp hpl')))
      have H5 := Lib.hid S4
      clear S4 I hp hcm hpl hjm hj hO hL e1 H4 hpl'
      go_upto_region 13 with (refine wpList_makeMap rfl 46 rfl (Value.int .u8) (Value.int .i64) ?_; intro hM)
      have S6 := H5.out.add (a := mapA wr.heap.size (Value.int .u8) (Value.int .i64) ([] : List (Int × Int))) ((Below.refl _ _).alloc (Nat.le_refl _) _) hM (fun k h => Nat.le_of_eq h.symm)
      have H6 := Lib.hid S6
      clear S6 hM H5
      generalize wr.heap.size = tb at *
      generalize wr.alloc _ = w5 at *
      go_wp2_with fail
      obtain ⟨R, hR⟩ : ∃ R : Nat, 64 * n + 1 = R := ⟨_, rfl⟩
      have eR : (64 : Int) * (n : Int) + 1 = (R : Int) := by omega
      have hRI : (R : Int) ≤ 513 := by omega
      rw [eR]
      have HR := Lib.hid (And.intro hR hnI)
      clear eR hR hjl'
      go_loopg [68] (R + 1) (fun m v68 wx => ∃ (r : Nat) (p : Tk) (T : List (Int × Int)) (S : Nat → Prop), v68 = .int .i64 r ∧ r ≤ R ∧ R - r < m ∧ OI p M T ∧ (left p.times p.pieces + r ≤ 64 * n ∨ p.pieces = []) ∧ (p.times = n ∧ p.most = k) ∧ p.pieces.length ≤ 100 ∧ St (fun _ => False) W wx [tO g S p, mapA mb (Value.int .u8) evN M, mapA tb (Value.int .u8) (Value.int .i64) T])
      case atStart => exact ⟨0, p, [], S, rfl, by omega, by omega, HO.out.1, .inl HO.out.2.1, HO.out.2.2.1, HO.out.2.2.2, H6.out⟩
      case round =>
        clear H6 HO
        obtain ⟨r, p, T, S, rfl, hr, hrm, hO, hleft, hp, hpl, S7⟩ := hrel
        have H7 := Lib.hid S7
        have HO := Lib.hid (And.intro hO (And.intro hleft (And.intro hp hpl)))
        have HI := Lib.hid (And.intro hr hrm)
        clear S7 hO hleft hp hpl hr hrm
        by_cases hrR : r < R
        · have hrR' : (r : Int) < (R : Int) := by omega
          have hr0 : (0 : Int) ≤ (r : Int) := by omega
          have HT := Lib.hid (take_d H7.out 0 rfl HO.out.1.mi.ti (by have := HO.out.2.2.2; have := HI.out; omega) (by rw [HO.out.2.2.1.2]; have := EK.out.2.2; omega) (by rw [HO.out.2.2.1.1]; have := EK.out.2.2; omega))
          go_wp2_with fail
          refine HT.out.mono ?_
          rintro e w8 ⟨v', S', rfl, S8⟩
          obtain ⟨AL, cL, rfl⟩ := Kd.R_slice (S8.get 3 rfl).1
          have hlm := Kd.C_max (Kd.R_reads' (S8.get 3 rfl).1).2.2
          have hln : (takeL p).length ≤ 64 := by
            have := takeL_len (p := p) (by rw [HO.out.2.2.1.2]; omega)
            rw [HO.out.2.2.1.2] at this
            have := EK.out.2.2
            omega
          obtain ⟨L, hL⟩ : ∃ L, takeL p = L := ⟨_, rfl⟩
          have H8' := S8
          rw [hL] at H8' hlm hln
          rw [hL]
          have HL := Lib.hid hL
          have H8 := Lib.hid H8'
          clear S8 H8' hL HT H7
          have HS0 := Lib.hid (rfl : tell T (L.take 0) = T)
          go_wp2_with fail
          go_loopg [73] (L.length + 1) (fun m v73 wx => ∃ q : Nat, v73 = .int .i64 q ∧ q ≤ L.length ∧ L.length - q < m ∧ St (fun _ => False) W wx [tO g S' (takeD p), mapA mb (Value.int .u8) evN M, mapA tb (Value.int .u8) (Value.int .i64) (tell T (L.take q)), slc k33 33 (.slice AL L.length cL) L])
          case atStart => exact ⟨0, rfl, by omega, by omega, H8.out⟩
          case round =>
            clear H8 HS0
            obtain ⟨q, rfl, hq, hqm, S9⟩ := hrel
            by_cases hql : q < L.length
            · have hql' : (q : Int) < (L.length : Int) := by omega
              have hq0 : (0 : Int) ≤ (q : Int) := by omega
              obtain ⟨u, hu⟩ : ∃ u, L[q]? = some u := ⟨_, List.getElem?_eq_getElem hql⟩
              have hI := HO.out.1
              have hun : mget M u.f0 = some u := hI.mi.told (by rw [HL.out]; exact List.mem_of_getElem? hu)
              have hnd : ((L.take q).map (fun u => u.f0)).Nodup := by
                have h1 := hI.mi.once
                rw [HL.out] at h1
                exact ((List.take_sublist q L).map _).nodup h1
              have hcb : 0 ≤ cnt (tell T (L.take q)) u.f0 ∧ cnt (tell T (L.take q)) u.f0 ≤ 100 := by
                rw [tell_cnt _ T hnd]
                have h1 := hI.top u.f0
                rw [HO.out.2.2.1.1] at h1
                have := HR.out.2
                split <;> omega
              obtain ⟨gL, cL', hv, _, hcL⟩ := slc_form (S9.get 3 rfl) (by omega)
              injection hv with hv1 hvl hv2
              subst hv1; subst hv2
              have E0 : ∀ c, c < 3 → wr.cell? ⟨gL, q * 3 + c, none⟩ = (e33 u)[c]? ∧ wr.frozen? ⟨gL, q * 3 + c, none⟩ = false := fun c hc => (S9.elem fl33 3 rfl (i := q) (c := c) hu hc)
              have hsq := Lib.hid (tell_succ (T := T) hu)
              obtain ⟨un, us, ui⟩ := u
              have u0 : wr.cell? ⟨gL, q * 3, none⟩ = some (.int .u8 un) := (E0 0 (by decide)).1
              have u1 : wr.cell? ⟨gL, q * 3 + 1, none⟩ = some (.int .u8 us) := (E0 1 (by decide)).1
              have u2 : wr.cell? ⟨gL, q * 3 + 2, none⟩ = some (.int .u32 ui) := (E0 2 (by decide)).1
              have H9 := Lib.hid (And.intro S9 hun)
              have hcb' : 0 ≤ cnt (tell T (L.take q)) un ∧ cnt (tell T (L.take q)) un ≤ 100 := hcb
              obtain ⟨ct, hct⟩ : ∃ ct, cnt (tell T (L.take q)) un = ct := ⟨_, rfl⟩
              rw [hct] at hcb'
              have hc0 := hcb'.1
              have hc1 := hcb'.2
              have HCT := Lib.hid hct
              clear S9 hun hu E0 hI hcL hvl hnd hcb hcb' hct
              go_upto_region 18 with fail
              have S10 := H9.out.1.new' #[.int .u8 un, .int .u8 us, .int .u32 ui] 33 wr.heap.size rfl
              generalize wr.heap.size = y at *
              generalize World.alloc _ _ = w10 at *
              have y0 : w10.cell? ⟨y, 0, none⟩ = some (.int .u8 un) := S10.cell 4 rfl 0
              have y1 : w10.cell? ⟨y, 1, none⟩ = some (.int .u8 us) := S10.cell 4 rfl 1
              have y2 : w10.cell? ⟨y, 2, none⟩ = some (.int .u32 ui) := S10.cell 4 rfl 2
              have k1 := (S10.get 2 rfl : MapAt w10 tb (Value.int .u8) (Value.int .i64) (tell T (L.take q))).run_lookup false Try.underlying46 keys5 un _ zero3
              rw [look_cnt, HCT.out] at k1
              simp only [Bool.false_eq_true, if_false] at k1
              have k2 := ((S10.get 1 rfl : MapAt w10 mb (Value.int .u8) evN M).look Try.underlying45 keys5 un _ zero33 (some ⟨un, ⟨us, ui⟩⟩) H9.out.2 (.agg #[.int .u8 un, .int .u8 us, .int .u32 ui]) rfl).1
              have H10 := Lib.hid S10
              clear S10 H9 u0 u1 u2
              go_wp2_with (at_mapUpdate; refine wpList_mapUpdate rfl 46 5 3 _ _ _ rfl Try.underlying46 keys5 (Value.int .i64) tb _ (H10.out.get 2 rfl) un (ct + 1) rfl rfl rfl ?_; intro w11 M11 m11)
              have S11 := H10.out.upd 2 rfl m11 (a' := mapA tb (Value.int .u8) (Value.int .i64) (tell T (L.take (q + 1)))) (by rw [hsq.out]; show MapAt _ _ _ _ (mput _ un (cnt _ un + 1)); rw [HCT.out]; exact M11) (fun k h => .inl h)
              have H11 := Lib.hid (S11.drop 4)
              clear S11 M11 m11 H10 k1 k2 y0 y1 y2
              go_roundg (L.length - q)
              case measure => omega
              case rel => exact ⟨q + 1, by go_num, by omega, by omega, H11.out⟩
            · have hql' : ¬ (q : Int) < (L.length : Int) := by omega
              have eq : q = L.length := by omega
              subst eq
              rw [List.take_length] at S9
              have H9 := Lib.hid (S9.drop 3)
              clear S9
              go_wp2_with fail
              go_roundg (R - r)
              case measure => have := HI.out; omega
              case rel =>
                have := HI.out
                obtain ⟨hO, hleft, hp, hpl⟩ := HO.out
                refine ⟨r + 1, takeD p, tell T L, S', by go_num, by omega, by omega, by rw [← HL.out]; exact hO.take, ?_, hp, Nat.le_trans (takeD_len p) hpl, H9.out⟩
                by_cases hpe : p.pieces = []
                · right
                  have := takeD_len p
                  rw [hpe] at this
                  exact List.eq_nil_of_length_eq_zero (by simpa using this)
                · left
                  have h1 := left_take hO.mi.ti (by rw [hp.2]; have := EK.out.2.2; omega) hpe
                  have h2 := hleft.resolve_right hpe
                  show left p.times _ + _ ≤ _
                  omega
        · have hrR' : ¬ (r : Int) < (R : Int) := by omega
          obtain ⟨hO, hleft, hp, hpl⟩ := HO.out
          have hpe : p.pieces = [] := by
            rcases hleft with h | h
            · have := HR.out.1
              have := HI.out
              omega
            · exact h
          have HE := Lib.hid (And.intro hO (And.intro hpe hp))
          clear hO hleft hp hpl hpe HO
          go_wp2_with (refine wpList_range rfl 45 5 33 _ rfl Try.underlying45 (Value.int .u8) evN mb M (H7.out.get 1 rfl) rfl ?_; intro rb w8 hrb hRb mRb _)
          have S9 := H7.out.ranged 1 rfl hrb hRb mRb
          have H9 := Lib.hid S9
          clear S9 hRb mRb hrb H7
          go_loopg [] (cntL M (fun _ => true) + 1) (fun m wx => ∃ lf : Int → Bool, cntL M lf < m ∧ St (fun _ => False) W wx [tO g S p, rngA mb rb (Value.int .u8) evN M lf, mapA tb (Value.int .u8) (Value.int .i64) T])
          case atStart => exact ⟨_, Nat.lt_succ_self _, H9.out⟩
          case round =>
            clear H9
            obtain ⟨lf, hcm, S11⟩ := hrel
            have H11 := Lib.hid S11
            have HCM := Lib.hid hcm
            clear S11 hcm
            go_wp2_with (refine wpList_next rfl _ rfl (Value.int .u8) evN mb rb M lf rfl (H11.out.get 1 rfl) ?_ ?_)
            · intro hdone
              clear hdone
              have H12 := Lib.hid (H11.out.unranged 1 rfl)
              go_wp2_with fail
              refine len_st H12.out 0 rfl ?_
              intro w13 b13
              rw [HE.out.2.1]
              have H13 := Lib.hid (H12.out.below b13)
              have q1 := (H13.out.get 1 rfl : MapAt w13 mb (Value.int .u8) evN M).run_len (P := Try.prog) (r := 3) Try.underlying45
              have q2 := (H13.out.get 2 rfl : MapAt w13 tb (Value.int .u8) (Value.int .i64) T).run_len (P := Try.prog) (r := 3) Try.underlying46
              have hs : T.length = M.length := HE.out.1.same HE.out.2.1 (H13.out.get 1 rfl : MapAt w13 mb (Value.int .u8) evN M).nd (H13.out.get 2 rfl : MapAt w13 tb (Value.int .u8) (Value.int .i64) T).nd
              rw [hs] at q2
              have HB := Lib.hid H13.out.base
              clear H12 b13 H11 H13 hs
              go_wp2_with fail
              go_ret
              exact ⟨by simp, HB.out⟩
            · intro qk qv w8 hq hlq hR8 mR8 hen
              have S12 := H11.out.next 1 rfl hR8 mR8
              have hct : cnt T qk = (n : Int) := by
                rw [← HE.out.2.2.1]
                exact HE.out.1.done HE.out.2.1 (List.mem_map.2 ⟨(qk, qv), hq, rfl⟩)
              have k1 := (S12.get 2 rfl : MapAt w8 tb (Value.int .u8) (Value.int .i64) T).run_lookup false Try.underlying46 keys5 qk _ zero3
              rw [look_cnt, hct] at k1
              simp only [Bool.false_eq_true, if_false] at k1
              have hcl := cntL_lt (p := (qk, qv)) hq hlq
              have H12 := Lib.hid (And.intro S12 hcl)
              clear S12 hR8 mR8 hlq hq hcl H11 hct
              go_wp2_with fail
              go_roundg (cntL M lf)
              case measure => exact HCM.out
              case rel => exact ⟨_, H12.out.2, H12.out.1⟩
instance : Inhabited S33 := ⟨z33⟩
theorem Try.cells33 : Try.prog.cellsOf 33 = k33.sz := by kernel_rfl
theorem often_row (a0 a1 : Int) (w0 : (Lit.int .u8 a0).wf = true) (w1 : (Lit.int .u8 a1).wf = true) (l : List S33) (A : Option Addr) (c : Nat) (W : World) (hC : k33.C W A l.length l) (hg : ∀ x ∈ l, g33 x) :
    Calls Try.prog 4 #[.int .u8 a0, .int .u8 a1, .slice A l.length c] W fun e w' => e = .returned (.bool true) ∧ Below W.heap.size W w' := by
  have b0 := u8_wf w0
  have b1 := u8_wf w1
  obtain ⟨a, rfl⟩ : ∃ a : Nat, a0 = a := ⟨a0.toNat, by omega⟩
  obtain ⟨n, rfl⟩ : ∃ n : Nat, a1 = n := ⟨a1.toNat, by omega⟩
  exact often_c a n (by omega) (by omega) l A c W hC fun x hx => (u8_wf (hg x hx).1).1
end Go.Proofs.Ytkfofcgonkkdaaa
