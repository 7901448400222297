import Derived.Test.YtepceielndmjgaaSH
namespace Go.Proofs.Ytepceielndmjgaa
open Go.RowKit Go.Tat Go.Proofs.YtepceielndmjgaaW.PrintWords PSweepTells
/-! ### The chapter's example -/
def bA : ByteArray := { data := #[97] }
def bB : ByteArray := { data := #[98] }
def ex1 : List S41 := [⟨bA, ⟨2, 0, 0⟩, 2, 0, 0, ⟨#[]⟩⟩]
def ex2 : List S43 := [⟨bA, ⟨1, 0, 0⟩, 3⟩, ⟨bB, ⟨5, 0, 0⟩, 1⟩]
theorem ex_push : pushL ex1 ex2 = ex1 := by rfl
theorem ex_pull : rpullL ex1 ex2 = [bB] := by rfl
set_option maxRecDepth 100000 in
set_option maxHeartbeats 4000000 in
theorem fixed_c (w : World) : Calls Try.prog 9 #[] w fun e w' => e = .returned (.bool true) ∧ Below w.heap.size w w' := by
  obtain ⟨z, hz⟩ : ∃ z, w.heap.size = z := ⟨_, rfl⟩
  have S1 := (St.nil (fun _ => False) w).new' #[.string bA, .int .u64 2, .int .u32 0, .int .u8 0, .int .u8 2, .int .u32 0, .int .u64 0, .string ⟨#[]⟩] 41 z hz
  have S2 := S1.new' #[.string bA, .int .u64 1, .int .u32 0, .int .u8 0, .int .u8 3, .string bB, .int .u64 5, .int .u32 0, .int .u8 0, .int .u8 1] 43 (z + 1) (by simp [hz])
  have H2 := Lib.hid S2
  have C1 := fun (w' : World) (h : w'.heap[z]? = some (.cells #[.string bA, .int .u64 2, .int .u32 0, .int .u8 0, .int .u8 2, .int .u32 0, .int .u64 0, .string ⟨#[]⟩] 41 (0, 0))) => (Kd.R_reads' (slc_lit fl41 ex1 _ rfl h (by decide)).1).2.2
  have C2 := fun (w' : World) (h : w'.heap[z + 1]? = some (.cells #[.string bA, .int .u64 1, .int .u32 0, .int .u8 0, .int .u8 3, .string bB, .int .u64 5, .int .u32 0, .int .u8 0, .int .u8 1] 43 (0, 0))) => (Kd.R_reads' (slc_lit fl43 ex2 _ rfl h (by decide)).1).2.2
  have HC := Lib.hid (And.intro C1 C2)
  clear S1 S2 C1 C2
  unfold bA bB at *
  go_enter Try.func9, Try.ntmps9
  go_wp2_with fail
  have HZ := Lib.hid hz
  clear hz
  generalize (World.alloc w _).alloc _ = w2 at *
  refine (push_c ex1 ex2 _ _ 1 2 w2 (HC.out.1 w2 (H2.out.get 0 rfl)) (HC.out.2 w2 (H2.out.get 1 rfl)) (by decide)).mono ?_
  rw [ex_push]
  rintro e w3 ⟨v3, rfl, S3⟩
  obtain ⟨A3, c3, rfl⟩ := Kd.R_slice (S3.get 0 rfl).1
  have H3 := Lib.hid (H2.out.adds S3)
  clear S3 H2
  go_wp2_with fail
  have r2 := Kd.R_reads' (H3.out.get 2 rfl).1
  refine (same06_c ex1 (by decide) A3 _ c3 1 w3 r2.2.2 r2.2.1 (HC.out.1 w3 (H3.out.get 0 rfl)) (by decide)).mono ?_
  clear r2
  rintro e w4 ⟨rfl, d4⟩
  have H4 := Lib.hid ((H3.out.below d4.below).drop 2)
  clear d4 H3
  go_wp2_with fail
  refine (pull_d ex1 ex2 _ _ 1 2 w4 (HC.out.1 w4 (H4.out.get 0 rfl)) (HC.out.2 w4 (H4.out.get 1 rfl)) (by decide) (by decide)).mono ?_
  rw [ex_pull]
  rintro e w5 ⟨v5, rfl, S5⟩
  obtain ⟨A5, c5, rfl⟩ := Kd.R_slice (S5.get 0 rfl).1
  have S6 := (H4.out.adds S5).new' #[.string bB] 9 w5.heap.size rfl
  have H6 := Lib.hid S6
  clear S5 S6 H4
  unfold bB at *
  go_wp2_with fail
  generalize World.alloc w5 _ = w6 at *
  have r2 := Kd.R_reads' (H6.out.get 2 rfl).1
  refine (same10_c [{ data := #[98] }] (by decide) A5 _ c5 1 w6 r2.2.2 r2.2.1 (Kd.R_reads' (slc_lit flStr [{ data := #[98] }] _ rfl (H6.out.get 3 rfl) (by decide)).1).2.2 (by decide)).mono ?_
  clear r2
  rintro e w7 ⟨rfl, d7⟩
  have H7 := Lib.hid (H6.out.below d7.below).base
  clear d7 H6
  go_wp2_with fail
  go_ret
  exact ⟨rfl, H7.out⟩
set_option maxRecDepth 100000 in
set_option maxHeartbeats 8000000 in
theorem tells_c (mine : List S41) (theirs : List S43) (Am At : Option Addr) (cm ct : Nat) (W : World) (hM : k41.C W Am mine.length mine) (hT : k43.C W At theirs.length theirs) (hcm : mine.length ≤ cm) (hct : theirs.length ≤ ct) :
    Calls Try.prog 3 #[.slice Am mine.length cm, .slice At theirs.length ct] W fun e w' => e = .returned (.bool true) ∧ Below W.heap.size W w' := by
  have HC := Lib.hid (And.intro hM (And.intro hT (And.intro hcm hct)))
  obtain ⟨b, hb, HU⟩ := unlike_c mine Am cm W hM hcm
  have HU := Lib.hid HU
  have Hb := Lib.hid hb
  clear hM hT hcm hct hb
  go_enter Try.func3, Try.ntmps3
  go_wp2_with fail
  refine HU.out.mono ?_
  rintro e w1 ⟨rfl, d1⟩
  have HB1 := Lib.hid d1.below
  clear d1 HU
  cases b with
  | false =>
    clear Hb
    go_wp2_with fail
    refine (fixed_c w1).mono ?_
    rintro e w2 ⟨rfl, b2⟩
    have HB2 := Lib.hid (HB1.out.trans (b2.mono HB1.out.size))
    clear b2 HB1
    go_wp2_with fail
    go_ret
    exact ⟨rfl, HB2.out⟩
  | true =>
    have hU := Hb.out rfl
    have hml := hU.len
    have HU := Lib.hid hU
    obtain ⟨g, hg, HG⟩ := great_c theirs At ct w1 (Kd.C_below HC.out.2.1 HB1.out) HC.out.2.2.2
    have HG := Lib.hid HG
    have Hg := Lib.hid hg
    clear hg Hb hU
    go_wp2_with fail
    refine HG.out.mono ?_
    rintro e w2 ⟨rfl, b2⟩
    have HB2 := Lib.hid (HB1.out.trans (b2.mono HB1.out.size))
    clear b2 HB1 HG
    cases g with
    | true =>
      clear Hg
      go_wp2_with fail
      refine (fixed_c w2).mono ?_
      rintro e w3 ⟨rfl, b3⟩
      have HB3 := Lib.hid (HB2.out.trans (b3.mono HB2.out.size))
      clear b3 HB2
      go_wp2_with fail
      go_ret
      exact ⟨rfl, HB3.out⟩
    | false =>
      have htl := Hg.out rfl
      clear Hg
      go_wp2_with fail
      refine (fixed_c w2).mono ?_
      rintro e w3 ⟨rfl, b3⟩
      have HB3 := Lib.hid (HB2.out.trans (b3.mono HB2.out.size))
      clear b3 HB2
      go_wp2_with fail
      refine (sum_c mine (by omega) Am cm w3 (Kd.C_below HC.out.1 HB3.out) HC.out.2.2.1).mono ?_
      rintro e w4 ⟨v4, rfl, S4⟩
      obtain ⟨A4, c4, rfl⟩ := Kd.R_slice (S4.get 0 rfl).1
      have HB4 := Lib.hid (HB3.out.trans (S4.base.mono HB3.out.size))
      have hsl : (mine.map seenS).length ≤ 60 := by rw [List.length_map]; exact hml
      obtain ⟨s, hs⟩ : ∃ s, mine.map seenS = s := ⟨_, rfl⟩
      have HS := Lib.hid hs
      rw [hs] at S4 hsl ⊢
      have H4 := Lib.hid S4
      clear S4 HB3 hs
      go_wp2_with fail
      refine (rsum_c mine (by omega) Am cm w4 (Kd.C_below HC.out.1 HB4.out) HC.out.2.2.1).mono ?_
      rintro e w5 ⟨v5, rfl, S5⟩
      obtain ⟨A5, c5, rfl⟩ := Kd.R_slice (S5.get 0 rfl).1
      have HB5 := Lib.hid (HB4.out.trans (S5.base.mono HB4.out.size))
      rw [HS.out] at S5 ⊢
      have H5 := Lib.hid (H4.out.adds S5)
      clear S5 HB4 H4
      go_wp2_with fail
      have r0 := Kd.R_reads' (H5.out.get 0 rfl).1
      have r1 := Kd.R_reads' (H5.out.get 1 rfl).1
      refine (sameS_c s (by omega) A4 A5 c4 c5 w5 r0.2.2 r0.2.1 r1.2.2 r1.2.1).mono ?_
      clear r0 r1
      rintro e w6 ⟨rfl, d6⟩
      have HB6 := Lib.hid (HB5.out.trans (d6.below.mono HB5.out.size))
      clear d6 HB5 H5
      go_wp2_with fail
      refine (push_c mine theirs Am At cm ct w6 (Kd.C_below HC.out.1 HB6.out) (Kd.C_below HC.out.2.1 HB6.out) (by omega)).mono ?_
      rintro e w7 ⟨v7, rfl, S7⟩
      obtain ⟨A7, c7, rfl⟩ := Kd.R_slice (S7.get 0 rfl).1
      have HB7 := Lib.hid (HB6.out.trans (S7.base.mono HB6.out.size))
      have hpl : (pushL mine theirs).length ≤ 60 := Nat.le_trans (List.length_filter_le _ _) hml
      obtain ⟨p, hp⟩ : ∃ p, pushL mine theirs = p := ⟨_, rfl⟩
      have HP := Lib.hid hp
      rw [hp] at S7 hpl ⊢
      have H7 := Lib.hid S7
      clear S7 HB6 hp
      go_wp2_with fail
      refine (rpush_c mine theirs (by omega) (by omega) Am At cm ct w7 (Kd.C_below HC.out.1 HB7.out) HC.out.2.2.1 (Kd.C_below HC.out.2.1 HB7.out) HC.out.2.2.2).mono ?_
      rintro e w8 ⟨v8, rfl, S8⟩
      obtain ⟨A8, c8, rfl⟩ := Kd.R_slice (S8.get 0 rfl).1
      have HB8 := Lib.hid (HB7.out.trans (S8.base.mono HB7.out.size))
      rw [HP.out] at S8 ⊢
      have H8 := Lib.hid (H7.out.adds S8)
      clear S8 HB7 H7
      go_wp2_with fail
      have r0 := Kd.R_reads' (H8.out.get 0 rfl).1
      have r1 := Kd.R_reads' (H8.out.get 1 rfl).1
      refine (same06_c p (by omega) A7 A8 c7 c8 w8 r0.2.2 r0.2.1 r1.2.2 r1.2.1).mono ?_
      clear r0 r1
      rintro e w9 ⟨rfl, d9⟩
      have HB9 := Lib.hid (HB8.out.trans (d9.below.mono HB8.out.size))
      clear d9 HB8 H8
      go_wp2_with fail
      refine (pull_d mine theirs Am At cm ct w9 (Kd.C_below HC.out.1 HB9.out) (Kd.C_below HC.out.2.1 HB9.out) (by omega) (by omega)).mono ?_
      rintro e w10 ⟨v10, rfl, S10⟩
      obtain ⟨A10, c10, rfl⟩ := Kd.R_slice (S10.get 0 rfl).1
      have HB10 := Lib.hid (HB9.out.trans (S10.base.mono HB9.out.size))
      have hql : (rpullL mine theirs).length ≤ 100 := Nat.le_trans (rpullL_len _ _) htl
      obtain ⟨q, hq⟩ : ∃ q, rpullL mine theirs = q := ⟨_, rfl⟩
      have HQ := Lib.hid hq
      rw [hq] at S10 hql ⊢
      have H10 := Lib.hid S10
      clear S10 HB9 hq
      go_wp2_with fail
      refine (rpull_c mine theirs (by omega) (by omega) Am At cm ct w10 (Kd.C_below HC.out.1 HB10.out) HC.out.2.2.1 (Kd.C_below HC.out.2.1 HB10.out) HC.out.2.2.2).mono ?_
      rintro e w11 ⟨v11, rfl, S11⟩
      obtain ⟨A11, c11, rfl⟩ := Kd.R_slice (S11.get 0 rfl).1
      have HB11 := Lib.hid (HB10.out.trans (S11.base.mono HB10.out.size))
      rw [HQ.out] at S11 ⊢
      have H11 := Lib.hid (H10.out.adds S11)
      clear S11 HB10 H10
      go_wp2_with fail
      have r0 := Kd.R_reads' (H11.out.get 0 rfl).1
      have r1 := Kd.R_reads' (H11.out.get 1 rfl).1
      refine (same10_c q (by omega) A10 A11 c10 c11 w11 r0.2.2 r0.2.1 r1.2.2 r1.2.1).mono ?_
      clear r0 r1
      rintro e w12 ⟨rfl, d12⟩
      have HB12 := Lib.hid (HB11.out.trans (d12.below.mono HB11.out.size))
      clear d12 HB11 H11
      go_wp2_with fail
      go_ret
      exact ⟨rfl, HB12.out⟩
end Go.Proofs.Ytepceielndmjgaa
