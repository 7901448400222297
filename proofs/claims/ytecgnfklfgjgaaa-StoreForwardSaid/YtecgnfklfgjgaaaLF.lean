/- StoreForward. -/
import Derived.Test.YtecgnfklfgjgaaaCU
import Derived.Test.YtecgnfklfgjgaaaOQ
import Derived.Test.YtecgnfklfgjgaaaORD
set_option linter.unusedVariables false
set_option linter.unusedSimpArgs false
namespace Go.Proofs.Ytecgnfklfgjgaaa
open Go.RowKit Go.Tat Go.Tab Go.Proofs.YtecgnfklfgjgaaaW.PrintWords PStorePeeks
theorem blk8 {w : World} {z e : Nat} {v0 v1 v2 v3 v4 v5 v6 v7 : Value} (h : (blk z #[v0, v1, v2, v3, v4, v5, v6, v7] e).holds w) : w.cell? ⟨z, 0, none⟩ = some v0 ∧ w.cell? ⟨z, 1, none⟩ = some v1 ∧ w.cell? ⟨z, 2, none⟩ = some v2 ∧ w.cell? ⟨z, 3, none⟩ = some v3 ∧ w.cell? ⟨z, 4, none⟩ = some v4 ∧ w.cell? ⟨z, 5, none⟩ = some v5 ∧ w.cell? ⟨z, 6, none⟩ = some v6 ∧ w.cell? ⟨z, 7, none⟩ = some v7 :=
 ⟨blk_cell h 0, blk_cell h 1, blk_cell h 2, blk_cell h 3, blk_cell h 4, blk_cell h 5, blk_cell h 6, blk_cell h 7⟩
def qA (k : ByteArray) (q : Rc) : Array Value := #[.string k, .int .u64 q.f1.f0, .int .u32 q.f1.f1, .int .u8 q.f1.f2, .int .u8 q.f2, .int .u32 q.f3, .int .u64 q.f4, .string q.f5]
def evR (r : Rc) : Value := .agg (eRc r).toArray
abbrev mR (mb : Nat) (M : List (ByteArray × Rc)) : Asr := mapA mb Value.string evR M
theorem keysStr : KeyLaw Try.prog 9 Value.string := KeyLaw.string Try.underlying9
theorem zeroRec : (Try.prog.info? 37).map (·.zero) = some (some (evR zRc)) := by kernel_rfl
def opB (x : Oq) : Array Value := #[.int .i64 x.f0, .string x.f1.f0, .int .u64 x.f1.f1.f0, .int .u32 x.f1.f1.f1, .int .u8 x.f1.f1.f2, .int .u8 x.f1.f2, .int .u32 x.f1.f3, .int .u64 x.f1.f4, .string x.f1.f5, .int .u8 x.f2]
theorem had_none {w : World} {mb : Nat} {M : List (ByteArray × Rc)} (h : MapAt w mb Value.string evR M) (k : ByteArray) (hk : mget M k = none) : (Instr.lookup 30 (.map (some mb)) (.string k) true).run Try.prog w = .ok (.tuple #[.agg #[.string ⟨#[]⟩, .int .u64 0, .int .u32 0, .int .u8 0, .int .u8 0, .int .u32 0, .int .u64 0, .string ⟨#[]⟩], .bool false]) w := by
 have := h.run_lookup true Try.underlying30 keysStr k _ zeroRec
 rw [hk] at this
 exact this
theorem had_some {w : World} {mb : Nat} {M : List (ByteArray × Rc)} (h : MapAt w mb Value.string evR M) (k : ByteArray) {q : Rc} (hk : mget M k = some q) : (Instr.lookup 30 (.map (some mb)) (.string k) true).run Try.prog w = .ok (.tuple #[.agg #[.string q.f0, .int .u64 q.f1.f0, .int .u32 q.f1.f1, .int .u8 q.f1.f2, .int .u8 q.f2, .int .u32 q.f3, .int .u64 q.f4, .string q.f5], .bool true]) w := by
 have := h.run_lookup true Try.underlying30 keysStr k _ zeroRec
 rw [hk] at this
 exact this
theorem peek_none {g : Nat} {S : Nat → Prop} {c : SC} {s : SM} {w : World} (h : (sO g S c s).holds w) {k : ByteArray} (hk : k.size < 4611686018427387904) (hn : hasK s.L k = none) : Calls Try.prog 14 #[.pointer (some ⟨g, 0, none⟩), .string k] w fun e w' => e = .returned (.tuple #[.agg #[.string ⟨#[]⟩, .int .u64 0, .int .u32 0, .int .u8 0, .int .u8 0, .int .u32 0, .int .u64 0, .string ⟨#[]⟩], .bool false]) ∧ Below w.heap.size w w' := by
 have := peek_c h k hk
 unfold peekPost at this
 rw [hn] at this
 exact this
theorem peek_some {g : Nat} {S : Nat → Prop} {c : SC} {s : SM} {w : World} (h : (sO g S c s).holds w) {k : ByteArray} (hk : k.size < 4611686018427387904) {q : Rc} (hn : hasK s.L k = some q) : Calls Try.prog 14 #[.pointer (some ⟨g, 0, none⟩), .string k] w fun e w' => e = .returned (.tuple #[.agg #[.string k, .int .u64 q.f1.f0, .int .u32 q.f1.f1, .int .u8 q.f1.f2, .int .u8 q.f2, .int .u32 q.f3, .int .u64 q.f4, .string q.f5], .bool true]) ∧ Below w.heap.size w w' := by
 have := peek_c h k hk
 unfold peekPost at this
 rw [hn] at this
 have e := (hasK_mem hn).2
 rw [← e] at this ⊢
 exact this
theorem get_len {c : SC} {s : SM} (hn : (s.L.map (·.f0)).Nodup) (k : ByteArray) : (getM s k).ev + (getM s k).L.length = s.ev + s.L.length := by
 unfold getM
 cases h : hasK s.L k with
 | none => rfl
 | some r =>
  obtain ⟨h1, h2⟩ := hasK_mem h
  have := (wo_perm hn h1).length_eq
  rw [h2] at this
  show s.ev + (r :: wo s.L k).length = _
  rw [this]
theorem pur_len (c : SC) (s : SM) (now : Int) : (purM c s now).ev + (purM c s now).L.length ≤ s.ev + s.L.length := by
 have := List.length_filter_le (fresh c now) s.L
 show s.ev + (s.L.filter (fresh c now)).length ≤ _
 omega
theorem FwM.nil (c : SC) (s : SM) (now : Int) : FwM c s now [] := by
 intro k r0 h
 rw [mget_nil] at h
 cases h
theorem km_nil : ∀ (k : ByteArray) (q : Rc), mget [] k = some q → q.f0 = k := by
 intro k q h
 rw [mget_nil] at h
 cases h
set_option maxRecDepth 100000 in
set_option maxHeartbeats 32000000 in
theorem forward_c (cf : S23) (ops : List Oq) (A : Option Addr) (cp : Nat) (W : World) (hC : k39.C W A ops.length ops) (hc : ops.length ≤ cp) (hg : ∀ o ∈ ops, g39 o) :
  Calls Try.prog 3 #[.agg (cfA cf), .slice A ops.length cp] W fun e w' => e = .returned (.bool true) ∧ Below W.heap.size W w' := by
 have HC := Lib.hid hC
 have HG := Lib.hid hg
 have HCU := Lib.hid (fun w (b : Below W.heap.size W w) => cut_c ops A cp w (Kd.C_below hC b) hc)
 have HFix := Lib.hid fixed_c
 clear hC hg
 unfold cfA
 go_enter Try.func3, Try.ntmps3
 go_upto_region 1 with fail
 have S1 := (St.nil (fun _ => False) W).new' #[.int .i64 cf.f0, .int .i64 cf.f1, .int .i64 cf.f2] 23 W.heap.size rfl
 obtain ⟨z, hz⟩ : ∃ z, W.heap.size = z := ⟨_, rfl⟩
 rw [hz] at S1
 have HZ := Lib.hid hz
 simp only [hz]
 clear hz
 generalize World.alloc W _ = w1 at *
 have S1' : St (fun _ => False) W w1 [blk z (cfA cf) 23] := S1
 have z0 : w1.cell? ⟨z, 0, none⟩ = some (.int .i64 cf.f0) := blk_cell (S1'.get 0 rfl) 0
 have z1 : w1.cell? ⟨z, 1, none⟩ = some (.int .i64 cf.f1) := blk_cell (S1'.get 0 rfl) 1
 have z2 : w1.cell? ⟨z, 2, none⟩ = some (.int .i64 cf.f2) := blk_cell (S1'.get 0 rfl) 2
 have H1 := Lib.hid S1'
 clear S1 S1'
 by_cases hok : confOk cf.f0 cf.f1 cf.f2
 ·obtain ⟨c, hc0, hc1, hc2⟩ : ∃ c : SC, cf.f0 = (c.most : Int) ∧ cf.f1 = (c.bytes : Int) ∧ cf.f2 = (c.keep : Int) := by
   unfold confOk at hok
   exact ⟨⟨cf.f0.toNat, cf.f1.toNat, cf.f2.toNat⟩, by simp; omega, by simp; omega, by simp; omega⟩
  rw [hc0] at z0
  rw [hc1] at z1
  rw [hc2] at z2
  have HN := Lib.hid (snew_st H1.out c (by rw [← hc0, ← hc1, ← hc2]; exact hok))
  clear hok hc0 hc1 hc2
  go_upto_region 2 with (go_at_call 8; refine HN.out.mono ?_; rintro e w2 ⟨g, S, rfl, h2⟩)
  have H2 : Hid (St (fun _ => False) W w2 [blk z (cfA cf) 23, sO g S c ⟨[], List.replicate 64 zSt, 0⟩]) := Lib.hid h2
  clear h2 HN z0 z1 z2 H1
  go_upto_region 4 with (go_at_call 9; refine (HFix.out _).mono ?_; rintro e w3 ⟨rfl, b3⟩)
  have H3 := Lib.hid (H2.out.below b3)
  clear b3 H2
  go_upto_region 5 with (refine wpList_makeMap rfl 30 rfl Value.string evR ?_; intro hM)
  have S4 := H3.out.add (a := mR w3.heap.size []) ((Below.refl _ _).alloc (Nat.le_refl _) _) hM (fun k h => Nat.le_of_eq h.symm)
  obtain ⟨mb, hmb⟩ : ∃ mb, w3.heap.size = mb := ⟨_, rfl⟩
  rw [hmb] at S4 ⊢
  have H3 : Hid (St (fun _ => False) W _ [blk z (cfA cf) 23, sO g S c ⟨[], List.replicate 64 zSt, 0⟩, mR mb []]) := Lib.hid S4
  clear hmb hM S4
  generalize World.alloc w3 _ = w3 at *
  go_wp2_with (go_at_call 10; refine (HCU.out _ H3.out.base).mono ?_; rintro e w4 ⟨i, rfl, hi, hi8, hcb, b4⟩; have H4 := Lib.hid (H3.out.below b4); have HI := Lib.hid (And.intro hi (And.intro hi8 hcb)); clear b4 hi hi8 hcb)
  go_loopg [8, 40] (i + 1) (fun kq v8 v40 wx => ∃ (j : Nat) (now : Int) (s : SM) (S : Nat → Prop) (M : List (ByteArray × Rc)), v8 = .int .u64 now ∧ v40 = .int .i64 j ∧ j ≤ i ∧ i - j < kq ∧ 0 ≤ now ∧ now ≤ 255 * (j : Int) ∧ s.ev + s.L.length ≤ j ∧ FwM c s now M ∧ (∀ k q, mget M k = some q → q.f0 = k) ∧ St (fun _ => False) W wx [blk z (cfA cf) 23, sO g S c s, mR mb M])
  case atStart => exact ⟨0, 0, _, S, [], rfl, rfl, by omega, by omega, by omega, by omega, by simp, FwM.nil _ _ _, km_nil, H4.out⟩
  case round =>
   clear H3 H4
   obtain ⟨j, now, s, S, M, rfl, rfl, hj, hjm, hn0, hn1, hev, hfw, hkm, S5⟩ := hrel
   have H5 := Lib.hid S5
   have HJ := Lib.hid (And.intro hj (And.intro hjm hev))
   have HKM := Lib.hid hkm
   clear S5 hjm hkm
   by_cases hjl : j < i
   ·have hjl' : (j : Int) < (i : Int) := by omega
    have hj81 : (j : Int) ≤ 81 := by have := HI.out.2.1; omega
    have hnow : now ≤ 30000 := by omega
    obtain ⟨x, hx⟩ : ∃ x, ops[j]? = some x := ⟨_, List.getElem?_eq_getElem (by have := HI.out.1; omega)⟩
    have hxb := HI.out.2.2 x (List.mem_of_getElem? (i := j) (by rw [List.getElem?_take_of_lt hjl]; exact hx))
    have hxg := HG.out x (List.mem_of_getElem? hx)
    obtain ⟨ad, b, o, cs, rfl, had, hb, hK, hcs⟩ := C_at HC.out hx (by decide)
    obtain ⟨ok, r, on⟩ := x
    obtain rfl := k39_open hK
    have hon := u8_wf hxg.2.2
    have hph := (u64_wf hxg.2.1.2.1.1).1
    have hks : r.f0.size < 4611686018427387904 := by have := hxb.1; simp only at this; omega
    have hBw := H5.out.base
    dsimp only at hcs hon hph
    have c0 := (hBw.cell (p := ⟨b, o, none⟩) hb).trans (hcs 0 _ rfl)
    have c1 := (hBw.cell (p := ⟨b, o + 1, none⟩) hb).trans (hcs 1 _ rfl)
    have c2 := (hBw.cell (p := ⟨b, o + 2, none⟩) hb).trans (hcs 2 _ rfl)
    have c3 := (hBw.cell (p := ⟨b, o + 3, none⟩) hb).trans (hcs 3 _ rfl)
    have c4 := (hBw.cell (p := ⟨b, o + 4, none⟩) hb).trans (hcs 4 _ rfl)
    have c5 := (hBw.cell (p := ⟨b, o + 5, none⟩) hb).trans (hcs 5 _ rfl)
    have c6 := (hBw.cell (p := ⟨b, o + 6, none⟩) hb).trans (hcs 6 _ rfl)
    have c7 := (hBw.cell (p := ⟨b, o + 7, none⟩) hb).trans (hcs 7 _ rfl)
    have c8 := (hBw.cell (p := ⟨b, o + 8, none⟩) hb).trans (hcs 8 _ rfl)
    have c9 := (hBw.cell (p := ⟨b, o + 9, none⟩) hb).trans (hcs 9 _ rfl)
    have had' : ad.add (j * 10) = ⟨b, o, none⟩ := had
    obtain ⟨hon0, hon1⟩ := hon
    have hfw1 : FwM c s (now + on) M := fun k r0 h => (hfw k r0 h).later (by omega)
    have HFW := Lib.hid hfw1
    have HOK : Hid (Ok s) := Lib.hid (by obtain ⟨d, hI⟩ := so_si (H5.out.get 1 rfl); exact ⟨hI.keys, hI.Fl⟩)
    have HON := Lib.hid (And.intro hon0 (And.intro hon1 (And.intro hn0 hn1)))
    have HPK := Lib.hid (And.intro hks hph)
    have hki := hxb.2
    have hbz := HON
    clear hK hcs had hx hxb hxg hBw hks hph hj hev hn1 hfw hfw1 hki hbz
    go_upto_region 9 with fail
    have S6 := H5.out.new' #[.int .i64 ok, .string r.f0, .int .u64 r.f1.f0, .int .u32 r.f1.f1, .int .u8 r.f1.f2, .int .u8 r.f2, .int .u32 r.f3, .int .u64 r.f4, .string r.f5, .int .u8 on] 39 wr.heap.size rfl
    obtain ⟨z9, hz9⟩ : ∃ z9, wr.heap.size = z9 := ⟨_, rfl⟩
    rw [hz9] at S6 ⊢
    clear hz9
    generalize World.alloc wr _ = w6 at *
    have S6' : St (fun _ => False) W w6 [blk z (cfA cf) 23, sO g S c s, mR mb M, blk z9 (opB ⟨ok, r, on⟩) 39] := S6
    have d9 : w6.cell? ⟨z9, 9, none⟩ = some (.int .u8 on) := blk_cell (S6'.get 3 rfl) 9
    have d0 : w6.cell? ⟨z9, 0, none⟩ = some (.int .i64 ok) := blk_cell (S6'.get 3 rfl) 0
    have H6 := Lib.hid S6'
    clear S6 S6' c0 c1 c2 c3 c4 c5 c6 c7 c8 c9 had' H5
    go_upto_region 12 with fail
    clear d9 d0 hon0 hon1 hn0 hnow
    by_cases h0 : ok = 0
    ·have h0b : (ok == 0) = true := by rw [h0]; rfl
     have HPU := Lib.hid (put_o H6.out (i := 1) rfl r (now + on) HPK.out.1 HPK.out.2 (by have := HJ.out; have := HI.out.2.1; omega))
     have hev1 : (putF c s r (now + on)).2.2.ev + (putF c s r (now + on)).2.2.L.length ≤ j + 1 := by have := put_ev c s r (now + on); have := HJ.out.2.2; omega
     have hfw2 : FwM c (putF c s r (now + on)).2.2 (now + on) M := fun k r0 h => Fw.put HOK.out (HFW.out k r0 h)
     obtain ⟨res, hres⟩ : ∃ res, putF c s r (now + on) = res := ⟨_, rfl⟩
     rw [hres] at HPU hev1 hfw2
     have HEV := Lib.hid hev1
     have HFX := Lib.hid hfw2
     obtain ⟨d1, d2, d3, d4, d5, d6, d7, d8⟩ : w6.cell? ⟨z9, 1, none⟩ = some (.string r.f0) ∧ w6.cell? ⟨z9, 2, none⟩ = some (.int .u64 r.f1.f0) ∧ w6.cell? ⟨z9, 3, none⟩ = some (.int .u32 r.f1.f1) ∧ w6.cell? ⟨z9, 4, none⟩ = some (.int .u8 r.f1.f2) ∧ w6.cell? ⟨z9, 5, none⟩ = some (.int .u8 r.f2) ∧ w6.cell? ⟨z9, 6, none⟩ = some (.int .u32 r.f3) ∧ w6.cell? ⟨z9, 7, none⟩ = some (.int .u64 r.f4) ∧ w6.cell? ⟨z9, 8, none⟩ = some (.string r.f5) :=
      ⟨blk_cell (H6.out.get 3 rfl) 1, blk_cell (H6.out.get 3 rfl) 2, blk_cell (H6.out.get 3 rfl) 3, blk_cell (H6.out.get 3 rfl) 4, blk_cell (H6.out.get 3 rfl) 5, blk_cell (H6.out.get 3 rfl) 6, blk_cell (H6.out.get 3 rfl) 7, blk_cell (H6.out.get 3 rfl) 8⟩
     clear H6 hres hev1 hfw2 h0
     go_upto_region 17 with (go_at_call 11; refine HPU.out.mono ?_; rintro e w7 ⟨rfl, S7, h7⟩)
     obtain ⟨p1, p2, s1⟩ := res
     have H7 : Hid (St (fun _ => False) W w7 [blk z (cfA cf) 23, sO g S7 c s1, mR mb M, blk z9 (opB ⟨ok, r, on⟩) 39]) := Lib.hid h7
     dsimp only at HEV HFX
     clear d1 d2 d3 d4 d5 d6 d7 d8 HPU h7 h0b
     have d1 : w7.cell? ⟨z9, 1, none⟩ = some (.string r.f0) := blk_cell (H7.out.get 3 rfl) 1
     cases hh : hasK s1.L r.f0 with
     | none =>
      have HPE := Lib.hid (peek_none (H7.out.get 1 rfl) HPK.out.1 hh)
      clear hh
      go_upto_region 18 with (go_at_call 14; refine HPE.out.mono ?_; rintro e w8 ⟨rfl, b8⟩)
      have S9 := (H7.out.below b8).alloc (.cells #[.string ⟨#[]⟩, .int .u64 0, .int .u32 0, .int .u8 0, .int .u8 0, .int .u32 0, .int .u64 0, .string ⟨#[]⟩] 37)
      generalize World.alloc w8 _ = w9 at *
      have H9 : Hid (St (fun _ => False) W w9 [blk z (cfA cf) 23, sO g S7 c s1, mR mb M]) := Lib.hid (S9.drop 3)
      clear S9 b8 HPE H7 d1
      go_wp2_with fail
      go_roundg (i - j)
      case measure => have := HJ.out; omega
      case rel =>
       have h1 := HJ.out
       have h2 := HON.out
       exact ⟨j + 1, now + on, s1, S7, M, rfl, congrArg (Value.int .i64) (by omega), by omega, by omega, by omega, by omega, HEV.out, HFX.out, HKM.out, H9.out⟩
     | some q =>
      have HPE := Lib.hid (peek_some (H7.out.get 1 rfl) HPK.out.1 hh)
      have HQK := Lib.hid (hasK_mem hh).2
      have HSE := Lib.hid (FwM.see HFX.out hh)
      have HKM2 : Hid (∀ k q2, mget (mput M r.f0 q) k = some q2 → q2.f0 = k) := Lib.hid (fun k q2 h => by
       rw [mget_mput] at h
       by_cases e : k = r.f0
       ·rw [if_pos e] at h; injection h with h; rw [← h, e]; exact HQK.out
       ·rw [if_neg e] at h; exact HKM.out k q2 h)
      have HLT := Lib.hid (fun p (hp : mget M r.f0 = some p) => FwM.ok HFX.out hh hp)
      have HBZ : Hid (q.f5.size < 4611686018427387904) := Lib.hid (by
       obtain ⟨dd, hI⟩ := so_si (H7.out.get 1 rfl)
       have := may_lens (hI.may q (hasK_mem hh).1).1
       omega)
      clear hh
      go_upto_region 18 with (go_at_call 14; refine HPE.out.mono ?_; rintro e w8 ⟨rfl, b8⟩)
      have S9 := (H7.out.below b8).new' #[.string r.f0, .int .u64 q.f1.f0, .int .u32 q.f1.f1, .int .u8 q.f1.f2, .int .u8 q.f2, .int .u32 q.f3, .int .u64 q.f4, .string q.f5] 37 w8.heap.size rfl
      obtain ⟨y1, hy1⟩ : ∃ y1, w8.heap.size = y1 := ⟨_, rfl⟩
      rw [hy1] at S9 ⊢
      clear hy1
      generalize World.alloc w8 _ = w9 at *
      have H9 : Hid (St (fun _ => False) W w9 [blk z (cfA cf) 23, sO g S7 c s1, mR mb M, blk z9 (opB ⟨ok, r, on⟩) 39, blk y1 (qA r.f0 q) 37]) := Lib.hid S9
      clear S9 b8 HPE H7 d1
      have d1 : w9.cell? ⟨z9, 1, none⟩ = some (.string r.f0) := blk_cell (H9.out.get 3 rfl) 1
      cases hm : mget M r.f0 with
      | none =>
       have hlk := had_none (H9.out.get 2 rfl) r.f0 hm
       clear hm
       go_upto_region 20 with fail
       have S10 := H9.out.alloc (.cells #[.string ⟨#[]⟩, .int .u64 0, .int .u32 0, .int .u8 0, .int .u8 0, .int .u32 0, .int .u64 0, .string ⟨#[]⟩] 37)
       generalize World.alloc w9 _ = w10 at *
       have H10 := Lib.hid S10
       clear S10 H9 hlk d1
       have d1 : w10.cell? ⟨z9, 1, none⟩ = some (.string r.f0) := blk_cell (H10.out.get 3 rfl) 1
       obtain ⟨f0, f1, f2, f3, f4, f5, f6, f7⟩ := blk8 (H10.out.get 4 rfl)
       have HQ2 : Hid (evR q = .agg (qA r.f0 q)) := Lib.hid (by rw [← HQK.out]; rfl)
       go_wp2_with (at_mapUpdate; refine wpList_mapUpdate rfl 30 9 37 _ _ _ rfl Try.underlying30 keysStr evR mb M (H10.out.get 2 rfl) r.f0 q rfl rfl HQ2.out.symm ?_; intro w20 M20 m20)
       have HV : Hid (St (fun _ => False) W w20 [blk z (cfA cf) 23, sO g S7 c s1, mR mb (mput M r.f0 q)]) := Lib.hid ((St.drop (St.drop (H10.out.upd 2 rfl (a' := mR mb (mput M r.f0 q)) m20 M20 (fun k h => .inl h)) 4) 3))
       clear M20 m20 H10 d1 f0 f1 f2 f3 f4 f5 f6 f7
       go_roundg (i - j)
       case measure => have := HJ.out; omega
       case rel =>
        have h1 := HJ.out
        have h2 := HON.out
        exact ⟨j + 1, now + on, s1, S7, mput M r.f0 q, rfl, congrArg (Value.int .i64) (by omega), by omega, by omega, by omega, by omega, HEV.out, HSE.out, HKM2.out, HV.out⟩
      | some p =>
       have hlk := had_some (H9.out.get 2 rfl) r.f0 hm
       have HLE := Lib.hid (less_c q p HBZ.out)
       rw [decide_eq_false (show ¬ recF q p < 0 by have := HLT.out p hm; omega)] at HLE
       have HLE2 : Hid (∀ w, Calls Try.prog 15 #[.agg #[.string r.f0, .int .u64 q.f1.f0, .int .u32 q.f1.f1, .int .u8 q.f1.f2, .int .u8 q.f2, .int .u32 q.f3, .int .u64 q.f4, .string q.f5], .agg #[.string p.f0, .int .u64 p.f1.f0, .int .u32 p.f1.f1, .int .u8 p.f1.f2, .int .u8 p.f2, .int .u32 p.f3, .int .u64 p.f4, .string p.f5]] w fun e w' => e = .returned (.bool false) ∧ Below w.heap.size w w') := Lib.hid (by
        have h := HLE.out
        rw [← HQK.out]
        exact h)
       clear hm HLE
       go_upto_region 20 with fail
       have S10 := H9.out.new' #[.string p.f0, .int .u64 p.f1.f0, .int .u32 p.f1.f1, .int .u8 p.f1.f2, .int .u8 p.f2, .int .u32 p.f3, .int .u64 p.f4, .string p.f5] 37 w9.heap.size rfl
       obtain ⟨y2, hy2⟩ : ∃ y2, w9.heap.size = y2 := ⟨_, rfl⟩
       rw [hy2] at S10 ⊢
       clear hy2
       generalize World.alloc w9 _ = w10 at *
       have H10 : Hid (St (fun _ => False) W w10 [blk z (cfA cf) 23, sO g S7 c s1, mR mb M, blk z9 (opB ⟨ok, r, on⟩) 39, blk y1 (qA r.f0 q) 37, blk y2 (qA p.f0 p) 37]) := Lib.hid S10
       clear S10 H9 hlk d1
       have d1 : w10.cell? ⟨z9, 1, none⟩ = some (.string r.f0) := blk_cell (H10.out.get 3 rfl) 1
       obtain ⟨f0, f1, f2, f3, f4, f5, f6, f7⟩ := blk8 (H10.out.get 4 rfl)
       obtain ⟨h0, h1, h2, h3, h4, h5, h6, h7⟩ := blk8 (H10.out.get 5 rfl)
       go_upto_region 22 with (go_at_call 15; refine (HLE2.out _).mono ?_; rintro e w11 ⟨rfl, b11⟩; have H11 := Lib.hid (H10.out.below b11); have f0' : w11.cell? ⟨y1, 0, none⟩ = some (.string r.f0) := blk_cell (H11.out.get 4 rfl) 0; have d1' : w11.cell? ⟨z9, 1, none⟩ = some (.string r.f0) := blk_cell (H11.out.get 3 rfl) 1; clear b11)
       clear H10 d1 d1' f0' f0 f1 f2 f3 f4 f5 f6 f7 h0 h1 h2 h3 h4 h5 h6 h7
       have d1 : w11.cell? ⟨z9, 1, none⟩ = some (.string r.f0) := blk_cell (H11.out.get 3 rfl) 1
       obtain ⟨f0, f1, f2, f3, f4, f5, f6, f7⟩ := blk8 (H11.out.get 4 rfl)
       have HQ2 : Hid (evR q = .agg (qA r.f0 q)) := Lib.hid (by rw [← HQK.out]; rfl)
       go_wp2_with (at_mapUpdate; refine wpList_mapUpdate rfl 30 9 37 _ _ _ rfl Try.underlying30 keysStr evR mb M (H11.out.get 2 rfl) r.f0 q rfl rfl HQ2.out.symm ?_; intro w20 M20 m20)
       have HV : Hid (St (fun _ => False) W w20 [blk z (cfA cf) 23, sO g S7 c s1, mR mb (mput M r.f0 q)]) := Lib.hid ((St.drop (St.drop (St.drop (H11.out.upd 2 rfl (a' := mR mb (mput M r.f0 q)) m20 M20 (fun k h => .inl h)) 5) 4) 3))
       clear M20 m20 H11 d1 f0 f1 f2 f3 f4 f5 f6 f7
       go_roundg (i - j)
       case measure => have := HJ.out; omega
       case rel =>
        have h1 := HJ.out
        have h2 := HON.out
        exact ⟨j + 1, now + on, s1, S7, mput M r.f0 q, rfl, congrArg (Value.int .i64) (by omega), by omega, by omega, by omega, by omega, HEV.out, HSE.out, HKM2.out, HV.out⟩
    ·have h0b : (ok == 0) = false := by rw [beq_eq_false_iff_ne]; exact h0
     by_cases h12 : ok = 1 ∨ ok = 2
     ·have HGE := Lib.hid (get_o H6.out (i := 1) rfl r.f0 HPK.out.1)
      have hev1 : (getM s r.f0).ev + (getM s r.f0).L.length ≤ j + 1 := by have := get_len (c := c) HOK.out.nd r.f0; have := HJ.out.2.2; omega
      have hfw2 : FwM c (getM s r.f0) (now + on) M := fun k r0 h => Fw.get HOK.out.nd r.f0 (HFW.out k r0 h)
      have d1 : w6.cell? ⟨z9, 1, none⟩ = some (.string r.f0) := blk_cell (H6.out.get 3 rfl) 1
      unfold getPost at HGE
      obtain ⟨s1, hs1⟩ : ∃ s1, getM s r.f0 = s1 := ⟨_, rfl⟩
      rw [hs1] at HGE hev1 hfw2
      have HEV := Lib.hid hev1
      have HFX := Lib.hid hfw2
      obtain ⟨vq, hvq⟩ : ∃ vq, (Value.tuple #[.agg (eRc ((hasK s.L r.f0).getD zRc)).toArray, .bool (hasK s.L r.f0).isSome]) = vq := ⟨_, rfl⟩
      rw [hvq] at HGE
      clear H6 hs1 hev1 hfw2 hvq
      have h1b : (ok == 1) = true ∨ ((ok == 1) = false ∧ (ok == 2) = true) := by
       rcases h12 with h | h <;> rw [h]
       ·exact .inl rfl
       ·exact .inr ⟨rfl, rfl⟩
      clear h12 h0
      rcases h1b with h1b | ⟨h1b, h2b⟩
      ·go_upto_region 17 with (go_at_call 12; refine HGE.out.mono ?_; rintro e w7 ⟨rfl, S7, h7⟩)
       have H7 : Hid (St (fun _ => False) W w7 [blk z (cfA cf) 23, sO g S7 c s1, mR mb M, blk z9 (opB ⟨ok, r, on⟩) 39]) := Lib.hid h7
       clear d1 HGE h7 h0b h1b
       have d1 : w7.cell? ⟨z9, 1, none⟩ = some (.string r.f0) := blk_cell (H7.out.get 3 rfl) 1
       cases hh : hasK s1.L r.f0 with
       | none =>
        have HPE := Lib.hid (peek_none (H7.out.get 1 rfl) HPK.out.1 hh)
        clear hh
        go_upto_region 18 with (go_at_call 14; refine HPE.out.mono ?_; rintro e w8 ⟨rfl, b8⟩)
        have S9 := (H7.out.below b8).alloc (.cells #[.string ⟨#[]⟩, .int .u64 0, .int .u32 0, .int .u8 0, .int .u8 0, .int .u32 0, .int .u64 0, .string ⟨#[]⟩] 37)
        generalize World.alloc w8 _ = w9 at *
        have H9 : Hid (St (fun _ => False) W w9 [blk z (cfA cf) 23, sO g S7 c s1, mR mb M]) := Lib.hid (S9.drop 3)
        clear S9 b8 HPE H7 d1
        go_wp2_with fail
        go_roundg (i - j)
        case measure => have := HJ.out; omega
        case rel =>
         have h1 := HJ.out
         have h2 := HON.out
         exact ⟨j + 1, now + on, s1, S7, M, rfl, congrArg (Value.int .i64) (by omega), by omega, by omega, by omega, by omega, HEV.out, HFX.out, HKM.out, H9.out⟩
       | some q =>
        have HPE := Lib.hid (peek_some (H7.out.get 1 rfl) HPK.out.1 hh)
        have HQK := Lib.hid (hasK_mem hh).2
        have HSE := Lib.hid (FwM.see HFX.out hh)
        have HKM2 : Hid (∀ k q2, mget (mput M r.f0 q) k = some q2 → q2.f0 = k) := Lib.hid (fun k q2 h => by
         rw [mget_mput] at h
         by_cases e : k = r.f0
         ·rw [if_pos e] at h; injection h with h; rw [← h, e]; exact HQK.out
         ·rw [if_neg e] at h; exact HKM.out k q2 h)
        have HLT := Lib.hid (fun p (hp : mget M r.f0 = some p) => FwM.ok HFX.out hh hp)
        have HBZ : Hid (q.f5.size < 4611686018427387904) := Lib.hid (by
         obtain ⟨dd, hI⟩ := so_si (H7.out.get 1 rfl)
         have := may_lens (hI.may q (hasK_mem hh).1).1
         omega)
        clear hh
        go_upto_region 18 with (go_at_call 14; refine HPE.out.mono ?_; rintro e w8 ⟨rfl, b8⟩)
        have S9 := (H7.out.below b8).new' #[.string r.f0, .int .u64 q.f1.f0, .int .u32 q.f1.f1, .int .u8 q.f1.f2, .int .u8 q.f2, .int .u32 q.f3, .int .u64 q.f4, .string q.f5] 37 w8.heap.size rfl
        obtain ⟨y1, hy1⟩ : ∃ y1, w8.heap.size = y1 := ⟨_, rfl⟩
        rw [hy1] at S9 ⊢
        clear hy1
        generalize World.alloc w8 _ = w9 at *
        have H9 : Hid (St (fun _ => False) W w9 [blk z (cfA cf) 23, sO g S7 c s1, mR mb M, blk z9 (opB ⟨ok, r, on⟩) 39, blk y1 (qA r.f0 q) 37]) := Lib.hid S9
        clear S9 b8 HPE H7 d1
        have d1 : w9.cell? ⟨z9, 1, none⟩ = some (.string r.f0) := blk_cell (H9.out.get 3 rfl) 1
        cases hm : mget M r.f0 with
        | none =>
         have hlk := had_none (H9.out.get 2 rfl) r.f0 hm
         clear hm
         go_upto_region 20 with fail
         have S10 := H9.out.alloc (.cells #[.string ⟨#[]⟩, .int .u64 0, .int .u32 0, .int .u8 0, .int .u8 0, .int .u32 0, .int .u64 0, .string ⟨#[]⟩] 37)
         generalize World.alloc w9 _ = w10 at *
         have H10 := Lib.hid S10
         clear S10 H9 hlk d1
         have d1 : w10.cell? ⟨z9, 1, none⟩ = some (.string r.f0) := blk_cell (H10.out.get 3 rfl) 1
         obtain ⟨f0, f1, f2, f3, f4, f5, f6, f7⟩ := blk8 (H10.out.get 4 rfl)
         have HQ2 : Hid (evR q = .agg (qA r.f0 q)) := Lib.hid (by rw [← HQK.out]; rfl)
         go_wp2_with (at_mapUpdate; refine wpList_mapUpdate rfl 30 9 37 _ _ _ rfl Try.underlying30 keysStr evR mb M (H10.out.get 2 rfl) r.f0 q rfl rfl HQ2.out.symm ?_; intro w20 M20 m20)
         have HV : Hid (St (fun _ => False) W w20 [blk z (cfA cf) 23, sO g S7 c s1, mR mb (mput M r.f0 q)]) := Lib.hid ((St.drop (St.drop (H10.out.upd 2 rfl (a' := mR mb (mput M r.f0 q)) m20 M20 (fun k h => .inl h)) 4) 3))
         clear M20 m20 H10 d1 f0 f1 f2 f3 f4 f5 f6 f7
         go_roundg (i - j)
         case measure => have := HJ.out; omega
         case rel =>
          have h1 := HJ.out
          have h2 := HON.out
          exact ⟨j + 1, now + on, s1, S7, mput M r.f0 q, rfl, congrArg (Value.int .i64) (by omega), by omega, by omega, by omega, by omega, HEV.out, HSE.out, HKM2.out, HV.out⟩
        | some p =>
         have hlk := had_some (H9.out.get 2 rfl) r.f0 hm
         have HLE := Lib.hid (less_c q p HBZ.out)
         rw [decide_eq_false (show ¬ recF q p < 0 by have := HLT.out p hm; omega)] at HLE
         have HLE2 : Hid (∀ w, Calls Try.prog 15 #[.agg #[.string r.f0, .int .u64 q.f1.f0, .int .u32 q.f1.f1, .int .u8 q.f1.f2, .int .u8 q.f2, .int .u32 q.f3, .int .u64 q.f4, .string q.f5], .agg #[.string p.f0, .int .u64 p.f1.f0, .int .u32 p.f1.f1, .int .u8 p.f1.f2, .int .u8 p.f2, .int .u32 p.f3, .int .u64 p.f4, .string p.f5]] w fun e w' => e = .returned (.bool false) ∧ Below w.heap.size w w') := Lib.hid (by
          have h := HLE.out
          rw [← HQK.out]
          exact h)
         clear hm HLE
         go_upto_region 20 with fail
         have S10 := H9.out.new' #[.string p.f0, .int .u64 p.f1.f0, .int .u32 p.f1.f1, .int .u8 p.f1.f2, .int .u8 p.f2, .int .u32 p.f3, .int .u64 p.f4, .string p.f5] 37 w9.heap.size rfl
         obtain ⟨y2, hy2⟩ : ∃ y2, w9.heap.size = y2 := ⟨_, rfl⟩
         rw [hy2] at S10 ⊢
         clear hy2
         generalize World.alloc w9 _ = w10 at *
         have H10 : Hid (St (fun _ => False) W w10 [blk z (cfA cf) 23, sO g S7 c s1, mR mb M, blk z9 (opB ⟨ok, r, on⟩) 39, blk y1 (qA r.f0 q) 37, blk y2 (qA p.f0 p) 37]) := Lib.hid S10
         clear S10 H9 hlk d1
         have d1 : w10.cell? ⟨z9, 1, none⟩ = some (.string r.f0) := blk_cell (H10.out.get 3 rfl) 1
         obtain ⟨f0, f1, f2, f3, f4, f5, f6, f7⟩ := blk8 (H10.out.get 4 rfl)
         obtain ⟨h0, h1, h2, h3, h4, h5, h6, h7⟩ := blk8 (H10.out.get 5 rfl)
         go_upto_region 22 with (go_at_call 15; refine (HLE2.out _).mono ?_; rintro e w11 ⟨rfl, b11⟩; have H11 := Lib.hid (H10.out.below b11); have f0' : w11.cell? ⟨y1, 0, none⟩ = some (.string r.f0) := blk_cell (H11.out.get 4 rfl) 0; have d1' : w11.cell? ⟨z9, 1, none⟩ = some (.string r.f0) := blk_cell (H11.out.get 3 rfl) 1; clear b11)
         clear H10 d1 d1' f0' f0 f1 f2 f3 f4 f5 f6 f7 h0 h1 h2 h3 h4 h5 h6 h7
         have d1 : w11.cell? ⟨z9, 1, none⟩ = some (.string r.f0) := blk_cell (H11.out.get 3 rfl) 1
         obtain ⟨f0, f1, f2, f3, f4, f5, f6, f7⟩ := blk8 (H11.out.get 4 rfl)
         have HQ2 : Hid (evR q = .agg (qA r.f0 q)) := Lib.hid (by rw [← HQK.out]; rfl)
         go_wp2_with (at_mapUpdate; refine wpList_mapUpdate rfl 30 9 37 _ _ _ rfl Try.underlying30 keysStr evR mb M (H11.out.get 2 rfl) r.f0 q rfl rfl HQ2.out.symm ?_; intro w20 M20 m20)
         have HV : Hid (St (fun _ => False) W w20 [blk z (cfA cf) 23, sO g S7 c s1, mR mb (mput M r.f0 q)]) := Lib.hid ((St.drop (St.drop (St.drop (H11.out.upd 2 rfl (a' := mR mb (mput M r.f0 q)) m20 M20 (fun k h => .inl h)) 5) 4) 3))
         clear M20 m20 H11 d1 f0 f1 f2 f3 f4 f5 f6 f7
         go_roundg (i - j)
         case measure => have := HJ.out; omega
         case rel =>
          have h1 := HJ.out
          have h2 := HON.out
          exact ⟨j + 1, now + on, s1, S7, mput M r.f0 q, rfl, congrArg (Value.int .i64) (by omega), by omega, by omega, by omega, by omega, HEV.out, HSE.out, HKM2.out, HV.out⟩
      ·go_upto_region 17 with (go_at_call 12; refine HGE.out.mono ?_; rintro e w7 ⟨rfl, S7, h7⟩)
       have H7 : Hid (St (fun _ => False) W w7 [blk z (cfA cf) 23, sO g S7 c s1, mR mb M, blk z9 (opB ⟨ok, r, on⟩) 39]) := Lib.hid h7
       clear d1 HGE h7 h0b h1b h2b
       have d1 : w7.cell? ⟨z9, 1, none⟩ = some (.string r.f0) := blk_cell (H7.out.get 3 rfl) 1
       cases hh : hasK s1.L r.f0 with
       | none =>
        have HPE := Lib.hid (peek_none (H7.out.get 1 rfl) HPK.out.1 hh)
        clear hh
        go_upto_region 18 with (go_at_call 14; refine HPE.out.mono ?_; rintro e w8 ⟨rfl, b8⟩)
        have S9 := (H7.out.below b8).alloc (.cells #[.string ⟨#[]⟩, .int .u64 0, .int .u32 0, .int .u8 0, .int .u8 0, .int .u32 0, .int .u64 0, .string ⟨#[]⟩] 37)
        generalize World.alloc w8 _ = w9 at *
        have H9 : Hid (St (fun _ => False) W w9 [blk z (cfA cf) 23, sO g S7 c s1, mR mb M]) := Lib.hid (S9.drop 3)
        clear S9 b8 HPE H7 d1
        go_wp2_with fail
        go_roundg (i - j)
        case measure => have := HJ.out; omega
        case rel =>
         have h1 := HJ.out
         have h2 := HON.out
         exact ⟨j + 1, now + on, s1, S7, M, rfl, congrArg (Value.int .i64) (by omega), by omega, by omega, by omega, by omega, HEV.out, HFX.out, HKM.out, H9.out⟩
       | some q =>
        have HPE := Lib.hid (peek_some (H7.out.get 1 rfl) HPK.out.1 hh)
        have HQK := Lib.hid (hasK_mem hh).2
        have HSE := Lib.hid (FwM.see HFX.out hh)
        have HKM2 : Hid (∀ k q2, mget (mput M r.f0 q) k = some q2 → q2.f0 = k) := Lib.hid (fun k q2 h => by
         rw [mget_mput] at h
         by_cases e : k = r.f0
         ·rw [if_pos e] at h; injection h with h; rw [← h, e]; exact HQK.out
         ·rw [if_neg e] at h; exact HKM.out k q2 h)
        have HLT := Lib.hid (fun p (hp : mget M r.f0 = some p) => FwM.ok HFX.out hh hp)
        have HBZ : Hid (q.f5.size < 4611686018427387904) := Lib.hid (by
         obtain ⟨dd, hI⟩ := so_si (H7.out.get 1 rfl)
         have := may_lens (hI.may q (hasK_mem hh).1).1
         omega)
        clear hh
        go_upto_region 18 with (go_at_call 14; refine HPE.out.mono ?_; rintro e w8 ⟨rfl, b8⟩)
        have S9 := (H7.out.below b8).new' #[.string r.f0, .int .u64 q.f1.f0, .int .u32 q.f1.f1, .int .u8 q.f1.f2, .int .u8 q.f2, .int .u32 q.f3, .int .u64 q.f4, .string q.f5] 37 w8.heap.size rfl
        obtain ⟨y1, hy1⟩ : ∃ y1, w8.heap.size = y1 := ⟨_, rfl⟩
        rw [hy1] at S9 ⊢
        clear hy1
        generalize World.alloc w8 _ = w9 at *
        have H9 : Hid (St (fun _ => False) W w9 [blk z (cfA cf) 23, sO g S7 c s1, mR mb M, blk z9 (opB ⟨ok, r, on⟩) 39, blk y1 (qA r.f0 q) 37]) := Lib.hid S9
        clear S9 b8 HPE H7 d1
        have d1 : w9.cell? ⟨z9, 1, none⟩ = some (.string r.f0) := blk_cell (H9.out.get 3 rfl) 1
        cases hm : mget M r.f0 with
        | none =>
         have hlk := had_none (H9.out.get 2 rfl) r.f0 hm
         clear hm
         go_upto_region 20 with fail
         have S10 := H9.out.alloc (.cells #[.string ⟨#[]⟩, .int .u64 0, .int .u32 0, .int .u8 0, .int .u8 0, .int .u32 0, .int .u64 0, .string ⟨#[]⟩] 37)
         generalize World.alloc w9 _ = w10 at *
         have H10 := Lib.hid S10
         clear S10 H9 hlk d1
         have d1 : w10.cell? ⟨z9, 1, none⟩ = some (.string r.f0) := blk_cell (H10.out.get 3 rfl) 1
         obtain ⟨f0, f1, f2, f3, f4, f5, f6, f7⟩ := blk8 (H10.out.get 4 rfl)
         have HQ2 : Hid (evR q = .agg (qA r.f0 q)) := Lib.hid (by rw [← HQK.out]; rfl)
         go_wp2_with (at_mapUpdate; refine wpList_mapUpdate rfl 30 9 37 _ _ _ rfl Try.underlying30 keysStr evR mb M (H10.out.get 2 rfl) r.f0 q rfl rfl HQ2.out.symm ?_; intro w20 M20 m20)
         have HV : Hid (St (fun _ => False) W w20 [blk z (cfA cf) 23, sO g S7 c s1, mR mb (mput M r.f0 q)]) := Lib.hid ((St.drop (St.drop (H10.out.upd 2 rfl (a' := mR mb (mput M r.f0 q)) m20 M20 (fun k h => .inl h)) 4) 3))
         clear M20 m20 H10 d1 f0 f1 f2 f3 f4 f5 f6 f7
         go_roundg (i - j)
         case measure => have := HJ.out; omega
         case rel =>
          have h1 := HJ.out
          have h2 := HON.out
          exact ⟨j + 1, now + on, s1, S7, mput M r.f0 q, rfl, congrArg (Value.int .i64) (by omega), by omega, by omega, by omega, by omega, HEV.out, HSE.out, HKM2.out, HV.out⟩
        | some p =>
         have hlk := had_some (H9.out.get 2 rfl) r.f0 hm
         have HLE := Lib.hid (less_c q p HBZ.out)
         rw [decide_eq_false (show ¬ recF q p < 0 by have := HLT.out p hm; omega)] at HLE
         have HLE2 : Hid (∀ w, Calls Try.prog 15 #[.agg #[.string r.f0, .int .u64 q.f1.f0, .int .u32 q.f1.f1, .int .u8 q.f1.f2, .int .u8 q.f2, .int .u32 q.f3, .int .u64 q.f4, .string q.f5], .agg #[.string p.f0, .int .u64 p.f1.f0, .int .u32 p.f1.f1, .int .u8 p.f1.f2, .int .u8 p.f2, .int .u32 p.f3, .int .u64 p.f4, .string p.f5]] w fun e w' => e = .returned (.bool false) ∧ Below w.heap.size w w') := Lib.hid (by
          have h := HLE.out
          rw [← HQK.out]
          exact h)
         clear hm HLE
         go_upto_region 20 with fail
         have S10 := H9.out.new' #[.string p.f0, .int .u64 p.f1.f0, .int .u32 p.f1.f1, .int .u8 p.f1.f2, .int .u8 p.f2, .int .u32 p.f3, .int .u64 p.f4, .string p.f5] 37 w9.heap.size rfl
         obtain ⟨y2, hy2⟩ : ∃ y2, w9.heap.size = y2 := ⟨_, rfl⟩
         rw [hy2] at S10 ⊢
         clear hy2
         generalize World.alloc w9 _ = w10 at *
         have H10 : Hid (St (fun _ => False) W w10 [blk z (cfA cf) 23, sO g S7 c s1, mR mb M, blk z9 (opB ⟨ok, r, on⟩) 39, blk y1 (qA r.f0 q) 37, blk y2 (qA p.f0 p) 37]) := Lib.hid S10
         clear S10 H9 hlk d1
         have d1 : w10.cell? ⟨z9, 1, none⟩ = some (.string r.f0) := blk_cell (H10.out.get 3 rfl) 1
         obtain ⟨f0, f1, f2, f3, f4, f5, f6, f7⟩ := blk8 (H10.out.get 4 rfl)
         obtain ⟨h0, h1, h2, h3, h4, h5, h6, h7⟩ := blk8 (H10.out.get 5 rfl)
         go_upto_region 22 with (go_at_call 15; refine (HLE2.out _).mono ?_; rintro e w11 ⟨rfl, b11⟩; have H11 := Lib.hid (H10.out.below b11); have f0' : w11.cell? ⟨y1, 0, none⟩ = some (.string r.f0) := blk_cell (H11.out.get 4 rfl) 0; have d1' : w11.cell? ⟨z9, 1, none⟩ = some (.string r.f0) := blk_cell (H11.out.get 3 rfl) 1; clear b11)
         clear H10 d1 d1' f0' f0 f1 f2 f3 f4 f5 f6 f7 h0 h1 h2 h3 h4 h5 h6 h7
         have d1 : w11.cell? ⟨z9, 1, none⟩ = some (.string r.f0) := blk_cell (H11.out.get 3 rfl) 1
         obtain ⟨f0, f1, f2, f3, f4, f5, f6, f7⟩ := blk8 (H11.out.get 4 rfl)
         have HQ2 : Hid (evR q = .agg (qA r.f0 q)) := Lib.hid (by rw [← HQK.out]; rfl)
         go_wp2_with (at_mapUpdate; refine wpList_mapUpdate rfl 30 9 37 _ _ _ rfl Try.underlying30 keysStr evR mb M (H11.out.get 2 rfl) r.f0 q rfl rfl HQ2.out.symm ?_; intro w20 M20 m20)
         have HV : Hid (St (fun _ => False) W w20 [blk z (cfA cf) 23, sO g S7 c s1, mR mb (mput M r.f0 q)]) := Lib.hid ((St.drop (St.drop (St.drop (H11.out.upd 2 rfl (a' := mR mb (mput M r.f0 q)) m20 M20 (fun k h => .inl h)) 5) 4) 3))
         clear M20 m20 H11 d1 f0 f1 f2 f3 f4 f5 f6 f7
         go_roundg (i - j)
         case measure => have := HJ.out; omega
         case rel =>
          have h1 := HJ.out
          have h2 := HON.out
          exact ⟨j + 1, now + on, s1, S7, mput M r.f0 q, rfl, congrArg (Value.int .i64) (by omega), by omega, by omega, by omega, by omega, HEV.out, HSE.out, HKM2.out, HV.out⟩
     ·have h1b : (ok == 1) = false := by rw [beq_eq_false_iff_ne]; exact fun e => h12 (.inl e)
      have h2b : (ok == 2) = false := by rw [beq_eq_false_iff_ne]; exact fun e => h12 (.inr e)
      have HPG := Lib.hid (purge_o H6.out (i := 1) rfl (now + on))
      have hev1 : (purM c s (now + on)).ev + (purM c s (now + on)).L.length ≤ j + 1 := by have := pur_len c s (now + on); have := HJ.out.2.2; omega
      have hfw2 : FwM c (purM c s (now + on)) (now + on) M := fun k r0 h => Fw.purge HOK.out.nd (HFW.out k r0 h)
      unfold purgePost at HPG
      obtain ⟨s1, hs1⟩ : ∃ s1, purM c s (now + on) = s1 := ⟨_, rfl⟩
      rw [hs1] at HPG hev1 hfw2
      have HEV := Lib.hid hev1
      have HFX := Lib.hid hfw2
      clear H6 hs1 hev1 hfw2 h12 h0
      go_upto_region 17 with (go_at_call 13; refine HPG.out.mono ?_; rintro e w7 ⟨rfl, S7, h7⟩)
      have H7 : Hid (St (fun _ => False) W w7 [blk z (cfA cf) 23, sO g S7 c s1, mR mb M, blk z9 (opB ⟨ok, r, on⟩) 39]) := Lib.hid h7
      clear HPG h7 h0b h1b h2b
      have d1 : w7.cell? ⟨z9, 1, none⟩ = some (.string r.f0) := blk_cell (H7.out.get 3 rfl) 1
      cases hh : hasK s1.L r.f0 with
      | none =>
       have HPE := Lib.hid (peek_none (H7.out.get 1 rfl) HPK.out.1 hh)
       clear hh
       go_upto_region 18 with (go_at_call 14; refine HPE.out.mono ?_; rintro e w8 ⟨rfl, b8⟩)
       have S9 := (H7.out.below b8).alloc (.cells #[.string ⟨#[]⟩, .int .u64 0, .int .u32 0, .int .u8 0, .int .u8 0, .int .u32 0, .int .u64 0, .string ⟨#[]⟩] 37)
       generalize World.alloc w8 _ = w9 at *
       have H9 : Hid (St (fun _ => False) W w9 [blk z (cfA cf) 23, sO g S7 c s1, mR mb M]) := Lib.hid (S9.drop 3)
       clear S9 b8 HPE H7 d1
       go_wp2_with fail
       go_roundg (i - j)
       case measure => have := HJ.out; omega
       case rel =>
        have h1 := HJ.out
        have h2 := HON.out
        exact ⟨j + 1, now + on, s1, S7, M, rfl, congrArg (Value.int .i64) (by omega), by omega, by omega, by omega, by omega, HEV.out, HFX.out, HKM.out, H9.out⟩
      | some q =>
       have HPE := Lib.hid (peek_some (H7.out.get 1 rfl) HPK.out.1 hh)
       have HQK := Lib.hid (hasK_mem hh).2
       have HSE := Lib.hid (FwM.see HFX.out hh)
       have HKM2 : Hid (∀ k q2, mget (mput M r.f0 q) k = some q2 → q2.f0 = k) := Lib.hid (fun k q2 h => by
        rw [mget_mput] at h
        by_cases e : k = r.f0
        ·rw [if_pos e] at h; injection h with h; rw [← h, e]; exact HQK.out
        ·rw [if_neg e] at h; exact HKM.out k q2 h)
       have HLT := Lib.hid (fun p (hp : mget M r.f0 = some p) => FwM.ok HFX.out hh hp)
       have HBZ : Hid (q.f5.size < 4611686018427387904) := Lib.hid (by
        obtain ⟨dd, hI⟩ := so_si (H7.out.get 1 rfl)
        have := may_lens (hI.may q (hasK_mem hh).1).1
        omega)
       clear hh
       go_upto_region 18 with (go_at_call 14; refine HPE.out.mono ?_; rintro e w8 ⟨rfl, b8⟩)
       have S9 := (H7.out.below b8).new' #[.string r.f0, .int .u64 q.f1.f0, .int .u32 q.f1.f1, .int .u8 q.f1.f2, .int .u8 q.f2, .int .u32 q.f3, .int .u64 q.f4, .string q.f5] 37 w8.heap.size rfl
       obtain ⟨y1, hy1⟩ : ∃ y1, w8.heap.size = y1 := ⟨_, rfl⟩
       rw [hy1] at S9 ⊢
       clear hy1
       generalize World.alloc w8 _ = w9 at *
       have H9 : Hid (St (fun _ => False) W w9 [blk z (cfA cf) 23, sO g S7 c s1, mR mb M, blk z9 (opB ⟨ok, r, on⟩) 39, blk y1 (qA r.f0 q) 37]) := Lib.hid S9
       clear S9 b8 HPE H7 d1
       have d1 : w9.cell? ⟨z9, 1, none⟩ = some (.string r.f0) := blk_cell (H9.out.get 3 rfl) 1
       cases hm : mget M r.f0 with
       | none =>
        have hlk := had_none (H9.out.get 2 rfl) r.f0 hm
        clear hm
        go_upto_region 20 with fail
        have S10 := H9.out.alloc (.cells #[.string ⟨#[]⟩, .int .u64 0, .int .u32 0, .int .u8 0, .int .u8 0, .int .u32 0, .int .u64 0, .string ⟨#[]⟩] 37)
        generalize World.alloc w9 _ = w10 at *
        have H10 := Lib.hid S10
        clear S10 H9 hlk d1
        have d1 : w10.cell? ⟨z9, 1, none⟩ = some (.string r.f0) := blk_cell (H10.out.get 3 rfl) 1
        obtain ⟨f0, f1, f2, f3, f4, f5, f6, f7⟩ := blk8 (H10.out.get 4 rfl)
        have HQ2 : Hid (evR q = .agg (qA r.f0 q)) := Lib.hid (by rw [← HQK.out]; rfl)
        go_wp2_with (at_mapUpdate; refine wpList_mapUpdate rfl 30 9 37 _ _ _ rfl Try.underlying30 keysStr evR mb M (H10.out.get 2 rfl) r.f0 q rfl rfl HQ2.out.symm ?_; intro w20 M20 m20)
        have HV : Hid (St (fun _ => False) W w20 [blk z (cfA cf) 23, sO g S7 c s1, mR mb (mput M r.f0 q)]) := Lib.hid ((St.drop (St.drop (H10.out.upd 2 rfl (a' := mR mb (mput M r.f0 q)) m20 M20 (fun k h => .inl h)) 4) 3))
        clear M20 m20 H10 d1 f0 f1 f2 f3 f4 f5 f6 f7
        go_roundg (i - j)
        case measure => have := HJ.out; omega
        case rel =>
         have h1 := HJ.out
         have h2 := HON.out
         exact ⟨j + 1, now + on, s1, S7, mput M r.f0 q, rfl, congrArg (Value.int .i64) (by omega), by omega, by omega, by omega, by omega, HEV.out, HSE.out, HKM2.out, HV.out⟩
       | some p =>
        have hlk := had_some (H9.out.get 2 rfl) r.f0 hm
        have HLE := Lib.hid (less_c q p HBZ.out)
        rw [decide_eq_false (show ¬ recF q p < 0 by have := HLT.out p hm; omega)] at HLE
        have HLE2 : Hid (∀ w, Calls Try.prog 15 #[.agg #[.string r.f0, .int .u64 q.f1.f0, .int .u32 q.f1.f1, .int .u8 q.f1.f2, .int .u8 q.f2, .int .u32 q.f3, .int .u64 q.f4, .string q.f5], .agg #[.string p.f0, .int .u64 p.f1.f0, .int .u32 p.f1.f1, .int .u8 p.f1.f2, .int .u8 p.f2, .int .u32 p.f3, .int .u64 p.f4, .string p.f5]] w fun e w' => e = .returned (.bool false) ∧ Below w.heap.size w w') := Lib.hid (by
         have h := HLE.out
         rw [← HQK.out]
         exact h)
        clear hm HLE
        go_upto_region 20 with fail
        have S10 := H9.out.new' #[.string p.f0, .int .u64 p.f1.f0, .int .u32 p.f1.f1, .int .u8 p.f1.f2, .int .u8 p.f2, .int .u32 p.f3, .int .u64 p.f4, .string p.f5] 37 w9.heap.size rfl
        obtain ⟨y2, hy2⟩ : ∃ y2, w9.heap.size = y2 := ⟨_, rfl⟩
        rw [hy2] at S10 ⊢
        clear hy2
        generalize World.alloc w9 _ = w10 at *
        have H10 : Hid (St (fun _ => False) W w10 [blk z (cfA cf) 23, sO g S7 c s1, mR mb M, blk z9 (opB ⟨ok, r, on⟩) 39, blk y1 (qA r.f0 q) 37, blk y2 (qA p.f0 p) 37]) := Lib.hid S10
        clear S10 H9 hlk d1
        have d1 : w10.cell? ⟨z9, 1, none⟩ = some (.string r.f0) := blk_cell (H10.out.get 3 rfl) 1
        obtain ⟨f0, f1, f2, f3, f4, f5, f6, f7⟩ := blk8 (H10.out.get 4 rfl)
        obtain ⟨h0, h1, h2, h3, h4, h5, h6, h7⟩ := blk8 (H10.out.get 5 rfl)
        go_upto_region 22 with (go_at_call 15; refine (HLE2.out _).mono ?_; rintro e w11 ⟨rfl, b11⟩; have H11 := Lib.hid (H10.out.below b11); have f0' : w11.cell? ⟨y1, 0, none⟩ = some (.string r.f0) := blk_cell (H11.out.get 4 rfl) 0; have d1' : w11.cell? ⟨z9, 1, none⟩ = some (.string r.f0) := blk_cell (H11.out.get 3 rfl) 1; clear b11)
        clear H10 d1 d1' f0' f0 f1 f2 f3 f4 f5 f6 f7 h0 h1 h2 h3 h4 h5 h6 h7
        have d1 : w11.cell? ⟨z9, 1, none⟩ = some (.string r.f0) := blk_cell (H11.out.get 3 rfl) 1
        obtain ⟨f0, f1, f2, f3, f4, f5, f6, f7⟩ := blk8 (H11.out.get 4 rfl)
        have HQ2 : Hid (evR q = .agg (qA r.f0 q)) := Lib.hid (by rw [← HQK.out]; rfl)
        go_wp2_with (at_mapUpdate; refine wpList_mapUpdate rfl 30 9 37 _ _ _ rfl Try.underlying30 keysStr evR mb M (H11.out.get 2 rfl) r.f0 q rfl rfl HQ2.out.symm ?_; intro w20 M20 m20)
        have HV : Hid (St (fun _ => False) W w20 [blk z (cfA cf) 23, sO g S7 c s1, mR mb (mput M r.f0 q)]) := Lib.hid ((St.drop (St.drop (St.drop (H11.out.upd 2 rfl (a' := mR mb (mput M r.f0 q)) m20 M20 (fun k h => .inl h)) 5) 4) 3))
        clear M20 m20 H11 d1 f0 f1 f2 f3 f4 f5 f6 f7
        go_roundg (i - j)
        case measure => have := HJ.out; omega
        case rel =>
         have h1 := HJ.out
         have h2 := HON.out
         exact ⟨j + 1, now + on, s1, S7, mput M r.f0 q, rfl, congrArg (Value.int .i64) (by omega), by omega, by omega, by omega, by omega, HEV.out, HSE.out, HKM2.out, HV.out⟩
   ·have hje : j = i := by have := HJ.out; omega
    subst hje
    have hjl' : ¬ ((j : Int) < (j : Int)) := by omega
    go_wp2_with fail
    go_ret
    exact ⟨rfl, H5.out.base⟩
 ·have HN := Lib.hid (snew_no cf.f0 cf.f1 cf.f2 w1 hok)
  clear hok
  go_wp2_with (first | (go_at_call 8; refine HN.out.mono ?_; rintro e w2 ⟨rfl, rfl⟩) | (go_at_call 9; refine (HFix.out _).mono ?_; rintro e w3 ⟨rfl, b3⟩; have HB3 := Lib.hid b3; clear b3))
  go_ret
  exact ⟨rfl, H1.out.base.trans (HB3.out.mono H1.out.base.size)⟩
theorem forward_row (a0 : S23) (cs : List Value) (ops : List Oq) (A : Option Addr) (cp : Nat) (W : World) (hK : k23.K W a0 cs) (hC : k39.C W A ops.length ops) (hc : ops.length ≤ cp) (hg : ∀ o ∈ ops, g39 o) :
  Calls Try.prog 3 #[.agg cs.toArray, .slice A ops.length cp] W fun e w' => e = .returned (.bool true) ∧ Below W.heap.size W w' := by
 rw [k23_open hK]
 exact forward_c a0 ops A cp W hC hc hg
end Go.Proofs.Ytecgnfklfgjgaaa
