/- Hints: a key's place. -/
import Derived.Test.YtmpodcefngpnkaaHD
import Derived.Test.YtmpodcefngpnkaaLib
import Derived.Shelf.Abstract
namespace Go.Proofs.Ytmpodcefngpnkaa
open Go.RowKit Go.Tat Go.Proofs.YtmpodcefngpnkaaW.PrintWords PHintPlays
abbrev Hn := S52
def eHn (x : Hn) : List Value := [.string x.f0.f0, .int .u64 x.f0.f1.f0, .int .u32 x.f0.f1.f1, .int .u8 x.f0.f1.f2, .int .u8 x.f0.f2, .int .u32 x.f0.f3, .int .u64 x.f0.f4, .string x.f0.f5, .int .u64 x.f1]
theorem flHn : Flat k52 eHn := ⟨rfl, ⟨fun h => k52_openM h, fun h => h ▸ k52_mkM _ _ _ _⟩, ⟨fun h => k52_open h, fun h => h ▸ k52_mk _ _⟩⟩
instance : Inhabited Hn := ⟨z52⟩
theorem zeroHn : (Try.prog.info? 52).map (·.zero) = some (some (.agg #[.string ⟨#[]⟩, .int .u64 0, .int .u32 0, .int .u8 0, .int .u8 0, .int .u32 0, .int .u64 0, .string ⟨#[]⟩, .int .u64 0])) := by kernel_rfl
theorem infoHn : (Try.prog.info? 52).map (fun i => (i.zero, i.size, i.bytes)) = some (some (.agg #[.string ⟨#[]⟩, .int .u64 0, .int .u32 0, .int .u8 0, .int .u8 0, .int .u32 0, .int .u64 0, .string ⟨#[]⟩, .int .u64 0]), 9, 72) := by kernel_rfl
theorem sizeHn : (Try.prog.info? 52).map (·.size) = some 9 := by kernel_rfl
/-- By rising keys. -/
def SortedH (l : List Hn) : Prop := l.Pairwise fun x y => cS x.f0.f0 y.f0.f0 < 0
def posH (l : List Hn) (key : ByteArray) : Nat := (l.takeWhile fun x => decide (cS x.f0.f0 key < 0)).length
theorem posH_is {l : List Hn} {key : ByteArray} {i : Nat} (hi : i ≤ l.length) (h1 : ∀ (j : Nat) x, j < i → l[j]? = some x → cS x.f0.f0 key < 0) (h2 : ∀ (j : Nat) x, i ≤ j → l[j]? = some x → ¬ cS x.f0.f0 key < 0) : posH l key = i := by
  unfold posH
  induction l generalizing i with
  | nil => simp at hi; simp [hi]
  | cons y l ih =>
    cases i with
    | zero => rw [List.takeWhile_cons_of_neg (by simpa using h2 0 y (Nat.le_refl _) rfl)]; rfl
    | succ i =>
      rw [List.takeWhile_cons_of_pos (by simpa using h1 0 y (Nat.succ_pos _) rfl), List.length_cons, ih (i := i) (by simpa using hi) (fun j x hj hx => h1 (j + 1) x (by omega) (by simpa using hx)) (fun j x hj hx => h2 (j + 1) x (by omega) (by simpa using hx))]
theorem posH_le (l : List Hn) (key : ByteArray) : posH l key ≤ l.length := (List.takeWhile_prefix _).length_le
def thereH (l : List Hn) (key : ByteArray) : Bool := match l[posH l key]? with | some x => decide (cS x.f0.f0 key = 0) | none => false
theorem thereH_at {l : List Hn} {key : ByteArray} {x : Hn} (h : l[posH l key]? = some x) : thereH l key = decide (cS x.f0.f0 key = 0) := by unfold thereH; rw [h]
theorem thereH_end {l : List Hn} {key : ByteArray} (h : posH l key = l.length) : thereH l key = false := by unfold thereH; rw [h, List.getElem?_eq_none (Nat.le_refl _)]
set_option maxHeartbeats 1000000 in
theorem atF_c (x : Hn) (key : ByteArray) (w : World) : Calls Try.prog 45 #[.agg (eHn x).toArray, .string key] w fun e w' => e = .returned (.int .i64 (cS x.f0.f0 key)) ∧ Below w.heap.size w w' := by
  have HS := Lib.hid scmp_c
  obtain ⟨⟨xk, ⟨xp, xl, xn⟩, xd, xf, xe, xb⟩, xa⟩ := x
  unfold eHn
  dsimp only
  go_enter Try.func45, Try.ntmps45
  go_wp2_with (go_at_call 46; refine (HS.out _ _ _).mono ?_; rintro e w' ⟨rfl, rfl⟩)
  go_ret
  exact ⟨rfl, (Below.refl _ _).alloc (Nat.le_refl _) _⟩
theorem entersAtF : ∀ args w, (callFunc 45 args).run Try.prog w = .ok (.enter 45 args) w := enters_of Try.func45 (by kernel_rfl) rfl
/-- What the search in halves knows. -/
structure Bin (l : List Hn) (key : ByteArray) (i j : Nat) : Prop where
  ij : i ≤ j
  jn : j ≤ l.length
  lo : ∀ (q : Nat) x, q < i → l[q]? = some x → cS x.f0.f0 key < 0
  hi : ∀ (q : Nat) x, j ≤ q → l[q]? = some x → ¬ cS x.f0.f0 key < 0
theorem Bin.start (l : List Hn) (key : ByteArray) : Bin l key 0 l.length := ⟨Nat.zero_le _, Nat.le_refl _, fun q x h => absurd h (Nat.not_lt_zero _), fun q x h hx => by have := (List.getElem?_eq_some_iff.1 hx).1; omega⟩
theorem sorted_lt {l : List Hn} (hs : SortedH l) {a b : Nat} {x y : Hn} (hx : l[a]? = some x) (hy : l[b]? = some y) (hab : a < b) : cS x.f0.f0 y.f0.f0 < 0 := by
  obtain ⟨l1, e1⟩ := List.getElem?_eq_some_iff.1 hx
  obtain ⟨l2, e2⟩ := List.getElem?_eq_some_iff.1 hy
  have := List.pairwise_iff_getElem.1 hs a b l1 l2 hab
  rw [e1, e2] at this
  exact this
theorem Bin.up {l : List Hn} {key : ByteArray} {i j h : Nat} (B : Bin l key i j) (hs : SortedH l) (h2 : h < j) {x : Hn} (hx : l[h]? = some x) (hl : cS x.f0.f0 key < 0) : Bin l key (h + 1) j :=
  ⟨by omega, B.jn, fun q y hq hy => by
    rcases Nat.lt_or_ge q h with h3 | h3
    · exact cS_trans (sorted_lt hs hy hx h3) hl
    · obtain rfl : q = h := by omega
      rw [hx] at hy; cases hy; exact hl, B.hi⟩
theorem Bin.down {l : List Hn} {key : ByteArray} {i j h : Nat} (B : Bin l key i j) (hs : SortedH l) (h1 : i ≤ h) (h2 : h < j) {x : Hn} (hx : l[h]? = some x) (hl : ¬ cS x.f0.f0 key < 0) : Bin l key i h :=
  ⟨h1, by have := B.jn; omega, B.lo, fun q y hq hy hn => by
    rcases Nat.lt_or_ge h q with h3 | h3
    · exact hl (cS_trans (sorted_lt hs hx hy h3) hn)
    · obtain rfl : q = h := by omega
      rw [hx] at hy; cases hy; exact hl hn⟩
theorem Bin.pos {l : List Hn} {key : ByteArray} {i : Nat} (B : Bin l key i i) : posH l key = i := posH_is B.jn B.lo B.hi
set_option maxRecDepth 100000 in
set_option maxHeartbeats 4000000 in
theorem bs_c (l : List Hn) (key : ByteArray) (hs : SortedH l) (A : Option Addr) (c : Nat) (w : World) (hC : k52.C w A l.length l) (hl : l.length ≤ 1000000) :
    Calls Try.prog 44 #[.slice A l.length c, .string key, .func (.func 45) #[] #[]] w fun e w' => e = .returned (.tuple #[.int .i64 (posH l key), .bool (thereH l key)]) ∧ Below w.heap.size w w' := by
  have HC := Lib.hid hC
  have HS := Lib.hid hs
  have HA := Lib.hid atF_c
  have eg := entersAtF
  clear hC hs
  go_enter Try.func44, Try.ntmps44
  go_wp2_with fail
  go_loopg [9, 10] (l.length + 1) (fun m v9 v10 wx => ∃ i j : Nat, v9 = .int .i64 i ∧ v10 = .int .i64 j ∧ Bin l key i j ∧ j - i < m ∧ Below w.heap.size w wx)
  case atStart => exact ⟨0, l.length, rfl, rfl, Bin.start _ _, by omega, Below.refl _ _⟩
  case round =>
    obtain ⟨i, j, rfl, rfl, B, hm, hB⟩ := hrel
    have HBi := Lib.hid B
    have HB := Lib.hid hB
    have hjn := B.jn
    have hij := B.ij
    clear B hB
    have hi0 : (0 : Int) ≤ (i : Int) := by omega
    have hj1 : (j : Int) ≤ 1000000 := by omega
    have hi1 : (i : Int) ≤ 1000000 := by omega
    have hj0 : (0 : Int) ≤ (j : Int) := by omega
    by_cases hlt : i < j
    · have hlt' : (i : Int) < (j : Int) := by omega
      obtain ⟨h, hh⟩ : ∃ h : Nat, (i + j) / 2 = h := ⟨_, rfl⟩
      have hh1 : i ≤ h := by omega
      have hh2 : h < j := by omega
      have HM := Lib.hid (And.intro hm (And.intro hjn hij))
      clear hm
      go_upto_region 5 with fail
      have e : ((i : Int) + (j : Int)) / 2 = (h : Int) := by omega
      rw [e]
      obtain ⟨x, hx⟩ : ∃ x, l[h]? = some x := ⟨_, List.getElem?_eq_getElem (by omega)⟩
      obtain ⟨ad, b, o, cs, rfl, had, hbl, hK, hcs⟩ := C_at HC.out hx (by decide)
      have hK' := flHn.K.1 hK
      subst hK'
      have HX := Lib.hid hx
      have HAx := Lib.hid (HA.out x key wr)
      obtain ⟨⟨xk, ⟨xp, xl, xn⟩, xd, xf, xe, xb⟩, xa⟩ := x
      unfold eHn at hcs HAx
      dsimp only at hcs HAx
      have u0 := (HB.out.cell (p := ⟨b, o, none⟩) hbl).trans (hcs 0 _ rfl)
      have u1 := (HB.out.cell (p := ⟨b, o + 1, none⟩) hbl).trans (hcs 1 _ rfl)
      have u2 := (HB.out.cell (p := ⟨b, o + 2, none⟩) hbl).trans (hcs 2 _ rfl)
      have u3 := (HB.out.cell (p := ⟨b, o + 3, none⟩) hbl).trans (hcs 3 _ rfl)
      have u4 := (HB.out.cell (p := ⟨b, o + 4, none⟩) hbl).trans (hcs 4 _ rfl)
      have u5 := (HB.out.cell (p := ⟨b, o + 5, none⟩) hbl).trans (hcs 5 _ rfl)
      have u6 := (HB.out.cell (p := ⟨b, o + 6, none⟩) hbl).trans (hcs 6 _ rfl)
      have u7 := (HB.out.cell (p := ⟨b, o + 7, none⟩) hbl).trans (hcs 7 _ rfl)
      have u8 := (HB.out.cell (p := ⟨b, o + 8, none⟩) hbl).trans (hcs 8 _ rfl)
      have had' : ad.add (h * 9) = ⟨b, o, none⟩ := had
      have hh0 : (0 : Int) ≤ (h : Int) := by omega
      have hhl : (h : Int) < (l.length : Int) := by omega
      have hhb : (h : Int) < 1000000 := by omega
      have HH := Lib.hid (And.intro hh1 hh2)
      obtain ⟨r, hr⟩ : ∃ r, cS xk key = r := ⟨_, rfl⟩
      rw [hr] at HAx
      have HR := Lib.hid hr
      clear hx hK hcs had hbl hh e hr hh1 hh2 hlt hij hjn
      go_wp2_with fail
      refine HAx.out.mono ?_
      rintro e w2 ⟨rfl, b2⟩
      have HB2 := Lib.hid (HB.out.trans (b2.mono HB.out.size))
      clear b2 HAx u0 u1 u2 u3 u4 u5 u6 u7 u8 had'
      rcases (show r < 0 ∨ (0 : Int) ≤ r by omega) with hneg | hneg
      · go_wp2_with fail
        go_roundg (j - i)
        case measure => exact HM.out.1
        case rel =>
          have := HH.out
          have := HM.out
          exact ⟨h + 1, j, by go_num, rfl, HBi.out.up HS.out HH.out.2 HX.out (by rw [HR.out]; exact hneg), by omega, HB2.out⟩
      · have hd : decide (r < 0) = false := decide_eq_false (by omega)
        have HN := Lib.hid hneg
        clear hneg
        clear eg HA
        go_wp2_with fail
        go_roundg (j - i)
        case measure => exact HM.out.1
        case rel =>
          have := HH.out
          have := HM.out
          exact ⟨i, h, rfl, rfl, HBi.out.down HS.out HH.out.1 HH.out.2 HX.out (by rw [HR.out]; have := HN.out; omega), by omega, HB2.out⟩
    · have e : i = j := by omega
      subst e
      have hpos := HBi.out.pos
      have hlt' : ¬ ((i : Int) < (i : Int)) := by omega
      by_cases hin : i < l.length
      · have hin' : (i : Int) < (l.length : Int) := by omega
        obtain ⟨x, hx⟩ : ∃ x, l[i]? = some x := ⟨_, List.getElem?_eq_getElem hin⟩
        have hth := thereH_at (key := key) (x := x) (by rw [hpos]; exact hx)
        obtain ⟨ad, b, o, cs, rfl, had, hbl, hK, hcs⟩ := C_at HC.out hx (by decide)
        have hK' := flHn.K.1 hK
        subst hK'
        have HAx := Lib.hid (HA.out x key wr)
        obtain ⟨⟨xk, ⟨xp, xl, xn⟩, xd, xf, xe, xb⟩, xa⟩ := x
        unfold eHn at hcs HAx
        dsimp only at hcs HAx hth
        have u0 := (HB.out.cell (p := ⟨b, o, none⟩) hbl).trans (hcs 0 _ rfl)
        have u1 := (HB.out.cell (p := ⟨b, o + 1, none⟩) hbl).trans (hcs 1 _ rfl)
        have u2 := (HB.out.cell (p := ⟨b, o + 2, none⟩) hbl).trans (hcs 2 _ rfl)
        have u3 := (HB.out.cell (p := ⟨b, o + 3, none⟩) hbl).trans (hcs 3 _ rfl)
        have u4 := (HB.out.cell (p := ⟨b, o + 4, none⟩) hbl).trans (hcs 4 _ rfl)
        have u5 := (HB.out.cell (p := ⟨b, o + 5, none⟩) hbl).trans (hcs 5 _ rfl)
        have u6 := (HB.out.cell (p := ⟨b, o + 6, none⟩) hbl).trans (hcs 6 _ rfl)
        have u7 := (HB.out.cell (p := ⟨b, o + 7, none⟩) hbl).trans (hcs 7 _ rfl)
        have u8 := (HB.out.cell (p := ⟨b, o + 8, none⟩) hbl).trans (hcs 8 _ rfl)
        have had' : ad.add (i * 9) = ⟨b, o, none⟩ := had
        have HP := Lib.hid (And.intro hpos hth)
        obtain ⟨r, hr⟩ : ∃ r, cS xk key = r := ⟨_, rfl⟩
        rw [hr] at HAx HP
        clear hx hK hcs had hbl hpos hth hr hm
        go_wp2_with fail
        refine HAx.out.mono ?_
        rintro e w2 ⟨rfl, b2⟩
        have HB2 := Lib.hid (HB.out.trans (b2.mono HB.out.size))
        clear b2 HAx u0 u1 u2 u3 u4 u5 u6 u7 u8
        go_wp2_with fail
        go_ret2
        exact ⟨by rw [HP.out.1, HP.out.2]; rfl, HB2.out⟩
      · have hin' : ¬ ((i : Int) < (l.length : Int)) := by omega
        have hth := thereH_end (key := key) (l := l) (by rw [hpos]; omega)
        have HP := Lib.hid (And.intro hpos hth)
        clear hpos hth hm
        go_wp2_with fail
        go_ret2
        exact ⟨by rw [HP.out.1, HP.out.2]; rfl, HB.out⟩
/-! ### The hints -/
def hP (g : Nat) (most : Int) (l : List Hn) (v : Value) : List Asr := [blk g #[v, .int .i64 most] 70, slc k52 52 v l]
def hO (g : Nat) (F : Nat → Prop) (most : Int) (l : List Hn) : Asr := Asr.ex F (hP g most l)
set_option maxHeartbeats 1000000 in
theorem at_c {F : Nat → Prop} {w0 w : World} {A : List Asr} (h : St F w0 w A) (i : Nat) {g : Nat} {S : Nat → Prop} {most : Int} {l : List Hn} (hi : A[i]? = some (hO g S most l)) (hs : SortedH l) (hl : l.length ≤ 1000000) (key : ByteArray) :
    Calls Try.prog 27 #[.pointer (some ⟨g, 0, none⟩), .string key] w fun e w' => e = .returned (.tuple #[.int .i64 (posH l key), .bool (thereH l key)]) ∧ Below w.heap.size w w' := by
  obtain ⟨v, S1⟩ := Asr.ex_open (h.get i hi)
  obtain ⟨Av, cv, rfl⟩ := Kd.R_slice (S1.get 1 rfl).1
  have g0 : w.cell? ⟨g, 0, none⟩ = some (.slice Av l.length cv) := S1.cell 0 rfl 0
  have HB := Lib.hid (bs_c l key hs Av cv w (Kd.R_reads' (S1.get 1 rfl).1).2.2 hl)
  clear h hi S1
  go_enter Try.func27, Try.ntmps27
  go_wp2_with fail
  refine HB.out.mono ?_
  rintro e w2 ⟨rfl, b2⟩
  have B2 := Lib.hid b2
  clear b2
  go_wp2_with fail
  go_ret2
  exact ⟨rfl, B2.out⟩
end Go.Proofs.Ytmpodcefngpnkaa
