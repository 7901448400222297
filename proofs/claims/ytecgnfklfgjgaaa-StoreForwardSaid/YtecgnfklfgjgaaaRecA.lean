/- Several texts put together. -/
import Derived.Test.YtecgnfklfgjgaaaSBa
import Derived.Test.YtecgnfklfgjgaaaLib
import Derived.Lib.Bytealg
import Derived.Lib.Hide
import Derived.Deep.RegionHeld3
import Derived.Deep.QuietTactic
import Derived.BigQuiet
set_option linter.unusedVariables false
set_option linter.unusedSimpArgs false
/- Records and stamps: how two stand to each other. -/
set_option linter.unusedVariables false
set_option linter.unusedSimpArgs false
namespace Go.Proofs.Ytecgnfklfgjgaaa
open Go.RowKit Go.Tat Go.Proofs.YtecgnfklfgjgaaaW.PrintWords PStorePeeks
abbrev Stp := S35
abbrev Rc := S37
def eStp (x : Stp) : List Value := [.int .u64 x.f0, .int .u32 x.f1, .int .u8 x.f2]
theorem flStp : Flat k35 eStp := ⟨rfl, ⟨fun h => k35_openM h, fun h => h ▸ k35_mkM _ _ _ _⟩, ⟨fun h => k35_open h, fun h => h ▸ k35_mk _ _⟩⟩
def eRc (x : Rc) : List Value := [.string x.f0, .int .u64 x.f1.f0, .int .u32 x.f1.f1, .int .u8 x.f1.f2, .int .u8 x.f2, .int .u32 x.f3, .int .u64 x.f4, .string x.f5]
theorem flRc : Flat k37 eRc := ⟨rfl, ⟨fun h => k37_openM h, fun h => h ▸ k37_mkM _ _ _ _⟩, ⟨fun h => k37_open h, fun h => h ▸ k37_mk _ _⟩⟩
/-! ### Texts -/
def cS (a b : ByteArray) : Int := Lib.compareBytes a.data.toList b.data.toList
theorem cb_eq : ∀ (a b : List UInt8), Lib.compareBytes a b = 0 ↔ a = b
  | [], [] => by simp [Lib.compareBytes]
  | [], _ :: _ => by simp [Lib.compareBytes]
  | _ :: _, [] => by simp [Lib.compareBytes]
  | x :: a, y :: b => by
    unfold Lib.compareBytes
    by_cases h1 : x < y
    · rw [if_pos h1]
      have : x ≠ y := fun e => by rw [e] at h1; exact UInt8.lt_irrefl _ h1
      simp [this]
    · rw [if_neg h1]
      by_cases h2 : y < x
      · rw [if_pos h2]
        have : x ≠ y := fun e => by rw [e] at h2; exact UInt8.lt_irrefl _ h2
        simp [this]
      · rw [if_neg h2, cb_eq a b]
        have : x = y := UInt8.le_antisymm (UInt8.not_lt.1 h2) (UInt8.not_lt.1 h1)
        simp [this]
theorem cb_neg : ∀ (a b : List UInt8), Lib.compareBytes b a = - Lib.compareBytes a b
  | [], [] => by simp [Lib.compareBytes]
  | [], _ :: _ => by simp [Lib.compareBytes]
  | _ :: _, [] => by simp [Lib.compareBytes]
  | x :: a, y :: b => by
    unfold Lib.compareBytes
    by_cases h1 : x < y
    · have h2 : ¬ y < x := fun h => UInt8.lt_irrefl _ (UInt8.lt_trans h1 h)
      rw [if_pos h1, if_neg h2, if_pos h1]; rfl
    · by_cases h2 : y < x
      · rw [if_pos h2, if_neg h1, if_pos h2]
      · rw [if_neg h2, if_neg h1, if_neg h1, if_neg h2, cb_neg a b]
theorem cb_is : ∀ (a b : List UInt8), Lib.compareBytes a b = -1 ∨ Lib.compareBytes a b = 0 ∨ Lib.compareBytes a b = 1
  | [], [] => by simp [Lib.compareBytes]
  | [], _ :: _ => by simp [Lib.compareBytes]
  | _ :: _, [] => by simp [Lib.compareBytes]
  | x :: a, y :: b => by
    unfold Lib.compareBytes
    split
    · simp
    · split
      · simp
      · exact cb_is a b
theorem cb_trans : ∀ (a b c : List UInt8), Lib.compareBytes a b < 0 → Lib.compareBytes b c < 0 → Lib.compareBytes a c < 0
  | [], [], c, h, _ => by simp [Lib.compareBytes] at h
  | [], _ :: _, [], _, h => by simp [Lib.compareBytes] at h
  | [], _ :: _, _ :: _, _, _ => by simp [Lib.compareBytes]
  | _ :: _, [], c, h, _ => by simp [Lib.compareBytes] at h
  | _ :: _, _ :: _, [], _, h => by simp [Lib.compareBytes] at h
  | x :: a, y :: b, z :: c, h1, h2 => by
    unfold Lib.compareBytes at *
    by_cases a1 : x < y
    · by_cases b1 : y < z
      · rw [if_pos (UInt8.lt_trans a1 b1)]; decide
      · rw [if_neg b1] at h2
        by_cases b2 : z < y
        · rw [if_pos b2] at h2; exact absurd h2 (by decide)
        · have : y = z := UInt8.le_antisymm (UInt8.not_lt.1 b2) (UInt8.not_lt.1 b1)
          rw [← this, if_pos a1]; decide
    · rw [if_neg a1] at h1
      by_cases a2 : y < x
      · rw [if_pos a2] at h1; exact absurd h1 (by decide)
      · rw [if_neg a2] at h1
        have e : x = y := UInt8.le_antisymm (UInt8.not_lt.1 a2) (UInt8.not_lt.1 a1)
        subst e
        by_cases b1 : x < z
        · rw [if_pos b1]; decide
        · rw [if_neg b1] at h2 ⊢
          by_cases b2 : z < x
          · rw [if_pos b2] at h2; exact absurd h2 (by decide)
          · rw [if_neg b2] at h2 ⊢
            exact cb_trans a b c h1 h2
theorem cb_less : ∀ (a b : List UInt8), Op.bytesLess a b = decide (Lib.compareBytes a b < 0)
  | [], [] => by simp [Op.bytesLess, Lib.compareBytes]
  | [], _ :: _ => by simp [Op.bytesLess, Lib.compareBytes]
  | _ :: _, [] => by simp [Op.bytesLess, Lib.compareBytes]
  | x :: a, y :: b => by
    unfold Op.bytesLess Lib.compareBytes
    by_cases h1 : x < y
    · simp [h1]
    · by_cases h2 : y < x
      · have : x ≠ y := fun e => by rw [e] at h2; exact UInt8.lt_irrefl _ h2
        simp [h1, h2, this]
      · have : x = y := UInt8.le_antisymm (UInt8.not_lt.1 h2) (UInt8.not_lt.1 h1)
        simp [h1, h2, this, cb_less a b]
theorem ba_ext {a b : ByteArray} (h : a.data.toList = b.data.toList) : a = b := by
  obtain ⟨a⟩ := a; obtain ⟨b⟩ := b
  congr 1
  exact Array.toList_inj.1 h
theorem cS_eq (a b : ByteArray) : cS a b = 0 ↔ a = b := (cb_eq _ _).trans ⟨ba_ext, fun h => by rw [h]⟩
theorem cS_neg (a b : ByteArray) : cS b a = - cS a b := cb_neg _ _
theorem cS_is (a b : ByteArray) : cS a b = -1 ∨ cS a b = 0 ∨ cS a b = 1 := cb_is _ _
theorem cS_trans {a b c : ByteArray} (h : cS a b < 0) (h' : cS b c < 0) : cS a c < 0 := cb_trans _ _ _ h h'
theorem cS_self (a : ByteArray) : cS a a = 0 := (cS_eq a a).2 rfl
set_option maxRecDepth 100000 in
set_option maxHeartbeats 1000000 in
theorem cmpString_c (a b : ByteArray) (w : World) : Calls Try.prog 65 #[.string a, .string b] w fun e w' => e = .returned (.int .i64 (cS a b)) ∧ w' = w := by
  go_enter Try.func65, Try.ntmps65
  go_wp2
  rw [run_callFunc_extern Try.func88 (by kernel_rfl) (by kernel_rfl) (by kernel_rfl) (e := Extern.BytealgCompare.compare) (by kernel_rfl), Lib.run_compareString]
  simp only [Result.andThen]
  rw [Oper.upon_value]
  go_wp2
  go_ret
  exact ⟨rfl, rfl⟩
set_option maxRecDepth 100000 in
set_option maxHeartbeats 1000000 in
theorem scmp_c (a b : ByteArray) (w : World) : Calls Try.prog 44 #[.string a, .string b] w fun e w' => e = .returned (.int .i64 (cS a b)) ∧ w' = w := by
  go_enter Try.func44, Try.ntmps44
  go_wp2_with (go_at_call 65; refine (cmpString_c _ _ _).mono ?_; rintro e w' ⟨rfl, rfl⟩)
  go_ret
  exact ⟨rfl, rfl⟩
/-! ### Stamps -/
def cN (x y : Int) : Int := if x < y then -1 else if x > y then 1 else 0
theorem cN_eq (x y : Int) : cN x y = 0 ↔ x = y := by unfold cN; split <;> (try split) <;> omega
theorem cN_neg (x y : Int) : cN y x = - cN x y := by unfold cN; split <;> split <;> (try split) <;> omega
def hlcF (a b : Stp) : Int := if a.f0 = b.f0 then (if a.f1 = b.f1 then cN a.f2 b.f2 else cN a.f1 b.f1) else cN a.f0 b.f0
theorem nan_u64 (a : Int) (w : World) : Calls Try.prog 70 #[.int .u64 a] w fun e w' => e = .returned (.bool false) ∧ w = w' := by
  go_enter Try.func70, Try.ntmps70
  go_wp2
  go_ret
  exact ⟨by simp, rfl⟩
theorem cmp64_c (a b : Int) (w : World) : Calls Try.prog 51 #[.int .u64 a, .int .u64 b] w fun e w' => e = .returned (.int .i64 (cN a b)) ∧ w = w' := by
  have hn := Lib.hid (nan_u64)
  unfold cN
  by_cases h1 : a < b
  · rw [if_pos h1]
    go_enter Try.func51, Try.ntmps51
    go_wp2_with (go_at_call 70; refine (hn.out _ _).mono ?_; rintro e w' ⟨rfl, rfl⟩)
    go_ret
    exact ⟨rfl, rfl⟩
  · rw [if_neg h1]
    by_cases h2 : b < a
    · rw [if_pos h2]
      go_enter Try.func51, Try.ntmps51
      go_wp2_with (go_at_call 70; refine (hn.out _ _).mono ?_; rintro e w' ⟨rfl, rfl⟩)
      go_ret
      exact ⟨rfl, rfl⟩
    · rw [if_neg h2]
      go_enter Try.func51, Try.ntmps51
      go_wp2_with (go_at_call 70; refine (hn.out _ _).mono ?_; rintro e w' ⟨rfl, rfl⟩)
      go_ret
      exact ⟨rfl, rfl⟩
theorem nan_u32 (a : Int) (w : World) : Calls Try.prog 69 #[.int .u32 a] w fun e w' => e = .returned (.bool false) ∧ w = w' := by
  go_enter Try.func69, Try.ntmps69
  go_wp2
  go_ret
  exact ⟨by simp, rfl⟩
theorem cmp32_c (a b : Int) (w : World) : Calls Try.prog 50 #[.int .u32 a, .int .u32 b] w fun e w' => e = .returned (.int .i64 (cN a b)) ∧ w = w' := by
  have hn := Lib.hid (nan_u32)
  unfold cN
  by_cases h1 : a < b
  · rw [if_pos h1]
    go_enter Try.func50, Try.ntmps50
    go_wp2_with (go_at_call 69; refine (hn.out _ _).mono ?_; rintro e w' ⟨rfl, rfl⟩)
    go_ret
    exact ⟨rfl, rfl⟩
  · rw [if_neg h1]
    by_cases h2 : b < a
    · rw [if_pos h2]
      go_enter Try.func50, Try.ntmps50
      go_wp2_with (go_at_call 69; refine (hn.out _ _).mono ?_; rintro e w' ⟨rfl, rfl⟩)
      go_ret
      exact ⟨rfl, rfl⟩
    · rw [if_neg h2]
      go_enter Try.func50, Try.ntmps50
      go_wp2_with (go_at_call 69; refine (hn.out _ _).mono ?_; rintro e w' ⟨rfl, rfl⟩)
      go_ret
      exact ⟨rfl, rfl⟩
theorem nan_u8 (a : Int) (w : World) : Calls Try.prog 68 #[.int .u8 a] w fun e w' => e = .returned (.bool false) ∧ w = w' := by
  go_enter Try.func68, Try.ntmps68
  go_wp2
  go_ret
  exact ⟨by simp, rfl⟩
theorem cmp8_c (a b : Int) (w : World) : Calls Try.prog 49 #[.int .u8 a, .int .u8 b] w fun e w' => e = .returned (.int .i64 (cN a b)) ∧ w = w' := by
  have hn := Lib.hid (nan_u8)
  unfold cN
  by_cases h1 : a < b
  · rw [if_pos h1]
    go_enter Try.func49, Try.ntmps49
    go_wp2_with (go_at_call 68; refine (hn.out _ _).mono ?_; rintro e w' ⟨rfl, rfl⟩)
    go_ret
    exact ⟨rfl, rfl⟩
  · rw [if_neg h1]
    by_cases h2 : b < a
    · rw [if_pos h2]
      go_enter Try.func49, Try.ntmps49
      go_wp2_with (go_at_call 68; refine (hn.out _ _).mono ?_; rintro e w' ⟨rfl, rfl⟩)
      go_ret
      exact ⟨rfl, rfl⟩
    · rw [if_neg h2]
      go_enter Try.func49, Try.ntmps49
      go_wp2_with (go_at_call 68; refine (hn.out _ _).mono ?_; rintro e w' ⟨rfl, rfl⟩)
      go_ret
      exact ⟨rfl, rfl⟩
def hlcW (a b : Stp) (w : World) : World := (w.alloc (.cells (eStp a).toArray 35)).alloc (.cells (eStp b).toArray 35)
set_option maxRecDepth 100000 in
set_option maxHeartbeats 4000000 in
theorem hlc_c (a b : Stp) (w : World) : Calls Try.prog 30 #[.agg (eStp a).toArray, .agg (eStp b).toArray] w fun e w' => e = .returned (.int .i64 (hlcF a b)) ∧ hlcW a b w = w' := by
  have H64 := Lib.hid cmp64_c
  have H32 := Lib.hid cmp32_c
  have H8 := Lib.hid cmp8_c
  obtain ⟨a0, a1, a2⟩ := a
  obtain ⟨b0, b1, b2⟩ := b
  unfold eStp hlcF hlcW
  dsimp only
  have hu := Try.underlying35
  have hw := fun (d : Nat) (W : World) => eqA35 d W a0 b0 a1 b1 a2 b2
  by_cases h0 : a0 = b0
  · subst h0
    by_cases h1 : a1 = b1
    · subst h1
      by_cases h2 : a2 = b2
      · subst h2
        have e : (a0 == a0 && (a1 == a1 && a2 == a2)) = true := by simp
        rw [if_pos rfl, if_pos rfl, (cN_eq a2 a2).2 rfl]
        simp only [e] at hw
        clear e
        go_enter Try.func30, Try.ntmps30
        go_wp2
        go_ret
        exact ⟨rfl, rfl⟩
      · have e : (a0 == a0 && (a1 == a1 && a2 == b2)) = false := by simp [h2]
        rw [if_pos rfl, if_pos rfl]
        simp only [e] at hw
        clear e
        go_enter Try.func30, Try.ntmps30
        go_wp2_with (go_at_call 49; refine (H8.out _ _ _).mono ?_; rintro e w' ⟨rfl, rfl⟩)
        go_ret
        exact ⟨rfl, rfl⟩
    · have e : (a0 == a0 && (a1 == b1 && a2 == b2)) = false := by simp [h1]
      rw [if_pos rfl, if_neg h1]
      simp only [e] at hw
      clear e
      go_enter Try.func30, Try.ntmps30
      go_wp2_with (go_at_call 50; refine (H32.out _ _ _).mono ?_; rintro e w' ⟨rfl, rfl⟩)
      go_ret
      exact ⟨rfl, rfl⟩
  · have e : (a0 == b0 && (a1 == b1 && a2 == b2)) = false := by simp [h0]
    rw [if_neg h0]
    simp only [e] at hw
    clear e
    go_enter Try.func30, Try.ntmps30
    go_wp2_with (go_at_call 51; refine (H64.out _ _ _).mono ?_; rintro e w' ⟨rfl, rfl⟩)
    go_ret
    exact ⟨rfl, rfl⟩
/-! ### Records -/
def recF (a b : Rc) : Int := if hlcF a.f1 b.f1 ≠ 0 then hlcF a.f1 b.f1 else if a.f2 ≠ b.f2 then cN a.f2 b.f2 else if cS a.f5 b.f5 ≠ 0 then cS a.f5 b.f5 else if a.f3 ≠ b.f3 then cN a.f3 b.f3 else cN a.f4 b.f4
theorem or5 (a b c d e : Int) : cmp_Or_int.f 6 [a, b, c, d, e] = some (if a ≠ 0 then a else if b ≠ 0 then b else if c ≠ 0 then c else if d ≠ 0 then d else e) := by
  unfold cmp_Or_int.f
  by_cases h1 : a = 0 <;> by_cases h2 : b = 0 <;> by_cases h3 : c = 0 <;> by_cases h4 : d = 0 <;> by_cases h5 : e = 0 <;> simp [cmp_Or_int.l0, rd, wrap64, h1, h2, h3, h4, h5]
theorem recF_or (a b : Rc) : cmp_Or_int.f 6 [hlcF a.f1 b.f1, cN a.f2 b.f2, cS a.f5 b.f5, cN a.f3 b.f3, cN a.f4 b.f4] = some (recF a b) := by
  rw [or5]
  unfold recF
  have e2 : (cN a.f2 b.f2 ≠ 0) ↔ a.f2 ≠ b.f2 := not_congr (cN_eq _ _)
  have e3 : (cN a.f3 b.f3 ≠ 0) ↔ a.f3 ≠ b.f3 := not_congr (cN_eq _ _)
  simp only [e2, e3]
theorem or5_c (a b c d e : Int) (g : Nat) (w : World) (h : w.heap[g]? = some (.cells #[.int .i64 a, .int .i64 b, .int .i64 c, .int .i64 d, .int .i64 e] 3 (0, 0))) (r : Int) (hr : cmp_Or_int.f 6 [a, b, c, d, e] = some r) :
    Calls Try.prog 48 #[.slice (some ⟨g, 0, none⟩) 5 5] w fun x w' => x = .returned (.int .i64 r) ∧ Drawn0 w w' :=
  cmp_Or_int.calls 6 (some ⟨g, 0, none⟩) 5 [a, b, c, d, e] r w (C_ints [a, b, c, d, e] h (by simp)) (by simp) hr
theorem five_at {w : World} {g : Nat} (hg : g = w.heap.size) (o : Obj) : (w.alloc o).heap[g]? = some o := by
  subst hg; exact heap_alloc_new w o
theorem five_at' {w : World} {g : Nat} (hg : g = w.heap.size) (o : Obj) : (w.alloc o).drew.heap[g]? = some o := five_at hg o
theorem keepS {w1 w' : World} {B : Nat} (b : Below B w1 w') {p : Addr} {v : Value} (hp : p.block < B) (h : w1.cell? p = some v) : w'.cell? p = some v := (b.cell hp).trans h
theorem keep14 {w1 w' : World} {z : Nat} {cs ds : Array Value} (hA : ∀ (i : Nat) v, cs[i]? = some v → w1.cell? ⟨z, i, none⟩ = some v) (hB : ∀ (i : Nat) v, ds[i]? = some v → w1.cell? ⟨z + 1, i, none⟩ = some v) (hl : z < w1.heap.size ∧ z + 1 < w1.heap.size) (b : Below w1.heap.size w1 w') {a1 a2 a3 a4 a5 a6 a7 b1 b2 b3 b4 b5 b6 b7 : Value}
    (e : cs[1]? = some a1 ∧ cs[2]? = some a2 ∧ cs[3]? = some a3 ∧ cs[4]? = some a4 ∧ cs[5]? = some a5 ∧ cs[6]? = some a6 ∧ cs[7]? = some a7 ∧ ds[1]? = some b1 ∧ ds[2]? = some b2 ∧ ds[3]? = some b3 ∧ ds[4]? = some b4 ∧ ds[5]? = some b5 ∧ ds[6]? = some b6 ∧ ds[7]? = some b7 := by refine ⟨rfl, rfl, rfl, rfl, rfl, rfl, rfl, rfl, rfl, rfl, rfl, rfl, rfl, rfl⟩) :
    w'.cell? ⟨z, 1, none⟩ = some a1 ∧ w'.cell? ⟨z, 2, none⟩ = some a2 ∧ w'.cell? ⟨z, 3, none⟩ = some a3 ∧ w'.cell? ⟨z, 4, none⟩ = some a4 ∧ w'.cell? ⟨z, 5, none⟩ = some a5 ∧ w'.cell? ⟨z, 6, none⟩ = some a6 ∧ w'.cell? ⟨z, 7, none⟩ = some a7 ∧ w'.cell? ⟨z + 1, 1, none⟩ = some b1 ∧ w'.cell? ⟨z + 1, 2, none⟩ = some b2 ∧ w'.cell? ⟨z + 1, 3, none⟩ = some b3 ∧ w'.cell? ⟨z + 1, 4, none⟩ = some b4 ∧ w'.cell? ⟨z + 1, 5, none⟩ = some b5 ∧ w'.cell? ⟨z + 1, 6, none⟩ = some b6 ∧ w'.cell? ⟨z + 1, 7, none⟩ = some b7 := by
  obtain ⟨e1, e2, e3, e4, e5, e6, e7, f1, f2, f3, f4, f5, f6, f7⟩ := e
  have ha : ∀ (i : Nat) v, cs[i]? = some v → w'.cell? ⟨z, i, none⟩ = some v := fun i v h => (b.cell (p := ⟨z, i, none⟩) hl.1).trans (hA i v h)
  have hb : ∀ (i : Nat) v, ds[i]? = some v → w'.cell? ⟨z + 1, i, none⟩ = some v := fun i v h => (b.cell (p := ⟨z + 1, i, none⟩) hl.2).trans (hB i v h)
  exact ⟨ha _ _ e1, ha _ _ e2, ha _ _ e3, ha _ _ e4, ha _ _ e5, ha _ _ e6, ha _ _ e7, hb _ _ f1, hb _ _ f2, hb _ _ f3, hb _ _ f4, hb _ _ f5, hb _ _ f6, hb _ _ f7⟩
set_option maxRecDepth 100000 in
set_option maxHeartbeats 4000000 in
theorem rec_c (a b : Rc) (w : World) : Calls Try.prog 29 #[.agg (eRc a).toArray, .agg (eRc b).toArray] w fun e w' => e = .returned (.int .i64 (recF a b)) ∧ Below w.heap.size w w' := by
  have HR := Lib.hid (recF_or a b)
  generalize recF a b = r at *
  obtain ⟨ak, ⟨a0, a1, a2⟩, a3, a4, a5, a6⟩ := a
  obtain ⟨bk, ⟨b0, b1, b2⟩, b3, b4, b5, b6⟩ := b
  have H1 := Lib.hid (hlc_c ⟨a0, a1, a2⟩ ⟨b0, b1, b2⟩)
  have H64 := Lib.hid cmp64_c
  have H32 := Lib.hid cmp32_c
  have H8 := Lib.hid cmp8_c
  have HS := Lib.hid scmp_c
  have HO := Lib.hid or5_c
  dsimp only at HR
  generalize hlcF ⟨a0, a1, a2⟩ ⟨b0, b1, b2⟩ = c3 at *
  unfold hlcW eStp at H1
  unfold eRc
  go_enter Try.func29, Try.ntmps29
  go_wp2_with fail
  have S1 := ((St.nil (fun _ => False) w).new' #[.string ak, .int .u64 a0, .int .u32 a1, .int .u8 a2, .int .u8 a3, .int .u32 a4, .int .u64 a5, .string a6] 37 w.heap.size rfl).new' #[.string bk, .int .u64 b0, .int .u32 b1, .int .u8 b2, .int .u8 b3, .int .u32 b4, .int .u64 b5, .string b6] 37 (w.heap.size + 1) (by simp)
  have HB := Lib.hid S1.base
  obtain ⟨w1, hw1⟩ : ∃ w1, (w.alloc (.cells #[.string ak, .int .u64 a0, .int .u32 a1, .int .u8 a2, .int .u8 a3, .int .u32 a4, .int .u64 a5, .string a6] 37)).alloc (.cells #[.string bk, .int .u64 b0, .int .u32 b1, .int .u8 b2, .int .u8 b3, .int .u32 b4, .int .u64 b5, .string b6] 37) = w1 := ⟨_, rfl⟩
  rw [hw1] at S1 HB ⊢
  clear hw1
  obtain ⟨z, hz⟩ : ∃ z, w.heap.size = z := ⟨_, rfl⟩
  rw [hz] at S1 ⊢
  clear hz
  have hA : ∀ (i : Nat) v, (#[.string ak, .int .u64 a0, .int .u32 a1, .int .u8 a2, .int .u8 a3, .int .u32 a4, .int .u64 a5, .string a6] : Array Value)[i]? = some v → w1.cell? ⟨z, i, none⟩ = some v := fun i v h => (S1.cell 0 rfl i).trans h
  have hB : ∀ (i : Nat) v, (#[.string bk, .int .u64 b0, .int .u32 b1, .int .u8 b2, .int .u8 b3, .int .u32 b4, .int .u64 b5, .string b6] : Array Value)[i]? = some v → w1.cell? ⟨z + 1, i, none⟩ = some v := fun i v h => (S1.cell 1 rfl i).trans h
  have HL := Lib.hid (And.intro hA (And.intro hB (And.intro (S1.blt 0 rfl) (S1.blt 1 rfl))))
  clear S1 hA hB
  go_region_held3 (fun w' => w'.cell? ⟨z, 1, none⟩ = some (.int .u64 a0) ∧ w'.cell? ⟨z, 2, none⟩ = some (.int .u32 a1) ∧ w'.cell? ⟨z, 3, none⟩ = some (.int .u8 a2) ∧ w'.cell? ⟨z, 4, none⟩ = some (.int .u8 a3) ∧ w'.cell? ⟨z, 5, none⟩ = some (.int .u32 a4) ∧ w'.cell? ⟨z, 6, none⟩ = some (.int .u64 a5) ∧ w'.cell? ⟨z, 7, none⟩ = some (.string a6) ∧ w'.cell? ⟨z + 1, 1, none⟩ = some (.int .u64 b0) ∧ w'.cell? ⟨z + 1, 2, none⟩ = some (.int .u32 b1) ∧ w'.cell? ⟨z + 1, 3, none⟩ = some (.int .u8 b2) ∧ w'.cell? ⟨z + 1, 4, none⟩ = some (.int .u8 b3) ∧ w'.cell? ⟨z + 1, 5, none⟩ = some (.int .u32 b4) ∧ w'.cell? ⟨z + 1, 6, none⟩ = some (.int .u64 b5) ∧ w'.cell? ⟨z + 1, 7, none⟩ = some (.string b6)) (refine keep14 HL.out.1 HL.out.2.1 HL.out.2.2 (by repeat (first | exact Below.refl _ _ | apply below_alloc | apply below_drew1 | apply pw_below_drewN)))
    (first | (go_at_call 30; refine (H1.out _).mono ?_; rintro e w' ⟨rfl, rfl⟩) | (go_at_call 51; refine (H64.out _ _ _).mono ?_; rintro e w' ⟨rfl, rfl⟩) | (go_at_call 50; refine (H32.out _ _ _).mono ?_; rintro e w' ⟨rfl, rfl⟩) | (go_at_call 49; refine (H8.out _ _ _).mono ?_; rintro e w' ⟨rfl, rfl⟩) | (go_at_call 44; refine (HS.out _ _ _).mono ?_; rintro e w' ⟨rfl, rfl⟩) | (go_at_call 48; refine (HO.out c3 (cN a3 b3) (cS a6 b6) (cN a4 b4) (cN a5 b5) (w1.heap.size + 1 + 1) _ ?_ _ HR.out).mono ?_; (exact five_at' (by simp) _); rintro e w' ⟨rfl, ⟨n, rfl⟩⟩))
  all_goals
    go_wp2
    go_ret
    exact ⟨rfl, HB.out.trans ((show Below w1.heap.size w1 _ by repeat (first | exact Below.refl _ _ | apply below_alloc | apply below_drew1 | apply pw_below_drewN)).mono HB.out.size)⟩
end Go.Proofs.Ytecgnfklfgjgaaa
/- Records: which may be; which stands ahead, as the document has it. -/
namespace Go.Proofs.Ytecgnfklfgjgaaa
open Go.RowKit Go.Tat Go.Proofs.YtecgnfklfgjgaaaW.PrintWords PStorePeeks
theorem wrap64_succ {i m : Nat} (h : i < m) (hm : m < 4611686018427387904) : wrap64 ((i : Int) + 1) = ((i + 1 : Nat) : Int) := by unfold wrap64; omega
/-- No sign of the key is a blank. -/
def scanK (s : ByteArray) (i : Nat) : Nat → Bool
  | 0 => true
  | d + 1 => if bt s (i : Int) ≤ 32 then false else if bt s (i : Int) = 127 then false else scanK s (i + 1) d
def keyB (s : ByteArray) : Bool := scanK s 0 s.size && decide (1 ≤ s.size) && decide (s.size ≤ 250)
theorem key_l (s : ByteArray) (hs : s.size < 4611686018427387904) : ∀ d i k, i + d = s.size → d < k → rec_KeyMay.l0 k s (s.size : Int) (i : Int) = some (scanK s i d && decide (1 ≤ s.size) && decide (s.size ≤ 250))
  | 0, i, k, h, hk => by
    obtain ⟨k, rfl⟩ : ∃ m, k = m + 1 := ⟨k - 1, by omega⟩
    simp only [rec_KeyMay.l0]
    rw [if_neg (by omega)]
    unfold scanK
    by_cases h1 : 1 ≤ s.size
    · rw [if_pos (by omega)]
      have : decide ((s.size : Int) ≤ 250) = decide (s.size ≤ 250) := by rw [decide_eq_decide]; omega
      simp [h1, this]
    · rw [if_neg (by omega)]
      simp [h1]
  | d + 1, i, k, h, hk => by
    obtain ⟨k, rfl⟩ : ∃ m, k = m + 1 := ⟨k - 1, by omega⟩
    simp only [rec_KeyMay.l0]
    rw [if_pos (by omega), if_pos (by omega), if_pos (by omega)]
    unfold scanK
    by_cases h1 : bt s (i : Int) ≤ 32
    · rw [if_pos h1, if_pos h1]; simp
    · rw [if_neg h1, if_neg h1]
      by_cases h2 : bt s (i : Int) = 127
      · rw [if_pos h2, if_pos h2]; simp
      · rw [if_neg h2, if_neg h2, wrap64_succ (m := s.size) (by omega) hs]
        exact key_l s hs d (i + 1) k (by omega) (by omega)
theorem key_is (s : ByteArray) (hs : s.size < 4611686018427387904) (k : Nat) (hk : s.size < k) : rec_KeyMay.f k s = some (keyB s) := key_l s hs s.size 0 k (by omega) hk
def emptyB (s : ByteArray) : Bool := s.toList == ([] : List UInt8)
def mayB (r : Rc) : Bool := keyB r.f0 && decide (r.f1.f0 ≤ 281474976710655) && decide (r.f1.f2 < 64) && decide (r.f4 ≤ 281474976710655) && decide (r.f5.size ≤ 1024) &&
  (decide (r.f2 = 3) || ((decide (r.f2 = 1) || decide (r.f2 = 2)) && decide (r.f3 = 0) && decide (r.f4 = 0) && emptyB r.f5))
theorem may_is (r : Rc) (hs : r.f0.size < 4611686018427387904) (k : Nat) (hk : r.f0.size < k) : rec_May.f k r.f0 r.f1.f0 r.f1.f1 r.f1.f2 r.f2 r.f3 r.f4 r.f5 = some (mayB r) := by
  obtain ⟨rk, ⟨rp, rl, rn⟩, rd, rf, re, rb⟩ := r
  obtain ⟨k, rfl⟩ : ∃ m, k = m + 1 := ⟨k - 1, by omega⟩
  unfold rec_May.f mayB emptyB
  dsimp only at *
  rw [key_is rk hs _ hk, Option.bind_some]
  have hb : ((rb.size : Int) > 1024) ↔ ¬ rb.size ≤ 1024 := by omega
  cases keyB rk with
  | false => simp [rec_May.j0]
  | true =>
    rw [if_pos rfl]
    by_cases h1 : rp > 281474976710655
    · have : ¬ rp ≤ 281474976710655 := by omega
      rw [if_pos h1]; simp [rec_May.j0, this]
    · have e1 : rp ≤ 281474976710655 := by omega
      rw [if_neg h1]
      by_cases h2 : rn ≥ 64
      · have : ¬ rn < 64 := by omega
        rw [if_pos h2]; simp [rec_May.j0, this]
      · have e2 : rn < 64 := by omega
        rw [if_neg h2]
        by_cases h3 : re > 281474976710655
        · have : ¬ re ≤ 281474976710655 := by omega
          rw [if_pos h3]; simp [rec_May.j0, this]
        · have e3 : re ≤ 281474976710655 := by omega
          rw [if_neg h3]
          simp only [rec_May.j0, hb]
          by_cases h4 : rb.size ≤ 1024
          · by_cases k3 : rd = 3
            · simp [h4, k3, e1, e2, e3]
            · by_cases k1 : rd = 1
              · by_cases f0 : rf = 0 <;> by_cases x0 : re = 0 <;> simp [h4, k1, e1, e2, e3, f0, x0] <;> omega
              · by_cases k2 : rd = 2
                · by_cases f0 : rf = 0 <;> by_cases x0 : re = 0 <;> simp [h4, k2, e1, e2, e3, f0, x0] <;> omega
                · simp [h4, k1, k2, k3]
          · simp [h4]
theorem may_c (r : Rc) (hs : r.f0.size < 4611686018427387904) (w : World) : Calls Try.prog 27 #[.agg (eRc r).toArray] w fun e w' => e = .returned (.bool (mayB r)) ∧ Below w.heap.size w w' :=
  rec_May.calls (r.f0.size + 1) r.f0 r.f1.f0 r.f1.f1 r.f1.f2 r.f2 r.f3 r.f4 r.f5 _ w (may_is r hs _ (by omega))
/-! ### Less -/
theorem cN_lt (x y : Int) : cN x y < 0 ↔ x < y := by unfold cN; split <;> (try split) <;> omega
theorem sless_is (a b : Stp) : tattlerref05_Less.f a.f0 a.f1 a.f2 b.f0 b.f1 b.f2 = some (decide (hlcF a b < 0)) := by
  unfold tattlerref05_Less.f hlcF
  split
  · split
    · simp [cN_lt]
    · simp [cN_lt]
  · simp [cN_lt]
theorem sless_c (a b : Stp) (w : World) : Calls Try.prog 39 #[.agg (eStp a).toArray, .agg (eStp b).toArray] w fun e w' => e = .returned (.bool (decide (hlcF a b < 0))) ∧ Below w.heap.size w w' :=
  tattlerref05_Less.calls a.f0 a.f1 a.f2 b.f0 b.f1 b.f2 _ w (sless_is a b)
theorem bt_list (s : ByteArray) (i : Nat) (h : i < s.size) : ∃ h' : i < s.data.toList.length, bt s (i : Int) = ((s.data.toList[i]'h').toNat : Int) := by
  refine ⟨by simpa using h, ?_⟩
  unfold bt
  rw [dif_pos (by simpa using h)]
  simp [ByteArray.getElem_eq_getElem_data]
theorem ahead_l (a b : ByteArray) (ha : a.size < 4611686018427387904) : ∀ d i k, i + d = a.size → i ≤ b.size → 2 * d + 1 < k → tattlerref06_ahead.l0 k a b (i : Int) = some (decide (Lib.compareBytes (a.data.toList.drop i) (b.data.toList.drop i) < 0))
  | 0, i, k, h, hb, hk => by
    obtain ⟨k, rfl⟩ : ∃ m, k = m + 1 + 1 := ⟨k - 2, by omega⟩
    simp only [tattlerref06_ahead.l0]
    rw [if_neg (by omega)]
    simp only [tattlerref06_ahead.j1]
    rw [if_neg (by simp), List.drop_eq_nil_of_le (by simp; omega)]
    by_cases e : b.size = i
    · rw [List.drop_eq_nil_of_le (by simp; omega)]
      simp [Lib.compareBytes]; omega
    · rw [List.drop_eq_getElem_cons (show i < b.data.toList.length by simp; omega)]
      simp [Lib.compareBytes]; omega
  | d + 1, i, k, h, hb, hk => by
    obtain ⟨k, rfl⟩ : ∃ m, k = m + 1 + 1 := ⟨k - 2, by omega⟩
    simp only [tattlerref06_ahead.l0]
    rw [if_pos (by omega)]
    simp only [tattlerref06_ahead.j1]
    by_cases e : i < b.size
    · obtain ⟨l1, e1⟩ := bt_list a i (by omega)
      obtain ⟨l2, e2⟩ := bt_list b i e
      rw [if_pos (by simpa using e), if_pos (by omega), if_pos (by omega), if_pos (by omega), List.drop_eq_getElem_cons l1, List.drop_eq_getElem_cons l2, e1, e2]
      generalize a.data.toList[i] = x at *
      generalize b.data.toList[i] = y at *
      unfold Lib.compareBytes
      by_cases hxy : x = y
      · subst hxy
        rw [if_pos rfl, if_neg (UInt8.lt_irrefl x), if_neg (UInt8.lt_irrefl x), wrap64_succ (m := a.size) (by omega) ha]
        exact ahead_l a b ha d (i + 1) k (by omega) (by omega) (by omega)
      · have hne : ¬ ((x.toNat : Int) = y.toNat) := fun h => hxy (UInt8.toNat_inj.1 (by exact_mod_cast h))
        rw [if_neg hne]
        by_cases hlt : x < y
        · have : x.toNat < y.toNat := UInt8.lt_iff_toNat_lt.1 hlt
          simp [hlt, this]
        · have h2 : y < x := UInt8.lt_of_le_of_ne (UInt8.not_lt.1 hlt) (Ne.symm hxy)
          have : ¬ x.toNat < y.toNat := fun h => hlt (UInt8.lt_iff_toNat_lt.2 h)
          simp [hlt, h2, this]
    · have e2 : i = b.size := by omega
      rw [if_neg (by simpa using e), List.drop_eq_getElem_cons (show i < a.data.toList.length by simp; omega), List.drop_eq_nil_of_le (show b.data.toList.length ≤ i by simp; omega)]
      simp [Lib.compareBytes]; omega
theorem ahead_is (a b : ByteArray) (ha : a.size < 4611686018427387904) (k : Nat) (hk : 2 * a.size + 1 < k) : tattlerref06_ahead.f k a b = some (decide (cS a b < 0)) := by
  have h := ahead_l a b ha a.size 0 k (by omega) (by omega) hk
  rw [List.drop_zero, List.drop_zero] at h
  exact h
theorem tl_eq (a b : ByteArray) : (a.toList = b.toList) ↔ a = b := by
  rw [Lib.toList_data, Lib.toList_data]
  exact ⟨ba_ext, fun h => by rw [h]⟩
theorem hlcF_eq (a b : Stp) : hlcF a b = 0 ↔ a = b := by
  obtain ⟨a0, a1, a2⟩ := a
  obtain ⟨b0, b1, b2⟩ := b
  unfold hlcF
  dsimp only
  split
  · split
    · rw [cN_eq]; subst_vars; simp
    · rename_i h1 h2
      rw [cN_eq]; simp [h2]
  · rename_i h1
    rw [cN_eq]; simp [h1]
theorem less_is (a b : Rc) (ha : a.f5.size < 4611686018427387904) (k : Nat) (hk : 2 * a.f5.size + 1 < k) : tattlerref06_Less.f k a.f0 a.f1.f0 a.f1.f1 a.f1.f2 a.f2 a.f3 a.f4 a.f5 b.f0 b.f1.f0 b.f1.f1 b.f1.f2 b.f2 b.f3 b.f4 b.f5 = some (decide (recF a b < 0)) := by
  unfold tattlerref06_Less.f recF
  have hst : ((!(a.f1.f0 == b.f1.f0) || (!(a.f1.f1 == b.f1.f1) || (!(a.f1.f2 == b.f1.f2)))) = true) ↔ hlcF a.f1 b.f1 ≠ 0 := by
    rw [ne_eq, hlcF_eq]
    obtain ⟨a0, a1, a2⟩ := a.f1
    obtain ⟨b0, b1, b2⟩ := b.f1
    simp [Classical.or_iff_not_imp_left]
  by_cases h1 : hlcF a.f1 b.f1 ≠ 0
  · rw [if_pos (hst.2 h1), if_pos h1, sless_is, Option.bind_some]
  · rw [if_neg (fun h => h1 (hst.1 h)), if_neg h1]
    by_cases h2 : a.f2 = b.f2
    · rw [if_pos h2, if_neg (show ¬ (a.f2 ≠ b.f2) from fun h => h h2)]
      by_cases h3 : a.f5 = b.f5
      · rw [if_pos ((tl_eq _ _).2 h3), if_neg (show ¬ (cS a.f5 b.f5 ≠ 0) from fun h => h ((cS_eq _ _).2 h3))]
        by_cases h4 : a.f3 = b.f3
        · rw [if_pos h4, if_neg (show ¬ (a.f3 ≠ b.f3) from fun h => h h4)]; simp [cN_lt]
        · rw [if_neg h4, if_pos (show a.f3 ≠ b.f3 from h4)]; simp [cN_lt]
      · rw [if_neg (fun h => h3 ((tl_eq _ _).1 h)), if_pos (show cS a.f5 b.f5 ≠ 0 from fun h => h3 ((cS_eq _ _).1 h)), ahead_is _ _ ha k hk, Option.bind_some]
    · rw [if_neg h2, if_pos (show a.f2 ≠ b.f2 from h2)]; simp [cN_lt]
theorem less_c (a b : Rc) (ha : a.f5.size < 4611686018427387904) (w : World) : Calls Try.prog 15 #[.agg (eRc a).toArray, .agg (eRc b).toArray] w fun e w' => e = .returned (.bool (decide (recF a b < 0))) ∧ Below w.heap.size w w' :=
  tattlerref06_Less.calls (2 * a.f5.size + 2) a.f0 a.f1.f0 a.f1.f1 a.f1.f2 a.f2 a.f3 a.f4 a.f5 b.f0 b.f1.f0 b.f1.f1 b.f1.f2 b.f2 b.f3 b.f4 b.f5 _ w (less_is a b ha _ (by omega))
end Go.Proofs.Ytecgnfklfgjgaaa
