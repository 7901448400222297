/- The calls that are gone through. -/
import Derived.Test.YtecgnfklfgjgaaaStR
set_option linter.unusedVariables false
set_option linter.unusedSimpArgs false
namespace Go.Proofs.Ytecgnfklfgjgaaa
open Go.RowKit Go.Tat Go.Tab Go.Proofs.YtecgnfklfgjgaaaW.PrintWords PStorePeeks
/-! ### How many there are at most -/
theorem evict1_ev (s : SM) : (evict1 s).ev + (evict1 s).L.length = s.ev + s.L.length := by
  unfold evict1
  cases h : s.L.getLast? with
  | none => rfl
  | some r =>
    have : s.L ≠ [] := by intro e; rw [e] at h; simp at h
    have := List.length_pos_iff.2 this
    show s.ev + 1 + s.L.dropLast.length = _
    rw [List.length_dropLast]
    omega
theorem evl_ev (c : SC) (n : Nat) : ∀ d s, (evl c n d s).ev + (evl c n d s).L.length = s.ev + s.L.length
  | 0, s => rfl
  | d + 1, s => by
    rw [evl]
    split
    · rw [evl_ev c n d, evict1_ev]
    · rfl
theorem put1_ev (c : SC) (s : SM) (r : Rc) : (put1 c s r).ev + (put1 c s r).L.length = s.ev + s.L.length + 1 := by
  have := evl_ev c (wgt r) s.L.length s
  unfold put1
  simp only [List.length_cons]
  omega
theorem put_ev (c : SC) (s : SM) (r : Rc) (now : Int) : (putF c s r now).2.2.ev + (putF c s r now).2.2.L.length ≤ s.ev + s.L.length + 1 := by
  unfold putF
  split
  · simp
  · split
    · simp
    · split
      · split
        · simp
        · split
          · simp
          · split
            · simp
            · have h1 := put1_ev c ⟨wo s.L r.f0, s.F, s.ev⟩ r
              have h2 := List.length_filter_le (notK r.f0) s.L
              have h3 : (wo s.L r.f0).length ≤ s.L.length := h2
              simp only at h1 ⊢
              omega
      · split
        · simp
        · split
          · simp
          · have h1 := put1_ev c s r
            simp only
            omega
abbrev Oq := S39
def cutB (o : Oq) : Prop := o.f1.f0.size ≤ 1000 ∧ o.f1.f5.size ≤ 3000
set_option maxRecDepth 100000 in
set_option maxHeartbeats 8000000 in
theorem cut_c (l : List Oq) (A : Option Addr) (c : Nat) (w : World) (hC : k39.C w A l.length l) (hc : l.length ≤ c) :
    Calls Try.prog 10 #[.slice A l.length c] w fun e w' => ∃ i : Nat, e = .returned (.slice A i c) ∧ i ≤ l.length ∧ i ≤ 81 ∧ (∀ o ∈ l.take i, cutB o) ∧ Below w.heap.size w w' := by
  have HC := Lib.hid hC
  obtain ⟨N, hN⟩ : ∃ N, l.length = N := ⟨_, rfl⟩
  have HN := Lib.hid hN
  rw [hN] at hc ⊢
  have hcN : (N : Int) ≤ (c : Int) := by omega
  clear hC hN
  go_enter Try.func10, Try.ntmps10
  go_wp2_with fail
  go_loopg [7] (N + 1) (fun m v7 wx => ∃ j : Nat, v7 = .int .i64 j ∧ j ≤ N ∧ N - j < m ∧ j ≤ 81 ∧ (∀ o ∈ l.take j, cutB o) ∧ Below w.heap.size w wx)
  case atStart => exact ⟨0, rfl, by omega, by omega, by omega, by simp, Below.refl _ _⟩
  case round =>
    obtain ⟨j, rfl, hj, hjm, hj2, hcb, B⟩ := hrel
    have HB := Lib.hid (And.intro B (And.intro hj (And.intro hjm (And.intro hj2 hcb))))
    clear B hcb hjm hj
    by_cases hjl : j < N
    · have hjl' : (j : Int) < (N : Int) := by omega
      have hj0 : (0 : Int) ≤ (j : Int) := by omega
      have hj3 : (j : Int) ≤ 81 := by omega
      obtain ⟨x, hx⟩ : ∃ x, l[j]? = some x := ⟨_, List.getElem?_eq_getElem (by rw [HN.out]; exact hjl)⟩
      have HX := Lib.hid hx
      obtain ⟨ad, b, o, cs, rfl, had, hb, hK, hcs⟩ := C_at HC.out hx (by decide)
      obtain ⟨ok, ⟨rk, ⟨rp, rl, rn⟩, rd, rf, re, rb⟩, on⟩ := x
      obtain rfl := k39_open hK
      dsimp only at hcs
      have hBw := HB.out.1
      have c0 := (hBw.cell (p := ⟨b, o, none⟩) hb).trans (hcs 0 _ rfl)
      have c1 := (hBw.cell (p := ⟨b, o + 1, none⟩) hb).trans (hcs 1 _ rfl)
      have c2 := (hBw.cell (p := ⟨b, o + 2, none⟩) hb).trans (hcs 2 _ rfl)
      have c3 := (hBw.cell (p := ⟨b, o + 3, none⟩) hb).trans (hcs 3 _ rfl)
      have c4 := (hBw.cell (p := ⟨b, o + 4, none⟩) hb).trans (hcs 4 _ rfl)
      have c5 := (hBw.cell (p := ⟨b, o + 5, none⟩) hb).trans (hcs 5 _ rfl)
      have c6 := (hBw.cell (p := ⟨b, o + 6, none⟩) hb).trans (hcs 6 _ rfl)
      have c7 := (hBw.cell (p := ⟨b, o + 7, none⟩) hb).trans (hcs 7 _ rfl)
      have c8 := (hBw.cell (p := ⟨b, o + 8, none⟩) hb).trans (hcs 8 _ rfl)
      have c9 := (hBw.cell (p := ⟨b, o + 9, none⟩) hb).trans (hcs 9 _ rfl)
      have had' : ad.add (j * 10) = ⟨b, o, none⟩ := had
      clear hK hcs had hx hBw
      go_upto_region 4 with fail
      have S5 := (St.nil (fun _ => False) wr).new' #[.int .i64 ok, .string rk, .int .u64 rp, .int .u32 rl, .int .u8 rn, .int .u8 rd, .int .u32 rf, .int .u64 re, .string rb, .int .u8 on] 39 wr.heap.size rfl
      have HD := Lib.hid (HB.out.1.trans (S5.base.mono HB.out.1.size))
      obtain ⟨z, hz⟩ : ∃ z, wr.heap.size = z := ⟨_, rfl⟩
      rw [hz] at S5 ⊢
      clear hz
      generalize World.alloc wr _ = w4 at *
      have d1 : w4.cell? ⟨z, 1, none⟩ = some (.string rk) := S5.cell 0 rfl 1
      have d8 : w4.cell? ⟨z, 8, none⟩ = some (.string rb) := S5.cell 0 rfl 8
      clear S5 c0 c1 c2 c3 c4 c5 c6 c7 c8 c9 had'
      have hjN : (j : Int) ≤ (N : Int) := by omega
      have hjc : (j : Int) ≤ (c : Int) := by omega
      by_cases h1 : (80 : Int) < (j : Int)
      · go_wp2_with fail
        go_ret
        exact ⟨j, rfl, HB.out.2.1, HB.out.2.2.2.1, HB.out.2.2.2.2, HD.out⟩
      · by_cases h2 : (1000 : Int) < (rk.size : Int)
        · go_wp2_with fail
          go_ret
          exact ⟨j, rfl, HB.out.2.1, HB.out.2.2.2.1, HB.out.2.2.2.2, HD.out⟩
        · by_cases h3 : (3000 : Int) < (rb.size : Int)
          · go_wp2_with fail
            go_ret
            exact ⟨j, rfl, HB.out.2.1, HB.out.2.2.2.1, HB.out.2.2.2.2, HD.out⟩
          · have HG := Lib.hid (show cutB ⟨ok, ⟨rk, ⟨rp, rl, rn⟩, rd, rf, re, rb⟩, on⟩ from ⟨by show rk.size ≤ 1000; omega, by show rb.size ≤ 3000; omega⟩)
            go_wp2_with fail
            go_roundg (N - j)
            case measure => have := HB.out; omega
            case rel =>
              refine ⟨j + 1, by go_num, by omega, by omega, by omega, ?_, HD.out⟩
              intro y hy
              rw [List.take_add_one, HX.out] at hy
              rcases List.mem_append.1 hy with hy | hy
              · exact HB.out.2.2.2.2 y hy
              · rw [List.mem_singleton.1 hy]; exact HG.out
    · have e : j = N := by have := HB.out; omega
      subst e
      have hjl' : ¬ (j : Int) < (j : Int) := by omega
      go_wp2_with fail
      go_ret
      exact ⟨j, rfl, by omega, hj2, HB.out.2.2.2.2, HB.out.1⟩
end Go.Proofs.Ytecgnfklfgjgaaa
