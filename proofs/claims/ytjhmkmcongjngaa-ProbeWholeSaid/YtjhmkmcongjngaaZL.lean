/- slices.Sort at []uint8: what is sorted holds the same numbers. -/
import Derived.Test.YtjhmkmcongjngaaZK
set_option linter.unusedVariables false
set_option linter.unusedSimpArgs false
namespace Go.Proofs.Ytjhmkmcongjngaa
open Go.RowKit Go.Tat Go.Proofs.YtjhmkmcongjngaaW.PrintWords
set_option maxRecDepth 100000 in
theorem sort_some (g n c : Nat) (hn : n ≤ 1000000) (l : List Int) (w : World) (h : SS w w g n c l) : Calls Try.prog 32 #[.slice (some ⟨g, 0, none⟩) n c] w (SPost (.tuple #[]) w g n c l) := by
  have HL := Lib.hid (fun w => len_c (n : Int) w (by omega) (by omega))
  have hb : Lib.bitLen n ≤ 20 := Lib.bitLen_le n 20 (by decide) (by omega)
  have HP := Lib.hid (pdq_c g n c hn (n + 1) 0 n (Lib.bitLen n) (by omega) (by omega) (by omega) (by omega) l w h)
  have b1 : (n : Int) ≤ 1000000 := by omega
  clear h hb
  go_enter Try.func32, Try.ntmps32
  go_wp2_with fail
  refine (HL.out w).mono ?_
  rintro e w' ⟨rfl, rfl⟩
  rw [show (n : Int).toNat = n from by omega]
  go_wp2_with fail
  refine HP.out.mono ?_
  rintro e w2 ⟨rfl, l2, hp, S2⟩
  have H2 := Lib.hid (And.intro hp S2)
  clear hp S2 HP
  go_wp2_with fail
  first | go_end0 | ((try simp only [Exit.inBlock, Exit.then]); refine bodyPost_ret (results_none rfl _ _ _) rfl ?_)
  exact ⟨rfl, _, H2.out⟩
theorem insertion_nil (w : World) : Calls Try.prog 41 #[.slice none 0 0, .int .i64 0, .int .i64 0] w fun e w' => e = .returned (.tuple #[]) ∧ Below w.heap.size w w' := by
  go_enter Try.func41, Try.ntmps41
  go_wp2_with fail
  go_loopg [6] 1 (fun m v6 wx => v6 = .int .i64 1 ∧ Below w.heap.size w wx)
  case atStart => exact ⟨rfl, Below.refl _ _⟩
  case round =>
    obtain ⟨rfl, hB⟩ := hrel
    have HB := Lib.hid hB
    clear hB
    go_wp2_with fail
    first | go_end0 | ((try simp only [Exit.inBlock, Exit.then]); refine bodyPost_ret (results_none rfl _ _ _) rfl ?_)
    exact ⟨rfl, HB.out⟩
set_option maxRecDepth 100000 in
theorem pdq_nil (w : World) : Calls Try.prog 37 #[.slice none 0 0, .int .i64 0, .int .i64 0, .int .i64 0] w fun e w' => e = .returned (.tuple #[]) ∧ Below w.heap.size w w' := by
  go_enter Try.func37, Try.ntmps37
  go_wp2_with fail
  go_loopg [1, 2, 3, 8, 9] 1 (fun m v1 v2 v3 v8 v9 wx => v1 = .int .i64 0 ∧ v2 = .int .i64 0 ∧ v3 = .int .i64 0 ∧ v8 = .bool true ∧ v9 = .bool true ∧ Below w.heap.size w wx)
  case atStart => exact ⟨rfl, rfl, rfl, rfl, rfl, Below.refl _ _⟩
  case round =>
    obtain ⟨rfl, rfl, rfl, rfl, rfl, hB⟩ := hrel
    have HB := Lib.hid hB
    clear hB
    have HI := Lib.hid (insertion_nil wr)
    go_wp2_with fail
    refine HI.out.mono ?_
    rintro e w2 ⟨rfl, b2⟩
    have H2 := Lib.hid (HB.out.trans (b2.mono HB.out.size))
    clear b2 HI
    go_wp2_with fail
    first | go_end0 | ((try simp only [Exit.inBlock, Exit.then]); refine bodyPost_ret (results_none rfl _ _ _) rfl ?_)
    exact ⟨rfl, H2.out⟩
theorem sort_nil (w : World) : Calls Try.prog 32 #[.slice none 0 0] w fun e w' => e = .returned (.tuple #[]) ∧ Below w.heap.size w w' := by
  have HL := Lib.hid (len_c 0 w (by omega) (by omega))
  have HP := Lib.hid (pdq_nil w)
  go_enter Try.func32, Try.ntmps32
  go_wp2_with fail
  refine HL.out.mono ?_
  rintro e w' ⟨rfl, rfl⟩
  rw [show ((Lib.bitLen (0 : Int).toNat : Nat) : Int) = 0 from rfl]
  go_wp2_with fail
  refine HP.out.mono ?_
  rintro e w2 ⟨rfl, b2⟩
  have H2 := Lib.hid b2
  clear b2
  go_wp2_with fail
  first | go_end0 | ((try simp only [Exit.inBlock, Exit.then]); refine bodyPost_ret (results_none rfl _ _ _) rfl ?_)
  exact ⟨rfl, H2.out⟩
/-- The sort of a row among other things. -/
def sortSt (F : Nat → Prop) (w0 : World) (L : List Asr) (i : Nat) (v : Value) (l : List Int) (e : Ending) (w' : World) : Prop := e = .returned (.tuple #[]) ∧ ∃ l', l'.Perm l ∧ St F w0 w' (L.set i (slc (Kd.int .u8) 5 v l'))
theorem sort_st {F : Nat → Prop} {w0 w : World} {L : List Asr} (h : St F w0 w L) (i : Nat) {v : Value} {l : List Int} (hi : L[i]? = some (slc (Kd.int .u8) 5 v l)) (hl : l.length ≤ 1000000) : Calls Try.prog 32 #[v] w (sortSt F w0 L i v l) := by
  have hs := h.get i hi
  rcases (slc_iff (flInt .u8)).1 hs with ⟨rfl, rfl⟩ | ⟨g, cap, ex, rfl, hR, _⟩
  · refine (sort_nil w).mono ?_
    rintro e w' ⟨rfl, b⟩
    refine ⟨rfl, [], List.Perm.refl _, ?_⟩
    have h2 := h.below b
    have e : L.set i (slc (Kd.int .u8) 5 (.slice none 0 0) []) = L := by
      obtain ⟨hl, he⟩ := List.getElem?_eq_some_iff.1 hi
      rw [← he]
      exact List.set_getElem_self hl
    rw [e]
    exact h2
  · have h1 : SS w w g l.length cap l := ⟨⟨fun a ha => by rw [List.mem_singleton.1 ha]; exact hs, List.pairwise_singleton _ _⟩, fun a ha k hk _ => by rw [List.mem_singleton.1 ha] at hk; cases hk; rfl, Mod.refl _ _⟩
    refine (sort_some g l.length cap hl l w h1).mono ?_
    rintro e w' ⟨rfl, l', hp, S⟩
    refine ⟨rfl, l', hp, h.upd i hi (S.mod.mono (fun k _ hk => ?_)) (S.get 0 rfl) fun k hk => .inl hk⟩
    show some g = some k
    rw [hk]
end Go.Proofs.Ytjhmkmcongjngaa
