import Derived.Test.YticbobhkijpbkaaRM
import Derived.Test.YticbobhkijpbkaaOpen
namespace Go.Proofs.Yticbobhkijpbkaa
open Go.RowKit Go.Tat Go.Proofs.YticbobhkijpbkaaW.PrintWords PRingOwners
theorem Try.cells5 : Try.prog.cellsOf 5 = (Kd.int .u8).sz := by kernel_rfl
def g5 (x : Int) : Prop := (Lit.int .u8 x).wf = true
theorem opens5 : Opens Try.prog 5 (Kd.int .u8) g5 := Opens.int Try.underlying5
theorem u8_wf {x : Int} (h : (Lit.int .u8 x).wf = true) : 0 ≤ x ∧ x < 256 := by
  have b : IntKind.u8.min ≤ x ∧ x ≤ IntKind.u8.max := by simpa [Lit.wf] using h
  have e0 : IntKind.u8.min = 0 := rfl
  have e1 : IntKind.u8.max = 255 := rfl
  omega
theorem anyorder_row (key : ByteArray) (l : List Int) (A : Option Addr) (c : Nat) (n : Int) (hn : (Lit.int .u8 n).wf = true) (W : World) (hC : (Kd.int .u8).C W A l.length l) (hc : l.length ≤ c) (hg : ∀ x ∈ l, g5 x) :
    Calls Try.prog 3 #[.string key, .slice A l.length c, .int .u8 n] W fun e w' => e = .returned (.bool true) ∧ Below W.heap.size W w' := by
  have b := u8_wf hn
  obtain ⟨m, rfl⟩ : ∃ m : Nat, n = m := ⟨n.toNat, by omega⟩
  exact anyorder_c key l A c m (by omega) W hC hc fun x hx => u8_wf (hg x hx)
theorem first_row (key : ByteArray) (l : List Int) (A : Option Addr) (c : Nat) (W : World) (hC : (Kd.int .u8).C W A l.length l) (hc : l.length ≤ c) (hg : ∀ x ∈ l, g5 x) :
    Calls Try.prog 4 #[.string key, .slice A l.length c] W fun e w' => e = .returned (.bool true) ∧ Below W.heap.size W w' := first_c key l A c W hC hc fun x hx => u8_wf (hg x hx)
theorem owners_row (key : ByteArray) (l : List Int) (A : Option Addr) (c : Nat) (n : Int) (W : World) (hC : (Kd.int .u8).C W A l.length l) (hc : l.length ≤ c) (hg : ∀ x ∈ l, g5 x) :
    Calls Try.prog 5 #[.string key, .slice A l.length c, .int .u8 n] W fun e w' => e = .returned (.bool true) ∧ Below W.heap.size W w' := ringowners_c key l A c n W hC hc fun x hx => u8_wf (hg x hx)
theorem less_row (key : ByteArray) (l : List Int) (A : Option Addr) (c : Nat) (n : Int) (W : World) (hC : (Kd.int .u8).C W A l.length l) (hc : l.length ≤ c) (hg : ∀ x ∈ l, g5 x) :
    Calls Try.prog 6 #[.string key, .slice A l.length c, .int .u8 n] W fun e w' => e = .returned (.bool true) ∧ Below W.heap.size W w' := less_c key l A c n W hC hc fun x hx => u8_wf (hg x hx)
theorem more_row (key : ByteArray) (l : List Int) (A : Option Addr) (c : Nat) (n : Int) (hn : (Lit.int .u8 n).wf = true) (W : World) (hC : (Kd.int .u8).C W A l.length l) (hc : l.length ≤ c) (hg : ∀ x ∈ l, g5 x) :
    Calls Try.prog 7 #[.string key, .slice A l.length c, .int .u8 n] W fun e w' => e = .returned (.bool true) ∧ Below W.heap.size W w' := more_c key l A c n (u8_wf hn) W hC hc fun x hx => u8_wf (hg x hx)
end Go.Proofs.Yticbobhkijpbkaa
