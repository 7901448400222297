import Derived.Test.YtjhmkmcongjngaaQD
import Derived.BigRegion
set_option linter.unusedVariables false
set_option linter.unusedSimpArgs false
namespace Go.Proofs.Ytjhmkmcongjngaa
open Go.RowKit Go.Tat Go.Proofs.YtjhmkmcongjngaaW.PrintWords PProbePlays
/-! ### A tick: what it does -/
def two (x y : Int) : Int := (mix_Two.f x y).getD 0
/-- Two places changed. -/
def swp (l : List Int) (i j : Nat) : List Int := (l.set i (l.getD j 0)).set j (l.getD i 0)
/-- The row mixed, from place i on downward. -/
def mixRow (x : Int) : Nat → List Int → List Int
  | 0, l => l
  | i + 1, l => mixRow x i (swp l (i + 1) ((two x ((i + 1 : Nat) : Int)) % ((i + 2 : Nat) : Int)).toNat)
structure Rd where
  pings : List Int
  asks : List S80
  failed : List Int
def oneMore (w : S82) : S82 := ⟨w.f0, w.f1 + 1⟩
/-- The waits, seen through. -/
def passF (self n x : Int) (hs : List Int) (st : Rd × List S82) (w : S82) : Rd × List S82 :=
  if w.f1 + 1 = 2 then ({ st.1 with failed := st.1.failed ++ [w.f0] }, st.2)
  else ({ st.1 with asks := st.1.asks ++ (hlpF self n x hs w.f0).map fun h => ⟨h, w.f0⟩ }, st.2 ++ [oneMore w])
def pass (p : Pr) (x : Int) (hs : List Int) : Rd × List S82 := p.waits.foldl (passF p.self p.n x hs) (⟨[], [], []⟩, [])
def turned (p : Pr) (x : Int) : Pr := if p.place = p.row.length then { p with row := mixRow x (p.row.length - 1) p.row, place := 0 } else p
def pinged (r : Rd) (p : Pr) : Rd × Pr :=
  let t := p.row.getD p.place.toNat 0
  ({ r with pings := r.pings ++ [t] }, { p with place := p.place + 1, waits := if p.waits.any (fun w => w.f0 == t) then p.waits else p.waits ++ [⟨t, 0⟩] })
def tickF (p : Pr) (x : Int) (hs : List Int) : Rd × Pr :=
  let q := pass p x hs
  let p1 := { p with waits := q.2 }
  if p.n = 1 then (q.1, p1) else pinged q.1 (turned p1 x)
end Go.Proofs.Ytjhmkmcongjngaa
