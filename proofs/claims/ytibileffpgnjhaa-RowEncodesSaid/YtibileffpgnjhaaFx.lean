/-
  What rs.Fix computes, plainly.
-/
import Derived.Test.YtibileffpgnjhaaPf
namespace Go.Proofs.Ytibileffpgnjhaa.Fld
open Go.Proofs.Ytibileffpgnjhaa.Base
set_option linter.unusedSimpArgs false
set_option linter.unusedVariables false

def Byt (x : Int) : Prop := 0 ≤ x ∧ x < 256
instance (x : Int) : Decidable (Byt x) := inferInstanceAs (Decidable (_ ∧ _))
def xorI (x y : Int) : Int := ((x.toNat ^^^ y.toNat : Nat) : Int)
def mulI (x y : Int) : Int := ((mulN x.toNat y.toNat : Nat) : Int)
def expI (i : Nat) : Int := ((pw i : Nat) : Int)
def invI (x : Int) : Int := ((invN x.toNat : Nat) : Int)
def at_ (xs : List Int) (k : Nat) : Int := xs.getD k 0
/-- the two sums at a byte -/
def pS : List (List Int) → Nat → Int
  | [], _ => 0
  | r :: L, k => xorI (at_ r k) (pS L k)
def qS : Nat → List (List Int) → Nat → Int
  | _, [], _ => 0
  | i, r :: L, k => xorI (mulI (expI i) (at_ r k)) (qS (i + 1) L k)
def sumP (L : List (List Int)) (n : Nat) : List Int := (List.range n).map (pS L)
def sumQ (L : List (List Int)) (n : Nat) : List Int := (List.range n).map (qS 0 L)
/-- a row added, times a number -/
def addR (to x : List Int) (b : Int) : List Int := to.mapIdx fun k a => if k < x.length then xorI a (mulI (at_ x k) b) else a
def row (L : List (List Int)) (i : Nat) : List Int := L.getD i []
/-- the rows that are not lost -/
def kept (l : List (List Int)) (lost : List Int) : List (List Int) := ((l.zipIdx).filter fun p => !(lost.contains (p.2 : Int))).map (·.1)
def alikeR : List (List Int) → Bool
  | [] => true
  | r :: L => L.all fun x => x.length == r.length
def lenR : List (List Int) → Nat
  | [] => 0
  | r :: _ => r.length
def mayB (l : List (List Int)) (lost : List Int) : Bool :=
  decide (4 ≤ l.length) && decide (l.length ≤ 16) && decide (lost.length ≤ 2) && lost.all (fun i => decide (0 ≤ i) && decide (i < l.length)) && decide lost.Nodup && alikeR (kept l lost)
def ownR (l : List (List Int)) (lost : List Int) (n : Nat) : List (List Int) := l.mapIdx fun i x => if lost.contains (i : Int) then List.replicate n 0 else x
def srt : List Int → List Int
  | [a, b] => if a ≤ b then [a, b] else [b, a]
  | l => l
def twoR (out : List (List Int)) (a b : Nat) (p q : List Int) : List (List Int) :=
  let x := expI a
  let y := expI b
  let e := invI (xorI x y)
  let ra := addR (addR (row out a) q e) p (mulI e y)
  let rb := addR (addR (row out b) p 1) ra 1
  (out.set a ra).set b rb
def dataR (out : List (List Int)) (gone : List Nat) (d : Nat) (p q : List Int) : List (List Int) :=
  match gone with
  | [] => out
  | [a] => if a ≥ d then out else out.set a (addR (row out a) p 1)
  | a :: b :: _ => if a ≥ d then out else if b < d then twoR out a b p q else if b = d then out.set a (addR (row out a) q (invI (expI a))) else out.set a (addR (row out a) p 1)
def parR (out : List (List Int)) (gone : List Nat) (d n : Nat) : List (List Int) :=
  gone.foldl (fun o i => if i ≥ d then o.set i (if i = d then sumP (o.take d) n else sumQ (o.take d) n) else o) out
def fixR (l : List (List Int)) (lost : List Int) : List (List Int) :=
  let n := lenR (kept l lost)
  let out := ownR l lost n
  let d := l.length - 2
  let gone := (srt lost).map Int.toNat
  let p := addR (sumP (out.take d) n) (row out d) 1
  let q := addR (sumQ (out.take d) n) (row out (d + 1)) 1
  parR (dataR out gone d p q) gone d n
def fixF (l : List (List Int)) (lost : List Int) : Option (List (List Int) × Bool) :=
  if (∀ r ∈ l, ∀ x ∈ r, Byt x) ∧ (∀ r ∈ l, r.length ≤ 1000000) ∧ lost.length ≤ 1000000 ∧ l.length ≤ 1000000 then (if mayB l lost then some (fixR l lost, true) else some ([], false)) else none
end Go.Proofs.Ytibileffpgnjhaa.Fld
