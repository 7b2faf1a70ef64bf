/- Paths in plain Lean: no program in sight. -/
import Derived.Test.YtdfpfnofaiobgaaRtoFn
import Derived.Test.YtdfpfnofaiobgaaWinFn
namespace Go.Proofs.Ytdfpfnofaiobgaa.Pth
open Go.Proofs.Ytdfpfnofaiobgaa.Rto Go.Proofs.Ytdfpfnofaiobgaa.Win

structure Pth where
  addr : ByteArray
  state : Int
  errors : Int
  srtt : Int
  var : Int
  rto : Int
  backs : Int
  known : Bool
  cwnd : Int
  ssth : Int
  part : Int
  nonce : Int
  beaten : Int
  sent : Int

def w64 (x : Int) : Int := (x + 9223372036854775808) % 18446744073709551616 - 9223372036854775808
/-- A path that was made. -/
def fresh (a : ByteArray) (peer : Int) (st : Int) : Pth := ⟨a, st, 0, 0, 0, 1000, 0, false, 4500, wh peer 0, 0, 0, 0, 0⟩
def beat (nonce now : Int) (p : Pth) : Pth := { p with nonce := nonce, beaten := now, sent := 1 }
/-- What is learned of an answer. -/
def answered (now : Int) (p : Pth) : Pth :=
  { p with srtt := smS p.known p.srtt (w64 (now - p.beaten)), var := smV p.known p.srtt p.var (w64 (now - p.beaten)), rto := wt (smS p.known p.srtt (w64 (now - p.beaten))) (smV p.known p.srtt p.var (w64 (now - p.beaten))), backs := 0, known := true,
           sent := 0, state := if p.state = 1 then 2 else p.state }
def failed (p : Pth) : Pth :=
  { p with errors := w64 (p.errors + 1), rto := bkR p.rto, backs := min p.backs 999 + 1, cwnd := 1500, ssth := half p.cwnd, part := 0, state := if p.state = 2 ∧ 5 < w64 (p.errors + 1) then 3 else p.state }
def heard (p : Pth) : Pth := { p with errors := 0, rto := gdR p.known p.srtt p.var, backs := 0, state := if p.state = 3 then 2 else p.state }
/-- One of them turned, if it is there. -/
def chg (i : Int) (f : Pth → Pth) (l : List Pth) : List Pth := if 0 ≤ i then (match l[i.toNat]? with | some p => l.set i.toNat (f p) | none => l) else l
def isIn (i : Int) (n : Nat) : Bool := decide (0 ≤ i) && decide (i < n)
def find (s : ByteArray) (l : List Pth) : Nat := l.findIdx fun p => p.addr.toList == s.toList
def act (l : List Pth) (i : Int) : Bool := isIn i l.length && (match l[i.toNat]? with | some p => p.state == 2 | none => false)
/-- The paths in the order in which they are tried. -/
def ordL (n : Nat) (prim : Int) : List Int := prim :: (List.range n).map fun (i : Nat) => (i : Int)
def cand (l : List Pth) (no : Int) (i : Int) : Bool := (i != no) && act l i
def chooseF (l : List Pth) (prim no : Int) : Int :=
  match (ordL l.length prim).find? (cand l no) with
  | some i => i
  | none => if act l no = true then no else if isIn prim l.length = true then prim else -1
/-- Is an answer one to the heartbeat that was sent? -/
def fits (nonce now : Int) (p : Pth) : Bool := p.sent == 1 && (p.nonce == nonce && decide (p.beaten ≤ now))
def ackB (i nonce now : Int) (l : List Pth) : Bool := isIn i l.length && (match l[i.toNat]? with | some p => fits nonce now p | none => false)
end Go.Proofs.Ytdfpfnofaiobgaa.Pth
