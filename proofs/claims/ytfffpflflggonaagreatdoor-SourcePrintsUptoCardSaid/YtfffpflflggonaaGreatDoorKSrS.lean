/- Which conditions are well-formed, said plainly. No program in sight. -/
import Derived.Test.YtfffpflflggonaaGreatDoorKS14
import Derived.Test.YtfffpflflggonaaGreatDoorKTextB
namespace Go.Proofs.YtfffpflflggonaaGreatDoor.src
open lex value text
def tstB (op : Int) : Bool:=decide (6≤op) && decide (op≤15)
def formB (op : Int) (kind name : List UInt8) (values kids : Nat) : Bool :=
  (if op = 2∨op = 3 then decide (2≤kids) else if op = 4 then decide (kids = 1) else decide (kids = 0)) &&
  ((tstB op || (kind.isEmpty && (name.isEmpty || decide (op = 5)))) &&
  (if op = 8 then decide (0 < values) else if tstB op = true∧op ≠ 6 then decide (values = 1) else decide (values = 0)))
def valsE : List VV→Int
  | []=>0
  | v :: r=>if checkS v = 0 then valsE r else checkS v
def PE.ops (l : List PE) : List Int:=l.map PE.op
def textB (op : Int) : Bool:=decide (op = 9) || (decide (op = 10) || decide (op = 11))
def headK : List VV→Int
  | []=>0
  | v :: _=>v.k
def partS (op : Int) (kind name : List UInt8) (vals : List VV) (kids : List Int) : Int :=
  if op < 1∨15 < op then 7
  else if formB op kind name vals.length kids.length = false then 15
  else if 12 < kids.length∨20 < vals.length then 5
  else if (op = 2∨op = 3)∧kids.any (fun k=>k == op) = true then 15
  else if (tstB op && !keyS kind || (tstB op || decide (op = 5)) && !keyS name) = true then 6
  else if valsE vals ≠ 0 then valsE vals
  else if textB op = true∧headK vals ≠ 3 then 8
  else 0
mutual
def walkS : PE→Nat→Nat→Int × Nat
  | .mk op kind name vals kids,d,b =>
    if 60≤b then (5,b)
    else if 10≤d then (18,b + 1)
    else if partS op kind name vals (PE.ops kids) ≠ 0 then (partS op kind name vals (PE.ops kids),b + 1)
    else walkL kids (d + 1) (b + 1)
def walkL : List PE→Nat→Nat→Int × Nat
  | [],_,b=>(0,b)
  | k :: r,d,b=>if (walkS k d b).1 = 0 then walkL r d (walkS k d b).2 else walkS k d b
end
def formS (x : PE) : Int:=(walkS x 0 0).1
def readS (s : List UInt8) : Except (Int × Int) PE :=
  match toksS s with
  | .error (q,L)=>.error (q,L)
  | .ok ts=>match condS ts with
    | .error e=>.error e
    | .ok (x,_)=>if formS x = 0 then .ok x else .error (formS x,0)
end Go.Proofs.YtfffpflflggonaaGreatDoor.src
