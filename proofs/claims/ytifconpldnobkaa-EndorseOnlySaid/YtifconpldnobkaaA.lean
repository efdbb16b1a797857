/-
  The plain functions of the layer 'endorse' (what the program and the reference compute), with no program in sight.
-/
import Derived.Test.YtifconpldnobkaaNam
namespace Go.Proofs.Ytifconpldnobkaa

structure En where
  frm : ByteArray
  to : ByteArray
  kind : Int
  day : Int
structure Ch where
  holder : ByteArray
  blank : Bool
  ended : Bool
  day : Int

def rightB (x : En) : Bool := nameB x.frm && decide (0 ≤ x.day) && decide (x.day ≤ 1048576) &&
  (if x.kind = 1 then x.to.toList.isEmpty else (x.kind == 0 || x.kind == 2) && nameB x.to && !(x.to.toList == x.frm.toList))
def wrongP (c : Ch) (x : En) : Int :=
  if rightB x then (if c.ended then 9 else if !c.blank && !(x.frm.toList == c.holder.toList) then 8 else if x.day < c.day then 6 else 0) else 2
def onP (x : En) : Ch := ⟨x.to, x.kind == 1, x.kind == 2, x.day⟩
def nil : ByteArray := ⟨#[]⟩
def noCh : Ch := ⟨nil, false, false, 0⟩
/-- endorse.follow's round, from place k on -/
def fol (c : Ch) : Nat → List En → Ch × Nat × Int
  | k, [] => (c, k, 0)
  | k, x :: r => if wrongP c x = 0 then fol (onP x) (k + 1) r else (noCh, k, wrongP c x)
def follow (first : ByteArray) (l : List En) : Ch × Nat × Int := if nameB first then fol ⟨first, false, false, 0⟩ 0 l else (noCh, 0, 1)
def check (first : ByteArray) (l : List En) : ByteArray × Nat × Int := ((follow first l).1.holder, (follow first l).2)
def may (first who : ByteArray) (l : List En) : Bool :=
  (follow first l).2.2 == 0 && nameB who && !(follow first l).1.ended && ((follow first l).1.blank || who.toList == (follow first l).1.holder.toList)

/-- the reference's 'Wrong' -/
def wrongR (first : ByteArray) (l : List En) (i : Nat) (h : i < l.length) : Int :=
  if rightB l[i] then
    if i = 0 then (if l[i].frm.toList == first.toList then 0 else 8)
    else if l[i - 1].kind = 2 then 9 else if l[i - 1].kind == 0 && !(l[i].frm.toList == l[i - 1].to.toList) then 8 else if l[i].day < l[i - 1].day then 6 else 0
  else 2
/-- the reference's loop from place i on -/
def chkR (first : ByteArray) (l : List En) (i : Nat) : ByteArray × Nat × Int :=
  if h : i < l.length then (if wrongR first l i h = 0 then chkR first l (i + 1) else (nil, i, wrongR first l i h))
  else if h : 0 < l.length then (l[l.length - 1].to, l.length, 0) else (first, 0, 0)
termination_by l.length - i
def checkR (first : ByteArray) (l : List En) : ByteArray × Nat × Int := if nameB first then chkR first l 0 else (nil, 0, 1)

end Go.Proofs.Ytifconpldnobkaa
