/- Zones: plain functions and laws. -/
import Derived.Test.YtgmbefolgppmdaaGreatDoorKRcL
namespace Go.Proofs.YtgmbefolgppmdaaGreatDoor
open Go.RowKit Go.Shelf
set_option maxRecDepth 100000
namespace Zn
abbrev Nam := List (List UInt8)
open Rc
def has (L : List PRec) (n : Nam) (t : Int) : Bool := L.any fun r => (r.type == t) && Nm.same r.owner n
def cutF (ol : Nat) (L : List PRec) (n : Nam) : Nat -> Option Nat
 | 0 => none
 | k + 1 => if ol < (n.drop k).length && has L (n.drop k) 2 then some k else cutF ol L n k
def cutAt (o : Nam) (L : List PRec) (n : Nam) : Option Nat := if Nm.under n o then cutF o.length L n (n.length - o.length + 1) else none
def cut (o : Nam) (L : List PRec) (n : Nam) : Nam := match cutAt o L n with
 | none => []
 | some k => n.drop k
def isCut (o : Nam) (L : List PRec) (n : Nam) : Bool := (cutAt o L n).isSome
def wher (o : Nam) (L : List PRec) (n : Nam) : Int := if Nm.under n o then (match cutAt o L n with
 | none => 1
 | some k => if (n.drop k).length = n.length then 2 else 3) else 0
def exi (o : Nam) (L : List PRec) (n : Nam) : Bool := Nm.under n o && (decide (n.length = o.length) || L.any fun r => Nm.under r.owner n)
def enclF (o : Nam) (L : List PRec) (n : Nam) : Nat -> Nat -> Nat
 | 0, out => out
 | k + 1, out => if exi o L (n.drop k) then enclF o L n k k else out
def encl (o : Nam) (L : List PRec) (n : Nam) : Nam := if Nm.under n o then n.drop (enclF o L n (n.length - o.length + 1) n.length) else []
def star (o : Nam) (L : List PRec) (n : Nam) : Nam := [42] :: encl o L n
def isSrc (o : Nam) (L : List PRec) (n : Nam) : Bool := L.any fun r => Nm.same r.owner (star o L n)
def src (o : Nam) (L : List PRec) (n : Nam) : Nam := if isSrc o L n then star o L n else []
end Zn
end Go.Proofs.YtgmbefolgppmdaaGreatDoor
