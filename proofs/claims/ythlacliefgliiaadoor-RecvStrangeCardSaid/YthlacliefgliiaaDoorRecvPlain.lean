/- The recipient as plain mathematics: a session, its window, its board, what it keeps. -/
import Derived.Test.YthlacliefgliiaaDoorAck2
set_option linter.unusedVariables false
set_option linter.unusedSimpArgs false
namespace Go.Proofs.YthlacliefgliiaaDoor
open Go.Vc
def bitO (a b : Int) : Int := bits .or .u64 a b
structure Ses where
  on : Bool
  start : Int
  size : Int
  fr : Int
  bits : Int
  kept : List Fm
  came : Bool
  last : Int
def ses0 : Ses := ⟨false, 0, 0, 0, 0, [], false, 0⟩
def kfind (l : List Fm) (n : Int) : Option Fm := l.find? fun f => f.sq == n
def kdel (l : List Fm) (n : Int) : List Fm := l.eraseP fun f => f.sq == n
/-- What is kept ahead of a number, so many further, is handed up. -/
def upP : Nat → List Fm → Int → List Fm × List Fm
  | 0, l, _ => ([], l)
  | d + 1, l, s => if l.length = 0 then ([], l) else match kfind l s with
    | none => upP d l (addZ s 1)
    | some f => (f :: (upP d (kdel l s) (addZ s 1)).1, (upP d (kdel l s) (addZ s 1)).2)
/-- What is next is handed up: what, what is left, where the window begins. -/
def runP : Nat → List Fm → Int → List Fm × List Fm × Int
  | 0, l, s => ([], l, s)
  | n + 1, l, s => match kfind l s with
    | none => ([], l, s)
    | some f => (f :: (runP n (kdel l s) (addZ s 1)).1, (runP n (kdel l s) (addZ s 1)).2)
def Ses.up (x : Ses) (to : Int) : List Fm × Ses := ((upP (distZ x.start to).toNat x.kept x.start).1, { x with start := to, kept := (upP (distZ x.start to).toNat x.kept x.start).2 })
def Ses.run (x : Ses) : List Fm × Ses := ((runP (x.kept.length + 1) x.kept x.start).1, { x with start := (runP (x.kept.length + 1) x.kept x.start).2.2, kept := (runP (x.kept.length + 1) x.kept x.start).2.1 })
def Ses.move (x : Ses) (n : Int) : Ses := { x with fr := n, bits := if 64 ≤ distZ x.fr n then 0 else x.bits / pow2 (distZ x.fr n) }
def Ses.mark (x : Ses) (n : Int) : Ses := if distZ x.fr n < 64 then { x with bits := bitO x.bits (1 * pow2 (distZ x.fr n)) } else x
def Ses.stand (x : Ses) (n : Int) : Ses := (if 64 ≤ distZ x.fr n ∧ distZ x.fr n < 2048 then x.move (addZ n (-63)) else x).mark n
def Ses.put (x : Ses) (f : Fm) : Ses := if (kfind x.kept f.sq).isSome then x else { x with kept := x.kept ++ [f] }
def Ses.takeOff (x : Ses) (f : Fm) : List Fm × Ses := (if f.rt && (x.came && (x.last == f.sq)) then [] else [f], { x with came := true, last := f.sq })
/-- A frame in a session whose board has it. -/
def Ses.take2 (x : Ses) (f : Fm) : List Fm × Ses :=
  if 2048 ≤ distZ x.start f.sq then ([], x) else
  if x.size ≤ distZ x.start f.sq then ((x.up (addZ f.sq (1 - x.size))).1 ++ (((x.up (addZ f.sq (1 - x.size))).2.put f).run).1, (((x.up (addZ f.sq (1 - x.size))).2.put f).run).2)
  else ((x.put f).run.1, (x.put f).run.2)
def Ses.take (x : Ses) (f : Fm) : List Fm × Ses := if x.on then (x.stand f.sq).take2 f else x.takeOff f
/-- What is answered: from where, of which numbers. -/
def Ses.ackS (x : Ses) : Int := if x.on then x.fr else x.last
def Ses.ackM (x : Ses) : Int := if x.on then x.bits else 1
structure SesOk (x : Ses) : Prop where
  s : 0 ≤ x.start ∧ x.start ≤ 4095
  f : 0 ≤ x.fr ∧ x.fr ≤ 4095
  l : 0 ≤ x.last ∧ x.last ≤ 4095
  b : 0 ≤ x.bits ∧ x.bits < 18446744073709551616
  z : 0 ≤ x.size ∧ x.size ≤ 64
  k : ∀ f ∈ x.kept, FmOk f
  n : x.kept.length ≤ 4096
theorem ses0_ok : SesOk ses0 := ⟨by decide, by decide, by decide, by decide, by decide, by simp [ses0], by simp [ses0]⟩
theorem takeOff_ok {x : Ses} {f : Fm} (h : SesOk x) (hf : FmOk f) : SesOk (x.takeOff f).2 := ⟨h.s, h.f, ⟨hf.s0, hf.s1⟩, h.b, h.z, h.k, h.n⟩
theorem ack_bd {x : Ses} (h : SesOk x) : (0 ≤ x.ackS ∧ x.ackS ≤ 4095) ∧ 0 ≤ x.ackM ∧ x.ackM < 18446744073709551616 := by
  unfold Ses.ackS Ses.ackM
  split
  · exact ⟨h.f, h.b⟩
  · exact ⟨h.l, by decide, by decide⟩
def meL : List Int := [2, 0, 0, 0, 0, 9]
def bssL : List Int := [2, 0, 0, 0, 1, 0]
end Go.Proofs.YthlacliefgliiaaDoor
