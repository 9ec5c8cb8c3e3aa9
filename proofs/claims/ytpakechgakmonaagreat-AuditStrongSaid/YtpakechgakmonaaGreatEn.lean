/- How the program's own line of words reads, letter by letter; facts of the whole program that each row asks for. Conditions: none. -/
import Derived.Test.YtpakechgakmonaaGreatRows
import Derived.ProofKit
import Derived.OpenShut
namespace Go.Proofs.YtpakechgakmonaaGreat
def io : List Nat := [104, 97, 114, 110, 101, 115, 115, 32, 50, 99, 101, 52, 100, 100, 102, 98, 97, 99, 99, 101, 55, 99, 49, 101, 50, 101, 53, 98, 98, 49, 55, 99, 55, 101, 101, 52, 98, 101, 101, 50, 99, 50, 102, 51, 56, 55, 102, 48, 101, 52, 56, 50, 55, 57, 99, 57, 57, 56, 49, 54, 99, 48, 49, 53, 52, 99, 102, 100, 51, 102, 97, 49, 32, 99, 117, 116, 32, 97, 116, 32, 109, 97, 114, 105, 103, 111, 108, 100, 47, 109, 97, 114, 105, 103, 111, 108, 100, 108, 97, 119, 50, 49, 46, 65, 117, 100, 105, 116, 87, 101, 105, 103, 104, 115, 32, 109, 97, 114, 105, 103, 111, 108, 100, 47, 109, 97, 114, 105, 103, 111, 108, 100, 108, 97, 119, 50, 49, 46, 65, 117, 100, 105, 116, 83, 116, 114, 111, 110, 103, 32, 109, 97, 114, 105, 103, 111, 108, 100, 47, 109, 97, 114, 105, 103, 111, 108, 100, 108, 97, 119, 50, 49, 46, 65, 117, 100, 105, 116, 80, 97, 114, 116, 115]
theorem ioEq : Tryz.prog.initOrder = String.ofList (io.map Char.ofNat) := by kernel_rfl
theorem ioList : Tryz.prog.initOrder.toList = io.map Char.ofNat := by rw [ioEq, String.toList_ofList]
def ws : List (List Nat) := [[99, 117, 116], [97, 116], [109, 97, 114, 105, 103, 111, 108, 100, 47, 109, 97, 114, 105, 103, 111, 108, 100, 108, 97, 119, 50, 49, 46, 65, 117, 100, 105, 116, 87, 101, 105, 103, 104, 115], [109, 97, 114, 105, 103, 111, 108, 100, 47, 109, 97, 114, 105, 103, 111, 108, 100, 108, 97, 119, 50, 49, 46, 65, 117, 100, 105, 116, 83, 116, 114, 111, 110, 103], [109, 97, 114, 105, 103, 111, 108, 100, 47, 109, 97, 114, 105, 103, 111, 108, 100, 108, 97, 119, 50, 49, 46, 65, 117, 100, 105, 116, 80, 97, 114, 116, 115]]
theorem words : behindMainWord (wordsSigns Tryz.prog.initOrder.toList) = ws.map (List.map Char.ofNat) := by
  rw [ioList]
  kernel_rfl
theorem strip : stripLifts liftWords (ws.map (List.map Char.ofNat)) = ([], ws.map (List.map Char.ofNat)) := by kernel_rfl
theorem rows0 : Tryz.prog.doorRows = [] := by kernel_rfl
theorem lays : Tryz.prog.laysLater = false := by kernel_rfl
theorem refl0 : Tryz.prog.bearsReflect = false := by kernel_rfl
theorem headw : (ws.map (List.map Char.ofNat)).head? = some "cut".toList := by kernel_rfl
theorem enters (P : Program) (W : List (List Char)) (hW : behindMainWord (wordsSigns P.initOrder.toList) = W) (hs : stripLifts liftWords W = ([], W)) (hh : W.head? = some "cut".toList) (hr : P.doorRows = []) (hl : P.laysLater = false) (hb : P.bearsReflect = false) : P.mayEnter = true := by
  unfold Program.mayEnter
  rw [hW]
  cases W with
  | nil => cases hh
  | cons c r =>
    simp only [hs, hh, hl, hb, Program.doorFits, hr]
    simp
theorem mayEnter : Tryz.prog.mayEnter = true := enters Tryz.prog _ words strip headw rows0 lays refl0
theorem own : ownKnob Tryz.prog.godebug = none := by kernel_rfl
theorem laidOut : laidOutB Tryz.prog = true := by kernel_rfl
theorem rowed : mapsRowed Tryz.prog = true := by kernel_rfl
theorem heard : Tryz.prog.stopsHeard = true := by kernel_rfl
theorem make_of (P : Program) (W : List (List Char)) (hW : behindMainWord (wordsSigns P.initOrder.toList) = W) (hh : W.head? = some "cut".toList) : P.make = some .cut := by
  unfold Program.make
  rw [hW]
  cases W with
  | nil => cases hh
  | cons c r =>
    have e : c = "cut".toList := by simpa using hh
    subst e
    show (if _ then _ else _) = _
    rw [if_neg (by decide), if_pos (by simp)]
theorem makes : Tryz.prog.make = some .cut := make_of Tryz.prog _ words headw
theorem lifts : Tryz.prog.liftsFinal = false := by
  unfold Program.liftsFinal Program.headLifts
  rw [words]
  kernel_rfl
end Go.Proofs.YtpakechgakmonaaGreat
