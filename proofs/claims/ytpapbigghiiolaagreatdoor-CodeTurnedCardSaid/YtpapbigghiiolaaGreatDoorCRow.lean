/-
  What the rows' lists give the walks; the witness's world.
-/
import Derived.Test.YtpapbigghiiolaaGreatDoorCards
import Derived.Test.YtpapbigghiiolaaGreatDoorTie
import Derived.WalkKit
import Derived.ProofKit
import Derived.OpenShut
import Derived.ShutString
import Derived.ChangeOld
import Derived.Below
import Derived.Deep.DeepHandedRow
import Derived.Lib.LaidTab
import Derived.Lay
import Derived.LaidSub
import Derived.LaidLaws
import Derived.Test.YtpapbigghiiolaaGreatDoorCInt
namespace Go.Proofs.YtpapbigghiiolaaGreatDoor
open Go.ChangeShapes Go.WideShapes Go.ChangeAt Go.RowKit
open Go.ChangeMaps (open_string shut_string)
set_option linter.unusedVariables false

theorem own : ownKnob Tryz.prog.godebug = none := by kernel_rfl
theorem laidOut : laidOutB Tryz.prog = true := by kernel_rfl
theorem gErrSyntax : Tryz.prog.globalNamed "strconv.ErrSyntax" = some 4 := by kernel_rfl
theorem gErrRange : Tryz.prog.globalNamed "strconv.ErrRange" = some 5 := by kernel_rfl
theorem gPow : Tryz.prog.globalNamed "internal/strconv.uint64pow10" = some 0 := by kernel_rfl

abbrev laidL : List (String × DataW Unit) := Rows.codeTurnedRow.laid
theorem laid_none : (laidL.filter fun x => x.2.handleName?.isSome) = [] := by kernel_rfl
theorem laid_met_of {W : World} (h : laidMetH Tryz.prog laidL W) : laidMet Tryz.prog laidL W := by
  unfold laidMetH at h
  rw [laid_none] at h
  exact h

theorem iface_cell {W : World} {name : String} {d : DataW Unit} {s : String} {g : Nat} {t : TypeId} {ms : Array (String × TypeId)} (hg : Tryz.prog.globalNamed name = some g) (hty : (Tryz.prog.globals[g]?).map (·.type) = some t) (hi : Tryz.prog.underlying t = some (.interface ms))
    (h : laidMet Tryz.prog [(name, .iface s d)] W) : ∃ tp p, W.cell? ⟨g, 0, none⟩ = some (.iface tp p) := by
  obtain ⟨ps, ⟨g', t', cs, fuel, p, q, hg', ht', hvar, hd, _, _⟩, _⟩ := h
  obtain rfl := Option.some.inj (hg.symm.trans hg')
  obtain rfl := Option.some.inj (hty.symm.trans ht')
  obtain ⟨_, u, v, hcs, _, _⟩ := iface_of_trod hi hd
  refine ⟨u, v, ?_⟩
  have := World.var?_cell hg hvar 0
  rw [Array.eq_one_of_toList hcs] at this
  simpa using this

theorem laid_of {W : World} (h : laidMetH Tryz.prog laidL W) (hsh : W.ShapedOpen Tryz.prog) : Laid W := by
  have hm := laid_met_of h
  refine ⟨?_, ?_, ?_, Tryz.laysM219.s1_3 W hsh⟩
  · have h1 : laidMet Tryz.prog [("internal/strconv.uint64pow10", Lib.tabData .u64 Lib.pow10Tab)] W := hm.filter (fun x => x.1 == "internal/strconv.uint64pow10")
    exact Lib.tabIs_of_head gPow (by kernel_rfl) Tryz.underlying126 Tryz.underlying63 (by kernel_rfl) (by kernel_rfl) h1
  · have h1 : laidMet Tryz.prog [("strconv.ErrSyntax", Rows.laid_strconv_ErrSyntax)] W := hm.filter (fun x => x.1 == "strconv.ErrSyntax")
    exact iface_cell gErrSyntax (by kernel_rfl) Tryz.underlying51 h1
  · have h1 : laidMet Tryz.prog [("strconv.ErrRange", Rows.laid_strconv_ErrRange)] W := hm.filter (fun x => x.1 == "strconv.ErrRange")
    exact iface_cell gErrRange (by kernel_rfl) Tryz.underlying51 h1

theorem laid_met (os : Os) (args : Array Value) : laidMet Tryz.prog laidL ((World.laidAll Tryz.prog os laidL).forCall (fun _ _ => 0) ⟨#[], args, []⟩).memory :=
  laidMet_laidAll args (by kernel_rfl) (by kernel_rfl)
end Go.Proofs.YtpapbigghiiolaaGreatDoor
