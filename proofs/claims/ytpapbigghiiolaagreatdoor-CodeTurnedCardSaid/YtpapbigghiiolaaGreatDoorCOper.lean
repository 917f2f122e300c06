/-
  code.operation, (Program).below, letter.Key: what they return.
-/
import Derived.Test.YtpapbigghiiolaaGreatDoorCRules
import Derived.Test.YtpapbigghiiolaaGreatDoorCSpec
import Derived.Deep.QuietTactic
import Derived.BigQuiet
import Derived.Deep.DeepCutAuto
import Derived.Deep.CutBlock
import Derived.Outline
set_option linter.unusedVariables false
namespace Go.Proofs.YtpapbigghiiolaaGreatDoor
open Go.RowKit Go.Proofs.YtpapbigghiiolaaGreatDoorW.PrintWords

/-- what operation answers -/
def opRes (i : Int) : Value := match CS.opOf i with
  | some x => .tuple #[.string ⟨x.1.toArray⟩, .int .i64 x.2, .bool true]
  | none => .tuple #[.string ⟨#[]⟩, .int .i64 0, .bool false]
theorem opRes_none {i : Int} (h : i < 0 ∨ 24 ≤ i) : opRes i = .tuple #[.string ⟨#[]⟩, .int .i64 0, .bool false] := by
  have : CS.opOf i = none := by
    unfold CS.opOf
    by_cases h0 : 0 ≤ i
    · rw [if_pos h0]
      exact List.getElem?_eq_none (by show 24 ≤ i.toNat; omega)
    · rw [if_neg h0]
  unfold opRes
  rw [this]
theorem opRes_some {k : Nat} (h : k < 24) {x : CS.Bs × Int} (hx : x = CS.ops.getD k ([], 0)) : opRes (k : Int) = .tuple #[.string ⟨x.1.toArray⟩, .int .i64 x.2, .bool true] := by
  have : CS.opOf (k : Int) = some x := by
    unfold CS.opOf
    rw [if_pos (Int.natCast_nonneg k), Int.toNat_natCast, hx, List.getD_eq_getElem?_getD]
    rw [List.getElem?_eq_getElem (show k < CS.ops.length from h)]
    rfl
  unfold opRes
  rw [this]

def opsCells : Array Value := (CS.ops.flatMap fun x => [.string ⟨x.1.toArray⟩, .int .i64 x.2]).toArray

theorem opsCells_word : ∀ k : Nat, k < 24 → opsCells[k * 2]? = some (.string ⟨(CS.ops.getD k ([], 0)).1.toArray⟩) := by
  intro k hk
  have hd : k = 0 ∨ k = 1 ∨ k = 2 ∨ k = 3 ∨ k = 4 ∨ k = 5 ∨ k = 6 ∨ k = 7 ∨ k = 8 ∨ k = 9 ∨ k = 10 ∨ k = 11 ∨ k = 12 ∨ k = 13 ∨ k = 14 ∨ k = 15 ∨ k = 16 ∨ k = 17 ∨ k = 18 ∨ k = 19 ∨ k = 20 ∨ k = 21 ∨ k = 22 ∨ k = 23 := by omega
  rcases hd with rfl | rfl | rfl | rfl | rfl | rfl | rfl | rfl | rfl | rfl | rfl | rfl | rfl | rfl | rfl | rfl | rfl | rfl | rfl | rfl | rfl | rfl | rfl | rfl <;> rfl
theorem opsCells_kind : ∀ k : Nat, k < 24 → opsCells[k * 2 + 1]? = some (.int .i64 (CS.ops.getD k ([], 0)).2) := by
  intro k hk
  have hd : k = 0 ∨ k = 1 ∨ k = 2 ∨ k = 3 ∨ k = 4 ∨ k = 5 ∨ k = 6 ∨ k = 7 ∨ k = 8 ∨ k = 9 ∨ k = 10 ∨ k = 11 ∨ k = 12 ∨ k = 13 ∨ k = 14 ∨ k = 15 ∨ k = 16 ∨ k = 17 ∨ k = 18 ∨ k = 19 ∨ k = 20 ∨ k = 21 ∨ k = 22 ∨ k = 23 := by omega
  rcases hd with rfl | rfl | rfl | rfl | rfl | rfl | rfl | rfl | rfl | rfl | rfl | rfl | rfl | rfl | rfl | rfl | rfl | rfl | rfl | rfl | rfl | rfl | rfl | rfl <;> rfl
set_option maxRecDepth 100000 in
set_option maxHeartbeats 400000 in
theorem operation_any (i : Int) (w : World) :
    Calls Tryz.prog 15 #[.int .i64 i] w fun e w' => e = .returned (opRes i) ∧ Below w.heap.size w w' := by
  go_enter Tryz.func15, Tryz.ntmps15
  go_upto_region 1 with (fail)
  go_cut [5] from 6 to 30 (fun v wc => ∃ g, v = .pointer (some ⟨g, 0, none⟩) ∧ wc.heap[g]? = some (.cells opsCells 86 (0, 0)) ∧ Below w.heap.size w wc)
  case first =>
    go_wp2_with (first | (refine gate_ (.alloc 86) rfl ?_; refine ev_alloc 86 rfl rfl (by go_simp; rfl) ?_; intro g hg w1 hbl hbel; subst hg) | (refine gate_ (.store 86 (.tmp 5) (.tmp 30)) rfl ?_; refine ev_store 86 (.tmp 5) (.tmp 30) rfl rfl rfl rfl hbl rfl (by kernel_rfl) rfl rfl ?_; intro w2 hb2 hk2))
    go_meet
    case rel => exact ⟨_, rfl, hb2, (Keep.of_below hbel (· = w.heap.size)).trans hk2 (fun _ _ h => h) |>.below0 (fun i h => by omega)⟩
  case rest =>
    obtain ⟨g, rfl, hb, hbel⟩ := hcut
    by_cases h0 : i < 0
    · have t0 : decide (i < 0) = true := decide_eq_true h0
      have HB := Aside0.mk hbel
      have HN := Aside0.mk (opRes_none (.inl h0))
      clear hb hbel h0
      go_wp2
      refine bodyPost_ret (results_tmp3 rfl _ _ _) rfl ⟨?_, HB.out⟩
      rw [HN.out]
      rfl
    · have t0 : decide (i < 0) = false := decide_eq_false h0
      by_cases h1 : 24 ≤ i
      · have t1 : decide (24 ≤ i) = true := decide_eq_true h1
        have HB := Aside0.mk hbel
        have HN := Aside0.mk (opRes_none (.inr h1))
        clear hb hbel h1
        go_wp2
        refine bodyPost_ret (results_tmp3 rfl _ _ _) rfl ⟨?_, HB.out⟩
        rw [HN.out]
        rfl
      obtain ⟨k, rfl⟩ := Int.eq_ofNat_of_zero_le (by omega : 0 ≤ i)
      have hk : k < 24 := by omega
      have c0 : wc.cell? ⟨g, k * 2, none⟩ = some (.string ⟨(CS.ops.getD k ([], 0)).1.toArray⟩) := (blk_cell hb _).trans (opsCells_word k hk)
      have c1 : wc.cell? ⟨g, k * 2 + 1, none⟩ = some (.int .i64 (CS.ops.getD k ([], 0)).2) := (blk_cell hb _).trans (opsCells_kind k hk)
      have t1 : decide ((24 : Int) ≤ k) = false := decide_eq_false h1
      obtain ⟨x, hx⟩ : ∃ x, x = CS.ops.getD k ([], 0) := ⟨_, rfl⟩
      rw [← hx] at c0 c1
      have HX := Aside0.mk (opRes_some hk hx)
      clear hx
      have HB := Aside0.mk hbel
      clear hb hbel
      go_wp2
      go_quiet (fail)
      go_wp2
      refine bodyPost_ret (results_tmp3 rfl _ _ _) rfl ⟨?_, pw_below_drewN HB.out _⟩
      rw [HX.out]
      rfl

end Go.Proofs.YtpapbigghiiolaaGreatDoor
