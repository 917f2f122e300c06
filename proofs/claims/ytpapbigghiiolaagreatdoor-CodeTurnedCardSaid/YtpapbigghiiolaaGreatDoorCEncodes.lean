/-
  CodeEncodes answers true.
-/
import Derived.Test.YtpapbigghiiolaaGreatDoorCLaw
import Derived.Test.YtpapbigghiiolaaGreatDoorCRefEnDe
set_option linter.unusedVariables false
namespace Go.Proofs.YtpapbigghiiolaaGreatDoor
open Go.RowKit Go.Proofs.YtpapbigghiiolaaGreatDoorW.PrintWords PAll

abbrev HeldE (w7 : World) (v5 v7 : Value) (l5 l7 : CS.Bs) (g g6 : Nat) (u0 u1 u2 u3 : Value) (A0 A1 B0 B1 : Option Addr) (c0 c1 d0 d1 : Nat) (p q : CS.Prg) (w' : World) : Prop :=
  (convert 35 9 v5).run Tryz.prog w' = .ok (.string (sb l5)) w' ∧ (convert 35 9 v7).run Tryz.prog w' = .ok (.string (sb l7)) w' ∧ Held w7 g g6 u0 u1 u2 u3 A0 A1 B0 B1 c0 c1 d0 d1 p q w'
section
variable {w7 W : World} {v5 v7 : Value} {l5 l7 : CS.Bs} {g g6 b5 b7 n5 n7 : Nat} {u0 u1 u2 u3 : Value} {A0 A1 B0 B1 : Option Addr} {c0 c1 d0 d1 : Nat} {p q : CS.Prg}
theorem Ours_heldE (r5 : w7.ownsRow b5 5 1 v5 n5 (Lib.byteCells l5)) (r7 : w7.ownsRow b7 5 1 v7 n7 (Lib.byteCells l7)) (h : HeldE w7 v5 v7 l5 l7 g g6 u0 u1 u2 u3 A0 A1 B0 B1 c0 c1 d0 d1 p q W) (h0 : p.names.length ≤ 1000000000 ∧ p.code.length ≤ 1000000000) :
    Calls Tryz.prog 25 #[.agg #[.slice A0 p.names.length c0, .slice A1 p.code.length c1]] W fun e w' => ∃ A0' c0' A1' c1', e = .returned (.agg #[.slice A0' p.names.length c0', .slice A1' p.code.length c1']) ∧ IsP w' A0' c0' A1' c1' p ∧ HeldE w7 v5 v7 l5 l7 g g6 u0 u1 u2 u3 A0 A1 B0 B1 c0 c1 d0 d1 p q w' := by
  refine (Ours_held h.2.2 h0).mono ?_
  rintro e w' ⟨A0', c0', A1', c1', rfl, hP, hS⟩
  have hb := hS.2.2.2.2.2.2.out
  exact ⟨A0', c0', A1', c1', rfl, hP, own_sb (pw_own_below r5 hb), own_sb (pw_own_below r7 hb), hS⟩
theorem Same_heldE {A0' A1' : Option Addr} {c0' c1' : Nat} (r5 : w7.ownsRow b5 5 1 v5 n5 (Lib.byteCells l5)) (r7 : w7.ownsRow b7 5 1 v7 n7 (Lib.byteCells l7)) (hP : IsP W A0' c0' A1' c1' p) (h : HeldE w7 v5 v7 l5 l7 g g6 u0 u1 u2 u3 A0 A1 B0 B1 c0 c1 d0 d1 p q W) (h0 : p.names.length ≤ 1000000000 ∧ p.code.length ≤ 1000000000) {bb : Bool} (hbb : decide (p = q) = bb) :
    Calls Tryz.prog 24 #[.agg #[.slice A0' p.names.length c0', .slice A1' p.code.length c1'], .agg #[.slice B0 q.names.length d0, .slice B1 q.code.length d1]] W fun e w' => e = .returned (.bool bb) ∧ HeldE w7 v5 v7 l5 l7 g g6 u0 u1 u2 u3 A0 A1 B0 B1 c0 c1 d0 d1 p q w' := by
  refine (Same_held hP h.2.2 h0 hbb).mono ?_
  rintro e w' ⟨rfl, hS⟩
  have hb := hS.2.2.2.2.2.2.out
  exact ⟨rfl, own_sb (pw_own_below r5 hb), own_sb (pw_own_below r7 hb), hS⟩
end
theorem decode_small (l : CS.Bs) : (CS.decode l).1.names.length ≤ 8 ∧ (CS.decode l).1.code.length ≤ 200 := by
  have h3 : ∀ p r, (CS.dec3 p r).1.names.length ≤ 8 ∧ (CS.dec3 p r).1.code.length ≤ 200 := by
    intro p r
    unfold CS.dec3
    split
    · rename_i h
      have hf := h.2
      unfold CS.formed at hf
      simp only [Bool.and_eq_true, decide_eq_true_eq] at hf
      exact ⟨hf.1.1.1, hf.1.1.2⟩
    · exact ⟨by decide, by decide⟩
  rw [CS.decode_eq]
  split
  · exact ⟨by decide, by decide⟩
  · unfold CS.dec2
    simp only
    split
    · exact ⟨by decide, by decide⟩
    · exact h3 _ _

set_option maxRecDepth 100000 in
set_option maxHeartbeats 4000000 in
theorem CodeEncodes_any (A0 A1 : Option Addr) (c0 c1 : Nat) (p : CS.Prg) (Ab : Option Addr) (cb : Nat) (l : CS.Bs) (w : World) (hp : IsP w A0 c0 A1 c1 p) (hwf : Wf p) (hbs : IsB w Ab cb l) (hw : Laid w) :
    Calls Tryz.prog 10 #[pv A0 c0 A1 c1 p, .slice Ab l.length cb] w fun e w' => e = .returned (.bool true) ∧ Below w.heap.size w w' := by
  have HP := Aside0.mk hp
  have HBS := Aside0.mk hbs
  have HWF := Aside0.mk hwf
  have HL := Aside0.mk hw
  clear hp hwf hbs hw
  unfold pv
  go_enter Tryz.func10, Tryz.ntmps10
  go_upto_region 1 with (refine gate_ (.box 25 (.tmp 0)) rfl ?_; refine ev_box 25 (.tmp 0) rfl rfl (by go_simp; rfl) ?_; intro g hg w1 hb hbel; have HBX := Aside0.mk hb; have HW1 := Aside0.mk hbel; clear hb hbel hg)
  go_wp2_with fail
  refine (awake_any _ (HL.out.below HW1.out)).mono ?_
  rintro e w2 ⟨rfl, hb2⟩
  have HW2 := Aside0.mk (below_then HW1.out HW1.out.size hb2)
  have HX2 := Aside0.mk (below_blk hb2 HBX.out)
  clear hb2 HBX
  have x0 : w2.cell? ⟨g, 0, none⟩ = some (.slice A0 p.names.length c0) := (blk_cell HX2.out 0).trans rfl
  have x1 : w2.cell? ⟨g, 1, none⟩ = some (.slice A1 p.code.length c1) := (blk_cell HX2.out 1).trans rfl
  go_wp2_with fail
  refine (Few_any A0 A1 c0 c1 p _ (HP.out.below HW2.out)).mono ?_
  rintro e w3 ⟨rfl, hb3⟩
  have HW3 := Aside0.mk (below_then HW2.out HW2.out.size hb3)
  have HX3 := Aside0.mk (below_blk hb3 HX2.out)
  clear hb3 x0 x1 HX2
  cases hfew : few p with
  | false =>
    clear hfew
    go_wp2_with fail
    refine (awake_any _ (HL.out.below HW3.out)).mono ?_
    rintro e w4 ⟨rfl, hb4⟩
    have HW4 := Aside0.mk hb4
    clear hb4
    go_wp2
    go_ret
    exact ⟨rfl, below_then HW3.out HW3.out.size HW4.out⟩
  | true =>
    have hfew2 := hfew
    unfold few at hfew2
    simp only [Bool.and_eq_true, decide_eq_true_eq] at hfew2
    have HSP : Aside0 (p.names.length ≤ 1000000000 ∧ p.code.length ≤ 1000000000) := ⟨by have := hfew2.1.1; omega, by have := hfew2.2; omega⟩
    clear hfew hfew2
    have x0 : w3.cell? ⟨g, 0, none⟩ = some (.slice A0 p.names.length c0) := (blk_cell HX3.out 0).trans rfl
    have x1 : w3.cell? ⟨g, 1, none⟩ = some (.slice A1 p.code.length c1) := (blk_cell HX3.out 1).trans rfl
    go_wp2_with fail
    refine (Theirs_any A0 A1 c0 c1 p _ (HP.out.below HW3.out) HSP.out.1 HSP.out.2).mono ?_
    rintro e w5 ⟨E0, f0, E1, f1, rfl, hP5, hb5⟩
    have HP5 := Aside0.mk hP5
    have HW5 := Aside0.mk (below_then HW3.out HW3.out.size hb5)
    have HX5 := Aside0.mk (below_blk hb5 HX3.out)
    clear hP5 hb5 x0 x1 HX3
    go_wp2_with fail
    refine (Encode_any E0 E1 f0 f1 p _ HP5.out (by have := HSP.out.1; omega) (by have := HSP.out.2; omega) HWF.out).mono ?_
    rintro e w6 ⟨v5, rfl, ho6, hb6⟩
    have HW6 := Aside0.mk (below_then HW5.out HW5.out.size hb6)
    have HX6 := Aside0.mk (below_blk hb6 HX5.out)
    obtain ⟨l5, hl5⟩ : ∃ l5, l5 = (CS.encode p).1 := ⟨_, rfl⟩
    obtain ⟨pe, hpe⟩ : ∃ pe, pe = (CS.encode p).2 := ⟨_, rfl⟩
    rw [← hl5] at ho6
    rw [← hpe]
    have HO6 := Aside0.mk ho6
    have HS := Aside0.mk hl5
    have HPE := Aside0.mk hpe
    clear hb6 ho6 HX5 HP5 hl5 hpe
    have x0 : w6.cell? ⟨g, 0, none⟩ = some (.slice A0 p.names.length c0) := (blk_cell HX6.out 0).trans rfl
    have x1 : w6.cell? ⟨g, 1, none⟩ = some (.slice A1 p.code.length c1) := (blk_cell HX6.out 1).trans rfl
    go_wp2_with fail
    refine (RefEncode_any A0 A1 c0 c1 p _ (HP.out.below HW6.out) HSP.out.1 HSP.out.2 HWF.out).mono ?_
    rintro e w7 ⟨v7, rfl, ho7, hb7⟩
    rw [← HPE.out]
    rw [← HS.out] at ho7
    have HW7 := Aside0.mk (below_then HW6.out HW6.out.size hb7)
    have HO7 := Aside0.mk ho7
    have HO67 := Aside0.mk (pw_own_below HO6.out hb7)
    clear hb7 ho7 HX6 HO6 x0 x1
    have hsm := decode_small l
    go_wp2_with fail
    refine (Decode_any Ab cb l _ (HBS.out.below HW7.out)).mono ?_
    rintro e w8 ⟨G0, e0, G1, e1, rfl, hP8, hb8⟩
    obtain ⟨q, hq⟩ : ∃ q, q = (CS.decode l).1 := ⟨_, rfl⟩
    obtain ⟨qe, hqe⟩ : ∃ qe, qe = (CS.decode l).2 := ⟨_, rfl⟩
    rw [← hq] at hsm hP8 ⊢
    rw [← hqe]
    have HSM : Aside0 (q.names.length ≤ 1000000000 ∧ q.code.length ≤ 1000000000) := ⟨by have := hsm.1; omega, by have := hsm.2; omega⟩
    have HP8 := Aside0.mk hP8
    have HW8 := Aside0.mk (below_then HW7.out HW7.out.size hb8)
    have HO58 := Aside0.mk (pw_own_below HO67.out hb8)
    have HO78 := Aside0.mk (pw_own_below HO7.out hb8)
    have HQ := Aside0.mk hq
    have HQE := Aside0.mk hqe
    clear hsm hP8 hb8 hq hqe HO67 HO7
    simp only [pv]
    go_wp2_with (first | (refine gate_ (.alloc 33) rfl ?_; refine ev_alloc 33 rfl rfl (by go_simp; rfl) ?_; intro ga hg w9 hb hbel; have HG9 := Aside0.mk hb; have HW9 := Aside0.mk hbel; have HGA := Aside0.mk hg; clear hb hbel hg) | (refine gate_ (.store 33 (.tmp 9) (.tmp 35)) rfl ?_; refine ev_store 33 (.tmp 9) (.tmp 35) rfl rfl rfl rfl HG9.out rfl (by kernel_rfl) rfl rfl ?_; intro w10 hb10 hk10; have HG10 : Aside0 (w10.heap[ga]? = some (.cells #[.slice G0 q.names.length e0, .slice G1 q.code.length e1] 33 (0, 0))) := ⟨hb10⟩; have HL10 := Aside0.mk (below_keep HW9.out hk10 (fun i h => by rw [h, HGA.out]; exact Nat.le_refl _)); clear hb10 hk10))
    have HW10 := Aside0.mk (below_then HW8.out HW8.out.size HL10.out)
    refine (RefDecode_any Ab cb l _ (HBS.out.below HW10.out)).mono ?_
    rintro e w11 ⟨K0, k0, K1, k1, rfl, hP11, hb11⟩
    rw [← HQ.out] at hP11 ⊢
    rw [← HQE.out]
    have HP11 := Aside0.mk hP11
    have HG11 := Aside0.mk (below_blk hb11 HG10.out)
    have HL11 := Aside0.mk (below_then HL10.out HL10.out.size hb11)
    clear hP11 hb11
    simp only [pv]
    go_upto_region 7 with (first | (refine gate_ (.alloc 25) rfl ?_; refine ev_alloc 25 rfl rfl (by go_simp; rfl) ?_; intro g6 hg w12 hb hbel; have HG12 := Aside0.mk hb; have HW12 := Aside0.mk hbel; have HGG := Aside0.mk hg; clear hb hbel hg) | (refine gate_ (.store 25 (.tmp 11) (.tmp 40)) rfl ?_; refine ev_store 25 (.tmp 11) (.tmp 40) rfl rfl rfl rfl HG12.out rfl (by kernel_rfl) rfl rfl ?_; intro w13 hb13 hk13; have HG13 : Aside0 (w13.heap[g6]? = some (.cells #[.slice K0 q.names.length k0, .slice K1 q.code.length k1] 25 (0, 0))) := ⟨hb13⟩; have HL13 := Aside0.mk (below_keep HW12.out hk13 (fun i h => by rw [h, HGG.out]; exact Nat.le_refl _)); clear hb13 hk13))
    have HBB := Aside0.mk (below_then HL11.out HL11.out.size HL13.out)
    have HGa := Aside0.mk (below_blk HL13.out HG11.out)
    have HPA := Aside0.mk (HP8.out.below HBB.out)
    have HPB := Aside0.mk (HP11.out.below HL13.out)
    have HTOT := Aside0.mk (below_then HW8.out HW8.out.size HBB.out)
    have R5 := Aside0.mk (pw_own_below HO58.out HBB.out)
    have R7 := Aside0.mk (pw_own_below HO78.out HBB.out)
    have x0 : w13.cell? ⟨ga, 0, none⟩ = some (.slice G0 q.names.length e0) := (blk_cell HGa.out 0).trans rfl
    have x1 : w13.cell? ⟨ga, 1, none⟩ = some (.slice G1 q.code.length e1) := (blk_cell HGa.out 1).trans rfl
    have x2 : w13.cell? ⟨g6, 0, none⟩ = some (.slice K0 q.names.length k0) := (blk_cell HG13.out 0).trans rfl
    have x3 : w13.cell? ⟨g6, 1, none⟩ = some (.slice K1 q.code.length k1) := (blk_cell HG13.out 1).trans rfl
    have y5 := own_sb R5.out
    have y7 := own_sb R7.out
    clear HW1 HW2 HW3 HW5 HW6 HW7 HW8 HP HBS HWF HL HS HPE HO58 HO78 HQ HQE HG9 HW9 HGA HG10 HL10 HW10 HP8 HP11 HG11 HL11 HG12 HW12 HGG HL13 HBB HSP
    go_region_held3 (fun w' => (convert 35 9 v5).run Tryz.prog w' = .ok (.string (sb l5)) w' ∧ (convert 35 9 v7).run Tryz.prog w' = .ok (.string (sb l5)) w' ∧ w'.cell? ⟨ga, 0, none⟩ = some (.slice G0 q.names.length e0) ∧ w'.cell? ⟨ga, 1, none⟩ = some (.slice G1 q.code.length e1) ∧ w'.cell? ⟨g6, 0, none⟩ = some (.slice K0 q.names.length k0) ∧ w'.cell? ⟨g6, 1, none⟩ = some (.slice K1 q.code.length k1) ∧ Aside0 (IsP w' G0 e0 G1 e1 q) ∧ Aside0 (IsP w' K0 k0 K1 k1 q) ∧ Aside0 (Below w13.heap.size w13 w')) (first | assumption | exact ⟨own_sb R5.out.drew, own_sb R7.out.drew, x0, x1, x2, x3, ⟨HPA.out.below (below_drew (Below.refl _ _))⟩, ⟨HPB.out.below (below_drew (Below.refl _ _))⟩, ⟨below_drew (Below.refl _ _)⟩⟩) (first | (go_at_call 25; refine (Ours_heldE (w7 := w13) (v5 := v5) (v7 := v7) (l5 := l5) (l7 := l5) (g := ga) (g6 := g6) (q := q) R5.out R7.out (by assumption) HSM.out).mono ?_; rintro e w14 ⟨C0, h0, C1, h1, rfl, hC, hS⟩; have HC := Aside0.mk hC; clear hC) | (go_at_call 24; refine (Same_heldE (w7 := w13) (v5 := v5) (v7 := v7) (l5 := l5) (l7 := l5) (g := ga) (g6 := g6) (q := q) R5.out R7.out HC.out (by assumption) HSM.out (decide_eq_true rfl)).mono ?_; rintro e w15 ⟨rfl, hS⟩; have HB15 := Aside0.mk hS.2.2.2.2.2.2.2.2.out))
    all_goals go_wp2
    all_goals go_ret
    all_goals exact ⟨rfl, below_then HTOT.out HTOT.out.size HB15.out⟩
end Go.Proofs.YtpapbigghiiolaaGreatDoor
