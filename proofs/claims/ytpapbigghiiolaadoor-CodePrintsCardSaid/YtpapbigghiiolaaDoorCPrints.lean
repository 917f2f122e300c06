/-
  CodePrints answers true.
-/
import Derived.Test.YtpapbigghiiolaaDoorCLaw
import Derived.Test.YtpapbigghiiolaaDoorCRefPrint
set_option linter.unusedVariables false
namespace Go.Proofs.YtpapbigghiiolaaDoor
open Go.RowKit Go.Proofs.YtpapbigghiiolaaDoorW.PrintWords PAll

section
variable {w7 W : World} {g g6 : Nat} {u0 u1 u2 u3 : Value} {A0 A1 B0 B1 : Option Addr} {c0 c1 d0 d1 : Nat} {p q : CS.Prg}
abbrev Sml (p : CS.Prg) : Prop := p.names.length ≤ 1000000000 ∧ p.code.length ≤ 1000000000
theorem Theirs_heldP {E0 E1 : Option Addr} {f0 f1 : Nat} {r : CS.Prg} (hr : r = p) (e0 : E0 = A0) (e1 : E1 = A1) (e2 : f0 = c0) (e3 : f1 = c1) (h : Held w7 g g6 u0 u1 u2 u3 A0 A1 B0 B1 c0 c1 d0 d1 p q W) (h0 : Sml p) :
    Calls Tryd.prog 15 #[.agg #[.slice E0 r.names.length f0, .slice E1 r.code.length f1]] W fun e w' => ∃ A0' c0' A1' c1', e = .returned (.agg #[.slice A0' p.names.length c0', .slice A1' p.code.length c1']) ∧ IsP w' A0' c0' A1' c1' p ∧ Below W.heap.size W w' ∧ Held w7 g g6 u0 u1 u2 u3 A0 A1 B0 B1 c0 c1 d0 d1 p q w' := by
  subst hr e0 e1 e2 e3
  refine (Theirs_any E0 E1 f0 f1 r W h.2.2.2.2.1.out h0.1 h0.2).mono ?_
  rintro e w' ⟨A0', c0', A1', c1', rfl, hP, hb⟩
  exact ⟨A0', c0', A1', c1', rfl, hP, hb, Held.below h hb⟩
theorem Theirs_heldQ {E0 E1 : Option Addr} {f0 f1 : Nat} {r : CS.Prg} (hr : r = q) (e0 : E0 = B0) (e1 : E1 = B1) (e2 : f0 = d0) (e3 : f1 = d1) (h : Held w7 g g6 u0 u1 u2 u3 A0 A1 B0 B1 c0 c1 d0 d1 p q W) (h0 : Sml q) :
    Calls Tryd.prog 15 #[.agg #[.slice E0 r.names.length f0, .slice E1 r.code.length f1]] W fun e w' => ∃ A0' c0' A1' c1', e = .returned (.agg #[.slice A0' q.names.length c0', .slice A1' q.code.length c1']) ∧ IsP w' A0' c0' A1' c1' q ∧ Below W.heap.size W w' ∧ Held w7 g g6 u0 u1 u2 u3 A0 A1 B0 B1 c0 c1 d0 d1 p q w' := by
  subst hr e0 e1 e2 e3
  refine (Theirs_any E0 E1 f0 f1 r W h.2.2.2.2.2.1.out h0.1 h0.2).mono ?_
  rintro e w' ⟨A0', c0', A1', c1', rfl, hP, hb⟩
  exact ⟨A0', c0', A1', c1', rfl, hP, hb, Held.below h hb⟩
theorem Formed_held {A0' A1' : Option Addr} {c0' c1' : Nat} (hP : IsP W A0' c0' A1' c1' p) (h : Held w7 g g6 u0 u1 u2 u3 A0 A1 B0 B1 c0 c1 d0 d1 p q W) (h0 : Sml p) {bb : Bool} (hbb : CS.formed p = bb) :
    Calls Tryd.prog 17 #[.agg #[.slice A0' p.names.length c0', .slice A1' p.code.length c1']] W fun e w' => e = .returned (.bool bb) ∧ Held w7 g g6 u0 u1 u2 u3 A0 A1 B0 B1 c0 c1 d0 d1 p q w' := by
  refine (Formed_any A0' A1' c0' c1' p W hP (by have := h0.1; omega) (by have := h0.2; omega)).mono ?_
  rintro e w' ⟨rfl, hb⟩
  exact ⟨by rw [hbb], Held.below h hb⟩
theorem RefFormed_held (h : Held w7 g g6 u0 u1 u2 u3 A0 A1 B0 B1 c0 c1 d0 d1 p q W) (h0 : Sml p) {bb : Bool} (hbb : CS.formed p = bb) :
    Calls Tryd.prog 18 #[.agg #[.slice A0 p.names.length c0, .slice A1 p.code.length c1]] W fun e w' => e = .returned (.bool bb) ∧ Held w7 g g6 u0 u1 u2 u3 A0 A1 B0 B1 c0 c1 d0 d1 p q w' := by
  refine (RefFormed_any A0 A1 c0 c1 p W h.2.2.2.2.1.out h0.1 h0.2).mono ?_
  rintro e w' ⟨rfl, hb⟩
  exact ⟨by rw [hbb], Held.below h hb⟩
theorem CSame_held {A0' A1' B0' B1' : Option Addr} {c0' c1' d0' d1' : Nat} (hP : IsP W A0' c0' A1' c1' p) (hQ : IsP W B0' d0' B1' d1' q) (h : Held w7 g g6 u0 u1 u2 u3 A0 A1 B0 B1 c0 c1 d0 d1 p q W) (h0 : Sml p) {bb : Bool} (hbb : decide (p = q) = bb) :
    Calls Tryd.prog 19 #[.agg #[.slice A0' p.names.length c0', .slice A1' p.code.length c1'], .agg #[.slice B0' q.names.length d0', .slice B1' q.code.length d1']] W fun e w' => e = .returned (.bool bb) ∧ Held w7 g g6 u0 u1 u2 u3 A0 A1 B0 B1 c0 c1 d0 d1 p q w' := by
  refine (CSame_any A0' A1' B0' B1' c0' c1' d0' d1' p q W hP hQ h0.1 h0.2).mono ?_
  rintro e w' ⟨rfl, hb⟩
  exact ⟨by rw [hbb], Held.below h hb⟩
end

set_option maxRecDepth 100000 in
set_option maxHeartbeats 4000000 in
theorem CodePrints_any (A0 A1 : Option Addr) (c0 c1 : Nat) (p : CS.Prg) (B0 B1 : Option Addr) (d0 d1 : Nat) (q : CS.Prg) (w : World) (hp : IsP w A0 c0 A1 c1 p) (hwf : Wf p) (hq : IsP w B0 d0 B1 d1 q) (hwq : Wf q) (hw : Laid w) :
    Calls Tryd.prog 5 #[pv A0 c0 A1 c1 p, pv B0 d0 B1 d1 q] w fun e w' => e = .returned (.bool true) ∧ Below w.heap.size w w' := by
  have HP := Aside0.mk hp
  have HQ := Aside0.mk hq
  have HWF := Aside0.mk hwf
  have HL := Aside0.mk hw
  clear hp hq hwf hwq hw
  unfold pv
  go_enter Tryd.func5, Tryd.ntmps5
  go_upto_region 1 with (first | (refine gate_ (.box 32 (.tmp 0)) rfl ?_; refine ev_box 32 (.tmp 0) rfl rfl (by go_simp; rfl) ?_; intro g hg w0 hb hbel; have HBX := Aside0.mk hb; have HW0 := Aside0.mk hbel; clear hb hbel hg) | (refine gate_ (.box 32 (.tmp 1)) rfl ?_; refine ev_box 32 (.tmp 1) rfl rfl (by go_simp; rfl) ?_; intro g6 hg w1 hb hbel; have HBY := Aside0.mk hb; have HW1' := Aside0.mk hbel; clear hb hbel hg))
  have HW1 := Aside0.mk (below_then HW0.out HW0.out.size HW1'.out)
  have HBX1 := Aside0.mk (below_blk HW1'.out HBX.out)
  clear HBX HW0 HW1'
  go_wp2_with fail
  refine (awake_any _ (HL.out.below HW1.out)).mono ?_
  rintro e w2 ⟨rfl, hb2⟩
  have HW2 := Aside0.mk (below_then HW1.out HW1.out.size hb2)
  have HX2 := Aside0.mk (below_blk hb2 HBX1.out)
  have HY2 := Aside0.mk (below_blk hb2 HBY.out)
  clear hb2 HBX1 HBY
  have x0 : w2.cell? ⟨g, 0, none⟩ = some (.slice A0 p.names.length c0) := (blk_cell HX2.out 0).trans rfl
  have x1 : w2.cell? ⟨g, 1, none⟩ = some (.slice A1 p.code.length c1) := (blk_cell HX2.out 1).trans rfl
  go_wp2_with fail
  refine (Few_any A0 A1 c0 c1 p _ (HP.out.below HW2.out)).mono ?_
  rintro e w3 ⟨rfl, hb3⟩
  have HW3 := Aside0.mk (below_then HW2.out HW2.out.size hb3)
  have HX3 := Aside0.mk (below_blk hb3 HX2.out)
  have HY3 := Aside0.mk (below_blk hb3 HY2.out)
  clear hb3 x0 x1 HX2 HY2
  cases hfew : few p with
  | false =>
    clear hfew
    go_wp2_with fail
    refine (awake_any _ (HL.out.below HW3.out)).mono ?_
    rintro e w4 ⟨rfl, hb4⟩
    have HW4 := Aside0.mk hb4
    clear hb4
    go_wp2
    go_ret
    exact ⟨rfl, below_then HW3.out HW3.out.size HW4.out⟩
  | true =>
    have hfew2 := hfew
    unfold few at hfew2
    simp only [Bool.and_eq_true, decide_eq_true_eq] at hfew2
    have hSp : Sml p := ⟨by have := hfew2.1.1; omega, by have := hfew2.2; omega⟩
    have HSP := Aside0.mk hSp
    clear hfew hfew2 hSp
    have x2 : w3.cell? ⟨g6, 0, none⟩ = some (.slice B0 q.names.length d0) := (blk_cell HY3.out 0).trans rfl
    have x3 : w3.cell? ⟨g6, 1, none⟩ = some (.slice B1 q.code.length d1) := (blk_cell HY3.out 1).trans rfl
    go_wp2_with fail
    refine (Few_any B0 B1 d0 d1 q _ (HQ.out.below HW3.out)).mono ?_
    rintro e w4 ⟨rfl, hb4⟩
    have HW4 := Aside0.mk (below_then HW3.out HW3.out.size hb4)
    have HX4 := Aside0.mk (below_blk hb4 HX3.out)
    have HY4 := Aside0.mk (below_blk hb4 HY3.out)
    clear hb4 x2 x3 HX3 HY3
    cases hfew : few q with
    | false =>
      clear hfew
      go_wp2_with fail
      refine (awake_any _ (HL.out.below HW4.out)).mono ?_
      rintro e w5 ⟨rfl, hb5⟩
      have HW5 := Aside0.mk hb5
      clear hb5
      go_wp2
      go_ret
      exact ⟨rfl, below_then HW4.out HW4.out.size HW5.out⟩
    | true =>
      have hfew2 := hfew
      unfold few at hfew2
      simp only [Bool.and_eq_true, decide_eq_true_eq] at hfew2
      have hSq : Sml q := ⟨by have := hfew2.1.1; omega, by have := hfew2.2; omega⟩
      have HSQ := Aside0.mk hSq
      clear hfew hfew2 hSq
      have x0 : w4.cell? ⟨g, 0, none⟩ = some (.slice A0 p.names.length c0) := (blk_cell HX4.out 0).trans rfl
      have x1 : w4.cell? ⟨g, 1, none⟩ = some (.slice A1 p.code.length c1) := (blk_cell HX4.out 1).trans rfl
      go_wp2_with fail
      refine (Theirs_any A0 A1 c0 c1 p _ (HP.out.below HW4.out) HSP.out.1 HSP.out.2).mono ?_
      rintro e w5 ⟨E0, f0, E1, f1, rfl, hP5, hb5⟩
      have HP5 := Aside0.mk hP5
      have HW5 := Aside0.mk (below_then HW4.out HW4.out.size hb5)
      have HX5 := Aside0.mk (below_blk hb5 HX4.out)
      have HY5 := Aside0.mk (below_blk hb5 HY4.out)
      clear hP5 hb5 x0 x1 HX4 HY4
      go_wp2_with fail
      refine (Print_any E0 E1 f0 f1 p _ HP5.out (by have := HSP.out.1; omega) (by have := HSP.out.2; omega) HWF.out (HL.out.below HW5.out)).mono ?_
      rintro e w6 ⟨rfl, hb6⟩
      have HW6 := Aside0.mk (below_then HW5.out HW5.out.size hb6)
      have HX6 := Aside0.mk (below_blk hb6 HX5.out)
      have HY6 := Aside0.mk (below_blk hb6 HY5.out)
      clear hb6 HX5 HY5 HP5
      obtain ⟨s, hs⟩ : ∃ s, s = (CS.print p).1 := ⟨_, rfl⟩
      obtain ⟨pe, hpe⟩ : ∃ pe, pe = (CS.print p).2 := ⟨_, rfl⟩
      rw [← hs, ← hpe]
      have x0 : w6.cell? ⟨g, 0, none⟩ = some (.slice A0 p.names.length c0) := (blk_cell HX6.out 0).trans rfl
      have x1 : w6.cell? ⟨g, 1, none⟩ = some (.slice A1 p.code.length c1) := (blk_cell HX6.out 1).trans rfl
      have HS := Aside0.mk hs
      have HPE := Aside0.mk hpe
      clear hs hpe
      go_wp2_with fail
      refine (RefPrint_any A0 A1 c0 c1 p _ (HP.out.below HW6.out) HSP.out.1 HSP.out.2 HWF.out (HL.out.below HW6.out)).mono ?_
      rintro e w7 ⟨rfl, hb7⟩
      rw [← HS.out, ← HPE.out]
      have HW7 := Aside0.mk (below_then HW6.out HW6.out.size hb7)
      have HX7 := Aside0.mk (below_blk hb7 HX6.out)
      have HY7 := Aside0.mk (below_blk hb7 HY6.out)
      clear hb7 HX6 HY6 x0 x1
      have HPA := Aside0.mk (HP.out.below HW7.out)
      have HPB := Aside0.mk (HQ.out.below HW7.out)
      clear HW1 HW2 HW3 HW4 HW5 HW6 HP HQ HL HWF HS HPE
      obtain ⟨bf, hbf⟩ : ∃ bf, CS.formed p = bf := ⟨_, rfl⟩
      obtain ⟨bs, hbs⟩ : ∃ bs, decide (p = q) = bs := ⟨_, rfl⟩
      have HBF := Aside0.mk hbf
      have HBS := Aside0.mk hbs
      clear hbf hbs
      have x0 : w7.cell? ⟨g, 0, none⟩ = some (.slice A0 p.names.length c0) := (blk_cell HX7.out 0).trans rfl
      have x1 : w7.cell? ⟨g, 1, none⟩ = some (.slice A1 p.code.length c1) := (blk_cell HX7.out 1).trans rfl
      have x2 : w7.cell? ⟨g6, 0, none⟩ = some (.slice B0 q.names.length d0) := (blk_cell HY7.out 0).trans rfl
      have x3 : w7.cell? ⟨g6, 1, none⟩ = some (.slice B1 q.code.length d1) := (blk_cell HY7.out 1).trans rfl
      go_upto_region 5 with (fail)
      go_region_held3 (fun w' => w'.cell? ⟨g, 0, none⟩ = some (.slice A0 p.names.length c0) ∧ w'.cell? ⟨g, 1, none⟩ = some (.slice A1 p.code.length c1) ∧ w'.cell? ⟨g6, 0, none⟩ = some (.slice B0 q.names.length d0) ∧ w'.cell? ⟨g6, 1, none⟩ = some (.slice B1 q.code.length d1) ∧ Aside0 (IsP w' A0 c0 A1 c1 p) ∧ Aside0 (IsP w' B0 d0 B1 d1 q) ∧ Aside0 (Below w7.heap.size w7 w')) (first | assumption | exact ⟨x0, x1, x2, x3, ⟨HPA.out.below (below_drew (Below.refl _ _))⟩, ⟨HPB.out.below (below_drew (Below.refl _ _))⟩, ⟨below_drew (Below.refl _ _)⟩⟩) (first | (go_at_call 15; refine (Theirs_heldP (w7 := w7) (g := g) (g6 := g6) (p := p) (q := q) (by rfl) (by rfl) (by rfl) (by rfl) (by rfl) (by assumption) HSP.out).mono ?_; rintro e w8 ⟨C0, e0, C1, e1, rfl, hC, hb, hS⟩; have HCP := Aside0.mk hC; clear hC hb) | (go_at_call 15; refine (Theirs_heldQ (w7 := w7) (g := g) (g6 := g6) (p := p) (q := q) (by rfl) (by rfl) (by rfl) (by rfl) (by rfl) (by assumption) HSQ.out).mono ?_; rintro e w9 ⟨D0, h0, D1, h1, rfl, hD, hb, hS⟩; have HCQ := Aside0.mk hD; have HBQ := Aside0.mk hb; clear hD hb) | (go_at_call 17; refine (Formed_held (w7 := w7) (g := g) (g6 := g6) (p := p) (q := q) HCP.out (by assumption) HSP.out HBF.out).mono ?_; rintro e w8 ⟨rfl, hS⟩) | (go_at_call 18; refine (RefFormed_held (w7 := w7) (g := g) (g6 := g6) (p := p) (q := q) (by assumption) HSP.out HBF.out).mono ?_; rintro e w8 ⟨rfl, hS⟩) | (go_at_call 19; refine (CSame_held (w7 := w7) (g := g) (g6 := g6) (p := p) (q := q) (HCP.out.below HBQ.out) HCQ.out (by assumption) HSP.out HBS.out).mono ?_; rintro e w8 ⟨rfl, hS⟩) | (go_at_call 11; refine (Same_held (w7 := w7) (g := g) (g6 := g6) (p := p) (q := q) (Aside0.out (And.left (And.right (And.right (And.right (And.right (by assumption))))))) (by assumption) HSP.out HBS.out).mono ?_; rintro e w8 ⟨rfl, hS⟩; have HB9 := Aside0.mk hS.2.2.2.2.2.2.out))
      all_goals go_wp2
      all_goals go_ret
      all_goals exact ⟨rfl, below_then HW7.out HW7.out.size HB9.out⟩
end Go.Proofs.YtpapbigghiiolaaDoor
