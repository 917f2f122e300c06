/-
  The law's awake; CodeParses answers true.
-/
import Derived.Test.YtpapbigghiiolaaGreatDoorCOurs
set_option linter.unusedVariables false
namespace Go.Proofs.YtpapbigghiiolaaGreatDoor
open Go.RowKit Go.Proofs.YtpapbigghiiolaaGreatDoorW.PrintWords PAll

def wakeText : CS.Bs := [110, 97, 109, 101, 32, 54, 50, 10, 108, 111, 97, 100, 32, 48, 10, 112, 117, 115, 104, 32, 49, 10, 97, 100, 100, 10, 115, 116, 111, 114, 101, 32, 48, 10]
def wakeP : CS.Prg := ⟨[[98]], [⟨2, 0⟩, ⟨1, 1⟩, ⟨6, 0⟩, ⟨3, 0⟩]⟩
theorem wake_parse : CS.parse wakeText = (wakeP, 0, 0) := by decide +kernel

set_option maxRecDepth 100000 in
set_option maxHeartbeats 1000000 in
theorem awake_any (w : World) (hw : Laid w) :
    Calls Tryz.prog 4 #[] w fun e w' => e = .returned (.bool true) ∧ Below w.heap.size w w' := by
  go_enter Tryz.func4, Tryz.ntmps4
  go_wp2_with fail
  refine (Parse_any (sb wakeText) _ hw).mono ?_
  rintro e w1 ⟨A0, c0, A1, c1, rfl, hP, hb⟩
  rw [sb_data, wake_parse] at hP ⊢
  obtain ⟨a, rfl, ha⟩ := kStr_at hP.1 0 (by decide)
  obtain ⟨b, rfl, _, hb1⟩ := kIns_at hP.2.2.1 1 (by decide)
  have HA := Aside0.mk ha
  have HB1 := Aside0.mk hb1
  have HBel := Aside0.mk hb
  have hc0 : 1 ≤ c0 := hP.2.1
  have hc1 : 4 ≤ c1 := hP.2.2.2
  clear ha hb1 hb hP
  simp only [pv, wakeP, List.length_cons, List.length_nil, Nat.zero_add, Nat.reduceAdd]
  go_wp2_with (first | (refine gate_ (.alloc 33) rfl ?_; refine ev_alloc 33 rfl rfl (by go_simp; rfl) ?_; intro g hg w2 hb hbel; have HB2 := Aside0.mk hb; have HW2 := Aside0.mk hbel; have HG := Aside0.mk hg; clear hb hbel hg) | (refine gate_ (.store 33 (.tmp 1) (.tmp 6)) rfl ?_; refine ev_store 33 (.tmp 1) (.tmp 6) rfl rfl rfl rfl HB2.out rfl (by kernel_rfl) rfl rfl ?_; intro w3 hb3 hk3; have HB3 := Aside0.mk hb3; have HK3 := Aside0.mk hk3; have x0 : w3.cell? ⟨g, 0, none⟩ = some (.slice (some a) 1 c0) := (blk_cell hb3 0).trans rfl; have x1 : w3.cell? ⟨g, 1, none⟩ = some (.slice (some b) 4 c1) := (blk_cell hb3 1).trans rfl; have HL3 := Aside0.mk (below_keep HW2.out hk3 (fun i h => by rw [h, HG.out]; exact Nat.le_refl _)); have x2 : w3.cell? a = some (.string ⟨#[98]⟩) := pw_cell_below HL3.out HA.out; have x3 : w3.cell? ⟨b.block, b.off + 2 + 1, none⟩ = some (.int .i64 1) := pw_cell_below HL3.out HB1.out; clear hb3 hk3))
  go_ret
  exact ⟨rfl, below_then HBel.out HBel.out.size HL3.out⟩

/-- what stays beside the calls of the law's last line -/
abbrev Held (w7 : World) (g g6 : Nat) (u0 u1 u2 u3 : Value) (A0 A1 B0 B1 : Option Addr) (c0 c1 d0 d1 : Nat) (p q : CS.Prg) (w' : World) : Prop :=
  w'.cell? ⟨g, 0, none⟩ = some u0 ∧ w'.cell? ⟨g, 1, none⟩ = some u1 ∧ w'.cell? ⟨g6, 0, none⟩ = some u2 ∧ w'.cell? ⟨g6, 1, none⟩ = some u3 ∧ Aside0 (IsP w' A0 c0 A1 c1 p) ∧ Aside0 (IsP w' B0 d0 B1 d1 q) ∧ Aside0 (Below w7.heap.size w7 w')
theorem Held.below {w7 : World} {g g6 : Nat} {u0 u1 u2 u3 : Value} {A0 A1 B0 B1 : Option Addr} {c0 c1 d0 d1 : Nat} {p q : CS.Prg} {w' w2 : World} (h : Held w7 g g6 u0 u1 u2 u3 A0 A1 B0 B1 c0 c1 d0 d1 p q w') (hb : Below w'.heap.size w' w2) : Held w7 g g6 u0 u1 u2 u3 A0 A1 B0 B1 c0 c1 d0 d1 p q w2 := by
  obtain ⟨x0, x1, x2, x3, ⟨h4⟩, ⟨h5⟩, ⟨h6⟩⟩ := h
  exact ⟨pw_cell_below hb x0, pw_cell_below hb x1, pw_cell_below hb x2, pw_cell_below hb x3, ⟨h4.below hb⟩, ⟨h5.below hb⟩, ⟨below_then h6 h6.size hb⟩⟩
theorem Ours_held {w7 W : World} {g g6 : Nat} {u0 u1 u2 u3 : Value} {A0 A1 B0 B1 : Option Addr} {c0 c1 d0 d1 : Nat} {p q : CS.Prg} (h : Held w7 g g6 u0 u1 u2 u3 A0 A1 B0 B1 c0 c1 d0 d1 p q W) (h0 : p.names.length ≤ 1000000000 ∧ p.code.length ≤ 1000000000) :
    Calls Tryz.prog 25 #[.agg #[.slice A0 p.names.length c0, .slice A1 p.code.length c1]] W fun e w' => ∃ A0' c0' A1' c1', e = .returned (.agg #[.slice A0' p.names.length c0', .slice A1' p.code.length c1']) ∧ IsP w' A0' c0' A1' c1' p ∧ Held w7 g g6 u0 u1 u2 u3 A0 A1 B0 B1 c0 c1 d0 d1 p q w' := by
  refine (Ours_any A0 A1 c0 c1 p W h.2.2.2.2.1.out h0.1 h0.2).mono ?_
  rintro e w' ⟨A0', c0', A1', c1', rfl, hP, hb⟩
  exact ⟨A0', c0', A1', c1', rfl, hP, Held.below h hb⟩
theorem Same_held {w7 W : World} {g g6 : Nat} {u0 u1 u2 u3 : Value} {A0 A1 B0 B1 A0' A1' : Option Addr} {c0 c1 d0 d1 c0' c1' : Nat} {p q : CS.Prg} (hP : IsP W A0' c0' A1' c1' p) (h : Held w7 g g6 u0 u1 u2 u3 A0 A1 B0 B1 c0 c1 d0 d1 p q W) (h0 : p.names.length ≤ 1000000000 ∧ p.code.length ≤ 1000000000) {bb : Bool} (hbb : decide (p = q) = bb) :
    Calls Tryz.prog 24 #[.agg #[.slice A0' p.names.length c0', .slice A1' p.code.length c1'], .agg #[.slice B0 q.names.length d0, .slice B1 q.code.length d1]] W fun e w' => e = .returned (.bool bb) ∧ Held w7 g g6 u0 u1 u2 u3 A0 A1 B0 B1 c0 c1 d0 d1 p q w' := by
  refine (Same_any A0' A1' B0 B1 c0' c1' d0 d1 p q W hP h.2.2.2.2.2.1.out h0.1 h0.2).mono ?_
  rintro e w' ⟨rfl, hb⟩
  exact ⟨by rw [hbb], Held.below h hb⟩

set_option maxRecDepth 100000 in
set_option maxHeartbeats 2000000 in
theorem CodeParses_any (s : ByteArray) (w : World) (hs : s.size ≤ 9223372036854775807) (hw : Laid w) :
    Calls Tryz.prog 9 #[.string s] w fun e w' => e = .returned (.bool true) ∧ Below w.heap.size w w' := by
  have HS := Aside0.mk hs
  have HL := Aside0.mk hw
  clear hs hw
  go_enter Tryz.func9, Tryz.ntmps9
  go_wp2_with fail
  refine (awake_any _ HL.out).mono ?_
  rintro e w1 ⟨rfl, hb⟩
  have HL1 := Aside0.mk (HL.out.below hb)
  have HB1 := Aside0.mk hb
  clear hb
  go_wp2_with fail
  refine (Parse_any s _ HL1.out).mono ?_
  rintro e w2 ⟨A0, c0, A1, c1, rfl, hP, hb⟩
  obtain ⟨p, n, er, hp⟩ : ∃ p n er, CS.parse s.data.toList = (p, n, er) := ⟨_, _, _, rfl⟩
  have hsm := parse_small s.data.toList
  rw [hp] at hP hsm ⊢
  have HP := Aside0.mk hp
  have HP2 := Aside0.mk hP
  have HSM := Aside0.mk hsm
  have HB2 := Aside0.mk (below_then HB1.out HB1.out.size hb)
  clear hp hP hsm hb
  simp only [pv]
  go_wp2_with (first | (refine gate_ (.alloc 33) rfl ?_; refine ev_alloc 33 rfl rfl (by go_simp; rfl) ?_; intro g hg w3 hb hbel; have HG3 := Aside0.mk hb; have HW3 := Aside0.mk hbel; have HG := Aside0.mk hg; clear hb hbel hg) | (refine gate_ (.store 33 (.tmp 3) (.tmp 14)) rfl ?_; refine ev_store 33 (.tmp 3) (.tmp 14) rfl rfl rfl rfl HG3.out rfl (by kernel_rfl) rfl rfl ?_; intro w4 hb4 hk4; have HG4 : Aside0 (w4.heap[g]? = some (.cells #[.slice A0 p.names.length c0, .slice A1 p.code.length c1] 33 (0, 0))) := ⟨hb4⟩; have HL4 := Aside0.mk (below_keep HW3.out hk4 (fun i h => by rw [h, HG.out]; exact Nat.le_refl _)); clear hb4 hk4))
  refine (RefParse_any s _ HS.out).mono ?_
  rintro e w5 ⟨B0, d0, B1, d1, rfl, hP, hb⟩
  rw [HP.out] at hP ⊢
  have HP5 := Aside0.mk hP
  have HG5 := Aside0.mk (below_blk hb HG4.out)
  have HL5 := Aside0.mk (below_then HL4.out HL4.out.size hb)
  clear hP hb
  simp only [pv]
  go_upto_region 5 with (first | (refine gate_ (.alloc 25) rfl ?_; refine ev_alloc 25 rfl rfl (by go_simp; rfl) ?_; intro g6 hg w6 hb hbel; have HG6 := Aside0.mk hb; have HW6 := Aside0.mk hbel; have HGG := Aside0.mk hg; clear hb hbel hg) | (refine gate_ (.store 25 (.tmp 6) (.tmp 20)) rfl ?_; refine ev_store 25 (.tmp 6) (.tmp 20) rfl rfl rfl rfl HG6.out rfl (by kernel_rfl) rfl rfl ?_; intro w7 hb7 hk7; have HG7 : Aside0 (w7.heap[g6]? = some (.cells #[.slice B0 p.names.length d0, .slice B1 p.code.length d1] 25 (0, 0))) := ⟨hb7⟩; have HL7 := Aside0.mk (below_keep HW6.out hk7 (fun i h => by rw [h, HGG.out]; exact Nat.le_refl _)); clear hb7 hk7))
  have HBB := Aside0.mk (below_then HL5.out HL5.out.size HL7.out)
  have HG7g := Aside0.mk (below_blk HL7.out HG5.out)
  have HPA := Aside0.mk (HP2.out.below HBB.out)
  have HPB := Aside0.mk (HP5.out.below HL7.out)
  have HTOT := Aside0.mk (below_then HB2.out HB2.out.size HBB.out)
  have x0 : w7.cell? ⟨g, 0, none⟩ = some (.slice A0 p.names.length c0) := (blk_cell HG7g.out 0).trans rfl
  have x1 : w7.cell? ⟨g, 1, none⟩ = some (.slice A1 p.code.length c1) := (blk_cell HG7g.out 1).trans rfl
  have x2 : w7.cell? ⟨g6, 0, none⟩ = some (.slice B0 p.names.length d0) := (blk_cell HG7.out 0).trans rfl
  have x3 : w7.cell? ⟨g6, 1, none⟩ = some (.slice B1 p.code.length d1) := (blk_cell HG7.out 1).trans rfl
  clear HL HL1 HB1 HB2 HP HP2 HG3 HG HW3 HG4 HL4 HP5 HG5 HL5 HG6 HGG HW6 HL7 HBB HS
  have hsz : p.names.length ≤ 1000000000 ∧ p.code.length ≤ 1000000000 := ⟨by have := HSM.out.1; omega, by have := HSM.out.2; omega⟩
  have HSZ := Aside0.mk hsz
  clear hsz
  go_region_held3 (fun w' => w'.cell? ⟨g, 0, none⟩ = some (.slice A0 p.names.length c0) ∧ w'.cell? ⟨g, 1, none⟩ = some (.slice A1 p.code.length c1) ∧ w'.cell? ⟨g6, 0, none⟩ = some (.slice B0 p.names.length d0) ∧ w'.cell? ⟨g6, 1, none⟩ = some (.slice B1 p.code.length d1) ∧ Aside0 (IsP w' A0 c0 A1 c1 p) ∧ Aside0 (IsP w' B0 d0 B1 d1 p) ∧ Aside0 (Below w7.heap.size w7 w')) (first | assumption | exact ⟨x0, x1, x2, x3, ⟨HPA.out.below (below_drew (Below.refl _ _))⟩, ⟨HPB.out.below (below_drew (Below.refl _ _))⟩, ⟨below_drew (Below.refl _ _)⟩⟩) (first | (go_at_call 25; refine (Ours_held (w7 := w7) (g := g) (g6 := g6) (q := p) (by assumption) HSZ.out).mono ?_; rintro e w8 ⟨C0, e0, C1, e1, rfl, hC, hS⟩; have HC := Aside0.mk hC; clear hC) | (go_at_call 24; refine (Same_held (w7 := w7) (g := g) (g6 := g6) (q := p) HC.out (by assumption) HSZ.out (decide_eq_true rfl)).mono ?_; rintro e w9 ⟨rfl, hS9⟩; have HB9 := Aside0.mk hS9.2.2.2.2.2.2.out))
  all_goals go_wp2
  all_goals go_ret
  all_goals exact ⟨rfl, below_then HTOT.out HTOT.out.size HB9.out⟩
end Go.Proofs.YtpapbigghiiolaaGreatDoor
