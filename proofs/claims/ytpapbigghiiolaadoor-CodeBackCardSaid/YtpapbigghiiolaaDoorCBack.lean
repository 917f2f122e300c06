/-
  CodeBack answers true.
-/
import Derived.Test.YtpapbigghiiolaaDoorCLaw
import Derived.Test.YtpapbigghiiolaaDoorCBackP
set_option linter.unusedVariables false
namespace Go.Proofs.YtpapbigghiiolaaDoor
open Go.RowKit Go.Proofs.YtpapbigghiiolaaDoorW.PrintWords PAll

theorem sb_snoc (s : ByteArray) : sb (s.data.toList ++ [10]) = s ++ (⟨#[10]⟩ : ByteArray) := by
  rw [← sb_append, sb_of]
  rfl
theorem parse_size (l : CS.Bs) (q : CS.Prg) (n : Int) (h : CS.parse l = (q, n, 0)) : l.length ≤ 20000 := by
  unfold CS.parse at h
  split at h
  · have := congrArg (fun x => x.2.2) h
    simp at this
  · omega
theorem isB_of_own {w : World} {b : Nat} {v : Value} {l : CS.Bs} (h : w.ownsRow b 5 1 v l.length (Lib.byteCells l)) (hll : l.length ≤ 140737488355328) : ∃ A c, v = .slice A l.length c ∧ IsB w A c l := by
  have hR : (Kd.int .u8).R 5 w b (fun _ => True) v (ints l) := Kd.R_of_own (enc := Value.int .u8) (h1 := fun _ => rfl) (by rw [ints_length]; rw [bytes_nums] at h; exact h) (fun k hk => trivial)
  obtain ⟨A, c, rfl, hl, hr⟩ := Kd.R_reads hR
  rw [ints_length] at hl hr h ⊢
  exact ⟨A, c, rfl, hr, hl, hll⟩
theorem encode_len (p : CS.Prg) (hf : CS.formed p = true) (hw : Wf p) : (CS.encode p).1.length ≤ 10000 := by
  rw [CS.encode_eq p hf]
  unfold CS.formed at hf
  simp only [Bool.and_eq_true, decide_eq_true_eq] at hf
  have h0 := hf.1.1.1
  have h1 := hf.1.1.2
  have k1 := flat_len CS.encText 49 p.names (fun n hn => by
    have hk := List.all_eq_true.1 hf.1.2 n hn
    unfold CS.key at hk
    simp only [Bool.and_eq_true, decide_eq_true_eq] at hk
    have := CS.encText_len n (by omega)
    omega)
  have k2 := flat_len CS.encIns 18 p.code (fun i hi => CS.encIns_len i (by have := insOk_op (List.all_eq_true.1 hf.2 i hi); omega) (hw i hi).1 (hw i hi).2)
  have k3 := CS.encNum_len p.names.length (by omega)
  have k4 := CS.encNum_len p.code.length (by omega)
  unfold CS.encHead
  simp only [List.length_append]
  omega

abbrev HeldB (w7 : World) (g ga gr : Nat) (A0 A1 G0 G1 M0 M1 : Option Addr) (c0 c1 e0 e1 m0 m1 : Nat) (p : CS.Prg) (w' : World) : Prop :=
  w'.cell? ⟨g, 0, none⟩ = some (.slice A0 p.names.length c0) ∧ w'.cell? ⟨g, 1, none⟩ = some (.slice A1 p.code.length c1) ∧ w'.cell? ⟨ga, 0, none⟩ = some (.slice G0 p.names.length e0) ∧ w'.cell? ⟨ga, 1, none⟩ = some (.slice G1 p.code.length e1) ∧ w'.cell? ⟨gr, 0, none⟩ = some (.slice M0 p.names.length m0) ∧ w'.cell? ⟨gr, 1, none⟩ = some (.slice M1 p.code.length m1) ∧ Aside0 (IsP w' A0 c0 A1 c1 p) ∧ Aside0 (IsP w' G0 e0 G1 e1 p) ∧ Aside0 (IsP w' M0 m0 M1 m1 p) ∧ Aside0 (Below w7.heap.size w7 w')
section
variable {w7 W : World} {g ga gr : Nat} {A0 A1 G0 G1 M0 M1 : Option Addr} {c0 c1 e0 e1 m0 m1 : Nat} {p : CS.Prg}
theorem HeldB.below {w2 : World} (h : HeldB w7 g ga gr A0 A1 G0 G1 M0 M1 c0 c1 e0 e1 m0 m1 p W) (hb : Below W.heap.size W w2) : HeldB w7 g ga gr A0 A1 G0 G1 M0 M1 c0 c1 e0 e1 m0 m1 p w2 := by
  obtain ⟨x0, x1, x2, x3, x4, x5, ⟨h4⟩, ⟨h5⟩, ⟨h6⟩, ⟨h7⟩⟩ := h
  exact ⟨pw_cell_below hb x0, pw_cell_below hb x1, pw_cell_below hb x2, pw_cell_below hb x3, pw_cell_below hb x4, pw_cell_below hb x5, ⟨h4.below hb⟩, ⟨h5.below hb⟩, ⟨h6.below hb⟩, ⟨below_then h7 h7.size hb⟩⟩
theorem Ours_heldG {E0 E1 : Option Addr} {f0 f1 : Nat} (q0 : E0 = G0) (q1 : E1 = G1) (q2 : f0 = e0) (q3 : f1 = e1) (h : HeldB w7 g ga gr A0 A1 G0 G1 M0 M1 c0 c1 e0 e1 m0 m1 p W) (h0 : p.names.length ≤ 1000000000 ∧ p.code.length ≤ 1000000000) :
    Calls Tryd.prog 12 #[.agg #[.slice E0 p.names.length f0, .slice E1 p.code.length f1]] W fun e w' => ∃ A0' c0' A1' c1', e = .returned (.agg #[.slice A0' p.names.length c0', .slice A1' p.code.length c1']) ∧ IsP w' A0' c0' A1' c1' p ∧ HeldB w7 g ga gr A0 A1 G0 G1 M0 M1 c0 c1 e0 e1 m0 m1 p w' := by
  subst q0 q1 q2 q3
  refine (Ours_any E0 E1 f0 f1 p W h.2.2.2.2.2.2.2.1.out h0.1 h0.2).mono ?_
  rintro e w' ⟨A0', c0', A1', c1', rfl, hP, hb⟩
  exact ⟨A0', c0', A1', c1', rfl, hP, HeldB.below h hb⟩
theorem Ours_heldM {E0 E1 : Option Addr} {f0 f1 : Nat} (q0 : E0 = M0) (q1 : E1 = M1) (q2 : f0 = m0) (q3 : f1 = m1) (h : HeldB w7 g ga gr A0 A1 G0 G1 M0 M1 c0 c1 e0 e1 m0 m1 p W) (h0 : p.names.length ≤ 1000000000 ∧ p.code.length ≤ 1000000000) :
    Calls Tryd.prog 12 #[.agg #[.slice E0 p.names.length f0, .slice E1 p.code.length f1]] W fun e w' => ∃ A0' c0' A1' c1', e = .returned (.agg #[.slice A0' p.names.length c0', .slice A1' p.code.length c1']) ∧ IsP w' A0' c0' A1' c1' p ∧ HeldB w7 g ga gr A0 A1 G0 G1 M0 M1 c0 c1 e0 e1 m0 m1 p w' := by
  subst q0 q1 q2 q3
  refine (Ours_any E0 E1 f0 f1 p W h.2.2.2.2.2.2.2.2.1.out h0.1 h0.2).mono ?_
  rintro e w' ⟨A0', c0', A1', c1', rfl, hP, hb⟩
  exact ⟨A0', c0', A1', c1', rfl, hP, HeldB.below h hb⟩
theorem Same_heldB {C0 C1 E0 E1 : Option Addr} {k0 k1 f0 f1 : Nat} (hC : IsP W C0 k0 C1 k1 p) (q0 : E0 = A0) (q1 : E1 = A1) (q2 : f0 = c0) (q3 : f1 = c1) (h : HeldB w7 g ga gr A0 A1 G0 G1 M0 M1 c0 c1 e0 e1 m0 m1 p W) (h0 : p.names.length ≤ 1000000000 ∧ p.code.length ≤ 1000000000) :
    Calls Tryd.prog 11 #[.agg #[.slice C0 p.names.length k0, .slice C1 p.code.length k1], .agg #[.slice E0 p.names.length f0, .slice E1 p.code.length f1]] W fun e w' => e = .returned (.bool true) ∧ HeldB w7 g ga gr A0 A1 G0 G1 M0 M1 c0 c1 e0 e1 m0 m1 p w' := by
  subst q0 q1 q2 q3
  refine (Same_any C0 C1 E0 E1 k0 k1 f0 f1 p p W hC h.2.2.2.2.2.2.1.out h0.1 h0.2).mono ?_
  rintro e w' ⟨rfl, hb⟩
  exact ⟨by rw [decide_eq_true rfl], HeldB.below h hb⟩
end

set_option maxRecDepth 100000 in
set_option maxHeartbeats 4000000 in
theorem CodeBack_any (A0 A1 : Option Addr) (c0 c1 : Nat) (p : CS.Prg) (s : ByteArray) (w : World) (hp : IsP w A0 c0 A1 c1 p) (hwf : Wf p) (hss : s.size ≤ 9223372036854775807) (hw : Laid w) :
    Calls Tryd.prog 7 #[pv A0 c0 A1 c1 p, .string s] w fun e w' => e = .returned (.bool true) ∧ Below w.heap.size w w' := by
  have HP := Aside0.mk hp
  have HSS := Aside0.mk hss
  have HWF := Aside0.mk hwf
  have HL := Aside0.mk hw
  clear hp hwf hss hw
  unfold pv
  go_enter Tryd.func7, Tryd.ntmps7
  go_upto_region 1 with (refine gate_ (.box 32 (.tmp 0)) rfl ?_; refine ev_box 32 (.tmp 0) rfl rfl (by go_simp; rfl) ?_; intro g hg w1 hb hbel; have HBX := Aside0.mk hb; have HW1 := Aside0.mk hbel; clear hb hbel hg)
  go_wp2_with fail
  refine (awake_any _ (HL.out.below HW1.out)).mono ?_
  rintro e w2 ⟨rfl, hb2⟩
  have HW2 := Aside0.mk (below_then HW1.out HW1.out.size hb2)
  have HX2 := Aside0.mk (below_blk hb2 HBX.out)
  clear hb2 HBX
  have x0 : w2.cell? ⟨g, 0, none⟩ = some (.slice A0 p.names.length c0) := (blk_cell HX2.out 0).trans rfl
  have x1 : w2.cell? ⟨g, 1, none⟩ = some (.slice A1 p.code.length c1) := (blk_cell HX2.out 1).trans rfl
  go_wp2_with fail
  refine (Few_any A0 A1 c0 c1 p _ (HP.out.below HW2.out)).mono ?_
  rintro e w3 ⟨rfl, hb3⟩
  have HW3 := Aside0.mk (below_then HW2.out HW2.out.size hb3)
  have HX3 := Aside0.mk (below_blk hb3 HX2.out)
  clear hb3 x0 x1 HX2
  cases hfew : few p with
  | false =>
    clear hfew
    go_wp2_with fail
    refine (awake_any _ (HL.out.below HW3.out)).mono ?_
    rintro e w4 ⟨rfl, hb4⟩
    have HW4 := Aside0.mk hb4
    clear hb4
    go_wp2
    go_ret
    exact ⟨rfl, below_then HW3.out HW3.out.size HW4.out⟩
  | true =>
    have hfew2 := hfew
    unfold few at hfew2
    simp only [Bool.and_eq_true, decide_eq_true_eq] at hfew2
    have HSP : Aside0 (p.names.length ≤ 1000000000 ∧ p.code.length ≤ 1000000000) := ⟨by have := hfew2.1.1; omega, by have := hfew2.2; omega⟩
    clear hfew hfew2
    have x0 : w3.cell? ⟨g, 0, none⟩ = some (.slice A0 p.names.length c0) := (blk_cell HX3.out 0).trans rfl
    have x1 : w3.cell? ⟨g, 1, none⟩ = some (.slice A1 p.code.length c1) := (blk_cell HX3.out 1).trans rfl
    go_wp2_with fail
    refine (Theirs_any A0 A1 c0 c1 p _ (HP.out.below HW3.out) HSP.out.1 HSP.out.2).mono ?_
    rintro e w5 ⟨E0, f0, E1, f1, rfl, hP5, hb5⟩
    have HP5 := Aside0.mk hP5
    have HW5 := Aside0.mk (below_then HW3.out HW3.out.size hb5)
    have HX5 := Aside0.mk (below_blk hb5 HX3.out)
    clear hP5 hb5 x0 x1 HX3
    go_wp2_with fail
    refine (Print_any E0 E1 f0 f1 p _ HP5.out (by have := HSP.out.1; omega) (by have := HSP.out.2; omega) HWF.out (HL.out.below HW5.out)).mono ?_
    rintro e w6 ⟨rfl, hb6⟩
    have HW6 := Aside0.mk (below_then HW5.out HW5.out.size hb6)
    have HX6 := Aside0.mk (below_blk hb6 HX5.out)
    clear hb6 HX5 HP5
    have x0 : w6.cell? ⟨g, 0, none⟩ = some (.slice A0 p.names.length c0) := (blk_cell HX6.out 0).trans rfl
    have x1 : w6.cell? ⟨g, 1, none⟩ = some (.slice A1 p.code.length c1) := (blk_cell HX6.out 1).trans rfl
    unfold CS.print
    have hrest : ∀ (a : Nat), True := fun _ => trivial
    by_cases hfm : CS.formed p = true
    · simp only [hfm, if_true]
      have HFM := Aside0.mk hfm
      clear hfm
      go_wp2_with fail
      refine (Parse_any _ _ (HL.out.below HW6.out)).mono ?_
      rintro e w7 ⟨G0, e0, G1, e1, rfl, hP7, hb7⟩
      rw [sb_data, CS.parse_print p HFM.out HWF.out] at hP7 ⊢
      simp only at hP7 ⊢
      have HP7 := Aside0.mk hP7
      have HW7 := Aside0.mk (below_then HW6.out HW6.out.size hb7)
      have HX7 := Aside0.mk (below_blk hb7 HX6.out)
      clear hP7 hb7 HX6 x0 x1
      simp only [pv]
      go_wp2_with (first | (refine gate_ (.alloc 26) rfl ?_; refine ev_alloc 26 rfl rfl (by go_simp; rfl) ?_; intro ga hg w9 hb hbel; have HG9 := Aside0.mk hb; have HW9 := Aside0.mk hbel; have HGA := Aside0.mk hg; clear hb hbel hg) | (refine gate_ (.store 26 (.tmp 7) (.tmp 38)) rfl ?_; refine ev_store 26 (.tmp 7) (.tmp 38) rfl rfl rfl rfl HG9.out rfl (by kernel_rfl) rfl rfl ?_; intro w10 hb10 hk10; have HG10 : Aside0 (w10.heap[ga]? = some (.cells #[.slice G0 p.names.length e0, .slice G1 p.code.length e1] 26 (0, 0))) := ⟨hb10⟩; have HL10 := Aside0.mk (below_keep HW9.out hk10 (fun i h => by rw [h, HGA.out]; exact Nat.le_refl _)); clear hb10 hk10; have HX10 := Aside0.mk (below_blk HL10.out HX7.out); have x0 : w10.cell? ⟨g, 0, none⟩ = some (.slice A0 p.names.length c0) := (blk_cell HX10.out 0).trans rfl; have x1 : w10.cell? ⟨g, 1, none⟩ = some (.slice A1 p.code.length c1) := (blk_cell HX10.out 1).trans rfl))
      have HW10 := Aside0.mk (below_then HW7.out HW7.out.size HL10.out)
      have HP10 := Aside0.mk (HP7.out.below HL10.out)
      clear HX7 HP7 HW7 HG9 HW9 HGA HL10
      refine (Theirs_any A0 A1 c0 c1 p _ (HP.out.below HW10.out) HSP.out.1 HSP.out.2).mono ?_
      rintro e w11 ⟨K0, k0, K1, k1, rfl, hP11, hb11⟩
      have HP11 := Aside0.mk hP11
      have HPA := Aside0.mk (HP10.out.below hb11)
      have HGa := Aside0.mk (below_blk hb11 HG10.out)
      have HW11 := Aside0.mk (below_then HW10.out HW10.out.size hb11)
      have HX11 := Aside0.mk (below_blk hb11 HX10.out)
      clear hP11 hb11 HX10 HP10 HG10 HW10 x0 x1
      go_wp2_with fail
      refine (Encode_any K0 K1 k0 k1 p _ HP11.out (by have := HSP.out.1; omega) (by have := HSP.out.2; omega) HWF.out).mono ?_
      rintro e w12 ⟨v12, rfl, ho12, hb12⟩
      obtain ⟨B0, d0, rfl, hB⟩ := isB_of_own ho12 (by have := encode_len p HFM.out HWF.out; omega)
      rw [show (CS.encode p).2 = 0 by unfold CS.encode; rw [if_pos HFM.out]]
      have HPA2 := Aside0.mk (HPA.out.below hb12)
      have HGa2 := Aside0.mk (below_blk hb12 HGa.out)
      have HW12 := Aside0.mk (below_then HW11.out HW11.out.size hb12)
      have HX12 := Aside0.mk (below_blk hb12 HX11.out)
      have HB12 := Aside0.mk hB
      clear hB ho12 hb12 HPA HGa HW11 HX11 HP11
      go_wp2_with fail
      refine (Decode_any B0 d0 (CS.encode p).1 _ HB12.out).mono ?_
      rintro e w13 ⟨M0, m0, M1, m1, rfl, hP13, hb13⟩
      rw [CS.decode_encode p HFM.out HWF.out] at hP13 ⊢
      simp only at hP13 ⊢
      have HP13 := Aside0.mk hP13
      have HPA3 := Aside0.mk (HPA2.out.below hb13)
      have HGa3 := Aside0.mk (below_blk hb13 HGa2.out)
      have HW13 := Aside0.mk (below_then HW12.out HW12.out.size hb13)
      have HX13 := Aside0.mk (below_blk hb13 HX12.out)
      clear hP13 hb13 HPA2 HGa2 HW12 HX12 HB12
      simp only [pv]
      go_wp2_with (first | (refine gate_ (.alloc 26) rfl ?_; refine ev_alloc 26 rfl rfl (by go_simp; rfl) ?_; intro gr hg w14 hb hbel; have HG14 := Aside0.mk hb; have HW14 := Aside0.mk hbel; have HGR := Aside0.mk hg; clear hb hbel hg) | (refine gate_ (.store 26 (.tmp 12) (.tmp 50)) rfl ?_; refine ev_store 26 (.tmp 12) (.tmp 50) rfl rfl rfl rfl HG14.out rfl (by kernel_rfl) rfl rfl ?_; intro w15 hb15 hk15; have HG15 : Aside0 (w15.heap[gr]? = some (.cells #[.slice M0 p.names.length m0, .slice M1 p.code.length m1] 26 (0, 0))) := ⟨hb15⟩; have HL15 := Aside0.mk (below_keep HW14.out hk15 (fun i h => by rw [h, HGR.out]; exact Nat.le_refl _)); clear hb15 hk15; have HX15 := Aside0.mk (below_blk HL15.out HX13.out); have HGa15 := Aside0.mk (below_blk HL15.out HGa3.out); have x0 : w15.cell? ⟨g, 0, none⟩ = some (.slice A0 p.names.length c0) := (blk_cell HX15.out 0).trans rfl; have x1 : w15.cell? ⟨g, 1, none⟩ = some (.slice A1 p.code.length c1) := (blk_cell HX15.out 1).trans rfl; have y0 : w15.cell? ⟨ga, 0, none⟩ = some (.slice G0 p.names.length e0) := (blk_cell HGa15.out 0).trans rfl; have y1 : w15.cell? ⟨ga, 1, none⟩ = some (.slice G1 p.code.length e1) := (blk_cell HGa15.out 1).trans rfl; have z0 : w15.cell? ⟨gr, 0, none⟩ = some (.slice M0 p.names.length m0) := (blk_cell HG15.out 0).trans rfl; have z1 : w15.cell? ⟨gr, 1, none⟩ = some (.slice M1 p.code.length m1) := (blk_cell HG15.out 1).trans rfl))
      have HW15 := Aside0.mk (below_then HW13.out HW13.out.size HL15.out)
      have HPA15 := Aside0.mk (HPA3.out.below HL15.out)
      have HPM15 := Aside0.mk (HP13.out.below HL15.out)
      clear HPA3 HGa3 HW13 HX13 HP13 HL15 HG14 HW14 HGR
      go_region_held3 (fun w' => w'.cell? ⟨g, 0, none⟩ = some (.slice A0 p.names.length c0) ∧ w'.cell? ⟨g, 1, none⟩ = some (.slice A1 p.code.length c1) ∧ w'.cell? ⟨ga, 0, none⟩ = some (.slice G0 p.names.length e0) ∧ w'.cell? ⟨ga, 1, none⟩ = some (.slice G1 p.code.length e1) ∧ w'.cell? ⟨gr, 0, none⟩ = some (.slice M0 p.names.length m0) ∧ w'.cell? ⟨gr, 1, none⟩ = some (.slice M1 p.code.length m1) ∧ Aside0 (IsP w' A0 c0 A1 c1 p) ∧ Aside0 (IsP w' G0 e0 G1 e1 p) ∧ Aside0 (IsP w' M0 m0 M1 m1 p) ∧ Aside0 (Below w15.heap.size w15 w')) (first | assumption | exact ⟨x0, x1, y0, y1, z0, z1, ⟨(HP.out.below HW15.out).below (below_drew (Below.refl _ _))⟩, ⟨HPA15.out.below (below_drew (Below.refl _ _))⟩, ⟨HPM15.out.below (below_drew (Below.refl _ _))⟩, ⟨below_drew (Below.refl _ _)⟩⟩) (first | (go_at_call 12; refine (Ours_heldM (w7 := w15) (g := g) (ga := ga) (gr := gr) (p := p) (by rfl) (by rfl) (by rfl) (by rfl) (by assumption) HSP.out).mono ?_; rintro e w18 ⟨D0, h0, D1, h1, rfl, hC, hS⟩; have HD := Aside0.mk hC; clear hC) | (go_at_call 12; refine (Ours_heldG (w7 := w15) (g := g) (ga := ga) (gr := gr) (p := p) (by rfl) (by rfl) (by rfl) (by rfl) (by assumption) HSP.out).mono ?_; rintro e w16 ⟨C0, h0, C1, h1, rfl, hC, hS⟩; have HC := Aside0.mk hC; clear hC) | (go_at_call 11; refine (Same_heldB (w7 := w15) (g := g) (ga := ga) (gr := gr) (p := p) HD.out (by rfl) (by rfl) (by rfl) (by rfl) (by assumption) HSP.out).mono ?_; rintro e w19 ⟨rfl, hS⟩; have HB19 := Aside0.mk hS.2.2.2.2.2.2.2.2.2.out) | (go_at_call 11; refine (Same_heldB (w7 := w15) (g := g) (ga := ga) (gr := gr) (p := p) HC.out (by rfl) (by rfl) (by rfl) (by rfl) (by assumption) HSP.out).mono ?_; rintro e w17 ⟨rfl, hS⟩))
      all_goals have HWe := Aside0.mk (below_then HW15.out HW15.out.size HB19.out)
      go_wp2_with fail
      refine (Parse_any s _ (HL.out.below HWe.out)).mono ?_
      rintro e wa ⟨Q0, q0, Q1, q1, rfl, hPa, hba⟩
      have hsm := parse_small s.data.toList
      obtain ⟨q, n, er, hq⟩ : ∃ q n er, CS.parse s.data.toList = (q, n, er) := ⟨_, _, _, rfl⟩
      rw [hq] at hPa hsm ⊢
      simp only at hPa hsm ⊢
      have HQ := Aside0.mk hq
      have HSM := Aside0.mk hsm
      have HPa := Aside0.mk hPa
      have HWa := Aside0.mk (below_then HWe.out HWe.out.size hba)
      clear hq hPa hba hsm
      simp only [pv]
      by_cases her : er = 0
      · subst her
        obtain ⟨hwq, hfq, hor⟩ := CS.print_parse s.data.toList q n HQ.out
        have HWQ := Aside0.mk hwq
        have HFQ := Aside0.mk hfq
        have HOR := Aside0.mk hor
        clear hwq hfq hor
        go_wp2_with (first | (refine gate_ (.alloc 26) rfl ?_; refine ev_alloc 26 rfl rfl (by go_simp; rfl) ?_; intro gq hg wb hb hbel; have HGb := Aside0.mk hb; have HWb := Aside0.mk hbel; have HGQ := Aside0.mk hg; clear hb hbel hg) | (refine gate_ (.store 26 (.tmp 14) (.tmp 83)) rfl ?_; refine ev_store 26 (.tmp 14) (.tmp 83) rfl rfl rfl rfl HGb.out rfl (by kernel_rfl) rfl rfl ?_; intro wc hbc hkc; have HGc : Aside0 (wc.heap[gq]? = some (.cells #[.slice Q0 q.names.length q0, .slice Q1 q.code.length q1] 26 (0, 0))) := ⟨hbc⟩; have HLc := Aside0.mk (below_keep HWb.out hkc (fun i h => by rw [h, HGQ.out]; exact Nat.le_refl _)); clear hbc hkc; have y0 : wc.cell? ⟨gq, 0, none⟩ = some (.slice Q0 q.names.length q0) := (blk_cell HGc.out 0).trans rfl; have y1 : wc.cell? ⟨gq, 1, none⟩ = some (.slice Q1 q.code.length q1) := (blk_cell HGc.out 1).trans rfl))
        have HWc := Aside0.mk (below_then HWa.out HWa.out.size HLc.out)
        refine (Print_any Q0 Q1 q0 q1 q _ (HPa.out.below HLc.out) (by have := HSM.out.1; omega) (by have := HSM.out.2; omega) HWQ.out (HL.out.below HWc.out)).mono ?_
        rintro e wd ⟨rfl, hbd⟩
        have HWd := Aside0.mk (below_then HWc.out HWc.out.size hbd)
        rw [show CS.print q = (CS.text q, 0) by unfold CS.print; rw [if_pos HFQ.out]]
        simp only
        clear hbd HGc HGQ HWb HGb y0 y1
        rcases HOR.out with ht | ht
        · rw [ht, sb_of]
          clear ht
          go_wp2
          go_ret
          exact ⟨rfl, HWd.out⟩
        · rw [ht, sb_snoc]
          have hsz := parse_size s.data.toList q n HQ.out
          rw [Array.length_toList] at hsz
          have hsz : s.size ≤ 20000 := hsz
          clear ht
          go_wp2
          all_goals go_ret
          all_goals first | exact ⟨rfl, HWd.out⟩ | exact ⟨by simp, HWd.out⟩
      · have u1 : (er != 0) = true := by simp [her]
        clear her
        go_wp2_with (first | (refine gate_ (.alloc 26) rfl ?_; refine ev_alloc 26 rfl rfl (by go_simp; rfl) ?_; intro gq hg wb hb hbel; have HGb := Aside0.mk hb; have HWb := Aside0.mk hbel; have HGQ := Aside0.mk hg; clear hb hbel hg) | (refine gate_ (.store 26 (.tmp 14) (.tmp 83)) rfl ?_; refine ev_store 26 (.tmp 14) (.tmp 83) rfl rfl rfl rfl HGb.out rfl (by kernel_rfl) rfl rfl ?_; intro wc hbc hkc; have HGc : Aside0 (wc.heap[gq]? = some (.cells #[.slice Q0 q.names.length q0, .slice Q1 q.code.length q1] 26 (0, 0))) := ⟨hbc⟩; have HLc := Aside0.mk (below_keep HWb.out hkc (fun i h => by rw [h, HGQ.out]; exact Nat.le_refl _)); clear hbc hkc; have HWc := Aside0.mk (below_then HWa.out HWa.out.size HLc.out)))
        go_ret
        exact ⟨rfl, HWc.out⟩
    · simp only [hfm]
      clear hfm
      go_wp2_with fail
      refine (Parse_any s _ (HL.out.below HW6.out)).mono ?_
      rintro e wa ⟨Q0, q0, Q1, q1, rfl, hPa, hba⟩
      have hsm := parse_small s.data.toList
      obtain ⟨q, n, er, hq⟩ : ∃ q n er, CS.parse s.data.toList = (q, n, er) := ⟨_, _, _, rfl⟩
      rw [hq] at hPa hsm ⊢
      simp only at hPa hsm ⊢
      have HQ := Aside0.mk hq
      have HSM := Aside0.mk hsm
      have HPa := Aside0.mk hPa
      have HWa := Aside0.mk (below_then HW6.out HW6.out.size hba)
      clear hq hPa hba hsm
      simp only [pv]
      by_cases her : er = 0
      · subst her
        obtain ⟨hwq, hfq, hor⟩ := CS.print_parse s.data.toList q n HQ.out
        have HWQ := Aside0.mk hwq
        have HFQ := Aside0.mk hfq
        have HOR := Aside0.mk hor
        clear hwq hfq hor
        go_wp2_with (first | (refine gate_ (.alloc 26) rfl ?_; refine ev_alloc 26 rfl rfl (by go_simp; rfl) ?_; intro gq hg wb hb hbel; have HGb := Aside0.mk hb; have HWb := Aside0.mk hbel; have HGQ := Aside0.mk hg; clear hb hbel hg) | (refine gate_ (.store 26 (.tmp 14) (.tmp 83)) rfl ?_; refine ev_store 26 (.tmp 14) (.tmp 83) rfl rfl rfl rfl HGb.out rfl (by kernel_rfl) rfl rfl ?_; intro wc hbc hkc; have HGc : Aside0 (wc.heap[gq]? = some (.cells #[.slice Q0 q.names.length q0, .slice Q1 q.code.length q1] 26 (0, 0))) := ⟨hbc⟩; have HLc := Aside0.mk (below_keep HWb.out hkc (fun i h => by rw [h, HGQ.out]; exact Nat.le_refl _)); clear hbc hkc; have y0 : wc.cell? ⟨gq, 0, none⟩ = some (.slice Q0 q.names.length q0) := (blk_cell HGc.out 0).trans rfl; have y1 : wc.cell? ⟨gq, 1, none⟩ = some (.slice Q1 q.code.length q1) := (blk_cell HGc.out 1).trans rfl))
        have HWc := Aside0.mk (below_then HWa.out HWa.out.size HLc.out)
        refine (Print_any Q0 Q1 q0 q1 q _ (HPa.out.below HLc.out) (by have := HSM.out.1; omega) (by have := HSM.out.2; omega) HWQ.out (HL.out.below HWc.out)).mono ?_
        rintro e wd ⟨rfl, hbd⟩
        have HWd := Aside0.mk (below_then HWc.out HWc.out.size hbd)
        rw [show CS.print q = (CS.text q, 0) by unfold CS.print; rw [if_pos HFQ.out]]
        simp only
        clear hbd HGc HGQ HWb HGb y0 y1
        rcases HOR.out with ht | ht
        · rw [ht, sb_of]
          clear ht
          go_wp2
          go_ret
          exact ⟨rfl, HWd.out⟩
        · rw [ht, sb_snoc]
          have hsz := parse_size s.data.toList q n HQ.out
          rw [Array.length_toList] at hsz
          have hsz : s.size ≤ 20000 := hsz
          clear ht
          go_wp2
          all_goals go_ret
          all_goals first | exact ⟨rfl, HWd.out⟩ | exact ⟨by simp, HWd.out⟩
      · have u1 : (er != 0) = true := by simp [her]
        clear her
        go_wp2_with (first | (refine gate_ (.alloc 26) rfl ?_; refine ev_alloc 26 rfl rfl (by go_simp; rfl) ?_; intro gq hg wb hb hbel; have HGb := Aside0.mk hb; have HWb := Aside0.mk hbel; have HGQ := Aside0.mk hg; clear hb hbel hg) | (refine gate_ (.store 26 (.tmp 14) (.tmp 83)) rfl ?_; refine ev_store 26 (.tmp 14) (.tmp 83) rfl rfl rfl rfl HGb.out rfl (by kernel_rfl) rfl rfl ?_; intro wc hbc hkc; have HGc : Aside0 (wc.heap[gq]? = some (.cells #[.slice Q0 q.names.length q0, .slice Q1 q.code.length q1] 26 (0, 0))) := ⟨hbc⟩; have HLc := Aside0.mk (below_keep HWb.out hkc (fun i h => by rw [h, HGQ.out]; exact Nat.le_refl _)); clear hbc hkc; have HWc := Aside0.mk (below_then HWa.out HWa.out.size HLc.out)))
        go_ret
        exact ⟨rfl, HWc.out⟩
end Go.Proofs.YtpapbigghiiolaaDoor
