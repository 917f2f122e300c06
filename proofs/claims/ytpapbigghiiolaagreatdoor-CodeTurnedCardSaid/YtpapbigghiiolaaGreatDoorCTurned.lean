/-
  CodeTurned answers true.
-/
import Derived.Test.YtpapbigghiiolaaGreatDoorCEncodes
import Derived.Test.YtpapbigghiiolaaGreatDoorCBackP
import Derived.Deep.RegionLaw
set_option linter.unusedVariables false
namespace Go.Proofs.YtpapbigghiiolaaGreatDoor
open Go.RowKit Go.Proofs.YtpapbigghiiolaaGreatDoorW.PrintWords Go.Proofs.YtpapbigghiiolaaGreatDoorW.PrintLast Go.Proofs.YtpapbigghiiolaaGreatDoorW.PrintMore PAll

theorem turn_at (a : Int) (n : Nat) (h0 : 0 < n) (hn : n ≤ 10000) : ∃ k : Nat, k < n ∧ wrap64 ((IntKind.u64.wrap a).tmod (n : Int)) = (k : Int) ∧ IntKind.i64.wrap ((IntKind.u64.wrap a).tmod (n : Int)) = (k : Int) := by
  have ha : 0 ≤ IntKind.u64.wrap a := by rw [u64_wrap]; omega
  rw [Int.tmod_eq_emod_of_nonneg ha]
  have h1 := Int.emod_nonneg (IntKind.u64.wrap a) (show (n : Int) ≠ 0 by omega)
  have h2 := Int.emod_lt_of_pos (IntKind.u64.wrap a) (show (0 : Int) < n by omega)
  refine ⟨(IntKind.u64.wrap a % (n : Int)).toNat, by omega, ?_, ?_⟩
  · generalize IntKind.u64.wrap a % (n : Int) = m at h1 h2
    unfold wrap64
    omega
  · generalize IntKind.u64.wrap a % (n : Int) = m at h1 h2
    rw [IntWalk.i64_in m (by omega)]
    omega
theorem bytes_free (W : World) (e : TypeId) (s : ByteArray) (k : Nat) (h : k < s.size) : (Lib.bytesWorld W e s).frozen? ⟨W.heap.size, k, none⟩ = false := by
  have hs : s.size ≤ (Lib.bytesCells W e s).size := by
    unfold Lib.bytesCells
    rw [Array.size_append, Array.size_map]
    exact Nat.le_add_right _ _
  simp [World.frozen?, Lib.bytesWorld_at_new]
  omega
theorem reads_set {W : World} {g n : Nat} {xs : List Int} (h : ReadsInt W .u8 (some ⟨g, 0, none⟩) n xs) (i : Nat) (hi : i < n) (x : Int) : ReadsInt (W.setCell ⟨g, i, none⟩ (.int .u8 x)) .u8 (some ⟨g, 0, none⟩) n (xs.set i x) := by
  have hl := h.1
  refine ⟨by rw [List.length_set]; exact hl, h.2.1, fun h0 => ⟨_, rfl, fun j hj => ?_⟩⟩
  obtain ⟨ad, he, hc⟩ := h.2.2 h0
  cases he
  have hcj := hc j hj
  by_cases hij : i = j
  · subst hij
    have ha : (⟨g, 0, none⟩ : Addr).add i = ⟨g, i, none⟩ := by rw [add_plain]
    rw [ha] at hcj ⊢
    rw [World.cell?_setCell_same (h := hcj)]
    simp [List.getD_eq_getElem?_getD, List.getElem?_set, hl, hi]
  · have hne : (⟨g, i, none⟩ : Addr) ≠ (⟨g, 0, none⟩ : Addr).add j := by
      rw [add_plain]
      intro e
      injection e with _ e
      omega
    rw [World.cell?_setCell_other (h := hne), hcj]
    simp [List.getD_eq_getElem?_getD, List.getElem?_set, hij]
theorem own_turn {W : World} {base g cap : Nat} {l : CS.Bs} (h : W.ownsRow base 5 1 (.slice (some ⟨g, 0, none⟩) l.length cap) l.length (Lib.byteCells l)) (k : Nat) (x : Int) (hx : 0 ≤ x ∧ x ≤ 255) :
    (W.setCell ⟨g, k, none⟩ (.int .u8 x)).ownsRow base 5 1 (.slice (some ⟨g, 0, none⟩) l.length cap) l.length (Lib.byteCells (l.set k (UInt8.ofNat x.toNat))) := by
  have e1 : Lib.byteCells l = nums .u8 (ints l) := bytes_nums l
  have e2 : Lib.byteCells (l.set k (UInt8.ofNat x.toNat)) = nums .u8 ((ints l).set k x) := by
    rw [bytes_nums]
    unfold ints
    rw [List.map_set, UInt8.toNat_ofNat', show ((x.toNat % 2 ^ 8 : Nat) : Int) = x by omega]
  have h2 : W.ownsRow base 5 1 (.slice (some ⟨g, 0, none⟩) (ints l).length cap) (ints l).length (nums .u8 (ints l)) := by rw [ints_length, ← e1]; exact h
  have h3 := own_put h2 (k : Int) x
  rw [List.length_set, ints_length, Int.toNat_natCast, ← e2] at h3
  exact h3
theorem isB_at {w : World} {b c : Nat} {A : Option Addr} {l : CS.Bs} (h : w.ownsRow b 5 1 (.slice A l.length c) l.length (Lib.byteCells l)) (hll : l.length ≤ 10000) : IsB w A c l := by
  obtain ⟨A', c', he, hB⟩ := isB_of_own h (by omega)
  injection he with e1 _ e2
  rw [e1, e2]
  exact hB
theorem IsB.take {w : World} {A : Option Addr} {c m : Nat} {l : CS.Bs} (h : IsB w A c l) (hm : m ≤ l.length) : IsB w A c (l.take m) := by
  obtain ⟨⟨h1, h2, h3⟩, h4, h5⟩ := h
  have hl : (l.take m).length = m := by rw [List.length_take]; omega
  refine ⟨⟨by rw [ints_length], by rw [hl]; omega, fun h0 => ?_⟩, by rw [hl]; omega, by rw [hl]; omega⟩
  obtain ⟨ad, he, hc⟩ := h3 (by omega)
  refine ⟨ad, he, fun j q hq => hc j q ?_⟩
  rw [← ints_take, List.getElem?_take] at hq
  split at hq
  · exact hq
  · cases hq
theorem own_cell {w : World} {b c g : Nat} {l : CS.Bs} (h : w.ownsRow b 5 1 (.slice (some ⟨g, 0, none⟩) l.length c) l.length (Lib.byteCells l)) (k : Nat) (hk : k < l.length) : ∃ v, w.cell? ⟨g, k, none⟩ = some v := by
  have e1 : Lib.byteCells l = nums .u8 (ints l) := bytes_nums l
  rw [e1] at h
  have hr := own_reads' h
  obtain ⟨ad, he, hc⟩ := hr.2.2 (by omega)
  cases he
  have := hc k hk
  rw [add_plain] at this
  exact ⟨_, this⟩
theorem blk_free {w : World} {g t : Nat} {cs : Array Value} (h : w.heap[g]? = some (.cells cs t (0, 0))) (k : Nat) : w.frozen? ⟨g, k, none⟩ = false := by
  unfold World.frozen?
  rw [h]
  simp
theorem strOfNums_size (xs : List Int) : (strOfNums xs).size = xs.length := by simp [strOfNums, ByteArray.size]
theorem own_some {w : World} {base : Nat} {v : Value} {l : CS.Bs} (h : w.ownsRow base 5 1 v l.length (Lib.byteCells l)) (h0 : 0 < l.length) : ∃ g cap cur, v = .slice (some ⟨g, 0, none⟩) l.length cap ∧ base ≤ g ∧ w.heap[g]? = some (.cells cur 5 (0, 0)) ∧ l.length ≤ cap := by
  rcases h.2 with ⟨_, h1⟩ | ⟨g, cap, cur, he, hb, hh, hc, _⟩
  · omega
  · exact ⟨g, cap, cur, he, hb, hh, hc⟩
theorem encode_pos (p : CS.Prg) (hf : CS.formed p = true) : 0 < (CS.encode p).1.length := by
  rw [CS.encode_eq p hf]
  unfold CS.encHead CS.encNum
  simp only [List.length_append]
  split <;> simp only [List.length_cons] <;> omega

abbrev HeldT (w7 : World) (g gb cap : Nat) (A0 A1 : Option Addr) (c0 c1 : Nat) (p : CS.Prg) (l : CS.Bs) (w' : World) : Prop :=
  w'.cell? ⟨g, 0, none⟩ = some (.slice A0 p.names.length c0) ∧ w'.cell? ⟨g, 1, none⟩ = some (.slice A1 p.code.length c1) ∧ Aside0 (IsP w' A0 c0 A1 c1 p) ∧ Aside0 (IsB w' (some ⟨gb, 0, none⟩) cap l) ∧ Aside0 (Laid w') ∧ Aside0 (Below w7.heap.size w7 w')
section
variable {w7 W : World} {g gb cap : Nat} {A0 A1 : Option Addr} {c0 c1 : Nat} {p : CS.Prg} {l : CS.Bs}
theorem HeldT.below {w2 : World} (h : HeldT w7 g gb cap A0 A1 c0 c1 p l W) (hb : Below W.heap.size W w2) : HeldT w7 g gb cap A0 A1 c0 c1 p l w2 := by
  obtain ⟨x0, x1, ⟨h4⟩, ⟨h5⟩, ⟨h6⟩, ⟨h7⟩⟩ := h
  exact ⟨pw_cell_below hb x0, pw_cell_below hb x1, ⟨h4.below hb⟩, ⟨h5.below hb⟩, ⟨h6.below hb⟩, ⟨below_then h7 h7.size hb⟩⟩
theorem Enc_held1 {X : Option Addr} {n c : Nat} (q0 : X = some ⟨gb, 0, none⟩) (q1 : n = l.length) (q2 : c = cap) (hwf : Wf p) (h : HeldT w7 g gb cap A0 A1 c0 c1 p l W) :
    Calls Tryz.prog 10 #[.agg #[.slice A0 p.names.length c0, .slice A1 p.code.length c1], .slice X n c] W fun e w' => e = .returned (.bool true) ∧ HeldT w7 g gb cap A0 A1 c0 c1 p l w' := by
  subst q0 q1 q2
  refine (CodeEncodes_any A0 A1 c0 c1 p _ _ l W h.2.2.1.out hwf h.2.2.2.1.out h.2.2.2.2.1.out).mono ?_
  rintro e w' ⟨rfl, hb⟩
  exact ⟨rfl, HeldT.below h hb⟩
theorem Enc_held2 {X : Option Addr} {n m c : Nat} (q0 : X = some ⟨gb, 0, none⟩) (q1 : n = m) (q2 : c = cap) (hm : m ≤ l.length) (hwf : Wf p) (h : HeldT w7 g gb cap A0 A1 c0 c1 p l W) :
    Calls Tryz.prog 10 #[.agg #[.slice A0 p.names.length c0, .slice A1 p.code.length c1], .slice X n c] W fun e w' => e = .returned (.bool true) ∧ HeldT w7 g gb cap A0 A1 c0 c1 p l w' := by
  subst q0 q1 q2
  have hl : (l.take n).length = n := by rw [List.length_take]; omega
  have := CodeEncodes_any A0 A1 c0 c1 p (some ⟨gb, 0, none⟩) c (l.take n) W h.2.2.1.out hwf (h.2.2.2.1.out.take hm) h.2.2.2.2.1.out
  rw [hl] at this
  refine this.mono ?_
  rintro e w' ⟨rfl, hb⟩
  exact ⟨rfl, HeldT.below h hb⟩
end

set_option maxRecDepth 100000 in
set_option maxHeartbeats 4000000 in
theorem CodeTurned_any (A0 A1 : Option Addr) (c0 c1 : Nat) (p : CS.Prg) (at_ by_ cut_ : Int) (w : World) (hp : IsP w A0 c0 A1 c1 p) (hwf : Wf p) (hat : (Lit.int .i64 at_).wf = true) (hbw : (Lit.int .u8 by_).wf = true) (hct : (Lit.int .i64 cut_).wf = true) (hw : Laid w) :
    Calls Tryz.prog 3 #[pv A0 c0 A1 c1 p, .int .i64 at_, .int .u8 by_, .int .i64 cut_] w fun e w' => e = .returned (.bool true) ∧ Below w.heap.size w w' := by
  have HP := Aside0.mk hp
  have HWF := Aside0.mk hwf
  have HL := Aside0.mk hw
  have HBY : Aside0 (0 ≤ by_ ∧ by_ ≤ 255) := ⟨by
    unfold Lit.wf at hbw
    rw [Bool.and_eq_true] at hbw
    have h0 : 0 ≤ by_ := of_decide_eq_true hbw.1
    have h1 : by_ ≤ 255 := of_decide_eq_true hbw.2
    exact ⟨h0, h1⟩⟩
  clear hp hwf hat hbw hct hw
  unfold pv
  go_enter Tryz.func3, Tryz.ntmps3
  go_upto_region 1 with (refine gate_ (.box 25 (.tmp 0)) rfl ?_; refine ev_box 25 (.tmp 0) rfl rfl (by go_simp; rfl) ?_; intro g hg w1 hb hbel; have HBX := Aside0.mk hb; have HW1 := Aside0.mk hbel; clear hb hbel hg)
  go_wp2_with fail
  refine (awake_any _ (HL.out.below HW1.out)).mono ?_
  rintro e w2 ⟨rfl, hb2⟩
  have HW2 := Aside0.mk (below_then HW1.out HW1.out.size hb2)
  have HX2 := Aside0.mk (below_blk hb2 HBX.out)
  clear hb2 HBX
  have x0 : w2.cell? ⟨g, 0, none⟩ = some (.slice A0 p.names.length c0) := (blk_cell HX2.out 0).trans rfl
  have x1 : w2.cell? ⟨g, 1, none⟩ = some (.slice A1 p.code.length c1) := (blk_cell HX2.out 1).trans rfl
  go_wp2_with fail
  refine (Few_any A0 A1 c0 c1 p _ (HP.out.below HW2.out)).mono ?_
  rintro e w3 ⟨rfl, hb3⟩
  have HW3 := Aside0.mk (below_then HW2.out HW2.out.size hb3)
  have HX3 := Aside0.mk (below_blk hb3 HX2.out)
  clear hb3 x0 x1 HX2
  cases hfew : few p with
  | false =>
    clear hfew
    go_wp2_with fail
    refine (awake_any _ (HL.out.below HW3.out)).mono ?_
    rintro e w4 ⟨rfl, hb4⟩
    have HW4 := Aside0.mk hb4
    clear hb4
    go_wp2
    go_ret
    exact ⟨rfl, below_then HW3.out HW3.out.size HW4.out⟩
  | true =>
    have hfew2 := hfew
    unfold few at hfew2
    simp only [Bool.and_eq_true, decide_eq_true_eq] at hfew2
    have HSP : Aside0 (p.names.length ≤ 1000000000 ∧ p.code.length ≤ 1000000000) := ⟨by have := hfew2.1.1; omega, by have := hfew2.2; omega⟩
    clear hfew hfew2
    have x0 : w3.cell? ⟨g, 0, none⟩ = some (.slice A0 p.names.length c0) := (blk_cell HX3.out 0).trans rfl
    have x1 : w3.cell? ⟨g, 1, none⟩ = some (.slice A1 p.code.length c1) := (blk_cell HX3.out 1).trans rfl
    go_wp2_with fail
    refine (Theirs_any A0 A1 c0 c1 p _ (HP.out.below HW3.out) HSP.out.1 HSP.out.2).mono ?_
    rintro e w5 ⟨E0, f0, E1, f1, rfl, hP5, hb5⟩
    have HP5 := Aside0.mk hP5
    have HW5 := Aside0.mk (below_then HW3.out HW3.out.size hb5)
    have HX5 := Aside0.mk (below_blk hb5 HX3.out)
    clear hP5 hb5 x0 x1 HX3
    go_wp2_with fail
    refine (Print_any E0 E1 f0 f1 p _ HP5.out (by have := HSP.out.1; omega) (by have := HSP.out.2; omega) HWF.out (HL.out.below HW5.out)).mono ?_
    rintro e w6 ⟨rfl, hb6⟩
    have HW6 := Aside0.mk (below_then HW5.out HW5.out.size hb6)
    have HX6 := Aside0.mk (below_blk hb6 HX5.out)
    clear hb6 HX5 HP5
    have x0 : w6.cell? ⟨g, 0, none⟩ = some (.slice A0 p.names.length c0) := (blk_cell HX6.out 0).trans rfl
    have x1 : w6.cell? ⟨g, 1, none⟩ = some (.slice A1 p.code.length c1) := (blk_cell HX6.out 1).trans rfl
    unfold CS.print
    by_cases hfm : CS.formed p = true
    · simp only [hfm, if_true]
      have HFM := Aside0.mk hfm
      clear hfm
      go_wp2_with fail
      refine (Theirs_any A0 A1 c0 c1 p _ (HP.out.below HW6.out) HSP.out.1 HSP.out.2).mono ?_
      rintro e w7 ⟨K0, k0, K1, k1, rfl, hP7, hb7⟩
      have HP7 := Aside0.mk hP7
      have HW7 := Aside0.mk (below_then HW6.out HW6.out.size hb7)
      have HX7 := Aside0.mk (below_blk hb7 HX6.out)
      clear hP7 hb7 HX6 x0 x1
      go_wp2_with fail
      refine (Encode_any K0 K1 k0 k1 p _ HP7.out (by have := HSP.out.1; omega) (by have := HSP.out.2; omega) HWF.out).mono ?_
      rintro e w8 ⟨v8, rfl, ho8, hb8⟩
      rw [show (CS.encode p).2 = 0 by unfold CS.encode; rw [if_pos HFM.out]]
      have HW8 := Aside0.mk (below_then HW7.out HW7.out.size hb8)
      have HX8 := Aside0.mk (below_blk hb8 HX7.out)
      have HO8 := Aside0.mk ho8
      clear hb8 ho8 HP7 HX7
      have x0 : w8.cell? ⟨g, 0, none⟩ = some (.slice A0 p.names.length c0) := (blk_cell HX8.out 0).trans rfl
      have x1 : w8.cell? ⟨g, 1, none⟩ = some (.slice A1 p.code.length c1) := (blk_cell HX8.out 1).trans rfl
      obtain ⟨s, hs⟩ : ∃ s, s = sb (CS.text p) := ⟨_, rfl⟩
      obtain ⟨l, hl⟩ : ∃ l, l = (CS.encode p).1 := ⟨_, rfl⟩
      rw [← hs]
      have ho9 := HO8.out
      rw [← hl] at ho9
      have HLEN : Aside0 (0 < l.length ∧ l.length ≤ 10000) := ⟨by rw [hl]; exact encode_pos p HFM.out, by rw [hl]; exact encode_len p HFM.out HWF.out⟩
      have HSZ : Aside0 (s.size ≤ 7000) := ⟨by rw [hs, sb_size]; exact CS.text_len p HFM.out HWF.out⟩
      obtain ⟨gb, cap, cur, rfl, hgb, hcur, hcap⟩ := own_some ho9 HLEN.out.1
      have HO9 := Aside0.mk ho9
      have HGB := Aside0.mk hgb
      have HCUR := Aside0.mk hcur
      have HCAP := Aside0.mk hcap
      clear ho9 hgb hcur hcap HO8 hl hs HFM
      by_cases hpos : 0 < s.size
      · have i1 : decide (0 < s.size) = true := decide_eq_true hpos
        have kb := fun W => print_bytes (P := Tryz.prog) 9 35 5 Tryz.underlying9 Tryz.underlying35 Tryz.underlying5 s W
        obtain ⟨k, hk, e2, -⟩ := turn_at at_ s.size hpos (by have := HSZ.out; omega)
        have e1 := u64_small s.size (by omega) (by have := HSZ.out; omega)
        have e3 : ¬ ((s.size : Int) = 0) := by omega
        have e4 : (0 : Int) ≤ (k : Int) ∧ (k : Int) < (s.size : Int) := by omega
        have hc := Lib.bytesWorld_cell w8 5 s k hk
        have hf := bytes_free w8 5 s k hk
        have kr := reads_set (bytes_reads w8 5 s (by have := HSZ.out; omega)) k hk by_
        have kc := string_of_reads (P := Tryz.prog) (src := 35) (dst := 9) (c := grownCap w8 s.size 0 5) Tryz.underlying35 Tryz.underlying5 Tryz.underlying9 kr
        have KR := Aside0.mk kr
        clear kr
        go_wp2_with fail
        have HBW : Aside0 (Below w8.heap.size w8 ((Lib.bytesWorld w8 5 s).setCell ⟨w8.heap.size, k, none⟩ (.int .u8 by_))) := ⟨(bytes_below (Below.refl _ _) (Nat.le_refl _) _ _).setCell (Nat.le_refl _) _⟩
        obtain ⟨w9, hw9⟩ : ∃ w9, w9 = (Lib.bytesWorld w8 5 s).setCell ⟨w8.heap.size, k, none⟩ (.int .u8 by_) := ⟨_, rfl⟩
        rw [← hw9] at HBW ⊢
        clear hc hf kc kb KR hw9
        have HW9 := Aside0.mk (below_then HW8.out HW8.out.size HBW.out)
        have HX9 := Aside0.mk (below_blk HBW.out HX8.out)
        have HO10 := Aside0.mk (pw_own_below HO9.out HBW.out)
        have HCUR9 := Aside0.mk (below_blk HBW.out HCUR.out)
        have HCUR9 := Aside0.mk (below_blk HBW.out HCUR.out)
        clear x0 x1 HX8 HO9 HBW
        refine (CodeParses_any _ _ (by rw [strOfNums_size, List.length_set, bytesOf_length]; have := HSZ.out; omega) (HL.out.below HW9.out)).mono ?_
        rintro e w10 ⟨rfl, hb10⟩
        have HW10 := Aside0.mk (below_then HW9.out HW9.out.size hb10)
        have HX10 := Aside0.mk (below_blk hb10 HX9.out)
        have HO11 := Aside0.mk (pw_own_below HO10.out hb10)
        have HCUR10 := Aside0.mk (below_blk hb10 HCUR9.out)
        clear hb10 HX9 HO10 e1 e2 e3 e4 hk
        obtain ⟨m, hm, e2, -⟩ := turn_at cut_ (s.size + 1) (by omega) (by have := HSZ.out; omega)
        have e0 : wrap64 ((s.size : Int) + 1) = (s.size : Int) + 1 := by unfold wrap64; have := HSZ.out; omega
        have e1 := u64_small ((s.size : Int) + 1) (by omega) (by have := HSZ.out; omega)
        have e3 : ¬ ((s.size : Int) + 1 = 0) := by omega
        have e4 : (0 : Int) ≤ (m : Int) ∧ (m : Int) ≤ (s.size : Int) := by omega
        rw [show ((s.size + 1 : Nat) : Int) = (s.size : Int) + 1 by omega] at e2
        go_wp2_with fail
        refine (CodeParses_any _ _ (by rw [ByteArray.size_extract]; have := HSZ.out; omega) (HL.out.below HW10.out)).mono ?_
        rintro e w11 ⟨rfl, hb11⟩
        have HW11 := Aside0.mk (below_then HW10.out HW10.out.size hb11)
        have HX11 := Aside0.mk (below_blk hb11 HX10.out)
        have HO12 := Aside0.mk (pw_own_below HO11.out hb11)
        have HC11 := Aside0.mk (below_blk hb11 HCUR10.out)
        clear hb11 HX10 HO11 e0 e1 e2 e3 e4 hm
        obtain ⟨k, hk, e2, -⟩ := turn_at at_ l.length HLEN.out.1 HLEN.out.2
        have e1 := u64_small (l.length : Int) (by omega) (by have := HLEN.out.2; omega)
        have e3 : ¬ ((l.length : Int) = 0) := by have := HLEN.out.1; omega
        have e4 : (0 : Int) ≤ (k : Int) ∧ (k : Int) < (l.length : Int) := by omega
        obtain ⟨v0, hc⟩ := own_cell HO12.out k hk
        have hf := blk_free HC11.out k
        go_wp2_with fail
        have HBZ : Aside0 (Below w.heap.size w (w11.setCell ⟨gb, k, none⟩ (.int .u8 by_))) := ⟨HW11.out.setCell (show w.heap.size ≤ gb by have := HGB.out; have := HW7.out.size; omega) _⟩
        have HXZ := Aside0.mk (blk_far (p := ⟨gb, k, none⟩) HX11.out (fun e => by have h1 := HX11.out; have h2 := HC11.out; rw [e] at h1; rw [h1] at h2; injection h2 with h2; injection h2 with _ h2; exact absurd h2 (by decide)) (.int .u8 by_))
        have HOZ := Aside0.mk (own_turn HO12.out k by_ HBY.out)
        obtain ⟨wz, hwz⟩ : ∃ wz, wz = w11.setCell ⟨gb, k, none⟩ (.int .u8 by_) := ⟨_, rfl⟩
        rw [← hwz] at HBZ HXZ HOZ ⊢
        obtain ⟨lz, hlz⟩ : ∃ lz, lz = l.set k (UInt8.ofNat by_.toNat) := ⟨_, rfl⟩
        have hll : lz.length = l.length := by rw [hlz, List.length_set]
        rw [← hlz] at HOZ
        have HLL := Aside0.mk hll
        have hob := HOZ.out
        rw [← hll] at hob
        have HBB := Aside0.mk (isB_at hob (by have := HLEN.out.2; omega))
        clear hc hf hwz hlz hll hob e1 e2 e3 e4 hk 
        have x0 : wz.cell? ⟨g, 0, none⟩ = some (.slice A0 p.names.length c0) := (blk_cell HXZ.out 0).trans rfl
        have x1 : wz.cell? ⟨g, 1, none⟩ = some (.slice A1 p.code.length c1) := (blk_cell HXZ.out 1).trans rfl
        obtain ⟨m, hm, e2, e10⟩ := turn_at cut_ l.length HLEN.out.1 HLEN.out.2
        have e1 := u64_small (l.length : Int) (by omega) (by have := HLEN.out.2; omega)
        have e3 : ¬ ((l.length : Int) = 0) := by have := HLEN.out.1; omega
        have e4 : (0 : Int) ≤ (m : Int) ∧ (m : Int) ≤ (l.length : Int) := by omega
        have HM : Aside0 (m ≤ lz.length) := ⟨by rw [HLL.out]; omega⟩
        have hcp := HCAP.out
        have e5 : m ≤ cap := by omega
        obtain ⟨n, hn⟩ : ∃ n, n = l.length := ⟨_, rfl⟩
        rw [← hn] at e1 e2 e3 e4 e10 hm hcp ⊢
        have HN := Aside0.mk hn
        clear hn
        have e6 : ¬ (IntKind.u64.wrap (n : Int) = 0) := by rw [e1]; exact e3
        have e7 : (IntKind.u64.wrap (n : Int) == 0) = false := by rw [beq_eq_false_iff_ne]; exact e6
        have e8 : wrap64 ((IntKind.u64.wrap cut_).tmod (IntKind.u64.wrap (n : Int))) = (m : Int) := by rw [e1]; exact e2
        have n1 : (0 : Int) ≤ (m : Int) := e4.1
        have n2 : (m : Int) ≤ (n : Int) := e4.2
        have n3 : (m : Int) ≤ (cap : Int) := by omega
        clear e4
        have e9 : ¬ (n = 0) := by omega
        go_region_held3 (fun w' => w'.cell? ⟨g, 0, none⟩ = some (.slice A0 p.names.length c0) ∧ w'.cell? ⟨g, 1, none⟩ = some (.slice A1 p.code.length c1) ∧ Aside0 (IsP w' A0 c0 A1 c1 p) ∧ Aside0 (IsB w' (some ⟨gb, 0, none⟩) cap lz) ∧ Aside0 (Laid w') ∧ Aside0 (Below wz.heap.size wz w')) (first | assumption | exact ⟨x0, x1, ⟨(HP.out.below HBZ.out).below (below_drew (Below.refl _ _))⟩, ⟨HBB.out.below (below_drew (Below.refl _ _))⟩, ⟨(HL.out.below HBZ.out).below (below_drew (Below.refl _ _))⟩, ⟨below_drew (Below.refl _ _)⟩⟩) (first | (go_at_call 10; refine (Enc_held2 (w7 := wz) (g := g) (gb := gb) (cap := cap) (p := p) (l := lz) (m := m) (by rfl) (by rfl) (by rfl) HM.out HWF.out (by assumption)).mono ?_; rintro e w19 ⟨rfl, hS⟩; have HB19 := Aside0.mk hS.2.2.2.2.2.out) | (go_at_call 10; refine (Enc_held1 (w7 := wz) (g := g) (gb := gb) (cap := cap) (p := p) (l := lz) (by rfl) (by exact HN.out.trans HLL.out.symm) (by rfl) HWF.out (by assumption)).mono ?_; rintro e w18 ⟨rfl, hS⟩))
        all_goals go_wp2
        all_goals go_ret
        all_goals exact ⟨rfl, below_then HBZ.out HBZ.out.size HB19.out⟩
      · have i1 : decide (0 < s.size) = false := decide_eq_false hpos
        obtain ⟨k, hk, e2, -⟩ := turn_at at_ l.length HLEN.out.1 HLEN.out.2
        have e1 := u64_small (l.length : Int) (by omega) (by have := HLEN.out.2; omega)
        have e3 : ¬ ((l.length : Int) = 0) := by have := HLEN.out.1; omega
        have e4 : (0 : Int) ≤ (k : Int) ∧ (k : Int) < (l.length : Int) := by omega
        obtain ⟨v0, hc⟩ := own_cell HO9.out k hk
        have hf := blk_free HCUR.out k
        go_wp2_with fail
        have HBZ : Aside0 (Below w.heap.size w (w8.setCell ⟨gb, k, none⟩ (.int .u8 by_))) := ⟨HW8.out.setCell (show w.heap.size ≤ gb by have := HGB.out; have := HW7.out.size; omega) _⟩
        have HXZ := Aside0.mk (blk_far (p := ⟨gb, k, none⟩) HX8.out (fun e => by have h1 := HX8.out; have h2 := HCUR.out; rw [e] at h1; rw [h1] at h2; injection h2 with h2; injection h2 with _ h2; exact absurd h2 (by decide)) (.int .u8 by_))
        have HOZ := Aside0.mk (own_turn HO9.out k by_ HBY.out)
        obtain ⟨wz, hwz⟩ : ∃ wz, wz = w8.setCell ⟨gb, k, none⟩ (.int .u8 by_) := ⟨_, rfl⟩
        rw [← hwz] at HBZ HXZ HOZ ⊢
        obtain ⟨lz, hlz⟩ : ∃ lz, lz = l.set k (UInt8.ofNat by_.toNat) := ⟨_, rfl⟩
        have hll : lz.length = l.length := by rw [hlz, List.length_set]
        rw [← hlz] at HOZ
        have HLL := Aside0.mk hll
        have hob := HOZ.out
        rw [← hll] at hob
        have HBB := Aside0.mk (isB_at hob (by have := HLEN.out.2; omega))
        clear hc hf hwz hlz hll hob e1 e2 e3 e4 hk x0 x1
        have x0 : wz.cell? ⟨g, 0, none⟩ = some (.slice A0 p.names.length c0) := (blk_cell HXZ.out 0).trans rfl
        have x1 : wz.cell? ⟨g, 1, none⟩ = some (.slice A1 p.code.length c1) := (blk_cell HXZ.out 1).trans rfl
        obtain ⟨m, hm, e2, e10⟩ := turn_at cut_ l.length HLEN.out.1 HLEN.out.2
        have e1 := u64_small (l.length : Int) (by omega) (by have := HLEN.out.2; omega)
        have e3 : ¬ ((l.length : Int) = 0) := by have := HLEN.out.1; omega
        have e4 : (0 : Int) ≤ (m : Int) ∧ (m : Int) ≤ (l.length : Int) := by omega
        have HM : Aside0 (m ≤ lz.length) := ⟨by rw [HLL.out]; omega⟩
        have hcp := HCAP.out
        have e5 : m ≤ cap := by omega
        obtain ⟨n, hn⟩ : ∃ n, n = l.length := ⟨_, rfl⟩
        rw [← hn] at e1 e2 e3 e4 e10 hm hcp ⊢
        have HN := Aside0.mk hn
        clear hn
        have e6 : ¬ (IntKind.u64.wrap (n : Int) = 0) := by rw [e1]; exact e3
        have e7 : (IntKind.u64.wrap (n : Int) == 0) = false := by rw [beq_eq_false_iff_ne]; exact e6
        have e8 : wrap64 ((IntKind.u64.wrap cut_).tmod (IntKind.u64.wrap (n : Int))) = (m : Int) := by rw [e1]; exact e2
        have n1 : (0 : Int) ≤ (m : Int) := e4.1
        have n2 : (m : Int) ≤ (n : Int) := e4.2
        have n3 : (m : Int) ≤ (cap : Int) := by omega
        clear e4
        have e9 : ¬ (n = 0) := by omega
        go_region_held3 (fun w' => w'.cell? ⟨g, 0, none⟩ = some (.slice A0 p.names.length c0) ∧ w'.cell? ⟨g, 1, none⟩ = some (.slice A1 p.code.length c1) ∧ Aside0 (IsP w' A0 c0 A1 c1 p) ∧ Aside0 (IsB w' (some ⟨gb, 0, none⟩) cap lz) ∧ Aside0 (Laid w') ∧ Aside0 (Below wz.heap.size wz w')) (first | assumption | exact ⟨x0, x1, ⟨(HP.out.below HBZ.out).below (below_drew (Below.refl _ _))⟩, ⟨HBB.out.below (below_drew (Below.refl _ _))⟩, ⟨(HL.out.below HBZ.out).below (below_drew (Below.refl _ _))⟩, ⟨below_drew (Below.refl _ _)⟩⟩) (first | (go_at_call 10; refine (Enc_held2 (w7 := wz) (g := g) (gb := gb) (cap := cap) (p := p) (l := lz) (m := m) (by rfl) (by rfl) (by rfl) HM.out HWF.out (by assumption)).mono ?_; rintro e w19 ⟨rfl, hS⟩; have HB19 := Aside0.mk hS.2.2.2.2.2.out) | (go_at_call 10; refine (Enc_held1 (w7 := wz) (g := g) (gb := gb) (cap := cap) (p := p) (l := lz) (by rfl) (by exact HN.out.trans HLL.out.symm) (by rfl) HWF.out (by assumption)).mono ?_; rintro e w18 ⟨rfl, hS⟩))
        all_goals go_wp2
        all_goals go_ret
        all_goals exact ⟨rfl, below_then HBZ.out HBZ.out.size HB19.out⟩
    · have HNF := Aside0.mk hfm
      simp only [hfm]
      clear hfm
      go_wp2_with fail
      refine (Theirs_any A0 A1 c0 c1 p _ (HP.out.below HW6.out) HSP.out.1 HSP.out.2).mono ?_
      rintro e w7 ⟨K0, k0, K1, k1, rfl, hP7, hb7⟩
      have HP7 := Aside0.mk hP7
      have HW7 := Aside0.mk (below_then HW6.out HW6.out.size hb7)
      clear hP7 hb7 x0 x1
      go_wp2_with fail
      refine (Encode_any K0 K1 k0 k1 p _ HP7.out (by have := HSP.out.1; omega) (by have := HSP.out.2; omega) HWF.out).mono ?_
      rintro e w8 ⟨v8, rfl, ho8, hb8⟩
      rw [show (CS.encode p).2 = 1 by unfold CS.encode; rw [if_neg HNF.out]]
      have HW8 := Aside0.mk (below_then HW7.out HW7.out.size hb8)
      clear hb8 ho8 HP7
      go_wp2
      go_ret
      exact ⟨rfl, HW8.out⟩
end Go.Proofs.YtpapbigghiiolaaGreatDoor
