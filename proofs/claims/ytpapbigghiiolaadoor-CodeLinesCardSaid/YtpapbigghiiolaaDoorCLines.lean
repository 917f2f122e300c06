/-
  CodeLines answers true.
-/
import Derived.Test.YtpapbigghiiolaaDoorCLaw
import Derived.Test.YtpapbigghiiolaaDoorCPlain
set_option linter.unusedVariables false
namespace Go.Proofs.YtpapbigghiiolaaDoor
open Go.RowKit Go.Proofs.YtpapbigghiiolaaDoorW.PrintWords PAll

set_option maxRecDepth 100000 in
set_option maxHeartbeats 2000000 in
theorem CodeLines_any (A0 A1 : Option Addr) (c0 c1 : Nat) (p : CS.Prg) (l b : ByteArray) (w : World) (hp : IsP w A0 c0 A1 c1 p) (hwf : Wf p) (hl : l.size ≤ 9223372036854775807) (hbs : b.size ≤ 9223372036854775807) (hw : Laid w) :
    Calls Tryd.prog 4 #[pv A0 c0 A1 c1 p, .string l, .string b] w fun e w' => e = .returned (.bool true) ∧ Below w.heap.size w w' := by
  have HP := Aside0.mk hp
  have HWF := Aside0.mk hwf
  have HL := Aside0.mk hw
  clear hp hwf hw
  unfold pv
  go_enter Tryd.func4, Tryd.ntmps4
  go_wp2_with (refine gate_ (.box 32 (.tmp 0)) rfl ?_; refine ev_box 32 (.tmp 0) rfl rfl (by go_simp; rfl) ?_; intro gb hg w1 hb hbel; have HBX := Aside0.mk hb; have HW1 := Aside0.mk hbel; clear hb hbel hg)
  refine (awake_any _ (HL.out.below HW1.out)).mono ?_
  rintro e w2 ⟨rfl, hb2⟩
  have HW2 := Aside0.mk (below_then HW1.out HW1.out.size hb2)
  have HBX2 := Aside0.mk (below_blk hb2 HBX.out)
  clear hb2
  have x0 : w2.cell? ⟨gb, 0, none⟩ = some (.slice A0 p.names.length c0) := (blk_cell HBX2.out 0).trans rfl
  have x1 : w2.cell? ⟨gb, 1, none⟩ = some (.slice A1 p.code.length c1) := (blk_cell HBX2.out 1).trans rfl
  go_wp2_with fail
  refine (Few_any A0 A1 c0 c1 p _ (HP.out.below HW2.out)).mono ?_
  rintro e w3 ⟨rfl, hb3⟩
  have HW3 := Aside0.mk (below_then HW2.out HW2.out.size hb3)
  have HBX3 := Aside0.mk (below_blk hb3 HBX2.out)
  clear hb3 x0 x1
  have x0 : w3.cell? ⟨gb, 0, none⟩ = some (.slice A0 p.names.length c0) := (blk_cell HBX3.out 0).trans rfl
  have x1 : w3.cell? ⟨gb, 1, none⟩ = some (.slice A1 p.code.length c1) := (blk_cell HBX3.out 1).trans rfl
  cases hfew : few p with
  | false =>
    clear hfew
    go_wp2_with fail
    refine (awake_any _ (HL.out.below HW3.out)).mono ?_
    rintro e w4 ⟨rfl, hb4⟩
    have HW4 := Aside0.mk hb4
    clear hb4
    go_wp2
    go_ret
    exact ⟨rfl, below_then HW3.out HW3.out.size HW4.out⟩
  | true =>
    have hfew2 := hfew
    unfold few at hfew2
    simp only [Bool.and_eq_true, decide_eq_true_eq] at hfew2
    have hn51 : p.names.length ≤ 51 := hfew2.1.1
    have hc1000 : p.code.length ≤ 1000 := hfew2.2
    clear hfew hfew2
    by_cases hl1 : (1000 : Int) < (l.size : Int)
    · have t1 : decide ((1000 : Int) < (l.size : Int)) = true := decide_eq_true hl1
      clear hl1
      go_wp2_with fail
      refine (awake_any _ (HL.out.below HW3.out)).mono ?_
      rintro e w4 ⟨rfl, hb4⟩
      have HW4 := Aside0.mk hb4
      clear hb4
      go_wp2
      go_ret
      exact ⟨rfl, below_then HW3.out HW3.out.size HW4.out⟩
    have t1 : decide ((1000 : Int) < (l.size : Int)) = false := decide_eq_false hl1
    by_cases hb1 : (5000 : Int) < (b.size : Int)
    · have t2 : decide ((5000 : Int) < (b.size : Int)) = true := decide_eq_true hb1
      clear hl1 hb1
      go_wp2_with fail
      refine (awake_any _ (HL.out.below HW3.out)).mono ?_
      rintro e w4 ⟨rfl, hb4⟩
      have HW4 := Aside0.mk hb4
      clear hb4
      go_wp2
      go_ret
      exact ⟨rfl, below_then HW3.out HW3.out.size HW4.out⟩
    have t2 : decide ((5000 : Int) < (b.size : Int)) = false := decide_eq_false hb1
    have hls : l.size ≤ 1000 := by omega
    have hbs2 : b.size ≤ 5000 := by omega
    clear hl1 hb1 hl hbs
    go_wp2_with fail
    refine (Theirs_any A0 A1 c0 c1 p _ (HP.out.below HW3.out) (by omega) (by omega)).mono ?_
    rintro e w4 ⟨B0, d0, B1, d1, rfl, hP4, hb4⟩
    have HP4 := Aside0.mk hP4
    have HW4 := Aside0.mk (below_then HW3.out HW3.out.size hb4)
    have HBX4 := Aside0.mk (below_blk hb4 HBX3.out)
    clear hP4 hb4 x0 x1
    go_wp2_with fail
    refine (Print_any B0 B1 d0 d1 p _ HP4.out (by omega) (by omega) HWF.out (HL.out.below HW4.out)).mono ?_
    rintro e w5 ⟨rfl, hb5⟩
    have HW5 := Aside0.mk (below_then HW4.out HW4.out.size hb5)
    have HBX5 := Aside0.mk (below_blk hb5 HBX4.out)
    clear hb5
    obtain ⟨s, hs⟩ : ∃ s, s = (CS.print p).1 := ⟨_, rfl⟩
    obtain ⟨pe, hpe⟩ : ∃ pe, pe = (CS.print p).2 := ⟨_, rfl⟩
    rw [← hs, ← hpe]
    have HS := Aside0.mk hs
    have HPE := Aside0.mk hpe
    clear hs hpe
    go_wp2
    have hsz : l.data.toList.length = l.size := by rw [Array.length_toList]; rfl
    have HLS := Aside0.mk hsz
    clear hsz
    go_loop [42] (fun v => ∃ i : Nat, v = .int .i64 i ∧ i ≤ l.size ∧ Aside0 (∀ x ∈ l.data.toList.take i, x ≠ 10)) (fun v => l.size - (intOf v).toNat)
    case atStart => exact ⟨0, rfl, Nat.zero_le _, ⟨by simp⟩⟩
    case round =>
      obtain ⟨i, rfl, hi, HI⟩ := hrel
      by_cases hlt : i < l.size
      · have i1 : decide ((i : Int) < (l.size : Int)) = true := decide_eq_true (by omega)
        obtain ⟨c, hc⟩ : ∃ c, c = l.data.toList.getD i 0 := ⟨_, rfl⟩
        have hg : l[i]'hlt = c := by rw [hc, bget]
        have HC := Aside0.mk hc
        clear hc
        by_cases hnl : c = 10
        · have u1 : ((c.toNat : Int) == 10) = true := by rw [hnl]; rfl
          clear hnl
          go_wp2
          go_ret
          exact ⟨rfl, HW5.out⟩
        · have u1 : ((c.toNat : Int) == 10) = false := by
            rw [beq_eq_false_iff_ne]
            intro e
            apply hnl
            have : c.toNat = 10 := by omega
            rw [← UInt8.ofNat_toNat (x := c), this]; rfl
          have HN := Aside0.mk hnl
          clear hnl
          go_wp2
          go_round
          case rel =>
            refine ⟨i + 1, by go_num, hlt, ⟨?_⟩⟩
            intro x hx
            have hl := HLS.out
            rw [List.take_succ_eq_append_getElem (by omega)] at hx
            rcases List.mem_append.1 hx with hx | hx
            · exact HI.out x hx
            · rw [List.mem_singleton.1 hx]
              have hcc := HC.out
              rw [List.getD_eq_getElem?_getD, List.getElem?_eq_getElem (by omega)] at hcc
              simp only [Option.getD_some] at hcc
              rw [← hcc]
              exact HN.out
          case measure => simp [intOf]; omega
      · have HNL : Aside0 (∀ x ∈ l.data.toList, x ≠ 10) := ⟨by
          have := HI.out
          rwa [List.take_of_length_le (by have := HLS.out; omega)] at this⟩
        have tk : decide ((i : Int) < (l.size : Int)) = false := decide_eq_false (by omega)
        clear HI
        go_wp2_with fail
        refine (Parse_any _ _ (HL.out.below HW5.out)).mono ?_
        rintro e w6 ⟨E0, f0, E1, f1, rfl, hP6, hb6⟩
        have hdat : (l ++ (⟨#[10]⟩ : ByteArray)).data.toList = l.data.toList ++ [10] := by rw [ByteArray.data_append, Array.toList_append]
        rw [hdat] at hP6 ⊢
        clear hdat hP6
        obtain ⟨q1, n1, e1, hq1⟩ : ∃ q1 n1 e1, CS.parse (l.data.toList ++ [10]) = (q1, n1, e1) := ⟨_, _, _, rfl⟩
        rw [hq1]
        have HQ1 := Aside0.mk hq1
        have HW6 := Aside0.mk (below_then HW5.out HW5.out.size hb6)
        have HBX6 := Aside0.mk (below_blk hb6 HBX5.out)
        clear hq1 hb6
        simp only [pv]
        go_upto_region 11 with (first | (refine gate_ (.alloc 26) rfl ?_; refine ev_alloc 26 rfl rfl (by go_simp; rfl) ?_; intro g hg w7 hb hbel; have HG7 := Aside0.mk hb; have HW7 := Aside0.mk hbel; have HG := Aside0.mk hg; clear hb hbel hg) | (refine gate_ (.store 26 (.tmp 10) (.tmp 54)) rfl ?_; refine ev_store 26 (.tmp 10) (.tmp 54) rfl rfl rfl rfl HG7.out rfl (by kernel_rfl) rfl rfl ?_; intro w8 hb8 hk8; have HL8 := Aside0.mk (below_keep HW7.out hk8 (fun i h => by rw [h, HG.out]; exact Nat.le_refl _)); clear hb8 hk8))
        have HW8 := Aside0.mk (below_then HW6.out HW6.out.size HL8.out)
        have HBX8 := Aside0.mk (below_blk HL8.out HBX6.out)
        clear HG7 HW7 HG HL8
        by_cases hpe0 : pe = 0
        · have u1 : (pe != 0) = false := by simp [hpe0]
          by_cases he2 : e1 = 2
          · have u2 : (e1 != 2) = false := by simp [he2]
            by_cases hn1 : n1 = 1
            · have u3 : (n1 != 1) = false := by simp [hn1]
              have hfm : CS.formed p = true := by
                cases hf : CS.formed p with
                | true => rfl
                | false =>
                  have := HPE.out
                  unfold CS.print at this
                  rw [hf, if_neg (by decide)] at this
                  rw [hpe0] at this
                  cases this
              have hst : s = CS.text p := by
                have := HS.out
                unfold CS.print at this
                rw [hfm, if_pos rfl] at this
                exact this
              have hll : l.data.toList.length ≤ 1000 := by have := HLS.out; omega
              have hbl : b.data.toList.length ≤ 5000 := by rw [Array.length_toList]; exact hbs2
              have hlo := CS.parse_alone l.data.toList HNL.out hll q1 e1 (by rw [HQ1.out, hn1])
              have hres := CS.parse_wrong p hfm HWF.out l.data.toList b.data.toList HNL.out hll hbl hlo
              have htl := CS.text_len p hfm HWF.out
              have hssz : (sb s).size ≤ 7000 := by rw [sb_size, hst]; exact htl
              have hdat : (sb s ++ l ++ (⟨#[10]⟩ : ByteArray) ++ b).data.toList = CS.text p ++ l.data.toList ++ [10] ++ b.data.toList := by
                rw [ByteArray.data_append, ByteArray.data_append, ByteArray.data_append, Array.toList_append, Array.toList_append, Array.toList_append, sb_data, hst]
              rw [← hdat] at hres
              have HRES := Aside0.mk hres
              clear hpe0 he2 hn1 hfm hst hll hbl hlo hres htl hdat
              go_wp2_with fail
              refine (Parse_any _ _ (HL.out.below HW8.out)).mono ?_
              rintro e w9 ⟨G0, g0, G1, g1, rfl, hP9, hb9⟩
              rw [HRES.out] at hP9 ⊢
              have HW9 := Aside0.mk (below_then HW8.out HW8.out.size hb9)
              have HBX9 := Aside0.mk (below_blk hb9 HBX8.out)
              clear hP9 hb9
              simp only [pv, CS.nil, List.length_nil]
              go_upto_region 14 with (first | (refine gate_ (.alloc 26) rfl ?_; refine ev_alloc 26 rfl rfl (by go_simp; rfl) ?_; intro g hg w10 hb hbel; have HG10 := Aside0.mk hb; have HW10 := Aside0.mk hbel; have HG := Aside0.mk hg; clear hb hbel hg) | (refine gate_ (.store 26 (.tmp 13) (.tmp 75)) rfl ?_; refine ev_store 26 (.tmp 13) (.tmp 75) rfl rfl rfl rfl HG10.out rfl (by kernel_rfl) rfl rfl ?_; intro w11 hb11 hk11; have HL11 := Aside0.mk (below_keep HW10.out hk11 (fun i h => by rw [h, HG.out]; exact Nat.le_refl _)); have y1 : w11.cell? ⟨g, 1, none⟩ = some (.slice G1 0 g1) := (blk_cell hb11 1).trans rfl; clear hb11 hk11))
              have x0 : w11.cell? ⟨gb, 0, none⟩ = some (.slice A0 p.names.length c0) := (blk_cell (below_blk HL11.out HBX9.out) 0).trans rfl
              have x1 : w11.cell? ⟨gb, 1, none⟩ = some (.slice A1 p.code.length c1) := (blk_cell (below_blk HL11.out HBX9.out) 1).trans rfl
              go_wp2
              go_ret
              exact ⟨rfl, below_then HW9.out HW9.out.size HL11.out⟩
            · have u3 : (n1 != 1) = true := by simp [hn1]
              clear hpe0 he2 hn1
              go_wp2
              go_ret
              exact ⟨rfl, HW8.out⟩
          · have u2 : (e1 != 2) = true := by simp [he2]
            clear hpe0 he2
            go_wp2
            go_ret
            exact ⟨rfl, HW8.out⟩
        · have u1 : (pe != 0) = true := by simp [hpe0]
          clear hpe0
          go_wp2
          go_ret
          exact ⟨rfl, HW8.out⟩
end Go.Proofs.YtpapbigghiiolaaDoor
