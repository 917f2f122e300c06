/-
  code.instr.
-/
import Derived.Test.YtpapbigghiiolaaGreatDoorCInt
import Derived.Test.YtpapbigghiiolaaGreatDoorCRules
set_option linter.unusedVariables false
namespace Go.Proofs.YtpapbigghiiolaaGreatDoor
open Go.RowKit Go.Proofs.YtpapbigghiiolaaGreatDoorW.PrintWords

theorem Cut_any (s : ByteArray) (m : ByteArray) (w : World) (hw : Laid w) (hs : s.size < 4294967281) :
    Calls Tryz.prog 29 #[.string s, .string m] w fun e w' => e = .returned (.tuple #[.string (sb (Lib.cut s.data.toList m.data.toList).1), .string (sb (Lib.cut s.data.toList m.data.toList).2.1), .bool (Lib.cut s.data.toList m.data.toList).2.2]) ∧ ∃ n, w' = w.drewN n := by
  obtain ⟨k, hk⟩ := hw.maxl
  exact Tryz.strings_Cut s m k w hs hk

def insV (x : CS.Ins) : Value := .agg #[.int .i64 x.op, .int .i64 x.arg]
def InstrPost (l : CS.Bs) (w : World) (e : Ending) (w' : World) : Prop :=
  ∃ x : CS.Ins, e = .returned (.tuple #[insV x, .bool (CS.insLine l).isSome]) ∧ (∀ i, CS.insLine l = some i → x = i) ∧ Below w.heap.size w w'

theorem cut_le (s m : CS.Bs) : (Lib.cut s m).1.length ≤ s.length ∧ (Lib.cut s m).2.1.length ≤ s.length := by
  unfold Lib.cut
  split
  · exact ⟨by simp; omega, by simp⟩
  · exact ⟨Nat.le_refl _, Nat.zero_le _⟩

set_option maxRecDepth 100000 in
set_option maxHeartbeats 1000000 in
theorem instr_any (s : ByteArray) (w : World) (hs : s.size ≤ 140737488355 ) (hs2 : s.size < 4294967281) (hw : Laid w) :
    Calls Tryz.prog 32 #[.string s] w (InstrPost s.data.toList w) := by
  have HL := Aside0.mk hw
  clear hw
  obtain ⟨cw, ca, has, hc⟩ : ∃ cw ca has, Lib.cut s.data.toList [32] = (cw, ca, has) := ⟨_, _, _, rfl⟩
  have HC := Aside0.mk hc
  have HCA : Aside0 (ca.length ≤ s.size) := ⟨by have := (cut_le s.data.toList [32]).2; rw [hc] at this; have hz : s.data.toList.length = s.size := by rw [Array.length_toList]; rfl
                                                simp only at this; omega⟩
  clear hc
  go_enter Tryz.func32, Tryz.ntmps32
  go_wp2_with (refine gate_ (.alloc 45) rfl ?_; refine ev_alloc 45 rfl rfl (by go_simp; rfl) ?_; intro g hg w1 hb hbel; have HB := Aside0.mk hb; have HW := Aside0.mk hbel; have HG := Aside0.mk hg; clear hb hbel hg)
  refine (Cut_any s ⟨#[32]⟩ _ (HL.out.below HW.out) hs2).mono ?_
  rw [show (⟨#[32]⟩ : ByteArray).data.toList = [32] from rfl, HC.out]
  rintro e w2 ⟨rfl, nn, rfl⟩
  go_wp2
  go_loopw [3, 7] (fun v3 v wr => ∃ k : Nat, v = .int .i64 (k : Int) ∧ v3 = .bool false ∧ k ≤ 24 ∧ Aside0 (CS.findOp cw CS.ops 0 = CS.findOp cw (CS.ops.drop k) k) ∧ Aside0 (wr.heap[g]? = some (.cells #[.int .i64 0, .int .i64 0] 45 (0, 0))) ∧ Aside0 (Below w.heap.size w wr)) (fun _ v _ => 24 - (intOf v).toNat)
  case atStart => exact ⟨0, rfl, rfl, by omega, ⟨rfl⟩, ⟨HB.out⟩, ⟨pw_below_drewN HW.out nn⟩⟩
  case round =>
    obtain ⟨k, rfl, rfl, hk, HK, HBr, HWr⟩ := hrel
    by_cases h24 : k = 24
    · subst h24
      have HR : Aside0 (opRes 24 = .tuple #[.string (sb []), .int .i64 0, .bool false]) := ⟨opRes_none (.inr (by decide))⟩
      have HI : Aside0 (CS.insLine s.data.toList = none) := ⟨by unfold CS.insLine; rw [HC.out]; simp only; rw [HK.out]; rfl⟩
      clear HK
      go_wp2_with fail
      refine (operation_any _ _).mono ?_
      rw [HR.out]
      rintro e w2 ⟨rfl, hb2⟩
      have hn2 := below_blk hb2 HBr.out
      have HB2 := Aside0.mk hb2
      clear hb2
      go_wp2_with (refine gate_ (.store 45 (.tmp 2) (.tmp 28)) rfl ?_; refine ev_store 45 (.tmp 2) (.tmp 28) rfl rfl rfl rfl hn2 rfl (by kernel_rfl) rfl rfl ?_; intro w3 hb3 hk3; have HB3 := Aside0.mk hb3; have HK3 := Aside0.mk hk3; clear hb3 hk3 hn2)
      (try simp only [Exit.inBlock, Exit.then])
      refine bodyPost_ret (results_cell2 _ _ _ 2 3 rfl rfl HB3.out) rfl ?_
      exact ⟨⟨0, 0⟩, by rw [HI.out]; rfl, (fun i h => by rw [HI.out] at h; cases h), below_keep (below_then HWr.out HWr.out.size HB2.out) HK3.out (fun i h => by rw [h, HG.out]; exact Nat.le_refl _)⟩
    · have hlt : k < 24 := by omega
      obtain ⟨q, hq⟩ : ∃ q, q = CS.ops.getD k ([], 0) := ⟨_, rfl⟩
      have HR : Aside0 (opRes (k : Int) = .tuple #[.string (sb q.1), .int .i64 q.2, .bool true]) := ⟨opRes_some hlt hq⟩
      have HD : Aside0 (CS.ops.drop k = q :: CS.ops.drop (k + 1)) := ⟨by
        have hl : k < CS.ops.length := hlt
        rw [List.drop_eq_getElem_cons hl, hq, List.getD_eq_getElem?_getD, List.getElem?_eq_getElem hl]
        rfl⟩
      clear hq
      by_cases hw : q.1 = cw
      · have HF : Aside0 (CS.findOp cw CS.ops 0 = some (k, q.2)) := ⟨by rw [HK.out, HD.out]; simp only [CS.findOp]; rw [if_pos hw]⟩
        have t1 : ((sb q.1).toList == (sb cw).toList) = true := by rw [hw]; simp
        clear hw
        go_wp2_with fail
        refine (operation_any _ _).mono ?_
        rw [HR.out]
        rintro e w2 ⟨rfl, hb2⟩
        have hn2 := below_blk hb2 HBr.out
        have HB2 := Aside0.mk (below_then HWr.out HWr.out.size hb2)
        clear hb2
        by_cases hq0 : q.2 = 0
        · have HI : Aside0 (CS.insLine s.data.toList = if has then none else some ⟨k, 0⟩) := ⟨by unfold CS.insLine; rw [HC.out]; simp only; rw [HF.out]; simp only; rw [if_pos hq0]⟩
          have t2 : (q.2 == 0) = true := by simp [hq0]
          clear hq0
          go_wp2_with (refine gate_ (.store 45 (.tmp 2) (.tmp 35)) rfl ?_; refine ev_store 45 (.tmp 2) (.tmp 35) rfl rfl rfl rfl hn2 rfl (by kernel_rfl) rfl rfl ?_; intro w3 hb3 hk3; have HB3 := Aside0.mk hb3; have HK3 := Aside0.mk hk3; clear hb3 hk3 hn2)
          (try simp only [Exit.inBlock, Exit.then])
          refine bodyPost_ret (results_cell2 _ _ _ 2 3 rfl rfl HB3.out) rfl ?_
          refine ⟨⟨k, 0⟩, ?_, ?_, below_keep HB2.out HK3.out (fun i h => by rw [h, HG.out]; exact Nat.le_refl _)⟩
          · rw [HI.out]
            cases has <;> rfl
          · rw [HI.out]
            intro i h
            cases has
            · cases h; rfl
            · cases h
        · have HI : Aside0 (CS.insLine s.data.toList = if has then (CS.intOf ca).map (fun n => ⟨k, n⟩) else none) := ⟨by unfold CS.insLine; rw [HC.out]; simp only; rw [HF.out]; simp only; rw [if_neg hq0]⟩
          have t2 : (q.2 == 0) = false := by simpa using hq0
          clear hq0
          go_wp2_with fail
          refine (Int_any (sb ca) _ ?h1 ?h2).mono ?_
          case h1 => rw [sb_size]; have := HCA.out; omega
          case h2 => exact HL.out.below HB2.out
          rw [sb_data]
          rintro e w3 ⟨n, rfl, hn, hb3⟩
          have HN := Aside0.mk hn
          have hn3 := below_blk hb3 hn2
          have HB3 := Aside0.mk (below_then HB2.out HB2.out.size hb3)
          clear hn hb3 hn2
          obtain ⟨ok, hok⟩ : ∃ ok, ok = (CS.intOf ca).isSome := ⟨_, rfl⟩
          rw [← hok]
          have HOK := Aside0.mk hok
          clear hok
          go_wp2_with (refine gate_ (.store 45 (.tmp 2) (.tmp 45)) rfl ?_; refine ev_store 45 (.tmp 2) (.tmp 45) rfl rfl rfl rfl hn3 rfl (by kernel_rfl) rfl rfl ?_; intro w4 hb4 hk4; have HB4 := Aside0.mk hb4; have HK4 := Aside0.mk hk4; clear hb4 hk4 hn3)
          · have hh : has = true := by assumption
            (try simp only [Exit.inBlock, Exit.then])
            refine bodyPost_ret (results_cell2 _ _ _ 2 3 rfl rfl HB4.out) rfl ?_
            refine ⟨⟨k, n⟩, ?_, ?_, below_keep HB3.out HK4.out (fun i h => by rw [h, HG.out]; exact Nat.le_refl _)⟩
            · rw [HI.out, if_pos hh]
              show Ending.returned (.tuple #[insV ⟨k, n⟩, .bool ok]) = _
              rw [HOK.out]
              cases CS.intOf ca <;> rfl
            · rw [HI.out, if_pos hh]
              intro i h
              cases hx : CS.intOf ca with
              | none => rw [hx] at h; cases h
              | some v => rw [hx] at h; cases h; rw [HN.out v hx]
          · have hh : ¬ has = true := by assumption
            (try simp only [Exit.inBlock, Exit.then])
            refine bodyPost_ret (results_cell2 _ _ _ 2 3 rfl rfl HB4.out) rfl ?_
            refine ⟨⟨k, n⟩, ?_, ?_, below_keep HB3.out HK4.out (fun i h => by rw [h, HG.out]; exact Nat.le_refl _)⟩
            · rw [HI.out, if_neg hh]; rfl
            · rw [HI.out, if_neg hh]
              intro i h
              cases h
      · have HK' : Aside0 (CS.findOp cw CS.ops 0 = CS.findOp cw (CS.ops.drop (k + 1)) (k + 1)) := ⟨by rw [HK.out, HD.out]; simp only [CS.findOp]; rw [if_neg hw]⟩
        have t1 : ((sb q.1).toList == (sb cw).toList) = false := by rw [ByteArray.toList_eq, ByteArray.toList_eq, sb_data, sb_data]; simpa using hw
        clear hw
        go_wp2_with (go_at_call 15; refine (operation_any _ _).mono ?_; rw [HR.out]; rintro e w2 ⟨rfl, hb2⟩; have HB2 := Aside0.mk hb2; clear hb2)
        go_roundw
        case rel => exact ⟨k + 1, by go_num, rfl, hlt, HK', ⟨below_blk HB2.out HBr.out⟩, ⟨below_then HWr.out HWr.out.size HB2.out⟩⟩
        case measure => simp [intOf]; omega
end Go.Proofs.YtpapbigghiiolaaGreatDoor
