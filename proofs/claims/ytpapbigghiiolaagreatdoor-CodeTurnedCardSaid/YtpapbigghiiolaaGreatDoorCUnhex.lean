/-
  code.Unhex.
-/
import Derived.Test.YtpapbigghiiolaaGreatDoorCForm
import Derived.Test.YtpapbigghiiolaaGreatDoorCBuild
import Derived.Test.YtpapbigghiiolaaGreatDoorShelf
set_option linter.unusedVariables false
namespace Go.Proofs.YtpapbigghiiolaaGreatDoor
open Go.RowKit Go.Proofs.YtpapbigghiiolaaGreatDoorW.PrintWords

theorem indexByte_digits (c : UInt8) : Lib.indexByte CS.digits c = match CS.hexv c with | some v => (v : Int) | none => -1 := by
  have h : ∀ n, n < 256 → Lib.indexByte CS.digits (UInt8.ofNat n) = match CS.hexv (UInt8.ofNat n) with | some v => (v : Int) | none => -1 := by decide +kernel
  have := h c.toNat c.toNat_lt
  rwa [UInt8.ofNat_toNat] at this
theorem hexv_lt (c : UInt8) (v : Nat) (h : CS.hexv c = some v) : v < 16 := by
  unfold CS.hexv at h
  split at h
  · cases h; omega
  · split at h
    · cases h; omega
    · cases h

theorem or_digits (x y : Nat) (hx : x < 16) (hy : y < 16) : bits BinOp.or IntKind.i64 ((x : Int) * 16) (y : Int) % 256 = ((UInt8.ofNat (16 * x + y)).toNat : Int) := by
  have h : ∀ x : Nat, x < 16 → ∀ y : Nat, y < 16 → bits BinOp.or IntKind.i64 ((x : Int) * 16) (y : Int) % 256 = ((UInt8.ofNat (16 * x + y)).toNat : Int) := by decide +kernel
  exact h x hx y hy

def UnhexPost (l : CS.Bs) (w : World) (e : Ending) (w' : World) : Prop :=
  ∃ r, e = .returned (.tuple #[.string r, .bool (CS.unhex l).isSome]) ∧ (∀ n, CS.unhex l = some n → r = sb n) ∧ Below w.heap.size w w'

theorem unhexL_odd : ∀ (l : CS.Bs), l.length % 2 = 1 → CS.unhexL l = none
  | [], h => by simp at h
  | [_], _ => rfl
  | a :: b :: r, h => by
    have := unhexL_odd r (by simp at h; omega)
    simp [CS.unhexL, this]

/-- the digit's place, as the contract tells it -/
def hv (c : UInt8) : Int := Lib.indexByte CS.digits c
theorem IndexByte_digits (c : UInt8) (w : World) :
    Calls Tryz.prog 57 #[.string ⟨#[48, 49, 50, 51, 52, 53, 54, 55, 56, 57, 97, 98, 99, 100, 101, 102]⟩, .int .u8 (c.toNat : Int)] w fun e w' => e = .returned (.int .i64 (hv c)) ∧ w' = w := by
  refine (Tryz.strings_IndexByte _ _ _).mono ?_
  rintro e w' ⟨rfl, rfl⟩
  refine ⟨?_, rfl⟩
  unfold hv
  rw [show ((c.toNat : Int).toNat.toUInt8) = c by simp]
  rfl

set_option maxRecDepth 100000 in
set_option maxHeartbeats 1000000 in
theorem Unhex_any (s : ByteArray) (w : World) (hs : s.size ≤ 140737488355328) :
    Calls Tryz.prog 31 #[.string s] w (UnhexPost s.data.toList w) := by
  have hsz : s.data.toList.length = s.size := by rw [Array.length_toList]; rfl
  by_cases hodd : s.size % 2 = 1
  · have HU : Aside0 (CS.unhex s.data.toList = none) := ⟨by unfold CS.unhex; rw [unhexL_odd _ (by omega)]⟩
    have t0 : (((s.size : Int) % 2) != 0) = true := by simp; omega
    clear hsz hodd
    go_enter Tryz.func31, Tryz.ntmps31
    go_wp2
    go_ret2
    exact ⟨⟨#[]⟩, by rw [HU.out]; rfl, (fun n h => by rw [HU.out] at h; cases h), Below.refl _ _⟩
  · have t0 : (((s.size : Int) % 2) != 0) = false := by simp; omega
    have HE := Aside0.mk hodd
    have HSZ := Aside0.mk hsz
    clear hsz hodd
    go_enter Tryz.func31, Tryz.ntmps31
    go_wp2_with (refine gate_ (.alloc 49) rfl ?_; refine ev_alloc 49 rfl rfl (by go_simp; rfl) ?_; intro g hg w1 hb hbel; have HB := Aside0.mk hb; have HW := Aside0.mk hbel; have HG := Aside0.mk hg; clear hb hbel hg)
    go_loopw [5] (fun v wr => ∃ (i : Nat) (m : CS.Bs), v = .int .i64 (i : Int) ∧ i ≤ s.size ∧ Aside0 (2 * m.length = i ∧ CS.unhexL s.data.toList = (CS.unhexL (s.data.toList.drop i)).map (m ++ ·)) ∧ Aside0 (Lib.IsBuilder 49 5 g g (Lib.byteCells m) wr) ∧ Aside0 (Below w.heap.size w wr)) (fun v _ => s.size - (intOf v).toNat)
    case atStart => exact ⟨0, [], rfl, Nat.zero_le _, ⟨rfl, by simp⟩, ⟨.inl ⟨Nat.le_refl _, _, HB.out, World.ownsRow_nil _ _ _ _, by simp [Value.ownBlock]⟩⟩, HW⟩
    case round =>
      obtain ⟨i, m, rfl, hi, HM, HBu, HWr⟩ := hrel
      by_cases hlt : i < s.size
      · have hlt1 : i + 1 < s.size := by have := HE.out; have := HM.out.1; omega
        have i1 : (i : Int) < (s.size : Int) := by omega
        have i2 : (i : Int) + 1 < (s.size : Int) := by omega
        have e1 : IntKind.i64.wrap ((i : Int) + 1) = (i : Int) + 1 := IntWalk.i64_in _ (by omega)
        have e2 : (0 : Int) ≤ (i : Int) + 1 := by omega
        have e3 : ((i : Int) + 1).toNat = i + 1 := by omega
        obtain ⟨a, ha⟩ : ∃ a, a = s.data.toList.getD i 0 := ⟨_, rfl⟩
        obtain ⟨b, hb⟩ : ∃ b, b = s.data.toList.getD (i + 1) 0 := ⟨_, rfl⟩
        have HA := Aside0.mk ha
        have HBB := Aside0.mk hb
        clear ha hb
        go_upto_region 7 with (fail)
        go_cut [6, 7] from 12 to 38 (fun v6 v7 wc => v6 = .int .i64 (hv a) ∧ v7 = .int .i64 (hv b) ∧ ∃ n, wc = wr.drewN n)
        case first =>
          go_quiet ((go_at_call 57; exact Calls.quiet_of_same (IndexByte_digits _ _)))
          go_wp2
          go_meet
          case rel =>
            refine ⟨?_, ?_, _, rfl⟩
            · rw [HA.out, bget]
            · rw [HBB.out, bget]
        case rest =>
          clear e1 e3
          obtain ⟨rfl, rfl, nn, rfl⟩ := hcut
          have HD : Aside0 (s.data.toList.drop i = a :: b :: s.data.toList.drop (i + 2)) := ⟨by
            have hl := HSZ.out
            rw [List.drop_eq_getElem_cons (by omega : i < s.data.toList.length), List.drop_eq_getElem_cons (by omega : i + 1 < s.data.toList.length), HA.out, HBB.out]
            simp [List.getD_eq_getElem?_getD, List.getElem?_eq_getElem, hl, hlt, hlt1]⟩
          have hva := indexByte_digits a
          have hvb := indexByte_digits b
          change hv a = _ at hva
          change hv b = _ at hvb
          cases hxa : CS.hexv a with
          | none =>
            rw [hxa] at hva
            have q0 : hv a < 0 := by rw [hva]; decide
            have q1 : decide (hv a < 0) = true := decide_eq_true q0
            have HF : Aside0 (CS.unhex s.data.toList = none) := ⟨by unfold CS.unhex; rw [HM.out.2, HD.out]; simp [CS.unhexL, hxa]⟩
            clear hva hvb q0 hxa
            go_wp2
            go_ret2
            exact ⟨⟨#[]⟩, by rw [HF.out]; rfl, (fun n h => by rw [HF.out] at h; cases h), pw_below_drewN HWr.out _⟩
          | some x =>
            rw [hxa] at hva
            have hx16 := hexv_lt a x hxa
            cases hxb : CS.hexv b with
            | none =>
              rw [hxb] at hvb
              have q0 : decide (hv a < 0) = false := decide_eq_false (by rw [hva]; simp)
              have q1 : decide (hv b < 0) = true := decide_eq_true (by rw [hvb]; decide)
              have HF : Aside0 (CS.unhex s.data.toList = none) := ⟨by unfold CS.unhex; rw [HM.out.2, HD.out]; simp [CS.unhexL, hxa, hxb]⟩
              clear hva hvb hxa hxb hx16
              go_wp2
              go_ret2
              exact ⟨⟨#[]⟩, by rw [HF.out]; rfl, (fun n h => by rw [HF.out] at h; cases h), pw_below_drewN HWr.out _⟩
            | some y =>
              rw [hxb] at hvb
              have hy16 := hexv_lt b y hxb
              have HS : Aside0 (CS.unhexL s.data.toList = (CS.unhexL (s.data.toList.drop (i + 2))).map ((m ++ [UInt8.ofNat (16 * x + y)]) ++ ·)) := ⟨by
                rw [HM.out.2, HD.out]
                simp only [CS.unhexL, hxa, hxb]
                cases CS.unhexL (s.data.toList.drop (i + 2)) <;> simp⟩
              rw [hva, hvb]
              clear hva hvb hxa hxb
              go_wp2_with fail
              refine (WriteByte_any g g (Lib.byteCells m) _ _ ?c0 ?c1 ?c2).mono ?_
              case c0 => exact HBu.out
              case c1 => have := HM.out.1; rw [Lib.byteCells_length]; omega
              case c2 => have := HG.out; have := HWr.out.size; simp; omega
              rintro e w3 ⟨rfl, hb3, hw3⟩
              have hbu : Lib.byteCells m ++ [.int .u8 (bits BinOp.or IntKind.i64 ((x : Int) * 16) (y : Int) % 256)] = Lib.byteCells (m ++ [UInt8.ofNat (16 * x + y)]) := by
                rw [or_digits x y hx16 hy16, Lib.byteCells_append]; rfl
              rw [hbu] at hb3
              have HB3 := Aside0.mk hb3
              have HW3 := Aside0.mk hw3
              clear hb3 hw3 hbu
              go_wp2
              go_roundw
              case rel => exact ⟨i + 2, _, by go_num, hlt1, ⟨by have := HM.out.1; simp; omega, HS.out⟩, HB3, ⟨(pw_below_drewN HWr.out nn).trans (by rw [← HG.out]; exact HW3.out)⟩⟩
              case measure => simp [intOf]; omega
      · have HEND : Aside0 (CS.unhexL s.data.toList = some m) := ⟨by
          rw [HM.out.2, List.drop_of_length_le (by have := HSZ.out; omega)]
          simp [CS.unhexL]⟩
        go_wp2_with fail
        refine (Tryz.Builder_String_any_f g g m _ (Lib.IsBuilderF.of HBu.out) ?c0).mono ?_
        case c0 => have := HG.out; have := HWr.out.size; omega
        rintro e w3 ⟨rfl, hb3, hw3⟩
        have HB3 := Aside0.mk hb3
        have HW3 := Aside0.mk hw3
        clear hb3 hw3
        go_wp2_with fail
        refine (Tryz.Builder_String_any_f g g m _ HB3.out ?c0).mono ?_
        case c0 => have := HG.out; have := HWr.out.size; have := HW3.out.size; omega
        rintro e w4 ⟨rfl, _, hw4⟩
        have HW4 := Aside0.mk hw4
        clear hw4
        go_wp2_with fail
        refine (Key_any (sb m) _).mono ?_
        rintro e w5 ⟨rfl, rfl⟩
        go_wp2
        go_ret2
        have hb : Below w.heap.size w w4 := by
          have h3 := HW3.out
          have h4 := HW4.out
          rw [HG.out] at h3 h4
          exact (HWr.out.trans h3).trans h4
        refine ⟨sb m, ?_, ?_, hb⟩
        · unfold CS.unhex
          rw [HEND.out]
          simp only [sb_data]
          cases CS.key m <;> rfl
        · unfold CS.unhex
          rw [HEND.out]
          simp only
          intro n hn
          split at hn
          · cases hn; rfl
          · cases hn
end Go.Proofs.YtpapbigghiiolaaGreatDoor
