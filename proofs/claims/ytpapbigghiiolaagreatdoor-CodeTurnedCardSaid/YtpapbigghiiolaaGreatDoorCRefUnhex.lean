/-
  The document's Unhex, walked by hand; what it returns, as a function, under the name by which the printed texts call it.
-/
import Derived.Test.YtpapbigghiiolaaGreatDoorPA1
import Derived.Test.YtpapbigghiiolaaGreatDoorCUnhex
set_option linter.unusedVariables false
namespace Go.Proofs.YtpapbigghiiolaaGreatDoor
open Go.RowKit Go.Proofs.YtpapbigghiiolaaGreatDoorW.PrintWords PAll

theorem i64_small (n : Int) (h0 : -9223372036854775808 ≤ n) (h1 : n ≤ 9223372036854775807) : wrap64 n = n := by unfold wrap64; omega

theorem key_eq (l : CS.Bs) : reeveref11_Key.f (sb l) = some (CS.key l) := by
  unfold reeveref11_Key.f CS.key
  rw [sb_size]
  by_cases h : 1 ≤ l.length
  · rw [if_pos (by omega), decide_eq_true h, Bool.true_and]
    congr 1
    rw [Bool.eq_iff_iff]
    simp only [decide_eq_true_eq]
    omega
  · rw [if_neg (by omega), decide_eq_false h]
    rfl

theorem Ev.val {α : Type} {g : Nat → Option α} {r r' : α} (h : Ev g r) (e : r = r') : Ev g r' := e ▸ h
theorem Ev.const {α : Type} {g : Nat → Option α} {r : α} (h : ∀ k, g k = some r) : Ev g r := ⟨0, fun k _ => h k⟩
theorem Ev.eqs {α : Type} {g f : Nat → Option α} {r : α} (h : ∀ k, g k = f k) (k : Ev f r) : Ev g r := by
  obtain ⟨K, hK⟩ := k
  exact ⟨K, fun n hn => (h n).trans (hK n hn)⟩

theorem nums_sb (l : CS.Bs) : strOfNums (l.map fun b => (b.toNat : Int)) = sb l := by
  unfold strOfNums sb
  congr 2
  rw [List.map_map]
  exact (List.map_congr_left (fun x _ => by simp)).trans (List.map_id l)

theorem drop_two (s : CS.Bs) (i : Nat) (h : i + 1 < s.length) : s.drop i = s.getD i 0 :: s.getD (i + 1) 0 :: s.drop (i + 2) := by
  rw [List.drop_eq_getElem_cons (by omega), List.drop_eq_getElem_cons (i := i + 1) h, List.getD_eq_getElem?_getD, List.getD_eq_getElem?_getD, List.getElem?_eq_getElem h, List.getElem?_eq_getElem (by omega)]
  rfl
theorem drop_one (s : CS.Bs) (i : Nat) (h : i < s.length) : s.drop i = s.getD i 0 :: s.drop (i + 1) := by
  rw [List.drop_eq_getElem_cons h, List.getD_eq_getElem?_getD, List.getElem?_eq_getElem h]
  rfl

/-! digit -/
theorem digit_eq (c : UInt8) : Ev (fun k => reeveref17_digit.f k (c.toNat : Int)) (match CS.hexv c with | some v => (v : Int) | none => -1) := by
  unfold CS.hexv
  by_cases h48 : 48 ≤ c.toNat
  · by_cases h57 : c.toNat ≤ 57
    · rw [if_pos ⟨h48, h57⟩]
      refine Ev.eqs (f := fun k => reeveref17_digit.j0 k (c.toNat : Int) true) (fun k => ?_) (Ev.step (f := fun _ => some (((c.toNat - 48 : Nat) : Int))) (fun k => ?_) (Ev.now _))
      · unfold reeveref17_digit.f
        rw [if_pos (by omega), decide_eq_true (by omega)]
      · simp only [reeveref17_digit.j0]
        rw [if_pos trivial]
        congr 1
        omega
    · rw [if_neg (by omega)]
      refine Ev.eqs (f := fun k => reeveref17_digit.j0 k (c.toNat : Int) false) (fun k => ?_) ?_
      · unfold reeveref17_digit.f
        rw [if_pos (by omega), decide_eq_false (by omega)]
      · by_cases ha : 97 ≤ c.toNat ∧ c.toNat ≤ 102
        · rw [if_pos ha]
          refine Ev.step (f := fun _ => some (((c.toNat - 87 : Nat) : Int))) (fun k => ?_) (Ev.now _)
          simp only [reeveref17_digit.j0]
          simp only [Bool.false_eq_true, if_false]
          rw [if_pos (by omega), if_pos (by omega)]
          congr 1
          omega
        · rw [if_neg ha]
          refine Ev.step (f := fun _ => some (-1)) (fun k => ?_) (Ev.now _)
          simp only [reeveref17_digit.j0]
          rw [if_neg (by decide)]
          split
          · rw [if_neg (by omega)]
          · rfl
  · rw [if_neg (by omega), if_neg (by omega)]
    refine Ev.eqs (f := fun k => reeveref17_digit.j0 k (c.toNat : Int) false) (fun k => ?_) (Ev.step (f := fun _ => some (-1)) (fun k => ?_) (Ev.now _))
    · unfold reeveref17_digit.f
      rw [if_neg (by omega)]
    · simp only [reeveref17_digit.j0]
      rw [if_neg (by decide), if_neg (by omega)]

/-! Unhex -/
/-- a digit's value, -1: it is none -/
def hvi (c : UInt8) : Int := match CS.hexv c with | some v => (v : Int) | none => -1

/-- the bytes of the digits, two a byte, as far as there are two; none: one of them is no digit -/
def unhexPre : CS.Bs → Option CS.Bs
  | a :: b :: r => match CS.hexv a, CS.hexv b, unhexPre r with
    | some x, some y, some l => some (UInt8.ofNat (16 * x + y) :: l)
    | _, _, _ => none
  | _ => some []
def unhexOut (s : CS.Bs) : ByteArray × Bool := match unhexPre s with
  | none => (⟨#[]⟩, false)
  | some m => (sb m, decide (s.length % 2 = 0) && CS.key m)

theorem ret_i64 {a b : Int} (h : a = b) : Ending.returned (.int .i64 a) = .returned (.int .i64 b) := by rw [h]
theorem digit_any (c : UInt8) (w : World) :
    Calls Tryz.prog 78 #[.int .u8 (c.toNat : Int)] w fun e w' => e = .returned (.int .i64 (hvi c)) ∧ w' = w := by
  have hc := c.toNat_lt
  have HV : Aside0 (hvi c = if 48 ≤ c.toNat ∧ c.toNat ≤ 57 then (c.toNat : Int) - 48 else if 97 ≤ c.toNat ∧ c.toNat ≤ 102 then (c.toNat : Int) - 87 else -1) := ⟨by
    unfold hvi CS.hexv
    by_cases h1 : 48 ≤ c.toNat ∧ c.toNat ≤ 57
    · rw [if_pos h1, if_pos h1]; simp only; omega
    · rw [if_neg h1, if_neg h1]
      by_cases h2 : 97 ≤ c.toNat ∧ c.toNat ≤ 102
      · rw [if_pos h2, if_pos h2]; simp only; omega
      · rw [if_neg h2, if_neg h2]⟩
  obtain ⟨n, hn⟩ : ∃ n, n = c.toNat := ⟨_, rfl⟩
  rw [← hn] at HV hc ⊢
  clear hn
  go_enter Tryz.func78, Tryz.ntmps78
  go_wp2
  all_goals
    go_ret
    refine ⟨ret_i64 ?_, rfl⟩
    rw [HV.out]
    first | (rw [if_pos (by omega)]) | (rw [if_neg (by omega), if_pos (by omega)]; omega) | (rw [if_neg (by omega), if_neg (by omega)])

theorem RefKey_any (s : ByteArray) (w : World) :
    Calls Tryz.prog 67 #[.string s] w fun e w' => e = .returned (.bool (CS.key s.data.toList)) ∧ w' = w := by
  have hsz : s.data.toList.length = s.size := by rw [Array.length_toList]; rfl
  have HS : Aside0 (CS.key s.data.toList = (decide (1 ≤ s.size) && decide (s.size ≤ 40))) := ⟨by unfold CS.key; rw [hsz]⟩
  clear hsz
  by_cases h1 : 1 ≤ s.size
  · have t1 : decide (1 ≤ (s.size : Int)) = true := decide_eq_true (by omega)
    go_enter Tryz.func67, Tryz.ntmps67
    go_wp2
    all_goals
      go_ret
      refine ⟨?_, rfl⟩
      rw [HS.out]
      simp [*]
      omega
  · have t1 : decide (1 ≤ (s.size : Int)) = false := decide_eq_false (by omega)
    go_enter Tryz.func67, Tryz.ntmps67
    go_wp2
    all_goals
      go_ret
      refine ⟨?_, rfl⟩
      rw [HS.out]
      simp [*]

theorem bytes_nums (m : CS.Bs) : Lib.byteCells m = nums .u8 (m.map fun b => (b.toNat : Int)) := by
  unfold nums Lib.byteCells
  rw [List.map_map]
  rfl
theorem own_sb {w : World} {B n : Nat} {v : Value} {m : CS.Bs} (h : w.ownsRow B 5 1 v n (Lib.byteCells m)) : (convert 35 9 v).run Tryz.prog w = .ok (.string (sb m)) w := by
  rw [bytes_nums] at h
  rw [own_string (P := Tryz.prog) Tryz.underlying35 Tryz.underlying5 Tryz.underlying9 h, nums_sb]

set_option maxRecDepth 100000 in
set_option maxHeartbeats 2000000 in
theorem RefUnhex_any (s : ByteArray) (w : World) (hs : s.size ≤ 1000000) :
    Calls Tryz.prog 64 #[.string s] w fun e w' => e = .returned (.tuple #[.string (unhexOut s.data.toList).1, .bool (unhexOut s.data.toList).2]) ∧ Below w.heap.size w w' := by
  have hsz : s.data.toList.length = s.size := by rw [Array.length_toList]; rfl
  have HSZ := Aside0.mk hsz
  have HB0 := Aside0.mk (Below.refl w.heap.size w)
  have HN0 := Aside0.mk (World.ownsRow_nil w w.heap.size 5 1)
  clear hsz
  go_enter Tryz.func64, Tryz.ntmps64
  go_wp2
  go_loopw [4, 5] (fun v4 v5 wr => ∃ (i : Nat) (m : CS.Bs), v5 = .int .i64 (i : Int) ∧ i ≤ s.size ∧ Aside0 (2 * m.length = i ∧ unhexPre s.data.toList = (unhexPre (s.data.toList.drop i)).map (m ++ ·)) ∧ Aside0 (wr.ownsRow w.heap.size 5 1 v4 m.length (Lib.byteCells m)) ∧ Aside0 (Below w.heap.size w wr)) (fun _ v _ => s.size - (intOf v).toNat)
  case atStart => exact ⟨0, [], rfl, Nat.zero_le _, ⟨rfl, by simp⟩, HN0, HB0⟩
  case round =>
    obtain ⟨i, m, rfl, hi, HM, HO, HB⟩ := hrel
    have e1 : IntKind.i64.wrap ((i : Int) + 1) = (i : Int) + 1 := IntWalk.i64_in _ (by omega)
    by_cases hlt : i + 1 < s.size
    · have i0 : decide ((i : Int) + 1 < (s.size : Int)) = true := decide_eq_true (by omega)
      have i1 : (i : Int) < (s.size : Int) := by omega
      have i2 : (i : Int) + 1 < (s.size : Int) := by omega
      have e2 : (0 : Int) ≤ (i : Int) + 1 := by omega
      have e3 : ((i : Int) + 1).toNat = i + 1 := by omega
      obtain ⟨a, ha⟩ : ∃ a, a = s.data.toList.getD i 0 := ⟨_, rfl⟩
      obtain ⟨b, hb⟩ : ∃ b, b = s.data.toList.getD (i + 1) 0 := ⟨_, rfl⟩
      have HA := Aside0.mk ha
      have HBB := Aside0.mk hb
      clear ha hb
      go_upto_region 5 with (fail)
      go_cut [6, 7] from 8 to 37 (fun v6 v7 wc => v6 = .int .i64 (hvi a) ∧ v7 = .int .i64 (hvi b) ∧ ∃ n, wc = wr.drewN n)
      case first =>
        have q1 : Calls Tryz.prog 78 #[.int .u8 ((s.data.toList.getD i 0).toNat : Int)] wr fun e w' => e = .returned (.int .i64 (hvi a)) ∧ w' = wr := by rw [HA.out]; exact digit_any _ _
        clear q1
        go_quiet ((go_at_call 78; exact Calls.quiet_of_same (digit_any _ _)))
        go_wp2
        go_meet
        case rel =>
          refine ⟨?_, ?_, _, rfl⟩
          · rw [HA.out, bget]
          · rw [HBB.out, bget]
      case rest =>
        clear e1 e3
        obtain ⟨rfl, rfl, nn, rfl⟩ := hcut
        have HD : Aside0 (s.data.toList.drop i = a :: b :: s.data.toList.drop (i + 2)) := ⟨by
          rw [HA.out, HBB.out]
          exact drop_two _ i (by have := HSZ.out; omega)⟩
        have hva : hvi a = match CS.hexv a with | some v => (v : Int) | none => -1 := rfl
        have hvb : hvi b = match CS.hexv b with | some v => (v : Int) | none => -1 := rfl
        cases hxa : CS.hexv a with
        | none =>
          rw [hxa] at hva
          have q0 : hvi a < 0 := by rw [hva]; decide
          have q1 : decide (hvi a < 0) = true := decide_eq_true q0
          have HF : Aside0 (unhexOut s.data.toList = (⟨#[]⟩, false)) := ⟨by unfold unhexOut; rw [HM.out.2, HD.out]; simp [unhexPre, hxa]⟩
          clear hva hvb q0 hxa
          go_wp2
          go_ret2
          exact ⟨by rw [HF.out]; rfl, pw_below_drewN HB.out _⟩
        | some x =>
          rw [hxa] at hva
          have hx16 := hexv_lt a x hxa
          cases hxb : CS.hexv b with
          | none =>
            rw [hxb] at hvb
            have q0 : decide (hvi a < 0) = false := decide_eq_false (by rw [hva]; simp)
            have q1 : decide (hvi b < 0) = true := decide_eq_true (by rw [hvb]; decide)
            have HF : Aside0 (unhexOut s.data.toList = (⟨#[]⟩, false)) := ⟨by unfold unhexOut; rw [HM.out.2, HD.out]; simp [unhexPre, hxa, hxb]⟩
            clear hva hvb hxa hxb hx16
            go_wp2
            go_ret2
            exact ⟨by rw [HF.out]; rfl, pw_below_drewN HB.out _⟩
          | some y =>
            rw [hxb] at hvb
            have hy16 := hexv_lt b y hxb
            have HS : Aside0 (unhexPre s.data.toList = (unhexPre (s.data.toList.drop (i + 2))).map ((m ++ [UInt8.ofNat (16 * x + y)]) ++ ·)) := ⟨by
              rw [HM.out.2, HD.out]
              simp only [unhexPre, hxa, hxb]
              cases unhexPre (s.data.toList.drop (i + 2)) <;> simp⟩
            simp only at hva hvb
            rw [hva, hvb]
            clear hva hvb hxa hxb
            have hm : (16 * (x : Int) + (y : Int)) % 256 = 16 * (x : Int) + (y : Int) := by omega
            have HL := Aside0.mk HM.out.1
            go_wp2_with (at_builtin; refine print_append (w0 := w) w.heap.size rfl (.tmp 30) (.tmp 36) 35 5 (.int .u8 0) 1 rfl Tryz.underlying35 PAll.info5 rfl (by decide) u4 (Lib.byteCells m) (.int .u8 (16 * (x : Int) + (y : Int))) rfl rfl rfl ?ho ?hb ?hs ?hl ?go)
            case ho => rw [Lib.byteCells_length]; exact pw_own_drewN HO.out _
            case hb => exact pw_below_drewN HB.out _
            case hs => have := HB.out.size; simpa using this
            case hl => have := HL.out; rw [Lib.byteCells_length]; omega
            case go =>
              intro v1 w1 ho1 hb1 _ _
              have e1 : Lib.byteCells m ++ [.int .u8 (16 * (x : Int) + (y : Int))] = Lib.byteCells (m ++ [UInt8.ofNat (16 * x + y)]) := by
                rw [Lib.byteCells_append]
                congr 1
                have : (16 * x + y) % 256 = 16 * x + y := by omega
                simp [Lib.byteCells, this]
              have hln : (Lib.byteCells m).length + 1 = (m ++ [UInt8.ofNat (16 * x + y)]).length := by rw [Lib.byteCells_length]; simp
              rw [hln, e1] at ho1
              have HO1 := Aside0.mk ho1
              have HB1 := Aside0.mk hb1
              clear ho1 hb1 e1 hm hln
              go_wp2
              go_roundw
              case rel => exact ⟨i + 2, _, by go_num, hlt, ⟨by have := HM.out.1; simp; omega, HS.out⟩, HO1, HB1⟩
              case measure => simp [intOf]; omega
    · have i0 : decide ((i : Int) + 1 < (s.size : Int)) = false := decide_eq_false (by omega)
      have HF : Aside0 (unhexPre s.data.toList = some m) := ⟨by
        have h2 : (s.data.toList.drop i).length ≤ 1 := by rw [List.length_drop, HSZ.out]; omega
        rw [HM.out.2]
        match hd : s.data.toList.drop i, h2 with
        | [], _ => simp [unhexPre]
        | [_], _ => simp [unhexPre]
        | _ :: _ :: _, h2 => simp at h2⟩
      have hcv : ∀ n, (convert 35 9 u4).run Tryz.prog (wr.drewN n) = .ok (.string (sb m)) (wr.drewN n) := fun n => own_sb (pw_own_drewN HO.out n)
      by_cases he : s.size % 2 = 0
      · have t0 : (((s.size : Int) % 2) == 0) = true := by simp; omega
        have HE := Aside0.mk he
        clear he
        go_wp2
        go_quiet ((go_at_call 67; exact Calls.quiet_of_same (RefKey_any _ _)))
        go_wp2
        go_ret2
        refine ⟨?_, pw_below_drewN HB.out _⟩
        unfold unhexOut
        rw [HF.out]
        simp only [sb_data]
        rw [decide_eq_true (by rw [HSZ.out]; exact HE.out), Bool.true_and]
        rfl
      · have t0 : (((s.size : Int) % 2) == 0) = false := by simp; omega
        have HE := Aside0.mk he
        clear he
        go_wp2
        go_quiet (fail)
        go_wp2
        go_ret2
        refine ⟨?_, pw_below_drewN HB.out _⟩
        unfold unhexOut
        rw [HF.out]
        simp only
        rw [decide_eq_false (by rw [HSZ.out]; exact HE.out), Bool.false_and]
        rfl

namespace PAll
/-- what the document's Unhex returns (no rounds are counted: the first argument is idle) -/
def reeveref17_Unhex.f (_k : Nat) (a0 : ByteArray) : Option (ByteArray × Bool) := if a0.size ≤ 1000000 then some (unhexOut a0.data.toList) else none
theorem reeveref17_Unhex.mono : ∀ a0 k, LeO (reeveref17_Unhex.f k a0) (reeveref17_Unhex.f (k + 1) a0) := fun _ _ => LeO.refl _
theorem reeveref17_Unhex.calls (k : Nat) (a0 : ByteArray) (r1 : ByteArray) (r2 : Bool) (w : World) (h : reeveref17_Unhex.f k a0 = some (r1, r2)) :
    Calls Tryz.prog 64 #[.string a0] w fun e w' => e = .returned (.tuple #[.string r1, .bool r2]) ∧ Below w.heap.size w w' := by
  unfold reeveref17_Unhex.f at h
  split at h
  · rename_i hs
    have := RefUnhex_any a0 w hs
    rw [Option.some.inj h] at this
    exact this
  · cases h
end PAll
end Go.Proofs.YtpapbigghiiolaaGreatDoor
