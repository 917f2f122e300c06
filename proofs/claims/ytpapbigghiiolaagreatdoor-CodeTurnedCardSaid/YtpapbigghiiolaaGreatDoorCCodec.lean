/-
  codec.Writer: what was laid, as bytes.
  codec.NewWriter, (*Writer).Int, Text, Bytes.
  codec.Reader: what is left of its bytes, as a list; contracts of its methods.
  codec.NewReader, (*Reader).Int, Text, End.
-/
import Derived.Test.YtpapbigghiiolaaGreatDoorCBuild
import Derived.Test.YtpapbigghiiolaaGreatDoorCRules
import Derived.Test.YtpapbigghiiolaaGreatDoorCSpec
import Derived.Test.YtpapbigghiiolaaGreatDoorCHex
import Derived.Test.YtpapbigghiiolaaGreatDoorShelf
import Derived.Deep.RegionLaw
import Derived.IntWalk
import Derived.Laws.BitsAllLaws
import Derived.Test.YtpapbigghiiolaaGreatDoorCRefUnhex
import Derived.Test.YtpapbigghiiolaaGreatDoorWShare
import Derived.Deep.QuietTactic
import Derived.BigQuiet
import Derived.Laws.DeepNot64
set_option linter.unusedVariables false
namespace Go.Proofs.YtpapbigghiiolaaGreatDoor
open Go.RowKit Go.Proofs.YtpapbigghiiolaaGreatDoorW.PrintWords

/-- a writer in block g: it has laid l -/
def IsW (B g : Nat) (l : CS.Bs) (w : World) : Prop := B ≤ g ∧ ∃ v, w.heap[g]? = some (.cells #[v] 89 (0, 0)) ∧ w.ownsRow B 5 1 v l.length (Lib.byteCells l)
theorem IsW.below {B g : Nat} {l : CS.Bs} {w w1 : World} (h : IsW B g l w) (hb : Below w.heap.size w w1) : IsW B g l w1 := by
  obtain ⟨hB, v, h1, h2⟩ := h
  exact ⟨hB, v, below_blk hb h1, pw_own_below h2 hb⟩
/-- what a laying leaves: the writer, whatever lies below B, and every block that is neither the writer nor of bytes -/
def WPost (B g : Nat) (l : CS.Bs) (w w' : World) : Prop := IsW B g l w' ∧ Below B w w' ∧ Lib.OthersKept 5 (some g) w w'

/-- the step: one byte is appended, the slice is stored -/
theorem put_step {B g : Nat} {bs bs' : List Value} {v v' : Value} {w0 w1 w2 : World} (hB : B ≤ g) (hBw : B ≤ w0.heap.size) (hg : w1.heap[g]? = some (.cells #[v] 89 (0, 0))) (ho : w1.ownsRow B 5 1 v bs.length bs) (ho' : w2.ownsRow B 5 1 v' bs'.length bs')
    (hgr : w1.grownBy w2 v.ownBlock) (hb : Below B w0 w1) (hk : Lib.OthersKept 5 (some g) w0 w1) :
    (w2.setCell ⟨g, 0, none⟩ v').heap[g]? = some (.cells #[v'] 89 (0, 0)) ∧ (w2.setCell ⟨g, 0, none⟩ v').ownsRow B 5 1 v' bs'.length bs' ∧ Below B w0 (w2.setCell ⟨g, 0, none⟩ v') ∧ Lib.OthersKept 5 (some g) w0 (w2.setCell ⟨g, 0, none⟩ v') := by
  have hgl := blk_lt hg
  have hg2 : w2.heap[g]? = some (.cells #[v] 89 (0, 0)) := (hgr.block g hgl (own_ne ho hg (by decide))).trans hg
  refine ⟨by simpa using blk_set hg2 0 v', own_setCell ho' (own_ne ho' hg2 (by decide)) _, ?_, ?_⟩
  · exact (hb.grown hgr (by have := hb.size; omega) (fun k hk => (ho.lt k hk).1)).setCell (p := ⟨g, 0, none⟩) hB _
  · exact (hk.grown hgr (own_typed ho)).setCell ⟨g, 0, none⟩ rfl _

namespace CS
theorem bitLen_256 (n : Nat) (h0 : 256 ≤ n) (h : n < 2 ^ 64) : Lib.bitLen n = 8 + Lib.bitLen (n / 256) := by
  have st : ∀ m : Nat, 1 ≤ m → m < 2 ^ 64 → Lib.bitLen m = 1 + Lib.bitLen (m / 2) := fun m h1 h2 => Lib.bitLen_half m (by omega) h2
  rw [st n (by omega) h, st (n / 2) (by omega) (by omega), st (n / 2 / 2) (by omega) (by omega), st (n / 2 / 2 / 2) (by omega) (by omega), st (n / 2 / 2 / 2 / 2) (by omega) (by omega), st (n / 2 / 2 / 2 / 2 / 2) (by omega) (by omega), st (n / 2 / 2 / 2 / 2 / 2 / 2) (by omega) (by omega), st (n / 2 / 2 / 2 / 2 / 2 / 2 / 2) (by omega) (by omega)]
  rw [show n / 2 / 2 / 2 / 2 / 2 / 2 / 2 / 2 = n / 256 by omega]
  omega
theorem nbytes_bitLen : ∀ (f n : Nat), n < 2 ^ (8 * f) → f ≤ 8 → 1 ≤ n → (Lib.bitLen n + 7) / 8 = nbytes n
  | 0, n, h, _, h1 => by simp at h; omega
  | f + 1, n, h, hf, h1 => by
    have h64 : n < 2 ^ 64 := Nat.lt_of_lt_of_le h (Nat.pow_le_pow_right (by omega) (by omega))
    rw [nbytes]
    by_cases h256 : n < 256
    · rw [if_pos h256]
      have h8 := Lib.bitLen_le8 ⟨n, h256⟩
      have h0 := Lib.bitLen_half n (by omega) h64
      simp only at h8
      omega
    · rw [if_neg h256, bitLen_256 n (by omega) h64, ← nbytes_bitLen f (n / 256) (by rw [Nat.mul_succ, Nat.pow_add] at h; exact Nat.div_lt_of_lt_mul (by rw [Nat.mul_comm]; exact h)) (by omega) (by omega)]
      omega
theorem nbytes_le (n : Nat) (h : n < 18446744073709551616) (h1 : 1 ≤ n) : 1 ≤ nbytes n ∧ nbytes n ≤ 8 := by
  have hb := nbytes_bitLen 8 n (by simpa using h) (Nat.le_refl _) h1
  have hp : 1 ≤ nbytes n := by rw [nbytes]; split <;> omega
  refine ⟨hp, ?_⟩
  have hle : ∀ (f m : Nat), m < 256 ^ (f + 1) → nbytes m ≤ f + 1 := by
    intro f
    induction f with
    | zero => intro m hm; rw [nbytes, if_pos (by omega)]; omega
    | succ f ih =>
      intro m hm
      rw [nbytes]
      split
      · omega
      · have := ih (m / 256) (by rw [Nat.pow_succ] at hm; omega)
        omega
  exact hle 7 n (by simpa using h)
end CS

theorem shr_byte (n j : Nat) : IntKind.u8.wrap ((n : Int) / 2 ^ (8 * (j : Int)).toNat) = ((UInt8.ofNat (n / 256 ^ j)).toNat : Int) := by
  have h1 : (8 * (j : Int)).toNat = 8 * j := by omega
  have h2 : ((n : Int) / 2 ^ (8 * j)) = ((n / 256 ^ j : Nat) : Int) := by
    have h3 : ((2 ^ (8 * j) : Nat) : Int) = (2 : Int) ^ (8 * j) := by simp
    rw [← h3, ← Int.natCast_ediv, Nat.pow_mul]
  rw [h1, h2, UInt8.toNat_ofNat']
  simp only [IntKind.wrap, IntKind.bits, IntKind.signed, Bool.false_and, Bool.false_eq_true, if_false]
  omega
theorem othersKept_drew {e : TypeId} {r : Option Nat} {w w1 : World} (h : Lib.OthersKept e r w w1) : Lib.OthersKept e r w w1.drew := h
theorem own_len1 {w : World} {B n : Nat} {e : TypeId} {v : Value} {xs : List Value} (h : w.ownsRow B e 1 v n xs) : xs.length = n := by rw [h.1, Nat.mul_one]

set_option maxRecDepth 100000 in
set_option maxHeartbeats 2000000 in
theorem WNumber_any (B g : Nat) (l : CS.Bs) (n : Nat) (w : World) (h : IsW B g l w) (hBw : B ≤ w.heap.size) (hl : l.length ≤ 1000000000) (hn : n < 18446744073709551616) :
    Calls Tryz.prog 19 #[.pointer (some ⟨g, 0, none⟩), .int .u64 (n : Int)] w fun e w' => e = .returned (.tuple #[]) ∧ WPost B g (l ++ CS.encNum n) w w' := by
  obtain ⟨hB, v, hg, ho⟩ := h
  have hc : w.cell? ⟨g, 0, none⟩ = some v := (blk_cell hg 0).trans rfl
  obtain ⟨A, c, rfl⟩ := own_slice ho
  have HG := Aside0.mk hg
  have HO := Aside0.mk ho
  have HBB := Aside0.mk hB
  clear hg ho hB
  by_cases hs : n < 248
  · have t0 : decide ((n : Int) < 248) = true := decide_eq_true (by omega)
    have hm : (n : Int) % 256 = (n : Int) := by omega
    have HE : Aside0 (CS.encNum n = [UInt8.ofNat n]) := ⟨by unfold CS.encNum; rw [if_pos hs]⟩
    have HM : Aside0 (n % 256 = n) := ⟨by omega⟩
    clear hs
    go_enter Tryz.func19, Tryz.ntmps19
    go_wp2_with (at_builtin; refine print_append (w0 := w) B rfl (.tmp 14) (.tmp 17) 35 5 (.int .u8 0) 1 rfl Tryz.underlying35 Tryz.infoByte rfl (by decide) (.slice A l.length c) (Lib.byteCells l) (.int .u8 (n : Int)) rfl rfl rfl ?ho (Below.refl _ _) hBw ?hl ?go)
    case ho => rw [Lib.byteCells_length]; exact HO.out
    case hl => rw [Lib.byteCells_length]; omega
    case go =>
      intro v1 w1 ho1 _ hgr _
      have hg1 : w1.heap[g]? = some (.cells #[.slice A l.length c] 89 (0, 0)) := (hgr.block g (blk_lt HG.out) (own_ne HO.out HG.out (by decide))).trans HG.out
      have hc1 : w1.cell? ⟨g, 0, none⟩ = some (.slice A l.length c) := (blk_cell hg1 0).trans rfl
      have hf1 := blk_frozen hg1 0
      obtain ⟨A1, c1, rfl⟩ := own_slice ho1
      have HO1 := Aside0.mk ho1
      have HGR := Aside0.mk hgr
      clear hg1 ho1 hgr hc
      go_wp2
      (try simp only [Exit.inBlock, Exit.then])
      refine bodyPost_ret (results_none rfl _ _ _) rfl ?_
      have e1 : Lib.byteCells l ++ [.int .u8 (n : Int)] = Lib.byteCells (l ++ CS.encNum n) := by
        rw [HE.out, Lib.byteCells_append]
        congr 1
        have := HM.out
        simp [Lib.byteCells, this]
      have ho1 := HO1.out
      rw [e1] at ho1
      have hlen : (Lib.byteCells l).length + 1 = (l ++ CS.encNum n).length := by rw [Lib.byteCells_length, HE.out]; simp
      rw [hlen] at ho1 ⊢
      obtain ⟨r1, r2, r3, r4⟩ := put_step (w0 := w) (bs := Lib.byteCells l) (bs' := Lib.byteCells (l ++ CS.encNum n)) HBB.out hBw HG.out (by rw [Lib.byteCells_length]; exact HO.out) (by rw [Lib.byteCells_length]; exact ho1) HGR.out (Below.refl _ _) (Lib.OthersKept.refl _ _ _)
      rw [Lib.byteCells_length] at r2
      exact ⟨rfl, ⟨HBB.out, _, r1, r2⟩, r3, r4⟩
  · have t0 : decide ((n : Int) < 248) = false := decide_eq_false (by omega)
    have hk := CS.nbytes_bitLen 8 n (by simpa using hn) (Nat.le_refl _) (by omega)
    obtain ⟨hk1, hk8⟩ := CS.nbytes_le n hn (by omega)
    obtain ⟨k, hkk⟩ : ∃ k, k = CS.nbytes n := ⟨_, rfl⟩
    rw [← hkk] at hk hk1 hk8
    have HE : Aside0 (CS.encNum n = UInt8.ofNat (247 + k) :: CS.big n k) := ⟨by unfold CS.encNum; rw [if_neg hs, hkk]⟩
    obtain ⟨bl, hbl⟩ : ∃ bl, bl = Lib.bitLen n := ⟨_, rfl⟩
    rw [← hbl] at hk
    have HBL := Aside0.mk hbl
    clear hs hkk hbl
    go_enter Tryz.func19, Tryz.ntmps19
    go_wp2_with fail
    refine (Tryz.bits_Len64 (n : Int) _ (by omega) (by omega)).mono ?_
    rintro e w1 ⟨rfl, rfl⟩
    rw [Int.toNat_natCast, ← HBL.out]
    have hbl64 : bl ≤ 64 := by omega
    have hdiv : ((bl : Int) + 7).tdiv 8 = (k : Int) := by
      rw [Int.tdiv_eq_ediv_of_nonneg (by omega)]
      omega
    go_upto_region 4 with (fail)
    clear hk hdiv
    have hm : (247 + (k : Int)) % 256 = 247 + (k : Int) := by omega
    go_wp2_with (at_builtin; refine print_append (w0 := w1) B rfl (.tmp 29) (.tmp 33) 35 5 (.int .u8 0) 1 rfl Tryz.underlying35 Tryz.infoByte rfl (by decide) (.slice A l.length c) (Lib.byteCells l) (.int .u8 (247 + (k : Int))) rfl rfl rfl ?ho (Below.refl _ _) hBw ?hl ?go)
    case ho => rw [Lib.byteCells_length]; exact HO.out
    case hl => rw [Lib.byteCells_length]; omega
    case go =>
      intro v1 w2 ho1 _ hgr _
      have hg1 : w2.heap[g]? = some (.cells #[.slice A l.length c] 89 (0, 0)) := (hgr.block g (blk_lt HG.out) (own_ne HO.out HG.out (by decide))).trans HG.out
      have hc1 : w2.cell? ⟨g, 0, none⟩ = some (.slice A l.length c) := (blk_cell hg1 0).trans rfl
      have hf1 := blk_frozen hg1 0
      obtain ⟨A1, c1, rfl⟩ := own_slice ho1
      have HO1 := Aside0.mk ho1
      have HGR := Aside0.mk hgr
      clear hg1 ho1 hgr hc
      go_upto_region 5 with (fail)
      have e1 : Lib.byteCells l ++ [.int .u8 (247 + (k : Int))] = Lib.byteCells (l ++ [UInt8.ofNat (247 + k)]) := by
        rw [Lib.byteCells_append]
        congr 1
        have : (247 + k) % 256 = 247 + k := by omega
        simp [Lib.byteCells, this]
      have ho1 := HO1.out
      rw [e1] at ho1
      have hlen : (Lib.byteCells l).length + 1 = l.length + 1 := by rw [Lib.byteCells_length]
      have hl2 : (l ++ [UInt8.ofNat (247 + k)]).length = l.length + 1 := by simp
      rw [hlen] at ho1 ⊢
      obtain ⟨r1, r2, r3, r4⟩ := put_step (w0 := w1) (bs := Lib.byteCells l) (bs' := Lib.byteCells (l ++ [UInt8.ofNat (247 + k)])) HBB.out hBw HG.out (by rw [Lib.byteCells_length]; exact HO.out) (by rw [Lib.byteCells_length, hl2]; exact ho1) HGR.out (Below.refl _ _) (Lib.OthersKept.refl _ _ _)
      rw [Lib.byteCells_length] at r2
      have HP : Aside0 (WPost B g (l ++ [UInt8.ofNat (247 + k)]) w1 (w2.setCell ⟨g, 0, none⟩ (.slice A1 (l.length + 1) c1))) := ⟨⟨HBB.out, _, r1, r2⟩, r3, r4⟩
      generalize w2.setCell ⟨g, 0, none⟩ (.slice A1 (l.length + 1) c1) = w3 at HP ⊢
      clear r1 r2 r3 r4 ho1 hlen hl2 e1 hc1 hf1 HO1 HGR
      go_wp2
      go_loopw [5] (fun v wr => ∃ (i : Nat) (D M : CS.Bs), v = .int .i64 ((i : Int) - 1) ∧ i ≤ k ∧ M.length ≤ 1000000100 ∧ Aside0 (D ++ CS.big n i = CS.big n k ∧ D.length = k - i ∧ M = l ++ [UInt8.ofNat (247 + k)] ++ D) ∧ Aside0 (WPost B g M w1 wr)) (fun v _ => (intOf v + 1).toNat)
      case atStart => exact ⟨k, [], l ++ [UInt8.ofNat (247 + k)] ++ [], by go_num, Nat.le_refl _, by simp; omega, ⟨rfl, by simp, rfl⟩, ⟨by simpa using HP.out⟩⟩
      case round =>
        obtain ⟨i, D, M, rfl, hi, hml, HD, HW⟩ := hrel
        cases i with
        | zero =>
          have HF : Aside0 (D = CS.big n k) := ⟨by have := HD.out.1; simpa [CS.big] using this⟩
          have tv : ((((0 : Nat) : Int) - 1) : Int) = -1 := by decide
          rw [tv]
          go_wp2
          go_end0
          refine ⟨rfl, ?_⟩
          have := HW.out
          rw [HD.out.2.2, HF.out, List.append_assoc] at this
          rw [HE.out]
          exact this
        | succ j =>
          have tv : ((((j + 1 : Nat) : Int) - 1) : Int) = (j : Int) := by omega
          rw [tv]
          obtain ⟨⟨_, v, hg, ho⟩, hb, hk⟩ := HW.out
          have hc : wr.cell? ⟨g, 0, none⟩ = some v := (blk_cell hg 0).trans rfl
          obtain ⟨A2, c2, rfl⟩ := own_slice ho
          have HG2 := Aside0.mk hg
          have HO2 := Aside0.mk ho
          have HB2 := Aside0.mk hb
          have HK2 := Aside0.mk hk
          clear hg ho hb hk HW tv
          go_upto_region 8 with (fail)
          have e8 : IntKind.i64.wrap (8 * (j : Int)) = 8 * (j : Int) := IntWalk.i64_in _ (by omega)
          have e9 : (0 : Int) ≤ 8 * (j : Int) := by omega
          have z0 := fun o => ((below_alloc (Below.refl _ _) o).cell (World.block_lt_of_cell? wr _ hc)).trans hc
          have HS := Aside0.mk (HB2.out.size)
          have hft := blk_frozen HG2.out 0
          go_region_law ((refine step_append_cells (w0 := w1) B (by simp [Region.wanted]) (.tmp 47) (.tmp 53) 35 5 (.int .u8 0) 1 1 (by rfl) Tryz.underlying35 Tryz.infoByte rfl (by decide) (by decide) (.slice A2 M.length c2) M.length (Lib.byteCells M) [.int .u8 (IntKind.u8.wrap ((n : Int) / 2 ^ (8 * (j : Int)).toNat))] (by rfl) (by rfl) rfl (by simp [Value.oneCell']) HO2.out.drew (below_drew1 HB2.out) (Nat.le_trans hBw HS.out) (by omega) ?_; intro v3 w4 ho3 hb3 hgr3 hn3; obtain ⟨A3, c3, rfl⟩ := own_slice ho3; have hg3 := blk_grown (blk_drew HG2.out) hgr3 (own_ne HO2.out HG2.out (by decide)); have HG3 := Aside0.mk hg3; have HO3 := Aside0.mk ho3; have HB3 := Aside0.mk hb3; have HGR3 := Aside0.mk hgr3; have y9 := (blk_cell hg3 0).trans rfl; have hf9 := blk_frozen hg3 0; clear ho3 hb3 hgr3 hn3 hg3))
          all_goals
            have HPUT : Aside0 (WPost B g (M ++ [UInt8.ofNat (n / 256 ^ j)]) w1 (w4.setCell ⟨g, 0, none⟩ (.slice A3 (M.length + 1) c3))) := ⟨by
              have ho3 := HO3.out
              have e1 : Lib.byteCells M ++ [.int .u8 (IntKind.u8.wrap ((n : Int) / 2 ^ (8 * (j : Int)).toNat))] = Lib.byteCells (M ++ [UInt8.ofNat (n / 256 ^ j)]) := by
                rw [shr_byte, Lib.byteCells_append]; rfl
              rw [e1] at ho3
              have hlen : M.length + 1 = (M ++ [UInt8.ofNat (n / 256 ^ j)]).length := by simp
              rw [hlen] at ho3 ⊢
              obtain ⟨r1, r2, r3, r4⟩ := put_step (w0 := w1) (bs := Lib.byteCells M) (bs' := Lib.byteCells (M ++ [UInt8.ofNat (n / 256 ^ j)])) HBB.out hBw (blk_drew HG2.out) (by rw [Lib.byteCells_length]; exact HO2.out.drew) (by rw [Lib.byteCells_length]; exact ho3) HGR3.out (below_drew1 HB2.out) (othersKept_drew HK2.out)
              rw [Lib.byteCells_length] at r2
              exact ⟨⟨HBB.out, _, r1, r2⟩, r3, r4⟩⟩
            have HML : Aside0 ((M ++ [UInt8.ofNat (n / 256 ^ j)]).length ≤ 1000000100) := ⟨by have h1 := HD.out.2.1; have h2 := congrArg List.length HD.out.2.2; simp at h2 ⊢; omega⟩
            go_wp2
            go_roundw
            case rel => exact ⟨j, D ++ [UInt8.ofNat (n / 256 ^ j)], M ++ [UInt8.ofNat (n / 256 ^ j)], by go_num, by omega, HML.out, ⟨by rw [← HD.out.1]; simp [CS.big], by have := HD.out.2.1; simp; omega, by rw [HD.out.2.2]; simp⟩, HPUT⟩
            case measure => simp [intOf]
end Go.Proofs.YtpapbigghiiolaaGreatDoor

set_option linter.unusedVariables false
namespace Go.Proofs.YtpapbigghiiolaaGreatDoor
open Go.RowKit Go.Proofs.YtpapbigghiiolaaGreatDoorW.PrintWords

namespace CS
theorem big_length (n : Nat) : ∀ k, (big n k).length = k
  | 0 => rfl
  | k + 1 => by simp [big, big_length n k]
theorem encNum_len (n : Nat) (h : n < 18446744073709551616) : (encNum n).length ≤ 9 := by
  unfold encNum
  split
  · simp
  · rw [List.length_cons, big_length]
    have := (nbytes_le n h (by omega)).2
    omega
end CS
theorem append_str {P : Program} {ops : Array Oper} {rest : List Oper} {o : Oper} {a : Act} {Q : Exit → Act → World → Prop} {w0 W : World} (base : Nat) (hgd : o.guard = none) (s x : Operand) (t u e : TypeId)
    (ho : o.op = .call { callee := .builtin .append, args := #[s, x], argTypes := #[t, u] })
    (ht : P.underlying t = some (.slice e)) (hu : P.underlying u = some .string) (hinfo : (P.info? e).map (fun i => (i.zero, i.size, i.bytes)) = some (some (.int .u8 0), 1, 1))
    (v : Value) (m : CS.Bs) (y : ByteArray) (hs : a.eval s = v) (hx : a.eval x = .string y)
    (HO : W.ownsRow base e 1 v m.length (Lib.byteCells m)) (HB : Below base w0 W) (hbase : base ≤ W.heap.size) (hl : m.length + y.size ≤ 140737488355328)
    (h : ∀ v1 w1, w1.ownsRow base e 1 v1 (m ++ y.data.toList).length (Lib.byteCells (m ++ y.data.toList)) → Below base w0 w1 → W.grownBy w1 v.ownBlock → wpList P ops Q rest (a.put o.dst v1) w1) :
    wpList P ops Q (o :: rest) a W := by
  obtain ⟨i0, hi, hzz⟩ := Option.map_eq_some_iff.1 hinfo
  simp only [Prod.mk.injEq] at hzz
  obtain ⟨hz0, hz1, hz2⟩ := hzz
  refine Lib.wpList_append_own_string W hgd s x t u ho base e i0 ht hu hi hz0 hz1 hz2 v m.length (Lib.byteCells m) hs HO y hx (by simp only [maxLen]; omega) hl hbase ?_
  intro v1 w1 hown hg _
  refine h v1 w1 ?_ (HB.grown hg hbase (own_base HO)) hg
  have hsz : y.data.toList.length = y.size := by rw [Array.length_toList]; rfl
  rw [List.length_append, hsz, Lib.byteCells_append]
  exact hown

theorem NewWriter_any (w : World) :
    Calls Tryz.prog 18 #[] w fun e w' => ∃ g, e = .returned (.pointer (some ⟨g, 0, none⟩)) ∧ g = w.heap.size ∧ IsW w.heap.size g [] w' ∧ Below w.heap.size w w' := by
  go_enter Tryz.func18, Tryz.ntmps18
  go_wp2
  go_ret
  exact ⟨_, rfl, rfl, ⟨Nat.le_refl _, .slice none 0 0, blk_new _ _, World.ownsRow_nil _ _ _ _⟩, below_alloc (Below.refl _ _) _⟩

theorem xor_ones (a : Nat) (h : a < 18446744073709551616) : a ^^^ 18446744073709551615 = 18446744073709551615 - a := by
  have h1 : (~~~ (BitVec.ofNat 64 a)).toNat = 2 ^ 64 - 1 - a := by
    rw [BitVec.toNat_not, BitVec.toNat_ofNat, Nat.mod_eq_of_lt h]
  have h2 : (~~~ (BitVec.ofNat 64 a)) = BitVec.ofNat 64 a ^^^ BitVec.allOnes 64 := by rw [BitVec.xor_allOnes]
  rw [h2, BitVec.toNat_xor, BitVec.toNat_ofNat, Nat.mod_eq_of_lt h] at h1
  exact h1
theorem u64_wrap (n : Int) : IntKind.u64.wrap n = n % 18446744073709551616 := by
  simp only [IntKind.wrap, IntKind.bits, IntKind.signed, Bool.false_and, Bool.false_eq_true, if_false]
  rfl
theorem zig_eq (n : Int) (h0 : -9223372036854775808 ≤ n) (h1 : n ≤ 9223372036854775807) : bits BinOp.xor IntKind.u64 (IntKind.u64.wrap (IntKind.u64.wrap n * 2)) (IntKind.u64.wrap (n / 9223372036854775808)) = ((CS.zig n : Nat) : Int) ∧ CS.zig n < 18446744073709551616 := by
  rw [u64_wrap, u64_wrap, u64_wrap]
  unfold CS.zig
  by_cases h : 0 ≤ n
  · rw [if_pos h]
    obtain ⟨m, rfl⟩ := Int.eq_ofNat_of_zero_le h
    have e1 : (((m : Int) % 18446744073709551616) * 2) % 18446744073709551616 = ((2 * m : Nat) : Int) := by omega
    have e2 : ((m : Int) / 9223372036854775808) % 18446744073709551616 = ((0 : Nat) : Int) := by omega
    rw [e1, e2, u64_xor_nat _ _ (by omega) (by omega), Nat.xor_zero]
    omega
  · rw [if_neg h]
    obtain ⟨m, hm⟩ := Int.eq_ofNat_of_zero_le (show 0 ≤ -(n + 1) by omega)
    obtain rfl : n = -(m : Int) - 1 := by omega
    have e1 : (((-(m : Int) - 1) % 18446744073709551616) * 2) % 18446744073709551616 = ((18446744073709551614 - 2 * m : Nat) : Int) := by omega
    have e2 : ((-(m : Int) - 1) / 9223372036854775808) % 18446744073709551616 = ((18446744073709551615 : Nat) : Int) := by omega
    rw [e1, e2, u64_xor_nat _ _ (by omega) (by omega), xor_ones _ (by omega)]
    omega

set_option maxRecDepth 100000 in
set_option maxHeartbeats 1000000 in
theorem WInt_any (B g : Nat) (l : CS.Bs) (n : Int) (w : World) (h : IsW B g l w) (hBw : B ≤ w.heap.size) (hl : l.length ≤ 1000000000) (h0 : -9223372036854775808 ≤ n) (h1 : n ≤ 9223372036854775807) :
    Calls Tryz.prog 21 #[.pointer (some ⟨g, 0, none⟩), .int .i64 n] w fun e w' => e = .returned (.tuple #[]) ∧ WPost B g (l ++ CS.encInt n) w w' := by
  have H := Aside0.mk h
  clear h
  go_enter Tryz.func21, Tryz.ntmps21
  go_wp2_with fail
  obtain ⟨hz, hz2⟩ := zig_eq n h0 h1
  rw [hz]
  refine (WNumber_any B g l (CS.zig n) _ H.out hBw hl hz2).mono ?_
  rintro e w1 ⟨rfl, hp⟩
  have HP := Aside0.mk hp
  clear hp hz hz2
  go_wp2
  go_end0
  exact ⟨rfl, HP.out⟩

set_option maxRecDepth 100000 in
set_option maxHeartbeats 1000000 in
theorem WText_any (B g : Nat) (l : CS.Bs) (s : ByteArray) (w : World) (h : IsW B g l w) (hBw : B ≤ w.heap.size) (hl : l.length ≤ 1000000000) (hs : s.size ≤ 1000000000) :
    Calls Tryz.prog 20 #[.pointer (some ⟨g, 0, none⟩), .string s] w fun e w' => e = .returned (.tuple #[]) ∧ WPost B g (l ++ CS.encText s.data.toList) w w' := by
  have H := Aside0.mk h
  clear h
  go_enter Tryz.func20, Tryz.ntmps20
  go_wp2_with fail
  refine (WNumber_any B g l s.size _ H.out hBw hl (by omega)).mono ?_
  rintro e w1 ⟨rfl, hp⟩
  obtain ⟨M, hM⟩ : ∃ M, M = l ++ CS.encNum s.size := ⟨_, rfl⟩
  rw [← hM] at hp
  obtain ⟨⟨hB, v, hg, ho⟩, hb, hk⟩ := hp
  have hc : w1.cell? ⟨g, 0, none⟩ = some v := (blk_cell hg 0).trans rfl
  obtain ⟨A, c, rfl⟩ := own_slice ho
  have HG := Aside0.mk hg
  have HO := Aside0.mk ho
  have HB := Aside0.mk hb
  have HK := Aside0.mk hk
  have HBB := Aside0.mk hB
  have HSZ : Aside0 (s.data.toList.length = s.size) := ⟨by rw [Array.length_toList]; rfl⟩
  have HLN : Aside0 (M.length ≤ 1000000100) := ⟨by rw [hM, List.length_append]; have := CS.encNum_len s.size (by omega); omega⟩
  have HBS := Aside0.mk (Nat.le_trans hBw hb.size)
  have HM := Aside0.mk hM
  clear hg ho hb hk hB hM
  go_wp2_with (at_builtin; refine append_str (w0 := w) B rfl (.tmp 15) (.tmp 16) 35 9 5 rfl Tryz.underlying35 Tryz.underlying9 Tryz.infoByte (.slice A M.length c) M s rfl rfl HO.out HB.out HBS.out ?hl ?go)
  case hl => have := HLN.out; omega
  case go =>
    intro v1 w2 ho1 hb1 hgr1
    have hg1 := blk_grown HG.out hgr1 (own_ne HO.out HG.out (by decide))
    have hc1 := (blk_cell hg1 0).trans rfl
    have hf1 := blk_frozen hg1 0
    obtain ⟨A1, c1, rfl⟩ := own_slice ho1
    have HO1 := Aside0.mk ho1
    have HGR := Aside0.mk hgr1
    clear hg1 ho1 hgr1 hb1 hc
    go_wp2
    go_end0
    obtain ⟨r1, r2, r3, r4⟩ := put_step (w0 := w) (bs := Lib.byteCells M) (bs' := Lib.byteCells (M ++ s.data.toList)) HBB.out hBw HG.out (by rw [Lib.byteCells_length]; exact HO.out) (by rw [Lib.byteCells_length, List.length_append, HSZ.out]; exact HO1.out) HGR.out HB.out HK.out
    rw [Lib.byteCells_length] at r2
    refine ⟨rfl, ⟨HBB.out, _, r1, ?_⟩, r3, r4⟩
    have e1 : l ++ CS.encText s.data.toList = M ++ s.data.toList := by unfold CS.encText; rw [HM.out, HSZ.out, List.append_assoc]
    rw [e1]
    exact r2

set_option maxRecDepth 100000 in
set_option maxHeartbeats 1000000 in
theorem WBytes_any (B g : Nat) (l : CS.Bs) (w : World) (h : IsW B g l w) (hBw : B ≤ w.heap.size) (hl : l.length ≤ 2000000000) :
    Calls Tryz.prog 22 #[.pointer (some ⟨g, 0, none⟩)] w fun e w' => ∃ v, e = .returned v ∧ w'.ownsRow w.heap.size 5 1 v l.length (Lib.byteCells l) ∧ Below w.heap.size w w' := by
  obtain ⟨hB, v, hg, ho⟩ := h
  have hc : w.cell? ⟨g, 0, none⟩ = some v := (blk_cell hg 0).trans rfl
  obtain ⟨A, c, rfl⟩ := own_slice ho
  have HG := Aside0.mk hg
  have HO := Aside0.mk ho
  have HB0 := Aside0.mk (Below.refl w.heap.size w)
  clear hg ho hB
  go_enter Tryz.func22, Tryz.ntmps22
  go_wp2_with (first | ((with_reducible refine gate_dst (N := 5) rfl ?_); refine Kd.R_lit (Kd.int .u8) w.heap.size 5 rfl (N := 5) rfl (xs := ([] : List Int)) (inner := []) (ok := fun _ => True) (okp := fun _ => True) (by first | (go_simp; done) | (go_simp; rfl)) (Reps.none _ _) (fun _ hk => hk) trivial HB0.out (Nat.le_refl _) (by simp) ?_; intro v5 w5 ho5 hb5 hg5 hn5; have HO5 := Aside0.mk (Kd.own_of_R ho5); have HB5 := Aside0.mk hb5; have HC5 := Aside0.mk (pw_own_below HO.out hb5); have hc5 := (hb5.cell (World.block_lt_of_cell? w _ hc)).trans hc; clear hc ho5 hb5 hg5 hn5) | (at_builtin; refine print_append_row (w0 := w) w.heap.size rfl (.tmp 5) (.tmp 9) 35 5 .u8 1 rfl Tryz.underlying35 Tryz.infoByte (by decide) v5 ([] : List Int) (l.map fun b => (b.toNat : Int)) A l.length c rfl rfl HO5.out (own_reads' (bytes_nums l ▸ HC5.out)) HB5.out HB5.out.size (by simp; omega) ?_; intro v1 w6 ho6 hb6 _ _; rw [List.nil_append, ← bytes_nums, List.length_map] at ho6; have HO6 := Aside0.mk ho6; have HB6 := Aside0.mk hb6; clear ho6 hb6))
  go_ret
  exact ⟨_, rfl, HO6.out, HB6.out⟩
end Go.Proofs.YtpapbigghiiolaaGreatDoor

set_option linter.unusedVariables false
namespace Go.Proofs.YtpapbigghiiolaaGreatDoor
open Go.RowKit Go.Proofs.YtpapbigghiiolaaGreatDoorW.PrintWords

def ints (l : CS.Bs) : List Int := l.map fun b => (b.toNat : Int)
theorem ints_length (l : CS.Bs) : (ints l).length = l.length := by unfold ints; rw [List.length_map]
theorem ints_drop (l : CS.Bs) (m : Nat) : (ints l).drop m = ints (l.drop m) := by unfold ints; rw [List.map_drop]
theorem ints_take (l : CS.Bs) (m : Nat) : (ints l).take m = ints (l.take m) := by unfold ints; rw [List.map_take]
theorem strOf_ints (l : CS.Bs) : strOfNums (ints l) = sb l := nums_sb l
theorem ints_getD (l : CS.Bs) (i : Nat) (h : i < l.length) : (ints l).getD i 0 = ((l.getD i 0).toNat : Int) := by
  unfold ints
  rw [List.getD_eq_getElem?_getD, List.getD_eq_getElem?_getD, List.getElem?_map, List.getElem?_eq_getElem h]
  rfl
/-- bytes that are read: they lie in blocks of ok -/
def FB (w : World) (ok : Nat → Prop) (A : Option Addr) (l : CS.Bs) : Prop := Kd.F (Kd.int .u8) w ok A l.length (ints l)
theorem FB.cell {w : World} {ok : Nat → Prop} {A : Option Addr} {l : CS.Bs} (h : FB w ok A l) (i : Nat) (hi : i < l.length) : ∃ ad, A = some ad ∧ w.cell? (ad.add i) = some (.int .u8 ((l.getD i 0).toNat : Int)) := by
  obtain ⟨ad, c, e, _, hK, hc⟩ := Kd.C_get (Kd.F_now h) (0 : Int) (i : Int) (by omega) (by omega)
  have hc' := hc 0 _ (by rw [show c = _ from hK]; rfl)
  refine ⟨ad, e, ?_⟩
  have hz : (Kd.int .u8).sz = 1 := rfl
  rw [hz] at hc'
  rw [← ints_getD l i hi]
  simpa using hc'
theorem slice_from {P : Program} {t e : TypeId} {kl : IntKind} {i : TypeInfo} (ht : P.underlying t = some (.slice e)) (hi : P.info? e = some i) (hsz : i.size = 1) {w : World} {ok : Nat → Prop} {A : Option Addr} {l : CS.Bs} (h : FB w ok A l) (c m : Nat) (hm : m ≤ l.length) (hc : l.length ≤ c) :
    ∃ A', (∀ W : World, (Instr.slice t (.slice A l.length c) (some (.int kl (m : Int))) none none).run P W = .ok (.slice A' (l.drop m).length (c - m)) W) ∧ FB w ok A' (l.drop m) := by
  refine ⟨if c = m then A else A.map (·.add (m * 1)), fun W => ?_, ?_⟩
  · have hel : P.elem t = e := by simp [Program.elem, ht]
    have hu : P.underlying t = some (.slice (P.elem t)) := by rw [hel]; exact ht
    rw [run_slice_l W t A l.length c hu kl (m : Int) (by omega) (by omega), hel, List.length_drop]
    simp [sizeOf, typeInfo, hi, hsz, sliced, Result.andThen]
  · have h1 : Kd.F (Kd.int .u8) w ok A (ints l).length (ints l) := by rw [ints_length]; exact h
    have h2 := Kd.F_cut (c := c) h1 (m := m) (by rw [ints_length]; exact hm) (by rw [ints_length]; exact hc)
    rw [ints_drop, ints_length] at h2
    exact h2
theorem slice_mid {P : Program} {t e : TypeId} {kl kh : IntKind} {i : TypeInfo} (ht : P.underlying t = some (.slice e)) (hi : P.info? e = some i) (hsz : i.size = 1) {w : World} {ok : Nat → Prop} {A : Option Addr} {l : CS.Bs} (h : FB w ok A l) (c lo hi' : Nat) (h1 : lo ≤ hi') (h2 : hi' ≤ l.length) (hc : l.length ≤ c) :
    ∃ A', (∀ W : World, (Instr.slice t (.slice A l.length c) (some (.int kl (lo : Int))) (some (.int kh (hi' : Int))) none).run P W = .ok (.slice A' (hi' - lo) (c - lo)) W) ∧ FB w ok A' ((l.take hi').drop lo) := by
  refine ⟨if c = lo then A else A.map (·.add (lo * 1)), fun W => ?_, ?_⟩
  · exact cut_mid t e kl kh ht hi 1 hsz A l.length c lo hi' (by omega) (by omega) (by omega) hc W
  · have h3 : Kd.F (Kd.int .u8) w ok A (ints l).length (ints l) := by rw [ints_length]; exact h
    have h4 := Kd.F_mid (c := c) h3 h1 (by rw [ints_length]; exact h2) (by rw [ints_length]; exact hc)
    rw [ints_take, ints_drop, ints_length] at h4
    exact h4
theorem slice_to {P : Program} {t e : TypeId} {kh : IntKind} {i : TypeInfo} (ht : P.underlying t = some (.slice e)) (hi : P.info? e = some i) (hsz : i.size = 1) {w : World} {ok : Nat → Prop} {A : Option Addr} {l : CS.Bs} (h : FB w ok A l) (c m : Nat) (hm : m ≤ l.length) (hc : l.length ≤ c) :
    (∀ W : World, (Instr.slice t (.slice A l.length c) none (some (.int kh (m : Int))) none).run P W = .ok (.slice A m c) W) ∧ FB w ok A (l.take m) := by
  refine ⟨fun W => ?_, ?_⟩
  · have hel : P.elem t = e := by simp [Program.elem, ht]
    have hu : P.underlying t = some (.slice (P.elem t)) := by rw [hel]; exact ht
    have ha : (A.map fun x => x.add 0) = A := by cases A <;> simp [Addr.add]
    rw [run_slice_h W t A l.length c hu kh (m : Int) (by omega) (by omega), hel]
    simp [sizeOf, typeInfo, hi, hsz, sliced, Result.andThen, ha]
  · have h1 : Kd.F (Kd.int .u8) w ok A (ints l).length (ints l) := by rw [ints_length]; exact h
    have h2 := Kd.F_take h1 (m := m) (by rw [ints_length]; exact hm)
    rw [ints_take, ints_length] at h2
    exact h2
theorem FB.keep {w w1 : World} {ok S : Nat → Prop} {A : Option Addr} {l : CS.Bs} (h : FB w ok A l) (hk : Keep S w w1) (hs : ∀ k, ok k → ¬ S k) : FB w1 ok A l := Kd.F_step h (fun k ho hlt => hk.block k hlt (hs k ho))
theorem FB.string {w : World} {ok : Nat → Prop} {A : Option Addr} {l : CS.Bs} {c : Nat} (h : FB w ok A l) : (convert 35 9 (.slice A l.length c)).run Tryz.prog w = .ok (.string (sb l)) w := by
  rw [← strOf_ints]
  exact Kd.C_string Tryz.underlying35 Tryz.underlying5 Tryz.underlying9 (Kd.F_now h)
/-- a reader in block g -/
def IsR (T : TypeId) (ok : Nat → Prop) (g : Nat) (r : CS.Rd) (w : World) : Prop :=
  ∃ A c, w.heap[g]? = some (.cells #[.slice A (r.getD []).length c, .bool r.isNone] T (0, 0)) ∧ (r.getD []).length ≤ c ∧ FB w ok A (r.getD []) ∧ (∀ k, ok k → k ≠ g) ∧ (r.getD []).length ≤ 4611686018427387904
theorem IsR.keep {T : TypeId} {ok S : Nat → Prop} {g : Nat} {r : CS.Rd} {w w1 : World} (h : IsR T ok g r w) (hk : Keep S w w1) (hg : ¬ S g) (hs : ∀ k, ok k → ¬ S k) : IsR T ok g r w1 := by
  obtain ⟨A, c, h1, h2, h3, h4⟩ := h
  exact ⟨A, c, hk.blk h1 hg, h2, h3.keep hk hs, h4⟩

theorem infoByteX : ∃ i, Tryz.prog.info? 5 = some i ∧ i.size = 1 := by
  obtain ⟨i0, hi, hz0, hz1, hz2⟩ := info_parts Tryz.infoByte
  exact ⟨i0, hi, hz1⟩

theorem fail_any (ok : Nat → Prop) (g : Nat) (r : CS.Rd) (w : World) (h : IsR 119 ok g r w) :
    Calls Tryz.prog 68 #[.pointer (some ⟨g, 0, none⟩)] w fun e w' => e = .returned (.tuple #[]) ∧ IsR 119 ok g none w' ∧ Keep (· = g) w w' := by
  obtain ⟨A, c, h1, h2, h3, h4, h5⟩ := h
  have x0 := (blk_cell h1 0).trans rfl
  have x1 := (blk_cell h1 1).trans rfl
  have f0 := blk_frozen h1 0
  have f1 := blk_frozen h1 1
  have H1 := Aside0.mk h1
  have H3 := Aside0.mk h3
  have H4 := Aside0.mk h4
  clear h1 h3 h4
  go_enter Tryz.func68, Tryz.ntmps68
  go_wp2
  go_end0
  exact ⟨rfl, ⟨none, 0, set2 H1.out, Nat.le_refl _, Kd.F_nil _ _ _, H4.out, by decide⟩, ((Keep.refl (· = g) w).set_ (.inl rfl) 0 _).set_ (.inl rfl) 1 _⟩

/-! Number -/
namespace CS
theorem val_snoc (l : Bs) (b : UInt8) : val (l ++ [b]) = val l * 256 + b.toNat := by unfold val; rw [List.foldl_append]; rfl
theorem val_lt (l : Bs) : val l < 256 ^ l.length := by
  have h : ∀ (l : Bs) (n : Nat), l.length = n → val l < 256 ^ n := by
    intro l n
    induction n generalizing l with
    | zero => intro h; rw [List.eq_nil_of_length_eq_zero h]; decide
    | succ n ih =>
      intro h
      obtain ⟨l', b, rfl⟩ : ∃ l' b, l = l' ++ [b] := by
        have hne : l ≠ [] := by intro e; rw [e] at h; simp at h
        exact ⟨l.dropLast, l.getLast hne, (List.dropLast_concat_getLast hne).symm⟩
      have hl : l'.length = n := by simpa using h
      have := ih l' hl
      have hb := b.toNat_lt
      rw [val_snoc, Nat.pow_succ]
      omega
  exact h l l.length rfl
theorem val_take (l : Bs) (i : Nat) (h : i < l.length) : val (l.take (i + 1)) = val (l.take i) * 256 + (l.getD i 0).toNat := by
  rw [List.take_succ_eq_append_getElem h, val_snoc, List.getD_eq_getElem?_getD, List.getElem?_eq_getElem h]
  rfl
end CS
theorem or_byte (a b : Nat) (ha : a < 72057594037927936) (hb : b < 256) : bits BinOp.or IntKind.u64 ((a : Int) * 256) (b : Int) = ((a * 256 + b : Nat) : Int) := by
  have h := u64_or_nat (a * 256) b (by omega) (by omega)
  have h2 : a * 256 ||| b = a * 256 + b := by
    have := Nat.shiftLeft_add_eq_or_of_lt (b := b) (i := 8) hb a
    rw [Nat.shiftLeft_eq] at this
    exact this.symm
  rw [h2] at h
  rw [← h]
  rfl

def NumPost (T : TypeId) (ok : Nat → Prop) (g : Nat) (r : CS.Rd) (w : World) (e : Ending) (w' : World) : Prop := e = .returned (.int .u64 ((CS.rdNum r).1 : Int)) ∧ IsR T ok g (CS.rdNum r).2 w' ∧ Keep (· = g) w w'

set_option maxRecDepth 100000 in
set_option maxHeartbeats 2000000 in
theorem RNumber_any (ok : Nat → Prop) (g : Nat) (r : CS.Rd) (w : World) (h : IsR 119 ok g r w) :
    Calls Tryz.prog 46 #[.pointer (some ⟨g, 0, none⟩)] w (NumPost 119 ok g r w) := by
  have H := Aside0.mk h
  obtain ⟨A, c, h1, h2, h3, h4, h5⟩ := h
  have x0 := (blk_cell h1 0).trans rfl
  have x1 := (blk_cell h1 1).trans rfl
  have f0 := blk_frozen h1 0
  have H1 := Aside0.mk h1
  have H3 := Aside0.mk h3
  have H4 := Aside0.mk h4
  clear h1 h3 h4
  cases r with
  | none =>
    simp only [Option.isNone_none, Option.getD_none, List.length_nil] at x0 x1 h2 h5
    go_enter Tryz.func46, Tryz.ntmps46
    go_wp2
    go_ret
    exact ⟨rfl, H.out, Keep.refl _ _⟩
  | some l =>
    simp only [Option.isNone_some, Option.getD_some] at x0 x1 h2 h5
    cases l with
    | nil =>
      simp only [List.length_nil] at x0 h2 h5
      go_enter Tryz.func46, Tryz.ntmps46
      go_wp2_with fail
      refine (fail_any ok g _ _ H.out).mono ?_
      rintro e w1 ⟨rfl, hr1, hk1⟩
      have HR := Aside0.mk hr1
      have HK := Aside0.mk hk1
      clear hr1 hk1
      go_wp2
      go_ret
      exact ⟨rfl, HR.out, HK.out⟩
    | cons f rest =>
      obtain ⟨ad, hA, hc0⟩ := H3.out.cell 0 (by simp)
      subst hA
      replace hc0 : w.cell? ad = some (.int .u8 (f.toNat : Int)) := by
        have e : ad.add 0 = ad := by unfold Addr.add; split <;> simp_all
        rw [e] at hc0
        exact hc0
      have te : (((rest.length : Int) + 1) == 0) = false := by simp; omega
      replace x0 : w.cell? ⟨g, 0, none⟩ = some (.slice (some ad) (rest.length + 1) c) := x0
      have hlen : rest.length + 1 ≤ c := h2
      have hmax : rest.length + 1 ≤ 4611686018427387904 := h5
      replace x1 : w.cell? ⟨g, 1, none⟩ = some (.bool false) := x1
      replace H3 : Aside0 (FB w ok (some ad) (f :: rest)) := H3
      replace H1 : Aside0 (w.heap[g]? = some (.cells #[.slice (some ad) (rest.length + 1) c, .bool false] 119 (0, 0))) := H1
      clear h2 h5
      have hf := f.toNat_lt
      obtain ⟨i0, hi0, hi1⟩ := infoByteX
      by_cases hs : f.toNat < 248
      · have HE : Aside0 (CS.rdNum (some (f :: rest)) = (f.toNat, some rest)) := ⟨by simp only [CS.rdNum]; rw [if_pos hs]⟩
        have t0 : decide ((f.toNat : Int) < 248) = true := decide_eq_true (by omega)
        obtain ⟨A', hsl', hfb⟩ := slice_from (P := Tryz.prog) (t := 35) (kl := .i64) Tryz.underlying35 hi0 hi1 H3.out c 1 (by simp) (by simpa using hlen)
        have hsl : ∀ W : World, (Instr.slice 35 (.slice (some ad) (rest.length + 1) c) (some (.int .i64 1)) none none).run Tryz.prog W = .ok (.slice A' rest.length (c - 1)) W := fun W => hsl' W
        have HFB : Aside0 (FB w ok A' rest) := ⟨hfb⟩
        clear hsl' hfb hs hi0 hi1
        go_enter Tryz.func46, Tryz.ntmps46
        go_wp2
        go_ret
        have hk : Keep (· = g) w (w.setCell ⟨g, 0, none⟩ (.slice A' rest.length (c - 1))) := (Keep.refl (· = g) w).set_ (.inl rfl) 0 _
        refine ⟨by rw [HE.out]; rfl, ?_, hk⟩
        rw [HE.out]
        exact ⟨A', c - 1, by simpa using blk_set H1.out 0 (.slice A' rest.length (c - 1)), by simp; omega, HFB.out.keep hk (fun k h => H4.out k h), H4.out, by simp; omega⟩
      · have t0 : decide ((f.toNat : Int) < 248) = false := decide_eq_false (by omega)
        obtain ⟨k, hk⟩ : ∃ k, k = f.toNat - 247 := ⟨_, rfl⟩
        obtain ⟨n, hn⟩ : ∃ n, n = f.toNat := ⟨_, rfl⟩
        rw [← hn] at hc0 t0
        have hnk : (n : Int) - 247 = (k : Int) := by omega
        have hk1 : 1 ≤ k := by omega
        have hk8 : k ≤ 8 := by omega
        by_cases hshort : rest.length < k
        · have HE : Aside0 (CS.rdNum (some (f :: rest)) = (0, none)) := ⟨by simp only [CS.rdNum]; rw [if_neg hs, ← hk, if_pos hshort]⟩
          have t1 : decide (rest.length < k) = true := decide_eq_true hshort
          have HG := Aside0.mk H.out
          clear hs hk hn hshort
          go_enter Tryz.func46, Tryz.ntmps46
          go_wp2_with fail
          refine (fail_any ok g _ _ HG.out).mono ?_
          rintro e w1 ⟨rfl, hr1, hk1⟩
          have HR := Aside0.mk hr1
          have HK := Aside0.mk hk1
          clear hr1 hk1
          go_wp2
          go_ret
          exact ⟨by rw [HE.out]; rfl, by rw [HE.out]; exact HR.out, HK.out⟩
        · have t1 : decide (rest.length < k) = false := decide_eq_false hshort
          obtain ⟨A2, hsl2', hfb2⟩ := slice_mid (P := Tryz.prog) (t := 35) (kl := .i64) (kh := .i64) Tryz.underlying35 hi0 hi1 H3.out c 1 (1 + k) (by omega) (by simp; omega) (by simpa using hlen)
          have hsl2 : ∀ W : World, (Instr.slice 35 (.slice (some ad) (rest.length + 1) c) (some (.int .i64 1)) (some (.int .i64 (1 + (k : Int)))) none).run Tryz.prog W = .ok (.slice A2 k (c - 1)) W := fun W => by
            have := hsl2' W
            rw [show (1 + k) - 1 = k by omega] at this
            exact this
          obtain ⟨m, hm⟩ : ∃ m, m = rest.take k := ⟨_, rfl⟩
          have hml : m.length = k := by rw [hm, List.length_take]; omega
          have HFB2 : Aside0 (FB w ok A2 m) := ⟨by
            have e : ((f :: rest).take (1 + k)).drop 1 = rest.take k := by rw [Nat.add_comm, List.take_succ_cons]; rfl
            rw [e, ← hm] at hfb2
            exact hfb2⟩
          have HM := Aside0.mk hm
          have HML := Aside0.mk hml
          have HNS := Aside0.mk hs
          have HKK := Aside0.mk hk
          have HSH := Aside0.mk hshort
          clear hsl2' hfb2 hs hk hn hshort hm hml
          go_enter Tryz.func46, Tryz.ntmps46
          go_wp2
          go_loop [5, 63] (fun v5 v63 => ∃ i : Nat, v63 = .int .i64 (i : Int) ∧ i ≤ k ∧ v5 = .int .u64 ((CS.val (m.take i) : Nat) : Int)) (fun _ v => k - (intOf v).toNat)
          case atStart => exact ⟨0, rfl, Nat.zero_le _, rfl⟩
          case round =>
            obtain ⟨i, rfl, hi, rfl⟩ := hrel
            by_cases hlt : i < k
            · have t2 : decide (i < k) = true := decide_eq_true hlt
              obtain ⟨ad2, rfl, hcell⟩ := HFB2.out.cell i (by rw [HML.out]; exact hlt)
              obtain ⟨b, hb⟩ : ∃ b, b = (m.getD i 0).toNat := ⟨_, rfl⟩
              have hb256 : b < 256 := by rw [hb]; exact (m.getD i 0).toNat_lt
              obtain ⟨a, ha⟩ : ∃ a, a = CS.val (m.take i) := ⟨_, rfl⟩
              have hav : a < 72057594037927936 := by
                have h1 := CS.val_lt (m.take i)
                have h2 : (m.take i).length = i := by rw [List.length_take, HML.out]; omega
                rw [h2, ← ha] at h1
                exact Nat.lt_of_lt_of_le h1 (Nat.le_trans (Nat.pow_le_pow_right (by decide) (show i ≤ 7 by omega)) (by decide))
              rw [← hb] at hcell
              rw [← ha]
              have HNX : Aside0 (CS.val (m.take (i + 1)) = a * 256 + b) := ⟨by rw [CS.val_take m i (by rw [HML.out]; exact hlt), ← ha, ← hb]⟩
              have hor := or_byte a b hav hb256
              clear hb ha
              go_wp2
              go_round
              case rel => exact ⟨i + 1, by go_num, hlt, by rw [HNX.out]; go_num⟩
              case measure => simp [intOf]; omega
            · have t2 : decide (i < k) = false := decide_eq_false hlt
              obtain ⟨a, ha⟩ : ∃ a, a = CS.val (m.take i) := ⟨_, rfl⟩
              have HV : Aside0 (a = CS.val (rest.take k)) := ⟨by rw [ha, ← HM.out, List.take_of_length_le (by rw [HML.out]; omega)]⟩
              rw [← ha]
              clear ha
              obtain ⟨ad1, hA1, hc1⟩ := H3.out.cell 1 (by have := HSH.out; simp; omega)
              cases hA1
              obtain ⟨r0, hr0⟩ : ∃ r0, r0 = (rest.getD 0 0).toNat := ⟨_, rfl⟩
              replace hc1 : w.cell? ⟨ad.block, ad.off + 1, none⟩ = some (.int .u8 (r0 : Int)) := by rw [hr0]; exact hc1
              have hi1b : (1 : Int) < (rest.length : Int) + 1 := by have := HSH.out; omega
              have HR0 := Aside0.mk hr0
              clear hr0
              have HHD : Aside0 ((rest.head? = some 0) ↔ r0 = 0) := ⟨by
                rw [HR0.out]
                have hne : 0 < rest.length := by have := HSH.out; omega
                cases rest with
                | nil => simp at hne
                | cons q qs =>
                  simp only [List.head?_cons, Option.some.injEq, List.getD_cons_zero]
                  constructor
                  · rintro rfl; rfl
                  · intro h; exact UInt8.toNat_inj.1 h⟩
              have HE0 : Aside0 (CS.rdNum (some (f :: rest)) = if a < 248 ∨ r0 = 0 then (0, none) else (a, some (rest.drop k))) := ⟨by
                simp only [CS.rdNum]
                rw [if_neg HNS.out, ← HKK.out, if_neg HSH.out, ← HV.out]
                by_cases hb : a < 248 ∨ r0 = 0
                · rw [if_pos hb, if_pos (by rcases hb with h | h; exact .inl h; exact .inr (HHD.out.2 h))]
                · rw [if_neg hb, if_neg (by rintro (h | h); exact hb (.inl h); exact hb (.inr (HHD.out.1 h)))]⟩
              by_cases hsm : a < 248
              · have HE : Aside0 (CS.rdNum (some (f :: rest)) = (0, none)) := ⟨by rw [HE0.out, if_pos (.inl hsm)]⟩
                have t3 : decide ((a : Int) < 248) = true := decide_eq_true (by omega)
                clear hsm
                go_wp2_with fail
                refine (fail_any ok g _ _ H.out).mono ?_
                rintro e w1 ⟨rfl, hr1, hk1⟩
                have HR := Aside0.mk hr1
                have HK := Aside0.mk hk1
                clear hr1 hk1
                go_wp2
                go_ret
                exact ⟨by rw [HE.out]; rfl, by rw [HE.out]; exact HR.out, HK.out⟩
              · have t3 : decide ((a : Int) < 248) = false := decide_eq_false (by omega)
                by_cases hz : r0 = 0
                · have HE : Aside0 (CS.rdNum (some (f :: rest)) = (0, none)) := ⟨by rw [HE0.out, if_pos (.inr hz)]⟩
                  have t4 : ((r0 : Int) == 0) = true := by rw [hz]; rfl
                  clear hsm hz
                  go_wp2_with fail
                  refine (fail_any ok g _ _ H.out).mono ?_
                  rintro e w1 ⟨rfl, hr1, hk1⟩
                  have HR := Aside0.mk hr1
                  have HK := Aside0.mk hk1
                  clear hr1 hk1
                  go_wp2
                  go_ret
                  exact ⟨by rw [HE.out]; rfl, by rw [HE.out]; exact HR.out, HK.out⟩
                · have HE : Aside0 (CS.rdNum (some (f :: rest)) = (a, some (rest.drop k))) := ⟨by rw [HE0.out, if_neg (by rintro (h | h); exact hsm h; exact hz h)]⟩
                  have t4 : ((r0 : Int) == 0) = false := by simp; omega
                  obtain ⟨A', hsl', hfb⟩ := slice_from (P := Tryz.prog) (t := 35) (kl := .i64) Tryz.underlying35 hi0 hi1 H3.out c (1 + k) (by have := HSH.out; simp; omega) (by simpa using hlen)
                  have hdl : ((f :: rest).drop (1 + k)).length = rest.length - k := by rw [List.length_drop, List.length_cons]; omega
                  have hsl : ∀ W : World, (Instr.slice 35 (.slice (some ad) (rest.length + 1) c) (some (.int .i64 (1 + (k : Int)))) none none).run Tryz.prog W = .ok (.slice A' (rest.length - k) (c - (1 + k))) W := fun W => by
                    have := hsl' W
                    rw [hdl] at this
                    exact this
                  have HFB : Aside0 (FB w ok A' (rest.drop k)) := ⟨by
                    have e : (f :: rest).drop (1 + k) = rest.drop k := by rw [Nat.add_comm, List.drop_succ_cons]
                    rw [e] at hfb
                    exact hfb⟩
                  clear hsl' hfb hdl hsm hz hsl2
                  go_wp2
                  go_ret
                  have hk : Keep (· = g) w (w.setCell ⟨g, 0, none⟩ (.slice A' (rest.length - k) (c - (1 + k)))) := (Keep.refl (· = g) w).set_ (.inl rfl) 0 _
                  refine ⟨by rw [HE.out]; rfl, ?_, hk⟩
                  rw [HE.out]
                  have hdl2 : (rest.drop k).length = rest.length - k := List.length_drop
                  exact ⟨A', c - (1 + k), by simpa using blk_set H1.out 0 (.slice A' (rest.length - k) (c - (1 + k))), by simp; omega, HFB.out.keep hk (fun k h => H4.out k h), H4.out, by simp; omega⟩
end Go.Proofs.YtpapbigghiiolaaGreatDoor

set_option linter.unusedVariables false
namespace Go.Proofs.YtpapbigghiiolaaGreatDoor
open Go.RowKit Go.Proofs.YtpapbigghiiolaaGreatDoorW.PrintWords

namespace CS
theorem rdNum_lt (r : Rd) : (rdNum r).1 < 18446744073709551616 := by
  cases r with
  | none => decide
  | some l =>
    cases l with
    | nil => decide
    | cons f rest =>
      have hf := f.toNat_lt
      simp only [rdNum]
      split
      · simp only; omega
      · split
        · decide
        · split
          · decide
          · simp only
            have h1 := val_lt (rest.take (f.toNat - 247))
            have h2 : (rest.take (f.toNat - 247)).length ≤ 8 := by rw [List.length_take]; omega
            exact Nat.lt_of_lt_of_le h1 (Nat.le_trans (Nat.pow_le_pow_right (by decide) h2) (by decide))
def textOf (n : Nat) : Rd → Bs × Rd
  | none => ([], none)
  | some l => if l.length < n then ([], none) else (l.take n, some (l.drop n))
theorem rdText_eq (r : Rd) : rdText r = textOf (rdNum r).1 (rdNum r).2 := by
  unfold rdText
  obtain ⟨n, r1⟩ := rdNum r
  cases r1 <;> rfl
theorem rdNum_left (r : Rd) : ((rdNum r).2.getD []).length ≤ (r.getD []).length := by
  cases r with
  | none => exact Nat.le_refl _
  | some l =>
    cases l with
    | nil => exact Nat.le_refl _
    | cons f rest =>
      simp only [rdNum]
      split
      · simp
      · split
        · simp
        · split
          · simp
          · simp; omega
end CS

theorem unzig_eq (n : Nat) (h : n < 18446744073709551616) : bits BinOp.xor IntKind.i64 ((n : Int) / 2) (wrap64 (-wrap64 (bits BinOp.and IntKind.u64 (n : Int) 1))) = CS.unzig n := by
  have h1 : bits BinOp.and IntKind.u64 (n : Int) 1 = ((n % 2 : Nat) : Int) := by
    have := u64_and_nat n 1 h (by decide)
    rw [Nat.and_one_is_mod] at this
    exact this
  obtain ⟨m, hm⟩ : ∃ m, m = n / 2 := ⟨_, rfl⟩
  have h2 : (n : Int) / 2 = (m : Int) := by omega
  rw [h1, h2]
  unfold CS.unzig
  rw [← hm]
  by_cases hp : n % 2 = 1
  · rw [if_pos hp, hp]
    have h3 : wrap64 (-wrap64 ((1 : Nat) : Int)) = -1 := by unfold wrap64; decide
    rw [h3]
    show IntKind.i64.wrap ((BitVec.ofInt 64 (m : Int) ^^^ BitVec.ofInt 64 (-1)).toNat : Int) = _
    have h4 : BitVec.ofInt 64 (-1) = BitVec.allOnes 64 := by decide
    rw [h4, BitVec.xor_allOnes, BitVec.toNat_not, ofInt_u64 m (by omega)]
    simp [IntKind.wrap, IntKind.bits, IntKind.signed]
    omega
  · rw [if_neg hp, show n % 2 = 0 by omega]
    have h3 : wrap64 (-wrap64 ((0 : Nat) : Int)) = 0 := by unfold wrap64; decide
    rw [h3]
    show IntKind.i64.wrap ((BitVec.ofInt 64 (m : Int) ^^^ BitVec.ofInt 64 0).toNat : Int) = _
    have h4 : BitVec.ofInt 64 0 = 0#64 := by decide
    rw [h4, BitVec.xor_zero, ofInt_u64 m (by omega)]
    simp [IntKind.wrap, IntKind.bits, IntKind.signed]
    omega

theorem RInt_any (ok : Nat → Prop) (g : Nat) (r : CS.Rd) (w : World) (h : IsR 119 ok g r w) :
    Calls Tryz.prog 48 #[.pointer (some ⟨g, 0, none⟩)] w fun e w' => e = .returned (.int .i64 (CS.rdInt r).1) ∧ IsR 119 ok g (CS.rdInt r).2 w' ∧ Keep (· = g) w w' := by
  have hlt := CS.rdNum_lt r
  have H := Aside0.mk h
  clear h
  go_enter Tryz.func48, Tryz.ntmps48
  go_wp2_with fail
  refine (RNumber_any ok g r _ H.out).mono ?_
  rintro e w1 ⟨rfl, hr1, hk1⟩
  have HR := Aside0.mk hr1
  have HK := Aside0.mk hk1
  obtain ⟨n, hn⟩ : ∃ n, n = (CS.rdNum r).1 := ⟨_, rfl⟩
  have HE : Aside0 (CS.rdInt r = (CS.unzig n, (CS.rdNum r).2)) := ⟨by unfold CS.rdInt; rw [hn]⟩
  rw [← hn] at hlt ⊢
  clear hr1 hk1 hn
  go_wp2
  go_ret
  refine ⟨ret_i64 ?_, by rw [HE.out]; exact HR.out, HK.out⟩
  rw [HE.out]
  exact unzig_eq n hlt

def TextPost (T : TypeId) (ok : Nat → Prop) (g : Nat) (r : CS.Rd) (w : World) (e : Ending) (w' : World) : Prop := e = .returned (.string (sb (CS.rdText r).1)) ∧ IsR T ok g (CS.rdText r).2 w' ∧ Keep (· = g) w w'

set_option maxRecDepth 100000 in
set_option maxHeartbeats 1000000 in
theorem RText_any (ok : Nat → Prop) (g : Nat) (r : CS.Rd) (w : World) (h : IsR 119 ok g r w) :
    Calls Tryz.prog 47 #[.pointer (some ⟨g, 0, none⟩)] w (TextPost 119 ok g r w) := by
  have hlt := CS.rdNum_lt r
  have H := Aside0.mk h
  clear h
  go_enter Tryz.func47, Tryz.ntmps47
  go_wp2_with fail
  refine (RNumber_any ok g r _ H.out).mono ?_
  rintro e w1 ⟨rfl, hr1, hk1⟩
  have HK1 := Aside0.mk hk1
  obtain ⟨n, hn⟩ : ∃ n, n = (CS.rdNum r).1 := ⟨_, rfl⟩
  obtain ⟨r1, hrr⟩ : ∃ r1, r1 = (CS.rdNum r).2 := ⟨_, rfl⟩
  rw [← hn] at hlt ⊢
  rw [← hrr] at hr1
  have HD : Aside0 (CS.rdText r = CS.textOf n r1) := ⟨by rw [CS.rdText_eq, hn, hrr]⟩
  have HR1 := Aside0.mk hr1
  obtain ⟨A, c, h1, h2, h3, h4, h5⟩ := hr1
  have x0 := (blk_cell h1 0).trans rfl
  have x1 := (blk_cell h1 1).trans rfl
  have f0 := blk_frozen h1 0
  have H1 := Aside0.mk h1
  have H3 := Aside0.mk h3
  have H4 := Aside0.mk h4
  clear h1 h3 h4 hn hrr hk1
  cases r1 with
  | none =>
    replace x1 : w1.cell? ⟨g, 1, none⟩ = some (.bool true) := x1
    go_wp2
    go_ret
    exact ⟨by rw [HD.out]; rfl, by rw [HD.out]; exact HR1.out, HK1.out⟩
  | some l =>
    replace x0 : w1.cell? ⟨g, 0, none⟩ = some (.slice A l.length c) := x0
    replace x1 : w1.cell? ⟨g, 1, none⟩ = some (.bool false) := x1
    replace h2 : l.length ≤ c := h2
    replace h5 : l.length ≤ 4611686018427387904 := h5
    replace H3 : Aside0 (FB w1 ok A l) := H3
    replace H1 : Aside0 (w1.heap[g]? = some (.cells #[.slice A l.length c, .bool false] 119 (0, 0))) := H1
    by_cases hs : l.length < n
    · have HE : Aside0 (CS.rdText r = ([], none)) := ⟨by rw [HD.out]; exact if_pos hs⟩
      have t1 : decide (l.length < n) = true := decide_eq_true hs
      clear hs
      go_wp2_with fail
      refine (fail_any ok g _ _ HR1.out).mono ?_
      rintro e w2 ⟨rfl, hr2, hk2⟩
      have HR2 := Aside0.mk hr2
      have HK2 := Aside0.mk hk2
      clear hr2 hk2
      go_wp2
      go_ret
      exact ⟨by rw [HE.out]; rfl, by rw [HE.out]; exact HR2.out, HK1.out.trans HK2.out (fun _ _ h => h)⟩
    · have HE : Aside0 (CS.rdText r = (l.take n, some (l.drop n))) := ⟨by rw [HD.out]; exact if_neg hs⟩
      have t1 : decide (l.length < n) = false := decide_eq_false hs
      obtain ⟨i0, hi0, hi1⟩ := infoByteX
      obtain ⟨hst, hfbt⟩ := slice_to (P := Tryz.prog) (t := 35) (kh := .u64) Tryz.underlying35 hi0 hi1 H3.out c n (by omega) h2
      obtain ⟨A', hsl', hfb⟩ := slice_from (P := Tryz.prog) (t := 35) (kl := .u64) Tryz.underlying35 hi0 hi1 H3.out c n (by omega) h2
      have hsl : ∀ W : World, (Instr.slice 35 (.slice A l.length c) (some (.int .u64 (n : Int))) none none).run Tryz.prog W = .ok (.slice A' (l.length - n) (c - n)) W := fun W => by
        have := hsl' W
        rw [List.length_drop] at this
        exact this
      have htl : (l.take n).length = n := by rw [List.length_take]; omega
      have hcv : (convert 35 9 (.slice A n c)).run Tryz.prog w1 = .ok (.string (sb (l.take n))) w1 := by
        have := FB.string (c := c) hfbt
        rwa [htl] at this
      have HFB := Aside0.mk hfb
      have HNS := Aside0.mk hs
      clear hsl' hfb hfbt hs htl hi0 hi1
      go_wp2
      go_ret
      have hk : Keep (· = g) w1 (w1.setCell ⟨g, 0, none⟩ (.slice A' (l.length - n) (c - n))) := (Keep.refl (· = g) w1).set_ (.inl rfl) 0 _
      refine ⟨by rw [HE.out]; rfl, ?_, HK1.out.trans hk (fun _ _ h => h)⟩
      rw [HE.out]
      have hdl2 : (l.drop n).length = l.length - n := List.length_drop
      have := HNS.out
      exact ⟨A', c - n, by simpa using blk_set H1.out 0 (.slice A' (l.length - n) (c - n)), by simp; omega, HFB.out.keep hk (fun k h => H4.out k h), H4.out, by simp; omega⟩

theorem REnd_any (ok : Nat → Prop) (g : Nat) (r : CS.Rd) (w : World) (h : IsR 119 ok g r w) :
    Calls Tryz.prog 49 #[.pointer (some ⟨g, 0, none⟩)] w fun e w' => e = .returned (.bool (decide (r = some []))) ∧ w' = w := by
  obtain ⟨A, c, h1, h2, h3, h4, h5⟩ := h
  have x0 := (blk_cell h1 0).trans rfl
  have x1 := (blk_cell h1 1).trans rfl
  clear h1 h3 h4
  cases r with
  | none =>
    replace x1 : w.cell? ⟨g, 1, none⟩ = some (.bool true) := x1
    go_enter Tryz.func49, Tryz.ntmps49
    go_wp2
    go_ret
    exact ⟨rfl, rfl⟩
  | some l =>
    replace x0 : w.cell? ⟨g, 0, none⟩ = some (.slice A l.length c) := x0
    replace x1 : w.cell? ⟨g, 1, none⟩ = some (.bool false) := x1
    cases l with
    | nil =>
      go_enter Tryz.func49, Tryz.ntmps49
      go_wp2
      go_ret
      exact ⟨rfl, rfl⟩
    | cons f rest =>
      have t1 : (((rest.length : Int) + 1) == 0) = false := by simp; omega
      go_enter Tryz.func49, Tryz.ntmps49
      go_wp2
      go_ret
      exact ⟨by simp, rfl⟩

/-- a byte slice that came in -/
def IsB (w : World) (A : Option Addr) (c : Nat) (l : CS.Bs) : Prop := (Kd.int .u8).C w A l.length (ints l) ∧ l.length ≤ c ∧ l.length ≤ 140737488355328
theorem IsB.below {w w1 : World} {A : Option Addr} {c : Nat} {l : CS.Bs} (h : IsB w A c l) (hb : Below w.heap.size w w1) : IsB w1 A c l := ⟨Kd.C_below h.1 hb, h.2⟩

theorem row_new {w w5 w6 : World} {v5 v1 : Value} {l : CS.Bs} (hn : ∃ b, v5.ownBlock = some b ∧ w.heap.size ≤ b) (ho : w6.ownsRow w.heap.size 5 1 v1 (([] : List Int) ++ ints l).length (nums .u8 (([] : List Int) ++ ints l))) (hat : v1.ownBlock = v5.ownBlock ∨ ∃ b, v1.ownBlock = some b ∧ w5.heap.size ≤ b) :
    ∃ gb A1 c1 cs, v1 = .slice A1 l.length c1 ∧ w.heap.size ≤ gb ∧ w6.heap[gb]? = some (.cells cs 5 (0, 0)) ∧ FB w6 (· = gb) A1 l ∧ l.length ≤ c1 := by
  rw [List.nil_append, ints_length] at ho
  have hne : v1.ownBlock ≠ none := by
    rcases hat with h | ⟨b, h, _⟩
    · obtain ⟨b, hb, _⟩ := hn
      rw [h, hb]; simp
    · rw [h]; simp
  have ho2 := ho
  rcases ho.2 with ⟨rfl, _⟩ | ⟨gb, cap, cur, rfl, hb, hh, hr⟩
  · exact absurd rfl hne
  · have hR : (Kd.int .u8).R 5 w6 w.heap.size (· = gb) (.slice (some ⟨gb, 0, none⟩) l.length cap) (ints l) := Kd.R_of_own (enc := Value.int .u8) (h1 := fun _ => rfl) (by rw [ints_length]; exact ho2) (fun k hk => by simpa [Value.ownBlock] using hk.symm)
    have hF := Kd.R_F hR
    have hle := (Kd.R_reads' hR).2.1
    exact ⟨gb, _, cap, cur, rfl, hb, hh, hF, hle⟩

set_option maxRecDepth 100000 in
set_option maxHeartbeats 1000000 in
theorem NewReader_any (A : Option Addr) (c : Nat) (l : CS.Bs) (w : World) (h : IsB w A c l) :
    Calls Tryz.prog 45 #[.slice A l.length c] w fun e w' => ∃ g gb cs fz, e = .returned (.pointer (some ⟨g, 0, none⟩)) ∧ w.heap.size ≤ g ∧ w.heap.size ≤ gb ∧ w'.heap[gb]? = some (.cells cs 5 fz) ∧ IsR 119 (· = gb) g (some l) w' ∧ Below w.heap.size w w' := by
  have H := Aside0.mk h
  have HB0 := Aside0.mk (Below.refl w.heap.size w)
  have hlc := h.2
  clear h
  go_enter Tryz.func45, Tryz.ntmps45
  go_wp2_with (first | ((with_reducible refine gate_dst (N := 3) rfl ?_); refine Kd.R_lit (Kd.int .u8) w.heap.size 5 rfl (N := 3) rfl (xs := ([] : List Int)) (inner := []) (ok := fun _ => True) (okp := fun _ => True) (by first | (go_simp; done) | (go_simp; rfl)) (Reps.none _ _) (fun _ hk => hk) trivial HB0.out (Nat.le_refl _) (by simp) ?_; intro v5 w5 ho5 hb5 hg5 hn5; have HO5 := Aside0.mk (Kd.own_of_R ho5); have HB5 := Aside0.mk hb5; have HN5 := Aside0.mk hn5; clear ho5 hb5 hg5 hn5) | (at_builtin; refine print_append_row (w0 := w) w.heap.size rfl (.tmp 3) (.tmp 4) 35 5 .u8 1 rfl Tryz.underlying35 Tryz.infoByte (by decide) v5 ([] : List Int) (ints l) A l.length c rfl rfl HO5.out (Kd.reads_of_C (Kd.C_below H.out.1 HB5.out)) HB5.out HB5.out.size (by simp; omega) ?_; intro v1 w6 ho6 hb6 hg6 hat6; obtain ⟨gb, A1, c1, cs, rfl, hgb, hcs, hfb, hl1⟩ := row_new HN5.out ho6 hat6; have HB6 := Aside0.mk hb6; have HGB := Aside0.mk hgb; have HCS := Aside0.mk hcs; have HFB := Aside0.mk hfb; have HL1 := Aside0.mk hl1; clear ho6 hb6 hg6 hat6 hgb hcs hfb hl1))
  go_ret
  refine ⟨_, gb, cs, (0, 0), rfl, HB6.out.size, HGB.out, blk_alloc HCS.out _, ?_, below_alloc HB6.out _⟩
  exact ⟨A1, c1, blk_new _ _, HL1.out, Kd.F_alloc HFB.out _, fun k hk => by rw [hk]; have := blk_lt HCS.out; omega, by have := hlc; simp; omega⟩
end Go.Proofs.YtpapbigghiiolaaGreatDoor
