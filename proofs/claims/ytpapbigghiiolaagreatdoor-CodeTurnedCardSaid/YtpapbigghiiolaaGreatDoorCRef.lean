/-
  The document's layer 17, as print.py has it of package reeveref17, comes to the spec, function by function.
-/
import Derived.Test.YtpapbigghiiolaaGreatDoorPA3
import Derived.Test.YtpapbigghiiolaaGreatDoorCRefUnhex
import Derived.Test.YtpapbigghiiolaaGreatDoorCForm
import Derived.Test.YtpapbigghiiolaaGreatDoorCSpec
import Derived.Test.YtpapbigghiiolaaGreatDoorCUnhex
set_option linter.unusedVariables false
namespace Go.Proofs.YtpapbigghiiolaaGreatDoor
open Go.RowKit Go.Proofs.YtpapbigghiiolaaGreatDoorW.PrintWords PAll

def to66 (x : CS.Ins) : S59 := ⟨x.op, x.arg⟩
def wordOf (i : Int) : CS.Bs × Int := (CS.opOf i).getD ([], 0)

theorem word_eq (i : Int) : reeveref17_word.f i = some (sb (wordOf i).1, (wordOf i).2) := by
  by_cases h : 0 ≤ i ∧ i < 24
  · obtain ⟨k, rfl⟩ := Int.eq_ofNat_of_zero_le h.1
    have hk : k < 24 := by omega
    have hd : k = 0 ∨ k = 1 ∨ k = 2 ∨ k = 3 ∨ k = 4 ∨ k = 5 ∨ k = 6 ∨ k = 7 ∨ k = 8 ∨ k = 9 ∨ k = 10 ∨ k = 11 ∨ k = 12 ∨ k = 13 ∨ k = 14 ∨ k = 15 ∨ k = 16 ∨ k = 17 ∨ k = 18 ∨ k = 19 ∨ k = 20 ∨ k = 21 ∨ k = 22 ∨ k = 23 := by omega
    rcases hd with rfl | rfl | rfl | rfl | rfl | rfl | rfl | rfl | rfl | rfl | rfl | rfl | rfl | rfl | rfl | rfl | rfl | rfl | rfl | rfl | rfl | rfl | rfl | rfl <;> rfl
  · have hn : CS.opOf i = none := by
      unfold CS.opOf
      by_cases h0 : 0 ≤ i
      · rw [if_pos h0]
        exact List.getElem?_eq_none (by show 24 ≤ i.toNat; omega)
      · rw [if_neg h0]
    unfold wordOf
    rw [hn]
    unfold reeveref17_word.f
    iterate 24 rw [if_neg (by omega)]
    rfl

theorem opOf_kind (i : Int) (w : CS.Bs) (k : Int) (h : CS.opOf i = some (w, k)) : 0 ≤ k ∧ k ≤ 5 ∧ w ≠ [] := by
  have hall : ∀ x ∈ CS.ops, 0 ≤ x.2 ∧ x.2 ≤ 5 ∧ x.1 ≠ [] := by decide
  unfold CS.opOf at h
  split at h
  · exact hall (w, k) (List.mem_of_getElem? h)
  · cases h

theorem rd_names (ns : List CS.Bs) (j : Nat) (h : j < ns.length) : rdOf ByteArray.empty (ns.map sb) (j : Int) = sb (ns.getD j []) := by
  unfold rdOf
  rw [Int.toNat_natCast, List.getD_eq_getElem?_getD, List.getD_eq_getElem?_getD, List.getElem?_map, List.getElem?_eq_getElem h]
  rfl
theorem rd_code (cs : List CS.Ins) (j : Nat) (h : j < cs.length) : rd_T59 (cs.map to66) (j : Int) = to66 (cs.getD j ⟨0, 0⟩) := by
  unfold rd_T59
  rw [Int.toNat_natCast, List.getD_eq_getElem?_getD, List.getD_eq_getElem?_getD, List.getElem?_map, List.getElem?_eq_getElem h]
  rfl
theorem drop_all {α : Type} (f : α → Bool) (xs : List α) (d : α) (j : Nat) (h : j < xs.length) : (xs.drop j).all f = (f (xs.getD j d) && (xs.drop (j + 1)).all f) := by
  rw [List.drop_eq_getElem_cons h, List.all_cons, List.getD_eq_getElem?_getD, List.getElem?_eq_getElem h]
  rfl

theorem formed_l1 (ns : List CS.Bs) (cs : List CS.Ins) (h0 : ns.length ≤ 8) (h1 : cs.length ≤ 200) : ∀ (d j : Nat), j + d = cs.length →
    Ev (fun k => reeveref17_Formed.l1 k (cs.length : Int) (j : Int) (ns.map sb) (cs.map to66)) ((cs.drop j).all (CS.insOk ⟨ns, cs⟩)) := by
  intro d
  induction d with
  | zero =>
    intro j hj
    refine Ev.step (f := fun _ => some true) (fun k => ?_) ?_
    · simp only [reeveref17_Formed.l1]
      rw [if_neg (by omega)]
    · rw [List.drop_of_length_le (by omega)]
      exact Ev.now _
  | succ d ih =>
    intro j hj
    have hlt : j < cs.length := by omega
    have hih := ih (j + 1) (by omega)
    rw [drop_all (CS.insOk ⟨ns, cs⟩) cs ⟨0, 0⟩ j hlt]
    obtain ⟨x, hx⟩ : ∃ x, x = cs.getD j ⟨0, 0⟩ := ⟨_, rfl⟩
    rw [← hx]
    have hstep : ∀ (f : Nat → Option Bool) (b : Bool), Ev f b → (∀ k, reeveref17_Formed.l1 (k + 1) (cs.length : Int) (j : Int) (ns.map sb) (cs.map to66) = f k) → Ev (fun k => reeveref17_Formed.l1 k (cs.length : Int) (j : Int) (ns.map sb) (cs.map to66)) b := fun f b hf hh => Ev.step hh hf
    have hbody : ∀ k, reeveref17_Formed.l1 (k + 1) (cs.length : Int) (j : Int) (ns.map sb) (cs.map to66) =
        (if 0 ≤ (wordOf x.op).2 then (if (wordOf x.op).2 < 6 then (if (wordOf x.op).1 = [] then (some false) else (if (wordOf x.op).2 = 1 then (reeveref17_Formed.l1 k (cs.length : Int) ((j + 1 : Nat) : Int) (ns.map sb) (cs.map to66)) else (if x.arg < 0 then (some false) else (if x.arg > (rd [0, 9223372036854775807, 7, 3, (cs.length : Int), (ns.length : Int) - 1] (wordOf x.op).2) then (some false) else (reeveref17_Formed.l1 k (cs.length : Int) ((j + 1 : Nat) : Int) (ns.map sb) (cs.map to66)))))) else none) else none) := by
      intro k
      simp only [reeveref17_Formed.l1, List.length_map]
      rw [if_pos (by omega), if_pos (by omega), if_pos (by omega), rd_code cs j hlt, ← hx]
      rw [show (to66 x).f0 = x.op from rfl, show (to66 x).f1 = x.arg from rfl, word_eq]
      simp only [Option.bind_some, List.length_cons, List.length_nil]
      rw [i64_small ((j : Int) + 1) (by omega) (by omega), i64_small ((ns.length : Int) - 1) (by omega) (by omega), ByteArray.toList_eq, sb_data]
      rfl
    cases hop : CS.opOf x.op with
    | none =>
      have hw : wordOf x.op = ([], 0) := by unfold wordOf; rw [hop]; rfl
      refine hstep (fun _ => some false) _ ?_ (fun k => by rw [hbody, hw]; simp)
      have : CS.insOk ⟨ns, cs⟩ x = false := by unfold CS.insOk; rw [hop]
      rw [this]
      exact Ev.now _
    | some q =>
      obtain ⟨w, kd⟩ := q
      have hw : wordOf x.op = (w, kd) := by unfold wordOf; rw [hop]; rfl
      obtain ⟨k0, k5, kne⟩ := opOf_kind x.op w kd hop
      by_cases hk1 : kd = 1
      · have hok : CS.insOk ⟨ns, cs⟩ x = true := by unfold CS.insOk; rw [hop]; simp [hk1]
        rw [hok, Bool.true_and]
        refine hstep _ _ hih (fun k => ?_)
        rw [hbody, hw]
        simp only
        rw [if_pos k0, if_pos (by omega), if_neg kne, if_pos hk1]
      · have hbel : (x.arg > rd [0, 9223372036854775807, 7, 3, (cs.length : Int), (ns.length : Int) - 1] kd) ↔ CS.below ⟨ns, cs⟩ kd ≤ x.arg := by
          have hd : kd = 0 ∨ kd = 2 ∨ kd = 3 ∨ kd = 4 ∨ kd = 5 := by omega
          rcases hd with rfl | rfl | rfl | rfl | rfl <;> simp [rd, CS.below] <;> omega
        by_cases hneg : x.arg < 0
        · have hok : CS.insOk ⟨ns, cs⟩ x = false := by unfold CS.insOk; rw [hop]; simp [hk1]; intro h; omega
          rw [hok]
          refine hstep (fun _ => some false) _ (Ev.now _) (fun k => ?_)
          rw [hbody, hw]
          simp only
          rw [if_pos k0, if_pos (by omega), if_neg kne, if_neg hk1, if_pos hneg]
        · by_cases hb : CS.below ⟨ns, cs⟩ kd ≤ x.arg
          · have hok : CS.insOk ⟨ns, cs⟩ x = false := by unfold CS.insOk; rw [hop]; simp [hk1]; intro h; omega
            rw [hok]
            refine hstep (fun _ => some false) _ (Ev.now _) (fun k => ?_)
            rw [hbody, hw]
            simp only
            rw [if_pos k0, if_pos (by omega), if_neg kne, if_neg hk1, if_neg hneg, if_pos (hbel.2 hb)]
          · have hok : CS.insOk ⟨ns, cs⟩ x = true := by unfold CS.insOk; rw [hop]; simp [hk1]; omega
            rw [hok, Bool.true_and]
            refine hstep _ _ hih (fun k => ?_)
            rw [hbody, hw]
            simp only
            rw [if_pos k0, if_pos (by omega), if_neg kne, if_neg hk1, if_neg hneg, if_neg (fun h => hb (hbel.1 h))]

theorem formed_l0 (ns : List CS.Bs) (cs : List CS.Ins) (h0 : ns.length ≤ 8) (h1 : cs.length ≤ 200) : ∀ (d j : Nat), j + d = ns.length →
    Ev (fun k => reeveref17_Formed.l0 k (ns.length : Int) (j : Int) (ns.map sb) (cs.map to66)) ((ns.drop j).all CS.key && cs.all (CS.insOk ⟨ns, cs⟩)) := by
  intro d
  induction d with
  | zero =>
    intro j hj
    rw [List.drop_of_length_le (by omega)]
    refine Ev.step (fun k => ?_) (formed_l1 ns cs h0 h1 cs.length 0 (by omega))
    simp only [reeveref17_Formed.l0, List.length_map]
    rw [if_neg (by omega)]
    rfl
  | succ d ih =>
    intro j hj
    have hlt : j < ns.length := by omega
    rw [drop_all CS.key ns [] j hlt]
    have hbody : ∀ k, reeveref17_Formed.l0 (k + 1) (ns.length : Int) (j : Int) (ns.map sb) (cs.map to66) = (if CS.key (ns.getD j []) = true then reeveref17_Formed.l0 k (ns.length : Int) ((j + 1 : Nat) : Int) (ns.map sb) (cs.map to66) else some false) := by
      intro k
      simp only [reeveref17_Formed.l0, List.length_map]
      rw [if_pos (by omega), if_pos (by omega), if_pos (by omega), rd_names ns j hlt, key_eq]
      simp only [Option.bind_some]
      rw [i64_small ((j : Int) + 1) (by omega) (by omega)]
      rfl
    cases hk : CS.key (ns.getD j []) with
    | true =>
      refine Ev.step (fun k => ?_) (Ev.val (ih (j + 1) (by omega)) (by simp))
      rw [hbody, if_pos hk]
    | false =>
      refine Ev.step (f := fun _ => some false) (fun k => ?_) (Ev.now _)
      rw [hbody, if_neg (by rw [hk]; decide)]

theorem formed_eq (p : CS.Prg) (hl : p.names.length ≤ 1000000000) (hc : p.code.length ≤ 1000000000) : Ev (fun k => reeveref17_Formed.f k (p.names.map sb) (p.code.map to66)) (CS.formed p) := by
  obtain ⟨ns, cs⟩ := p
  simp only at hl hc
  unfold CS.formed
  by_cases h8 : ns.length ≤ 8
  · by_cases h200 : cs.length ≤ 200
    · rw [decide_eq_true h8, decide_eq_true h200]
      have := formed_l0 ns cs h8 h200 ns.length 0 (by omega)
      refine Ev.eqs (f := fun k => reeveref17_Formed.j0 k false (ns.map sb) (cs.map to66)) (fun k => ?_) (Ev.step (fun k => ?_) this)
      · unfold reeveref17_Formed.f
        simp only [List.length_map]
        rw [if_neg (by omega), decide_eq_false (by omega)]
      · simp only [reeveref17_Formed.j0, List.length_map]
        rfl
    · rw [decide_eq_false h200, Bool.and_false]
      refine Ev.eqs (f := fun k => reeveref17_Formed.j0 k true (ns.map sb) (cs.map to66)) (fun k => ?_) (Ev.step (f := fun _ => some false) (fun k => ?_) (Ev.now _))
      · unfold reeveref17_Formed.f
        simp only [List.length_map]
        rw [if_neg (by omega), decide_eq_true (by omega)]
      · simp only [reeveref17_Formed.j0]
        rfl
  · rw [decide_eq_false h8]
    refine Ev.eqs (f := fun k => reeveref17_Formed.j0 k true (ns.map sb) (cs.map to66)) (fun k => ?_) (Ev.step (f := fun _ => some false) (fun k => ?_) (Ev.now _))
    · unfold reeveref17_Formed.f
      simp only [List.length_map]
      rw [if_pos (by omega)]
    · simp only [reeveref17_Formed.j0]
      rfl
end Go.Proofs.YtpapbigghiiolaaGreatDoor

/-
  The document's layer 17, as print.py has it of package reeveref17, comes to the spec: Lines, digit, Unhex, Number, Int.
-/
set_option linter.unusedVariables false
namespace Go.Proofs.YtpapbigghiiolaaGreatDoor
open Go.RowKit Go.Proofs.YtpapbigghiiolaaGreatDoorW.PrintWords PAll

theorem bt_sb (l : CS.Bs) (i : Nat) (h : i < l.length) : bt (sb l) (i : Int) = ((l.getD i 0).toNat : Int) := by
  unfold bt
  rw [Int.toNat_natCast, dif_pos (by rw [sb_size]; exact h), bget, sb_data]
theorem extract_sb (l : CS.Bs) (a b : Nat) : (sb l).extract a b = sb ((l.drop a).take (b - a)) := by
  have h := Lib.extract_toList (sb l) a b
  rw [ByteArray.toList_eq, sb_data] at h
  rw [← h, sb_of]

/-! Lines -/
theorem lines_split : ∀ (a b : CS.Bs), (∀ x ∈ a, x ≠ 10) → CS.lines (a ++ 10 :: b) = a :: CS.lines b := by
  intro a b ha
  have h1 : CS.headLine (a ++ 10 :: b) = a := by
    unfold CS.headLine
    rw [List.takeWhile_append_of_pos (fun x hx => by simpa using ha x hx)]
    simp
  have h2 : CS.tailLines (a ++ 10 :: b) = b := by
    unfold CS.tailLines
    rw [CS.dropWhile_eq_drop, h1]
    simp
  rw [CS.lines_cons _ (by simp), h1, h2]
theorem lines_last (a : CS.Bs) (hne : a ≠ []) (ha : ∀ x ∈ a, x ≠ 10) : CS.lines a = [a] := by
  have h0 : ∀ x ∈ a, (x != 10) = true := fun x hx => by simpa using ha x hx
  have h1 : CS.headLine a = a := CS.takeWhile_all a h0
  have h2 : CS.tailLines a = [] := by
    unfold CS.tailLines
    rw [CS.dropWhile_all a h0]
    rfl
  rw [CS.lines_cons _ hne, h1, h2, CS.lines_nil]

theorem lines_loop (s : CS.Bs) (hs : s.length ≤ 20000) : ∀ (d i from_ : Nat) (acc : List CS.Bs), i + d = s.length → from_ ≤ i → acc.length ≤ i → (∀ x ∈ (s.drop from_).take (i - from_), x ≠ 10) →
    Ev (fun k => reeveref17_Lines.l0 k (sb s) (acc.map sb) (from_ : Int) (i : Int)) ((acc ++ CS.lines (s.drop from_)).map sb) := by
  intro d
  induction d with
  | zero =>
    intro i from_ acc hi hf hacc hno
    have he : (s.drop from_).take (i - from_) = s.drop from_ := List.take_of_length_le (by rw [List.length_drop]; omega)
    rw [he] at hno
    by_cases hfs : from_ < s.length
    · refine Ev.step (f := fun _ => some ((acc ++ CS.lines (s.drop from_)).map sb)) (fun k => ?_) (Ev.now _)
      simp only [reeveref17_Lines.l0, sb_size, List.length_map]
      rw [if_neg (by omega), if_pos (by omega), if_pos (by omega), if_pos (by omega), if_pos (by omega), Int.toNat_natCast, extract_sb]
      rw [lines_last _ (by intro e; have := congrArg List.length e; simp at this; omega) hno, List.take_of_length_le (by rw [List.length_drop]; omega)]
      simp
    · refine Ev.step (f := fun _ => some ((acc ++ CS.lines (s.drop from_)).map sb)) (fun k => ?_) (Ev.now _)
      simp only [reeveref17_Lines.l0, sb_size]
      rw [if_neg (by omega), if_neg (by omega), List.drop_of_length_le (by omega), CS.lines_nil, List.append_nil]
  | succ d ih =>
    intro i from_ acc hi hf hacc hno
    have hlt : i < s.length := by omega
    by_cases hc : s.getD i 0 = 10
    · have hsplit : s.drop from_ = (s.drop from_).take (i - from_) ++ 10 :: s.drop (i + 1) := by
        have h1 := List.take_append_drop (i - from_) (s.drop from_)
        rw [List.drop_drop, show from_ + (i - from_) = i by omega, List.drop_eq_getElem_cons hlt] at h1
        rw [List.getD_eq_getElem?_getD, List.getElem?_eq_getElem hlt] at hc
        simp only [Option.getD_some] at hc
        rw [hc] at h1
        exact h1.symm
      have hl := lines_split _ (s.drop (i + 1)) hno
      rw [← hsplit] at hl
      rw [hl]
      refine Ev.step (fun k => ?_) (Ev.val (ih (i + 1) (i + 1) (acc ++ [(s.drop from_).take (i - from_)]) (by omega) (Nat.le_refl _) (by simp; omega) (by simp)) (by simp))
      simp only [reeveref17_Lines.l0, sb_size, List.length_map]
      rw [if_pos (by omega), if_pos (by omega), bt_sb s i hlt, hc]
      rw [if_pos (by rfl), if_pos (by omega), if_pos (by omega), if_pos (by omega), if_pos (by omega), Int.toNat_natCast, Int.toNat_natCast, extract_sb, i64_small ((i : Int) + 1) (by omega) (by omega)]
      simp
    · refine Ev.step (fun k => ?_) (ih (i + 1) from_ acc (by omega) (by omega) (by omega) ?_)
      · simp only [reeveref17_Lines.l0, sb_size]
        rw [if_pos (by omega), if_pos (by omega), bt_sb s i hlt, if_neg (fun e => hc (by
          have : (s.getD i 0).toNat = 10 := by omega
          rw [← UInt8.ofNat_toNat (x := s.getD i 0), this]; rfl)), i64_small ((i : Int) + 1) (by omega) (by omega)]
        rfl
      · intro x hx
        rw [show i + 1 - from_ = (i - from_) + 1 by omega, List.take_succ_eq_append_getElem (by rw [List.length_drop]; omega)] at hx
        rcases List.mem_append.1 hx with hx | hx
        · exact hno x hx
        · rw [List.mem_singleton.1 hx, List.getElem_drop]
          rw [List.getD_eq_getElem?_getD, List.getElem?_eq_getElem hlt] at hc
          simp only [Option.getD_some] at hc
          simpa [show from_ + (i - from_) = i by omega] using hc
theorem lines_eq (s : CS.Bs) (hs : s.length ≤ 20000) : Ev (fun k => reeveref17_Lines.f k (sb s)) ((CS.lines s).map sb) :=
  lines_loop s hs s.length 0 0 [] (by omega) (Nat.le_refl _) (Nat.le_refl _) (by simp)

end Go.Proofs.YtpapbigghiiolaaGreatDoor

/-
  The document's layer 17, as print.py has it of package reeveref17, comes to the spec: Unhex, Number, Int.
-/
set_option linter.unusedVariables false
namespace Go.Proofs.YtpapbigghiiolaaGreatDoor
open Go.RowKit Go.Proofs.YtpapbigghiiolaaGreatDoorW.PrintWords PAll

theorem u64_small (n : Int) (h0 : 0 ≤ n) (h1 : n < 18446744073709551616) : IntKind.u64.wrap n = n := by
  simp only [IntKind.wrap, IntKind.bits, IntKind.signed, Bool.false_and, Bool.false_eq_true, if_false]
  omega


/-! Unhex -/
theorem unhexPre_full : ∀ (s : CS.Bs), s.length % 2 = 0 → unhexPre s = CS.unhexL s
  | [], _ => rfl
  | [_], h => by simp at h
  | a :: b :: r, h => by simp only [unhexPre, CS.unhexL]; rw [unhexPre_full r (by simp at h; omega)]; cases CS.hexv a <;> cases CS.hexv b <;> cases CS.unhexL r <;> rfl
theorem unhex_eq (s : CS.Bs) (hs : s.length ≤ 20000) : ∃ r1, Ev (fun k => reeveref17_Unhex.f k (sb s)) (r1, (CS.unhex s).isSome) ∧ ∀ n, CS.unhex s = some n → r1 = sb n := by
  have hf : ∀ k, reeveref17_Unhex.f k (sb s) = some (unhexOut s) := fun k => by
    unfold reeveref17_Unhex.f
    rw [if_pos (by rw [sb_size]; omega), sb_data]
  have hout : (unhexOut s).2 = (CS.unhex s).isSome ∧ ∀ n, CS.unhex s = some n → (unhexOut s).1 = sb n := by
    unfold unhexOut CS.unhex
    by_cases he : s.length % 2 = 0
    · rw [unhexPre_full s he, decide_eq_true he]
      cases CS.unhexL s with
      | none => exact ⟨rfl, fun n h => by cases h⟩
      | some m =>
        simp only [Bool.true_and]
        cases hk : CS.key m with
        | true => exact ⟨rfl, fun n h => by cases h; rfl⟩
        | false => exact ⟨rfl, fun n h => by cases h⟩
    · rw [unhexL_odd s (by omega), decide_eq_false he]
      refine ⟨?_, fun n h => by cases h⟩
      cases unhexPre s <;> rfl
  exact ⟨(unhexOut s).1, Ev.const (fun k => by rw [hf k, ← hout.1]), hout.2⟩

/-! Number -/
def numR (o : Option Nat) : Int × Bool := match o with | some n => if n < 18446744073709551616 then ((n : Int), true) else (0, false) | none => (0, false)
theorem number_loop (s : CS.Bs) (hs : s.length ≤ 20000) : ∀ (d i acc : Nat), i + d = s.length → acc < 18446744073709551616 → Ev (fun k => reeveref17_Number.l0 k (sb s) (acc : Int) (i : Int)) (numR (CS.num10 acc (s.drop i))) := by
  intro d
  induction d with
  | zero =>
    intro i acc hi ha
    rw [List.drop_of_length_le (by omega)]
    refine Ev.step (f := fun _ => some ((acc : Int), true)) (fun k => ?_) ?_
    · simp only [reeveref17_Number.l0, sb_size]
      rw [if_neg (by omega)]
    · simp only [CS.num10, numR]
      rw [if_pos ha]
      exact Ev.now _
  | succ d ih =>
    intro i acc hi ha
    rw [drop_one s i (by omega)]
    obtain ⟨c, hc⟩ : ∃ c, c = s.getD i 0 := ⟨_, rfl⟩
    have hc256 := c.toNat_lt
    rw [← hc]
    have hbody : ∀ k, reeveref17_Number.l0 (k + 1) (sb s) (acc : Int) (i : Int) = reeveref17_Number.j2 k (sb s) (acc : Int) (i : Int) (!decide (CS.isDig c)) := by
      intro k
      simp only [reeveref17_Number.l0, sb_size]
      rw [if_pos (by omega), if_pos (by omega), bt_sb s i (by omega), ← hc]
      by_cases h48 : c.toNat < 48
      · rw [if_pos (by omega), decide_eq_false (p := CS.isDig c) (fun h => by have := h.1; omega)]
        rfl
      · rw [if_neg (by omega)]
        by_cases h57 : c.toNat ≤ 57
        · rw [decide_eq_true (p := CS.isDig c) ⟨by omega, h57⟩, decide_eq_false (by omega)]
          rfl
        · rw [decide_eq_false (p := CS.isDig c) (fun h => h57 h.2), decide_eq_true (by omega)]
          rfl
    by_cases hd : CS.isDig c
    · have hd2 := hd
      unfold CS.isDig at hd2
      simp only [CS.num10]
      rw [if_pos hd]
      rw [decide_eq_true hd] at hbody
      have hmod : ((c.toNat : Int) - 48) % 256 = ((c.toNat - 48 : Nat) : Int) := by omega
      by_cases hov : acc * 10 + (c.toNat - 48) < 18446744073709551616
      · refine Ev.step hbody (Ev.step (fun k => ?_) (ih (i + 1) (acc * 10 + (c.toNat - 48)) (by omega) hov))
        simp only [reeveref17_Number.j2, sb_size, Bool.not_true]
        rw [if_neg (by decide), if_pos (by omega), if_pos (by omega), bt_sb s i (by omega), ← hc, hmod, if_neg (by omega), i64_small ((i : Int) + 1) (by omega) (by omega)]
        rw [u64_small (10 * (acc : Int)) (by omega) (by omega), u64_small _ (by omega) (by omega)]
        congr 1
        omega
      · have hr : numR (CS.num10 (acc * 10 + (c.toNat - 48)) (s.drop (i + 1))) = (0, false) := by
          unfold numR
          cases h : CS.num10 (acc * 10 + (c.toNat - 48)) (s.drop (i + 1)) with
          | none => rfl
          | some n =>
            have := CS.num10_mono _ _ _ h
            simp only
            rw [if_neg (by omega)]
        rw [hr]
        refine Ev.step hbody (Ev.step (f := fun _ => some (0, false)) (fun k => ?_) (Ev.now _))
        simp only [reeveref17_Number.j2, sb_size, Bool.not_true]
        rw [if_neg (by decide), if_pos (by omega), if_pos (by omega), bt_sb s i (by omega), ← hc, hmod, if_pos (by omega)]
    · simp only [CS.num10]
      rw [if_neg hd]
      rw [decide_eq_false hd] at hbody
      refine Ev.step hbody (Ev.step (f := fun _ => some (0, false)) (fun k => ?_) (Ev.now _))
      simp only [reeveref17_Number.j2, Bool.not_false]
      rw [if_pos trivial]

def numV (o : Option Nat) : Int × Bool := match o with | some n => ((n : Int), true) | none => (0, false)
theorem number_eq (s : CS.Bs) (hs : s.length ≤ 20000) : Ev (fun k => reeveref17_Number.f k (sb s)) (numV (CS.numOf s)) := by
  unfold CS.numOf
  by_cases h : s = [] ∨ 1 < s.length ∧ s.head? = some 48
  · rw [if_pos h]
    refine Ev.congr (f := fun k => reeveref17_Number.j0 k (sb s) true) (fun k => ?_) (Ev.step (f := fun _ => some (0, false)) (fun k => ?_) (Ev.now _))
    · unfold reeveref17_Number.f
      rw [sb_size]
      rcases h with rfl | ⟨h1, h2⟩
      · rfl
      · rw [if_neg (by omega), if_pos (by omega), if_pos (by omega), show (0 : Int) = ((0 : Nat) : Int) from rfl, bt_sb s 0 (by omega)]
        congr 1
        cases s with
        | nil => cases h2
        | cons a r => cases h2; rfl
    · simp only [reeveref17_Number.j0]
      rw [if_pos trivial]
  · rw [if_neg h]
    refine Ev.congr (f := fun k => reeveref17_Number.j0 k (sb s) false) (fun k => ?_) (Ev.step (f := fun k => reeveref17_Number.l0 k (sb s) ((0 : Nat) : Int) ((0 : Nat) : Int)) (fun k => ?_) (Ev.val (number_loop s hs s.length 0 0 (by omega) (by omega)) ?_))
    · unfold reeveref17_Number.f
      rw [sb_size]
      have hne : s.length ≠ 0 := fun e => h (.inl (List.length_eq_zero_iff.1 e))
      rw [if_neg (by omega)]
      by_cases h1 : 1 < s.length
      · rw [if_pos (by omega), if_pos (by omega), show (0 : Int) = ((0 : Nat) : Int) from rfl, bt_sb s 0 (by omega)]
        congr 1
        cases s with
        | nil => simp at hne
        | cons a r =>
          have ha : a ≠ 48 := fun e => h (.inr ⟨h1, by rw [e]; rfl⟩)
          simp only [List.getD_cons_zero, beq_eq_false_iff_ne, ne_eq]
          intro e
          apply ha
          have : a.toNat = 48 := by omega
          rw [← UInt8.ofNat_toNat (x := a), this]; rfl
      · rw [if_neg (by omega)]
    · simp only [reeveref17_Number.j0]
      rw [if_neg (by decide)]
      rfl
    · rw [List.drop_zero]
      unfold numR numV
      cases CS.num10 0 s with
      | none => rfl
      | some n => simp only; split <;> rfl

/-! Int -/
def intK (x4 : Bool) (k : Nat) (t : Int × Bool) : Option (Int × Bool) := if t.2 = true then (if x4 = true then (if t.1 = 0 then (reeveref17_Int.j2 k x4 t.1 true) else (if t.1 > 9223372036854775808 then (reeveref17_Int.j2 k x4 t.1 true) else (reeveref17_Int.j2 k x4 t.1 false))) else (reeveref17_Int.j2 k x4 t.1 (decide (t.1 > 9223372036854775807)))) else (reeveref17_Int.j2 k x4 t.1 true)
def intV (o : Option Int) : Int × Bool := match o with | some n => (n, true) | none => (0, false)
theorem intK_no (b : Bool) (k : Nat) : intK b k (0, false) = reeveref17_Int.j2 k b 0 true := rfl
theorem intK_n1 (k : Nat) (n : Int) (h : n = 0 ∨ 9223372036854775808 < n) : intK true k (n, true) = reeveref17_Int.j2 k true n true := by
  unfold intK
  simp only [if_true]
  by_cases h1 : n = 0
  · rw [if_pos h1]
  · rw [if_neg h1, if_pos (by omega)]
theorem intK_n0 (k : Nat) (n : Int) (h : ¬ (n = 0 ∨ 9223372036854775808 < n)) : intK true k (n, true) = reeveref17_Int.j2 k true n false := by
  unfold intK
  simp only [if_true]
  rw [if_neg (by omega), if_neg (by omega)]
theorem intK_p (k : Nat) (n : Int) : intK false k (n, true) = reeveref17_Int.j2 k false n (decide (9223372036854775807 < n)) := rfl
theorem int_eq (s : CS.Bs) (hs : s.length ≤ 20000) : Ev (fun k => reeveref17_Int.f k (sb s)) (intV (CS.intOf s)) := by
  rw [← CS.refInt_eq]
  by_cases hh : s.head? = some 45
  · obtain ⟨r, rfl⟩ : ∃ r, s = 45 :: r := by
      cases s with
      | nil => cases hh
      | cons a r => cases hh; exact ⟨r, rfl⟩
    rw [CS.refInt_neg]
    have hsz : (45 :: r : CS.Bs).length = r.length + 1 := rfl
    refine Ev.congr (f := fun k => reeveref17_Int.j0 k (sb (45 :: r)) true) (fun k => ?_) (Ev.step (f := fun k => reeveref17_Int.j1 k (sb r) true) (fun k => ?_) (Ev.step (f := fun k => (reeveref17_Number.f k (sb r)).bind (intK true k)) (fun k => ?_) (Ev.bind (number_eq r (by omega)) ?_)))
    · unfold reeveref17_Int.f
      rw [sb_size, if_pos (by omega), if_pos (by omega)]
      rfl
    · simp only [reeveref17_Int.j0, sb_size]
      rw [if_pos trivial, if_pos (by omega), extract_sb]
      congr 2
      simp
    · rfl
    · cases hn : CS.numOf r with
      | none =>
        refine Ev.congr (fun k => intK_no _ k) (Ev.step (f := fun _ => some (0, false)) (fun k => ?_) (Ev.now _))
        · simp only [reeveref17_Int.j2]
          rw [if_pos trivial]
      | some n =>
        have hlt : n < 18446744073709551616 := ((CS.numOf_iff r n).1 hn).2
        simp only
        by_cases h0 : n = 0 ∨ 9223372036854775808 < n
        · rw [if_pos h0]
          refine Ev.congr (fun k => intK_n1 k (n : Int) (by omega)) (Ev.step (f := fun _ => some (0, false)) (fun k => ?_) (Ev.now _))
          · simp only [reeveref17_Int.j2]
            rw [if_pos trivial]
        · rw [if_neg h0]
          refine Ev.congr (fun k => intK_n0 k (n : Int) (by omega)) (Ev.step (f := fun _ => some (-(n : Int), true)) (fun k => ?_) (Ev.now _))
          · simp only [reeveref17_Int.j2]
            rw [if_neg (by decide), if_pos trivial]
            congr 2
            unfold wrap64
            simp only [IntKind.wrap, IntKind.bits, IntKind.signed, Bool.false_and, Bool.false_eq_true, if_false]
            omega
  · rw [CS.refInt_pos s hh]
    refine Ev.congr (f := fun k => reeveref17_Int.j0 k (sb s) false) (fun k => ?_) (Ev.step (f := fun k => reeveref17_Int.j1 k (sb s) false) (fun k => ?_) (Ev.step (f := fun k => (reeveref17_Number.f k (sb s)).bind (intK false k)) (fun k => ?_) (Ev.bind (number_eq s hs) ?_)))
    · unfold reeveref17_Int.f
      rw [sb_size]
      by_cases h1 : 0 < s.length
      · rw [if_pos (by omega), if_pos (by omega), show (0 : Int) = ((0 : Nat) : Int) from rfl, bt_sb s 0 (by omega)]
        congr 1
        cases s with
        | nil => simp at h1
        | cons a r =>
          have ha : a ≠ 45 := fun e => hh (by rw [e]; rfl)
          simp only [List.getD_cons_zero, beq_eq_false_iff_ne, ne_eq]
          intro e
          apply ha
          have : a.toNat = 45 := by omega
          rw [← UInt8.ofNat_toNat (x := a), this]; rfl
      · rw [if_neg (by omega)]
    · simp only [reeveref17_Int.j0]
      rw [if_neg (by decide)]
    · rfl
    · cases hn : CS.numOf s with
      | none =>
        refine Ev.congr (fun k => intK_no _ k) (Ev.step (f := fun _ => some (0, false)) (fun k => ?_) (Ev.now _))
        · simp only [reeveref17_Int.j2]
          rw [if_pos trivial]
      | some n =>
        have hlt : n < 18446744073709551616 := ((CS.numOf_iff s n).1 hn).2
        simp only
        by_cases h0 : 9223372036854775807 < n
        · rw [if_pos h0]
          refine Ev.congr (fun k => (intK_p k (n : Int)).trans (by rw [decide_eq_true (by omega)])) (Ev.step (f := fun _ => some (0, false)) (fun k => ?_) (Ev.now _))
          · simp only [reeveref17_Int.j2]
            rw [if_pos trivial]
        · rw [if_neg h0]
          refine Ev.congr (fun k => (intK_p k (n : Int)).trans (by rw [decide_eq_false (by omega)])) (Ev.step (f := fun _ => some ((n : Int), true)) (fun k => ?_) (Ev.now _))
          · simp only [reeveref17_Int.j2]
            rw [if_neg (by decide), if_neg (by decide), i64_small (n : Int) (by omega) (by omega)]
end Go.Proofs.YtpapbigghiiolaaGreatDoor

/-
  The document's layer 17, as print.py has it of package reeveref17, comes to the spec: line, Parse, Same.
-/
set_option linter.unusedVariables false
namespace Go.Proofs.YtpapbigghiiolaaGreatDoor.CS

theorem index_sp (h t : Bs) (hh : 32 ∉ h) : Lib.index (h ++ 32 :: t) [32] = (h.length : Int) := by
  induction h with
  | nil => simp [Lib.index]
  | cons b r ih =>
    have hb : b ≠ 32 := fun e => hh (by rw [e]; exact List.mem_cons_self)
    have := ih (fun e => hh (List.mem_cons_of_mem _ e))
    rw [List.cons_append]
    unfold Lib.index
    have h1 : List.isPrefixOf [(32 : UInt8)] (b :: (r ++ 32 :: t)) = false := by
      cases h : List.isPrefixOf [(32 : UInt8)] (b :: (r ++ 32 :: t)) with
      | false => rfl
      | true => exact absurd (by simpa using h : (32 : UInt8) = b).symm hb
    rw [h1, this]
    simp
theorem index_no (s : Bs) (hs : 32 ∉ s) : Lib.index s [32] = -1 := by
  induction s with
  | nil => simp [Lib.index]
  | cons b r ih =>
    have hb : b ≠ 32 := fun e => hs (by rw [e]; exact List.mem_cons_self)
    have := ih (fun e => hs (List.mem_cons_of_mem _ e))
    unfold Lib.index
    have h1 : List.isPrefixOf [(32 : UInt8)] (b :: r) = false := by
      cases h : List.isPrefixOf [(32 : UInt8)] (b :: r) with
      | false => rfl
      | true => exact absurd (by simpa using h : (32 : UInt8) = b).symm hb
    rw [h1, this]
    simp
theorem cut_sp (h t : Bs) (hh : 32 ∉ h) : Lib.cut (h ++ 32 :: t) [32] = (h, t, true) := by
  unfold Lib.cut
  rw [index_sp h t hh, if_pos (Int.natCast_nonneg _)]
  simp
theorem cut_no (s : Bs) (hs : 32 ∉ s) : Lib.cut s [32] = (s, [], false) := by
  unfold Lib.cut
  rw [index_no s hs, if_neg (by decide)]

/-- the document's loop over the operations -/
def opLoop (s : Bs) : List (Bs × Int) → Nat → Option Ins
  | [], _ => none
  | x :: r, k => if x.2 = 0 ∧ s = x.1 then some ⟨k, 0⟩ else if 0 < x.2 ∧ x.1.length < s.length ∧ s.take (x.1.length + 1) = x.1 ++ [32] then (intOf (s.drop (x.1.length + 1))).map (fun n => ⟨k, n⟩) else opLoop s r (k + 1)

theorem findOp_notin (w : Bs) : ∀ (l : List (Bs × Int)) (k : Nat), (∀ x ∈ l, x.1 ≠ w) → findOp w l k = none
  | [], _, _ => rfl
  | x :: r, k, h => by
    unfold findOp
    rw [if_neg (h x List.mem_cons_self)]
    exact findOp_notin w r (k + 1) (fun y hy => h y (List.mem_cons_of_mem _ hy))

theorem sp_inj (a b x y : Bs) (ha : 32 ∉ a) (hb : 32 ∉ b) (h : a ++ 32 :: x = b ++ 32 :: y) : a = b := by
  have h1 := cut_sp a x ha
  rw [h, cut_sp b y hb] at h1
  exact (congrArg Prod.fst h1).symm

theorem opLoop_no (s : Bs) (hs : 32 ∉ s) : ∀ (l : List (Bs × Int)) (k : Nat), (l.map Prod.fst).Nodup → opLoop s l k = match findOp s l k with | none => none | some (k, kind) => if kind = 0 then some ⟨k, 0⟩ else none
  | [], _, _ => rfl
  | x :: r, k, hn => by
    have hn' := List.nodup_cons.1 (by simpa using hn : (x.1 :: r.map Prod.fst).Nodup)
    have ih := opLoop_no s hs r (k + 1) hn'.2
    have hB : ¬ (0 < x.2 ∧ x.1.length < s.length ∧ s.take (x.1.length + 1) = x.1 ++ [32]) := by
      rintro ⟨_, _, h⟩
      have : (32 : UInt8) ∈ s.take (x.1.length + 1) := by rw [h]; simp
      exact hs (List.mem_of_mem_take this)
    unfold opLoop findOp
    rw [if_neg hB]
    by_cases he : x.1 = s
    · rw [if_pos he]
      by_cases h0 : x.2 = 0
      · rw [if_pos ⟨h0, he.symm⟩]
        simp [h0]
      · rw [if_neg (fun h => h0 h.1), ih, findOp_notin s r (k + 1) (fun y hy e => hn'.1 (by rw [he, ← e]; exact List.mem_map_of_mem hy))]
        simp [h0]
    · rw [if_neg he, if_neg (fun h => he h.2.symm), ih]

theorem opLoop_sp (h t : Bs) (hh : 32 ∉ h) : ∀ (l : List (Bs × Int)) (k : Nat), (l.map Prod.fst).Nodup → (∀ x ∈ l, 32 ∉ x.1 ∧ 0 ≤ x.2) → opLoop (h ++ 32 :: t) l k = match findOp h l k with | none => none | some (k, kind) => if kind = 0 then none else (intOf t).map fun n => ⟨k, n⟩
  | [], _, _, _ => rfl
  | x :: r, k, hn, hx => by
    have hn' := List.nodup_cons.1 (by simpa using hn : (x.1 :: r.map Prod.fst).Nodup)
    have ih := opLoop_sp h t hh r (k + 1) hn'.2 (fun y hy => hx y (List.mem_cons_of_mem _ hy))
    obtain ⟨hw, hk⟩ := hx x List.mem_cons_self
    have hA : ¬ (x.2 = 0 ∧ h ++ 32 :: t = x.1) := by
      rintro ⟨_, e⟩
      exact hw (by rw [← e]; simp)
    unfold opLoop findOp
    rw [if_neg hA]
    by_cases he : x.1 = h
    · rw [if_pos he]
      by_cases h0 : x.2 = 0
      · rw [if_neg (fun e => by omega), ih, findOp_notin h r (k + 1) (fun y hy e => hn'.1 (by rw [he, ← e]; exact List.mem_map_of_mem hy))]
        simp [h0]
      · rw [if_pos ⟨by omega, by rw [he]; simp, by rw [he, show h ++ 32 :: t = (h ++ [32]) ++ t by simp, List.take_left' (by simp)]⟩]
        simp only [h0, if_false]
        rw [he, show h ++ 32 :: t = (h ++ [32]) ++ t by simp, List.drop_left' (by simp)]
    · rw [if_neg he, if_neg (fun e => he ?_), ih]
      obtain ⟨_, _, e⟩ := e
      have h2 := List.take_append_drop (x.1.length + 1) (h ++ 32 :: t)
      rw [e, List.append_assoc] at h2
      exact sp_inj _ _ _ _ hw hh h2

theorem split_sp : ∀ (s : Bs), 32 ∈ s → ∃ a b, s = a ++ 32 :: b ∧ 32 ∉ a
  | [], h => by cases h
  | c :: r, h => by
    by_cases hc : c = 32
    · exact ⟨[], r, by rw [hc]; rfl, by simp⟩
    · have hr : 32 ∈ r := (List.mem_cons.1 h).resolve_left (fun e => hc e.symm)
      obtain ⟨a, b, e, ha⟩ := split_sp r hr
      exact ⟨c :: a, b, by rw [e]; rfl, by simp [ha]; exact fun e => hc e.symm⟩
theorem ops_nodup : (ops.map Prod.fst).Nodup := by decide
theorem ops_plain : ∀ x ∈ ops, 32 ∉ x.1 ∧ 0 ≤ x.2 := by decide
theorem opLoop_eq (s : Bs) : opLoop s ops 0 = insLine s := by
  unfold insLine
  by_cases h : 32 ∈ s
  · obtain ⟨a, b, rfl, ha⟩ := split_sp s h
    rw [opLoop_sp a b ha ops 0 ops_nodup ops_plain, cut_sp a b ha]
    simp only
    cases findOp a ops 0 with
    | none => rfl
    | some q => rfl
  · rw [opLoop_no s h ops 0 ops_nodup, cut_no s h]
    simp only
    cases findOp s ops 0 with
    | none => rfl
    | some q => rfl
end Go.Proofs.YtpapbigghiiolaaGreatDoor.CS
namespace Go.Proofs.YtpapbigghiiolaaGreatDoor
open Go.RowKit Go.Proofs.YtpapbigghiiolaaGreatDoorW.PrintWords PAll

/-! line -/
abbrev LineR := Int × Int × ByteArray × Bool
def insPost (r : LineR) (o : Option CS.Ins) : Prop := r.2.2.2 = o.isSome ∧ ∀ i, o = some i → r = (i.op, i.arg, ⟨#[]⟩, true)
theorem wordOf_at (i : Nat) (h : i < CS.ops.length) : wordOf (i : Int) = CS.ops[i] := by
  unfold wordOf CS.opOf
  rw [if_pos (by omega), Int.toNat_natCast, List.getElem?_eq_getElem h]
  rfl
def lineK (x0 : ByteArray) (x29 : Int) (k : Nat) : Option LineR := reeveref17_line.l0 k x0 x29
theorem line_loop (s : CS.Bs) (hs : s.length ≤ 20000) : ∀ (d i : Nat), i + d = 24 → ∃ r, Ev (fun k => reeveref17_line.l0 k (sb s) (i : Int)) r ∧ insPost r (CS.opLoop s (CS.ops.drop i) i) := by
  intro d
  induction d with
  | zero =>
    intro i hi
    refine ⟨(0, 0, ⟨#[]⟩, false), Ev.step (f := fun _ => some (0, 0, ⟨#[]⟩, false)) (fun k => ?_) (Ev.now _), ?_⟩
    · simp only [reeveref17_line.l0]
      rw [if_neg (by omega)]
    · have : CS.ops.drop i = [] := List.drop_of_length_le (by show 24 ≤ i; omega)
      rw [this]
      exact ⟨rfl, fun i h => by cases h⟩
  | succ d ih =>
    intro i hi
    have hl : i < CS.ops.length := by show i < 24; omega
    obtain ⟨r', hr', hp'⟩ := ih (i + 1) (by omega)
    rw [List.drop_eq_getElem_cons hl]
    have hpl := CS.ops_plain _ (List.getElem_mem hl)
    have hw := wordOf_at i hl
    have hwl : (CS.ops[i]).1.length ≤ 8 := (by decide : ∀ x ∈ CS.ops, x.1.length ≤ 8) _ (List.getElem_mem hl)
    obtain ⟨x, hx⟩ : ∃ x, x = CS.ops[i] := ⟨_, rfl⟩
    rw [← hx] at hpl hw hwl ⊢
    obtain ⟨w, kd⟩ := x
    simp only at hpl hwl
    have hb0 : ∀ k, reeveref17_line.l0 (k + 1) (sb s) (i : Int) = reeveref17_line.j2 k (sb s) (i : Int) (sb w) kd (i : Int) (decide (kd = 0 ∧ s = w)) := by
      intro k
      simp only [reeveref17_line.l0]
      rw [if_pos (by omega), word_eq, hw]
      simp only [Option.bind_some, ByteArray.toList_eq, sb_data]
      by_cases h0 : kd = 0
      · rw [if_pos h0]
        congr 1
        by_cases h1 : s = w
        · rw [h1, decide_eq_true ⟨h0, rfl⟩]; simp
        · rw [decide_eq_false (fun h => h1 h.2)]; simpa using h1
      · rw [if_neg h0, decide_eq_false (fun h => h0 h.1)]
    by_cases hA : kd = 0 ∧ s = w
    · rw [decide_eq_true hA] at hb0
      refine ⟨((i : Int), 0, ⟨#[]⟩, true), Ev.step hb0 (Ev.step (f := fun _ => some ((i : Int), 0, ⟨#[]⟩, true)) (fun k => ?_) (Ev.now _)), ?_⟩
      · simp only [reeveref17_line.j2]
        rw [if_pos trivial]
      · unfold CS.opLoop
        rw [if_pos hA]
        exact ⟨rfl, fun j h => by cases h; rfl⟩
    · rw [decide_eq_false hA] at hb0
      have hext : ∀ n : Nat, n = w.length + 1 → n ≤ s.length → ((sb s).extract 0 n).toList = s.take n := by
        intro n hn hle
        rw [extract_sb, ByteArray.toList_eq, sb_data]
        simp
      have hwsp : (sb w ++ (⟨#[32]⟩ : ByteArray)).toList = w ++ [32] := by
        rw [ByteArray.toList_eq, ByteArray.data_append, Array.toList_append, sb_data]
      have hgo : ∀ k, ¬ (0 < kd ∧ w.length < s.length ∧ s.take (w.length + 1) = w ++ [32]) → reeveref17_line.j2 (k + 1) (sb s) (i : Int) (sb w) kd (i : Int) false = reeveref17_line.l0 k (sb s) ((i + 1 : Nat) : Int) := by
        intro k hB
        simp only [reeveref17_line.j2, sb_size]
        rw [if_neg (by decide), i64_small ((i : Int) + 1) (by omega) (by omega), i64_small ((w.length : Int) + 1) (by omega) (by omega)]
        by_cases h1 : kd > 0
        · rw [if_pos h1]
          by_cases h2 : (s.length : Int) > (w.length : Int)
          · rw [if_pos h2, if_pos (by omega), if_pos (by omega), if_pos (by omega), if_neg (fun e => hB ⟨h1, by omega, ?_⟩)]
            · rfl
            · rw [show ((w.length : Int) + 1).toNat = w.length + 1 by omega, hext _ rfl (by omega), hwsp] at e
              exact e
          · rw [if_neg h2]
            rfl
        · rw [if_neg h1]
          rfl
      by_cases hB : 0 < kd ∧ w.length < s.length ∧ s.take (w.length + 1) = w ++ [32]
      · obtain ⟨h1, h2, h3⟩ := hB
        refine ⟨((i : Int), (intV (CS.intOf (s.drop (w.length + 1)))).1, ⟨#[]⟩, (intV (CS.intOf (s.drop (w.length + 1)))).2), Ev.step hb0 (Ev.step (f := fun k => (reeveref17_Int.f k (sb (s.drop (w.length + 1)))).bind fun b => some ((i : Int), b.1, ⟨#[]⟩, b.2)) (fun k => ?_) (Ev.bind (int_eq _ (by rw [List.length_drop]; omega)) (Ev.now _))), ?_⟩
        · simp only [reeveref17_line.j2, sb_size]
          rw [if_neg (by decide), i64_small ((w.length : Int) + 1) (by omega) (by omega), if_pos h1, if_pos (by omega), if_pos (by omega), if_pos (by omega), if_pos (by omega)]
          rw [show ((w.length : Int) + 1).toNat = w.length + 1 by omega, hext _ rfl (by omega), hwsp, if_pos h3, extract_sb]
          rw [List.take_of_length_le (by rw [List.length_drop]; omega)]
        · unfold CS.opLoop
          rw [if_neg hA, if_pos ⟨h1, h2, h3⟩]
          cases CS.intOf (s.drop (w.length + 1)) with
          | none => exact ⟨rfl, fun j h => by cases h⟩
          | some v => exact ⟨rfl, fun j h => by cases h; rfl⟩
      · refine ⟨r', Ev.step hb0 (Ev.step (fun k => hgo k hB) hr'), ?_⟩
        unfold CS.opLoop
        rw [if_neg hA, if_neg hB]
        exact hp'

def linePost (r : LineR) (o : Option CS.Line) : Prop := r.2.2.2 = o.isSome ∧ (∀ n, o = some (.name n) → r = (-1, 0, sb n, true)) ∧ ∀ i, o = some (.ins i) → r = (i.op, i.arg, ⟨#[]⟩, true)
theorem line_eq (s : CS.Bs) (hs : s.length ≤ 20000) : ∃ r, Ev (fun k => reeveref17_line.f k (sb s)) r ∧ linePost r (CS.lineOf s) := by
  have hf : ∀ k, reeveref17_line.f k (sb s) = reeveref17_line.j0 k (sb s) (Lib.hasPrefix s CS.nameP) := by
    intro k
    unfold reeveref17_line.f
    rw [sb_size, ← Lib.hasPrefix_of_take]
    by_cases h5 : 5 ≤ s.length
    · rw [if_pos (by omega), if_pos (by omega), if_pos (by omega), extract_sb, ByteArray.toList_eq, sb_data, decide_eq_true (by show 5 ≤ s.length; omega), Bool.true_and]
      rfl
    · rw [if_neg (by omega), decide_eq_false (by show ¬ 5 ≤ s.length; omega), Bool.false_and]
  by_cases hp : Lib.hasPrefix s CS.nameP = true
  · have h5 : 5 ≤ s.length := by
      have e := Lib.hasPrefix_of_take s CS.nameP
      rw [hp, Bool.and_eq_true, decide_eq_true_eq] at e
      exact e.1
    obtain ⟨r1, hr, hv⟩ := unhex_eq (s.drop 5) (by rw [List.length_drop]; omega)
    refine ⟨(-1, 0, r1, (CS.unhex (s.drop 5)).isSome), Ev.congr hf (Ev.step (f := fun k => (reeveref17_Unhex.f k (sb (s.drop 5))).bind fun b => some (-1, 0, b.1, b.2)) (fun k => ?_) (Ev.bind hr (Ev.now _))), ?_⟩
    · rw [hp]
      simp only [reeveref17_line.j0, sb_size]
      rw [if_pos trivial, if_pos (by omega), extract_sb, List.take_of_length_le (by rw [List.length_drop]; omega)]
    · unfold CS.lineOf
      rw [if_pos hp]
      cases hu : CS.unhex (s.drop 5) with
      | none => exact ⟨rfl, (fun n h => by cases h), (fun n h => by cases h)⟩
      | some m =>
        refine ⟨rfl, (fun n h => ?_), (fun n h => by cases h)⟩
        cases h
        rw [hv m hu]
        rfl
  · obtain ⟨r, hr, h1, h2⟩ := line_loop s hs 24 0 rfl
    rw [List.drop_zero, CS.opLoop_eq] at h1 h2
    refine ⟨r, Ev.congr hf (Ev.step (fun k => ?_) hr), ?_⟩
    · rw [Bool.not_eq_true _ |>.mp hp]
      simp only [reeveref17_line.j0]
      rw [if_neg (by decide)]
      rfl
    · unfold CS.lineOf
      rw [if_neg hp]
      cases hu : CS.insLine s with
      | none =>
        rw [hu] at h1
        exact ⟨h1, (fun n h => by cases h), (fun n h => by cases h)⟩
      | some m =>
        rw [hu] at h1
        refine ⟨h1, (fun n h => by cases h), (fun i h => ?_)⟩
        cases h
        exact h2 _ hu
end Go.Proofs.YtpapbigghiiolaaGreatDoor

/-
  The document's layer 17, as print.py has it of package reeveref17, comes to the spec: Parse, Same.
-/
set_option linter.unusedVariables false
namespace Go.Proofs.YtpapbigghiiolaaGreatDoor.CS
theorem lines_bound : ∀ (n : Nat) (s : Bs), s.length ≤ n → (lines s).length ≤ s.length ∧ ∀ l ∈ lines s, l.length ≤ s.length := by
  intro n
  induction n with
  | zero =>
    intro s h
    have : s = [] := List.length_eq_zero_iff.1 (by omega)
    subst this
    rw [lines_nil]
    exact ⟨Nat.le_refl _, fun l h => by cases h⟩
  | succ n ih =>
    intro s h
    by_cases hs : s = []
    · subst hs
      rw [lines_nil]
      exact ⟨Nat.le_refl _, fun l h => by cases h⟩
    · have ht := tailLines_lt s hs
      obtain ⟨h1, h2⟩ := ih (tailLines s) (by omega)
      rw [lines_cons s hs]
      refine ⟨by rw [List.length_cons]; omega, fun l hl => ?_⟩
      rcases List.mem_cons.1 hl with rfl | hl
      · exact headLine_le s
      · have := h2 l hl
        omega
theorem lineOf_op (s : Bs) (i : Ins) (h : lineOf s = some (.ins i)) : 0 ≤ i.op := by
  have hl : ∀ (l : List (Bs × Int)) (k : Nat) (i : Ins) , opLoop s l k = some i → 0 ≤ i.op := by
    intro l
    induction l with
    | nil => intro k i h; cases h
    | cons x r ih =>
      intro k i h
      unfold opLoop at h
      split at h
      · cases h; exact Int.natCast_nonneg _
      · split at h
        · cases hi : intOf (s.drop (x.1.length + 1)) with
          | none => rw [hi] at h; cases h
          | some v => rw [hi] at h; cases h; exact Int.natCast_nonneg _
        · exact ih _ _ h
  unfold lineOf at h
  split at h
  · cases hu : unhex (s.drop 5) with
    | none => rw [hu] at h; cases h
    | some v => rw [hu] at h; cases h
  · cases hu : insLine s with
    | none => rw [hu] at h; cases h
    | some v =>
      rw [hu] at h
      cases h
      exact hl ops 0 _ ((opLoop_eq s).trans hu)
end Go.Proofs.YtpapbigghiiolaaGreatDoor.CS
namespace Go.Proofs.YtpapbigghiiolaaGreatDoor
open Go.RowKit Go.Proofs.YtpapbigghiiolaaGreatDoorW.PrintWords PAll

abbrev ParseR := List ByteArray × (List S59) × Int × Int
def resR (x : CS.Prg × Int × Int) : ParseR := (x.1.names.map sb, x.1.code.map to66, x.2.1, x.2.2)
def parseK (late : Bool) (ls : List ByteArray) (i : Nat) (ns : List ByteArray) (cs : List S59) (k : Nat) (b : LineR) : Option ParseR :=
  if b.2.2.2 = true then (if b.1 < 0 then reeveref17_Parse.l0 k (late || decide (0 < cs.length)) ls (ls.length : Int) ((i + 1 : Nat) : Int) (ns ++ [b.2.2.1]) cs else reeveref17_Parse.l0 k late ls (ls.length : Int) ((i + 1 : Nat) : Int) ns (cs ++ [⟨b.1, b.2.1⟩])) else some ([], [], ((i + 1 : Nat) : Int), 2)

theorem parse_loop (ls : List CS.Bs) (hl : ls.length ≤ 20000) (hb : ∀ l ∈ ls, l.length ≤ 20000) : ∀ (d i : Nat) (p : CS.Prg) (late : Bool), i + d = ls.length → p.names.length ≤ i → p.code.length ≤ i →
    Ev (fun k => reeveref17_Parse.l0 k late (ls.map sb) ((ls.map sb).length : Int) (i : Int) (p.names.map sb) (p.code.map to66)) (resR (CS.parseLines (ls.drop i) (i + 1) p late)) := by
  intro d
  induction d with
  | zero =>
    intro i p late hi hn hc
    rw [List.drop_of_length_le (by omega)]
    cases late with
    | true =>
      refine Ev.step (f := fun _ => some ([], [], 0, 2)) (fun k => ?_) (Ev.now _)
      simp only [reeveref17_Parse.l0, List.length_map]
      rw [if_neg (by omega), if_pos trivial]
    | false =>
      refine Ev.step (f := fun k => (reeveref17_Formed.f k (p.names.map sb) (p.code.map to66)).bind fun t => if t = true then some (p.names.map sb, p.code.map to66, 0, 0) else some ([], [], 0, 2)) (fun k => ?_) (Ev.bind (formed_eq p (by omega) (by omega)) ?_)
      · simp only [reeveref17_Parse.l0, List.length_map]
        rw [if_neg (by omega), if_neg (by decide)]
      · unfold CS.parseLines CS.finish
        cases CS.formed p with
        | true => exact Ev.now _
        | false => exact Ev.now _
  | succ d ih =>
    intro i p late hi hn hc
    have hlt : i < ls.length := by omega
    rw [List.drop_eq_getElem_cons hlt]
    obtain ⟨l, hle⟩ : ∃ l, l = ls[i] := ⟨_, rfl⟩
    have hlb : l.length ≤ 20000 := by rw [hle]; exact hb _ (List.getElem_mem hlt)
    have hrd : rdOf ByteArray.empty (ls.map sb) (i : Int) = sb l := by
      rw [rd_names ls i hlt, hle, List.getD_eq_getElem?_getD, List.getElem?_eq_getElem hlt]
      rfl
    rw [← hle]
    obtain ⟨r, hr, hs, hnm, hin⟩ := line_eq l hlb
    have hbody : ∀ k, reeveref17_Parse.l0 (k + 1) late (ls.map sb) ((ls.map sb).length : Int) (i : Int) (p.names.map sb) (p.code.map to66) = (reeveref17_line.f k (sb l)).bind (parseK late (ls.map sb) i (p.names.map sb) (p.code.map to66) k) := by
      intro k
      simp only [reeveref17_Parse.l0, List.length_map]
      rw [if_pos (by omega), if_pos (by omega), if_pos (by omega), hrd]
      congr 1
      funext b
      unfold parseK
      rw [i64_small ((i : Int) + 1) (by omega) (by omega), if_pos (show p.names.length < 8796093022208 by omega), if_pos (show p.code.length < 8796093022208 by omega), List.length_map, List.length_map]
      by_cases hb : b.2.2.2 = true
      · rw [if_pos hb, if_pos hb]
        by_cases hb1 : b.1 < 0
        · rw [if_pos hb1, if_pos hb1]
          cases late with
          | true => rw [if_pos rfl]; rfl
          | false =>
            rw [if_neg (by decide), Bool.false_or, if_pos (show p.names.length < 8796093022208 by omega)]
            rw [show decide ((p.code.length : Int) > 0) = decide (0 < p.code.length) from by rw [Bool.eq_iff_iff]; simp only [decide_eq_true_eq]; omega]
            rfl
        · rw [if_neg hb1, if_neg hb1]
          rfl
      · rw [if_neg hb, if_neg hb]
        rfl
    refine Ev.step hbody (Ev.bind hr ?_)
    unfold CS.parseLines
    cases hu : CS.lineOf l with
    | none =>
      rw [hu] at hs
      refine Ev.congr (f := fun _ => some ([], [], ((i + 1 : Nat) : Int), 2)) (fun k => ?_) (Ev.now _)
      unfold parseK
      rw [if_neg (by rw [hs]; decide)]
    | some x =>
      simp only
      cases x with
      | name n =>
        have h := ih (i + 1) (CS.add p (.name n)) (CS.lateOf late p (.name n)) (by omega) (by simp only [CS.add, List.length_append, List.length_cons, List.length_nil]; omega) (by simp only [CS.add]; omega)
        refine Ev.congr (fun k => ?_) h
        rw [hnm n hu]
        unfold parseK
        rw [if_pos rfl, if_pos (show (-1 : Int) < 0 by decide)]
        simp only [CS.add, CS.lateOf, List.map_append, List.map_cons, List.map_nil, List.length_map]
        congr 2
        cases p.code <;> simp
      | ins j =>
        have h := ih (i + 1) (CS.add p (.ins j)) (CS.lateOf late p (.ins j)) (by omega) (by simp only [CS.add]; omega) (by simp only [CS.add, List.length_append, List.length_cons, List.length_nil]; omega)
        refine Ev.congr (fun k => ?_) h
        have h0 := CS.lineOf_op l j hu
        rw [hin j hu]
        unfold parseK
        rw [if_pos rfl, if_neg (by omega)]
        simp only [CS.add, CS.lateOf, List.map_append, List.map_cons, List.map_nil, List.length_map]
        rfl

theorem parse_eq (s : CS.Bs) (hs : s.length ≤ 9223372036854775807) : Ev (fun k => reeveref17_Parse.f k (sb s)) (resR (CS.parse s)) := by
  unfold CS.parse
  by_cases h : s.length > 20000
  · rw [if_pos h]
    refine Ev.congr (f := fun _ => some ([], [], 0, 4)) (fun k => ?_) (Ev.now _)
    unfold reeveref17_Parse.f
    rw [sb_size, if_pos (by omega)]
  · rw [if_neg h]
    obtain ⟨h1, h2⟩ := CS.lines_bound s.length s (Nat.le_refl _)
    have hl := parse_loop (CS.lines s) (by omega) (fun l hl => by have := h2 l hl; omega) (CS.lines s).length 0 CS.nil false (by omega) (Nat.zero_le _) (Nat.zero_le _)
    refine Ev.congr (fun k => ?_) (Ev.bind (f := fun k t => reeveref17_Parse.l0 k false t (t.length : Int) 0 [] []) (lines_eq s (by omega)) hl)
    unfold reeveref17_Parse.f
    rw [sb_size, if_neg (by omega)]

/-! Same -/
theorem same_l1 (ns ns' : List ByteArray) (cs cs' : List CS.Ins) (hl : cs.length = cs'.length) (hb : cs.length ≤ 1000000000) : ∀ (d j : Nat), j + d = cs.length →
    Ev (fun k => reeveref17_Same.l1 k (cs.length : Int) (j : Int) ns (cs.map to66) ns' (cs'.map to66)) (decide (cs.drop j = cs'.drop j)) := by
  intro d
  induction d with
  | zero =>
    intro j hj
    refine Ev.step (f := fun _ => some true) (fun k => ?_) ?_
    · simp only [reeveref17_Same.l1]
      rw [if_neg (by omega)]
    · rw [List.drop_of_length_le (by omega), List.drop_of_length_le (by omega)]
      exact Ev.now _
  | succ d ih =>
    intro j hj
    have h1 : j < cs.length := by omega
    have h2 : j < cs'.length := by omega
    have hd : (cs.drop j = cs'.drop j) ↔ (cs.getD j ⟨0, 0⟩ = cs'.getD j ⟨0, 0⟩ ∧ cs.drop (j + 1) = cs'.drop (j + 1)) := by
      rw [List.drop_eq_getElem_cons h1, List.drop_eq_getElem_cons h2, List.cons.injEq, List.getD_eq_getElem?_getD, List.getD_eq_getElem?_getD, List.getElem?_eq_getElem h1, List.getElem?_eq_getElem h2]
      rfl
    have hr1 := rd_code cs j h1
    have hr2 := rd_code cs' j h2
    obtain ⟨a, ha⟩ : ∃ a, a = cs.getD j ⟨0, 0⟩ := ⟨_, rfl⟩
    obtain ⟨b, hb'⟩ : ∃ b, b = cs'.getD j ⟨0, 0⟩ := ⟨_, rfl⟩
    rw [← ha] at hr1 hd
    rw [← hb'] at hr2 hd
    by_cases hab : a = b
    · refine Ev.step (fun k => ?_) (Ev.val (ih (j + 1) (by omega)) ?_)
      · simp only [reeveref17_Same.l1, List.length_map]
        rw [if_pos (by omega), if_pos (by omega), if_pos (by omega), if_pos (by omega), hr1, hr2, hab, if_neg (by simp), i64_small ((j : Int) + 1) (by omega) (by omega)]
        rfl
      · rw [Bool.eq_iff_iff]
        simp only [decide_eq_true_eq]
        rw [hd]
        exact ⟨fun h => ⟨hab, h⟩, fun h => h.2⟩
    · rw [decide_eq_false (fun h => hab (hd.1 h).1)]
      refine Ev.step (f := fun _ => some false) (fun k => ?_) (Ev.now _)
      simp only [reeveref17_Same.l1, List.length_map]
      rw [if_pos (by omega), if_pos (by omega), if_pos (by omega), if_pos (by omega), hr1, hr2, if_pos]
      have : ¬ (a.op = b.op ∧ a.arg = b.arg) := fun h => hab (by cases a; cases b; simp only at h; rw [h.1, h.2])
      unfold to66
      simp only [Bool.or_eq_true, Bool.not_eq_true', beq_eq_false_iff_ne, ne_eq]
      by_cases e : a.op = b.op
      · exact .inr (fun e2 => this ⟨e, e2⟩)
      · exact .inl e

theorem same_l0 (ns ns' : List CS.Bs) (cs cs' : List CS.Ins) (hn : ns.length = ns'.length) (hl : cs.length = cs'.length) (hb0 : ns.length ≤ 1000000000) (hb : cs.length ≤ 1000000000) : ∀ (d j : Nat), j + d = ns.length →
    Ev (fun k => reeveref17_Same.l0 k (ns.length : Int) (j : Int) (ns.map sb) (cs.map to66) (ns'.map sb) (cs'.map to66)) (decide (ns.drop j = ns'.drop j) && decide (cs = cs')) := by
  intro d
  induction d with
  | zero =>
    intro j hj
    rw [List.drop_of_length_le (by omega), List.drop_of_length_le (by omega)]
    refine Ev.step (fun k => ?_) (Ev.val (same_l1 (ns.map sb) (ns'.map sb) cs cs' hl hb cs.length 0 (by omega)) (by simp))
    simp only [reeveref17_Same.l0, List.length_map]
    rw [if_neg (by omega)]
    rfl
  | succ d ih =>
    intro j hj
    have h1 : j < ns.length := by omega
    have h2 : j < ns'.length := by omega
    have hd : (ns.drop j = ns'.drop j) ↔ (ns.getD j [] = ns'.getD j [] ∧ ns.drop (j + 1) = ns'.drop (j + 1)) := by
      rw [List.drop_eq_getElem_cons h1, List.drop_eq_getElem_cons h2, List.cons.injEq, List.getD_eq_getElem?_getD, List.getD_eq_getElem?_getD, List.getElem?_eq_getElem h1, List.getElem?_eq_getElem h2]
      rfl
    have hbody : ∀ k, reeveref17_Same.l0 (k + 1) (ns.length : Int) (j : Int) (ns.map sb) (cs.map to66) (ns'.map sb) (cs'.map to66) = if ns.getD j [] = ns'.getD j [] then reeveref17_Same.l0 k (ns.length : Int) ((j + 1 : Nat) : Int) (ns.map sb) (cs.map to66) (ns'.map sb) (cs'.map to66) else some false := by
      intro k
      simp only [reeveref17_Same.l0, List.length_map]
      rw [if_pos (by omega), if_pos (by omega), if_pos (by omega), if_pos (by omega), rd_names ns j h1, rd_names ns' j h2, ByteArray.toList_eq, ByteArray.toList_eq, sb_data, sb_data, i64_small ((j : Int) + 1) (by omega) (by omega)]
      rfl
    by_cases hab : ns.getD j [] = ns'.getD j []
    · refine Ev.step (fun k => (hbody k).trans (if_pos hab)) (Ev.val (ih (j + 1) (by omega)) ?_)
      congr 1
      rw [Bool.eq_iff_iff]
      simp only [decide_eq_true_eq]
      rw [hd]
      exact ⟨fun h => ⟨hab, h⟩, fun h => h.2⟩
    · rw [decide_eq_false (fun h => hab (hd.1 h).1), Bool.false_and]
      exact Ev.step (fun k => (hbody k).trans (if_neg hab)) (Ev.now _)

theorem same_eq (p q : CS.Prg) (h0 : p.names.length ≤ 1000000000) (h1 : p.code.length ≤ 1000000000) :
    Ev (fun k => reeveref17_Same.f k (p.names.map sb) (p.code.map to66) (q.names.map sb) (q.code.map to66)) (decide (p = q)) := by
  obtain ⟨ns, cs⟩ := p
  obtain ⟨ns', cs'⟩ := q
  simp only at h0 h1
  have hd : ((⟨ns, cs⟩ : CS.Prg) = ⟨ns', cs'⟩) ↔ ns = ns' ∧ cs = cs' := by rw [CS.Prg.mk.injEq]
  by_cases hn : ns.length = ns'.length
  · by_cases hc : cs.length = cs'.length
    · refine Ev.congr (f := fun k => reeveref17_Same.j0 k false (ns.map sb) (cs.map to66) (ns'.map sb) (cs'.map to66)) (fun k => ?_) (Ev.step (fun k => ?_) (Ev.val (same_l0 ns ns' cs cs' hn hc h0 h1 ns.length 0 (by omega)) ?_))
      · unfold reeveref17_Same.f
        simp only [List.length_map]
        rw [if_pos (by omega), hc]
        simp
      · simp only [reeveref17_Same.j0, List.length_map]
        rw [if_neg (by decide)]
        rfl
      · rw [Bool.eq_iff_iff]
        simp only [Bool.and_eq_true, decide_eq_true_eq, List.drop_zero]
        exact hd.symm
    · rw [decide_eq_false (fun h => hc (by rw [(hd.1 h).2]))]
      refine Ev.congr (f := fun k => reeveref17_Same.j0 k true (ns.map sb) (cs.map to66) (ns'.map sb) (cs'.map to66)) (fun k => ?_) (Ev.step (f := fun _ => some false) (fun k => ?_) (Ev.now _))
      · unfold reeveref17_Same.f
        simp only [List.length_map]
        rw [if_pos (by omega)]
        congr 1
        simp
        omega
      · simp only [reeveref17_Same.j0]
        rw [if_pos trivial]
  · rw [decide_eq_false (fun h => hn (by rw [(hd.1 h).1]))]
    refine Ev.congr (f := fun k => reeveref17_Same.j0 k true (ns.map sb) (cs.map to66) (ns'.map sb) (cs'.map to66)) (fun k => ?_) (Ev.step (f := fun _ => some false) (fun k => ?_) (Ev.now _))
    · unfold reeveref17_Same.f
      simp only [List.length_map]
      rw [if_neg (by omega)]
    · simp only [reeveref17_Same.j0]
      rw [if_pos trivial]
end Go.Proofs.YtpapbigghiiolaaGreatDoor
