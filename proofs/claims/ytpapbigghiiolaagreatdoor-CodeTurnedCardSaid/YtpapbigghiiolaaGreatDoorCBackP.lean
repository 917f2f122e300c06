/-
  The plain laws of CodeBack: what was encoded is decoded so; a text that is parsed is printed as it was.
-/
import Derived.Test.YtpapbigghiiolaaGreatDoorCPlain
import Derived.Test.YtpapbigghiiolaaGreatDoorCEnDe
set_option linter.unusedVariables false
namespace Go.Proofs.YtpapbigghiiolaaGreatDoor
namespace CS

theorem foldl_val : ∀ (l : Bs) (a : Nat), l.foldl (fun a b => a * 256 + b.toNat) a = a * 256 ^ l.length + val l
  | [], a => by simp [val]
  | b :: r, a => by
    have h0 := foldl_val r b.toNat
    have h1 := foldl_val r (a * 256 + b.toNat)
    have h2 : val (b :: r) = r.foldl (fun a b => a * 256 + b.toNat) b.toNat := by simp [val]
    rw [List.foldl_cons, h1, h2, h0, List.length_cons, Nat.pow_succ, Nat.add_mul, Nat.mul_assoc, Nat.mul_comm 256 (256 ^ r.length), Nat.add_assoc]
theorem val_cons (b : UInt8) (r : Bs) : val (b :: r) = b.toNat * 256 ^ r.length + val r := by
  rw [← foldl_val]
  simp [val]
theorem val_big (n : Nat) : ∀ k, val (big n k) = n % 256 ^ k
  | 0 => by simp [big, val, Nat.mod_one]
  | k + 1 => by
    rw [big, val_cons, big_length, val_big n k, Nat.mod_pow_succ, Nat.mul_comm (256 ^ k), Nat.add_comm, show (UInt8.ofNat (n / 256 ^ k)).toNat = n / 256 ^ k % 256 from UInt8.toNat_ofNat']
theorem nbytes_spec : ∀ n : Nat, n < 256 ^ nbytes n ∧ (1 ≤ n → 256 ^ (nbytes n - 1) ≤ n) := by
  intro n
  induction n using Nat.strongRecOn with
  | ind n ih =>
    rw [nbytes]
    split
    · rename_i h
      exact ⟨by omega, fun h1 => by simpa using h1⟩
    · rename_i h
      obtain ⟨a, b⟩ := ih (n / 256) (by omega)
      have hp := nbytes_pos (n / 256)
      refine ⟨?_, fun _ => ?_⟩
      · rw [Nat.pow_succ]
        omega
      · have := b (by omega)
        obtain ⟨m, hm⟩ : ∃ m, nbytes (n / 256) = m + 1 := ⟨nbytes (n / 256) - 1, by omega⟩
        rw [hm] at this ⊢
        simp only [Nat.add_sub_cancel] at this ⊢
        rw [Nat.pow_succ]
        omega
theorem rdNum_enc (n : Nat) (h : n < 18446744073709551616) (rest : Bs) : rdNum (some (encNum n ++ rest)) = (n, some rest) := by
  unfold encNum
  split
  · rename_i h0
    simp only [List.cons_append, List.nil_append, rdNum, UInt8.toNat_ofNat']
    rw [show n % 256 = n by omega, if_pos h0]
  · rename_i h0
    obtain ⟨h1, h8⟩ := nbytes_le n h (by omega)
    obtain ⟨ha, hb⟩ := nbytes_spec n
    have hb := hb (by omega)
    have hf : (UInt8.ofNat (247 + nbytes n)).toNat = 247 + nbytes n := by rw [UInt8.toNat_ofNat']; omega
    simp only [List.cons_append, rdNum, hf]
    rw [if_neg (by omega), show 247 + nbytes n - 247 = nbytes n by omega]
    have ht : (big n (nbytes n) ++ rest).take (nbytes n) = big n (nbytes n) := by rw [List.take_left']; exact big_length _ _
    have hd : (big n (nbytes n) ++ rest).drop (nbytes n) = rest := by rw [List.drop_left']; exact big_length _ _
    rw [if_neg (by rw [List.length_append, big_length]; omega), ht, hd, val_big, Nat.mod_eq_of_lt ha, if_neg]
    rintro (hx | hx)
    · omega
    · obtain ⟨m, hm⟩ : ∃ m, nbytes n = m + 1 := ⟨nbytes n - 1, by omega⟩
      rw [hm] at hx hb ha
      simp only [Nat.add_sub_cancel] at hb
      rw [big] at hx
      simp only [List.cons_append, List.head?_cons, Option.some.injEq] at hx
      have hx := congrArg UInt8.toNat hx
      rw [UInt8.toNat_ofNat'] at hx
      have hz : (0 : UInt8).toNat = 0 := rfl
      rw [hz] at hx
      have hq : n / 256 ^ m < 256 := by
        rw [Nat.div_lt_iff_lt_mul (Nat.pow_pos (by decide)), Nat.mul_comm, ← Nat.pow_succ]
        exact ha
      have hp : 1 ≤ n / 256 ^ m := (Nat.one_le_div_iff (Nat.pow_pos (by decide))).2 hb
      omega
theorem rdInt_enc (v : Int) (h0 : -9223372036854775808 ≤ v) (h1 : v ≤ 9223372036854775807) (rest : Bs) : rdInt (some (encInt v ++ rest)) = (v, some rest) := by
  unfold rdInt encInt
  rw [rdNum_enc _ (zig_lt v h0 h1)]
  simp only [Prod.mk.injEq, and_true]
  unfold unzig zig
  split <;> split <;> omega
theorem rdText_enc (s : Bs) (h : s.length < 18446744073709551616) (rest : Bs) : rdText (some (encText s ++ rest)) = (s, some rest) := by
  unfold rdText encText
  rw [List.append_assoc, rdNum_enc _ h]
  simp only
  rw [if_neg (by rw [List.length_append]; omega)]
  simp
theorem rdNames_enc : ∀ (ns : List Bs) (rest : Bs), (∀ n ∈ ns, key n = true) → rdNames ns.length (some ((ns.map encText).flatten ++ rest)) = (ns, some rest)
  | [], rest, _ => rfl
  | n :: r, rest, h => by
    have hk := h n List.mem_cons_self
    unfold key at hk
    simp only [Bool.and_eq_true, decide_eq_true_eq] at hk
    simp only [List.map_cons, List.flatten_cons, List.append_assoc, List.length_cons, rdNames]
    rw [rdText_enc n (by omega)]
    simp only
    rw [rdNames_enc r rest (fun x hx => h x (List.mem_cons_of_mem _ hx))]
theorem rdCode_enc (p : Prg) : ∀ (cs : List Ins) (rest : Bs), (∀ c ∈ cs, insOk p c = true ∧ -9223372036854775808 ≤ c.arg ∧ c.arg ≤ 9223372036854775807) → rdCode cs.length (some ((cs.map encIns).flatten ++ rest)) = (cs, some rest)
  | [], rest, _ => rfl
  | c :: r, rest, h => by
    obtain ⟨hk, h0, h1⟩ := h c List.mem_cons_self
    have ho := insOk_op hk
    simp only [List.map_cons, List.flatten_cons, List.append_assoc, List.length_cons, rdCode, encIns]
    rw [rdNum_enc _ (by omega)]
    simp only
    rw [rdInt_enc _ h0 h1]
    simp only
    rw [rdCode_enc p r rest (fun x hx => h x (List.mem_cons_of_mem _ hx))]
    obtain ⟨op, arg⟩ := c
    simp only [Prod.mk.injEq, List.cons.injEq, Ins.mk.injEq, and_true]
    simp only at ho
    omega
/-- what was encoded is decoded so -/
theorem decode_encode (p : Prg) (hf : formed p = true) (hw : Wf p) : decode (encode p).1 = (p, 0) := by
  rw [encode_eq p hf]
  have hf2 := hf
  unfold formed at hf2
  simp only [Bool.and_eq_true, decide_eq_true_eq] at hf2
  have h0 := hf2.1.1.1
  have h1 := hf2.1.1.2
  have hc := rdCode_enc p p.code [] (fun c hc => ⟨List.all_eq_true.1 hf2.2 c hc, hw c hc⟩)
  rw [List.append_nil] at hc
  unfold decode encHead
  simp only [List.append_assoc]
  rw [rdNum_enc _ (by omega)]
  simp only
  rw [if_neg (by omega), rdNames_enc p.names _ (fun n hn => List.all_eq_true.1 hf2.1.2 n hn)]
  simp only
  rw [rdNum_enc _ (by omega)]
  simp only
  rw [if_neg (by omega), hc]
  simp only
  rw [if_pos ⟨trivial, hf⟩]
/-- what was printed is parsed so -/
theorem parse_print (p : Prg) (hf : formed p = true) (hw : Wf p) : parse (text p) = (p, 0, 0) := by
  have ht := text_len p hf hw
  have hl := lines_text p []
  rw [List.append_nil] at hl
  unfold parse
  rw [if_neg (by omega), hl, lines_nil, parse_text p hf hw]
  unfold parseLines finish
  rw [hf]
  rfl

/-! a text that is parsed is printed as it was -/
theorem hexd_hexv : ∀ a : Fin 256, ∀ x, hexv (UInt8.ofNat a.val) = some x → x < 16 ∧ hexd x = UInt8.ofNat a.val := by
  have h : ∀ a : Fin 256, (match hexv (UInt8.ofNat a.val) with | some x => decide (x < 16 ∧ hexd x = UInt8.ofNat a.val) | none => true) = true := by decide +kernel
  intro a x hx
  have := h a
  rw [hx] at this
  exact of_decide_eq_true this
theorem hexv_inv (c : UInt8) (x : Nat) (h : hexv c = some x) : x < 16 ∧ hexd x = c := by
  have := hexd_hexv ⟨c.toNat, c.toNat_lt⟩ x (by rw [UInt8.ofNat_toNat]; exact h)
  rwa [UInt8.ofNat_toNat] at this
theorem unhexL_inv : ∀ (k : Nat) (l n : Bs), l.length ≤ k → unhexL l = some n → hex n = l
  | _, [], n, _, h => by cases h; rfl
  | _, [a], n, _, h => by cases h
  | 0, a :: b :: r, n, hk, h => by simp at hk
  | k + 1, a :: b :: r, n, hk, h => by
    unfold unhexL at h
    split at h
    · rename_i x y l hx hy hl
      cases h
      obtain ⟨h1, h2⟩ := hexv_inv a x hx
      obtain ⟨h3, h4⟩ := hexv_inv b y hy
      have ih := unhexL_inv k r l (by simp only [List.length_cons] at hk; omega) hl
      have e : (UInt8.ofNat (16 * x + y)).toNat = 16 * x + y := by rw [UInt8.toNat_ofNat']; omega
      simp only [hex, e]
      rw [show (16 * x + y) / 16 = x by omega, show (16 * x + y) % 16 = y by omega, h2, h4, ih]
    · cases h
theorem findOp_inv (w : Bs) : ∀ (l : List (Bs × Int)) (k n : Nat) (kind : Int), findOp w l k = some (n, kind) → k ≤ n ∧ l[n - k]? = some (w, kind)
  | [], k, n, kind, h => by cases h
  | x :: r, k, n, kind, h => by
    unfold findOp at h
    split at h
    · rename_i hx
      cases h
      exact ⟨Nat.le_refl _, by rw [Nat.sub_self, ← hx]; rfl⟩
    · obtain ⟨h1, h2⟩ := findOp_inv w r (k + 1) n kind h
      refine ⟨by omega, ?_⟩
      rw [show n - k = (n - (k + 1)) + 1 by omega]
      simpa using h2
theorem mem_split (s : Bs) (c : UInt8) (h : c ∈ s) : ∃ a b, s = a ++ c :: b ∧ c ∉ a := by
  induction s with
  | nil => cases h
  | cons x r ih =>
    by_cases hx : x = c
    · exact ⟨[], r, by rw [hx]; rfl, by simp⟩
    · rcases List.mem_cons.1 h with h | h
      · exact absurd h.symm hx
      · obtain ⟨a, b, rfl, hb⟩ := ih h
        exact ⟨x :: a, b, rfl, by simp only [List.mem_cons, not_or]; exact ⟨fun e => hx e.symm, hb⟩⟩
theorem insLine_inv (s : Bs) (i : Ins) (h : insLine s = some i) : insBody i = s ∧ (-9223372036854775808 ≤ i.arg ∧ i.arg ≤ 9223372036854775807) := by
  unfold insLine at h
  simp only at h
  by_cases hm : 32 ∈ s
  · obtain ⟨a, b, rfl, ha⟩ := mem_split s 32 hm
    rw [cut_sp a b ha] at h
    simp only at h
    split at h
    · cases h
    · rename_i k kind hk
      obtain ⟨_, h1⟩ := findOp_inv a ops 0 k kind hk
      rw [Nat.sub_zero] at h1
      split at h
      · cases h
      · rename_i hk0
        rw [if_pos trivial] at h
        cases hi : intOf b with
        | none => rw [hi] at h; cases h
        | some n =>
          rw [hi] at h
          cases h
          obtain ⟨h2, h3⟩ := (intOf_iff b n).1 hi
          refine ⟨?_, h3⟩
          have ho : opOf (k : Int) = some (a, kind) := by unfold opOf; rw [if_pos (Int.natCast_nonneg k), Int.toNat_natCast, h1]
          unfold insBody
          rw [ho]
          simp only [hk0, if_false]
          rw [h2]
  · rw [cut_no s hm] at h
    simp only at h
    split at h
    · cases h
    · rename_i k kind hk
      obtain ⟨_, h1⟩ := findOp_inv s ops 0 k kind hk
      rw [Nat.sub_zero] at h1
      have ho : opOf (k : Int) = some (s, kind) := by unfold opOf; rw [if_pos (Int.natCast_nonneg k), Int.toNat_natCast, h1]
      split at h
      · rename_i hk0
        simp only [Bool.false_eq_true, if_false, Option.some.injEq] at h
        subst h
        refine ⟨?_, by simp only; omega⟩
        unfold insBody
        simp only
        rw [ho]
        simp only [hk0, if_true, List.append_nil]
      · simp at h
theorem lineOf_inv (l : Bs) (x : Line) (h : lineOf l = some x) : (match x with | .name n => nameBody n | .ins i => insBody i) = l ∧ (match x with | .name _ => True | .ins i => -9223372036854775808 ≤ i.arg ∧ i.arg ≤ 9223372036854775807) := by
  unfold lineOf at h
  split at h
  · rename_i hp
    cases hu : unhex (l.drop 5) with
    | none => rw [hu] at h; cases h
    | some n =>
      rw [hu] at h
      cases h
      refine ⟨?_, trivial⟩
      simp only
      unfold unhex at hu
      split at hu
      · rename_i m hm
        split at hu
        · cases hu
          have hx := unhexL_inv _ _ _ (Nat.le_refl _) hm
          unfold Lib.hasPrefix at hp
          obtain ⟨t, ht⟩ := List.isPrefixOf_iff_prefix.1 hp
          unfold nameBody
          rw [hx, ← ht]
          rfl
        · cases hu
      · cases hu
  · cases hi : insLine l with
    | none => rw [hi] at h; cases h
    | some i =>
      rw [hi] at h
      cases h
      exact insLine_inv l i hi
def Fine (ls : List Bs) (p q : Prg) : Prop := Wf q ∧ formed q = true ∧ text q = text p ++ (ls.map (· ++ [10])).flatten
theorem parse_late : ∀ (ls : List Bs) (i : Nat) (p q : Prg) (n : Int), parseLines ls i p true ≠ (q, n, 0)
  | [], i, p, q, n, h => by
    unfold parseLines finish at h
    rw [if_pos (by simp)] at h
    have := congrArg (fun x => x.2.2) h
    simp at this
  | l :: r, i, p, q, n, h => by
    rw [parseLines_cons] at h
    cases hl : lineOf l with
    | none =>
      rw [hl] at h
      have := congrArg (fun x => x.2.2) h
      simp at this
    | some x =>
      rw [hl] at h
      simp only at h
      rw [show lateOf true p x = true by cases x <;> rfl] at h
      exact parse_late r _ _ _ _ h
theorem parse_fine : ∀ (ls : List Bs) (i : Nat) (p q : Prg) (n : Int), Wf p → parseLines ls i p false = (q, n, 0) → Fine ls p q
  | [], i, p, q, n, hp, h => by
    unfold parseLines finish at h
    split at h
    · have := congrArg (fun x => x.2.2) h
      simp at this
    · rename_i hf
      obtain ⟨rfl, _⟩ := Prod.mk.inj h
      exact ⟨hp, by simpa using hf, by simp⟩
  | l :: r, i, p, q, n, hp, h => by
    rw [parseLines_cons] at h
    cases hl : lineOf l with
    | none =>
      rw [hl] at h
      have := congrArg (fun x => x.2.2) h
      simp at this
    | some x =>
      rw [hl] at h
      simp only at h
      obtain ⟨hb, hv⟩ := lineOf_inv l x hl
      cases hlt : lateOf false p x with
      | true => rw [hlt] at h; exact absurd h (parse_late r _ _ _ _)
      | false =>
        rw [hlt] at h
        cases x with
        | name m =>
          obtain ⟨a, b, c⟩ := parse_fine r (i + 1) (add p (.name m)) q n hp h
          refine ⟨a, b, ?_⟩
          have hc : p.code = [] := by simpa [lateOf] using hlt
          simp only at hb
          rw [c, ← hb]
          simp [text, add, hc, printName_eq]
        | ins j =>
          have hp2 : Wf (add p (.ins j)) := by
            intro k hk
            rcases List.mem_append.1 hk with hk | hk
            · exact hp k hk
            · rw [List.mem_singleton.1 hk]; exact hv
          obtain ⟨a, b, c⟩ := parse_fine r (i + 1) (add p (.ins j)) q n hp2 h
          refine ⟨a, b, ?_⟩
          simp only at hb
          rw [c, ← hb]
          simp [text, add, printIns_eq]
theorem lines_flat : ∀ (k : Nat) (s : Bs), s.length ≤ k → ((lines s).map (· ++ [10])).flatten = s ∨ ((lines s).map (· ++ [10])).flatten = s ++ [10]
  | _, [], _ => by rw [lines_nil]; exact Or.inl rfl
  | 0, a :: r, h => by simp at h
  | k + 1, a :: r, h => by
    obtain ⟨s, hs⟩ : ∃ s, s = a :: r := ⟨_, rfl⟩
    rw [← hs] at h ⊢
    by_cases hm : 10 ∈ s
    · obtain ⟨x, y, hxy, hx⟩ := mem_split s 10 hm
      rw [hxy, lines_split x y (fun z hz e => hx (e ▸ hz))]
      simp only [List.map_cons, List.flatten_cons, List.append_assoc, List.cons_append, List.nil_append]
      rcases lines_flat k y (by rw [hxy] at h; simp only [List.length_append, List.length_cons] at h; omega) with h | h
      · rw [h]; exact Or.inl rfl
      · rw [h]; exact Or.inr (by simp)
    · rw [lines_last s (by rw [hs]; simp) (fun z hz e => hm (e ▸ hz))]
      exact Or.inr (by simp)
/-- a text that is parsed is printed as it was -/
theorem print_parse (s : Bs) (q : Prg) (n : Int) (h : parse s = (q, n, 0)) : Wf q ∧ formed q = true ∧ (text q = s ∨ text q = s ++ [10]) := by
  unfold parse at h
  split at h
  · have := congrArg (fun x => x.2.2) h
    simp at this
  · obtain ⟨a, b, c⟩ := parse_fine (lines s) 1 nil q n (fun i hi => by cases hi) h
    refine ⟨a, b, ?_⟩
    rw [c]
    exact lines_flat _ s (Nat.le_refl _)
end CS
open Go.RowKit Go.Proofs.YtpapbigghiiolaaGreatDoorW.PrintWords PAll
theorem isB_of_own {w : World} {b : Nat} {v : Value} {l : CS.Bs} (h : w.ownsRow b 5 1 v l.length (Lib.byteCells l)) (hll : l.length ≤ 140737488355328) : ∃ A c, v = .slice A l.length c ∧ IsB w A c l := by
  have hR : (Kd.int .u8).R 5 w b (fun _ => True) v (ints l) := Kd.R_of_own (enc := Value.int .u8) (h1 := fun _ => rfl) (by rw [ints_length]; rw [bytes_nums] at h; exact h) (fun k hk => trivial)
  obtain ⟨A, c, rfl, hl, hr⟩ := Kd.R_reads hR
  rw [ints_length] at hl hr h ⊢
  exact ⟨A, c, rfl, hr, hl, hll⟩
theorem encode_len (p : CS.Prg) (hf : CS.formed p = true) (hw : Wf p) : (CS.encode p).1.length ≤ 10000 := by
  rw [CS.encode_eq p hf]
  unfold CS.formed at hf
  simp only [Bool.and_eq_true, decide_eq_true_eq] at hf
  have h0 := hf.1.1.1
  have h1 := hf.1.1.2
  have k1 := flat_len CS.encText 49 p.names (fun n hn => by
    have hk := List.all_eq_true.1 hf.1.2 n hn
    unfold CS.key at hk
    simp only [Bool.and_eq_true, decide_eq_true_eq] at hk
    have := CS.encText_len n (by omega)
    omega)
  have k2 := flat_len CS.encIns 18 p.code (fun i hi => CS.encIns_len i (by have := insOk_op (List.all_eq_true.1 hf.2 i hi); omega) (hw i hi).1 (hw i hi).2)
  have k3 := CS.encNum_len p.names.length (by omega)
  have k4 := CS.encNum_len p.code.length (by omega)
  unfold CS.encHead
  simp only [List.length_append]
  omega
end Go.Proofs.YtpapbigghiiolaaGreatDoor
