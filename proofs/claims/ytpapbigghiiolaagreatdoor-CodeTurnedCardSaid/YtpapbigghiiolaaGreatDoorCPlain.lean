/-
  The plain laws of layer 17: what was printed is parsed as it was.
-/
import Derived.Test.YtpapbigghiiolaaGreatDoorCHex
import Derived.Test.YtpapbigghiiolaaGreatDoorCOurs
set_option linter.unusedVariables false
namespace Go.Proofs.YtpapbigghiiolaaGreatDoor
namespace CS

theorem hexv_hexd : ∀ x : Nat, x < 16 → hexv (hexd x) = some x := by decide
theorem hexd_nl : ∀ x : Nat, x < 16 → hexd x ≠ 10 := by decide
theorem unhexL_hex : ∀ n : Bs, unhexL (hex n) = some n
  | [] => rfl
  | b :: r => by
    have hb := b.toNat_lt
    simp only [hex, unhexL, hexv_hexd (b.toNat / 16) (by omega), hexv_hexd (b.toNat % 16) (by omega), unhexL_hex r]
    congr 2
    rw [show 16 * (b.toNat / 16) + b.toNat % 16 = b.toNat by omega, UInt8.ofNat_toNat]
theorem hex_nl : ∀ n : Bs, ∀ x ∈ hex n, x ≠ 10
  | [], x, h => by cases h
  | b :: r, x, h => by
    have hb := b.toNat_lt
    simp only [hex, List.mem_cons] at h
    rcases h with rfl | rfl | h
    · exact hexd_nl _ (by omega)
    · exact hexd_nl _ (by omega)
    · exact hex_nl r x h

def nameBody (n : Bs) : Bs := nameP ++ hex n
def insBody (i : Ins) : Bs := match opOf i.op with
  | none => []
  | some (w, k) => w ++ (if k = 0 then [] else 32 :: Lib.itoa i.arg)
theorem printName_eq (n : Bs) : printName n = nameBody n ++ [10] := rfl
theorem printIns_eq (i : Ins) : printIns i = insBody i ++ [10] := by
  unfold printIns insBody
  cases opOf i.op with
  | none => rfl
  | some q => rfl
theorem nameBody_nl (n : Bs) : ∀ x ∈ nameBody n, x ≠ 10 := by
  intro x hx
  rcases List.mem_append.1 hx with h | h
  · exact (by decide : ∀ x ∈ nameP, x ≠ 10) x h
  · exact hex_nl n x h
theorem itoa_nl (v : Int) : ∀ x ∈ Lib.itoa v, x ≠ 10 := by
  intro x hx
  have hd : ∀ u : Nat, ∀ x ∈ Lib.decDigits u, x ≠ 10 := by
    intro u x hx e
    have := decDigits_dig u x hx
    unfold isDig at this
    rw [e] at this
    exact absurd this.1 (by decide)
  by_cases hv : v < 0
  · obtain ⟨u, hu⟩ := Int.eq_ofNat_of_zero_le (show 0 ≤ -v by omega)
    obtain rfl : v = -(u : Int) := by omega
    rw [Lib.itoa_neg u (by omega)] at hx
    rcases List.mem_cons.1 hx with rfl | h
    · decide
    · exact hd u x h
  · obtain ⟨u, rfl⟩ := Int.eq_ofNat_of_zero_le (show 0 ≤ v by omega)
    rw [Lib.itoa_nonneg] at hx
    exact hd u x hx
theorem opOf_at (op : Int) (w : Bs) (k : Int) (h : opOf op = some (w, k)) : ∃ n : Nat, op = (n : Int) ∧ n < 24 ∧ ops[n]? = some (w, k) := by
  unfold opOf at h
  split at h
  · obtain ⟨n, rfl⟩ := Int.eq_ofNat_of_zero_le (by assumption)
    rw [Int.toNat_natCast] at h
    have := (List.getElem?_eq_some_iff.1 h).1
    exact ⟨n, rfl, this, h⟩
  · cases h
theorem insBody_nl (i : Ins) : ∀ x ∈ insBody i, x ≠ 10 := by
  intro x hx
  unfold insBody at hx
  cases ho : opOf i.op with
  | none => rw [ho] at hx; cases hx
  | some q =>
    obtain ⟨w, k⟩ := q
    rw [ho] at hx
    simp only at hx
    obtain ⟨n, _, hn, hat⟩ := opOf_at i.op w k ho
    have hw : ∀ x ∈ w, x ≠ 10 := (by decide : ∀ q ∈ ops, ∀ x ∈ q.1, x ≠ 10) (w, k) (List.mem_of_getElem? hat)
    rcases List.mem_append.1 hx with h | h
    · exact hw x h
    · split at h
      · cases h
      · rcases List.mem_cons.1 h with rfl | h
        · decide
        · exact itoa_nl i.arg x h
theorem lineOf_name (n : Bs) (h : key n = true) : lineOf (nameBody n) = some (.name n) := by
  have hp : Lib.hasPrefix (nameBody n) nameP = true := by unfold Lib.hasPrefix nameBody; simp
  unfold lineOf
  rw [if_pos hp]
  have : (nameBody n).drop 5 = hex n := rfl
  rw [this]
  unfold unhex
  rw [unhexL_hex]
  simp [h]
theorem op_facts : ∀ n : Nat, n < 24 → findOp (ops.getD n ([], 0)).1 ops 0 = some (n, (ops.getD n ([], 0)).2) ∧ 32 ∉ (ops.getD n ([], 0)).1 := by decide
theorem op_noName (rest : Bs) (n : Nat) (hn : n < 24) : Lib.hasPrefix ((ops.getD n ([], 0)).1 ++ rest) nameP = false := by
  have hd : n = 0 ∨ n = 1 ∨ n = 2 ∨ n = 3 ∨ n = 4 ∨ n = 5 ∨ n = 6 ∨ n = 7 ∨ n = 8 ∨ n = 9 ∨ n = 10 ∨ n = 11 ∨ n = 12 ∨ n = 13 ∨ n = 14 ∨ n = 15 ∨ n = 16 ∨ n = 17 ∨ n = 18 ∨ n = 19 ∨ n = 20 ∨ n = 21 ∨ n = 22 ∨ n = 23 := by omega
  rcases hd with rfl | rfl | rfl | rfl | rfl | rfl | rfl | rfl | rfl | rfl | rfl | rfl | rfl | rfl | rfl | rfl | rfl | rfl | rfl | rfl | rfl | rfl | rfl | rfl <;> rfl
theorem lineOf_ins (p : Prg) (i : Ins) (h : insOk p i = true) (h0 : -9223372036854775808 ≤ i.arg ∧ i.arg ≤ 9223372036854775807) : lineOf (insBody i) = some (.ins i) := by
  obtain ⟨op, arg⟩ := i
  unfold insOk at h
  cases ho : opOf op with
  | none => simp only at h; rw [ho] at h; cases h
  | some q =>
    obtain ⟨w, k⟩ := q
    simp only at h
    rw [ho] at h
    simp only at h
    obtain ⟨n, rfl, hn, hat⟩ := opOf_at op w k ho
    have hat' : ops.getD n ([], 0) = (w, k) := by rw [List.getD_eq_getElem?_getD, hat]; rfl
    obtain ⟨hf, hsp⟩ := op_facts n hn
    have hnp := op_noName (if k = 0 then [] else 32 :: Lib.itoa arg) n hn
    rw [hat'] at hf hsp hnp
    simp only at hf hsp hnp
    have hb : insBody ⟨(n : Int), arg⟩ = w ++ (if k = 0 then [] else 32 :: Lib.itoa arg) := by unfold insBody; rw [ho]
    rw [hb]
    unfold lineOf
    rw [hnp, if_neg (by decide)]
    unfold insLine
    by_cases hk : k = 0
    · subst hk
      simp only [if_true, List.append_nil]
      rw [cut_no w hsp]
      simp only
      rw [hf]
      simp only [Bool.or_eq_true, Bool.and_eq_true, beq_iff_eq, decide_eq_true_eq] at h
      have ha : arg = 0 := by
        rcases h with h | h
        · cases h
        · have : below p 0 = 1 := by unfold below; simp
          omega
      rw [ha]
      simp
    · rw [if_neg hk, cut_sp w _ hsp]
      simp only
      rw [hf]
      simp only [hk, if_false, if_true]
      rw [(intOf_iff (Lib.itoa arg) arg).2 ⟨rfl, h0.1, h0.2⟩]
      rfl

theorem lines_many : ∀ (bs : List Bs) (rest : Bs), (∀ b ∈ bs, ∀ x ∈ b, x ≠ 10) → lines ((bs.map (· ++ [10])).flatten ++ rest) = bs ++ lines rest
  | [], rest, _ => rfl
  | b :: r, rest, h => by
    have ih := lines_many r rest (fun x hx => h x (List.mem_cons_of_mem _ hx))
    simp only [List.map_cons, List.flatten_cons, List.append_assoc, List.cons_append, List.nil_append]
    rw [lines_split b _ (h b List.mem_cons_self), ih]
theorem text_eq (p : Prg) : text p = ((p.names.map nameBody ++ p.code.map insBody).map (· ++ [10])).flatten := by
  unfold text
  rw [List.map_append, List.flatten_append, List.map_map, List.map_map]
  congr 2
  exact List.map_congr_left (fun i _ => printIns_eq i)
theorem parse_names (R : List Bs) : ∀ (ns : List Bs) (i : Nat) (q : Prg), (∀ n ∈ ns, key n = true) → q.code = [] → parseLines (ns.map nameBody ++ R) i q false = parseLines R (i + ns.length) ⟨q.names ++ ns, q.code⟩ false
  | [], i, q, _, hc => by simp
  | n :: r, i, q, h, hc => by
    rw [List.map_cons, List.cons_append]
    rw [parseLines_cons, lineOf_name n (h n List.mem_cons_self)]
    simp only
    have hl : lateOf false q (.name n) = false := by unfold lateOf; rw [hc]; rfl
    rw [hl, parse_names R r (i + 1) (add q (.name n)) (fun x hx => h x (List.mem_cons_of_mem _ hx)) hc]
    simp [add, Nat.add_assoc, Nat.add_comm, Nat.add_left_comm]
theorem parse_codes (R : List Bs) (p : Prg) : ∀ (cs : List Ins) (i : Nat) (q : Prg), (∀ c ∈ cs, insOk p c = true ∧ -9223372036854775808 ≤ c.arg ∧ c.arg ≤ 9223372036854775807) → parseLines (cs.map insBody ++ R) i q false = parseLines R (i + cs.length) ⟨q.names, q.code ++ cs⟩ false
  | [], i, q, _ => by simp
  | c :: r, i, q, h => by
    have hc := h c List.mem_cons_self
    rw [List.map_cons, List.cons_append]
    rw [parseLines_cons, lineOf_ins p c hc.1 hc.2]
    simp only
    rw [show lateOf false q (.ins c) = false from rfl, parse_codes R p r (i + 1) (add q (.ins c)) (fun x hx => h x (List.mem_cons_of_mem _ hx))]
    simp [add, Nat.add_assoc, Nat.add_comm, Nat.add_left_comm]
theorem parse_text (p : Prg) (hf : formed p = true) (hw : Wf p) (R : List Bs) : parseLines (p.names.map nameBody ++ (p.code.map insBody ++ R)) 1 nil false = parseLines R (1 + p.names.length + p.code.length) p false := by
  unfold formed at hf
  simp only [Bool.and_eq_true] at hf
  rw [parse_names _ p.names 1 nil (fun n hn => List.all_eq_true.1 hf.1.2 n hn) rfl, parse_codes R p p.code _ _ (fun c hc => ⟨List.all_eq_true.1 hf.2 c hc, hw c hc⟩)]
  congr 1
theorem text_len (p : Prg) (hf : formed p = true) (hw : Wf p) : (text p).length ≤ 7000 := by
  unfold formed at hf
  simp only [Bool.and_eq_true, decide_eq_true_eq] at hf
  have h1 := flat_len printName 86 p.names (fun n hn => by
    have hk := List.all_eq_true.1 hf.1.2 n hn
    unfold key at hk
    simp only [Bool.and_eq_true, decide_eq_true_eq] at hk
    simp only [printName, nameP, List.length_append, hex_length, List.length_cons, List.length_nil]
    omega)
  have h2 := flat_len printIns 31 p.code (fun i hi => by
    have hv := itoa_len i.arg (hw i hi).1 (hw i hi).2
    unfold printIns
    cases ho : opOf i.op with
    | none => simp
    | some q =>
      obtain ⟨w, k⟩ := q
      have := opOf_len i.op w k ho
      simp only [List.length_append, List.length_cons, List.length_nil]
      split
      · simp; omega
      · simp only [List.length_cons]; omega)
  have := hf.1.1.1
  have := hf.1.1.2
  unfold text
  rw [List.length_append]
  omega
theorem lines_text (p : Prg) (rest : Bs) : lines (text p ++ rest) = p.names.map nameBody ++ (p.code.map insBody ++ lines rest) := by
  rw [text_eq, lines_many]
  · rw [List.append_assoc]
  · intro b hb
    rcases List.mem_append.1 hb with h | h
    · obtain ⟨n, _, rfl⟩ := List.mem_map.1 h
      exact nameBody_nl n
    · obtain ⟨i, _, rfl⟩ := List.mem_map.1 h
      exact insBody_nl i
/-- a line is wrong just if it is, alone -/
theorem parse_alone (l : Bs) (h : ∀ x ∈ l, x ≠ 10) (hl : l.length ≤ 1000) (p : Prg) (e : Int) (hp : parse (l ++ [10]) = (p, 1, e)) : lineOf l = none := by
  unfold parse at hp
  rw [if_neg (by rw [List.length_append, List.length_cons, List.length_nil]; omega), lines_split l [] h, lines_nil] at hp
  unfold parseLines at hp
  cases hlo : lineOf l with
  | none => rfl
  | some x =>
    exfalso
    rw [hlo] at hp
    simp only [parseLines, finish] at hp
    split at hp
    · have := congrArg (fun x => x.2.1) hp
      simp at this
    · have := congrArg (fun x => x.2.1) hp
      simp at this
/-- a text that is wrong in a line is told by that line -/
theorem parse_wrong (p : Prg) (hf : formed p = true) (hw : Wf p) (l b : Bs) (h : ∀ x ∈ l, x ≠ 10) (hl : l.length ≤ 1000) (hb : b.length ≤ 5000) (hlo : lineOf l = none) :
    parse (text p ++ l ++ [10] ++ b) = (nil, (p.names.length : Int) + (p.code.length : Int) + 1, 2) := by
  have ht := text_len p hf hw
  have e : text p ++ l ++ [10] ++ b = text p ++ (l ++ 10 :: b) := by simp
  rw [e]
  unfold parse
  rw [if_neg (by simp only [List.length_append, List.length_cons]; omega), lines_text, parse_text p hf hw, lines_split l b h]
  unfold parseLines
  rw [hlo]
  simp only [Prod.mk.injEq, and_true, true_and]
  omega
end CS
end Go.Proofs.YtpapbigghiiolaaGreatDoor
