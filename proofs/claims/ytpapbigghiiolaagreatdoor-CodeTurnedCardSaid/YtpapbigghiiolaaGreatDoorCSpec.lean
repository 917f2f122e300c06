/-
  Layer 17 on plain lists of bytes: what the program's package code and the document's package reeveref17 both come to; its plain lemmas; decimal numerals. No program in sight.
-/
import Derived.Lib.IndexMore
import Derived.Lib.ItoaNum
import Derived.Lib.ParseIntB
import Derived.Lib.Strings
import Derived.Lib.ParseIntBCases
import Derived.Lib.ItoaMem
namespace Go.Proofs.YtpapbigghiiolaaGreatDoor.CS

abbrev Bs := List UInt8

structure Ins where
  op : Int
  arg : Int
deriving DecidableEq

structure Prg where
  names : List Bs
  code : List Ins
deriving DecidableEq

def nil : Prg := ⟨[], []⟩

/-- the operations' words, and what the integer is: 0 none, 1 any, 2 a register, 3 an argument, 4 a place, 5 a name -/
def ops : List (Bs × Int) :=
  [([104, 97, 108, 116], 0), ([112, 117, 115, 104], 1), ([108, 111, 97, 100], 2), ([115, 116, 111, 114, 101], 2), ([97, 114, 103], 3), ([107, 105, 110, 100], 0), ([97, 100, 100], 0), ([115, 117, 98], 0), ([109, 117, 108], 0), ([108, 101, 115, 115], 0), ([101, 113, 117, 97, 108], 0), ([110, 111, 116], 0), ([100, 117, 112], 0), ([100, 114, 111, 112], 0), ([115, 119, 97, 112], 0), ([106, 117, 109, 112], 4), ([106, 117, 109, 112, 122], 4), ([115, 101, 110, 100], 5), ([114, 101, 112, 108, 121], 0), ([114, 101, 109, 105, 110, 100], 5), ([99, 97, 110, 99, 101, 108], 5), ([102, 97, 105, 108], 0), ([110, 111, 119], 0), ([115, 101, 114, 105, 97, 108], 0)]

def opOf (op : Int) : Option (Bs × Int) := if 0 ≤ op then ops[op.toNat]? else none

def key (s : Bs) : Bool := decide (1 ≤ s.length) && decide (s.length ≤ 40)

def below (p : Prg) (kind : Int) : Int :=
  if kind = 2 then 8 else if kind = 3 then 4 else if kind = 4 then (p.code.length : Int) + 1 else if kind = 5 then (p.names.length : Int) else 1

def insOk (p : Prg) (i : Ins) : Bool :=
  match opOf i.op with
  | none => false
  | some (_, k) => k == 1 || (decide (0 ≤ i.arg) && decide (i.arg < below p k))

def formed (p : Prg) : Bool := decide (p.names.length ≤ 8) && decide (p.code.length ≤ 200) && p.names.all key && p.code.all (insOk p)

/-- hexadecimal digits -/
def digits : Bs := [48, 49, 50, 51, 52, 53, 54, 55, 56, 57, 97, 98, 99, 100, 101, 102]
def hexd (n : Nat) : UInt8 := digits.getD n 0
def hex : Bs → Bs
  | [] => []
  | b :: r => hexd (b.toNat / 16) :: hexd (b.toNat % 16) :: hex r
def hexv (c : UInt8) : Option Nat := if 48 ≤ c.toNat ∧ c.toNat ≤ 57 then some (c.toNat - 48) else if 97 ≤ c.toNat ∧ c.toNat ≤ 102 then some (c.toNat - 87) else none
/-- the bytes of digits, two a byte; none: a digit is none, or one is left over -/
def unhexL : Bs → Option Bs
  | [] => some []
  | [_] => none
  | a :: b :: r => match hexv a, hexv b, unhexL r with
    | some x, some y, some l => some (UInt8.ofNat (16 * x + y) :: l)
    | _, _, _ => none
def unhex (s : Bs) : Option Bs := match unhexL s with
  | some l => if key l then some l else none
  | none => none

/-- an integer, as FormatInt writes it -/
def intOf (s : Bs) : Option Int := match Lib.parseIntB 64 s with
  | .ok v => if Lib.itoa v = s then some v else none
  | _ => none

def findOp (w : Bs) : List (Bs × Int) → Nat → Option (Nat × Int)
  | [], _ => none
  | x :: r, k => if x.1 = w then some (k, x.2) else findOp w r (k + 1)

def insLine (s : Bs) : Option Ins :=
  let c := Lib.cut s [32]
  match findOp c.1 ops 0 with
  | none => none
  | some (k, kind) => if kind = 0 then (if c.2.2 then none else some ⟨k, 0⟩) else if c.2.2 then (intOf c.2.1).map fun n => ⟨k, n⟩ else none

def nameP : Bs := [110, 97, 109, 101, 32]

inductive Line where
  | name (n : Bs)
  | ins (i : Ins)

def lineOf (s : Bs) : Option Line := if Lib.hasPrefix s nameP then (unhex (s.drop 5)).map .name else (insLine s).map .ins

def add (p : Prg) : Line → Prg
  | .name n => { p with names := p.names ++ [n] }
  | .ins i => { p with code := p.code ++ [i] }
def lateOf (late : Bool) (p : Prg) : Line → Bool
  | .name _ => late || !p.code.isEmpty
  | .ins _ => late

def finish (p : Prg) (late : Bool) : Prg × Int × Int := if late || !formed p then (nil, 0, 2) else (p, 0, 0)

/-- the lines from number i on, behind p -/
def parseLines : List Bs → Nat → Prg → Bool → Prg × Int × Int
  | [], _, p, late => finish p late
  | l :: r, i, p, late => match lineOf l with
    | none => (nil, i, 2)
    | some x => parseLines r (i + 1) (add p x) (lateOf late p x)

def headLine (s : Bs) : Bs := s.takeWhile (· != 10)
def tailLines (s : Bs) : Bs := (s.dropWhile (· != 10)).drop 1
theorem tailLines_lt (s : Bs) (h : s ≠ []) : (tailLines s).length < s.length := by
  unfold tailLines
  rw [List.length_drop]
  have h1 : (s.dropWhile (· != 10)).length ≤ s.length := (List.dropWhile_sublist _).length_le
  have : 0 < s.length := List.length_pos_iff.2 h
  omega
def lines (s : Bs) : List Bs := if h : s = [] then [] else headLine s :: lines (tailLines s)
termination_by s.length
decreasing_by exact tailLines_lt s h

def parse (s : Bs) : Prg × Int × Int := if s.length > 20000 then (nil, 0, 4) else parseLines (lines s) 1 nil false

def printIns (i : Ins) : Bs := match opOf i.op with
  | none => [10]
  | some (w, k) => w ++ (if k = 0 then [] else 32 :: Lib.itoa i.arg) ++ [10]
def printName (n : Bs) : Bs := nameP ++ hex n ++ [10]
def text (p : Prg) : Bs := (p.names.map printName).flatten ++ (p.code.map printIns).flatten
def print (p : Prg) : Bs × Int := if formed p then (text p, 0) else ([], 1)

/-! the codec of layer 1 -/
/-- k bytes of n, the greatest first -/
def big (n : Nat) : Nat → Bs
  | 0 => []
  | k + 1 => UInt8.ofNat (n / 256 ^ k) :: big n k
/-- how many bytes n takes, one at least -/
def nbytes (n : Nat) : Nat := if n < 256 then 1 else nbytes (n / 256) + 1
termination_by n
decreasing_by omega
def encNum (n : Nat) : Bs := if n < 248 then [UInt8.ofNat n] else UInt8.ofNat (247 + nbytes n) :: big n (nbytes n)
def zig (n : Int) : Nat := if 0 ≤ n then (2 * n).toNat else (2 * (-(n + 1)) + 1).toNat
def encInt (n : Int) : Bs := encNum (zig n)
def encText (s : Bs) : Bs := encNum s.length ++ s

/-- a reader: what is left; none: it is bad -/
abbrev Rd := Option Bs
def val (l : Bs) : Nat := l.foldl (fun a b => a * 256 + b.toNat) 0
def rdNum : Rd → Nat × Rd
  | none => (0, none)
  | some [] => (0, none)
  | some (f :: r) =>
    if f.toNat < 248 then (f.toNat, some r)
    else
      let k := f.toNat - 247
      if r.length < k then (0, none)
      else if val (r.take k) < 248 ∨ r.head? = some 0 then (0, none)
      else (val (r.take k), some (r.drop k))
def unzig (n : Nat) : Int := if n % 2 = 1 then -((n / 2 : Nat) : Int) - 1 else ((n / 2 : Nat) : Int)
def rdInt (r : Rd) : Int × Rd := let x := rdNum r; (unzig x.1, x.2)
def rdText (r : Rd) : Bs × Rd := match rdNum r with
  | (_, none) => ([], none)
  | (n, some l) => if l.length < n then ([], none) else (l.take n, some (l.drop n))

def encode (p : Prg) : Bs × Int :=
  if formed p then (encNum p.names.length ++ (p.names.map encText).flatten ++ encNum p.code.length ++ (p.code.map fun i => encNum i.op.toNat ++ encInt i.arg).flatten, 0) else ([], 1)

def rdNames : Nat → Rd → List Bs × Rd
  | 0, r => ([], r)
  | n + 1, r => let x := rdText r; let y := rdNames n x.2; (x.1 :: y.1, y.2)
def rdCode : Nat → Rd → List Ins × Rd
  | 0, r => ([], r)
  | n + 1, r => let o := rdNum r; let a := rdInt o.2; let y := rdCode n a.2; (⟨min o.1 200, a.1⟩ :: y.1, y.2)
def decode (b : Bs) : Prg × Int :=
  let n := rdNum (some b)
  if n.1 > 8 then (nil, 2) else
  let x := rdNames n.1 n.2
  let m := rdNum x.2
  if m.1 > 200 then (nil, 2) else
  let y := rdCode m.1 m.2
  let p : Prg := ⟨x.1, y.1⟩
  if y.2 = some [] ∧ formed p then (p, 0) else (nil, 2)

end Go.Proofs.YtpapbigghiiolaaGreatDoor.CS

/-
  Plain lemmas on the spec of layer 17.
-/
namespace Go.Proofs.YtpapbigghiiolaaGreatDoor.CS

theorem index_nl (l : Bs) : Lib.index l [10] = if 10 ∈ l then ((headLine l).length : Int) else -1 := by
  induction l with
  | nil => simp [Lib.index]
  | cons b r ih =>
    unfold Lib.index
    by_cases hb : b = 10
    · subst hb
      have : List.isPrefixOf [(10 : UInt8)] (10 :: r) = true := by simp
      rw [if_pos this]
      simp [headLine]
    · have h1 : List.isPrefixOf [(10 : UInt8)] (b :: r) = false := by
        cases h : List.isPrefixOf [(10 : UInt8)] (b :: r) with
        | false => rfl
        | true => exact absurd (by simpa using h : (10 : UInt8) = b).symm hb
      rw [h1, ih]
      by_cases hm : 10 ∈ r
      · have h2 : (10 : UInt8) ∈ b :: r := List.mem_cons_of_mem _ hm
        rw [if_pos hm, if_pos h2]
        have h3 : headLine (b :: r) = b :: headLine r := by
          unfold headLine
          rw [List.takeWhile_cons]
          simp [hb]
        rw [h3]
        simp
      · have h2 : ¬ (10 : UInt8) ∈ b :: r := by simp [hm]; exact fun h => hb h.symm
        rw [if_neg hm, if_neg h2]
        simp

theorem takeWhile_all (l : Bs) (h : ∀ x ∈ l, (x != 10) = true) : l.takeWhile (· != 10) = l := by
  induction l with
  | nil => rfl
  | cons a r ih => rw [List.takeWhile_cons, if_pos (h a List.mem_cons_self), ih (fun x hx => h x (List.mem_cons_of_mem _ hx))]
theorem dropWhile_all (l : Bs) (h : ∀ x ∈ l, (x != 10) = true) : l.dropWhile (· != 10) = [] := by
  induction l with
  | nil => rfl
  | cons a r ih => rw [List.dropWhile_cons, if_pos (h a List.mem_cons_self), ih (fun x hx => h x (List.mem_cons_of_mem _ hx))]
theorem takeWhile_eq_take (l : Bs) : headLine l = l.take (headLine l).length := by
  unfold headLine
  exact (List.prefix_iff_eq_take.1 (List.takeWhile_prefix _))
theorem dropWhile_eq_drop (l : Bs) : l.dropWhile (· != 10) = l.drop (headLine l).length := by
  have h := List.takeWhile_append_dropWhile (p := (· != (10 : UInt8))) (l := l)
  have : l.drop (headLine l).length = (l.takeWhile (· != 10) ++ l.dropWhile (· != 10)).drop (headLine l).length := by rw [h]
  rw [this]
  unfold headLine
  rw [List.drop_left']
  rfl

theorem cut_nl (l : Bs) : (Lib.cut l [10]).1 = headLine l ∧ (Lib.cut l [10]).2.1 = tailLines l := by
  unfold Lib.cut
  rw [index_nl]
  by_cases hm : 10 ∈ l
  · rw [if_pos hm, if_pos (Int.natCast_nonneg _)]
    simp only [Int.toNat_natCast, List.length_cons, List.length_nil]
    refine ⟨(takeWhile_eq_take l).symm, ?_⟩
    unfold tailLines
    rw [dropWhile_eq_drop, List.drop_drop]
  · rw [if_neg hm, if_neg (by decide)]
    have h : ∀ x ∈ l, (x != 10) = true := fun x hx => by
      simp only [bne_iff_ne, ne_eq]
      rintro rfl
      exact hm hx
    refine ⟨?_, ?_⟩
    · unfold headLine
      exact (takeWhile_all l h).symm
    · unfold tailLines
      rw [dropWhile_all l h]
      rfl

theorem headLine_le (l : Bs) : (headLine l).length ≤ l.length := (List.takeWhile_sublist _).length_le
theorem lines_cons (l : Bs) (h : l ≠ []) : lines l = headLine l :: lines (tailLines l) := by
  rw [lines]
  simp [h]
theorem lines_nil : lines [] = [] := by rw [lines]; simp
theorem parseLines_cons (x : Bs) (r : List Bs) (i : Nat) (p : Prg) (late : Bool) :
    parseLines (x :: r) i p late = match lineOf x with | none => (nil, (i : Int), 2) | some y => parseLines r (i + 1) (add p y) (lateOf late p y) := rfl
end Go.Proofs.YtpapbigghiiolaaGreatDoor.CS

/-
  Decimal numerals on lists of bytes: what strconv's ParseInt and FormatInt make of them, and the document's own reading.
-/
namespace Go.Proofs.YtpapbigghiiolaaGreatDoor.CS

def isDig (c : UInt8) : Prop := 48 ≤ c.toNat ∧ c.toNat ≤ 57
instance (c : UInt8) : Decidable (isDig c) := by unfold isDig; infer_instance
def num10 (acc : Nat) : Bs → Option Nat
  | [] => some acc
  | c :: r => if isDig c then num10 (acc * 10 + (c.toNat - 48)) r else none

theorem num10_append (l r : Bs) : ∀ acc, num10 acc (l ++ r) = (num10 acc l).bind fun a => num10 a r := by
  induction l with
  | nil => intro acc; rfl
  | cons c l ih =>
    intro acc
    simp only [List.cons_append, num10]
    split
    · exact ih _
    · rfl
theorem dig_of (k : Nat) (h : k < 10) : (UInt8.ofNat (48 + k)).toNat = 48 + k := by
  rw [UInt8.toNat_ofNat']
  omega
theorem num10_one (acc k : Nat) (h : k < 10) : num10 acc [UInt8.ofNat (48 + k)] = some (acc * 10 + k) := by
  simp only [num10, isDig, dig_of k h]
  rw [if_pos (by omega)]
  congr 1
  omega
theorem num10_decDigits (u : Nat) : num10 0 (Lib.decDigits u) = some u := by
  induction u using Nat.strongRecOn with
  | ind u ih =>
    rw [Lib.decDigits]
    split
    · rename_i h
      rw [num10_one 0 u h]
      simp
    · rename_i h
      rw [num10_append, ih (u / 10) (by omega)]
      simp only [Option.bind_some]
      rw [num10_one _ _ (Nat.mod_lt _ (by decide))]
      congr 1
      omega
theorem decDigits_ne (u : Nat) : Lib.decDigits u ≠ [] := by
  rw [Lib.decDigits]
  split <;> simp
theorem head_app (l r : Bs) (h : l ≠ []) : (l ++ r).head? = l.head? := by
  cases l with
  | nil => exact absurd rfl h
  | cons a l => rfl
theorem decDigits_zero : Lib.decDigits 0 = [48] := by rw [Lib.decDigits]; rfl
theorem decDigits_head (u : Nat) : (Lib.decDigits u).head? = some 48 → u = 0 := by
  induction u using Nat.strongRecOn with
  | ind u ih =>
    rw [Lib.decDigits]
    split
    · rename_i h
      intro he
      simp only [List.head?_cons, Option.some.injEq] at he
      have := congrArg UInt8.toNat he
      rw [dig_of u h] at this
      have h48 : (48 : UInt8).toNat = 48 := rfl
      omega
    · rename_i h
      intro he
      rw [head_app _ _ (decDigits_ne _)] at he
      have := ih (u / 10) (by omega) he
      omega
theorem decDigits_dig (u : Nat) : ∀ c ∈ Lib.decDigits u, isDig c := by
  induction u using Nat.strongRecOn with
  | ind u ih =>
    rw [Lib.decDigits]
    split
    · rename_i h
      intro c hc
      rw [List.mem_singleton.1 hc]
      unfold isDig
      rw [dig_of u h]
      omega
    · rename_i h
      intro c hc
      rcases List.mem_append.1 hc with hc | hc
      · exact ih _ (by omega) c hc
      · rw [List.mem_singleton.1 hc]
        unfold isDig
        rw [dig_of _ (Nat.mod_lt _ (by decide))]
        omega
/-- a numeral without needless noughts is its number's -/
theorem canon (n : Nat) : ∀ (k : Nat) (l : Bs), l.length = k → l ≠ [] → (1 < l.length → l.head? ≠ some 48) → ∀ n, num10 0 l = some n → l = Lib.decDigits n := by
  intro k
  induction k with
  | zero => intro l hl hne; exact absurd (List.eq_nil_of_length_eq_zero hl) hne
  | succ k ih =>
    intro l hl hne hh n hn
    obtain ⟨l', c, rfl⟩ : ∃ l' c, l = l' ++ [c] := ⟨l.dropLast, l.getLast hne, (List.dropLast_concat_getLast hne).symm⟩
    rw [num10_append] at hn
    cases hm : num10 0 l' with
    | none => rw [hm] at hn; cases hn
    | some m =>
      rw [hm] at hn
      simp only [Option.bind_some, num10] at hn
      split at hn
      · rename_i hd
        cases hn
        have hd' := hd
        unfold isDig at hd'
        have hc : c = UInt8.ofNat (48 + (c.toNat - 48)) := by
          rw [show 48 + (c.toNat - 48) = c.toNat by omega, UInt8.ofNat_toNat]
        have hlen : (l' ++ [c]).length = l'.length + 1 := by simp
        by_cases hl0 : l' = []
        · subst hl0
          simp only [num10, Option.some.injEq] at hm
          subst hm
          rw [Lib.decDigits, dif_pos (by omega)]
          simp only [List.nil_append, Nat.zero_mul, Nat.zero_add]
          rw [← hc]
        · have hlp : 0 < l'.length := List.length_pos_iff.2 hl0
          have hh2 : l'.head? ≠ some 48 := by
            have := hh (by omega)
            rwa [head_app _ _ hl0] at this
          have hl2 := ih l' (by omega) hl0 (fun _ => hh2) m hm
          have hm1 : m ≠ 0 := by
            rintro rfl
            apply hh2
            rw [hl2, decDigits_zero]
            rfl
          rw [Lib.decDigits, dif_neg (by omega)]
          have e1 : (m * 10 + (c.toNat - 48)) / 10 = m := by omega
          have e2 : (m * 10 + (c.toNat - 48)) % 10 = c.toNat - 48 := by omega
          rw [e1, e2, ← hl2, ← hc]
      · cases hn

/-- the document's Number -/
def numOf (l : Bs) : Option Nat :=
  if l = [] ∨ 1 < l.length ∧ l.head? = some 48 then none else
  match num10 0 l with
  | some n => if n < 18446744073709551616 then some n else none
  | none => none
theorem numOf_iff (l : Bs) (n : Nat) : numOf l = some n ↔ l = Lib.decDigits n ∧ n < 18446744073709551616 := by
  constructor
  · intro h
    unfold numOf at h
    split at h
    · cases h
    · rename_i hc
      cases hn : num10 0 l with
      | none => rw [hn] at h; cases h
      | some m =>
        rw [hn] at h
        simp only at h
        split at h
        · cases h
          rename_i hlt
          exact ⟨canon n l.length l rfl (fun e => hc (.inl e)) (fun h1 h2 => hc (.inr ⟨h1, h2⟩)) _ hn, hlt⟩
        · cases h
  · rintro ⟨rfl, hlt⟩
    unfold numOf
    rw [if_neg, num10_decDigits]
    · simp only
      rw [if_pos hlt]
    · rintro (h | ⟨h1, h2⟩)
      · exact decDigits_ne _ h
      · have := decDigits_head n h2
        subst this
        rw [Lib.decDigits] at h1
        simp at h1

theorem num10_mono (l : Bs) : ∀ acc n, num10 acc l = some n → acc ≤ n := by
  induction l with
  | nil => intro acc n h; cases h; exact Nat.le_refl _
  | cons c r ih =>
    intro acc n h
    simp only [num10] at h
    split at h
    · have := ih _ _ h; omega
    · cases h
theorem parseUint10_of (l : Bs) : ∀ acc n, num10 acc l = some n → n < 18446744073709551616 → Lib.parseUint10 acc l = .ok n := by
  induction l with
  | nil => intro acc n h _; cases h; rfl
  | cons c r ih =>
    intro acc n h hn
    simp only [num10] at h
    split at h
    · rename_i hd
      have hm := num10_mono _ _ _ h
      unfold Lib.parseUint10
      unfold isDig at hd
      rw [if_pos hd, if_neg (by omega), if_neg (by omega)]
      exact ih _ _ h hn
    · cases h

theorem parse_itoa (v : Int) (h0 : -9223372036854775808 ≤ v) (h1 : v ≤ 9223372036854775807) : Lib.parseIntB 64 (Lib.itoa v) = .ok v := by
  have e63 : (2 : Nat) ^ (64 - 1) = 9223372036854775808 := by decide
  have hp : ∀ u, u < 18446744073709551616 → Lib.parseUintB 64 (Lib.decDigits u) = .ok u := by
    intro u hu
    rw [Lib.parseUintB_64]
    unfold Lib.parseMag
    rw [if_neg (decDigits_ne u)]
    exact parseUint10_of _ 0 u (num10_decDigits u) hu
  by_cases hv : v < 0
  · obtain ⟨u, rfl⟩ : ∃ u : Nat, v = -(u : Int) := ⟨v.natAbs, by omega⟩
    rw [Lib.itoa_neg u (by omega), Lib.parseIntB_minus, hp u (by omega), e63]
    show (if 9223372036854775808 < u then Lib.NumEnd.range else Lib.NumEnd.ok (-(u : Int))) = _
    rw [if_neg (by omega)]
  · obtain ⟨u, rfl⟩ : ∃ u : Nat, v = (u : Int) := ⟨v.toNat, by omega⟩
    rw [Lib.itoa_nonneg]
    obtain ⟨c, r, hcr⟩ : ∃ c r, Lib.decDigits u = c :: r := by
      cases h : Lib.decDigits u with
      | nil => exact absurd h (decDigits_ne u)
      | cons c r => exact ⟨c, r, rfl⟩
    have hd := decDigits_dig u c (by rw [hcr]; exact List.mem_cons_self)
    unfold isDig at hd
    rw [hcr, Lib.parseIntB_plain 64 c r (by omega) (by omega), ← hcr, hp u (by omega), e63]
    show (if 9223372036854775808 ≤ u then Lib.NumEnd.range else Lib.NumEnd.ok (u : Int)) = _
    rw [if_neg (by omega)]

theorem parse_range (l : Bs) (v : Int) (h : Lib.parseIntB 64 l = .ok v) : -9223372036854775808 ≤ v ∧ v ≤ 9223372036854775807 := by
  unfold Lib.parseIntB at h
  cases l with
  | nil => cases h
  | cons c r =>
    simp only at h
    split at h
    · cases h
    · cases h
    · rename_i u hu
      split at h
      · cases h
      · rename_i h1
        split at h
        · cases h
        · rename_i h2
          cases h
          have e63 : (2 : Nat) ^ (64 - 1) = 9223372036854775808 := by decide
          rw [e63] at h1 h2
          split
          · rename_i hn
            have : ¬ 9223372036854775808 < u := fun h => h2 ⟨hn, h⟩
            omega
          · rename_i hn
            have : ¬ 9223372036854775808 ≤ u := fun h => h1 ⟨hn, h⟩
            omega
theorem intOf_iff (l : Bs) (v : Int) : intOf l = some v ↔ l = Lib.itoa v ∧ -9223372036854775808 ≤ v ∧ v ≤ 9223372036854775807 := by
  constructor
  · intro h
    unfold intOf at h
    split at h
    · rename_i x hx
      split at h
      · cases h
        rename_i he
        exact ⟨he.symm, parse_range l _ hx⟩
      · cases h
    · cases h
  · rintro ⟨rfl, h0, h1⟩
    unfold intOf
    rw [parse_itoa v h0 h1]
    simp

/-- the document's Int -/
def refInt (l : Bs) : Option Int :=
  match l with
  | 45 :: r => match numOf r with
    | some n => if n = 0 ∨ 9223372036854775808 < n then none else some (-(n : Int))
    | none => none
  | _ => match numOf l with
    | some n => if 9223372036854775807 < n then none else some (n : Int)
    | none => none
theorem refInt_neg (r : Bs) : refInt (45 :: r) = match numOf r with | some n => if n = 0 ∨ 9223372036854775808 < n then none else some (-(n : Int)) | none => none := rfl
theorem refInt_pos (l : Bs) (h : l.head? ≠ some 45) : refInt l = match numOf l with | some n => if 9223372036854775807 < n then none else some (n : Int) | none => none := by
  unfold refInt
  split
  · exact absurd rfl h
  · rfl
theorem refInt_eq (l : Bs) : refInt l = intOf l := by
  apply Option.ext
  intro v
  rw [intOf_iff]
  by_cases hh : l.head? = some 45
  · obtain ⟨r, rfl⟩ : ∃ r, l = 45 :: r := by
      cases l with
      | nil => cases hh
      | cons a r => cases hh; exact ⟨r, rfl⟩
    rw [refInt_neg]
    constructor
    · intro h
      cases hn : numOf r with
      | none => rw [hn] at h; cases h
      | some n =>
        rw [hn] at h
        simp only at h
        split at h
        · cases h
        · rename_i hc
          cases h
          obtain ⟨h1, h2⟩ := (numOf_iff r n).1 hn
          exact ⟨by rw [Lib.itoa_neg n (by omega), h1], by omega, by omega⟩
    · rintro ⟨h, h0, h1⟩
      have hv : v < 0 := by
        rcases Int.lt_or_le v 0 with h' | h'
        · exact h'
        · exfalso
          obtain ⟨u, rfl⟩ : ∃ u : Nat, v = (u : Int) := ⟨v.toNat, by omega⟩
          rw [Lib.itoa_nonneg] at h
          have := decDigits_dig u 45 (by rw [← h]; exact List.mem_cons_self)
          unfold isDig at this
          have e : (45 : UInt8).toNat = 45 := rfl
          omega
      obtain ⟨u, rfl⟩ : ∃ u : Nat, v = -(u : Int) := ⟨v.natAbs, by omega⟩
      rw [Lib.itoa_neg u (by omega)] at h
      injection h with _ h
      rw [(numOf_iff r u).2 ⟨h, by omega⟩]
      simp only
      rw [if_neg (by omega)]
  · rw [refInt_pos l hh]
    constructor
    · intro h
      cases hn : numOf l with
      | none => rw [hn] at h; cases h
      | some n =>
        rw [hn] at h
        simp only at h
        split at h
        · cases h
        · cases h
          obtain ⟨h1, h2⟩ := (numOf_iff l n).1 hn
          exact ⟨by rw [Lib.itoa_nonneg, h1], by omega, by omega⟩
    · rintro ⟨h, h0, h1⟩
      have hv : 0 ≤ v := by
        rcases Int.lt_or_le v 0 with h' | h'
        · exfalso
          obtain ⟨u, rfl⟩ : ∃ u : Nat, v = -(u : Int) := ⟨v.natAbs, by omega⟩
          rw [Lib.itoa_neg u (by omega)] at h
          rw [h] at hh
          exact hh rfl
        · exact h'
      obtain ⟨u, rfl⟩ : ∃ u : Nat, v = (u : Int) := ⟨v.toNat, by omega⟩
      rw [Lib.itoa_nonneg] at h
      rw [(numOf_iff l u).2 ⟨h, by omega⟩]
      simp only
      rw [if_neg (by omega)]
end Go.Proofs.YtpapbigghiiolaaGreatDoor.CS
