/-
  The law's Few, the document's Parse and Same: contracts over the spec.
-/
import Derived.Test.YtpapbigghiiolaaGreatDoorCRef
import Derived.Test.YtpapbigghiiolaaGreatDoorCParse
import Derived.Test.YtpapbigghiiolaaGreatDoorPA3
import Derived.Test.YtpapbigghiiolaaGreatDoorCOursW
set_option linter.unusedVariables false
namespace Go.Proofs.YtpapbigghiiolaaGreatDoor
open Go.RowKit Go.Proofs.YtpapbigghiiolaaGreatDoorW.PrintWords PAll


theorem C_map {α β : Type} {d : Kd α} {d' : Kd β} (f : α → β) (hs : d.sz = d'.sz) (h : ∀ w x cs, d.K w x cs → d'.K w (f x) cs) {w : World} {A : Option Addr} {n : Nat} {xs : List α} (hc : d.C w A n xs) : d'.C w A (xs.map f).length (xs.map f) := by
  refine ⟨rfl, by rw [List.length_map, hc.1]; exact hc.2.1, fun hn => ?_⟩
  obtain ⟨ad, e, hcell⟩ := hc.2.2 (by rw [List.length_map, hc.1] at hn; exact hn)
  refine ⟨ad, e, fun j p hj => ?_⟩
  rw [List.getElem?_map] at hj
  cases hx : xs[j]? with
  | none => rw [hx] at hj; cases hj
  | some x =>
    rw [hx] at hj
    cases hj
    obtain ⟨c, h1, h2, h3⟩ := hcell j x hx
    exact ⟨c, by rw [h1, hs], h w x c h2, fun i u hu => by rw [← hs]; exact h3 i u hu⟩
theorem C_unmap {α β : Type} {d : Kd α} {d' : Kd β} (f : α → β) (hs : d.sz = d'.sz) (h : ∀ w x cs, d'.K w (f x) cs → d.K w x cs) {w : World} {A : Option Addr} {n : Nat} {xs : List α} (hc : d'.C w A n (xs.map f)) : d.C w A n xs := by
  refine ⟨by rw [← hc.1, List.length_map], hc.2.1, fun hn => ?_⟩
  obtain ⟨ad, e, hcell⟩ := hc.2.2 hn
  refine ⟨ad, e, fun j p hj => ?_⟩
  obtain ⟨c, h1, h2, h3⟩ := hcell j (f p) (by rw [List.getElem?_map, hj]; rfl)
  exact ⟨c, by rw [h1, hs], h w p c h2, fun i u hu => by rw [hs]; exact h3 i u hu⟩

theorem C_str {w : World} {A : Option Addr} {n : Nat} {xs : List CS.Bs} (h : kStr.C w A n xs) : Kd.string.C w A (xs.map sb).length (xs.map sb) := C_map sb rfl (fun _ _ _ h => h) h
theorem C_66 {w : World} {A : Option Addr} {n : Nat} {xs : List CS.Ins} (h : kIns.C w A n xs) : k59.C w A (xs.map to66).length (xs.map to66) := C_map to66 rfl (fun _ _ _ h => h) h
theorem C_unstr {w : World} {A : Option Addr} {n : Nat} {xs : List CS.Bs} (h : Kd.string.C w A n (xs.map sb)) : kStr.C w A n xs := C_unmap sb rfl (fun _ _ _ h => h) h
theorem C_un66 {w : World} {A : Option Addr} {n : Nat} {xs : List CS.Ins} (h : k59.C w A n (xs.map to66)) : kIns.C w A n xs := C_unmap to66 rfl (fun _ _ _ h => h) h

theorem IsP_of_R66 {w : World} {b b' e e' : Nat} {ok ok' : Nat → Prop} {v0 v1 : Value} {p : CS.Prg} (h : Kd.string.R e w b ok v0 (p.names.map sb)) (h' : k59.R e' w b' ok' v1 (p.code.map to66)) : ∃ A0 c0 A1 c1, Value.agg #[v0, v1] = pv A0 c0 A1 c1 p ∧ IsP w A0 c0 A1 c1 p := by
  obtain ⟨A, c, rfl, hl, hc⟩ := Kd.R_reads h
  obtain ⟨A', c', rfl, hl', hc'⟩ := Kd.R_reads h'
  rw [List.length_map] at hl hl' hc hc'
  refine ⟨A, c, A', c', ?_, C_unstr hc, hl, C_un66 hc', hl'⟩
  rw [List.length_map, List.length_map]
  rfl
theorem pv_map {A0 A1 : Option Addr} {c0 c1 : Nat} {p : CS.Prg} {β : Type} (f : CS.Ins → β) : pv A0 c0 A1 c1 p = .agg #[.slice A0 (p.names.map sb).length c0, .slice A1 (p.code.map f).length c1] := by
  rw [List.length_map, List.length_map]
  rfl

theorem RefParse_any (s : ByteArray) (w : World) (hs : s.size ≤ 9223372036854775807) :
    Calls Tryz.prog 23 #[.string s] w (ParsePost s.data.toList w) := by
  obtain ⟨k, hk⟩ := (parse_eq s.data.toList (by rw [Array.length_toList]; exact hs)).rounds
  rw [sb_of] at hk
  refine (reeveref17_Parse.calls k s _ _ _ _ w hk).mono ?_
  rintro e w' ⟨v0, v1, rfl, h0, h1, hb⟩
  obtain ⟨A0, c0, A1, c1, he, hP⟩ := IsP_of_R66 h0 h1
  exact ⟨A0, c0, A1, c1, by rw [← he], hP, hb⟩

theorem Same_any (A0 A1 B0 B1 : Option Addr) (c0 c1 d0 d1 : Nat) (p q : CS.Prg) (w : World) (hp : IsP w A0 c0 A1 c1 p) (hq : IsP w B0 d0 B1 d1 q) (h0 : p.names.length ≤ 1000000000) (h1 : p.code.length ≤ 1000000000) :
    Calls Tryz.prog 24 #[pv A0 c0 A1 c1 p, pv B0 d0 B1 d1 q] w fun e w' => e = .returned (.bool (decide (p = q))) ∧ Below w.heap.size w w' := by
  obtain ⟨k, hk⟩ := (same_eq p q h0 h1).rounds
  rw [pv_map to66, pv_map to66]
  exact reeveref17_Same.calls k A0 c0 _ A1 c1 _ B0 d0 _ B1 d1 _ _ w (C_str hp.1) (by rw [List.length_map]; exact hp.2.1) (C_66 hp.2.2.1) (by rw [List.length_map]; exact hp.2.2.2) (C_str hq.1) (by rw [List.length_map]; exact hq.2.1) (C_66 hq.2.2.1) (by rw [List.length_map]; exact hq.2.2.2) hk

/-- of a size that is looked at -/
def few (p : CS.Prg) : Bool := decide (p.names.length ≤ 51) && p.names.all (fun n => decide (n.length ≤ 1000)) && decide (p.code.length ≤ 1000)
theorem few_step (ns : List CS.Bs) (cs : List CS.Ins) (j : Nat) (hj : j ≤ 51)
    (ih : ¬ 50 < j → j < ns.length → Ev (fun k => reevelaw17_Few.l0 k (ns.length : Int) ((j + 1 : Nat) : Int) (ns.map sb) (cs.map to66)) (decide (ns.length ≤ 51) && (ns.drop (j + 1)).all (fun n => decide (n.length ≤ 1000)) && decide (cs.length ≤ 1000))) :
    Ev (fun k => reevelaw17_Few.l0 k (ns.length : Int) (j : Int) (ns.map sb) (cs.map to66)) (decide (ns.length ≤ 51) && (ns.drop j).all (fun n => decide (n.length ≤ 1000)) && decide (cs.length ≤ 1000)) := by
  by_cases hlt : j < ns.length
  · have hbody : ∀ k, reevelaw17_Few.l0 (k + 1) (ns.length : Int) (j : Int) (ns.map sb) (cs.map to66) = if 1000 < (ns.getD j []).length then some false else if 50 < j then some false else reevelaw17_Few.l0 k (ns.length : Int) ((j + 1 : Nat) : Int) (ns.map sb) (cs.map to66) := by
      intro k
      simp only [reevelaw17_Few.l0, List.length_map]
      rw [if_pos (by omega), if_pos (by omega), if_pos (by omega), rd_names ns j hlt, sb_size, i64_small ((j : Int) + 1) (by omega) (by omega)]
      by_cases h1 : 1000 < (ns.getD j []).length
      · rw [if_pos h1, if_pos (by omega)]
      · rw [if_neg h1, if_neg (by omega)]
        by_cases h2 : 50 < j
        · rw [if_pos h2, if_pos (by omega)]
        · rw [if_neg h2, if_neg (by omega)]
          rfl
    rw [drop_all (fun n : CS.Bs => decide (n.length ≤ 1000)) ns [] j hlt]
    by_cases h1 : 1000 < (ns.getD j []).length
    · refine Ev.step (f := fun _ => some false) (fun k => by rw [hbody, if_pos h1]) (Ev.val (Ev.now _) ?_)
      rw [decide_eq_false (show ¬ (ns.getD j []).length ≤ 1000 by omega)]
      simp
    · by_cases h2 : 50 < j
      · refine Ev.step (f := fun _ => some false) (fun k => by rw [hbody, if_neg h1, if_pos h2]) (Ev.val (Ev.now _) ?_)
        rw [decide_eq_false (show ¬ ns.length ≤ 51 by omega)]
        simp
      · refine Ev.step (fun k => by rw [hbody, if_neg h1, if_neg h2]) (Ev.val (ih h2 hlt) ?_)
        rw [decide_eq_true (show (ns.getD j []).length ≤ 1000 by omega), Bool.true_and]
  · refine Ev.step (f := fun _ => some (decide (((cs.length : Nat) : Int) ≤ 1000))) (fun k => ?_) (Ev.val (Ev.now _) ?_)
    · simp only [reevelaw17_Few.l0, List.length_map]
      rw [if_neg (by omega)]
    · rw [List.drop_of_length_le (by omega), decide_eq_true (show ns.length ≤ 51 by omega)]
      simp only [List.all_nil, Bool.true_and]
      rw [Bool.eq_iff_iff]
      simp only [decide_eq_true_eq]
      omega
theorem few_loop (ns : List CS.Bs) (cs : List CS.Ins) : ∀ (d j : Nat), j + d = 51 →
    Ev (fun k => reevelaw17_Few.l0 k (ns.length : Int) (j : Int) (ns.map sb) (cs.map to66)) (decide (ns.length ≤ 51) && (ns.drop j).all (fun n => decide (n.length ≤ 1000)) && decide (cs.length ≤ 1000)) := by
  intro d
  induction d with
  | zero => intro j hj; exact few_step ns cs j (by omega) (fun h => absurd (show 50 < j by omega) h)
  | succ d ih => intro j hj; exact few_step ns cs j (by omega) (fun _ _ => ih (j + 1) (by omega))
theorem Few_any (A0 A1 : Option Addr) (c0 c1 : Nat) (p : CS.Prg) (w : World) (hp : IsP w A0 c0 A1 c1 p) :
    Calls Tryz.prog 5 #[pv A0 c0 A1 c1 p] w fun e w' => e = .returned (.bool (few p)) ∧ Below w.heap.size w w' := by
  have hev : Ev (fun k => reevelaw17_Few.f k (p.names.map sb) (p.code.map to66)) (few p) := by
    refine Ev.congr (fun k => ?_) (few_loop p.names p.code 51 0 rfl)
    unfold reevelaw17_Few.f
    rw [List.length_map]
    rfl
  obtain ⟨k, hk⟩ := hev.rounds
  rw [pv_map to66]
  exact reevelaw17_Few.calls k A0 c0 _ A1 c1 _ _ w (C_str hp.1) (by rw [List.length_map]; exact hp.2.1) (C_66 hp.2.2.1) (by rw [List.length_map]; exact hp.2.2.2) hk

theorem parse_small (l : CS.Bs) : (CS.parse l).1.names.length ≤ 8 ∧ (CS.parse l).1.code.length ≤ 200 := by
  have hfin : ∀ p late, (CS.finish p late).1.names.length ≤ 8 ∧ (CS.finish p late).1.code.length ≤ 200 := by
    intro p late
    unfold CS.finish
    split
    · exact ⟨by decide, by decide⟩
    · rename_i h
      simp only [Bool.or_eq_true, not_or, Bool.not_eq_true', Bool.not_eq_false] at h
      have hf := h.2
      unfold CS.formed at hf
      simp only [Bool.and_eq_true, decide_eq_true_eq] at hf
      exact ⟨hf.1.1.1, hf.1.1.2⟩
  have hpl : ∀ (ls : List CS.Bs) i p late, (CS.parseLines ls i p late).1.names.length ≤ 8 ∧ (CS.parseLines ls i p late).1.code.length ≤ 200 := by
    intro ls
    induction ls with
    | nil => intro i p late; exact hfin p late
    | cons l r ih =>
      intro i p late
      unfold CS.parseLines
      split
      · exact ⟨Nat.zero_le _, Nat.zero_le _⟩
      · exact ih _ _ _
  unfold CS.parse
  split
  · exact ⟨by decide, by decide⟩
  · exact hpl _ _ _ _
theorem RefWord_any (i : Int) (w : World) :
    Calls Tryz.prog 65 #[.int .i64 i] w fun e w' => e = .returned (.tuple #[.string (sb (wordOf i).1), .int .i64 (wordOf i).2]) ∧ Below w.heap.size w w' := by
  refine (reeveref17_word.calls i _ _ w (word_eq i)).mono ?_
  rintro e w' ⟨he, hd⟩
  exact ⟨he, hd.below⟩
theorem RefFormed_any (A0 A1 : Option Addr) (c0 c1 : Nat) (p : CS.Prg) (w : World) (hp : IsP w A0 c0 A1 c1 p) (h0 : p.names.length ≤ 1000000000) (h1 : p.code.length ≤ 1000000000) :
    Calls Tryz.prog 41 #[pv A0 c0 A1 c1 p] w fun e w' => e = .returned (.bool (CS.formed p)) ∧ Below w.heap.size w w' := by
  obtain ⟨k, hk⟩ := (formed_eq p h0 h1).rounds
  rw [pv_map to66]
  exact reeveref17_Formed.calls k A0 c0 _ A1 c1 _ _ w (C_str hp.1) (by rw [List.length_map]; exact hp.2.1) (C_66 hp.2.2.1) (by rw [List.length_map]; exact hp.2.2.2) hk
end Go.Proofs.YtpapbigghiiolaaGreatDoor
