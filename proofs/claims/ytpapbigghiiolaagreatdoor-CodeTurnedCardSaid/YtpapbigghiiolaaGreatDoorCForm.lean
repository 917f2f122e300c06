/-
  letter.Key, (Program).below, code.Formed.
-/
import Derived.Test.YtpapbigghiiolaaGreatDoorCOper
import Derived.Deep.RegionHeld3
set_option linter.unusedVariables false
namespace Go.Proofs.YtpapbigghiiolaaGreatDoor
open Go.RowKit Go.Proofs.YtpapbigghiiolaaGreatDoorW.PrintWords

set_option maxRecDepth 100000 in
set_option maxHeartbeats 400000 in
theorem Key_any (s : ByteArray) (w : World) :
    Calls Tryz.prog 33 #[.string s] w fun e w' => e = .returned (.bool (CS.key s.data.toList)) ∧ w = w' := by
  have hsz : s.data.toList.length = s.size := by rw [Array.length_toList]; rfl
  have HS : Aside0 (CS.key s.data.toList = (!s.toList.isEmpty && decide ((s.size : Int) ≤ 40))) := by
    rw [ByteArray.toList_eq]
    refine ⟨?_⟩
    unfold CS.key
    rw [hsz, Bool.eq_iff_iff]
    simp only [Bool.and_eq_true, decide_eq_true_eq, Bool.not_eq_true', List.isEmpty_eq_false_iff]
    constructor
    · rintro ⟨h1, h2⟩
      exact ⟨fun e => by rw [e] at hsz; simp at hsz; omega, by omega⟩
    · rintro ⟨h1, h2⟩
      have := List.length_pos_iff.2 h1
      omega
  clear hsz
  go_enter Tryz.func33, Tryz.ntmps33
  go_wp2
  all_goals
    go_ret
    rw [HS.out]
    simp [*]

set_option maxRecDepth 100000 in
set_option maxHeartbeats 400000 in
theorem below_any (A0 A1 : Option Addr) (c0 c1 n0 n1 : Nat) (k : Int) (w : World) (h0 : n0 ≤ 1000) (h1 : n1 ≤ 1000):
    Calls Tryz.prog 34 #[.agg #[.slice A0 n0 c0, .slice A1 n1 c1], .int .i64 k] w fun e w' => e = .returned (.int .i64 (if k = 2 then 8 else if k = 3 then 4 else if k = 4 then (n1 : Int) + 1 else if k = 5 then (n0 : Int) else 1)) ∧ Below w.heap.size w w' := by
  by_cases e2 : k = 2
  · subst e2
    go_enter Tryz.func34, Tryz.ntmps34
    go_wp2
    go_ret
    exact ⟨rfl, below_alloc (Below.refl _ _) _⟩
  by_cases e3 : k = 3
  · subst e3
    go_enter Tryz.func34, Tryz.ntmps34
    go_wp2
    go_ret
    exact ⟨rfl, below_alloc (Below.refl _ _) _⟩
  by_cases e4 : k = 4
  · subst e4
    go_enter Tryz.func34, Tryz.ntmps34
    go_wp2
    go_ret
    exact ⟨rfl, below_alloc (Below.refl _ _) _⟩
  by_cases e5 : k = 5
  · subst e5
    go_enter Tryz.func34, Tryz.ntmps34
    go_wp2
    go_ret
    exact ⟨rfl, below_alloc (Below.refl _ _) _⟩
  rw [if_neg e2, if_neg e3, if_neg e4, if_neg e5]
  have b2 : (k == 2) = false := beq_eq_false_iff_ne.2 e2
  have b3 : (k == 3) = false := beq_eq_false_iff_ne.2 e3
  have b4 : (k == 4) = false := beq_eq_false_iff_ne.2 e4
  have b5 : (k == 5) = false := beq_eq_false_iff_ne.2 e5
  clear e2 e3 e4 e5
  go_enter Tryz.func34, Tryz.ntmps34
  go_wp2
  go_ret
  exact ⟨rfl, below_alloc (Below.refl _ _) _⟩

/-- a text as a list of bytes -/
def sb (l : CS.Bs) : ByteArray := ⟨l.toArray⟩
theorem sb_data (l : CS.Bs) : (sb l).data.toList = l := rfl
theorem sb_size (l : CS.Bs) : (sb l).size = l.length := by simp [sb, ByteArray.size]
theorem sb_of (s : ByteArray) : sb s.data.toList = s := rfl
def kStr : Kd CS.Bs := Kd.scalar (fun l => Value.string (sb l)) (fun _ => rfl)
def kIns : Kd CS.Ins := Kd.iso (Kd.pair (Kd.int .i64) (Kd.int .i64)) (fun x => (x.op, x.arg))
theorem kIns_K {w : World} {x : CS.Ins} {cs : List Value} : kIns.K w x cs ↔ cs = [.int .i64 x.op, .int .i64 x.arg] := by
  constructor
  · rintro ⟨c1, c2, rfl, rfl, rfl⟩
    rfl
  · rintro rfl
    exact ⟨[_], [_], rfl, rfl, rfl⟩
theorem kStr_at {w : World} {A : Option Addr} {n : Nat} {xs : List CS.Bs} (h : kStr.C w A n xs) (i : Nat) (h1 : i < n) : ∃ ad, A = some ad ∧ w.cell? (ad.add i) = some (.string (sb (xs.getD i []))) := by
  obtain ⟨ad, c, e, _, hK, hc⟩ := Kd.C_get h [] (i : Int) (by omega) (by omega)
  have hc' := hc 0 _ (by rw [show c = _ from hK]; rfl)
  refine ⟨ad, e, ?_⟩
  have hz : kStr.sz = 1 := rfl
  rw [hz] at hc'
  simpa using hc'
theorem kIns_at {w : World} {A : Option Addr} {n : Nat} {xs : List CS.Ins} (h : kIns.C w A n xs) (i : Nat) (h1 : i < n) : ∃ ad, A = some ad ∧ w.cell? (ad.add (i * 2)) = some (.int .i64 (xs.getD i ⟨0, 0⟩).op) ∧ w.cell? ⟨(ad.add (i * 2)).block, (ad.add (i * 2)).off + 1, none⟩ = some (.int .i64 (xs.getD i ⟨0, 0⟩).arg) := by
  obtain ⟨ad, c, e, _, hK, hc⟩ := Kd.C_get h ⟨0, 0⟩ (i : Int) (by omega) (by omega)
  have hc0 := hc 0 _ (by rw [kIns_K.1 hK]; rfl)
  have hc1 := hc 1 _ (by rw [kIns_K.1 hK]; rfl)
  have hz : kIns.sz = 2 := rfl
  rw [hz] at hc0 hc1
  refine ⟨ad, e, by simpa using hc0, ?_⟩
  rw [← add_field _ _ 1 (by omega)]
  simpa using hc1
/-- an argument of type Program -/
def IsP (w : World) (A0 : Option Addr) (c0 : Nat) (A1 : Option Addr) (c1 : Nat) (p : CS.Prg) : Prop :=
  kStr.C w A0 p.names.length p.names ∧ p.names.length ≤ c0 ∧ kIns.C w A1 p.code.length p.code ∧ p.code.length ≤ c1
def pv (A0 : Option Addr) (c0 : Nat) (A1 : Option Addr) (c1 : Nat) (p : CS.Prg) : Value := .agg #[.slice A0 p.names.length c0, .slice A1 p.code.length c1]
theorem IsP.below {w w1 : World} {A0 A1 : Option Addr} {c0 c1 : Nat} {p : CS.Prg} (h : IsP w A0 c0 A1 c1 p) (hb : Below w.heap.size w w1) : IsP w1 A0 c0 A1 c1 p :=
  ⟨Kd.C_below h.1 hb, h.2.1, Kd.C_below h.2.2.1 hb, h.2.2.2⟩

theorem all_snoc {α : Type} (f : α → Bool) (xs : List α) (d : α) (k : Nat) (hk : k < xs.length) : (xs.take (k + 1)).all f = ((xs.take k).all f && f (xs.getD k d)) := by
  rw [List.take_succ_eq_append_getElem hk, List.all_append, List.getD_eq_getElem?_getD, List.getElem?_eq_getElem hk]
  simp
theorem all_false {α : Type} (f : α → Bool) (xs : List α) (d : α) (k : Nat) (hk : k < xs.length) (h : f (xs.getD k d) = false) : xs.all f = false := by
  rw [← List.take_append_drop (k + 1) xs, List.all_append, all_snoc f xs d k hk, h]
  simp

theorem below_calls (A0 A1 : Option Addr) (c0 c1 : Nat) (p : CS.Prg) (k : Int) (w : World) (h0 : p.names.length ≤ 1000) (h1 : p.code.length ≤ 1000) :
    Calls Tryz.prog 34 #[.agg #[.slice A0 p.names.length c0, .slice A1 p.code.length c1], .int .i64 k] w fun e w' => e = .returned (.int .i64 (CS.below p k)) ∧ Below w.heap.size w w' :=
  below_any A0 A1 c0 c1 _ _ k w h0 h1

/-- the loop over the names is done: what is left to look at -/
def FormedPost (p : CS.Prg) (w : World) (e : Ending) (w' : World) : Prop := e = .returned (.bool (CS.formed p)) ∧ Below w.heap.size w w'

set_option maxRecDepth 100000 in
set_option maxHeartbeats 1000000 in
theorem Formed_any (A0 A1 : Option Addr) (c0 c1 : Nat) (p : CS.Prg) (w : World) (h : IsP w A0 c0 A1 c1 p) (hl0 : p.names.length ≤ 140737488355328) (hl1 : p.code.length ≤ 140737488355328) :
    Calls Tryz.prog 12 #[pv A0 c0 A1 c1 p] w (FormedPost p w) := by
  unfold pv
  by_cases h8 : 8 < p.names.length
  · have t8 : decide ((8 : Int) < (p.names.length : Int)) = true := decide_eq_true (by omega)
    have HF : Aside0 (CS.formed p = false) := ⟨by unfold CS.formed; rw [decide_eq_false (by omega)]; rfl⟩
    clear h8 h
    go_enter Tryz.func12, Tryz.ntmps12
    go_wp2
    go_ret
    exact ⟨by rw [HF.out]; rfl, below_alloc (Below.refl _ _) _⟩
  have t8 : decide ((8 : Int) < (p.names.length : Int)) = false := decide_eq_false (by omega)
  by_cases h200 : 200 < p.code.length
  · have t200 : decide ((200 : Int) < (p.code.length : Int)) = true := decide_eq_true (by omega)
    have HF : Aside0 (CS.formed p = false) := ⟨by unfold CS.formed; rw [decide_eq_false (show ¬ p.code.length ≤ 200 by omega), Bool.and_false]; rfl⟩
    clear h8 h h200
    go_enter Tryz.func12, Tryz.ntmps12
    go_wp2
    go_ret
    exact ⟨by rw [HF.out]; rfl, below_alloc (Below.refl _ _) _⟩
  have t200 : decide ((200 : Int) < (p.code.length : Int)) = false := decide_eq_false (by omega)
  have H := Aside0.mk h
  clear h
  have hn8 : p.names.length ≤ 8 := by omega
  have hc200 : p.code.length ≤ 200 := by omega
  clear h8 h200
  go_enter Tryz.func12, Tryz.ntmps12
  go_wp2_with (refine gate_ (.box 33 (.tmp 0)) rfl ?_; refine ev_box 33 (.tmp 0) rfl rfl (by go_simp; rfl) ?_; intro g hg w1 hb hbel; have HB := Aside0.mk hb; have HW := Aside0.mk hbel; have HG := Aside0.mk hg; have x0 := (blk_cell hb 0).trans rfl; have x1 := (blk_cell hb 1).trans rfl; clear hb hbel hg)
  go_loop [23] (fun v => ∃ k : Nat, v = .int .i64 k ∧ k ≤ p.names.length ∧ Aside0 ((p.names.take k).all CS.key = true)) (fun v => p.names.length - (intOf v).toNat)
  case atStart => exact ⟨0, rfl, Nat.zero_le _, ⟨rfl⟩⟩
  case round =>
    obtain ⟨k, rfl, hk, HK⟩ := hrel
    by_cases hlt : k < p.names.length
    · obtain ⟨ad, rfl, hcell⟩ := kStr_at (Kd.C_below H.out.1 HW.out) k hlt
      obtain ⟨nm, hnm⟩ : ∃ nm, nm = p.names.getD k [] := ⟨_, rfl⟩
      rw [← hnm] at hcell
      have HNM := Aside0.mk hnm
      clear hnm
      cases hkey : CS.key nm
      · have HKF := Aside0.mk hkey
        clear hkey
        go_wp2_with (go_at_call 33; refine (Key_any _ _).mono ?_; rw [sb_data, HKF.out]; rintro e w' ⟨rfl, rfl⟩)
        go_ret
        refine ⟨?_, HW.out⟩
        have : CS.formed p = false := by unfold CS.formed; rw [all_false CS.key p.names [] k hlt (by rw [← HNM.out]; exact HKF.out)]; simp
        rw [this]
        rfl
      · have HKF := Aside0.mk hkey
        clear hkey
        go_wp2_with (go_at_call 33; refine (Key_any _ _).mono ?_; rw [sb_data, HKF.out]; rintro e w' ⟨rfl, rfl⟩)
        go_round
        case rel => exact ⟨k + 1, by go_num, hlt, ⟨by rw [all_snoc CS.key p.names [] k hlt, HK.out, ← HNM.out, HKF.out]; rfl⟩⟩
        case measure => simp [intOf]; omega
    · have hk' : k = p.names.length := by omega
      have HN : Aside0 (p.names.all CS.key = true) := ⟨by have := HK.out; rw [hk', List.take_length] at this; exact this⟩
      have tk : decide ((k : Int) < (p.names.length : Int)) = false := decide_eq_false (by omega)
      clear hk' HK
      go_wp2
      go_loopw [34] (fun v wr => ∃ k : Nat, v = .int .i64 k ∧ k ≤ p.code.length ∧ Aside0 ((p.code.take k).all (CS.insOk p) = true) ∧ Aside0 (wr.heap[g]? = some (.cells #[.slice A0 p.names.length c0, .slice A1 p.code.length c1] 33 (0, 0))) ∧ Aside0 (Below w.heap.size w wr)) (fun v _ => p.code.length - (intOf v).toNat)
      case atStart => exact ⟨0, rfl, Nat.zero_le _, ⟨rfl⟩, HB, HW⟩
      case round =>
        obtain ⟨j, rfl, hj, HJ, HBr, HWr⟩ := hrel
        clear x0 x1
        have x0 := (blk_cell HBr.out 0).trans rfl
        have x1 := (blk_cell HBr.out 1).trans rfl
        by_cases hltj : j < p.code.length
        · obtain ⟨ad, rfl, hcell, hcell1⟩ := kIns_at (Kd.C_below H.out.2.2.1 HWr.out) j hltj
          obtain ⟨x, hx⟩ : ∃ x, x = p.code.getD j ⟨0, 0⟩ := ⟨_, rfl⟩
          rw [← hx] at hcell hcell1
          have HX := Aside0.mk hx
          clear hx
          have HLT := Aside0.mk hltj
          have tj : decide ((j : Int) < (p.code.length : Int)) = true := decide_eq_true (by omega)
          cases hop : CS.opOf x.op with
          | none =>
            have HR : Aside0 (opRes x.op = .tuple #[.string ⟨#[]⟩, .int .i64 0, .bool false]) := ⟨by unfold opRes; rw [hop]⟩
            have HF : Aside0 (CS.insOk p x = false) := ⟨by unfold CS.insOk; rw [hop]⟩
            clear hop
            go_wp2_with (go_at_call 15; refine (operation_any _ _).mono ?_; rw [HR.out]; rintro e w2 ⟨rfl, hb2⟩; have HB2 := Aside0.mk hb2; clear hb2)
            go_quiet (fail)
            go_wp2
            go_ret
            refine ⟨?_, pw_below_drewN (below_then (below_alloc HWr.out _) (by have := HWr.out.size; simp; omega) HB2.out) _⟩
            have : CS.formed p = false := by unfold CS.formed; rw [all_false (CS.insOk p) p.code ⟨0, 0⟩ j HLT.out (by rw [← HX.out]; exact HF.out)]; simp
            rw [this]
            rfl
          | some q =>
            obtain ⟨wd, kd⟩ := q
            have HR : Aside0 (opRes x.op = .tuple #[.string ⟨wd.toArray⟩, .int .i64 kd, .bool true]) := ⟨by unfold opRes; rw [hop]⟩
            have HOP := Aside0.mk hop
            clear hop
            go_wp2_with (go_at_call 15; refine (operation_any _ _).mono ?_; rw [HR.out]; rintro e w2 ⟨rfl, hb2⟩; have HB2 := Aside0.mk hb2; clear hb2)
            have hn2 := below_blk HB2.out (blk_new wr _)
            have hg2 := below_blk HB2.out (blk_alloc HBr.out _)
            have HB2' : Aside0 (Below w.heap.size w w2) := ⟨below_then (below_alloc HWr.out _) (by have := HWr.out.size; simp; omega) HB2.out⟩
            have y0 := (blk_cell hn2 0).trans rfl
            have y1 := (blk_cell hn2 1).trans rfl
            have z0 := (blk_cell hg2 0).trans rfl
            have z1 := (blk_cell hg2 1).trans rfl
            have HN2 := Aside0.mk hn2
            have HG2 := Aside0.mk hg2
            clear hn2 hg2 x0 x1 hcell hcell1
            by_cases hk1 : kd = 1
            · have HF : Aside0 (CS.insOk p x = true) := ⟨by unfold CS.insOk; rw [HOP.out]; simp [hk1]⟩
              have u1 : (kd != 1) = false := by simp [hk1]
              have u2 : (kd == 1) = true := by simp [hk1]
              clear hk1
              go_quiet (fail)
              go_wp2
              go_roundw
              case rel => exact ⟨j + 1, by go_num, hltj, ⟨by rw [all_snoc (CS.insOk p) p.code ⟨0, 0⟩ j HLT.out, HJ.out, ← HX.out, HF.out]; rfl⟩, HG2, ⟨pw_below_drewN HB2'.out _⟩⟩
              case measure => simp [intOf]; omega
            have u1 : (kd != 1) = true := by simp [hk1]
            have u2 : (kd == 1) = false := by simp [hk1]
            by_cases hneg : x.arg < 0
            · have HF : Aside0 (CS.insOk p x = false) := ⟨by unfold CS.insOk; rw [HOP.out]; simp [hk1]; intro h; omega⟩
              have u3 : decide (x.arg < 0) = true := decide_eq_true hneg
              clear hk1 hneg
              go_quiet (fail)
              go_wp2
              go_ret
              refine ⟨?_, pw_below_drewN HB2'.out _⟩
              have : CS.formed p = false := by unfold CS.formed; rw [all_false (CS.insOk p) p.code ⟨0, 0⟩ j HLT.out (by rw [← HX.out]; exact HF.out)]; simp
              rw [this]
              rfl
            have u3 : decide (x.arg < 0) = false := decide_eq_false hneg
            by_cases hbe : CS.below p kd ≤ x.arg
            · have HF : Aside0 (CS.insOk p x = false) := ⟨by unfold CS.insOk; rw [HOP.out]; simp [hk1]; intro h; omega⟩
              have u4 : decide (CS.below p kd ≤ x.arg) = true := decide_eq_true hbe
              clear hk1 hneg hbe
              go_region_held3 (fun w' => w'.cell? ⟨wr.heap.size, 1, none⟩ = some (.int .i64 x.arg) ∧ w'.cell? ⟨g, 0, none⟩ = some (.slice A0 p.names.length c0) ∧ w'.cell? ⟨g, 1, none⟩ = some (.slice (some ad) p.code.length c1)) (first | exact ⟨y1, z0, z1⟩ | exact ⟨(blk_cell (below_blk HB3.out (blk_drew HN2.out)) 1).trans rfl, (blk_cell (below_blk HB3.out (blk_drew HG2.out)) 0).trans rfl, (blk_cell (below_blk HB3.out (blk_drew HG2.out)) 1).trans rfl⟩) (first | (go_at_call 34; refine (below_calls _ _ _ _ p kd _ (by omega) (by omega)).mono ?_; rintro e w3 ⟨rfl, hb3⟩; have HB3 := Aside0.mk hb3; clear hb3))
              go_wp2
              go_ret
              refine ⟨?_, below_then (below_drew1 HB2'.out) HB2'.out.size HB3.out⟩
              have : CS.formed p = false := by unfold CS.formed; rw [all_false (CS.insOk p) p.code ⟨0, 0⟩ j HLT.out (by rw [← HX.out]; exact HF.out)]; simp
              rw [this]
              rfl
            · have HF : Aside0 (CS.insOk p x = true) := ⟨by unfold CS.insOk; rw [HOP.out]; simp [hk1]; omega⟩
              have u4 : decide (CS.below p kd ≤ x.arg) = false := decide_eq_false hbe
              clear hk1 hneg hbe
              go_region_held3 (fun w' => w'.cell? ⟨wr.heap.size, 1, none⟩ = some (.int .i64 x.arg) ∧ w'.cell? ⟨g, 0, none⟩ = some (.slice A0 p.names.length c0) ∧ w'.cell? ⟨g, 1, none⟩ = some (.slice (some ad) p.code.length c1)) (first | exact ⟨y1, z0, z1⟩ | exact ⟨(blk_cell (below_blk HB3.out (blk_drew HN2.out)) 1).trans rfl, (blk_cell (below_blk HB3.out (blk_drew HG2.out)) 0).trans rfl, (blk_cell (below_blk HB3.out (blk_drew HG2.out)) 1).trans rfl⟩) (first | (go_at_call 34; refine (below_calls _ _ _ _ p kd _ (by omega) (by omega)).mono ?_; rintro e w3 ⟨rfl, hb3⟩; have HB3 := Aside0.mk hb3; clear hb3))
              go_wp2
              go_roundw
              case rel => exact ⟨j + 1, by go_num, hltj, ⟨by rw [all_snoc (CS.insOk p) p.code ⟨0, 0⟩ j HLT.out, HJ.out, ← HX.out, HF.out]; rfl⟩, ⟨below_blk HB3.out (blk_drew HG2.out)⟩, ⟨below_then (below_drew1 HB2'.out) HB2'.out.size HB3.out⟩⟩
              case measure => simp [intOf]; omega
        · have tj : decide ((j : Int) < (p.code.length : Int)) = false := decide_eq_false (by omega)
          have HF : Aside0 (CS.formed p = true) := ⟨by
            have := HJ.out
            rw [show j = p.code.length by omega, List.take_length] at this
            unfold CS.formed
            rw [this, HN.out, decide_eq_true hn8, decide_eq_true hc200]
            rfl⟩
          go_wp2
          go_ret
          refine ⟨?_, HWr.out⟩
          rw [HF.out]
          rfl
end Go.Proofs.YtpapbigghiiolaaGreatDoor
