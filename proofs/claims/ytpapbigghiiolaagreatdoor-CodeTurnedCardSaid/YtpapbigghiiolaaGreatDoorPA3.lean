-- Written by the kit's print.py over this seat's translation, function by function; put together by regroup.py, a program of this session; no row of it is typed or changed by hand
import Derived.Test.YtpapbigghiiolaaGreatDoorPA0
import Derived.Test.YtpapbigghiiolaaGreatDoorPA1
import Derived.Test.YtpapbigghiiolaaGreatDoorPA2
namespace Go.Proofs.YtpapbigghiiolaaGreatDoor.PAll
open Go.RowKit Go.Proofs.YtpapbigghiiolaaGreatDoorW.PrintWords Go.Proofs.YtpapbigghiiolaaGreatDoorW.PrintLast Go.Proofs.YtpapbigghiiolaaGreatDoorW.PrintMore
attribute [local go_sem] max2_int min2_int max_two min_two max_three min_three max_four min_four   -- for this text's walks alone
set_option linter.unusedVariables false
set_option linter.unusedSimpArgs false

/-! ### reevelaw17_Few: function 5 -/
def reevelaw17_Few.l0 : Nat → Int → Int → List ByteArray → List (S59) → Option (Bool)
  | 0, _, _, _, _ => none
  | k + 1, x6, x7, x150000, x150001 => if x7 < x6 then (if 0 ≤ x7 then (if x7 < (x150000.length : Int) then (if ((rdOf ByteArray.empty x150000 x7).size : Int) > 1000 then (some false) else (if x7 > 50 then (some false) else (reevelaw17_Few.l0 k x6 (wrap64 (x7 + 1)) x150000 x150001))) else (none)) else (none)) else (some (decide ((x150001.length : Int) ≤ 1000)))
def reevelaw17_Few.f (k : Nat) (l0_0 : List ByteArray) (l0_1 : List (S59)) : Option (Bool) := reevelaw17_Few.l0 k (l0_0.length : Int) 0 l0_0 l0_1
theorem reevelaw17_Few.mono_l : ∀ k, (∀ y0 y1 y2 y3, LeO (reevelaw17_Few.l0 k y0 y1 y2 y3) (reevelaw17_Few.l0 (k + 1) y0 y1 y2 y3))
  | 0 => fun _ _ _ _ r h => by simp [reevelaw17_Few.l0] at h
  | k + 1 => by
    have ih0 := reevelaw17_Few.mono_l k
    · intro y0 y1 y2 y3
      unfold reevelaw17_Few.l0
      repeat' first
      | (with_reducible exact ih0 _ _ _ _)
      | (with_reducible exact LeO.refl _)
      | (with_reducible exact LeO.none _)
      | (with_reducible refine LeO.ite ?_ ?_)
      | (with_reducible refine LeO.bind ?_ (fun _ => ?_))
      | exact ih0 _ _ _ _
      | exact LeO.none _
      | refine LeO.ite ?_ ?_
      | refine LeO.bind ?_ (fun _ => ?_)
theorem reevelaw17_Few.mono : ∀ a0 a1 k, LeO (reevelaw17_Few.f k a0 a1) (reevelaw17_Few.f (k + 1) a0 a1) := by
  intro a0 a1 k
  have ih0 := reevelaw17_Few.mono_l k
  unfold reevelaw17_Few.f
  repeat' first
      | (with_reducible exact ih0 _ _ _ _)
      | (with_reducible exact LeO.refl _)
      | (with_reducible exact LeO.none _)
      | (with_reducible refine LeO.ite ?_ ?_)
      | (with_reducible refine LeO.bind ?_ (fun _ => ?_))
      | exact ih0 _ _ _ _
      | exact LeO.none _
      | refine LeO.ite ?_ ?_
      | refine LeO.bind ?_ (fun _ => ?_)
set_option maxHeartbeats 8000000 in
set_option maxRecDepth 100000 in
theorem reevelaw17_Few.calls (k : Nat) (A0_0 : Option Addr) (c0_0 : Nat) (l0_0 : List ByteArray) (A0_1 : Option Addr) (c0_1 : Nat) (l0_1 : List (S59)) (r : Bool) (w : World) (hr0_0 : Kd.C Kd.string w A0_0 l0_0.length l0_0) (hc0_0 : l0_0.length ≤ c0_0) (hr0_1 : Kd.C k59 w A0_1 l0_1.length l0_1) (hc0_1 : l0_1.length ≤ c0_1) (h : reevelaw17_Few.f k l0_0 l0_1 = some r) :
    Calls Tryz.prog 5 #[.agg #[.slice A0_0 l0_0.length c0_0, .slice A0_1 l0_1.length c0_1]] w fun e w' => e = .returned (.bool r) ∧ Below w.heap.size w w' := by
  have hu25 := Tryz.underlying25
  have HR0_0 := Aside0.mk hr0_0
  have HC0_0 := Aside0.mk hc0_0
  clear hr0_0 hc0_0
  have HR0_1 := Aside0.mk hr0_1
  have HC0_1 := Aside0.mk hc0_1
  clear hr0_1 hc0_1
  have HB := Aside0.mk (Below.refl w.heap.size w)
  have H : (reevelaw17_Few.l0 k (l0_0.length : Int) 0 l0_0 l0_1) = some r := h
  clear h
  have H' := Aside0.mk H
  clear H
  go_enter Tryz.func5, Tryz.ntmps5
  go_wp2_with (first | ((with_reducible refine gate_dst (N := 1) rfl ?_); refine box_event ?hg (N := 1) ?hd (cs := #[.slice A0_0 l0_0.length c0_0, .slice A0_1 l0_1.length c0_1]) (t := 25) ?hr ?_; (case hd => rfl); (case hg => rfl); (case hr => first | (go_simp; done) | (go_simp; rfl)); intro gb149 hg w2 hbox hb; have n0_ := Aside0.mk (below_step (by repeat (first | (with_reducible first | exact HB.out | apply below_alloc | apply pw_below_drewN | apply below_drew1) | exact HB.out)) hb); have n1_ := Aside0.mk (hbox); have n2_ := Aside0.mk ((by rw [hg]; exact (below_size (by repeat (first | (with_reducible first | exact HB.out | apply below_alloc | apply pw_below_drewN | apply below_drew1) | exact HB.out))) : w.heap.size ≤ gb149)); have n3_ := Aside0.mk ((by rw [hg]; exact (below_size (by repeat (first | (with_reducible first | exact HB.out | apply below_alloc | apply pw_below_drewN | apply below_drew1) | exact HB.out))) : w.heap.size ≤ gb149)); clear HB; have HB := n0_; have BK149 := n1_; have GW149 := n2_; have GE149 := n3_; clear n0_ n1_ n2_ n3_; clear hb hbox hg; have hcz3_0 : w2.cell? ⟨gb149, 0, none⟩ = some (.slice A0_0 l0_0.length c0_0) := (blk_cell BK149.out 0).trans rfl; have hcz3_1 : w2.cell? ⟨gb149, 1, none⟩ = some (.slice A0_1 l0_1.length c0_1) := (blk_cell BK149.out 1).trans rfl; have hfz3_0 := blk_frozen BK149.out 0; have hfz3_1 := blk_frozen BK149.out 1))
  go_loopg [7] k (fun kq v7 w' => ∃ (x7_1 : Int), v7 = .int .i64 x7_1 ∧ Aside0 (reevelaw17_Few.l0 kq (l0_0.length : Int) x7_1 l0_0 l0_1 = some r) ∧ Aside0 (kq ≤ k) ∧ Aside0 (w'.heap[gb149]? = some (.cells #[(.slice A0_0 l0_0.length c0_0), (.slice A0_1 l0_1.length c0_1)] 25 (0, 0))) ∧ Aside0 (Below w.heap.size w w'))
  case atStart => exact ⟨(0), (by first | rfl | (simp; done) | (simp [*]; done)), H', ⟨Nat.le_refl _⟩, ⟨by (with_reducible repeat (first | refine blk_drewN ?_ _ | refine blk_drew ?_ | refine blk_alloc ?_ _)); exact BK149.out⟩, ⟨by repeat (first | (with_reducible first | exact HB.out | apply below_alloc | apply pw_below_drewN | apply below_drew1 | refine below_set ?_ GE149.out) | exact HB.out)⟩⟩
  case round =>
    clear H'
    try clear p2
    try clear hcz3_0
    try clear hcz3_1
    try clear hfz3_0
    try clear hfz3_1
    obtain ⟨x7_1, rfl, HA, HK1, BK149, HB⟩ := hrel
    cases gk with
    | zero => exact absurd HA.out (by simp [reevelaw17_Few.l0])
    | succ k1 =>
      have H := HA.out
      clear HA
      simp only [reevelaw17_Few.l0] at H
      by_cases c4 : x7_1 < (l0_0.length : Int)
      · rw [if_pos c4] at H
        have c4b0 : decide (x7_1 < (l0_0.length : Int)) = true := decide_eq_true c4
        clear c4
        by_cases c5 : 0 ≤ x7_1
        · rw [if_pos c5] at H
          have c5b0 : decide (0 ≤ x7_1) = true := decide_eq_true c5
          clear c5
          by_cases c6 : x7_1 < (l0_0.length : Int)
          · rw [if_pos c6] at H
            have c6b0 : decide (x7_1 < (l0_0.length : Int)) = true := decide_eq_true c6
            clear c6
            by_cases c7 : ((rdOf ByteArray.empty l0_0 x7_1).size : Int) > 1000
            · rw [if_pos c7] at H
              have c7b0 : decide (1000 < ((rdOf ByteArray.empty l0_0 x7_1).size : Int)) = true := decide_eq_true c7
              have c7b1 : decide (1000 < (rdOf ByteArray.empty l0_0 x7_1).size) = true := decide_eq_true (by omega)
              clear c7
              obtain rfl := Option.some.inj H
              have hcz8_0 : wr.cell? ⟨gb149, 0, none⟩ = some (.slice A0_0 l0_0.length c0_0) := (blk_cell BK149.out 0).trans rfl
              have hcz8_1 : wr.cell? ⟨gb149, 1, none⟩ = some (.slice A0_1 l0_1.length c0_1) := (blk_cell BK149.out 1).trans rfl
              have hfz8_0 := blk_frozen BK149.out 0
              have hfz8_1 := blk_frozen BK149.out 1
              have p150 : 0 ≤ (x7_1 : Int) := of_decide_eq_true (by first | (with_reducible assumption) | assumption)
              have q150 : x7_1 < (l0_0.length : Int) := of_decide_eq_true (by first | (with_reducible assumption) | assumption)
              obtain ⟨ad150, e150, hx150_0⟩ := Kd.at_string HR0_0.out x7_1 p150 q150
              cases e150
              replace hx150_0 := (HB.out.cell (World.block_lt_of_cell? w _ hx150_0)).trans hx150_0
              replace p150 := eq_true p150
              replace q150 := eq_true q150
              go_wp2
              go_ret
              exact ⟨by first | rfl | (simp [errW_none, errW_some] <;> rfl) | (simp [*, errW_none, errW_some] <;> rfl), by repeat (first | (with_reducible first | exact HB.out | apply below_alloc | apply pw_below_drewN | apply below_drew1 | refine below_set ?_ GE149.out) | exact HB.out)⟩
            · rw [if_neg c7] at H
              have c7b0 : decide (1000 < ((rdOf ByteArray.empty l0_0 x7_1).size : Int)) = false := decide_eq_false c7
              have c7b1 : decide (1000 < (rdOf ByteArray.empty l0_0 x7_1).size) = false := decide_eq_false (by omega)
              clear c7
              by_cases c9 : x7_1 > 50
              · rw [if_pos c9] at H
                have c9b0 : decide (50 < x7_1) = true := decide_eq_true c9
                clear c9
                obtain rfl := Option.some.inj H
                have hcz10_0 : wr.cell? ⟨gb149, 0, none⟩ = some (.slice A0_0 l0_0.length c0_0) := (blk_cell BK149.out 0).trans rfl
                have hcz10_1 : wr.cell? ⟨gb149, 1, none⟩ = some (.slice A0_1 l0_1.length c0_1) := (blk_cell BK149.out 1).trans rfl
                have hfz10_0 := blk_frozen BK149.out 0
                have hfz10_1 := blk_frozen BK149.out 1
                have p150 : 0 ≤ (x7_1 : Int) := of_decide_eq_true (by first | (with_reducible assumption) | assumption)
                have q150 : x7_1 < (l0_0.length : Int) := of_decide_eq_true (by first | (with_reducible assumption) | assumption)
                obtain ⟨ad150, e150, hx150_0⟩ := Kd.at_string HR0_0.out x7_1 p150 q150
                cases e150
                replace hx150_0 := (HB.out.cell (World.block_lt_of_cell? w _ hx150_0)).trans hx150_0
                replace p150 := eq_true p150
                replace q150 := eq_true q150
                go_wp2
                go_ret
                exact ⟨by first | rfl | (simp [errW_none, errW_some] <;> rfl) | (simp [*, errW_none, errW_some] <;> rfl), by repeat (first | (with_reducible first | exact HB.out | apply below_alloc | apply pw_below_drewN | apply below_drew1 | refine below_set ?_ GE149.out) | exact HB.out)⟩
              · rw [if_neg c9] at H
                have c9b0 : decide (50 < x7_1) = false := decide_eq_false c9
                clear c9
                have H' := Aside0.mk H
                clear H
                have hcz11_0 : wr.cell? ⟨gb149, 0, none⟩ = some (.slice A0_0 l0_0.length c0_0) := (blk_cell BK149.out 0).trans rfl
                have hcz11_1 : wr.cell? ⟨gb149, 1, none⟩ = some (.slice A0_1 l0_1.length c0_1) := (blk_cell BK149.out 1).trans rfl
                have hfz11_0 := blk_frozen BK149.out 0
                have hfz11_1 := blk_frozen BK149.out 1
                have p150 : 0 ≤ (x7_1 : Int) := of_decide_eq_true (by first | (with_reducible assumption) | assumption)
                have q150 : x7_1 < (l0_0.length : Int) := of_decide_eq_true (by first | (with_reducible assumption) | assumption)
                obtain ⟨ad150, e150, hx150_0⟩ := Kd.at_string HR0_0.out x7_1 p150 q150
                cases e150
                replace hx150_0 := (HB.out.cell (World.block_lt_of_cell? w _ hx150_0)).trans hx150_0
                replace p150 := eq_true p150
                replace q150 := eq_true q150
                go_wp2
                go_roundg k1
                case measure => have := HK1.out; omega
                case rel => exact ⟨(wrap64 (x7_1 + 1)), (by first | rfl | (simp; done) | (simp [*]; done)), H', ⟨by have := HK1.out; omega⟩, ⟨by (with_reducible repeat (first | refine blk_drewN ?_ _ | refine blk_drew ?_ | refine blk_alloc ?_ _)); exact BK149.out⟩, ⟨by repeat (first | (with_reducible first | exact HB.out | apply below_alloc | apply pw_below_drewN | apply below_drew1 | refine below_set ?_ GE149.out) | exact HB.out)⟩⟩
          · rw [if_neg c6] at H
            exact absurd H (by simp)
        · rw [if_neg c5] at H
          exact absurd H (by simp)
      · rw [if_neg c4] at H
        have c4b0 : decide (x7_1 < (l0_0.length : Int)) = false := decide_eq_false c4
        clear c4
        obtain rfl := Option.some.inj H
        have hcz12_0 : wr.cell? ⟨gb149, 0, none⟩ = some (.slice A0_0 l0_0.length c0_0) := (blk_cell BK149.out 0).trans rfl
        have hcz12_1 : wr.cell? ⟨gb149, 1, none⟩ = some (.slice A0_1 l0_1.length c0_1) := (blk_cell BK149.out 1).trans rfl
        have hfz12_0 := blk_frozen BK149.out 0
        have hfz12_1 := blk_frozen BK149.out 1
        go_wp2
        go_ret
        exact ⟨by first | rfl | (simp [errW_none, errW_some] <;> rfl) | (simp [*, errW_none, errW_some] <;> rfl), by repeat (first | (with_reducible first | exact HB.out | apply below_alloc | apply pw_below_drewN | apply below_drew1 | refine below_set ?_ GE149.out) | exact HB.out)⟩


/-! ### reeveref17_Parse: function 23 -/
def reeveref17_Parse.l0 : Nat → Bool → List ByteArray → Int → Int → List ByteArray → List (S59) → Option (List ByteArray × (List (S59)) × Int × Int)
  | 0, _, _, _, _, _, _ => none
  | k + 1, x6, x7, x19, x20, x202000, x202001 => if x20 < x19 then (if 0 ≤ x20 then (if x20 < (x7.length : Int) then ((reeveref17_line.f k (rdOf ByteArray.empty x7 x20)).bind fun bt207 => (if bt207.2.2.2 = true then (if bt207.1 < 0 then (if x6 = true then (if x202000.length < 8796093022208 then (reeveref17_Parse.l0 k true x7 x19 (wrap64 (x20 + 1)) (x202000 ++ [bt207.2.2.1]) x202001) else (none)) else (if x202000.length < 8796093022208 then (reeveref17_Parse.l0 k (decide ((x202001.length : Int) > 0)) x7 x19 (wrap64 (x20 + 1)) (x202000 ++ [bt207.2.2.1]) x202001) else (none))) else (if x202001.length < 8796093022208 then (reeveref17_Parse.l0 k x6 x7 x19 (wrap64 (x20 + 1)) x202000 (x202001 ++ [(⟨bt207.1, bt207.2.1⟩ : S59)])) else (none))) else (some (([] : List ByteArray), ([] : List (S59)), wrap64 (x20 + 1), 2)))) else (none)) else (none)) else (if x6 = true then (some (([] : List ByteArray), ([] : List (S59)), 0, 2)) else ((reeveref17_Formed.f k x202000 x202001).bind fun t205 => (if t205 = true then (some (x202000, x202001, 0, 0)) else (some (([] : List ByteArray), ([] : List (S59)), 0, 2)))))
def reeveref17_Parse.f (k : Nat) (a0 : ByteArray) : Option (List ByteArray × (List (S59)) × Int × Int) := if (a0.size : Int) > 20000 then (some (([] : List ByteArray), ([] : List (S59)), 0, 4)) else ((reeveref17_Lines.f k a0).bind fun t202 => (reeveref17_Parse.l0 k false t202 (t202.length : Int) 0 ([] : List ByteArray) ([] : List (S59))))
theorem reeveref17_Parse.mono_l : ∀ k, (∀ y0 y1 y2 y3 y4 y5, LeO (reeveref17_Parse.l0 k y0 y1 y2 y3 y4 y5) (reeveref17_Parse.l0 (k + 1) y0 y1 y2 y3 y4 y5))
  | 0 => fun _ _ _ _ _ _ r h => by simp [reeveref17_Parse.l0] at h
  | k + 1 => by
    have ih0 := reeveref17_Parse.mono_l k
    · intro y0 y1 y2 y3 y4 y5
      unfold reeveref17_Parse.l0
      repeat' first
      | (with_reducible exact ih0 _ _ _ _ _ _)
      | (with_reducible exact reeveref17_Formed.mono _ _ _)
      | (with_reducible exact reeveref17_Lines.mono _ _)
      | (with_reducible exact reeveref17_line.mono _ _)
      | (with_reducible exact LeO.refl _)
      | (with_reducible exact LeO.none _)
      | (with_reducible refine LeO.ite ?_ ?_)
      | (with_reducible refine LeO.bind ?_ (fun _ => ?_))
      | exact ih0 _ _ _ _ _ _
      | exact reeveref17_Formed.mono _ _ _
      | exact reeveref17_Lines.mono _ _
      | exact reeveref17_line.mono _ _
      | exact LeO.none _
      | refine LeO.ite ?_ ?_
      | refine LeO.bind ?_ (fun _ => ?_)
theorem reeveref17_Parse.mono : ∀ a0 k, LeO (reeveref17_Parse.f k a0) (reeveref17_Parse.f (k + 1) a0) := by
  intro a0 k
  have ih0 := reeveref17_Parse.mono_l k
  unfold reeveref17_Parse.f
  repeat' first
      | (with_reducible exact ih0 _ _ _ _ _ _)
      | (with_reducible exact reeveref17_Formed.mono _ _ _)
      | (with_reducible exact reeveref17_Lines.mono _ _)
      | (with_reducible exact reeveref17_line.mono _ _)
      | (with_reducible exact LeO.refl _)
      | (with_reducible exact LeO.none _)
      | (with_reducible refine LeO.ite ?_ ?_)
      | (with_reducible refine LeO.bind ?_ (fun _ => ?_))
      | exact ih0 _ _ _ _ _ _
      | exact reeveref17_Formed.mono _ _ _
      | exact reeveref17_Lines.mono _ _
      | exact reeveref17_line.mono _ _
      | exact LeO.none _
      | refine LeO.ite ?_ ?_
      | refine LeO.bind ?_ (fun _ => ?_)
set_option maxHeartbeats 8000000 in
set_option maxRecDepth 100000 in
theorem reeveref17_Parse.calls (k : Nat) (a0 : ByteArray) (r1 : List ByteArray) (r2 : List (S59)) (r3 : Int) (r4 : Int) (w : World) (h : reeveref17_Parse.f k a0 = some (r1, r2, r3, r4)) :
    Calls Tryz.prog 23 #[.string a0] w fun e w' => ∃ v0_ v1_ : Value, e = .returned (.tuple #[.agg #[v0_, v1_], .int .i64 r3, .int .i64 r4]) ∧ Kd.R Kd.string 9 w' w.heap.size (fun _ => True) v0_ r1 ∧ Kd.R k59 59 w' w.heap.size (fun _ => True) v1_ r2 ∧ Below w.heap.size w w' := by
  have hu25 := Tryz.underlying25
  have hu59 := Tryz.underlying59
  have HB := Aside0.mk (Below.refl w.heap.size w)
  have H : (if (a0.size : Int) > 20000 then (some (([] : List ByteArray), ([] : List (S59)), 0, 4)) else ((reeveref17_Lines.f k a0).bind fun t202 => (reeveref17_Parse.l0 k false t202 (t202.length : Int) 0 ([] : List ByteArray) ([] : List (S59))))) = some (r1, r2, r3, r4) := h
  clear h
  by_cases c2 : (a0.size : Int) > 20000
  · rw [if_pos c2] at H
    have c2b0 : decide (20000 < (a0.size : Int)) = true := decide_eq_true c2
    have c2b1 : decide (20000 < a0.size) = true := decide_eq_true (by omega)
    clear c2
    simp only [Option.some.injEq, Prod.mk.injEq] at H
    obtain ⟨rfl, rfl, rfl, rfl⟩ := H
    go_enter Tryz.func23, Tryz.ntmps23
    go_wp2_with (first | ((with_reducible refine gate_dst (N := 2) rfl ?_); (try (refine gate_guard (by rfl) ?_; dsimp only)); refine box_event ?hg (N := 2) ?hd (cs := #[.slice none 0 0, .slice none 0 0]) (t := 25) ?hr ?_; (case hd => rfl); (case hg => rfl); (case hr => first | (go_simp; done) | (go_simp; rfl)); intro gb200 hg w3 hbox hb; have n0_ := Aside0.mk (below_step (by repeat (first | (with_reducible first | exact HB.out | apply below_alloc | apply pw_below_drewN | apply below_drew1) | exact HB.out)) hb); have n1_ := Aside0.mk (hbox); have n2_ := Aside0.mk ((by rw [hg]; exact (below_size (by repeat (first | (with_reducible first | exact HB.out | apply below_alloc | apply pw_below_drewN | apply below_drew1) | exact HB.out))) : w.heap.size ≤ gb200)); have n3_ := Aside0.mk ((by rw [hg]; exact (below_size (by repeat (first | (with_reducible first | exact HB.out | apply below_alloc | apply pw_below_drewN | apply below_drew1) | exact HB.out))) : w.heap.size ≤ gb200)); clear HB; have HB := n0_; have BK200 := n1_; have GW200 := n2_; have GE200 := n3_; clear n0_ n1_ n2_ n3_; clear hb hbox hg; have hcz4_0 : w3.cell? ⟨gb200, 0, none⟩ = some (.slice none 0 0) := (blk_cell BK200.out 0).trans rfl; have hcz4_1 : w3.cell? ⟨gb200, 1, none⟩ = some (.slice none 0 0) := (blk_cell BK200.out 1).trans rfl; have hfz4_0 := blk_frozen BK200.out 0; have hfz4_1 := blk_frozen BK200.out 1))
    refine bodyPost_ret (results_ctt rfl _ _ gb200 25 #[.slice none 0 0, .slice none 0 0] (0, 0) _ rfl (by (with_reducible repeat (first | refine blk_drewN ?_ _ | refine blk_drew ?_ | refine blk_alloc ?_ _)); refine blk_put (cs := #[.slice none 0 0, .slice none 0 0]) ?_ 1 _ rfl; (with_reducible repeat (first | refine blk_drewN ?_ _ | refine blk_drew ?_ | refine blk_alloc ?_ _)); refine blk_put (cs := #[.slice none 0 0, .slice none 0 0]) ?_ 0 _ rfl; (with_reducible repeat (first | refine blk_drewN ?_ _ | refine blk_drew ?_ | refine blk_alloc ?_ _)); exact BK200.out) Tryz.underlying25 rfl (by kernel_rfl)) rfl ?_
    exact ⟨_, _, by first | rfl | (simp [errW_none, errW_some] <;> rfl) | (simp [*, errW_none, errW_some] <;> rfl), by first | exact Kd.R_nil _ _ _ _ _ | exact Kd.N_nil _ _ _ _ _ | exact Kd.V_nil _ _ _ _ _ | exact Kd.Q_nil _ _ _ _ _ | exact Kd.S_nil _ _ _ _ _, by first | exact Kd.R_nil _ _ _ _ _ | exact Kd.N_nil _ _ _ _ _ | exact Kd.V_nil _ _ _ _ _ | exact Kd.Q_nil _ _ _ _ _ | exact Kd.S_nil _ _ _ _ _, by repeat (first | (with_reducible first | exact HB.out | apply below_alloc | apply pw_below_drewN | apply below_drew1 | refine below_set ?_ GE200.out) | exact HB.out)⟩
  · rw [if_neg c2] at H
    have c2b0 : decide (20000 < (a0.size : Int)) = false := decide_eq_false c2
    have c2b1 : decide (20000 < a0.size) = false := decide_eq_false (by omega)
    clear c2
    replace H := Option.bind_eq_some_iff.mp H
    obtain ⟨t202, A50, H⟩ := H
    replace H : (reeveref17_Parse.l0 k false t202 (t202.length : Int) 0 ([] : List ByteArray) ([] : List (S59))) = some (r1, r2, r3, r4) := H
    have A5 := Aside0.mk A50
    clear A50
    have H' := Aside0.mk H
    clear H
    go_enter Tryz.func23, Tryz.ntmps23
    go_wp2_with (first | ((with_reducible refine gate_dst (N := 2) rfl ?_); (try (refine gate_guard (by rfl) ?_; dsimp only)); refine box_event ?hg (N := 2) ?hd (cs := #[.slice none 0 0, .slice none 0 0]) (t := 25) ?hr ?_; (case hd => rfl); (case hg => rfl); (case hr => first | (go_simp; done) | (go_simp; rfl)); intro gb200 hg w6 hbox hb; have n0_ := Aside0.mk (below_step (by repeat (first | (with_reducible first | exact HB.out | apply below_alloc | apply pw_below_drewN | apply below_drew1) | exact HB.out)) hb); have n1_ := Aside0.mk (hbox); have n2_ := Aside0.mk ((by rw [hg]; exact (below_size (by repeat (first | (with_reducible first | exact HB.out | apply below_alloc | apply pw_below_drewN | apply below_drew1) | exact HB.out))) : w.heap.size ≤ gb200)); have n3_ := Aside0.mk ((by rw [hg]; exact (below_size (by repeat (first | (with_reducible first | exact HB.out | apply below_alloc | apply pw_below_drewN | apply below_drew1) | exact HB.out))) : w.heap.size ≤ gb200)); clear HB; have HB := n0_; have BK200 := n1_; have GW200 := n2_; have GE200 := n3_; clear n0_ n1_ n2_ n3_; clear hb hbox hg) | ((with_reducible refine gate_dst (N := 5) rfl ?_); (try (refine gate_guard (by rfl) ?_; dsimp only)); refine box_event ?hg (N := 5) ?hd (cs := #[.slice none 0 0, .slice none 0 0]) (t := 25) ?hr ?_; (case hd => rfl); (case hg => rfl); (case hr => first | (go_simp; done) | (go_simp; rfl)); intro gb201 hg w7 hbox hb; have n0_ := Aside0.mk (blk_below (g := gb200) (o := .cells #[.slice none 0 0, .slice none 0 0] 25 (0, 0)) (by (with_reducible repeat (first | refine blk_drewN ?_ _ | refine blk_drew ?_ | refine blk_alloc ?_ _)); exact BK200.out) hb); have n1_ := Aside0.mk (below_step (by repeat (first | (with_reducible first | exact HB.out | apply below_alloc | apply pw_below_drewN | apply below_drew1 | refine below_set ?_ GE200.out) | exact HB.out)) hb); have n2_ := Aside0.mk (hbox); have n3_ := Aside0.mk ((by rw [hg]; exact (below_size (by repeat (first | (with_reducible first | exact HB.out | apply below_alloc | apply pw_below_drewN | apply below_drew1 | refine below_set ?_ GE200.out) | exact HB.out))) : w.heap.size ≤ gb201)); have n4_ := Aside0.mk ((by rw [hg]; exact (below_size (by repeat (first | (with_reducible first | exact HB.out | apply below_alloc | apply pw_below_drewN | apply below_drew1 | refine below_set ?_ GE200.out) | exact HB.out))) : w.heap.size ≤ gb201)); have n5_ := Aside0.mk ((by rw [hg]; exact Nat.ne_of_lt (blk_lt (g := gb200) (o := .cells #[.slice none 0 0, .slice none 0 0] 25 (0, 0)) (by (with_reducible repeat (first | refine blk_drewN ?_ _ | refine blk_drew ?_ | refine blk_alloc ?_ _)); exact BK200.out)) : gb200 ≠ gb201)); have n6_ := Aside0.mk ((by rw [hg]; exact Nat.ne_of_gt (blk_lt (g := gb200) (o := .cells #[.slice none 0 0, .slice none 0 0] 25 (0, 0)) (by (with_reducible repeat (first | refine blk_drewN ?_ _ | refine blk_drew ?_ | refine blk_alloc ?_ _)); exact BK200.out)) : gb201 ≠ gb200)); clear BK200; clear HB; have BK200 := n0_; have HB := n1_; have BK201 := n2_; have GW201 := n3_; have GE201 := n4_; have NB200_201 := n5_; have NB201_200 := n6_; clear n0_ n1_ n2_ n3_ n4_ n5_ n6_; clear hb hbox hg) | ((with_reducible refine gate_callee (f := 39) rfl ?_); refine goesL_ (some 17) rfl rfl Tryz.func39 (by kernel_rfl) rfl #[.string a0] rfl (by (try simp only [List.map_toArray, List.map_cons, List.map_nil]); first | done | rfl | (simp only [List.length_drop, List.length_take]; rfl)) ?_; (with_reducible refine (reeveref17_Lines.calls k a0 t202 _ A5.out).mono ?_); rintro e w8 ⟨v203, rfl, ho0, hb⟩; refine ⟨_, rfl, ?_⟩; have n0_ := Aside0.mk (Kd.R_lower ho0 (below_size (by repeat (first | (with_reducible first | exact HB.out | apply below_alloc | apply pw_below_drewN | apply below_drew1 | refine below_set ?_ GE200.out | refine below_set ?_ GE201.out) | exact HB.out)))); have n1_ := Aside0.mk (blk_below (g := gb200) (o := .cells #[.slice none 0 0, .slice none 0 0] 25 (0, 0)) (by (with_reducible repeat (first | refine blk_drewN ?_ _ | refine blk_drew ?_ | refine blk_alloc ?_ _)); exact BK200.out) hb); have n2_ := Aside0.mk (blk_below (g := gb201) (o := .cells #[.slice none 0 0, .slice none 0 0] 25 (0, 0)) (by (with_reducible repeat (first | refine blk_drewN ?_ _ | refine blk_drew ?_ | refine blk_alloc ?_ _)); exact BK201.out) hb); have n3_ := Aside0.mk (below_step (by repeat (first | (with_reducible first | exact HB.out | apply below_alloc | apply pw_below_drewN | apply below_drew1 | refine below_set ?_ GE200.out | refine below_set ?_ GE201.out) | exact HB.out)) hb); clear BK200; clear BK201; clear HB; have HO204 := n0_; have BK200 := n1_; have BK201 := n2_; have HB := n3_; clear n0_ n1_ n2_ n3_; (try clear hb); (try clear hb2); (try clear hk); (try clear hi); (try clear ho0); obtain ⟨Ao9, co9, eo9⟩ := Kd.R_slice HO204.out; subst eo9))
    go_loopg [6, 20] k (fun kq v6 v20 w' => ∃ (x6_1 : Bool) (x20_1 : Int) (x202000_1 : List ByteArray) (x202001_1 : List (S59)) (u202000 : Value) (u202001 : Value), v6 = .bool x6_1 ∧ v20 = .int .i64 x20_1 ∧ Aside0 (reeveref17_Parse.l0 kq x6_1 t202 (t202.length : Int) x20_1 x202000_1 x202001_1 = some (r1, r2, r3, r4)) ∧ Aside0 (kq ≤ k) ∧ Aside0 (Kd.R Kd.string 9 w' w.heap.size (fun k_ => some k_ ≠ (u202000 : Value).ownBlock) (.slice Ao9 t202.length co9) t202) ∧ Aside0 (Kd.R Kd.string 9 w' w.heap.size (fun k_ => some k_ ≠ ((.slice Ao9 t202.length co9) : Value).ownBlock) u202000 x202000_1) ∧ Aside0 (Kd.R k59 59 w' w.heap.size (fun _ => True) u202001 x202001_1) ∧ Aside0 (w'.heap[gb200]? = some (.cells #[(.slice none 0 0), (.slice none 0 0)] 25 (0, 0))) ∧ Aside0 (w'.heap[gb201]? = some (.cells #[u202000, u202001] 25 (0, 0))) ∧ Aside0 (Below w.heap.size w w'))
    case atStart => exact ⟨(false), (0), (([] : List ByteArray)), (([] : List (S59))), (.slice none 0 0), (.slice none 0 0), (by first | rfl | (simp; done) | (simp [*]; done)), (by first | rfl | (simp; done) | (simp [*]; done)), H', ⟨Nat.le_refl _⟩, ⟨by (with_reducible repeat (first | apply Kd.R_alloc | apply Kd.R_drewN | apply Kd.R_drew)); exact Kd.R_mono HO204.out (fun _ hk => (by simp [Value.ownBlock]))⟩, ⟨by first | exact Kd.R_nil _ _ _ _ _ | exact Kd.N_nil _ _ _ _ _ | exact Kd.V_nil _ _ _ _ _ | exact Kd.Q_nil _ _ _ _ _ | exact Kd.S_nil _ _ _ _ _⟩, ⟨by first | exact Kd.R_nil _ _ _ _ _ | exact Kd.N_nil _ _ _ _ _ | exact Kd.V_nil _ _ _ _ _ | exact Kd.Q_nil _ _ _ _ _ | exact Kd.S_nil _ _ _ _ _⟩, ⟨by (with_reducible repeat (first | refine blk_drewN ?_ _ | refine blk_drew ?_ | refine blk_alloc ?_ _)); exact BK200.out⟩, ⟨by (with_reducible repeat (first | refine blk_drewN ?_ _ | refine blk_drew ?_ | refine blk_alloc ?_ _)); exact BK201.out⟩, ⟨by repeat (first | (with_reducible first | exact HB.out | apply below_alloc | apply pw_below_drewN | apply below_drew1 | refine below_set ?_ GE200.out | refine below_set ?_ GE201.out) | exact HB.out)⟩⟩
    case round =>
      clear H'
      try clear c2
      try clear c2b0
      try clear c2b1
      try clear p2
      try clear c3
      try clear hcz4_0
      try clear hcz4_1
      try clear hfz4_0
      try clear hfz4_1
      obtain ⟨x6_1, x20_1, x202000_1, x202001_1, u202000, u202001, rfl, rfl, HA, HK1, HO_7, HO_202000, HO_202001, BK200, BK201, HB⟩ := hrel
      cases gk with
      | zero => exact absurd HA.out (by simp [reeveref17_Parse.l0])
      | succ k1 =>
        have H := HA.out
        clear HA
        simp only [reeveref17_Parse.l0] at H
        by_cases c10 : x20_1 < (t202.length : Int)
        · rw [if_pos c10] at H
          have c10b0 : decide (x20_1 < (t202.length : Int)) = true := decide_eq_true c10
          clear c10
          by_cases c11 : 0 ≤ x20_1
          · rw [if_pos c11] at H
            have c11b0 : decide (0 ≤ x20_1) = true := decide_eq_true c11
            clear c11
            by_cases c12 : x20_1 < (t202.length : Int)
            · rw [if_pos c12] at H
              have c12b0 : decide (x20_1 < (t202.length : Int)) = true := decide_eq_true c12
              clear c12
              replace H := Option.bind_eq_some_iff.mp H
              obtain ⟨⟨t207, t208, t209, t210⟩, A130, H⟩ := H
              replace H : (if t210 = true then (if t207 < 0 then (if x6_1 = true then (if x202000_1.length < 8796093022208 then (reeveref17_Parse.l0 k1 true t202 (t202.length : Int) (wrap64 (x20_1 + 1)) (x202000_1 ++ [t209]) x202001_1) else (none)) else (if x202000_1.length < 8796093022208 then (reeveref17_Parse.l0 k1 (decide ((x202001_1.length : Int) > 0)) t202 (t202.length : Int) (wrap64 (x20_1 + 1)) (x202000_1 ++ [t209]) x202001_1) else (none))) else (if x202001_1.length < 8796093022208 then (reeveref17_Parse.l0 k1 x6_1 t202 (t202.length : Int) (wrap64 (x20_1 + 1)) x202000_1 (x202001_1 ++ [(⟨t207, t208⟩ : S59)])) else (none))) else (some (([] : List ByteArray), ([] : List (S59)), wrap64 (x20_1 + 1), 2))) = some (r1, r2, r3, r4) := H
              have A13 := Aside0.mk A130
              clear A130
              by_cases c14 : t210 = true
              · subst c14
                have H1 : (if t207 < 0 then (if x6_1 = true then (if x202000_1.length < 8796093022208 then (reeveref17_Parse.l0 k1 true t202 (t202.length : Int) (wrap64 (x20_1 + 1)) (x202000_1 ++ [t209]) x202001_1) else (none)) else (if x202000_1.length < 8796093022208 then (reeveref17_Parse.l0 k1 (decide ((x202001_1.length : Int) > 0)) t202 (t202.length : Int) (wrap64 (x20_1 + 1)) (x202000_1 ++ [t209]) x202001_1) else (none))) else (if x202001_1.length < 8796093022208 then (reeveref17_Parse.l0 k1 x6_1 t202 (t202.length : Int) (wrap64 (x20_1 + 1)) x202000_1 (x202001_1 ++ [(⟨t207, t208⟩ : S59)])) else (none))) = some (r1, r2, r3, r4) := by rw [if_pos rfl] at H; exact H
                clear H
                have H := H1
                clear H1
                by_cases c15 : t207 < 0
                · rw [if_pos c15] at H
                  have c15b0 : decide (t207 < 0) = true := decide_eq_true c15
                  clear c15
                  by_cases c16 : x6_1 = true
                  · subst c16
                    have H1 : (if x202000_1.length < 8796093022208 then (reeveref17_Parse.l0 k1 true t202 (t202.length : Int) (wrap64 (x20_1 + 1)) (x202000_1 ++ [t209]) x202001_1) else (none)) = some (r1, r2, r3, r4) := by rw [if_pos rfl] at H; exact H
                    clear H
                    have H := H1
                    clear H1
                    by_cases c17 : x202000_1.length < 8796093022208
                    · rw [if_pos c17] at H
                      have LMc17 := Aside0.mk c17
                      clear c17
                      obtain ⟨y212, hy212⟩ : ∃ y_ : List ByteArray, y_ = (x202000_1 ++ [t209]) := ⟨_, rfl⟩
                      replace H : (reeveref17_Parse.l0 k1 true t202 (t202.length : Int) (wrap64 (x20_1 + 1)) y212 x202001_1) = some (r1, r2, r3, r4) := by first | (rw [hy212]; with_reducible exact H) | (have H2_ := (Option.bind_some _ _).symm.trans H; rw [hy212]; with_reducible exact H2_) | (have H2_ := (Option.bind_some _ _).symm.trans H; with_reducible exact H2_) | with_reducible exact H | (rw [hy212]; exact H) | exact H
                      have Ny212 := Aside0.mk hy212
                      clear hy212
                      have H' := Aside0.mk H
                      clear H
                      have p206 : 0 ≤ (x20_1 : Int) := of_decide_eq_true (by first | (with_reducible assumption) | assumption)
                      have q206 : x20_1 < (t202.length : Int) := of_decide_eq_true (by first | (with_reducible assumption) | assumption)
                      obtain ⟨ad206, e206, hx206_0⟩ := Kd.at_string (Kd.R_reads' HO_7.out).2.2 x20_1 p206 q206
                      cases e206
                      replace p206 := eq_true p206
                      replace q206 := eq_true q206
                      go_wp2_with (first | ((with_reducible refine gate_callee (f := 40) rfl ?_); refine goesL_ (some 28) rfl rfl Tryz.func40 (by kernel_rfl) rfl #[.string (rdOf ByteArray.empty t202 x20_1)] rfl (by (try simp only [List.map_toArray, List.map_cons, List.map_nil]); first | done | rfl | (simp only [List.length_drop, List.length_take]; rfl)) ?_; (with_reducible refine (reeveref17_line.calls k1 (rdOf ByteArray.empty t202 x20_1) t207 t208 t209 true _ A13.out).mono ?_); rintro e w18 ⟨rfl, hb⟩; refine ⟨_, rfl, ?_⟩; have n0_ := Aside0.mk (Kd.R_below (by (with_reducible repeat (first | apply Kd.R_alloc | apply Kd.R_drewN | apply Kd.R_drew)); exact HO_7.out) hb); have n1_ := Aside0.mk (Kd.R_below (by (with_reducible repeat (first | apply Kd.R_alloc | apply Kd.R_drewN | apply Kd.R_drew)); exact HO_202000.out) hb); have n2_ := Aside0.mk (Kd.R_below (by (with_reducible repeat (first | apply Kd.R_alloc | apply Kd.R_drewN | apply Kd.R_drew)); exact HO_202001.out) hb); have n3_ := Aside0.mk (blk_below (g := gb200) (o := .cells #[.slice none 0 0, .slice none 0 0] 25 (0, 0)) (by (with_reducible repeat (first | refine blk_drewN ?_ _ | refine blk_drew ?_ | refine blk_alloc ?_ _)); exact BK200.out) hb); have n4_ := Aside0.mk (blk_below (g := gb201) (o := .cells #[u202000, u202001] 25 (0, 0)) (by (with_reducible repeat (first | refine blk_drewN ?_ _ | refine blk_drew ?_ | refine blk_alloc ?_ _)); exact BK201.out) hb); have n5_ := Aside0.mk (below_step (by repeat (first | (with_reducible first | exact HB.out | apply below_alloc | apply pw_below_drewN | apply below_drew1 | refine below_set ?_ GE200.out | refine below_set ?_ GE201.out) | exact HB.out)) hb); clear HO_7; clear HO_202000; clear HO_202001; clear BK200; clear BK201; clear HB; have HO_7 := n0_; have HO_202000 := n1_; have HO_202001 := n2_; have BK200 := n3_; have BK201 := n4_; have HB := n5_; clear n0_ n1_ n2_ n3_ n4_ n5_; (try clear hb); (try clear hb2); (try clear hk); (try clear hi)) | ((with_reducible refine gate_dst (N := 9) rfl ?_); (try (refine gate_guard (by rfl) ?_; dsimp only)); refine box_event ?hg (N := 9) ?hd (cs := #[.int .i64 0, .int .i64 0]) (t := 59) ?hr ?_; (case hd => rfl); (case hg => rfl); (case hr => first | (go_simp; done) | (go_simp; rfl)); intro gb211 hg w19 hbox hb; have n0_ := Aside0.mk (Kd.R_below (by (with_reducible repeat (first | apply Kd.R_alloc | apply Kd.R_drewN | apply Kd.R_drew)); exact HO_7.out) hb); have n1_ := Aside0.mk (Kd.R_below (by (with_reducible repeat (first | apply Kd.R_alloc | apply Kd.R_drewN | apply Kd.R_drew)); exact HO_202000.out) hb); have n2_ := Aside0.mk (Kd.R_below (Kd.R_elderB (by (with_reducible repeat (first | apply Kd.R_alloc | apply Kd.R_drewN | apply Kd.R_drew)); exact HO_202001.out) gb211 (Nat.le_of_eq hg.symm)) hb); have n3_ := Aside0.mk (blk_below (g := gb200) (o := .cells #[.slice none 0 0, .slice none 0 0] 25 (0, 0)) (by (with_reducible repeat (first | refine blk_drewN ?_ _ | refine blk_drew ?_ | refine blk_alloc ?_ _)); exact BK200.out) hb); have n4_ := Aside0.mk (blk_below (g := gb201) (o := .cells #[u202000, u202001] 25 (0, 0)) (by (with_reducible repeat (first | refine blk_drewN ?_ _ | refine blk_drew ?_ | refine blk_alloc ?_ _)); exact BK201.out) hb); have n5_ := Aside0.mk (below_step (by repeat (first | (with_reducible first | exact HB.out | apply below_alloc | apply pw_below_drewN | apply below_drew1 | refine below_set ?_ GE200.out | refine below_set ?_ GE201.out) | exact HB.out)) hb); have n6_ := Aside0.mk (hbox); have n7_ := Aside0.mk ((by rw [hg]; exact (below_size (by repeat (first | (with_reducible first | exact HB.out | apply below_alloc | apply pw_below_drewN | apply below_drew1 | refine below_set ?_ GE200.out | refine below_set ?_ GE201.out) | exact HB.out))) : w.heap.size ≤ gb211)); have n8_ := Aside0.mk ((by rw [hg]; exact (below_size (by repeat (first | (with_reducible first | exact HB.out | apply below_alloc | apply pw_below_drewN | apply below_drew1 | refine below_set ?_ GE200.out | refine below_set ?_ GE201.out) | exact HB.out))) : w.heap.size ≤ gb211)); have n9_ := Aside0.mk ((by rw [hg]; exact Nat.ne_of_lt (blk_lt (g := gb200) (o := .cells #[.slice none 0 0, .slice none 0 0] 25 (0, 0)) (by (with_reducible repeat (first | refine blk_drewN ?_ _ | refine blk_drew ?_ | refine blk_alloc ?_ _)); exact BK200.out)) : gb200 ≠ gb211)); have n10_ := Aside0.mk ((by rw [hg]; exact Nat.ne_of_gt (blk_lt (g := gb200) (o := .cells #[.slice none 0 0, .slice none 0 0] 25 (0, 0)) (by (with_reducible repeat (first | refine blk_drewN ?_ _ | refine blk_drew ?_ | refine blk_alloc ?_ _)); exact BK200.out)) : gb211 ≠ gb200)); have n11_ := Aside0.mk ((by rw [hg]; exact Nat.ne_of_lt (blk_lt (g := gb201) (o := .cells #[u202000, u202001] 25 (0, 0)) (by (with_reducible repeat (first | refine blk_drewN ?_ _ | refine blk_drew ?_ | refine blk_alloc ?_ _)); exact BK201.out)) : gb201 ≠ gb211)); have n12_ := Aside0.mk ((by rw [hg]; exact Nat.ne_of_gt (blk_lt (g := gb201) (o := .cells #[u202000, u202001] 25 (0, 0)) (by (with_reducible repeat (first | refine blk_drewN ?_ _ | refine blk_drew ?_ | refine blk_alloc ?_ _)); exact BK201.out)) : gb211 ≠ gb201)); clear HO_7; clear HO_202000; clear HO_202001; clear BK200; clear BK201; clear HB; have HO_7 := n0_; have HO_202000 := n1_; have HO_202001 := n2_; have BK200 := n3_; have BK201 := n4_; have HB := n5_; have BK211 := n6_; have GW211 := n7_; have GE211 := n8_; have NB200_211 := n9_; have NB211_200 := n10_; have NB201_211 := n11_; have NB211_201 := n12_; clear n0_ n1_ n2_ n3_ n4_ n5_ n6_ n7_ n8_ n9_ n10_ n11_ n12_; clear hb hbox hg; have hnb20 := NB211_200.out; have hnc20 := NB200_211.out; have hnb21 := NB211_201.out; have hnc21 := NB201_211.out; have hcz22_0 : w19.cell? ⟨gb211, 0, none⟩ = some (.int .i64 0) := (blk_cell BK211.out 0).trans rfl; have hcz22_1 : w19.cell? ⟨gb211, 1, none⟩ = some (.int .i64 0) := (blk_cell BK211.out 1).trans rfl; have hfz22_0 := blk_frozen BK211.out 0; have hfz22_1 := blk_frozen BK211.out 1; have hnb23 := NB201_200.out; have hnc23 := NB200_201.out; have hcz24_0 : w19.cell? ⟨gb201, 0, none⟩ = some (u202000) := (blk_cell BK201.out 0).trans rfl; have hcz24_1 : w19.cell? ⟨gb201, 1, none⟩ = some (u202001) := (blk_cell BK201.out 1).trans rfl; have hfz24_0 := blk_frozen BK201.out 0; have hfz24_1 := blk_frozen BK201.out 1) | ((with_reducible refine gate_builtin (b := .append) (xs := #[.tmp 48, .tmp 50]) rfl ?_); (try (refine gate_guard (by rfl) ?_; dsimp only)); at_builtin; refine Kd.R_append Kd.string (w0 := w) w.heap.size rfl (.tmp 48) (.tmp 50) 22 9 (.string ⟨#[]⟩) 16 rfl Tryz.underlying22 info9 rfl (by decide) (by omega) u202000 x202000_1 t209 [.string t209] (fun k_ => some k_ ≠ (.slice (some ad206) t202.length co9 : Value).ownBlock) (fun _ => False) rfl (by first | (go_simp; done) | (go_simp; rfl)) ?aP (fun _ hk => hk.elim) ?aF ?aO ?aB ?aS ?aL ?_; (case aP => exact rfl); (case aB => exact (by repeat (first | (with_reducible first | exact HB.out | apply below_alloc | apply pw_below_drewN | apply below_drew1 | refine below_set ?_ GE200.out | refine below_set ?_ GE201.out | refine below_set ?_ GE211.out) | exact HB.out))); (case aF => exact (fun k_ hk => Kd.fresh' (Kd.R_lt (by (with_reducible repeat (first | apply Kd.R_alloc | apply Kd.R_drewN | apply Kd.R_drew)); exact (Kd.R_mono (Kd.R_far (p := ⟨gb211, 1, none⟩) (Kd.R_far (p := ⟨gb211, 0, none⟩) (Kd.R_types HO_7.out BK211.out (by decide)) (fun _ hk => hk.2) (.int .i64 t207)) (fun _ hk => hk.2) (.int .i64 t208)) (fun _ h_ => h_.1)))) k_ hk)); (case aO => exact (by (with_reducible repeat (first | apply Kd.R_alloc | apply Kd.R_drewN | apply Kd.R_drew)); exact Kd.R_mono (Kd.R_far (p := ⟨gb211, 1, none⟩) (Kd.R_far (p := ⟨gb211, 0, none⟩) (Kd.R_types HO_202000.out BK211.out (by decide)) (fun _ hk => hk.2) (.int .i64 t207)) (fun _ hk => hk.2) (.int .i64 t208)) (fun _ hk => hk.1))); (case aS => exact (below_size (by repeat (first | (with_reducible first | exact HB.out | apply below_alloc | apply pw_below_drewN | apply below_drew1 | refine below_set ?_ GE200.out | refine below_set ?_ GE201.out | refine below_set ?_ GE211.out) | exact HB.out)))); (case aL => have := LMc17.out; omega); intro v213 w25 ho hb hg hat; rw [← Ny212.out] at ho; have n0_ := Aside0.mk (Kd.R_after (ok := (fun _ => True)) (by (with_reducible repeat (first | apply Kd.R_alloc | apply Kd.R_drewN | apply Kd.R_drew)); exact Kd.R_mono (Kd.R_far (p := ⟨gb211, 1, none⟩) (Kd.R_far (p := ⟨gb211, 0, none⟩) (Kd.R_types HO_7.out BK211.out (by decide)) (fun _ hk => hk.2) (.int .i64 t207)) (fun _ hk => hk.2) (.int .i64 t208)) (fun _ hk => ⟨trivial, hk.1⟩)) hg hat); have n1_ := Aside0.mk (Kd.R_over' (by (with_reducible repeat (first | apply Kd.R_alloc | apply Kd.R_drewN | apply Kd.R_drew)); exact (Kd.R_mono (Kd.R_far (p := ⟨gb211, 1, none⟩) (Kd.R_far (p := ⟨gb211, 0, none⟩) (Kd.R_mono HO_202001.out (fun k_ hk => (⟨hk, hk.2⟩ : _ ∧ k_ ≠ gb211))) (fun _ hk => hk.2) (.int .i64 t207)) (fun _ hk => hk.2) (.int .i64 t208)) (fun _ h_ => h_.1))) (Kd.R_typed (by (with_reducible repeat (first | apply Kd.R_alloc | apply Kd.R_drewN | apply Kd.R_drew)); exact (Kd.R_mono (Kd.R_far (p := ⟨gb211, 1, none⟩) (Kd.R_far (p := ⟨gb211, 0, none⟩) (Kd.R_types HO_202000.out BK211.out (by decide)) (fun _ hk => hk.2) (.int .i64 t207)) (fun _ hk => hk.2) (.int .i64 t208)) (fun _ h_ => h_.1)))) (by decide) hg); have n2_ := Aside0.mk (blk_grown (g := gb200) (o := .cells #[.slice none 0 0, .slice none 0 0] 25 (0, 0)) (by (with_reducible repeat (first | refine blk_drewN ?_ _ | refine blk_drew ?_ | refine blk_alloc ?_ _)); refine blk_far ?_ NB200_211.out _; (with_reducible repeat (first | refine blk_drewN ?_ _ | refine blk_drew ?_ | refine blk_alloc ?_ _)); refine blk_far ?_ NB200_211.out _; (with_reducible repeat (first | refine blk_drewN ?_ _ | refine blk_drew ?_ | refine blk_alloc ?_ _)); exact BK200.out) hg (Kd.R_ne HO_202000.out BK200.out (by decide))); have n3_ := Aside0.mk (blk_grown (g := gb201) (o := .cells #[u202000, u202001] 25 (0, 0)) (by (with_reducible repeat (first | refine blk_drewN ?_ _ | refine blk_drew ?_ | refine blk_alloc ?_ _)); refine blk_far ?_ NB201_211.out _; (with_reducible repeat (first | refine blk_drewN ?_ _ | refine blk_drew ?_ | refine blk_alloc ?_ _)); refine blk_far ?_ NB201_211.out _; (with_reducible repeat (first | refine blk_drewN ?_ _ | refine blk_drew ?_ | refine blk_alloc ?_ _)); exact BK201.out) hg (Kd.R_ne HO_202000.out BK201.out (by decide))); have n4_ := Aside0.mk (blk_grown (g := gb211) (o := .cells #[.int .i64 t207, .int .i64 t208] 59 (0, 0)) (by (with_reducible repeat (first | refine blk_drewN ?_ _ | refine blk_drew ?_ | refine blk_alloc ?_ _)); refine blk_put (cs := #[.int .i64 t207, .int .i64 0]) ?_ 1 _ rfl; (with_reducible repeat (first | refine blk_drewN ?_ _ | refine blk_drew ?_ | refine blk_alloc ?_ _)); refine blk_put (cs := #[.int .i64 0, .int .i64 0]) ?_ 0 _ rfl; (with_reducible repeat (first | refine blk_drewN ?_ _ | refine blk_drew ?_ | refine blk_alloc ?_ _)); exact BK211.out) hg (Kd.R_ne HO_202000.out BK211.out (by decide))); have n5_ := Aside0.mk (hb); have n6_ := Aside0.mk (ho); clear HO_7; clear HO_202001; clear BK200; clear BK201; clear BK211; clear HB; clear HO_202000; have HO_7 := n0_; have HO_202001 := n1_; have BK200 := n2_; have BK201 := n3_; have BK211 := n4_; have HB := n5_; have HO214 := n6_; clear n0_ n1_ n2_ n3_ n4_ n5_ n6_; clear ho hb hg hat; obtain ⟨Ao26, co26, eo26⟩ := Kd.R_slice HO214.out; subst eo26; have hcz27_0 : w25.cell? ⟨gb201, 0, none⟩ = some (u202000) := (blk_cell BK201.out 0).trans rfl; have hcz27_1 : w25.cell? ⟨gb201, 1, none⟩ = some (u202001) := (blk_cell BK201.out 1).trans rfl; have hfz27_0 := blk_frozen BK201.out 0; have hfz27_1 := blk_frozen BK201.out 1))
                      go_roundg k1
                      case measure => have := HK1.out; omega
                      case rel => exact ⟨(true), (wrap64 (x20_1 + 1)), (y212), (x202001_1), (.slice Ao26 y212.length co26), (u202001), (by first | rfl | (simp; done) | (simp [*]; done)), (by first | rfl | (simp; done) | (simp [*]; done)), H', ⟨by have := HK1.out; omega⟩, ⟨by (with_reducible repeat (first | apply Kd.R_alloc | apply Kd.R_drewN | apply Kd.R_drew)); exact Kd.R_mono (Kd.R_far (p := ⟨gb201, 0, none⟩) (Kd.R_types HO_7.out BK201.out (by decide)) (fun _ hk => hk.2) (.slice Ao26 y212.length co26)) (fun _ hk => hk.1.2)⟩, ⟨by (with_reducible repeat (first | apply Kd.R_alloc | apply Kd.R_drewN | apply Kd.R_drew)); exact Kd.R_mono (Kd.R_far (p := ⟨gb201, 0, none⟩) (Kd.R_types HO214.out BK201.out (by decide)) (fun _ hk => hk.2) (.slice Ao26 y212.length co26)) (fun _ hk => hk.1)⟩, ⟨by (with_reducible repeat (first | apply Kd.R_alloc | apply Kd.R_drewN | apply Kd.R_drew)); exact Kd.R_mono (Kd.R_far (p := ⟨gb201, 0, none⟩) (Kd.R_types HO_202001.out BK201.out (by decide)) (fun _ hk => hk.2) (.slice Ao26 y212.length co26)) (fun _ hk => trivial)⟩, ⟨by (with_reducible repeat (first | refine blk_drewN ?_ _ | refine blk_drew ?_ | refine blk_alloc ?_ _)); refine blk_far ?_ NB200_201.out _; (with_reducible repeat (first | refine blk_drewN ?_ _ | refine blk_drew ?_ | refine blk_alloc ?_ _)); exact BK200.out⟩, ⟨by (with_reducible repeat (first | refine blk_drewN ?_ _ | refine blk_drew ?_ | refine blk_alloc ?_ _)); refine blk_put (cs := #[u202000, u202001]) ?_ 0 _ rfl; (with_reducible repeat (first | refine blk_drewN ?_ _ | refine blk_drew ?_ | refine blk_alloc ?_ _)); exact BK201.out⟩, ⟨by repeat (first | (with_reducible first | exact HB.out | apply below_alloc | apply pw_below_drewN | apply below_drew1 | refine below_set ?_ GE200.out | refine below_set ?_ GE201.out | refine below_set ?_ GE211.out) | exact HB.out)⟩⟩
                    · rw [if_neg c17] at H
                      exact absurd H (by simp)
                  · replace c16 := Bool.eq_false_iff.mpr c16
                    subst c16
                    have H1 : (if x202000_1.length < 8796093022208 then (reeveref17_Parse.l0 k1 (decide ((x202001_1.length : Int) > 0)) t202 (t202.length : Int) (wrap64 (x20_1 + 1)) (x202000_1 ++ [t209]) x202001_1) else (none)) = some (r1, r2, r3, r4) := by rw [if_neg (show ¬ (false = true) by decide)] at H; exact H
                    clear H
                    have H := H1
                    clear H1
                    by_cases c28 : x202000_1.length < 8796093022208
                    · rw [if_pos c28] at H
                      have LMc28 := Aside0.mk c28
                      clear c28
                      obtain ⟨y215, hy215⟩ : ∃ y_ : List ByteArray, y_ = (x202000_1 ++ [t209]) := ⟨_, rfl⟩
                      replace H : (reeveref17_Parse.l0 k1 (decide ((x202001_1.length : Int) > 0)) t202 (t202.length : Int) (wrap64 (x20_1 + 1)) y215 x202001_1) = some (r1, r2, r3, r4) := by first | (rw [hy215]; with_reducible exact H) | (have H2_ := (Option.bind_some _ _).symm.trans H; rw [hy215]; with_reducible exact H2_) | (have H2_ := (Option.bind_some _ _).symm.trans H; with_reducible exact H2_) | with_reducible exact H | (rw [hy215]; exact H) | exact H
                      have Ny215 := Aside0.mk hy215
                      clear hy215
                      have H' := Aside0.mk H
                      clear H
                      have p206 : 0 ≤ (x20_1 : Int) := of_decide_eq_true (by first | (with_reducible assumption) | assumption)
                      have q206 : x20_1 < (t202.length : Int) := of_decide_eq_true (by first | (with_reducible assumption) | assumption)
                      obtain ⟨ad206, e206, hx206_0⟩ := Kd.at_string (Kd.R_reads' HO_7.out).2.2 x20_1 p206 q206
                      cases e206
                      replace p206 := eq_true p206
                      replace q206 := eq_true q206
                      go_wp2_with (first | ((with_reducible refine gate_callee (f := 40) rfl ?_); refine goesL_ (some 28) rfl rfl Tryz.func40 (by kernel_rfl) rfl #[.string (rdOf ByteArray.empty t202 x20_1)] rfl (by (try simp only [List.map_toArray, List.map_cons, List.map_nil]); first | done | rfl | (simp only [List.length_drop, List.length_take]; rfl)) ?_; (with_reducible refine (reeveref17_line.calls k1 (rdOf ByteArray.empty t202 x20_1) t207 t208 t209 true _ A13.out).mono ?_); rintro e w29 ⟨rfl, hb⟩; refine ⟨_, rfl, ?_⟩; have n0_ := Aside0.mk (Kd.R_below (by (with_reducible repeat (first | apply Kd.R_alloc | apply Kd.R_drewN | apply Kd.R_drew)); exact HO_7.out) hb); have n1_ := Aside0.mk (Kd.R_below (by (with_reducible repeat (first | apply Kd.R_alloc | apply Kd.R_drewN | apply Kd.R_drew)); exact HO_202000.out) hb); have n2_ := Aside0.mk (Kd.R_below (by (with_reducible repeat (first | apply Kd.R_alloc | apply Kd.R_drewN | apply Kd.R_drew)); exact HO_202001.out) hb); have n3_ := Aside0.mk (blk_below (g := gb200) (o := .cells #[.slice none 0 0, .slice none 0 0] 25 (0, 0)) (by (with_reducible repeat (first | refine blk_drewN ?_ _ | refine blk_drew ?_ | refine blk_alloc ?_ _)); exact BK200.out) hb); have n4_ := Aside0.mk (blk_below (g := gb201) (o := .cells #[u202000, u202001] 25 (0, 0)) (by (with_reducible repeat (first | refine blk_drewN ?_ _ | refine blk_drew ?_ | refine blk_alloc ?_ _)); exact BK201.out) hb); have n5_ := Aside0.mk (below_step (by repeat (first | (with_reducible first | exact HB.out | apply below_alloc | apply pw_below_drewN | apply below_drew1 | refine below_set ?_ GE200.out | refine below_set ?_ GE201.out) | exact HB.out)) hb); clear HO_7; clear HO_202000; clear HO_202001; clear BK200; clear BK201; clear HB; have HO_7 := n0_; have HO_202000 := n1_; have HO_202001 := n2_; have BK200 := n3_; have BK201 := n4_; have HB := n5_; clear n0_ n1_ n2_ n3_ n4_ n5_; (try clear hb); (try clear hb2); (try clear hk); (try clear hi)) | ((with_reducible refine gate_dst (N := 9) rfl ?_); (try (refine gate_guard (by rfl) ?_; dsimp only)); refine box_event ?hg (N := 9) ?hd (cs := #[.int .i64 0, .int .i64 0]) (t := 59) ?hr ?_; (case hd => rfl); (case hg => rfl); (case hr => first | (go_simp; done) | (go_simp; rfl)); intro gb211 hg w30 hbox hb; have n0_ := Aside0.mk (Kd.R_below (by (with_reducible repeat (first | apply Kd.R_alloc | apply Kd.R_drewN | apply Kd.R_drew)); exact HO_7.out) hb); have n1_ := Aside0.mk (Kd.R_below (by (with_reducible repeat (first | apply Kd.R_alloc | apply Kd.R_drewN | apply Kd.R_drew)); exact HO_202000.out) hb); have n2_ := Aside0.mk (Kd.R_below (Kd.R_elderB (by (with_reducible repeat (first | apply Kd.R_alloc | apply Kd.R_drewN | apply Kd.R_drew)); exact HO_202001.out) gb211 (Nat.le_of_eq hg.symm)) hb); have n3_ := Aside0.mk (blk_below (g := gb200) (o := .cells #[.slice none 0 0, .slice none 0 0] 25 (0, 0)) (by (with_reducible repeat (first | refine blk_drewN ?_ _ | refine blk_drew ?_ | refine blk_alloc ?_ _)); exact BK200.out) hb); have n4_ := Aside0.mk (blk_below (g := gb201) (o := .cells #[u202000, u202001] 25 (0, 0)) (by (with_reducible repeat (first | refine blk_drewN ?_ _ | refine blk_drew ?_ | refine blk_alloc ?_ _)); exact BK201.out) hb); have n5_ := Aside0.mk (below_step (by repeat (first | (with_reducible first | exact HB.out | apply below_alloc | apply pw_below_drewN | apply below_drew1 | refine below_set ?_ GE200.out | refine below_set ?_ GE201.out) | exact HB.out)) hb); have n6_ := Aside0.mk (hbox); have n7_ := Aside0.mk ((by rw [hg]; exact (below_size (by repeat (first | (with_reducible first | exact HB.out | apply below_alloc | apply pw_below_drewN | apply below_drew1 | refine below_set ?_ GE200.out | refine below_set ?_ GE201.out) | exact HB.out))) : w.heap.size ≤ gb211)); have n8_ := Aside0.mk ((by rw [hg]; exact (below_size (by repeat (first | (with_reducible first | exact HB.out | apply below_alloc | apply pw_below_drewN | apply below_drew1 | refine below_set ?_ GE200.out | refine below_set ?_ GE201.out) | exact HB.out))) : w.heap.size ≤ gb211)); have n9_ := Aside0.mk ((by rw [hg]; exact Nat.ne_of_lt (blk_lt (g := gb200) (o := .cells #[.slice none 0 0, .slice none 0 0] 25 (0, 0)) (by (with_reducible repeat (first | refine blk_drewN ?_ _ | refine blk_drew ?_ | refine blk_alloc ?_ _)); exact BK200.out)) : gb200 ≠ gb211)); have n10_ := Aside0.mk ((by rw [hg]; exact Nat.ne_of_gt (blk_lt (g := gb200) (o := .cells #[.slice none 0 0, .slice none 0 0] 25 (0, 0)) (by (with_reducible repeat (first | refine blk_drewN ?_ _ | refine blk_drew ?_ | refine blk_alloc ?_ _)); exact BK200.out)) : gb211 ≠ gb200)); have n11_ := Aside0.mk ((by rw [hg]; exact Nat.ne_of_lt (blk_lt (g := gb201) (o := .cells #[u202000, u202001] 25 (0, 0)) (by (with_reducible repeat (first | refine blk_drewN ?_ _ | refine blk_drew ?_ | refine blk_alloc ?_ _)); exact BK201.out)) : gb201 ≠ gb211)); have n12_ := Aside0.mk ((by rw [hg]; exact Nat.ne_of_gt (blk_lt (g := gb201) (o := .cells #[u202000, u202001] 25 (0, 0)) (by (with_reducible repeat (first | refine blk_drewN ?_ _ | refine blk_drew ?_ | refine blk_alloc ?_ _)); exact BK201.out)) : gb211 ≠ gb201)); clear HO_7; clear HO_202000; clear HO_202001; clear BK200; clear BK201; clear HB; have HO_7 := n0_; have HO_202000 := n1_; have HO_202001 := n2_; have BK200 := n3_; have BK201 := n4_; have HB := n5_; have BK211 := n6_; have GW211 := n7_; have GE211 := n8_; have NB200_211 := n9_; have NB211_200 := n10_; have NB201_211 := n11_; have NB211_201 := n12_; clear n0_ n1_ n2_ n3_ n4_ n5_ n6_ n7_ n8_ n9_ n10_ n11_ n12_; clear hb hbox hg; have hnb31 := NB211_200.out; have hnc31 := NB200_211.out; have hnb32 := NB211_201.out; have hnc32 := NB201_211.out; have hcz33_0 : w30.cell? ⟨gb211, 0, none⟩ = some (.int .i64 0) := (blk_cell BK211.out 0).trans rfl; have hcz33_1 : w30.cell? ⟨gb211, 1, none⟩ = some (.int .i64 0) := (blk_cell BK211.out 1).trans rfl; have hfz33_0 := blk_frozen BK211.out 0; have hfz33_1 := blk_frozen BK211.out 1; have hnb34 := NB201_200.out; have hnc34 := NB200_201.out; have hcz35_0 : w30.cell? ⟨gb201, 0, none⟩ = some (u202000) := (blk_cell BK201.out 0).trans rfl; have hcz35_1 : w30.cell? ⟨gb201, 1, none⟩ = some (u202001) := (blk_cell BK201.out 1).trans rfl; have hfz35_0 := blk_frozen BK201.out 0; have hfz35_1 := blk_frozen BK201.out 1; obtain ⟨Ao36, co36, eo36⟩ := Kd.R_slice HO_202001.out; subst eo36) | ((with_reducible refine gate_builtin (b := .append) (xs := #[.tmp 48, .tmp 50]) rfl ?_); (try (refine gate_guard (by rfl) ?_; dsimp only)); at_builtin; refine Kd.R_append Kd.string (w0 := w) w.heap.size rfl (.tmp 48) (.tmp 50) 22 9 (.string ⟨#[]⟩) 16 rfl Tryz.underlying22 info9 rfl (by decide) (by omega) u202000 x202000_1 t209 [.string t209] (fun k_ => some k_ ≠ (.slice (some ad206) t202.length co9 : Value).ownBlock) (fun _ => False) rfl (by first | (go_simp; done) | (go_simp; rfl)) ?aP (fun _ hk => hk.elim) ?aF ?aO ?aB ?aS ?aL ?_; (case aP => exact rfl); (case aB => exact (by repeat (first | (with_reducible first | exact HB.out | apply below_alloc | apply pw_below_drewN | apply below_drew1 | refine below_set ?_ GE200.out | refine below_set ?_ GE201.out | refine below_set ?_ GE211.out) | exact HB.out))); (case aF => exact (fun k_ hk => Kd.fresh' (Kd.R_lt (by (with_reducible repeat (first | apply Kd.R_alloc | apply Kd.R_drewN | apply Kd.R_drew)); exact (Kd.R_mono (Kd.R_far (p := ⟨gb211, 1, none⟩) (Kd.R_far (p := ⟨gb211, 0, none⟩) (Kd.R_types HO_7.out BK211.out (by decide)) (fun _ hk => hk.2) (.int .i64 t207)) (fun _ hk => hk.2) (.int .i64 t208)) (fun _ h_ => h_.1)))) k_ hk)); (case aO => exact (by (with_reducible repeat (first | apply Kd.R_alloc | apply Kd.R_drewN | apply Kd.R_drew)); exact Kd.R_mono (Kd.R_far (p := ⟨gb211, 1, none⟩) (Kd.R_far (p := ⟨gb211, 0, none⟩) (Kd.R_types HO_202000.out BK211.out (by decide)) (fun _ hk => hk.2) (.int .i64 t207)) (fun _ hk => hk.2) (.int .i64 t208)) (fun _ hk => hk.1))); (case aS => exact (below_size (by repeat (first | (with_reducible first | exact HB.out | apply below_alloc | apply pw_below_drewN | apply below_drew1 | refine below_set ?_ GE200.out | refine below_set ?_ GE201.out | refine below_set ?_ GE211.out) | exact HB.out)))); (case aL => have := LMc28.out; omega); intro v216 w37 ho hb hg hat; rw [← Ny215.out] at ho; have n0_ := Aside0.mk (Kd.R_after (ok := (fun _ => True)) (by (with_reducible repeat (first | apply Kd.R_alloc | apply Kd.R_drewN | apply Kd.R_drew)); exact Kd.R_mono (Kd.R_far (p := ⟨gb211, 1, none⟩) (Kd.R_far (p := ⟨gb211, 0, none⟩) (Kd.R_types HO_7.out BK211.out (by decide)) (fun _ hk => hk.2) (.int .i64 t207)) (fun _ hk => hk.2) (.int .i64 t208)) (fun _ hk => ⟨trivial, hk.1⟩)) hg hat); have n1_ := Aside0.mk (Kd.R_over' (by (with_reducible repeat (first | apply Kd.R_alloc | apply Kd.R_drewN | apply Kd.R_drew)); exact (Kd.R_mono (Kd.R_far (p := ⟨gb211, 1, none⟩) (Kd.R_far (p := ⟨gb211, 0, none⟩) (Kd.R_mono HO_202001.out (fun k_ hk => (⟨hk, hk.2⟩ : _ ∧ k_ ≠ gb211))) (fun _ hk => hk.2) (.int .i64 t207)) (fun _ hk => hk.2) (.int .i64 t208)) (fun _ h_ => h_.1))) (Kd.R_typed (by (with_reducible repeat (first | apply Kd.R_alloc | apply Kd.R_drewN | apply Kd.R_drew)); exact (Kd.R_mono (Kd.R_far (p := ⟨gb211, 1, none⟩) (Kd.R_far (p := ⟨gb211, 0, none⟩) (Kd.R_types HO_202000.out BK211.out (by decide)) (fun _ hk => hk.2) (.int .i64 t207)) (fun _ hk => hk.2) (.int .i64 t208)) (fun _ h_ => h_.1)))) (by decide) hg); have n2_ := Aside0.mk (blk_grown (g := gb200) (o := .cells #[.slice none 0 0, .slice none 0 0] 25 (0, 0)) (by (with_reducible repeat (first | refine blk_drewN ?_ _ | refine blk_drew ?_ | refine blk_alloc ?_ _)); refine blk_far ?_ NB200_211.out _; (with_reducible repeat (first | refine blk_drewN ?_ _ | refine blk_drew ?_ | refine blk_alloc ?_ _)); refine blk_far ?_ NB200_211.out _; (with_reducible repeat (first | refine blk_drewN ?_ _ | refine blk_drew ?_ | refine blk_alloc ?_ _)); exact BK200.out) hg (Kd.R_ne HO_202000.out BK200.out (by decide))); have n3_ := Aside0.mk (blk_grown (g := gb201) (o := .cells #[u202000, .slice Ao36 x202001_1.length co36] 25 (0, 0)) (by (with_reducible repeat (first | refine blk_drewN ?_ _ | refine blk_drew ?_ | refine blk_alloc ?_ _)); refine blk_far ?_ NB201_211.out _; (with_reducible repeat (first | refine blk_drewN ?_ _ | refine blk_drew ?_ | refine blk_alloc ?_ _)); refine blk_far ?_ NB201_211.out _; (with_reducible repeat (first | refine blk_drewN ?_ _ | refine blk_drew ?_ | refine blk_alloc ?_ _)); exact BK201.out) hg (Kd.R_ne HO_202000.out BK201.out (by decide))); have n4_ := Aside0.mk (blk_grown (g := gb211) (o := .cells #[.int .i64 t207, .int .i64 t208] 59 (0, 0)) (by (with_reducible repeat (first | refine blk_drewN ?_ _ | refine blk_drew ?_ | refine blk_alloc ?_ _)); refine blk_put (cs := #[.int .i64 t207, .int .i64 0]) ?_ 1 _ rfl; (with_reducible repeat (first | refine blk_drewN ?_ _ | refine blk_drew ?_ | refine blk_alloc ?_ _)); refine blk_put (cs := #[.int .i64 0, .int .i64 0]) ?_ 0 _ rfl; (with_reducible repeat (first | refine blk_drewN ?_ _ | refine blk_drew ?_ | refine blk_alloc ?_ _)); exact BK211.out) hg (Kd.R_ne HO_202000.out BK211.out (by decide))); have n5_ := Aside0.mk (hb); have n6_ := Aside0.mk (ho); clear HO_7; clear HO_202001; clear BK200; clear BK201; clear BK211; clear HB; clear HO_202000; have HO_7 := n0_; have HO_202001 := n1_; have BK200 := n2_; have BK201 := n3_; have BK211 := n4_; have HB := n5_; have HO217 := n6_; clear n0_ n1_ n2_ n3_ n4_ n5_ n6_; clear ho hb hg hat; obtain ⟨Ao38, co38, eo38⟩ := Kd.R_slice HO217.out; subst eo38; have hcz39_0 : w37.cell? ⟨gb201, 0, none⟩ = some (u202000) := (blk_cell BK201.out 0).trans rfl; have hcz39_1 : w37.cell? ⟨gb201, 1, none⟩ = some (.slice Ao36 x202001_1.length co36) := (blk_cell BK201.out 1).trans rfl; have hfz39_0 := blk_frozen BK201.out 0; have hfz39_1 := blk_frozen BK201.out 1))
                      go_roundg k1
                      case measure => have := HK1.out; omega
                      case rel => exact ⟨(decide ((x202001_1.length : Int) > 0)), (wrap64 (x20_1 + 1)), (y215), (x202001_1), (.slice Ao38 y215.length co38), (.slice Ao36 x202001_1.length co36), (by first | rfl | (simp; done) | (simp [*]; done)), (by first | rfl | (simp; done) | (simp [*]; done)), H', ⟨by have := HK1.out; omega⟩, ⟨by (with_reducible repeat (first | apply Kd.R_alloc | apply Kd.R_drewN | apply Kd.R_drew)); exact Kd.R_mono (Kd.R_far (p := ⟨gb201, 0, none⟩) (Kd.R_types HO_7.out BK201.out (by decide)) (fun _ hk => hk.2) (.slice Ao38 y215.length co38)) (fun _ hk => hk.1.2)⟩, ⟨by (with_reducible repeat (first | apply Kd.R_alloc | apply Kd.R_drewN | apply Kd.R_drew)); exact Kd.R_mono (Kd.R_far (p := ⟨gb201, 0, none⟩) (Kd.R_types HO217.out BK201.out (by decide)) (fun _ hk => hk.2) (.slice Ao38 y215.length co38)) (fun _ hk => hk.1)⟩, ⟨by (with_reducible repeat (first | apply Kd.R_alloc | apply Kd.R_drewN | apply Kd.R_drew)); exact Kd.R_mono (Kd.R_far (p := ⟨gb201, 0, none⟩) (Kd.R_types HO_202001.out BK201.out (by decide)) (fun _ hk => hk.2) (.slice Ao38 y215.length co38)) (fun _ hk => trivial)⟩, ⟨by (with_reducible repeat (first | refine blk_drewN ?_ _ | refine blk_drew ?_ | refine blk_alloc ?_ _)); refine blk_far ?_ NB200_201.out _; (with_reducible repeat (first | refine blk_drewN ?_ _ | refine blk_drew ?_ | refine blk_alloc ?_ _)); exact BK200.out⟩, ⟨by (with_reducible repeat (first | refine blk_drewN ?_ _ | refine blk_drew ?_ | refine blk_alloc ?_ _)); refine blk_put (cs := #[u202000, .slice Ao36 x202001_1.length co36]) ?_ 0 _ rfl; (with_reducible repeat (first | refine blk_drewN ?_ _ | refine blk_drew ?_ | refine blk_alloc ?_ _)); exact BK201.out⟩, ⟨by repeat (first | (with_reducible first | exact HB.out | apply below_alloc | apply pw_below_drewN | apply below_drew1 | refine below_set ?_ GE200.out | refine below_set ?_ GE201.out | refine below_set ?_ GE211.out) | exact HB.out)⟩⟩
                    · rw [if_neg c28] at H
                      exact absurd H (by simp)
                · rw [if_neg c15] at H
                  have c15b0 : decide (t207 < 0) = false := decide_eq_false c15
                  clear c15
                  by_cases c40 : x202001_1.length < 8796093022208
                  · rw [if_pos c40] at H
                    have LMc40 := Aside0.mk c40
                    clear c40
                    obtain ⟨y218, hy218⟩ : ∃ y_ : List (S59), y_ = (x202001_1 ++ [(⟨t207, t208⟩ : S59)]) := ⟨_, rfl⟩
                    replace H : (reeveref17_Parse.l0 k1 x6_1 t202 (t202.length : Int) (wrap64 (x20_1 + 1)) x202000_1 y218) = some (r1, r2, r3, r4) := by first | (rw [hy218]; with_reducible exact H) | (have H2_ := (Option.bind_some _ _).symm.trans H; rw [hy218]; with_reducible exact H2_) | (have H2_ := (Option.bind_some _ _).symm.trans H; with_reducible exact H2_) | with_reducible exact H | (rw [hy218]; exact H) | exact H
                    have Ny218 := Aside0.mk hy218
                    clear hy218
                    have H' := Aside0.mk H
                    clear H
                    have p206 : 0 ≤ (x20_1 : Int) := of_decide_eq_true (by first | (with_reducible assumption) | assumption)
                    have q206 : x20_1 < (t202.length : Int) := of_decide_eq_true (by first | (with_reducible assumption) | assumption)
                    obtain ⟨ad206, e206, hx206_0⟩ := Kd.at_string (Kd.R_reads' HO_7.out).2.2 x20_1 p206 q206
                    cases e206
                    replace p206 := eq_true p206
                    replace q206 := eq_true q206
                    go_wp2_with (first | ((with_reducible refine gate_callee (f := 40) rfl ?_); refine goesL_ (some 28) rfl rfl Tryz.func40 (by kernel_rfl) rfl #[.string (rdOf ByteArray.empty t202 x20_1)] rfl (by (try simp only [List.map_toArray, List.map_cons, List.map_nil]); first | done | rfl | (simp only [List.length_drop, List.length_take]; rfl)) ?_; (with_reducible refine (reeveref17_line.calls k1 (rdOf ByteArray.empty t202 x20_1) t207 t208 t209 true _ A13.out).mono ?_); rintro e w41 ⟨rfl, hb⟩; refine ⟨_, rfl, ?_⟩; have n0_ := Aside0.mk (Kd.R_below (by (with_reducible repeat (first | apply Kd.R_alloc | apply Kd.R_drewN | apply Kd.R_drew)); exact HO_7.out) hb); have n1_ := Aside0.mk (Kd.R_below (by (with_reducible repeat (first | apply Kd.R_alloc | apply Kd.R_drewN | apply Kd.R_drew)); exact HO_202000.out) hb); have n2_ := Aside0.mk (Kd.R_below (by (with_reducible repeat (first | apply Kd.R_alloc | apply Kd.R_drewN | apply Kd.R_drew)); exact HO_202001.out) hb); have n3_ := Aside0.mk (blk_below (g := gb200) (o := .cells #[.slice none 0 0, .slice none 0 0] 25 (0, 0)) (by (with_reducible repeat (first | refine blk_drewN ?_ _ | refine blk_drew ?_ | refine blk_alloc ?_ _)); exact BK200.out) hb); have n4_ := Aside0.mk (blk_below (g := gb201) (o := .cells #[u202000, u202001] 25 (0, 0)) (by (with_reducible repeat (first | refine blk_drewN ?_ _ | refine blk_drew ?_ | refine blk_alloc ?_ _)); exact BK201.out) hb); have n5_ := Aside0.mk (below_step (by repeat (first | (with_reducible first | exact HB.out | apply below_alloc | apply pw_below_drewN | apply below_drew1 | refine below_set ?_ GE200.out | refine below_set ?_ GE201.out) | exact HB.out)) hb); clear HO_7; clear HO_202000; clear HO_202001; clear BK200; clear BK201; clear HB; have HO_7 := n0_; have HO_202000 := n1_; have HO_202001 := n2_; have BK200 := n3_; have BK201 := n4_; have HB := n5_; clear n0_ n1_ n2_ n3_ n4_ n5_; (try clear hb); (try clear hb2); (try clear hk); (try clear hi)) | ((with_reducible refine gate_dst (N := 9) rfl ?_); (try (refine gate_guard (by rfl) ?_; dsimp only)); refine box_event ?hg (N := 9) ?hd (cs := #[.int .i64 0, .int .i64 0]) (t := 59) ?hr ?_; (case hd => rfl); (case hg => rfl); (case hr => first | (go_simp; done) | (go_simp; rfl)); intro gb211 hg w42 hbox hb; have n0_ := Aside0.mk (Kd.R_below (by (with_reducible repeat (first | apply Kd.R_alloc | apply Kd.R_drewN | apply Kd.R_drew)); exact HO_7.out) hb); have n1_ := Aside0.mk (Kd.R_below (by (with_reducible repeat (first | apply Kd.R_alloc | apply Kd.R_drewN | apply Kd.R_drew)); exact HO_202000.out) hb); have n2_ := Aside0.mk (Kd.R_below (Kd.R_elderB (by (with_reducible repeat (first | apply Kd.R_alloc | apply Kd.R_drewN | apply Kd.R_drew)); exact HO_202001.out) gb211 (Nat.le_of_eq hg.symm)) hb); have n3_ := Aside0.mk (blk_below (g := gb200) (o := .cells #[.slice none 0 0, .slice none 0 0] 25 (0, 0)) (by (with_reducible repeat (first | refine blk_drewN ?_ _ | refine blk_drew ?_ | refine blk_alloc ?_ _)); exact BK200.out) hb); have n4_ := Aside0.mk (blk_below (g := gb201) (o := .cells #[u202000, u202001] 25 (0, 0)) (by (with_reducible repeat (first | refine blk_drewN ?_ _ | refine blk_drew ?_ | refine blk_alloc ?_ _)); exact BK201.out) hb); have n5_ := Aside0.mk (below_step (by repeat (first | (with_reducible first | exact HB.out | apply below_alloc | apply pw_below_drewN | apply below_drew1 | refine below_set ?_ GE200.out | refine below_set ?_ GE201.out) | exact HB.out)) hb); have n6_ := Aside0.mk (hbox); have n7_ := Aside0.mk ((by rw [hg]; exact (below_size (by repeat (first | (with_reducible first | exact HB.out | apply below_alloc | apply pw_below_drewN | apply below_drew1 | refine below_set ?_ GE200.out | refine below_set ?_ GE201.out) | exact HB.out))) : w.heap.size ≤ gb211)); have n8_ := Aside0.mk ((by rw [hg]; exact (below_size (by repeat (first | (with_reducible first | exact HB.out | apply below_alloc | apply pw_below_drewN | apply below_drew1 | refine below_set ?_ GE200.out | refine below_set ?_ GE201.out) | exact HB.out))) : w.heap.size ≤ gb211)); have n9_ := Aside0.mk ((by rw [hg]; exact Nat.ne_of_lt (blk_lt (g := gb200) (o := .cells #[.slice none 0 0, .slice none 0 0] 25 (0, 0)) (by (with_reducible repeat (first | refine blk_drewN ?_ _ | refine blk_drew ?_ | refine blk_alloc ?_ _)); exact BK200.out)) : gb200 ≠ gb211)); have n10_ := Aside0.mk ((by rw [hg]; exact Nat.ne_of_gt (blk_lt (g := gb200) (o := .cells #[.slice none 0 0, .slice none 0 0] 25 (0, 0)) (by (with_reducible repeat (first | refine blk_drewN ?_ _ | refine blk_drew ?_ | refine blk_alloc ?_ _)); exact BK200.out)) : gb211 ≠ gb200)); have n11_ := Aside0.mk ((by rw [hg]; exact Nat.ne_of_lt (blk_lt (g := gb201) (o := .cells #[u202000, u202001] 25 (0, 0)) (by (with_reducible repeat (first | refine blk_drewN ?_ _ | refine blk_drew ?_ | refine blk_alloc ?_ _)); exact BK201.out)) : gb201 ≠ gb211)); have n12_ := Aside0.mk ((by rw [hg]; exact Nat.ne_of_gt (blk_lt (g := gb201) (o := .cells #[u202000, u202001] 25 (0, 0)) (by (with_reducible repeat (first | refine blk_drewN ?_ _ | refine blk_drew ?_ | refine blk_alloc ?_ _)); exact BK201.out)) : gb211 ≠ gb201)); clear HO_7; clear HO_202000; clear HO_202001; clear BK200; clear BK201; clear HB; have HO_7 := n0_; have HO_202000 := n1_; have HO_202001 := n2_; have BK200 := n3_; have BK201 := n4_; have HB := n5_; have BK211 := n6_; have GW211 := n7_; have GE211 := n8_; have NB200_211 := n9_; have NB211_200 := n10_; have NB201_211 := n11_; have NB211_201 := n12_; clear n0_ n1_ n2_ n3_ n4_ n5_ n6_ n7_ n8_ n9_ n10_ n11_ n12_; clear hb hbox hg; have hnb43 := NB211_200.out; have hnc43 := NB200_211.out; have hnb44 := NB211_201.out; have hnc44 := NB201_211.out; have hcz45_0 : w42.cell? ⟨gb211, 0, none⟩ = some (.int .i64 0) := (blk_cell BK211.out 0).trans rfl; have hcz45_1 : w42.cell? ⟨gb211, 1, none⟩ = some (.int .i64 0) := (blk_cell BK211.out 1).trans rfl; have hfz45_0 := blk_frozen BK211.out 0; have hfz45_1 := blk_frozen BK211.out 1; have hnb46 := NB201_200.out; have hnc46 := NB200_201.out; have hcz47_0 : w42.cell? ⟨gb201, 0, none⟩ = some (u202000) := (blk_cell BK201.out 0).trans rfl; have hcz47_1 : w42.cell? ⟨gb201, 1, none⟩ = some (u202001) := (blk_cell BK201.out 1).trans rfl; have hfz47_0 := blk_frozen BK201.out 0; have hfz47_1 := blk_frozen BK201.out 1) | ((with_reducible refine gate_builtin (b := .append) (xs := #[.tmp 54, .tmp 56]) rfl ?_); (try (refine gate_guard (by rfl) ?_; dsimp only)); at_builtin; refine Kd.R_append k59 (w0 := w) w.heap.size rfl (.tmp 54) (.tmp 56) 23 59 (.agg #[(.int .i64 0), (.int .i64 0)]) 16 rfl Tryz.underlying23 info59 rfl (by decide) (by omega) u202001 x202001_1 (⟨t207, t208⟩ : S59) [.int .i64 t207, .int .i64 t208] (fun k_ => k_ ≠ gb211) (fun _ => False) rfl (by first | (go_simp; done) | (go_simp; rfl)) ?aP (fun _ hk => hk.elim) ?aF ?aO ?aB ?aS ?aL ?_; (case aP => exact k59_mkM _ _ _ (⟨t207, t208⟩ : S59)); (case aB => exact (by repeat (first | (with_reducible first | exact HB.out | apply below_alloc | apply pw_below_drewN | apply below_drew1 | refine below_set ?_ GE200.out | refine below_set ?_ GE201.out | refine below_set ?_ GE211.out) | exact HB.out))); (case aF => exact (fun k_ hk => Kd.freshB (g := gb211) (o := .cells #[.int .i64 t207, .int .i64 t208] 59 (0, 0)) (by (with_reducible repeat (first | refine blk_drewN ?_ _ | refine blk_drew ?_ | refine blk_alloc ?_ _)); refine blk_put (cs := #[.int .i64 t207, .int .i64 0]) ?_ 1 _ rfl; (with_reducible repeat (first | refine blk_drewN ?_ _ | refine blk_drew ?_ | refine blk_alloc ?_ _)); refine blk_put (cs := #[.int .i64 0, .int .i64 0]) ?_ 0 _ rfl; (with_reducible repeat (first | refine blk_drewN ?_ _ | refine blk_drew ?_ | refine blk_alloc ?_ _)); exact BK211.out) k_ hk)); (case aO => exact (by (with_reducible repeat (first | apply Kd.R_alloc | apply Kd.R_drewN | apply Kd.R_drew)); exact Kd.R_mono (Kd.R_far (p := ⟨gb211, 1, none⟩) (Kd.R_far (p := ⟨gb211, 0, none⟩) (Kd.R_mono HO_202001.out (fun k_ hk => (⟨hk, hk.2⟩ : _ ∧ k_ ≠ gb211))) (fun _ hk => hk.2) (.int .i64 t207)) (fun _ hk => hk.2) (.int .i64 t208)) (fun _ hk => hk.1.2))); (case aS => exact (below_size (by repeat (first | (with_reducible first | exact HB.out | apply below_alloc | apply pw_below_drewN | apply below_drew1 | refine below_set ?_ GE200.out | refine below_set ?_ GE201.out | refine below_set ?_ GE211.out) | exact HB.out)))); (case aL => have := LMc40.out; omega); intro v219 w48 ho hb hg hat; rw [← Ny218.out] at ho; have n0_ := Aside0.mk (Kd.R_over' (by (with_reducible repeat (first | apply Kd.R_alloc | apply Kd.R_drewN | apply Kd.R_drew)); exact (Kd.R_mono (Kd.R_far (p := ⟨gb211, 1, none⟩) (Kd.R_far (p := ⟨gb211, 0, none⟩) (Kd.R_types HO_7.out BK211.out (by decide)) (fun _ hk => hk.2) (.int .i64 t207)) (fun _ hk => hk.2) (.int .i64 t208)) (fun _ h_ => h_.1))) (Kd.R_typed (by (with_reducible repeat (first | apply Kd.R_alloc | apply Kd.R_drewN | apply Kd.R_drew)); exact (Kd.R_mono (Kd.R_far (p := ⟨gb211, 1, none⟩) (Kd.R_far (p := ⟨gb211, 0, none⟩) (Kd.R_mono HO_202001.out (fun k_ hk => (⟨hk, hk.2⟩ : _ ∧ k_ ≠ gb211))) (fun _ hk => hk.2) (.int .i64 t207)) (fun _ hk => hk.2) (.int .i64 t208)) (fun _ h_ => h_.1)))) (by decide) hg); have n1_ := Aside0.mk (Kd.R_over' (by (with_reducible repeat (first | apply Kd.R_alloc | apply Kd.R_drewN | apply Kd.R_drew)); exact (Kd.R_mono (Kd.R_far (p := ⟨gb211, 1, none⟩) (Kd.R_far (p := ⟨gb211, 0, none⟩) (Kd.R_types HO_202000.out BK211.out (by decide)) (fun _ hk => hk.2) (.int .i64 t207)) (fun _ hk => hk.2) (.int .i64 t208)) (fun _ h_ => h_.1))) (Kd.R_typed (by (with_reducible repeat (first | apply Kd.R_alloc | apply Kd.R_drewN | apply Kd.R_drew)); exact (Kd.R_mono (Kd.R_far (p := ⟨gb211, 1, none⟩) (Kd.R_far (p := ⟨gb211, 0, none⟩) (Kd.R_mono HO_202001.out (fun k_ hk => (⟨hk, hk.2⟩ : _ ∧ k_ ≠ gb211))) (fun _ hk => hk.2) (.int .i64 t207)) (fun _ hk => hk.2) (.int .i64 t208)) (fun _ h_ => h_.1)))) (by decide) hg); have n2_ := Aside0.mk (blk_grown (g := gb200) (o := .cells #[.slice none 0 0, .slice none 0 0] 25 (0, 0)) (by (with_reducible repeat (first | refine blk_drewN ?_ _ | refine blk_drew ?_ | refine blk_alloc ?_ _)); refine blk_far ?_ NB200_211.out _; (with_reducible repeat (first | refine blk_drewN ?_ _ | refine blk_drew ?_ | refine blk_alloc ?_ _)); refine blk_far ?_ NB200_211.out _; (with_reducible repeat (first | refine blk_drewN ?_ _ | refine blk_drew ?_ | refine blk_alloc ?_ _)); exact BK200.out) hg (Kd.R_ne HO_202001.out BK200.out (by decide))); have n3_ := Aside0.mk (blk_grown (g := gb201) (o := .cells #[u202000, u202001] 25 (0, 0)) (by (with_reducible repeat (first | refine blk_drewN ?_ _ | refine blk_drew ?_ | refine blk_alloc ?_ _)); refine blk_far ?_ NB201_211.out _; (with_reducible repeat (first | refine blk_drewN ?_ _ | refine blk_drew ?_ | refine blk_alloc ?_ _)); refine blk_far ?_ NB201_211.out _; (with_reducible repeat (first | refine blk_drewN ?_ _ | refine blk_drew ?_ | refine blk_alloc ?_ _)); exact BK201.out) hg (Kd.R_ne HO_202001.out BK201.out (by decide))); have n4_ := Aside0.mk (blk_grown (g := gb211) (o := .cells #[.int .i64 t207, .int .i64 t208] 59 (0, 0)) (by (with_reducible repeat (first | refine blk_drewN ?_ _ | refine blk_drew ?_ | refine blk_alloc ?_ _)); refine blk_put (cs := #[.int .i64 t207, .int .i64 0]) ?_ 1 _ rfl; (with_reducible repeat (first | refine blk_drewN ?_ _ | refine blk_drew ?_ | refine blk_alloc ?_ _)); refine blk_put (cs := #[.int .i64 0, .int .i64 0]) ?_ 0 _ rfl; (with_reducible repeat (first | refine blk_drewN ?_ _ | refine blk_drew ?_ | refine blk_alloc ?_ _)); exact BK211.out) hg (Kd.R_away HO_202001.out (fun _ hk => hk.2))); have n5_ := Aside0.mk (hb); have n6_ := Aside0.mk (ho); clear HO_7; clear HO_202000; clear BK200; clear BK201; clear BK211; clear HB; clear HO_202001; have HO_7 := n0_; have HO_202000 := n1_; have BK200 := n2_; have BK201 := n3_; have BK211 := n4_; have HB := n5_; have HO220 := n6_; clear n0_ n1_ n2_ n3_ n4_ n5_ n6_; clear ho hb hg hat; obtain ⟨Ao49, co49, eo49⟩ := Kd.R_slice HO220.out; subst eo49; have hcz50_0 : w48.cell? ⟨gb201, 0, none⟩ = some (u202000) := (blk_cell BK201.out 0).trans rfl; have hcz50_1 : w48.cell? ⟨gb201, 1, none⟩ = some (u202001) := (blk_cell BK201.out 1).trans rfl; have hfz50_0 := blk_frozen BK201.out 0; have hfz50_1 := blk_frozen BK201.out 1))
                    go_roundg k1
                    case measure => have := HK1.out; omega
                    case rel => exact ⟨(x6_1), (wrap64 (x20_1 + 1)), (x202000_1), (y218), (u202000), (.slice Ao49 y218.length co49), (by first | rfl | (simp; done) | (simp [*]; done)), (by first | rfl | (simp; done) | (simp [*]; done)), H', ⟨by have := HK1.out; omega⟩, ⟨by (with_reducible repeat (first | apply Kd.R_alloc | apply Kd.R_drewN | apply Kd.R_drew)); exact Kd.R_mono (Kd.R_far (p := ⟨gb201, 1, none⟩) (Kd.R_types HO_7.out BK201.out (by decide)) (fun _ hk => hk.2) (.slice Ao49 y218.length co49)) (fun _ hk => hk.1)⟩, ⟨by (with_reducible repeat (first | apply Kd.R_alloc | apply Kd.R_drewN | apply Kd.R_drew)); exact Kd.R_mono (Kd.R_far (p := ⟨gb201, 1, none⟩) (Kd.R_types HO_202000.out BK201.out (by decide)) (fun _ hk => hk.2) (.slice Ao49 y218.length co49)) (fun _ hk => hk.1)⟩, ⟨by (with_reducible repeat (first | apply Kd.R_alloc | apply Kd.R_drewN | apply Kd.R_drew)); exact Kd.R_mono (Kd.R_far (p := ⟨gb201, 1, none⟩) (Kd.R_types HO220.out BK201.out (by decide)) (fun _ hk => hk.2) (.slice Ao49 y218.length co49)) (fun _ hk => trivial)⟩, ⟨by (with_reducible repeat (first | refine blk_drewN ?_ _ | refine blk_drew ?_ | refine blk_alloc ?_ _)); refine blk_far ?_ NB200_201.out _; (with_reducible repeat (first | refine blk_drewN ?_ _ | refine blk_drew ?_ | refine blk_alloc ?_ _)); exact BK200.out⟩, ⟨by (with_reducible repeat (first | refine blk_drewN ?_ _ | refine blk_drew ?_ | refine blk_alloc ?_ _)); refine blk_put (cs := #[u202000, u202001]) ?_ 1 _ rfl; (with_reducible repeat (first | refine blk_drewN ?_ _ | refine blk_drew ?_ | refine blk_alloc ?_ _)); exact BK201.out⟩, ⟨by repeat (first | (with_reducible first | exact HB.out | apply below_alloc | apply pw_below_drewN | apply below_drew1 | refine below_set ?_ GE200.out | refine below_set ?_ GE201.out | refine below_set ?_ GE211.out) | exact HB.out)⟩⟩
                  · rw [if_neg c40] at H
                    exact absurd H (by simp)
              · replace c14 := Bool.eq_false_iff.mpr c14
                subst c14
                have H1 : (some (([] : List ByteArray), ([] : List (S59)), wrap64 (x20_1 + 1), 2)) = some (r1, r2, r3, r4) := by rw [if_neg (show ¬ (false = true) by decide)] at H; exact H
                clear H
                have H := H1
                clear H1
                simp only [Option.some.injEq, Prod.mk.injEq] at H
                obtain ⟨rfl, rfl, rfl, rfl⟩ := H
                have p206 : 0 ≤ (x20_1 : Int) := of_decide_eq_true (by first | (with_reducible assumption) | assumption)
                have q206 : x20_1 < (t202.length : Int) := of_decide_eq_true (by first | (with_reducible assumption) | assumption)
                obtain ⟨ad206, e206, hx206_0⟩ := Kd.at_string (Kd.R_reads' HO_7.out).2.2 x20_1 p206 q206
                cases e206
                replace p206 := eq_true p206
                replace q206 := eq_true q206
                go_wp2_with (first | ((with_reducible refine gate_callee (f := 40) rfl ?_); refine goesL_ (some 28) rfl rfl Tryz.func40 (by kernel_rfl) rfl #[.string (rdOf ByteArray.empty t202 x20_1)] rfl (by (try simp only [List.map_toArray, List.map_cons, List.map_nil]); first | done | rfl | (simp only [List.length_drop, List.length_take]; rfl)) ?_; (with_reducible refine (reeveref17_line.calls k1 (rdOf ByteArray.empty t202 x20_1) t207 t208 t209 false _ A13.out).mono ?_); rintro e w51 ⟨rfl, hb⟩; refine ⟨_, rfl, ?_⟩; have n0_ := Aside0.mk (Kd.R_below (by (with_reducible repeat (first | apply Kd.R_alloc | apply Kd.R_drewN | apply Kd.R_drew)); exact HO_7.out) hb); have n1_ := Aside0.mk (Kd.R_below (by (with_reducible repeat (first | apply Kd.R_alloc | apply Kd.R_drewN | apply Kd.R_drew)); exact HO_202000.out) hb); have n2_ := Aside0.mk (Kd.R_below (by (with_reducible repeat (first | apply Kd.R_alloc | apply Kd.R_drewN | apply Kd.R_drew)); exact HO_202001.out) hb); have n3_ := Aside0.mk (blk_below (g := gb200) (o := .cells #[.slice none 0 0, .slice none 0 0] 25 (0, 0)) (by (with_reducible repeat (first | refine blk_drewN ?_ _ | refine blk_drew ?_ | refine blk_alloc ?_ _)); exact BK200.out) hb); have n4_ := Aside0.mk (blk_below (g := gb201) (o := .cells #[u202000, u202001] 25 (0, 0)) (by (with_reducible repeat (first | refine blk_drewN ?_ _ | refine blk_drew ?_ | refine blk_alloc ?_ _)); exact BK201.out) hb); have n5_ := Aside0.mk (below_step (by repeat (first | (with_reducible first | exact HB.out | apply below_alloc | apply pw_below_drewN | apply below_drew1 | refine below_set ?_ GE200.out | refine below_set ?_ GE201.out) | exact HB.out)) hb); clear HO_7; clear HO_202000; clear HO_202001; clear BK200; clear BK201; clear HB; have HO_7 := n0_; have HO_202000 := n1_; have HO_202001 := n2_; have BK200 := n3_; have BK201 := n4_; have HB := n5_; clear n0_ n1_ n2_ n3_ n4_ n5_; (try clear hb); (try clear hb2); (try clear hk); (try clear hi)) | ((with_reducible refine gate_dst (N := 9) rfl ?_); (try (refine gate_guard (by rfl) ?_; dsimp only)); refine box_event ?hg (N := 9) ?hd (cs := #[.int .i64 0, .int .i64 0]) (t := 59) ?hr ?_; (case hd => rfl); (case hg => rfl); (case hr => first | (go_simp; done) | (go_simp; rfl)); intro gb211 hg w52 hbox hb; have n0_ := Aside0.mk (Kd.R_below (by (with_reducible repeat (first | apply Kd.R_alloc | apply Kd.R_drewN | apply Kd.R_drew)); exact HO_7.out) hb); have n1_ := Aside0.mk (Kd.R_below (by (with_reducible repeat (first | apply Kd.R_alloc | apply Kd.R_drewN | apply Kd.R_drew)); exact HO_202000.out) hb); have n2_ := Aside0.mk (Kd.R_below (Kd.R_elderB (by (with_reducible repeat (first | apply Kd.R_alloc | apply Kd.R_drewN | apply Kd.R_drew)); exact HO_202001.out) gb211 (Nat.le_of_eq hg.symm)) hb); have n3_ := Aside0.mk (blk_below (g := gb200) (o := .cells #[.slice none 0 0, .slice none 0 0] 25 (0, 0)) (by (with_reducible repeat (first | refine blk_drewN ?_ _ | refine blk_drew ?_ | refine blk_alloc ?_ _)); exact BK200.out) hb); have n4_ := Aside0.mk (blk_below (g := gb201) (o := .cells #[u202000, u202001] 25 (0, 0)) (by (with_reducible repeat (first | refine blk_drewN ?_ _ | refine blk_drew ?_ | refine blk_alloc ?_ _)); exact BK201.out) hb); have n5_ := Aside0.mk (below_step (by repeat (first | (with_reducible first | exact HB.out | apply below_alloc | apply pw_below_drewN | apply below_drew1 | refine below_set ?_ GE200.out | refine below_set ?_ GE201.out) | exact HB.out)) hb); have n6_ := Aside0.mk (hbox); have n7_ := Aside0.mk ((by rw [hg]; exact (below_size (by repeat (first | (with_reducible first | exact HB.out | apply below_alloc | apply pw_below_drewN | apply below_drew1 | refine below_set ?_ GE200.out | refine below_set ?_ GE201.out) | exact HB.out))) : w.heap.size ≤ gb211)); have n8_ := Aside0.mk ((by rw [hg]; exact (below_size (by repeat (first | (with_reducible first | exact HB.out | apply below_alloc | apply pw_below_drewN | apply below_drew1 | refine below_set ?_ GE200.out | refine below_set ?_ GE201.out) | exact HB.out))) : w.heap.size ≤ gb211)); have n9_ := Aside0.mk ((by rw [hg]; exact Nat.ne_of_lt (blk_lt (g := gb200) (o := .cells #[.slice none 0 0, .slice none 0 0] 25 (0, 0)) (by (with_reducible repeat (first | refine blk_drewN ?_ _ | refine blk_drew ?_ | refine blk_alloc ?_ _)); exact BK200.out)) : gb200 ≠ gb211)); have n10_ := Aside0.mk ((by rw [hg]; exact Nat.ne_of_gt (blk_lt (g := gb200) (o := .cells #[.slice none 0 0, .slice none 0 0] 25 (0, 0)) (by (with_reducible repeat (first | refine blk_drewN ?_ _ | refine blk_drew ?_ | refine blk_alloc ?_ _)); exact BK200.out)) : gb211 ≠ gb200)); have n11_ := Aside0.mk ((by rw [hg]; exact Nat.ne_of_lt (blk_lt (g := gb201) (o := .cells #[u202000, u202001] 25 (0, 0)) (by (with_reducible repeat (first | refine blk_drewN ?_ _ | refine blk_drew ?_ | refine blk_alloc ?_ _)); exact BK201.out)) : gb201 ≠ gb211)); have n12_ := Aside0.mk ((by rw [hg]; exact Nat.ne_of_gt (blk_lt (g := gb201) (o := .cells #[u202000, u202001] 25 (0, 0)) (by (with_reducible repeat (first | refine blk_drewN ?_ _ | refine blk_drew ?_ | refine blk_alloc ?_ _)); exact BK201.out)) : gb211 ≠ gb201)); clear HO_7; clear HO_202000; clear HO_202001; clear BK200; clear BK201; clear HB; have HO_7 := n0_; have HO_202000 := n1_; have HO_202001 := n2_; have BK200 := n3_; have BK201 := n4_; have HB := n5_; have BK211 := n6_; have GW211 := n7_; have GE211 := n8_; have NB200_211 := n9_; have NB211_200 := n10_; have NB201_211 := n11_; have NB211_201 := n12_; clear n0_ n1_ n2_ n3_ n4_ n5_ n6_ n7_ n8_ n9_ n10_ n11_ n12_; clear hb hbox hg; have hnb53 := NB211_200.out; have hnc53 := NB200_211.out; have hnb54 := NB211_201.out; have hnc54 := NB201_211.out; have hcz55_0 : w52.cell? ⟨gb211, 0, none⟩ = some (.int .i64 0) := (blk_cell BK211.out 0).trans rfl; have hcz55_1 : w52.cell? ⟨gb211, 1, none⟩ = some (.int .i64 0) := (blk_cell BK211.out 1).trans rfl; have hfz55_0 := blk_frozen BK211.out 0; have hfz55_1 := blk_frozen BK211.out 1; have hnb56 := NB200_201.out; have hnc56 := NB201_200.out; have hcz57_0 : w52.cell? ⟨gb200, 0, none⟩ = some (.slice none 0 0) := (blk_cell BK200.out 0).trans rfl; have hcz57_1 : w52.cell? ⟨gb200, 1, none⟩ = some (.slice none 0 0) := (blk_cell BK200.out 1).trans rfl; have hfz57_0 := blk_frozen BK200.out 0; have hfz57_1 := blk_frozen BK200.out 1))
                refine bodyPost_ret (results_ctt rfl _ _ gb200 25 #[.slice none 0 0, .slice none 0 0] (0, 0) _ rfl (by (with_reducible repeat (first | refine blk_drewN ?_ _ | refine blk_drew ?_ | refine blk_alloc ?_ _)); refine blk_put (cs := #[.slice none 0 0, .slice none 0 0]) ?_ 1 _ rfl; (with_reducible repeat (first | refine blk_drewN ?_ _ | refine blk_drew ?_ | refine blk_alloc ?_ _)); refine blk_put (cs := #[.slice none 0 0, .slice none 0 0]) ?_ 0 _ rfl; (with_reducible repeat (first | refine blk_drewN ?_ _ | refine blk_drew ?_ | refine blk_alloc ?_ _)); refine blk_far ?_ NB200_211.out _; (with_reducible repeat (first | refine blk_drewN ?_ _ | refine blk_drew ?_ | refine blk_alloc ?_ _)); refine blk_far ?_ NB200_211.out _; (with_reducible repeat (first | refine blk_drewN ?_ _ | refine blk_drew ?_ | refine blk_alloc ?_ _)); exact BK200.out) Tryz.underlying25 rfl (by kernel_rfl)) rfl ?_
                exact ⟨_, _, by first | rfl | (simp [errW_none, errW_some] <;> rfl) | (simp [*, errW_none, errW_some] <;> rfl), by first | exact Kd.R_nil _ _ _ _ _ | exact Kd.N_nil _ _ _ _ _ | exact Kd.V_nil _ _ _ _ _ | exact Kd.Q_nil _ _ _ _ _ | exact Kd.S_nil _ _ _ _ _, by first | exact Kd.R_nil _ _ _ _ _ | exact Kd.N_nil _ _ _ _ _ | exact Kd.V_nil _ _ _ _ _ | exact Kd.Q_nil _ _ _ _ _ | exact Kd.S_nil _ _ _ _ _, by repeat (first | (with_reducible first | exact HB.out | apply below_alloc | apply pw_below_drewN | apply below_drew1 | refine below_set ?_ GE200.out | refine below_set ?_ GE201.out | refine below_set ?_ GE211.out) | exact HB.out)⟩
            · rw [if_neg c12] at H
              exact absurd H (by simp)
          · rw [if_neg c11] at H
            exact absurd H (by simp)
        · rw [if_neg c10] at H
          have c10b0 : decide (x20_1 < (t202.length : Int)) = false := decide_eq_false c10
          clear c10
          by_cases c58 : x6_1 = true
          · subst c58
            have H1 : (some (([] : List ByteArray), ([] : List (S59)), 0, 2)) = some (r1, r2, r3, r4) := by rw [if_pos rfl] at H; exact H
            clear H
            have H := H1
            clear H1
            simp only [Option.some.injEq, Prod.mk.injEq] at H
            obtain ⟨rfl, rfl, rfl, rfl⟩ := H
            have hnb59 := NB200_201.out
            have hnc59 := NB201_200.out
            have hcz60_0 : wr.cell? ⟨gb200, 0, none⟩ = some (.slice none 0 0) := (blk_cell BK200.out 0).trans rfl
            have hcz60_1 : wr.cell? ⟨gb200, 1, none⟩ = some (.slice none 0 0) := (blk_cell BK200.out 1).trans rfl
            have hfz60_0 := blk_frozen BK200.out 0
            have hfz60_1 := blk_frozen BK200.out 1
            go_wp2
            refine bodyPost_ret (results_ctt rfl _ _ gb200 25 #[.slice none 0 0, .slice none 0 0] (0, 0) _ rfl (by (with_reducible repeat (first | refine blk_drewN ?_ _ | refine blk_drew ?_ | refine blk_alloc ?_ _)); refine blk_put (cs := #[.slice none 0 0, .slice none 0 0]) ?_ 1 _ rfl; (with_reducible repeat (first | refine blk_drewN ?_ _ | refine blk_drew ?_ | refine blk_alloc ?_ _)); refine blk_put (cs := #[.slice none 0 0, .slice none 0 0]) ?_ 0 _ rfl; (with_reducible repeat (first | refine blk_drewN ?_ _ | refine blk_drew ?_ | refine blk_alloc ?_ _)); exact BK200.out) Tryz.underlying25 rfl (by kernel_rfl)) rfl ?_
            exact ⟨_, _, by first | rfl | (simp [errW_none, errW_some] <;> rfl) | (simp [*, errW_none, errW_some] <;> rfl), by first | exact Kd.R_nil _ _ _ _ _ | exact Kd.N_nil _ _ _ _ _ | exact Kd.V_nil _ _ _ _ _ | exact Kd.Q_nil _ _ _ _ _ | exact Kd.S_nil _ _ _ _ _, by first | exact Kd.R_nil _ _ _ _ _ | exact Kd.N_nil _ _ _ _ _ | exact Kd.V_nil _ _ _ _ _ | exact Kd.Q_nil _ _ _ _ _ | exact Kd.S_nil _ _ _ _ _, by repeat (first | (with_reducible first | exact HB.out | apply below_alloc | apply pw_below_drewN | apply below_drew1 | refine below_set ?_ GE200.out | refine below_set ?_ GE201.out) | exact HB.out)⟩
          · replace c58 := Bool.eq_false_iff.mpr c58
            subst c58
            have H1 : ((reeveref17_Formed.f k1 x202000_1 x202001_1).bind fun t205 => (if t205 = true then (some (x202000_1, x202001_1, 0, 0)) else (some (([] : List ByteArray), ([] : List (S59)), 0, 2)))) = some (r1, r2, r3, r4) := by rw [if_neg (show ¬ (false = true) by decide)] at H; exact H
            clear H
            have H := H1
            clear H1
            replace H := Option.bind_eq_some_iff.mp H
            obtain ⟨t205, A610, H⟩ := H
            replace H : (if t205 = true then (some (x202000_1, x202001_1, 0, 0)) else (some (([] : List ByteArray), ([] : List (S59)), 0, 2))) = some (r1, r2, r3, r4) := H
            have A61 := Aside0.mk A610
            clear A610
            by_cases c62 : t205 = true
            · subst c62
              have H1 : (some (x202000_1, x202001_1, 0, 0)) = some (r1, r2, r3, r4) := by rw [if_pos rfl] at H; exact H
              clear H
              have H := H1
              clear H1
              simp only [Option.some.injEq, Prod.mk.injEq] at H
              obtain ⟨rfl, rfl, rfl, rfl⟩ := H
              have hnb63 := NB201_200.out
              have hnc63 := NB200_201.out
              have hcz64_0 : wr.cell? ⟨gb201, 0, none⟩ = some (u202000) := (blk_cell BK201.out 0).trans rfl
              have hcz64_1 : wr.cell? ⟨gb201, 1, none⟩ = some (u202001) := (blk_cell BK201.out 1).trans rfl
              have hfz64_0 := blk_frozen BK201.out 0
              have hfz64_1 := blk_frozen BK201.out 1
              obtain ⟨Ao65, co65, eo65⟩ := Kd.R_slice HO_202000.out
              subst eo65
              obtain ⟨Ao66, co66, eo66⟩ := Kd.R_slice HO_202001.out
              subst eo66
              go_wp2_with (first | (go_at_call 41; (with_reducible refine (reeveref17_Formed.calls k1 _ _ x202000_1 _ _ x202001_1 true _ ?side1 ?side2 ?side3 ?side4 A61.out).mono ?_); (case side1 => repeat (first | exact (Kd.R_reads' HO_202000.out).2.2 | (with_reducible refine Kd.C_alloc ?_ _) | (with_reducible refine Kd.C_drewN ?_ _) | (with_reducible refine Kd.C_drew ?_))); (case side2 => exact (Kd.R_reads' HO_202000.out).2.1); (case side3 => repeat (first | exact (Kd.R_reads' HO_202001.out).2.2 | (with_reducible refine Kd.C_alloc ?_ _) | (with_reducible refine Kd.C_drewN ?_ _) | (with_reducible refine Kd.C_drew ?_))); (case side4 => exact (Kd.R_reads' HO_202001.out).2.1); rintro e w67 ⟨rfl, hb⟩; have n0_ := Aside0.mk (Kd.R_below (by (with_reducible repeat (first | apply Kd.R_alloc | apply Kd.R_drewN | apply Kd.R_drew)); exact HO_7.out) hb); have n1_ := Aside0.mk (Kd.R_below (by (with_reducible repeat (first | apply Kd.R_alloc | apply Kd.R_drewN | apply Kd.R_drew)); exact HO_202000.out) hb); have n2_ := Aside0.mk (Kd.R_below (by (with_reducible repeat (first | apply Kd.R_alloc | apply Kd.R_drewN | apply Kd.R_drew)); exact HO_202001.out) hb); have n3_ := Aside0.mk (blk_below (g := gb200) (o := .cells #[.slice none 0 0, .slice none 0 0] 25 (0, 0)) (by (with_reducible repeat (first | refine blk_drewN ?_ _ | refine blk_drew ?_ | refine blk_alloc ?_ _)); exact BK200.out) hb); have n4_ := Aside0.mk (blk_below (g := gb201) (o := .cells #[.slice Ao65 x202000_1.length co65, .slice Ao66 x202001_1.length co66] 25 (0, 0)) (by (with_reducible repeat (first | refine blk_drewN ?_ _ | refine blk_drew ?_ | refine blk_alloc ?_ _)); exact BK201.out) hb); have n5_ := Aside0.mk (below_step (by repeat (first | (with_reducible first | exact HB.out | apply below_alloc | apply pw_below_drewN | apply below_drew1 | refine below_set ?_ GE200.out | refine below_set ?_ GE201.out) | exact HB.out)) hb); clear HO_7; clear HO_202000; clear HO_202001; clear BK200; clear BK201; clear HB; have HO_7 := n0_; have HO_202000 := n1_; have HO_202001 := n2_; have BK200 := n3_; have BK201 := n4_; have HB := n5_; clear n0_ n1_ n2_ n3_ n4_ n5_; (try clear hb); (try clear hb2); (try clear hk); (try clear hi); have hcz68_0 : w67.cell? ⟨gb201, 0, none⟩ = some (.slice Ao65 x202000_1.length co65) := (blk_cell BK201.out 0).trans rfl; have hcz68_1 : w67.cell? ⟨gb201, 1, none⟩ = some (.slice Ao66 x202001_1.length co66) := (blk_cell BK201.out 1).trans rfl; have hfz68_0 := blk_frozen BK201.out 0; have hfz68_1 := blk_frozen BK201.out 1; have hcz69_0 : w67.cell? ⟨gb200, 0, none⟩ = some (.slice none 0 0) := (blk_cell BK200.out 0).trans rfl; have hcz69_1 : w67.cell? ⟨gb200, 1, none⟩ = some (.slice none 0 0) := (blk_cell BK200.out 1).trans rfl; have hfz69_0 := blk_frozen BK200.out 0; have hfz69_1 := blk_frozen BK200.out 1))
              refine bodyPost_ret (results_ctt rfl _ _ gb200 25 #[.slice Ao65 x202000_1.length co65, .slice Ao66 x202001_1.length co66] (0, 0) _ rfl (by (with_reducible repeat (first | refine blk_drewN ?_ _ | refine blk_drew ?_ | refine blk_alloc ?_ _)); refine blk_put (cs := #[.slice Ao65 x202000_1.length co65, .slice none 0 0]) ?_ 1 _ rfl; (with_reducible repeat (first | refine blk_drewN ?_ _ | refine blk_drew ?_ | refine blk_alloc ?_ _)); refine blk_put (cs := #[.slice none 0 0, .slice none 0 0]) ?_ 0 _ rfl; (with_reducible repeat (first | refine blk_drewN ?_ _ | refine blk_drew ?_ | refine blk_alloc ?_ _)); exact BK200.out) Tryz.underlying25 rfl (by kernel_rfl)) rfl ?_
              exact ⟨_, _, by first | rfl | (simp [errW_none, errW_some] <;> rfl) | (simp [*, errW_none, errW_some] <;> rfl), by (with_reducible repeat (first | apply Kd.R_alloc | apply Kd.R_drewN | apply Kd.R_drew)); exact Kd.R_mono (Kd.R_far (p := ⟨gb200, 1, none⟩) (Kd.R_far (p := ⟨gb200, 0, none⟩) (Kd.R_types HO_202000.out BK200.out (by decide)) (fun _ hk => hk.2) (.slice Ao65 x202000_1.length co65)) (fun _ hk => hk.2) (.slice Ao66 x202001_1.length co66)) (fun _ hk => trivial), by (with_reducible repeat (first | apply Kd.R_alloc | apply Kd.R_drewN | apply Kd.R_drew)); exact Kd.R_mono (Kd.R_far (p := ⟨gb200, 1, none⟩) (Kd.R_far (p := ⟨gb200, 0, none⟩) (Kd.R_types HO_202001.out BK200.out (by decide)) (fun _ hk => hk.2) (.slice Ao65 x202000_1.length co65)) (fun _ hk => hk.2) (.slice Ao66 x202001_1.length co66)) (fun _ hk => trivial), by repeat (first | (with_reducible first | exact HB.out | apply below_alloc | apply pw_below_drewN | apply below_drew1 | refine below_set ?_ GE200.out | refine below_set ?_ GE201.out) | exact HB.out)⟩
            · replace c62 := Bool.eq_false_iff.mpr c62
              subst c62
              have H1 : (some (([] : List ByteArray), ([] : List (S59)), 0, 2)) = some (r1, r2, r3, r4) := by rw [if_neg (show ¬ (false = true) by decide)] at H; exact H
              clear H
              have H := H1
              clear H1
              simp only [Option.some.injEq, Prod.mk.injEq] at H
              obtain ⟨rfl, rfl, rfl, rfl⟩ := H
              have hnb70 := NB201_200.out
              have hnc70 := NB200_201.out
              have hcz71_0 : wr.cell? ⟨gb201, 0, none⟩ = some (u202000) := (blk_cell BK201.out 0).trans rfl
              have hcz71_1 : wr.cell? ⟨gb201, 1, none⟩ = some (u202001) := (blk_cell BK201.out 1).trans rfl
              have hfz71_0 := blk_frozen BK201.out 0
              have hfz71_1 := blk_frozen BK201.out 1
              obtain ⟨Ao72, co72, eo72⟩ := Kd.R_slice HO_202000.out
              subst eo72
              obtain ⟨Ao73, co73, eo73⟩ := Kd.R_slice HO_202001.out
              subst eo73
              go_wp2_with (first | (go_at_call 41; (with_reducible refine (reeveref17_Formed.calls k1 _ _ x202000_1 _ _ x202001_1 false _ ?side1 ?side2 ?side3 ?side4 A61.out).mono ?_); (case side1 => repeat (first | exact (Kd.R_reads' HO_202000.out).2.2 | (with_reducible refine Kd.C_alloc ?_ _) | (with_reducible refine Kd.C_drewN ?_ _) | (with_reducible refine Kd.C_drew ?_))); (case side2 => exact (Kd.R_reads' HO_202000.out).2.1); (case side3 => repeat (first | exact (Kd.R_reads' HO_202001.out).2.2 | (with_reducible refine Kd.C_alloc ?_ _) | (with_reducible refine Kd.C_drewN ?_ _) | (with_reducible refine Kd.C_drew ?_))); (case side4 => exact (Kd.R_reads' HO_202001.out).2.1); rintro e w74 ⟨rfl, hb⟩; have n0_ := Aside0.mk (Kd.R_below (by (with_reducible repeat (first | apply Kd.R_alloc | apply Kd.R_drewN | apply Kd.R_drew)); exact HO_7.out) hb); have n1_ := Aside0.mk (Kd.R_below (by (with_reducible repeat (first | apply Kd.R_alloc | apply Kd.R_drewN | apply Kd.R_drew)); exact HO_202000.out) hb); have n2_ := Aside0.mk (Kd.R_below (by (with_reducible repeat (first | apply Kd.R_alloc | apply Kd.R_drewN | apply Kd.R_drew)); exact HO_202001.out) hb); have n3_ := Aside0.mk (blk_below (g := gb200) (o := .cells #[.slice none 0 0, .slice none 0 0] 25 (0, 0)) (by (with_reducible repeat (first | refine blk_drewN ?_ _ | refine blk_drew ?_ | refine blk_alloc ?_ _)); exact BK200.out) hb); have n4_ := Aside0.mk (blk_below (g := gb201) (o := .cells #[.slice Ao72 x202000_1.length co72, .slice Ao73 x202001_1.length co73] 25 (0, 0)) (by (with_reducible repeat (first | refine blk_drewN ?_ _ | refine blk_drew ?_ | refine blk_alloc ?_ _)); exact BK201.out) hb); have n5_ := Aside0.mk (below_step (by repeat (first | (with_reducible first | exact HB.out | apply below_alloc | apply pw_below_drewN | apply below_drew1 | refine below_set ?_ GE200.out | refine below_set ?_ GE201.out) | exact HB.out)) hb); clear HO_7; clear HO_202000; clear HO_202001; clear BK200; clear BK201; clear HB; have HO_7 := n0_; have HO_202000 := n1_; have HO_202001 := n2_; have BK200 := n3_; have BK201 := n4_; have HB := n5_; clear n0_ n1_ n2_ n3_ n4_ n5_; (try clear hb); (try clear hb2); (try clear hk); (try clear hi); have hcz75_0 : w74.cell? ⟨gb200, 0, none⟩ = some (.slice none 0 0) := (blk_cell BK200.out 0).trans rfl; have hcz75_1 : w74.cell? ⟨gb200, 1, none⟩ = some (.slice none 0 0) := (blk_cell BK200.out 1).trans rfl; have hfz75_0 := blk_frozen BK200.out 0; have hfz75_1 := blk_frozen BK200.out 1))
              refine bodyPost_ret (results_ctt rfl _ _ gb200 25 #[.slice none 0 0, .slice none 0 0] (0, 0) _ rfl (by (with_reducible repeat (first | refine blk_drewN ?_ _ | refine blk_drew ?_ | refine blk_alloc ?_ _)); refine blk_put (cs := #[.slice none 0 0, .slice none 0 0]) ?_ 1 _ rfl; (with_reducible repeat (first | refine blk_drewN ?_ _ | refine blk_drew ?_ | refine blk_alloc ?_ _)); refine blk_put (cs := #[.slice none 0 0, .slice none 0 0]) ?_ 0 _ rfl; (with_reducible repeat (first | refine blk_drewN ?_ _ | refine blk_drew ?_ | refine blk_alloc ?_ _)); exact BK200.out) Tryz.underlying25 rfl (by kernel_rfl)) rfl ?_
              exact ⟨_, _, by first | rfl | (simp [errW_none, errW_some] <;> rfl) | (simp [*, errW_none, errW_some] <;> rfl), by first | exact Kd.R_nil _ _ _ _ _ | exact Kd.N_nil _ _ _ _ _ | exact Kd.V_nil _ _ _ _ _ | exact Kd.Q_nil _ _ _ _ _ | exact Kd.S_nil _ _ _ _ _, by first | exact Kd.R_nil _ _ _ _ _ | exact Kd.N_nil _ _ _ _ _ | exact Kd.V_nil _ _ _ _ _ | exact Kd.Q_nil _ _ _ _ _ | exact Kd.S_nil _ _ _ _ _, by repeat (first | (with_reducible first | exact HB.out | apply below_alloc | apply pw_below_drewN | apply below_drew1 | refine below_set ?_ GE200.out | refine below_set ?_ GE201.out) | exact HB.out)⟩


attribute [local go_sem high] eqA59
/-! ### reeveref17_Same: function 24 -/
mutual
def reeveref17_Same.j0 : Nat → Bool → List ByteArray → List (S59) → List ByteArray → List (S59) → Option (Bool)
  | 0, _, _, _, _, _ => none
  | k + 1, x22, x222000, x222001, x223000, x223001 => if x22 = true then (some false) else (reeveref17_Same.l0 k (x222000.length : Int) 0 x222000 x222001 x223000 x223001)
def reeveref17_Same.l0 : Nat → Int → Int → List ByteArray → List (S59) → List ByteArray → List (S59) → Option (Bool)
  | 0, _, _, _, _, _, _ => none
  | k + 1, x25, x26, x222000, x222001, x223000, x223001 => if x26 < x25 then (if 0 ≤ x26 then (if x26 < (x222000.length : Int) then (if x26 < (x223000.length : Int) then (if (rdOf ByteArray.empty x222000 x26).toList = (rdOf ByteArray.empty x223000 x26).toList then (reeveref17_Same.l0 k x25 (wrap64 (x26 + 1)) x222000 x222001 x223000 x223001) else (some false)) else (none)) else (none)) else (none)) else (reeveref17_Same.l1 k (x222001.length : Int) 0 x222000 x222001 x223000 x223001)
def reeveref17_Same.l1 : Nat → Int → Int → List ByteArray → List (S59) → List ByteArray → List (S59) → Option (Bool)
  | 0, _, _, _, _, _, _ => none
  | k + 1, x43, x44, x222000, x222001, x223000, x223001 => if x44 < x43 then (if 0 ≤ x44 then (if x44 < (x222001.length : Int) then (if x44 < (x223001.length : Int) then (if (!(((rd_T59 x222001 x44).f0) == ((rd_T59 x223001 x44).f0)) || (!(((rd_T59 x222001 x44).f1) == ((rd_T59 x223001 x44).f1)))) = true then (some false) else (reeveref17_Same.l1 k x43 (wrap64 (x44 + 1)) x222000 x222001 x223000 x223001)) else (none)) else (none)) else (none)) else (some true)
end
def reeveref17_Same.f (k : Nat) (l0_0 : List ByteArray) (l0_1 : List (S59)) (l1_0 : List ByteArray) (l1_1 : List (S59)) : Option (Bool) := if (l0_0.length : Int) = (l1_0.length : Int) then (reeveref17_Same.j0 k ((l0_1.length : Int) != (l1_1.length : Int)) l0_0 l0_1 l1_0 l1_1) else (reeveref17_Same.j0 k true l0_0 l0_1 l1_0 l1_1)
theorem reeveref17_Same.mono_l : ∀ k, (∀ y0 y1 y2 y3 y4, LeO (reeveref17_Same.j0 k y0 y1 y2 y3 y4) (reeveref17_Same.j0 (k + 1) y0 y1 y2 y3 y4)) ∧ (∀ y0 y1 y2 y3 y4 y5, LeO (reeveref17_Same.l0 k y0 y1 y2 y3 y4 y5) (reeveref17_Same.l0 (k + 1) y0 y1 y2 y3 y4 y5)) ∧ (∀ y0 y1 y2 y3 y4 y5, LeO (reeveref17_Same.l1 k y0 y1 y2 y3 y4 y5) (reeveref17_Same.l1 (k + 1) y0 y1 y2 y3 y4 y5))
  | 0 => ⟨fun _ _ _ _ _ r h => by simp [reeveref17_Same.j0] at h, fun _ _ _ _ _ _ r h => by simp [reeveref17_Same.l0] at h, fun _ _ _ _ _ _ r h => by simp [reeveref17_Same.l1] at h⟩
  | k + 1 => by
    obtain ⟨ih0, ih1, ih2⟩ := reeveref17_Same.mono_l k
    refine ⟨?_, ?_, ?_⟩
    · intro y0 y1 y2 y3 y4
      unfold reeveref17_Same.j0
      repeat' first
      | (with_reducible exact ih0 _ _ _ _ _)
      | (with_reducible exact ih1 _ _ _ _ _ _)
      | (with_reducible exact ih2 _ _ _ _ _ _)
      | (with_reducible exact LeO.refl _)
      | (with_reducible exact LeO.none _)
      | (with_reducible refine LeO.ite ?_ ?_)
      | (with_reducible refine LeO.bind ?_ (fun _ => ?_))
      | exact ih0 _ _ _ _ _
      | exact ih1 _ _ _ _ _ _
      | exact ih2 _ _ _ _ _ _
      | exact LeO.none _
      | refine LeO.ite ?_ ?_
      | refine LeO.bind ?_ (fun _ => ?_)
    · intro y0 y1 y2 y3 y4 y5
      unfold reeveref17_Same.l0
      repeat' first
      | (with_reducible exact ih0 _ _ _ _ _)
      | (with_reducible exact ih1 _ _ _ _ _ _)
      | (with_reducible exact ih2 _ _ _ _ _ _)
      | (with_reducible exact LeO.refl _)
      | (with_reducible exact LeO.none _)
      | (with_reducible refine LeO.ite ?_ ?_)
      | (with_reducible refine LeO.bind ?_ (fun _ => ?_))
      | exact ih0 _ _ _ _ _
      | exact ih1 _ _ _ _ _ _
      | exact ih2 _ _ _ _ _ _
      | exact LeO.none _
      | refine LeO.ite ?_ ?_
      | refine LeO.bind ?_ (fun _ => ?_)
    · intro y0 y1 y2 y3 y4 y5
      unfold reeveref17_Same.l1
      repeat' first
      | (with_reducible exact ih0 _ _ _ _ _)
      | (with_reducible exact ih1 _ _ _ _ _ _)
      | (with_reducible exact ih2 _ _ _ _ _ _)
      | (with_reducible exact LeO.refl _)
      | (with_reducible exact LeO.none _)
      | (with_reducible refine LeO.ite ?_ ?_)
      | (with_reducible refine LeO.bind ?_ (fun _ => ?_))
      | exact ih0 _ _ _ _ _
      | exact ih1 _ _ _ _ _ _
      | exact ih2 _ _ _ _ _ _
      | exact LeO.none _
      | refine LeO.ite ?_ ?_
      | refine LeO.bind ?_ (fun _ => ?_)
theorem reeveref17_Same.mono : ∀ a0 a1 a2 a3 k, LeO (reeveref17_Same.f k a0 a1 a2 a3) (reeveref17_Same.f (k + 1) a0 a1 a2 a3) := by
  intro a0 a1 a2 a3 k
  obtain ⟨ih0, ih1, ih2⟩ := reeveref17_Same.mono_l k
  unfold reeveref17_Same.f
  repeat' first
      | (with_reducible exact ih0 _ _ _ _ _)
      | (with_reducible exact ih1 _ _ _ _ _ _)
      | (with_reducible exact ih2 _ _ _ _ _ _)
      | (with_reducible exact LeO.refl _)
      | (with_reducible exact LeO.none _)
      | (with_reducible refine LeO.ite ?_ ?_)
      | (with_reducible refine LeO.bind ?_ (fun _ => ?_))
      | exact ih0 _ _ _ _ _
      | exact ih1 _ _ _ _ _ _
      | exact ih2 _ _ _ _ _ _
      | exact LeO.none _
      | refine LeO.ite ?_ ?_
      | refine LeO.bind ?_ (fun _ => ?_)
set_option maxHeartbeats 8000000 in
set_option maxRecDepth 100000 in
theorem reeveref17_Same.calls (k : Nat) (A0_0 : Option Addr) (c0_0 : Nat) (l0_0 : List ByteArray) (A0_1 : Option Addr) (c0_1 : Nat) (l0_1 : List (S59)) (A1_0 : Option Addr) (c1_0 : Nat) (l1_0 : List ByteArray) (A1_1 : Option Addr) (c1_1 : Nat) (l1_1 : List (S59)) (r : Bool) (w : World) (hr0_0 : Kd.C Kd.string w A0_0 l0_0.length l0_0) (hc0_0 : l0_0.length ≤ c0_0) (hr0_1 : Kd.C k59 w A0_1 l0_1.length l0_1) (hc0_1 : l0_1.length ≤ c0_1) (hr1_0 : Kd.C Kd.string w A1_0 l1_0.length l1_0) (hc1_0 : l1_0.length ≤ c1_0) (hr1_1 : Kd.C k59 w A1_1 l1_1.length l1_1) (hc1_1 : l1_1.length ≤ c1_1) (h : reeveref17_Same.f k l0_0 l0_1 l1_0 l1_1 = some r) :
    Calls Tryz.prog 24 #[.agg #[.slice A0_0 l0_0.length c0_0, .slice A0_1 l0_1.length c0_1], .agg #[.slice A1_0 l1_0.length c1_0, .slice A1_1 l1_1.length c1_1]] w fun e w' => e = .returned (.bool r) ∧ Below w.heap.size w w' := by
  have hu25 := Tryz.underlying25
  have hu59 := Tryz.underlying59
  have HR0_0 := Aside0.mk hr0_0
  have HC0_0 := Aside0.mk hc0_0
  clear hr0_0 hc0_0
  have HR0_1 := Aside0.mk hr0_1
  have HC0_1 := Aside0.mk hc0_1
  clear hr0_1 hc0_1
  have HR1_0 := Aside0.mk hr1_0
  have HC1_0 := Aside0.mk hc1_0
  clear hr1_0 hc1_0
  have HR1_1 := Aside0.mk hr1_1
  have HC1_1 := Aside0.mk hc1_1
  clear hr1_1 hc1_1
  have HB := Aside0.mk (Below.refl w.heap.size w)
  have H : (if (l0_0.length : Int) = (l1_0.length : Int) then (reeveref17_Same.j0 k ((l0_1.length : Int) != (l1_1.length : Int)) l0_0 l0_1 l1_0 l1_1) else (reeveref17_Same.j0 k true l0_0 l0_1 l1_0 l1_1)) = some r := h
  clear h
  have HC3 := Aside0.mk H
  clear H
  go_enter Tryz.func24, Tryz.ntmps24
  go_upto_region 1 with (first | ((with_reducible refine gate_dst (N := 2) rfl ?_); (try (refine gate_guard (by rfl) ?_; dsimp only)); refine box_event ?hg (N := 2) ?hd (cs := #[.slice A0_0 l0_0.length c0_0, .slice A0_1 l0_1.length c0_1]) (t := 25) ?hr ?_; (case hd => rfl); (case hg => rfl); (case hr => first | (go_simp; done) | (go_simp; rfl)); intro gb221 hg w4 hbox hb; have n0_ := Aside0.mk (below_step (by repeat (first | (with_reducible first | exact HB.out | apply below_alloc | apply pw_below_drewN | apply below_drew1) | exact HB.out)) hb); have n1_ := Aside0.mk (hbox); have n2_ := Aside0.mk ((by rw [hg]; exact (below_size (by repeat (first | (with_reducible first | exact HB.out | apply below_alloc | apply pw_below_drewN | apply below_drew1) | exact HB.out))) : w.heap.size ≤ gb221)); have n3_ := Aside0.mk ((by rw [hg]; exact (below_size (by repeat (first | (with_reducible first | exact HB.out | apply below_alloc | apply pw_below_drewN | apply below_drew1) | exact HB.out))) : w.heap.size ≤ gb221)); clear HB; have HB := n0_; have BK221 := n1_; have GW221 := n2_; have GE221 := n3_; clear n0_ n1_ n2_ n3_; clear hb hbox hg) | ((with_reducible refine gate_dst (N := 3) rfl ?_); (try (refine gate_guard (by rfl) ?_; dsimp only)); refine box_event ?hg (N := 3) ?hd (cs := #[.slice A1_0 l1_0.length c1_0, .slice A1_1 l1_1.length c1_1]) (t := 25) ?hr ?_; (case hd => rfl); (case hg => rfl); (case hr => first | (go_simp; done) | (go_simp; rfl)); intro gb222 hg w5 hbox hb; have n0_ := Aside0.mk (blk_below (g := gb221) (o := .cells #[.slice A0_0 l0_0.length c0_0, .slice A0_1 l0_1.length c0_1] 25 (0, 0)) (by (with_reducible repeat (first | refine blk_drewN ?_ _ | refine blk_drew ?_ | refine blk_alloc ?_ _)); exact BK221.out) hb); have n1_ := Aside0.mk (below_step (by repeat (first | (with_reducible first | exact HB.out | apply below_alloc | apply pw_below_drewN | apply below_drew1 | refine below_set ?_ GE221.out) | exact HB.out)) hb); have n2_ := Aside0.mk (hbox); have n3_ := Aside0.mk ((by rw [hg]; exact (below_size (by repeat (first | (with_reducible first | exact HB.out | apply below_alloc | apply pw_below_drewN | apply below_drew1 | refine below_set ?_ GE221.out) | exact HB.out))) : w.heap.size ≤ gb222)); have n4_ := Aside0.mk ((by rw [hg]; exact (below_size (by repeat (first | (with_reducible first | exact HB.out | apply below_alloc | apply pw_below_drewN | apply below_drew1 | refine below_set ?_ GE221.out) | exact HB.out))) : w.heap.size ≤ gb222)); have n5_ := Aside0.mk ((by rw [hg]; exact Nat.ne_of_lt (blk_lt (g := gb221) (o := .cells #[.slice A0_0 l0_0.length c0_0, .slice A0_1 l0_1.length c0_1] 25 (0, 0)) (by (with_reducible repeat (first | refine blk_drewN ?_ _ | refine blk_drew ?_ | refine blk_alloc ?_ _)); exact BK221.out)) : gb221 ≠ gb222)); have n6_ := Aside0.mk ((by rw [hg]; exact Nat.ne_of_gt (blk_lt (g := gb221) (o := .cells #[.slice A0_0 l0_0.length c0_0, .slice A0_1 l0_1.length c0_1] 25 (0, 0)) (by (with_reducible repeat (first | refine blk_drewN ?_ _ | refine blk_drew ?_ | refine blk_alloc ?_ _)); exact BK221.out)) : gb222 ≠ gb221)); clear BK221; clear HB; have BK221 := n0_; have HB := n1_; have BK222 := n2_; have GW222 := n3_; have GE222 := n4_; have NB221_222 := n5_; have NB222_221 := n6_; clear n0_ n1_ n2_ n3_ n4_ n5_ n6_; clear hb hbox hg))
  repeat (go_quiet (first | ((with_reducible refine gate_dst (N := 2) rfl ?_); (try (refine gate_guard (by rfl) ?_; dsimp only)); refine box_event ?hg (N := 2) ?hd (cs := #[.slice A0_0 l0_0.length c0_0, .slice A0_1 l0_1.length c0_1]) (t := 25) ?hr ?_; (case hd => rfl); (case hg => rfl); (case hr => first | (go_simp; done) | (go_simp; rfl)); intro gb221 hg w4 hbox hb; have n0_ := Aside0.mk (below_step (by repeat (first | (with_reducible first | exact HB.out | apply below_alloc | apply pw_below_drewN | apply below_drew1) | exact HB.out)) hb); have n1_ := Aside0.mk (hbox); have n2_ := Aside0.mk ((by rw [hg]; exact (below_size (by repeat (first | (with_reducible first | exact HB.out | apply below_alloc | apply pw_below_drewN | apply below_drew1) | exact HB.out))) : w.heap.size ≤ gb221)); have n3_ := Aside0.mk ((by rw [hg]; exact (below_size (by repeat (first | (with_reducible first | exact HB.out | apply below_alloc | apply pw_below_drewN | apply below_drew1) | exact HB.out))) : w.heap.size ≤ gb221)); clear HB; have HB := n0_; have BK221 := n1_; have GW221 := n2_; have GE221 := n3_; clear n0_ n1_ n2_ n3_; clear hb hbox hg) | ((with_reducible refine gate_dst (N := 3) rfl ?_); (try (refine gate_guard (by rfl) ?_; dsimp only)); refine box_event ?hg (N := 3) ?hd (cs := #[.slice A1_0 l1_0.length c1_0, .slice A1_1 l1_1.length c1_1]) (t := 25) ?hr ?_; (case hd => rfl); (case hg => rfl); (case hr => first | (go_simp; done) | (go_simp; rfl)); intro gb222 hg w5 hbox hb; have n0_ := Aside0.mk (blk_below (g := gb221) (o := .cells #[.slice A0_0 l0_0.length c0_0, .slice A0_1 l0_1.length c0_1] 25 (0, 0)) (by (with_reducible repeat (first | refine blk_drewN ?_ _ | refine blk_drew ?_ | refine blk_alloc ?_ _)); exact BK221.out) hb); have n1_ := Aside0.mk (below_step (by repeat (first | (with_reducible first | exact HB.out | apply below_alloc | apply pw_below_drewN | apply below_drew1 | refine below_set ?_ GE221.out) | exact HB.out)) hb); have n2_ := Aside0.mk (hbox); have n3_ := Aside0.mk ((by rw [hg]; exact (below_size (by repeat (first | (with_reducible first | exact HB.out | apply below_alloc | apply pw_below_drewN | apply below_drew1 | refine below_set ?_ GE221.out) | exact HB.out))) : w.heap.size ≤ gb222)); have n4_ := Aside0.mk ((by rw [hg]; exact (below_size (by repeat (first | (with_reducible first | exact HB.out | apply below_alloc | apply pw_below_drewN | apply below_drew1 | refine below_set ?_ GE221.out) | exact HB.out))) : w.heap.size ≤ gb222)); have n5_ := Aside0.mk ((by rw [hg]; exact Nat.ne_of_lt (blk_lt (g := gb221) (o := .cells #[.slice A0_0 l0_0.length c0_0, .slice A0_1 l0_1.length c0_1] 25 (0, 0)) (by (with_reducible repeat (first | refine blk_drewN ?_ _ | refine blk_drew ?_ | refine blk_alloc ?_ _)); exact BK221.out)) : gb221 ≠ gb222)); have n6_ := Aside0.mk ((by rw [hg]; exact Nat.ne_of_gt (blk_lt (g := gb221) (o := .cells #[.slice A0_0 l0_0.length c0_0, .slice A0_1 l0_1.length c0_1] 25 (0, 0)) (by (with_reducible repeat (first | refine blk_drewN ?_ _ | refine blk_drew ?_ | refine blk_alloc ?_ _)); exact BK221.out)) : gb222 ≠ gb221)); clear BK221; clear HB; have BK221 := n0_; have HB := n1_; have BK222 := n2_; have GW222 := n3_; have GE222 := n4_; have NB221_222 := n5_; have NB222_221 := n6_; clear n0_ n1_ n2_ n3_ n4_ n5_ n6_; clear hb hbox hg)); go_upto_region 1 with (first | ((with_reducible refine gate_dst (N := 2) rfl ?_); (try (refine gate_guard (by rfl) ?_; dsimp only)); refine box_event ?hg (N := 2) ?hd (cs := #[.slice A0_0 l0_0.length c0_0, .slice A0_1 l0_1.length c0_1]) (t := 25) ?hr ?_; (case hd => rfl); (case hg => rfl); (case hr => first | (go_simp; done) | (go_simp; rfl)); intro gb221 hg w4 hbox hb; have n0_ := Aside0.mk (below_step (by repeat (first | (with_reducible first | exact HB.out | apply below_alloc | apply pw_below_drewN | apply below_drew1) | exact HB.out)) hb); have n1_ := Aside0.mk (hbox); have n2_ := Aside0.mk ((by rw [hg]; exact (below_size (by repeat (first | (with_reducible first | exact HB.out | apply below_alloc | apply pw_below_drewN | apply below_drew1) | exact HB.out))) : w.heap.size ≤ gb221)); have n3_ := Aside0.mk ((by rw [hg]; exact (below_size (by repeat (first | (with_reducible first | exact HB.out | apply below_alloc | apply pw_below_drewN | apply below_drew1) | exact HB.out))) : w.heap.size ≤ gb221)); clear HB; have HB := n0_; have BK221 := n1_; have GW221 := n2_; have GE221 := n3_; clear n0_ n1_ n2_ n3_; clear hb hbox hg) | ((with_reducible refine gate_dst (N := 3) rfl ?_); (try (refine gate_guard (by rfl) ?_; dsimp only)); refine box_event ?hg (N := 3) ?hd (cs := #[.slice A1_0 l1_0.length c1_0, .slice A1_1 l1_1.length c1_1]) (t := 25) ?hr ?_; (case hd => rfl); (case hg => rfl); (case hr => first | (go_simp; done) | (go_simp; rfl)); intro gb222 hg w5 hbox hb; have n0_ := Aside0.mk (blk_below (g := gb221) (o := .cells #[.slice A0_0 l0_0.length c0_0, .slice A0_1 l0_1.length c0_1] 25 (0, 0)) (by (with_reducible repeat (first | refine blk_drewN ?_ _ | refine blk_drew ?_ | refine blk_alloc ?_ _)); exact BK221.out) hb); have n1_ := Aside0.mk (below_step (by repeat (first | (with_reducible first | exact HB.out | apply below_alloc | apply pw_below_drewN | apply below_drew1 | refine below_set ?_ GE221.out) | exact HB.out)) hb); have n2_ := Aside0.mk (hbox); have n3_ := Aside0.mk ((by rw [hg]; exact (below_size (by repeat (first | (with_reducible first | exact HB.out | apply below_alloc | apply pw_below_drewN | apply below_drew1 | refine below_set ?_ GE221.out) | exact HB.out))) : w.heap.size ≤ gb222)); have n4_ := Aside0.mk ((by rw [hg]; exact (below_size (by repeat (first | (with_reducible first | exact HB.out | apply below_alloc | apply pw_below_drewN | apply below_drew1 | refine below_set ?_ GE221.out) | exact HB.out))) : w.heap.size ≤ gb222)); have n5_ := Aside0.mk ((by rw [hg]; exact Nat.ne_of_lt (blk_lt (g := gb221) (o := .cells #[.slice A0_0 l0_0.length c0_0, .slice A0_1 l0_1.length c0_1] 25 (0, 0)) (by (with_reducible repeat (first | refine blk_drewN ?_ _ | refine blk_drew ?_ | refine blk_alloc ?_ _)); exact BK221.out)) : gb221 ≠ gb222)); have n6_ := Aside0.mk ((by rw [hg]; exact Nat.ne_of_gt (blk_lt (g := gb221) (o := .cells #[.slice A0_0 l0_0.length c0_0, .slice A0_1 l0_1.length c0_1] 25 (0, 0)) (by (with_reducible repeat (first | refine blk_drewN ?_ _ | refine blk_drew ?_ | refine blk_alloc ?_ _)); exact BK221.out)) : gb222 ≠ gb221)); clear BK221; clear HB; have BK221 := n0_; have HB := n1_; have BK222 := n2_; have GW222 := n3_; have GE222 := n4_; have NB221_222 := n5_; have NB222_221 := n6_; clear n0_ n1_ n2_ n3_ n4_ n5_ n6_; clear hb hbox hg)))
  (try simp only [Act.put, List.setIfInBounds_toArray, List.set_cons_zero, List.set_cons_succ])
  go_cut [22] (fun v22 wc => ∃ (kq : Nat) (x22_2 : Bool), v22 = .bool x22_2 ∧ Aside0 (reeveref17_Same.j0 kq x22_2 l0_0 l0_1 l1_0 l1_1 = some r) ∧ Aside0 (kq ≤ k) ∧ Aside0 (wc.heap[gb221]? = some (.cells #[(.slice A0_0 l0_0.length c0_0), (.slice A0_1 l0_1.length c0_1)] 25 (0, 0))) ∧ Aside0 (wc.heap[gb222]? = some (.cells #[(.slice A1_0 l1_0.length c1_0), (.slice A1_1 l1_1.length c1_1)] 25 (0, 0))) ∧ Aside0 (Below w.heap.size w wc))
  case first =>
    have H := HC3.out
    clear HC3
    by_cases c6 : (l0_0.length : Int) = (l1_0.length : Int)
    · rw [if_pos c6] at H
      have c6b0 : ((l0_0.length : Int) == (l1_0.length : Int)) = true := beq_iff_eq.mpr c6
      have c6b1 : ((l0_0.length : Int) != (l1_0.length : Int)) = false := bne_eq_false_iff_eq.mpr c6
      have c6b2 : (l0_0.length == l1_0.length) = true := by first | simpa using c6 | (simp at c6 ⊢; omega)
      clear c6
      (first | rw [c6b0] | (simp only [i64_w, i32_w]; rw [c6b0]) | skip)
      have H' := Aside0.mk H
      clear H
      have hnb7 := NB221_222.out
      have hnc7 := NB222_221.out
      have hcz8_0 : w5.cell? ⟨gb221, 0, none⟩ = some (.slice A0_0 l0_0.length c0_0) := (blk_cell BK221.out 0).trans rfl
      have hcz8_1 : w5.cell? ⟨gb221, 1, none⟩ = some (.slice A0_1 l0_1.length c0_1) := (blk_cell BK221.out 1).trans rfl
      have hfz8_0 := blk_frozen BK221.out 0
      have hfz8_1 := blk_frozen BK221.out 1
      have hcz9_0 : w5.cell? ⟨gb222, 0, none⟩ = some (.slice A1_0 l1_0.length c1_0) := (blk_cell BK222.out 0).trans rfl
      have hcz9_1 : w5.cell? ⟨gb222, 1, none⟩ = some (.slice A1_1 l1_1.length c1_1) := (blk_cell BK222.out 1).trans rfl
      have hfz9_0 := blk_frozen BK222.out 0
      have hfz9_1 := blk_frozen BK222.out 1
      go_wp2
      repeat (go_quiet (fail); try go_wp2)
      go_meet
      case rel => exact ⟨_, (((l0_1.length : Int) != (l1_1.length : Int))), (by first | rfl | (simp; done) | (simp [*]; done)), H', ⟨by first | omega | exact Nat.le_refl _⟩, ⟨by (with_reducible repeat (first | refine blk_drewN ?_ _ | refine blk_drew ?_ | refine blk_alloc ?_ _)); exact BK221.out⟩, ⟨by (with_reducible repeat (first | refine blk_drewN ?_ _ | refine blk_drew ?_ | refine blk_alloc ?_ _)); exact BK222.out⟩, ⟨by repeat (first | (with_reducible first | exact HB.out | apply below_alloc | apply pw_below_drewN | apply below_drew1 | refine below_set ?_ GE221.out | refine below_set ?_ GE222.out) | exact HB.out)⟩⟩
    · rw [if_neg c6] at H
      have c6b0 : ((l0_0.length : Int) == (l1_0.length : Int)) = false := beq_eq_false_iff_ne.mpr c6
      have c6b1 : ((l0_0.length : Int) != (l1_0.length : Int)) = true := bne_iff_ne.mpr c6
      have c6b2 : (l0_0.length == l1_0.length) = false := by first | simpa using c6 | (simp at c6 ⊢; omega)
      (first | rw [c6b0] | (simp only [i64_w, i32_w]; rw [c6b0]) | skip)
      have H' := Aside0.mk H
      clear H
      have hnb10 := NB221_222.out
      have hnc10 := NB222_221.out
      have hcz11_0 : w5.cell? ⟨gb221, 0, none⟩ = some (.slice A0_0 l0_0.length c0_0) := (blk_cell BK221.out 0).trans rfl
      have hcz11_1 : w5.cell? ⟨gb221, 1, none⟩ = some (.slice A0_1 l0_1.length c0_1) := (blk_cell BK221.out 1).trans rfl
      have hfz11_0 := blk_frozen BK221.out 0
      have hfz11_1 := blk_frozen BK221.out 1
      have hcz12_0 : w5.cell? ⟨gb222, 0, none⟩ = some (.slice A1_0 l1_0.length c1_0) := (blk_cell BK222.out 0).trans rfl
      have hcz12_1 : w5.cell? ⟨gb222, 1, none⟩ = some (.slice A1_1 l1_1.length c1_1) := (blk_cell BK222.out 1).trans rfl
      have hfz12_0 := blk_frozen BK222.out 0
      have hfz12_1 := blk_frozen BK222.out 1
      go_wp2
      repeat (go_quiet (fail); try go_wp2)
      go_meet
      case rel => exact ⟨_, (true), (by first | rfl | (simp; done) | (simp [*]; done)), H', ⟨by first | omega | exact Nat.le_refl _⟩, ⟨by (with_reducible repeat (first | refine blk_drewN ?_ _ | refine blk_drew ?_ | refine blk_alloc ?_ _)); exact BK221.out⟩, ⟨by (with_reducible repeat (first | refine blk_drewN ?_ _ | refine blk_drew ?_ | refine blk_alloc ?_ _)); exact BK222.out⟩, ⟨by repeat (first | (with_reducible first | exact HB.out | apply below_alloc | apply pw_below_drewN | apply below_drew1 | refine below_set ?_ GE221.out | refine below_set ?_ GE222.out) | exact HB.out)⟩⟩
  case rest =>
    clear HC3
    try clear c1
    try clear c2
    try clear p2
    try clear c6
    try clear c6b0
    try clear c6b1
    try clear c6b2
    try clear c7
    try clear c10
    try clear hcz11_0
    try clear hcz11_1
    try clear hcz12_0
    try clear hcz12_1
    try clear hcz8_0
    try clear hcz8_1
    try clear hcz9_0
    try clear hcz9_1
    try clear hfz11_0
    try clear hfz11_1
    try clear hfz12_0
    try clear hfz12_1
    try clear hfz8_0
    try clear hfz8_1
    try clear hfz9_0
    try clear hfz9_1
    obtain ⟨kq, x22_2, rfl, HA, HJ2, BK221, BK222, HB⟩ := hcut
    cases kq with
    | zero => exact absurd HA.out (by simp [reeveref17_Same.j0])
    | succ kj2 =>
      have H := HA.out
      clear HA
      simp only [reeveref17_Same.j0] at H
      by_cases c13 : x22_2 = true
      · subst c13
        have H1 : (some false) = some r := by rw [if_pos rfl] at H; exact H
        clear H
        have H := H1
        clear H1
        obtain rfl := Option.some.inj H
        go_wp2
        repeat (go_quiet (fail); try go_wp2)
        go_ret
        exact ⟨by first | rfl | (simp [errW_none, errW_some] <;> rfl) | (simp [*, errW_none, errW_some] <;> rfl), by repeat (first | (with_reducible first | exact HB.out | apply below_alloc | apply pw_below_drewN | apply below_drew1 | refine below_set ?_ GE221.out | refine below_set ?_ GE222.out) | exact HB.out)⟩
      · replace c13 := Bool.eq_false_iff.mpr c13
        subst c13
        have H1 : (reeveref17_Same.l0 kj2 (l0_0.length : Int) 0 l0_0 l0_1 l1_0 l1_1) = some r := by rw [if_neg (show ¬ (false = true) by decide)] at H; exact H
        clear H
        have H := H1
        clear H1
        have H' := Aside0.mk H
        clear H
        have hnb14 := NB221_222.out
        have hnc14 := NB222_221.out
        have hcz15_0 : wc.cell? ⟨gb221, 0, none⟩ = some (.slice A0_0 l0_0.length c0_0) := (blk_cell BK221.out 0).trans rfl
        have hcz15_1 : wc.cell? ⟨gb221, 1, none⟩ = some (.slice A0_1 l0_1.length c0_1) := (blk_cell BK221.out 1).trans rfl
        have hfz15_0 := blk_frozen BK221.out 0
        have hfz15_1 := blk_frozen BK221.out 1
        go_wp2
        repeat (go_quiet (fail); try go_wp2)
        go_loopg [26] kj2 (fun kq v26 w' => ∃ (x26_2 : Int), v26 = .int .i64 x26_2 ∧ Aside0 (reeveref17_Same.l0 kq (l0_0.length : Int) x26_2 l0_0 l0_1 l1_0 l1_1 = some r) ∧ Aside0 (kq ≤ kj2) ∧ Aside0 (w'.heap[gb221]? = some (.cells #[(.slice A0_0 l0_0.length c0_0), (.slice A0_1 l0_1.length c0_1)] 25 (0, 0))) ∧ Aside0 (w'.heap[gb222]? = some (.cells #[(.slice A1_0 l1_0.length c1_0), (.slice A1_1 l1_1.length c1_1)] 25 (0, 0))) ∧ Aside0 (Below w.heap.size w w'))
        case atStart => exact ⟨(0), (by first | rfl | (simp; done) | (simp [*]; done)), H', ⟨Nat.le_refl _⟩, ⟨by (with_reducible repeat (first | refine blk_drewN ?_ _ | refine blk_drew ?_ | refine blk_alloc ?_ _)); exact BK221.out⟩, ⟨by (with_reducible repeat (first | refine blk_drewN ?_ _ | refine blk_drew ?_ | refine blk_alloc ?_ _)); exact BK222.out⟩, ⟨by repeat (first | (with_reducible first | exact HB.out | apply below_alloc | apply pw_below_drewN | apply below_drew1 | refine below_set ?_ GE221.out | refine below_set ?_ GE222.out) | exact HB.out)⟩⟩
        case round =>
          clear H'
          try clear c1
          try clear c2
          try clear p2
          try clear c6
          try clear c6b0
          try clear c6b1
          try clear c6b2
          try clear c7
          try clear c10
          try clear c13
          try clear c14
          try clear hcz11_0
          try clear hcz11_1
          try clear hcz12_0
          try clear hcz12_1
          try clear hcz15_0
          try clear hcz15_1
          try clear hcz8_0
          try clear hcz8_1
          try clear hcz9_0
          try clear hcz9_1
          try clear hfz11_0
          try clear hfz11_1
          try clear hfz12_0
          try clear hfz12_1
          try clear hfz15_0
          try clear hfz15_1
          try clear hfz8_0
          try clear hfz8_1
          try clear hfz9_0
          try clear hfz9_1
          try clear p2
          obtain ⟨x26_2, rfl, HA, HK2, BK221, BK222, HB⟩ := hrel
          cases gk with
          | zero => exact absurd HA.out (by simp [reeveref17_Same.l0])
          | succ k2 =>
            have H := HA.out
            clear HA
            simp only [reeveref17_Same.l0] at H
            by_cases c16 : x26_2 < (l0_0.length : Int)
            · rw [if_pos c16] at H
              have c16b0 : decide (x26_2 < (l0_0.length : Int)) = true := decide_eq_true c16
              clear c16
              by_cases c17 : 0 ≤ x26_2
              · rw [if_pos c17] at H
                have c17b0 : decide (0 ≤ x26_2) = true := decide_eq_true c17
                clear c17
                by_cases c18 : x26_2 < (l0_0.length : Int)
                · rw [if_pos c18] at H
                  have c18b0 : decide (x26_2 < (l0_0.length : Int)) = true := decide_eq_true c18
                  clear c18
                  by_cases c19 : x26_2 < (l1_0.length : Int)
                  · rw [if_pos c19] at H
                    have c19b0 : decide (x26_2 < (l1_0.length : Int)) = true := decide_eq_true c19
                    clear c19
                    by_cases c20 : (rdOf ByteArray.empty l0_0 x26_2).toList = (rdOf ByteArray.empty l1_0 x26_2).toList
                    · rw [if_pos c20] at H
                      have c20b0 : ((rdOf ByteArray.empty l0_0 x26_2).toList == (rdOf ByteArray.empty l1_0 x26_2).toList) = true := beq_iff_eq.mpr c20
                      have c20b1 : ((rdOf ByteArray.empty l0_0 x26_2).toList != (rdOf ByteArray.empty l1_0 x26_2).toList) = false := bne_eq_false_iff_eq.mpr c20
                      clear c20
                      have H' := Aside0.mk H
                      clear H
                      have hnb21 := NB221_222.out
                      have hnc21 := NB222_221.out
                      have hcz22_0 : wr.cell? ⟨gb221, 0, none⟩ = some (.slice A0_0 l0_0.length c0_0) := (blk_cell BK221.out 0).trans rfl
                      have hcz22_1 : wr.cell? ⟨gb221, 1, none⟩ = some (.slice A0_1 l0_1.length c0_1) := (blk_cell BK221.out 1).trans rfl
                      have hfz22_0 := blk_frozen BK221.out 0
                      have hfz22_1 := blk_frozen BK221.out 1
                      have p223 : 0 ≤ (x26_2 : Int) := of_decide_eq_true (by first | (with_reducible assumption) | assumption)
                      have q223 : x26_2 < (l0_0.length : Int) := of_decide_eq_true (by first | (with_reducible assumption) | assumption)
                      obtain ⟨ad223, e223, hx223_0⟩ := Kd.at_string HR0_0.out x26_2 p223 q223
                      cases e223
                      replace hx223_0 := (HB.out.cell (World.block_lt_of_cell? w _ hx223_0)).trans hx223_0
                      replace p223 := eq_true p223
                      replace q223 := eq_true q223
                      have hcz23_0 : wr.cell? ⟨gb222, 0, none⟩ = some (.slice A1_0 l1_0.length c1_0) := (blk_cell BK222.out 0).trans rfl
                      have hcz23_1 : wr.cell? ⟨gb222, 1, none⟩ = some (.slice A1_1 l1_1.length c1_1) := (blk_cell BK222.out 1).trans rfl
                      have hfz23_0 := blk_frozen BK222.out 0
                      have hfz23_1 := blk_frozen BK222.out 1
                      have p224 : 0 ≤ (x26_2 : Int) := of_decide_eq_true (by first | (with_reducible assumption) | assumption)
                      have q224 : x26_2 < (l1_0.length : Int) := of_decide_eq_true (by first | (with_reducible assumption) | assumption)
                      obtain ⟨ad224, e224, hx224_0⟩ := Kd.at_string HR1_0.out x26_2 p224 q224
                      cases e224
                      replace hx224_0 := (HB.out.cell (World.block_lt_of_cell? w _ hx224_0)).trans hx224_0
                      replace p224 := eq_true p224
                      replace q224 := eq_true q224
                      go_wp2
                      repeat (go_quiet (fail); try go_wp2)
                      go_roundg k2
                      case measure => have := HJ2.out; have := HK2.out; omega
                      case rel => exact ⟨(wrap64 (x26_2 + 1)), (by first | rfl | (simp; done) | (simp [*]; done)), H', ⟨by have := HJ2.out; have := HK2.out; omega⟩, ⟨by (with_reducible repeat (first | refine blk_drewN ?_ _ | refine blk_drew ?_ | refine blk_alloc ?_ _)); exact BK221.out⟩, ⟨by (with_reducible repeat (first | refine blk_drewN ?_ _ | refine blk_drew ?_ | refine blk_alloc ?_ _)); exact BK222.out⟩, ⟨by repeat (first | (with_reducible first | exact HB.out | apply below_alloc | apply pw_below_drewN | apply below_drew1 | refine below_set ?_ GE221.out | refine below_set ?_ GE222.out) | exact HB.out)⟩⟩
                    · rw [if_neg c20] at H
                      have c20b0 : ((rdOf ByteArray.empty l0_0 x26_2).toList == (rdOf ByteArray.empty l1_0 x26_2).toList) = false := beq_eq_false_iff_ne.mpr c20
                      have c20b1 : ((rdOf ByteArray.empty l0_0 x26_2).toList != (rdOf ByteArray.empty l1_0 x26_2).toList) = true := bne_iff_ne.mpr c20
                      obtain rfl := Option.some.inj H
                      have hnb24 := NB221_222.out
                      have hnc24 := NB222_221.out
                      have hcz25_0 : wr.cell? ⟨gb221, 0, none⟩ = some (.slice A0_0 l0_0.length c0_0) := (blk_cell BK221.out 0).trans rfl
                      have hcz25_1 : wr.cell? ⟨gb221, 1, none⟩ = some (.slice A0_1 l0_1.length c0_1) := (blk_cell BK221.out 1).trans rfl
                      have hfz25_0 := blk_frozen BK221.out 0
                      have hfz25_1 := blk_frozen BK221.out 1
                      have p223 : 0 ≤ (x26_2 : Int) := of_decide_eq_true (by first | (with_reducible assumption) | assumption)
                      have q223 : x26_2 < (l0_0.length : Int) := of_decide_eq_true (by first | (with_reducible assumption) | assumption)
                      obtain ⟨ad223, e223, hx223_0⟩ := Kd.at_string HR0_0.out x26_2 p223 q223
                      cases e223
                      replace hx223_0 := (HB.out.cell (World.block_lt_of_cell? w _ hx223_0)).trans hx223_0
                      replace p223 := eq_true p223
                      replace q223 := eq_true q223
                      have hcz26_0 : wr.cell? ⟨gb222, 0, none⟩ = some (.slice A1_0 l1_0.length c1_0) := (blk_cell BK222.out 0).trans rfl
                      have hcz26_1 : wr.cell? ⟨gb222, 1, none⟩ = some (.slice A1_1 l1_1.length c1_1) := (blk_cell BK222.out 1).trans rfl
                      have hfz26_0 := blk_frozen BK222.out 0
                      have hfz26_1 := blk_frozen BK222.out 1
                      have p224 : 0 ≤ (x26_2 : Int) := of_decide_eq_true (by first | (with_reducible assumption) | assumption)
                      have q224 : x26_2 < (l1_0.length : Int) := of_decide_eq_true (by first | (with_reducible assumption) | assumption)
                      obtain ⟨ad224, e224, hx224_0⟩ := Kd.at_string HR1_0.out x26_2 p224 q224
                      cases e224
                      replace hx224_0 := (HB.out.cell (World.block_lt_of_cell? w _ hx224_0)).trans hx224_0
                      replace p224 := eq_true p224
                      replace q224 := eq_true q224
                      go_wp2
                      repeat (go_quiet (fail); try go_wp2)
                      go_ret
                      exact ⟨by first | rfl | (simp [errW_none, errW_some] <;> rfl) | (simp [*, errW_none, errW_some] <;> rfl), by repeat (first | (with_reducible first | exact HB.out | apply below_alloc | apply pw_below_drewN | apply below_drew1 | refine below_set ?_ GE221.out | refine below_set ?_ GE222.out) | exact HB.out)⟩
                  · rw [if_neg c19] at H
                    exact absurd H (by simp)
                · rw [if_neg c18] at H
                  exact absurd H (by simp)
              · rw [if_neg c17] at H
                exact absurd H (by simp)
            · rw [if_neg c16] at H
              have c16b0 : decide (x26_2 < (l0_0.length : Int)) = false := decide_eq_false c16
              clear c16
              have H' := Aside0.mk H
              clear H
              have hnb27 := NB221_222.out
              have hnc27 := NB222_221.out
              have hcz28_0 : wr.cell? ⟨gb221, 0, none⟩ = some (.slice A0_0 l0_0.length c0_0) := (blk_cell BK221.out 0).trans rfl
              have hcz28_1 : wr.cell? ⟨gb221, 1, none⟩ = some (.slice A0_1 l0_1.length c0_1) := (blk_cell BK221.out 1).trans rfl
              have hfz28_0 := blk_frozen BK221.out 0
              have hfz28_1 := blk_frozen BK221.out 1
              go_wp2
              repeat (go_quiet (fail); try go_wp2)
              go_loopg [44] k2 (fun kq v44 w' => ∃ (x44_3 : Int), v44 = .int .i64 x44_3 ∧ Aside0 (reeveref17_Same.l1 kq (l0_1.length : Int) x44_3 l0_0 l0_1 l1_0 l1_1 = some r) ∧ Aside0 (kq ≤ k2) ∧ Aside0 (w'.heap[gb221]? = some (.cells #[(.slice A0_0 l0_0.length c0_0), (.slice A0_1 l0_1.length c0_1)] 25 (0, 0))) ∧ Aside0 (w'.heap[gb222]? = some (.cells #[(.slice A1_0 l1_0.length c1_0), (.slice A1_1 l1_1.length c1_1)] 25 (0, 0))) ∧ Aside0 (Below w.heap.size w w'))
              case atStart => exact ⟨(0), (by first | rfl | (simp; done) | (simp [*]; done)), H', ⟨Nat.le_refl _⟩, ⟨by (with_reducible repeat (first | refine blk_drewN ?_ _ | refine blk_drew ?_ | refine blk_alloc ?_ _)); exact BK221.out⟩, ⟨by (with_reducible repeat (first | refine blk_drewN ?_ _ | refine blk_drew ?_ | refine blk_alloc ?_ _)); exact BK222.out⟩, ⟨by repeat (first | (with_reducible first | exact HB.out | apply below_alloc | apply pw_below_drewN | apply below_drew1 | refine below_set ?_ GE221.out | refine below_set ?_ GE222.out) | exact HB.out)⟩⟩
              case round =>
                clear H'
                try clear c1
                try clear c2
                try clear p2
                try clear q2
                try clear hx2
                try clear c6
                try clear c6b0
                try clear c6b1
                try clear c6b2
                try clear p6
                try clear c7
                try clear c10
                try clear c13
                try clear c14
                try clear c16
                try clear c16b0
                try clear c17
                try clear c17b0
                try clear c18
                try clear c18b0
                try clear c19
                try clear c19b0
                try clear c20
                try clear c20b0
                try clear c20b1
                try clear c21
                try clear p22
                try clear q22
                try clear hx22
                try clear c24
                try clear c27
                try clear hcz11_0
                try clear hcz11_1
                try clear hcz12_0
                try clear hcz12_1
                try clear hcz15_0
                try clear hcz15_1
                try clear hcz22_0
                try clear hcz22_1
                try clear hcz23_0
                try clear hcz23_1
                try clear hcz25_0
                try clear hcz25_1
                try clear hcz26_0
                try clear hcz26_1
                try clear hcz28_0
                try clear hcz28_1
                try clear hcz8_0
                try clear hcz8_1
                try clear hcz9_0
                try clear hcz9_1
                try clear hfz11_0
                try clear hfz11_1
                try clear hfz12_0
                try clear hfz12_1
                try clear hfz15_0
                try clear hfz15_1
                try clear hfz22_0
                try clear hfz22_1
                try clear hfz23_0
                try clear hfz23_1
                try clear hfz25_0
                try clear hfz25_1
                try clear hfz26_0
                try clear hfz26_1
                try clear hfz28_0
                try clear hfz28_1
                try clear hfz8_0
                try clear hfz8_1
                try clear hfz9_0
                try clear hfz9_1
                try clear hx223_0
                try clear hx224_0
                try clear p2
                try clear p223
                try clear p224
                try clear q223
                try clear q224
                obtain ⟨x44_3, rfl, HA, HK3, BK221, BK222, HB⟩ := hrel
                cases gk with
                | zero => exact absurd HA.out (by simp [reeveref17_Same.l1])
                | succ k3 =>
                  have H := HA.out
                  clear HA
                  simp only [reeveref17_Same.l1] at H
                  by_cases c29 : x44_3 < (l0_1.length : Int)
                  · rw [if_pos c29] at H
                    have c29b0 : decide (x44_3 < (l0_1.length : Int)) = true := decide_eq_true c29
                    clear c29
                    by_cases c30 : 0 ≤ x44_3
                    · rw [if_pos c30] at H
                      have c30b0 : decide (0 ≤ x44_3) = true := decide_eq_true c30
                      clear c30
                      by_cases c31 : x44_3 < (l0_1.length : Int)
                      · rw [if_pos c31] at H
                        have c31b0 : decide (x44_3 < (l0_1.length : Int)) = true := decide_eq_true c31
                        clear c31
                        by_cases c32 : x44_3 < (l1_1.length : Int)
                        · rw [if_pos c32] at H
                          have c32b0 : decide (x44_3 < (l1_1.length : Int)) = true := decide_eq_true c32
                          clear c32
                          by_cases c33 : (!(((rd_T59 l0_1 x44_3).f0) == ((rd_T59 l1_1 x44_3).f0)) || (!(((rd_T59 l0_1 x44_3).f1) == ((rd_T59 l1_1 x44_3).f1)))) = true
                          · rw [if_pos c33] at H
                            have c33b0 : (!(((rd_T59 l0_1 x44_3).f0) == ((rd_T59 l1_1 x44_3).f0)) || (!(((rd_T59 l0_1 x44_3).f1) == ((rd_T59 l1_1 x44_3).f1)))) = true := c33
                            clear c33
                            obtain rfl := Option.some.inj H
                            have hnb34 := NB221_222.out
                            have hnc34 := NB222_221.out
                            have hcz35_0 : wr.cell? ⟨gb221, 0, none⟩ = some (.slice A0_0 l0_0.length c0_0) := (blk_cell BK221.out 0).trans rfl
                            have hcz35_1 : wr.cell? ⟨gb221, 1, none⟩ = some (.slice A0_1 l0_1.length c0_1) := (blk_cell BK221.out 1).trans rfl
                            have hfz35_0 := blk_frozen BK221.out 0
                            have hfz35_1 := blk_frozen BK221.out 1
                            have p225 : 0 ≤ (x44_3 : Int) := of_decide_eq_true (by first | (with_reducible assumption) | assumption)
                            have q225 : x44_3 < (l0_1.length : Int) := of_decide_eq_true (by first | (with_reducible assumption) | assumption)
                            obtain ⟨ad225, e225, hx225_0, hx225_1⟩ := at_T59 HR0_1.out x44_3 p225 q225
                            cases e225
                            replace hx225_0 := (HB.out.cell (World.block_lt_of_cell? w _ hx225_0)).trans hx225_0
                            replace hx225_1 := (HB.out.cell (World.block_lt_of_cell? w _ hx225_1)).trans hx225_1
                            replace p225 := eq_true p225
                            replace q225 := eq_true q225
                            have hcz36_0 : wr.cell? ⟨gb222, 0, none⟩ = some (.slice A1_0 l1_0.length c1_0) := (blk_cell BK222.out 0).trans rfl
                            have hcz36_1 : wr.cell? ⟨gb222, 1, none⟩ = some (.slice A1_1 l1_1.length c1_1) := (blk_cell BK222.out 1).trans rfl
                            have hfz36_0 := blk_frozen BK222.out 0
                            have hfz36_1 := blk_frozen BK222.out 1
                            have p226 : 0 ≤ (x44_3 : Int) := of_decide_eq_true (by first | (with_reducible assumption) | assumption)
                            have q226 : x44_3 < (l1_1.length : Int) := of_decide_eq_true (by first | (with_reducible assumption) | assumption)
                            obtain ⟨ad226, e226, hx226_0, hx226_1⟩ := at_T59 HR1_1.out x44_3 p226 q226
                            cases e226
                            replace hx226_0 := (HB.out.cell (World.block_lt_of_cell? w _ hx226_0)).trans hx226_0
                            replace hx226_1 := (HB.out.cell (World.block_lt_of_cell? w _ hx226_1)).trans hx226_1
                            replace p226 := eq_true p226
                            replace q226 := eq_true q226
                            go_wp2
                            repeat (go_quiet (fail); try go_wp2)
                            go_ret
                            exact ⟨by first | rfl | (simp [errW_none, errW_some] <;> rfl) | (simp [*, errW_none, errW_some] <;> rfl), by repeat (first | (with_reducible first | exact HB.out | apply below_alloc | apply pw_below_drewN | apply below_drew1 | refine below_set ?_ GE221.out | refine below_set ?_ GE222.out) | exact HB.out)⟩
                          · rw [if_neg c33] at H
                            have c33b0 : (!(((rd_T59 l0_1 x44_3).f0) == ((rd_T59 l1_1 x44_3).f0)) || (!(((rd_T59 l0_1 x44_3).f1) == ((rd_T59 l1_1 x44_3).f1)))) = false := by simpa using c33
                            clear c33
                            have H' := Aside0.mk H
                            clear H
                            have hnb37 := NB221_222.out
                            have hnc37 := NB222_221.out
                            have hcz38_0 : wr.cell? ⟨gb221, 0, none⟩ = some (.slice A0_0 l0_0.length c0_0) := (blk_cell BK221.out 0).trans rfl
                            have hcz38_1 : wr.cell? ⟨gb221, 1, none⟩ = some (.slice A0_1 l0_1.length c0_1) := (blk_cell BK221.out 1).trans rfl
                            have hfz38_0 := blk_frozen BK221.out 0
                            have hfz38_1 := blk_frozen BK221.out 1
                            have p225 : 0 ≤ (x44_3 : Int) := of_decide_eq_true (by first | (with_reducible assumption) | assumption)
                            have q225 : x44_3 < (l0_1.length : Int) := of_decide_eq_true (by first | (with_reducible assumption) | assumption)
                            obtain ⟨ad225, e225, hx225_0, hx225_1⟩ := at_T59 HR0_1.out x44_3 p225 q225
                            cases e225
                            replace hx225_0 := (HB.out.cell (World.block_lt_of_cell? w _ hx225_0)).trans hx225_0
                            replace hx225_1 := (HB.out.cell (World.block_lt_of_cell? w _ hx225_1)).trans hx225_1
                            replace p225 := eq_true p225
                            replace q225 := eq_true q225
                            have hcz39_0 : wr.cell? ⟨gb222, 0, none⟩ = some (.slice A1_0 l1_0.length c1_0) := (blk_cell BK222.out 0).trans rfl
                            have hcz39_1 : wr.cell? ⟨gb222, 1, none⟩ = some (.slice A1_1 l1_1.length c1_1) := (blk_cell BK222.out 1).trans rfl
                            have hfz39_0 := blk_frozen BK222.out 0
                            have hfz39_1 := blk_frozen BK222.out 1
                            have p226 : 0 ≤ (x44_3 : Int) := of_decide_eq_true (by first | (with_reducible assumption) | assumption)
                            have q226 : x44_3 < (l1_1.length : Int) := of_decide_eq_true (by first | (with_reducible assumption) | assumption)
                            obtain ⟨ad226, e226, hx226_0, hx226_1⟩ := at_T59 HR1_1.out x44_3 p226 q226
                            cases e226
                            replace hx226_0 := (HB.out.cell (World.block_lt_of_cell? w _ hx226_0)).trans hx226_0
                            replace hx226_1 := (HB.out.cell (World.block_lt_of_cell? w _ hx226_1)).trans hx226_1
                            replace p226 := eq_true p226
                            replace q226 := eq_true q226
                            go_wp2
                            repeat (go_quiet (fail); try go_wp2)
                            go_roundg k3
                            case measure => have := HJ2.out; have := HK2.out; have := HK3.out; omega
                            case rel => exact ⟨(wrap64 (x44_3 + 1)), (by first | rfl | (simp; done) | (simp [*]; done)), H', ⟨by have := HJ2.out; have := HK2.out; have := HK3.out; omega⟩, ⟨by (with_reducible repeat (first | refine blk_drewN ?_ _ | refine blk_drew ?_ | refine blk_alloc ?_ _)); exact BK221.out⟩, ⟨by (with_reducible repeat (first | refine blk_drewN ?_ _ | refine blk_drew ?_ | refine blk_alloc ?_ _)); exact BK222.out⟩, ⟨by repeat (first | (with_reducible first | exact HB.out | apply below_alloc | apply pw_below_drewN | apply below_drew1 | refine below_set ?_ GE221.out | refine below_set ?_ GE222.out) | exact HB.out)⟩⟩
                        · rw [if_neg c32] at H
                          exact absurd H (by simp)
                      · rw [if_neg c31] at H
                        exact absurd H (by simp)
                    · rw [if_neg c30] at H
                      exact absurd H (by simp)
                  · rw [if_neg c29] at H
                    have c29b0 : decide (x44_3 < (l0_1.length : Int)) = false := decide_eq_false c29
                    clear c29
                    obtain rfl := Option.some.inj H
                    go_wp2
                    repeat (go_quiet (fail); try go_wp2)
                    go_ret
                    exact ⟨by first | rfl | (simp [errW_none, errW_some] <;> rfl) | (simp [*, errW_none, errW_some] <;> rfl), by repeat (first | (with_reducible first | exact HB.out | apply below_alloc | apply pw_below_drewN | apply below_drew1 | refine below_set ?_ GE221.out | refine below_set ?_ GE222.out) | exact HB.out)⟩

end Go.Proofs.YtpapbigghiiolaaGreatDoor.PAll
