/-
  Rules for the walks: what a world keeps, how a walk stops at one operation.
-/
import Derived.Test.YtpapbigghiiolaaGreatDoorProg
import Derived.Test.YtpapbigghiiolaaGreatDoorWMore
import Derived.Test.YtpapbigghiiolaaGreatDoorWZeros
import Derived.WalkKit
import Derived.WalkSpells
import Derived.Lib.Hide
set_option linter.unusedVariables false
namespace Go.Proofs.YtpapbigghiiolaaGreatDoor
open Go.RowKit Go.Proofs.YtpapbigghiiolaaGreatDoorW.PrintWords

/-- outside S the blocks of w are as they were -/
structure Keep (S : Nat → Prop) (w w' : World) : Prop where
  os : w'.os = w.os
  tape : w'.tape = w.tape
  output : w'.output = w.output
  size : w.heap.size ≤ w'.heap.size
  block : ∀ i, i < w.heap.size → ¬ S i → w'.heap[i]? = w.heap[i]?

namespace Keep
variable {S S1 : Nat → Prop} {w w1 w2 : World}
theorem refl (S : Nat → Prop) (w : World) : Keep S w w := ⟨rfl, rfl, rfl, Nat.le_refl _, fun _ _ _ => rfl⟩
theorem trans (h : Keep S w w1) (k : Keep S1 w1 w2) (hs : ∀ i, i < w.heap.size → S1 i → S i) : Keep S w w2 :=
  ⟨k.os.trans h.os, k.tape.trans h.tape, k.output.trans h.output, Nat.le_trans h.size k.size, fun i hi hn => (k.block i (Nat.lt_of_lt_of_le hi h.size) (fun e => hn (hs i hi e))).trans (h.block i hi hn)⟩
theorem mono (h : Keep S w w1) (hs : ∀ i, i < w.heap.size → S i → S1 i) : Keep S1 w w1 := ⟨h.os, h.tape, h.output, h.size, fun i hi hn => h.block i hi (fun e => hn (hs i hi e))⟩
theorem of_below (h : Below w.heap.size w w1) (S : Nat → Prop) : Keep S w w1 := ⟨h.os, h.tape, h.output, h.size, fun i hi _ => h.block i hi⟩
theorem of_belowB {B : Nat} (h : Below B w w1) (hs : ∀ i, B ≤ i → S i) : Keep S w w1 := ⟨h.os, h.tape, h.output, h.size, fun i hi hn => h.block i (by rcases Nat.lt_or_ge i B with hlt | hge; exact hlt; exact absurd (hs i hge) hn)⟩
theorem below {B : Nat} (h : Keep S w w1) (hB : B ≤ w.heap.size) (hs : ∀ i, S i → B ≤ i) : Below B w w1 := ⟨h.os, h.tape, h.output, h.size, fun i hi => h.block i (by omega) (fun e => by have := hs i e; omega)⟩
theorem below0 (h : Keep S w w1) (hs : ∀ i, S i → w.heap.size ≤ i) : Below w.heap.size w w1 := h.below (Nat.le_refl _) hs
theorem then_below (h : Keep S w w1) (k : Below w1.heap.size w1 w2) : Keep S w w2 := h.trans (of_below k (fun _ => False)) (fun _ _ e => e.elim)
theorem alloc (h : Keep S w w1) (o : Obj) : Keep S w (w1.alloc o) := h.then_below (below_alloc (Below.refl _ _) o)
theorem drewN (h : Keep S w w1) (n : Nat) : Keep S w (w1.drewN n) := ⟨h.os, h.tape, h.output, h.size, h.block⟩
theorem drew (h : Keep S w w1) : Keep S w w1.drew := ⟨h.os, h.tape, h.output, h.size, h.block⟩
theorem set_ (h : Keep S w w1) {g : Nat} (hg : S g ∨ w.heap.size ≤ g) (j : Nat) (u : Value) : Keep S w (w1.setCell ⟨g, j, none⟩ u) :=
  ⟨h.os, h.tape, h.output, by simpa [World.setCell] using h.size, fun i hi hn => (Below.heap_setCell _ _ _ _ (fun e => by subst e; rcases hg with hg | hg; exact hn hg; omega)).trans (h.block i hi hn)⟩
theorem grown (h : Keep S w w1) {row : Option Nat} (hg : w1.grownBy w2 row) (hr : ∀ k, row = some k → S k ∨ w.heap.size ≤ k) : Keep S w w2 :=
  ⟨hg.os.trans h.os, hg.tape.trans h.tape, hg.output.trans h.output, Nat.le_trans h.size hg.size, fun i hi hn => (hg.block i (Nat.lt_of_lt_of_le hi h.size) (fun e => by rcases hr i e.symm with hh | hh; exact hn hh; omega)).trans (h.block i hi hn)⟩
theorem blk (h : Keep S w w1) {g : Nat} {o : Obj} (hb : w.heap[g]? = some o) (hs : ¬ S g) : w1.heap[g]? = some o := (h.block g (blk_lt hb) hs).trans hb
theorem own (h : Keep S w w1) {base : Nat} {e : TypeId} {size n : Nat} {v : Value} {xs : List Value} (ho : w.ownsRow base e size v n xs) (hs : ∀ k, v.ownBlock = some k → ¬ S k) : w1.ownsRow base e size v n xs :=
  own_move ho (fun k hk => h.block k (own_lt ho k hk) (hs k hk))
end Keep

theorem below_blk {w w1 : World} {g : Nat} {o : Obj} (h : Below w.heap.size w w1) (hb : w.heap[g]? = some o) : w1.heap[g]? = some o := (h.block g (blk_lt hb)).trans hb

theorem bget (s : ByteArray) (i : Nat) (h : i < s.size) : s[i] = s.data.toList.getD i 0 := by
  have h' : i < s.data.toList.length := by rw [Array.length_toList]; exact h
  rw [ByteArray.getElem_eq_getElem_data, List.getD_eq_getElem?_getD, List.getElem?_eq_getElem h']
  rfl

section
variable {P : Program} {ops : Array Oper} {rest : List Oper} {o : Oper} {a : Act} {Q : Exit → Act → World → Prop} {W : World}

/-- a new variable -/
theorem ev_alloc (t : TypeId) (hgd : o.guard = none) (ho : o.op = .alloc t) {cs : Array Value}
    (hrun : (execOp a.eval o).run P W = .ok (.value (.pointer (some ⟨W.heap.size, 0, none⟩))) (W.alloc (.cells cs t (0, 0))))
    (h : ∀ g, g = W.heap.size → ∀ w1, w1.heap[g]? = some (.cells cs t (0, 0)) → Below W.heap.size W w1 → wpList P ops Q rest (a.put o.dst (.pointer (some ⟨g, 0, none⟩))) w1) : wpList P ops Q (o :: rest) a W :=
  Kd.event_run hgd hrun (h _ rfl _ (blk_new W _) (below_alloc (Below.refl _ _) _))

/-- a value laid into a new block -/
theorem ev_box (t : TypeId) (x : Operand) (hgd : o.guard = none) (ho : o.op = .box t x) {cs : Array Value}
    (hrun : (execOp a.eval o).run P W = .ok (.value (.pointer (some ⟨W.heap.size, 0, none⟩))) (W.alloc (.cells cs t (0, 0))))
    (h : ∀ g, g = W.heap.size → ∀ w1, w1.heap[g]? = some (.cells cs t (0, 0)) → Below W.heap.size W w1 → wpList P ops Q rest (a.put o.dst (.pointer (some ⟨g, 0, none⟩))) w1) : wpList P ops Q (o :: rest) a W :=
  Kd.event_run hgd hrun (h _ rfl _ (blk_new W _) (below_alloc (Below.refl _ _) _))

/-- a store of a whole block -/
theorem ev_store (t : TypeId) (p x : Operand) (hgd : o.guard = none) (hN : o.dst = none) (ho : o.op = .store t p x) {g : Nat} {e : TypeId} {cur : Array Value}
    (hp : a.eval p = .pointer (some ⟨g, 0, none⟩)) (hh : W.heap[g]? = some (.cells cur e (0, 0))) {u : Value} (hx : a.eval x = u) (hsz : (P.info? t).map (·.size) = some cur.size) (hu : u.cells.size = cur.size)
    (h1 : u.cells.toList.all (fun q => q.oneCell') = true)
    (h : ∀ w1, w1.heap[g]? = some (.cells u.cells e (0, 0)) → Keep (· = g) W w1 → wpList P ops Q rest a w1) : wpList P ops Q (o :: rest) a W := by
  have hl : u.cells.toList.length = cur.size := by rw [Array.length_toList, hu]
  have hrun := run_store_run (P := P) t u u.cells.toList hh rfl (by rw [hsz, hl]) (by rw [hl, Nat.zero_add]; exact Nat.le_refl _) (fun q hq => List.all_eq_true.1 h1 q hq)
  have hs := setCells_same g u.cells.toList 0 W
  refine wpList_plain hgd fun K hK => ?_
  unfold Oper.wp execOp
  simp only [ho, hp, hx, Sem.run_bind, Sem.run_pure, Result.andThen_ok, hrun]
  show K (a.put o.dst undef) _
  rw [hN]
  refine hK a _ (h _ ?_ ⟨hs.1, hs.2.1, hs.2.2.1, by rw [hs.2.2.2]; exact Nat.le_refl _, fun i _ hi => setCells_far _ _ i hi⟩)
  obtain ⟨cur', hc', hsz', hcc⟩ := setCells_row u.cells.toList 0 W cur hh (by rw [hl, Nat.zero_add]; exact Nat.le_refl _)
  have : cur' = u.cells := by
    apply Array.ext'
    rw [hcc, List.take_zero, List.nil_append, Nat.zero_add, hl, List.drop_of_length_le (by rw [Array.length_toList]; exact Nat.le_refl _), List.append_nil]
  rw [hc', this]
end
end Go.Proofs.YtpapbigghiiolaaGreatDoor

/-
  More rules: to stop a walk at an operation.
-/
set_option linter.unusedVariables false
namespace Go.Proofs.YtpapbigghiiolaaGreatDoor
open Go.RowKit Go.Proofs.YtpapbigghiiolaaGreatDoorW.PrintWords

theorem below_keep {w w1 w2 : World} {S : Nat → Prop} (h : Below w.heap.size w w1) (k : Keep S w1 w2) (hs : ∀ i, S i → w.heap.size ≤ i) : Below w.heap.size w w2 := h.trans (k.below h.size hs)

theorem set2 {w : World} {g : Nat} {t : TypeId} {c0 c1 v0 v1 : Value} (h : w.heap[g]? = some (.cells #[c0, c1] t (0, 0))) : ((w.setCell ⟨g, 0, none⟩ v0).setCell ⟨g, 1, none⟩ v1).heap[g]? = some (.cells #[v0, v1] t (0, 0)) := by
  have := blk_set (blk_set h 0 v0) 1 v1
  simpa using this

section
variable {P : Program} {ops : Array Oper} {rest : List Oper} {o : Oper} {a : Act} {Q : Exit → Act → World → Prop} {W : World}
/-- the walk stops at this very operation -/
theorem stop_ (op : Op) (_ho : o.op = op) (h : Aside0 (wpList P ops Q (o :: rest) a W)) : wpList P ops Q (o :: rest) a W := h.out
end

theorem results_cell2 (fn : Func) (w : World) (tmps : Array Value) (ad u : Tmp) (h : fn.results = #[.cell ad 45, .tmp u]) {g : Nat} (hp : tmps.getD ad undef = .pointer (some ⟨g, 0, none⟩)) {v0 v1 : Value} (hh : w.heap[g]? = some (.cells #[v0, v1] 45 (0, 0))) :
    (results fn tmps).run Tryz.prog w = .ok (.tuple #[.agg #[v0, v1], tmps.getD u undef]) w := by
  have hc0 : w.cell? ⟨g, 0, none⟩ = some v0 := (blk_cell hh 0).trans rfl
  have hc1 : w.cell? ⟨g, 1, none⟩ = some v1 := (blk_cell hh 1).trans rfl
  have hp' : tmps[ad]?.getD undef = .pointer (some ⟨g, 0, none⟩) := by simpa using hp
  simp [results, h, go_sem, hp', hc0, hc1]

theorem infoStr : (Tryz.prog.info? 9).map (fun i => (i.zero, i.size, i.bytes)) = some (some (.string ⟨#[]⟩), 1, 16) := by kernel_rfl
theorem infoIns : (Tryz.prog.info? 45).map (fun i => (i.zero, i.size, i.bytes)) = some (some (.agg #[.int .i64 0, .int .i64 0]), 2, 16) := by kernel_rfl
end Go.Proofs.YtpapbigghiiolaaGreatDoor
