/-
  A program that came in, opened: its names and its instructions.
-/
import Derived.Test.YtpapbigghiiolaaGreatDoorCHex
import Derived.Test.YtpapbigghiiolaaGreatDoorCRow
import Derived.Lib.SmallJoins
import Derived.Deep.Slices
import Derived.Deep.Fields
import Derived.SliceStrings
import Derived.ChangeSame
namespace Go.Proofs.YtpapbigghiiolaaGreatDoor
open Go.ChangeShapes Go.WideShapes Go.RowKit Go.Deep Go.Joins Go.Proofs.YtpapbigghiiolaaGreatDoorW.PrintWords
set_option linter.unusedVariables false
section
variable {H : Type} {enc : TypeId × Value → H} {P : Program} {w : World} {base : Nat} {spare : Nat → Bool} {held : Bool}
theorem open_slice_fields {t e : TypeId} {fs : Array Field} {fuel : Nat} {cs : List Value} {x : DataW H × List MemPlace} (ht : P.underlying t = some (.slice e)) (he : P.underlying e = some (.struct fs))
    (hone : oneCellFields P fs = true) (hC : P.cellsOf e = fs.size) (h : DataW.trod enc P w base spare held fuel t cs = some x) :
    (cs = [.slice none 0 0] ∧ x = (.nil, [])) ∨
    ∃ (a : Addr) (len cap m : Nat), cs = [.slice (some a) len cap] ∧ len ≤ cap ∧ cap ≤ maxLen ∧ m = (if spare a.block then cap else len) ∧
      ∀ i, i < m → ∀ (j : Nat) (f : Field), fs[j]? = some f → ∃ (v : Value) (n : Nat) (y : DataW H × List MemPlace), w.cell? (a.add (i * fs.size + j)) = some v ∧ DataW.trod enc P w base spare held n f.type [v] = some y := by
  rcases open_slice ht h with h0 | ⟨a, len, cap, m, n, D, Pl, hcs, hb, hl, hm, hmm, hx, hi⟩
  · exact .inl h0
  · refine .inr ⟨a, len, cap, m, hcs, hl, hm, hmm, fun i him j f hj => ?_⟩
    obtain ⟨cs', hc, ht'⟩ := hi i him
    rw [hC] at hc
    obtain ⟨ys, n', hn', hy, hlen, hyl, hf⟩ := DataW.trod_struct he ht'
    obtain ⟨_, hcl, hat⟩ := World.cells?_some hc
    obtain ⟨ho, hk⟩ := hone_of hone j f hj
    have hjl : j < fs.size := (Array.getElem?_eq_some_iff.1 hj).1
    have hcell := hat j hjl
    have hv : cs'[j]? = some (cs'[j]'(by omega)) := List.getElem?_eq_getElem (by omega)
    have h1 := hf j f hj
    rw [ho, hk] at h1
    have hone' : (cs'.drop j).take 1 = [cs'[j]'(by omega)] := by
      rw [List.drop_eq_getElem_cons (by omega)]
      rfl
    rw [hone'] at h1
    have hys : ys[j]? = some (ys[j]'(by omega)) := List.getElem?_eq_getElem (by omega)
    refine ⟨_, _, _, ?_, h1.trans hys⟩
    rw [← Go.Deep.add_add, hcell, hv]
end

def cellInt (w : World) (a : Addr) : Int := match w.cell? a with | some (.int _ n) => n | _ => 0

set_option maxRecDepth 100000 in
theorem open_prog {H : Type} {enc : TypeId × Value → H} {W : World} {base : Nat} {v : Value} {d : DataW H} {p : List MemPlace} (hv : Value.okWide Tryz.prog W .any base 25 v)
    (h : DataW.Trod enc Tryz.prog W 0 (fun _ => true) true 25 v d p) : ∃ A0 c0 A1 c1 q, v = pv A0 c0 A1 c1 q ∧ IsP W A0 c0 A1 c1 q ∧ Wf q := by
  obtain ⟨v0, v1, y0, y1, n, rfl, _, _, h0, h1⟩ := open_agg2 Tryz.underlying25 (by kernel_rfl) (by kernel_rfl) hv h
  obtain ⟨A0, c0, ns, rfl, hc0, hn⟩ : ∃ A0 c0, ∃ ns : List CS.Bs, v0 = .slice A0 ns.length c0 ∧ ns.length ≤ c0 ∧ kStr.C W A0 ns.length ns := by
    rcases open_strings Tryz.underlying22 Tryz.underlying9 (by kernel_rfl) h0 with ⟨hcs, _⟩ | ⟨a, len, cap, ss, hcs, _, hl, hm, hlen, _, hcell, _⟩
    · obtain rfl := List.singleton_inj.1 hcs
      exact ⟨none, 0, [], rfl, Nat.le_refl _, Kd.C_nil _ _⟩
    · obtain rfl := List.singleton_inj.1 hcs
      have hsl : ss.length = cap := by simpa using hlen
      have hxl : ((ss.take len).map fun s => s.data.toList).length = len := by rw [List.length_map, List.length_take]; omega
      have hC : kStr.C W (some a) len ((ss.take len).map fun s => s.data.toList) := by
        unfold maxLen at hm
        refine ⟨hxl, by omega, fun _ => ⟨a, rfl, fun j q hq => ?_⟩⟩
        rw [List.getElem?_map] at hq
        cases hs : (ss.take len)[j]? with
        | none => rw [hs] at hq; cases hq
        | some s =>
          rw [hs] at hq
          cases hq
          have hj : j < ss.length := by
            have := (List.getElem?_eq_some_iff.1 hs).1
            rw [List.length_take] at this
            omega
          have hsj : ss.getD j ByteArray.empty = s := by
            rw [List.getElem?_take] at hs
            split at hs
            · rw [List.getD_eq_getElem?_getD, hs]; rfl
            · cases hs
          refine ⟨[.string s], rfl, rfl, fun i u hu => ?_⟩
          cases i with
          | zero =>
            cases hu
            have := hcell j hj
            rw [hsj] at this
            simpa [kStr, Kd.scalar] using this
          | succ i => cases hu
      exact ⟨some a, cap, (ss.take len).map (fun s => s.data.toList), by rw [hxl], by rw [hxl]; exact hl, by rw [hxl]; exact hC⟩
  obtain ⟨A1, c1, cs, rfl, hc1, hcd, hwf⟩ : ∃ A1 c1, ∃ cs : List CS.Ins, v1 = .slice A1 cs.length c1 ∧ cs.length ≤ c1 ∧ kIns.C W A1 cs.length cs ∧ ∀ i ∈ cs, -9223372036854775808 ≤ i.arg ∧ i.arg ≤ 9223372036854775807 := by
    rcases open_slice_fields Tryz.underlying23 Tryz.underlying59 (by kernel_rfl) (by kernel_rfl) h1 with ⟨hcs, _⟩ | ⟨a, len, cap, m, hcs, hl, hm, hmm, hcell⟩
    · obtain rfl := List.singleton_inj.1 hcs
      exact ⟨none, 0, [], rfl, Nat.le_refl _, Kd.C_nil _ _, fun i hi => by cases hi⟩
    · obtain rfl := List.singleton_inj.1 hcs
      have hmc : m = cap := by simpa using hmm
      have hat : ∀ i, i < len → W.cell? (a.add (i * 2)) = some (.int .i64 (cellInt W (a.add (i * 2)))) ∧ W.cell? (a.add (i * 2 + 1)) = some (.int .i64 (cellInt W (a.add (i * 2 + 1)))) ∧ (Lit.int .i64 (cellInt W (a.add (i * 2 + 1)))).wf = true := by
        intro i hi
        obtain ⟨u0, n0, z0, hu0, ht0⟩ := hcell i (by omega) 0 _ rfl
        obtain ⟨u1, n1, z1, hu1, ht1⟩ := hcell i (by omega) 1 _ rfl
        obtain ⟨k0, e0, _, _⟩ := DataW.trod_int Tryz.underlying3 ht0
        obtain ⟨k1, e1, _, w1⟩ := DataW.trod_int Tryz.underlying2 ht1
        obtain rfl := List.singleton_inj.1 e0
        obtain rfl := List.singleton_inj.1 e1
        have hu0' : W.cell? (a.add (i * 2)) = some (.int .i64 k0) := hu0
        have hu1' : W.cell? (a.add (i * 2 + 1)) = some (.int .i64 k1) := hu1
        have f0 : cellInt W (a.add (i * 2)) = k0 := by unfold cellInt; rw [hu0']
        have f1 : cellInt W (a.add (i * 2 + 1)) = k1 := by unfold cellInt; rw [hu1']
        rw [f0, f1]
        exact ⟨hu0', hu1', w1⟩
      have hxl : ((List.range len).map fun i => (⟨cellInt W (a.add (i * 2)), cellInt W (a.add (i * 2 + 1))⟩ : CS.Ins)).length = len := by simp
      have hC : kIns.C W (some a) len ((List.range len).map fun i => (⟨cellInt W (a.add (i * 2)), cellInt W (a.add (i * 2 + 1))⟩ : CS.Ins)) := by
        unfold maxLen at hm
        refine ⟨hxl, by omega, fun _ => ⟨a, rfl, fun j q hq => ?_⟩⟩
        rw [List.getElem?_map] at hq
        cases hs : (List.range len)[j]? with
        | none => rw [hs] at hq; cases hq
        | some s =>
          rw [hs] at hq
          cases hq
          obtain ⟨hjl, hje⟩ := List.getElem?_eq_some_iff.1 hs
          rw [List.length_range] at hjl
          have hsj : s = j := by rw [← hje]; simp
          subst hsj
          obtain ⟨e0, e1, _⟩ := hat s hjl
          refine ⟨[.int .i64 (cellInt W (a.add (s * 2))), .int .i64 (cellInt W (a.add (s * 2 + 1)))], rfl, kIns_K.2 rfl, fun i u hu => ?_⟩
          have hz : kIns.sz = 2 := rfl
          rw [hz]
          match i, hu with
          | 0, hu => cases hu; exact e0
          | 1, hu => cases hu; exact e1
      refine ⟨some a, cap, (List.range len).map (fun i => ⟨cellInt W (a.add (i * 2)), cellInt W (a.add (i * 2 + 1))⟩), by rw [hxl], by rw [hxl]; exact hl, by rw [hxl]; exact hC, fun i hi => ?_⟩
      obtain ⟨s, hs, rfl⟩ := List.mem_map.1 hi
      have := (hat s (List.mem_range.1 hs)).2.2
      exact bounds_i64 this
  exact ⟨A0, c0, A1, c1, ⟨ns, cs⟩, rfl, ⟨hn, hc0, hcd, hc1⟩, hwf⟩
end Go.Proofs.YtpapbigghiiolaaGreatDoor
