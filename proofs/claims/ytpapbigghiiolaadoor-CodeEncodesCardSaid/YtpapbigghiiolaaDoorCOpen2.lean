/-
  Bytes that came in, opened.
-/
import Derived.Test.YtpapbigghiiolaaDoorCOpen
import Derived.Test.YtpapbigghiiolaaDoorCCodec
import Derived.SizedLaws
import Derived.ChangeSlices
namespace Go.Proofs.YtpapbigghiiolaaDoor
open Go.ChangeShapes Go.WideShapes Go.RowKit Go.Deep Go.Joins Go.Proofs.YtpapbigghiiolaaDoorW.PrintWords
set_option linter.unusedVariables false

theorem bytes_back {zs : List Int} (h : ∀ n ∈ zs, (Lit.int .u8 n).wf = true) : ints (zs.map fun n => UInt8.ofNat n.toNat) = zs := by
  unfold ints
  rw [List.map_map]
  refine (List.map_congr_left (fun n hn => ?_)).trans (List.map_id zs)
  have hw := h n hn
  unfold Lit.wf at hw
  rw [Bool.and_eq_true] at hw
  have h0 : 0 ≤ n := of_decide_eq_true hw.1
  have h1 : n ≤ 255 := of_decide_eq_true hw.2
  simp only [Function.comp_apply, id_eq, UInt8.toNat_ofNat']
  omega

set_option maxRecDepth 100000 in
theorem open_bytes {H : Type} {enc : TypeId × Value → H} {W : World} {base : Nat} {v : Value} {d : DataW H} {p : List MemPlace} {ts : List TypeId} {ds : List (DataW H)} {j : Nat}
    (hv : Value.okWide Tryd.prog W .any base 46 v) (hsz : (DataW.weightsEach Tryd.prog ts ds).all (· ≤ reachBytes) = true) (ht : ts[j]? = some 46) (hd : ds[j]? = some d)
    (h : DataW.Trod enc Tryd.prog W 0 (fun _ => true) true 46 v d p) : ∃ A c l, v = .slice A l.length c ∧ IsB W A c l := by
  obtain ⟨a, len, cap, rfl⟩ := okWide_slice Tryd.underlying46 hv
  obtain ⟨fuel, hf⟩ := h
  rcases open_ints Tryd.underlying46 Tryd.underlying5 (by kernel_rfl) hf with ⟨hcs, _⟩ | ⟨x, l, c, zs, hcs, _, hl, hm, hz, hx, hcell, hwz⟩
  · simp [Value.cells] at hcs
    obtain ⟨rfl, rfl, rfl⟩ := hcs
    exact ⟨none, 0, [], rfl, Kd.C_nil _ _, Nat.le_refl _, by decide⟩
  · simp [Value.cells] at hcs
    obtain ⟨rfl, rfl, rfl⟩ := hcs
    have hz' : zs.length = cap := by simpa using hz
    have hr : cap ≤ 140737488351232 := by
      have hd' : d = .slice (lits .u8 (zs.take len)) (lits .u8 (zs.drop len)) := congrArg Prod.fst hx
      rw [hd'] at hd
      have := sized_slice hsz ht hd Tryd.underlying46
      have hb : Tryd.prog.bytesOf 5 = 1 := by kernel_rfl
      rw [hb] at this
      have hl1 : (lits (H := H) .u8 (zs.take len)).length = (zs.take len).length := by simp [lits]
      have hl2 : (lits (H := H) .u8 (zs.drop len)).length = (zs.drop len).length := by simp [lits]
      rw [hl1, hl2, List.length_take, List.length_drop] at this
      unfold reachBytes at this
      omega
    have hwt : ∀ n ∈ zs.take len, (Lit.int .u8 n).wf = true := fun n hn => hwz n (List.mem_of_mem_take hn)
    have hll : ((zs.take len).map fun n => UInt8.ofNat n.toNat).length = len := by rw [List.length_map, List.length_take]; omega
    refine ⟨some x, cap, (zs.take len).map (fun n => UInt8.ofNat n.toNat), by rw [hll], ?_, by rw [hll]; exact hl, by rw [hll]; omega⟩
    rw [bytes_back hwt, hll]
    refine ⟨by rw [List.length_take]; omega, by omega, fun _ => ⟨x, rfl, fun j q hq => ?_⟩⟩
    have hjl : j < (zs.take len).length := (List.getElem?_eq_some_iff.1 hq).1
    have hjz : j < zs.length := by rw [List.length_take] at hjl; omega
    rw [List.getElem?_take] at hq
    have hjlen : j < len := by rw [List.length_take] at hjl; omega
    rw [if_pos hjlen] at hq
    have hc := hcell j hjz
    rw [List.getD_eq_getElem?_getD, hq] at hc
    refine ⟨[.int .u8 q], rfl, rfl, fun i u hu => ?_⟩
    cases i with
    | zero => cases hu; simpa [Kd.int, Kd.scalar] using hc
    | succ i => cases hu
end Go.Proofs.YtpapbigghiiolaaDoor
