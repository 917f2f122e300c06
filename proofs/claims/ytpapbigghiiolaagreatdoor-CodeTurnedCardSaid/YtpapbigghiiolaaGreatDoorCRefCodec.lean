/-
  The document's Reader (layer 1): contracts of its methods.
  The document's Reader (layer 1): Text, End.
  The document's Number, Int, Text (layer 1): bytes behind others.
-/
import Derived.Test.YtpapbigghiiolaaGreatDoorCCodec
import Derived.Test.YtpapbigghiiolaaGreatDoorCEnDe
set_option linter.unusedVariables false
namespace Go.Proofs.YtpapbigghiiolaaGreatDoor
open Go.RowKit Go.Proofs.YtpapbigghiiolaaGreatDoorW.PrintWords

theorem Of_any (A : Option Addr) (c : Nat) (l : CS.Bs) (w : World) (ok : Nat → Prop) (h : FB w ok A l) (hlc : l.length ≤ c) (hc : l.length ≤ 140737488355328) (hok : ∀ k, ok k → k < w.heap.size) :
    Calls Tryz.prog 50 #[.slice A l.length c] w fun e w' => ∃ g, e = .returned (.pointer (some ⟨g, 0, none⟩)) ∧ w.heap.size ≤ g ∧ IsR 104 ok g (some l) w' ∧ Below w.heap.size w w' := by
  have H := Aside0.mk h
  have HO := Aside0.mk hok
  clear h hok
  go_enter Tryz.func50, Tryz.ntmps50
  go_wp2
  go_ret
  refine ⟨_, rfl, Nat.le_refl _, ?_, below_alloc (Below.refl _ _) _⟩
  exact ⟨A, c, blk_new _ _, hlc, Kd.F_alloc H.out _, fun k hk => by have := HO.out k hk; omega, by have := hlc; simp; omega⟩

theorem RefFail_any (ok : Nat → Prop) (g : Nat) (r : CS.Rd) (w : World) (h : IsR 104 ok g r w) :
    Calls Tryz.prog 69 #[.pointer (some ⟨g, 0, none⟩)] w fun e w' => e = .returned (.tuple #[]) ∧ IsR 104 ok g none w' ∧ Keep (· = g) w w' := by
  obtain ⟨A, c, h1, h2, h3, h4, h5⟩ := h
  have x0 := (blk_cell h1 0).trans rfl
  have x1 := (blk_cell h1 1).trans rfl
  have f0 := blk_frozen h1 0
  have f1 := blk_frozen h1 1
  have H1 := Aside0.mk h1
  have H3 := Aside0.mk h3
  have H4 := Aside0.mk h4
  clear h1 h3 h4
  go_enter Tryz.func69, Tryz.ntmps69
  go_wp2
  go_end0
  exact ⟨rfl, ⟨none, 0, set2 H1.out, Nat.le_refl _, Kd.F_nil _ _ _, H4.out, by decide⟩, ((Keep.refl (· = g) w).set_ (.inl rfl) 0 _).set_ (.inl rfl) 1 _⟩

set_option maxRecDepth 100000 in
set_option maxHeartbeats 2000000 in
theorem RefNumber_any (ok : Nat → Prop) (g : Nat) (r : CS.Rd) (w : World) (h : IsR 104 ok g r w) :
    Calls Tryz.prog 51 #[.pointer (some ⟨g, 0, none⟩)] w (NumPost 104 ok g r w) := by
  have H := Aside0.mk h
  obtain ⟨A, c, h1, h2, h3, h4, h5⟩ := h
  have x0 := (blk_cell h1 0).trans rfl
  have x1 := (blk_cell h1 1).trans rfl
  have f0 := blk_frozen h1 0
  have H1 := Aside0.mk h1
  have H3 := Aside0.mk h3
  have H4 := Aside0.mk h4
  clear h1 h3 h4
  cases r with
  | none =>
    simp only [Option.isNone_none, Option.getD_none, List.length_nil] at x0 x1 h2 h5
    go_enter Tryz.func51, Tryz.ntmps51
    go_wp2_with fail
    refine (RefFail_any ok g _ _ H.out).mono ?_
    rintro e w1 ⟨rfl, hr1, hk1⟩
    have HR := Aside0.mk hr1
    have HK := Aside0.mk hk1
    clear hr1 hk1
    go_wp2
    go_ret
    exact ⟨rfl, HR.out, HK.out⟩
  | some l =>
    simp only [Option.isNone_some, Option.getD_some] at x0 x1 h2 h5
    cases l with
    | nil =>
      simp only [List.length_nil] at x0 h2 h5
      go_enter Tryz.func51, Tryz.ntmps51
      go_wp2_with fail
      refine (RefFail_any ok g _ _ H.out).mono ?_
      rintro e w1 ⟨rfl, hr1, hk1⟩
      have HR := Aside0.mk hr1
      have HK := Aside0.mk hk1
      clear hr1 hk1
      go_wp2
      go_ret
      exact ⟨rfl, HR.out, HK.out⟩
    | cons f rest =>
      obtain ⟨ad, hA, hc0⟩ := H3.out.cell 0 (by simp)
      subst hA
      replace hc0 : w.cell? ad = some (.int .u8 (f.toNat : Int)) := by
        have e : ad.add 0 = ad := by unfold Addr.add; split <;> simp_all
        rw [e] at hc0
        exact hc0
      have te : (((rest.length : Int) + 1) == 0) = false := by simp; omega
      replace x0 : w.cell? ⟨g, 0, none⟩ = some (.slice (some ad) (rest.length + 1) c) := x0
      have hlen : rest.length + 1 ≤ c := h2
      have hmax : rest.length + 1 ≤ 4611686018427387904 := h5
      replace x1 : w.cell? ⟨g, 1, none⟩ = some (.bool false) := x1
      replace H3 : Aside0 (FB w ok (some ad) (f :: rest)) := H3
      replace H1 : Aside0 (w.heap[g]? = some (.cells #[.slice (some ad) (rest.length + 1) c, .bool false] 104 (0, 0))) := H1
      clear h2 h5
      have hf := f.toNat_lt
      obtain ⟨i0, hi0, hi1⟩ := infoByteX
      by_cases hs : f.toNat < 248
      · have HE : Aside0 (CS.rdNum (some (f :: rest)) = (f.toNat, some rest)) := ⟨by simp only [CS.rdNum]; rw [if_pos hs]⟩
        have t0 : decide ((f.toNat : Int) < 248) = true := decide_eq_true (by omega)
        obtain ⟨A', hsl', hfb⟩ := slice_from (P := Tryz.prog) (t := 35) (kl := .i64) Tryz.underlying35 hi0 hi1 H3.out c 1 (by simp) (by simpa using hlen)
        have hsl : ∀ W : World, (Instr.slice 35 (.slice (some ad) (rest.length + 1) c) (some (.int .i64 1)) none none).run Tryz.prog W = .ok (.slice A' rest.length (c - 1)) W := fun W => hsl' W
        have HFB : Aside0 (FB w ok A' rest) := ⟨hfb⟩
        clear hsl' hfb hs hi0 hi1
        go_enter Tryz.func51, Tryz.ntmps51
        go_wp2
        go_ret
        have hk : Keep (· = g) w (w.setCell ⟨g, 0, none⟩ (.slice A' rest.length (c - 1))) := (Keep.refl (· = g) w).set_ (.inl rfl) 0 _
        refine ⟨by rw [HE.out]; rfl, ?_, hk⟩
        rw [HE.out]
        exact ⟨A', c - 1, by simpa using blk_set H1.out 0 (.slice A' rest.length (c - 1)), by simp; omega, HFB.out.keep hk (fun k h => H4.out k h), H4.out, by simp; omega⟩
      · have t0 : decide ((f.toNat : Int) < 248) = false := decide_eq_false (by omega)
        obtain ⟨k, hk⟩ : ∃ k, k = f.toNat - 247 := ⟨_, rfl⟩
        obtain ⟨n, hn⟩ : ∃ n, n = f.toNat := ⟨_, rfl⟩
        rw [← hn] at hc0 t0
        have hnk : (n : Int) - 247 = (k : Int) := by omega
        have hk1 : 1 ≤ k := by omega
        have hk8 : k ≤ 8 := by omega
        by_cases hshort : rest.length < k
        · have HE : Aside0 (CS.rdNum (some (f :: rest)) = (0, none)) := ⟨by simp only [CS.rdNum]; rw [if_neg hs, ← hk, if_pos hshort]⟩
          have t1 : decide ((rest.length : Int) + 1 < 1 + (k : Int)) = true := decide_eq_true (by omega)
          have HG := Aside0.mk H.out
          clear hs hk hn hshort
          go_enter Tryz.func51, Tryz.ntmps51
          go_wp2_with fail
          refine (RefFail_any ok g _ _ HG.out).mono ?_
          rintro e w1 ⟨rfl, hr1, hk1⟩
          have HR := Aside0.mk hr1
          have HK := Aside0.mk hk1
          clear hr1 hk1
          go_wp2
          go_ret
          exact ⟨by rw [HE.out]; rfl, by rw [HE.out]; exact HR.out, HK.out⟩
        · have t1 : decide ((rest.length : Int) + 1 < 1 + (k : Int)) = false := decide_eq_false (by omega)
          obtain ⟨m, hm⟩ : ∃ m, m = rest.take k := ⟨_, rfl⟩
          have hml : m.length = k := by rw [hm, List.length_take]; omega
          obtain ⟨ad1, hA1, hc1⟩ := H3.out.cell 1 (by simp; omega)
          cases hA1
          obtain ⟨r0, hr0⟩ : ∃ r0, r0 = (rest.getD 0 0).toNat := ⟨_, rfl⟩
          replace hc1 : w.cell? ⟨ad.block, ad.off + 1, none⟩ = some (.int .u8 (r0 : Int)) := by rw [hr0]; exact hc1
          have hi1b : (1 : Int) < (rest.length : Int) + 1 := by omega
          have HHD : Aside0 ((rest.head? = some 0) ↔ r0 = 0) := ⟨by
            rw [hr0]
            have hne : 0 < rest.length := by omega
            cases rest with
            | nil => simp at hne
            | cons q qs =>
              simp only [List.head?_cons, Option.some.injEq, List.getD_cons_zero]
              constructor
              · rintro rfl; rfl
              · intro h; exact UInt8.toNat_inj.1 h⟩
          have HE0 : Aside0 (CS.rdNum (some (f :: rest)) = if CS.val m < 248 ∨ r0 = 0 then (0, none) else (CS.val m, some (rest.drop k))) := ⟨by
            simp only [CS.rdNum]
            rw [if_neg hs, ← hk, if_neg hshort, ← hm]
            by_cases hb : CS.val m < 248 ∨ r0 = 0
            · rw [if_pos hb, if_pos (by rcases hb with h | h; exact .inl h; exact .inr (HHD.out.2 h))]
            · rw [if_neg hb, if_neg (by rintro (h | h); exact hb (.inl h); exact hb (.inr (HHD.out.1 h)))]⟩
          have HM := Aside0.mk hm
          have HML := Aside0.mk hml
          have HSH := Aside0.mk hshort
          clear hs hk hn hshort hm hml hr0
          by_cases hz : r0 = 0
          · have HE : Aside0 (CS.rdNum (some (f :: rest)) = (0, none)) := ⟨by rw [HE0.out, if_pos (.inr hz)]⟩
            have t4 : ((r0 : Int) == 0) = true := by rw [hz]; rfl
            clear hz
            go_enter Tryz.func51, Tryz.ntmps51
            go_wp2_with fail
            refine (RefFail_any ok g _ _ H.out).mono ?_
            rintro e w1 ⟨rfl, hr1, hk1⟩
            have HR := Aside0.mk hr1
            have HK := Aside0.mk hk1
            clear hr1 hk1
            go_wp2
            go_ret
            exact ⟨by rw [HE.out]; rfl, by rw [HE.out]; exact HR.out, HK.out⟩
          · have t4 : ((r0 : Int) == 0) = false := by simp; omega
            have HNZ := Aside0.mk hz
            clear hz
            go_enter Tryz.func51, Tryz.ntmps51
            go_wp2
            go_loop [5, 6] (fun v5 v6 => ∃ i : Nat, v6 = .int .i64 ((i : Int) + 1) ∧ i ≤ k ∧ v5 = .int .u64 ((CS.val (m.take i) : Nat) : Int)) (fun _ v => k + 1 - (intOf v).toNat)
            case atStart => exact ⟨0, rfl, Nat.zero_le _, rfl⟩
            case round =>
              obtain ⟨i, rfl, hi, rfl⟩ := hrel
              by_cases hlt : i < k
              · have t2 : decide ((i : Int) + 1 ≤ (k : Int)) = true := decide_eq_true (by omega)
                have j0 : (0 : Int) ≤ (i : Int) + 1 := by omega
                have j1 : (i : Int) + 1 < (rest.length : Int) + 1 := by have := HSH.out; omega
                have j2 : ((i : Int) + 1).toNat = i + 1 := by omega
                obtain ⟨ad2, hA2, hcell⟩ := H3.out.cell (i + 1) (by have := HSH.out; simp; omega)
                cases hA2
                obtain ⟨b, hb⟩ : ∃ b, b = (m.getD i 0).toNat := ⟨_, rfl⟩
                have hbm : ((f :: rest).getD (i + 1) 0) = m.getD i 0 := by
                  rw [HM.out, List.getD_cons_succ, List.getD_eq_getElem?_getD, List.getD_eq_getElem?_getD, List.getElem?_take, if_pos hlt]
                have hb256 : b < 256 := by rw [hb]; exact (m.getD i 0).toNat_lt
                obtain ⟨a, ha⟩ : ∃ a, a = CS.val (m.take i) := ⟨_, rfl⟩
                have hav : a < 72057594037927936 := by
                  have h1 := CS.val_lt (m.take i)
                  have h2 : (m.take i).length = i := by rw [List.length_take, HML.out]; omega
                  rw [h2, ← ha] at h1
                  exact Nat.lt_of_lt_of_le h1 (Nat.le_trans (Nat.pow_le_pow_right (by decide) (show i ≤ 7 by omega)) (by decide))
                replace hcell : w.cell? ⟨ad.block, ad.off + (i + 1), none⟩ = some (.int .u8 (b : Int)) := by rw [hb, ← hbm]; exact hcell
                rw [← ha]
                have HNX : Aside0 (CS.val (m.take (i + 1)) = a * 256 + b) := ⟨by rw [CS.val_take m i (by rw [HML.out]; exact hlt), ← ha, ← hb]⟩
                have hor := or_byte a b hav hb256
                clear hb ha hbm
                go_wp2
                go_round
                case rel => exact ⟨i + 1, by go_num, hlt, by rw [HNX.out]; go_num⟩
                case measure => simp [intOf]; omega
              · have t2 : decide ((i : Int) + 1 ≤ (k : Int)) = false := decide_eq_false (by omega)
                obtain ⟨a, ha⟩ : ∃ a, a = CS.val (m.take i) := ⟨_, rfl⟩
                have HV : Aside0 (a = CS.val m) := ⟨by rw [ha, List.take_of_length_le (by rw [HML.out]; omega)]⟩
                rw [← ha]
                clear ha
                by_cases hsm : a < 248
                · have HE : Aside0 (CS.rdNum (some (f :: rest)) = (0, none)) := ⟨by rw [HE0.out, ← HV.out, if_pos (.inl hsm)]⟩
                  have t3 : decide ((a : Int) < 248) = true := decide_eq_true (by omega)
                  clear hsm
                  go_wp2_with fail
                  refine (RefFail_any ok g _ _ H.out).mono ?_
                  rintro e w1 ⟨rfl, hr1, hk1⟩
                  have HR := Aside0.mk hr1
                  have HK := Aside0.mk hk1
                  clear hr1 hk1
                  go_wp2
                  go_ret
                  exact ⟨by rw [HE.out]; rfl, by rw [HE.out]; exact HR.out, HK.out⟩
                · have t3 : decide ((a : Int) < 248) = false := decide_eq_false (by omega)
                  have HE : Aside0 (CS.rdNum (some (f :: rest)) = (a, some (rest.drop k))) := ⟨by rw [HE0.out, ← HV.out, if_neg (by rintro (h | h); exact hsm h; exact HNZ.out h)]⟩
                  obtain ⟨A', hsl', hfb⟩ := slice_from (P := Tryz.prog) (t := 35) (kl := .i64) Tryz.underlying35 hi0 hi1 H3.out c (1 + k) (by have := HSH.out; simp; omega) (by simpa using hlen)
                  have hdl : ((f :: rest).drop (1 + k)).length = rest.length - k := by rw [List.length_drop, List.length_cons]; omega
                  have hsl : ∀ W : World, (Instr.slice 35 (.slice (some ad) (rest.length + 1) c) (some (.int .i64 (1 + (k : Int)))) none none).run Tryz.prog W = .ok (.slice A' (rest.length - k) (c - (1 + k))) W := fun W => by
                    have := hsl' W
                    rw [hdl] at this
                    exact this
                  have HFB : Aside0 (FB w ok A' (rest.drop k)) := ⟨by
                    have e : (f :: rest).drop (1 + k) = rest.drop k := by rw [Nat.add_comm, List.drop_succ_cons]
                    rw [e] at hfb
                    exact hfb⟩
                  clear hsl' hfb hdl hsm
                  go_wp2
                  go_ret
                  have hk : Keep (· = g) w (w.setCell ⟨g, 0, none⟩ (.slice A' (rest.length - k) (c - (1 + k)))) := (Keep.refl (· = g) w).set_ (.inl rfl) 0 _
                  refine ⟨by rw [HE.out]; rfl, ?_, hk⟩
                  rw [HE.out]
                  have hdl2 : (rest.drop k).length = rest.length - k := List.length_drop
                  exact ⟨A', c - (1 + k), by simpa using blk_set H1.out 0 (.slice A' (rest.length - k) (c - (1 + k))), by simp; omega, HFB.out.keep hk (fun k h => H4.out k h), H4.out, by simp; omega⟩

theorem RefRInt_any (ok : Nat → Prop) (g : Nat) (r : CS.Rd) (w : World) (h : IsR 104 ok g r w) :
    Calls Tryz.prog 53 #[.pointer (some ⟨g, 0, none⟩)] w fun e w' => e = .returned (.int .i64 (CS.rdInt r).1) ∧ IsR 104 ok g (CS.rdInt r).2 w' ∧ Keep (· = g) w w' := by
  have hlt := CS.rdNum_lt r
  have H := Aside0.mk h
  clear h
  go_enter Tryz.func53, Tryz.ntmps53
  go_wp2_with fail
  refine (RefNumber_any ok g r _ H.out).mono ?_
  rintro e w1 ⟨rfl, hr1, hk1⟩
  have HR := Aside0.mk hr1
  have HK := Aside0.mk hk1
  obtain ⟨n, hn⟩ : ∃ n, n = (CS.rdNum r).1 := ⟨_, rfl⟩
  have HE : Aside0 (CS.rdInt r = (CS.unzig n, (CS.rdNum r).2)) := ⟨by unfold CS.rdInt; rw [hn]⟩
  rw [← hn] at hlt ⊢
  clear hr1 hk1 hn
  by_cases hp : n % 2 = 1
  · have t1 : (((n : Int) % 2) == 1) = true := by simp; omega
    have HU : Aside0 (CS.unzig n = -((n : Int) / 2) - 1) := ⟨by unfold CS.unzig; rw [if_pos hp]; omega⟩
    clear hp
    go_wp2
    go_ret
    refine ⟨ret_i64 ?_, by rw [HE.out]; exact HR.out, HK.out⟩
    rw [HE.out, HU.out]
  · have t1 : (((n : Int) % 2) == 1) = false := by simp; omega
    have HU : Aside0 (CS.unzig n = (n : Int) / 2) := ⟨by unfold CS.unzig; rw [if_neg hp]; omega⟩
    clear hp
    go_wp2
    go_ret
    refine ⟨ret_i64 ?_, by rw [HE.out]; exact HR.out, HK.out⟩
    rw [HE.out, HU.out]
end Go.Proofs.YtpapbigghiiolaaGreatDoor

set_option linter.unusedVariables false
namespace Go.Proofs.YtpapbigghiiolaaGreatDoor
open Go.RowKit Go.Proofs.YtpapbigghiiolaaGreatDoorW.PrintWords

namespace CS
theorem rdNum_bad (r : Rd) (h : (rdNum r).2 = none) : (rdNum r).1 = 0 := by
  cases r with
  | none => rfl
  | some l =>
    cases l with
    | nil => rfl
    | cons f rest =>
      simp only [rdNum] at h ⊢
      split at h
      · cases h
      · rename_i h0
        rw [if_neg h0]
        split at h
        · rename_i h1; rw [if_pos h1]
        · rename_i h1
          rw [if_neg h1]
          split at h
          · rename_i h2; rw [if_pos h2]
          · cases h
theorem textOf_short (n : Nat) (r : Rd) (h : (r.getD []).length < n) : textOf n r = ([], none) := by
  cases r with
  | none => rfl
  | some l => exact if_pos h
theorem textOf_long (n : Nat) (r : Rd) (h : ¬ (r.getD []).length < n) (h0 : r = none → n = 0) : textOf n r = ((r.getD []).take n, r.map (·.drop n)) := by
  cases r with
  | none => rw [h0 rfl]; rfl
  | some l => exact if_neg h
end CS

set_option maxRecDepth 100000 in
set_option maxHeartbeats 1000000 in
theorem RefText2_any (ok : Nat → Prop) (g : Nat) (r : CS.Rd) (w : World) (h : IsR 104 ok g r w) :
    Calls Tryz.prog 52 #[.pointer (some ⟨g, 0, none⟩)] w (TextPost 104 ok g r w) := by
  have hlt := CS.rdNum_lt r
  have H := Aside0.mk h
  clear h
  go_enter Tryz.func52, Tryz.ntmps52
  go_wp2_with fail
  refine (RefNumber_any ok g r _ H.out).mono ?_
  rintro e w1 ⟨rfl, hr1, hk1⟩
  have HK1 := Aside0.mk hk1
  obtain ⟨n, hn⟩ : ∃ n, n = (CS.rdNum r).1 := ⟨_, rfl⟩
  obtain ⟨r1, hrr⟩ : ∃ r1, r1 = (CS.rdNum r).2 := ⟨_, rfl⟩
  have hbad : r1 = none → n = 0 := fun h => by rw [hn]; exact CS.rdNum_bad r (by rw [← hrr]; exact h)
  rw [← hn] at hlt ⊢
  rw [← hrr] at hr1
  have HD : Aside0 (CS.rdText r = CS.textOf n r1) := ⟨by rw [CS.rdText_eq, hn, hrr]⟩
  have HBAD := Aside0.mk hbad
  have HR1 := Aside0.mk hr1
  obtain ⟨A, c, h1, h2, h3, h4, h5⟩ := hr1
  obtain ⟨l, hl⟩ : ∃ l, l = r1.getD [] := ⟨_, rfl⟩
  rw [← hl] at h1 h2 h3 h5
  have x0 : w1.cell? ⟨g, 0, none⟩ = some (.slice A l.length c) := (blk_cell h1 0).trans rfl
  have f0 := blk_frozen h1 0
  have H1 := Aside0.mk h1
  have H3 := Aside0.mk h3
  have H4 := Aside0.mk h4
  have HL := Aside0.mk hl
  clear h1 h3 h4 hn hrr hk1 hl hbad
  by_cases hs : l.length < n
  · have HE : Aside0 (CS.rdText r = ([], none)) := ⟨by rw [HD.out]; exact CS.textOf_short n r1 (by rw [← HL.out]; exact hs)⟩
    have t1 : decide (l.length < n) = true := decide_eq_true hs
    clear hs
    go_wp2_with fail
    refine (RefFail_any ok g _ _ HR1.out).mono ?_
    rintro e w2 ⟨rfl, hr2, hk2⟩
    have HR2 := Aside0.mk hr2
    have HK2 := Aside0.mk hk2
    clear hr2 hk2
    go_wp2
    go_ret
    exact ⟨by rw [HE.out]; rfl, by rw [HE.out]; exact HR2.out, HK1.out.trans HK2.out (fun _ _ h => h)⟩
  · have HE : Aside0 (CS.rdText r = (l.take n, r1.map (·.drop n))) := ⟨by rw [HD.out, HL.out]; exact CS.textOf_long n r1 (by rw [← HL.out]; exact hs) HBAD.out⟩
    have t1 : decide (l.length < n) = false := decide_eq_false hs
    obtain ⟨i0, hi0, hi1⟩ := infoByteX
    obtain ⟨hst, hfbt⟩ := slice_to (P := Tryz.prog) (t := 35) (kh := .u64) Tryz.underlying35 hi0 hi1 H3.out c n (by omega) h2
    obtain ⟨A', hsl', hfb⟩ := slice_from (P := Tryz.prog) (t := 35) (kl := .u64) Tryz.underlying35 hi0 hi1 H3.out c n (by omega) h2
    have hsl : ∀ W : World, (Instr.slice 35 (.slice A l.length c) (some (.int .u64 (n : Int))) none none).run Tryz.prog W = .ok (.slice A' (l.length - n) (c - n)) W := fun W => by
      have := hsl' W
      rw [List.length_drop] at this
      exact this
    have htl : (l.take n).length = n := by rw [List.length_take]; omega
    have hcv : (convert 35 9 (.slice A n c)).run Tryz.prog w1 = .ok (.string (sb (l.take n))) w1 := by
      have := FB.string (c := c) hfbt
      rwa [htl] at this
    have HFB := Aside0.mk hfb
    have HNS := Aside0.mk hs
    clear hsl' hfb hfbt hs htl hi0 hi1
    go_wp2
    go_ret
    have hk : Keep (· = g) w1 (w1.setCell ⟨g, 0, none⟩ (.slice A' (l.length - n) (c - n))) := (Keep.refl (· = g) w1).set_ (.inl rfl) 0 _
    refine ⟨by rw [HE.out]; rfl, ?_, HK1.out.trans hk (fun _ _ h => h)⟩
    rw [HE.out]
    have hdl2 : (l.drop n).length = l.length - n := List.length_drop
    have hg : (r1.map (·.drop n)).getD [] = l.drop n := by rw [HL.out]; cases r1 <;> simp
    have hb : (r1.map (·.drop n)).isNone = r1.isNone := by cases r1 <;> rfl
    have := HNS.out
    refine ⟨A', c - n, ?_, by rw [hg, hdl2]; omega, by rw [hg]; exact HFB.out.keep hk (fun k h => H4.out k h), H4.out, by rw [hg, hdl2]; omega⟩
    rw [hg, hb, hdl2]
    simpa using blk_set H1.out 0 (.slice A' (l.length - n) (c - n))

theorem RefEnd_any (ok : Nat → Prop) (g : Nat) (r : CS.Rd) (w : World) (h : IsR 104 ok g r w) :
    Calls Tryz.prog 54 #[.pointer (some ⟨g, 0, none⟩)] w fun e w' => e = .returned (.bool (decide (r = some []))) ∧ w' = w := by
  obtain ⟨A, c, h1, h2, h3, h4, h5⟩ := h
  have x0 := (blk_cell h1 0).trans rfl
  have x1 := (blk_cell h1 1).trans rfl
  clear h1 h3 h4
  cases r with
  | none =>
    replace x1 : w.cell? ⟨g, 1, none⟩ = some (.bool true) := x1
    go_enter Tryz.func54, Tryz.ntmps54
    go_wp2
    go_ret
    exact ⟨rfl, rfl⟩
  | some l =>
    replace x0 : w.cell? ⟨g, 0, none⟩ = some (.slice A l.length c) := x0
    replace x1 : w.cell? ⟨g, 1, none⟩ = some (.bool false) := x1
    cases l with
    | nil =>
      go_enter Tryz.func54, Tryz.ntmps54
      go_wp2
      go_ret
      exact ⟨rfl, rfl⟩
    | cons f rest =>
      have t1 : (((rest.length : Int) + 1) == 0) = false := by simp; omega
      go_enter Tryz.func54, Tryz.ntmps54
      go_wp2
      go_ret
      exact ⟨by simp, rfl⟩

end Go.Proofs.YtpapbigghiiolaaGreatDoor

set_option linter.unusedVariables false
namespace Go.Proofs.YtpapbigghiiolaaGreatDoor
open Go.RowKit Go.Proofs.YtpapbigghiiolaaGreatDoorW.PrintWords

def RowPost (B : Nat) (l : CS.Bs) (w : World) (e : Ending) (w' : World) : Prop := ∃ v, e = .returned v ∧ w'.ownsRow B 5 1 v l.length (Lib.byteCells l) ∧ Below B w w'

namespace CS
theorem nbytes_gt : ∀ (k n : Nat), k + 1 < nbytes n ↔ 256 ^ (k + 1) ≤ n
  | 0, n => by
    rw [nbytes]
    split
    · constructor <;> intro h <;> omega
    · have := nbytes_pos (n / 256)
      constructor
      · intro _; omega
      · intro _; omega
  | k + 1, n => by
    rw [nbytes]
    split
    · rename_i h
      have : 256 ≤ 256 ^ (k + 1 + 1) := by rw [Nat.pow_succ]; exact Nat.le_mul_of_pos_left _ (Nat.pos_of_ne_zero (by simp))
      constructor
      · intro h2; omega
      · intro h2; omega
    · rw [Nat.add_lt_add_iff_right, nbytes_gt k (n / 256), Nat.le_div_iff_mul_le (by decide), ← Nat.pow_succ]
theorem div_pos (n p : Nat) (h : 0 < p) : 0 < n / p ↔ p ≤ n := by rw [Nat.div_pos_iff]; omega
end CS
theorem shr_nat (n j : Nat) : (n : Int) / 2 ^ (8 * (j : Int)).toNat = ((n / 256 ^ j : Nat) : Int) := by
  have h1 : (8 * (j : Int)).toNat = 8 * j := by omega
  have h3 : ((2 ^ (8 * j) : Nat) : Int) = (2 : Int) ^ (8 * j) := by simp
  rw [h1, ← h3, ← Int.natCast_ediv, Nat.pow_mul]

theorem shr_nat' (n j : Nat) : (n : Int) / 2 ^ (8 * j) = ((n / 256 ^ j : Nat) : Int) := by
  have h3 : ((2 ^ (8 * j) : Nat) : Int) = (2 : Int) ^ (8 * j) := by simp
  rw [← h3, ← Int.natCast_ediv, Nat.pow_mul]
theorem more_bytes (n i : Nat) (h : i + 1 < CS.nbytes n) : (0 : Int) < (n : Int) / 2 ^ (8 * (i + 1)) := by
  rw [shr_nat']
  have := (CS.div_pos n (256 ^ (i + 1)) (Nat.pow_pos (by decide))).2 ((CS.nbytes_gt i n).1 h)
  omega
theorem no_more_bytes (n i : Nat) (h : ¬ i + 1 < CS.nbytes n) : ¬ (0 : Int) < (n : Int) / 2 ^ (8 * (i + 1)) := by
  rw [shr_nat']
  intro h2
  exact h ((CS.nbytes_gt i n).2 ((CS.div_pos n (256 ^ (i + 1)) (Nat.pow_pos (by decide))).1 (by omega)))

set_option maxRecDepth 100000 in
set_option maxHeartbeats 2000000 in
theorem RefWNumber_any (B : Nat) (v : Value) (l : CS.Bs) (n : Nat) (w : World) (h : w.ownsRow B 5 1 v l.length (Lib.byteCells l)) (hBw : B ≤ w.heap.size) (hl : l.length ≤ 1000000000) (hn : n < 18446744073709551616) :
    Calls Tryz.prog 42 #[v, .int .u64 (n : Int)] w (RowPost B (l ++ CS.encNum n) w) := by
  obtain ⟨A, c, rfl⟩ := own_slice h
  have HO := Aside0.mk h
  have HB0 := Aside0.mk (Below.refl B w)
  clear h
  by_cases hs : n < 248
  · have t0 : decide ((n : Int) < 248) = true := decide_eq_true (by omega)
    have hm : (n : Int) % 256 = (n : Int) := by omega
    have HE : Aside0 (CS.encNum n = [UInt8.ofNat n]) := ⟨by unfold CS.encNum; rw [if_pos hs]⟩
    have HM : Aside0 (n % 256 = n) := ⟨by omega⟩
    clear hs
    go_enter Tryz.func42, Tryz.ntmps42
    go_wp2_with (at_builtin; refine print_append (w0 := w) B rfl (.tmp 9) (.tmp 12) 35 5 (.int .u8 0) 1 rfl Tryz.underlying35 Tryz.infoByte rfl (by decide) (.slice A l.length c) (Lib.byteCells l) (.int .u8 (n : Int)) rfl rfl rfl ?ho (Below.refl _ _) hBw ?hl ?go)
    case ho => rw [Lib.byteCells_length]; exact HO.out
    case hl => rw [Lib.byteCells_length]; omega
    case go =>
      intro v1 w1 ho1 hb1 hgr _
      have HO1 := Aside0.mk ho1
      have HB1 := Aside0.mk hb1
      clear ho1 hgr hb1
      go_wp2
      go_ret
      have e1 : Lib.byteCells l ++ [.int .u8 (n : Int)] = Lib.byteCells (l ++ CS.encNum n) := by
        rw [HE.out, Lib.byteCells_append]
        congr 1
        have := HM.out
        simp [Lib.byteCells, this]
      have ho1 := HO1.out
      rw [e1] at ho1
      have hlen : (Lib.byteCells l).length + 1 = (l ++ CS.encNum n).length := by rw [Lib.byteCells_length, HE.out]; simp
      rw [hlen] at ho1
      exact ⟨_, rfl, ho1, HB1.out⟩
  · have t0 : decide ((n : Int) < 248) = false := decide_eq_false (by omega)
    obtain ⟨hk1, hk8⟩ := CS.nbytes_le n hn (by omega)
    obtain ⟨k, hkk⟩ : ∃ k, k = CS.nbytes n := ⟨_, rfl⟩
    rw [← hkk] at hk1 hk8
    have HKK := Aside0.mk hkk
    have HE : Aside0 (CS.encNum n = UInt8.ofNat (247 + k) :: CS.big n k) := ⟨by unfold CS.encNum; rw [if_neg hs, hkk]⟩
    clear hs hkk
    go_enter Tryz.func42, Tryz.ntmps42
    go_wp2
    go_loop [5] (fun v => ∃ i : Nat, v = .int .i64 ((i : Int) + 1) ∧ i + 1 ≤ k) (fun v => 9 - (intOf v).toNat)
    case atStart => exact ⟨0, rfl, hk1⟩
    case round =>
      obtain ⟨i, rfl, hi⟩ := hrel
      have e8 : IntKind.i64.wrap (8 * ((i : Int) + 1)) = 8 * ((i : Int) + 1) := IntWalk.i64_in _ (by omega)
      have e9 : IntKind.u64.wrap (8 * ((i : Int) + 1)) = 8 * ((i : Int) + 1) := by rw [u64_wrap]; omega
      have e10 : (0 : Int) ≤ 8 * ((i : Int) + 1) := by omega
      by_cases hlt : i + 1 < k
      · have t1 : decide ((i : Int) + 1 < 8) = true := decide_eq_true (by omega)
        have t2 : decide ((0 : Int) < (n : Int) / 2 ^ (8 * (i + 1))) = true := decide_eq_true (more_bytes n i (by rw [← HKK.out]; exact hlt))
        go_wp2
        go_round
        case rel => exact ⟨i + 1, by go_num, hlt⟩
        case measure => simp [intOf]; omega
      · have hik : i + 1 = k := by omega
        have hiki : (i : Int) + 1 = (k : Int) := by omega
        have t2 : decide ((0 : Int) < (n : Int) / 2 ^ (8 * (i + 1))) = false := decide_eq_false (no_more_bytes n i (by rw [← HKK.out]; exact hlt))
        have hm : (247 + (k : Int)) % 256 = 247 + (k : Int) := by omega
        rw [hiki] at e8 e9 e10 ⊢
        rw [hik] at t2
        clear hiki hik hi hlt i
        rcases (show decide ((k : Int) < 8) = true ∨ decide ((k : Int) < 8) = false by cases decide ((k : Int) < 8) <;> simp) with t1 | t1
        all_goals
          go_wp2_with (at_builtin; refine print_append (w0 := w) B rfl (.tmp 26) (.tmp 30) 35 5 (.int .u8 0) 1 rfl Tryz.underlying35 Tryz.infoByte rfl (by decide) (.slice A l.length c) (Lib.byteCells l) (.int .u8 (247 + (k : Int))) rfl rfl rfl ?ho (Below.refl _ _) hBw ?hl ?go)
          case ho => rw [Lib.byteCells_length]; exact HO.out
          case hl => rw [Lib.byteCells_length]; omega
          case go =>
            intro v1 w1 ho1 hb1 hgr _
            have e1 : Lib.byteCells l ++ [.int .u8 (247 + (k : Int))] = Lib.byteCells (l ++ [UInt8.ofNat (247 + k)]) := by
              rw [Lib.byteCells_append]
              congr 1
              have : (247 + k) % 256 = 247 + k := by omega
              simp [Lib.byteCells, this]
            have hlen : (Lib.byteCells l).length + 1 = (l ++ [UInt8.ofNat (247 + k)]).length := by rw [Lib.byteCells_length]; simp
            rw [e1, hlen] at ho1
            have HO1 := Aside0.mk ho1
            have HB1 := Aside0.mk hb1
            clear ho1 hgr hb1 e1 hlen
            go_wp2
            go_loopw [0, 6] (fun v0 v6 wr => ∃ (i : Nat) (D M : CS.Bs), v6 = .int .i64 ((i : Int) - 1) ∧ i ≤ k ∧ M.length ≤ 1000000100 ∧ Aside0 (D ++ CS.big n i = CS.big n k ∧ D.length = k - i ∧ M = l ++ [UInt8.ofNat (247 + k)] ++ D) ∧ Aside0 (wr.ownsRow B 5 1 v0 M.length (Lib.byteCells M)) ∧ Aside0 (Below B w wr)) (fun _ v _ => (intOf v + 1).toNat)
            case atStart => exact ⟨k, [], l ++ [UInt8.ofNat (247 + k)] ++ [], by go_num, Nat.le_refl _, by simp; omega, ⟨rfl, by simp, rfl⟩, ⟨by rw [List.append_nil]; exact HO1.out⟩, HB1⟩
            case round =>
              obtain ⟨i, D, M, rfl, hi, hml, HD, HM, HBr⟩ := hrel
              cases i with
              | zero =>
                have HF : Aside0 (l ++ CS.encNum n = M) := ⟨by
                  have := HD.out.1
                  simp only [CS.big, List.append_nil] at this
                  rw [HD.out.2.2, this, HE.out]
                  simp⟩
                have tv : ((((0 : Nat) : Int) - 1) : Int) = -1 := by decide
                rw [tv]
                go_wp2
                go_ret
                exact ⟨_, rfl, by rw [HF.out]; exact HM.out, HBr.out⟩
              | succ j =>
                have tv : ((((j + 1 : Nat) : Int) - 1) : Int) = (j : Int) := by omega
                rw [tv]
                obtain ⟨A2, c2, rfl⟩ := own_slice HM.out
                have f8 : IntKind.i64.wrap (8 * (j : Int)) = 8 * (j : Int) := IntWalk.i64_in _ (by omega)
                have f9 : IntKind.u64.wrap (8 * (j : Int)) = 8 * (j : Int) := by rw [u64_wrap]; omega
                have f10 : (0 : Int) ≤ 8 * (j : Int) := by omega
                have HSZ := Aside0.mk (Nat.le_trans hBw HBr.out.size)
                clear tv
                go_wp2_with (at_builtin; refine print_append (w0 := w) B rfl (.tmp 38) (.tmp 45) 35 5 (.int .u8 0) 1 rfl Tryz.underlying35 Tryz.infoByte rfl (by decide) (.slice A2 M.length c2) (Lib.byteCells M) (.int .u8 (((n : Int) / 2 ^ (8 * j)) % 256)) rfl rfl rfl ?ho HBr.out HSZ.out ?hl ?go)
                case ho => rw [Lib.byteCells_length]; exact HM.out
                case hl => rw [Lib.byteCells_length]; omega
                case go =>
                  intro v3 w3 ho3 hb3 _ _
                  have e3 : Lib.byteCells M ++ [.int .u8 (((n : Int) / 2 ^ (8 * j)) % 256)] = Lib.byteCells (M ++ [UInt8.ofNat (n / 256 ^ j)]) := by
                    rw [Lib.byteCells_append, shr_nat']
                    rfl
                  have hlen3 : (Lib.byteCells M).length + 1 = (M ++ [UInt8.ofNat (n / 256 ^ j)]).length := by rw [Lib.byteCells_length]; simp
                  rw [e3, hlen3] at ho3
                  have HO3 := Aside0.mk ho3
                  have HB3 := Aside0.mk hb3
                  have HML : Aside0 ((M ++ [UInt8.ofNat (n / 256 ^ j)]).length ≤ 1000000100) := ⟨by have h1 := HD.out.2.1; have h2 := congrArg List.length HD.out.2.2; simp at h2 ⊢; omega⟩
                  clear ho3 hb3 e3 hlen3
                  go_wp2
                  go_roundw
                  case rel => exact ⟨j, D ++ [UInt8.ofNat (n / 256 ^ j)], M ++ [UInt8.ofNat (n / 256 ^ j)], by go_num, by omega, HML.out, ⟨by rw [← HD.out.1]; simp [CS.big], by have := HD.out.2.1; simp; omega, by rw [HD.out.2.2]; simp⟩, HO3, HB3⟩
                  case measure => simp [intOf]

set_option maxRecDepth 100000 in
set_option maxHeartbeats 1000000 in
theorem RefWInt_any (B : Nat) (v : Value) (l : CS.Bs) (n : Int) (w : World) (h : w.ownsRow B 5 1 v l.length (Lib.byteCells l)) (hBw : B ≤ w.heap.size) (hl : l.length ≤ 1000000000) (h0 : -9223372036854775808 ≤ n) (h1 : n ≤ 9223372036854775807) :
    Calls Tryz.prog 44 #[v, .int .i64 n] w (RowPost B (l ++ CS.encInt n) w) := by
  have hz := CS.zig_lt n h0 h1
  have HO := Aside0.mk h
  clear h
  by_cases hp : 0 ≤ n
  · obtain ⟨m, rfl⟩ := Int.eq_ofNat_of_zero_le hp
    have HZ : Aside0 (CS.zig (m : Int) = 2 * m) := ⟨by unfold CS.zig; rw [if_pos hp]; omega⟩
    have e1 : (m : Int) % 18446744073709551616 = (m : Int) := by omega
    have e2 : ((m : Int) * 2) % 18446744073709551616 = ((2 * m : Nat) : Int) := by omega
    go_enter Tryz.func44, Tryz.ntmps44
    go_wp2_with fail
    rw [show ((m : Int) * 2) = ((2 * m : Nat) : Int) by omega]
    refine (RefWNumber_any B v l (2 * m) _ HO.out hBw hl (by omega)).mono ?_
    rintro e w1 ⟨v1, rfl, ho1, hb1⟩
    have HO1 := Aside0.mk ho1
    have HB1 := Aside0.mk hb1
    clear ho1 hb1
    go_wp2
    go_ret
    exact ⟨_, rfl, by unfold CS.encInt; rw [HZ.out]; exact HO1.out, HB1.out⟩
  · obtain ⟨m, hm⟩ := Int.eq_ofNat_of_zero_le (show 0 ≤ -(n + 1) by omega)
    obtain rfl : n = -(m : Int) - 1 := by omega
    have HZ : Aside0 (CS.zig (-(m : Int) - 1) = 2 * m + 1) := ⟨by unfold CS.zig; rw [if_neg hp]; omega⟩
    have e0 : -((-(m : Int) - 1) + 1) = (m : Int) := by omega
    have e1 : (m : Int) % 18446744073709551616 = (m : Int) := by omega
    have t1 : decide (0 ≤ -(m : Int) - 1) = false := decide_eq_false hp
    have hor : bits BinOp.or IntKind.u64 ((m : Int) * 2) 1 = ((2 * m + 1 : Nat) : Int) := by
      have h := u64_or_nat (m * 2) 1 (by omega) (by decide)
      have h2 : m * 2 ||| 1 = 2 * m + 1 := by
        have := Nat.shiftLeft_add_eq_or_of_lt (b := 1) (i := 1) (by decide) m
        rw [Nat.shiftLeft_eq, Nat.pow_one] at this
        omega
      rw [h2] at h
      rw [← h]
      rfl
    have HOR := Aside0.mk hor
    clear hm hor
    go_enter Tryz.func44, Tryz.ntmps44
    go_wp2_with fail
    rw [HOR.out]
    refine (RefWNumber_any B v l (2 * m + 1) _ HO.out hBw hl (by omega)).mono ?_
    rintro e w1 ⟨v1, rfl, ho1, hb1⟩
    have HO1 := Aside0.mk ho1
    have HB1 := Aside0.mk hb1
    clear ho1 hb1
    go_wp2
    go_ret
    exact ⟨_, rfl, by unfold CS.encInt; rw [HZ.out]; exact HO1.out, HB1.out⟩

set_option maxRecDepth 100000 in
set_option maxHeartbeats 1000000 in
theorem RefWText_any (B : Nat) (v : Value) (l : CS.Bs) (s : ByteArray) (w : World) (h : w.ownsRow B 5 1 v l.length (Lib.byteCells l)) (hBw : B ≤ w.heap.size) (hl : l.length ≤ 1000000000) (hs : s.size ≤ 1000000000) :
    Calls Tryz.prog 43 #[v, .string s] w (RowPost B (l ++ CS.encText s.data.toList) w) := by
  have HO := Aside0.mk h
  clear h
  go_enter Tryz.func43, Tryz.ntmps43
  go_wp2_with fail
  refine (RefWNumber_any B v l s.size _ HO.out hBw hl (by omega)).mono ?_
  rintro e w1 ⟨v1, rfl, ho1, hb1⟩
  obtain ⟨M, hM⟩ : ∃ M, M = l ++ CS.encNum s.size := ⟨_, rfl⟩
  rw [← hM] at ho1
  obtain ⟨A, c, rfl⟩ := own_slice ho1
  have HO1 := Aside0.mk ho1
  have HB := Aside0.mk hb1
  have HSZ : Aside0 (s.data.toList.length = s.size) := ⟨by rw [Array.length_toList]; rfl⟩
  have HLN : Aside0 (M.length ≤ 1000000100) := ⟨by rw [hM, List.length_append]; have := CS.encNum_len s.size (by omega); omega⟩
  have HBS := Aside0.mk (Nat.le_trans hBw hb1.size)
  have HM := Aside0.mk hM
  clear ho1 hb1 hM
  go_wp2_with (at_builtin; refine append_str (w0 := w) B rfl (.tmp 9) (.tmp 10) 35 9 5 rfl Tryz.underlying35 Tryz.underlying9 Tryz.infoByte (.slice A M.length c) M s rfl rfl HO1.out HB.out HBS.out ?hl ?go)
  case hl => have := HLN.out; omega
  case go =>
    intro v2 w2 ho2 hb2 _
    have HO2 := Aside0.mk ho2
    have HB2 := Aside0.mk hb2
    clear ho2 hb2
    go_wp2
    go_ret
    have e1 : l ++ CS.encText s.data.toList = M ++ s.data.toList := by unfold CS.encText; rw [HM.out, HSZ.out, List.append_assoc]
    rw [RowPost, e1]
    exact ⟨_, rfl, by rw [List.length_append, HSZ.out]; exact HO2.out, HB2.out⟩
end Go.Proofs.YtpapbigghiiolaaGreatDoor
