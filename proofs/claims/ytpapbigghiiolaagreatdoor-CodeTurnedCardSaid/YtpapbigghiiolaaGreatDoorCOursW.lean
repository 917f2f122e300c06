/-
  The law's Ours and Theirs, walked by hand.
-/
import Derived.Test.YtpapbigghiiolaaGreatDoorCParse
import Derived.Deep.RegionLaw
set_option linter.unusedVariables false
namespace Go.Proofs.YtpapbigghiiolaaGreatDoor
open Go.RowKit Go.Proofs.YtpapbigghiiolaaGreatDoorW.PrintWords

theorem infoIns66 : (Tryz.prog.info? 59).map (fun i => (i.zero, i.size, i.bytes)) = some (some (.agg #[.int .i64 0, .int .i64 0]), 2, 16) := by kernel_rfl
theorem results_ours (fn : Func) (w : World) (tmps : Array Value) (ad : Tmp) (h : fn.results = #[.cell ad 25]) {g : Nat} (hp : tmps.getD ad undef = .pointer (some ⟨g, 0, none⟩)) {v0 v1 : Value} (hh : w.heap[g]? = some (.cells #[v0, v1] 25 (0, 0))) :
    (results fn tmps).run Tryz.prog w = .ok (.agg #[v0, v1]) w := by
  have hc0 : w.cell? ⟨g, 0, none⟩ = some v0 := (blk_cell hh 0).trans rfl
  have hc1 : w.cell? ⟨g, 1, none⟩ = some v1 := (blk_cell hh 1).trans rfl
  have hp' : tmps[ad]?.getD undef = .pointer (some ⟨g, 0, none⟩) := by simpa using hp
  simp [results, h, go_sem, hp', hc0, hc1]

set_option maxRecDepth 100000 in
set_option maxHeartbeats 4000000 in
theorem Ours_any (A0 A1 : Option Addr) (c0 c1 : Nat) (p : CS.Prg) (w : World) (hp : IsP w A0 c0 A1 c1 p) (h0 : p.names.length ≤ 1000000000) (h1 : p.code.length ≤ 1000000000) :
    Calls Tryz.prog 25 #[pv A0 c0 A1 c1 p] w fun e w' => ∃ A0 c0 A1 c1, e = .returned (pv A0 c0 A1 c1 p) ∧ IsP w' A0 c0 A1 c1 p ∧ Below w.heap.size w w' := by
  unfold pv
  have HP := Aside0.mk hp
  have HB0 := Aside0.mk (Below.refl w.heap.size w)
  clear hp
  go_enter Tryz.func25, Tryz.ntmps25
  go_upto_region 1 with (first | (refine gate_ (.box 33 (.tmp 0)) rfl ?_; refine ev_box 33 (.tmp 0) rfl rfl (by go_simp; rfl) ?_; intro ga hg w1 hb hbel; have HBA := Aside0.mk hb; have HW1 := Aside0.mk hbel; have HGA := Aside0.mk hg; have x0 := (blk_cell hb 0).trans rfl; have x1 := (blk_cell hb 1).trans rfl; clear hb hbel hg) | (refine gate_ (.alloc 25) rfl ?_; refine ev_alloc 25 rfl rfl (by go_simp; rfl) ?_; intro gr hg w2 hb hbel; have HBR := Aside0.mk hb; have HW2 := Aside0.mk hbel; have HGR := Aside0.mk hg; clear hb hbel hg))
  clear x0 x1
  have hba := blk_below HBA.out HW2.out
  have x0 := (blk_cell hba 0).trans rfl
  have x1 := (blk_cell hba 1).trans rfl
  have HBA2 := Aside0.mk hba
  have HB2 := Aside0.mk (below_then HW1.out HW1.out.size HW2.out)
  clear hba
  have HS := Aside0.mk HB2.out.size
  go_upto_region 2 with (first | ((with_reducible refine gate_dst (N := 5) rfl ?_); refine Kd.R_lit kStr w.heap.size 9 rfl (N := 5) rfl (xs := ([] : List CS.Bs)) (inner := []) (ok := fun _ => True) (okp := fun _ => True) (by first | (go_simp; done) | (go_simp; rfl)) (Reps.none _ _) (fun _ hk => hk) trivial HB2.out HB2.out.size (by simp) ?_; intro v5 w5 ho5 hb5 hg5 hn5; have HO5 := Aside0.mk ho5; have HB5 := Aside0.mk hb5; have hba := blk_grown HBA2.out hg5 (by simp); have hbr := blk_grown HBR.out hg5 (by simp); have HBA5 := Aside0.mk hba; have HBR5 := Aside0.mk hbr; clear x0 x1; have x0 := (blk_cell hba 0).trans rfl; have x1 := (blk_cell hba 1).trans rfl; clear ho5 hb5 hg5 hn5 hba hbr) | ((with_reducible refine gate_builtin (b := .append) (xs := #[.tmp 5, .tmp 7]) rfl ?_); at_builtin; refine Kd.R_append_row (fun l => Value.string (sb l)) ([] : CS.Bs) (h1 := fun _ => rfl) (w0 := w) w.heap.size rfl (.tmp 5) (.tmp 7) 22 9 (.string ⟨#[]⟩) 16 rfl Tryz.underlying22 infoStr rfl (by decide) v5 [] p.names A0 p.names.length c0 (fun _ => True) rfl rfl (fun _ _ => trivial) HO5.out (Kd.C_below HP.out.1 HB5.out) HB5.out HB5.out.size (by simp; omega) ?_; intro v8 w6 ho6 hb6 hg6 hn6; rw [List.nil_append] at ho6; obtain ⟨An, cn, rfl⟩ := Kd.R_slice ho6; have HBA6 := Aside0.mk (blk_grown HBA5.out hg6 (Kd.R_ne HO5.out HBA5.out (by decide))); have HBR6 := Aside0.mk (blk_grown HBR5.out hg6 (Kd.R_ne HO5.out HBR5.out (by decide))); have HO6 := Aside0.mk ho6; have HB6 := Aside0.mk hb6; clear x0 x1 ho6 hb6 hg6 hn6) | (refine gate_ (.alloc 25) rfl ?_; refine ev_alloc 25 rfl rfl (by go_simp; rfl) ?_; intro gp hg w7 hb hbel; have HBP7 := Aside0.mk hb; have HW7 := Aside0.mk hbel; have HGP := Aside0.mk hg; have HBA7 := Aside0.mk (blk_below HBA6.out hbel); have HBR7 := Aside0.mk (blk_below HBR6.out hbel); have HO7 := Aside0.mk (Kd.R_below HO6.out hbel); have HB7 := Aside0.mk (below_then HB6.out HB6.out.size hbel); clear hb hbel hg) | (refine gate_ (.store 25 (.tmp 3) (.tmp 9)) rfl ?_; refine ev_store 25 (.tmp 3) (.tmp 9) rfl rfl rfl rfl HBP7.out rfl (by kernel_rfl) rfl rfl ?_; intro w8 hb8 hk8; have HBP8 := Aside0.mk hb8; have HK8 := Aside0.mk hk8; clear hb8 hk8))
  have hap : ga ≠ gp := by rw [HGP.out]; have := blk_lt HBA6.out; omega
  have hrp : gr ≠ gp := by rw [HGP.out]; have := blk_lt HBR6.out; omega
  have HPW : Aside0 (w.heap.size ≤ gp) := ⟨by rw [HGP.out]; exact HB6.out.size⟩
  have HRW : Aside0 (w.heap.size ≤ gr) := ⟨by rw [HGR.out]; exact HW1.out.size⟩
  have HBA8 := Aside0.mk (HK8.out.blk HBA7.out hap)
  have HBR8 := Aside0.mk (HK8.out.blk HBR7.out hrp)
  have HO8 := Aside0.mk (R_keep1 HO7.out HBP7.out (fun q hq => by rw [E_str hq]; decide) HK8.out)
  have HB8 := Aside0.mk (below_keep HB7.out HK8.out (fun i h => by rw [h]; exact HPW.out))
  have x1 := (blk_cell HBA8.out 1).trans rfl
  have HAP := Aside0.mk hap
  have HRP := Aside0.mk hrp
  clear hap hrp
  go_wp2
  go_loopw [13] (fun v13 wr => ∃ (j : Nat) (Ac : Option Addr) (cc : Nat), v13 = .int .i64 (j : Int) ∧ j ≤ p.code.length ∧ Aside0 (wr.heap[ga]? = some (.cells #[.slice A0 p.names.length c0, .slice A1 p.code.length c1] 33 (0, 0))) ∧ Aside0 (wr.heap[gr]? = some (.cells #[.slice none 0 0, .slice none 0 0] 25 (0, 0))) ∧ Aside0 (wr.heap[gp]? = some (.cells #[.slice An p.names.length cn, .slice Ac j cc] 25 (0, 0))) ∧ Aside0 (kStr.R 9 wr w.heap.size (fun _ => True) (.slice An p.names.length cn) p.names) ∧ Aside0 (kIns.R 59 wr w.heap.size (fun _ => True) (.slice Ac j cc) (p.code.take j)) ∧ Aside0 (Below w.heap.size w wr)) (fun v _ => p.code.length - (intOf v).toNat)
  case atStart => exact ⟨0, none, 0, rfl, Nat.zero_le _, HBA8, HBR8, HBP8, HO8, ⟨Kd.R_nil _ _ _ _ _⟩, HB8⟩
  case round =>
    obtain ⟨j, Ac, cc, rfl, hj, RA, RR, RP, RN, RC, RB⟩ := hrel
    clear x1
    by_cases hlt : j < p.code.length
    · have tj : decide ((j : Int) < (p.code.length : Int)) = true := decide_eq_true (by omega)
      have j0 : (0 : Int) ≤ (j : Int) := by omega
      have j1 : (j : Int) < (p.code.length : Int) := by omega
      have hln : (p.code.take j).length = j := by rw [List.length_take]; omega
      obtain ⟨x, hx⟩ : ∃ x, x = p.code.getD j ⟨0, 0⟩ := ⟨_, rfl⟩
      have HX := Aside0.mk hx
      have HLN := Aside0.mk hln
      obtain ⟨ad, rfl, hw0, hw1⟩ := kIns_at HP.out.2.2.1 j hlt
      rw [← hx] at hw0 hw1
      have hcell := (RB.out.cell (World.block_lt_of_cell? w _ hw0)).trans hw0
      have hcell1 := (RB.out.cell (World.block_lt_of_cell? w _ hw1)).trans hw1
      have HW0 := Aside0.mk hw0
      have HW1' := Aside0.mk hw1
      have HTK : Aside0 (p.code.take j ++ [x] = p.code.take (j + 1)) := ⟨by rw [List.take_succ_eq_append_getElem hlt, hx, List.getD_eq_getElem?_getD, List.getElem?_eq_getElem hlt]; rfl⟩
      have HLK : Aside0 ((p.code.take (j + 1)).length = j + 1) := ⟨by rw [List.length_take]; omega⟩
      clear hx hln hw0 hw1
      have y0 := (blk_cell RP.out 1).trans rfl
      have y1 := (blk_cell RA.out 1).trans rfl
      go_upto_region 5 with (fail)
      have z0 := fun o => ((below_alloc (Below.refl _ _) o).cell (World.block_lt_of_cell? wr _ y0)).trans y0
      have hfp := blk_frozen RP.out 1
      go_region_law ((refine Kd.R_append_step kIns (w0 := w) w.heap.size (by simp [Region.wanted]) (.tmp 17) (.tmp 23) 23 59 (.agg #[.int .i64 0, .int .i64 0]) 16 (by rfl) Tryz.underlying23 infoIns66 rfl (by decide) (by decide) (.slice Ac j cc) (p.code.take j) x [.int .i64 x.op, .int .i64 x.arg] (fun _ => True) (fun _ => False) (by rfl) (by rfl) ⟨[_], [_], rfl, rfl, rfl⟩ (fun _ h => h.elim) (fun _ _ => trivial) (Kd.R_drew RC.out) (below_drew1 RB.out) RB.out.size (by rw [HLN.out]; omega) ?_; intro v9 w9 ho9 hb9 hgr9 hn9; obtain ⟨Ad, cd, rfl⟩ := Kd.R_slice ho9; rw [HTK.out, HLK.out] at ho9 ⊢; have HO9 := Aside0.mk ho9; have HB9 := Aside0.mk hb9; have HP9 := Aside0.mk (blk_grown (blk_drew RP.out) hgr9 (Kd.R_ne RC.out RP.out (by decide))); have HA9 := Aside0.mk (blk_grown (blk_drew RA.out) hgr9 (Kd.R_ne RC.out RA.out (by decide))); have HR9 := Aside0.mk (blk_grown (blk_drew RR.out) hgr9 (Kd.R_ne RC.out RR.out (by decide))); have HN9 := Aside0.mk (Kd.R_over' (Kd.R_drew RN.out) (Kd.R_typed (Kd.R_drew RC.out)) (by intro q hq; rw [E_str hq]; decide) hgr9); have hgf := blk_frozen HP9.out 1; have y9 := (blk_cell HP9.out 1).trans rfl; clear ho9 hb9 hgr9 hn9))
      all_goals
        go_wp2
        go_roundw
        case rel => exact ⟨j + 1, Ad, cd, by go_num, hlt, ⟨blk_far HA9.out (p := ⟨gp, 1, none⟩) HAP.out _⟩, ⟨blk_far HR9.out (p := ⟨gp, 1, none⟩) HRP.out _⟩, ⟨by simpa using blk_set HP9.out 1 (.slice Ad (j + 1) cd)⟩, ⟨Kd.R_set HN9.out HP9.out (by intro q hq; rw [E_str hq]; decide) 1 _⟩, ⟨Kd.R_set HO9.out HP9.out (by intro q hq; have : q ∈ [59] := hq; simp at this; omega) 1 _⟩, ⟨below_set HB9.out HPW.out⟩⟩
        case measure => simp [intOf]; omega
    · have tj : decide ((j : Int) < (p.code.length : Int)) = false := decide_eq_false (by omega)
      have y0 := (blk_cell RP.out 0).trans rfl
      have y1 := (blk_cell RP.out 1).trans rfl
      go_wp2_with (refine gate_ (.store 25 (.tmp 2) (.tmp 27)) rfl ?_; refine ev_store 25 (.tmp 2) (.tmp 27) rfl rfl rfl rfl RR.out rfl (by kernel_rfl) rfl rfl ?_; intro w9 hb9 hk9; have HB9 := Aside0.mk hb9; have HK9 := Aside0.mk hk9; clear hb9 hk9)
      (try simp only [Exit.inBlock, Exit.then])
      refine bodyPost_ret (results_ours _ _ _ 2 rfl rfl HB9.out) rfl ?_
      have hjl : j = p.code.length := by omega
      have hc := RC.out
      rw [hjl, List.take_length] at hc
      refine ⟨An, cn, Ac, cc, by rw [hjl], IsP_of_R (R_keep1 RN.out RR.out (fun q hq => by rw [E_str hq]; decide) HK9.out) (R_keep1 hc RR.out (fun q hq => by have : q ∈ [59] := hq; simp at this; omega) HK9.out), below_keep RB.out HK9.out (fun i h => by rw [h]; exact HRW.out)⟩

theorem results_theirs (fn : Func) (w : World) (tmps : Array Value) (ad : Tmp) (h : fn.results = #[.cell ad 33]) {g : Nat} (hp : tmps.getD ad undef = .pointer (some ⟨g, 0, none⟩)) {v0 v1 : Value} (hh : w.heap[g]? = some (.cells #[v0, v1] 33 (0, 0))) :
    (results fn tmps).run Tryz.prog w = .ok (.agg #[v0, v1]) w := by
  have hc0 : w.cell? ⟨g, 0, none⟩ = some v0 := (blk_cell hh 0).trans rfl
  have hc1 : w.cell? ⟨g, 1, none⟩ = some v1 := (blk_cell hh 1).trans rfl
  have hp' : tmps[ad]?.getD undef = .pointer (some ⟨g, 0, none⟩) := by simpa using hp
  simp [results, h, go_sem, hp', hc0, hc1]

set_option maxRecDepth 100000 in
set_option maxHeartbeats 4000000 in
theorem Theirs_any (A0 A1 : Option Addr) (c0 c1 : Nat) (p : CS.Prg) (w : World) (hp : IsP w A0 c0 A1 c1 p) (h0 : p.names.length ≤ 1000000000) (h1 : p.code.length ≤ 1000000000) :
    Calls Tryz.prog 7 #[pv A0 c0 A1 c1 p] w fun e w' => ∃ A0 c0 A1 c1, e = .returned (pv A0 c0 A1 c1 p) ∧ IsP w' A0 c0 A1 c1 p ∧ Below w.heap.size w w' := by
  unfold pv
  have HP := Aside0.mk hp
  have HB0 := Aside0.mk (Below.refl w.heap.size w)
  clear hp
  go_enter Tryz.func7, Tryz.ntmps7
  go_upto_region 1 with (first | (refine gate_ (.box 25 (.tmp 0)) rfl ?_; refine ev_box 25 (.tmp 0) rfl rfl (by go_simp; rfl) ?_; intro ga hg w1 hb hbel; have HBA := Aside0.mk hb; have HW1 := Aside0.mk hbel; have HGA := Aside0.mk hg; have x0 := (blk_cell hb 0).trans rfl; have x1 := (blk_cell hb 1).trans rfl; clear hb hbel hg) | (refine gate_ (.alloc 33) rfl ?_; refine ev_alloc 33 rfl rfl (by go_simp; rfl) ?_; intro gr hg w2 hb hbel; have HBR := Aside0.mk hb; have HW2 := Aside0.mk hbel; have HGR := Aside0.mk hg; clear hb hbel hg))
  clear x0 x1
  have hba := blk_below HBA.out HW2.out
  have x0 := (blk_cell hba 0).trans rfl
  have x1 := (blk_cell hba 1).trans rfl
  have HBA2 := Aside0.mk hba
  have HB2 := Aside0.mk (below_then HW1.out HW1.out.size HW2.out)
  clear hba
  have HS := Aside0.mk HB2.out.size
  go_upto_region 2 with (first | ((with_reducible refine gate_dst (N := 5) rfl ?_); refine Kd.R_lit kStr w.heap.size 9 rfl (N := 5) rfl (xs := ([] : List CS.Bs)) (inner := []) (ok := fun _ => True) (okp := fun _ => True) (by first | (go_simp; done) | (go_simp; rfl)) (Reps.none _ _) (fun _ hk => hk) trivial HB2.out HB2.out.size (by simp) ?_; intro v5 w5 ho5 hb5 hg5 hn5; have HO5 := Aside0.mk ho5; have HB5 := Aside0.mk hb5; have hba := blk_grown HBA2.out hg5 (by simp); have hbr := blk_grown HBR.out hg5 (by simp); have HBA5 := Aside0.mk hba; have HBR5 := Aside0.mk hbr; clear x0 x1; have x0 := (blk_cell hba 0).trans rfl; have x1 := (blk_cell hba 1).trans rfl; clear ho5 hb5 hg5 hn5 hba hbr) | ((with_reducible refine gate_builtin (b := .append) (xs := #[.tmp 5, .tmp 7]) rfl ?_); at_builtin; refine Kd.R_append_row (fun l => Value.string (sb l)) ([] : CS.Bs) (h1 := fun _ => rfl) (w0 := w) w.heap.size rfl (.tmp 5) (.tmp 7) 22 9 (.string ⟨#[]⟩) 16 rfl Tryz.underlying22 infoStr rfl (by decide) v5 [] p.names A0 p.names.length c0 (fun _ => True) rfl rfl (fun _ _ => trivial) HO5.out (Kd.C_below HP.out.1 HB5.out) HB5.out HB5.out.size (by simp; omega) ?_; intro v8 w6 ho6 hb6 hg6 hn6; rw [List.nil_append] at ho6; obtain ⟨An, cn, rfl⟩ := Kd.R_slice ho6; have HBA6 := Aside0.mk (blk_grown HBA5.out hg6 (Kd.R_ne HO5.out HBA5.out (by decide))); have HBR6 := Aside0.mk (blk_grown HBR5.out hg6 (Kd.R_ne HO5.out HBR5.out (by decide))); have HO6 := Aside0.mk ho6; have HB6 := Aside0.mk hb6; clear x0 x1 ho6 hb6 hg6 hn6) | (refine gate_ (.alloc 33) rfl ?_; refine ev_alloc 33 rfl rfl (by go_simp; rfl) ?_; intro gp hg w7 hb hbel; have HBP7 := Aside0.mk hb; have HW7 := Aside0.mk hbel; have HGP := Aside0.mk hg; have HBA7 := Aside0.mk (blk_below HBA6.out hbel); have HBR7 := Aside0.mk (blk_below HBR6.out hbel); have HO7 := Aside0.mk (Kd.R_below HO6.out hbel); have HB7 := Aside0.mk (below_then HB6.out HB6.out.size hbel); clear hb hbel hg) | (refine gate_ (.store 33 (.tmp 3) (.tmp 9)) rfl ?_; refine ev_store 33 (.tmp 3) (.tmp 9) rfl rfl rfl rfl HBP7.out rfl (by kernel_rfl) rfl rfl ?_; intro w8 hb8 hk8; have HBP8 := Aside0.mk hb8; have HK8 := Aside0.mk hk8; clear hb8 hk8))
  have hap : ga ≠ gp := by rw [HGP.out]; have := blk_lt HBA6.out; omega
  have hrp : gr ≠ gp := by rw [HGP.out]; have := blk_lt HBR6.out; omega
  have HPW : Aside0 (w.heap.size ≤ gp) := ⟨by rw [HGP.out]; exact HB6.out.size⟩
  have HRW : Aside0 (w.heap.size ≤ gr) := ⟨by rw [HGR.out]; exact HW1.out.size⟩
  have HBA8 := Aside0.mk (HK8.out.blk HBA7.out hap)
  have HBR8 := Aside0.mk (HK8.out.blk HBR7.out hrp)
  have HO8 := Aside0.mk (R_keep1 HO7.out HBP7.out (fun q hq => by rw [E_str hq]; decide) HK8.out)
  have HB8 := Aside0.mk (below_keep HB7.out HK8.out (fun i h => by rw [h]; exact HPW.out))
  have x1 := (blk_cell HBA8.out 1).trans rfl
  have HAP := Aside0.mk hap
  have HRP := Aside0.mk hrp
  clear hap hrp
  go_wp2
  go_loopw [13] (fun v13 wr => ∃ (j : Nat) (Ac : Option Addr) (cc : Nat), v13 = .int .i64 (j : Int) ∧ j ≤ p.code.length ∧ Aside0 (wr.heap[ga]? = some (.cells #[.slice A0 p.names.length c0, .slice A1 p.code.length c1] 25 (0, 0))) ∧ Aside0 (wr.heap[gr]? = some (.cells #[.slice none 0 0, .slice none 0 0] 33 (0, 0))) ∧ Aside0 (wr.heap[gp]? = some (.cells #[.slice An p.names.length cn, .slice Ac j cc] 33 (0, 0))) ∧ Aside0 (kStr.R 9 wr w.heap.size (fun _ => True) (.slice An p.names.length cn) p.names) ∧ Aside0 (kIns.R 45 wr w.heap.size (fun _ => True) (.slice Ac j cc) (p.code.take j)) ∧ Aside0 (Below w.heap.size w wr)) (fun v _ => p.code.length - (intOf v).toNat)
  case atStart => exact ⟨0, none, 0, rfl, Nat.zero_le _, HBA8, HBR8, HBP8, HO8, ⟨Kd.R_nil _ _ _ _ _⟩, HB8⟩
  case round =>
    obtain ⟨j, Ac, cc, rfl, hj, RA, RR, RP, RN, RC, RB⟩ := hrel
    clear x1
    by_cases hlt : j < p.code.length
    · have tj : decide ((j : Int) < (p.code.length : Int)) = true := decide_eq_true (by omega)
      have j0 : (0 : Int) ≤ (j : Int) := by omega
      have j1 : (j : Int) < (p.code.length : Int) := by omega
      have hln : (p.code.take j).length = j := by rw [List.length_take]; omega
      obtain ⟨x, hx⟩ : ∃ x, x = p.code.getD j ⟨0, 0⟩ := ⟨_, rfl⟩
      have HX := Aside0.mk hx
      have HLN := Aside0.mk hln
      obtain ⟨ad, rfl, hw0, hw1⟩ := kIns_at HP.out.2.2.1 j hlt
      rw [← hx] at hw0 hw1
      have hcell := (RB.out.cell (World.block_lt_of_cell? w _ hw0)).trans hw0
      have hcell1 := (RB.out.cell (World.block_lt_of_cell? w _ hw1)).trans hw1
      have HW0 := Aside0.mk hw0
      have HW1' := Aside0.mk hw1
      have HTK : Aside0 (p.code.take j ++ [x] = p.code.take (j + 1)) := ⟨by rw [List.take_succ_eq_append_getElem hlt, hx, List.getD_eq_getElem?_getD, List.getElem?_eq_getElem hlt]; rfl⟩
      have HLK : Aside0 ((p.code.take (j + 1)).length = j + 1) := ⟨by rw [List.length_take]; omega⟩
      clear hx hln hw0 hw1
      have y0 := (blk_cell RP.out 1).trans rfl
      have y1 := (blk_cell RA.out 1).trans rfl
      go_upto_region 5 with (fail)
      have z0 := fun o => ((below_alloc (Below.refl _ _) o).cell (World.block_lt_of_cell? wr _ y0)).trans y0
      have hfp := blk_frozen RP.out 1
      go_region_law ((refine Kd.R_append_step kIns (w0 := w) w.heap.size (by simp [Region.wanted]) (.tmp 17) (.tmp 23) 31 45 (.agg #[.int .i64 0, .int .i64 0]) 16 (by rfl) Tryz.underlying31 infoIns rfl (by decide) (by decide) (.slice Ac j cc) (p.code.take j) x [.int .i64 x.op, .int .i64 x.arg] (fun _ => True) (fun _ => False) (by rfl) (by rfl) ⟨[_], [_], rfl, rfl, rfl⟩ (fun _ h => h.elim) (fun _ _ => trivial) (Kd.R_drew RC.out) (below_drew1 RB.out) RB.out.size (by rw [HLN.out]; omega) ?_; intro v9 w9 ho9 hb9 hgr9 hn9; obtain ⟨Ad, cd, rfl⟩ := Kd.R_slice ho9; rw [HTK.out, HLK.out] at ho9 ⊢; have HO9 := Aside0.mk ho9; have HB9 := Aside0.mk hb9; have HP9 := Aside0.mk (blk_grown (blk_drew RP.out) hgr9 (Kd.R_ne RC.out RP.out (by decide))); have HA9 := Aside0.mk (blk_grown (blk_drew RA.out) hgr9 (Kd.R_ne RC.out RA.out (by decide))); have HR9 := Aside0.mk (blk_grown (blk_drew RR.out) hgr9 (Kd.R_ne RC.out RR.out (by decide))); have HN9 := Aside0.mk (Kd.R_over' (Kd.R_drew RN.out) (Kd.R_typed (Kd.R_drew RC.out)) (by intro q hq; rw [E_str hq]; decide) hgr9); have hgf := blk_frozen HP9.out 1; have y9 := (blk_cell HP9.out 1).trans rfl; clear ho9 hb9 hgr9 hn9))
      all_goals
        go_wp2
        go_roundw
        case rel => exact ⟨j + 1, Ad, cd, by go_num, hlt, ⟨blk_far HA9.out (p := ⟨gp, 1, none⟩) HAP.out _⟩, ⟨blk_far HR9.out (p := ⟨gp, 1, none⟩) HRP.out _⟩, ⟨by simpa using blk_set HP9.out 1 (.slice Ad (j + 1) cd)⟩, ⟨Kd.R_set HN9.out HP9.out (by intro q hq; rw [E_str hq]; decide) 1 _⟩, ⟨Kd.R_set HO9.out HP9.out (by intro q hq; have : q ∈ [45] := hq; simp at this; omega) 1 _⟩, ⟨below_set HB9.out HPW.out⟩⟩
        case measure => simp [intOf]; omega
    · have tj : decide ((j : Int) < (p.code.length : Int)) = false := decide_eq_false (by omega)
      have y0 := (blk_cell RP.out 0).trans rfl
      have y1 := (blk_cell RP.out 1).trans rfl
      go_wp2_with (refine gate_ (.store 33 (.tmp 2) (.tmp 27)) rfl ?_; refine ev_store 33 (.tmp 2) (.tmp 27) rfl rfl rfl rfl RR.out rfl (by kernel_rfl) rfl rfl ?_; intro w9 hb9 hk9; have HB9 := Aside0.mk hb9; have HK9 := Aside0.mk hk9; clear hb9 hk9)
      (try simp only [Exit.inBlock, Exit.then])
      refine bodyPost_ret (results_theirs _ _ _ 2 rfl rfl HB9.out) rfl ?_
      have hjl : j = p.code.length := by omega
      have hc := RC.out
      rw [hjl, List.take_length] at hc
      refine ⟨An, cn, Ac, cc, by rw [hjl], IsP_of_R (R_keep1 RN.out RR.out (fun q hq => by rw [E_str hq]; decide) HK9.out) (R_keep1 hc RR.out (fun q hq => by have : q ∈ [45] := hq; simp at this; omega) HK9.out), below_keep RB.out HK9.out (fun i h => by rw [h]; exact HRW.out)⟩
end Go.Proofs.YtpapbigghiiolaaGreatDoor
