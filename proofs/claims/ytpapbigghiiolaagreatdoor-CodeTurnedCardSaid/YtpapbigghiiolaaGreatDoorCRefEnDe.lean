/-
  The document's Decode.
  The document's Encode.
-/
import Derived.Test.YtpapbigghiiolaaGreatDoorCRefCodec
import Derived.Test.YtpapbigghiiolaaGreatDoorCOurs
import Derived.Test.YtpapbigghiiolaaGreatDoorCHex
import Derived.Test.YtpapbigghiiolaaGreatDoorCEnDe
import Derived.Deep.RegionLaw
import Derived.Deep.RegionHeld3
set_option linter.unusedVariables false
namespace Go.Proofs.YtpapbigghiiolaaGreatDoor
open Go.RowKit Go.Proofs.YtpapbigghiiolaaGreatDoorW.PrintWords Go.Proofs.YtpapbigghiiolaaGreatDoorW.PrintLast Go.Proofs.YtpapbigghiiolaaGreatDoorW.PrintMore
attribute [local go_sem] max2_int min2_int max_two min_two

theorem dtR : DT 25 59 104 := ⟨by decide, by decide, by decide, by decide, by decide, by decide, by decide, by decide, by decide, by decide⟩
abbrev DIR (w : World) := DI 25 59 104 (· < w.heap.size) w

theorem results_cell2r (fn : Func) (w : World) (tmps : Array Value) (ad u : Tmp) (h : fn.results = #[.cell ad 25, .tmp u]) {g : Nat} (hp : tmps.getD ad undef = .pointer (some ⟨g, 0, none⟩)) {v0 v1 : Value} (hh : w.heap[g]? = some (.cells #[v0, v1] 25 (0, 0))) :
    (results fn tmps).run Tryz.prog w = .ok (.tuple #[.agg #[v0, v1], tmps.getD u undef]) w := by
  have hc0 : w.cell? ⟨g, 0, none⟩ = some v0 := (blk_cell hh 0).trans rfl
  have hc1 : w.cell? ⟨g, 1, none⟩ = some v1 := (blk_cell hh 1).trans rfl
  have hp' : tmps[ad]?.getD undef = .pointer (some ⟨g, 0, none⟩) := by simpa using hp
  simp [results, h, go_sem, hp', hc0, hc1]

set_option maxRecDepth 100000 in
set_option maxHeartbeats 4000000 in
theorem RefDecode_any (A : Option Addr) (c : Nat) (l : CS.Bs) (w : World) (h : IsB w A c l) :
    Calls Tryz.prog 28 #[.slice A l.length c] w (DecPost l w) := by
  have H := Aside0.mk h
  clear h
  go_enter Tryz.func28, Tryz.ntmps28
  go_wp2_with (refine gate_ (.alloc 25) rfl ?_; refine ev_alloc 25 rfl rfl (by go_simp; rfl) ?_; intro gr hg w1 hb hbel; have HBR := Aside0.mk hb; have HW1 := Aside0.mk hbel; have HGR := Aside0.mk hg; clear hb hbel hg)
  refine (Of_any A c l _ (· < w.heap.size) (Kd.F_below (Kd.C_F (Kd.heap_int .u8) H.out.1) HW1.out) H.out.2.1 H.out.2.2 (fun k hk => Nat.lt_of_lt_of_le hk HW1.out.size)).mono ?_
  rintro e w2 ⟨g, rfl, hgg, hrd, hb2⟩
  have HW2 := Aside0.mk (below_then HW1.out HW1.out.size hb2)
  have HBR2 := Aside0.mk (below_blk hb2 HBR.out)
  have HGG := Aside0.mk (Nat.le_trans HW1.out.size hgg)
  have HRD := Aside0.mk hrd
  clear hgg hrd hb2
  go_wp2_with (refine gate_ (.alloc 25) rfl ?_; refine ev_alloc 25 rfl rfl (by go_simp; rfl) ?_; intro gp hg w3 hb hbel; have HBP := Aside0.mk hb; have HW3 := Aside0.mk hbel; have HGP := Aside0.mk hg; clear hb hbel hg)
  have HD3 : Aside0 (DIR w w3 gr gp g (some l) [] [] none 0 none 0) := ⟨below_blk HW3.out HBR2.out, HBP.out, Kd.R_nil _ _ _ _ _, Kd.R_nil _ _ _ _ _, HRD.out.move (fun k _ hlt => HW3.out.block k hlt), fun k hk => .inl hk, HGG.out, by rw [HGP.out]; exact HW2.out.size, by rw [HGR.out]; exact Nat.le_refl _, by rw [HGP.out]; have := blk_lt HBR2.out; omega, below_then HW2.out HW2.out.size HW3.out⟩
  refine (RefNumber_any _ g (some l) _ HD3.out.rd).mono ?_
  rintro e w4 ⟨rfl, hr4, hk4⟩
  have hn4 := CS.rdNum_lt (some l)
  obtain ⟨n, hn⟩ : ∃ n, n = (CS.rdNum (some l)).1 := ⟨_, rfl⟩
  obtain ⟨r4, hr⟩ : ∃ r4, r4 = (CS.rdNum (some l)).2 := ⟨_, rfl⟩
  have HDE : Aside0 (CS.decode l = if n > 8 then (CS.nil, 2) else CS.dec2 (CS.rdNames n r4).1 (CS.rdNames n r4).2) := ⟨by rw [CS.decode_eq, ← hn, ← hr]⟩
  rw [← hr] at hr4
  rw [← hn] at hn4 ⊢
  have HD4 := Aside0.mk (HD3.out.step dtR hk4 hr4)
  clear hr4 hk4 hn hr
  by_cases h8 : 8 < n
  · have t0 : decide ((8 : Int) < (n : Int)) = true := decide_eq_true (by omega)
    have HE : Aside0 (CS.decode l = (CS.nil, 2)) := ⟨by rw [HDE.out, if_pos h8]⟩
    go_wp2_with (refine gate_ (.store 25 (.tmp 2) (.tmp 14)) rfl ?_; refine ev_store 25 (.tmp 2) (.tmp 14) rfl rfl rfl rfl HD4.out.res rfl (by kernel_rfl) rfl rfl ?_; intro w5 hb5 hk5; have HB5 := Aside0.mk hb5; have HK5 := Aside0.mk hk5; clear hb5 hk5)
    (try simp only [Exit.inBlock, Exit.then])
    refine bodyPost_ret (results_cell2r _ _ _ 2 3 rfl rfl HB5.out) rfl ?_
    refine ⟨none, 0, none, 0, ?_, ?_, (HD4.out.stored dtR HK5.out).2⟩
    · rw [HE.out]; rfl
    · rw [HE.out]; exact IsP_nil _
  · have t0 : decide ((8 : Int) < (n : Int)) = false := decide_eq_false (by omega)
    have HE2 : Aside0 (CS.decode l = CS.dec2 (CS.rdNames n r4).1 (CS.rdNames n r4).2) := ⟨by rw [HDE.out, if_neg h8]⟩
    have hn8 : n ≤ 8 := by omega
    clear h8
    go_wp2
    go_loopw [16] (fun v wr => ∃ (i : Nat) (ns : List CS.Bs) (ri : CS.Rd) (A0 : Option Addr) (c0 : Nat), v = .int .u64 (i : Int) ∧ i ≤ n ∧ Aside0 (ns.length = i ∧ CS.rdNames n r4 = (ns ++ (CS.rdNames (n - i) ri).1, (CS.rdNames (n - i) ri).2)) ∧ Aside0 (DIR w wr gr gp g ri ns [] A0 c0 none 0)) (fun v _ => n - (intOf v).toNat)
    case atStart => exact ⟨0, [], r4, none, 0, rfl, Nat.zero_le _, ⟨rfl, by simp⟩, HD4⟩
    case round =>
      obtain ⟨i, ns, ri, A0, c0, rfl, hi, HN, HD⟩ := hrel
      by_cases hlt : i < n
      · have t1 : decide (i < n) = true := decide_eq_true hlt
        obtain ⟨nm, hnm⟩ : ∃ nm, nm = (CS.rdText ri).1 := ⟨_, rfl⟩
        obtain ⟨rj, hrj⟩ : ∃ rj, rj = (CS.rdText ri).2 := ⟨_, rfl⟩
        have HNX : Aside0 ((ns ++ [nm]).length = i + 1 ∧ CS.rdNames n r4 = ((ns ++ [nm]) ++ (CS.rdNames (n - (i + 1)) rj).1, (CS.rdNames (n - (i + 1)) rj).2)) := ⟨by rw [List.length_append]; have := HN.out.1; simp; omega, by
          rw [hnm, hrj]
          refine CS.rdNames_next n (n - (i + 1)) r4 ri ns ?_
          rw [show n - (i + 1) + 1 = n - i by omega]
          exact HN.out.2⟩
        have HNL : Aside0 (ns.length = i) := ⟨HN.out.1⟩
        have HT : Aside0 ((CS.rdText ri).1 = nm ∧ (CS.rdText ri).2 = rj) := ⟨hnm.symm, hrj.symm⟩
        have hl : (ns ++ [nm]).length = ns.length + 1 := by simp
        have HL := Aside0.mk hl
        have y0 := (blk_cell HD.out.prog 0).trans rfl
        clear hnm hrj hl
        go_upto_region 8 with (fail)
        go_region_law (first | (refine goes_ Tryz.func52 (by kernel_rfl) rfl #[.pointer (some ⟨g, 0, none⟩)] (by simp [Region.wanted]) rfl rfl (by (try simp only [List.map_toArray, List.map_cons, List.map_nil]); first | done | rfl) ?_; refine (RefText2_any _ g ri _ HD.out.rd.drew).mono ?_; rw [TextPost_def]; rw [HT.out.1, HT.out.2]; rintro e w5 ⟨rfl, hr5, hk5⟩; refine ⟨_, rfl, ?_⟩; have HD5 := Aside0.mk (HD.out.drew.step dtR hk5 hr5); have u0 := (blk_cell HD5.out.prog 0).trans rfl; have u1 := fun o => ((below_alloc (Below.refl _ _) o).cell (World.block_lt_of_cell? w5 _ u0)).trans u0; clear hr5 hk5) | (refine Kd.R_append_step kStr (w0 := w) w.heap.size (by simp [Region.wanted]) (.tmp 19) (.tmp 22) 22 9 (.string ⟨#[]⟩) 16 (by rfl) Tryz.underlying22 infoStr rfl (by decide) (by decide) (.slice A0 ns.length c0) ns nm [.string (sb nm)] (fun _ => True) (fun _ => False) (by rfl) (by rfl) rfl (fun _ h => h.elim) (fun _ _ => trivial) HD5.out.names HD5.out.below HD5.out.below.size (by have := HNL.out; omega) ?_; intro v6 w6 ho6 hb6 hg6 hn6; obtain ⟨A0', c0', rfl⟩ := Kd.R_slice ho6; have hp6 := blk_grown HD5.out.prog hg6 (Kd.R_ne HD5.out.names HD5.out.prog (by decide)); have z0 := (blk_cell hp6 0).trans rfl; have zf := blk_frozen hp6 0; have hdn := HD5.out.add_name dtR ho6 hg6 hb6; rw [HL.out] at hdn ⊢; have HDN := Aside0.mk hdn; clear ho6 hb6 hg6 hn6 hp6 hdn))
        all_goals
          go_wp2
          go_roundw
          case rel => exact ⟨i + 1, ns ++ [nm], rj, A0', c0', by go_num, hlt, HNX, HDN⟩
          case measure => simp [intOf]; omega
      · have t1 : decide (i < n) = false := decide_eq_false hlt
        have HE3 : Aside0 (CS.decode l = CS.dec2 ns ri) := ⟨by
          have h2 := HN.out.2
          rw [show n - i = 0 by omega] at h2
          rw [HE2.out, h2]
          simp [CS.rdNames]⟩
        go_wp2_with fail
        refine (RefNumber_any _ g ri _ HD.out.rd).mono ?_
        rintro e w5 ⟨rfl, hr5, hk5⟩
        have hm5 := CS.rdNum_lt ri
        obtain ⟨m, hm⟩ : ∃ m, m = (CS.rdNum ri).1 := ⟨_, rfl⟩
        obtain ⟨r5, hr⟩ : ∃ r5, r5 = (CS.rdNum ri).2 := ⟨_, rfl⟩
        have HDE5 : Aside0 (CS.decode l = if m > 200 then (CS.nil, 2) else CS.dec3 ⟨ns, (CS.rdCode m r5).1⟩ (CS.rdCode m r5).2) := ⟨by rw [HE3.out]; unfold CS.dec2; simp only; rw [← hm, ← hr]⟩
        have hbad := CS.rdNum_bad ri
        rw [← hm, ← hr] at hbad
        rw [← hr] at hr5
        rw [← hm] at hm5 ⊢
        have HD5 := Aside0.mk (HD.out.step dtR hk5 hr5)
        have xb : w5.cell? ⟨g, 1, none⟩ = some (.bool r5.isNone) := by obtain ⟨_, _, hh, _⟩ := hr5; exact (blk_cell hh 1).trans rfl
        clear hr5 hk5 hm hr
        by_cases hbd : r5 = none
        · have hm0 := hbad hbd
          have HE : Aside0 (CS.decode l = (CS.nil, 2)) := ⟨by
            rw [HDE5.out, if_neg (by omega), hm0, hbd]
            simp [CS.rdCode, CS.dec3]⟩
          rw [hbd] at xb
          replace xb : w5.cell? ⟨g, 1, none⟩ = some (.bool true) := xb
          go_wp2_with (refine gate_ (.store 25 (.tmp 2) (.tmp 36)) rfl ?_; refine ev_store 25 (.tmp 2) (.tmp 36) rfl rfl rfl rfl HD5.out.res rfl (by kernel_rfl) rfl rfl ?_; intro w6 hb6 hk6; have HB6 := Aside0.mk hb6; have HK6 := Aside0.mk hk6; clear hb6 hk6)
          (try simp only [Exit.inBlock, Exit.then])
          refine bodyPost_ret (results_cell2r _ _ _ 2 3 rfl rfl HB6.out) rfl ?_
          refine ⟨none, 0, none, 0, ?_, ?_, (HD5.out.stored dtR HK6.out).2⟩
          · rw [HE.out]; rfl
          · rw [HE.out]; exact IsP_nil _
        have hnb : r5.isNone = false := by cases r5 with | none => exact absurd rfl hbd | some _ => rfl
        rw [hnb] at xb
        clear hbad hbd hnb
        by_cases h200 : 200 < m
        · have t2 : decide ((200 : Int) < (m : Int)) = true := decide_eq_true (by omega)
          have HE : Aside0 (CS.decode l = (CS.nil, 2)) := ⟨by rw [HDE5.out, if_pos h200]⟩
          go_wp2_with (refine gate_ (.store 25 (.tmp 2) (.tmp 36)) rfl ?_; refine ev_store 25 (.tmp 2) (.tmp 36) rfl rfl rfl rfl HD5.out.res rfl (by kernel_rfl) rfl rfl ?_; intro w6 hb6 hk6; have HB6 := Aside0.mk hb6; have HK6 := Aside0.mk hk6; clear hb6 hk6)
          (try simp only [Exit.inBlock, Exit.then])
          refine bodyPost_ret (results_cell2r _ _ _ 2 3 rfl rfl HB6.out) rfl ?_
          refine ⟨none, 0, none, 0, ?_, ?_, (HD5.out.stored dtR HK6.out).2⟩
          · rw [HE.out]; rfl
          · rw [HE.out]; exact IsP_nil _
        · have t2 : decide ((200 : Int) < (m : Int)) = false := decide_eq_false (by omega)
          have HE5 : Aside0 (CS.decode l = CS.dec3 ⟨ns, (CS.rdCode m r5).1⟩ (CS.rdCode m r5).2) := ⟨by rw [HDE5.out, if_neg h200]⟩
          have hm200 : m ≤ 200 := by omega
          have HNL : Aside0 (ns.length ≤ 8) := ⟨by have := HN.out.1; omega⟩
          clear h200
          go_wp2
          clear xb
          go_loopw [38] (fun v wr => ∃ (j : Nat) (cs : List CS.Ins) (rj : CS.Rd) (A1 : Option Addr) (c1 : Nat), v = .int .u64 (j : Int) ∧ j ≤ m ∧ Aside0 (cs.length = j ∧ CS.rdCode m r5 = (cs ++ (CS.rdCode (m - j) rj).1, (CS.rdCode (m - j) rj).2)) ∧ Aside0 (DIR w wr gr gp g rj ns cs A0 c0 A1 c1)) (fun v _ => m - (intOf v).toNat)
          case atStart => exact ⟨0, [], r5, none, 0, rfl, Nat.zero_le _, ⟨rfl, by simp⟩, HD5⟩
          case round =>
            obtain ⟨j, cs, rj, A1, c1, rfl, hj, HC, HDj⟩ := hrel
            by_cases hltj : j < m
            · have t3 : decide (j < m) = true := decide_eq_true hltj
              go_wp2_with fail
              refine (RefNumber_any _ g rj _ HDj.out.rd).mono ?_
              rintro e w7 ⟨rfl, hr7, hk7⟩
              have ho7 := CS.rdNum_lt rj
              obtain ⟨o, ho⟩ : ∃ o, o = (CS.rdNum rj).1 := ⟨_, rfl⟩
              obtain ⟨r7, hr⟩ : ∃ r7, r7 = (CS.rdNum rj).2 := ⟨_, rfl⟩
              obtain ⟨a, ha⟩ : ∃ a, a = (CS.rdInt r7).1 := ⟨_, rfl⟩
              obtain ⟨r8, hr8⟩ : ∃ r8, r8 = (CS.rdInt r7).2 := ⟨_, rfl⟩
              have HALL : Aside0 (∃ tl rr, CS.rdCode m r5 = (cs ++ ⟨min (o : Int) 200, a⟩ :: tl, rr)) := ⟨by
                have := CS.rdCode_next m (m - (j + 1)) r5 rj cs (by rw [show m - (j + 1) + 1 = m - j by omega]; exact HC.out.2)
                rw [← ho, ← hr, ← ha, ← hr8] at this
                exact ⟨_, _, by rw [this, List.append_assoc]; rfl⟩⟩
              by_cases h23 : 23 < o
              · have t4 : decide ((23 : Int) < (o : Int)) = true := decide_eq_true (by omega)
                have HE : Aside0 (CS.decode l = (CS.nil, 2)) := ⟨by
                  obtain ⟨tl, rr, hall⟩ := HALL.out
                  rw [HE5.out, hall]
                  unfold CS.dec3
                  rw [if_neg]
                  rintro ⟨_, hf⟩
                  unfold CS.formed at hf
                  simp only [Bool.and_eq_true] at hf
                  have := List.all_eq_true.1 hf.2 ⟨min (o : Int) 200, a⟩ (by simp)
                  have h2 := insOk_op this
                  simp only at h2
                  omega⟩
                rw [← hr] at hr7
                rw [← ho]
                have HD7 := Aside0.mk (HDj.out.step dtR hk7 hr7)
                clear hr7 hk7 ho hr ha hr8 h23
                go_wp2_with (refine gate_ (.store 25 (.tmp 2) (.tmp 44)) rfl ?_; refine ev_store 25 (.tmp 2) (.tmp 44) rfl rfl rfl rfl HD7.out.res rfl (by kernel_rfl) rfl rfl ?_; intro w6 hb6 hk6; have HB6 := Aside0.mk hb6; have HK6 := Aside0.mk hk6; clear hb6 hk6)
                (try simp only [Exit.inBlock, Exit.then])
                refine bodyPost_ret (results_cell2r _ _ _ 2 3 rfl rfl HB6.out) rfl ?_
                refine ⟨none, 0, none, 0, ?_, ?_, (HD7.out.stored dtR HK6.out).2⟩
                · rw [HE.out]; rfl
                · rw [HE.out]; exact IsP_nil _
              have t4 : decide ((23 : Int) < (o : Int)) = false := decide_eq_false (by omega)
              obtain ⟨q, hq⟩ : ∃ q : Nat, q = o := ⟨_, rfl⟩
              have hqm : min (o : Int) 200 = (q : Int) := by rw [hq]; omega
              have hq200 : o ≤ 200 := by omega
              have HNX : Aside0 ((cs ++ [(⟨(q : Int), a⟩ : CS.Ins)]).length = j + 1 ∧ CS.rdCode m r5 = ((cs ++ [(⟨(q : Int), a⟩ : CS.Ins)]) ++ (CS.rdCode (m - (j + 1)) r8).1, (CS.rdCode (m - (j + 1)) r8).2)) := ⟨by rw [List.length_append]; have := HC.out.1; simp; omega, by
                have := CS.rdCode_next m (m - (j + 1)) r5 rj cs (by rw [show m - (j + 1) + 1 = m - j by omega]; exact HC.out.2)
                rw [← ho, ← hr, ← ha, ← hr8, hqm] at this
                exact this⟩
              rw [← hr] at hr7
              rw [← ho] at ho7 ⊢
              have HD7 := Aside0.mk (HDj.out.step dtR hk7 hr7)
              have HT : Aside0 ((CS.rdInt r7).1 = a ∧ (CS.rdInt r7).2 = r8) := ⟨ha.symm, hr8.symm⟩
              have HCL : Aside0 (cs.length = j) := ⟨HC.out.1⟩
              have y0 := (blk_cell HD7.out.prog 1).trans rfl
              clear hr7 hk7 ho hr ha hr8
              have hl : (cs ++ [(⟨(q : Int), a⟩ : CS.Ins)]).length = cs.length + 1 := by simp
              have HL := Aside0.mk hl
              have hqw : IntKind.i64.wrap (o : Int) = (o : Int) := IntWalk.i64_in _ (by omega)
              subst hq
              clear hl hqm h23
              go_upto_region 18 with (fail)
              go_region_law (first | (refine goes_ Tryz.func53 (by kernel_rfl) rfl #[.pointer (some ⟨g, 0, none⟩)] (by simp [Region.wanted]) rfl rfl (by (try simp only [List.map_toArray, List.map_cons, List.map_nil]); first | done | rfl) ?_; refine (RefRInt_any _ g r7 _ HD7.out.rd.drew).mono ?_; rw [HT.out.1, HT.out.2]; rintro e w8 ⟨rfl, hr8, hk8⟩; refine ⟨_, rfl, ?_⟩; have HD8 := Aside0.mk (HD7.out.drew.step dtR hk8 hr8); have u0 := (blk_cell HD8.out.prog 1).trans rfl; have u1 := fun o => ((below_alloc (Below.refl _ _) o).cell (World.block_lt_of_cell? w8 _ u0)).trans u0; clear hr8 hk8) | (refine Kd.R_append_step kIns (w0 := w) w.heap.size (by simp [Region.wanted]) (.tmp 46) (.tmp 52) 23 59 (.agg #[.int .i64 0, .int .i64 0]) 16 (by rfl) Tryz.underlying23 infoIns66 rfl (by decide) (by decide) (.slice A1 cs.length c1) cs (⟨(q : Int), a⟩ : CS.Ins) [.int .i64 (q : Int), .int .i64 a] (fun _ => True) (fun _ => False) (by rfl) (by rfl) ⟨[_], [_], rfl, rfl, rfl⟩ (fun _ h => h.elim) (fun _ _ => trivial) HD8.out.code HD8.out.below HD8.out.below.size (by have := HCL.out; omega) ?_; intro v9 w9 ho9 hb9 hg9 hn9; obtain ⟨A1', c1', rfl⟩ := Kd.R_slice ho9; have hp9 := blk_grown HD8.out.prog hg9 (Kd.R_ne HD8.out.code HD8.out.prog (by decide)); have z0 := (blk_cell hp9 1).trans rfl; have zf := blk_frozen hp9 1; have hdn := HD8.out.add_ins dtR ho9 hg9 hb9; rw [HL.out] at hdn ⊢; have HDN := Aside0.mk hdn; clear ho9 hb9 hg9 hn9 hp9 hdn))
              all_goals
                go_wp2
                go_roundw
                case rel => exact ⟨j + 1, cs ++ [⟨(q : Int), a⟩], r8, A1', c1', by go_num, hltj, HNX, HDN⟩
                case measure => simp [intOf]; omega
            · have t3 : decide (j < m) = false := decide_eq_false hltj
              have HE6 : Aside0 (CS.decode l = CS.dec3 ⟨ns, cs⟩ rj) := ⟨by
                have h2 := HC.out.2
                rw [show m - j = 0 by omega] at h2
                rw [HE5.out, h2]
                simp [CS.rdCode]⟩
              have HCL : Aside0 (cs.length ≤ 200) := ⟨by have := HC.out.1; omega⟩
              by_cases hend : rj = some []
              · have HEND : Aside0 (decide (rj = some []) = true) := ⟨decide_eq_true hend⟩
                have HRJ := Aside0.mk hend
                have y0 := (blk_cell HDj.out.prog 0).trans rfl
                have y1 := (blk_cell HDj.out.prog 1).trans rfl
                clear hend
                go_wp2_with fail
                refine (RefEnd_any _ g rj _ HDj.out.rd).mono ?_
                rw [HEND.out]
                rintro e w7 ⟨rfl, rfl⟩
                go_wp2_with fail
                refine (RefFormed_any A0 A1 c0 c1 ⟨ns, cs⟩ _ HDj.out.isP ?h1 ?h2).mono ?_
                case h1 => have := HNL.out; simp only; omega
                case h2 => have := HCL.out; simp only; omega
                rintro e w8 ⟨rfl, hb8⟩
                have HD8 := Aside0.mk (HDj.out.keep_below hb8)
                clear hb8 y0 y1
                cases hf : CS.formed ⟨ns, cs⟩ with
                | false =>
                  have HE : Aside0 (CS.decode l = (CS.nil, 2)) := ⟨by rw [HE6.out]; unfold CS.dec3; rw [if_neg (by rw [hf]; simp)]⟩
                  clear hf
                  go_wp2_with (refine gate_ (.store 25 (.tmp 2) (.tmp 64)) rfl ?_; refine ev_store 25 (.tmp 2) (.tmp 64) rfl rfl rfl rfl HD8.out.res rfl (by kernel_rfl) rfl rfl ?_; intro w6 hb6 hk6; have HB6 := Aside0.mk hb6; have HK6 := Aside0.mk hk6; clear hb6 hk6)
                  (try simp only [Exit.inBlock, Exit.then])
                  refine bodyPost_ret (results_cell2r _ _ _ 2 3 rfl rfl HB6.out) rfl ?_
                  refine ⟨none, 0, none, 0, ?_, ?_, (HD8.out.stored dtR HK6.out).2⟩
                  · rw [HE.out]; rfl
                  · rw [HE.out]; exact IsP_nil _
                | true =>
                  have HE : Aside0 (CS.decode l = (⟨ns, cs⟩, 0)) := ⟨by rw [HE6.out]; unfold CS.dec3; rw [if_pos ⟨HRJ.out, hf⟩]⟩
                  have z0 := (blk_cell HD8.out.prog 0).trans rfl
                  have z1 := (blk_cell HD8.out.prog 1).trans rfl
                  clear hf
                  go_wp2_with (refine gate_ (.store 25 (.tmp 2) (.tmp 65)) rfl ?_; refine ev_store 25 (.tmp 2) (.tmp 65) rfl rfl rfl rfl HD8.out.res rfl (by kernel_rfl) rfl rfl ?_; intro w6 hb6 hk6; have HB6 := Aside0.mk hb6; have HK6 := Aside0.mk hk6; clear hb6 hk6)
                  (try simp only [Exit.inBlock, Exit.then])
                  refine bodyPost_ret (results_cell2r _ _ _ 2 3 rfl rfl HB6.out) rfl ?_
                  obtain ⟨s1, s2⟩ := HD8.out.stored dtR HK6.out
                  refine ⟨A0, c0, A1, c1, ?_, ?_, s2⟩
                  · rw [HE.out]; rfl
                  · rw [HE.out]; exact s1
              · have HEND : Aside0 (decide (rj = some []) = false) := ⟨decide_eq_false hend⟩
                have HE : Aside0 (CS.decode l = (CS.nil, 2)) := ⟨by rw [HE6.out]; unfold CS.dec3; rw [if_neg (fun h => hend h.1)]⟩
                clear hend
                go_wp2_with fail
                refine (RefEnd_any _ g rj _ HDj.out.rd).mono ?_
                rw [HEND.out]
                rintro e w7 ⟨rfl, rfl⟩
                go_wp2_with (refine gate_ (.store 25 (.tmp 2) (.tmp 64)) rfl ?_; refine ev_store 25 (.tmp 2) (.tmp 64) rfl rfl rfl rfl HDj.out.res rfl (by kernel_rfl) rfl rfl ?_; intro w6 hb6 hk6; have HB6 := Aside0.mk hb6; have HK6 := Aside0.mk hk6; clear hb6 hk6)
                (try simp only [Exit.inBlock, Exit.then])
                refine bodyPost_ret (results_cell2r _ _ _ 2 3 rfl rfl HB6.out) rfl ?_
                refine ⟨none, 0, none, 0, ?_, ?_, (HDj.out.stored dtR HK6.out).2⟩
                · rw [HE.out]; rfl
                · rw [HE.out]; exact IsP_nil _
end Go.Proofs.YtpapbigghiiolaaGreatDoor

set_option linter.unusedVariables false
namespace Go.Proofs.YtpapbigghiiolaaGreatDoor
open Go.RowKit Go.Proofs.YtpapbigghiiolaaGreatDoorW.PrintWords

theorem own_drew1 {W : World} {base n : Nat} {e : TypeId} {size : Nat} {v : Value} {xs : List Value} (h : W.ownsRow base e size v n xs) : W.drew.ownsRow base e size v n xs := h.drew
theorem below_undrew {B : Nat} {w w1 : World} (h : Below B w.drew w1) : Below B w w1 := (below_drew1 (Below.refl B w)).trans h

set_option maxRecDepth 100000 in
set_option maxHeartbeats 2000000 in
theorem RefEncode_any (A0 A1 : Option Addr) (c0 c1 : Nat) (p : CS.Prg) (w : World) (h : IsP w A0 c0 A1 c1 p) (hl0 : p.names.length ≤ 1000000000) (hl1 : p.code.length ≤ 1000000000) (hwf : Wf p) :
    Calls Tryz.prog 26 #[pv A0 c0 A1 c1 p] w fun e w' => ∃ v, e = .returned (.tuple #[v, .int .i64 (CS.encode p).2]) ∧ w'.ownsRow w.heap.size 5 1 v (CS.encode p).1.length (Lib.byteCells (CS.encode p).1) ∧ Below w.heap.size w w' := by
  have H := Aside0.mk h
  have HWF := Aside0.mk hwf
  clear h hwf
  unfold pv
  go_enter Tryz.func26, Tryz.ntmps26
  go_wp2_with (refine gate_ (.box 25 (.tmp 0)) rfl ?_; refine ev_box 25 (.tmp 0) rfl rfl (by go_simp; rfl) ?_; intro gp hg w1 hb hbel; have HBX := Aside0.mk hb; have HW1 := Aside0.mk hbel; have HGP := Aside0.mk hg; have x0 : w1.cell? ⟨gp, 0, none⟩ = some (.slice A0 p.names.length c0) := (blk_cell hb 0).trans rfl; have x1 : w1.cell? ⟨gp, 1, none⟩ = some (.slice A1 p.code.length c1) := (blk_cell hb 1).trans rfl; clear hb hbel hg)
  refine (RefFormed_any A0 A1 c0 c1 p _ (H.out.below HW1.out) hl0 hl1).mono ?_
  rintro e w2 ⟨rfl, hb2⟩
  have HW2 := Aside0.mk (below_then HW1.out HW1.out.size hb2)
  have HB2 := Aside0.mk (below_blk hb2 HBX.out)
  clear hb2
  cases hf : CS.formed p with
  | false =>
    have HF : Aside0 (CS.encode p = ([], 1)) := ⟨by unfold CS.encode; rw [hf]; rfl⟩
    clear hf
    go_wp2
    go_ret2
    exact ⟨_, by rw [HF.out]; rfl, by rw [HF.out]; exact World.ownsRow_nil _ _ _ _, HW2.out⟩
  | true =>
    have HF : Aside0 (CS.encode p = (CS.encHead p ++ CS.encNum p.code.length ++ (p.code.map CS.encIns).flatten, 0)) := ⟨CS.encode_eq p hf⟩
    have hf2 := hf
    unfold CS.formed at hf2
    simp only [Bool.and_eq_true, decide_eq_true_eq] at hf2
    obtain ⟨⟨⟨hn8, hc200⟩, hkeys⟩, hins⟩ := hf2
    have HK := Aside0.mk hkeys
    have HI := Aside0.mk hins
    clear hf hkeys hins x0 x1
    obtain ⟨B, hB⟩ : ∃ B, B = w2.heap.size := ⟨_, rfl⟩
    have y0 : w2.cell? ⟨gp, 0, none⟩ = some (.slice A0 p.names.length c0) := (blk_cell HB2.out 0).trans rfl
    have HB := Aside0.mk hB
    have HBL : Aside0 (B ≤ w2.heap.size) := ⟨by omega⟩
    clear hB
    go_wp2_with fail
    refine (RefWNumber_any B (.slice none 0 0) [] p.names.length _ (World.ownsRow_nil _ _ _ _) HBL.out (by simp) (by omega)).mono ?_
    rintro e w4 ⟨v4, rfl, ho4, hb4⟩
    rw [List.nil_append] at ho4
    have z0 : w4.cell? ⟨gp, 0, none⟩ = some (.slice A0 p.names.length c0) := (blk_cell (below_blk (HB.out ▸ hb4) HB2.out) 0).trans rfl
    have HO4 := Aside0.mk ho4
    have HB4 := Aside0.mk hb4
    clear ho4 hb4 y0
    go_wp2
    go_loopw [4, 18] (fun v4 v wr => ∃ (i : Nat), v = .int .i64 (i : Int) ∧ i ≤ p.names.length ∧ Aside0 (wr.ownsRow B 5 1 v4 (CS.encNum p.names.length ++ ((p.names.take i).map CS.encText).flatten).length (Lib.byteCells (CS.encNum p.names.length ++ ((p.names.take i).map CS.encText).flatten))) ∧ Aside0 (Below B w2 wr)) (fun _ v _ => p.names.length - (intOf v).toNat)
    case atStart => exact ⟨0, rfl, Nat.zero_le _, ⟨by simpa using HO4.out⟩, HB4⟩
    case round =>
      obtain ⟨i, rfl, hi, HBu, HWr⟩ := hrel
      by_cases hlt : i < p.names.length
      · have i1 : decide ((i : Int) < (p.names.length : Int)) = true := decide_eq_true (by omega)
        have i2 : (i : Int) < (p.names.length : Int) := by omega
        obtain ⟨ad, rfl, hcell⟩ := kStr_at (Kd.C_below (Kd.C_below H.out.1 HW2.out) (HB.out ▸ HWr.out)) i hlt
        obtain ⟨nm, hnm⟩ : ∃ nm, nm = p.names.getD i [] := ⟨_, rfl⟩
        have hkey := all_at HK.out [] i hlt
        rw [← hnm] at hcell hkey
        have HNM := Aside0.mk hnm
        have hnl : nm.length ≤ 40 := by unfold CS.key at hkey; simp only [Bool.and_eq_true, decide_eq_true_eq] at hkey; exact hkey.2
        have HFL : Aside0 ((CS.encNum p.names.length ++ ((p.names.take i).map CS.encText).flatten).length ≤ 1000) := ⟨by
          have h1 := CS.encNum_len p.names.length (by omega)
          have h2 := flat_len CS.encText 49 (p.names.take i) (fun x hx => by
            have hk := List.all_eq_true.1 HK.out x (List.mem_of_mem_take hx)
            unfold CS.key at hk
            simp only [Bool.and_eq_true, decide_eq_true_eq] at hk
            have := CS.encText_len x (by omega)
            omega)
          rw [List.length_append]
          rw [List.length_take] at h2
          omega⟩
        have y1 : wr.cell? ⟨gp, 0, none⟩ = some (.slice (some ad) p.names.length c0) := (blk_cell (below_blk (HB.out ▸ HWr.out) HB2.out) 0).trans rfl
        clear hnm hkey
        go_wp2_with fail
        refine (RefWText_any B u4 _ (sb nm) _ HBu.out ?c1 ?c2 ?c3).mono ?_
        case c1 => have := HWr.out.size; have := HBL.out; omega
        case c2 => have := HFL.out; omega
        case c3 => rw [sb_size]; omega
        rintro e w5 ⟨v5, rfl, ho5, hb5⟩
        rw [sb_data] at ho5
        rw [List.append_assoc, HNM.out, ← take_flat CS.encText p.names [] i hlt] at ho5
        have HI5 := Aside0.mk ho5
        have HB5 := Aside0.mk (HWr.out.trans hb5)
        clear ho5 hb5
        go_wp2
        go_roundw
        case rel => exact ⟨i + 1, by go_num, hlt, HI5, HB5⟩
        case measure => simp [intOf]; omega
      · have tk : decide ((i : Int) < (p.names.length : Int)) = false := decide_eq_false (by omega)
        have HBN : Aside0 (wr.ownsRow B 5 1 u4 (CS.encHead p).length (Lib.byteCells (CS.encHead p))) := ⟨by unfold CS.encHead; have := HBu.out; rwa [List.take_of_length_le (by omega)] at this⟩
        have HLH : Aside0 ((CS.encHead p).length ≤ 1000) := ⟨by
          unfold CS.encHead
          have h1 := CS.encNum_len p.names.length (by omega)
          have h2 := flat_len CS.encText 49 p.names (fun x hx => by
            have hk := List.all_eq_true.1 HK.out x hx
            unfold CS.key at hk
            simp only [Bool.and_eq_true, decide_eq_true_eq] at hk
            have := CS.encText_len x (by omega)
            omega)
          rw [List.length_append]
          omega⟩
        have y1 : wr.cell? ⟨gp, 1, none⟩ = some (.slice A1 p.code.length c1) := (blk_cell (below_blk (HB.out ▸ HWr.out) HB2.out) 1).trans rfl
        go_wp2_with fail
        refine (RefWNumber_any B u4 _ p.code.length _ HBN.out ?c1 ?c2 (by omega)).mono ?_
        case c1 => have := HWr.out.size; have := HBL.out; omega
        case c2 => have := HLH.out; omega
        rintro e w6 ⟨v6, rfl, ho6, hb6'⟩
        have hb6 := HWr.out.trans hb6'
        have z1 : w6.cell? ⟨gp, 1, none⟩ = some (.slice A1 p.code.length c1) := (blk_cell (below_blk (HB.out ▸ hb6) HB2.out) 1).trans rfl
        have HB6 := Aside0.mk hb6
        obtain ⟨L0, hL0⟩ : ∃ L0, L0 = CS.encHead p ++ CS.encNum p.code.length := ⟨_, rfl⟩
        rw [← hL0] at ho6
        have HI6 := Aside0.mk ho6
        have HLL : Aside0 (L0.length ≤ 1100) := ⟨by rw [hL0, List.length_append]; have := CS.encNum_len p.code.length (by omega); have := HLH.out; omega⟩
        have HL0 := Aside0.mk hL0
        clear ho6 hb6 hb6' y1 hL0
        go_wp2
        go_loopw [4, 38] (fun v4 v wr => ∃ (j : Nat), v = .int .i64 (j : Int) ∧ j ≤ p.code.length ∧ Aside0 (wr.ownsRow B 5 1 v4 (L0 ++ ((p.code.take j).map CS.encIns).flatten).length (Lib.byteCells (L0 ++ ((p.code.take j).map CS.encIns).flatten))) ∧ Aside0 (Below B w2 wr)) (fun _ v _ => p.code.length - (intOf v).toNat)
        case atStart => exact ⟨0, rfl, Nat.zero_le _, ⟨by simpa using HI6.out⟩, HB6⟩
        case round =>
          obtain ⟨j, rfl, hj, HBj, HWj⟩ := hrel
          by_cases hltj : j < p.code.length
          · have tj : decide ((j : Int) < (p.code.length : Int)) = true := decide_eq_true (by omega)
            have tj2 : (j : Int) < (p.code.length : Int) := by omega
            have tj3 : (0 : Int) ≤ (j : Int) := by omega
            obtain ⟨ad, rfl, hw0, hw1⟩ := kIns_at (Kd.C_below H.out.2.2.1 HW2.out) j hltj
            have hok := all_at HI.out ⟨0, 0⟩ j hltj
            have har := HWF.out.at j hltj
            obtain ⟨x, hx⟩ : ∃ x, x = p.code.getD j ⟨0, 0⟩ := ⟨_, rfl⟩
            rw [← hx] at hw0 hw1 hok har
            obtain ⟨xo, xa⟩ := x
            obtain ⟨ho0, ho1⟩ := insOk_op hok
            simp only at hw0 hw1 har ho0 ho1
            obtain ⟨o, rfl⟩ := Int.eq_ofNat_of_zero_le ho0
            have ho24 : o < 24 := by omega
            have HX := Aside0.mk hx
            have HAR := Aside0.mk har
            have HW0 := Aside0.mk hw0
            have HW1' := Aside0.mk hw1
            obtain ⟨L, hL⟩ : ∃ L, L = L0 ++ ((p.code.take j).map CS.encIns).flatten := ⟨_, rfl⟩
            rw [← hL] at HBj
            have HFL : Aside0 (L.length ≤ 5000) := ⟨by
              have h2 := flat_len CS.encIns 18 (p.code.take j) (fun y hy => by
                have hm := List.mem_of_mem_take hy
                have hr := HWF.out y hm
                obtain ⟨h1, h3⟩ := insOk_op (List.all_eq_true.1 HI.out y hm)
                exact CS.encIns_len y (by omega) hr.1 hr.2)
              have h1 := HLL.out
              rw [hL, List.length_append]
              rw [List.length_take] at h2
              omega⟩
            have HNEXT : Aside0 (L ++ CS.encNum o ++ CS.encInt xa = L0 ++ ((p.code.take (j + 1)).map CS.encIns).flatten) := ⟨by
              rw [take_flat CS.encIns p.code ⟨0, 0⟩ j hltj, ← HX.out, hL]
              simp [CS.encIns]⟩
            have hou : IntKind.u64.wrap (o : Int) = (o : Int) := by rw [u64_wrap]; omega
            have HSZ : Aside0 (B ≤ wr.heap.size) := ⟨by have := HWj.out.size; have := HBL.out; omega⟩
            have y1 : wr.cell? ⟨gp, 1, none⟩ = some (.slice (some ad) p.code.length c1) := (blk_cell (below_blk (HB.out ▸ HWj.out) HB2.out) 1).trans rfl
            have hcell : wr.cell? (ad.add (j * 2)) = some (.int .i64 (o : Int)) := ((HB.out ▸ HWj.out : Below w2.heap.size w2 wr).cell (World.block_lt_of_cell? w2 _ HW0.out)).trans HW0.out
            have hcell1 : wr.cell? ⟨(ad.add (j * 2)).block, (ad.add (j * 2)).off + 1, none⟩ = some (.int .i64 xa) := ((HB.out ▸ HWj.out : Below w2.heap.size w2 wr).cell (World.block_lt_of_cell? w2 _ HW1'.out)).trans HW1'.out
            clear hx har hok ho0 ho1 hL hw0 hw1
            go_upto_region 13 with (fail)
            go_region_held3 (fun w' => w'.cell? ⟨gp, 1, none⟩ = some (.slice (some ad) p.code.length c1) ∧ w'.cell? (ad.add (j * 2)) = some (.int .i64 (o : Int)) ∧ w'.cell? ⟨(ad.add (j * 2)).block, (ad.add (j * 2)).off + 1, none⟩ = some (.int .i64 xa)) (first | exact ⟨k0, k1, k2⟩ | go_keep)
              (first | (go_at_call 42; refine (RefWNumber_any B u4 L o _ (own_drew1 HBj.out) HSZ.out (by have := HFL.out; omega) (by omega)).mono ?_; rintro e w7 ⟨v7, rfl, ho7, hb7⟩; have HO7 := Aside0.mk ho7; have HB7 := Aside0.mk (HWj.out.trans (below_undrew hb7)); have k0 : w7.cell? ⟨gp, 1, none⟩ = some (.slice (some ad) p.code.length c1) := (blk_cell (below_blk (HB.out ▸ HB7.out) HB2.out) 1).trans rfl; have k1 : w7.cell? (ad.add (j * 2)) = some (.int .i64 (o : Int)) := ((HB.out ▸ HB7.out : Below w2.heap.size w2 w7).cell (World.block_lt_of_cell? w2 _ HW0.out)).trans HW0.out; have k2 : w7.cell? ⟨(ad.add (j * 2)).block, (ad.add (j * 2)).off + 1, none⟩ = some (.int .i64 xa) := ((HB.out ▸ HB7.out : Below w2.heap.size w2 w7).cell (World.block_lt_of_cell? w2 _ HW1'.out)).trans HW1'.out; clear ho7 hb7) | (go_at_call 44; refine (RefWInt_any B v7 (L ++ CS.encNum o) xa _ HO7.out (Nat.le_trans HBL.out HB7.out.size) (by rw [List.length_append]; have := HFL.out; have := CS.encNum_len o (by omega); omega) HAR.out.1 HAR.out.2).mono ?_; rintro e w8 ⟨v8, rfl, ho8, hb8⟩; rw [HNEXT.out] at ho8; have HO8 := Aside0.mk ho8; have HB8 := Aside0.mk (HB7.out.trans hb8); clear k0 k1 k2; have k0 : w8.cell? ⟨gp, 1, none⟩ = some (.slice (some ad) p.code.length c1) := (blk_cell (below_blk (HB.out ▸ HB8.out) HB2.out) 1).trans rfl; have k1 : w8.cell? (ad.add (j * 2)) = some (.int .i64 (o : Int)) := ((HB.out ▸ HB8.out : Below w2.heap.size w2 w8).cell (World.block_lt_of_cell? w2 _ HW0.out)).trans HW0.out; have k2 : w8.cell? ⟨(ad.add (j * 2)).block, (ad.add (j * 2)).off + 1, none⟩ = some (.int .i64 xa) := ((HB.out ▸ HB8.out : Below w2.heap.size w2 w8).cell (World.block_lt_of_cell? w2 _ HW1'.out)).trans HW1'.out; clear ho8 hb8))
            go_wp2
            go_roundw
            case rel => exact ⟨j + 1, by go_num, hltj, HO8, HB8⟩
            case measure => simp [intOf]; omega
          · have tj : decide ((j : Int) < (p.code.length : Int)) = false := decide_eq_false (by omega)
            have HBT : Aside0 (wr.ownsRow B 5 1 u4 (CS.encode p).1.length (Lib.byteCells (CS.encode p).1)) := ⟨by
              rw [HF.out, ← HL0.out]
              have := HBj.out
              rwa [List.take_of_length_le (by omega)] at this⟩
            go_wp2
            go_ret2
            have hww : Below w.heap.size w wr := below_then HW2.out HW2.out.size (HB.out ▸ HWj.out)
            exact ⟨_, by rw [HF.out]; rfl, own_weaken HBT.out (by rw [HB.out]; exact HW2.out.size), hww⟩
end Go.Proofs.YtpapbigghiiolaaGreatDoor
