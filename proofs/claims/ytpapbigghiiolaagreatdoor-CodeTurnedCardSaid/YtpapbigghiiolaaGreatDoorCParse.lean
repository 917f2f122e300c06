/-
  code.Parse.
-/
import Derived.Test.YtpapbigghiiolaaGreatDoorCInstr
import Derived.Test.YtpapbigghiiolaaGreatDoorCUnhex
import Derived.Test.YtpapbigghiiolaaGreatDoorCSpec
set_option linter.unusedVariables false
namespace Go.Proofs.YtpapbigghiiolaaGreatDoor
open Go.RowKit Go.Proofs.YtpapbigghiiolaaGreatDoorW.PrintWords

def ParsePost (l : CS.Bs) (w : World) (e : Ending) (w' : World) : Prop :=
  ∃ A0 c0 A1 c1, e = .returned (.tuple #[pv A0 c0 A1 c1 (CS.parse l).1, .int .i64 (CS.parse l).2.1, .int .i64 (CS.parse l).2.2]) ∧ IsP w' A0 c0 A1 c1 (CS.parse l).1 ∧ Below w.heap.size w w'

theorem IsP_nil (w : World) : IsP w none 0 none 0 CS.nil := by
  obtain ⟨A, c, he, hl, h0⟩ := Kd.R_reads (Kd.R_nil kStr 9 w 0 (fun _ => True))
  obtain ⟨A', c', he', hl', h0'⟩ := Kd.R_reads (Kd.R_nil kIns 9 w 0 (fun _ => True))
  cases he
  cases he'
  exact ⟨h0, Nat.le_refl _, h0', Nat.le_refl _⟩

theorem R_keep1 {α : Type} {d : Kd α} {e base g t : Nat} {ok : Nat → Prop} {w w1 : World} {v : Value} {xs : List α} {cells : Array Value} (h : d.R e w base ok v xs) (hb : w.heap[g]? = some (.cells cells t (0, 0))) (ht : ∀ q, q ∈ e :: d.E → q ≠ t) (hk : Keep (· = g) w w1) : d.R e w1 base ok v xs :=
  Kd.R_mono (Kd.R_step (Kd.R_types h hb ht) (fun k hk' hlt => hk.block k hlt hk'.2)) (fun _ hk => hk.1)
theorem IsP_of_R {w : World} {b b' e e' : Nat} {ok ok' : Nat → Prop} {A0 A1 : Option Addr} {c0 c1 : Nat} {p : CS.Prg} (h : kStr.R e w b ok (.slice A0 p.names.length c0) p.names) (h' : kIns.R e' w b' ok' (.slice A1 p.code.length c1) p.code) : IsP w A0 c0 A1 c1 p := by
  obtain ⟨A, c, he, hl, hc⟩ := Kd.R_reads h
  obtain ⟨A', c', he', hl', hc'⟩ := Kd.R_reads h'
  cases he
  cases he'
  exact ⟨hc, hl, hc', hl'⟩
theorem E_str {q : Nat} (hq : q ∈ 9 :: kStr.E) : q = 9 := by have : q ∈ [9] := hq; simpa using this
theorem E_ins {q : Nat} (hq : q ∈ 45 :: kIns.E) : q = 45 := by have : q ∈ [45] := hq; simpa using this

def strLen : Value → Nat | .string t => t.size | _ => 0

/-- where the loop stands -/
structure PInv (w wr : World) (gr gp : Nat) (l l' : CS.Bs) (i : Nat) (p : CS.Prg) (late : Bool) (A0 : Option Addr) (c0 : Nat) (A1 : Option Addr) (c1 : Nat) : Prop where
  spec : CS.parse l = CS.parseLines (CS.lines l') i p late
  room : p.names.length + p.code.length + l'.length ≤ 20000
  num : i + l'.length ≤ 20001
  res : wr.heap[gr]? = some (.cells #[.slice none 0 0, .slice none 0 0] 33 (0, 0))
  prog : wr.heap[gp]? = some (.cells #[.slice A0 p.names.length c0, .slice A1 p.code.length c1] 33 (0, 0))
  names : kStr.R 9 wr w.heap.size (fun _ => True) (.slice A0 p.names.length c0) p.names
  code : kIns.R 45 wr w.heap.size (fun _ => True) (.slice A1 p.code.length c1) p.code
  below : Below w.heap.size w wr

theorem results_cell3 (fn : Func) (w : World) (tmps : Array Value) (ad u v : Tmp) (h : fn.results = #[.cell ad 33, .tmp u, .tmp v]) {g : Nat} (hp : tmps.getD ad undef = .pointer (some ⟨g, 0, none⟩)) {v0 v1 : Value} (hh : w.heap[g]? = some (.cells #[v0, v1] 33 (0, 0))) :
    (results fn tmps).run Tryz.prog w = .ok (.tuple #[.agg #[v0, v1], tmps.getD u undef, tmps.getD v undef]) w := by
  have hc0 : w.cell? ⟨g, 0, none⟩ = some v0 := (blk_cell hh 0).trans rfl
  have hc1 : w.cell? ⟨g, 1, none⟩ = some v1 := (blk_cell hh 1).trans rfl
  have hp' : tmps[ad]?.getD undef = .pointer (some ⟨g, 0, none⟩) := by simpa using hp
  simp [results, h, go_sem, hp', hc0, hc1]

theorem CutPrefix_any (s p : ByteArray) (w : World) :
    Calls Tryz.prog 30 #[.string s, .string p] w fun e w' => e = .returned (.tuple #[.string (sb (Lib.trimPrefix s.data.toList p.data.toList)), .bool (Lib.hasPrefix s.data.toList p.data.toList)]) ∧ w' = w :=
  Tryz.strings_CutPrefix s p w

set_option maxRecDepth 100000 in
set_option maxHeartbeats 2000000 in
theorem Parse_any (s : ByteArray) (w : World) (hw : Laid w) :
    Calls Tryz.prog 11 #[.string s] w (ParsePost s.data.toList w) := by
  have hsz : s.data.toList.length = s.size := by rw [Array.length_toList]; rfl
  have HL := Aside0.mk hw
  have HSZ := Aside0.mk hsz
  clear hw hsz
  by_cases hlong : 20000 < s.size
  · have HP : Aside0 (CS.parse s.data.toList = (CS.nil, 0, 4)) := ⟨by unfold CS.parse; rw [if_pos (by have := HSZ.out; omega)]⟩
    have t0 : decide ((20000 : Int) < (s.size : Int)) = true := decide_eq_true (by omega)
    go_enter Tryz.func11, Tryz.ntmps11
    go_wp2_with (first | (refine gate_ (.alloc 33) rfl ?_; refine ev_alloc 33 rfl rfl (by go_simp; rfl) ?_; intro g hg w1 hb hbel; have HB := Aside0.mk hb; have HW := Aside0.mk hbel; have HG := Aside0.mk hg; clear hb hbel hg) | (refine gate_ (.store 33 (.tmp 2) (.tmp 18)) rfl ?_; refine ev_store 33 (.tmp 2) (.tmp 18) rfl rfl rfl rfl HB.out rfl (by kernel_rfl) rfl rfl ?_; intro w2 hb2 hk2; have HB2 := Aside0.mk hb2; have HK2 := Aside0.mk hk2; clear hb2 hk2))
    (try simp only [Exit.inBlock, Exit.then])
    refine bodyPost_ret (results_cell3 _ _ _ 2 3 4 rfl rfl HB2.out) rfl ?_
    refine ⟨none, 0, none, 0, ?_, ?_, below_keep HW.out HK2.out (fun i h => by rw [h, HG.out]; exact Nat.le_refl _)⟩
    · rw [HP.out]; rfl
    · rw [HP.out]; exact IsP_nil _
  · have hs : s.size ≤ 140737488355328 := by omega
    have HP : Aside0 (CS.parse s.data.toList = CS.parseLines (CS.lines s.data.toList) 1 CS.nil false) := ⟨by unfold CS.parse; rw [if_neg (by have := HSZ.out; omega)]⟩
    have t0 : decide ((20000 : Int) < (s.size : Int)) = false := decide_eq_false (by omega)
    go_enter Tryz.func11, Tryz.ntmps11
    go_upto_region 3 with (refine gate_ (.alloc 33) rfl ?_; refine ev_alloc 33 rfl rfl (by go_simp; rfl) ?_; intro gr hg w1 hb hbel; have HB1 := Aside0.mk hb; have HW1 := Aside0.mk hbel; have HG1 := Aside0.mk hg; clear hb hbel hg)
    go_wp2_with (refine gate_ (.alloc 33) rfl ?_; refine ev_alloc 33 rfl rfl (by go_simp; rfl) ?_; intro gp hg w2 hb hbel; have HB2 := Aside0.mk hb; have HW2 := Aside0.mk hbel; have HG2 := Aside0.mk hg; clear hb hbel hg)
    go_loopw [0, 6, 7] (fun v0 v6 v7 wr => ∃ (l' : CS.Bs) (i : Nat) (p : CS.Prg) (late : Bool) (A0 : Option Addr) (c0 : Nat) (A1 : Option Addr) (c1 : Nat), v0 = .string (sb l') ∧ v6 = .bool late ∧ v7 = .int .i64 (i : Int) ∧ Aside0 (PInv w wr gr gp s.data.toList l' i p late A0 c0 A1 c1)) (fun v0 _ _ _ => strLen v0)
    case atStart =>
      refine ⟨s.data.toList, 1, CS.nil, false, none, 0, none, 0, rfl, rfl, rfl, ⟨HP.out, ?_, ?_, blk_below HB1.out HW2.out, HB2.out, ?_, ?_, ?_⟩⟩
      · have := HSZ.out; simp [CS.nil]; omega
      · have := HSZ.out; omega
      · exact Kd.R_nil _ _ _ _ _
      · exact Kd.R_nil _ _ _ _ _
      · exact below_then HW1.out HW1.out.size HW2.out
    case round =>
      obtain ⟨l', i, p, late, A0, c0, A1, c1, rfl, rfl, rfl, HI⟩ := hrel
      have hi20 : i ≤ 20001 := by have := HI.out.num; omega
      by_cases hnil : l' = []
      · subst hnil
        have HE : Aside0 (CS.parse s.data.toList = CS.finish p late) := ⟨by rw [HI.out.spec, CS.lines_nil]; rfl⟩
        have t1 : ((sb ([] : CS.Bs)).toList == ([] : List UInt8)) = true := by rw [ByteArray.toList_eq, sb_data]; rfl
        have t2 : (sb ([] : CS.Bs)).toList.isEmpty = true := by rw [ByteArray.toList_eq, sb_data]; rfl
        have t3 : (sb ([] : CS.Bs)).toList = [] := by rw [ByteArray.toList_eq, sb_data]
        have hres := HI.out.res
        cases late with
        | true =>
          have HF : Aside0 (CS.parse s.data.toList = (CS.nil, 0, 2)) := ⟨by rw [HE.out]; rfl⟩
          go_wp2_with (refine gate_ (.store 33 (.tmp 2) (.tmp 78)) rfl ?_; refine ev_store 33 (.tmp 2) (.tmp 78) rfl rfl rfl rfl hres rfl (by kernel_rfl) rfl rfl ?_; intro w5 hb5 hk5; have HB5 := Aside0.mk hb5; have HK5 := Aside0.mk hk5; clear hb5 hk5 hres)
          (try simp only [Exit.inBlock, Exit.then])
          refine bodyPost_ret (results_cell3 _ _ _ 2 3 4 rfl rfl HB5.out) rfl ?_
          refine ⟨none, 0, none, 0, ?_, ?_, below_keep HI.out.below HK5.out (fun i h => by rw [h, HG1.out]; exact Nat.le_refl _)⟩
          · rw [HF.out]; rfl
          · rw [HF.out]; exact IsP_nil _
        | false =>
          have hprog := HI.out.prog
          have x0 := (blk_cell hprog 0).trans rfl
          have x1 := (blk_cell hprog 1).trans rfl
          have HPROG := Aside0.mk hprog
          clear hprog
          have hip : IsP wr A0 c0 A1 c1 p := IsP_of_R HI.out.names HI.out.code
          have HIP := Aside0.mk hip
          clear hip
          go_wp2_with fail
          refine (Formed_any A0 A1 c0 c1 p _ HIP.out ?h1 ?h2).mono ?_
          case h1 => have := HI.out.room; omega
          case h2 => have := HI.out.room; omega
          rintro e w3 ⟨rfl, hb3⟩
          have hres3 := below_blk hb3 hres
          have hprog3 := below_blk hb3 HPROG.out
          have HB3 := Aside0.mk (below_then HI.out.below HI.out.below.size hb3)
          have HRN3 := Aside0.mk (Kd.R_below HI.out.names hb3)
          have HRC3 := Aside0.mk (Kd.R_below HI.out.code hb3)
          have HRES3 := Aside0.mk hres3
          clear hb3 hres x0 x1
          have hres := hres3
          clear hres3
          cases hf : CS.formed p with
          | false =>
            have HF : Aside0 (CS.parse s.data.toList = (CS.nil, 0, 2)) := ⟨by rw [HE.out]; unfold CS.finish; rw [hf]; rfl⟩
            clear hf hprog3
            go_wp2_with (refine gate_ (.store 33 (.tmp 2) (.tmp 78)) rfl ?_; refine ev_store 33 (.tmp 2) (.tmp 78) rfl rfl rfl rfl hres rfl (by kernel_rfl) rfl rfl ?_; intro w5 hb5 hk5; have HB5 := Aside0.mk hb5; have HK5 := Aside0.mk hk5; clear hb5 hk5 hres)
            (try simp only [Exit.inBlock, Exit.then])
            refine bodyPost_ret (results_cell3 _ _ _ 2 3 4 rfl rfl HB5.out) rfl ?_
            refine ⟨none, 0, none, 0, ?_, ?_, below_keep HB3.out HK5.out (fun i h => by rw [h, HG1.out]; exact Nat.le_refl _)⟩
            · rw [HF.out]; rfl
            · rw [HF.out]; exact IsP_nil _
          | true =>
            have HF : Aside0 (CS.parse s.data.toList = (p, 0, 0)) := ⟨by rw [HE.out]; unfold CS.finish; rw [hf]; rfl⟩
            have x0 := (blk_cell hprog3 0).trans rfl
            have x1 := (blk_cell hprog3 1).trans rfl
            clear hf
            go_wp2_with (refine gate_ (.store 33 (.tmp 2) (.tmp 79)) rfl ?_; refine ev_store 33 (.tmp 2) (.tmp 79) rfl rfl rfl rfl hres rfl (by kernel_rfl) rfl rfl ?_; intro w5 hb5 hk5; have HB5 := Aside0.mk hb5; have HK5 := Aside0.mk hk5; clear hb5 hk5 hres)
            (try simp only [Exit.inBlock, Exit.then])
            refine bodyPost_ret (results_cell3 _ _ _ 2 3 4 rfl rfl HB5.out) rfl ?_
            refine ⟨A0, c0, A1, c1, ?_, ?_, below_keep HB3.out HK5.out (fun i h => by rw [h, HG1.out]; exact Nat.le_refl _)⟩
            · rw [HF.out]; rfl
            · rw [HF.out]
              exact IsP_of_R (R_keep1 HRN3.out HRES3.out (fun q hq => by rw [E_str hq]; decide) HK5.out) (R_keep1 HRC3.out HRES3.out (fun q hq => by rw [E_ins hq]; decide) HK5.out)
      · have t1 : ((sb l').toList == ([] : List UInt8)) = false := by rw [ByteArray.toList_eq, sb_data]; simpa using hnil
        have t2 : (sb l').toList.isEmpty = false := by rw [ByteArray.toList_eq, sb_data]; simpa using hnil
        have t3 : ¬ (sb l').toList = [] := by rw [ByteArray.toList_eq, sb_data]; exact hnil
        obtain ⟨hd, hhd⟩ : ∃ hd, hd = CS.headLine l' := ⟨_, rfl⟩
        obtain ⟨tl, htl⟩ : ∃ tl, tl = CS.tailLines l' := ⟨_, rfl⟩
        have HC : Aside0 ((Lib.cut l' [10]).1 = hd ∧ (Lib.cut l' [10]).2.1 = tl) := ⟨by rw [hhd, htl]; exact CS.cut_nl l'⟩
        have HT : Aside0 (tl.length < l'.length) := ⟨by rw [htl]; exact CS.tailLines_lt l' hnil⟩
        have HH : Aside0 (hd.length ≤ l'.length) := ⟨by rw [hhd]; exact CS.headLine_le l'⟩
        have HS : Aside0 (CS.parse s.data.toList = match CS.lineOf hd with | none => (CS.nil, (i : Int), 2) | some y => CS.parseLines (CS.lines tl) (i + 1) (CS.add p y) (CS.lateOf late p y)) := ⟨by rw [HI.out.spec, CS.lines_cons l' hnil, CS.parseLines_cons, hhd, htl]; rfl⟩
        clear hhd htl hnil
        go_wp2_with fail
        refine (Cut_any (sb l') ⟨#[10]⟩ _ ?h1 ?h2).mono ?_
        case h1 => exact HL.out.below HI.out.below
        case h2 => rw [sb_size]; have := HI.out.room; omega
        rw [sb_data, show (⟨#[10]⟩ : ByteArray).data.toList = [10] from rfl, HC.out.1, HC.out.2]
        rintro e w3 ⟨rfl, nn, rfl⟩
        go_wp2_with fail
        refine (CutPrefix_any (sb hd) ⟨#[110, 97, 109, 101, 32]⟩ _).mono ?_
        rw [sb_data, show (⟨#[110, 97, 109, 101, 32]⟩ : ByteArray).data.toList = CS.nameP from rfl]
        rintro e w3 ⟨rfl, rfl⟩
        cases hpre : Lib.hasPrefix hd CS.nameP with
        | true =>
          have HTP : Aside0 (Lib.trimPrefix hd CS.nameP = hd.drop 5) := ⟨by unfold Lib.trimPrefix; rw [hpre]; rfl⟩
          have HLO : Aside0 (CS.lineOf hd = (CS.unhex (hd.drop 5)).map .name) := ⟨by unfold CS.lineOf; rw [hpre]; rfl⟩
          rw [HTP.out]
          clear hpre
          go_wp2_with fail
          refine (Unhex_any (sb (hd.drop 5)) _ ?h1).mono ?_
          case h1 => rw [sb_size, List.length_drop]; have := HI.out.room; have := HH.out; omega
          rw [sb_data]
          cases hu : CS.unhex (hd.drop 5) with
          | none =>
            rintro e w4 ⟨r, rfl, hr, hb4⟩
            rw [hu]
            have hres := below_blk hb4 (blk_drewN HI.out.res nn)
            have HB4 := Aside0.mk (below_then (pw_below_drewN HI.out.below nn) HI.out.below.size hb4)
            have HF : Aside0 (CS.parse s.data.toList = (CS.nil, (i : Int), 2)) := ⟨by rw [HS.out, HLO.out, hu]; rfl⟩
            clear hu hr hb4
            go_wp2_with (refine gate_ (.store 33 (.tmp 2) (.tmp 42)) rfl ?_; refine ev_store 33 (.tmp 2) (.tmp 42) rfl rfl rfl rfl hres rfl (by kernel_rfl) rfl rfl ?_; intro w5 hb5 hk5; have HB5 := Aside0.mk hb5; have HK5 := Aside0.mk hk5; clear hb5 hk5 hres)
            (try simp only [Exit.inBlock, Exit.then])
            refine bodyPost_ret (results_cell3 _ _ _ 2 3 4 rfl rfl HB5.out) rfl ?_
            refine ⟨none, 0, none, 0, ?_, ?_, below_keep HB4.out HK5.out (fun i h => by rw [h, HG1.out]; exact Nat.le_refl _)⟩
            · rw [HF.out]; rfl
            · rw [HF.out]; exact IsP_nil _
          | some n =>
            rintro e w4 ⟨r, rfl, hr, hb4⟩
            rw [hu]
            obtain rfl := hr n hu
            have hres := below_blk hb4 (blk_drewN HI.out.res nn)
            have hprog := below_blk hb4 (blk_drewN HI.out.prog nn)
            have HRN := Aside0.mk (Kd.R_below HI.out.names ((pw_below_drewN (Below.refl _ _) nn).trans hb4))
            have HRC := Aside0.mk (Kd.R_below HI.out.code ((pw_below_drewN (Below.refl _ _) nn).trans hb4))
            have HB4 := Aside0.mk (below_then (pw_below_drewN HI.out.below nn) HI.out.below.size hb4)
            have HS' : Aside0 (CS.parse s.data.toList = CS.parseLines (CS.lines tl) (i + 1) (CS.add p (.name n)) (CS.lateOf late p (.name n))) := ⟨by rw [HS.out, HLO.out, hu]; rfl⟩
            have x0 := (blk_cell hprog 0).trans rfl
            have x1 := (blk_cell hprog 1).trans rfl
            have HRES := Aside0.mk hres
            have HPROG := Aside0.mk hprog
            clear hu hr hb4 hres hprog
            go_upto_region 15 with (fail)
            go_cut [6] (fun v6 wc => v6 = .bool (CS.lateOf late p (.name n)) ∧ wc = w4)
            case first =>
              cases late with
              | true =>
                go_wp2
                go_meet
                case rel => exact ⟨rfl, rfl⟩
              | false =>
                go_wp2
                go_meet
                case rel =>
                  refine ⟨?_, rfl⟩
                  show _ = Value.bool (false || !p.code.isEmpty)
                  cases p.code <;> simp
            case rest =>
              obtain ⟨rfl, rfl⟩ := hcut
              go_wp2_with (at_builtin; refine Kd.R_append kStr (w0 := w) w.heap.size rfl (.tmp 52) (.tmp 54) 22 9 (.string ⟨#[]⟩) 16 rfl Tryz.underlying22 infoStr rfl (by decide) (by decide) (.slice A0 p.names.length c0) p.names n [.string (sb n)] (fun _ => True) (fun _ => False) rfl rfl rfl (fun _ h => h.elim) (fun _ _ => trivial) HRN.out HB4.out HB4.out.size ?hl ?go)
              case hl => have := HI.out.room; omega
              case go =>
                intro v1 w5 hrn5 hb5 hgr hat
                obtain ⟨A0', c0', rfl⟩ := Kd.R_slice hrn5
                have hprog5 := blk_grown HPROG.out hgr (Kd.R_ne HRN.out HPROG.out (by decide))
                have hres5 := blk_grown HRES.out hgr (Kd.R_ne HRN.out HRES.out (by decide))
                have hrc5 := Kd.R_over' HRC.out (Kd.R_typed HRN.out) (by intro q hq; have : q ∈ [45] := hq; simp at this; omega) hgr
                have hfr5 := blk_frozen hprog5 0
                clear x0 x1
                have x0 := (blk_cell hprog5 0).trans rfl
                have HRES5 := Aside0.mk hres5
                have HPROG5 := Aside0.mk hprog5
                have HRN5 := Aside0.mk hrn5
                have HRC5 := Aside0.mk hrc5
                have HB5 := Aside0.mk hb5
                clear hrn5 hb5 hgr hat hprog5 hres5 hrc5
                have HGR : Aside0 (gr ≠ gp) := ⟨by rw [HG2.out]; have := blk_lt HB1.out; omega⟩
                go_wp2
                go_roundw
                case rel =>
                  refine ⟨tl, i + 1, CS.add p (.name n), CS.lateOf late p (.name n), A0', c0', A1, c1, rfl, rfl, by go_num, ?_⟩
                  refine ⟨HS'.out, ?_, ?_, ?_, ?_, ?_, ?_, ?_⟩
                  · have := HI.out.room; have := HT.out; simp [CS.add]; omega
                  · have := HI.out.num; have := HT.out; omega
                  · exact blk_far HRES5.out (p := ⟨gp, 0, none⟩) HGR.out _
                  · simpa [CS.add] using blk_set HPROG5.out 0 (.slice A0' (p.names ++ [n]).length c0')
                  · have := Kd.R_set HRN5.out HPROG5.out (by intro q hq; have : q ∈ [9] := hq; simp at this; omega) 0 (.slice A0' (p.names ++ [n]).length c0')
                    simpa [CS.add] using this
                  · have := Kd.R_set HRC5.out HPROG5.out (by intro q hq; have : q ∈ [45] := hq; simp at this; omega) 0 (.slice A0' (p.names ++ [n]).length c0')
                    simpa [CS.add] using this
                  · exact below_set HB5.out (by rw [HG2.out]; exact HW1.out.size)
                case measure => have := HT.out; simp only [strLen, sb_size]; simp [sb_size]; omega
        | false =>
          have HLO : Aside0 (CS.lineOf hd = (CS.insLine hd).map .ins) := ⟨by unfold CS.lineOf; rw [hpre]; rfl⟩
          clear hpre
          go_upto_region 17 with (fail)
          go_cut [13, 14] (fun v13 v14 wc => ∃ gi x, v13 = .pointer (some ⟨gi, 0, none⟩) ∧ v14 = .bool (CS.insLine hd).isSome ∧ Aside0 (∀ y, CS.insLine hd = some y → x = y) ∧ Aside0 (wc.heap[gi]? = some (.cells #[.int .i64 x.op, .int .i64 x.arg] 45 (0, 0))) ∧ Aside0 (Below (wr.drewN nn).heap.size (wr.drewN nn) wc))
          case first =>
            go_wp2_with fail
            refine (instr_any (sb hd) _ ?h1 ?h2 ?h3).mono ?_
            case h1 => rw [sb_size]; have := HI.out.room; have := HH.out; omega
            case h2 => rw [sb_size]; have := HI.out.room; have := HH.out; omega
            case h3 => exact HL.out.below (pw_below_drewN HI.out.below nn)
            rw [sb_data]
            rintro e w4 ⟨x, rfl, hx, hb4⟩
            unfold insV
            have HX := Aside0.mk hx
            have HB4 := Aside0.mk hb4
            clear hx hb4
            go_wp2
            go_meet
            case rel => exact ⟨_, x, rfl, rfl, HX, ⟨blk_new _ _⟩, ⟨below_alloc HB4.out _⟩⟩
          case rest =>
            obtain ⟨gi, x, rfl, rfl, HX, HGI, HBC⟩ := hcut
            have hres := below_blk HBC.out (blk_drewN HI.out.res nn)
            have hprog := below_blk HBC.out (blk_drewN HI.out.prog nn)
            have HRN := Aside0.mk (Kd.R_below HI.out.names ((pw_below_drewN (Below.refl _ _) nn).trans HBC.out))
            have HRC := Aside0.mk (Kd.R_below HI.out.code ((pw_below_drewN (Below.refl _ _) nn).trans HBC.out))
            have HB4 := Aside0.mk (below_then (pw_below_drewN HI.out.below nn) HI.out.below.size HBC.out)
            cases hu : CS.insLine hd with
            | none =>
              have HF : Aside0 (CS.parse s.data.toList = (CS.nil, (i : Int), 2)) := ⟨by rw [HS.out, HLO.out, hu]; rfl⟩
              clear hprog hu
              go_wp2_with (refine gate_ (.store 33 (.tmp 2) (.tmp 64)) rfl ?_; refine ev_store 33 (.tmp 2) (.tmp 64) rfl rfl rfl rfl hres rfl (by kernel_rfl) rfl rfl ?_; intro w5 hb5 hk5; have HB5 := Aside0.mk hb5; have HK5 := Aside0.mk hk5; clear hb5 hk5 hres)
              (try simp only [Exit.inBlock, Exit.then])
              refine bodyPost_ret (results_cell3 _ _ _ 2 3 4 rfl rfl HB5.out) rfl ?_
              refine ⟨none, 0, none, 0, ?_, ?_, below_keep HB4.out HK5.out (fun i h => by rw [h, HG1.out]; exact Nat.le_refl _)⟩
              · rw [HF.out]; rfl
              · rw [HF.out]; exact IsP_nil _
            | some y =>
              obtain rfl := HX.out y hu
              have HS' : Aside0 (CS.parse s.data.toList = CS.parseLines (CS.lines tl) (i + 1) (CS.add p (.ins x)) (CS.lateOf late p (.ins x))) := ⟨by rw [HS.out, HLO.out, hu]; rfl⟩
              have x0 := (blk_cell hprog 0).trans rfl
              have x1 := (blk_cell hprog 1).trans rfl
              have y0 := (blk_cell HGI.out 0).trans rfl
              have y1 := (blk_cell HGI.out 1).trans rfl
              have HRES := Aside0.mk hres
              have HPROG := Aside0.mk hprog
              clear hu hres hprog
              go_wp2_with (at_builtin; refine Kd.R_append kIns (w0 := w) w.heap.size rfl (.tmp 67) (.tmp 69) 31 45 (.agg #[.int .i64 0, .int .i64 0]) 16 rfl Tryz.underlying31 infoIns rfl (by decide) (by decide) (.slice A1 p.code.length c1) p.code x [.int .i64 x.op, .int .i64 x.arg] (fun _ => True) (fun _ => False) rfl rfl ?hp (fun _ h => h.elim) (fun _ _ => trivial) HRC.out HB4.out HB4.out.size ?hl ?go)
              case hp => exact ⟨[_], [_], rfl, rfl, rfl⟩
              case hl => have := HI.out.room; omega
              case go =>
                intro v1 w5 hrc5 hb5 hgr hat
                obtain ⟨A1', c1', rfl⟩ := Kd.R_slice hrc5
                have hprog5 := blk_grown HPROG.out hgr (Kd.R_ne HRC.out HPROG.out (by decide))
                have hres5 := blk_grown HRES.out hgr (Kd.R_ne HRC.out HRES.out (by decide))
                have hrn5 := Kd.R_over' HRN.out (Kd.R_typed HRC.out) (by intro q hq; have : q ∈ [9] := hq; simp at this; omega) hgr
                have hfr5 := blk_frozen hprog5 1
                clear x0 x1 y0 y1
                have x1 := (blk_cell hprog5 1).trans rfl
                have HRES5 := Aside0.mk hres5
                have HPROG5 := Aside0.mk hprog5
                have HRN5 := Aside0.mk hrn5
                have HRC5 := Aside0.mk hrc5
                have HB5 := Aside0.mk hb5
                clear hrn5 hb5 hgr hat hprog5 hres5 hrc5
                have HGR : Aside0 (gr ≠ gp) := ⟨by rw [HG2.out]; have := blk_lt HB1.out; omega⟩
                go_wp2
                go_roundw
                case rel =>
                  refine ⟨tl, i + 1, CS.add p (.ins x), late, A0, c0, A1', c1', rfl, rfl, by go_num, ?_⟩
                  refine ⟨HS'.out, ?_, ?_, ?_, ?_, ?_, ?_, ?_⟩
                  · have := HI.out.room; have := HT.out; simp [CS.add]; omega
                  · have := HI.out.num; have := HT.out; omega
                  · exact blk_far HRES5.out (p := ⟨gp, 1, none⟩) HGR.out _
                  · simpa [CS.add] using blk_set HPROG5.out 1 (.slice A1' (p.code ++ [x]).length c1')
                  · have := Kd.R_set HRN5.out HPROG5.out (by intro q hq; have : q ∈ [9] := hq; simp at this; omega) 1 (.slice A1' (p.code ++ [x]).length c1')
                    simpa [CS.add] using this
                  · have := Kd.R_set HRC5.out HPROG5.out (by intro q hq; have : q ∈ [45] := hq; simp at this; omega) 1 (.slice A1' (p.code ++ [x]).length c1')
                    simpa [CS.add] using this
                  · exact below_set HB5.out (by rw [HG2.out]; exact HW1.out.size)
                case measure => have := HT.out; simp only [strLen, sb_size]; simp [sb_size]; omega
end Go.Proofs.YtpapbigghiiolaaGreatDoor
