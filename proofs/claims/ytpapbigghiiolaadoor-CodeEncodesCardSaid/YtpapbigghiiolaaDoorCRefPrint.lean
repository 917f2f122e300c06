/-
  The document's Hex, Formed and Print, and code.Same: contracts over the spec.
-/
import Derived.Test.YtpapbigghiiolaaDoorCOurs
import Derived.Test.YtpapbigghiiolaaDoorCHex
import Derived.Test.YtpapbigghiiolaaDoorPA4
set_option linter.unusedVariables false
namespace Go.Proofs.YtpapbigghiiolaaDoor
open Go.RowKit Go.Proofs.YtpapbigghiiolaaDoorW.PrintWords PAll

theorem bt_dig (n : Int) (h0 : 0 ≤ n) (h1 : n < 16) : bt (⟨#[48, 49, 50, 51, 52, 53, 54, 55, 56, 57, 97, 98, 99, 100, 101, 102]⟩ : ByteArray) n = ((CS.hexd n.toNat).toNat : Int) := by
  obtain ⟨k, rfl⟩ := Int.eq_ofNat_of_zero_le h0
  have := bt_sb CS.digits k (by show k < 16; omega)
  exact this
theorem hex_loop (s : CS.Bs) (hs : s.length ≤ 1000000000) : ∀ (d i : Nat), i + d = s.length →
    Ev (fun k => reeveref17_Hex.l0 k (sb s) ((CS.hex (s.take i)).map fun b => (b.toNat : Int)) (i : Int)) (sb (CS.hex s)) := by
  intro d
  induction d with
  | zero =>
    intro i hi
    refine Ev.step (f := fun _ => some (sb (CS.hex s))) (fun k => ?_) (Ev.now _)
    simp only [reeveref17_Hex.l0, sb_size]
    rw [if_neg (by omega), nums_sb, List.take_of_length_le (by omega)]
  | succ d ih =>
    intro i hi
    have hlt : i < s.length := by omega
    obtain ⟨c, hc⟩ : ∃ c, c = s.getD i 0 := ⟨_, rfl⟩
    have hc256 := c.toNat_lt
    refine Ev.step (fun k => ?_) (ih (i + 1) (by omega))
    simp only [reeveref17_Hex.l0, sb_size, List.length_map, CS.hex_length, List.length_cons, List.length_nil, Option.bind_some]
    rw [if_pos (by omega), if_pos (by omega), bt_sb s i hlt, ← hc, and15, bt_dig _ (by omega) (by omega), bt_dig _ (by omega) (by omega)]
    rw [if_pos (by omega), if_pos (by omega), if_pos (by omega), if_pos (by omega), if_pos (by rw [List.length_take]; omega), i64_small ((i : Int) + 1) (by omega) (by omega)]
    have hg : s[i] = c := by rw [hc, List.getD_eq_getElem?_getD, List.getElem?_eq_getElem hlt]; rfl
    rw [List.take_succ_eq_append_getElem hlt, CS.hex_append, List.map_append, hg]
    congr 1
theorem RefHex_any (s : CS.Bs) (w : World) (hs : s.length ≤ 1000000000) :
    Calls Tryd.prog 35 #[.string (sb s)] w fun e w' => e = .returned (.string (sb (CS.hex s))) ∧ Below w.heap.size w w' := by
  obtain ⟨k, hk⟩ := (hex_loop s hs s.length 0 (by omega)).rounds
  exact reeveref17_Hex.calls k _ _ w hk
theorem RefWord_any (i : Int) (w : World) :
    Calls Tryd.prog 36 #[.int .i64 i] w fun e w' => e = .returned (.tuple #[.string (sb (wordOf i).1), .int .i64 (wordOf i).2]) ∧ Below w.heap.size w w' := by
  refine (reeveref17_word.calls i _ _ w (word_eq i)).mono ?_
  rintro e w' ⟨he, hd⟩
  exact ⟨he, hd.below⟩
theorem RefFormed_any (A0 A1 : Option Addr) (c0 c1 : Nat) (p : CS.Prg) (w : World) (hp : IsP w A0 c0 A1 c1 p) (h0 : p.names.length ≤ 1000000000) (h1 : p.code.length ≤ 1000000000) :
    Calls Tryd.prog 18 #[pv A0 c0 A1 c1 p] w fun e w' => e = .returned (.bool (CS.formed p)) ∧ Below w.heap.size w w' := by
  obtain ⟨k, hk⟩ := (formed_eq p h0 h1).rounds
  rw [pv_map to66]
  exact reeveref17_Formed.calls k A0 c0 _ A1 c1 _ _ w (C_str hp.1) (by rw [List.length_map]; exact hp.2.1) (C_66 hp.2.2.1) (by rw [List.length_map]; exact hp.2.2.2) hk

/-! code.Same -/
theorem eqs_loop (ns ns' : List CS.Bs) (hl : ns.length = ns'.length) (hb : ns.length ≤ 1000000000) : ∀ (d j : Nat), j + d = ns.length →
    Ev (fun k => slices_Equal_string_string.l0 k (ns.map sb) (ns'.map sb) (ns.length : Int) (j : Int)) (decide (ns.drop j = ns'.drop j)) := by
  intro d
  induction d with
  | zero =>
    intro j hj
    rw [List.drop_of_length_le (by omega), List.drop_of_length_le (by omega)]
    refine Ev.step (f := fun _ => some true) (fun k => ?_) (Ev.now _)
    simp only [slices_Equal_string_string.l0]
    rw [if_neg (by omega)]
  | succ d ih =>
    intro j hj
    have h1 : j < ns.length := by omega
    have h2 : j < ns'.length := by omega
    have hd : (ns.drop j = ns'.drop j) ↔ (ns.getD j [] = ns'.getD j [] ∧ ns.drop (j + 1) = ns'.drop (j + 1)) := by
      rw [List.drop_eq_getElem_cons h1, List.drop_eq_getElem_cons h2, List.cons.injEq, List.getD_eq_getElem?_getD, List.getD_eq_getElem?_getD, List.getElem?_eq_getElem h1, List.getElem?_eq_getElem h2]
      rfl
    have hbody : ∀ k, slices_Equal_string_string.l0 (k + 1) (ns.map sb) (ns'.map sb) (ns.length : Int) (j : Int) = if ns.getD j [] = ns'.getD j [] then slices_Equal_string_string.l0 k (ns.map sb) (ns'.map sb) (ns.length : Int) ((j + 1 : Nat) : Int) else some false := by
      intro k
      simp only [slices_Equal_string_string.l0, List.length_map]
      rw [if_pos (by omega), if_pos (by omega), if_pos (by omega), if_pos (by omega), rd_names ns j h1, rd_names ns' j h2, ByteArray.toList_eq, ByteArray.toList_eq, sb_data, sb_data, i64_small ((j : Int) + 1) (by omega) (by omega)]
      rfl
    by_cases hab : ns.getD j [] = ns'.getD j []
    · refine Ev.step (fun k => (hbody k).trans (if_pos hab)) (Ev.val (ih (j + 1) (by omega)) ?_)
      rw [Bool.eq_iff_iff]
      simp only [decide_eq_true_eq]
      rw [hd]
      exact ⟨fun h => ⟨hab, h⟩, fun h => h.2⟩
    · rw [decide_eq_false (fun h => hab (hd.1 h).1)]
      exact Ev.step (fun k => (hbody k).trans (if_neg hab)) (Ev.now _)
theorem eqi_loop (cs cs' : List CS.Ins) (hl : cs.length = cs'.length) (hb : cs.length ≤ 1000000000) : ∀ (d j : Nat), j + d = cs.length →
    Ev (fun k => code_Instr.l0 k (cs.map to57) (cs'.map to57) (cs.length : Int) (j : Int)) (decide (cs.drop j = cs'.drop j)) := by
  intro d
  induction d with
  | zero =>
    intro j hj
    rw [List.drop_of_length_le (by omega), List.drop_of_length_le (by omega)]
    refine Ev.step (f := fun _ => some true) (fun k => ?_) (Ev.now _)
    simp only [code_Instr.l0]
    rw [if_neg (by omega)]
  | succ d ih =>
    intro j hj
    have h1 : j < cs.length := by omega
    have h2 : j < cs'.length := by omega
    have hd : (cs.drop j = cs'.drop j) ↔ (cs.getD j ⟨0, 0⟩ = cs'.getD j ⟨0, 0⟩ ∧ cs.drop (j + 1) = cs'.drop (j + 1)) := by
      rw [List.drop_eq_getElem_cons h1, List.drop_eq_getElem_cons h2, List.cons.injEq, List.getD_eq_getElem?_getD, List.getD_eq_getElem?_getD, List.getElem?_eq_getElem h1, List.getElem?_eq_getElem h2]
      rfl
    have hr1 := rd57_code cs j h1
    have hr2 := rd57_code cs' j h2
    obtain ⟨a, ha⟩ : ∃ a, a = cs.getD j ⟨0, 0⟩ := ⟨_, rfl⟩
    obtain ⟨b, hb'⟩ : ∃ b, b = cs'.getD j ⟨0, 0⟩ := ⟨_, rfl⟩
    rw [← ha] at hr1 hd
    rw [← hb'] at hr2 hd
    by_cases hab : a = b
    · refine Ev.step (fun k => ?_) (Ev.val (ih (j + 1) (by omega)) ?_)
      · simp only [code_Instr.l0, List.length_map]
        rw [if_pos (by omega), if_pos (by omega), if_pos (by omega), if_pos (by omega), hr1, hr2, hab, if_neg (by simp), i64_small ((j : Int) + 1) (by omega) (by omega)]
        rfl
      · rw [Bool.eq_iff_iff]
        simp only [decide_eq_true_eq]
        rw [hd]
        exact ⟨fun h => ⟨hab, h⟩, fun h => h.2⟩
    · rw [decide_eq_false (fun h => hab (hd.1 h).1)]
      refine Ev.step (f := fun _ => some false) (fun k => ?_) (Ev.now _)
      simp only [code_Instr.l0, List.length_map]
      rw [if_pos (by omega), if_pos (by omega), if_pos (by omega), if_pos (by omega), hr1, hr2, if_pos]
      have : ¬ (a.op = b.op ∧ a.arg = b.arg) := fun h => hab (by cases a; cases b; simp only at h; rw [h.1, h.2])
      unfold to57
      simp only [Bool.or_eq_true, Bool.not_eq_true', beq_eq_false_iff_ne, ne_eq]
      by_cases e : a.op = b.op
      · exact .inr (fun e2 => this ⟨e, e2⟩)
      · exact .inl e
theorem csame_eq (p q : CS.Prg) (h0 : p.names.length ≤ 1000000000) (h1 : p.code.length ≤ 1000000000) :
    Ev (fun k => code_Same.f k (p.names.map sb) (p.code.map to57) (q.names.map sb) (q.code.map to57)) (decide (p = q)) := by
  obtain ⟨ns, cs⟩ := p
  obtain ⟨ns', cs'⟩ := q
  simp only at h0 h1
  have hd : ((⟨ns, cs⟩ : CS.Prg) = ⟨ns', cs'⟩) ↔ ns = ns' ∧ cs = cs' := by rw [CS.Prg.mk.injEq]
  have hS : Ev (fun k => slices_Equal_string_string.f k (ns.map sb) (ns'.map sb)) (decide (ns = ns')) := by
    by_cases hn : ns.length = ns'.length
    · refine Ev.congr (fun k => ?_) (eqs_loop ns ns' hn h0 ns.length 0 (by omega))
      unfold slices_Equal_string_string.f
      rw [List.length_map, List.length_map, if_pos (by omega)]
      rfl
    · rw [decide_eq_false (fun h => hn (by rw [h]))]
      refine Ev.congr (f := fun _ => some false) (fun k => ?_) (Ev.now _)
      unfold slices_Equal_string_string.f
      rw [List.length_map, List.length_map, if_neg (by omega)]
  have hI : Ev (fun k => code_Instr.f k (cs.map to57) (cs'.map to57)) (decide (cs = cs')) := by
    by_cases hn : cs.length = cs'.length
    · refine Ev.congr (fun k => ?_) (eqi_loop cs cs' hn h1 cs.length 0 (by omega))
      unfold code_Instr.f
      rw [List.length_map, List.length_map, if_pos (by omega)]
      rfl
    · rw [decide_eq_false (fun h => hn (by rw [h]))]
      refine Ev.congr (f := fun _ => some false) (fun k => ?_) (Ev.now _)
      unfold code_Instr.f
      rw [List.length_map, List.length_map, if_neg (by omega)]
  refine Ev.congr (f := fun k => (slices_Equal_string_string.f k (ns.map sb) (ns'.map sb)).bind fun t => if t = true then ((code_Instr.f k (cs.map to57) (cs'.map to57)).bind fun u => some u) else some false) (fun k => rfl) (Ev.bind hS ?_)
  by_cases hn : ns = ns'
  · rw [decide_eq_true hn]
    refine Ev.congr (fun k => if_pos rfl) (Ev.bind hI (Ev.val (Ev.now _) ?_))
    rw [Bool.eq_iff_iff]
    simp only [decide_eq_true_eq]
    rw [hd]
    exact ⟨fun h => ⟨hn, h⟩, fun h => h.2⟩
  · rw [decide_eq_false hn, decide_eq_false (fun h => hn (hd.1 h).1)]
    exact Ev.congr (fun k => if_neg (by decide)) (Ev.now _)
theorem CSame_any (A0 A1 B0 B1 : Option Addr) (c0 c1 d0 d1 : Nat) (p q : CS.Prg) (w : World) (hp : IsP w A0 c0 A1 c1 p) (hq : IsP w B0 d0 B1 d1 q) (h0 : p.names.length ≤ 1000000000) (h1 : p.code.length ≤ 1000000000) :
    Calls Tryd.prog 19 #[pv A0 c0 A1 c1 p, pv B0 d0 B1 d1 q] w fun e w' => e = .returned (.bool (decide (p = q))) ∧ Below w.heap.size w w' := by
  obtain ⟨k, hk⟩ := (csame_eq p q h0 h1).rounds
  rw [pv_map to57, pv_map to57]
  exact code_Same.calls k A0 c0 _ A1 c1 _ B0 d0 _ B1 d1 _ _ w (C_str hp.1) (by rw [List.length_map]; exact hp.2.1) (C_57 hp.2.2.1) (by rw [List.length_map]; exact hp.2.2.2) (C_str hq.1) (by rw [List.length_map]; exact hq.2.1) (C_57 hq.2.2.1) (by rw [List.length_map]; exact hq.2.2.2) hk

/-! the document's Print -/
set_option maxRecDepth 100000 in
set_option maxHeartbeats 2000000 in
theorem RefPrint_any (A0 A1 : Option Addr) (c0 c1 : Nat) (p : CS.Prg) (w : World) (h : IsP w A0 c0 A1 c1 p) (hl0 : p.names.length ≤ 1000000000) (hl1 : p.code.length ≤ 1000000000) (hwf : Wf p) (hw : Laid w) :
    Calls Tryd.prog 16 #[pv A0 c0 A1 c1 p] w fun e w' => e = .returned (.tuple #[.string (sb (CS.print p).1), .int .i64 (CS.print p).2]) ∧ Below w.heap.size w w' := by
  have H := Aside0.mk h
  have HWF := Aside0.mk hwf
  have HL := Aside0.mk hw
  clear h hwf hw
  unfold pv
  go_enter Tryd.func16, Tryd.ntmps16
  go_wp2_with (refine gate_ (.box 32 (.tmp 0)) rfl ?_; refine ev_box 32 (.tmp 0) rfl rfl (by go_simp; rfl) ?_; intro gp hg w1 hb hbel; have HBX := Aside0.mk hb; have HW1 := Aside0.mk hbel; have x0 : w1.cell? ⟨gp, 0, none⟩ = some (.slice A0 p.names.length c0) := (blk_cell hb 0).trans rfl; have x1 : w1.cell? ⟨gp, 1, none⟩ = some (.slice A1 p.code.length c1) := (blk_cell hb 1).trans rfl; clear hb hbel hg)
  refine (RefFormed_any A0 A1 c0 c1 p _ (H.out.below HW1.out) hl0 hl1).mono ?_
  rintro e w2 ⟨rfl, hb2⟩
  have HW2 := Aside0.mk (below_then HW1.out HW1.out.size hb2)
  have HB2 := Aside0.mk (below_blk hb2 HBX.out)
  clear hb2
  cases hf : CS.formed p with
  | false =>
    have HF : Aside0 (CS.print p = ([], 1)) := ⟨by unfold CS.print; rw [hf]; rfl⟩
    clear hf
    go_wp2
    go_ret2
    exact ⟨by rw [HF.out]; rfl, HW2.out⟩
  | true =>
    have HF : Aside0 (CS.print p = (CS.text p, 0)) := ⟨by unfold CS.print; rw [hf]; rfl⟩
    have hf2 := hf
    unfold CS.formed at hf2
    simp only [Bool.and_eq_true, decide_eq_true_eq] at hf2
    obtain ⟨⟨⟨hn8, hc200⟩, hkeys⟩, hins⟩ := hf2
    have HK := Aside0.mk hkeys
    have HI := Aside0.mk hins
    clear hf hkeys hins x0 x1
    have y0 : w2.cell? ⟨gp, 0, none⟩ = some (.slice A0 p.names.length c0) := (blk_cell HB2.out 0).trans rfl
    go_wp2
    go_loopw [4, 15] (fun v4 v wr => ∃ (i : Nat), v = .int .i64 (i : Int) ∧ i ≤ p.names.length ∧ v4 = .string (sb ((p.names.take i).map CS.printName).flatten) ∧ Aside0 (Below w2.heap.size w2 wr)) (fun _ v _ => p.names.length - (intOf v).toNat)
    case atStart => exact ⟨0, rfl, Nat.zero_le _, rfl, ⟨Below.refl _ _⟩⟩
    case round =>
      obtain ⟨i, rfl, hi, rfl, HWr⟩ := hrel
      clear y0
      have y0 : wr.cell? ⟨gp, 0, none⟩ = some (.slice A0 p.names.length c0) := (blk_cell (below_blk HWr.out HB2.out) 0).trans rfl
      have hfl := flat_len CS.printName 100 (p.names.take i) (fun x hx => printName_len x (List.all_eq_true.1 HK.out x (List.mem_of_mem_take hx)))
      rw [List.length_take] at hfl
      obtain ⟨S, hS⟩ : ∃ S, S = ((p.names.take i).map CS.printName).flatten := ⟨_, rfl⟩
      rw [← hS] at hfl ⊢
      have hSz : (sb S).size ≤ 1000 := by rw [sb_size]; omega
      have HS := Aside0.mk hS
      clear hS hfl
      by_cases hlt : i < p.names.length
      · have i1 : decide ((i : Int) < (p.names.length : Int)) = true := decide_eq_true (by omega)
        obtain ⟨ad, rfl, hcell⟩ := kStr_at (Kd.C_below (Kd.C_below H.out.1 HW2.out) HWr.out) i hlt
        obtain ⟨nm, hnm⟩ : ∃ nm, nm = p.names.getD i [] := ⟨_, rfl⟩
        have hkey := all_at HK.out [] i hlt
        rw [← hnm] at hcell hkey
        have HNM := Aside0.mk hnm
        have hnl : nm.length ≤ 40 := by unfold CS.key at hkey; simp only [Bool.and_eq_true, decide_eq_true_eq] at hkey; exact hkey.2
        clear hnm hkey
        go_wp2_with fail
        refine (RefHex_any nm _ (by omega)).mono ?_
        rintro e w4 ⟨rfl, hb4⟩
        have HW4 : Aside0 (Below w2.heap.size w2 w4) := ⟨below_then HWr.out HWr.out.size hb4⟩
        clear hb4
        have hhs : (sb (CS.hex nm)).size ≤ 80 := by rw [sb_size, CS.hex_length]; omega
        go_wp2
        go_roundw
        case rel =>
          refine ⟨i + 1, by go_num, hlt, ?_, HW4⟩
          rw [show (⟨#[110, 97, 109, 101, 32]⟩ : ByteArray) = sb CS.nameP from rfl, show (⟨#[10]⟩ : ByteArray) = sb [10] from rfl, sb_append, sb_append, sb_append]
          rw [take_flat CS.printName p.names [] i hlt, ← HNM.out, ← HS.out]
          simp [CS.printName]
        case measure => simp [intOf]; omega
      · have tk : decide ((i : Int) < (p.names.length : Int)) = false := decide_eq_false (by omega)
        have HSN : Aside0 (S = (p.names.map CS.printName).flatten) := ⟨by rw [HS.out, List.take_of_length_le (by omega)]⟩
        have y1 : wr.cell? ⟨gp, 1, none⟩ = some (.slice A1 p.code.length c1) := (blk_cell (below_blk HWr.out HB2.out) 1).trans rfl
        have HWN := HWr
        go_wp2
        go_loopw [4, 32] (fun v4 v wr => ∃ (j : Nat), v = .int .i64 (j : Int) ∧ j ≤ p.code.length ∧ v4 = .string (sb (S ++ ((p.code.take j).map CS.printIns).flatten)) ∧ Aside0 (Below w2.heap.size w2 wr)) (fun _ v _ => p.code.length - (intOf v).toNat)
        case atStart => exact ⟨0, rfl, Nat.zero_le _, by simp, HWN⟩
        case round =>
          obtain ⟨j, rfl, hj, rfl, HWr⟩ := hrel
          clear y0 y1
          have y1 : wr.cell? ⟨gp, 1, none⟩ = some (.slice A1 p.code.length c1) := (blk_cell (below_blk HWr.out HB2.out) 1).trans rfl
          have hfl := flat_len CS.printIns 100 (p.code.take j) (fun y hy => printIns_len y (HWF.out y (List.mem_of_mem_take hy)))
          rw [List.length_take] at hfl
          obtain ⟨L, hL⟩ : ∃ L, L = S ++ ((p.code.take j).map CS.printIns).flatten := ⟨_, rfl⟩
          rw [← hL]
          have hLz : (sb L).size ≤ 30000 := by rw [sb_size, hL, List.length_append]; rw [sb_size] at hSz; omega
          have HLL := Aside0.mk hL
          clear hL hfl
          by_cases hltj : j < p.code.length
          · have tj : decide ((j : Int) < (p.code.length : Int)) = true := decide_eq_true (by omega)
            obtain ⟨ad, rfl, hcell, hcell1⟩ := kIns_at (Kd.C_below (Kd.C_below H.out.2.2.1 HW2.out) HWr.out) j hltj
            have hok := all_at HI.out ⟨0, 0⟩ j hltj
            have har := HWF.out.at j hltj
            obtain ⟨x, hx⟩ : ∃ x, x = p.code.getD j ⟨0, 0⟩ := ⟨_, rfl⟩
            rw [← hx] at hcell hcell1 hok har
            have HX := Aside0.mk hx
            have HAR := Aside0.mk har
            clear hx har
            obtain ⟨wd, kd, hop⟩ : ∃ wd kd, CS.opOf x.op = some (wd, kd) := by
              unfold CS.insOk at hok
              cases ho : CS.opOf x.op with
              | none => rw [ho] at hok; cases hok
              | some q => exact ⟨q.1, q.2, rfl⟩
            have HR : Aside0 (wordOf x.op = (wd, kd)) := ⟨by unfold wordOf; rw [hop]; rfl⟩
            have hwz : (sb wd).size ≤ 8 := by rw [sb_size]; exact opOf_len x.op wd kd hop
            have hk0 : 0 ≤ kd := (opOf_kind x.op wd kd hop).1
            have HPI : Aside0 (CS.printIns x = wd ++ (if kd = 0 then [] else 32 :: Lib.itoa x.arg) ++ [10]) := ⟨by unfold CS.printIns; rw [hop]⟩
            have HC1 := Aside0.mk hcell1
            clear hok hop
            go_wp2_with fail
            refine (RefWord_any _ _).mono ?_
            rw [HR.out]
            rintro e w4 ⟨rfl, hb4⟩
            have HW4 : Aside0 (Below w2.heap.size w2 w4) := ⟨below_then HWr.out HWr.out.size hb4⟩
            have z1 := pw_cell_below hb4 hcell1
            have y2 := pw_cell_below hb4 y1
            clear hb4 hcell hcell1 y1
            by_cases hkd : kd = 0
            · have u0 : decide ((0 : Int) < kd) = false := decide_eq_false (by omega)
              have HNEXT : Aside0 (CS.printIns x = wd ++ [10]) := ⟨by rw [HPI.out, if_pos hkd]; simp⟩
              clear hkd hk0 z1 y2
              go_wp2
              go_roundw
              case rel =>
                refine ⟨j + 1, by go_num, hltj, ?_, HW4⟩
                rw [show (⟨#[10]⟩ : ByteArray) = sb [10] from rfl, sb_append, sb_append, take_flat CS.printIns p.code ⟨0, 0⟩ j hltj, ← HX.out, HNEXT.out, HLL.out]
                simp
              case measure => simp [intOf]; omega
            · have u0 : decide ((0 : Int) < kd) = true := decide_eq_true (by omega)
              have HNEXT : Aside0 (CS.printIns x = wd ++ 32 :: Lib.itoa x.arg ++ [10]) := ⟨by rw [HPI.out, if_neg hkd]⟩
              clear hkd hk0
              go_wp2_with fail
              refine (FormatInt_any x.arg HAR.out.1 HAR.out.2 _ ?cl).mono ?_
              case cl => exact (HL.out.below HW2.out).below HW4.out
              rintro e w6 ⟨rfl, hb6⟩
              have HW6 : Aside0 (Below w2.heap.size w2 w6) := ⟨below_then HW4.out HW4.out.size hb6⟩
              have hil : (sb (Lib.itoa x.arg)).size ≤ 21 := by rw [sb_size]; exact itoa_len x.arg HAR.out.1 HAR.out.2
              clear hb6 z1 y2
              go_wp2
              go_roundw
              case rel =>
                refine ⟨j + 1, by go_num, hltj, ?_, HW6⟩
                rw [show (⟨#[10]⟩ : ByteArray) = sb [10] from rfl, show (⟨#[32]⟩ : ByteArray) = sb [32] from rfl, sb_append, sb_append, sb_append, sb_append, take_flat CS.printIns p.code ⟨0, 0⟩ j hltj, ← HX.out, HNEXT.out, HLL.out]
                simp
              case measure => simp [intOf]; omega
          · have tj : decide ((j : Int) < (p.code.length : Int)) = false := decide_eq_false (by omega)
            have HT : Aside0 (L = CS.text p) := ⟨by rw [HLL.out, List.take_of_length_le (by omega), HSN.out]; rfl⟩
            clear y1
            go_wp2
            go_ret2
            exact ⟨by rw [HF.out, HT.out]; rfl, below_then HW2.out HW2.out.size HWr.out⟩
end Go.Proofs.YtpapbigghiiolaaDoor
