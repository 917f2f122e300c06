/-
  code.Encode.
  What a decoding of a program holds while it goes on (the program's and the document's alike).
  code.Decode.
-/
import Derived.Test.YtpapbigghiiolaaGreatDoorCCodec
import Derived.Test.YtpapbigghiiolaaGreatDoorCHex
import Derived.Test.YtpapbigghiiolaaGreatDoorCParse
import Derived.Deep.RegionLaw
set_option linter.unusedVariables false
namespace Go.Proofs.YtpapbigghiiolaaGreatDoor
open Go.RowKit Go.Proofs.YtpapbigghiiolaaGreatDoorW.PrintWords

namespace CS
def encIns (i : Ins) : Bs := encNum i.op.toNat ++ encInt i.arg
theorem nbytes_pos (n : Nat) : 1 ≤ nbytes n := by rw [nbytes]; split <;> omega
theorem encText_len (s : Bs) (h : s.length ≤ 1000000000) : (encText s).length ≤ 9 + s.length := by
  unfold encText
  rw [List.length_append]
  have := encNum_len s.length (by omega)
  omega
theorem zig_lt (n : Int) (h0 : -9223372036854775808 ≤ n) (h1 : n ≤ 9223372036854775807) : zig n < 18446744073709551616 := by
  unfold zig
  split <;> omega
theorem encIns_len (i : Ins) (h : i.op.toNat < 18446744073709551616) (h0 : -9223372036854775808 ≤ i.arg) (h1 : i.arg ≤ 9223372036854775807) : (encIns i).length ≤ 18 := by
  unfold encIns encInt
  rw [List.length_append]
  have := encNum_len i.op.toNat h
  have := encNum_len (zig i.arg) (zig_lt i.arg h0 h1)
  omega
def encHead (p : Prg) : Bs := encNum p.names.length ++ (p.names.map encText).flatten
theorem encode_eq (p : Prg) (h : formed p = true) : encode p = (encHead p ++ encNum p.code.length ++ (p.code.map encIns).flatten, 0) := by
  unfold encode encHead
  rw [if_pos h]
  rfl
end CS
theorem opOf_op (i : Int) (w : CS.Bs) (k : Int) (h : CS.opOf i = some (w, k)) : 0 ≤ i ∧ i < 24 := by
  unfold CS.opOf at h
  split at h
  · rename_i h0
    refine ⟨h0, ?_⟩
    obtain ⟨hl, _⟩ := List.getElem?_eq_some_iff.1 h
    have : i.toNat < 24 := hl
    omega
  · cases h
theorem insOk_op {p : CS.Prg} {x : CS.Ins} (h : CS.insOk p x = true) : 0 ≤ x.op ∧ x.op < 24 := by
  unfold CS.insOk at h
  cases ho : CS.opOf x.op with
  | none => rw [ho] at h; cases h
  | some q => exact opOf_op x.op q.1 q.2 ho
theorem wpost_w {B g : Nat} {l2 : CS.Bs} {w w1 w2 : World} (h : WPost B g l2 w1 w2) (hb : Below B w w1) : IsW B g l2 w2 ∧ Below B w w2 := ⟨h.1, hb.trans h.2.1⟩

set_option maxRecDepth 100000 in
set_option maxHeartbeats 2000000 in
theorem Encode_any (A0 A1 : Option Addr) (c0 c1 : Nat) (p : CS.Prg) (w : World) (h : IsP w A0 c0 A1 c1 p) (hl0 : p.names.length ≤ 140737488355328) (hl1 : p.code.length ≤ 140737488355328) (hwf : Wf p) :
    Calls Tryz.prog 8 #[pv A0 c0 A1 c1 p] w fun e w' => ∃ v, e = .returned (.tuple #[v, .int .i64 (CS.encode p).2]) ∧ w'.ownsRow w.heap.size 5 1 v (CS.encode p).1.length (Lib.byteCells (CS.encode p).1) ∧ Below w.heap.size w w' := by
  have H := Aside0.mk h
  have HWF := Aside0.mk hwf
  clear h hwf
  unfold pv
  go_enter Tryz.func8, Tryz.ntmps8
  go_wp2_with (refine gate_ (.box 33 (.tmp 0)) rfl ?_; refine ev_box 33 (.tmp 0) rfl rfl (by go_simp; rfl) ?_; intro gp hg w1 hb hbel; have HBX := Aside0.mk hb; have HW1 := Aside0.mk hbel; have HGP := Aside0.mk hg; have x0 : w1.cell? ⟨gp, 0, none⟩ = some (.slice A0 p.names.length c0) := (blk_cell hb 0).trans rfl; have x1 : w1.cell? ⟨gp, 1, none⟩ = some (.slice A1 p.code.length c1) := (blk_cell hb 1).trans rfl; clear hb hbel hg)
  refine (Formed_any A0 A1 c0 c1 p _ (H.out.below HW1.out) hl0 hl1).mono ?_
  rintro e w2 ⟨rfl, hb2⟩
  have HW2 := Aside0.mk (below_then HW1.out HW1.out.size hb2)
  have HB2 := Aside0.mk (below_blk hb2 HBX.out)
  clear hb2
  cases hf : CS.formed p with
  | false =>
    have HF : Aside0 (CS.encode p = ([], 1)) := ⟨by unfold CS.encode; rw [hf]; rfl⟩
    clear hf
    go_wp2
    go_ret2
    exact ⟨_, by rw [HF.out]; rfl, by rw [HF.out]; exact World.ownsRow_nil _ _ _ _, HW2.out⟩
  | true =>
    have HF : Aside0 (CS.encode p = (CS.encHead p ++ CS.encNum p.code.length ++ (p.code.map CS.encIns).flatten, 0)) := ⟨CS.encode_eq p hf⟩
    have hf2 := hf
    unfold CS.formed at hf2
    simp only [Bool.and_eq_true, decide_eq_true_eq] at hf2
    obtain ⟨⟨⟨hn8, hc200⟩, hkeys⟩, hins⟩ := hf2
    have HK := Aside0.mk hkeys
    have HI := Aside0.mk hins
    clear hf hkeys hins x0 x1
    go_wp2_with fail
    refine (NewWriter_any _).mono ?_
    rintro e w3 ⟨g, rfl, hg, hw3, hb3⟩
    obtain ⟨B, hB⟩ : ∃ B, B = w2.heap.size := ⟨_, rfl⟩
    rw [← hB] at hg hw3 hb3
    have y0 : w3.cell? ⟨gp, 0, none⟩ = some (.slice A0 p.names.length c0) := (blk_cell (below_blk (hB ▸ hb3) HB2.out) 0).trans rfl
    have HG := Aside0.mk hg
    have HB := Aside0.mk hB
    have HI3 := Aside0.mk hw3
    have HB3 := Aside0.mk hb3
    clear hg hB hw3 hb3
    go_wp2_with fail
    refine (WNumber_any B g [] p.names.length _ HI3.out ?c1 (by simp) (by omega)).mono ?_
    case c1 => have := HB3.out.size; have := HB.out; omega
    rintro e w4 ⟨rfl, hp4⟩
    obtain ⟨hi4, hb4⟩ := wpost_w hp4 HB3.out
    rw [List.nil_append] at hi4
    have z0 : w4.cell? ⟨gp, 0, none⟩ = some (.slice A0 p.names.length c0) := (blk_cell (below_blk (HB.out ▸ hb4) HB2.out) 0).trans rfl
    have HI4 := Aside0.mk hi4
    have HB4 := Aside0.mk hb4
    clear hp4 hi4 hb4 y0
    go_wp2
    go_loopw [22] (fun v wr => ∃ (i : Nat), v = .int .i64 (i : Int) ∧ i ≤ p.names.length ∧ Aside0 (IsW B g (CS.encNum p.names.length ++ ((p.names.take i).map CS.encText).flatten) wr) ∧ Aside0 (Below B w2 wr)) (fun v _ => p.names.length - (intOf v).toNat)
    case atStart => exact ⟨0, rfl, Nat.zero_le _, ⟨by simpa using HI4.out⟩, HB4⟩
    case round =>
      obtain ⟨i, rfl, hi, HBu, HWr⟩ := hrel
      by_cases hlt : i < p.names.length
      · have i1 : decide ((i : Int) < (p.names.length : Int)) = true := decide_eq_true (by omega)
        obtain ⟨ad, rfl, hcell⟩ := kStr_at (Kd.C_below (Kd.C_below H.out.1 HW2.out) (HB.out ▸ HWr.out)) i hlt
        obtain ⟨nm, hnm⟩ : ∃ nm, nm = p.names.getD i [] := ⟨_, rfl⟩
        have hkey := all_at HK.out [] i hlt
        rw [← hnm] at hcell hkey
        have HNM := Aside0.mk hnm
        have hnl : nm.length ≤ 40 := by unfold CS.key at hkey; simp only [Bool.and_eq_true, decide_eq_true_eq] at hkey; exact hkey.2
        have HFL : Aside0 ((CS.encNum p.names.length ++ ((p.names.take i).map CS.encText).flatten).length ≤ 1000) := ⟨by
          have h1 := CS.encNum_len p.names.length (by omega)
          have h2 := flat_len CS.encText 49 (p.names.take i) (fun x hx => by
            have hk := List.all_eq_true.1 HK.out x (List.mem_of_mem_take hx)
            unfold CS.key at hk
            simp only [Bool.and_eq_true, decide_eq_true_eq] at hk
            have := CS.encText_len x (by omega)
            omega)
          rw [List.length_append]
          rw [List.length_take] at h2
          omega⟩
        clear hnm hkey
        go_wp2_with fail
        refine (WText_any B g _ (sb nm) _ HBu.out ?c1 ?c2 ?c3).mono ?_
        case c1 => have := HWr.out.size; have := HB.out; omega
        case c2 => have := HFL.out; omega
        case c3 => rw [sb_size]; omega
        rintro e w5 ⟨rfl, hp5⟩
        rw [sb_data] at hp5
        obtain ⟨hi5, hb5⟩ := wpost_w hp5 HWr.out
        rw [List.append_assoc, HNM.out, ← take_flat CS.encText p.names [] i hlt] at hi5
        have HI5 := Aside0.mk hi5
        have HB5 := Aside0.mk hb5
        clear hp5 hi5 hb5
        go_wp2
        go_roundw
        case rel => exact ⟨i + 1, by go_num, hlt, HI5, HB5⟩
        case measure => simp [intOf]; omega
      · have tk : decide ((i : Int) < (p.names.length : Int)) = false := decide_eq_false (by omega)
        have HBN : Aside0 (IsW B g (CS.encHead p) wr) := ⟨by unfold CS.encHead; have := HBu.out; rwa [List.take_of_length_le (by omega)] at this⟩
        have HLH : Aside0 ((CS.encHead p).length ≤ 1000) := ⟨by
          unfold CS.encHead
          have h1 := CS.encNum_len p.names.length (by omega)
          have h2 := flat_len CS.encText 49 p.names (fun x hx => by
            have hk := List.all_eq_true.1 HK.out x hx
            unfold CS.key at hk
            simp only [Bool.and_eq_true, decide_eq_true_eq] at hk
            have := CS.encText_len x (by omega)
            omega)
          rw [List.length_append]
          omega⟩
        have y1 : wr.cell? ⟨gp, 1, none⟩ = some (.slice A1 p.code.length c1) := (blk_cell (below_blk (HB.out ▸ HWr.out) HB2.out) 1).trans rfl
        go_wp2_with fail
        refine (WNumber_any B g _ p.code.length _ HBN.out ?c1 ?c2 (by omega)).mono ?_
        case c1 => have := HWr.out.size; have := HB.out; omega
        case c2 => have := HLH.out; omega
        rintro e w6 ⟨rfl, hp6⟩
        obtain ⟨hi6, hb6⟩ := wpost_w hp6 HWr.out
        have z1 : w6.cell? ⟨gp, 1, none⟩ = some (.slice A1 p.code.length c1) := (blk_cell (below_blk (HB.out ▸ hb6) HB2.out) 1).trans rfl
        have HI6 := Aside0.mk hi6
        have HB6 := Aside0.mk hb6
        obtain ⟨L0, hL0⟩ : ∃ L0, L0 = CS.encHead p ++ CS.encNum p.code.length := ⟨_, rfl⟩
        rw [← hL0] at HI6
        have HLL : Aside0 (L0.length ≤ 1100) := ⟨by rw [hL0, List.length_append]; have := CS.encNum_len p.code.length (by omega); have := HLH.out; omega⟩
        have HL0 := Aside0.mk hL0
        clear hp6 hi6 hb6 y1 hL0
        go_wp2
        go_loopw [39] (fun v wr => ∃ (j : Nat), v = .int .i64 (j : Int) ∧ j ≤ p.code.length ∧ Aside0 (IsW B g (L0 ++ ((p.code.take j).map CS.encIns).flatten) wr) ∧ Aside0 (Below B w2 wr)) (fun v _ => p.code.length - (intOf v).toNat)
        case atStart => exact ⟨0, rfl, Nat.zero_le _, ⟨by simpa using HI6.out⟩, HB6⟩
        case round =>
          obtain ⟨j, rfl, hj, HBj, HWj⟩ := hrel
          by_cases hltj : j < p.code.length
          · have tj : decide ((j : Int) < (p.code.length : Int)) = true := decide_eq_true (by omega)
            obtain ⟨ad, rfl, hcell, hcell1⟩ := kIns_at (Kd.C_below (Kd.C_below H.out.2.2.1 HW2.out) (HB.out ▸ HWj.out)) j hltj
            have hok := all_at HI.out ⟨0, 0⟩ j hltj
            have har := HWF.out.at j hltj
            obtain ⟨x, hx⟩ : ∃ x, x = p.code.getD j ⟨0, 0⟩ := ⟨_, rfl⟩
            rw [← hx] at hcell hcell1 hok har
            obtain ⟨xo, xa⟩ := x
            obtain ⟨ho0, ho1⟩ := insOk_op hok
            simp only at hcell hcell1 har ho0 ho1
            obtain ⟨o, rfl⟩ := Int.eq_ofNat_of_zero_le ho0
            have ho24 : o < 24 := by omega
            have HX := Aside0.mk hx
            have HAR := Aside0.mk har
            have HFL : Aside0 ((L0 ++ ((p.code.take j).map CS.encIns).flatten).length ≤ 5000) := ⟨by
              have h2 := flat_len CS.encIns 18 (p.code.take j) (fun y hy => by
                have hm := List.mem_of_mem_take hy
                have hr := HWF.out y hm
                obtain ⟨h1, h3⟩ := insOk_op (List.all_eq_true.1 HI.out y hm)
                exact CS.encIns_len y (by omega) hr.1 hr.2)
              have h1 := HLL.out
              rw [List.length_append]
              rw [List.length_take] at h2
              omega⟩
            have hsz : B ≤ wr.heap.size := by have := HWj.out.size; have := HB.out; omega
            have hgw : g ≠ wr.heap.size := by have := blk_lt (HBj.out.2.choose_spec.1); omega
            have HSZ := Aside0.mk hsz
            have HGW := Aside0.mk hgw
            clear hx har hok ho0 ho1 hsz hgw
            have hou : (o : Int) % 18446744073709551616 = (o : Int) := by omega
            go_wp2_with fail
            refine (WNumber_any B g _ o _ (HBj.out.below (below_alloc (Below.refl _ _) _)) ?c1 ?c2 (by omega)).mono ?_
            case c1 => have := HSZ.out; simp; omega
            case c2 => have := HFL.out; omega
            rintro e w7 ⟨rfl, hp7⟩
            have hn7 := hp7.2.2 _ _ (blk_new wr _) (fun e => HGW.out (Option.some.inj e).symm) (fun c fz e => by cases e)
            obtain ⟨hi7, hb7⟩ := wpost_w hp7 (HWj.out.alloc HSZ.out _)
            have q0 := (blk_cell hn7 0).trans rfl
            have q1 := (blk_cell hn7 1).trans rfl
            have HI7 := Aside0.mk hi7
            have HB7 := Aside0.mk hb7
            clear hp7 hi7 hb7 hn7
            go_wp2_with fail
            refine (WInt_any B g _ xa _ HI7.out ?c1 ?c2 HAR.out.1 HAR.out.2).mono ?_
            case c1 => have := HB7.out.size; have := HB.out; omega
            case c2 => rw [List.length_append]; have := HFL.out; have := CS.encNum_len o (by omega); omega
            rintro e w8 ⟨rfl, hp8⟩
            obtain ⟨hi8, hb8⟩ := wpost_w hp8 HB7.out
            have he : L0 ++ ((p.code.take j).map CS.encIns).flatten ++ CS.encNum o ++ CS.encInt xa = L0 ++ ((p.code.take (j + 1)).map CS.encIns).flatten := by
              rw [take_flat CS.encIns p.code ⟨0, 0⟩ j hltj, ← HX.out]
              simp [CS.encIns]
            rw [he] at hi8
            have HI8 := Aside0.mk hi8
            have HB8 := Aside0.mk hb8
            clear hp8 hi8 hb8 he q0 q1
            go_wp2
            go_roundw
            case rel => exact ⟨j + 1, by go_num, hltj, HI8, HB8⟩
            case measure => simp [intOf]; omega
          · have tj : decide ((j : Int) < (p.code.length : Int)) = false := decide_eq_false (by omega)
            have HBT : Aside0 (IsW B g (CS.encode p).1 wr) := ⟨by
              rw [HF.out, ← HL0.out]
              have := HBj.out
              rwa [List.take_of_length_le (by omega)] at this⟩
            go_wp2_with fail
            refine (WBytes_any B g _ _ HBT.out ?c1 ?c2).mono ?_
            case c1 => have := HWj.out.size; have := HB.out; omega
            case c2 =>
              have h2 := flat_len CS.encIns 18 p.code (fun y hy => by
                have hr := HWF.out y hy
                obtain ⟨h1, h3⟩ := insOk_op (List.all_eq_true.1 HI.out y hy)
                exact CS.encIns_len y (by omega) hr.1 hr.2)
              have h1 := HLL.out
              rw [HF.out, ← HL0.out, List.length_append]
              omega
            rintro e w7 ⟨v, rfl, ho7, hb7⟩
            have HO7 := Aside0.mk ho7
            have HB7 := Aside0.mk hb7
            clear ho7 hb7
            go_wp2
            go_ret2
            have hww : Below w.heap.size w wr := below_then HW2.out HW2.out.size (HB.out ▸ HWj.out)
            exact ⟨v, by rw [HF.out]; rfl, own_weaken HO7.out hww.size, below_then hww hww.size HB7.out⟩
end Go.Proofs.YtpapbigghiiolaaGreatDoor

set_option linter.unusedVariables false
namespace Go.Proofs.YtpapbigghiiolaaGreatDoor
open Go.RowKit Go.Proofs.YtpapbigghiiolaaGreatDoorW.PrintWords

structure DI (TP TI TR : TypeId) (okb : Nat → Prop) (w wr : World) (gr gp g : Nat) (r : CS.Rd) (ns : List CS.Bs) (cs : List CS.Ins) (A0 : Option Addr) (c0 : Nat) (A1 : Option Addr) (c1 : Nat) : Prop where
  res : wr.heap[gr]? = some (.cells #[.slice none 0 0, .slice none 0 0] TP (0, 0))
  prog : wr.heap[gp]? = some (.cells #[.slice A0 ns.length c0, .slice A1 cs.length c1] TP (0, 0))
  names : kStr.R 9 wr w.heap.size (fun _ => True) (.slice A0 ns.length c0) ns
  code : kIns.R TI wr w.heap.size (fun _ => True) (.slice A1 cs.length c1) cs
  rd : IsR TR okb g r wr
  okl : ∀ k, okb k → k < w.heap.size ∨ ∃ c fz, wr.heap[k]? = some (.cells c 5 fz)
  geg : w.heap.size ≤ g
  gep : w.heap.size ≤ gp
  ger : w.heap.size ≤ gr
  rp : gr ≠ gp
  below : Below w.heap.size w wr
/-- the types of its blocks -/
structure DT (TP TI TR : TypeId) : Prop where
  rp : TR ≠ TP
  rs : TR ≠ 9
  ri : TR ≠ TI
  rb : TR ≠ 5
  ps : TP ≠ 9
  pi : TP ≠ TI
  si : 9 ≠ TI
  sb : 9 ≠ 5
  ib : TI ≠ 5
  pb : TP ≠ 5

theorem IsR.blk {T : TypeId} {ok : Nat → Prop} {g : Nat} {r : CS.Rd} {w : World} (h : IsR T ok g r w) : ∃ cs, w.heap[g]? = some (.cells cs T (0, 0)) := by
  obtain ⟨A, c, h1, _⟩ := h
  exact ⟨_, h1⟩
theorem IsR.drew {T : TypeId} {ok : Nat → Prop} {g : Nat} {r : CS.Rd} {w : World} (h : IsR T ok g r w) : IsR T ok g r w.drew := by
  obtain ⟨A, c, h1, h2, h3, h4⟩ := h
  exact ⟨A, c, blk_drew h1, h2, Kd.F_drew h3, h4⟩
theorem keep_other {g k t t' : Nat} {w w' : World} {cs cs' : Array Value} (hk : Keep (· = g) w w') (hg : w.heap[g]? = some (.cells cs t (0, 0))) (hb : w.heap[k]? = some (.cells cs' t' (0, 0))) (hne : t ≠ t') : w'.heap[k]? = some (.cells cs' t' (0, 0)) := hk.blk hb (fun e => (blk_ne hg hb hne) e.symm)

section
variable {TP TI TR : TypeId} {okb : Nat → Prop} {w wr w' : World} {gr gp g : Nat} {r r' : CS.Rd} {ns : List CS.Bs} {cs : List CS.Ins} {A0 A1 : Option Addr} {c0 c1 : Nat}
theorem DI.drew (h : DI TP TI TR okb w wr gr gp g r ns cs A0 c0 A1 c1) : DI TP TI TR okb w wr.drew gr gp g r ns cs A0 c0 A1 c1 :=
  ⟨blk_drew h.res, blk_drew h.prog, Kd.R_drew h.names, Kd.R_drew h.code, h.rd.drew, fun k hk => (h.okl k hk).imp id (fun ⟨c, fz, hb⟩ => ⟨c, fz, blk_drew hb⟩), h.geg, h.gep, h.ger, h.rp, below_drew1 h.below⟩
theorem DI.step (ht : DT TP TI TR) (h : DI TP TI TR okb w wr gr gp g r ns cs A0 c0 A1 c1) (hk : Keep (· = g) wr w') (hr : IsR TR okb g r' w') : DI TP TI TR okb w w' gr gp g r' ns cs A0 c0 A1 c1 := by
  obtain ⟨cg, hg⟩ := h.rd.blk
  refine ⟨keep_other hk hg h.res ht.rp, keep_other hk hg h.prog ht.rp, R_keep1 h.names hg (fun q hq => by rw [E_str hq]; exact ht.rs.symm) hk, R_keep1 h.code hg (fun q hq => by have : q ∈ [TI] := hq; simp at this; rw [this]; exact ht.ri.symm) hk, hr, fun k hok => ?_, h.geg, h.gep, h.ger, h.rp, ?_⟩
  · rcases h.okl k hok with hlt | ⟨c, fz, hb⟩
    · exact .inl hlt
    · exact .inr ⟨c, fz, hk.blk hb (fun e => by subst e; rw [hg] at hb; injection hb with hb; injection hb with _ h2 _; exact ht.rb h2)⟩
  · exact below_keep h.below hk (fun i hi => by rw [hi]; exact h.geg)
theorem IsR.move {T : TypeId} {ok : Nat → Prop} {w1 w2 : World} (h : IsR T ok g r w1) (hm : ∀ k, (k = g ∨ ok k) → k < w1.heap.size → w2.heap[k]? = w1.heap[k]?) : IsR T ok g r w2 := by
  obtain ⟨A, c, h1, h2, h3, h4⟩ := h
  exact ⟨A, c, (hm g (.inl rfl) (blk_lt h1)).trans h1, h2, Kd.F_step h3 (fun k hk hlt => hm k (.inr hk) hlt), h4⟩
/-- behind an append to a row of type e, a store into the program's cell j: what was neither is as it was -/
theorem DI.other (ht : DT TP TI TR) (h : DI TP TI TR okb w wr gr gp g r ns cs A0 c0 A1 c1) {w5 : World} {v u : Value} {e j : Nat} (hg5 : wr.grownBy w5 v.ownBlock) (hty : ∀ k, v.ownBlock = some k → w.heap.size ≤ k ∧ ∃ cells, wr.heap[k]? = some (.cells cells e (0, 0))) (he1 : e ≠ TR) (he2 : e ≠ 5) :
    ∀ k, (k = g ∨ okb k) → k < wr.heap.size → (w5.setCell ⟨gp, j, none⟩ u).heap[k]? = wr.heap[k]? := by
  intro k hk hlt
  obtain ⟨cg, hg⟩ := h.rd.blk
  have hne : k ≠ gp := by
    rcases hk with rfl | hk
    · exact blk_ne hg h.prog ht.rp
    · rcases h.okl k hk with hl | ⟨c, fz, hb⟩
      · have := h.gep; omega
      · intro he; subst he; rw [h.prog] at hb; injection hb with hb; injection hb with _ h2 _; exact ht.pb h2
  rw [Below.heap_setCell _ ⟨gp, j, none⟩ u k hne]
  refine hg5.block k hlt (fun e' => ?_)
  obtain ⟨hb0, cells, hc⟩ := hty k e'.symm
  rcases hk with rfl | hk
  · rw [hg] at hc; injection hc with hc; injection hc with _ h2 _; exact he1 h2.symm
  · rcases h.okl k hk with hl | ⟨c, fz, hb⟩
    · omega
    · rw [hc] at hb; injection hb with hb; injection hb with _ h2 _; exact he2 h2
theorem rd_rest (h : DI TP TI TR okb w wr gr gp g r ns cs A0 c0 A1 c1) {w2 : World} (hm : ∀ k, (k = g ∨ okb k) → k < wr.heap.size → w2.heap[k]? = wr.heap[k]?) : IsR TR okb g r w2 ∧ ∀ k, okb k → k < w.heap.size ∨ ∃ c fz, w2.heap[k]? = some (.cells c 5 fz) :=
  ⟨h.rd.move hm, fun k hk => (h.okl k hk).imp id (fun ⟨c, fz, hb⟩ => ⟨c, fz, (hm k (.inr hk) (blk_lt hb)).trans hb⟩)⟩
theorem row_typed {α : Type} {d : Kd α} {e base : Nat} {ok : Nat → Prop} {v : Value} {xs : List α} (h : d.R e wr base ok v xs) : ∀ k, v.ownBlock = some k → base ≤ k ∧ ∃ cells, wr.heap[k]? = some (.cells cells e (0, 0)) := by
  intro k hk
  obtain ⟨inner, ho⟩ := Kd.R_own h
  exact ⟨own_base ho k hk, Kd.R_typed h k hk⟩
theorem E_ti {TI q : Nat} (hq : q ∈ TI :: kIns.E) : q = TI := by have : q ∈ [TI] := hq; simpa using this
theorem DI.add_name (ht : DT TP TI TR) (h : DI TP TI TR okb w wr gr gp g r ns cs A0 c0 A1 c1) {w5 : World} {A0' : Option Addr} {c0' : Nat} {n : CS.Bs} (hR : kStr.R 9 w5 w.heap.size (fun _ => True) (.slice A0' (ns ++ [n]).length c0') (ns ++ [n])) (hg5 : wr.grownBy w5 (Value.slice A0 ns.length c0).ownBlock) (hb5 : Below w.heap.size w w5) :
    DI TP TI TR okb w (w5.setCell ⟨gp, 0, none⟩ (.slice A0' (ns ++ [n]).length c0')) gr gp g r (ns ++ [n]) cs A0' c0' A1 c1 := by
  have hp5 := blk_grown h.prog hg5 (Kd.R_ne h.names h.prog ht.ps.symm)
  have hm := h.other ht (u := .slice A0' (ns ++ [n]).length c0') (j := 0) hg5 (row_typed h.names) ht.rs.symm ht.sb
  obtain ⟨h1, h2⟩ := rd_rest h hm
  refine ⟨blk_far (blk_grown h.res hg5 (Kd.R_ne h.names h.res ht.ps.symm)) (p := ⟨gp, 0, none⟩) h.rp _, by simpa using blk_set hp5 0 (.slice A0' (ns ++ [n]).length c0'), Kd.R_set hR hp5 (fun q hq => by rw [E_str hq]; exact ht.ps.symm) 0 _, Kd.R_set (Kd.R_over' h.code (Kd.R_typed h.names) (fun q hq => by rw [E_ti hq]; exact ht.si.symm) hg5) hp5 (fun q hq => by rw [E_ti hq]; exact ht.pi.symm) 0 _, h1, h2, h.geg, h.gep, h.ger, h.rp, below_set hb5 h.gep⟩
theorem DI.add_ins (ht : DT TP TI TR) (h : DI TP TI TR okb w wr gr gp g r ns cs A0 c0 A1 c1) {w5 : World} {A1' : Option Addr} {c1' : Nat} {x : CS.Ins} (hR : kIns.R TI w5 w.heap.size (fun _ => True) (.slice A1' (cs ++ [x]).length c1') (cs ++ [x])) (hg5 : wr.grownBy w5 (Value.slice A1 cs.length c1).ownBlock) (hb5 : Below w.heap.size w w5) :
    DI TP TI TR okb w (w5.setCell ⟨gp, 1, none⟩ (.slice A1' (cs ++ [x]).length c1')) gr gp g r ns (cs ++ [x]) A0 c0 A1' c1' := by
  have hp5 := blk_grown h.prog hg5 (Kd.R_ne h.code h.prog ht.pi.symm)
  have hm := h.other ht (u := .slice A1' (cs ++ [x]).length c1') (j := 1) hg5 (row_typed h.code) ht.ri.symm ht.ib
  obtain ⟨h1, h2⟩ := rd_rest h hm
  refine ⟨blk_far (blk_grown h.res hg5 (Kd.R_ne h.code h.res ht.pi.symm)) (p := ⟨gp, 1, none⟩) h.rp _, by simpa using blk_set hp5 1 (.slice A1' (cs ++ [x]).length c1'), Kd.R_set (Kd.R_over' h.names (Kd.R_typed h.code) (fun q hq => by rw [E_str hq]; exact ht.si) hg5) hp5 (fun q hq => by rw [E_str hq]; exact ht.ps.symm) 1 _, Kd.R_set hR hp5 (fun q hq => by rw [E_ti hq]; exact ht.pi.symm) 1 _, h1, h2, h.geg, h.gep, h.ger, h.rp, below_set hb5 h.gep⟩
theorem DI.isP (h : DI TP TI TR okb w wr gr gp g r ns cs A0 c0 A1 c1) : IsP wr A0 c0 A1 c1 ⟨ns, cs⟩ := IsP_of_R (p := ⟨ns, cs⟩) h.names h.code
/-- the store of the result: it reads as before -/
theorem DI.stored (ht : DT TP TI TR) (h : DI TP TI TR okb w wr gr gp g r ns cs A0 c0 A1 c1) {w5 : World} (hk : Keep (· = gr) wr w5) : IsP w5 A0 c0 A1 c1 ⟨ns, cs⟩ ∧ Below w.heap.size w w5 :=
  ⟨IsP_of_R (p := ⟨ns, cs⟩) (R_keep1 h.names h.res (fun q hq => by rw [E_str hq]; exact ht.ps.symm) hk) (R_keep1 h.code h.res (fun q hq => by rw [E_ti hq]; exact ht.pi.symm) hk), below_keep h.below hk (fun i hi => by rw [hi]; exact h.ger)⟩
theorem DI.keep_below (h : DI TP TI TR okb w wr gr gp g r ns cs A0 c0 A1 c1) (hb : Below wr.heap.size wr w') : DI TP TI TR okb w w' gr gp g r ns cs A0 c0 A1 c1 :=
  ⟨below_blk hb h.res, below_blk hb h.prog, Kd.R_below h.names hb, Kd.R_below h.code hb, h.rd.move (fun k _ hlt => hb.block k hlt), fun k hk => (h.okl k hk).imp id (fun ⟨c, fz, hb2⟩ => ⟨c, fz, below_blk hb hb2⟩), h.geg, h.gep, h.ger, h.rp, below_then h.below h.below.size hb⟩
end

def DecPost (l : CS.Bs) (w : World) (e : Ending) (w' : World) : Prop :=
  ∃ A0 c0 A1 c1, e = .returned (.tuple #[pv A0 c0 A1 c1 (CS.decode l).1, .int .i64 (CS.decode l).2]) ∧ IsP w' A0 c0 A1 c1 (CS.decode l).1 ∧ Below w.heap.size w w'

namespace CS
def dec3 (p : Prg) (r : Rd) : Prg × Int := if r = some [] ∧ formed p then (p, 0) else (nil, 2)
def dec2 (ns : List Bs) (x : Rd) : Prg × Int :=
  let m := rdNum x
  if m.1 > 200 then (nil, 2) else
  let y := rdCode m.1 m.2
  dec3 ⟨ns, y.1⟩ y.2
theorem decode_eq (b : Bs) : decode b = if (rdNum (some b)).1 > 8 then (nil, 2) else dec2 (rdNames (rdNum (some b)).1 (rdNum (some b)).2).1 (rdNames (rdNum (some b)).1 (rdNum (some b)).2).2 := rfl
theorem rdNames_next (n d : Nat) (r0 r : Rd) (acc : List Bs) (h : rdNames n r0 = (acc ++ (rdNames (d + 1) r).1, (rdNames (d + 1) r).2)) : rdNames n r0 = ((acc ++ [(rdText r).1]) ++ (rdNames d (rdText r).2).1, (rdNames d (rdText r).2).2) := by
  rw [h]
  simp [rdNames]
theorem rdCode_next (n d : Nat) (r0 r : Rd) (acc : List Ins) (h : rdCode n r0 = (acc ++ (rdCode (d + 1) r).1, (rdCode (d + 1) r).2)) : rdCode n r0 = ((acc ++ [⟨min (rdNum r).1 200, (rdInt (rdNum r).2).1⟩]) ++ (rdCode d (rdInt (rdNum r).2).2).1, (rdCode d (rdInt (rdNum r).2).2).2) := by
  rw [h]
  simp [rdCode]
end CS
end Go.Proofs.YtpapbigghiiolaaGreatDoor

set_option linter.unusedVariables false
namespace Go.Proofs.YtpapbigghiiolaaGreatDoor
open Go.RowKit Go.Proofs.YtpapbigghiiolaaGreatDoorW.PrintWords Go.Proofs.YtpapbigghiiolaaGreatDoorW.PrintLast Go.Proofs.YtpapbigghiiolaaGreatDoorW.PrintMore
attribute [local go_sem] max2_int min2_int max_two min_two

theorem TextPost_def (T : TypeId) (ok : Nat → Prop) (g : Nat) (r : CS.Rd) (w : World) : TextPost T ok g r w = fun e w' => e = .returned (.string (sb (CS.rdText r).1)) ∧ IsR T ok g (CS.rdText r).2 w' ∧ Keep (· = g) w w' := rfl
theorem dtC : DT 33 45 119 := ⟨by decide, by decide, by decide, by decide, by decide, by decide, by decide, by decide, by decide, by decide⟩
abbrev DIC (gb : Nat) := DI 33 45 119 (· = gb)

theorem results_cell2e (fn : Func) (w : World) (tmps : Array Value) (ad u : Tmp) (h : fn.results = #[.cell ad 33, .tmp u]) {g : Nat} (hp : tmps.getD ad undef = .pointer (some ⟨g, 0, none⟩)) {v0 v1 : Value} (hh : w.heap[g]? = some (.cells #[v0, v1] 33 (0, 0))) :
    (results fn tmps).run Tryz.prog w = .ok (.tuple #[.agg #[v0, v1], tmps.getD u undef]) w := by
  have hc0 : w.cell? ⟨g, 0, none⟩ = some v0 := (blk_cell hh 0).trans rfl
  have hc1 : w.cell? ⟨g, 1, none⟩ = some v1 := (blk_cell hh 1).trans rfl
  have hp' : tmps[ad]?.getD undef = .pointer (some ⟨g, 0, none⟩) := by simpa using hp
  simp [results, h, go_sem, hp', hc0, hc1]

set_option maxRecDepth 100000 in
set_option maxHeartbeats 4000000 in
theorem Decode_any (A : Option Addr) (c : Nat) (l : CS.Bs) (w : World) (h : IsB w A c l) :
    Calls Tryz.prog 27 #[.slice A l.length c] w (DecPost l w) := by
  have H := Aside0.mk h
  clear h
  go_enter Tryz.func27, Tryz.ntmps27
  go_wp2_with (refine gate_ (.alloc 33) rfl ?_; refine ev_alloc 33 rfl rfl (by go_simp; rfl) ?_; intro gr hg w1 hb hbel; have HBR := Aside0.mk hb; have HW1 := Aside0.mk hbel; have HGR := Aside0.mk hg; clear hb hbel hg)
  refine (NewReader_any A c l _ (H.out.below HW1.out)).mono ?_
  rintro e w2 ⟨g, gb, cs, fz, rfl, hgg, hgb, hbb, hrd, hb2⟩
  have HW2 := Aside0.mk (below_then HW1.out HW1.out.size hb2)
  have HBR2 := Aside0.mk (below_blk hb2 HBR.out)
  have HGG := Aside0.mk (Nat.le_trans HW1.out.size hgg)
  have HBB := Aside0.mk hbb
  have HRD := Aside0.mk hrd
  clear hgg hgb hbb hrd hb2
  go_wp2_with (refine gate_ (.alloc 33) rfl ?_; refine ev_alloc 33 rfl rfl (by go_simp; rfl) ?_; intro gp hg w3 hb hbel; have HBP := Aside0.mk hb; have HW3 := Aside0.mk hbel; have HGP := Aside0.mk hg; clear hb hbel hg)
  have HD3 : Aside0 (DIC gb w w3 gr gp g (some l) [] [] none 0 none 0) := ⟨below_blk HW3.out HBR2.out, HBP.out, Kd.R_nil _ _ _ _ _, Kd.R_nil _ _ _ _ _, HRD.out.move (fun k _ hlt => HW3.out.block k hlt), fun k hk => .inr ⟨cs, fz, by rw [hk]; exact below_blk HW3.out HBB.out⟩, HGG.out, by rw [HGP.out]; exact HW2.out.size, by rw [HGR.out]; exact Nat.le_refl _, by rw [HGP.out]; have := blk_lt HBR2.out; omega, below_then HW2.out HW2.out.size HW3.out⟩
  refine (RNumber_any _ g (some l) _ HD3.out.rd).mono ?_
  rintro e w4 ⟨rfl, hr4, hk4⟩
  have hn4 := CS.rdNum_lt (some l)
  obtain ⟨n, hn⟩ : ∃ n, n = (CS.rdNum (some l)).1 := ⟨_, rfl⟩
  obtain ⟨r4, hr⟩ : ∃ r4, r4 = (CS.rdNum (some l)).2 := ⟨_, rfl⟩
  have HDE : Aside0 (CS.decode l = if n > 8 then (CS.nil, 2) else CS.dec2 (CS.rdNames n r4).1 (CS.rdNames n r4).2) := ⟨by rw [CS.decode_eq, ← hn, ← hr]⟩
  rw [← hr] at hr4
  rw [← hn] at hn4 ⊢
  have HD4 := Aside0.mk (HD3.out.step dtC hk4 hr4)
  clear hr4 hk4 hn hr
  by_cases h8 : 8 < n
  · have t0 : decide ((8 : Int) < (n : Int)) = true := decide_eq_true (by omega)
    have HE : Aside0 (CS.decode l = (CS.nil, 2)) := ⟨by rw [HDE.out, if_pos h8]⟩
    go_wp2_with (refine gate_ (.store 33 (.tmp 2) (.tmp 14)) rfl ?_; refine ev_store 33 (.tmp 2) (.tmp 14) rfl rfl rfl rfl HD4.out.res rfl (by kernel_rfl) rfl rfl ?_; intro w5 hb5 hk5; have HB5 := Aside0.mk hb5; have HK5 := Aside0.mk hk5; clear hb5 hk5)
    (try simp only [Exit.inBlock, Exit.then])
    refine bodyPost_ret (results_cell2e _ _ _ 2 3 rfl rfl HB5.out) rfl ?_
    refine ⟨none, 0, none, 0, ?_, ?_, (HD4.out.stored dtC HK5.out).2⟩
    · rw [HE.out]; rfl
    · rw [HE.out]; exact IsP_nil _
  · have t0 : decide ((8 : Int) < (n : Int)) = false := decide_eq_false (by omega)
    have HE2 : Aside0 (CS.decode l = CS.dec2 (CS.rdNames n r4).1 (CS.rdNames n r4).2) := ⟨by rw [HDE.out, if_neg h8]⟩
    have hn8 : n ≤ 8 := by omega
    clear h8
    go_wp2
    go_loopw [16] (fun v wr => ∃ (i : Nat) (ns : List CS.Bs) (ri : CS.Rd) (A0 : Option Addr) (c0 : Nat), v = .int .u64 (i : Int) ∧ i ≤ n ∧ Aside0 (ns.length = i ∧ CS.rdNames n r4 = (ns ++ (CS.rdNames (n - i) ri).1, (CS.rdNames (n - i) ri).2)) ∧ Aside0 (DIC gb w wr gr gp g ri ns [] A0 c0 none 0)) (fun v _ => n - (intOf v).toNat)
    case atStart => exact ⟨0, [], r4, none, 0, rfl, Nat.zero_le _, ⟨rfl, by simp⟩, HD4⟩
    case round =>
      obtain ⟨i, ns, ri, A0, c0, rfl, hi, HN, HD⟩ := hrel
      by_cases hlt : i < n
      · have t1 : decide (i < n) = true := decide_eq_true hlt
        obtain ⟨nm, hnm⟩ : ∃ nm, nm = (CS.rdText ri).1 := ⟨_, rfl⟩
        obtain ⟨rj, hrj⟩ : ∃ rj, rj = (CS.rdText ri).2 := ⟨_, rfl⟩
        have HNX : Aside0 ((ns ++ [nm]).length = i + 1 ∧ CS.rdNames n r4 = ((ns ++ [nm]) ++ (CS.rdNames (n - (i + 1)) rj).1, (CS.rdNames (n - (i + 1)) rj).2)) := ⟨by rw [List.length_append]; have := HN.out.1; simp; omega, by
          rw [hnm, hrj]
          refine CS.rdNames_next n (n - (i + 1)) r4 ri ns ?_
          rw [show n - (i + 1) + 1 = n - i by omega]
          exact HN.out.2⟩
        have HNL : Aside0 (ns.length = i) := ⟨HN.out.1⟩
        have HT : Aside0 ((CS.rdText ri).1 = nm ∧ (CS.rdText ri).2 = rj) := ⟨hnm.symm, hrj.symm⟩
        have hl : (ns ++ [nm]).length = ns.length + 1 := by simp
        have HL := Aside0.mk hl
        have y0 := (blk_cell HD.out.prog 0).trans rfl
        clear hnm hrj hl
        go_upto_region 8 with (fail)
        go_region_law (first | (refine goes_ Tryz.func47 (by kernel_rfl) rfl #[.pointer (some ⟨g, 0, none⟩)] (by simp [Region.wanted]) rfl rfl (by (try simp only [List.map_toArray, List.map_cons, List.map_nil]); first | done | rfl) ?_; refine (RText_any _ g ri _ HD.out.rd.drew).mono ?_; rw [TextPost_def]; rw [HT.out.1, HT.out.2]; rintro e w5 ⟨rfl, hr5, hk5⟩; refine ⟨_, rfl, ?_⟩; have HD5 := Aside0.mk (HD.out.drew.step dtC hk5 hr5); have u0 := (blk_cell HD5.out.prog 0).trans rfl; have u1 := fun o => ((below_alloc (Below.refl _ _) o).cell (World.block_lt_of_cell? w5 _ u0)).trans u0; clear hr5 hk5) | (refine Kd.R_append_step kStr (w0 := w) w.heap.size (by simp [Region.wanted]) (.tmp 19) (.tmp 22) 22 9 (.string ⟨#[]⟩) 16 (by rfl) Tryz.underlying22 infoStr rfl (by decide) (by decide) (.slice A0 ns.length c0) ns nm [.string (sb nm)] (fun _ => True) (fun _ => False) (by rfl) (by rfl) rfl (fun _ h => h.elim) (fun _ _ => trivial) HD5.out.names HD5.out.below HD5.out.below.size (by have := HNL.out; omega) ?_; intro v6 w6 ho6 hb6 hg6 hn6; obtain ⟨A0', c0', rfl⟩ := Kd.R_slice ho6; have hp6 := blk_grown HD5.out.prog hg6 (Kd.R_ne HD5.out.names HD5.out.prog (by decide)); have z0 := (blk_cell hp6 0).trans rfl; have zf := blk_frozen hp6 0; have hdn := HD5.out.add_name dtC ho6 hg6 hb6; rw [HL.out] at hdn ⊢; have HDN := Aside0.mk hdn; clear ho6 hb6 hg6 hn6 hp6 hdn))
        all_goals
          go_wp2
          go_roundw
          case rel => exact ⟨i + 1, ns ++ [nm], rj, A0', c0', by go_num, hlt, HNX, HDN⟩
          case measure => simp [intOf]; omega
      · have t1 : decide (i < n) = false := decide_eq_false hlt
        have HE3 : Aside0 (CS.decode l = CS.dec2 ns ri) := ⟨by
          have h2 := HN.out.2
          rw [show n - i = 0 by omega] at h2
          rw [HE2.out, h2]
          simp [CS.rdNames]⟩
        go_wp2_with fail
        refine (RNumber_any _ g ri _ HD.out.rd).mono ?_
        rintro e w5 ⟨rfl, hr5, hk5⟩
        have hm5 := CS.rdNum_lt ri
        obtain ⟨m, hm⟩ : ∃ m, m = (CS.rdNum ri).1 := ⟨_, rfl⟩
        obtain ⟨r5, hr⟩ : ∃ r5, r5 = (CS.rdNum ri).2 := ⟨_, rfl⟩
        have HDE5 : Aside0 (CS.decode l = if m > 200 then (CS.nil, 2) else CS.dec3 ⟨ns, (CS.rdCode m r5).1⟩ (CS.rdCode m r5).2) := ⟨by rw [HE3.out]; unfold CS.dec2; simp only; rw [← hm, ← hr]⟩
        rw [← hr] at hr5
        rw [← hm] at hm5 ⊢
        have HD5 := Aside0.mk (HD.out.step dtC hk5 hr5)
        clear hr5 hk5 hm hr
        by_cases h200 : 200 < m
        · have t2 : decide ((200 : Int) < (m : Int)) = true := decide_eq_true (by omega)
          have HE : Aside0 (CS.decode l = (CS.nil, 2)) := ⟨by rw [HDE5.out, if_pos h200]⟩
          go_wp2_with (refine gate_ (.store 33 (.tmp 2) (.tmp 30)) rfl ?_; refine ev_store 33 (.tmp 2) (.tmp 30) rfl rfl rfl rfl HD5.out.res rfl (by kernel_rfl) rfl rfl ?_; intro w6 hb6 hk6; have HB6 := Aside0.mk hb6; have HK6 := Aside0.mk hk6; clear hb6 hk6)
          (try simp only [Exit.inBlock, Exit.then])
          refine bodyPost_ret (results_cell2e _ _ _ 2 3 rfl rfl HB6.out) rfl ?_
          refine ⟨none, 0, none, 0, ?_, ?_, (HD5.out.stored dtC HK6.out).2⟩
          · rw [HE.out]; rfl
          · rw [HE.out]; exact IsP_nil _
        · have t2 : decide ((200 : Int) < (m : Int)) = false := decide_eq_false (by omega)
          have HE5 : Aside0 (CS.decode l = CS.dec3 ⟨ns, (CS.rdCode m r5).1⟩ (CS.rdCode m r5).2) := ⟨by rw [HDE5.out, if_neg h200]⟩
          have hm200 : m ≤ 200 := by omega
          have HNL : Aside0 (ns.length ≤ 8) := ⟨by have := HN.out.1; omega⟩
          clear h200
          go_wp2
          go_loopw [32] (fun v wr => ∃ (j : Nat) (cs : List CS.Ins) (rj : CS.Rd) (A1 : Option Addr) (c1 : Nat), v = .int .u64 (j : Int) ∧ j ≤ m ∧ Aside0 (cs.length = j ∧ CS.rdCode m r5 = (cs ++ (CS.rdCode (m - j) rj).1, (CS.rdCode (m - j) rj).2)) ∧ Aside0 (DIC gb w wr gr gp g rj ns cs A0 c0 A1 c1)) (fun v _ => m - (intOf v).toNat)
          case atStart => exact ⟨0, [], r5, none, 0, rfl, Nat.zero_le _, ⟨rfl, by simp⟩, HD5⟩
          case round =>
            obtain ⟨j, cs, rj, A1, c1, rfl, hj, HC, HDj⟩ := hrel
            by_cases hltj : j < m
            · have t3 : decide (j < m) = true := decide_eq_true hltj
              go_wp2_with fail
              refine (RNumber_any _ g rj _ HDj.out.rd).mono ?_
              rintro e w7 ⟨rfl, hr7, hk7⟩
              have ho7 := CS.rdNum_lt rj
              obtain ⟨o, ho⟩ : ∃ o, o = (CS.rdNum rj).1 := ⟨_, rfl⟩
              obtain ⟨r7, hr⟩ : ∃ r7, r7 = (CS.rdNum rj).2 := ⟨_, rfl⟩
              obtain ⟨a, ha⟩ : ∃ a, a = (CS.rdInt r7).1 := ⟨_, rfl⟩
              obtain ⟨r8, hr8⟩ : ∃ r8, r8 = (CS.rdInt r7).2 := ⟨_, rfl⟩
              obtain ⟨q, hq⟩ : ∃ q : Nat, q = if 200 < o then 200 else o := ⟨_, rfl⟩
              have hqm : min (o : Int) 200 = (q : Int) := by rw [hq]; split <;> omega
              have hq200 : q ≤ 200 := by rw [hq]; split <;> omega
              have hqi : (if (200 : Int) < (o : Int) then (200 : Int) else (o : Int)) = (q : Int) := by rw [hq]; split <;> (split <;> omega)
              have HNX : Aside0 ((cs ++ [(⟨(q : Int), a⟩ : CS.Ins)]).length = j + 1 ∧ CS.rdCode m r5 = ((cs ++ [(⟨(q : Int), a⟩ : CS.Ins)]) ++ (CS.rdCode (m - (j + 1)) r8).1, (CS.rdCode (m - (j + 1)) r8).2)) := ⟨by rw [List.length_append]; have := HC.out.1; simp; omega, by
                have := CS.rdCode_next m (m - (j + 1)) r5 rj cs (by rw [show m - (j + 1) + 1 = m - j by omega]; exact HC.out.2)
                rw [← ho, ← hr, ← ha, ← hr8, hqm] at this
                exact this⟩
              rw [← hr] at hr7
              rw [← ho] at ho7 ⊢
              have HD7 := Aside0.mk (HDj.out.step dtC hk7 hr7)
              have HT : Aside0 ((CS.rdInt r7).1 = a ∧ (CS.rdInt r7).2 = r8) := ⟨ha.symm, hr8.symm⟩
              have HCL : Aside0 (cs.length = j) := ⟨HC.out.1⟩
              have y0 := (blk_cell HD7.out.prog 1).trans rfl
              clear hr7 hk7 ho hr ha hr8
              have hl : (cs ++ [(⟨(q : Int), a⟩ : CS.Ins)]).length = cs.length + 1 := by simp
              have HL := Aside0.mk hl
              have hqw : IntKind.i64.wrap (q : Int) = (q : Int) := IntWalk.i64_in _ (by omega)
              clear hl hq hqm
              go_upto_region 16 with (fail)
              go_region_law (first | (refine goes_ Tryz.func48 (by kernel_rfl) rfl #[.pointer (some ⟨g, 0, none⟩)] (by simp [Region.wanted]) rfl rfl (by (try simp only [List.map_toArray, List.map_cons, List.map_nil]); first | done | rfl) ?_; refine (RInt_any _ g r7 _ HD7.out.rd.drew).mono ?_; rw [HT.out.1, HT.out.2]; rintro e w8 ⟨rfl, hr8, hk8⟩; refine ⟨_, rfl, ?_⟩; have HD8 := Aside0.mk (HD7.out.drew.step dtC hk8 hr8); have u0 := (blk_cell HD8.out.prog 1).trans rfl; have u1 := fun o => ((below_alloc (Below.refl _ _) o).cell (World.block_lt_of_cell? w8 _ u0)).trans u0; clear hr8 hk8) | (refine Kd.R_append_step kIns (w0 := w) w.heap.size (by simp [Region.wanted]) (.tmp 37) (.tmp 44) 31 45 (.agg #[.int .i64 0, .int .i64 0]) 16 (by rfl) Tryz.underlying31 infoIns rfl (by decide) (by decide) (.slice A1 cs.length c1) cs (⟨(q : Int), a⟩ : CS.Ins) [.int .i64 (q : Int), .int .i64 a] (fun _ => True) (fun _ => False) (by rfl) (by rfl) ⟨[_], [_], rfl, rfl, rfl⟩ (fun _ h => h.elim) (fun _ _ => trivial) HD8.out.code HD8.out.below HD8.out.below.size (by have := HCL.out; omega) ?_; intro v9 w9 ho9 hb9 hg9 hn9; obtain ⟨A1', c1', rfl⟩ := Kd.R_slice ho9; have hp9 := blk_grown HD8.out.prog hg9 (Kd.R_ne HD8.out.code HD8.out.prog (by decide)); have z0 := (blk_cell hp9 1).trans rfl; have zf := blk_frozen hp9 1; have hdn := HD8.out.add_ins dtC ho9 hg9 hb9; rw [HL.out] at hdn ⊢; have HDN := Aside0.mk hdn; clear ho9 hb9 hg9 hn9 hp9 hdn))
              all_goals
                go_wp2
                go_roundw
                case rel => exact ⟨j + 1, cs ++ [⟨(q : Int), a⟩], r8, A1', c1', by go_num, hltj, HNX, HDN⟩
                case measure => simp [intOf]; omega
            · have t3 : decide (j < m) = false := decide_eq_false hltj
              have HE6 : Aside0 (CS.decode l = CS.dec3 ⟨ns, cs⟩ rj) := ⟨by
                have h2 := HC.out.2
                rw [show m - j = 0 by omega] at h2
                rw [HE5.out, h2]
                simp [CS.rdCode]⟩
              have HCL : Aside0 (cs.length ≤ 200) := ⟨by have := HC.out.1; omega⟩
              by_cases hend : rj = some []
              · have HEND : Aside0 (decide (rj = some []) = true) := ⟨decide_eq_true hend⟩
                have HRJ := Aside0.mk hend
                have y0 := (blk_cell HDj.out.prog 0).trans rfl
                have y1 := (blk_cell HDj.out.prog 1).trans rfl
                clear hend
                go_wp2_with fail
                refine (REnd_any _ g rj _ HDj.out.rd).mono ?_
                rw [HEND.out]
                rintro e w7 ⟨rfl, rfl⟩
                go_wp2_with fail
                refine (Formed_any A0 A1 c0 c1 ⟨ns, cs⟩ _ HDj.out.isP ?h1 ?h2).mono ?_
                case h1 => have := HNL.out; simp only; omega
                case h2 => have := HCL.out; simp only; omega
                rintro e w8 ⟨rfl, hb8⟩
                have HD8 := Aside0.mk (HDj.out.keep_below hb8)
                clear hb8 y0 y1
                cases hf : CS.formed ⟨ns, cs⟩ with
                | false =>
                  have HE : Aside0 (CS.decode l = (CS.nil, 2)) := ⟨by rw [HE6.out]; unfold CS.dec3; rw [if_neg (by rw [hf]; simp)]⟩
                  clear hf
                  go_wp2_with (refine gate_ (.store 33 (.tmp 2) (.tmp 56)) rfl ?_; refine ev_store 33 (.tmp 2) (.tmp 56) rfl rfl rfl rfl HD8.out.res rfl (by kernel_rfl) rfl rfl ?_; intro w6 hb6 hk6; have HB6 := Aside0.mk hb6; have HK6 := Aside0.mk hk6; clear hb6 hk6)
                  (try simp only [Exit.inBlock, Exit.then])
                  refine bodyPost_ret (results_cell2e _ _ _ 2 3 rfl rfl HB6.out) rfl ?_
                  refine ⟨none, 0, none, 0, ?_, ?_, (HD8.out.stored dtC HK6.out).2⟩
                  · rw [HE.out]; rfl
                  · rw [HE.out]; exact IsP_nil _
                | true =>
                  have HE : Aside0 (CS.decode l = (⟨ns, cs⟩, 0)) := ⟨by rw [HE6.out]; unfold CS.dec3; rw [if_pos ⟨HRJ.out, hf⟩]⟩
                  have z0 := (blk_cell HD8.out.prog 0).trans rfl
                  have z1 := (blk_cell HD8.out.prog 1).trans rfl
                  clear hf
                  go_wp2_with (refine gate_ (.store 33 (.tmp 2) (.tmp 57)) rfl ?_; refine ev_store 33 (.tmp 2) (.tmp 57) rfl rfl rfl rfl HD8.out.res rfl (by kernel_rfl) rfl rfl ?_; intro w6 hb6 hk6; have HB6 := Aside0.mk hb6; have HK6 := Aside0.mk hk6; clear hb6 hk6)
                  (try simp only [Exit.inBlock, Exit.then])
                  refine bodyPost_ret (results_cell2e _ _ _ 2 3 rfl rfl HB6.out) rfl ?_
                  obtain ⟨s1, s2⟩ := HD8.out.stored dtC HK6.out
                  refine ⟨A0, c0, A1, c1, ?_, ?_, s2⟩
                  · rw [HE.out]; rfl
                  · rw [HE.out]; exact s1
              · have HEND : Aside0 (decide (rj = some []) = false) := ⟨decide_eq_false hend⟩
                have HE : Aside0 (CS.decode l = (CS.nil, 2)) := ⟨by rw [HE6.out]; unfold CS.dec3; rw [if_neg (fun h => hend h.1)]⟩
                clear hend
                go_wp2_with fail
                refine (REnd_any _ g rj _ HDj.out.rd).mono ?_
                rw [HEND.out]
                rintro e w7 ⟨rfl, rfl⟩
                go_wp2_with (refine gate_ (.store 33 (.tmp 2) (.tmp 56)) rfl ?_; refine ev_store 33 (.tmp 2) (.tmp 56) rfl rfl rfl rfl HDj.out.res rfl (by kernel_rfl) rfl rfl ?_; intro w6 hb6 hk6; have HB6 := Aside0.mk hb6; have HK6 := Aside0.mk hk6; clear hb6 hk6)
                (try simp only [Exit.inBlock, Exit.then])
                refine bodyPost_ret (results_cell2e _ _ _ 2 3 rfl rfl HB6.out) rfl ?_
                refine ⟨none, 0, none, 0, ?_, ?_, (HDj.out.stored dtC HK6.out).2⟩
                · rw [HE.out]; rfl
                · rw [HE.out]; exact IsP_nil _
end Go.Proofs.YtpapbigghiiolaaGreatDoor
