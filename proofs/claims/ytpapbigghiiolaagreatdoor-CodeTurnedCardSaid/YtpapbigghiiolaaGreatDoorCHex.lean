/-
  code.Hex and code.Print.
-/
import Derived.Test.YtpapbigghiiolaaGreatDoorCParse
set_option linter.unusedVariables false
namespace Go.Proofs.YtpapbigghiiolaaGreatDoor
open Go.RowKit Go.Proofs.YtpapbigghiiolaaGreatDoorW.PrintWords

namespace CS
theorem hex_append : ∀ (a b : Bs), hex (a ++ b) = hex a ++ hex b
  | [], b => rfl
  | x :: a, b => by simp [hex, hex_append a b]
theorem hex_length : ∀ (a : Bs), (hex a).length = 2 * a.length
  | [] => rfl
  | x :: a => by simp [hex, hex_length a]; omega
end CS
theorem dig_at (n : Nat) (h : n < (⟨#[48, 49, 50, 51, 52, 53, 54, 55, 56, 57, 97, 98, 99, 100, 101, 102]⟩ : ByteArray).size) : (⟨#[48, 49, 50, 51, 52, 53, 54, 55, 56, 57, 97, 98, 99, 100, 101, 102]⟩ : ByteArray)[n]'h = CS.hexd n := by
  have hn : n < 16 := h
  have hall : ∀ k : Fin 16, (⟨#[48, 49, 50, 51, 52, 53, 54, 55, 56, 57, 97, 98, 99, 100, 101, 102]⟩ : ByteArray)[k.val]'(by exact k.isLt) = CS.hexd k.val := by decide
  exact hall ⟨n, hn⟩
theorem and15 (c : UInt8) : bits BinOp.and IntKind.u8 (c.toNat : Int) 15 = ((c.toNat % 16 : Nat) : Int) := by
  have h : ∀ n : Nat, n < 256 → bits BinOp.and IntKind.u8 (n : Int) 15 = ((n % 16 : Nat) : Int) := by decide +kernel
  exact h _ c.toNat_lt
theorem byteCells_snoc (m : CS.Bs) (x : UInt8) : Lib.byteCells m ++ [.int .u8 (x.toNat : Int)] = Lib.byteCells (m ++ [x]) := by rw [Lib.byteCells_append]; rfl

set_option maxRecDepth 100000 in
set_option maxHeartbeats 1000000 in
theorem Hex_any (s : ByteArray) (w : World) (hs : s.size ≤ 1000000000) :
    Calls Tryz.prog 14 #[.string s] w fun e w' => e = .returned (.string (sb (CS.hex s.data.toList))) ∧ Below w.heap.size w w' := by
  have hsz : s.data.toList.length = s.size := by rw [Array.length_toList]; rfl
  have HSZ := Aside0.mk hsz
  clear hsz
  go_enter Tryz.func14, Tryz.ntmps14
  go_wp2_with (refine gate_ (.alloc 49) rfl ?_; refine ev_alloc 49 rfl rfl (by go_simp; rfl) ?_; intro g hg w1 hb hbel; have HB := Aside0.mk hb; have HW := Aside0.mk hbel; have HG := Aside0.mk hg; clear hb hbel hg)
  go_loopw [7] (fun v wr => ∃ (i : Nat), v = .int .i64 (i : Int) ∧ i ≤ s.size ∧ Aside0 (Lib.IsBuilder 49 5 g g (Lib.byteCells (CS.hex (s.data.toList.take i))) wr) ∧ Aside0 (Below w.heap.size w wr)) (fun v _ => s.size - (intOf v).toNat)
  case atStart => exact ⟨0, rfl, Nat.zero_le _, ⟨.inl ⟨Nat.le_refl _, _, HB.out, World.ownsRow_nil _ _ _ _, by simp [Value.ownBlock]⟩⟩, HW⟩
  case round =>
    obtain ⟨i, rfl, hi, HBu, HWr⟩ := hrel
    by_cases hlt : i < s.size
    · have i1 : decide ((i : Int) < (s.size : Int)) = true := decide_eq_true (by omega)
      obtain ⟨c, hc⟩ : ∃ c, c = s.data.toList.getD i 0 := ⟨_, rfl⟩
      have HC := Aside0.mk hc
      clear hc
      have hg : s[i]'hlt = c := by rw [HC.out, bget]
      have b1 : (0 : Int) ≤ (c.toNat : Int) / 16 ∧ (c.toNat : Int) / 16 < 16 := by have := c.toNat_lt; omega
      have b2 : bits BinOp.and IntKind.u8 (c.toNat : Int) 15 = ((c.toNat : Int) % 16) := (and15 c).trans (by omega)
      have b3 : (0 : Int) ≤ (c.toNat : Int) % 16 ∧ (c.toNat : Int) % 16 < 16 := by omega
      go_wp2_with fail
      refine (WriteByte_any g g (Lib.byteCells (CS.hex (s.data.toList.take i))) _ _ HBu.out ?c1 ?c2).mono ?_
      case c1 => rw [Lib.byteCells_length, CS.hex_length, List.length_take]; omega
      case c2 => have := HG.out; have := HWr.out.size; omega
      rintro e w3 ⟨rfl, hb3, hw3⟩
      rw [dig_at, byteCells_snoc] at hb3
      have HB3 := Aside0.mk hb3
      have HW3 := Aside0.mk hw3
      clear hb3 hw3
      go_wp2_with fail
      refine (WriteByte_any g g (Lib.byteCells (CS.hex (s.data.toList.take i) ++ [CS.hexd (c.toNat / 16)])) _ _ HB3.out ?c1 ?c2).mono ?_
      case c1 => rw [Lib.byteCells_length, List.length_append, CS.hex_length, List.length_take, List.length_cons, List.length_nil]; omega
      case c2 => have := HG.out; have := HWr.out.size; have := HW3.out.size; omega
      rintro e w4 ⟨rfl, hb4, hw4⟩
      rw [dig_at, byteCells_snoc] at hb4
      have HS : s.data.toList.take (i + 1) = s.data.toList.take i ++ [c] := by
        have hl := HSZ.out
        rw [List.take_succ_eq_append_getElem (by omega), HC.out, List.getD_eq_getElem?_getD, List.getElem?_eq_getElem (by omega)]
        rfl
      have HB4 : Aside0 (Lib.IsBuilder 49 5 g g (Lib.byteCells (CS.hex (s.data.toList.take (i + 1)))) w4) := ⟨by rw [HS, CS.hex_append]; simpa [CS.hex] using hb4⟩
      have HW4 : Aside0 (Below w.heap.size w w4) := ⟨by
        have h3 := HW3.out
        rw [HG.out] at h3 hw4
        exact (HWr.out.trans h3).trans hw4⟩
      clear hb4 hw4 HS
      go_wp2
      go_roundw
      case rel => exact ⟨i + 1, by go_num, hlt, HB4, HW4⟩
      case measure => simp [intOf]; omega
    · go_wp2_with fail
      refine (Tryz.Builder_String_any_f g g (CS.hex (s.data.toList.take i)) _ (Lib.IsBuilderF.of HBu.out) ?c0).mono ?_
      case c0 => have := HG.out; have := HWr.out.size; omega
      rintro e w3 ⟨rfl, _, hw3⟩
      have HW3 := Aside0.mk hw3
      clear hw3
      go_wp2
      go_ret
      have h3 := HW3.out
      rw [HG.out] at h3
      refine ⟨?_, HWr.out.trans h3⟩
      rw [List.take_of_length_le (by have := HSZ.out; omega)]
      rfl

/-! Print -/
theorem nDigits_le : ∀ (k u : Nat), u < 10 ^ (k + 1) → Lib.nDigits u ≤ k + 1
  | 0, u, h => by rw [Lib.nDigits_small (by omega)]; exact Nat.le_refl _
  | k + 1, u, h => by
    by_cases h10 : u < 10
    · rw [Lib.nDigits_small h10]; omega
    · rw [Lib.nDigits_big h10]
      have := nDigits_le k (u / 10) (by rw [Nat.pow_succ] at h; omega)
      omega
theorem itoa_len (v : Int) (h0 : -9223372036854775808 ≤ v) (h1 : v ≤ 9223372036854775807) : (Lib.itoa v).length ≤ 21 := by
  have hp : (10 : Nat) ^ (19 + 1) = 100000000000000000000 := by decide
  by_cases hv : v < 0
  · obtain ⟨u, hu⟩ := Int.eq_ofNat_of_zero_le (show 0 ≤ -v by omega)
    obtain rfl : v = -(u : Int) := by omega
    rw [Lib.itoa_neg u (by omega), List.length_cons, Lib.decDigits_length]
    have := nDigits_le 19 u (by omega)
    omega
  · obtain ⟨u, rfl⟩ := Int.eq_ofNat_of_zero_le (show 0 ≤ v by omega)
    rw [Lib.itoa_nonneg, Lib.decDigits_length]
    have := nDigits_le 19 u (by omega)
    omega
theorem isBuilder_below {T e : TypeId} {B b : Nat} {bs : List Value} {W W' : World} (h : Lib.IsBuilder T e B b bs W) (hb : Below W.heap.size W W') : Lib.IsBuilder T e B b bs W' := by
  have hat : ∀ p, Lib.BuilderAt T e B b p bs W → Lib.BuilderAt T e B b p bs W' := by
    intro p h
    have hlt := h.lt
    obtain ⟨hB, v, hv, hown, hne⟩ := h
    exact ⟨hB, v, (hb.block b hlt).trans hv, pw_own_below hown hb, hne⟩
  exact h.elim (fun x => .inl (hat _ x)) (fun x => .inr (hat _ x))
theorem strCells_sb (l : CS.Bs) : Lib.strCells (sb l) = Lib.byteCells l := rfl
theorem sb_append (a b : CS.Bs) : sb a ++ sb b = sb (a ++ b) := by
  apply ByteArray.ext
  apply Array.toList_inj.1
  rw [ByteArray.data_append, Array.toList_append, sb_data, sb_data, sb_data]
theorem take_flat {α : Type} (f : α → CS.Bs) (xs : List α) (d : α) (i : Nat) (h : i < xs.length) : ((xs.take (i + 1)).map f).flatten = ((xs.take i).map f).flatten ++ f (xs.getD i d) := by
  rw [List.take_succ_eq_append_getElem h, List.map_append, List.flatten_append, List.getD_eq_getElem?_getD, List.getElem?_eq_getElem h]
  simp
theorem all_at {α : Type} {f : α → Bool} {xs : List α} (h : xs.all f = true) (d : α) (i : Nat) (hi : i < xs.length) : f (xs.getD i d) = true := by
  rw [List.getD_eq_getElem?_getD, List.getElem?_eq_getElem hi]
  exact List.all_eq_true.1 h _ (List.getElem_mem hi)
theorem flat_len {α : Type} (f : α → CS.Bs) (b : Nat) : ∀ (xs : List α), (∀ x ∈ xs, (f x).length ≤ b) → (xs.map f).flatten.length ≤ xs.length * b
  | [], _ => by simp
  | x :: r, h => by
    have h1 := h x List.mem_cons_self
    have h2 := flat_len f b r (fun y hy => h y (List.mem_cons_of_mem _ hy))
    simp only [List.map_cons, List.flatten_cons, List.length_append, List.length_cons]
    rw [Nat.succ_mul]
    omega
/-- the arguments lie within an int64 -/
def Wf (p : CS.Prg) : Prop := ∀ i ∈ p.code, -9223372036854775808 ≤ i.arg ∧ i.arg ≤ 9223372036854775807
theorem Wf.at {p : CS.Prg} (h : Wf p) (i : Nat) (hi : i < p.code.length) : -9223372036854775808 ≤ (p.code.getD i ⟨0, 0⟩).arg ∧ (p.code.getD i ⟨0, 0⟩).arg ≤ 9223372036854775807 := by
  rw [List.getD_eq_getElem?_getD, List.getElem?_eq_getElem hi]
  exact h _ (List.getElem_mem hi)
theorem opOf_len (i : Int) (w : CS.Bs) (k : Int) (h : CS.opOf i = some (w, k)) : w.length ≤ 8 := by
  have hall : ∀ x ∈ CS.ops, x.1.length ≤ 8 := by decide
  unfold CS.opOf at h
  split at h
  · exact hall (w, k) (List.mem_of_getElem? h)
  · cases h
theorem printName_len (n : CS.Bs) (h : CS.key n = true) : (CS.printName n).length ≤ 100 := by
  unfold CS.key at h
  simp only [Bool.and_eq_true, decide_eq_true_eq] at h
  simp only [CS.printName, CS.nameP, List.length_append, CS.hex_length, List.length_cons, List.length_nil]
  omega
theorem printIns_len (i : CS.Ins) (h : -9223372036854775808 ≤ i.arg ∧ i.arg ≤ 9223372036854775807) : (CS.printIns i).length ≤ 100 := by
  have hi := itoa_len i.arg h.1 h.2
  unfold CS.printIns
  cases ho : CS.opOf i.op with
  | none => simp
  | some q =>
    obtain ⟨w, k⟩ := q
    have := opOf_len i.op w k ho
    simp only [List.length_append, List.length_cons, List.length_nil]
    split
    · simp; omega
    · simp only [List.length_cons]; omega

set_option maxRecDepth 100000 in
set_option maxHeartbeats 2000000 in
theorem Print_any (A0 A1 : Option Addr) (c0 c1 : Nat) (p : CS.Prg) (w : World) (h : IsP w A0 c0 A1 c1 p) (hl0 : p.names.length ≤ 140737488355328) (hl1 : p.code.length ≤ 140737488355328) (hwf : Wf p) (hw : Laid w) :
    Calls Tryz.prog 6 #[pv A0 c0 A1 c1 p] w fun e w' => e = .returned (.tuple #[.string (sb (CS.print p).1), .int .i64 (CS.print p).2]) ∧ Below w.heap.size w w' := by
  have H := Aside0.mk h
  have HWF := Aside0.mk hwf
  have HL := Aside0.mk hw
  clear h hwf hw
  unfold pv
  go_enter Tryz.func6, Tryz.ntmps6
  go_wp2_with (refine gate_ (.box 33 (.tmp 0)) rfl ?_; refine ev_box 33 (.tmp 0) rfl rfl (by go_simp; rfl) ?_; intro gp hg w1 hb hbel; have HBX := Aside0.mk hb; have HW1 := Aside0.mk hbel; have HGP := Aside0.mk hg; have x0 : w1.cell? ⟨gp, 0, none⟩ = some (.slice A0 p.names.length c0) := (blk_cell hb 0).trans rfl; have x1 : w1.cell? ⟨gp, 1, none⟩ = some (.slice A1 p.code.length c1) := (blk_cell hb 1).trans rfl; clear hb hbel hg)
  refine (Formed_any A0 A1 c0 c1 p _ (H.out.below HW1.out) hl0 hl1).mono ?_
  rintro e w2 ⟨rfl, hb2⟩
  have HW2 := Aside0.mk (below_then HW1.out HW1.out.size hb2)
  have HB2 := Aside0.mk (below_blk hb2 HBX.out)
  clear hb2
  cases hf : CS.formed p with
  | false =>
    have HF : Aside0 (CS.print p = ([], 1)) := ⟨by unfold CS.print; rw [hf]; rfl⟩
    clear hf
    go_wp2
    go_ret2
    exact ⟨by rw [HF.out]; rfl, HW2.out⟩
  | true =>
    have HF : Aside0 (CS.print p = (CS.text p, 0)) := ⟨by unfold CS.print; rw [hf]; rfl⟩
    have hf2 := hf
    unfold CS.formed at hf2
    simp only [Bool.and_eq_true, decide_eq_true_eq] at hf2
    obtain ⟨⟨⟨hn8, hc200⟩, hkeys⟩, hins⟩ := hf2
    have HK := Aside0.mk hkeys
    have HI := Aside0.mk hins
    clear hf hkeys hins
    have y0 : w2.cell? ⟨gp, 0, none⟩ = some (.slice A0 p.names.length c0) := (blk_cell HB2.out 0).trans rfl
    clear x0 x1
    go_wp2_with (refine gate_ (.alloc 49) rfl ?_; refine ev_alloc 49 rfl rfl (by go_simp; rfl) ?_; intro g hg w3 hb hbel; have HB := Aside0.mk hb; have HW := Aside0.mk hbel; have HG := Aside0.mk hg; have z0 : w3.cell? ⟨gp, 0, none⟩ = some (.slice A0 p.names.length c0) := pw_cell_below hbel y0; clear hb hbel hg)
    go_loopw [18] (fun v wr => ∃ (i : Nat), v = .int .i64 (i : Int) ∧ i ≤ p.names.length ∧ Aside0 (Lib.IsBuilder 49 5 g g (Lib.byteCells ((p.names.take i).map CS.printName).flatten) wr) ∧ Aside0 (Below w2.heap.size w2 wr)) (fun v _ => p.names.length - (intOf v).toNat)
    case atStart => exact ⟨0, rfl, Nat.zero_le _, ⟨.inl ⟨Nat.le_refl _, _, HB.out, World.ownsRow_nil _ _ _ _, by simp [Value.ownBlock]⟩⟩, HW⟩
    case round =>
      obtain ⟨i, rfl, hi, HBu, HWr⟩ := hrel
      by_cases hlt : i < p.names.length
      · have i1 : decide ((i : Int) < (p.names.length : Int)) = true := decide_eq_true (by omega)
        obtain ⟨ad, rfl, hcell⟩ := kStr_at (Kd.C_below (Kd.C_below H.out.1 HW2.out) HWr.out) i hlt
        obtain ⟨nm, hnm⟩ : ∃ nm, nm = p.names.getD i [] := ⟨_, rfl⟩
        have hkey := all_at HK.out [] i hlt
        rw [← hnm] at hcell hkey
        have HNM := Aside0.mk hnm
        have HKEY := Aside0.mk hkey
        have hnl : nm.length ≤ 40 := by unfold CS.key at hkey; simp only [Bool.and_eq_true, decide_eq_true_eq] at hkey; exact hkey.2
        clear hnm hkey
        go_wp2_with fail
        refine (Hex_any (sb nm) _ (by rw [sb_size]; omega)).mono ?_
        rintro e w4 ⟨rfl, hb4⟩
        have HW4 := Aside0.mk hb4
        clear hb4
        rw [sb_data]
        have hsz := sb_size (CS.hex nm)
        have hhl := CS.hex_length nm
        go_wp2_with fail
        have hcat : (⟨#[110, 97, 109, 101, 32]⟩ : ByteArray) ++ sb (CS.hex nm) ++ (⟨#[10]⟩ : ByteArray) = sb (CS.printName nm) := by
          rw [show (⟨#[110, 97, 109, 101, 32]⟩ : ByteArray) = sb CS.nameP from rfl, show (⟨#[10]⟩ : ByteArray) = sb [10] from rfl, sb_append, sb_append]
          rfl
        have hpl := printName_len nm HKEY.out
        have hfl := flat_len CS.printName 100 (p.names.take i) (fun x hx => printName_len x (List.all_eq_true.1 HK.out x (List.mem_of_mem_take hx)))
        rw [hcat]
        refine (WriteString_any g g (Lib.byteCells ((p.names.take i).map CS.printName).flatten) (sb (CS.printName nm)) _ (isBuilder_below HBu.out HW4.out) ?c1 ?c2).mono ?_
        case c1 => rw [Lib.byteCells_length, sb_size]; rw [List.length_take] at hfl; omega
        case c2 => have := HG.out; have := HWr.out.size; have := HW4.out.size; omega
        rintro e w5 ⟨rfl, hb5, hw5⟩
        rw [strCells_sb, ← Lib.byteCells_append, HNM.out, ← take_flat CS.printName p.names [] i hlt] at hb5
        have HB5 := Aside0.mk hb5
        have HW5 : Aside0 (Below w2.heap.size w2 w5) := ⟨by
          rw [HG.out] at hw5
          exact (below_then HWr.out HWr.out.size HW4.out).trans hw5⟩
        clear hb5 hw5 hcat hpl hfl hsz hhl
        go_wp2
        go_roundw
        case rel => exact ⟨i + 1, by go_num, hlt, HB5, HW5⟩
        case measure => simp [intOf]; omega
      · have tk : decide ((i : Int) < (p.names.length : Int)) = false := decide_eq_false (by omega)
        have hflat : (p.names.take i).map CS.printName = p.names.map CS.printName := by rw [List.take_of_length_le (by omega)]
        have HBN : Aside0 (Lib.IsBuilder 49 5 g g (Lib.byteCells (p.names.map CS.printName).flatten) wr) := ⟨by rw [← hflat]; exact HBu.out⟩
        have y1 : wr.cell? ⟨gp, 1, none⟩ = some (.slice A1 p.code.length c1) := (blk_cell (below_blk HWr.out HB2.out) 1).trans rfl
        have HWN := HWr
        clear hflat
        go_wp2
        go_loopw [31] (fun v wr => ∃ (j : Nat), v = .int .i64 (j : Int) ∧ j ≤ p.code.length ∧ Aside0 (Lib.IsBuilder 49 5 g g (Lib.byteCells ((p.names.map CS.printName).flatten ++ ((p.code.take j).map CS.printIns).flatten)) wr) ∧ Aside0 (Below w2.heap.size w2 wr)) (fun v _ => p.code.length - (intOf v).toNat)
        case atStart => exact ⟨0, rfl, Nat.zero_le _, ⟨by simpa using HBN.out⟩, HWN⟩
        case round =>
          obtain ⟨j, rfl, hj, HBu, HWr⟩ := hrel
          by_cases hltj : j < p.code.length
          · have tj : decide ((j : Int) < (p.code.length : Int)) = true := decide_eq_true (by omega)
            obtain ⟨ad, rfl, hcell, hcell1⟩ := kIns_at (Kd.C_below (Kd.C_below H.out.2.2.1 HW2.out) HWr.out) j hltj
            have hok := all_at HI.out ⟨0, 0⟩ j hltj
            have har := HWF.out.at j hltj
            obtain ⟨x, hx⟩ : ∃ x, x = p.code.getD j ⟨0, 0⟩ := ⟨_, rfl⟩
            rw [← hx] at hcell hcell1 hok har
            have HX := Aside0.mk hx
            have HAR := Aside0.mk har
            clear hx har
            obtain ⟨wd, kd, hop⟩ : ∃ wd kd, CS.opOf x.op = some (wd, kd) := by
              unfold CS.insOk at hok
              cases ho : CS.opOf x.op with
              | none => rw [ho] at hok; cases hok
              | some q => exact ⟨q.1, q.2, rfl⟩
            have HR : Aside0 (opRes x.op = .tuple #[.string (sb wd), .int .i64 kd, .bool true]) := ⟨by unfold opRes; rw [hop]; rfl⟩
            have hwl := opOf_len x.op wd kd hop
            have hpi : CS.printIns x = wd ++ (if kd = 0 then [] else 32 :: Lib.itoa x.arg) ++ [10] := by unfold CS.printIns; rw [hop]
            have HPI := Aside0.mk hpi
            have hfl := flat_len CS.printIns 100 (p.code.take j) (fun y hy => printIns_len y (HWF.out y (List.mem_of_mem_take hy)))
            have hfn := flat_len CS.printName 100 p.names (fun y hy => printName_len y (List.all_eq_true.1 HK.out y hy))
            have hbl : ((p.names.map CS.printName).flatten ++ ((p.code.take j).map CS.printIns).flatten).length ≤ 30000 := by rw [List.length_append]; rw [List.length_take] at hfl; omega
            obtain ⟨L, hL⟩ : ∃ L, L = (p.names.map CS.printName).flatten ++ ((p.code.take j).map CS.printIns).flatten := ⟨_, rfl⟩
            rw [← hL] at hbl HBu
            have HLL := Aside0.mk hL
            have HBL := Aside0.mk hbl
            have HWL := Aside0.mk hwl
            clear hok hop hpi hfl hfn hL hbl hwl
            go_wp2_with fail
            refine (operation_any _ _).mono ?_
            rw [HR.out]
            rintro e w4 ⟨rfl, hb4⟩
            have hn4 := below_blk hb4 (blk_new wr _)
            have z1 : w4.cell? ⟨wr.heap.size, 1, none⟩ = some (.int .i64 x.arg) := (blk_cell hn4 1).trans rfl
            have HW4 : Aside0 (Below wr.heap.size wr w4) := ⟨below_then (below_alloc (Below.refl _ _) _) (by simp) hb4⟩
            clear hb4 hcell hcell1
            go_wp2_with fail
            refine (WriteString_k g g (Lib.byteCells L) (sb wd) _ (isBuilder_below HBu.out HW4.out) ?c1 ?c2).mono ?_
            case c1 => rw [Lib.byteCells_length, sb_size]; have := HBL.out; have := HWL.out; omega
            case c2 => have := HG.out; have := HWr.out.size; have := HW4.out.size; omega
            rintro e w5 ⟨rfl, hb5, hw5, hk5⟩
            rw [strCells_sb, ← Lib.byteCells_append] at hb5
            have hg5 : g ≠ wr.heap.size := by have := HG.out; have := HWr.out.size; have := HBu.out; rcases this with h | h <;> (have := h.lt; omega)
            have hn5 := hk5 _ _ hn4 (fun e => hg5 (Option.some.inj e).symm) (fun c fz e => by cases e)
            have z2 : w5.cell? ⟨wr.heap.size, 1, none⟩ = some (.int .i64 x.arg) := (blk_cell hn5 1).trans rfl
            have HB5 := Aside0.mk hb5
            have HW5 : Aside0 (Below w2.heap.size w2 w5) := ⟨by
              rw [HG.out] at hw5
              exact (below_then HWr.out HWr.out.size HW4.out).trans hw5⟩
            have hwg : g ≤ w5.heap.size := by have := HG.out; have := HW5.out.size; omega
            have HWG := Aside0.mk hwg
            clear hb5 hw5 hk5 hn4 z1 hn5 hwg hg5
            by_cases hk0 : kd = 0
            · have u0 : (kd != 0) = false := by simp [hk0]
              have HNEXT : Aside0 (CS.printIns x = wd ++ [10]) := ⟨by rw [HPI.out, if_pos hk0]; simp⟩
              clear hk0 z2
              go_wp2_with fail
              refine (WriteString_any g g (Lib.byteCells (L ++ wd)) _ _ HB5.out ?c1 ?c2).mono ?_
              case c1 => rw [Lib.byteCells_length, List.length_append]; have := HBL.out; have := HWL.out; simp [ByteArray.size]; omega
              case c2 => exact HWG.out
              rintro e w6 ⟨rfl, hb6, hw6⟩
              rw [show (⟨#[10]⟩ : ByteArray) = sb [10] from rfl, strCells_sb, ← Lib.byteCells_append, List.append_assoc, ← HNEXT.out, HLL.out, HX.out, List.append_assoc, ← take_flat CS.printIns p.code ⟨0, 0⟩ j hltj] at hb6
              have HB6 := Aside0.mk hb6
              have HW6 : Aside0 (Below w2.heap.size w2 w6) := ⟨by
                rw [HG.out] at hw6
                exact HW5.out.trans hw6⟩
              clear hb6 hw6
              go_wp2
              go_roundw
              case rel => exact ⟨j + 1, by go_num, hltj, HB6, HW6⟩
              case measure => simp [intOf]; omega
            · have u0 : (kd != 0) = true := by simp [hk0]
              have HNEXT : Aside0 (CS.printIns x = wd ++ 32 :: Lib.itoa x.arg ++ [10]) := ⟨by rw [HPI.out, if_neg hk0]⟩
              clear hk0
              go_wp2_with fail
              refine (FormatInt_any x.arg HAR.out.1 HAR.out.2 _ ?cl).mono ?_
              case cl => exact (HL.out.below HW2.out).below HW5.out
              rintro e w6 ⟨rfl, hb6⟩
              have HW6 := Aside0.mk hb6
              have hil := itoa_len x.arg HAR.out.1 HAR.out.2
              have hsz := sb_size (Lib.itoa x.arg)
              clear hb6
              go_wp2_with fail
              have hcat : (⟨#[32]⟩ : ByteArray) ++ sb (Lib.itoa x.arg) = sb (32 :: Lib.itoa x.arg) := by
                rw [show (⟨#[32]⟩ : ByteArray) = sb [32] from rfl, sb_append]
                rfl
              rw [hcat]
              refine (WriteString_any g g (Lib.byteCells (L ++ wd)) (sb (32 :: Lib.itoa x.arg)) _ (isBuilder_below HB5.out HW6.out) ?c1 ?c2).mono ?_
              case c1 => rw [Lib.byteCells_length, List.length_append, sb_size, List.length_cons]; have := HBL.out; have := HWL.out; omega
              case c2 => have := HWG.out; have := HW6.out.size; omega
              rintro e w7 ⟨rfl, hb7, hw7⟩
              rw [strCells_sb, ← Lib.byteCells_append] at hb7
              have HB7 := Aside0.mk hb7
              have HW7 : Aside0 (Below w2.heap.size w2 w7) := ⟨by
                rw [HG.out] at hw7
                exact (below_then HW5.out HW5.out.size HW6.out).trans hw7⟩
              have HIL := Aside0.mk hil
              clear hb7 hw7 hcat hil hsz
              go_wp2_with fail
              refine (WriteString_any g g (Lib.byteCells (L ++ wd ++ 32 :: Lib.itoa x.arg)) _ _ HB7.out ?c1 ?c2).mono ?_
              case c1 => rw [Lib.byteCells_length, List.length_append, List.length_append, List.length_cons]; have := HBL.out; have := HWL.out; have := HIL.out; simp [ByteArray.size]; omega
              case c2 => have := HG.out; have := HW7.out.size; omega
              rintro e w8 ⟨rfl, hb8, hw8⟩
              rw [show (⟨#[10]⟩ : ByteArray) = sb [10] from rfl, strCells_sb, ← Lib.byteCells_append, List.append_assoc L wd, List.append_assoc L, ← HNEXT.out, HLL.out, HX.out, List.append_assoc, ← take_flat CS.printIns p.code ⟨0, 0⟩ j hltj] at hb8
              have HB8 := Aside0.mk hb8
              have HW8 : Aside0 (Below w2.heap.size w2 w8) := ⟨by
                rw [HG.out] at hw8
                exact HW7.out.trans hw8⟩
              clear hb8 hw8
              go_wp2
              go_roundw
              case rel => exact ⟨j + 1, by go_num, hltj, HB8, HW8⟩
              case measure => simp [intOf]; omega
          · have tj : decide ((j : Int) < (p.code.length : Int)) = false := decide_eq_false (by omega)
            have hflat : (p.code.take j).map CS.printIns = p.code.map CS.printIns := by rw [List.take_of_length_le (by omega)]
            have HBT : Aside0 (Lib.IsBuilder 49 5 g g (Lib.byteCells (CS.text p)) wr) := ⟨by unfold CS.text; rw [← hflat]; exact HBu.out⟩
            clear hflat
            go_wp2_with fail
            refine (Tryz.Builder_String_any_f g g (CS.text p) _ (Lib.IsBuilderF.of HBT.out) ?c0).mono ?_
            case c0 => have := HG.out; have := HWr.out.size; omega
            rintro e w4 ⟨rfl, _, hw4⟩
            have HW4 := Aside0.mk hw4
            clear hw4
            go_wp2
            go_ret2
            have h4 := HW4.out
            rw [HG.out] at h4
            exact ⟨by rw [HF.out]; rfl, below_then HW2.out HW2.out.size (HWr.out.trans h4)⟩
end Go.Proofs.YtpapbigghiiolaaGreatDoor
