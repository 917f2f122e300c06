/-
  What the library's variables hold, as the walks want it (Laid); code.Int.
-/
import Derived.Test.YtpapbigghiiolaaGreatDoorCForm
import Derived.Test.YtpapbigghiiolaaGreatDoorShelf
import Derived.Lib.AppendIntMem
import Derived.WideLaws
set_option linter.unusedVariables false
namespace Go.Proofs.YtpapbigghiiolaaGreatDoor
open Go.RowKit Go.Proofs.YtpapbigghiiolaaGreatDoorW.PrintWords

structure Laid (w : World) : Prop where
  tab : Lib.TabIs Tryz.prog w "internal/strconv.uint64pow10" .u64 Lib.pow10Tab
  syn : ∃ tp p, w.cell? ⟨4, 0, none⟩ = some (.iface tp p)
  rng : ∃ tp p, w.cell? ⟨5, 0, none⟩ = some (.iface tp p)
  maxl : ∃ m, w.cell? ⟨1, 0, none⟩ = some (.int .i64 m)
theorem Laid.below {w w1 : World} (h : Laid w) (hb : Below w.heap.size w w1) : Laid w1 := by
  obtain ⟨t, ⟨a, b, s⟩, ⟨c, d, r⟩, ⟨m, hm⟩⟩ := h
  exact ⟨(Lib.tabBelow_of_tabIs t) w1 hb, ⟨a, b, pw_cell_below hb s⟩, ⟨c, d, pw_cell_below hb r⟩, ⟨m, pw_cell_below hb hm⟩⟩

theorem ParseInt_err (s : ByteArray) (hs : s.size ≤ 140737488355328) (w : World) (hw : Laid w) (h : ∀ v, Lib.parseIntB 64 s.data.toList ≠ .ok v) :
    Calls Tryz.prog 73 #[.string s, .int .i64 10, .int .i64 64] w fun e w' => ∃ n t p, e = .returned (.tuple #[.int .i64 n, .iface t p]) ∧ Below w.heap.size w w' := by
  obtain ⟨_, ⟨tp, p, hsyn⟩, ⟨tp', p', hrng⟩, _⟩ := hw
  rcases hp : Lib.parseIntB 64 s.data.toList with v | _ | _
  · exact absurd hp (h v)
  · refine (Any.strconv_ParseInt_10_at64_syntax Tryz.laysC174 s (by omega) hp _ w hsyn (.inr ⟨_, _, rfl⟩)).mono ?_
    rintro e w' ⟨N, rfl, _, _, hb⟩
    exact ⟨_, _, _, rfl, hb⟩
  · refine (Tryz.strconv_ParseInt_10_at64_range s (by omega) hp _ w hrng (.inr ⟨_, _, rfl⟩)).mono ?_
    rintro e w' ⟨N, rfl, _, _, hb⟩
    exact ⟨_, _, _, rfl, hb⟩
theorem ParseInt_ok (s : ByteArray) (hs : s.size ≤ 140737488355328) (w : World) (v : Int) (h : Lib.parseIntB 64 s.data.toList = .ok v) :
    Calls Tryz.prog 73 #[.string s, .int .i64 10, .int .i64 64] w fun e w' => e = .returned (.tuple #[.int .i64 v, .nilIface]) ∧ Below w.heap.size w w' := by
  refine (Tryz.strconv_ParseInt_10_at64_ok s (by omega) v h w).mono ?_
  rintro e w' ⟨rfl, hw⟩
  refine ⟨rfl, ?_⟩
  rcases hw with rfl | ⟨t, rfl⟩
  · exact Below.refl _ _
  · exact bytes_below (Below.refl _ _) (Nat.le_refl _) _ _
theorem FormatInt_any (n : Int) (h0 : -9223372036854775808 ≤ n) (h1 : n ≤ 9223372036854775807) (w : World) (hw : Laid w) :
    Calls Tryz.prog 16 #[.int .i64 n, .int .i64 10] w fun e w' => e = .returned (.string (sb (Lib.itoa n))) ∧ Below w.heap.size w w' := by
  refine (Tryz.strconv_FormatInt_10 n h0 h1 w hw.tab).mono ?_
  rintro e w' ⟨rfl, k, os, rfl⟩
  exact ⟨rfl, Lib.below_grow _ w (Nat.le_refl _) k os⟩
theorem parseIntB_range (l : CS.Bs) (v : Int) (h : Lib.parseIntB 64 l = .ok v) : -9223372036854775808 ≤ v ∧ v ≤ 9223372036854775807 := by
  unfold Lib.parseIntB at h
  cases l with
  | nil => cases h
  | cons c r =>
    simp only at h
    split at h
    · cases h
    · cases h
    · rename_i u hu
      split at h
      · cases h
      · rename_i h1
        split at h
        · cases h
        · rename_i h2
          cases h
          have e63 : (2 : Nat) ^ (64 - 1) = 9223372036854775808 := by decide
          rw [e63] at h1 h2
          split
          · rename_i hn
            have : ¬ 9223372036854775808 < u := fun h => h2 ⟨hn, h⟩
            omega
          · rename_i hn
            have : ¬ 9223372036854775808 ≤ u := fun h => h1 ⟨hn, h⟩
            omega

def IntPost (l : CS.Bs) (w : World) (e : Ending) (w' : World) : Prop :=
  ∃ n, e = .returned (.tuple #[.int .i64 n, .bool (CS.intOf l).isSome]) ∧ (∀ v, CS.intOf l = some v → n = v) ∧ Below w.heap.size w w'

set_option maxRecDepth 100000 in
set_option maxHeartbeats 1000000 in
theorem Int_any (s : ByteArray) (w : World) (hs : s.size ≤ 140737488355328) (hw : Laid w) :
    Calls Tryz.prog 58 #[.string s] w (IntPost s.data.toList w) := by
  have HL := Aside0.mk hw
  clear hw
  by_cases hok : ∃ v, Lib.parseIntB 64 s.data.toList = .ok v
  · obtain ⟨v, hv⟩ := hok
    have HV := Aside0.mk hv
    clear hv
    go_enter Tryz.func58, Tryz.ntmps58
    go_wp2_with fail
    refine (ParseInt_ok s hs _ v HV.out).mono ?_
    rintro e w1 ⟨rfl, hb1⟩
    have HB1 := Aside0.mk hb1
    clear hb1
    go_wp2_with fail
    have hr := parseIntB_range _ v HV.out
    refine (FormatInt_any v hr.1 hr.2 _ (HL.out.below HB1.out)).mono ?_
    rintro e w2 ⟨rfl, hb2⟩
    have HB2 := Aside0.mk hb2
    clear hb2 hr
    go_wp2
    go_ret2
    have hI : CS.intOf s.data.toList = if Lib.itoa v = s.data.toList then some v else none := by
      unfold CS.intOf
      rw [HV.out]
    have hbb : Below w.heap.size w w2 := below_then HB1.out HB1.out.size HB2.out
    refine ⟨v, ?_, ?_, hbb⟩
    · have : ((sb (Lib.itoa v)).toList == s.toList) = (CS.intOf s.data.toList).isSome := by
        rw [ByteArray.toList_eq, ByteArray.toList_eq, sb_data, hI]
        by_cases he : Lib.itoa v = s.data.toList
        · rw [if_pos he]; simp [he]
        · rw [if_neg he]; simpa using he
      rw [← this]
      rfl
    · intro v' hv'
      rw [hI] at hv'
      split at hv'
      · cases hv'; rfl
      · cases hv'
  · have HN : Aside0 (∀ v, Lib.parseIntB 64 s.data.toList ≠ .ok v) := ⟨fun v h => hok ⟨v, h⟩⟩
    have HI : Aside0 (CS.intOf s.data.toList = none) := ⟨by
      unfold CS.intOf
      split
      · rename_i v h; exact absurd h (HN.out v)
      · rfl⟩
    clear hok
    go_enter Tryz.func58, Tryz.ntmps58
    go_wp2_with fail
    refine (ParseInt_err s hs _ HL.out HN.out).mono ?_
    rintro e w1 ⟨n, t, p, rfl, hb1⟩
    have HB1 := Aside0.mk hb1
    clear hb1
    go_wp2
    go_ret2
    exact ⟨n, by rw [HI.out]; rfl, (fun v h => by rw [HI.out] at h; cases h), HB1.out⟩
end Go.Proofs.YtpapbigghiiolaaGreatDoor
