/- Which names files may have: the document's Right, the disk's right. -/
import Derived.Test.YtpcfnkmljchiiaaDoorProg
import Derived.Test.YtpcfnkmljchiiaaDoorWWords
import Derived.RowKit3
import Derived.Below
import Derived.Tactics2
import Derived.LoopIn
import Derived.IntWalk
import Derived.Lib.ConvBytes
import Derived.Laws.OwnMore
namespace Go.Proofs.YtpcfnkmljchiiaaDoor.Right
open Go Go.RowKit Go.Proofs.YtpcfnkmljchiiaaDoorW.PrintWords
set_option linter.unusedVariables false
set_option linter.unusedSimpArgs false
/-- May a byte stand in a name? -/
def okI (x : Int) : Bool := decide (97 ≤ x ∧ x ≤ 122 ∨ 48 ≤ x ∧ x ≤ 57 ∨ x = 45 ∨ x = 46)
def okC (c : UInt8) : Bool := okI (c.toNat : Int)
/-- May it be a name? -/
def rightB (s : ByteArray) : Bool := s.data.toList.all okC && (decide (0 < s.size) && decide (s.size ≤ 24))
theorem all_take (s : ByteArray) (m : Nat) (h : m < s.size) : (s.data.toList.take (m + 1)).all okC = ((s.data.toList.take m).all okC && okC (s[m]'h)) := by
  have hgl : m < s.data.toList.length := by simpa using h
  have hget : s.data.toList[m]? = some (s[m]'h) := by rw [List.getElem?_eq_getElem hgl]; rfl
  rw [List.take_add_one, hget, List.all_append]
  simp
theorem all_no (s : ByteArray) (m : Nat) (h : m < s.size) (hn : okC (s[m]'h) = false) : s.data.toList.all okC = false := by
  have hgl : m < s.data.toList.length := by simpa using h
  rw [List.all_eq_false]
  exact ⟨s.data.toList[m]'hgl, List.getElem_mem hgl, by rw [show s.data.toList[m]'hgl = s[m]'h from rfl, hn]; simp⟩
set_option maxRecDepth 100000 in
set_option maxHeartbeats 4000000 in
theorem refRight_calls (s : ByteArray) (hs : s.size < 9223372036854775807) (w : World) : Calls Tryd.prog 9 #[.string s] w fun e w' => e = .returned (.bool (rightB s)) ∧ Below w.heap.size w w' := by
  obtain ⟨r, hr⟩ : ∃ r, r = rightB s := ⟨_, rfl⟩
  have HR := Aside0.mk hr
  rw [← hr]
  clear hr
  go_enter Tryd.func9, Tryd.ntmps9
  go_wp2
  go_loopw [3] (fun i wr => ∃ m : Nat, m ≤ s.size ∧ i = .int .i64 m ∧ Aside0 ((s.data.toList.take m).all okC = true) ∧ wr = w) (fun i _ => s.size - (intOf i).toNat)
  case atStart => exact ⟨0, Nat.zero_le _, rfl, ⟨by simp⟩, rfl⟩
  case round =>
    obtain ⟨m, hm, rfl, HA, rfl⟩ := hrel
    by_cases hlt : m < s.size
    · have t1 : decide ((m : Int) < (s.size : Int)) = true := decide_eq_true (by omega)
      have HT := Aside0.mk (all_take s m hlt)
      have HN := Aside0.mk (all_no s m hlt)
      obtain ⟨x, hx⟩ : ∃ x : Int, ((s[m]'hlt).toNat : Int) = x := ⟨_, rfl⟩
      have HX := Aside0.mk (show okC (s[m]'hlt) = okI x by rw [okC, hx])
      have hw : IntKind.i64.wrap ((m : Int) + 1) = (m : Int) + 1 := IntWalk.i64_in _ ⟨by omega, by omega⟩
      by_cases e45 : x = 45
      · have b45 : (x == 45) = true := beq_iff_eq.2 e45
        have HY : Aside0 (okI x = true) := ⟨by rw [e45]; rfl⟩
        have q1 : decide (97 ≤ x) = false := decide_eq_false (by omega)
        have q2 : decide (48 ≤ x) = false := decide_eq_false (by omega)
        clear e45
        go_wp2
        all_goals
          go_roundw
          case rel => exact ⟨m + 1, by omega, by go_num, ⟨by rw [HT.out, HA.out, HX.out, HY.out]; rfl⟩, trivial⟩
          case measure => simp [intOf]; omega
      · by_cases e46 : x = 46
        · have b45 : (x == 45) = false := beq_eq_false_iff_ne.2 e45
          have b46 : (x == 46) = true := beq_iff_eq.2 e46
          have HY : Aside0 (okI x = true) := ⟨by rw [e46]; rfl⟩
          have q1 : decide (97 ≤ x) = false := decide_eq_false (by omega)
          have q2 : decide (48 ≤ x) = false := decide_eq_false (by omega)
          clear e45 e46
          go_wp2
          all_goals
            go_roundw
            case rel => exact ⟨m + 1, by omega, by go_num, ⟨by rw [HT.out, HA.out, HX.out, HY.out]; rfl⟩, trivial⟩
            case measure => simp [intOf]; omega
        · have b45 : (x == 45) = false := beq_eq_false_iff_ne.2 e45
          have b46 : (x == 46) = false := beq_eq_false_iff_ne.2 e46
          have HE := Aside0.mk (And.intro e45 e46)
          clear e45 e46
          go_wp2
          all_goals first
            | (have HY : Aside0 (okI x = true) := ⟨by simp only [okI, decide_eq_true_eq]; omega⟩
               go_roundw
               case rel => exact ⟨m + 1, by omega, by go_num, ⟨by rw [HT.out, HA.out, HX.out, HY.out]; rfl⟩, trivial⟩
               case measure => simp [intOf]; omega)
            | (exfalso; rename_i hq; simp only [Bool.not_eq_eq_eq_not, Bool.not_false, decide_eq_true_eq] at hq; omega)
            | (have HZ : Aside0 (s.data.toList.all okC = false) := ⟨HN.out (HX.out.trans (by have := HE.out; simp only [okI, decide_eq_false_iff_not]; omega))⟩
               refine bodyPost_ret (v := .bool false) (by simp [results, Tryd.results9, go_sem]) rfl ⟨by rw [HR.out, rightB, HZ.out]; rfl, Below.refl _ _⟩)
    · have hms : m = s.size := by omega
      subst hms
      have t1 : decide ((s.size : Int) < (s.size : Int)) = false := decide_eq_false (by omega)
      have hall : s.data.toList.all okC = true := by
        have := HA.out
        rwa [List.take_of_length_le (by simp)] at this
      have HR2 : Aside0 (r = (decide (0 < s.size) && decide (s.size ≤ 24))) := ⟨by rw [HR.out, rightB, hall, Bool.true_and]⟩
      by_cases h0 : 0 < s.size
      · by_cases h24 : s.size ≤ 24
        · have u1 : decide (0 < (s.size : Int)) = true := decide_eq_true (by omega)
          have u2 : decide ((s.size : Int) ≤ 24) = true := decide_eq_true (by omega)
          go_wp2
          go_ret
          exact ⟨by rw [HR2.out, decide_eq_true h0, decide_eq_true h24]; rfl, Below.refl _ _⟩
        · have u1 : decide (0 < (s.size : Int)) = true := decide_eq_true (by omega)
          have u2 : decide ((s.size : Int) ≤ 24) = false := decide_eq_false (by omega)
          go_wp2
          go_ret
          exact ⟨by rw [HR2.out, decide_eq_true h0, decide_eq_false h24]; rfl, Below.refl _ _⟩
      · have u1 : decide (0 < (s.size : Int)) = false := decide_eq_false (by omega)
        go_wp2
        go_ret
        exact ⟨by rw [HR2.out, decide_eq_false h0]; rfl, Below.refl _ _⟩
theorem bytes_below (w : World) (e : TypeId) (s : ByteArray) : Below w.heap.size w (Lib.bytesWorld w e s) := by
  have hg : w.grownBy (Lib.bytesWorld w e s) none := by
    refine ⟨?_, ?_, ?_, by rw [Lib.bytesWorld_size]; omega, fun k hk _ => Lib.bytesWorld_at_old w e s k hk⟩
    all_goals (simp only [Lib.bytesWorld, World.freeze]; split <;> rfl)
  exact (Below.refl _ w).grown hg (Nat.le_refl _) (fun k e => by cases e)
set_option maxRecDepth 100000 in
set_option maxHeartbeats 4000000 in
theorem right_calls (s : ByteArray) (hs : s.size < 9223372036854775807) (w : World) : Calls Tryd.prog 66 #[.string s] w fun e w' => e = .returned (.bool (rightB s)) ∧ Below w.heap.size w w' := by
  obtain ⟨r, hr⟩ : ∃ r, r = rightB s := ⟨_, rfl⟩
  have HR := Aside0.mk hr
  rw [← hr]
  clear hr
  have hcv := Lib.run_convert_string_bytes (P := Tryd.prog) w 9 37 5 s Tryd.underlying9 Tryd.underlying37 Tryd.underlying5
  obtain ⟨cap, hcap⟩ : ∃ c, c = grownCap w s.size 0 5 := ⟨_, rfl⟩
  have hcs : s.size ≤ cap := by rw [hcap]; exact grownCap_ge w _ _ _
  rw [← hcap] at hcv
  clear hcap
  have HB := Aside0.mk (bytes_below w 5 s)
  have HC := Aside0.mk (fun j hj => Lib.bytesWorld_cell w 5 s j hj)
  obtain ⟨W1, hW1⟩ : ∃ x, x = Lib.bytesWorld w 5 s := ⟨_, rfl⟩
  rw [← hW1] at hcv HB HC
  clear hW1
  go_enter Tryd.func66, Tryd.ntmps66
  go_wp2
  go_loopw [8] (fun i wr => ∃ m : Nat, m ≤ s.size ∧ i = .int .i64 m ∧ Aside0 ((s.data.toList.take m).all okC = true) ∧ wr = W1) (fun i _ => s.size - (intOf i).toNat)
  case atStart => exact ⟨0, Nat.zero_le _, rfl, ⟨by simp⟩, rfl⟩
  case round =>
    obtain ⟨m, hm, rfl, HA, rfl⟩ := hrel
    by_cases hlt : m < s.size
    · have t1 : decide ((m : Int) < (s.size : Int)) = true := decide_eq_true (by omega)
      have HT := Aside0.mk (all_take s m hlt)
      have HN := Aside0.mk (all_no s m hlt)
      have hcell := HC.out m hlt
      rw [show (s.data.toList.getD m 0) = s[m]'hlt by rw [List.getD_eq_getElem?_getD, List.getElem?_eq_getElem (by simpa using hlt)]; rfl] at hcell
      obtain ⟨x, hx⟩ : ∃ x : Int, ((s[m]'hlt).toNat : Int) = x := ⟨_, rfl⟩
      rw [hx] at hcell
      have HX := Aside0.mk (show okC (s[m]'hlt) = okI x by rw [okC, hx])
      have hw : IntKind.i64.wrap ((m : Int) + 1) = (m : Int) + 1 := IntWalk.i64_in _ ⟨by omega, by omega⟩
      clear hx
      by_cases e45 : x = 45
      · have HY : Aside0 (okI x = true) := ⟨by rw [e45]; rfl⟩
        have b45 : (x != 45) = false := by rw [e45]; rfl
        have q1 : decide (x < 97) = true := decide_eq_true (by omega)
        have q2 : decide (x < 48) = true := decide_eq_true (by omega)
        clear e45
        go_wp2
        all_goals
          go_roundw
          case rel => exact ⟨m + 1, by omega, by go_num, ⟨by rw [HT.out, HA.out, HX.out, HY.out]; rfl⟩, trivial⟩
          case measure => simp [intOf]; omega
      · by_cases e46 : x = 46
        · have HY : Aside0 (okI x = true) := ⟨by rw [e46]; rfl⟩
          have b45 : (x != 45) = true := bne_iff_ne.2 e45
          have b46 : (x != 46) = false := by rw [e46]; rfl
          have q1 : decide (x < 97) = true := decide_eq_true (by omega)
          have q2 : decide (x < 48) = true := decide_eq_true (by omega)
          clear e45 e46
          go_wp2
          all_goals
            go_roundw
            case rel => exact ⟨m + 1, by omega, by go_num, ⟨by rw [HT.out, HA.out, HX.out, HY.out]; rfl⟩, trivial⟩
            case measure => simp [intOf]; omega
        · have b45 : (x != 45) = true := bne_iff_ne.2 e45
          have b46 : (x != 46) = true := bne_iff_ne.2 e46
          have HE := Aside0.mk (And.intro e45 e46)
          clear e45 e46
          go_wp2
          all_goals first
            | (have HY : Aside0 (okI x = true) := ⟨by simp only [okI, decide_eq_true_eq]; omega⟩
               go_roundw
               case rel => exact ⟨m + 1, by omega, by go_num, ⟨by rw [HT.out, HA.out, HX.out, HY.out]; rfl⟩, trivial⟩
               case measure => simp [intOf]; omega)
            | (exfalso; rename_i hq; simp only [Bool.not_eq_eq_eq_not, Bool.not_false, decide_eq_true_eq] at hq; omega)
            | (have HZ : Aside0 (s.data.toList.all okC = false) := ⟨HN.out (HX.out.trans (by have := HE.out; simp only [okI, decide_eq_false_iff_not]; omega))⟩
               refine bodyPost_ret (v := .bool false) (by simp [results, Tryd.results66, go_sem]) rfl ⟨by rw [HR.out, rightB, HZ.out]; rfl, HB.out⟩)
    · have hms : m = s.size := by omega
      subst hms
      have t1 : decide ((s.size : Int) < (s.size : Int)) = false := decide_eq_false (by omega)
      have hall : s.data.toList.all okC = true := by
        have := HA.out
        rwa [List.take_of_length_le (by simp)] at this
      have HR2 : Aside0 (r = (decide (0 < s.size) && decide (s.size ≤ 24))) := ⟨by rw [HR.out, rightB, hall, Bool.true_and]⟩
      by_cases h0 : 0 < s.size
      · by_cases h24 : s.size ≤ 24
        · have u1 : decide (1 ≤ (s.size : Int)) = true := decide_eq_true (by omega)
          have u2 : decide ((s.size : Int) ≤ 24) = true := decide_eq_true (by omega)
          go_wp2
          go_ret
          exact ⟨by rw [HR2.out, decide_eq_true h0, decide_eq_true h24]; rfl, HB.out⟩
        · have u1 : decide (1 ≤ (s.size : Int)) = true := decide_eq_true (by omega)
          have u2 : decide ((s.size : Int) ≤ 24) = false := decide_eq_false (by omega)
          go_wp2
          go_ret
          exact ⟨by rw [HR2.out, decide_eq_true h0, decide_eq_false h24]; rfl, HB.out⟩
      · have u1 : decide (1 ≤ (s.size : Int)) = false := decide_eq_false (by omega)
        go_wp2
        go_ret
        exact ⟨by rw [HR2.out, decide_eq_false h0]; rfl, HB.out⟩
end Go.Proofs.YtpcfnkmljchiiaaDoor.Right
