/- smtp.Data: lines as data; lines stuffed come back. -/
import Derived.Test.YtjggdkcfpdhoaaaDoorRest
namespace Go.Proofs.YtjggdkcfpdhoaaaDoor.Data
open Go Go.RowKit Go.Proofs.YtjggdkcfpdhoaaaDoorW.PrintWords Go.Proofs.YtjggdkcfpdhoaaaDoor.Take Go.Proofs.YtjggdkcfpdhoaaaDoor.Bld Go.Proofs.YtjggdkcfpdhoaaaDoor.Reply Go.Proofs.YtjggdkcfpdhoaaaDoor.Rest
set_option linter.unusedVariables false
set_option linter.unusedSimpArgs false
/-- The first k lines, stuffed, each with its end. -/
def accD (ls : List ByteArray) : Nat → List UInt8
  | 0 => []
  | k + 1 => accD ls k ++ (stuffB (ls.getD k ByteArray.empty) ++ crlf).data.toList
def dataB (ls : List ByteArray) : ByteArray := ((⟨(accD ls ls.length).toArray⟩ : ByteArray) ++ (⟨#[46]⟩ : ByteArray)) ++ crlf
/-- Texts that lie in a row. -/
def SliceS (A : Option Addr) (ls : List ByteArray) (W : World) : Prop :=
  0 < ls.length → ∃ ad : Addr, A = some ad ∧ ∀ j : Nat, j < ls.length → W.cell? (ad.add j) = some (.string (ls.getD j ByteArray.empty))
theorem SliceS.below {A : Option Addr} {ls : List ByteArray} {W W2 : World} (h : SliceS A ls W) (hb : Below W.heap.size W W2) : SliceS A ls W2 := fun hl => by
  obtain ⟨ad, e, hc⟩ := h hl
  exact ⟨ad, e, fun j hj => (hb.cell (p := ad.add j) (World.block_lt_of_cell? W _ (hc j hj))).trans (hc j hj)⟩
theorem stuff_size (s : ByteArray) : (stuffB s).size ≤ s.size + 1 := by
  unfold stuffB
  split
  · rw [ByteArray.size_append]
    have : (⟨#[46]⟩ : ByteArray).size = 1 := rfl
    omega
  · omega
theorem getD_size (ls : List ByteArray) (hsz : ∀ l ∈ ls, l.size ≤ 1000) (k : Nat) : (ls.getD k ByteArray.empty).size ≤ 1000 := by
  rw [List.getD_eq_getElem?_getD]
  cases h : ls[k]? with
  | none => exact Nat.zero_le _
  | some l => exact hsz l (List.mem_of_getElem? h)
theorem accD_size (ls : List ByteArray) : ∀ k, (∀ j, j < k → (ls.getD j ByteArray.empty).size ≤ 1000) → (accD ls k).length ≤ k * 1100 := by
  intro k
  induction k with
  | zero => intro _; exact Nat.zero_le _
  | succ k ih =>
    intro hsz
    have h1 := ih (fun j hj => hsz j (by omega))
    have h2 := hsz k (by omega)
    have h3 := stuff_size (ls.getD k ByteArray.empty)
    have h4 : (stuffB (ls.getD k ByteArray.empty) ++ crlf).data.toList.length = (stuffB (ls.getD k ByteArray.empty)).size + 2 := by
      rw [data_length, ByteArray.size_append]; rfl
    rw [accD, List.length_append]
    omega
theorem stuff_un (s : ByteArray) : unF (stuffB s) = true ∧ unV (stuffB s) = s := by
  have key : unF (stuffB s) = true ∧ preT (stuffB s) 46 = s := by
    have hl : ∀ x : ByteArray, (⟨x.data.toList.toArray⟩ : ByteArray) = x := fun x => by cases x; simp
    cases hp : preF s 46 with
    | false =>
      have e : stuffB s = s := if_neg (by rw [hp]; simp)
      rw [e]
      refine ⟨by rw [unF, hp]; rfl, ?_⟩
      have hp2 : Lib.hasPrefix s.data.toList [46] = false := hp
      rw [preT, Lib.trimPrefix, hp2]
      exact hl s
    | true =>
      have e : stuffB s = (⟨#[46]⟩ : ByteArray) ++ s := if_pos hp
      have ed : (stuffB s).data.toList = 46 :: s.data.toList := by
        rw [e]
        have : ((⟨#[46]⟩ : ByteArray) ++ s).data = #[46] ++ s.data := ByteArray.data_append
        rw [this]
        simp
      have hh : Lib.hasPrefix (stuffB s).data.toList [46] = true := by rw [ed]; simp [Lib.hasPrefix, List.isPrefixOf]
      have ht : preT (stuffB s) 46 = s := by
        rw [preT, Lib.trimPrefix, hh, if_pos rfl, ed]
        exact hl s
      refine ⟨?_, ht⟩
      have hp2 : Lib.hasPrefix s.data.toList [46] = true := hp
      have hne : s.toList.isEmpty = false := by
        rw [Dots.toList_data]
        cases h : s.data.toList with
        | nil => rw [h] at hp2; simp [Lib.hasPrefix] at hp2
        | cons a l => rfl
      rw [unF, ht, hne, Bool.and_false]
      rfl
  refine ⟨key.1, ?_⟩
  rw [unV, if_pos key.1]
  exact key.2
set_option maxRecDepth 100000 in
set_option maxHeartbeats 4000000 in
theorem data_calls (ls : List ByteArray) (h100 : ls.length ≤ 100) (hsz : ∀ l ∈ ls, l.size ≤ 1000) (A : Option Addr) (cp : Nat) (w : World) (hA : SliceS A ls w) :
    Calls Tryd.prog 13 #[.slice A ls.length cp] w fun e w' => e = .returned (.string (dataB ls)) ∧ Below w.heap.size w w' := by
  have HA := Aside0.mk hA
  have HZ := Aside0.mk (fun k => accD_size ls k (fun j _ => getD_size ls hsz j))
  have HG := Aside0.mk (getD_size ls hsz)
  obtain ⟨r, hr⟩ : ∃ x, x = dataB ls := ⟨_, rfl⟩
  rw [← hr]
  have HR := Aside0.mk hr
  obtain ⟨n, hn⟩ : ∃ n, n = ls.length := ⟨_, rfl⟩
  rw [← hn] at h100 ⊢
  have HN := Aside0.mk hn
  clear hA hsz hr hn
  go_enter Tryd.func13, Tryd.ntmps13
  go_wp2
  have HIB := Aside0.mk (show IsB w.heap.size w.heap.size [] (w.alloc (Obj.cells #[.pointer none, .slice none 0 0] 54)) from Lib.fresh_isBuilder _ _ w)
  have HB0 := Aside0.mk (show Below w.heap.size w (w.alloc (Obj.cells #[.pointer none, .slice none 0 0] 54)) from (Below.refl _ w).alloc (Nat.le_refl _) _)
  go_loopw [8] (fun i wr => ∃ k : Nat, k ≤ n ∧ i = .int .i64 k ∧ Aside0 (Below w.heap.size w wr) ∧ Aside0 (IsB w.heap.size w.heap.size (accD ls k) wr)) (fun i _ => n - (intOf i).toNat)
  case atStart => exact ⟨0, Nat.zero_le _, rfl, HB0, HIB⟩
  case round =>
    clear HB0 HIB
    obtain ⟨k, hk, rfl, HB, HIB⟩ := hrel
    by_cases hlt : k < n
    · obtain ⟨ad, rfl, hc⟩ := HA.out.below HB.out (by rw [← HN.out]; omega)
      have hcell := hc k (by rw [← HN.out]; exact hlt)
      have hlz := HG.out k
      have HACC := Aside0.mk (show accD ls (k + 1) = accD ls k ++ (stuffB (ls.getD k ByteArray.empty) ++ crlf).data.toList from rfl)
      have HLEN := Aside0.mk (HZ.out k)
      obtain ⟨l, hl⟩ : ∃ x, x = ls.getD k ByteArray.empty := ⟨_, rfl⟩
      rw [← hl] at hcell hlz HACC
      have hsl := stuff_size l
      have HST := Aside0.mk (fun W => stuff_calls l (by omega) W)
      obtain ⟨s, hs⟩ : ∃ x, x = stuffB l := ⟨_, rfl⟩
      rw [← hs] at HACC hsl HST
      clear hl hc hs
      have f1 : ¬ 9223372036854775807 < s.size + 2 := by omega
      have HSZ := Aside0.mk (show s.size ≤ 1001 by omega)
      have t4 : decide ((k : Int) < (n : Int)) = true := decide_eq_true (by omega)
      clear hsl
      go_wp2_with (first
        | (go_at_call 11; refine (HST.out _).mono ?_; rintro e w1 ⟨rfl, rfl⟩)
        | (go_at_call 23; refine (write_calls w.heap.size w.heap.size _ (s ++ crlf) _ HIB.out (by have := HLEN.out; have := HSZ.out; rw [Lib.byteCells_length, ByteArray.size_append]; have : crlf.size = 2 := rfl; omega) HB.out.size).mono ?_; rintro e w3 ⟨rfl, hbd, hb3⟩; have HBD := Aside0.mk hbd; have HB3 := Aside0.mk (HB.out.trans hb3); clear hbd hb3))
      go_roundw
      case rel => exact ⟨k + 1, by omega, by go_num, HB3, ⟨by rw [IsB, HACC.out, Lib.byteCells_append]; exact .inr HBD.out⟩⟩
      case measure => simp [intOf]; omega
    · have hks : k = n := by omega
      subst hks
      have t4 : decide ((k : Int) < (k : Int)) = false := decide_eq_false (by omega)
      have hr1 : r = ((⟨(accD ls k).toArray⟩ : ByteArray) ++ (⟨#[46]⟩ : ByteArray)) ++ (⟨#[13, 10]⟩ : ByteArray) := by rw [HR.out, dataB, ← HN.out]; rfl
      have HR1 := Aside0.mk hr1
      have hzk : (accD ls k).length ≤ 110000 := by have := HZ.out k; omega
      have f2 : ¬ 9223372036854775807 < (accD ls k).length + 1 := by omega
      have f3 : ¬ 9223372036854775807 < (accD ls k).length + 1 + 2 := by omega
      clear hr1 HR
      go_wp2_with (go_at_call 24; refine (Tryd.Builder_String_any w.heap.size w.heap.size (accD ls k) _ HIB.out HB.out.size).mono ?_; rintro e w3 ⟨rfl, hb3⟩; have HB3 := Aside0.mk (HB.out.trans hb3); clear hb3)
      go_ret
      exact ⟨by rw [HR1.out]; rfl, HB3.out⟩
end Go.Proofs.YtjggdkcfpdhoaaaDoor.Data
