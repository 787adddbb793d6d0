/- boxes.Match: a copy, what the pattern doesn't fit struck, sorted, each once. -/
import Derived.Test.YthlofokgbogndabDel
import Derived.Test.YthlofokgbogndabSh
namespace Go.Proofs.Ythlofokgbogndab.GBoxes
open Go.RowKit Go.Sort Go.Proofs.YthlofokgbogndabW.PrintWords
set_option linter.unusedVariables false
set_option linter.unusedSimpArgs false
theorem Del.parts {w0 w : World} {B cap : Nat} {xs : List (List UInt8)} (h : Del w0 B cap w xs) : ∃ cur, w.heap[B]? = some (.cells cur 9 (0, 0)) ∧ cur.size = cap * 1 := by
  rcases h.row.2 with ⟨e, _⟩ | ⟨g, c, cur, e, k1, k2, k3, k4, k5, k6⟩
  · cases e
  · simp only [Value.slice.injEq, Option.some.injEq, Addr.mk.injEq, true_and, and_true] at e
    obtain ⟨rfl, rfl⟩ := e
    exact ⟨cur, k2, k5⟩
def srt (xs : List (List UInt8)) : List (List UInt8) := xs.mergeSort fun x y => decide (x ≤ y)
theorem srt_length (xs : List (List UInt8)) : (srt xs).length = xs.length := List.length_mergeSort _
theorem Del.sorted {w0 w : World} {B cap n : Nat} {os : Array Obj} {xs : List (List UInt8)} (h : Del w0 B cap w xs) : Del w0 B cap (grow (putRow encStr (Sort.ahead w n) B 0 (srt xs).toArray) os) (srt xs) := by
  obtain ⟨cur, h1, h2⟩ := h.parts
  have hb := h.base
  refine ⟨h.bel.grown (grownBy_sorted _) h.bel.size (fun k e => by cases e; exact hb.1), ?_⟩
  have := ownsRow_sorted (n := n) (os := os) (srt_length xs) hb.1 h1 hb.2.2.1 hb.2.2.2.1 h2
  rw [srt_length]
  exact this
theorem Del.compacted {w0 w : World} {B cap q : Nat} {xs : List (List UInt8)} (h : Del w0 B cap w xs) (hl : (Lib.compact xs).length ≤ xs.length) : Del w0 B cap (putRow encStr (Sort.ahead w q) B 0 (Lib.compact xs ++ List.replicate (xs.length - (Lib.compact xs).length) []).toArray) (Lib.compact xs) := by
  have hr := Lib.ownsRow_putRow (q := q) (k := (Lib.compact xs).length) (ys := Lib.compact xs ++ List.replicate (xs.length - (Lib.compact xs).length) []) h.row (by rw [List.length_append, List.length_replicate]; omega) hl
  rw [List.take_left] at hr
  exact ⟨Lib.below_putRow h.bel h.base.1, hr⟩
theorem add_off (g o j : Nat) : (⟨g, o, none⟩ : Addr).add j = ⟨g, o + j, none⟩ := by unfold Addr.add; split <;> simp_all
theorem below_lit0 (w : World) (o : Obj) : Below w.heap.size w (w.alloc o) := (Below.refl _ w).alloc (Nat.le_refl _) o
def bytesL (s : ByteArray) : List UInt8 := s.data.toList
theorem strB_bytesL (s : ByteArray) : strB (bytesL s) = s := by
  show (⟨s.data.toList.toArray⟩ : ByteArray) = s
  rw [Array.toArray_toList]
def fitQ (pat : ByteArray) (u : List UInt8) : Bool := (boxes_Fits.f pat (strB u)).getD false
def boxes_Match.f (l0 : List ByteArray) (a1 : ByteArray) : Option (List ByteArray) :=
  if l0.length ≤ 1000 ∧ a1.size ≤ 1000000 ∧ ∀ s ∈ l0, s.size ≤ 1000000 then some ((Lib.compact (srt ((l0.map bytesL).filter (fitQ a1)))).map strB) else none
theorem compact_le (xs : List (List UInt8)) : (Lib.compact xs).length ≤ xs.length := by
  exact Lib.compact_length_le xs
theorem fit_some (pat s : ByteArray) (h1 : pat.size ≤ 1000000) (h2 : s.size ≤ 1000000) : boxes_Fits.f pat (strB (bytesL s)) = some (fitQ pat (bytesL s)) := by
  rw [fitQ, strB_bytesL, boxes_Fits.f, if_pos ⟨h1, h2⟩]
  rfl
/-- IndexFunc and DeleteFunc at nil. -/
theorem idx_nil (F : Value) (w : World) : Calls Try.prog 27 #[.slice none 0 0, F] w fun e w' => e = .returned (.int .i64 (-1)) ∧ w' = w := by
  go_enter Try.func27, Try.ntmps27
  go_wp2
  refine wp_loop_rounds 1 ?_
  rw [rounds_succ]
  go_wp2
  go_ret
  exact ⟨rfl, rfl⟩
theorem del_nil (F : Value) (w : World) : Calls Try.prog 20 #[.slice none 0 0, F] w fun e w' => e = .returned (.slice none 0 0) ∧ w' = w := by
  go_enter Try.func20, Try.ntmps20
  go_wp2_with (go_at_call 27; refine (idx_nil _ _).mono ?_; rintro e w1 ⟨rfl, rfl⟩)
  go_ret
  exact ⟨rfl, rfl⟩
/-- What Clone makes. -/
theorem clone_shape {w0 w1 : World} {v : Value} {l : List ByteArray} {n : Nat} (hn : n = l.length) (hrow : w1.ownsRow w0.heap.size 9 1 v n ((l.take n).map Value.string)) (hne : v ≠ .slice none 0 0) (hb : Below w0.heap.size w0 w1) : ∃ B cap, v = .slice (some ⟨B, 0, none⟩) l.length cap ∧ Del w0 B cap w1 (l.map bytesL) := by
  subst hn
  rw [List.take_length] at hrow
  obtain ⟨B, cap, rfl, h1, h2, h3, h4, h5, h6⟩ := Lib.holds_of_ownsRow (enc := Value.string) hrow hne
  refine ⟨B, cap, rfl, hb, ?_⟩
  have : (l.map bytesL).map encStr = l.map Value.string := Lib.map_encStr l
  rw [List.length_map, this]
  exact hrow
set_option maxHeartbeats 4000000 in
theorem boxes_Match.calls (A0 : Option Addr) (c0 : Nat) (l0 : List ByteArray) (a1 : ByteArray) (r : List ByteArray) (w : World) (hr0 : Kd.C Kd.string w A0 l0.length l0) (hc0 : l0.length ≤ c0) (h : boxes_Match.f l0 a1 = some r) :
    Calls Try.prog 15 #[.slice A0 l0.length c0, .string a1] w fun e w' => ∃ v0_ : Value, e = .returned (v0_) ∧ Kd.R Kd.string 9 w' w.heap.size (fun _ => True) v0_ r ∧ Below w.heap.size w w' := by
  unfold boxes_Match.f at h
  by_cases hs : l0.length ≤ 1000 ∧ a1.size ≤ 1000000 ∧ ∀ s ∈ l0, s.size ≤ 1000000
  case neg =>
    rw [if_neg hs] at h
    exact absurd h (by simp)
  rw [if_pos hs] at h
  obtain rfl := Option.some.inj h
  clear h
  obtain ⟨hs1, hs2, hs3⟩ := hs
  obtain ⟨w0, hw0⟩ : ∃ x, x = w.alloc (.cells #[.string a1] 9) := ⟨_, rfl⟩
  have hbel0 : Below w.heap.size w w0 := by rw [hw0]; exact (Below.refl _ w).alloc (Nat.le_refl _) _
  have hp0 : w0.cell? ⟨w.heap.size, 0, none⟩ = some (.string a1) := by rw [hw0, World.cell?_alloc_new]; rfl
  have hsz0 : w.heap.size ≤ w0.heap.size := hbel0.size
  cases A0 with
  | none =>
    have h0 : l0 = [] := by
      rcases Nat.eq_zero_or_pos l0.length with h | h
      · exact List.eq_nil_of_length_eq_zero h
      · obtain ⟨ad, h1, _⟩ := hr0.2.2 h
        exact absurd h1 (by simp)
    subst h0
    clear hr0 hc0 hs1 hs2 hs3 hp0 hsz0 hbel0 hw0 w0
    have hsl : (Lib.compact (srt ((([] : List ByteArray).map bytesL).filter (fitQ a1)))).map strB = [] := by
      have e : srt [] = [] := by simp [srt]
      rw [List.map_nil, List.filter_nil, e]
      rfl
    rw [hsl]
    clear hsl
    go_enter Try.func15, Try.ntmps15
    go_wp2_with (first
      | (go_at_call 21; refine (Try.slices_Clone_string_nil _ _ _).mono ?_; rintro e w1 ⟨rfl, rfl⟩)
      | (go_at_call 20; refine (del_nil _ _).mono ?_; rintro e w1 ⟨rfl, rfl⟩)
      | (go_at_call 23; refine (Try.slices_Sort_string_none _ _ _).mono ?_; rintro e w1 ⟨rfl, rfl⟩)
      | (go_at_call 24; refine (Try.slices_Compact_string_empty _ _ _).mono ?_; rintro e w1 ⟨rfl, rfl⟩))
    go_ret
    exact ⟨_, rfl, Kd.R_nil _ _ _ _ _, below_lit0 _ _⟩
  | some ad =>
    have hclone : Calls Try.prog 21 #[.slice (some ad) l0.length c0] w0 fun e w1 => ∃ B cap, e = .returned (.slice (some ⟨B, 0, none⟩) l0.length cap) ∧ Del w0 B cap w1 (l0.map bytesL) := by
      rcases Nat.eq_zero_or_pos l0.length with h0 | hpos
      · rw [h0]
        refine (Try.slices_Clone_string_zero ad c0 w0).mono fun e w1 h => ?_
        obtain ⟨v', rfl, k1, k2, k3⟩ := h
        have hnil : l0 = [] := List.eq_nil_of_length_eq_zero h0
        subst hnil
        obtain ⟨B, cap, rfl, hD⟩ := clone_shape (l := []) rfl k1 k2 k3
        exact ⟨B, cap, rfl, hD⟩
      · have hcell : ∀ j, j < l0.length → w.cell? (ad.add j) = some (.string (l0.getD j ByteArray.empty)) := fun j hj => by
          obtain ⟨ad', e, hc⟩ := Kd.at_string hr0 (j : Int) (by omega) (by omega)
          obtain rfl := Option.some.inj e
          exact hc
        obtain ⟨b, off, x⟩ := ad
        have hx : x = none := by
          have h1 := hcell 0 hpos
          cases x with
          | none => rfl
          | some y =>
            exfalso
            simp [World.cell?, Addr.add] at h1
            split at h1 <;> simp at h1
        subst hx
        refine (Try.slices_Clone_string b off l0.length c0 l0 w0 (Nat.le_refl _) (by omega) (fun j hj => ?_)).mono fun e w1 h => ?_
        · rw [hw0]
          exact Lib.cell?_alloc_some _ (by have h1 := hcell j hj; rw [add_off] at h1; exact h1)
        · obtain ⟨v', rfl, k1, k2, k3⟩ := h
          obtain ⟨B, cap, rfl, hD⟩ := clone_shape rfl k1 k2 k3
          exact ⟨B, cap, rfl, hD⟩
    have hfit : ∀ j, j < (l0.map bytesL).toArray.size → boxes_Fits.f a1 (strB ((l0.map bytesL).toArray[j]!)) = some (fitQ a1 ((l0.map bytesL).toArray[j]!)) := fun j hj => by
      have hj' : j < l0.length := by simpa using hj
      have e : (l0.map bytesL).toArray[j]! = bytesL l0[j] := by
        rw [getElem!_pos _ j hj]
        simp
      rw [e]
      exact fit_some a1 _ hs2 (hs3 _ (List.getElem_mem hj'))
    obtain ⟨F, hF⟩ : ∃ F, F = (l0.map bytesL).filter (fitQ a1) := ⟨_, rfl⟩
    have hdel : ∀ B cap w1, Del w0 B cap w1 (l0.map bytesL) → Calls Try.prog 20 #[.slice (some ⟨B, 0, none⟩) l0.length cap, .func (.func 22) #[] #[.pointer (some ⟨w.heap.size, 0, none⟩)]] w1 fun e w2 => e = .returned (.slice (some ⟨B, 0, none⟩) F.length cap) ∧ Del w0 B cap w2 F := fun B cap w1 hD => by
      have := del_calls w0 a1 w.heap.size B cap (l0.map bytesL).toArray (fitQ a1) w1 hp0 hD hfit (by simpa using hs1)
      rw [List.size_toArray, List.length_map] at this
      rw [hF]
      exact this
    have hFl : F.length ≤ 1000 := by
      rw [hF]
      exact Nat.le_trans (List.length_filter_le _ _) (by simpa using hs1)
    rw [← hF]
    clear hfit hF hs1 hs2 hs3 hp0 hr0 hc0
    have hsort : ∀ B cap w2, Del w0 B cap w2 F → Calls Try.prog 23 #[.slice (some ⟨B, 0, none⟩) F.length cap] w2 fun e w3 => e = .returned (.tuple #[]) ∧ Del w0 B cap w3 (srt F) := fun B cap w2 hD => by
      have hb := hD.base
      refine (Try.slices_Sort_string B 0 cap F w2 hb.2.2.2.2 hb.2.1 (by omega)).mono fun e w3 h => ?_
      obtain ⟨rfl, n, os, rfl⟩ := h
      exact ⟨rfl, hD.sorted⟩
    have hcomp : ∀ B cap w3, Del w0 B cap w3 (srt F) → Calls Try.prog 24 #[.slice (some ⟨B, 0, none⟩) F.length cap] w3 fun e w4 => e = .returned (.slice (some ⟨B, 0, none⟩) (Lib.compact (srt F)).length cap) ∧ Del w0 B cap w4 (Lib.compact (srt F)) := fun B cap w3 hD => by
      have hb := hD.base
      have hl := srt_length F
      rw [← hl]
      refine (Try.slices_Compact_string B 0 cap (srt F) w3 hb.2.2.2.2 (by omega) hb.2.2.1).mono fun e w4 h => ?_
      obtain ⟨rfl, q, rfl⟩ := h
      exact ⟨rfl, hD.compacted (compact_le _)⟩
    obtain ⟨R, hR⟩ : ∃ R, R = Lib.compact (srt F) := ⟨_, rfl⟩
    rw [← hR] at hcomp ⊢
    have HCL := Aside0.mk hclone
    have HDE := Aside0.mk hdel
    have HSO := Aside0.mk hsort
    have HCO := Aside0.mk hcomp
    have HBE := Aside0.mk hbel0
    clear hclone hdel hsort hcomp hR hbel0 hsz0
    rw [hw0] at HCL
    go_enter Try.func15, Try.ntmps15
    go_wp2_with (first
      | (go_at_call 21; refine HCL.out.mono ?_; rintro e w1 ⟨B, cap, rfl, hd⟩; rw [← hw0] at hd; have HD1 := Aside0.mk hd; clear hd)
      | (go_at_call 20; refine (HDE.out _ _ _ HD1.out).mono ?_; rintro e w2 ⟨rfl, hd⟩; have HD2 := Aside0.mk hd; clear hd)
      | (go_at_call 23; refine (HSO.out _ _ _ HD2.out).mono ?_; rintro e w3 ⟨rfl, hd⟩; have HD3 := Aside0.mk hd; clear hd)
      | (go_at_call 24; refine (HCO.out _ _ _ HD3.out).mono ?_; rintro e w4 ⟨rfl, hd⟩; have HD4 := Aside0.mk hd; clear hd))
    go_ret
    have hrow := HD4.out.row
    have e : R.map encStr = encs Value.string (R.map strB) := by
      rw [encs, List.map_map]
      rfl
    rw [e] at hrow
    refine ⟨_, rfl, Kd.R_of_own (h1 := fun _ => rfl) (by rw [List.length_map]; exact own_less hrow HBE.out.size) (fun _ _ => trivial), below_step HBE.out HD4.out.bel⟩
end Go.Proofs.Ythlofokgbogndab.GBoxes
