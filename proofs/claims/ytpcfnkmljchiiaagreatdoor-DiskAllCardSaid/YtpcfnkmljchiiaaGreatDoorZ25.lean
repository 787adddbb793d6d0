/- Steps towards RDiskAll: DDo. -/
import Derived.Test.YtpcfnkmljchiiaaGreatDoorZ05
import Derived.ChangeMaps
import Derived.WideShapes
set_option linter.unusedVariables false
set_option linter.unusedSimpArgs false
/- Names behind a step, as the document makes them: the same row. -/
namespace Go.Proofs.YtpcfnkmljchiiaaGreatDoor.DDo
open Go DPl
/-- Rising names. -/
def Rising (N : Nms) : Prop := N.Pairwise fun p q => before p.1 q.1 = true
theorem bef_total {a b : List UInt8} (h : a ≠ b) : before a b = true ∨ before b a = true :=
  ChangeMaps.before_total (a := .string a) (b := .string b) ⟨a, rfl⟩ ⟨b, rfl⟩ (fun e => h (by cases e; rfl))
theorem bef_trans {a b c : List UInt8} (h1 : before a b = true) (h2 : before b c = true) : before a c = true := WideShapes.bytes_trans a b c h1 h2
theorem bef_irr (a : List UInt8) : before a a = false := by
  cases h : before a a with
  | false => rfl
  | true => exact absurd h (by simpa [before, Lit.before] using WideAt.bytes_irrefl a)
/-- What the document's loop makes: put: the new name stands already. -/
def docDo (e : Ent) : Bool → Nms → Nms
  | put, [] => if put then [] else [(e.name.data.toList, e.file)]
  | put, q :: r =>
    (if put = false ∧ before q.1 e.name.data.toList = false then [(e.name.data.toList, e.file)] else []) ++ (if q.1 ≠ e.gone.data.toList ∧ (e.file < 0 ∨ q.1 ≠ e.name.data.toList) then [q] else []) ++ docDo e (put || !before q.1 e.name.data.toList) r
theorem doc_put (e : Ent) : ∀ N : Nms, docDo e true N = N.filter fun q => decide (q.1 ≠ e.gone.data.toList ∧ (e.file < 0 ∨ q.1 ≠ e.name.data.toList))
  | [] => rfl
  | q :: r => by
    unfold docDo
    rw [if_neg (by simp), Bool.true_or, doc_put e r]
    by_cases h : q.1 ≠ e.gone.data.toList ∧ (e.file < 0 ∨ q.1 ≠ e.name.data.toList)
    · rw [if_pos h, List.filter_cons_of_pos (by simpa using h)]
      rfl
    · rw [if_neg h, List.filter_cons_of_neg (by simpa using h)]
      rfl
theorem doc_gone (e : Ent) (he : e.file < 0) (N : Nms) : docDo e true N = e.go N := by
  rw [doc_put, Ent.go, if_neg (by omega), delN]
  apply List.filter_congr
  intro q _
  by_cases h : q.1 = e.gone.data.toList
  · simp [h]
  · simp [h, he]
theorem ins_front (x : List UInt8 × Int) : ∀ L : Nms, (∀ y ∈ L, before x.1 y.1 = true) → insN x L = x :: L
  | [], _ => rfl
  | y :: r, h => by unfold insN; rw [if_pos (h y List.mem_cons_self)]
theorem go_filter (e : Ent) (he : 0 ≤ e.file) (N : Nms) : e.go N = insN (e.name.data.toList, e.file) (N.filter fun q => decide (q.1 ≠ e.gone.data.toList ∧ (e.file < 0 ∨ q.1 ≠ e.name.data.toList))) := by
  rw [Ent.go, if_pos he, putN, delN, delN, List.filter_filter]
  congr 1
  apply List.filter_congr
  intro q _
  have h0 : ¬e.file < 0 := by omega
  by_cases h : q.1 = e.gone.data.toList <;> by_cases h1 : q.1 = e.name.data.toList <;> simp [h, h1, h0]
theorem doc_do (e : Ent) (he : 0 ≤ e.file) : ∀ N : Nms, Rising N → docDo e false N = e.go N := by
  intro N hN
  rw [go_filter e he]
  induction N with
  | nil => rfl
  | cons q r ih =>
    have ih := ih (List.Pairwise.of_cons hN)
    have hq := (List.pairwise_cons.1 hN).1
    unfold docDo
    cases hb : before q.1 e.name.data.toList with
    | true =>
      rw [if_neg (by simp)]
      simp only [Bool.not_true, Bool.or_false, List.nil_append]
      rw [ih]
      by_cases h : q.1 ≠ e.gone.data.toList ∧ (e.file < 0 ∨ q.1 ≠ e.name.data.toList)
      · rw [if_pos h, List.filter_cons_of_pos (by simpa using h)]
        have ha : before e.name.data.toList q.1 = false := by
          cases hc : before e.name.data.toList q.1 with
          | false => rfl
          | true => exact absurd (bef_trans hb hc) (by rw [bef_irr]; simp)
        show _ = insN _ (q :: _)
        rw [insN, if_neg (by simp [ha])]
        rfl
      · rw [if_neg h, List.filter_cons_of_neg (by simpa using h)]
        rfl
    | false =>
      rw [if_pos ⟨rfl, rfl⟩]
      simp only [Bool.not_false, Bool.or_true]
      rw [doc_put e r, ins_front]
      · by_cases h : q.1 ≠ e.gone.data.toList ∧ (e.file < 0 ∨ q.1 ≠ e.name.data.toList)
        · rw [if_pos h, List.filter_cons_of_pos (by simpa using h)]
          rfl
        · rw [if_neg h, List.filter_cons_of_neg (by simpa using h)]
          rfl
      · intro y hy
        obtain ⟨hm, hF⟩ := List.mem_filter.1 hy
        have hF := of_decide_eq_true hF
        have hne : e.name.data.toList ≠ y.1 := by
          rcases hF.2 with h | h
          · omega
          · exact fun e => h e.symm
        rcases bef_total hne with h | h
        · exact h
        · rcases List.mem_cons.1 hm with h2 | h2
          · subst h2
            rw [hb] at h
            cases h
          · have := bef_trans (hq y h2) h
            rw [hb] at this
            cases this
theorem rising_del {N : Nms} (h : Rising N) (k : List UInt8) : Rising (delN N k) := List.Pairwise.filter _ h
theorem rising_ins (x : List UInt8 × Int) : ∀ N : Nms, Rising N → (∀ y ∈ N, y.1 ≠ x.1) → Rising (insN x N)
  | [], _, _ => List.pairwise_singleton _ _
  | y :: r, h, hx => by
    obtain ⟨h1, h2⟩ := List.pairwise_cons.1 h
    unfold insN
    split
    · rename_i hb
      refine List.pairwise_cons.2 ⟨fun z hz => ?_, h⟩
      rcases List.mem_cons.1 hz with rfl | hz
      · exact hb
      · exact bef_trans hb (h1 z hz)
    · rename_i hb
      refine List.pairwise_cons.2 ⟨fun z hz => ?_, rising_ins x r h2 (fun z hz => hx z (List.mem_cons_of_mem _ hz))⟩
      rcases (mem_insN x r z).1 hz with rfl | hz
      · rcases bef_total (hx y List.mem_cons_self) with h3 | h3
        · exact h3
        · exact absurd h3 hb
      · exact h1 z hz
theorem rising_go {N : Nms} (h : Rising N) (e : Ent) : Rising (e.go N) := by
  unfold Ent.go
  split
  · refine rising_ins _ _ (rising_del (rising_del h _) _) (fun y hy => ?_)
    have := (List.mem_filter.1 hy).2
    simpa using this
  · exact rising_del h _
theorem rising_goAll : ∀ (l : List Ent) (N : Nms), Rising N → Rising (goAll N l)
  | [], N, h => h
  | e :: r, N, h => rising_goAll r (e.go N) (rising_go h e)
/-- The document's names are the disk's. -/
theorem doc_all {N : Nms} (h : Rising N) (e : Ent) : docDo e (decide (e.file < 0)) N = e.go N := by
  by_cases he : e.file < 0
  · rw [decide_eq_true he]
    exact doc_gone e he N
  · rw [decide_eq_false he]
    exact doc_do e (by omega) N h
end Go.Proofs.YtpcfnkmljchiiaaGreatDoor.DDo
