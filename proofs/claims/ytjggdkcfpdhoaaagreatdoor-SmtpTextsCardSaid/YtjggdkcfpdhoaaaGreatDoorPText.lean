/- path.right, path.Bare, path.Text; postbagref08.Bare: a path's text. -/
import Derived.Test.YtjggdkcfpdhoaaaGreatDoorQRef4
import Derived.Test.YtjggdkcfpdhoaaaGreatDoorBase
namespace Go.Proofs.YtjggdkcfpdhoaaaGreatDoor.PText
open Go Go.RowKit Go.Proofs.YtjggdkcfpdhoaaaGreatDoorW.PrintWords Go.Proofs.YtjggdkcfpdhoaaaGreatDoor.Dots Go.Proofs.YtjggdkcfpdhoaaaGreatDoor.Dotted Go.Proofs.YtjggdkcfpdhoaaaGreatDoor.Take Go.Proofs.YtjggdkcfpdhoaaaGreatDoor.GSmtp Go.Proofs.YtjggdkcfpdhoaaaGreatDoor.QRef2 Go.Proofs.YtjggdkcfpdhoaaaGreatDoor.QRef3 Go.Proofs.YtjggdkcfpdhoaaaGreatDoor.QRef4
set_option linter.unusedVariables false
set_option linter.unusedSimpArgs false
def noneP (l d : ByteArray) : Bool := l.toList.isEmpty && d.toList.isEmpty
/-- A path's text without brackets. -/
def bareO (l d : ByteArray) : Option ByteArray := if noneP l d = true then some ⟨#[]⟩ else if (localB l && domainB d) = true then some ((l ++ (⟨#[64]⟩ : ByteArray)) ++ d) else none
def rightB (l d : ByteArray) : Bool := noneP l d || (localB l && domainB d)
set_option maxRecDepth 100000 in
set_option maxHeartbeats 2000000 in
theorem right_calls (l d : ByteArray) (hl : l.size ≤ 1000000) (hd : d.size ≤ 1000000) (w : World) :
    Calls Tryz.prog 72 #[.agg #[.string l, .string d]] w fun e w' => e = .returned (.bool (rightB l d)) ∧ Below w.heap.size w w' := by
  have HL := Aside0.mk (fun W => local_calls l hl W)
  have HD := Aside0.mk (fun W => domain_calls d hd W)
  unfold rightB noneP
  obtain ⟨bl, hbl⟩ : ∃ x, x = localB l := ⟨_, rfl⟩
  obtain ⟨bd, hbd⟩ : ∃ x, x = domainB d := ⟨_, rfl⟩
  rw [← hbl] at HL ⊢
  rw [← hbd] at HD ⊢
  clear hbl hbd
  have harms : True := trivial
  have hb0 : Below w.heap.size w (w.alloc (.cells #[.string l, .string d] 24)) := (Below.refl _ w).alloc (Nat.le_refl _) _
  have HB0 := Aside0.mk hb0
  clear hb0
  cases h1 : l.toList.isEmpty with
  | true =>
    have h1l : l.toList = [] := by simpa using h1
    cases h2 : d.toList.isEmpty with
    | true =>
      have h2l : d.toList = [] := by simpa using h2
      go_enter Tryz.func72, Tryz.ntmps72
      go_wp2
      go_ret
      exact ⟨rfl, HB0.out⟩
    | false =>
      have h2l : ¬ d.toList = [] := by simpa using h2
      cases bl with
      | false =>
        go_enter Tryz.func72, Tryz.ntmps72
        go_wp2_with (go_at_call 81; refine (HL.out _).mono ?_; rintro e w1 ⟨rfl, hb1⟩; have HB1 := Aside0.mk (HB0.out.trans (hb1.mono HB0.out.size)); clear hb1)
        go_ret
        exact ⟨rfl, HB1.out⟩
      | true =>
        go_enter Tryz.func72, Tryz.ntmps72
        go_wp2_with (first
          | (go_at_call 81; refine (HL.out _).mono ?_; rintro e w1 ⟨rfl, hb1⟩; have k1 : w1.cell? ⟨w.heap.size, 1, none⟩ = some (.string d) := (hb1.cell (p := ⟨w.heap.size, 1, none⟩) (by simp)).trans (World.cell?_alloc_at _ _ _ _ rfl); have HB1 := Aside0.mk (HB0.out.trans (hb1.mono HB0.out.size)); clear hb1)
          | (go_at_call 37; refine (HD.out _).mono ?_; rintro e w2 ⟨rfl, hb2⟩; have HB2 := Aside0.mk (HB1.out.trans (hb2.mono HB1.out.size)); clear hb2))
        go_ret
        exact ⟨rfl, HB2.out⟩
  | false =>
    have h1l : ¬ l.toList = [] := by simpa using h1
    cases bl with
    | false =>
      go_enter Tryz.func72, Tryz.ntmps72
      go_wp2_with (go_at_call 81; refine (HL.out _).mono ?_; rintro e w1 ⟨rfl, hb1⟩; have HB1 := Aside0.mk (HB0.out.trans (hb1.mono HB0.out.size)); clear hb1)
      go_ret
      exact ⟨rfl, HB1.out⟩
    | true =>
      go_enter Tryz.func72, Tryz.ntmps72
      go_wp2_with (first
        | (go_at_call 81; refine (HL.out _).mono ?_; rintro e w1 ⟨rfl, hb1⟩; have k1 : w1.cell? ⟨w.heap.size, 1, none⟩ = some (.string d) := (hb1.cell (p := ⟨w.heap.size, 1, none⟩) (by simp)).trans (World.cell?_alloc_at _ _ _ _ rfl); have HB1 := Aside0.mk (HB0.out.trans (hb1.mono HB0.out.size)); clear hb1)
        | (go_at_call 37; refine (HD.out _).mono ?_; rintro e w2 ⟨rfl, hb2⟩; have HB2 := Aside0.mk (HB1.out.trans (hb2.mono HB1.out.size)); clear hb2))
      go_ret
      exact ⟨rfl, HB2.out⟩
/-- Bare's answer. -/
def bareV (ev : Value) : Option ByteArray → Value
  | some b => .tuple #[.string b, .nilIface]
  | none => .tuple #[.string ⟨#[]⟩, ev]
set_option maxRecDepth 100000 in
set_option maxHeartbeats 2000000 in
theorem bare_calls (l d : ByteArray) (hl : l.size ≤ 1000000) (hd : d.size ≤ 1000000) (t : Nat) (pv : Value) (w : World) (hE : w.cell? ⟨1, 0, none⟩ = some (.iface t pv)) :
    Calls Tryz.prog 49 #[.agg #[.string l, .string d]] w fun e w' => e = .returned (bareV (.iface t pv) (bareO l d)) ∧ Below w.heap.size w w' := by
  have HR := Aside0.mk (fun W => right_calls l d hl hd W)
  obtain ⟨r, hr⟩ : ∃ r, r = bareO l d := ⟨_, rfl⟩
  rw [← hr]
  unfold bareO at hr
  unfold rightB at HR
  have hb0 : Below w.heap.size w (w.alloc (.cells #[.string l, .string d] 24)) := (Below.refl _ w).alloc (Nat.le_refl _) _
  have HB0 := Aside0.mk hb0
  have hE0 : (w.alloc (.cells #[.string l, .string d] 24)).cell? ⟨1, 0, none⟩ = some (.iface t pv) := (hb0.cell (p := ⟨1, 0, none⟩) (World.block_lt_of_cell? w _ hE)).trans hE
  have hElt : 1 < (w.alloc (.cells #[.string l, .string d] 24)).heap.size := World.block_lt_of_cell? _ _ hE0
  have HE := Aside0.mk hE0
  clear hb0 hE hE0
  obtain ⟨bl, hbl⟩ : ∃ x, x = (localB l && domainB d) := ⟨_, rfl⟩
  rw [← hbl] at HR hr
  clear hbl
  have HR' : Aside0 (∀ (p : Bool), noneP l d = p → ∀ W, Calls Tryz.prog 72 #[.agg #[.string l, .string d]] W fun e w' => e = .returned (.bool (p || bl)) ∧ Below W.heap.size W w') := ⟨fun p hp W => by rw [← hp]; exact HR.out W⟩
  clear HR
  cases h1 : l.toList.isEmpty with
  | true =>
    have h1l : l.toList = [] := by simpa using h1
    cases h2 : d.toList.isEmpty with
    | true =>
      have h2l : d.toList = [] := by simpa using h2
      have hn : noneP l d = true := by rw [noneP, h1, h2]; rfl
      have HR := Aside0.mk (HR'.out true hn)
      rw [hn, if_pos rfl] at hr
      subst hr
      clear HR' hn
      go_enter Tryz.func49, Tryz.ntmps49
      go_wp2_with (go_at_call 72; refine (HR.out _).mono ?_; rintro e w1 ⟨rfl, hb1⟩; have k0 : w1.cell? ⟨w.heap.size, 0, none⟩ = some (.string l) := (hb1.cell (p := ⟨w.heap.size, 0, none⟩) (by simp)).trans (World.cell?_alloc_at _ _ _ _ rfl); have k1 : w1.cell? ⟨w.heap.size, 1, none⟩ = some (.string d) := (hb1.cell (p := ⟨w.heap.size, 1, none⟩) (by simp)).trans (World.cell?_alloc_at _ _ _ _ rfl); have HB1 := Aside0.mk (HB0.out.trans (hb1.mono HB0.out.size)); clear hb1)
      go_ret2
      exact ⟨rfl, HB1.out⟩
    | false =>
      have h2l : ¬ d.toList = [] := by simpa using h2
      have hn : noneP l d = false := by rw [noneP, h1, h2]; rfl
      have HR := Aside0.mk (HR'.out false hn)
      rw [hn, if_neg (by decide)] at hr
      clear HR' hn
      cases bl with
      | false =>
        have hr2 : r = none := hr
        subst hr2
        clear hr
        go_enter Tryz.func49, Tryz.ntmps49
        go_upto_region 2 with (go_at_call 72; refine (HR.out _).mono ?_; rintro e w1 ⟨rfl, hb1⟩; have m1 : w1.cell? ⟨1, 0, none⟩ = some (.iface t pv) := (hb1.cell (p := ⟨1, 0, none⟩) hElt).trans HE.out; have HB1 := Aside0.mk (HB0.out.trans (hb1.mono HB0.out.size)); clear hb1)
        go_region
        all_goals
          go_wp2
          go_ret2
          exact ⟨rfl, HB1.out.drew⟩
      | true =>
        have hr2 : r = some ((l ++ (⟨#[64]⟩ : ByteArray)) ++ d) := hr
        subst hr2
        clear hr
        have f1 : ¬ 9223372036854775807 < l.size + 1 := by omega
        have f2 : ¬ 9223372036854775807 < (l ++ (⟨#[64]⟩ : ByteArray)).size + d.size := by rw [ByteArray.size_append]; show ¬ 9223372036854775807 < l.size + 1 + d.size; omega
        have f3 : ¬ 9223372036854775807 < l.size + 1 + d.size := by omega
        go_enter Tryz.func49, Tryz.ntmps49
        go_wp2_with (go_at_call 72; refine (HR.out _).mono ?_; rintro e w1 ⟨rfl, hb1⟩; have k0 : w1.cell? ⟨w.heap.size, 0, none⟩ = some (.string l) := (hb1.cell (p := ⟨w.heap.size, 0, none⟩) (by simp)).trans (World.cell?_alloc_at _ _ _ _ rfl); have k1 : w1.cell? ⟨w.heap.size, 1, none⟩ = some (.string d) := (hb1.cell (p := ⟨w.heap.size, 1, none⟩) (by simp)).trans (World.cell?_alloc_at _ _ _ _ rfl); have HB1 := Aside0.mk (HB0.out.trans (hb1.mono HB0.out.size)); clear hb1)
        go_ret2
        exact ⟨rfl, HB1.out⟩
  | false =>
    have h1l : ¬ l.toList = [] := by simpa using h1
    have hn : noneP l d = false := by rw [noneP, h1]; rfl
    have HR := Aside0.mk (HR'.out false hn)
    rw [hn, if_neg (by decide)] at hr
    clear HR' hn
    cases bl with
    | false =>
      have hr2 : r = none := hr
      subst hr2
      clear hr
      go_enter Tryz.func49, Tryz.ntmps49
      go_upto_region 2 with (go_at_call 72; refine (HR.out _).mono ?_; rintro e w1 ⟨rfl, hb1⟩; have m1 : w1.cell? ⟨1, 0, none⟩ = some (.iface t pv) := (hb1.cell (p := ⟨1, 0, none⟩) hElt).trans HE.out; have HB1 := Aside0.mk (HB0.out.trans (hb1.mono HB0.out.size)); clear hb1)
      go_region
      all_goals
        go_wp2
        go_ret2
        exact ⟨rfl, HB1.out.drew⟩
    | true =>
      have hr2 : r = some ((l ++ (⟨#[64]⟩ : ByteArray)) ++ d) := hr
      subst hr2
      clear hr
      have f1 : ¬ 9223372036854775807 < l.size + 1 := by omega
      have f2 : ¬ 9223372036854775807 < (l ++ (⟨#[64]⟩ : ByteArray)).size + d.size := by rw [ByteArray.size_append]; show ¬ 9223372036854775807 < l.size + 1 + d.size; omega
      have f3 : ¬ 9223372036854775807 < l.size + 1 + d.size := by omega
      go_enter Tryz.func49, Tryz.ntmps49
      go_wp2_with (go_at_call 72; refine (HR.out _).mono ?_; rintro e w1 ⟨rfl, hb1⟩; have k0 : w1.cell? ⟨w.heap.size, 0, none⟩ = some (.string l) := (hb1.cell (p := ⟨w.heap.size, 0, none⟩) (by simp)).trans (World.cell?_alloc_at _ _ _ _ rfl); have k1 : w1.cell? ⟨w.heap.size, 1, none⟩ = some (.string d) := (hb1.cell (p := ⟨w.heap.size, 1, none⟩) (by simp)).trans (World.cell?_alloc_at _ _ _ _ rfl); have HB1 := Aside0.mk (HB0.out.trans (hb1.mono HB0.out.size)); clear hb1)
      go_ret2
      exact ⟨rfl, HB1.out⟩
/-- path.Text. -/
def textO (l d : ByteArray) : Option ByteArray := match bareO l d with
  | some b => some (((⟨#[60]⟩ : ByteArray) ++ b) ++ (⟨#[62]⟩ : ByteArray))
  | none => none
theorem bare_size (l d b : ByteArray) (h : bareO l d = some b) : b.size ≤ l.size + d.size + 1 := by
  unfold bareO at h
  split at h
  · cases h; exact Nat.zero_le _
  · split at h
    · cases h
      rw [ByteArray.size_append, ByteArray.size_append]
      show l.size + 1 + d.size ≤ _
      omega
    · cases h
set_option maxRecDepth 100000 in
set_option maxHeartbeats 2000000 in
theorem text_calls (l d : ByteArray) (hl : l.size ≤ 1000000) (hd : d.size ≤ 1000000) (t : Nat) (pv : Value) (w : World) (hE : w.cell? ⟨1, 0, none⟩ = some (.iface t pv)) :
    Calls Tryz.prog 33 #[.agg #[.string l, .string d]] w fun e w' => e = .returned (bareV (.iface t pv) (textO l d)) ∧ Below w.heap.size w w' := by
  have HBR := Aside0.mk (fun W (h : W.cell? ⟨1, 0, none⟩ = some (.iface t pv)) => bare_calls l d hl hd t pv W h)
  have hbs := bare_size l d
  unfold textO
  obtain ⟨r, hr⟩ : ∃ r, r = bareO l d := ⟨_, rfl⟩
  rw [← hr] at HBR hbs ⊢
  clear hr
  have hb0 : Below w.heap.size w (w.alloc (.cells #[.string l, .string d] 24)) := (Below.refl _ w).alloc (Nat.le_refl _) _
  have HB0 := Aside0.mk hb0
  have HE := Aside0.mk ((hb0.cell (p := ⟨1, 0, none⟩) (World.block_lt_of_cell? w _ hE)).trans hE)
  clear hb0 hE
  cases r with
  | none =>
    simp only [bareV] at HBR
    clear hbs
    go_enter Tryz.func33, Tryz.ntmps33
    go_wp2_with (go_at_call 49; refine (HBR.out _ HE.out).mono ?_; rintro e w1 ⟨rfl, hb1⟩; have HB1 := Aside0.mk (HB0.out.trans (hb1.mono HB0.out.size)); clear hb1)
    go_ret2
    exact ⟨rfl, HB1.out⟩
  | some b =>
    simp only [bareV] at HBR
    have hbz := hbs b rfl
    clear hbs
    have f1 : ¬ 9223372036854775807 < 1 + b.size := by omega
    have f2 : ¬ 9223372036854775807 < ((⟨#[60]⟩ : ByteArray) ++ b).size + 1 := by rw [ByteArray.size_append]; show ¬ 9223372036854775807 < 1 + b.size + 1; omega
    have f3 : ¬ 9223372036854775807 < 1 + b.size + 1 := by omega
    go_enter Tryz.func33, Tryz.ntmps33
    go_wp2_with (go_at_call 49; refine (HBR.out _ HE.out).mono ?_; rintro e w1 ⟨rfl, hb1⟩; have HB1 := Aside0.mk (HB0.out.trans (hb1.mono HB0.out.size)); clear hb1)
    go_ret2
    exact ⟨rfl, HB1.out⟩
/-- postbagref08.Bare. -/
theorem refBare_f (l d : ByteArray) (hl : l.size ≤ 1000000) (hd : d.size ≤ 1000000) : ∃ k, postbagref08_Bare.f k l d = some (match bareO l d with | some b => (b, true) | none => (⟨#[]⟩, false)) := by
  obtain ⟨k1, h1⟩ := local_f l hl
  obtain ⟨k2, h2⟩ := domain_f d hd
  have h1' := lift_k (f := fun k => postbagref08_Local.f k l) (fun k => postbagref08_Local.mono _ k) h1 (Nat.le_max_left k1 k2)
  have h2' := lift_k (f := fun k => postbagref08_Domain.f k d) (fun k => postbagref08_Domain.mono _ k) h2 (Nat.le_max_right k1 k2)
  refine ⟨max k1 k2 + 1, ?_⟩
  have c1 : l.size + 1 ≤ 9223372036854775807 := by omega
  have c2 : (l ++ (⟨#[64]⟩ : ByteArray)).size + d.size ≤ 9223372036854775807 := by rw [ByteArray.size_append]; show l.size + 1 + d.size ≤ _; omega
  have hj : ∀ b, postbagref08_Bare.j0 (max k1 k2 + 1) b l d = some (match (if b = true then some (⟨#[]⟩ : ByteArray) else if (localB l && domainB d) = true then some ((l ++ (⟨#[64]⟩ : ByteArray)) ++ d) else none) with | some b => (b, true) | none => (⟨#[]⟩, false)) := fun b => by
    rw [postbagref08_Bare.j0]
    cases b with
    | true => rfl
    | false =>
      rw [if_neg (show ¬ (false = true) by decide), h1', Option.bind_some]
      cases localB l with
      | false => rfl
      | true =>
        rw [if_pos rfl, h2', Option.bind_some]
        cases domainB d with
        | false => rfl
        | true => rw [if_pos rfl, if_pos c1, if_pos c2]; rfl
  rw [postbagref08_Bare.f, bareO, noneP]
  by_cases hl0 : l.toList = []
  · have h2 : (d.toList == ([] : List UInt8)) = d.toList.isEmpty := by cases d.toList <;> rfl
    rw [if_pos hl0, hj, h2, hl0]
    rfl
  · have : l.toList.isEmpty = false := by simpa using hl0
    rw [if_neg hl0, hj, this]
    rfl
theorem refBare_calls (l d : ByteArray) (hl : l.size ≤ 1000000) (hd : d.size ≤ 1000000) (w : World) :
    Calls Tryz.prog 34 #[.agg #[.string l, .string d]] w fun e w' => e = .returned (match bareO l d with | some b => .tuple #[.string b, .bool true] | none => .tuple #[.string ⟨#[]⟩, .bool false]) ∧ Below w.heap.size w w' := by
  obtain ⟨k, hk⟩ := refBare_f l d hl hd
  cases hb : bareO l d with
  | some b => rw [hb] at hk; exact postbagref08_Bare.calls k l d _ _ w hk
  | none => rw [hb] at hk; exact postbagref08_Bare.calls k l d _ _ w hk
end Go.Proofs.YtjggdkcfpdhoaaaGreatDoor.PText
