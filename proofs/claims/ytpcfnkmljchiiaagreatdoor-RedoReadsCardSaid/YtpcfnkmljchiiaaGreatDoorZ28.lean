/- Steps towards RBoth: ORq. -/
import Derived.Test.YtpcfnkmljchiiaaGreatDoorZ27
set_option linter.unusedVariables false
set_option linter.unusedSimpArgs false
/- The document's Ops, plainly. -/
namespace Go.Proofs.YtpcfnkmljchiiaaGreatDoor.ORq
open Go Go.RowKit Go.Proofs.YtpcfnkmljchiiaaGreatDoorW.PrintWords Go.Proofs.YtpcfnkmljchiiaaGreatDoor.OPl Go.Proofs.YtpcfnkmljchiiaaGreatDoor.OChk Go.Proofs.YtpcfnkmljchiiaaGreatDoor.OEnc Go.Proofs.YtpcfnkmljchiiaaGreatDoor.ORdr Go.Proofs.YtpcfnkmljchiiaaGreatDoor.ORdb Go.Proofs.YtpcfnkmljchiiaaGreatDoor.OOps Go.Proofs.YtpcfnkmljchiiaaGreatDoor.OPar
/-- The number of four bytes. -/
def n4 (h : List Int) : Int := h.getD 0 0 * 16777216 + h.getD 1 0 * 65536 + h.getD 2 0 * 256 + h.getD 3 0
/-- How long an operation's name is. -/
def nmN (l : List Int) : Nat := (l.getD 1 0).toNat
/-- How many bytes it has. -/
def szN (l : List Int) : Nat := (n4 (l.drop (6 + nmN l))).toNat
/-- The operation at the beginning of a row, and what is behind it. -/
def rop1 (l : List Int) : Option (Rop × List Int) :=
  if l.length < 2 then none else
  if l.length < 10 + nmN l then none else
  if (l.drop (10 + nmN l)).length < szN l then none else
  some (⟨l.getD 0 0, strOfNums ((l.drop 2).take (nmN l)), n4 (l.drop (2 + nmN l)), (l.drop (10 + nmN l)).take (szN l)⟩, (l.drop (10 + nmN l)).drop (szN l))
def ropsGo : Nat → List Int → List Rop → Option (List Rop)
  | 0, _, _ => none
  | k + 1, l, acc => if l.length = 0 then some acc else match rop1 l with | none => none | some (o, t) => ropsGo k t (acc ++ [o])
/-- The document's answer. -/
def ropsL (b : List Int) : Option (List Rop) :=
  match ropsGo (b.length + 1) (b.drop 1) [] with
  | none => none
  | some L => if checkL L = none ∧ encL L = b then some L else none
theorem n4_four (n : Int) (t : List Int) (h0 : 0 ≤ n) (h1 : n < 4294967296) : n4 (four4 n ++ t) = n := by
  show (n / 16777216) % 256 * 16777216 + (n / 65536) % 256 * 65536 + (n / 256) % 256 * 256 + n % 256 = n
  omega
theorem rop1_enc {o : Rop} (h : Fm o) (t : List Int) : rop1 (encOp o ++ t) = some (o, t) := by
  have e0 : o.f0 % 256 = o.f0 := by have := h.k0; have := h.k1; omega
  have e1 : (o.f1.size : Int) % 256 = o.f1.size := by have := h.size; omega
  have a0 := h.a0
  have a1 := h.a1
  have hl := h.len
  obtain ⟨l, hL⟩ : ∃ l, l = encOp o ++ t := ⟨_, rfl⟩
  have hlen : l.length = 10 + o.f1.size + o.f3.length + t.length := by rw [hL, List.length_append, encOp_len]
  have e : l = [o.f0, (o.f1.size : Int)] ++ (bI o.f1 ++ (four4 o.f2 ++ (four4 (o.f3.length : Int) ++ (o.f3 ++ t)))) := by
    rw [hL]
    unfold encOp
    rw [e0, e1]
    simp
  have hn : nmN l = o.f1.size := by unfold nmN; rw [e]; simp
  have d2 : l.drop 2 = bI o.f1 ++ (four4 o.f2 ++ (four4 (o.f3.length : Int) ++ (o.f3 ++ t))) := by rw [e]; rfl
  have d2n : l.drop (2 + o.f1.size) = four4 o.f2 ++ (four4 (o.f3.length : Int) ++ (o.f3 ++ t)) := by rw [← List.drop_drop, d2, ← bI_len, List.drop_left]
  have d6n : l.drop (6 + o.f1.size) = four4 (o.f3.length : Int) ++ (o.f3 ++ t) := by rw [show 6 + o.f1.size = 2 + o.f1.size + 4 by omega, ← List.drop_drop, d2n]; rfl
  have d10 : l.drop (10 + o.f1.size) = o.f3 ++ t := by rw [show 10 + o.f1.size = 6 + o.f1.size + 4 by omega, ← List.drop_drop, d6n]; rfl
  have hs : szN l = o.f3.length := by unfold szN; rw [hn, d6n, n4_four _ _ (by omega) (by omega)]; exact Int.toNat_natCast _
  rw [← hL]
  unfold rop1
  rw [if_neg (by omega), hn, if_neg (by omega), hs, d10, if_neg (by rw [List.length_append]; omega), d2, d2n, n4_four _ _ a0 (by omega)]
  have e3 : strOfNums ((bI o.f1 ++ (four4 o.f2 ++ (four4 (o.f3.length : Int) ++ (o.f3 ++ t)))).take o.f1.size) = o.f1 := by rw [← bI_len, List.take_left, strOf_bI]
  rw [e3, List.take_left, List.drop_left, e]
  rfl
theorem ropsGo_enc : ∀ (L acc : List Rop) (k : Nat), (∀ o ∈ L, Fm o) → L.length < k → ropsGo k (encAll L) acc = some (acc ++ L)
  | [], acc, k + 1, _, _ => by simp [ropsGo, encAll]
  | o :: r, acc, k + 1, h, hk => by
    have h1 := rop1_enc (h o (List.mem_cons_self ..)) (encAll r)
    have ih := ropsGo_enc r (acc ++ [o]) k (fun x hx => h x (List.mem_cons_of_mem _ hx)) (by simpa using hk)
    have hlen : (encAll (o :: r)).length ≠ 0 := by rw [encAll, List.length_append, encOp_len]; omega
    unfold ropsGo
    rw [if_neg hlen, show encAll (o :: r) = encOp o ++ encAll r from rfl, h1]
    simp only []
    rw [ih]
    simp
theorem encAll_ge : ∀ (L : List Rop), L.length ≤ (encAll L).length
  | [] => by simp [encAll]
  | o :: r => by have := encAll_ge r; rw [encAll, List.length_append, encOp_len, List.length_cons]; omega
/-- The document and the program read the same bytes. -/
theorem same_reads {b : List Int} (hB : Lib04.isB b) : ((opsP b).2.2 = false ∧ (opsP b).2.1 = [] ∧ checkL (opsP b).1 = none) ↔ ropsL b = some (opsP b).1 := by
  constructor
  · rintro ⟨h1, h2, h3⟩
    have h : opsP b = ((opsP b).1, [], false) := Prod.ext rfl (Prod.ext h2 h1)
    obtain ⟨L, hL⟩ : ∃ L, (opsP b).1 = L := ⟨_, rfl⟩
    rw [hL] at h h3 ⊢
    obtain ⟨he, _⟩ := opsP_inv hB h
    obtain ⟨hl, _, hf⟩ := check_ok h3
    have hg : ropsGo (b.length + 1) (b.drop 1) [] = some L := by
      have e : b.drop 1 = encAll L := by rw [← he]; rfl
      rw [e]
      have h9 := ropsGo_enc L [] (b.length + 1) hf (by
        have := encAll_ge L
        rw [← he, encL, List.length_cons]
        omega)
      simpa using h9
    unfold ropsL
    rw [hg]
    exact if_pos ⟨h3, he⟩
  · intro h
    unfold ropsL at h
    split at h
    · cases h
    · rename_i L hL
      split at h
      · rename_i hc
        have hp := opsP_enc hc.1
        rw [hc.2] at hp
        rw [hp]
        exact ⟨rfl, rfl, hc.1⟩
      · cases h
theorem reads_none {b : List Int} (hB : Lib04.isB b) : ¬ ((opsP b).2.2 = false ∧ (opsP b).2.1 = [] ∧ checkL (opsP b).1 = none) ↔ ropsL b = none := by
  constructor
  · intro h
    cases hr : ropsL b with
    | none => rfl
    | some L =>
      have h9 := hr
      unfold ropsL at h9
      split at h9
      · cases h9
      · rename_i M hM
        split at h9
        · rename_i hc
          have hp := opsP_enc hc.1
          rw [hc.2] at hp
          exact absurd ⟨by rw [hp], by rw [hp], by rw [hp]; exact hc.1⟩ h
        · cases h9
  · intro h h2
    rw [(same_reads hB).1 h2] at h
    cases h
end Go.Proofs.YtpcfnkmljchiiaaGreatDoor.ORq
