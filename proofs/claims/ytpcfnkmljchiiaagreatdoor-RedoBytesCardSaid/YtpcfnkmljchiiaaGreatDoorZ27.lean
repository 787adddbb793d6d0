/- Steps towards RBoth: OPar. -/
import Derived.Test.YtpcfnkmljchiiaaGreatDoorZ26
set_option linter.unusedVariables false
set_option linter.unusedSimpArgs false
/- A change's bytes are read back as the change. -/
namespace Go.Proofs.YtpcfnkmljchiiaaGreatDoor.OPar
open Go Go.RowKit Go.Proofs.YtpcfnkmljchiiaaGreatDoorW.PrintWords Go.Proofs.YtpcfnkmljchiiaaGreatDoor.OPl Go.Proofs.YtpcfnkmljchiiaaGreatDoor.OChk Go.Proofs.YtpcfnkmljchiiaaGreatDoor.OEnc Go.Proofs.YtpcfnkmljchiiaaGreatDoor.ORdr Go.Proofs.YtpcfnkmljchiiaaGreatDoor.ORdb Go.Proofs.YtpcfnkmljchiiaaGreatDoor.OOps
theorem takeR_app (a t : List Int) (n : Nat) (hn : n = a.length) (sh : Bool) : takeR n (a ++ t) sh = (a, t, sh) := by
  subst hn
  unfold takeR
  rw [if_neg (by simp), List.take_left, List.drop_left]
theorem numR_four4 (n : Int) (h0 : 0 ≤ n) (h1 : n < 4294967296) : numR (four4 n) = n := by
  show ((((0 * 256 + (n / 16777216) % 256) * 256 + (n / 65536) % 256) * 256 + (n / 256) % 256) * 256 + n % 256 : Int) = n
  omega
theorem strOf_bI (s : ByteArray) : strOfNums (bI s) = s := by
  unfold strOfNums bI
  apply ByteArray.ext
  apply Array.ext'
  simp only [List.map_map]
  rw [show ((fun n : Int => UInt8.ofNat n.toNat) ∘ fun c : UInt8 => (c.toNat : Int)) = id from by funext c; simp, List.map_id]
theorem byteR_app (x : Int) (t : List Int) (sh : Bool) : byteR (x :: t) sh = x := by
  unfold byteR
  rw [show (x :: t) = [x] ++ t from rfl, takeR_app [x] t 1 rfl]
  rfl
theorem fourR_app (n : Int) (t : List Int) (sh : Bool) (h0 : 0 ≤ n) (h1 : n < 4294967296) : fourR (four4 n ++ t) sh = n := by
  unfold fourR
  rw [takeR_app (four4 n) t 4 rfl]
  exact numR_four4 n h0 h1
theorem opR_enc {o : Rop} (h : Fm o) (t : List Int) : opR (encOp o ++ t) false = (o, t, false) := by
  have e0 : o.f0 % 256 = o.f0 := by have := h.k0; have := h.k1; omega
  have e1 : (o.f1.size : Int) % 256 = o.f1.size := by have := h.size; omega
  have a0 := h.a0
  have a1 := h.a1
  have hl := h.len
  have e : encOp o ++ t = o.f0 :: ((o.f1.size : Int) :: (bI o.f1 ++ (four4 o.f2 ++ (four4 (o.f3.length : Int) ++ (o.f3 ++ t))))) := by
    unfold encOp
    rw [e0, e1]
    simp
  have s1 : takeR 1 (o.f0 :: ((o.f1.size : Int) :: (bI o.f1 ++ (four4 o.f2 ++ (four4 (o.f3.length : Int) ++ (o.f3 ++ t)))))) false = ([o.f0], (o.f1.size : Int) :: (bI o.f1 ++ (four4 o.f2 ++ (four4 (o.f3.length : Int) ++ (o.f3 ++ t)))), false) := takeR_app [o.f0] _ 1 rfl false
  have s2 : takeR 1 ((o.f1.size : Int) :: (bI o.f1 ++ (four4 o.f2 ++ (four4 (o.f3.length : Int) ++ (o.f3 ++ t))))) false = ([(o.f1.size : Int)], bI o.f1 ++ (four4 o.f2 ++ (four4 (o.f3.length : Int) ++ (o.f3 ++ t))), false) := takeR_app [(o.f1.size : Int)] _ 1 rfl false
  have s3 : takeR o.f1.size (bI o.f1 ++ (four4 o.f2 ++ (four4 (o.f3.length : Int) ++ (o.f3 ++ t)))) false = (bI o.f1, four4 o.f2 ++ (four4 (o.f3.length : Int) ++ (o.f3 ++ t)), false) := takeR_app _ _ _ (bI_len _).symm false
  have s4 : takeR 4 (four4 o.f2 ++ (four4 (o.f3.length : Int) ++ (o.f3 ++ t))) false = (four4 o.f2, four4 (o.f3.length : Int) ++ (o.f3 ++ t), false) := takeR_app _ _ 4 rfl false
  have s5 : takeR 4 (four4 (o.f3.length : Int) ++ (o.f3 ++ t)) false = (four4 (o.f3.length : Int), o.f3 ++ t, false) := takeR_app _ _ 4 rfl false
  have s6 : takeR o.f3.length (o.f3 ++ t) false = (o.f3, t, false) := takeR_app _ _ _ rfl false
  rw [e]
  unfold opR
  simp only [s1, s2, byteR_app, Int.toNat_natCast, s3, s4, fourR_app o.f2 _ false a0 (by omega), s5, fourR_app (o.f3.length : Int) _ false (by omega) (by omega), s6, strOf_bI]
theorem opsR_enc : ∀ (L acc : List Rop) (t : List Int), (∀ o ∈ L, Fm o) → opsR L.length (encAll L ++ t) false acc = (acc ++ L, t, false)
  | [], acc, t, _ => by simp [opsR, encAll]
  | o :: r, acc, t, h => by
    have h1 := opR_enc (h o (List.mem_cons_self ..)) (encAll r ++ t)
    have ih := opsR_enc r (acc ++ [o]) t (fun x hx => h x (List.mem_cons_of_mem _ hx))
    rw [encAll, List.append_assoc, List.length_cons, opsR, if_neg (by decide), h1, ih]
    simp
/-- A change in form is read back out of its bytes. -/
theorem opsP_enc {L : List Rop} (h : checkL L = none) : opsP (encL L) = (L, [], false) := by
  obtain ⟨hl, _, hf⟩ := check_ok h
  have e : (L.length : Int) % 256 = L.length := by omega
  unfold opsP encL
  rw [e, byteR_app, Int.toNat_natCast, show ((L.length : Int) :: encAll L) = [(L.length : Int)] ++ encAll L from rfl, takeR_app [(L.length : Int)] _ 1 rfl false]
  have h1 := opsR_enc L [] [] hf
  rw [List.append_nil] at h1
  exact h1
/-! ### the other way: what is read is written as it was -/
theorem takeR_inv {n : Nat} {l a t : List Int} (h : takeR n l false = (a, t, false)) : l = a ++ t ∧ a.length = n := by
  unfold takeR at h
  split at h
  · simp at h
  · rename_i hn
    simp only [Prod.mk.injEq] at h
    obtain ⟨rfl, rfl, _⟩ := h
    exact ⟨(List.take_append_drop n l).symm, by rw [List.length_take]; omega⟩
theorem takeR_sh {n : Nat} {l a t : List Int} {s s' : Bool} (h : takeR n l s = (a, t, s')) (hs : s' = false) : s = false := by
  unfold takeR at h
  split at h
  · simp only [Prod.mk.injEq] at h
    rw [hs] at h
    exact absurd h.2.2 (by decide)
  · simp only [Prod.mk.injEq] at h
    rw [h.2.2, hs]
theorem four4_numR {T : List Int} (hB : Lib04.isB T) (hl : T.length = 4) : four4 (numR T) = T := by
  match T, hl with
  | [a, b, c, d], _ =>
    have h0 := hB a (by simp)
    have h1 := hB b (by simp)
    have h2 := hB c (by simp)
    have h3 := hB d (by simp)
    show four4 ((((0 * 256 + a) * 256 + b) * 256 + c) * 256 + d) = [a, b, c, d]
    unfold four4
    congr 1
    · omega
    · congr 1
      · omega
      · congr 1
        · omega
        · congr 1
          omega
theorem bI_strOf {T : List Int} (hB : Lib04.isB T) : bI (strOfNums T) = T := by
  unfold bI
  rw [strOfNums_data, List.map_map]
  have : ∀ x ∈ T, ((fun c : UInt8 => (c.toNat : Int)) ∘ fun n : Int => UInt8.ofNat n.toNat) x = x := fun x hx => by
    have h := hB x hx
    simp only [Function.comp, UInt8.toNat_ofNat']
    omega
  rw [List.map_congr_left this, List.map_id']
theorem one_byte {l a t : List Int} (h : takeR 1 l false = (a, t, false)) : l = byteR l false :: t := by
  obtain ⟨h1, h2⟩ := takeR_inv h
  match a, h2 with
  | [x], _ =>
    unfold byteR
    rw [h]
    exact h1
theorem opR_inv {l t : List Int} {o : Rop} (hB : Lib04.isB l) (h : opR l false = (o, t, false)) : l = encOp o ++ t ∧ Lib04.isB o.f3 ∧ Lib04.isB t := by
  obtain ⟨t1, l1, s1, e1⟩ : ∃ t l1 s1, takeR 1 l false = (t, l1, s1) := ⟨_, _, _, rfl⟩
  obtain ⟨t2, l2, s2, e2⟩ : ∃ t l2 s2, takeR 1 l1 s1 = (t, l2, s2) := ⟨_, _, _, rfl⟩
  obtain ⟨nm, l3, s3, e3⟩ : ∃ t l3 s3, takeR (byteR l1 s1).toNat l2 s2 = (t, l3, s3) := ⟨_, _, _, rfl⟩
  obtain ⟨t4, l4, s4, e4⟩ : ∃ t l4 s4, takeR 4 l3 s3 = (t, l4, s4) := ⟨_, _, _, rfl⟩
  obtain ⟨t5, l5, s5, e5⟩ : ∃ t l5 s5, takeR 4 l4 s4 = (t, l5, s5) := ⟨_, _, _, rfl⟩
  obtain ⟨bs, l6, s6, e6⟩ : ∃ t l6 s6, takeR (fourR l4 s4).toNat l5 s5 = (t, l6, s6) := ⟨_, _, _, rfl⟩
  unfold opR at h
  simp only [e1, e2, e3, e4, e5, e6, Prod.mk.injEq] at h
  obtain ⟨rfl, rfl, rfl⟩ := h
  obtain rfl := takeR_sh e6 rfl
  obtain rfl := takeR_sh e5 rfl
  obtain rfl := takeR_sh e4 rfl
  obtain rfl := takeR_sh e3 rfl
  obtain rfl := takeR_sh e2 rfl
  have b1 : Lib04.isB l1 := by have h9 := (takeR_B (n := 1) (sh := false) hB).2; rw [e1] at h9; exact h9
  have b2 : Lib04.isB l2 := by have h9 := (takeR_B (n := 1) (sh := false) b1).2; rw [e2] at h9; exact h9
  have b3 := takeR_B (n := (byteR l1 false).toNat) (sh := false) b2
  rw [e3] at b3
  have b4 := takeR_B (n := 4) (sh := false) b3.2
  rw [e4] at b4
  have b5 := takeR_B (n := 4) (sh := false) b4.2
  rw [e5] at b5
  have b6 := takeR_B (n := (fourR l4 false).toNat) (sh := false) b5.2
  rw [e6] at b6
  have k0 := byteR_le (sh := false) hB
  have k1 := byteR_le (sh := false) b1
  have k4 := fourR_le (sh := false) b4.2
  obtain ⟨i3, n3⟩ := takeR_inv e3
  obtain ⟨i4, n4⟩ := takeR_inv e4
  obtain ⟨i5, n5⟩ := takeR_inv e5
  obtain ⟨i6, n6⟩ := takeR_inv e6
  have f4 : four4 (fourR l3 false) = t4 := by unfold fourR; rw [e4]; exact four4_numR b4.1 n4
  have f5 : four4 (fourR l4 false) = t5 := by unfold fourR; rw [e5]; exact four4_numR b5.1 n5
  refine ⟨?_, b6.1, b6.2⟩
  unfold encOp
  simp only [strOfNums_size, bI_strOf b3.1]
  rw [n3, n6, show (((byteR l1 false).toNat : Nat) : Int) = byteR l1 false from Int.toNat_of_nonneg k1.1, show (((fourR l4 false).toNat : Nat) : Int) = fourR l4 false from Int.toNat_of_nonneg k4.1, f4, f5, show byteR l false % 256 = byteR l false by omega, show byteR l1 false % 256 = byteR l1 false by omega, one_byte e1]
  conv => lhs; rw [one_byte e2, i3, i4, i5, i6]
  simp [byteR_app]
theorem opsR_inv : ∀ (n : Nat) (l : List Int) (acc L : List Rop) (t : List Int), Lib04.isB l → opsR n l false acc = (L, t, false) → ∃ M, L = acc ++ M ∧ M.length = n ∧ l = encAll M ++ t ∧ ∀ o ∈ M, Lib04.isB o.f3
  | 0, l, acc, L, t, hB, h => by
    simp only [opsR, Prod.mk.injEq] at h
    obtain ⟨rfl, rfl, _⟩ := h
    exact ⟨[], by simp, rfl, by simp [encAll], fun o ho => by cases ho⟩
  | n + 1, l, acc, L, t, hB, h => by
    rw [opsR, if_neg (by decide)] at h
    obtain ⟨o, l1, s1, e⟩ : ∃ o l1 s1, opR l false = (o, l1, s1) := ⟨_, _, _, rfl⟩
    rw [e] at h
    cases s1 with
    | true =>
      cases n with
      | zero => simp [opsR] at h
      | succ n => simp [opsR] at h
    | false =>
      obtain ⟨h1, h2, h3⟩ := opR_inv hB e
      obtain ⟨M, hM, hl, hx, hb⟩ := opsR_inv n l1 _ L t h3 h
      refine ⟨o :: M, by rw [hM]; simp, by simp [hl], by rw [h1, hx, encAll, List.append_assoc], fun x hx => ?_⟩
      rcases List.mem_cons.1 hx with rfl | hx
      · exact h2
      · exact hb x hx
/-- What is read as operations has their bytes. -/
theorem opsP_inv {b : List Int} {L : List Rop} (hB : Lib04.isB b) (h : opsP b = (L, [], false)) : encL L = b ∧ ∀ o ∈ L, Lib04.isB o.f3 := by
  unfold opsP at h
  obtain ⟨a, l1, s1, e⟩ : ∃ a l1 s1, takeR 1 b false = (a, l1, s1) := ⟨_, _, _, rfl⟩
  rw [e] at h
  cases s1 with
  | true =>
    cases hn : (byteR b false).toNat with
    | zero => rw [hn] at h; simp [opsR] at h
    | succ n => rw [hn] at h; simp [opsR] at h
  | false =>
    have b1 : Lib04.isB l1 := by have h9 := (takeR_B (n := 1) (sh := false) hB).2; rw [e] at h9; exact h9
    have k := byteR_le (sh := false) hB
    obtain ⟨M, hM, hl, hx, hb⟩ := opsR_inv _ l1 [] L [] b1 h
    rw [List.nil_append] at hM
    subst hM
    rw [List.append_nil] at hx
    refine ⟨?_, hb⟩
    have h2 := one_byte e
    have hlen : (L.length : Int) = byteR b false := by rw [hl]; exact Int.toNat_of_nonneg k.1
    unfold encL
    rw [hlen, show byteR b false % 256 = byteR b false by omega, ← hx]
    exact h2.symm
end Go.Proofs.YtpcfnkmljchiiaaGreatDoor.OPar
