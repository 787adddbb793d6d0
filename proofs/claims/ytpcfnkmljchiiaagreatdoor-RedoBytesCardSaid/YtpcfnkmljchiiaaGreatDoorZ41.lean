/- Steps towards RBoth: ORow. -/
import Derived.Test.YtpcfnkmljchiiaaGreatDoorZ38
import Derived.Test.YtpcfnkmljchiiaaGreatDoorZ36
import Derived.Test.YtpcfnkmljchiiaaGreatDoorZ29
set_option linter.unusedVariables false
set_option linter.unusedSimpArgs false
/- What a change among the arguments holds; how long it is. -/
namespace Go.Proofs.YtpcfnkmljchiiaaGreatDoor.ORow
open Go Go.ChangeShapes Go.WideShapes Go.ChangeAt Go.RowKit Go.Proofs.YtpcfnkmljchiiaaGreatDoorW.PrintWords GSix DRow Go.Proofs.YtpcfnkmljchiiaaGreatDoor.OPl Go.Proofs.YtpcfnkmljchiiaaGreatDoor.OWf Go.Proofs.YtpcfnkmljchiiaaGreatDoor.OEnc
section
variable {H : Type} {enc : TypeId × Value → H} {P : Program} {w : World} {base : Nat} {sp : Nat → Bool} {held : Bool}
/-- A row, and how much it weighs. -/
theorem rd_slice2 {α : Type} {d : Kd α} {Q : α → Prop} {t e : TypeId} (ht : P.underlying t = some (.slice e)) (hc : P.cellsOf e = d.sz) (he : Rd enc P w base sp held d e Q) :
    Rd enc P w base sp held (Kd.slice e d) t (fun xs => (xs.length ≤ maxLen ∧ ∀ x ∈ xs, Q x) ∧ xs.length * P.bytesOf e ≤ reachBytes) := by
  intro n cs x h hb
  obtain ⟨xs, hK, hq⟩ := rd_slice (d := d) (Q := Q) ht hc he n cs x h hb
  refine ⟨xs, hK, hq, ?_⟩
  rcases DataW.trod_slice ht h with ⟨rfl, rfl⟩ | ⟨a, len, cap, elems, rest, m, _, rfl, rfl, hbs, hl, hm, hlen, hel, _, _⟩
  · obtain ⟨A, c, e1, _, hC⟩ := hK
    simp only [List.cons.injEq, Value.slice.injEq, and_true] at e1
    rw [← e1.2.1]
    simp
  · obtain ⟨A, c, e1, _, hC⟩ := hK
    simp only [List.cons.injEq, Value.slice.injEq, and_true] at e1
    rw [← e1.2.1]
    have hmem := hb ((elems.length + rest.length) * P.bytesOf e) (by
      simp only [DataW.weights, ht, List.length_map]
      exact List.mem_cons_self)
    refine Nat.le_trans (Nat.mul_le_mul_right _ ?_) hmem
    omega
end
/-- What is known of an operation among the arguments. -/
structure SmR (o : Rop) : Prop where
  k : (Lit.int .i64 o.f0).wf = true
  size : o.f1.size ≤ reachBytes
  a : (Lit.int .i64 o.f2).wf = true
  len : o.f3.length ≤ reachBytes
  byt : ∀ z ∈ o.f3, (Lit.int .u8 z).wf = true
section
variable {H : Type} {enc : TypeId × Value → H} {w : World} {base : Nat} {sp : Nat → Bool} {held : Bool}
theorem b5 : Tryz.prog.bytesOf 5 = 1 := by kernel_rfl
theorem bop : Tryz.prog.bytesOf 62 = 56 := by kernel_rfl
set_option maxRecDepth 100000 in
theorem rd_rop : Rd enc Tryz.prog w base sp held k62 62 SmR := by
  intro n cs x h hb
  cases n with
  | zero => simp [DataW.trod] at h
  | succ n =>
    rw [DataW.trod_step] at h
    unfold DataW.trodStep at h
    simp only [Tryz.underlying62] at h
    have hc : Tryz.prog.cellsOf 62 = 4 := by kernel_rfl
    rw [hc] at h
    split at h
    · rename_i hl
      obtain ⟨xs, hm, rfl⟩ := Option.map_eq_some_iff.1 h
      have g := mapM_some_get hm
      have hlx : xs.length = 4 := mapM_some_length hm
      match cs, hl with
      | [v0, v1, v2, v3], _ =>
      have c3 : Tryz.prog.cellsOf 3 = 1 := by kernel_rfl
      have c9 : Tryz.prog.cellsOf 9 = 1 := by kernel_rfl
      have c37 : Tryz.prog.cellsOf 32 = 1 := by kernel_rfl
      have wt : ∀ (i : Nat) (t : TypeId) (y : DataW H × List MemPlace), [3, 9, 3, 32][i]? = some t → xs[i]? = some y → ∀ b ∈ y.1.weights Tryz.prog t, b ≤ reachBytes := fun i t y ht hy b hbm => hb b (by
        simp only [DataW.weights, Tryz.underlying62]
        exact DataW.weights_mem_each (j := i) (t := t) (d := y.1) ht (by rw [List.getElem?_map, hy]; rfl) b hbm)
      have gt : ∀ i, i < 4 → ∃ y, xs[i]? = some y := fun i hi => ⟨_, List.getElem?_eq_getElem (by omega)⟩
      obtain ⟨y0, e0⟩ := gt 0 (by omega)
      obtain ⟨y1, e1⟩ := gt 1 (by omega)
      obtain ⟨y2, e2⟩ := gt 2 (by omega)
      obtain ⟨y3, e3⟩ := gt 3 (by omega)
      have g0 := g 0 _ rfl
      have g1 := g 1 _ rfl
      have g2 := g 2 _ rfl
      have g3 := g 3 _ rfl
      simp only [c3, c9, c37, e0, e1, e2, e3, List.drop_succ_cons, List.drop_zero, List.take_succ_cons, List.take_zero] at g0 g1 g2 g3
      obtain ⟨a0, k0, q0⟩ := rd_int Tryz.underlying3 _ _ _ g0 (wt 0 _ _ rfl e0)
      obtain ⟨a1, k1, q1⟩ := rd_string Tryz.underlying9 _ _ _ g1 (wt 1 _ _ rfl e1)
      obtain ⟨a2, k2, q2⟩ := rd_int Tryz.underlying3 _ _ _ g2 (wt 2 _ _ rfl e2)
      obtain ⟨a3, k3, q3⟩ := rd_slice2 (d := Kd.int .u8) Tryz.underlying32 (by kernel_rfl) (rd_int Tryz.underlying5) _ _ _ g3 (wt 3 _ _ rfl e3)
      refine ⟨⟨a0, a1, a2, a3⟩, ⟨[v0], [v1, v2, v3], rfl, k0, [v1], [v2, v3], rfl, k1, [v2], [v3], rfl, k2, k3⟩, ⟨q0, q1, q2, ?_, q3.1.2⟩⟩
      have h9 := q3.2
      rw [b5, Nat.mul_one] at h9
      exact h9
    · cases h
/-- A change among the arguments. -/
theorem open_rops {A : Option Addr} {len cap : Nat} {x : DataW H × List MemPlace} {ts : List TypeId} {ds : List (DataW H)} {j n : Nat} (hsz : (DataW.weightsEach Tryz.prog ts ds).all (· ≤ reachBytes) = true) (hj : ts[j]? = some 54) (hd : ds[j]? = some x.1)
    (h : DataW.trod enc Tryz.prog w base sp held n 54 [.slice A len cap] = some x) : ∃ l : List Rop, len = l.length ∧ Kd.C k62 w A l.length l ∧ l.length ≤ cap ∧ l.length ≤ reachBytes ∧ ∀ o ∈ l, SmR o := by
  obtain ⟨l, ⟨A2, c2, e, hc, hC⟩, ⟨hm, hq⟩, hw⟩ := rd_slice2 (d := k62) Tryz.underlying54 (by kernel_rfl) rd_rop _ _ _ h (fun b hb => by
    have := List.all_eq_true.1 hsz _ (DataW.weights_mem_each hj hd b hb)
    simpa using this)
  simp only [List.cons.injEq, Value.slice.injEq, and_true] at e
  obtain ⟨rfl, rfl, rfl⟩ := e
  rw [bop] at hw
  exact ⟨l, rfl, hC, hc, by omega, hq⟩
end
theorem wid7 (a : Int) (h0 : -9223372036854775808 ≤ a) (h1 : a ≤ 9223372036854775807) : wrap64 a = a := by unfold wrap64; omega
theorem long_l (L : List Rop) (hL : L.length ≤ 1000000000000000) (hs : ∀ o ∈ L, o.f1.size ≤ 1000000000000000 ∧ o.f3.length ≤ 1000000000000000) : ∀ (m i : Nat) (n : Int), i + m = L.length → 0 ≤ n → n ≤ 1000000000000000 →
    ∃ r, postbaglaw06_long.l0 (m + 1) n L (L.length : Int) (i : Int) = some r ∧ (r = false → n + (lenL (L.drop i) : Int) ≤ 20000)
  | 0, i, n, h, h0, h1 => by
    refine ⟨decide (n > 20000), ?_, fun hr => ?_⟩
    · unfold postbaglaw06_long.l0
      rw [if_neg (by omega)]
    · rw [List.drop_eq_nil_of_le (by omega)]
      have := of_decide_eq_false hr
      show n + ((0 : Nat) : Int) ≤ 20000
      omega
  | m + 1, i, n, h, h0, h1 => by
    obtain ⟨o, ho⟩ : ∃ o, L[i]? = some o := ⟨_, List.getElem?_eq_getElem (by omega)⟩
    obtain ⟨a, b⟩ := hs o (List.mem_of_getElem? ho)
    have hrd : rd_T62 L (i : Int) = o := by
      unfold rd_T62
      rw [Int.toNat_natCast, List.getD_eq_getElem?_getD, ho]
      rfl
    have hD : lenL (L.drop i) = (o.f1.size + o.f3.length) + lenL (L.drop (i + 1)) := by
      rw [List.drop_eq_getElem_cons (by omega), (List.getElem?_eq_some_iff.1 ho).2]
      rfl
    unfold postbaglaw06_long.l0
    rw [if_pos (by omega), if_pos (by omega), if_pos (by omega), hrd, wid7 ((o.f3.length : Int) + o.f1.size) (by omega) (by omega), wid7 (n + ((o.f3.length : Int) + o.f1.size)) (by omega) (by omega), wid7 ((i : Int) + 1) (by omega) (by omega)]
    by_cases hg : n + ((o.f3.length : Int) + o.f1.size) > 20000
    · rw [if_pos hg]
      exact ⟨true, rfl, fun h => by cases h⟩
    · rw [if_neg hg, if_neg (by omega)]
      obtain ⟨r, hr, hl⟩ := long_l L hL hs m (i + 1) (n + ((o.f3.length : Int) + o.f1.size)) (by omega) (by omega) (by omega)
      refine ⟨r, ?_, fun hf => ?_⟩
      · rw [show (i : Int) + 1 = ((i + 1 : Nat) : Int) by omega]
        exact hr
      · have := hl hf
        rw [hD]
        omega
/-- What is not long. -/
theorem long_f (L : List Rop) (hL : L.length ≤ reachBytes) (hs : ∀ o ∈ L, SmR o) : ∃ k r, postbaglaw06_long.f k L = some r ∧ (r = false → L.length + lenL L ≤ 20000) := by
  have e : reachBytes ≤ 1000000000000000 := by decide
  obtain ⟨r, h1, h2⟩ := long_l L (by omega) (fun o ho => ⟨by have := (hs o ho).size; omega, by have := (hs o ho).len; omega⟩) L.length 0 L.length (Nat.zero_add _) (by omega) (by omega)
  refine ⟨L.length + 1, r, h1, fun hr => ?_⟩
  have := h2 hr
  rw [List.drop_zero] at this
  omega
theorem len_mem : ∀ {L : List Rop} {o : Rop}, o ∈ L → o.f1.size + o.f3.length ≤ lenL L
  | a :: r, o, h => by
    simp only [lenL, List.map_cons, List.sum_cons]
    rcases List.mem_cons.1 h with rfl | h
    · omega
    · have := len_mem h
      unfold lenL at this
      omega
end Go.Proofs.YtpcfnkmljchiiaaGreatDoor.ORow
