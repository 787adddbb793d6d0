/- Written by a program of mine (wip/tools/mkprint.py turns the kit's print; given contracts by hand). Lean checks it. -/
import Derived.Test.YthlofokgbogndabGBoxesx0
namespace Go.Proofs.Ythlofokgbogndab.GBoxes
open Go.RowKit Go.Proofs.YthlofokgbogndabW.PrintWords Go.Proofs.YthlofokgbogndabW.PrintLast Go.Proofs.YthlofokgbogndabW.PrintMore
attribute [local go_sem] max2_int min2_int max_two min_two max_three min_three max_four min_four   -- for this text's walks alone
set_option linter.unusedVariables false
set_option linter.unusedSimpArgs false

-- function 44 (slices_AppendSeq_byte_byte): its walk stands in a text of its own

-- function 30 (slices_Collect_byte): its walk stands in a text of its own

/-! ### header_small: function 25 -/
section
open Go.Maps Go.Shelf Go.Proofs.YthlofokgbogndabW.SRows
theorem smInfo : (Try.prog.info? 5).map (fun i => (i.zero, i.size, i.bytes)) = some (some (.int .u8 0), 1, 1) := by kernel_rfl
theorem cell_of_heap {w W : World} {g : Nat} (h : w.heap[g]? = W.heap[g]?) (j : Nat) : w.cell? ⟨g, j, none⟩ = W.cell? ⟨g, j, none⟩ := by
  simp only [World.cell?, h]
/-- What an iterator's own rows (they bear the mark of a conversion, and lie from block B on) are asked to be: left alone. -/
def Keep8 (B : Nat) (W W' : World) : Prop := ∀ b C e fr, W.heap[b]? = some (.cells C e fr) → fr ≠ (0, 0) → B ≤ b → W'.heap[b]? = W.heap[b]?
theorem Keep8.trans {B : Nat} {W W1 W2 : World} (h1 : Keep8 B W W1) (h2 : Keep8 B W1 W2) : Keep8 B W W2 := fun b C e fr hb hf hB => (h2 b C e fr ((h1 b C e fr hb hf hB).trans hb) hf hB).trans (h1 b C e fr hb hf hB)
theorem Keep8.putObj {B l : Nat} (W : World) (o : Obj) (h : l < B) : Keep8 B W (W.putObj l o) := fun b _ _ _ _ _ hB => World.putObj_heap_other (by omega)
theorem Keep8.alloc {B : Nat} (W : World) (o : Obj) : Keep8 B W (W.alloc o) := fun b _ _ _ hb _ _ => Below.heap_alloc _ _ b (Array.getElem?_eq_some_iff.1 hb).1
theorem Keep8.own {B : Nat} {W W' : World} {base : Nat} {e : TypeId} {size : Nat} {v : Value} {k : Nat} {xs : List Value} (hg : W.grownBy W' v.ownBlock) (h : W.ownsRow base e size v k xs) : Keep8 B W W' := fun b C e' fr hb hf _ => by
  refine hg.block b (Array.getElem?_eq_some_iff.1 hb).1 (fun he => ?_)
  rcases h.2 with ⟨rfl, _⟩ | ⟨g, cap, cur, rfl, _, hgb, _⟩
  · simp [Value.ownBlock] at he
  · have : g = b := by simpa [Value.ownBlock] using he.symm
    subst this
    rw [hgb] at hb
    injection hb with hb
    injection hb with _ _ hb
    exact hf hb.symm
theorem Keep8.setCell {B Bs : Nat} (W : World) (v : Value) (h : Bs < B) : Keep8 B W (W.setCell ⟨Bs, 0, none⟩ v) := fun b _ _ _ _ _ hB => Below.heap_setCell _ _ _ b (by show b ≠ Bs; omega)
/-- An iterator's value that gives just these numbers. -/
def SeqB (F : Fence) (n : Nat) (P : Program) (g : Nat) (lb : Array Value) (out : List Int) (N : Nat) (w : World) : Prop :=
  ∀ (l : Nat) (J : List Int → World → Prop) (W : World), Below w.heap.size w W → AbidesFrom W.heap.size J →
    (∀ pre x W1, J pre W1 → pre.length < N → YieldAt F (n - 1) P l #[.int .u8 x] W1 fun e W' => e = .returned (.bool true) ∧ J (pre ++ [x]) W' ∧ Keep8 W.heap.size W1 W') → J [] W →
    CallsIn F n P g (#[.func (.yield l) #[] #[]] ++ lb) W fun e W' => (∃ v, e = .returned v) ∧ J out W'

set_option maxRecDepth 100000 in
set_option maxHeartbeats 2000000 in
/-- The iterator: each byte of the text comes, made small, in order. -/
theorem small1_in (F : Fence) (n : Nat) (hf : F.fn 31) (hro : F.round = none) (hn : 1 ≤ n) (l Bm : Nat) (s : ByteArray) (hs : s.size ≤ 1000000) (J : List Int → World → Prop)
    (W : World) (hJ : AbidesFrom W.heap.size J)
    (hY : ∀ pre x W1, J pre W1 → pre.length < s.size → YieldAt F (n - 1) Try.prog l #[.int .u8 x] W1 fun e W' => e = .returned (.bool true) ∧ J (pre ++ [x]) W' ∧ Keep8 W.heap.size W1 W')
    (hm : W.cell? ⟨Bm, 0, none⟩ = some (.string s)) (h0 : J [] W) :
    CallsIn F n Try.prog 31 #[.func (.yield l) #[] #[], .pointer (some ⟨Bm, 0, none⟩)] W fun e W' => (∃ v, e = .returned v) ∧ J (smallL s) W' := by
  have hcv := Lib.run_convert_string_bytes (P := Try.prog) W 9 33 5 s Try.underlying9 Try.underlying33 Try.underlying5
  obtain ⟨cap, hcap⟩ : ∃ c, c = grownCap W s.size 0 5 := ⟨_, rfl⟩
  rw [← hcap] at hcv
  clear hcap
  have hJ0 : J [] (Lib.bytesWorld W 5 s) := hJ [] W _ none h0 (bytes_grown W _ s) (fun r e => by cases e)
  have hnew := Lib.bytesWorld_at_new W 5 s
  have hcells := Lib.bytesWorld_cell W 5 s
  obtain ⟨W1, hW1⟩ : ∃ x, x = Lib.bytesWorld W 5 s := ⟨_, rfl⟩
  rw [← hW1] at hcv hJ0 hnew
  simp only [← hW1] at hcells
  clear hW1
  have HJ0 := Aside0.mk hJ0
  have HN := Aside0.mk hnew
  have HC := Aside0.mk hcells
  have HS := Aside0.mk hs
  have HY := Aside0.mk hY
  have hle : (s.size : Int) ≤ 1000000 := by omega
  clear hJ0 hnew hcells hs hY
  refine callsIn_of_wp Try.func31 rfl hf ?_ hro
  simp only [Try.ntmps31, List.size_toArray, List.length_cons, List.length_nil, Nat.reduceAdd, Nat.reduceSub, Array.replicate_succ, Array.replicate_zero, List.push_toArray, List.append_toArray, List.nil_append, List.cons_append]
  gi_wp2
  gi_loopw [8] (fun i wr => ∃ k : Nat, k ≤ s.size ∧ i = .int .i64 k ∧ Aside0 (J ((smallL s).take k) wr) ∧ Aside0 (wr.heap[W.heap.size]? = W1.heap[W.heap.size]?)) (fun i _ => s.size - (intOf i).toNat)
  case atStart => exact ⟨0, Nat.zero_le _, rfl, HJ0, ⟨rfl⟩⟩
  case round =>
    obtain ⟨k, hk, rfl, HJ, HH⟩ := hrel
    by_cases hlt : k < s.size
    · have hcell := (cell_of_heap HH.out k).trans (HC.out k hlt)
      have hlast := smallL_get s k hlt
      have hb0 : 0 ≤ ((s.data.toList.getD k 0).toNat : Int) ∧ ((s.data.toList.getD k 0).toNat : Int) ≤ 255 := ⟨by omega, by have := (s.data.toList.getD k 0).toNat_lt; omega⟩
      obtain ⟨c, hcc⟩ : ∃ c, c = ((s.data.toList.getD k 0).toNat : Int) := ⟨_, rfl⟩
      rw [← hcc] at hcell hlast hb0
      have htake : (smallL s).take (k + 1) = (smallL s).take k ++ [lowI c] := by rw [List.take_add_one, hlast]; rfl
      have hlen : ((smallL s).take k).length < s.size := by rw [List.length_take, smallL_length]; omega
      have HT := Aside0.mk htake
      have HLN := Aside0.mk hlen
      have t1 : decide (k < s.size) = true := decide_eq_true hlt
      clear hlast htake hlen hcc
      obtain ⟨fn, tmps, assign, body, hy, hR⟩ := HY.out _ (lowI c) wr HJ.out HLN.out
      have HR := Aside0.mk hR
      clear hR
      have fin : ∀ W', Keep8 W.heap.size wr W' → W'.heap[W.heap.size]? = W1.heap[W.heap.size]? := fun W' hk8 => (hk8 W.heap.size _ _ _ (HH.out.trans HN.out) (by intro e; injection e with e1 e2; omega) (Nat.le_refl _)).trans HH.out
      have HFIN := Aside0.mk fin
      clear fin
      by_cases hup : 65 ≤ c ∧ c ≤ 90
      · have el : lowI c = c + 32 := if_pos hup
        rw [el] at hy HR HT
        have hu1 : 65 ≤ c := hup.1
        have hu2 : c ≤ 90 := hup.2
        clear el hup
        gi_wp2
        refine HR.out.mono ?_
        rintro e W3 ⟨rfl, hJ3, hk3⟩
        have HJ3 := Aside0.mk hJ3
        have HK3 := Aside0.mk (HFIN.out W3 hk3)
        clear hJ3 hk3
        gi_wp2
        go_roundw
        case rel => exact ⟨k + 1, by omega, by go_num, by rw [HT.out]; exact HJ3, HK3⟩
        case measure => simp [intOf]; omega
      · have el : lowI c = c := if_neg hup
        rw [el] at hy HR HT
        by_cases hu1 : 65 ≤ c
        · have hu2 : ¬ c ≤ 90 := fun h => hup ⟨hu1, h⟩
          clear el hup
          gi_wp2
          refine HR.out.mono ?_
          rintro e W3 ⟨rfl, hJ3, hk3⟩
          have HJ3 := Aside0.mk hJ3
          have HK3 := Aside0.mk (HFIN.out W3 hk3)
          clear hJ3 hk3
          gi_wp2
          go_roundw
          case rel => exact ⟨k + 1, by omega, by go_num, by rw [HT.out]; exact HJ3, HK3⟩
          case measure => simp [intOf]; omega
        · clear el hup
          gi_wp2
          refine HR.out.mono ?_
          rintro e W3 ⟨rfl, hJ3, hk3⟩
          have HJ3 := Aside0.mk hJ3
          have HK3 := Aside0.mk (HFIN.out W3 hk3)
          clear hJ3 hk3
          gi_wp2
          go_roundw
          case rel => exact ⟨k + 1, by omega, by go_num, by rw [HT.out]; exact HJ3, HK3⟩
          case measure => simp [intOf]; omega
    · have hks : k = s.size := by omega
      have t1 : decide (k < s.size) = false := decide_eq_false hlt
      have hfull : (smallL s).take k = smallL s := List.take_of_length_le (by rw [smallL_length]; omega)
      rw [hfull] at HJ
      clear hfull hks hlt hk
      gi_wp2
      go_end0
      exact ⟨⟨_, rfl⟩, HJ.out⟩
/-! slices.AppendSeq(nil, seq), turned from the guide's worked text to bytes -/
def sm_apAssign : Code := (Code.region 2 #[{ dst := some 5, op := Op.assign (Operand.tmp 7), type := 5, pos := "iter.go:51", after := #[], guard := none }] false)
def sm_apBody : Code := (Code.block 1 (Code.region 3 #[{ dst := some 8, op := Op.load 33 (Operand.tmp 2), type := 33, pos := "iter.go:52", after := #[], guard := none }, { dst := some 9, op := Op.move (Operand.tmp 5), type := 5, pos := "iter.go:52", after := #[], guard := none }, { dst := some 10, op := Op.buildSlice 33 1 #[(0, Operand.tmp 9)], type := 33, pos := "iter.go:52", after := #[{ on := 1, ground := Ground.data }], guard := none }, { dst := some 11, op := Op.call { callee := Callee.builtin Builtin.append, args := #[Operand.tmp 8, Operand.tmp 10], argTypes := #[33, 33] }, type := 33, pos := "iter.go:52", after := #[{ on := 0, ground := Ground.data }, { on := 2, ground := Ground.data }], guard := none }, { dst := none, op := Op.store 33 (Operand.tmp 2) (Operand.tmp 11), type := 0, pos := "iter.go:52", after := #[{ on := 3, ground := Ground.data }, { on := 3, ground := Ground.chain }, { on := 0, ground := Ground.phase }, { on := 1, ground := Ground.phase }, { on := 2, ground := Ground.phase }, { on := 3, ground := Ground.phase }], guard := none }] false))
/-- The loop's record: AppendSeq's temporaries as they stood at the entering: 's' boxed in block Bs; sv: the iterator's value. -/
def sm_apRec (fn : FuncId) (sv : Value) (Bs D : Nat) (st : LoopState) (pend : Option Code) : Loop :=
  { state := st, pending := pend, fn, tmps := #[.slice none 0 0, sv, .pointer (some ⟨Bs, 0, none⟩), undef, .slice none 0 0, undef, sv, undef, undef, undef, undef, undef, undef], params := #[7], assign := sm_apAssign, body := sm_apBody, defers := D }

/-- BETWEEN TWO ROUNDS: the box holds a slice that owns, in a block of the call's own, what has come so far; IT IS nil JUST AS LONG AS NOTHING HAS COME; nothing that lay before the call has turned. -/
structure sm_ApAt (w0 : World) (fn : FuncId) (sv : Value) (Bs l D : Nat) (ss : List Int) (W : World) : Prop where
  box : ∃ v, W.heap[Bs]? = some (.cells #[v] 33 (0, 0)) ∧ W.ownsRow w0.heap.size 5 1 v ss.length (nums .u8 ss) ∧ (v = .slice none 0 0 ↔ ss = [])
  L : W.heap[l]? = some (.loop (sm_apRec fn sv Bs D .ready none))
  K : W.heap[D]? = some (.deferred (some []))
  below : Below w0.heap.size w0 W

/-- A slice's own row is no walk's object: it abides an iterator's step. -/
theorem ownsRow_abides {W W' : World} {row : Option Nat} {base : Nat} {e : TypeId} {size : Nat} {v : Value} {k : Nat} {xs : List Value} (h : W.ownsRow base e size v k xs) (hg : W.grownBy W' row)
    (hrow : ∀ r, row = some r → ∃ o : Obj, W.heap[r]? = some o ∧ o.isWalk = true) : W'.ownsRow base e size v k xs := by
  refine h.kept hg ?_
  rcases h.2 with ⟨rfl, _⟩ | ⟨g, cap, cur, rfl, _, hgb, _⟩
  · exact .inl rfl
  · refine .inr fun e' => ?_
    obtain ⟨o, ho, hw⟩ := hrow g (by simpa [Value.ownBlock] using e'.symm)
    rw [hgb] at ho; cases ho; cases hw

theorem sm_ap_abides (w0 : World) (fn : FuncId) (sv : Value) (Bs l D B : Nat) (hB : w0.heap.size ≤ B) : AbidesFrom B (sm_ApAt w0 fn sv Bs l D) := fun s W W' row h hg hrow => by
  have hrow' : ∀ r, row = some r → ∃ o : Obj, W.heap[r]? = some o ∧ o.isWalk = true := fun r e => (hrow r e).2
  obtain ⟨v, hv, hr, hn⟩ := h.box
  exact ⟨⟨v, (grownBy_keeps hg hrow' hv rfl).trans hv, ownsRow_abides hr hg hrow', hn⟩, (grownBy_keeps hg hrow' h.L rfl).trans h.L, (grownBy_keeps hg hrow' h.K rfl).trans h.K,
    h.below.grown hg h.below.size (fun k e => Nat.le_trans hB (hrow k e).1)⟩

theorem grownBy_putObj (W : World) (l : Nat) (o : Obj) : W.grownBy (W.putObj l o) (some l) :=
  ⟨rfl, rfl, rfl, by simp, fun k _ hk => World.putObj_heap_other (fun e => hk (by rw [e]))⟩
theorem grownBy_setCell0 (W : World) (b : Nat) (v : Value) : W.grownBy (W.setCell ⟨b, 0, none⟩ v) (some b) :=
  ⟨rfl, rfl, rfl, (KeepsWalks.setCell W _ v).size, fun k _ hk => Below.heap_setCell _ _ _ k (fun e => hk (by rw [e]))⟩
/-- A slice's own row is not a block that holds something else than cells of its element's type. -/
theorem ownsRow_ne {W : World} {base : Nat} {e : TypeId} {size : Nat} {v : Value} {k : Nat} {xs : List Value} (h : W.ownsRow base e size v k xs) {j : Nat} {o : Obj} (hj : W.heap[j]? = some o) (hno : ∀ cur, o ≠ .cells cur e (0, 0)) :
    v.ownBlock = none ∨ v.ownBlock ≠ some j := by
  rcases h.2 with ⟨rfl, _⟩ | ⟨g, cap, cur, rfl, _, hgb, _⟩
  · exact .inl rfl
  · refine .inr fun e' => ?_
    have : g = j := by simpa [Value.ownBlock] using e'
    subst this; rw [hgb] at hj; cases hj; exact hno cur rfl
theorem cell_of_box {W : World} {B : Nat} {v : Value} {t : TypeId} (h : W.heap[B]? = some (.cells #[v] t (0, 0))) : W.cell? ⟨B, 0, none⟩ = some v ∧ W.frozen? ⟨B, 0, none⟩ = false := by
  constructor <;> simp [World.cell?, World.frozen?, h]

theorem heap_setCell_box {W : World} {B : Nat} {v : Value} {t : TypeId} (v' : Value) (h : W.heap[B]? = some (.cells #[v] t (0, 0))) : (W.setCell ⟨B, 0, none⟩ v').heap[B]? = some (.cells #[v'] t (0, 0)) := by
  obtain ⟨hlt, hk⟩ := Array.getElem?_eq_some_iff.1 h
  show (W.heap.modify B _)[B]? = _
  rw [Array.getElem?_eq_getElem (by rw [Array.size_modify]; exact hlt), Array.getElem_modify_self, hk]
  rfl
theorem ownsRow_not_walk {W : World} {base : Nat} {e : TypeId} {size : Nat} {v : Value} {k : Nat} {xs : List Value} (h : W.ownsRow base e size v k xs) : ∀ (j : Nat) (o : Obj), v.ownBlock = some j → W.heap[j]? = some o → o.isWalk = false := by
  intro j o hj ho
  rcases h.2 with ⟨rfl, _⟩ | ⟨g, cap, cur, rfl, _, hgb, _⟩
  · simp [Value.ownBlock] at hj
  · have : g = j := by simpa [Value.ownBlock] using hj
    subst this; rw [hgb] at ho; cases ho; rfl


set_option maxRecDepth 100000 in
set_option maxHeartbeats 2000000 in
theorem sm_apYield (F : Fence) (m : Nat) (w0 : World) (fn : FuncId) (hfn : F.fn fn) (sv : Value) (Bs l D : Nat) (hBl : Bs ≠ l) (hDl : D ≠ l) (hDB : D ≠ Bs) (h0B : w0.heap.size ≤ Bs) (h0l : w0.heap.size ≤ l)
    (N : Nat) (hN : N ≤ maxLen) (hNb : N * 1 ≤ 140737488355328) (ss : List Int) (x : Int) (W : World) (h : sm_ApAt w0 fn sv Bs l D ss W) (hlen : ss.length < N) (B : Nat) (hlB : l < B) (hBB : Bs < B) :
    YieldAt F m Try.prog l #[.int .u8 x] W fun e W' => e = .returned (.bool true) ∧ sm_ApAt w0 fn sv Bs l D (ss ++ [x]) W' ∧ Keep8 B W W' := by
  obtain ⟨i0, hi, hz0, hz1, hz2⟩ := info_parts smInfo
  obtain ⟨v, hv, hrow, _⟩ := h.box
  refine ⟨fn, #[.slice none 0 0, sv, .pointer (some ⟨Bs, 0, none⟩), undef, .slice none 0 0, undef, sv, .int .u8 x, undef, undef, undef, undef, undef], sm_apAssign, sm_apBody, by simpa [sm_apRec] using run_yield (P := Try.prog) (args := #[.int .u8 x]) h.L rfl, roundIn_of_wpIn hfn ?_⟩
  have hl : l < W.heap.size := (Array.getElem?_eq_some_iff.1 h.L).1
  have hbr := run_beginRound (P := Try.prog) h.L rfl
  obtain ⟨W2, hW2⟩ : ∃ W2, W.putObj l (.loop { sm_apRec fn sv Bs D .ready none with state := .busy }) = W2 := ⟨_, rfl⟩
  rw [hW2] at hbr
  have hg2 : W.grownBy W2 (some l) := by rw [← hW2]; exact grownBy_putObj _ _ _
  have hk2 : Keep8 B W W2 := by rw [← hW2]; exact Keep8.putObj _ _ hlB
  have hv2 : W2.heap[Bs]? = some (.cells #[v] 33 (0, 0)) := by rw [← hW2]; exact (World.putObj_heap_other hBl).trans hv
  have hK2 : W2.heap[D]? = some (.deferred (some [])) := by rw [← hW2]; exact (World.putObj_heap_other hDl).trans h.K
  have hL2 : W2.heap[l]? = some (.loop { sm_apRec fn sv Bs D .ready none with state := .busy }) := by rw [← hW2]; exact World.putObj_heap_same hl
  have hrow2 : W2.ownsRow w0.heap.size 5 1 v ss.length (nums .u8 ss) := hrow.kept hg2 (ownsRow_ne hrow h.L (fun cur e => by cases e))
  have hb2 : Below w0.heap.size w0 W2 := h.below.grown hg2 h.below.size (fun k e => by cases e; exact h0l)
  obtain ⟨hc2, hf2⟩ := cell_of_box hv2
  have hBlt : Bs < W2.heap.size := (Array.getElem?_eq_some_iff.1 hv2).1
  have hl2 : l < W2.heap.size := (Array.getElem?_eq_some_iff.1 hL2).1
  have hDlt : D < W2.heap.size := (Array.getElem?_eq_some_iff.1 hK2).1
  have ne_of : ∀ {j : Nat} {o : Obj}, W2.heap[j]? = some o → (∀ cur, o ≠ .cells cur 5 (0, 0)) → some j ≠ v.ownBlock := fun hj hno => by
    rcases ownsRow_ne hrow2 hj hno with e | e
    · rw [e]; simp
    · exact fun e' => e e'.symm
  clear hW2
  unfold sm_apAssign
  gi_wp2_with (rw [Oper.semAt_eq _ _ _ (fun c h => by cases h)]; go_simp; try go_bits)
  unfold sm_apBody
  gi_wp2_with (first
    | (gi_at_builtin; refine wpListIn_append_own _ rfl _ _ 33 rfl w0.heap.size 5 i0 (.int .u8 0) 1 1 Try.underlying33 hi hz0 hz1 hz2 rfl (by decide) _ _ _ rfl (hrow2.alloc _) ⟨W2.heap.size, 0, none⟩ 1 1 [.int .u8 x] rfl rfl (cell_one_new _ _ _) (by simp [Value.oneCell']) (by omega) (by omega) (by have := hb2.size; simp; omega) ?_; intro v' w3 hown' hg3 hnil3
       have hv3 : w3.heap[Bs]? = some (.cells #[v] 33 (0, 0)) := (hg3.block Bs (by simp; omega) (ne_of hv2 (fun cur e => by cases e))).trans ((Below.heap_alloc _ _ Bs hBlt).trans hv2)
       obtain ⟨hc3, hf3⟩ := cell_of_box hv3
       obtain ⟨g', cap', cur', rfl, hbase', hgb', hr1, hr2, hr3, hr4⟩ : ∃ g' cap' cur', v' = .slice (some ⟨g', 0, none⟩) (ss.length + 1) cap' ∧ w0.heap.size ≤ g' ∧ w3.heap[g']? = some (.cells cur' 5 (0, 0)) ∧ ss.length + 1 ≤ cap' ∧ cap' ≤ maxLen ∧ cur'.size = cap' * 1 ∧ cur'.toList.take ((ss.length + 1) * 1) = nums .u8 ss ++ [.int .u8 x] := by
         rcases hown'.2 with ⟨_, h0⟩ | h'
         · exact absurd h0 (by omega)
         · exact h'
       go_frame)
    | (rw [Oper.semAt_eq _ _ _ (fun c h => by cases h)]; go_simp; try go_bits))
  have hg3' : (W2.alloc (.cells #[.int .u8 x] 5)).grownBy w3 v.ownBlock := hg3
  have hL3 : w3.heap[l]? = some (.loop { sm_apRec fn sv Bs D .ready none with state := .busy }) := (hg3'.block l (by simp; omega) (ne_of hL2 (fun cur e => by cases e))).trans ((Below.heap_alloc _ _ l hl2).trans hL2)
  have hK3 : w3.heap[D]? = some (.deferred (some [])) := (hg3'.block D (by simp; omega) (ne_of hK2 (fun cur e => by cases e))).trans ((Below.heap_alloc _ _ D hDlt).trans hK2)
  obtain ⟨w4, hw4⟩ : ∃ w4, w3.setCell ⟨Bs, 0, none⟩ (.slice (some ⟨g', 0, none⟩) (ss.length + 1) cap') = w4 := ⟨_, rfl⟩
  rw [hw4]
  have hg4 : w3.grownBy w4 (some Bs) := by rw [← hw4]; exact grownBy_setCell0 _ _ _
  have hv4 : w4.heap[Bs]? = some (.cells #[.slice (some ⟨g', 0, none⟩) (ss.length + 1) cap'] 33 (0, 0)) := by rw [← hw4]; exact heap_setCell_box _ hv3
  have hL4 : w4.heap[l]? = some (.loop { sm_apRec fn sv Bs D .ready none with state := .busy }) := (hg4.block l (Array.getElem?_eq_some_iff.1 hL3).1 (fun e => hBl (by cases e; rfl))).trans hL3
  have hK4 : w4.heap[D]? = some (.deferred (some [])) := (hg4.block D (Array.getElem?_eq_some_iff.1 hK3).1 (fun e => hDB (by cases e; rfl))).trans hK3
  have hrow4 := hown'.kept hg4 (ownsRow_ne hown' hv3 (fun cur e => by cases e))
  have hl4 : l < w4.heap.size := (Array.getElem?_eq_some_iff.1 hL4).1
  have hb3 : Below w0.heap.size w0 w3 := (hb2.alloc hb2.size _).grown hg3' (by have := hb2.size; simp; omega) (fun k e => (hrow2.lt k e).1)
  have hb4 : Below w0.heap.size w0 w4 := hb3.grown hg4 hb3.size (fun k e => by cases e; exact h0B)
  have hk4 : Keep8 B W w4 := ((hk2.trans (Keep8.alloc _ _)).trans (Keep8.own hg3' (hrow2.alloc _))).trans (by rw [← hw4]; exact Keep8.setCell _ _ hBB)
  clear hw4
  refine ⟨_, _, run_endRound none hL4, rfl, ⟨⟨_, (World.putObj_heap_other hBl).trans hv4, ?_, by simp⟩, World.putObj_heap_same hl4, (World.putObj_heap_other hDl).trans hK4, hb4.grown (grownBy_putObj _ _ _) hb4.size (fun k e => by cases e; exact h0l)⟩, hk4.trans (Keep8.putObj _ _ hlB)⟩
  have := hrow4.kept (grownBy_putObj w4 l (.loop { { sm_apRec fn sv Bs D .ready none with state := .busy } with state := if (none : Option Code).isNone then .ready else .done, pending := none })) (ownsRow_ne hrow4 hL4 (fun cur e => by cases e))
  simpa [nums] using this


set_option maxRecDepth 100000 in
set_option maxHeartbeats 2000000 in
/-- **slices.AppendSeq(nil, seq), AGAINST WHATEVER ITERATOR VALUE THAT 'SeqGives'**: it hands back a slice that owns, in a block of the call's own, JUST WHAT THE ITERATOR GAVE, IN THAT ORDER; nil JUST WHERE IT GAVE NOTHING (as Go: 'slices.Collect' of nothing is nil); nothing that lay before the call has turned. -/
theorem sm_appendSeq_in (F : Fence) (n : Nat) (h11 : F.fn 44) (hro : F.round = none) (hn : 2 ≤ n) (g : Nat) (lb : Array Value) (hFg : F.fn g) (eg : ∀ args w, (callFunc g args).run Try.prog w = .ok (.enter g args) w)
    (out : List Int) (N : Nat) (hN : N ≤ maxLen) (hNb : N * 1 ≤ 140737488355328) (w : World) (hseq : SeqB F (n - 1) Try.prog g lb out N w) :
    CallsIn F n Try.prog 44 #[.slice none 0 0, .func (.func g) #[] lb] w fun e w' => ∃ v : Value, e = .returned v ∧ w'.ownsRow w.heap.size 5 1 v out.length (nums .u8 out) ∧ Below w.heap.size w w' := by
  have h1 : 1 ≤ n := by omega
  refine callsIn_of_wp_marks Try.func44 rfl h11 ?_ hro
  simp only [Try.ntmps44, List.size_toArray, List.length_cons, List.length_nil, Nat.reduceAdd, Nat.reduceSub, Array.replicate_succ, Array.replicate_zero, List.push_toArray, List.append_toArray, List.nil_append, List.cons_append]
  gi_wp2
  refine wpIn_rangeFunc ?_
  intro fn hfn
  rw [hro]
  obtain ⟨W0, hW0⟩ : ∃ W0, w.alloc (.cells #[.slice none 0 0] 33) = W0 := ⟨_, rfl⟩
  have hs0 : W0.heap.size = w.heap.size + 1 := by rw [← hW0]; simp
  have hv0 : W0.heap[w.heap.size]? = some (.cells #[.slice none 0 0] 33 (0, 0)) := by rw [← hW0]; exact World.alloc_heap_new w _
  have hb0 : Below w.heap.size w W0 := by rw [← hW0]; exact (Below.refl _ w).alloc (Nat.le_refl _) _
  rw [hW0]
  obtain ⟨W1, hW1⟩ : ∃ W1, (W0.alloc (.deferred (some []))).alloc (.loop (sm_apRec fn (.func (.func g) #[] lb) w.heap.size W0.heap.size .ready none)) = W1 := ⟨_, rfl⟩
  have hold : ∀ k, k < W0.heap.size → W1.heap[k]? = W0.heap[k]? := fun k hk => by
    rw [← hW1]; exact (Below.heap_alloc _ _ k (by simp; omega)).trans (Below.heap_alloc _ _ k hk)
  have hb1 : Below w.heap.size w W1 := by rw [← hW1]; exact (hb0.alloc hb0.size _).alloc (by have := hb0.size; simp; omega) _
  have hs1 : W1.heap.size = W0.heap.size + 2 := by rw [← hW1]; simp
  have hM : sm_ApAt w fn (.func (.func g) #[] lb) w.heap.size (W0.heap.size + 1) W0.heap.size [] W1 :=
    ⟨⟨_, (hold w.heap.size (by omega)).trans hv0, ⟨rfl, .inl ⟨rfl, rfl⟩⟩, by simp⟩,
     by rw [← hW1]; have := World.alloc_heap_new (W0.alloc (.deferred (some []))) (.loop (sm_apRec fn (.func (.func g) #[] lb) w.heap.size W0.heap.size .ready none)); rwa [World.size_alloc] at this,
     by rw [← hW1]; exact (Below.heap_alloc _ _ _ (by simp)).trans (World.alloc_heap_new W0 _), hb1⟩
  refine ⟨W0.heap.size + 1, [{ target := .collected W0.heap.size, args := #[] }], W1, { target := .fn (.func g) lb, args := #[.func (.yield (W0.heap.size + 1)) #[] #[]] }, W1, g,
    #[.func (.yield (W0.heap.size + 1)) #[] #[]] ++ lb, W1, ?_, ?_, ?_, ?_, fun _ => h1, ?_⟩
  · rw [← hW1]; exact run_enterLoop_outer _ _ _ _ _
  · simp [resolve, go_sem]
  · intro f' hf'; simp [Target.leads] at hf'; subst hf'; exact hFg
  · simp [invoke, go_sem, eg]
  · refine (hseq (W0.heap.size + 1) (sm_ApAt w fn (.func (.func g) #[] lb) w.heap.size (W0.heap.size + 1) W0.heap.size) W1 hb1 (sm_ap_abides _ _ _ _ _ _ _ hb1.size)
      (fun pre x W hJ hl => sm_apYield F (n - 1 - 1) w fn hfn _ w.heap.size (W0.heap.size + 1) W0.heap.size (by omega) (by omega) (by omega) (Nat.le_refl _) (by omega) N hN hNb pre x W hJ hl W1.heap.size (by omega) (by omega)) hM).mono ?_
    rintro e W2 ⟨⟨v0, rfl⟩, h2⟩
    obtain ⟨v, hv, hrow, _⟩ := h2.box
    have hend := run_endLoop (P := Try.prog) h2.L (by simp [sm_apRec])
    obtain ⟨W3, hW3⟩ : ∃ W3, W2.putObj (W0.heap.size + 1) (.loop { sm_apRec fn (.func (.func g) #[] lb) w.heap.size W0.heap.size .ready none with state := .exhausted }) = W3 := ⟨_, rfl⟩
    rw [hW3] at hend
    have hg3 : W2.grownBy W3 (some (W0.heap.size + 1)) := by rw [← hW3]; exact grownBy_putObj _ _ _
    have hv3 : W3.heap[w.heap.size]? = some (.cells #[v] 33 (0, 0)) := by rw [← hW3]; exact (World.putObj_heap_other (by omega)).trans hv
    have hK3 : W3.heap[W0.heap.size]? = some (.deferred (some [])) := by rw [← hW3]; exact (World.putObj_heap_other (by omega)).trans h2.K
    have hrow3 := hrow.kept hg3 (ownsRow_ne hrow h2.L (fun cur e => by cases e))
    have hb3 : Below w.heap.size w W3 := h2.below.grown hg3 h2.below.size (fun k e => by cases e; omega)
    obtain ⟨hc3, hf3⟩ := cell_of_box hv3
    clear hW3
    refine ⟨none, W3, hend, ?_⟩
    gi_wp2
    rw [← hs0]
    refine ⟨by simp, .inl ⟨_, _, rfl, run_takeDeferred hK3, ?_⟩⟩
    exact ⟨_, results_tmp rfl _ _ _, v, rfl, hrow3.kept (grownBy_putObj _ _ _) (ownsRow_ne hrow3 hK3 (fun cur e => by cases e)), hb3.grown (grownBy_putObj _ _ _) hb3.size (fun k e => by cases e; omega)⟩


def openF : Fence := { fn := fun _ => True }
theorem openF_room (k : Nat) : openF.room k := fun d h => by cases h
set_option maxHeartbeats 1000000 in
/-- slices.Collect of the text's small bytes. -/
theorem collect_small (s : ByteArray) (hs : s.size ≤ 1000000) (Bm : Nat) (w : World) (hB : Bm < w.heap.size) (hm : w.cell? ⟨Bm, 0, none⟩ = some (.string s)) :
    Calls Try.prog 30 #[.func (.func 31) #[] #[.pointer (some ⟨Bm, 0, none⟩)]] w fun e w' => ∃ v : Value, e = .returned v ∧ w'.ownsRow w.heap.size 5 1 v (smallL s).length (nums .u8 (smallL s)) ∧ Below w.heap.size w w' := by
  have hseq : ∀ m, 1 ≤ m → SeqB openF m Try.prog 31 #[.pointer (some ⟨Bm, 0, none⟩)] (smallL s) s.size w := fun m h1 l J W hW hJ hY h0 =>
    small1_in openF m trivial rfl h1 l Bm s hs J W hJ hY ((hW.cell (p := ⟨Bm, 0, none⟩) hB).trans hm) h0
  have hg : ∀ args w, (callFunc 31 args).run Try.prog w = .ok (.enter 31 args) w := enters_of Try.func31 (by kernel_rfl) rfl
  have HA := Aside0.mk (sm_appendSeq_in openF 8 trivial rfl (by omega) 31 #[.pointer (some ⟨Bm, 0, none⟩)] trivial hg (smallL s) s.size (by unfold maxLen; omega) (by omega) w (hseq 7 (by omega)))
  clear hseq hg hm hB hs
  go_enter Try.func30, Try.ntmps30
  go_wp2_with (go_at_call 44; refine (HA.out.calls openF_room).mono ?_; rintro e w' ⟨v, rfl, hrow, hb⟩; have H1 := Aside0.mk hrow; have H2 := Aside0.mk hb; clear hrow hb)
  go_ret
  exact ⟨_, rfl, H1.out, H2.out⟩
def header_small.f (s : ByteArray) : Option ByteArray := if s.size ≤ 1000000 then some (strOfNums (smallL s)) else none
set_option maxHeartbeats 1000000 in
theorem header_small.calls (a0 : ByteArray) (r : ByteArray) (w : World) (h : header_small.f a0 = some r) :
    Calls Try.prog 25 #[.string a0] w fun e w' => e = .returned (.string r) ∧ Below w.heap.size w w' := by
  unfold header_small.f at h
  by_cases hs : a0.size ≤ 1000000
  case neg =>
    rw [if_neg hs] at h
    exact absurd h (by simp)
  rw [if_pos hs] at h
  have HR := Aside0.mk (Option.some.inj h)
  have HS := Aside0.mk hs
  clear h hs
  have HC := Aside0.mk (collect_small a0 HS.out w.heap.size (w.alloc (.cells #[.string a0] 9)) (by simp) (World.cell?_alloc_new _ _ _ _))
  have HB := Aside0.mk (show Below w.heap.size w (w.alloc (.cells #[.string a0] 9)) from (Below.refl _ _).alloc (Nat.le_refl _) _)
  go_enter Try.func25, Try.ntmps25
  go_wp2_with (go_at_call 30; refine HC.out.mono ?_; rintro e w' ⟨v, rfl, hrow, hb⟩; obtain ⟨Q1, q1, e1, hri⟩ := own_reads hrow; subst e1; have hcv := Kd.C_string (P := Try.prog) (A := Q1) (c := q1) Try.underlying33 Try.underlying5 Try.underlying9 (Kd.C_of_reads (d := (0 : Int)) (h1 := fun _ => rfl) hri); have H2 := Aside0.mk (below_then HB.out (by simp) hb); clear hrow hb hri)
  go_ret
  exact ⟨by rw [HR.out]; rfl, H2.out⟩
end

/-! ### header_Same: function 17 -/
def header_Same.f (a0 : ByteArray) (a1 : ByteArray) : Option (Bool) := (header_small.f a0).bind fun t101 => ((header_small.f a1).bind fun t102 => (some (t101.toList == t102.toList)))
set_option maxHeartbeats 8000000 in
set_option maxRecDepth 100000 in
theorem header_Same.calls (a0 : ByteArray) (a1 : ByteArray) (r : Bool) (w : World) (h : header_Same.f a0 a1 = some r) :
    Calls Try.prog 17 #[.string a0, .string a1] w fun e w' => e = .returned (.bool r) ∧ Below w.heap.size w w' := by
  have HB := Aside0.mk (Below.refl w.heap.size w)
  have H : ((header_small.f a0).bind fun t101 => ((header_small.f a1).bind fun t102 => (some (t101.toList == t102.toList)))) = some r := h
  clear h
  replace H := Option.bind_eq_some_iff.mp H
  obtain ⟨t101, A30, H⟩ := H
  replace H : ((header_small.f a1).bind fun t102 => (some (t101.toList == t102.toList))) = some r := H
  have A3 := Aside0.mk A30
  clear A30
  replace H := Option.bind_eq_some_iff.mp H
  obtain ⟨t102, A40, H⟩ := H
  replace H : (some (t101.toList == t102.toList)) = some r := H
  have A4 := Aside0.mk A40
  clear A40
  obtain rfl := Option.some.inj H
  go_enter Try.func17, Try.ntmps17
  go_wp2_with (first | ((with_reducible refine gate_callee (f := 25) rfl ?_); refine goesL_ (some 6) rfl rfl Try.func25 (by kernel_rfl) rfl #[.string a0] rfl (by (try simp only [List.map_toArray, List.map_cons, List.map_nil]); first | done | rfl | (simp only [List.length_drop, List.length_take]; rfl)) ?_; (with_reducible refine (header_small.calls a0 t101 _ A3.out).mono ?_); rintro e w5 ⟨rfl, hb⟩; refine ⟨_, rfl, ?_⟩; have n0_ := Aside0.mk (below_step (by repeat (first | (with_reducible first | exact HB.out | apply below_alloc | apply pw_below_drewN | apply below_drew1) | exact HB.out | exact Below.refl _ _)) hb); clear HB; have HB := n0_; clear n0_; (try clear hb); (try clear hb2); (try clear hk); (try clear hi)) | ((with_reducible refine gate_callee (f := 25) rfl ?_); refine goesL_ (some 8) rfl rfl Try.func25 (by kernel_rfl) rfl #[.string a1] rfl (by (try simp only [List.map_toArray, List.map_cons, List.map_nil]); first | done | rfl | (simp only [List.length_drop, List.length_take]; rfl)) ?_; (with_reducible refine (header_small.calls a1 t102 _ A4.out).mono ?_); rintro e w6 ⟨rfl, hb⟩; refine ⟨_, rfl, ?_⟩; have n0_ := Aside0.mk (below_step (by repeat (first | (with_reducible first | exact HB.out | apply below_alloc | apply pw_below_drewN | apply below_drew1) | exact HB.out | exact Below.refl _ _)) hb); clear HB; have HB := n0_; clear n0_; (try clear hb); (try clear hb2); (try clear hk); (try clear hi)))
  go_ret
  exact ⟨by first | rfl | (simp [errW_none, errW_some] <;> rfl) | (simp [*, errW_none, errW_some] <;> rfl), by repeat (first | (with_reducible first | exact HB.out | apply below_alloc | apply pw_below_drewN | apply below_drew1) | exact HB.out | exact Below.refl _ _)⟩

end Go.Proofs.Ythlofokgbogndab.GBoxes
