/- Small letters for capital ones: what smtp.Parse makes of such a text, in plain Lean. -/
import Derived.Test.YtjggdkcfpdhoaaaDoorParse
import Derived.Test.YtjggdkcfpdhoaaaDoorRefSmall
namespace Go.Proofs.YtjggdkcfpdhoaaaDoor.Low
open Go.Proofs.YtjggdkcfpdhoaaaDoorW.SRows
open Go Go.RowKit Go.Proofs.YtjggdkcfpdhoaaaDoorW.PrintWords Go.Proofs.YtjggdkcfpdhoaaaDoor.Dots Go.Proofs.YtjggdkcfpdhoaaaDoor.Large Go.Proofs.YtjggdkcfpdhoaaaDoor.Path Go.Proofs.YtjggdkcfpdhoaaaDoor.Dotted Go.Proofs.YtjggdkcfpdhoaaaDoor.Take Go.Proofs.YtjggdkcfpdhoaaaDoor.Number Go.Proofs.YtjggdkcfpdhoaaaDoor.Opt Go.Proofs.YtjggdkcfpdhoaaaDoor.Mail Go.Proofs.YtjggdkcfpdhoaaaDoor.Read Go.Proofs.YtjggdkcfpdhoaaaDoor.Parse Go.Proofs.YtjggdkcfpdhoaaaDoor.RefSmall
set_option linter.unnecessarySimpa false
set_option linter.unusedVariables false
set_option linter.unusedSimpArgs false
def low8 (b : UInt8) : UInt8 := UInt8.ofNat (lowI (b.toNat : Int)).toNat
def up8 (b : UInt8) : UInt8 := UInt8.ofNat (upI (b.toNat : Int)).toNat
theorem every8 (p : UInt8 → Bool) (h : (List.range 256).all (fun n => p (UInt8.ofNat n)) = true) (b : UInt8) : p b = true := by
  have h1 := List.all_eq_true.1 h b.toNat (List.mem_range.2 b.toNat_lt)
  simpa using h1
theorem sm_data (s : ByteArray) : (refSmallB s).data.toList = s.data.toList.map low8 := by
  rw [refSmallB, strOfNums, bytesOf, List.map_map, List.map_map]
  rfl
theorem large_data (s : ByteArray) : (largeB s).data.toList = s.data.toList.map up8 := by
  rw [largeB, strOfNums, bytesOf, List.map_map, List.map_map]
  rfl
theorem data_inj {a b : ByteArray} (h : a.data.toList = b.data.toList) : a = b := ByteArray.ext (Array.toList_inj.1 h)
theorem cut_data (s : ByteArray) (j i : Nat) : (s.extract j i).data.toList = (s.data.toList.drop j).take (i - j) := by
  obtain ⟨⟨l⟩⟩ := s
  rw [ByteArray.extract_mk]
theorem sm_size (s : ByteArray) : (refSmallB s).size = s.size := by
  rw [← data_length, sm_data, List.length_map, data_length]
theorem sm_cut (s : ByteArray) (j i : Nat) : (refSmallB s).extract j i = refSmallB (s.extract j i) := by
  apply data_inj
  rw [cut_data, sm_data, sm_data, cut_data, List.map_take, List.map_drop]
theorem up_low (b : UInt8) : up8 (low8 b) = up8 b := by
  have h := every8 (fun b => up8 (low8 b) == up8 b) (by decide +kernel) b
  simpa using h
theorem large_sm (s : ByteArray) : largeB (refSmallB s) = largeB s := by
  apply data_inj
  rw [large_data, large_data, sm_data, List.map_map]
  exact List.map_congr_left (fun b _ => up_low b)
/-- Bytes that small letters leave alone. -/
def stays (d : UInt8) : Bool := (List.range 256).all (fun n => (low8 (UInt8.ofNat n) == d) == (UInt8.ofNat n == d))
theorem stays_eq (d : UInt8) (h : stays d = true) (b : UInt8) : (low8 b == d) = (b == d) := by
  have h1 := every8 (fun b => (low8 b == d) == (b == d)) h b
  simpa using h1
theorem index_low (d : UInt8) (h : stays d = true) : ∀ l : List UInt8, Lib.indexByte (l.map low8) d = Lib.indexByte l d
  | [] => rfl
  | b :: l => by rw [List.map_cons, Lib.indexByte, Lib.indexByte, stays_eq d h b, index_low d h l]
theorem cutI_sm (s : ByteArray) (d : UInt8) (h : stays d = true) : cutI (refSmallB s) d = cutI s d := by rw [cutI, cutI, sm_data, index_low d h]
theorem cutF_sm (s : ByteArray) (d : UInt8) (h : stays d = true) : cutF (refSmallB s) d = cutF s d := by rw [cutF, cutF, cutI_sm s d h]
theorem cutA_sm (s : ByteArray) (d : UInt8) (h : stays d = true) : cutA (refSmallB s) d = refSmallB (cutA s d) := by
  rw [cutA, cutA, cutI_sm s d h]
  split
  · rfl
  · rw [sm_cut]
theorem sm_nil : refSmallB ⟨#[]⟩ = ⟨#[]⟩ := rfl
theorem cutB_sm (s : ByteArray) (d : UInt8) (h : stays d = true) : cutB (refSmallB s) d = refSmallB (cutB s d) := by
  rw [cutB, cutB, cutI_sm s d h]
  split
  · rfl
  · rw [sm_cut, sm_size]
theorem has_low (d : UInt8) (h : stays d = true) (l : List UInt8) : Lib.hasPrefix (l.map low8) [d] = Lib.hasPrefix l [d] := by
  cases l with
  | nil => rfl
  | cons b l =>
    have e := stays_eq d h b
    have c1 : (d == low8 b) = (low8 b == d) := BEq.comm
    have c2 : (d == b) = (b == d) := BEq.comm
    simp only [Lib.hasPrefix, List.map_cons, List.isPrefixOf_cons_cons, c1, c2, e]
    rfl
theorem preF_sm (s : ByteArray) (d : UInt8) (h : stays d = true) : preF (refSmallB s) d = preF s d := by rw [preF, preF, sm_data, has_low d h]
theorem preT_sm (s : ByteArray) (d : UInt8) (h : stays d = true) : preT (refSmallB s) d = refSmallB (preT s d) := by
  apply data_inj
  rw [sm_data]
  show Lib.trimPrefix (refSmallB s).data.toList [d] = (Lib.trimPrefix s.data.toList [d]).map low8
  rw [sm_data, Lib.trimPrefix, Lib.trimPrefix, has_low d h]
  split
  · rw [List.map_drop]
  · rfl
theorem sm_bytes (s : ByteArray) : bytesOf (refSmallB s) = (bytesOf s).map lowI := by
  have e : ∀ b : UInt8, ((low8 b).toNat : Int) = lowI (b.toNat : Int) := fun b => by
    have h := every8 (fun b => decide (((low8 b).toNat : Int) = lowI (b.toNat : Int))) (by decide +kernel) b
    exact of_decide_eq_true h
  rw [bytesOf, sm_data, bytesOf, List.map_map, List.map_map]
  exact List.map_congr_left (fun b _ => e b)
theorem empty_sm (s : ByteArray) : (refSmallB s).toList.isEmpty = s.toList.isEmpty := by
  rw [toList_data, toList_data, sm_data, List.isEmpty_map]
theorem dig_low (c : Int) : digI (lowI c) = digI c := by
  unfold lowI
  split
  · rw [digI, digI, decide_eq_false (p := c + 32 ≤ 57) (by omega), decide_eq_false (p := c ≤ 57) (by omega), Bool.and_false, Bool.and_false]
  · rfl
theorem low_dig (c : Int) (h : digI c = true) : lowI c = c := by
  rw [digI, Bool.and_eq_true] at h
  have h2 := of_decide_eq_true h.2
  exact if_neg (by omega)
theorem numF_sm (s : ByteArray) : numF (refSmallB s) = numF s := by
  rw [numF, numF, sm_size, sm_bytes, List.all_map]
  have : (digI ∘ lowI) = digI := funext dig_low
  rw [this]
theorem numV_sm (s : ByteArray) : numV (refSmallB s) = numV s := by
  rw [numV, numV, numF_sm]
  cases h : numF s with
  | false => rfl
  | true =>
    rw [if_pos rfl, if_pos rfl, sm_bytes]
    rw [numF, Bool.and_eq_true, Bool.and_eq_true] at h
    have h2 := List.all_eq_true.1 h.2.2
    rw [List.map_congr_left (g := id) (fun c hc => low_dig c (h2 c hc)), List.map_id]
theorem cutsA_low (d : Int) (h : ∀ c, lowI c = d ↔ c = d) : ∀ cur l : List Int, cutsA d (cur.map lowI) (l.map lowI) = (cutsA d cur l).map (List.map lowI)
  | cur, [] => rfl
  | cur, c :: l => by
    rw [List.map_cons, cutsA, cutsA]
    by_cases e : c = d
    · rw [if_pos ((h c).2 e), if_pos e, List.map_cons]
      have := cutsA_low d h [] l
      rw [List.map_nil] at this
      rw [this]
    · rw [if_neg (fun x => e ((h c).1 x)), if_neg e]
      have := cutsA_low d h (cur ++ [c]) l
      rw [List.map_append] at this
      exact this
theorem dotted_low (most : Nat) (is : List Int → Bool) (h : ∀ l, is (l.map lowI) = is l) (l : List Int) : dottedL most is (l.map lowI) = dottedL most is l := by
  have e := cutsA_low 46 (fun c => by unfold lowI; split <;> omega) [] l
  rw [List.map_nil] at e
  rw [dottedL, dottedL, List.length_map, cuts, e, List.all_map, cuts]
  have : (partOK is ∘ List.map lowI) = partOK is := funext fun p => by
    show partOK is (p.map lowI) = partOK is p
    rw [partOK, partOK, List.isEmpty_map, h]
  rw [this]
theorem plain_low (c : Int) : plainC (lowI c) = plainC c := by
  unfold lowI
  split
  · rename_i h
    have a : plainC (c + 32) = true := by rw [plainC, decide_eq_true (p := 97 ≤ c + 32) (by omega), decide_eq_true (p := c + 32 ≤ 122) (by omega)]; rfl
    have b : plainC c = true := by rw [plainC, decide_eq_true (p := 65 ≤ c) (by omega), decide_eq_true (p := c ≤ 90) (by omega)]; simp
    rw [a, b]
  · rfl
theorem atom_low (c : Int) : atomC (lowI c) = atomC c := by
  rw [atomC, atomC, plain_low]
  unfold lowI
  split
  · rename_i h
    have b : plainC c = true := by rw [plainC, decide_eq_true (p := 65 ≤ c) (by omega), decide_eq_true (p := c ≤ 90) (by omega)]; simp
    rw [b]; rfl
  · rfl
theorem low45 (c : Int) : (lowI c == 45) = (c == 45) := by
  rw [Bool.eq_iff_iff, beq_iff_eq, beq_iff_eq]
  unfold lowI
  split <;> omega
theorem label_low (c : Int) : labelC (lowI c) = labelC c := by rw [labelC, labelC, plain_low, low45]
theorem atomL_low (l : List Int) : atomL (l.map lowI) = atomL l := by
  rw [atomL, atomL, List.all_map]
  have : (atomC ∘ lowI) = atomC := funext atom_low
  rw [this]
theorem getD_low (l : List Int) (i : Nat) : (l.map lowI).getD i 0 = lowI (l.getD i 0) := by
  rw [List.getD_eq_getElem?_getD, List.getD_eq_getElem?_getD, List.getElem?_map]
  cases l[i]? with
  | none => rfl
  | some x => rfl
theorem labelL_low (l : List Int) : labelL (l.map lowI) = labelL l := by
  have : (labelC ∘ lowI) = labelC := funext label_low
  have n45 : ∀ c, (lowI c != 45) = (c != 45) := fun c => by rw [bne, bne, low45]
  rw [labelL, labelL, List.all_map, this, getD_low, getD_low, List.length_map, n45, n45]
theorem local_sm (s : ByteArray) : localB (refSmallB s) = localB s := by rw [localB, localB, sm_bytes, dotted_low 64 atomL atomL_low]
theorem domain_sm (s : ByteArray) : domainB (refSmallB s) = domainB s := by rw [domainB, domainB, sm_bytes, dotted_low 100 labelL labelL_low]
def low3 (x : ByteArray × ByteArray × ByteArray) : ByteArray × ByteArray × ByteArray := (refSmallB x.1, refSmallB x.2.1, refSmallB x.2.2)
theorem takeG_low (b1 b2 b3 b4 b5 b6 : Bool) (l d q : ByteArray) : takeG b1 b2 b3 b4 b5 b6 (refSmallB l) (refSmallB d) (refSmallB q) = (takeG b1 b2 b3 b4 b5 b6 l d q).map low3 := by
  cases b1 <;> cases b2 <;> cases b3 <;> cases b4 <;> cases b5 <;> cases b6 <;> rfl
theorem st62 : stays 62 = true := by decide +kernel
theorem st60 : stays 60 = true := by decide +kernel
theorem st64 : stays 64 = true := by decide +kernel
theorem st61 : stays 61 = true := by decide +kernel
theorem st32 : stays 32 = true := by decide +kernel
theorem take_sm (s : ByteArray) : takeB (refSmallB s) = (takeB s).map low3 := by
  rw [takeB, takeB, cutA_sm s 62 st62, preT_sm _ 60 st60]
  unfold takeI
  rw [cutA_sm s 62 st62, preF_sm _ 60 st60, cutF_sm s 62 st62, empty_sm, cutF_sm _ 64 st64, cutA_sm _ 64 st64, cutB_sm _ 64 st64, local_sm, domain_sm, cutB_sm s 62 st62, takeG_low]
/-- A command with small letters in its texts behind the verb. -/
def lowC (c : CmdR) : CmdR := { c with l := refSmallB c.l, d := refSmallB c.d, a := refSmallB c.a }
theorem opt_sm (c : CmdR) (s : ByteArray) : optC (lowC c) (refSmallB s) = (optC c s).map lowC := by
  unfold optC
  rw [cutA_sm s 61 st61, cutB_sm s 61 st61, large_sm, large_sm, numF_sm, numV_sm]
  show (if _ then if _ then if 0 ≤ c.n then none else some _ else none else if _ then if c.b.toList.isEmpty = true then if _ then some _ else none else none else none) = _
  split
  · split
    · split <;> rfl
    · rfl
  · split
    · split
      · split <;> rfl
      · rfl
    · rfl
theorem opts_sm : ∀ (k : Nat) (c : CmdR) (o : ByteArray), optsO k (lowC c) (refSmallB o) = (optsO k c o).map lowC
  | 0, c, o => by
    rw [optsO, optsO, empty_sm]
    split <;> rfl
  | k + 1, c, o => by
    rw [optsO, optsO, empty_sm, preF_sm o 32 st32, preT_sm o 32 st32, cutA_sm _ 32 st32, opt_sm, sm_size, sm_size, sm_cut]
    split
    · rfl
    · split
      · rfl
      · cases h : optC c (cutA (preT o 32) 32) with
        | none => rfl
        | some c' => exact opts_sm k c' _
theorem aft_sm (s words : ByteArray) : aftF (refSmallB s) words = aftF s words := by rw [aftF, aftF, sm_size, sm_cut, large_sm]
theorem aftV_sm (s words : ByteArray) : aftV (refSmallB s) words = refSmallB (aftV s words) := by
  rw [aftV, aftV, aft_sm, sm_size]
  split
  · rw [sm_cut]
  · rfl
theorem mail_sm (c : CmdR) (rest words : ByteArray) : mailO (lowC c) (refSmallB rest) words = (mailO c rest words).map lowC := by
  unfold mailO
  rw [aft_sm, aftV_sm, take_sm]
  split
  · rfl
  · cases takeB (aftV rest words) with
    | none => rfl
    | some x =>
      obtain ⟨l, d, o⟩ := x
      show (if (c.v.toList == [82, 67, 80, 84]) = true then (if (refSmallB o).toList.isEmpty = true then some (lowC { c with l := l, d := d }) else none) else optsO (refSmallB o).size (lowC { c with l := l, d := d, n := -1 }) (refSmallB o)) = _
      rw [empty_sm, sm_size, opts_sm]
      show _ = Option.map lowC (if (c.v.toList == [82, 67, 80, 84]) = true then (if o.toList.isEmpty = true then some { c with l := l, d := d } else none) else optsO o.size { c with l := l, d := d, n := -1 } o)
      split
      · split <;> rfl
      · rfl
theorem readG_low (b1 b2 b3 b4 b5 b6 dom emp more : Bool) (c ca : CmdR) (m1 m2 : Option CmdR) : readG b1 b2 b3 b4 b5 b6 dom emp more (lowC c) (lowC ca) (m1.map lowC) (m2.map lowC) = (readG b1 b2 b3 b4 b5 b6 dom emp more c ca m1 m2).map lowC := by
  cases b1 <;> cases b2 <;> cases b3 <;> cases b4 <;> cases b5 <;> cases b6 <;> cases dom <;> cases emp <;> cases more <;> rfl
theorem read_sm (c : CmdR) (rest : ByteArray) (more : Bool) : readO (lowC c) (refSmallB rest) more = (readO c rest more).map lowC := by
  unfold readO
  rw [domain_sm, empty_sm, mail_sm, mail_sm, ← readG_low]
  rfl
theorem parse_sm (s : ByteArray) : parseC (refSmallB s) = (lowC (parseC s).1, (parseC s).2) := by
  unfold parseC
  rw [cutA_sm s 32 st32, cutB_sm s 32 st32, cutF_sm s 32 st32, large_sm]
  split
  · rfl
  · have h := read_sm { emptyC with v := largeB (cutA s 32) } (cutB s 32) (cutF s 32)
    have e : lowC { emptyC with v := largeB (cutA s 32) } = { emptyC with v := largeB (cutA s 32) } := rfl
    rw [e] at h
    rw [h]
    cases readO { emptyC with v := largeB (cutA s 32) } (cutB s 32) (cutF s 32) with
    | none => rfl
    | some c => rfl
theorem optC_v (c d : CmdR) (s : ByteArray) (h : optC c s = some d) : d.v = c.v := by
  unfold optC at h
  split at h
  · split at h
    · split at h
      · cases h
      · cases h; rfl
    · cases h
  · split at h
    · split at h
      · split at h
        · cases h; rfl
        · cases h
      · cases h
    · cases h
theorem opts_v : ∀ (k : Nat) (c d : CmdR) (o : ByteArray), optsO k c o = some d → d.v = c.v
  | 0, c, d, o, h => by
    rw [optsO] at h
    split at h
    · cases h; rfl
    · cases h
  | k + 1, c, d, o, h => by
    rw [optsO] at h
    split at h
    · cases h; rfl
    · split at h
      · cases h
      · cases hc : optC c (cutA (preT o 32) 32) with
        | none => rw [hc] at h; cases h
        | some c' =>
          rw [hc] at h
          exact (opts_v k c' d _ h).trans (optC_v _ _ _ hc)
theorem mail_v (c d : CmdR) (rest words : ByteArray) (h : mailO c rest words = some d) : d.v = c.v := by
  unfold mailO at h
  split at h
  · cases h
  · cases ht : takeB (aftV rest words) with
    | none => rw [ht] at h; cases h
    | some x =>
      obtain ⟨l, q, o⟩ := x
      rw [ht] at h
      replace h : (if (c.v.toList == [82, 67, 80, 84]) = true then (if o.toList.isEmpty = true then some { c with l := l, d := q } else none) else optsO o.size { c with l := l, d := q, n := -1 } o) = some d := h
      split at h
      · split at h
        · cases h; rfl
        · cases h
      · have h9 := opts_v _ _ _ _ h
        exact h9
theorem readG_v (b1 b2 b3 b4 b5 b6 dom emp more : Bool) (c ca d : CmdR) (m1 m2 : Option CmdR) (hca : ca.v = c.v) (h1 : ∀ d, m1 = some d → d.v = c.v) (h2 : ∀ d, m2 = some d → d.v = c.v)
    (h : readG b1 b2 b3 b4 b5 b6 dom emp more c ca m1 m2 = some d) : d.v = c.v := by
  cases b1 <;> cases b2 <;> cases b3 <;> cases b4 <;> cases b5 <;> cases b6 <;> cases dom <;> cases emp <;> cases more <;> simp only [readG] at h <;> first
    | exact h1 d h
    | exact h2 d h
    | (cases h; first | rfl | exact hca)
    | (simp at h; first | (rw [← h]; exact hca) | (rw [← h]))
    | exact h1 d (by simpa using h)
    | exact h2 d (by simpa using h)
theorem read_v (c d : CmdR) (rest : ByteArray) (more : Bool) (h : readO c rest more = some d) : d.v = c.v :=
  readG_v _ _ _ _ _ _ _ _ _ c { c with a := rest } d (mailO c rest fromS) (mailO c rest toS) rfl (fun d h => mail_v _ _ _ _ h) (fun d h => mail_v _ _ _ _ h) h
/-- Where nothing is behind a verb, small letters change nothing. -/
theorem read_nil (v : ByteArray) (more : Bool) (d : CmdR) (h : readO { emptyC with v := v } ⟨#[]⟩ more = some d) : lowC d = d := by
  have e := read_sm { emptyC with v := v } ⟨#[]⟩ more
  have e1 : readO { emptyC with v := v } ⟨#[]⟩ more = (readO { emptyC with v := v } ⟨#[]⟩ more).map lowC := e
  rw [h] at e1
  exact (Option.some.inj e1).symm
theorem parse_zero (s : ByteArray) (h : (parseC s).2 = 0) : Lib.containsS verbsL (largeB (cutA s 32)) = true ∧ ∃ c, readO { emptyC with v := largeB (cutA s 32) } (cutB s 32) (cutF s 32) = some c ∧ parseC s = (c, 0) := by
  cases hv : Lib.containsS verbsL (largeB (cutA s 32)) with
  | false =>
    rw [parseC, if_pos hv] at h
    exact absurd h (by decide)
  | true =>
    have hn : ¬ Lib.containsS verbsL (largeB (cutA s 32)) = false := by rw [hv]; decide
    have e : parseC s = (match readO { emptyC with v := largeB (cutA s 32) } (cutB s 32) (cutF s 32) with | none => (emptyC, 501) | some c => (c, 0)) := by
      rw [parseC, if_neg hn]
      rfl
    cases hr : readO { emptyC with v := largeB (cutA s 32) } (cutB s 32) (cutF s 32) with
    | none =>
      rw [e, hr] at h
      exact absurd h (by decide)
    | some c => exact ⟨rfl, c, rfl, by rw [e, hr]⟩
theorem verb_size (v : ByteArray) (h : Lib.containsS verbsL v = true) : v.size = 4 := by
  rw [Lib.containsS_iff] at h
  have h1 : verbsL.all (fun v => v.size == 4) = true := by decide
  have h2 := List.all_eq_true.1 h1 v h
  simpa using h2
theorem cut_none (s : ByteArray) (h : (cutA s 32).size = s.size) : cutB s 32 = ⟨#[]⟩ := by
  rw [cutB]
  split
  · rfl
  · rename_i hn
    obtain ⟨i, hi⟩ : ∃ i : Nat, cutI s 32 = i := ⟨(cutI s 32).toNat, by omega⟩
    have hlt := cutI_hit s 32 i hi
    rw [cutA, if_neg hn, ByteArray.size_extract] at h
    omega
theorem parse_four (s : ByteArray) (h : s.size = 4) : lowC (parseC s).1 = (parseC s).1 := by
  by_cases h0 : (parseC s).2 = 0
  · obtain ⟨h1, c, h2, h3⟩ := parse_zero s h0
    have h4 := verb_size _ h1
    have h5 : (largeB (cutA s 32)).size = (cutA s 32).size := by rw [← data_length, large_data, List.length_map, data_length]
    have h6 := cut_none s (by omega)
    rw [h6] at h2
    rw [h3]
    exact read_nil _ _ _ h2
  · unfold parseC at h0 ⊢
    split
    · rfl
    · rename_i hn
      rw [if_neg hn] at h0
      cases hr : readO { emptyC with v := largeB (cutA s 32) } (cutB s 32) (cutF s 32) with
      | none => rfl
      | some c => rw [hr] at h0; exact absurd rfl h0
theorem parse_long (s : ByteArray) (h : (parseC s).2 = 0) : 4 ≤ s.size := by
  obtain ⟨h1, c, h2, h3⟩ := parse_zero s h
  have h4 := verb_size _ h1
  have h5 : (largeB (cutA s 32)).size = (cutA s 32).size := by rw [← data_length, large_data, List.length_map, data_length]
  have h6 := cutA_size s 32
  omega
theorem parse_word (s : ByteArray) (h : (parseC s).2 = 0) (hv : (parseC s).1.v.toList = [68, 65, 84, 65] ∨ (parseC s).1.v.toList = [82, 83, 69, 84] ∨ (parseC s).1.v.toList = [81, 85, 73, 84]) : lowC (parseC s).1 = (parseC s).1 := by
  obtain ⟨h1, c, h2, h3⟩ := parse_zero s h
  rw [h3] at hv ⊢
  have h4 := read_v _ _ _ _ h2
  have hf : cutF s 32 = false := by
    cases hF : cutF s 32 with
    | false => rfl
    | true =>
      exfalso
      rw [hF] at h2
      have h5 : c.v.toList = (largeB (cutA s 32)).toList := by rw [h4]
      replace hv : (largeB (cutA s 32)).toList = [68, 65, 84, 65] ∨ (largeB (cutA s 32)).toList = [82, 83, 69, 84] ∨ (largeB (cutA s 32)).toList = [81, 85, 73, 84] := by rw [← h5]; exact hv
      unfold readO at h2
      rcases hv with hv | hv | hv <;> simp only [hv] at h2 <;> exact absurd h2 (by simp [readG])
  have hb : cutB s 32 = ⟨#[]⟩ := by
    rw [cutB]
    split
    · rfl
    · rename_i hn
      rw [cutF] at hf
      exact absurd (of_decide_eq_false hf) (by omega)
  rw [hb] at h2
  exact read_nil _ _ _ h2
end Go.Proofs.YtjggdkcfpdhoaaaDoor.Low
