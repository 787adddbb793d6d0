/- Steps towards RBoth: OEnc, OByt, OCk, ORdr. -/
import Derived.Test.YtpcfnkmljchiiaaGreatDoorZ22
import Derived.Test.YtpcfnkmljchiiaaGreatDoorZ24
import Derived.OpenShut
set_option linter.unusedVariables false
set_option linter.unusedSimpArgs false
section
/- A change's bytes, plainly; rows of bytes that are appended to. -/
namespace Go.Proofs.YtpcfnkmljchiiaaGreatDoor.OEnc
open Go Go.RowKit Go.Maps Go.WideMaps Go.Proofs.YtpcfnkmljchiiaaGreatDoorW.PrintWords Go.Proofs.YtpcfnkmljchiiaaGreatDoorW.PrintLast Go.Proofs.YtpcfnkmljchiiaaGreatDoorW.PrintMore DPl DAt DNw Go.Proofs.YtpcfnkmljchiiaaGreatDoor.Is Right Go.Proofs.YtpcfnkmljchiiaaGreatDoor.OPl Go.Proofs.YtpcfnkmljchiiaaGreatDoor.OAll Go.Proofs.YtpcfnkmljchiiaaGreatDoor.ORight Go.Proofs.YtpcfnkmljchiiaaGreatDoor.OSee Go.Proofs.YtpcfnkmljchiiaaGreatDoor.OChk
/-- A text's bytes as numbers. -/
def bI (s : ByteArray) : List Int := s.data.toList.map fun c => (c.toNat : Int)
def four4 (n : Int) : List Int := [(n / 16777216) % 256, (n / 65536) % 256, (n / 256) % 256, n % 256]
def encOp (o : Rop) : List Int := [o.f0 % 256, (o.f1.size : Int) % 256] ++ bI o.f1 ++ four4 o.f2 ++ four4 (o.f3.length : Int) ++ o.f3
def encAll : List Rop → List Int
  | [] => []
  | o :: r => encOp o ++ encAll r
/-- A change's bytes. -/
def encL (L : List Rop) : List Int := (L.length : Int) % 256 :: encAll L
theorem bI_len (s : ByteArray) : (bI s).length = s.size := by simp [bI]
theorem encAll_snoc : ∀ (l : List Rop) (o : Rop), encAll (l ++ [o]) = encAll l ++ encOp o
  | [], o => by simp [encAll]
  | x :: r, o => by simp [encAll, encAll_snoc r o]
theorem encOp_len (o : Rop) : (encOp o).length = 10 + o.f1.size + o.f3.length := by
  simp [encOp, four4, bI_len]
  omega
/-- An operation in form: its kind is one, its name and bytes are not too long, its place is one. -/
structure Fm (o : Rop) : Prop where
  size : o.f1.size ≤ 24
  len : o.f3.length ≤ 400000
  k0 : 1 ≤ o.f0
  k1 : o.f0 ≤ 3
  a0 : 0 ≤ o.f2
  a1 : o.f2 ≤ 1073741824
theorem encAll_len : ∀ (l : List Rop), (∀ o ∈ l, Fm o) → (encAll l).length ≤ 400034 * l.length
  | [], _ => by simp [encAll]
  | o :: r, h => by
    have h1 := encAll_len r (fun x hx => h x (List.mem_cons_of_mem _ hx))
    have h2 := h o (List.mem_cons_self ..)
    have h3 := h2.size
    have h4 := h2.len
    rw [encAll, List.length_append, encOp_len, List.length_cons]
    omega
theorem badOp_size {o : Rop} {seen : List ByteArray} (h : ¬ badOp o seen = true) : o.f1.size ≤ 24 := by
  unfold badOp at h
  simp only [Bool.or_eq_true, not_or] at h
  exact rightL_size (by simpa using h.2.1)
theorem badOp_fm {o : Rop} {seen : List ByteArray} (h : ¬ badOp o seen = true) (hl : o.f3.length ≤ 400000) : Fm o := by
  have h1 := badOp_size h
  unfold badOp at h
  simp only [Bool.or_eq_true, not_or, decide_eq_true_eq, Bool.not_eq_true', Bool.not_eq_false, beq_iff_eq] at h
  obtain ⟨hk, _, _, h3, h4, _⟩ := h
  exact ⟨h1, hl, by omega, by omega, by omega, by omega⟩
theorem checkGo_ok : ∀ (l : List Rop) (seen : List ByteArray) (sz : Int), checkGo l seen sz = none → ∀ o ∈ l, Fm o
  | [], _, _, _ => fun o ho => by cases ho
  | x :: r, seen, sz, h => fun o ho => by
    unfold checkGo at h
    split at h
    · cases h
    · rename_i hb
      split at h
      · cases h
      · rename_i hl
        rcases List.mem_cons.1 ho with rfl | ho
        · exact badOp_fm hb (by omega)
        · exact checkGo_ok r _ _ h o ho
theorem check_ok {L : List Rop} (h : checkL L = none) : L.length ≤ 16 ∧ 1 ≤ L.length ∧ ∀ o ∈ L, Fm o := by
  unfold checkL at h
  split at h
  · cases h
  · rename_i hn
    exact ⟨by omega, by omega, checkGo_ok _ _ _ h⟩
/-! ### rows -/
theorem four_rows {w : World} {e q : TypeId} {A B D F : Option Addr} {a b d f : Nat} {l1 l2 l3 l4 : List Int} (h1 : Kd.C (Kd.int .u8) w A l1.length l1) (h2 : Kd.C (Kd.int .u8) w B l2.length l2) (h3 : Kd.C (Kd.int .u8) w D l3.length l3) (h4 : Kd.C (Kd.int .u8) w F l4.length l4)
    (c1 : l1.length ≤ a) (c2 : l2.length ≤ b) (c3 : l3.length ≤ d) (c4 : l4.length ≤ f) :
    Kd.C (Kd.slice e (Kd.int .u8)) (w.alloc (.cells #[.slice A l1.length a, .slice B l2.length b, .slice D l3.length d, .slice F l4.length f] q)) (some ⟨w.heap.size, 0, none⟩) [l1, l2, l3, l4].length [l1, l2, l3, l4] := by
  have hb : Below w.heap.size w (w.alloc (.cells #[.slice A l1.length a, .slice B l2.length b, .slice D l3.length d, .slice F l4.length f] q)) := (Below.refl _ _).alloc (Nat.le_refl _) _
  refine ⟨rfl, by simp, fun _ => ⟨_, rfl, fun j p hj => ?_⟩⟩
  match j, hj with
  | 0, hj =>
    obtain rfl : l1 = p := by simpa using hj
    refine ⟨[.slice A l1.length a], rfl, ⟨A, a, rfl, c1, Kd.C_below h1 hb⟩, fun i u hi => ?_⟩
    obtain rfl : i = 0 := by
      have := (List.getElem?_eq_some_iff.1 hi).1
      simpa using this
    obtain rfl : _ = u := by simpa using hi
    rw [add_plain, World.cell?_alloc_new]
    rfl
  | 1, hj =>
    obtain rfl : l2 = p := by simpa using hj
    refine ⟨[.slice B l2.length b], rfl, ⟨B, b, rfl, c2, Kd.C_below h2 hb⟩, fun i u hi => ?_⟩
    obtain rfl : i = 0 := by
      have := (List.getElem?_eq_some_iff.1 hi).1
      simpa using this
    obtain rfl : _ = u := by simpa using hi
    rw [add_plain, World.cell?_alloc_new]
    rfl
  | 2, hj =>
    obtain rfl : l3 = p := by simpa using hj
    refine ⟨[.slice D l3.length d], rfl, ⟨D, d, rfl, c3, Kd.C_below h3 hb⟩, fun i u hi => ?_⟩
    obtain rfl : i = 0 := by
      have := (List.getElem?_eq_some_iff.1 hi).1
      simpa using this
    obtain rfl : _ = u := by simpa using hi
    rw [add_plain, World.cell?_alloc_new]
    rfl
  | 3, hj =>
    obtain rfl : l4 = p := by simpa using hj
    refine ⟨[.slice F l4.length f], rfl, ⟨F, f, rfl, c4, Kd.C_below h4 hb⟩, fun i u hi => ?_⟩
    obtain rfl : i = 0 := by
      have := (List.getElem?_eq_some_iff.1 hi).1
      simpa using this
    obtain rfl : _ = u := by simpa using hi
    rw [add_plain, World.cell?_alloc_new]
    rfl
theorem two_bytes {U : World} {a : Nat} {x y : Int} (h : U.heap[a]? = some (.cells #[.int .u8 x, .int .u8 y] 5 (0, 0))) : Kd.C (Kd.int .u8) U (some ⟨a, 0, none⟩) 2 [x, y] :=
  Kd.C_of_reads (d := (0 : Int)) (h1 := fun _ => rfl) ⟨rfl, by simp, fun _ => ⟨_, rfl, fun j hj => by
    match j, hj with
    | 0, _ => exact (blk_cell h 0).trans rfl
    | 1, _ => exact (blk_cell h 1).trans rfl⟩⟩
section
variable {P : Program} {ops : Array Oper} {o : Oper} {a : Act} {Q : Exit → Act → World → Prop} {Kc : Act → World → Prop}
/-- append(bytes, text...), where a region draws its order. -/
theorem str_append_step {w0 W : World} (base : Nat) (hw : Region.wanted o (yielded ops a.tmps) = true) (sl x : Operand) (t u e : TypeId)
    (ho : o.op = .call { callee := .builtin .append, args := #[sl, x], argTypes := #[t, u] })
    (ht : P.underlying t = some (.slice e)) (hu : P.underlying u = some .string) (hinfo : (P.info? e).map (fun i => (i.zero, i.size, i.bytes)) = some (some (.int .u8 0), 1, 1))
    (v : Value) (xs : List Int) (s : ByteArray) (hs : a.eval sl = v) (hx : a.eval x = .string s)
    (HO : Kd.R (Kd.int .u8) e W base (fun _ => True) v xs) (HB : Below base w0 W) (hbase : base ≤ W.heap.size) (hl : xs.length + s.size ≤ 140737488355328)
    (h : ∀ v1 w1, Kd.R (Kd.int .u8) e w1 base (fun _ => True) v1 (xs ++ bI s) → Below base w0 w1 → W.grownBy w1 v.ownBlock → Kc (a.put o.dst v1) w1) :
    if Region.wanted o (yielded ops a.tmps) = true then Oper.wp P o a W Kc Q else Kc (a.put o.dst undef) W := by
  obtain ⟨i0, hi, hz0, hz1, hz2⟩ := info_parts hinfo
  rw [if_pos hw]
  have hown := Kd.own_of_R (enc := Value.int .u8) HO
  obtain ⟨v', w', hr, h2, h3, h4⟩ := Lib.run_append_own_string (P := P) W base t u o.type e i0 ht hu hi hz0 hz1 hz2 v xs.length _ hown s (by unfold maxLen; omega) hl hbase
  unfold Oper.wp execOp
  simp only [ho, resolve, invoke, builtin, Sem.run_bind, Sem.run_pure, Result.andThen_ok, List.map_toArray, List.map_cons, List.map_nil, hs, hx, hr]
  refine h v' w' ?_ (HB.grown h3 hbase (fun k hk => own_base hown k hk)) h3
  have e1 : encs (Value.int .u8) xs ++ Lib.strCells s = encs (Value.int .u8) (xs ++ bI s) := by
    unfold encs bI Lib.strCells
    rw [List.map_append, List.map_map]
    rfl
  rw [e1, ← bI_len, ← List.length_append] at h2
  exact Kd.R_of_own h2 (fun _ _ => trivial)
end
end Go.Proofs.YtpcfnkmljchiiaaGreatDoor.OEnc
end
section
/- redo.Bytes: a change's bytes. -/
namespace Go.Proofs.YtpcfnkmljchiiaaGreatDoor.OByt
open Go Go.RowKit Go.Maps Go.WideMaps Go.Proofs.YtpcfnkmljchiiaaGreatDoorW.PrintWords Go.Proofs.YtpcfnkmljchiiaaGreatDoorW.PrintLast Go.Proofs.YtpcfnkmljchiiaaGreatDoorW.PrintMore DPl DAt DNw Go.Proofs.YtpcfnkmljchiiaaGreatDoor.Is Right Go.Proofs.YtpcfnkmljchiiaaGreatDoor.OPl Go.Proofs.YtpcfnkmljchiiaaGreatDoor.OAll Go.Proofs.YtpcfnkmljchiiaaGreatDoor.ORight Go.Proofs.YtpcfnkmljchiiaaGreatDoor.OSee Go.Proofs.YtpcfnkmljchiiaaGreatDoor.OChk Go.Proofs.YtpcfnkmljchiiaaGreatDoor.OEnc
theorem infoU8 : (Tryz.prog.info? 5).map (fun i => (i.zero, i.size, i.bytes)) = some (some (.int .u8 0), 1, 1) := by kernel_rfl
/-- What the loop carries. -/
structure BW (w : World) (out : Value) (l : List Int) (W : World) : Prop where
  bel : Below w.heap.size w W
  row : Kd.R (Kd.int .u8) 5 W w.heap.size (fun _ => True) out l
theorem BW.below {w W V : World} {out : Value} {l : List Int} (h : BW w out l W) (hb : Below W.heap.size W V) : BW w out l V := ⟨h.bel.trans (hb.mono h.bel.size), Kd.R_below h.row hb⟩
theorem not_own {W : World} {base gb : Nat} {v : Value} {xs : List Int} {cs : Array Value} {ok : Nat → Prop} (hr : Kd.R (Kd.int .u8) 5 W base ok v xs) (h : W.heap[gb]? = some (.cells cs 62 (0, 0))) : some gb ≠ v.ownBlock := fun e => by
  obtain ⟨inner, ho⟩ := Kd.R_own hr
  obtain ⟨cs2, hc⟩ := own_typed ho gb e.symm
  rw [h] at hc
  have hc := Option.some.inj hc
  injection hc with _ hc _
  exact absurd hc (by decide)
theorem four_f (n : Int) : GSix.redo_four.f n = some (four4 n) := rfl
theorem concat_f (l : List (List Int)) (h : l.flatten.length ≤ 1000000000) : GChk.slices_Concat_byte_byte.f l = some l.flatten := if_pos h
theorem concat4 (A : Option Addr) (l1 l2 l3 l4 : List Int) (w : World) (hr : Kd.C (Kd.slice 5 (Kd.int .u8)) w A [l1, l2, l3, l4].length [l1, l2, l3, l4]) (h : [l1, l2, l3, l4].flatten.length ≤ 1000000000) :
    Calls Tryz.prog 72 #[.slice A 4 4] w fun e w' => ∃ v : Value, e = .returned v ∧ Kd.R (Kd.int .u8) 5 w' w.heap.size (fun _ => True) v [l1, l2, l3, l4].flatten ∧ Below w.heap.size w w' :=
  GChk.slices_Concat_byte_byte.calls A 4 [l1, l2, l3, l4] _ w hr (Nat.le_refl _) (concat_f _ h)
set_option maxRecDepth 100000 in
set_option maxHeartbeats 16000000 in
theorem bytes_no (L : List Rop) (A : Option Addr) (c : Nat) (B : Nat) (E : Int → Addr) (w : World) (x : Int) (hE : AllAt B w E) (hB : B ≤ w.heap.size) (hr : Kd.C GSix.k62 w A L.length L) (hc : L.length ≤ c) (hl : L.length ≤ 9223372036854775807) (hs : ∀ o ∈ L, o.f1.size < 9223372036854775807 ∧ o.f3.length < 9223372036854775807) (hk : checkL L = some x) :
    Calls Tryz.prog 18 #[.slice A L.length c] w fun e w' => e = .returned (.tuple #[.slice none 0 0, errV E (some x)]) ∧ Below w.heap.size w w' := by
  have hc1 := check_calls L A c B E w hE hB hr hc hl hs
  rw [hk, errV_some] at hc1
  have HC := Aside0.mk hc1
  rw [errV_some]
  clear hE hr hs hk hc1
  go_enter Tryz.func18, Tryz.ntmps18
  go_wp2_with (go_at_call 71; refine HC.out.mono ?_; rintro e w1 ⟨rfl, hb⟩; have HB1 := Aside0.mk hb; clear hb)
  go_ret2
  exact ⟨rfl, HB1.out⟩
set_option maxRecDepth 100000 in
set_option maxHeartbeats 16000000 in
theorem bytes_ok (L : List Rop) (A : Option Addr) (c : Nat) (B : Nat) (E : Int → Addr) (w : World) (hE : AllAt B w E) (hB : B ≤ w.heap.size) (hr : Kd.C GSix.k62 w A L.length L) (hc : L.length ≤ c) (hl : L.length ≤ 9223372036854775807) (hs : ∀ o ∈ L, o.f1.size < 9223372036854775807 ∧ o.f3.length < 9223372036854775807) (hk : checkL L = none) :
    Calls Tryz.prog 18 #[.slice A L.length c] w fun e w' => ∃ v, e = .returned (.tuple #[v, .nilIface]) ∧ Kd.R (Kd.int .u8) 5 w' w.heap.size (fun _ => True) v (encL L) ∧ Below w.heap.size w w' := by
  have hc1 := check_calls L A c B E w hE hB hr hc hl hs
  rw [hk, errV_none] at hc1
  have HC := Aside0.mk hc1
  have HR := Aside0.mk hr
  have HK := Aside0.mk (check_ok hk)
  have hL : L.length ≤ 16 := HK.out.1
  clear hE hr hs hk hc1
  go_enter Tryz.func18, Tryz.ntmps18
  go_upto_region 5 with (go_at_call 71; refine HC.out.mono ?_; rintro e w1 ⟨rfl, hb⟩; have HB1 := Aside0.mk hb; clear hb)
  have HL0 := Aside0.mk (show BW w (.slice (some ⟨w1.heap.size, 0, none⟩) 1 1) ((L.length : Int) :: encAll (L.take 0)) (w1.alloc (.cells #[.int .u8 (L.length : Int)] 5)) from ⟨HB1.out.alloc HB1.out.size _, ⟨fun _ _ => trivial, OwnRow.lit (ps := [(L.length : Int)]) (inner := [.int .u8 (L.length : Int)]) w1 w.heap.size ⟨rfl, fun j p hj => by
    cases j with
    | zero =>
      obtain rfl : (L.length : Int) = p := by simpa using hj
      exact rfl
    | succ j => simp at hj⟩ HB1.out.size (show 1 ≤ 9223372036854775807 by decide)⟩⟩)
  go_wp2
  go_loopw [19, 5] (fun ix out wx => ∃ j : Nat, j ≤ L.length ∧ ix = .int .i64 j ∧ Aside0 (BW w out ((L.length : Int) :: encAll (L.take j)) wx)) (fun ix _ _ => L.length - (Go.RowKit.intOf ix).toNat)
  case atStart => exact ⟨0, Nat.zero_le _, rfl, HL0⟩
  case round =>
    obtain ⟨j, hj, rfl, HA⟩ := hrel
    clear HL0
    by_cases hlt : j < L.length
    · have t3 : decide (j < L.length) = true := decide_eq_true hlt
      have t3' : decide ((j : Int) < (L.length : Int)) = true := decide_eq_true (by omega)
      obtain ⟨o, ho⟩ : ∃ o, L[j]? = some o := ⟨_, List.getElem?_eq_getElem hlt⟩
      obtain ⟨ad, A3, c3, rfl, x0, x1, x2, x3, hl3, hi3⟩ := GSix.at_T62 HR.out (j : Int) (by omega) (by omega)
      rw [show GSix.rd_T62 L (j : Int) = o by unfold GSix.rd_T62; rw [Int.toNat_natCast, List.getD_eq_getElem?_getD, ho]; rfl] at x0 x1 x2 x3 hl3 hi3
      rw [Int.toNat_natCast] at x0 x1 x2 x3
      replace x0 := (HA.out.bel.cell (World.block_lt_of_cell? w _ x0)).trans x0
      replace x1 := (HA.out.bel.cell (World.block_lt_of_cell? w _ x1)).trans x1
      replace x2 := (HA.out.bel.cell (World.block_lt_of_cell? w _ x2)).trans x2
      replace x3 := (HA.out.bel.cell (World.block_lt_of_cell? w _ x3)).trans x3
      have HFm := Aside0.mk (HK.out.2.2 o (List.mem_of_getElem? ho))
      have HI3 := Aside0.mk (And.intro hl3 hi3)
      have hk0 : 1 ≤ o.f0 := HFm.out.k0
      have hk1 : o.f0 ≤ 3 := HFm.out.k1
      have hsz : o.f1.size ≤ 24 := HFm.out.size
      have hbs : o.f3.length ≤ 400000 := HFm.out.len
      have HTk := Aside0.mk (show encAll (L.take (j + 1)) = encAll (L.take j) ++ encOp o by rw [List.take_add_one, ho]; exact encAll_snoc _ _)
      have HLe := Aside0.mk (show (encAll (L.take j)).length ≤ 400034 * 16 by
        have h1 := encAll_len (L.take j) (fun x hx => HK.out.2.2 x (List.mem_of_mem_take hx))
        rw [List.length_take] at h1
        omega)
      clear ho hl3 hi3
      have a0 : (0 : Int) ≤ (j : Int) := by omega
      have a1 : (j : Int) < (L.length : Int) := by omega
      go_upto_region 8 with (first | ((with_reducible refine gate_dst (N := 7) rfl ?_); refine box_event ?hg (N := 7) ?hd (cs := #[.int .i64 0, .string (⟨#[]⟩ : ByteArray), .int .i64 0, .slice none 0 0]) (t := 62) ?hr ?_; (case hd => rfl); (case hg => rfl); (case hr => first | (go_simp; done) | (go_simp; rfl)); intro gb hg w13 hbox hb; have HBk := Aside0.mk hbox; have HGb := Aside0.mk (show wr.heap.size ≤ gb by rw [hg]; exact Nat.le_refl _); have HB13 := Aside0.mk hb; clear hb hbox hg; have hcz0 : w13.cell? ⟨gb, 0, none⟩ = some (.int .i64 0) := (blk_cell HBk.out 0).trans rfl; have hcz1 : w13.cell? ⟨gb, 1, none⟩ = some (.string (⟨#[]⟩ : ByteArray)) := (blk_cell HBk.out 1).trans rfl; have hcz2 : w13.cell? ⟨gb, 2, none⟩ = some (.int .i64 0) := (blk_cell HBk.out 2).trans rfl; have hcz3 : w13.cell? ⟨gb, 3, none⟩ = some (.slice none 0 0) := (blk_cell HBk.out 3).trans rfl; have hfz0 := blk_frozen HBk.out 0; have hfz1 := blk_frozen HBk.out 1; have hfz2 := blk_frozen HBk.out 2; have hfz3 := blk_frozen HBk.out 3))
      have HB14 := Aside0.mk (show Below wr.heap.size wr ((((w13.setCell ⟨gb, 0, none⟩ (.int .i64 o.f0)).setCell ⟨gb, 1, none⟩ (.string o.f1)).setCell ⟨gb, 2, none⟩ (.int .i64 o.f2)).setCell ⟨gb, 3, none⟩ (.slice A3 o.f3.length c3)) from (((HB13.out.setCell HGb.out _).setCell HGb.out _).setCell HGb.out _).setCell HGb.out _)
      have HK14 := Aside0.mk (show ((((w13.setCell ⟨gb, 0, none⟩ (.int .i64 o.f0)).setCell ⟨gb, 1, none⟩ (.string o.f1)).setCell ⟨gb, 2, none⟩ (.int .i64 o.f2)).setCell ⟨gb, 3, none⟩ (.slice A3 o.f3.length c3)).heap[gb]? = some (.cells #[.int .i64 o.f0, .string o.f1, .int .i64 o.f2, .slice A3 o.f3.length c3] 62 (0, 0)) from blk_put (blk_put (blk_put (blk_put HBk.out 0 _ rfl) 1 _ rfl) 2 _ rfl) 3 _ rfl)
      clear hcz0 hcz1 hcz2 hcz3 hfz0 hfz1 hfz2 hfz3 HBk HB13 x0 x1 x2 x3
      generalize ((((w13.setCell ⟨gb, 0, none⟩ (.int .i64 o.f0)).setCell ⟨gb, 1, none⟩ (.string o.f1)).setCell ⟨gb, 2, none⟩ (.int .i64 o.f2)).setCell ⟨gb, 3, none⟩ (.slice A3 o.f3.length c3)) = w14 at HB14 HK14 ⊢
      have d0 := (blk_cell HK14.out 0).trans (rfl : _ = some (Value.int .i64 o.f0))
      have d1 := (blk_cell HK14.out 1).trans (rfl : _ = some (Value.string o.f1))
      have d2 := (blk_cell HK14.out 2).trans (rfl : _ = some (Value.int .i64 o.f2))
      have d3 := (blk_cell HK14.out 3).trans (rfl : _ = some (Value.slice A3 o.f3.length c3))
      have HW14 := Aside0.mk (HA.out.below HB14.out)
      obtain ⟨P, hP⟩ : ∃ P, P = (L.length : Int) :: encAll (L.take j) := ⟨_, rfl⟩
      rw [← hP] at HW14
      have HP := Aside0.mk hP
      have HPl := Aside0.mk (show P.length ≤ 400034 * 16 + 1 by rw [hP, List.length_cons]; have := HLe.out; omega)
      clear hP d0 d1 d2 d3
      refine start_ (n := 14) (S := fun w' => w'.cell? ⟨gb, 0, none⟩ = some (.int .i64 o.f0) ∧ w'.cell? ⟨gb, 1, none⟩ = some (.string o.f1)) (ds := [12]) #[ff,ff,ff,ff,ff,ff,ff,ff,ff,ff,ff,ff,ff,ff] (by kernel_rfl) rfl rfl ⟨((blk_cell HK14.out 0).trans rfl), ((blk_cell HK14.out 1).trans rfl)⟩ (fun hHeld => ?_)
      have HW0 := Aside0.mk (HW14.out.below (Below.refl _ _).drew)
      have HK0 := Aside0.mk (show w14.drew.heap[gb]? = _ from HK14.out)
      generalize w14.drew = u0 at HW0 HK0 hHeld ⊢
      refine pure_ (i := 0) (N := some 23) (v := ?_) (a' := ?_) #[tt,ff,ff,ff,ff,ff,ff,ff,ff,ff,ff,ff,ff,ff] rfl rfl (by kernel_rfl) (fun _ _ _ h => h) (Or.inl ⟨by rfl, ?_⟩) ?_ ?_
      rotate_left
      · intro w'
        go_simp
        with_reducible rfl
      rotate_left
      · simp only [Act.put, pkA, pkB, pkC, i64_w, i32_w]
        rfl
      refine pure_ (i := 1) (N := some 24) (v := ?_) (a' := ?_) #[tt,tt,ff,ff,ff,ff,ff,ff,ff,ff,ff,ff,ff,ff] rfl rfl (by kernel_rfl) (fun _ _ _ h => h) (Or.inl ⟨by rfl, ?_⟩) ?_ ?_
      rotate_left
      · intro w'
        go_simp
        with_reducible rfl
      rotate_left
      · simp only [Act.put, pkA, pkB, pkC, i64_w, i32_w]
        rfl
      refine pure_ (i := 4) (N := some 27) (v := ?_) (a' := ?_) #[tt,tt,ff,ff,tt,ff,ff,ff,ff,ff,ff,ff,ff,ff] rfl rfl (by kernel_rfl) (fun _ _ _ h => h) (Or.inl ⟨by rfl, ?_⟩) ?_ ?_
      rotate_left
      · intro w'
        go_simp
        with_reducible rfl
      rotate_left
      · simp only [Act.put, pkA, pkB, pkC, i64_w, i32_w]
        rfl
      refine pure_ (i := 10) (N := some 33) (v := ?_) (a' := ?_) #[tt,tt,ff,ff,tt,ff,ff,ff,ff,ff,tt,ff,ff,ff] rfl rfl (by kernel_rfl) (fun _ _ _ h => h) (Or.inl ⟨by rfl, ?_⟩) ?_ ?_
      rotate_left
      · intro w'
        go_simp
        with_reducible rfl
      rotate_left
      · simp only [Act.put, pkA, pkB, pkC, i64_w, i32_w]
        rfl
      refine take_ (i := 2) (N := some 25) (v := ?_) (a' := ?_) #[tt,tt,tt,ff,tt,ff,ff,ff,ff,ff,tt,ff,ff,ff] rfl rfl (by kernel_rfl) (fun _ _ _ h => h) (Or.inl ⟨by rfl, ?_⟩) hHeld ?_ ?_
      rotate_left
      · rintro w' ⟨s0, s1⟩
        go_simp
        with_reducible rfl
      rotate_left
      · simp only [Act.put, pkA, pkB, pkC, i64_w, i32_w]
        rfl
      refine pure_ (i := 3) (N := some 26) (v := ?_) (a' := ?_) #[tt,tt,tt,tt,tt,ff,ff,ff,ff,ff,tt,ff,ff,ff] rfl rfl (by kernel_rfl) (fun _ _ _ h => h) (Or.inl ⟨by rfl, ?_⟩) ?_ ?_
      rotate_left
      · intro w'
        go_simp
        with_reducible rfl
      rotate_left
      · simp only [Act.put, pkA, pkB, pkC, i64_w, i32_w]
        rfl
      refine take_ (i := 5) (N := some 28) (v := ?_) (a' := ?_) #[tt,tt,tt,tt,tt,tt,ff,ff,ff,ff,tt,ff,ff,ff] rfl rfl (by kernel_rfl) (fun _ _ _ h => h) (Or.inl ⟨by rfl, ?_⟩) hHeld ?_ ?_
      rotate_left
      · rintro w' ⟨s0, s1⟩
        go_simp
        with_reducible rfl
      rotate_left
      · simp only [Act.put, pkA, pkB, pkC, i64_w, i32_w]
        rfl
      refine pure_ (i := 6) (N := some 29) (v := ?_) (a' := ?_) #[tt,tt,tt,tt,tt,tt,tt,ff,ff,ff,tt,ff,ff,ff] rfl rfl (by kernel_rfl) (fun _ _ _ h => h) (Or.inl ⟨by rfl, ?_⟩) ?_ ?_
      rotate_left
      · intro w'
        go_simp
        with_reducible rfl
      rotate_left
      · simp only [Act.put, pkA, pkB, pkC, i64_w, i32_w]
        rfl
      refine pure_ (i := 7) (N := some 30) (v := ?_) (a' := ?_) #[tt,tt,tt,tt,tt,tt,tt,tt,ff,ff,tt,ff,ff,ff] rfl rfl (by kernel_rfl) (fun _ _ _ h => h) (Or.inl ⟨by rfl, ?_⟩) ?_ ?_
      rotate_left
      · intro w'
        go_simp
        with_reducible rfl
      rotate_left
      · simp only [Act.put, pkA, pkB, pkC, i64_w, i32_w]
        rfl
      refine take_ (i := 11) (N := some 34) (v := ?_) (a' := ?_) #[tt,tt,tt,tt,tt,tt,tt,tt,ff,ff,tt,tt,ff,ff] rfl rfl (by kernel_rfl) (fun _ _ _ h => h) (Or.inl ⟨by rfl, ?_⟩) hHeld ?_ ?_
      rotate_left
      · rintro w' ⟨s0, s1⟩
        go_simp
        with_reducible rfl
      rotate_left
      · simp only [Act.put, pkA, pkB, pkC, i64_w, i32_w]
        rfl
      refine one_ (i := 8) (N := some 31) #[tt,tt,tt,tt,tt,tt,tt,tt,tt,ff,tt,tt,ff,ff] rfl rfl (by kernel_rfl) (by decide) (fun K hK => ?_)
      refine value_ (w1 := ?_) (v := ?_) (by rfl) rfl ?_ ?_
      rotate_left 2
      · go_simp
        constructor
        · rfl
        · rfl
      rw [IntWalk.u8_in o.f0 ⟨by omega, by omega⟩, IntWalk.u8_in (o.f1.size : Int) ⟨by omega, by omega⟩]
      have HB1 := Aside0.mk (show Below u0.heap.size u0 (u0.alloc (.cells #[.int .u8 o.f0, .int .u8 (o.f1.size : Int)] 5)) from (Below.refl _ _).alloc (Nat.le_refl _) _)
      have HN1 := Aside0.mk (heap_alloc_new u0 (.cells #[.int .u8 o.f0, .int .u8 (o.f1.size : Int)] 5))
      generalize u0.alloc (.cells #[.int .u8 o.f0, .int .u8 (o.f1.size : Int)] 5) = u1 at HB1 HN1 ⊢
      have HW1 := Aside0.mk (HW0.out.below HB1.out)
      have HK1 := Aside0.mk ((HB1.out.block _ (blk_lt HK0.out)).trans HK0.out)
      refine hK.out _ _ ⟨((blk_cell HK1.out 0).trans rfl), ((blk_cell HK1.out 1).trans rfl)⟩ (fun hHeld => ?_)
      clear hK K
      refine norm_ (a' := ?_) ?_ ?_
      rotate_left
      · show Act.put _ (some 31) _ = _
        simp only [Act.put, pkA, pkB, pkC, i64_w, i32_w]
        rfl
      refine one_ (i := 9) (N := some 32) #[tt,tt,tt,tt,tt,tt,tt,tt,tt,tt,tt,tt,ff,ff] rfl rfl (by kernel_rfl) (by decide) (fun K hK => ?_)
      refine Kd.R_append_rows_step (Kd.int .u8) (w0 := w) w.heap.size (by rfl) (.tmp 23) (.tmp 31) 32 5 (.int .u8 0) 1 rfl Tryz.underlying32 infoU8 rfl (by decide) (by omega) u5 P [o.f0, (o.f1.size : Int)] _ _ _ (fun _ => True) (fun _ => False) rfl rfl ?aO ?aR (fun _ _ h => h) (fun _ h => h.elim) ?aF ?aB ?aS ?aL ?_
      case aO => exact HW1.out.row
      case aR => exact two_bytes HN1.out
      case aF => exact fun _ _ => trivial
      case aB => exact HW1.out.bel
      case aS => exact HW1.out.bel.size
      case aL => have := HPl.out; omega
      intro v2 u2 ho2 hb2 hg2 hat2
      have HW2 := Aside0.mk (show BW w v2 (P ++ [o.f0, (o.f1.size : Int)]) u2 from ⟨hb2, ho2⟩)
      have HK2 := Aside0.mk ((hg2.block _ (blk_lt HK1.out) (not_own HW1.out.row HK1.out)).trans HK1.out)
      clear ho2 hb2 hg2 hat2
      refine hK.out _ _ ⟨((blk_cell HK2.out 0).trans rfl), ((blk_cell HK2.out 1).trans rfl)⟩ (fun hHeld => ?_)
      clear hK K
      refine norm_ (a' := ?_) ?_ ?_
      rotate_left
      · show Act.put _ (some 32) _ = _
        simp only [Act.put, pkA, pkB, pkC, i64_w, i32_w]
        rfl
      refine last_ (i := 12) (N := some 35) #[tt,tt,tt,tt,tt,tt,tt,tt,tt,tt,tt,tt,tt,ff] rfl rfl (by kernel_rfl) (by decide) (fun K hK => ?_)
      refine str_append_step (w0 := w) w.heap.size (by rfl) (.tmp 32) (.tmp 34) 32 9 5 rfl Tryz.underlying32 Tryz.underlying9 infoU8 v2 (P ++ [o.f0, (o.f1.size : Int)]) o.f1 rfl rfl HW2.out.row HW2.out.bel HW2.out.bel.size (by have := HPl.out; rw [List.length_append]; simp only [List.length_cons, List.length_nil]; omega) ?_
      intro v3 u3 ho3 hb3 hg3
      have HW3 := Aside0.mk (show BW w v3 (P ++ [o.f0, (o.f1.size : Int)] ++ bI o.f1) u3 from ⟨hb3, ho3⟩)
      have HK3 := Aside0.mk ((hg3.block _ (blk_lt HK2.out) (not_own HW2.out.row HK2.out)).trans HK2.out)
      clear ho3 hb3 hg3
      refine hK.out _ _ ?_
      clear hK K
      refine norm_ (a' := ?_) ?_ ?_
      rotate_left
      · show Act.put _ (some 35) _ = _
        simp only [Act.put, pkA, pkB, pkC, i64_w, i32_w]
        rfl
      refine pure_ (i := 13) (N := some 5) (v := ?_) (a' := ?_) #[tt,tt,tt,tt,tt,tt,tt,tt,tt,tt,tt,tt,tt,tt] rfl rfl (by kernel_rfl) (fun _ _ _ h => h) (Or.inl ⟨by rfl, ?_⟩) ?_ ?_
      rotate_left
      · intro w'
        go_simp
        with_reducible rfl
      rotate_left
      · simp only [Act.put, pkA, pkB, pkC, i64_w, i32_w]
        rfl
      refine done_ (by kernel_rfl) ?_
      obtain ⟨P2, hP2⟩ : ∃ P2, P2 = P ++ [o.f0, (o.f1.size : Int)] ++ bI o.f1 := ⟨_, rfl⟩
      rw [← hP2] at HW3
      have HP2 := Aside0.mk hP2
      have HPl2 := Aside0.mk (show P2.length ≤ 400034 * 16 + 100 by rw [hP2, List.length_append, List.length_append, bI_len]; have := HPl.out; simp only [List.length_cons, List.length_nil]; omega)
      clear hP2
      obtain ⟨Ao, co, rfl⟩ := Kd.R_slice HW3.out.row
      go_upto_region 9 with (fail)
      refine start_ (n := 13) (S := fun w' => w'.cell? ⟨gb, 2, none⟩ = some (.int .i64 o.f2) ∧ w'.cell? ⟨gb, 3, none⟩ = some (.slice A3 o.f3.length c3)) (ds := [11]) #[ff,ff,ff,ff,ff,ff,ff,ff,ff,ff,ff,ff,ff] (by kernel_rfl) rfl rfl ⟨((blk_cell HK3.out 2).trans rfl), ((blk_cell HK3.out 3).trans rfl)⟩ (fun hHeld => ?_)
      have HW4 := Aside0.mk (HW3.out.below (Below.refl _ _).drew)
      have HK4 := Aside0.mk (show u3.drew.heap[gb]? = _ from HK3.out)
      have HI4 := Aside0.mk (Kd.C_below HI3.out.2 HW4.out.bel)
      generalize u3.drew = q0 at HW4 HK4 HI4 hHeld ⊢
      refine pure_ (i := 0) (N := some 36) (v := ?_) (a' := ?_) #[tt,ff,ff,ff,ff,ff,ff,ff,ff,ff,ff,ff,ff] rfl rfl (by kernel_rfl) (fun _ _ _ h => h) (Or.inl ⟨by rfl, ?_⟩) ?_ ?_
      rotate_left
      · intro w'
        go_simp
        with_reducible rfl
      rotate_left
      · simp only [Act.put, pkA, pkB, pkC, i64_w, i32_w]
        rfl
      refine pure_ (i := 1) (N := some 37) (v := ?_) (a' := ?_) #[tt,tt,ff,ff,ff,ff,ff,ff,ff,ff,ff,ff,ff] rfl rfl (by kernel_rfl) (fun _ _ _ h => h) (Or.inl ⟨by rfl, ?_⟩) ?_ ?_
      rotate_left
      · intro w'
        go_simp
        with_reducible rfl
      rotate_left
      · simp only [Act.put, pkA, pkB, pkC, i64_w, i32_w]
        rfl
      refine pure_ (i := 4) (N := some 40) (v := ?_) (a' := ?_) #[tt,tt,ff,ff,tt,ff,ff,ff,ff,ff,ff,ff,ff] rfl rfl (by kernel_rfl) (fun _ _ _ h => h) (Or.inl ⟨by rfl, ?_⟩) ?_ ?_
      rotate_left
      · intro w'
        go_simp
        with_reducible rfl
      rotate_left
      · simp only [Act.put, pkA, pkB, pkC, i64_w, i32_w]
        rfl
      refine pure_ (i := 8) (N := some 44) (v := ?_) (a' := ?_) #[tt,tt,ff,ff,tt,ff,ff,ff,tt,ff,ff,ff,ff] rfl rfl (by kernel_rfl) (fun _ _ _ h => h) (Or.inl ⟨by rfl, ?_⟩) ?_ ?_
      rotate_left
      · intro w'
        go_simp
        with_reducible rfl
      rotate_left
      · simp only [Act.put, pkA, pkB, pkC, i64_w, i32_w]
        rfl
      refine take_ (i := 2) (N := some 38) (v := ?_) (a' := ?_) #[tt,tt,tt,ff,tt,ff,ff,ff,tt,ff,ff,ff,ff] rfl rfl (by kernel_rfl) (fun _ _ _ h => h) (Or.inl ⟨by rfl, ?_⟩) hHeld ?_ ?_
      rotate_left
      · rintro w' ⟨s0, s1⟩
        go_simp
        with_reducible rfl
      rotate_left
      · simp only [Act.put, pkA, pkB, pkC, i64_w, i32_w]
        rfl
      refine take_ (i := 5) (N := some 41) (v := ?_) (a' := ?_) #[tt,tt,tt,ff,tt,tt,ff,ff,tt,ff,ff,ff,ff] rfl rfl (by kernel_rfl) (fun _ _ _ h => h) (Or.inl ⟨by rfl, ?_⟩) hHeld ?_ ?_
      rotate_left
      · rintro w' ⟨s0, s1⟩
        go_simp
        with_reducible rfl
      rotate_left
      · simp only [Act.put, pkA, pkB, pkC, i64_w, i32_w]
        rfl
      refine pure_ (i := 6) (N := some 42) (v := ?_) (a' := ?_) #[tt,tt,tt,ff,tt,tt,tt,ff,tt,ff,ff,ff,ff] rfl rfl (by kernel_rfl) (fun _ _ _ h => h) (Or.inl ⟨by rfl, ?_⟩) ?_ ?_
      rotate_left
      · intro w'
        go_simp
        with_reducible rfl
      rotate_left
      · simp only [Act.put, pkA, pkB, pkC, i64_w, i32_w]
        rfl
      refine take_ (i := 9) (N := some 45) (v := ?_) (a' := ?_) #[tt,tt,tt,ff,tt,tt,tt,ff,tt,tt,ff,ff,ff] rfl rfl (by kernel_rfl) (fun _ _ _ h => h) (Or.inl ⟨by rfl, ?_⟩) hHeld ?_ ?_
      rotate_left
      · rintro w' ⟨s0, s1⟩
        go_simp
        with_reducible rfl
      rotate_left
      · simp only [Act.put, pkA, pkB, pkC, i64_w, i32_w]
        rfl
      refine one_ (i := 3) (N := some 39) #[tt,tt,tt,tt,tt,tt,tt,ff,tt,tt,ff,ff,ff] rfl rfl (by kernel_rfl) (by decide) (fun K hK => ?_)
      refine goes_ Tryz.func73 (by kernel_rfl) rfl #[.int .i64 o.f2] (by rfl) rfl rfl (by simp only [List.map_toArray, List.map_cons, List.map_nil]; rfl) ?_
      with_reducible refine (GSix.redo_four.calls o.f2 _ q0 (four_f _)).mono ?_
      rintro e q1 ⟨v4, rfl, hO, hb⟩
      refine ⟨_, rfl, ?_⟩
      obtain ⟨Q4, c4, rfl⟩ := Kd.R_slice hO
      have HW5 := Aside0.mk (HW4.out.below hb)
      have HK5 := Aside0.mk ((hb.block _ (blk_lt HK4.out)).trans HK4.out)
      have HR4 := Aside0.mk (Kd.R_reads' hO).2
      clear hO hb
      refine hK.out _ _ ⟨((blk_cell HK5.out 2).trans rfl), ((blk_cell HK5.out 3).trans rfl)⟩ (fun hHeld => ?_)
      clear hK K
      refine norm_ (a' := ?_) ?_ ?_
      rotate_left
      · show Act.put _ (some 39) _ = _
        simp only [Act.put, pkA, pkB, pkC, i64_w, i32_w]
        rfl
      refine one_ (i := 7) (N := some 43) #[tt,tt,tt,tt,tt,tt,tt,tt,tt,tt,ff,ff,ff] rfl rfl (by kernel_rfl) (by decide) (fun K hK => ?_)
      refine goes_ Tryz.func73 (by kernel_rfl) rfl #[.int .i64 (o.f3.length : Int)] (by rfl) rfl rfl (by simp only [List.map_toArray, List.map_cons, List.map_nil]; rfl) ?_
      with_reducible refine (GSix.redo_four.calls (o.f3.length : Int) _ q1 (four_f _)).mono ?_
      rintro e q2 ⟨v5, rfl, hO, hb⟩
      refine ⟨_, rfl, ?_⟩
      obtain ⟨Q5, c5, rfl⟩ := Kd.R_slice hO
      have HW6 := Aside0.mk (HW5.out.below hb)
      have HK6 := Aside0.mk ((hb.block _ (blk_lt HK5.out)).trans HK5.out)
      have HR5 := Aside0.mk (Kd.R_reads' hO).2
      have HR6 := Aside0.mk (Kd.C_below HR4.out.2 hb)
      clear hO hb
      refine hK.out _ _ ⟨((blk_cell HK6.out 2).trans rfl), ((blk_cell HK6.out 3).trans rfl)⟩ (fun hHeld => ?_)
      clear hK K
      refine norm_ (a' := ?_) ?_ ?_
      rotate_left
      · show Act.put _ (some 43) _ = _
        simp only [Act.put, pkA, pkB, pkC, i64_w, i32_w]
        rfl
      refine one_ (i := 10) (N := some 46) #[tt,tt,tt,tt,tt,tt,tt,tt,tt,tt,tt,ff,ff] rfl rfl (by kernel_rfl) (by decide) (fun K hK => ?_)
      refine value_ (w1 := ?_) (v := ?_) (by rfl) rfl ?_ ?_
      rotate_left 2
      · go_simp
        constructor
        · rfl
        · rfl
      have HB7 := Aside0.mk (show Below q2.heap.size q2 (q2.alloc (.cells #[.slice Ao P2.length co, .slice Q4 (four4 o.f2).length c4, .slice Q5 (four4 (o.f3.length : Int)).length c5, .slice A3 o.f3.length c3] 32)) from (Below.refl _ _).alloc (Nat.le_refl _) _)
      have HR7 := Aside0.mk (four_rows (e := 5) (q := 32) (Kd.R_reads' HW6.out.row).2.2 HR6.out HR5.out.2 (Kd.C_below HI3.out.2 HW6.out.bel) (Kd.R_reads' HW6.out.row).2.1 HR4.out.1 HR5.out.1 HI3.out.1)
      have HK7 := Aside0.mk ((HB7.out.block _ (blk_lt HK6.out)).trans HK6.out)
      have HS7 := Aside0.mk (HW6.out.bel.trans (HB7.out.mono HW6.out.bel.size))
      refine hK.out _ _ ⟨((blk_cell HK7.out 2).trans rfl), ((blk_cell HK7.out 3).trans rfl)⟩ (fun hHeld => ?_)
      clear hK K
      refine norm_ (a' := ?_) ?_ ?_
      rotate_left
      · show Act.put _ (some 46) _ = _
        simp only [Act.put, pkA, pkB, pkC, i64_w, i32_w]
        rfl
      refine last_ (i := 11) (N := some 47) #[tt,tt,tt,tt,tt,tt,tt,tt,tt,tt,tt,tt,ff] rfl rfl (by kernel_rfl) (by decide) (fun K hK => ?_)
      refine goes_ Tryz.func72 (by kernel_rfl) rfl #[.slice (some ⟨q2.heap.size, 0, none⟩) 4 4] (by rfl) rfl rfl (by simp only [List.map_toArray, List.map_cons, List.map_nil]; rfl) ?_
      with_reducible refine (concat4 _ P2 (four4 o.f2) (four4 (o.f3.length : Int)) o.f3 _ HR7.out (by have := HPl2.out; simp [four4]; omega)).mono ?_
      rintro e q4 ⟨v6, rfl, hO, hb⟩
      refine ⟨_, rfl, ?_⟩
      have HW8 := Aside0.mk (show BW w v6 ([P2, four4 o.f2, four4 (o.f3.length : Int), o.f3].flatten) q4 from ⟨HS7.out.trans (hb.mono HS7.out.size), Kd.R_lower hO HS7.out.size⟩)
      clear hO hb
      refine hK.out _ _ ?_
      clear hK K
      refine norm_ (a' := ?_) ?_ ?_
      rotate_left
      · show Act.put _ (some 47) _ = _
        simp only [Act.put, pkA, pkB, pkC, i64_w, i32_w]
        rfl
      refine pure_ (i := 12) (N := some 5) (v := ?_) (a' := ?_) #[tt,tt,tt,tt,tt,tt,tt,tt,tt,tt,tt,tt,tt] rfl rfl (by kernel_rfl) (fun _ _ _ h => h) (Or.inl ⟨by rfl, ?_⟩) ?_ ?_
      rotate_left
      · intro w'
        go_simp
        with_reducible rfl
      rotate_left
      · simp only [Act.put, pkA, pkB, pkC, i64_w, i32_w]
        rfl
      refine done_ (by kernel_rfl) ?_
      have HN := Aside0.mk (show BW w v6 ((L.length : Int) :: encAll (L.take (j + 1))) q4 from by
        have h9 := HW8.out
        rw [show [P2, four4 o.f2, four4 (o.f3.length : Int), o.f3].flatten = (L.length : Int) :: encAll (L.take (j + 1)) by
          rw [HTk.out, HP2.out, HP.out]
          unfold encOp
          rw [show o.f0 % 256 = o.f0 by omega, show (o.f1.size : Int) % 256 = o.f1.size by omega]
          simp] at h9
        exact h9)
      go_wp2
      exact ⟨⟨j + 1, by omega, by simp, HN⟩, by simp [Go.RowKit.intOf]; omega⟩
    · have t3 : decide (j < L.length) = false := decide_eq_false hlt
      have t3' : decide ((j : Int) < (L.length : Int)) = false := decide_eq_false (by omega)
      have HE := Aside0.mk (show encL L = (L.length : Int) :: encAll (L.take j) by unfold encL; rw [List.take_of_length_le (by omega)]; congr 1; omega)
      go_wp2
      go_ret2
      exact ⟨_, rfl, by rw [HE.out]; exact HA.out.row, HA.out.bel⟩
end Go.Proofs.YtpcfnkmljchiiaaGreatDoor.OByt
end
section
/- Plain facts on the check chapter's functions: what sums, records and takes compute on lists of bytes. -/
namespace Go.Proofs.YtpcfnkmljchiiaaGreatDoor.Lib04
open Go.RowKit GChk Go.Proofs.YtpcfnkmljchiiaaGreatDoorW.PrintWords Go.Proofs.YtpcfnkmljchiiaaGreatDoorW.PrintLast

theorem wrap_up {i : Int} {n : Nat} (h0 : 0 ≤ i) (h : i < (n : Int)) (hn : n ≤ 140737488351232) : wrap64 (i + 1) = i + 1 := by
  unfold wrap64
  omega

/-- One byte more. -/
def st (a : Int × Int) (x : Int) : Int × Int := ((a.1 + x) % 65521, (a.2 + (a.1 + x) % 65521) % 65521)
def enc (a : Int × Int) : Int := a.2 * 65536 + a.1
def good (a : Int × Int) : Prop := 0 ≤ a.1 ∧ a.1 < 65521 ∧ 0 ≤ a.2 ∧ a.2 < 65521
theorem good_st (a : Int × Int) (x : Int) : good (st a x) := by
  unfold good st
  dsimp only
  omega
theorem good_fold (xs : List Int) : ∀ a, good a → good (xs.foldl st a) := by
  induction xs with
  | nil => exact fun a h => h
  | cons x xs ih => exact fun a _ => ih _ (good_st a x)

theorem rd_at (xs : List Int) (i : Nat) (h : i < xs.length) : rd xs (i : Int) = xs[i] := by
  unfold rd
  simp [List.getD_eq_getElem?_getD, h]

theorem more_l0 (xs : List Int) (hx : ∀ x ∈ xs, 0 ≤ x ∧ x ≤ 255) (hn : xs.length ≤ 140737488351232) (d : Nat) : ∀ (k i : Nat) (l h : Int), i + d = xs.length → d < k → good (l, h) →
    check_More.l0 k l h xs (xs.length : Int) (i : Int) = some (enc ((xs.drop i).foldl st (l, h))) := by
  induction d with
  | zero =>
    intro k i l h hi hk hg
    obtain ⟨k, rfl⟩ : ∃ m, k = m + 1 := ⟨k - 1, by omega⟩
    simp only [check_More.l0]
    rw [if_neg (by omega), List.drop_eq_nil_of_le (by omega)]
    unfold good at hg
    simp only [List.foldl_nil, enc]
    congr 1
    dsimp only at hg
    omega
  | succ d ih =>
    intro k i l h hi hk hg
    obtain ⟨k, rfl⟩ : ∃ m, k = m + 1 := ⟨k - 1, by omega⟩
    have hlt : i < xs.length := by omega
    have hb := hx xs[i] (List.getElem_mem hlt)
    have h1 : ((l + ((rd xs i) % 4294967296)) % 4294967296) % 65521 = (l + xs[i]) % 65521 := by
      rw [rd_at xs i hlt]
      unfold good at hg
      dsimp only at hg
      omega
    have h2 : ((h + (l + xs[i]) % 65521) % 4294967296) % 65521 = (h + (l + xs[i]) % 65521) % 65521 := by
      unfold good at hg
      dsimp only at hg
      omega
    simp only [check_More.l0]
    rw [if_pos (by omega), if_pos (by omega), if_pos (by omega), wrap_up (n := xs.length) (by omega) (by omega) hn, h1, h2]
    have hi1 : ((i : Int) + 1) = ((i + 1 : Nat) : Int) := by omega
    rw [hi1, ih k (i + 1) _ _ (by omega) (by omega) (good_st (l, h) xs[i]), List.drop_eq_getElem_cons hlt]
    rfl

def start (a : Int) : Int × Int := (a % 65536 % 65521, a / 65536 % 65521)
theorem good_start (a : Int) : good (start a) := by
  unfold good start
  dsimp only
  omega
theorem more_f (xs : List Int) (hx : ∀ x ∈ xs, 0 ≤ x ∧ x ≤ 255) (hn : xs.length ≤ 140737488351232) (a : Int) (h0 : 0 ≤ a) (h1 : a ≤ 4294967295) (k : Nat) (hk : xs.length < k) :
    check_More.f k a xs = some (enc (xs.foldl st (start a))) := by
  unfold check_More.f
  have e1 : Int.tmod (Int.tmod a 65536) 65521 = a % 65536 % 65521 := by
    rw [Int.tmod_eq_emod_of_nonneg (a := a) h0, Int.tmod_eq_emod_of_nonneg (by omega)]
  have e2 : ((Int.tdiv a 65536) % 4294967296) % 65521 = a / 65536 % 65521 := by
    rw [Int.tdiv_eq_ediv_of_nonneg h0, Int.emod_eq_of_lt (b := 4294967296) (by omega) (by omega)]
  rw [e1, e2]
  have := more_l0 xs hx hn xs.length k 0 _ _ (by omega) hk (good_start a)
  simpa [start] using this
theorem enc_range (a : Int × Int) (h : good a) : 0 ≤ enc a ∧ enc a ≤ 4294967295 := by
  unfold good at h
  unfold enc
  omega
theorem sum_f (xs : List Int) (hx : ∀ x ∈ xs, 0 ≤ x ∧ x ≤ 255) (hn : xs.length ≤ 140737488351232) (k : Nat) (hk : xs.length < k) :
    check_Sum.f k xs = some (enc (xs.foldl st (1, 0))) := by
  unfold check_Sum.f check_Start.f
  simp only [Option.bind_some]
  rw [more_f xs hx hn 1 (by omega) (by omega) k hk]
  rfl
theorem wraps_u32 (n : Int) (h₀ : 0 ≤ n) (h₁ : n < 2 ^ 32) : IntKind.u32.wrap n = n := by rw [IntKind.wrap_u32]; omega
def isB (l : List Int) : Prop := ∀ x ∈ l, 0 ≤ x ∧ x ≤ 255
theorem isB_drop {l : List Int} (h : isB l) (n : Nat) : isB (l.drop n) := fun x hx => h x (List.mem_of_mem_drop hx)
theorem isB_take {l : List Int} (h : isB l) (n : Nat) : isB (l.take n) := fun x hx => h x (List.mem_of_mem_take hx)
theorem isB_append {a b : List Int} (ha : isB a) (hb : isB b) : isB (a ++ b) := fun x hx => by
  rcases List.mem_append.1 hx with h | h
  · exact ha x h
  · exact hb x h
def val4 (l : List Int) : Int := l.getD 0 0 * 16777216 + l.getD 1 0 * 65536 + l.getD 2 0 * 256 + l.getD 3 0
theorem getD_B {l : List Int} (h : isB l) (i : Nat) : 0 ≤ l.getD i 0 ∧ l.getD i 0 ≤ 255 := by
  rw [List.getD_eq_getElem?_getD]
  cases e : l[i]? with
  | none => simp
  | some v =>
    simp only [Option.getD_some]
    exact h v (List.mem_of_getElem? e)
theorem val4_range {l : List Int} (h : isB l) : 0 ≤ val4 l ∧ val4 l ≤ 4294967295 := by
  have h0 := getD_B h 0
  have h1 := getD_B h 1
  have h2 := getD_B h 2
  have h3 := getD_B h 3
  unfold val4
  omega
theorem number_f {l : List Int} (h : isB l) (hl : 4 ≤ l.length) : check_number.f l = some (val4 l) := by
  have h0 := getD_B h 0
  have h1 := getD_B h 1
  have h2 := getD_B h 2
  have h3 := getD_B h 3
  unfold check_number.f
  rw [if_pos (by omega), if_pos (by omega), if_pos (by omega), if_pos (by omega)]
  unfold rd val4
  simp only [show (0 : Int).toNat = 0 from rfl, show (1 : Int).toNat = 1 from rfl, show (2 : Int).toNat = 2 from rfl, show (3 : Int).toNat = 3 from rfl]
  generalize l.getD 0 0 = a at *
  generalize l.getD 1 0 = b at *
  generalize l.getD 2 0 = c at *
  generalize l.getD 3 0 = d at *
  have e1 : a % 4294967296 * 16777216 % 4294967296 = a * 16777216 := by omega
  have e2 : b % 4294967296 * 65536 % 4294967296 = b * 65536 := by omega
  have e3 : c % 4294967296 * 256 % 4294967296 = c * 256 := by omega
  have e4 : d % 4294967296 = d := by omega
  rw [e1, e2, e3, e4]
  rw [bits_join .u32 32 (by decide) wraps_u32 24 (a * 16777216) (b * 65536) (by omega) (by omega) (by omega) (by omega) (by omega) (by omega)]
  rw [bits_join .u32 32 (by decide) wraps_u32 16 (a * 16777216 + b * 65536) (c * 256) (by omega) (by omega) (by omega) (by omega) (by omega) (by omega)]
  rw [bits_join .u32 32 (by decide) wraps_u32 8 (a * 16777216 + b * 65536 + c * 256) d (by omega) (by omega) (by omega) (by omega) (by omega) (by omega)]
def four (n : Int) : List Int := [(n / 16777216) % 256, (n / 65536) % 256, (n / 256) % 256, n % 256]
theorem four_B (n : Int) : isB (four n) := by
  intro x hx
  simp only [four, List.mem_cons, List.not_mem_nil, or_false] at hx
  omega
theorem four_len (n : Int) : (four n).length = 4 := rfl
/-! ### records -/
def sumS (l : List Int) : Int := enc (l.foldl st (1, 0))
theorem sumS_range (l : List Int) : 0 ≤ sumS l ∧ sumS l ≤ 4294967295 := enc_range _ (good_fold l _ (by unfold good; omega))
def recS (x : List Int) : List Int := four x.length ++ (four (sumS x) ++ x)
theorem recS_len (x : List Int) : (recS x).length = x.length + 8 := by
  simp [recS, four_len]
  omega
def wholeS (b : List Int) : Option Nat :=
  if 8 ≤ b.length ∧ val4 b ≤ 400000 ∧ val4 b ≤ (b.length : Int) - 8 ∧ sumS ((b.drop 8).take (val4 b).toNat) = val4 (b.drop 4) then some (val4 b).toNat else none
theorem mid_eq (b : List Int) (n : Int) (h0 : 0 ≤ n) : (b.take (8 + n).toNat).drop 8 = (b.drop 8).take n.toNat := by
  rw [List.drop_take]
  congr 1
  omega
theorem clone_f (l : List Int) (h : l.length < 140737488355328) : slices_Clone_byte_byte.f l = some l := by
  unfold slices_Clone_byte_byte.f
  rw [if_pos h]
theorem take_f {b : List Int} (h : isB b) (hn : b.length ≤ 140737488351232) (k : Nat) (hk : b.length < k) :
    check_Take.f k b = some (match wholeS b with | some n => ((b.drop 8).take n, b.drop (8 + n), true) | none => ([], [], false)) := by
  obtain ⟨k, rfl⟩ : ∃ m, k = m + 1 := ⟨k - 1, by omega⟩
  unfold check_Take.f wholeS
  by_cases c1 : (b.length : Int) < 8
  · rw [if_pos c1, if_neg (by omega)]
  · have hv := val4_range h
    have e8 : wrap64 ((b.length : Int) - 8) = (b.length : Int) - 8 := by unfold wrap64; omega
    have en : wrap64 (val4 b) = val4 b := by unfold wrap64; omega
    rw [if_neg c1, number_f h (by omega)]
    simp only [Option.bind_some]
    rw [en, e8]
    by_cases c2 : val4 b > 400000
    · rw [if_pos c2, if_neg (by omega)]
      simp [check_Take.j0]
    · rw [if_neg c2]
      by_cases c3 : val4 b > (b.length : Int) - 8
      · rw [if_pos c3, if_neg (by omega)]
        simp [check_Take.j0]
      · have e9 : wrap64 (8 + val4 b) = 8 + val4 b := by unfold wrap64; omega
        have hml : ((b.drop 8).take (val4 b).toNat).length ≤ b.length := by simp; omega
        rw [if_neg c3, e9, if_pos (by omega), if_pos (by omega), mid_eq b _ hv.1, sum_f _ (isB_take (isB_drop h 8) _) (by omega) _ (by omega)]
        simp only [Option.bind_some]
        rw [if_pos (by omega), number_f (isB_drop h 4) (by simp; omega)]
        simp only [Option.bind_some]
        by_cases c4 : sumS ((b.drop 8).take (val4 b).toNat) = val4 (b.drop 4)
        · rw [if_pos ⟨by omega, by omega, by omega, c4⟩]
          unfold sumS at c4
          have hne : (enc (List.foldl st (1, 0) (List.take (val4 b).toNat (List.drop 8 b))) != val4 (List.drop 4 b)) = false := by rw [c4]; simp
          rw [hne]
          simp only [check_Take.j0, Bool.false_eq_true, if_false]
          rw [e9, if_pos (by omega), if_pos (by omega), mid_eq b _ hv.1, clone_f _ (by omega)]
          simp only [Option.bind_some]
          have e10 : (8 + val4 b).toNat = 8 + (val4 b).toNat := by omega
          rw [if_pos (by omega), clone_f _ (by simp; omega), e10]
          simp only [Option.bind_some]
        · rw [if_neg (fun hh => c4 hh.2.2.2)]
          have hne : (enc (List.foldl st (1, 0) (List.take (val4 b).toNat (List.drop 8 b))) != val4 (List.drop 4 b)) = true := by
            rw [bne_iff_ne]
            exact c4
          rw [hne]
          simp [check_Take.j0]
theorem crecord_f {x : List Int} (h : isB x) (hn : x.length ≤ 400000) (k : Nat) (hk : x.length < k) : check_Record.f k x = some (recS x, none) := by
  have hs := sumS_range x
  unfold check_Record.f check_four.f
  rw [if_pos (by omega), sum_f x h (by omega) k hk]
  simp only [Option.bind_some]
  have e : (x.length : Int) % 4294967296 = x.length := by omega
  rw [e]
  have hc : slices_Concat_byte_byte.f [four (x.length : Int), four (sumS x), x] = some (recS x) := by
    unfold slices_Concat_byte_byte.f
    rw [if_pos (by simp [four_len]; omega)]
    simp [recS]
  have e1 : ([((x.length : Int) / 16777216) % 256, ((x.length : Int) / 65536) % 256, ((x.length : Int) / 256) % 256, (x.length : Int) % 256] : List Int) = four (x.length : Int) := rfl
  have e2 : ([(enc (List.foldl st (1, 0) x) / 16777216) % 256, (enc (List.foldl st (1, 0) x) / 65536) % 256, (enc (List.foldl st (1, 0) x) / 256) % 256, enc (List.foldl st (1, 0) x) % 256] : List Int) = four (sumS x) := rfl
  rw [e1, e2, hc]
  rfl

end Go.Proofs.YtpcfnkmljchiiaaGreatDoor.Lib04
end
section
/- The reader that redo.Ops takes bytes with. -/
namespace Go.Proofs.YtpcfnkmljchiiaaGreatDoor.ORdr
open Go Go.RowKit Go.Maps Go.WideMaps Go.Proofs.YtpcfnkmljchiiaaGreatDoorW.PrintWords Go.Proofs.YtpcfnkmljchiiaaGreatDoorW.PrintLast Go.Proofs.YtpcfnkmljchiiaaGreatDoorW.PrintMore DPl DAt Go.Proofs.YtpcfnkmljchiiaaGreatDoor.OPl Go.Proofs.YtpcfnkmljchiiaaGreatDoor.OEnc Go.Proofs.YtpcfnkmljchiiaaGreatDoor.OByt
/-- A reader: what is left, was it short. Its bytes lie in the world w0. -/
structure RdAt (w0 : World) (r : Nat) (l : List Int) (sh : Bool) (W : World) : Prop where
  bel : Below w0.heap.size w0 W
  lo : w0.heap.size ≤ r
  ex : ∃ A c, W.heap[r]? = some (.cells #[.slice A l.length c, .bool sh] 125 (0, 0)) ∧ l.length ≤ c ∧ Kd.C (Kd.int .u8) w0 A l.length l
/-- What is taken; what is left, and was it short. -/
def takeR (n : Nat) (l : List Int) (sh : Bool) : List Int × List Int × Bool := if l.length < n then ([0, 0, 0, 0], l, true) else (l.take n, l.drop n, sh)
theorem four_zeros {U : World} {a : Nat} (h : U.heap[a]? = some (.cells #[.int .u8 0, .int .u8 0, .int .u8 0, .int .u8 0] 5 (0, 0))) : Kd.C (Kd.int .u8) U (some ⟨a, 0, none⟩) 4 [0, 0, 0, 0] :=
  Kd.C_of_reads (d := (0 : Int)) (h1 := fun _ => rfl) ⟨rfl, by simp, fun _ => ⟨_, rfl, fun j hj => by
    match j, hj with
    | 0, _ => exact (blk_cell h 0).trans rfl
    | 1, _ => exact (blk_cell h 1).trans rfl
    | 2, _ => exact (blk_cell h 2).trans rfl
    | 3, _ => exact (blk_cell h 3).trans rfl⟩⟩
theorem make4 (W : World) : (Instr.makeSlice 32 (.int .i64 4) (.int .i64 4)).run Tryz.prog W = .ok (.slice (some ⟨W.heap.size, 0, none⟩) 4 4) (W.alloc (.cells #[.int .u8 0, .int .u8 0, .int .u8 0, .int .u8 0] 5)) := by kernel_rfl
variable {w0 w : World} {r : Nat} {l : List Int} {sh : Bool}
set_option maxRecDepth 100000 in
set_option maxHeartbeats 8000000 in
theorem take_calls (n : Nat) (hn : n ≤ 4294967295) (h : RdAt w0 r l sh w) :
    Calls Tryz.prog 77 #[.pointer (some ⟨r, 0, none⟩), .int .i64 (n : Int)] w fun e w' => ∃ A c, e = .returned (.slice A (takeR n l sh).1.length c) ∧ (takeR n l sh).1.length ≤ c ∧ Kd.C (Kd.int .u8) w' A (takeR n l sh).1.length (takeR n l sh).1 ∧ RdAt w0 r (takeR n l sh).2.1 (takeR n l sh).2.2 w' ∧ But w w' (some r) := by
  obtain ⟨A, c, hr, hc, hC⟩ := h.ex
  have r0 := (blk_cell hr 0).trans (rfl : _ = some (Value.slice A l.length c))
  have r1 := (blk_cell hr 1).trans (rfl : _ = some (Value.bool sh))
  have f0 := blk_frozen hr 0
  have f1 := blk_frozen hr 1
  have HB := Aside0.mk h.bel
  have HL := Aside0.mk h.lo
  have HR := Aside0.mk hr
  have HC := Aside0.mk hC
  clear h hr hC
  by_cases hlt : l.length < n
  · have e : takeR n l sh = ([0, 0, 0, 0], l, true) := if_pos hlt
    rw [e]
    have t1 : decide ((l.length : Int) < (n : Int)) = true := decide_eq_true (by omega)
    have t1' : decide (l.length < n) = true := decide_eq_true hlt
    have hmk := make4
    clear e
    go_enter Tryz.func77, Tryz.ntmps77
    go_wp2
    go_ret
    have hk := But.setCell w ⟨r, 1, none⟩ (.bool true)
    have hs : (w.setCell ⟨r, 1, none⟩ (.bool true)).heap.size = w.heap.size := by simp [World.setCell]
    have hb : Below (w.setCell ⟨r, 1, none⟩ (.bool true)).heap.size (w.setCell ⟨r, 1, none⟩ (.bool true)) ((w.setCell ⟨r, 1, none⟩ (.bool true)).alloc (.cells #[.int .u8 0, .int .u8 0, .int .u8 0, .int .u8 0] 5)) := (Below.refl _ _).alloc (Nat.le_refl _) _
    have h1 := blk_put HR.out 1 (.bool true) rfl
    refine ⟨some ⟨(w.setCell ⟨r, 1, none⟩ (.bool true)).heap.size, 0, none⟩, 4, by rw [hs]; rfl, by decide, four_zeros (heap_alloc_new _ _), ⟨(HB.out.setCell HL.out _).trans (hb.mono (by rw [hs]; exact HB.out.size)), HL.out, A, c, (hb.block _ (blk_lt h1)).trans h1, hc, HC.out⟩, hk.trans (But.of_below hb)⟩
  · have e : takeR n l sh = (l.take n, l.drop n, sh) := if_neg hlt
    rw [e]
    have t1 : decide ((l.length : Int) < (n : Int)) = false := decide_eq_false (by omega)
    have t1' : decide (l.length < n) = false := decide_eq_false hlt
    obtain ⟨i5, hi5, _, hz5, _⟩ := info_parts infoU8
    obtain ⟨A', hcut, hrd, hcap⟩ := print_cut_int (P := Tryz.prog) (k := .u8) 32 5 Tryz.underlying32 hi5 hz5 A c l (n : Int) (by omega) (by omega) hc
    rw [Int.toNat_natCast] at hcut hrd hcap
    have HC2 := Aside0.mk (Kd.C_of_reads (d := (0 : Int)) (h1 := fun _ => rfl) (hrd w0 (Kd.reads_of_C (d := (0 : Int)) (h1 := fun _ => rfl) HC.out)))
    have HCp := Aside0.mk hcap
    clear e hrd hcap
    go_enter Tryz.func77, Tryz.ntmps77
    go_wp2
    go_ret
    have e1 : (l.take n).length = n := by rw [List.length_take]; omega
    have e2 : (l.drop n).length = l.length - n := List.length_drop
    have hb : Below w0.heap.size w0 (w.setCell ⟨r, 0, none⟩ (.slice A' (l.length - n) (c - n))) := HB.out.setCell HL.out _
    refine ⟨A, c, by rw [e1]; rfl, by rw [e1]; omega, Kd.C_below (Kd.C_take HC.out (by omega)) hb, ⟨hb, HL.out, A', c - n, ?_, HCp.out, HC2.out⟩, But.setCell w ⟨r, 0, none⟩ _⟩
    rw [e2]
    exact blk_put HR.out 0 _ rfl
end Go.Proofs.YtpcfnkmljchiiaaGreatDoor.ORdr
end
