/- Steps towards RBoth: OChk, GSixx3, GChkx0. -/
import Derived.Test.YtpcfnkmljchiiaaGreatDoorZ21
import Derived.Test.YtpcfnkmljchiiaaGreatDoorZ20
import Derived.Test.YtpcfnkmljchiiaaGreatDoorProg
import Derived.Below
import Derived.Deep.Draws
import Derived.Deep.AppendLies
import Derived.Maps.AppendAt
import Derived.OwnWalk
import Derived.Laws.BytesArg
import Derived.Laws.MakeOwn
import Derived.Laws.OwnMore
import Derived.Deep.OwnRows
import Derived.Tactics
import Derived.Lib.ConvBytes
import Derived.Laws.Slices
import Derived.WalkKit
import Derived.KernelRfl
import Derived.RowKit3
import Derived.Deep.LoopGhost
import Derived.Deep.QuietTactic
import Derived.BigQuiet
import Derived.WideLaws
import Derived.Deep.DeepCutAuto
import Derived.Deep.CutBlock
import Derived.Deep.RegionHeld3
import Derived.Laws.Rows
import Derived.Lib.AppendStr
import Derived.ArgAppend
import Derived.Laws.IdiomCopy
import Derived.OrdersHeld
import Derived.Laws.BitsLemmas
import Derived.RowKit
import Derived.Test.YtpcfnkmljchiiaaGreatDoorZ00
import Derived.RangeFuncGives
import Derived.RangeFuncSeq
import Derived.OwnWalkIn
import Derived.TacticsInMore
import Derived.RegionIn
import Derived.LoopNIn
import Derived.LoopIn
import Derived.Shelf.Abstract
import Derived.StillTailTactics
import Derived.IntWalk
import Derived.WalkSpells
import Derived.Lib.SlBytesConst
import Derived.Laws.StructEq
set_option linter.unusedVariables false
set_option linter.unusedSimpArgs false
section
/- redo.checkOps: a change's form. Written by a small program (the ways of its loop). -/
namespace Go.Proofs.YtpcfnkmljchiiaaGreatDoor.OChk
open Go Go.RowKit Go.Maps Go.WideMaps Go.Proofs.YtpcfnkmljchiiaaGreatDoorW.PrintWords Go.Proofs.YtpcfnkmljchiiaaGreatDoorW.PrintLast Go.Proofs.YtpcfnkmljchiiaaGreatDoorW.PrintMore DPl DAt DNw Go.Proofs.YtpcfnkmljchiiaaGreatDoor.Is Right Go.Proofs.YtpcfnkmljchiiaaGreatDoor.OPl Go.Proofs.YtpcfnkmljchiiaaGreatDoor.OAll Go.Proofs.YtpcfnkmljchiiaaGreatDoor.ORight Go.Proofs.YtpcfnkmljchiiaaGreatDoor.OSee
/-- Is an operation none, behind those of these names? -/
def badOp (o : Rop) (seen : List ByteArray) : Bool :=
  !(o.f0 == 1 || o.f0 == 2 || o.f0 == 3) || (!rightL o.f1 || (seen.any (fun x => x.data.toList == o.f1.data.toList) || (decide (o.f2 < 0) || (decide (1073741824 < o.f2) || ((o.f0 != 1 && o.f2 != 0) || (o.f0 == 3 && decide (0 < o.f3.length)))))))
def checkGo : List Rop → List ByteArray → Int → Option Int
  | [], _, size => if 400000 < size then some 2 else none
  | o :: r, seen, size => if badOp o seen = true then some 2 else if 400000 < o.f3.length then some 2 else checkGo r (seen ++ [o.f1]) (size + (10 + o.f1.size + o.f3.length))
/-- The error of a change's form: none, or its number. -/
def checkL (L : List Rop) : Option Int := if L.length = 0 ∨ 16 < L.length then some 2 else checkGo L [] 1
theorem rightL_size {s : ByteArray} (h : rightL s = true) : s.size ≤ 24 := by
  unfold rightL rightB at h
  simp only [Bool.and_eq_true, decide_eq_true_eq] at h
  exact h.1.2.2
theorem gForm2 : gOf 2 = 1 := by decide
/-- What the loop carries. -/
structure CW (w : World) (L : List Rop) (j : Nat) (sz : Int) (W : World) : Prop where
  bel : Below w.heap.size w W
  seen : SeenAt W w.heap.size ((L.take j).map fun o => o.f1)
  eq : checkL L = checkGo (L.drop j) ((L.take j).map fun o => o.f1) sz
  lo : 1 ≤ sz
  hi : sz ≤ 1 + 400100 * j
set_option maxRecDepth 100000 in
set_option maxHeartbeats 16000000 in
theorem check_calls (L : List Rop) (A : Option Addr) (c : Nat) (B : Nat) (E : Int → Addr) (w : World) (hE : AllAt B w E) (hB : B ≤ w.heap.size) (hr : Kd.C GSix.k62 w A L.length L) (hc : L.length ≤ c) (hl : L.length ≤ 9223372036854775807) (hs : ∀ o ∈ L, o.f1.size < 9223372036854775807 ∧ o.f3.length < 9223372036854775807) :
    Calls Tryz.prog 71 #[.slice A L.length c] w fun e w' => e = .returned (errV E (checkL L)) ∧ Below w.heap.size w w' := by
  have c2 := hE.errs.var 2 (by simp [All])
  rw [gForm2] at c2
  have HC2 := Aside0.mk c2
  have HR := Aside0.mk hr
  have HS := Aside0.mk hs
  clear hE hr hs
  by_cases h0 : L.length = 0
  · have e : checkL L = some 2 := if_pos (.inl h0)
    rw [e, errV_some]
    have t1 : decide ((L.length : Int) < 1) = true := decide_eq_true (by omega)
    clear e
    go_enter Tryz.func71, Tryz.ntmps71
    go_wp2
    go_ret
    exact ⟨rfl, Below.refl _ _⟩
  by_cases h1 : 16 < L.length
  · have e : checkL L = some 2 := if_pos (.inr h1)
    rw [e, errV_some]
    have t1 : decide ((L.length : Int) < 1) = false := decide_eq_false (by omega)
    have t2 : decide (16 < (L.length : Int)) = true := decide_eq_true (by omega)
    have t2' : decide (16 < L.length) = true := decide_eq_true (by omega)
    clear e
    go_enter Tryz.func71, Tryz.ntmps71
    go_wp2
    go_ret
    exact ⟨rfl, Below.refl _ _⟩
  have t1 : decide ((L.length : Int) < 1) = false := decide_eq_false (by omega)
  have t2 : decide (16 < (L.length : Int)) = false := decide_eq_false (by omega)
  have t2' : decide (16 < L.length) = false := decide_eq_false (by omega)
  have hL : L.length ≤ 16 := by omega
  have HL0 := Aside0.mk (show CW w L 0 1 (w.alloc (.map #[] 0)) from ⟨(Below.refl _ _).alloc (Nat.le_refl _) _, seen_new w, by show (if _ then _ else _) = _; rw [if_neg (by omega)]; rfl, by omega, by omega⟩)
  obtain ⟨R, hR⟩ : ∃ R, R = checkL L := ⟨_, rfl⟩
  rw [← hR]
  have HRR := Aside0.mk hR
  have hmk := fun W => run_makeMap (P := Tryz.prog) 159 W
  clear hR h0 h1 c2
  go_enter Tryz.func71, Tryz.ntmps71
  go_wp2
  go_loopw [20, 3] (fun ix zv wx => ∃ (j : Nat) (sz : Int), j ≤ L.length ∧ ix = .int .i64 j ∧ zv = .int .i64 sz ∧ Aside0 (CW w L j sz wx)) (fun ix _ _ => L.length - (Go.RowKit.intOf ix).toNat)
  case atStart => exact ⟨0, 1, Nat.zero_le _, rfl, rfl, HL0⟩
  case round =>
    obtain ⟨j, sz, hj, rfl, rfl, HA⟩ := hrel
    clear HL0 hmk
    have hz0 : 1 ≤ sz := HA.out.lo
    have hz1 : sz ≤ 1 + 400100 * j := HA.out.hi
    by_cases hlt : j < L.length
    · have t3 : decide (j < L.length) = true := decide_eq_true hlt
      have t3' : decide ((j : Int) < (L.length : Int)) = true := decide_eq_true (by omega)
      obtain ⟨o, ho⟩ : ∃ o, L[j]? = some o := ⟨_, List.getElem?_eq_getElem hlt⟩
      obtain ⟨ad, A3, c3, rfl, x0, x1, x2, x3, hl3, hi3⟩ := GSix.at_T62 HR.out (j : Int) (by omega) (by omega)
      rw [show GSix.rd_T62 L (j : Int) = o by unfold GSix.rd_T62; rw [Int.toNat_natCast, List.getD_eq_getElem?_getD, ho]; rfl, Int.toNat_natCast] at x0 x1 x2 x3
      replace x0 := (HA.out.bel.cell (World.block_lt_of_cell? w _ x0)).trans x0
      replace x1 := (HA.out.bel.cell (World.block_lt_of_cell? w _ x1)).trans x1
      replace x2 := (HA.out.bel.cell (World.block_lt_of_cell? w _ x2)).trans x2
      replace x3 := (HA.out.bel.cell (World.block_lt_of_cell? w _ x3)).trans x3
      have HSo := Aside0.mk (HS.out o (List.mem_of_getElem? ho))
      have hbs : o.f3.length < 9223372036854775807 := HSo.out.2
      have HD := Aside0.mk (show L.drop j = o :: L.drop (j + 1) by rw [List.drop_eq_getElem_cons hlt, (List.getElem?_eq_some_iff.1 ho).2])
      have HTk := Aside0.mk (show (L.take (j + 1)).map (fun o => o.f1) = (L.take j).map (fun o => o.f1) ++ [o.f1] by rw [List.take_add_one, ho, List.map_append]; rfl)
      obtain ⟨seen, hseen⟩ : ∃ seen, seen = (L.take j).map fun o => o.f1 := ⟨_, rfl⟩
      have HSn := Aside0.mk (show SeenAt wr w.heap.size seen by rw [hseen]; exact HA.out.seen)
      have HSl := Aside0.mk (show seen.length < 1000000 by rw [hseen, List.length_map, List.length_take]; omega)
      have HEq := Aside0.mk (show R = if badOp o seen = true then some 2 else if 400000 < o.f3.length then some 2 else checkGo (L.drop (j + 1)) (seen ++ [o.f1]) (sz + (10 + o.f1.size + o.f3.length)) by rw [HRR.out, HA.out.eq, HD.out, hseen]; rfl)
      rw [← hseen] at HTk
      clear ho hl3 hi3 hseen
      have a0 : (0 : Int) ≤ (j : Int) := by omega
      have a1 : (j : Int) < (L.length : Int) := by omega
      go_upto_region 8 with (first | ((with_reducible refine gate_dst (N := 6) rfl ?_); refine box_event ?hg (N := 6) ?hd (cs := #[.int .i64 0, .string (⟨#[]⟩ : ByteArray), .int .i64 0, .slice none 0 0]) (t := 62) ?hr ?_; (case hd => rfl); (case hg => rfl); (case hr => first | (go_simp; done) | (go_simp; rfl)); intro gb hg w13 hbox hb; have HBk := Aside0.mk hbox; have HGb := Aside0.mk (show wr.heap.size ≤ gb by rw [hg]; exact Nat.le_refl _); have HB13 := Aside0.mk hb; clear hb hbox hg; have hcz0 : w13.cell? ⟨gb, 0, none⟩ = some (.int .i64 0) := (blk_cell HBk.out 0).trans rfl; have hcz1 : w13.cell? ⟨gb, 1, none⟩ = some (.string (⟨#[]⟩ : ByteArray)) := (blk_cell HBk.out 1).trans rfl; have hcz2 : w13.cell? ⟨gb, 2, none⟩ = some (.int .i64 0) := (blk_cell HBk.out 2).trans rfl; have hcz3 : w13.cell? ⟨gb, 3, none⟩ = some (.slice none 0 0) := (blk_cell HBk.out 3).trans rfl; have hfz0 := blk_frozen HBk.out 0; have hfz1 := blk_frozen HBk.out 1; have hfz2 := blk_frozen HBk.out 2; have hfz3 := blk_frozen HBk.out 3))
      have HB14 := Aside0.mk (show Below wr.heap.size wr ((((w13.setCell ⟨gb, 0, none⟩ (.int .i64 o.f0)).setCell ⟨gb, 1, none⟩ (.string o.f1)).setCell ⟨gb, 2, none⟩ (.int .i64 o.f2)).setCell ⟨gb, 3, none⟩ (.slice A3 o.f3.length c3)) from (((HB13.out.setCell HGb.out _).setCell HGb.out _).setCell HGb.out _).setCell HGb.out _)
      have HK14 := Aside0.mk (show ((((w13.setCell ⟨gb, 0, none⟩ (.int .i64 o.f0)).setCell ⟨gb, 1, none⟩ (.string o.f1)).setCell ⟨gb, 2, none⟩ (.int .i64 o.f2)).setCell ⟨gb, 3, none⟩ (.slice A3 o.f3.length c3)).heap[gb]? = some (.cells #[.int .i64 o.f0, .string o.f1, .int .i64 o.f2, .slice A3 o.f3.length c3] 62 (0, 0)) from blk_put (blk_put (blk_put (blk_put HBk.out 0 _ rfl) 1 _ rfl) 2 _ rfl) 3 _ rfl)
      clear hcz0 hcz1 hcz2 hcz3 hfz0 hfz1 hfz2 hfz3 HBk HB13 x0 x1 x2 x3
      generalize ((((w13.setCell ⟨gb, 0, none⟩ (.int .i64 o.f0)).setCell ⟨gb, 1, none⟩ (.string o.f1)).setCell ⟨gb, 2, none⟩ (.int .i64 o.f2)).setCell ⟨gb, 3, none⟩ (.slice A3 o.f3.length c3)) = w14 at HB14 HK14 ⊢
      have d0 := (blk_cell HK14.out 0).trans (rfl : _ = some (Value.int .i64 o.f0))
      have d1 := (blk_cell HK14.out 1).trans (rfl : _ = some (Value.string o.f1))
      have d2 := (blk_cell HK14.out 2).trans (rfl : _ = some (Value.int .i64 o.f2))
      have d3 := (blk_cell HK14.out 3).trans (rfl : _ = some (Value.slice A3 o.f3.length c3))
      have HS14 := Aside0.mk (HSn.out.below HB14.out)
      have HBw := Aside0.mk (HA.out.bel.trans (HB14.out.mono HA.out.bel.size))
      have HGn := Aside0.mk (show some gb ≠ some w.heap.size from fun e => by have h1 := HSn.out.lt; have h2 := HGb.out; have := Option.some.inj e; omega)
      have cg := (HBw.out.cell (World.block_lt_of_cell? w _ HC2.out)).trans HC2.out
      by_cases hk : o.f0 = 1 ∨ o.f0 = 2 ∨ o.f0 = 3
      · rcases hk with ek | ek | ek
        · rw [ek] at d0
          cases hr : rightL o.f1 with
          | false =>
            have HRi := Aside0.mk hr
            have HBd := Aside0.mk (show badOp o seen = true by unfold badOp; rw [ek, hr]; simp [])
            go_wp2_with (go_at_call 115; refine (lright_calls o.f1 HSo.out.1 w14).mono ?_; rw [HRi.out]; rintro e w15 ⟨rfl, hb⟩; have HB15 := Aside0.mk hb; have e0 := (hb.cell (World.block_lt_of_cell? w14 _ d0)).trans d0; have e1 := (hb.cell (World.block_lt_of_cell? w14 _ d1)).trans d1; have e2 := (hb.cell (World.block_lt_of_cell? w14 _ d2)).trans d2; have e3 := (hb.cell (World.block_lt_of_cell? w14 _ d3)).trans d3; have cg2 := (hb.cell (World.block_lt_of_cell? w14 _ cg)).trans cg; clear hb d0 d1 d2 d3 cg)
            go_ret
            rw [HEq.out, if_pos HBd.out]
            exact ⟨rfl, HBw.out.trans (HB15.out.mono HBw.out.size)⟩
          | true =>
            have HRi := Aside0.mk hr
            cases hs : seen.any (fun x => x.data.toList == o.f1.data.toList) with
            | true =>
              have HSe := Aside0.mk hs
              have HBd := Aside0.mk (show badOp o seen = true by unfold badOp; rw [ek, hr, hs]; simp [])
              go_wp2_with (go_at_call 115; refine (lright_calls o.f1 HSo.out.1 w14).mono ?_; rw [HRi.out]; rintro e w15 ⟨rfl, hb⟩; have HB15 := Aside0.mk hb; have e0 := (hb.cell (World.block_lt_of_cell? w14 _ d0)).trans d0; have e1 := (hb.cell (World.block_lt_of_cell? w14 _ d1)).trans d1; have e2 := (hb.cell (World.block_lt_of_cell? w14 _ d2)).trans d2; have e3 := (hb.cell (World.block_lt_of_cell? w14 _ d3)).trans d3; have cg2 := (hb.cell (World.block_lt_of_cell? w14 _ cg)).trans cg; have hlk := seen_look (HS14.out.below hb) o.f1 (rightL_size HRi.out); rw [HSe.out] at hlk; clear hb d0 d1 d2 d3 cg)
              go_ret
              rw [HEq.out, if_pos HBd.out]
              exact ⟨rfl, HBw.out.trans (HB15.out.mono HBw.out.size)⟩
            | false =>
              have HSe := Aside0.mk hs
              by_cases n0 : o.f2 < 0
              · have q0 : decide (o.f2 < 0) = true := decide_eq_true n0
                have HBd := Aside0.mk (show badOp o seen = true by unfold badOp; rw [ek, hr, hs]; simp [n0])
                go_wp2_with (go_at_call 115; refine (lright_calls o.f1 HSo.out.1 w14).mono ?_; rw [HRi.out]; rintro e w15 ⟨rfl, hb⟩; have HB15 := Aside0.mk hb; have e0 := (hb.cell (World.block_lt_of_cell? w14 _ d0)).trans d0; have e1 := (hb.cell (World.block_lt_of_cell? w14 _ d1)).trans d1; have e2 := (hb.cell (World.block_lt_of_cell? w14 _ d2)).trans d2; have e3 := (hb.cell (World.block_lt_of_cell? w14 _ d3)).trans d3; have cg2 := (hb.cell (World.block_lt_of_cell? w14 _ cg)).trans cg; have hlk := seen_look (HS14.out.below hb) o.f1 (rightL_size HRi.out); rw [HSe.out] at hlk; clear hb d0 d1 d2 d3 cg)
                go_ret
                rw [HEq.out, if_pos HBd.out]
                exact ⟨rfl, HBw.out.trans (HB15.out.mono HBw.out.size)⟩
              have q0 : decide (o.f2 < 0) = false := decide_eq_false n0
              by_cases n1 : 1073741824 < o.f2
              · have q1 : decide (1073741824 < o.f2) = true := decide_eq_true n1
                have HBd := Aside0.mk (show badOp o seen = true by unfold badOp; rw [ek, hr, hs]; simp [n0, n1])
                go_wp2_with (go_at_call 115; refine (lright_calls o.f1 HSo.out.1 w14).mono ?_; rw [HRi.out]; rintro e w15 ⟨rfl, hb⟩; have HB15 := Aside0.mk hb; have e0 := (hb.cell (World.block_lt_of_cell? w14 _ d0)).trans d0; have e1 := (hb.cell (World.block_lt_of_cell? w14 _ d1)).trans d1; have e2 := (hb.cell (World.block_lt_of_cell? w14 _ d2)).trans d2; have e3 := (hb.cell (World.block_lt_of_cell? w14 _ d3)).trans d3; have cg2 := (hb.cell (World.block_lt_of_cell? w14 _ cg)).trans cg; have hlk := seen_look (HS14.out.below hb) o.f1 (rightL_size HRi.out); rw [HSe.out] at hlk; clear hb d0 d1 d2 d3 cg)
                go_ret
                rw [HEq.out, if_pos HBd.out]
                exact ⟨rfl, HBw.out.trans (HB15.out.mono HBw.out.size)⟩
              have q1 : decide (1073741824 < o.f2) = false := decide_eq_false n1
              have HGd := Aside0.mk (show ¬ badOp o seen = true by unfold badOp; rw [ek, hr, hs]; simp [n0, n1])
              clear hr hs
              go_upto_region 11 with (go_at_call 115; refine (lright_calls o.f1 HSo.out.1 w14).mono ?_; rw [HRi.out]; rintro e w15 ⟨rfl, hb⟩; have HB15 := Aside0.mk hb; have e0 := (hb.cell (World.block_lt_of_cell? w14 _ d0)).trans d0; have e1 := (hb.cell (World.block_lt_of_cell? w14 _ d1)).trans d1; have e2 := (hb.cell (World.block_lt_of_cell? w14 _ d2)).trans d2; have e3 := (hb.cell (World.block_lt_of_cell? w14 _ d3)).trans d3; have cg2 := (hb.cell (World.block_lt_of_cell? w14 _ cg)).trans cg; have hlk := seen_look (HS14.out.below hb) o.f1 (rightL_size HRi.out); rw [HSe.out] at hlk; clear hb d0 d1 d2 d3 cg)
              obtain ⟨w16, hup, hsn, hg⟩ := seen_put (HS14.out.below HB15.out) o.f1 (rightL_size HRi.out) HSl.out
              have HSp := Aside0.mk hsn
              have HBp := Aside0.mk ((HBw.out.trans (HB15.out.mono HBw.out.size)).grown hg (Nat.le_trans HBw.out.size HB15.out.size) (fun k hk => by have := Option.some.inj hk; omega))
              have g1 := hg.cell (a := ⟨gb, 1, none⟩) (v := .string o.f1) e1 HGn.out
              have g3 := hg.cell (a := ⟨gb, 3, none⟩) (v := .slice A3 o.f3.length c3) e3 HGn.out
              have cg3 := (HBp.out.cell (World.block_lt_of_cell? w _ HC2.out)).trans HC2.out
              clear hsn hg hlk
              have hn24 : o.f1.size ≤ 24 := rightL_size HRi.out
              by_cases hbig : 400000 < o.f3.length
              · have q4 : decide (400000 < (o.f3.length : Int)) = true := decide_eq_true (by omega)
                have q4' : decide (400000 < o.f3.length) = true := decide_eq_true hbig
                have HBg := Aside0.mk hbig
                clear hbig
                go_wp2
                go_ret
                rw [HEq.out, if_neg HGd.out, if_pos HBg.out]
                exact ⟨rfl, HBp.out⟩
              · have q4 : decide (400000 < (o.f3.length : Int)) = false := decide_eq_false (by omega)
                have q4' : decide (400000 < o.f3.length) = false := decide_eq_false hbig
                have HBg := Aside0.mk hbig
                have hb3 : o.f3.length ≤ 400000 := by omega
                clear hbig
                have HN := Aside0.mk (show CW w L (j + 1) (sz + (10 + o.f1.size + o.f3.length)) w16 from ⟨HBp.out, by rw [HTk.out]; exact HSp.out, by rw [HTk.out, ← HRR.out, HEq.out, if_neg HGd.out, if_neg HBg.out], by omega, by omega⟩)
                go_wp2
                exact ⟨⟨j + 1, _, by omega, by simp, by go_num, HN⟩, by simp [Go.RowKit.intOf]; omega⟩
        · rw [ek] at d0
          cases hr : rightL o.f1 with
          | false =>
            have HRi := Aside0.mk hr
            have HBd := Aside0.mk (show badOp o seen = true by unfold badOp; rw [ek, hr]; simp [])
            go_wp2_with (go_at_call 115; refine (lright_calls o.f1 HSo.out.1 w14).mono ?_; rw [HRi.out]; rintro e w15 ⟨rfl, hb⟩; have HB15 := Aside0.mk hb; have e0 := (hb.cell (World.block_lt_of_cell? w14 _ d0)).trans d0; have e1 := (hb.cell (World.block_lt_of_cell? w14 _ d1)).trans d1; have e2 := (hb.cell (World.block_lt_of_cell? w14 _ d2)).trans d2; have e3 := (hb.cell (World.block_lt_of_cell? w14 _ d3)).trans d3; have cg2 := (hb.cell (World.block_lt_of_cell? w14 _ cg)).trans cg; clear hb d0 d1 d2 d3 cg)
            go_ret
            rw [HEq.out, if_pos HBd.out]
            exact ⟨rfl, HBw.out.trans (HB15.out.mono HBw.out.size)⟩
          | true =>
            have HRi := Aside0.mk hr
            cases hs : seen.any (fun x => x.data.toList == o.f1.data.toList) with
            | true =>
              have HSe := Aside0.mk hs
              have HBd := Aside0.mk (show badOp o seen = true by unfold badOp; rw [ek, hr, hs]; simp [])
              go_wp2_with (go_at_call 115; refine (lright_calls o.f1 HSo.out.1 w14).mono ?_; rw [HRi.out]; rintro e w15 ⟨rfl, hb⟩; have HB15 := Aside0.mk hb; have e0 := (hb.cell (World.block_lt_of_cell? w14 _ d0)).trans d0; have e1 := (hb.cell (World.block_lt_of_cell? w14 _ d1)).trans d1; have e2 := (hb.cell (World.block_lt_of_cell? w14 _ d2)).trans d2; have e3 := (hb.cell (World.block_lt_of_cell? w14 _ d3)).trans d3; have cg2 := (hb.cell (World.block_lt_of_cell? w14 _ cg)).trans cg; have hlk := seen_look (HS14.out.below hb) o.f1 (rightL_size HRi.out); rw [HSe.out] at hlk; clear hb d0 d1 d2 d3 cg)
              go_ret
              rw [HEq.out, if_pos HBd.out]
              exact ⟨rfl, HBw.out.trans (HB15.out.mono HBw.out.size)⟩
            | false =>
              have HSe := Aside0.mk hs
              by_cases n0 : o.f2 < 0
              · have q0 : decide (o.f2 < 0) = true := decide_eq_true n0
                have HBd := Aside0.mk (show badOp o seen = true by unfold badOp; rw [ek, hr, hs]; simp [n0])
                go_wp2_with (go_at_call 115; refine (lright_calls o.f1 HSo.out.1 w14).mono ?_; rw [HRi.out]; rintro e w15 ⟨rfl, hb⟩; have HB15 := Aside0.mk hb; have e0 := (hb.cell (World.block_lt_of_cell? w14 _ d0)).trans d0; have e1 := (hb.cell (World.block_lt_of_cell? w14 _ d1)).trans d1; have e2 := (hb.cell (World.block_lt_of_cell? w14 _ d2)).trans d2; have e3 := (hb.cell (World.block_lt_of_cell? w14 _ d3)).trans d3; have cg2 := (hb.cell (World.block_lt_of_cell? w14 _ cg)).trans cg; have hlk := seen_look (HS14.out.below hb) o.f1 (rightL_size HRi.out); rw [HSe.out] at hlk; clear hb d0 d1 d2 d3 cg)
                go_ret
                rw [HEq.out, if_pos HBd.out]
                exact ⟨rfl, HBw.out.trans (HB15.out.mono HBw.out.size)⟩
              have q0 : decide (o.f2 < 0) = false := decide_eq_false n0
              by_cases n1 : 1073741824 < o.f2
              · have q1 : decide (1073741824 < o.f2) = true := decide_eq_true n1
                have HBd := Aside0.mk (show badOp o seen = true by unfold badOp; rw [ek, hr, hs]; simp [n0, n1])
                go_wp2_with (go_at_call 115; refine (lright_calls o.f1 HSo.out.1 w14).mono ?_; rw [HRi.out]; rintro e w15 ⟨rfl, hb⟩; have HB15 := Aside0.mk hb; have e0 := (hb.cell (World.block_lt_of_cell? w14 _ d0)).trans d0; have e1 := (hb.cell (World.block_lt_of_cell? w14 _ d1)).trans d1; have e2 := (hb.cell (World.block_lt_of_cell? w14 _ d2)).trans d2; have e3 := (hb.cell (World.block_lt_of_cell? w14 _ d3)).trans d3; have cg2 := (hb.cell (World.block_lt_of_cell? w14 _ cg)).trans cg; have hlk := seen_look (HS14.out.below hb) o.f1 (rightL_size HRi.out); rw [HSe.out] at hlk; clear hb d0 d1 d2 d3 cg)
                go_ret
                rw [HEq.out, if_pos HBd.out]
                exact ⟨rfl, HBw.out.trans (HB15.out.mono HBw.out.size)⟩
              have q1 : decide (1073741824 < o.f2) = false := decide_eq_false n1
              by_cases n2 : o.f2 = 0
              case neg =>
                have q2 : (o.f2 != 0) = true := bne_iff_ne.2 n2
                have HBd := Aside0.mk (show badOp o seen = true by unfold badOp; rw [ek, hr, hs]; simp [n0, n1, n2])
                go_wp2_with (go_at_call 115; refine (lright_calls o.f1 HSo.out.1 w14).mono ?_; rw [HRi.out]; rintro e w15 ⟨rfl, hb⟩; have HB15 := Aside0.mk hb; have e0 := (hb.cell (World.block_lt_of_cell? w14 _ d0)).trans d0; have e1 := (hb.cell (World.block_lt_of_cell? w14 _ d1)).trans d1; have e2 := (hb.cell (World.block_lt_of_cell? w14 _ d2)).trans d2; have e3 := (hb.cell (World.block_lt_of_cell? w14 _ d3)).trans d3; have cg2 := (hb.cell (World.block_lt_of_cell? w14 _ cg)).trans cg; have hlk := seen_look (HS14.out.below hb) o.f1 (rightL_size HRi.out); rw [HSe.out] at hlk; clear hb d0 d1 d2 d3 cg)
                go_ret
                rw [HEq.out, if_pos HBd.out]
                exact ⟨rfl, HBw.out.trans (HB15.out.mono HBw.out.size)⟩
              have q2 : (o.f2 != 0) = false := by rw [n2]; rfl
              have HGd := Aside0.mk (show ¬ badOp o seen = true by unfold badOp; rw [ek, hr, hs]; simp [n0, n1, n2])
              clear hr hs
              go_upto_region 11 with (go_at_call 115; refine (lright_calls o.f1 HSo.out.1 w14).mono ?_; rw [HRi.out]; rintro e w15 ⟨rfl, hb⟩; have HB15 := Aside0.mk hb; have e0 := (hb.cell (World.block_lt_of_cell? w14 _ d0)).trans d0; have e1 := (hb.cell (World.block_lt_of_cell? w14 _ d1)).trans d1; have e2 := (hb.cell (World.block_lt_of_cell? w14 _ d2)).trans d2; have e3 := (hb.cell (World.block_lt_of_cell? w14 _ d3)).trans d3; have cg2 := (hb.cell (World.block_lt_of_cell? w14 _ cg)).trans cg; have hlk := seen_look (HS14.out.below hb) o.f1 (rightL_size HRi.out); rw [HSe.out] at hlk; clear hb d0 d1 d2 d3 cg)
              obtain ⟨w16, hup, hsn, hg⟩ := seen_put (HS14.out.below HB15.out) o.f1 (rightL_size HRi.out) HSl.out
              have HSp := Aside0.mk hsn
              have HBp := Aside0.mk ((HBw.out.trans (HB15.out.mono HBw.out.size)).grown hg (Nat.le_trans HBw.out.size HB15.out.size) (fun k hk => by have := Option.some.inj hk; omega))
              have g1 := hg.cell (a := ⟨gb, 1, none⟩) (v := .string o.f1) e1 HGn.out
              have g3 := hg.cell (a := ⟨gb, 3, none⟩) (v := .slice A3 o.f3.length c3) e3 HGn.out
              have cg3 := (HBp.out.cell (World.block_lt_of_cell? w _ HC2.out)).trans HC2.out
              clear hsn hg hlk
              have hn24 : o.f1.size ≤ 24 := rightL_size HRi.out
              by_cases hbig : 400000 < o.f3.length
              · have q4 : decide (400000 < (o.f3.length : Int)) = true := decide_eq_true (by omega)
                have q4' : decide (400000 < o.f3.length) = true := decide_eq_true hbig
                have HBg := Aside0.mk hbig
                clear hbig
                go_wp2
                go_ret
                rw [HEq.out, if_neg HGd.out, if_pos HBg.out]
                exact ⟨rfl, HBp.out⟩
              · have q4 : decide (400000 < (o.f3.length : Int)) = false := decide_eq_false (by omega)
                have q4' : decide (400000 < o.f3.length) = false := decide_eq_false hbig
                have HBg := Aside0.mk hbig
                have hb3 : o.f3.length ≤ 400000 := by omega
                clear hbig
                have HN := Aside0.mk (show CW w L (j + 1) (sz + (10 + o.f1.size + o.f3.length)) w16 from ⟨HBp.out, by rw [HTk.out]; exact HSp.out, by rw [HTk.out, ← HRR.out, HEq.out, if_neg HGd.out, if_neg HBg.out], by omega, by omega⟩)
                go_wp2
                exact ⟨⟨j + 1, _, by omega, by simp, by go_num, HN⟩, by simp [Go.RowKit.intOf]; omega⟩
        · rw [ek] at d0
          cases hr : rightL o.f1 with
          | false =>
            have HRi := Aside0.mk hr
            have HBd := Aside0.mk (show badOp o seen = true by unfold badOp; rw [ek, hr]; simp [])
            go_wp2_with (go_at_call 115; refine (lright_calls o.f1 HSo.out.1 w14).mono ?_; rw [HRi.out]; rintro e w15 ⟨rfl, hb⟩; have HB15 := Aside0.mk hb; have e0 := (hb.cell (World.block_lt_of_cell? w14 _ d0)).trans d0; have e1 := (hb.cell (World.block_lt_of_cell? w14 _ d1)).trans d1; have e2 := (hb.cell (World.block_lt_of_cell? w14 _ d2)).trans d2; have e3 := (hb.cell (World.block_lt_of_cell? w14 _ d3)).trans d3; have cg2 := (hb.cell (World.block_lt_of_cell? w14 _ cg)).trans cg; clear hb d0 d1 d2 d3 cg)
            go_ret
            rw [HEq.out, if_pos HBd.out]
            exact ⟨rfl, HBw.out.trans (HB15.out.mono HBw.out.size)⟩
          | true =>
            have HRi := Aside0.mk hr
            cases hs : seen.any (fun x => x.data.toList == o.f1.data.toList) with
            | true =>
              have HSe := Aside0.mk hs
              have HBd := Aside0.mk (show badOp o seen = true by unfold badOp; rw [ek, hr, hs]; simp [])
              go_wp2_with (go_at_call 115; refine (lright_calls o.f1 HSo.out.1 w14).mono ?_; rw [HRi.out]; rintro e w15 ⟨rfl, hb⟩; have HB15 := Aside0.mk hb; have e0 := (hb.cell (World.block_lt_of_cell? w14 _ d0)).trans d0; have e1 := (hb.cell (World.block_lt_of_cell? w14 _ d1)).trans d1; have e2 := (hb.cell (World.block_lt_of_cell? w14 _ d2)).trans d2; have e3 := (hb.cell (World.block_lt_of_cell? w14 _ d3)).trans d3; have cg2 := (hb.cell (World.block_lt_of_cell? w14 _ cg)).trans cg; have hlk := seen_look (HS14.out.below hb) o.f1 (rightL_size HRi.out); rw [HSe.out] at hlk; clear hb d0 d1 d2 d3 cg)
              go_ret
              rw [HEq.out, if_pos HBd.out]
              exact ⟨rfl, HBw.out.trans (HB15.out.mono HBw.out.size)⟩
            | false =>
              have HSe := Aside0.mk hs
              by_cases n0 : o.f2 < 0
              · have q0 : decide (o.f2 < 0) = true := decide_eq_true n0
                have HBd := Aside0.mk (show badOp o seen = true by unfold badOp; rw [ek, hr, hs]; simp [n0])
                go_wp2_with (go_at_call 115; refine (lright_calls o.f1 HSo.out.1 w14).mono ?_; rw [HRi.out]; rintro e w15 ⟨rfl, hb⟩; have HB15 := Aside0.mk hb; have e0 := (hb.cell (World.block_lt_of_cell? w14 _ d0)).trans d0; have e1 := (hb.cell (World.block_lt_of_cell? w14 _ d1)).trans d1; have e2 := (hb.cell (World.block_lt_of_cell? w14 _ d2)).trans d2; have e3 := (hb.cell (World.block_lt_of_cell? w14 _ d3)).trans d3; have cg2 := (hb.cell (World.block_lt_of_cell? w14 _ cg)).trans cg; have hlk := seen_look (HS14.out.below hb) o.f1 (rightL_size HRi.out); rw [HSe.out] at hlk; clear hb d0 d1 d2 d3 cg)
                go_ret
                rw [HEq.out, if_pos HBd.out]
                exact ⟨rfl, HBw.out.trans (HB15.out.mono HBw.out.size)⟩
              have q0 : decide (o.f2 < 0) = false := decide_eq_false n0
              by_cases n1 : 1073741824 < o.f2
              · have q1 : decide (1073741824 < o.f2) = true := decide_eq_true n1
                have HBd := Aside0.mk (show badOp o seen = true by unfold badOp; rw [ek, hr, hs]; simp [n0, n1])
                go_wp2_with (go_at_call 115; refine (lright_calls o.f1 HSo.out.1 w14).mono ?_; rw [HRi.out]; rintro e w15 ⟨rfl, hb⟩; have HB15 := Aside0.mk hb; have e0 := (hb.cell (World.block_lt_of_cell? w14 _ d0)).trans d0; have e1 := (hb.cell (World.block_lt_of_cell? w14 _ d1)).trans d1; have e2 := (hb.cell (World.block_lt_of_cell? w14 _ d2)).trans d2; have e3 := (hb.cell (World.block_lt_of_cell? w14 _ d3)).trans d3; have cg2 := (hb.cell (World.block_lt_of_cell? w14 _ cg)).trans cg; have hlk := seen_look (HS14.out.below hb) o.f1 (rightL_size HRi.out); rw [HSe.out] at hlk; clear hb d0 d1 d2 d3 cg)
                go_ret
                rw [HEq.out, if_pos HBd.out]
                exact ⟨rfl, HBw.out.trans (HB15.out.mono HBw.out.size)⟩
              have q1 : decide (1073741824 < o.f2) = false := decide_eq_false n1
              by_cases n2 : o.f2 = 0
              case neg =>
                have q2 : (o.f2 != 0) = true := bne_iff_ne.2 n2
                have HBd := Aside0.mk (show badOp o seen = true by unfold badOp; rw [ek, hr, hs]; simp [n0, n1, n2])
                go_wp2_with (go_at_call 115; refine (lright_calls o.f1 HSo.out.1 w14).mono ?_; rw [HRi.out]; rintro e w15 ⟨rfl, hb⟩; have HB15 := Aside0.mk hb; have e0 := (hb.cell (World.block_lt_of_cell? w14 _ d0)).trans d0; have e1 := (hb.cell (World.block_lt_of_cell? w14 _ d1)).trans d1; have e2 := (hb.cell (World.block_lt_of_cell? w14 _ d2)).trans d2; have e3 := (hb.cell (World.block_lt_of_cell? w14 _ d3)).trans d3; have cg2 := (hb.cell (World.block_lt_of_cell? w14 _ cg)).trans cg; have hlk := seen_look (HS14.out.below hb) o.f1 (rightL_size HRi.out); rw [HSe.out] at hlk; clear hb d0 d1 d2 d3 cg)
                go_ret
                rw [HEq.out, if_pos HBd.out]
                exact ⟨rfl, HBw.out.trans (HB15.out.mono HBw.out.size)⟩
              have q2 : (o.f2 != 0) = false := by rw [n2]; rfl
              by_cases n3 : 0 < o.f3.length
              · have q3 : decide (0 < (o.f3.length : Int)) = true := decide_eq_true (by omega)
                have q3' : decide (0 < o.f3.length) = true := decide_eq_true n3
                have HBd := Aside0.mk (show badOp o seen = true by unfold badOp; rw [ek, hr, hs]; simp [n0, n1, n2, n3])
                go_wp2_with (go_at_call 115; refine (lright_calls o.f1 HSo.out.1 w14).mono ?_; rw [HRi.out]; rintro e w15 ⟨rfl, hb⟩; have HB15 := Aside0.mk hb; have e0 := (hb.cell (World.block_lt_of_cell? w14 _ d0)).trans d0; have e1 := (hb.cell (World.block_lt_of_cell? w14 _ d1)).trans d1; have e2 := (hb.cell (World.block_lt_of_cell? w14 _ d2)).trans d2; have e3 := (hb.cell (World.block_lt_of_cell? w14 _ d3)).trans d3; have cg2 := (hb.cell (World.block_lt_of_cell? w14 _ cg)).trans cg; have hlk := seen_look (HS14.out.below hb) o.f1 (rightL_size HRi.out); rw [HSe.out] at hlk; clear hb d0 d1 d2 d3 cg)
                go_ret
                rw [HEq.out, if_pos HBd.out]
                exact ⟨rfl, HBw.out.trans (HB15.out.mono HBw.out.size)⟩
              have q3 : decide (0 < (o.f3.length : Int)) = false := decide_eq_false (by omega)
              have q3' : decide (0 < o.f3.length) = false := decide_eq_false n3
              have HGd := Aside0.mk (show ¬ badOp o seen = true by unfold badOp; rw [ek, hr, hs]; simp [n0, n1, n2, n3])
              clear hr hs
              go_upto_region 11 with (go_at_call 115; refine (lright_calls o.f1 HSo.out.1 w14).mono ?_; rw [HRi.out]; rintro e w15 ⟨rfl, hb⟩; have HB15 := Aside0.mk hb; have e0 := (hb.cell (World.block_lt_of_cell? w14 _ d0)).trans d0; have e1 := (hb.cell (World.block_lt_of_cell? w14 _ d1)).trans d1; have e2 := (hb.cell (World.block_lt_of_cell? w14 _ d2)).trans d2; have e3 := (hb.cell (World.block_lt_of_cell? w14 _ d3)).trans d3; have cg2 := (hb.cell (World.block_lt_of_cell? w14 _ cg)).trans cg; have hlk := seen_look (HS14.out.below hb) o.f1 (rightL_size HRi.out); rw [HSe.out] at hlk; clear hb d0 d1 d2 d3 cg)
              obtain ⟨w16, hup, hsn, hg⟩ := seen_put (HS14.out.below HB15.out) o.f1 (rightL_size HRi.out) HSl.out
              have HSp := Aside0.mk hsn
              have HBp := Aside0.mk ((HBw.out.trans (HB15.out.mono HBw.out.size)).grown hg (Nat.le_trans HBw.out.size HB15.out.size) (fun k hk => by have := Option.some.inj hk; omega))
              have g1 := hg.cell (a := ⟨gb, 1, none⟩) (v := .string o.f1) e1 HGn.out
              have g3 := hg.cell (a := ⟨gb, 3, none⟩) (v := .slice A3 o.f3.length c3) e3 HGn.out
              have cg3 := (HBp.out.cell (World.block_lt_of_cell? w _ HC2.out)).trans HC2.out
              clear hsn hg hlk
              have hn24 : o.f1.size ≤ 24 := rightL_size HRi.out
              by_cases hbig : 400000 < o.f3.length
              · have q4 : decide (400000 < (o.f3.length : Int)) = true := decide_eq_true (by omega)
                have q4' : decide (400000 < o.f3.length) = true := decide_eq_true hbig
                have HBg := Aside0.mk hbig
                clear hbig
                go_wp2
                go_ret
                rw [HEq.out, if_neg HGd.out, if_pos HBg.out]
                exact ⟨rfl, HBp.out⟩
              · have q4 : decide (400000 < (o.f3.length : Int)) = false := decide_eq_false (by omega)
                have q4' : decide (400000 < o.f3.length) = false := decide_eq_false hbig
                have HBg := Aside0.mk hbig
                have hb3 : o.f3.length ≤ 400000 := by omega
                clear hbig
                have HN := Aside0.mk (show CW w L (j + 1) (sz + (10 + o.f1.size + o.f3.length)) w16 from ⟨HBp.out, by rw [HTk.out]; exact HSp.out, by rw [HTk.out, ← HRR.out, HEq.out, if_neg HGd.out, if_neg HBg.out], by omega, by omega⟩)
                go_wp2
                exact ⟨⟨j + 1, _, by omega, by simp, by go_num, HN⟩, by simp [Go.RowKit.intOf]; omega⟩
      · have ek : o.f0 ≠ 1 ∧ o.f0 ≠ 2 ∧ o.f0 ≠ 3 := by omega
        have k1 : (o.f0 == 1) = false := beq_eq_false_iff_ne.2 ek.1
        have k2 : (o.f0 == 2) = false := beq_eq_false_iff_ne.2 ek.2.1
        have k3 : (o.f0 == 3) = false := beq_eq_false_iff_ne.2 ek.2.2
        have HBd := Aside0.mk (show badOp o seen = true by unfold badOp; simp [k1, k2, k3])
        go_wp2
        go_ret
        rw [HEq.out, if_pos HBd.out]
        exact ⟨rfl, HBw.out⟩
    · have t3 : decide (j < L.length) = false := decide_eq_false hlt
      have t3' : decide ((j : Int) < (L.length : Int)) = false := decide_eq_false (by omega)
      have cg := (HA.out.bel.cell (World.block_lt_of_cell? w _ HC2.out)).trans HC2.out
      have HE := Aside0.mk (show R = if 400000 < sz then some 2 else none by rw [HRR.out, HA.out.eq, List.drop_eq_nil_of_le (by omega)]; rfl)
      by_cases hbig : 400000 < sz
      · have q4 : decide (400000 < sz) = true := decide_eq_true hbig
        have HBg := Aside0.mk hbig
        go_wp2
        go_ret
        rw [HE.out, if_pos HBg.out]
        exact ⟨rfl, HA.out.bel⟩
      · have q4 : decide (400000 < sz) = false := decide_eq_false hbig
        have HBg := Aside0.mk hbig
        go_wp2
        go_ret
        rw [HE.out, if_neg (by have := HBg.out; omega)]
        exact ⟨rfl, HA.out.bel⟩
end Go.Proofs.YtpcfnkmljchiiaaGreatDoor.OChk
end
section
/- Written by a program of mine (wip/tools/mkprint.py turns the kit's print; given contracts by hand). Lean checks it. -/
namespace Go.Proofs.YtpcfnkmljchiiaaGreatDoor.GSix
open Go.RowKit Go.Proofs.YtpcfnkmljchiiaaGreatDoorW.PrintWords Go.Proofs.YtpcfnkmljchiiaaGreatDoorW.PrintLast Go.Proofs.YtpcfnkmljchiiaaGreatDoorW.PrintMore
attribute [local go_sem] max2_int min2_int max_two min_two max_three min_three max_four min_four   -- for this text's walks alone

/-! ### postbagref06_four: function 79 -/
def postbagref06_four.f (a0 : Int) : Option (List Int) := some (([(a0 / 16777216) % 256, (a0 / 65536) % 256, (a0 / 256) % 256, (a0) % 256] : List Int))
set_option maxHeartbeats 8000000 in
set_option maxRecDepth 100000 in
theorem postbagref06_four.calls (a0 : Int) (r : List Int) (w : World) (h : postbagref06_four.f a0 = some r) :
    Calls Tryz.prog 79 #[.int .i64 a0] w fun e w' => ∃ v0_ : Value, e = .returned (v0_) ∧ Kd.R (Kd.int .u8) 5 w' w.heap.size (fun _ => True) v0_ r ∧ Below w.heap.size w w' := by
  have HB := Aside0.mk (Below.refl w.heap.size w)
  have H : (some (([(a0 / 16777216) % 256, (a0 / 65536) % 256, (a0 / 256) % 256, (a0) % 256] : List Int))) = some r := h
  clear h
  obtain ⟨y107, hy107⟩ : ∃ y_ : List Int, y_ = (([(a0 / 16777216) % 256, (a0 / 65536) % 256, (a0 / 256) % 256, (a0) % 256] : List Int)) := ⟨_, rfl⟩
  replace H : (some y107) = some r := by first | (rw [hy107]; with_reducible exact H) | (have H2_ := (Option.bind_some _ _).symm.trans H; rw [hy107]; with_reducible exact H2_) | (have H2_ := (Option.bind_some _ _).symm.trans H; with_reducible exact H2_) | with_reducible exact H | (rw [hy107]; exact H) | exact H
  have Ny107 := Aside0.mk hy107
  clear hy107
  obtain rfl := Option.some.inj H
  go_enter Tryz.func79, Tryz.ntmps79
  go_wp2_with (first | ((with_reducible refine gate_dst (N := 14) rfl ?_); refine Kd.R_lit (Kd.int .u8) _ 5 ?hg (N := 14) ?hd (xs := ([(a0 / 16777216) % 256, (a0 / 65536) % 256, (a0 / 256) % 256, (a0) % 256] : List Int)) (inner := [.int .u8 ((a0 / 16777216) % 256), .int .u8 ((a0 / 65536) % 256), .int .u8 ((a0 / 256) % 256), .int .u8 ((a0) % 256)]) (ok := fun _ => True) (okp := fun _ => True) ?hr ?hp (fun _ hk => hk) trivial (Below.refl _ _) (Nat.le_refl _) (by simp) ?_; (case hd => rfl); (case hg => rfl); (case hr => first | (go_simp; done) | (go_simp; rfl)); (case hp => exact (Reps.one (show Kd.M (Kd.int .u8) _ _ _ ((a0 / 16777216) % 256) [.int .u8 ((a0 / 16777216) % 256)] from rfl) (Reps.one (show Kd.M (Kd.int .u8) _ _ _ ((a0 / 65536) % 256) [.int .u8 ((a0 / 65536) % 256)] from rfl) (Reps.one (show Kd.M (Kd.int .u8) _ _ _ ((a0 / 256) % 256) [.int .u8 ((a0 / 256) % 256)] from rfl) (Reps.one (show Kd.M (Kd.int .u8) _ _ _ ((a0) % 256) [.int .u8 ((a0) % 256)] from rfl) (Reps.none _ _)))))); intro v108 w2 ho3 hb hg_ hnew_; clear hg_ hnew_; (first | rw [← Ny107.out] at ho3 | (simp only [Int.reduceToNat] at ho3; rw [← Ny107.out] at ho3)); have n0_ := Aside0.mk (Kd.R_lower ho3 (below_size (by repeat (first | (with_reducible first | exact HB.out | apply below_alloc | apply pw_below_drewN | apply below_drew1) | exact HB.out | exact Below.refl _ _)))); have n1_ := Aside0.mk (below_step (by repeat (first | (with_reducible first | exact HB.out | apply below_alloc | apply pw_below_drewN | apply below_drew1) | exact HB.out | exact Below.refl _ _)) hb); clear HB; have HO109 := n0_; have HB := n1_; clear n0_ n1_; clear hb ho3))
  go_ret
  exact ⟨_, by first | rfl | (simp [errW_none, errW_some] <;> rfl) | (simp [*, errW_none, errW_some] <;> rfl), by (with_reducible repeat (first | apply Kd.R_alloc | apply Kd.R_drewN | apply Kd.R_drew)); exact HO109.out, by repeat (first | (with_reducible first | exact HB.out | apply below_alloc | apply pw_below_drewN | apply below_drew1) | exact HB.out | exact Below.refl _ _)⟩

/-! ### redo_four: function 73 -/
def redo_four.f (a0 : Int) : Option (List Int) := some (([(a0 / 16777216) % 256, (a0 / 65536) % 256, (a0 / 256) % 256, (a0) % 256] : List Int))
set_option maxHeartbeats 8000000 in
set_option maxRecDepth 100000 in
theorem redo_four.calls (a0 : Int) (r : List Int) (w : World) (h : redo_four.f a0 = some r) :
    Calls Tryz.prog 73 #[.int .i64 a0] w fun e w' => ∃ v0_ : Value, e = .returned (v0_) ∧ Kd.R (Kd.int .u8) 5 w' w.heap.size (fun _ => True) v0_ r ∧ Below w.heap.size w w' := by
  have HB := Aside0.mk (Below.refl w.heap.size w)
  have H : (some (([(a0 / 16777216) % 256, (a0 / 65536) % 256, (a0 / 256) % 256, (a0) % 256] : List Int))) = some r := h
  clear h
  obtain ⟨y110, hy110⟩ : ∃ y_ : List Int, y_ = (([(a0 / 16777216) % 256, (a0 / 65536) % 256, (a0 / 256) % 256, (a0) % 256] : List Int)) := ⟨_, rfl⟩
  replace H : (some y110) = some r := by first | (rw [hy110]; with_reducible exact H) | (have H2_ := (Option.bind_some _ _).symm.trans H; rw [hy110]; with_reducible exact H2_) | (have H2_ := (Option.bind_some _ _).symm.trans H; with_reducible exact H2_) | with_reducible exact H | (rw [hy110]; exact H) | exact H
  have Ny110 := Aside0.mk hy110
  clear hy110
  obtain rfl := Option.some.inj H
  go_enter Tryz.func73, Tryz.ntmps73
  go_wp2_with (first | ((with_reducible refine gate_dst (N := 14) rfl ?_); refine Kd.R_lit (Kd.int .u8) _ 5 ?hg (N := 14) ?hd (xs := ([(a0 / 16777216) % 256, (a0 / 65536) % 256, (a0 / 256) % 256, (a0) % 256] : List Int)) (inner := [.int .u8 ((a0 / 16777216) % 256), .int .u8 ((a0 / 65536) % 256), .int .u8 ((a0 / 256) % 256), .int .u8 ((a0) % 256)]) (ok := fun _ => True) (okp := fun _ => True) ?hr ?hp (fun _ hk => hk) trivial (Below.refl _ _) (Nat.le_refl _) (by simp) ?_; (case hd => rfl); (case hg => rfl); (case hr => first | (go_simp; done) | (go_simp; rfl)); (case hp => exact (Reps.one (show Kd.M (Kd.int .u8) _ _ _ ((a0 / 16777216) % 256) [.int .u8 ((a0 / 16777216) % 256)] from rfl) (Reps.one (show Kd.M (Kd.int .u8) _ _ _ ((a0 / 65536) % 256) [.int .u8 ((a0 / 65536) % 256)] from rfl) (Reps.one (show Kd.M (Kd.int .u8) _ _ _ ((a0 / 256) % 256) [.int .u8 ((a0 / 256) % 256)] from rfl) (Reps.one (show Kd.M (Kd.int .u8) _ _ _ ((a0) % 256) [.int .u8 ((a0) % 256)] from rfl) (Reps.none _ _)))))); intro v111 w2 ho3 hb hg_ hnew_; clear hg_ hnew_; (first | rw [← Ny110.out] at ho3 | (simp only [Int.reduceToNat] at ho3; rw [← Ny110.out] at ho3)); have n0_ := Aside0.mk (Kd.R_lower ho3 (below_size (by repeat (first | (with_reducible first | exact HB.out | apply below_alloc | apply pw_below_drewN | apply below_drew1) | exact HB.out | exact Below.refl _ _)))); have n1_ := Aside0.mk (below_step (by repeat (first | (with_reducible first | exact HB.out | apply below_alloc | apply pw_below_drewN | apply below_drew1) | exact HB.out | exact Below.refl _ _)) hb); clear HB; have HO112 := n0_; have HB := n1_; clear n0_ n1_; clear hb ho3))
  go_ret
  exact ⟨_, by first | rfl | (simp [errW_none, errW_some] <;> rfl) | (simp [*, errW_none, errW_some] <;> rfl), by (with_reducible repeat (first | apply Kd.R_alloc | apply Kd.R_drewN | apply Kd.R_drew)); exact HO112.out, by repeat (first | (with_reducible first | exact HB.out | apply below_alloc | apply pw_below_drewN | apply below_drew1) | exact HB.out | exact Below.refl _ _)⟩

end Go.Proofs.YtpcfnkmljchiiaaGreatDoor.GSix
end
section
/- Written by a program of mine (wip/tools/mkprint.py turns the kit's print; given contracts by hand). Lean checks it. -/
namespace Go.Proofs.YtpcfnkmljchiiaaGreatDoor.GChk
open Go.RowKit Go.Proofs.YtpcfnkmljchiiaaGreatDoorW.PrintWords Go.Proofs.YtpcfnkmljchiiaaGreatDoorW.PrintLast Go.Proofs.YtpcfnkmljchiiaaGreatDoorW.PrintMore
attribute [local go_sem] max2_int min2_int max_two min_two max_three min_three max_four min_four   -- for this text's walks alone



def errW : Option Int → Value
  | none => .nilIface
  | some c => .iface 0 (.int .i64 c)
theorem errW_none : errW none = .nilIface := rfl
theorem errW_some (c : Int) : errW (some c) = .iface 0 (.int .i64 c) := rfl

theorem info5 : (Tryz.prog.info? 5).map (fun i => (i.zero, i.size, i.bytes)) = some (some (.int .u8 0), 1, 1) := by kernel_rfl
end Go.Proofs.YtpcfnkmljchiiaaGreatDoor.GChk
end
