/- RedoBytes, for every input: it answers true. -/
import Derived.Test.YtpcfnkmljchiiaaGreatDoorCards
import Derived.Test.YtpcfnkmljchiiaaGreatDoorTie
import Derived.Test.YtpcfnkmljchiiaaGreatDoorZ42
import Derived.Test.YtpcfnkmljchiiaaGreatDoorZ05
import Derived.WalkKit
import Derived.ProofKit
import Derived.OpenShut
import Derived.ShutString
import Derived.ChangeOld
import Derived.Below
import Derived.SizedLaws
import Derived.Lay
import Derived.LaidMore
import Derived.SevenTiedAt
import Derived.Stop.Joined
import Derived.Shelf.Vars
set_option linter.unusedVariables false
set_option linter.unusedSimpArgs false
namespace Go.Proofs.YtpcfnkmljchiiaaGreatDoor.redoBytes
open Go.ChangeShapes Go.WideShapes Go.ChangeAt Go.RowKit
open Go.ChangeMaps (open_string shut_string)
open Go.Proofs.YtpcfnkmljchiiaaGreatDoorW.PrintWords Go.Proofs.YtpcfnkmljchiiaaGreatDoor.OLb Go.Proofs.YtpcfnkmljchiiaaGreatDoor.DRow Go.Proofs.YtpcfnkmljchiiaaGreatDoor.ORow
theorem own : ownKnob Tryz.prog.godebug = none := by kernel_rfl
theorem laidOut : laidOutB Tryz.prog = true := by kernel_rfl
theorem laid_plain {W : World} (h : laidMetH Tryz.prog Rows.redoBytesRow.laid W) : laidMet Tryz.prog Rows.redoBytesRow.laid W := by
  unfold laidMetH at h
  rw [show (Rows.redoBytesRow.laid.filter fun x => x.2.handleName?.isSome) = [] by kernel_rfl] at h
  exact h
/-- The wrap that keeps what the row lists and the world's shape. -/
theorem wrap_and {H : Type} {enc : TypeId × Value → H} {a : Assume} {C : Checked} {os : Os} {f : FuncId} {fn : Func} {s : ChangeSpec} {conds : List PathCond} {apart fresh handsOn again : Bool} {X : World → Array Value → Prop}
    (hX : ∀ (w w' : World) (args : Array Value), w.heap = w'.heap → X w args → X w' args)
    (own : ownKnob C.prog.godebug = none) (started : os.Started) (noInit : C.prog.inits.idxOf? f = none) (hfn : C.prog.funcs[f]? = some fn)
    (witness : ∃ (w : World) (tape : Tape) (i : Input), w.os = os ∧ (w.forCall tape i).Shaped C.prog ∧ i.vars = [] ∧ Input.okWide C.prog (w.forCall tape i) .any w.heap.size f i ∧
      ((s.pre enc C.prog fn conds apart (w.forCall tape i).memory i.args ∧ X (w.forCall tape i).memory i.args) ∧ sizedMet enc C.prog fn (OpenSpec.ofChange s) apart (w.forCall tape i).memory i.args) ∧ a.holds C.prog (lone (Frame.enter C.prog f i.args .normal) [] (w.forCall tape i)))
    (contract : ∀ (W : World) (base : Nat) (args : Array Value) (ds gs : List (DataW H)) (before : List MemPlace),
      (∀ (j : Nat) t v, fn.params[j]? = some t → args[j]? = some v → Value.okWide C.prog W .any base t v) →
      DataW.Whole enc C.prog fn.params.toList s.vars apart W args.toList ds gs before →
      (DataW.weightsEach C.prog (fn.params.toList ++ s.plain.varTypes C.prog) (ds ++ gs)).all (· ≤ reachBytes) = true → X W args → W.ShapedOpen C.prog →
      Calls C.prog f args W fun e W' => ∃ v, e = .returned v ∧ s.post enc C.prog fn apart fresh handsOn again W args v W') :
    ReturnsInHanded a C os f .any (fun w args => (s.pre enc C.prog fn conds apart w args ∧ X w args) ∧ sizedMet enc C.prog fn (OpenSpec.ofChange s) apart w args) (s.post enc C.prog fn apart fresh handsOn again) := by
  refine returnsInHanded_of_calls own started noInit witness ?_
  intro w tape i _ hsh _ hok hpre _
  obtain ⟨_, _, _, fn', hfn', _, _, _, _, hval⟩ := hok
  obtain rfl : fn' = fn := Option.some.inj (hfn'.symm.trans hfn)
  obtain ⟨⟨⟨ds, gs, before, hw, hc⟩, hx⟩, hz⟩ := hpre
  refine (contract (w.forCall tape i) w.heap.size i.args ds gs before hval (DataW.Whole.of_heap (w' := w.forCall tape i) (by rfl) hw) (hz.weights hw) (hX _ _ _ (by rfl) hx) hsh).mono fun e W' ⟨v, he, hp⟩ => ?_
  subst he
  exact ChangeSpec.post_blind hp
def posOf (c : Int) : Nat := if c = 1 then 0 else if c = 2 then 1 else if c = 3 then 2 else if c = 4 then 3 else if c = 5 then 4 else if c = 6 then 5 else if c = 7 then 6 else if c = 8 then 7 else if c = 9 then 8 else if c = 10 then 9 else if c = 11 then 10 else if c = 12 then 11 else if c = 13 then 12 else 0
def nameOf (c : Int) : String := if c = 1 then "postbag/api.ErrRange" else if c = 2 then "postbag/api.ErrForm" else if c = 3 then "postbag/api.ErrLong" else if c = 4 then "postbag/api.ErrName" else if c = 5 then "postbag/api.ErrNone" else if c = 6 then "postbag/api.ErrExists" else if c = 7 then "postbag/api.ErrQuota" else if c = 8 then "postbag/api.ErrPower" else if c = 9 then "postbag/api.ErrState" else if c = 10 then "postbag/api.ErrSum" else if c = 11 then "postbag/api.ErrFull" else if c = 12 then "postbag/api.ErrDepth" else if c = 13 then "postbag/api.ErrUser" else ""
def textOf (c : Int) : List UInt8 := if c = 1 then [112, 111, 115, 116, 98, 97, 103, 58, 32, 114, 97, 110, 103, 101] else if c = 2 then [112, 111, 115, 116, 98, 97, 103, 58, 32, 102, 111, 114, 109] else if c = 3 then [112, 111, 115, 116, 98, 97, 103, 58, 32, 108, 111, 110, 103] else if c = 4 then [112, 111, 115, 116, 98, 97, 103, 58, 32, 110, 97, 109, 101] else if c = 5 then [112, 111, 115, 116, 98, 97, 103, 58, 32, 110, 111, 110, 101] else if c = 6 then [112, 111, 115, 116, 98, 97, 103, 58, 32, 101, 120, 105, 115, 116, 115] else if c = 7 then [112, 111, 115, 116, 98, 97, 103, 58, 32, 113, 117, 111, 116, 97] else if c = 8 then [112, 111, 115, 116, 98, 97, 103, 58, 32, 112, 111, 119, 101, 114] else if c = 9 then [112, 111, 115, 116, 98, 97, 103, 58, 32, 115, 116, 97, 116, 101] else if c = 10 then [112, 111, 115, 116, 98, 97, 103, 58, 32, 115, 117, 109] else if c = 11 then [112, 111, 115, 116, 98, 97, 103, 58, 32, 102, 117, 108, 108] else if c = 12 then [112, 111, 115, 116, 98, 97, 103, 58, 32, 100, 101, 112, 116, 104] else if c = 13 then [112, 111, 115, 116, 98, 97, 103, 58, 32, 117, 115, 101, 114] else []
theorem each_of (c : Int) (hc : Is.All c) : c = 1 ∨ c = 2 ∨ c = 3 ∨ c = 4 ∨ c = 5 ∨ c = 6 ∨ c = 7 ∨ c = 8 ∨ c = 9 ∨ c = 10 ∨ c = 11 ∨ c = 12 ∨ c = 13 := by
  have h1 := hc.1; have h2 := hc.2; omega
theorem sentinels {W : World} (h : laidMetH Tryz.prog Rows.redoBytesRow.laid W) : ∃ E : Int → Addr, Is.Errs Is.All W E := by
  refine Is.errs_of_laid (laid_plain h) _ posOf nameOf textOf (fun c hc => ?_) (fun c hc => ?_) (fun c d hc hd e => ?_)
  · rcases each_of c hc with rfl|rfl|rfl|rfl|rfl|rfl|rfl|rfl|rfl|rfl|rfl|rfl|rfl <;> rfl
  · rcases each_of c hc with rfl|rfl|rfl|rfl|rfl|rfl|rfl|rfl|rfl|rfl|rfl|rfl|rfl <;> exact ⟨by kernel_rfl, by kernel_rfl⟩
  · rcases each_of c hc with rfl|rfl|rfl|rfl|rfl|rfl|rfl|rfl|rfl|rfl|rfl|rfl|rfl <;> rcases each_of d hd with rfl|rfl|rfl|rfl|rfl|rfl|rfl|rfl|rfl|rfl|rfl|rfl|rfl <;> first | rfl | exact absurd e (by decide)

set_option maxRecDepth 100000 in
theorem lifted (os : Os) (started : os.Started) (H : Type) (enc : TypeId × Value → H) :
    ReturnsInHanded {} Tryz.checked os 4 .any (fun w args => (Rows.redoBytesSpec.pre enc Tryz.prog Tryz.f4 [] false w args ∧ laidMetH Tryz.prog Rows.redoBytesRow.laid w) ∧ sizedMet enc Tryz.prog Tryz.f4 (OpenSpec.ofChange Rows.redoBytesSpec) false w args)
      (Rows.redoBytesSpec.post enc Tryz.prog Tryz.f4 false true false false) := by
  refine wrap_and (C := Tryz.checked) (X := fun w _ => laidMetH Tryz.prog Rows.redoBytesRow.laid w) (fun _ _ _ hh h => h.of_heap hh) own started (by kernel_rfl) Tryz.func4
    (ChangeSpec.witness_shaped (enc := enc) (C := Tryz.checked) (os := os) (X := fun w _ => laidMetH Tryz.prog Rows.redoBytesRow.laid w) false (World.laidAll Tryz.prog os Rows.redoBytesRow.laid) #[.slice none 0 0] 8 (World.laidAll_os _ _ _)
      (World.shaped_of_ZipB (by kernel_rfl) (by kernel_rfl)) (by kernel_rfl) (by kernel_rfl) (by kernel_rfl)
      (by rw [MakeChecks.laidMetH_plain _ _ _ (by kernel_rfl)]; exact laidMet_laidAll _ (by kernel_rfl) (by kernel_rfl))) ?_
  intro W base args ds gs before hval0 hW hsz0 hL hsh
  have hsz : (DataW.weightsEach Tryz.prog (Tryz.f4.params.toList ++ Rows.redoBytesSpec.plain.varTypes Tryz.prog) (ds ++ gs)).all (· ≤ reachBytes) = true := hsz0
  have hval : ∀ (j : Nat) t v, Tryz.f4.params[j]? = some t → args[j]? = some v → Value.okWide Tryz.prog W .any base t v := hval0
  have hW' := hW
  obtain ⟨p, q, hA0, hV, rfl, hfz, hnd⟩ := hW
  have hA : DataW.TrodAll enc Tryz.prog W 0 (fun _ => true) true Tryz.f4.params.toList args.toList ds p := hA0
  rw [Tryz.params4] at hA hval hsz
  obtain ⟨v0, vs0, d0, ds0, p0, q0, hargs, rfl, rfl, h0, r0⟩ := trodAll_cons hA
  obtain ⟨rfl, rfl, rfl⟩ := trodAll_nil r0
  obtain rfl : args = #[v0] := by cases args; simp_all
  obtain ⟨rfl, rfl⟩ := trodVars_none hV
  have k0 := h0
  have lt0 : ∀ x ∈ p0, x.block < W.heap.size := by obtain ⟨m, hm⟩ := k0; exact DataW.trod_lt m _ _ _ hm
  obtain ⟨A0, len0, cap0, rfl⟩ := okWide_slice Tryz.underlying54 (hval 0 54 v0 rfl rfl)
  obtain ⟨fuel0, hf0⟩ := h0
  simp only [Value.cells] at hf0
  obtain ⟨l0, rfl, hr0, hc0, hm0, hq0⟩ := open_rops (j := 0) hsz rfl rfl hf0
  clear hA0 hval0 hsz0 hsz
  obtain ⟨E, hE⟩ := sentinels hL
  refine (OLb.bytes_law l0 A0 cap0 E W hE hr0 hc0 hm0 hq0).mono fun e W' ⟨he, bel⟩ => ?_
  subst he
  exact ⟨_, rfl, _, _, _, [], _, [], hW', trodAll_mk1 (shut_bool Tryz.underlying4 _), (trodAll_cons_mk (Below.trod laidOut (by kernel_rfl) (of_decide_eq_true (by kernel_rfl)) k0 bel lt0) trodAll_mk0), rfl, bel.frame _, fun h => by cases h⟩
theorem over : Rows.redoBytesRow.holds Tryz.pinned (OpenSpec.ofChange Rows.redoBytesSpec) :=
  OpenClaim.holds_of_wide 4 Tryz.f4 rfl rfl rfl rfl rfl rfl rfl ⟨rfl, rfl, rfl, rfl, rfl⟩ rfl rfl rfl rfl rfl (by kernel_rfl) Tryz.func4 (by kernel_rfl)
    (of_decide_eq_true (by kernel_rfl)) (by unfold Func.isWrapper; first | (rw [if_pos (by decide +kernel)]; kernel_rfl) | (rw [if_neg (by decide +kernel)]; exact ⟨rfl, rfl⟩))
    (fun os started H enc _ => lifted os started H enc)
theorem card : Rows.RedoBytesCardSaid :=
  Claim7.holds_tied_plain_at .later [] [.sentinel, .sentinel, .sentinel, .sentinel, .sentinel, .sentinel, .sentinel, .sentinel, .sentinel, .sentinel, .sentinel, .sentinel, .sentinel] true (true, "6f459c8cae83aed036df1daef5f4dc6dbb733ad49a497ff696ae2be983f944ec") true
    over (fun _ h => by cases h) (by kernel_rfl) (fun _ h => by cases h) redoBytes_row_tie rfl ⟨rfl, rfl⟩ (by kernel_rfl) rfl
    (fun f fn hf hfn => by
      obtain rfl : f = 4 := Option.some.inj ((show Tryz.prog.funcNamed "postbag/postbaglaw06.RedoBytes" = some 4 by kernel_rfl).symm.trans hf) |>.symm
      obtain rfl : fn = Tryz.f4 := (Option.some.inj (Tryz.func4.symm.trans hfn)).symm
      exact ⟨by kernel_rfl, fun j t ht => by
        rw [Tryz.params4] at ht
        have hm : t ∈ [54] := by simpa using Array.mem_of_getElem? ht
        have hall : ([54].all fun u => !Tryz.prog.wantsStandIn u) = true := by kernel_rfl
        exact (show Tryz.prog.wantsStandIn t = false by simpa using List.all_eq_true.1 hall t hm)⟩)
    (by kernel_rfl)
#print axioms card
end Go.Proofs.YtpcfnkmljchiiaaGreatDoor.redoBytes
namespace Go.Proofs.YtpcfnkmljchiiaaGreatDoor
/-- The card, under a short name, for the claim. -/
theorem redoBytes_holds : Rows.RedoBytesCardSaid := redoBytes.card
end Go.Proofs.YtpcfnkmljchiiaaGreatDoor
