/- errors.Is by its contracts, at the package's sentinels; the sentinels as the row lists them; the number of an error. -/
import Derived.Test.YtpcfnkmljchiiaaDoorProg
import Derived.Test.YtpcfnkmljchiiaaDoorWMore
import Derived.WalkKit
import Derived.LaidEql
import Derived.Stop.Asserts
import Derived.Stop.LaidErr
import Derived.RowKitTokens
import Derived.Below
import Derived.WalkSpells
import Derived.OwnWalkIn
namespace Go.Proofs.YtpcfnkmljchiiaaDoor.Is
open Go.RowKit Go.Extern.Stop Go.Stop Go.Extern
open Go.Proofs.YtpcfnkmljchiiaaDoorW.PrintWords
set_option linter.unusedVariables false
set_option linter.unusedSimpArgs false
theorem isTypeOf (v : Value) (w : World) : (Extern.ReflectliteType.typeOf #[.iface 135 v]).run Tryd.prog w = .ok (.iface 122 (.agg #[.pointer (some ⟨13, 135, none⟩)])) w := by kernel_rfl
theorem isComparable (w : World) : ((Extern.ReflectliteType.method fun t => do Rtype.noPackHeld "Comparable" t; (fun a => Value.bool a.comparable) <$> typeInfo t) #[.agg #[.pointer (some ⟨13, 135, none⟩)]]).run Tryd.prog w = .ok (.bool true) w := by kernel_rfl
theorem isMethodComparable (v : Value) (w : World) : (Go.method 270 122 v "Comparable").run Tryd.prog w = .ok (101, v) w := by kernel_rfl
theorem isComp : (Tryd.prog.info? 135).map (·.comparable) = some true := by kernel_rfl
theorem isSize : (Tryd.prog.info? 159).map (·.size) = some 1 := by kernel_rfl
theorem noIsE (v : Value) (xT : TypeId) (w : World) : (Instr.typeAssert (.iface 135 v) xT 124 true).run Tryd.prog w = .ok (.tuple #[.nilIface, .bool false]) w := run_typeAssert_lacksB Tryd.underlying124 (by kernel_rfl) (by kernel_rfl) v xT w
theorem noUnwrapE (v : Value) (xT : TypeId) (w : World) : (Instr.typeAssert (.iface 135 v) xT 127 true).run Tryd.prog w = .ok (.tuple #[.nilIface, .bool false]) w := run_typeAssert_lacksB Tryd.underlying127 (by kernel_rfl) (by kernel_rfl) v xT w
theorem noUnwrapsE (v : Value) (xT : TypeId) (w : World) : (Instr.typeAssert (.iface 135 v) xT 128 true).run Tryd.prog w = .ok (.tuple #[.nilIface, .bool false]) w := run_typeAssert_lacksB Tryd.underlying128 (by kernel_rfl) (by kernel_rfl) v xT w
/-- errors.Is(x, x), x a pointer to an errors.errorString. -/
theorem is_same (a : Addr) (w : World) :
    Calls Tryd.prog 32 #[.iface 135 (.pointer (some a)), .iface 135 (.pointer (some a))] w fun e w' => e = .returned (.bool true) ∧ w' = w := by
  obtain ⟨i, hi, hcmp⟩ := Option.map_eq_some_iff.1 isComp
  obtain ⟨j, hj, hjs⟩ := Option.map_eq_some_iff.1 isSize
  have h8 := @run_callFunc_extern Tryd.prog 68 _ Extern.ReflectliteType.typeOf Tryd.func68 (by kernel_rfl) (by kernel_rfl) (by kernel_rfl) (by kernel_rfl)
  have h32 := @run_callFunc_extern Tryd.prog 101 _ (Extern.ReflectliteType.method fun t => do Rtype.noPackHeld "Comparable" t; pure (.bool (← typeInfo t).comparable)) Tryd.func101 (by kernel_rfl) (by kernel_rfl) (by kernel_rfl) (by kernel_rfl)
  have tT := isTypeOf
  have cT := isComparable
  have mR := isMethodComparable
  have heq := run_eql_iface_ptr_same (P := Tryd.prog) w a Tryd.underlying25 Tryd.underlying135 hi hcmp hj
  go_enter Tryd.func32, Tryd.ntmps32
  go_wp2
  refine wp_loop_rounds 1 ?_
  rw [rounds_succ]
  go_wp2
  go_ret
  exact ⟨rfl, rfl⟩
/-- errors.Is(x, y), two different pointers to errors.errorString: false. -/
theorem is_other (a b : Addr) (ca cb : Array Value) (ta tb : TypeId) (w : World) (hne : a ≠ b) (ha : w.heap[a.block]? = some (.cells ca ta (0, 0))) (hb : w.heap[b.block]? = some (.cells cb tb (0, 0))) :
    Calls Tryd.prog 32 #[.iface 135 (.pointer (some a)), .iface 135 (.pointer (some b))] w fun e w' => e = .returned (.bool false) ∧ w' = w := by
  obtain ⟨i, hi, hcmp⟩ := Option.map_eq_some_iff.1 isComp
  obtain ⟨j, hj, hjs⟩ := Option.map_eq_some_iff.1 isSize
  have h8 := @run_callFunc_extern Tryd.prog 68 _ Extern.ReflectliteType.typeOf Tryd.func68 (by kernel_rfl) (by kernel_rfl) (by kernel_rfl) (by kernel_rfl)
  have h32 := @run_callFunc_extern Tryd.prog 101 _ (Extern.ReflectliteType.method fun t => do Rtype.noPackHeld "Comparable" t; pure (.bool (← typeInfo t).comparable)) Tryd.func101 (by kernel_rfl) (by kernel_rfl) (by kernel_rfl) (by kernel_rfl)
  have tT := isTypeOf
  have cT := isComparable
  have mR := isMethodComparable
  have nE := noIsE
  have uE := noUnwrapE
  have vE := noUnwrapsE
  have heq := run_eql_iface_ptr_other (P := Tryd.prog) w Tryd.underlying25 Tryd.underlying135 hi hcmp hj (by rw [hjs]; decide) hne ha hb
  go_enter Tryd.func32, Tryd.ntmps32
  go_wp2
  refine wp_loop_rounds 1 ?_
  rw [rounds_succ]
  go_wp2
  go_ret
  exact ⟨rfl, rfl⟩
/-- An error as the answer tells it: none, or the package's sentinel of that number. -/
def errV (E : Int → Addr) : Option Int → Value
  | none => .nilIface
  | some c => .iface 135 (.pointer (some (E c)))
theorem errV_none (E : Int → Addr) : errV E none = .nilIface := rfl
theorem errV_some (E : Int → Addr) (c : Int) : errV E (some c) = .iface 135 (.pointer (some (E c))) := rfl
/-- The variable of the sentinel of a number. -/
def gOf (c : Int) : Nat := if c = 1 then 2 else if c = 2 then 3 else if c = 3 then 4 else if c = 4 then 5 else if c = 5 then 6 else if c = 6 then 0 else if c = 7 then 7 else if c = 8 then 8 else if c = 9 then 9 else if c = 10 then 10 else if c = 11 then 1 else if c = 12 then 11 else if c = 13 then 12 else 0
/-- The sentinels of these numbers lie at E. -/
structure Errs (S : Int → Prop) (w : World) (E : Int → Addr) : Prop where
  var : ∀ c, S c → w.cell? ⟨gOf c, 0, none⟩ = some (.iface 135 (.pointer (some (E c))))
  row : ∀ c, S c → ∃ cs t, w.heap[(E c).block]? = some (.cells cs t (0, 0))
  ne : ∀ c d, S c → S d → c ≠ d → E c ≠ E d
theorem Errs.below {S : Int → Prop} {w w' : World} {E : Int → Addr} (h : Errs S w E) (hb : Below w.heap.size w w') : Errs S w' E := by
  have lt : ∀ (k : Nat) (o : Obj), w.heap[k]? = some o → w'.heap[k]? = w.heap[k]? := fun k o hk => hb.block k (Array.getElem?_eq_some_iff.1 hk).1
  refine ⟨fun c hc => ?_, fun c hc => ?_, h.ne⟩
  · have hv := h.var c hc
    rw [← hv]
    cases hk : w.heap[gOf c]? with
    | none => simp [World.cell?, hk] at hv
    | some o =>
      have := lt _ o hk
      simp only [World.cell?, this]
  · obtain ⟨cs, t, hr⟩ := h.row c hc
    exact ⟨cs, t, by rw [lt _ _ hr]; exact hr⟩
theorem Errs.sub {S T : Int → Prop} {w : World} {E : Int → Addr} (h : Errs S w E) (hs : ∀ c, T c → S c) : Errs T w E :=
  ⟨fun c hc => h.var c (hs c hc), fun c hc => h.row c (hs c hc), fun c d hc hd => h.ne c d (hs c hc) (hs d hd)⟩
/-! ### What the row lists -/
def sent (text : List UInt8) : DataW Unit := .iface "*errors.errorString" (.ptr (.agg [.lit (.string text)]))
theorem laid_at {P : Program} {w : World} : ∀ {r : List (String × DataW Unit)} {ps : List MemPlace} (i : Nat) {n : String} {d : DataW Unit}, DataW.LaidVars P w r ps → r[i]? = some (n, d) →
    ∃ g t cs fuel p, P.globalNamed n = some g ∧ (P.globals[g]?).map (·.type) = some t ∧ w.var? P n = some cs ∧ DataW.trod (fun _ => ()) P w 0 (fun _ => true) false fuel t cs.toList = some (d, p) ∧ List.Sublist (MemPlace.row ⟨g, 0, none⟩ cs.size ++ p) ps
  | [], _, i, _, _, _, h => by simp at h
  | x :: r, ps, 0, n, d, hl, h => by
    obtain ⟨g, t, cs, fuel, p, q, h1, h2, h3, h4, h5, rfl⟩ := hl
    simp only [List.getElem?_cons_zero, Option.some.injEq, Prod.mk.injEq] at h
    obtain ⟨rfl, rfl⟩ := h
    exact ⟨g, t, cs, fuel, p, h1, h2, h3, h4, List.sublist_append_left _ _⟩
  | x :: r, ps, i + 1, n, d, hl, h => by
    obtain ⟨g, t, cs, fuel, p, q, h1, h2, h3, h4, h5, rfl⟩ := hl
    obtain ⟨g', t', cs', fuel', p', k1, k2, k3, k4, k5⟩ := laid_at i h5 (by simpa using h)
    exact ⟨g', t', cs', fuel', p', k1, k2, k3, k4, k5.trans (List.sublist_append_right _ _)⟩
theorem laid_two {P : Program} {w : World} : ∀ {r : List (String × DataW Unit)} {ps : List MemPlace} (i j : Nat) {n m : String} {d e : DataW Unit}, i < j → DataW.LaidVars P w r ps → r[i]? = some (n, d) → r[j]? = some (m, e) →
    ∃ g t cs fuel p g' t' cs' fuel' p', P.globalNamed n = some g ∧ (P.globals[g]?).map (·.type) = some t ∧ w.var? P n = some cs ∧ DataW.trod (fun _ => ()) P w 0 (fun _ => true) false fuel t cs.toList = some (d, p) ∧
      P.globalNamed m = some g' ∧ (P.globals[g']?).map (·.type) = some t' ∧ w.var? P m = some cs' ∧ DataW.trod (fun _ => ()) P w 0 (fun _ => true) false fuel' t' cs'.toList = some (e, p') ∧ List.Sublist ((MemPlace.row ⟨g, 0, none⟩ cs.size ++ p) ++ (MemPlace.row ⟨g', 0, none⟩ cs'.size ++ p')) ps
  | [], _, i, j, _, _, _, _, _, _, h, _ => by simp at h
  | x :: r, ps, i, 0, _, _, _, _, hij, _, _, _ => absurd hij (Nat.not_lt_zero i)
  | x :: r, ps, 0, j + 1, n, m, d, e, _, hl, h, k => by
    obtain ⟨g, t, cs, fuel, p, q, h1, h2, h3, h4, h5, rfl⟩ := hl
    simp only [List.getElem?_cons_zero, Option.some.injEq, Prod.mk.injEq] at h
    obtain ⟨rfl, rfl⟩ := h
    obtain ⟨g', t', cs', fuel', p', k1, k2, k3, k4, k5⟩ := laid_at j h5 (by simpa using k)
    refine ⟨g, t, cs, fuel, p, g', t', cs', fuel', p', h1, h2, h3, h4, k1, k2, k3, k4, ?_⟩
    exact List.Sublist.append (List.Sublist.refl _) k5
  | x :: r, ps, i + 1, j + 1, n, m, d, e, hij, hl, h, k => by
    obtain ⟨g, t, cs, fuel, p, q, h1, h2, h3, h4, h5, rfl⟩ := hl
    obtain ⟨g1, t1, cs1, f1, p1, g2, t2, cs2, f2, p2, a1, a2, a3, a4, a5, a6, a7, a8, a9⟩ := laid_two i j (Nat.lt_of_succ_lt_succ hij) h5 (by simpa using h) (by simpa using k)
    exact ⟨g1, t1, cs1, f1, p1, g2, t2, cs2, f2, p2, a1, a2, a3, a4, a5, a6, a7, a8, a9.trans (List.sublist_append_right _ _)⟩
theorem typeName_err : ∀ u, Tryd.prog.typeName? 3 u = some "*errors.errorString" → u = 135 := fun u h =>
  typeName_ptr_named (nm := "errors.errorString") (by rw [show "*" ++ "errors.errorString" = "*errors.errorString" by decide]; kernel_rfl) (by kernel_rfl) (by decide) u (by rw [show "*" ++ "errors.errorString" = "*errors.errorString" by decide]; exact h)
section
variable {W : World} {r : List (String × DataW Unit)}
set_option maxRecDepth 100000 in
theorem sent_of {n : String} {text : List UInt8} {g0 g : Nat} {t : TypeId} {cs : Array Value} {fuel : Nat} {p ps : List MemPlace} (hrows : ∀ b off, MemPlace.cell b off ∈ ps →
    (∃ c t, W.heap[b]? = some (.cells c t (0, 0))) ∧ ∀ u v, W.cell? ⟨b, off, none⟩ = some (.iface u v) → Value.okWide Tryd.prog W .any 0 u v) (hg0 : Tryd.prog.globalNamed n = some g0) (ht0 : (Tryd.prog.globals[g0]?).map (·.type) = some 25)
    (hg : Tryd.prog.globalNamed n = some g) (ht : (Tryd.prog.globals[g]?).map (·.type) = some t) (hv : W.var? Tryd.prog n = some cs) (hd : DataW.trod (fun _ => ()) Tryd.prog W 0 (fun _ => true) false fuel t cs.toList = some (sent text, p)) (hs : List.Sublist (MemPlace.row ⟨g, 0, none⟩ cs.size ++ p) ps) :
    ∃ a : Addr, W.cell? ⟨g0, 0, none⟩ = some (.iface 135 (.pointer (some a))) ∧ (∃ c t, W.heap[a.block]? = some (.cells c t (0, 0))) ∧ p = MemPlace.row a 1 := by
  obtain rfl := Option.some.inj (hg0.symm.trans hg)
  obtain rfl := Option.some.inj (ht0.symm.trans ht)
  obtain ⟨l0⟩ := cs
  have ok0 : ∀ u v, l0 = [.iface u v] → Value.okWide Tryd.prog W .any 0 u v := fun u v e => by
    subst e
    exact (hrows g0 0 (hs.subset (by simp [MemPlace.row]))).2 u v (by simpa using World.var?_cell hg0 hv 0)
  obtain ⟨a0, s0, e0, hc0, hs0, hz0, hp⟩ := errorString_of_trod Tryd.underlying25 typeName_err Tryd.underlying135 Tryd.underlying159 rfl rfl Tryd.underlying9 (by kernel_rfl) (by kernel_rfl) hd ok0
  have e1 : l0 = [.iface 135 (.pointer (some a0))] := e0
  subst e1
  refine ⟨a0, ?_, ?_, hp⟩
  · have := World.var?_cell hg0 hv 0
    simpa using this
  · exact (hrows a0.block a0.off (hs.subset (by rw [hp]; simp [MemPlace.row]))).1
/-- THE SENTINELS THAT A ROW LISTS, their numbers S told by places in its list. -/
theorem errs_of_laid (h : laidMet Tryd.prog r W) (S : Int → Prop) (pos : Int → Nat) (nm : Int → String) (text : Int → List UInt8) (hpos : ∀ c, S c → r[pos c]? = some (nm c, sent (text c)))
    (hg : ∀ c, S c → Tryd.prog.globalNamed (nm c) = some (gOf c) ∧ (Tryd.prog.globals[gOf c]?).map (·.type) = some 25) (hinj : ∀ c d, S c → S d → pos c = pos d → c = d) :
    ∃ E : Int → Addr, Errs S W E := by
  obtain ⟨ps, hl, hnd, hrows⟩ := h
  have one : ∀ c : Int, ∃ a : Addr, S c → W.cell? ⟨gOf c, 0, none⟩ = some (.iface 135 (.pointer (some a))) ∧ (∃ cs t, W.heap[a.block]? = some (.cells cs t (0, 0))) := fun c => by
    by_cases hc : S c
    · obtain ⟨g, t, cs, fuel, p, h1, h2, h3, h4, h5⟩ := laid_at (pos c) hl (hpos c hc)
      obtain ⟨a, k1, k2, k3⟩ := sent_of hrows (hg c hc).1 (hg c hc).2 h1 h2 h3 h4 h5
      exact ⟨a, fun _ => ⟨k1, k2⟩⟩
    · exact ⟨⟨0, 0, none⟩, fun h => absurd h hc⟩
  obtain ⟨E, hE⟩ := Classical.axiomOfChoice one
  have lt : ∀ c d, S c → S d → pos c < pos d → E c ≠ E d := fun c d hc hd hlt => by
    obtain ⟨g1, t1, cs1, f1, p1, g2, t2, cs2, f2, p2, a1, a2, a3, a4, a5, a6, a7, a8, a9⟩ := laid_two (pos c) (pos d) hlt hl (hpos c hc) (hpos d hd)
    intro e
    obtain ⟨x1, k1, _, k3⟩ := sent_of hrows (hg c hc).1 (hg c hc).2 a1 a2 a3 a4 ((List.sublist_append_left _ _).trans a9)
    obtain ⟨x2, m1, _, m3⟩ := sent_of hrows (hg d hd).1 (hg d hd).2 a5 a6 a7 a8 ((List.sublist_append_right _ _).trans a9)
    have y1 := Option.some.inj (k1.symm.trans (hE c hc).1)
    have y2 := Option.some.inj (m1.symm.trans (hE d hd).1)
    simp only [Value.iface.injEq, Value.pointer.injEq, Option.some.injEq, true_and] at y1 y2
    have hn := hnd.sublist a9
    have hx : MemPlace.cell (E c).block (E c).off ∈ MemPlace.row ⟨g1, 0, none⟩ cs1.size ++ p1 := by rw [k3, y1]; simp [MemPlace.row]
    have hx2 : MemPlace.cell (E c).block (E c).off ∈ MemPlace.row ⟨g2, 0, none⟩ cs2.size ++ p2 := by rw [m3, y2, ← e]; simp [MemPlace.row]
    exact (List.nodup_append.1 hn).2.2 _ hx _ hx2 rfl
  refine ⟨E, fun c hc => (hE c hc).1, fun c hc => (hE c hc).2, fun c d hc hd hne => ?_⟩
  rcases Nat.lt_trichotomy (pos c) (pos d) with hl' | hl' | hl'
  · exact lt c d hc hd hl'
  · exact absurd (hinj c d hc hd hl') hne
  · exact (lt d c hd hc hl').symm
end
end Go.Proofs.YtpcfnkmljchiiaaDoor.Is
