/- What a row of chapter 19 lists: the sentinel's variable, the library's table. -/
import Derived.Test.YtjggdkcfpdhoaaaGreatDoorAlive
import Derived.Stop.LaidErr
import Derived.RowKitTokens
import Derived.Lib.LaidTab
namespace Go.Proofs.YtjggdkcfpdhoaaaGreatDoor.LaidS
open Go Go.RowKit Go.Extern.Stop Go.Stop Go.Extern
open Go.Proofs.YtjggdkcfpdhoaaaGreatDoorW.PrintWords Go.Proofs.YtjggdkcfpdhoaaaGreatDoor.Reply Go.Proofs.YtjggdkcfpdhoaaaGreatDoor.Alive
set_option linter.unusedVariables false
set_option linter.unusedSimpArgs false
def sent (text : List UInt8) : DataW Unit := .iface "*errors.errorString" (.ptr (.agg [.lit (.string text)]))
theorem laid_at {P : Program} {w : World} : ∀ {r : List (String × DataW Unit)} {ps : List MemPlace} (i : Nat) {n : String} {d : DataW Unit}, DataW.LaidVars P w r ps → r[i]? = some (n, d) →
    ∃ g t cs fuel p, P.globalNamed n = some g ∧ (P.globals[g]?).map (·.type) = some t ∧ w.var? P n = some cs ∧ DataW.trod (fun _ => ()) P w 0 (fun _ => true) false fuel t cs.toList = some (d, p) ∧ List.Sublist (MemPlace.row ⟨g, 0, none⟩ cs.size ++ p) ps
  | [], _, i, _, _, _, h => by simp at h
  | x :: r, ps, 0, n, d, hl, h => by
    obtain ⟨g, t, cs, fuel, p, q, h1, h2, h3, h4, h5, rfl⟩ := hl
    simp only [List.getElem?_cons_zero, Option.some.injEq, Prod.mk.injEq] at h
    obtain ⟨rfl, rfl⟩ := h
    exact ⟨g, t, cs, fuel, p, h1, h2, h3, h4, List.sublist_append_left _ _⟩
  | x :: r, ps, i + 1, n, d, hl, h => by
    obtain ⟨g, t, cs, fuel, p, q, h1, h2, h3, h4, h5, rfl⟩ := hl
    obtain ⟨g', t', cs', fuel', p', k1, k2, k3, k4, k5⟩ := laid_at i h5 (by simpa using h)
    exact ⟨g', t', cs', fuel', p', k1, k2, k3, k4, k5.trans (List.sublist_append_right _ _)⟩
theorem typeName_err : ∀ u, Tryz.prog.typeName? 3 u = some "*errors.errorString" → u = 151 := fun u h =>
  typeName_ptr_named (nm := "errors.errorString") (by rw [show "*" ++ "errors.errorString" = "*errors.errorString" by decide]; kernel_rfl) (by kernel_rfl) (by decide) u (by rw [show "*" ++ "errors.errorString" = "*errors.errorString" by decide]; exact h)
section
variable {W : World} {r : List (String × DataW Unit)}
set_option maxRecDepth 100000 in
theorem sent_of {n : String} {text : List UInt8} {g0 g : Nat} {t : TypeId} {cs : Array Value} {fuel : Nat} {p ps : List MemPlace} (hrows : ∀ b off, MemPlace.cell b off ∈ ps →
    (∃ c t, W.heap[b]? = some (.cells c t (0, 0))) ∧ ∀ u v, W.cell? ⟨b, off, none⟩ = some (.iface u v) → Value.okWide Tryz.prog W .any 0 u v) (hg0 : Tryz.prog.globalNamed n = some g0) (ht0 : (Tryz.prog.globals[g0]?).map (·.type) = some 35)
    (hg : Tryz.prog.globalNamed n = some g) (ht : (Tryz.prog.globals[g]?).map (·.type) = some t) (hv : W.var? Tryz.prog n = some cs) (hd : DataW.trod (fun _ => ()) Tryz.prog W 0 (fun _ => true) false fuel t cs.toList = some (sent text, p)) (hs : List.Sublist (MemPlace.row ⟨g, 0, none⟩ cs.size ++ p) ps) :
    ∃ a : Addr, W.cell? ⟨g0, 0, none⟩ = some (.iface 151 (.pointer (some a))) ∧ (∃ c t, W.heap[a.block]? = some (.cells c t (0, 0))) ∧ p = MemPlace.row a 1 := by
  obtain rfl := Option.some.inj (hg0.symm.trans hg)
  obtain rfl := Option.some.inj (ht0.symm.trans ht)
  obtain ⟨l0⟩ := cs
  have ok0 : ∀ u v, l0 = [.iface u v] → Value.okWide Tryz.prog W .any 0 u v := fun u v e => by
    subst e
    exact (hrows g0 0 (hs.subset (by simp [MemPlace.row]))).2 u v (by simpa using World.var?_cell hg0 hv 0)
  obtain ⟨a0, s0, e0, hc0, hs0, hz0, hp⟩ := errorString_of_trod Tryz.underlying35 typeName_err Tryz.underlying151 Tryz.underlying153 rfl rfl Tryz.underlying9 (by kernel_rfl) (by kernel_rfl) hd ok0
  have e1 : l0 = [.iface 151 (.pointer (some a0))] := e0
  subst e1
  refine ⟨a0, ?_, ?_, hp⟩
  · have := World.var?_cell hg0 hv 0
    simpa using this
  · exact (hrows a0.block a0.off (hs.subset (by rw [hp]; simp [MemPlace.row]))).1
set_option maxRecDepth 100000 in
theorem frm_of_laid (h : laidMet Tryz.prog r W) (i : Nat) (text : List UInt8) (hpos : r[i]? = some ("postbag/api.ErrForm", sent text)) :
    ∃ a : Addr, W.cell? ⟨1, 0, none⟩ = some (.iface 151 (.pointer (some a))) := by
  obtain ⟨ps, hl, hnd, hrows⟩ := h
  obtain ⟨g, t, cs, fuel, p, h1, h2, h3, h4, h5⟩ := laid_at i hl hpos
  obtain ⟨a, k1, k2, k3⟩ := sent_of hrows (by kernel_rfl) (by kernel_rfl) h1 h2 h3 h4 h5
  exact ⟨a, k1⟩
set_option maxRecDepth 100000 in
theorem tab_of_laid (h : laidMet Tryz.prog r W) (i : Nat) (hpos : r[i]? = some ("internal/strconv.uint64pow10", Lib.tabData .u64 Lib.pow10Tab)) : TabW W := by
  obtain ⟨ps, hl, hnd, hrows⟩ := h
  obtain ⟨g, t, cs, fuel, p, h1, h2, h3, h4, h5⟩ := laid_at i hl hpos
  have hg : g = 14 := Option.some.inj (h1.symm.trans tab_global)
  subst hg
  have ht : t = 137 := Option.some.inj (h2.symm.trans (by kernel_rfl))
  subst ht
  show World.var? _ _ _ = _
  rw [h3, ← Lib.cells_of_tab (n := 20) (e := 118) Tryz.underlying137 Tryz.underlying118 (by kernel_rfl) (by kernel_rfl) h4]
/-- What a row lists is what the examples meet. -/
theorem aw_of_laid (h : laidMet Tryz.prog r W) (i j : Nat) (text : List UInt8) (hi : r[i]? = some ("postbag/api.ErrForm", sent text)) (hj : r[j]? = some ("internal/strconv.uint64pow10", Lib.tabData .u64 Lib.pow10Tab)) :
    ∃ a : Addr, AW (.iface 151 (.pointer (some a))) W := by
  obtain ⟨a, ha⟩ := frm_of_laid h i text hi
  exact ⟨a, ha, tab_of_laid h j hj⟩
end
end Go.Proofs.YtjggdkcfpdhoaaaGreatDoor.LaidS
