/- The document's Match, in the words of the law's walk. -/
import Derived.Test.YthlofokgbogndabRefM
import Derived.Test.YthlofokgbogndabQFits
namespace Go.Proofs.Ythlofokgbogndab.GBoxes
open Go.RowKit Go.Sort Go.Proofs.YthlofokgbogndabW.PrintWords
theorem fits_lift (p n : ByteArray) (b : Bool) (N : Nat) (h : postbagref13_Fits.f N p n = some b) : ∀ d, postbagref13_Fits.f (N + d) p n = some b
  | 0 => h
  | d + 1 => postbagref13_Fits.mono p n (N + d) b (fits_lift p n b N h d)
theorem ref_fitQ (a1 s : ByteArray) (h1 : a1.size ≤ 900) (h2 : s.size ≤ 900) : ∃ N, postbagref13_Fits.f N a1 s = some (fitQ a1 (bytesL s)) := by
  obtain ⟨N, h⟩ := ref_fits a1 s h1 h2
  refine ⟨N, ?_⟩
  have h3 := fits_mt a1 s (by omega) (by omega)
  rw [fitQ, strB_bytesL, h3, h]
  rfl
theorem ref_all (a1 : ByteArray) (h1 : a1.size ≤ 900) : ∀ l : List ByteArray, (∀ s ∈ l, s.size ≤ 900) → ∃ N, ∀ s ∈ l, postbagref13_Fits.f N a1 s = some (fitQ a1 (bytesL s))
  | [], _ => ⟨0, fun s hs => by simp at hs⟩
  | s :: l, h => by
    obtain ⟨N, hN⟩ := ref_all a1 h1 l fun t ht => h t (List.mem_cons_of_mem _ ht)
    obtain ⟨M, hM⟩ := ref_fitQ a1 s h1 (h s (by simp))
    refine ⟨N + M, fun t ht => ?_⟩
    rcases List.mem_cons.1 ht with rfl | ht
    · rw [Nat.add_comm]
      exact fits_lift a1 t _ M hM N
    · exact fits_lift a1 t _ N (hN t ht) M
def postbagref13_Match.f (l0 : List ByteArray) (a1 : ByteArray) : Option (List ByteArray) := if l0.length ≤ 1000 ∧ a1.size ≤ 900 ∧ ∀ s ∈ l0, s.size ≤ 900 then some ((refOut (fitQ a1) (l0.map bytesL)).map strB) else none
theorem postbagref13_Match.calls (A0 : Option Addr) (c0 : Nat) (l0 : List ByteArray) (a1 : ByteArray) (r : List ByteArray) (w : World) (hr0 : Kd.C Kd.string w A0 l0.length l0) (hc0 : l0.length ≤ c0) (h : postbagref13_Match.f l0 a1 = some r) :
    Calls Try.prog 16 #[.slice A0 l0.length c0, .string a1] w fun e w' => ∃ v0_ : Value, e = .returned (v0_) ∧ Kd.R Kd.string 9 w' w.heap.size (fun _ => True) v0_ r ∧ Below w.heap.size w w' := by
  unfold postbagref13_Match.f at h
  by_cases hs : l0.length ≤ 1000 ∧ a1.size ≤ 900 ∧ ∀ s ∈ l0, s.size ≤ 900
  case neg =>
    rw [if_neg hs] at h
    exact absurd h (by simp)
  rw [if_pos hs] at h
  obtain rfl := Option.some.inj h
  obtain ⟨N, hN⟩ := ref_all a1 hs.2.1 l0 hs.2.2
  refine (ref_calls N (fitQ a1) A0 c0 l0 a1 w hr0 hc0 hs.1 hN).mono fun e w' h => ?_
  obtain ⟨B, cap, rfl, hD⟩ := h
  refine ⟨_, rfl, Kd.R_of_own (h1 := fun _ => rfl) ?_ (fun _ _ => trivial), hD.bel⟩
  rw [List.length_map, encs_strB]
  exact hD.row
end Go.Proofs.Ythlofokgbogndab.GBoxes
