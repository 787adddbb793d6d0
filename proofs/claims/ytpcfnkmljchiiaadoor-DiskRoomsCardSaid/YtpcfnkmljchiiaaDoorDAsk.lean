/- Disk.ask, of one name. -/
import Derived.Test.YtpcfnkmljchiiaaDoorProg
import Derived.Test.YtpcfnkmljchiiaaDoorWWords
import Derived.Test.YtpcfnkmljchiiaaDoorRight
namespace Go.Proofs.YtpcfnkmljchiiaaDoor.DAsk
open Go Go.RowKit Go.Proofs.YtpcfnkmljchiiaaDoorW.PrintWords Go.Proofs.YtpcfnkmljchiiaaDoor.Right
set_option linter.unusedVariables false
set_option linter.unusedSimpArgs false
/-- What ask answers. -/
def askV (ep en : Value) (off : Bool) (s : ByteArray) : Value := if off = true then ep else if rightB s = true then .nilIface else en
set_option maxRecDepth 100000 in
set_option maxHeartbeats 4000000 in
theorem ask_one (p b o cp : Nat) (off : Bool) (s : ByteArray) (hs : s.size < 9223372036854775807) (ep en : Value) (w : World) (h6 : w.cell? ⟨p, 6, none⟩ = some (.bool off)) (hc : w.cell? ⟨b, o, none⟩ = some (.string s))
    (hp : w.cell? ⟨8, 0, none⟩ = some ep) (hn : w.cell? ⟨5, 0, none⟩ = some en) :
    Calls Tryd.prog 30 #[.pointer (some ⟨p, 0, none⟩), .slice (some ⟨b, o, none⟩) 1 cp] w fun e w' => e = .returned (askV ep en off s) ∧ Below w.heap.size w w' := by
  have HRT := Aside0.mk (fun W => right_calls s hs W)
  cases off with
  | true =>
    clear hc
    go_enter Tryd.func30, Tryd.ntmps30
    go_wp2
    go_ret
    exact ⟨rfl, Below.refl _ _⟩
  | false =>
    obtain ⟨r, hr⟩ : ∃ r, r = rightB s := ⟨_, rfl⟩
    have hv : askV ep en false s = if r = true then .nilIface else en := by rw [hr]; rfl
    rw [hv]
    rw [← hr] at HRT
    clear hr hv
    have HN := Aside0.mk (fun W (hb : Below w.heap.size w W) => (hb.cell (p := ⟨5, 0, none⟩) (World.block_lt_of_cell? w _ hn)).trans hn)
    go_enter Tryd.func30, Tryd.ntmps30
    go_wp2
    go_loopw [14] (fun i wr => ∃ k : Nat, k ≤ 1 ∧ i = .int .i64 k ∧ Aside0 (k = 1 → r = true) ∧ Aside0 (Below w.heap.size w wr)) (fun i _ => 1 - (intOf i).toNat)
    case atStart => exact ⟨0, by omega, rfl, ⟨fun h => by omega⟩, ⟨Below.refl _ _⟩⟩
    case round =>
      obtain ⟨k, hk, rfl, HK, HB⟩ := hrel
      have hn2 := HN.out _ HB.out
      have hc2 := (HB.out.cell (p := ⟨b, o, none⟩) (World.block_lt_of_cell? w _ hc)).trans hc
      by_cases h0 : k = 0
      · subst h0
        cases r with
        | true =>
          go_wp2_with (go_at_call 66; refine (HRT.out _).mono ?_; rintro e w1 ⟨rfl, hb1⟩; have HB1 := Aside0.mk (HB.out.trans (hb1.mono HB.out.size)); clear hb1)
          go_roundw
          case rel => exact ⟨1, by omega, by go_num, ⟨by simp⟩, HB1⟩
          case measure => simp [intOf]
        | false =>
          go_wp2_with (go_at_call 66; refine (HRT.out _).mono ?_; rintro e w1 ⟨rfl, hb1⟩; have HB1 := Aside0.mk (HB.out.trans (hb1.mono HB.out.size)); clear hb1; have hn3 := HN.out _ HB1.out)
          go_ret
          exact ⟨rfl, HB1.out⟩
      · have h1 : k = 1 := by omega
        subst h1
        have hr := HK.out rfl
        subst hr
        go_wp2
        go_ret
        exact ⟨rfl, HB.out⟩
end Go.Proofs.YtpcfnkmljchiiaaDoor.DAsk
