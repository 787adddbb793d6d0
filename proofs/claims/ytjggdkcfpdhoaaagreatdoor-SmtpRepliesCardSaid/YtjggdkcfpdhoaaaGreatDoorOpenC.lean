/- A command that came in by value; a list of texts that came in. -/
import Derived.Test.YtjggdkcfpdhoaaaGreatDoorBase
import Derived.WideShapes
import Derived.ChangeArms
import Derived.OpenShut
namespace Go.Proofs.YtjggdkcfpdhoaaaGreatDoor.OpenC
open Go Go.RowKit Go.ChangeShapes Go.WideShapes Go.Proofs.YtjggdkcfpdhoaaaGreatDoor.Opt Go.Proofs.YtjggdkcfpdhoaaaGreatDoor.Parse
set_option linter.unusedVariables false
set_option linter.unusedSimpArgs false
/-- A list of texts, read. -/
def SliceS (A : Option Addr) (l : List ByteArray) (W : World) : Prop := 0 < l.length → ∃ ad, A = some ad ∧ ∀ j, j < l.length → W.cell? (ad.add j) = some (.string (l.getD j ByteArray.empty))
section
variable {H : Type} {enc : TypeId × Value → H} {w : World} {base : Nat} {spare : Nat → Bool} {held : Bool}
set_option maxRecDepth 100000 in
theorem open_cmd {r : Reach} {b0 : Nat} {v : Value} {d : DataW H} {p : List MemPlace} (hv : Value.okWide Tryz.prog w r b0 26 v) (h : DataW.Trod enc Tryz.prog w base spare held 26 v d p) :
    ∃ c : CmdR, v = cmdV c ∧ -9223372036854775808 ≤ c.n ∧ c.n ≤ 9223372036854775807 := by
  obtain ⟨cs, rfl, hsz⟩ := okWide_struct Tryz.underlying26 hv
  obtain ⟨l⟩ := cs
  have hC : Tryz.prog.cellsOf 26 = 6 := by kernel_rfl
  match l, hsz.trans hC with
  | [c0, c1, c2, c3, c4, c5], _ =>
    obtain ⟨fuel, hf⟩ := h
    obtain ⟨xs, n, _, hx, _, hlen, hg⟩ := DataW.trod_struct Tryz.underlying26 hf
    have hl5 : xs.length = 5 := hlen
    match xs, hl5 with
    | [y0, y1, y2, y3, y4], _ =>
      have e9 : Tryz.prog.cellsOf 9 = 1 := by kernel_rfl
      have e3 : Tryz.prog.cellsOf 3 = 1 := by kernel_rfl
      have e24 : Tryz.prog.cellsOf 24 = 2 := by kernel_rfl
      have g0 : DataW.trod enc Tryz.prog w base spare held n 9 (([c0, c1, c2, c3, c4, c5].drop 0).take (Tryz.prog.cellsOf 9)) = some y0 := hg 0 { name := "Verb", type := 9, offset := 0, embedded := false, tag := "", pkgPath := "", byteOffset := 0 } rfl
      rw [e9] at g0
      have g1 : DataW.trod enc Tryz.prog w base spare held n 24 (([c0, c1, c2, c3, c4, c5].drop 1).take (Tryz.prog.cellsOf 24)) = some y1 := hg 1 { name := "Path", type := 24, offset := 1, embedded := false, tag := "", pkgPath := "", byteOffset := 16 } rfl
      rw [e24] at g1
      have g2 : DataW.trod enc Tryz.prog w base spare held n 9 (([c0, c1, c2, c3, c4, c5].drop 3).take (Tryz.prog.cellsOf 9)) = some y2 := hg 2 { name := "Arg", type := 9, offset := 3, embedded := false, tag := "", pkgPath := "", byteOffset := 48 } rfl
      rw [e9] at g2
      have g3 : DataW.trod enc Tryz.prog w base spare held n 3 (([c0, c1, c2, c3, c4, c5].drop 4).take (Tryz.prog.cellsOf 3)) = some y3 := hg 3 { name := "Size", type := 3, offset := 4, embedded := false, tag := "", pkgPath := "", byteOffset := 64 } rfl
      rw [e3] at g3
      have g4 : DataW.trod enc Tryz.prog w base spare held n 9 (([c0, c1, c2, c3, c4, c5].drop 5).take (Tryz.prog.cellsOf 9)) = some y4 := hg 4 { name := "Body", type := 9, offset := 5, embedded := false, tag := "", pkgPath := "", byteOffset := 72 } rfl
      rw [e9] at g4
      obtain ⟨s0, h0, _⟩ := DataW.trod_string Tryz.underlying9 g0
      obtain ⟨s3, h3, _⟩ := DataW.trod_string Tryz.underlying9 g2
      obtain ⟨m, h4, _, hwf⟩ := DataW.trod_int Tryz.underlying3 g3
      obtain ⟨s5, h5, _⟩ := DataW.trod_string Tryz.underlying9 g4
      obtain ⟨zs, k, _, _, _, hlen2, hg2⟩ := DataW.trod_struct Tryz.underlying24 g1
      have hl2 : zs.length = 2 := hlen2
      match zs, hl2 with
      | [z0, z1], _ =>
        have f0 : DataW.trod enc Tryz.prog w base spare held k 9 (([c1, c2].drop 0).take (Tryz.prog.cellsOf 9)) = some z0 := hg2 0 { name := "Local", type := 9, offset := 0, embedded := false, tag := "", pkgPath := "", byteOffset := 0 } rfl
        have f1 : DataW.trod enc Tryz.prog w base spare held k 9 (([c1, c2].drop 1).take (Tryz.prog.cellsOf 9)) = some z1 := hg2 1 { name := "Domain", type := 9, offset := 1, embedded := false, tag := "", pkgPath := "", byteOffset := 16 } rfl
        rw [e9] at f0 f1
        obtain ⟨s1, h1, _⟩ := DataW.trod_string Tryz.underlying9 f0
        obtain ⟨s2, h2, _⟩ := DataW.trod_string Tryz.underlying9 f1
        have q0 : c0 = .string s0 := (List.cons.inj h0).1
        have q1 : c1 = .string s1 := (List.cons.inj h1).1
        have q2 : c2 = .string s2 := (List.cons.inj h2).1
        have q3 : c3 = .string s3 := (List.cons.inj h3).1
        have q4 : c4 = .int .i64 m := (List.cons.inj h4).1
        have q5 : c5 = .string s5 := (List.cons.inj h5).1
        subst q0 q1 q2 q3 q4 q5
        have hb := bounds_i64 hwf
        exact ⟨⟨s0, s1, s2, s3, m, s5⟩, rfl, hb.1, hb.2⟩
end
end Go.Proofs.YtjggdkcfpdhoaaaGreatDoor.OpenC
