/- strings.SplitSeq's iterator at one byte: what it gives, whatever the rounds do that leave its places alone. -/
import Derived.Test.YtjggdkcfpdhoaaaGreatDoorSh
import Derived.Test.YtjggdkcfpdhoaaaGreatDoorDots
import Derived.Test.YtjggdkcfpdhoaaaGreatDoorRBox
import Derived.RangeFuncBox
import Derived.RangeFuncLeaves
import Derived.Shelf.Abstract
import Derived.WalkKit
import Derived.OwnWalkIn
import Derived.TacticsInMore
import Derived.LoopNIn
import Derived.LoopIn
namespace Go.Proofs.YtjggdkcfpdhoaaaGreatDoor.Seq
open Go Go.RowKit Go.Shelf Go.Proofs.YtjggdkcfpdhoaaaGreatDoorW.PrintWords Go.Proofs.YtjggdkcfpdhoaaaGreatDoor.Dots Go.Proofs.YtjggdkcfpdhoaaaGreatDoor.RBox
set_option linter.unusedVariables false
set_option linter.unusedSimpArgs false
attribute [local go_sem] Oper.semAt_some
/-- Texts that are not too long. -/
abbrev Txt := { x : ByteArray // x.size ≤ 1000000 }
def bT (x : Txt) : List Int := bytesOf x.1
/-- The text in a place: its size. -/
def boxSize (w : World) (b : Nat) : Nat := match w.cell? ⟨b, 0, none⟩ with | some (.string r) => r.size | _ => 0
theorem cell_keepBl {Bl : List Nat} {A B : World} (h : KeepBl Bl A B) {b : Nat} (hb : b ∈ Bl) {o : Nat} {v : Value} (hc : A.cell? ⟨b, o, none⟩ = some v) : B.cell? ⟨b, o, none⟩ = some v := by
  have := h b hb
  simpa [World.cell?, this] using hc
theorem frozen_keepBl {Bl : List Nat} {A B : World} (h : KeepBl Bl A B) {b : Nat} (hb : b ∈ Bl) {o : Nat} (hc : A.frozen? ⟨b, o, none⟩ = false) : B.frozen? ⟨b, o, none⟩ = false := by
  have := h b hb
  simpa [World.frozen?, this] using hc
theorem ib_miss (s : ByteArray) (d : UInt8) (h : Lib.indexByte s.data.toList d < 0) : Lib.indexB s (one d) = -1 := by
  have e : Lib.indexB s (one d) = Lib.indexByte s.data.toList d := Lib.index_one _ _
  rcases Lib.indexB_cases s (one d) with h1 | ⟨i, h1, _⟩
  · exact h1
  · rw [e] at h1; omega
theorem ib_hit (s : ByteArray) (d : UInt8) (i : Nat) (h : Lib.indexByte s.data.toList d = i) : Lib.indexB s (one d) = i := (Lib.index_one _ _).trans h
theorem cuts_miss (s : ByteArray) (d : UInt8) (h : Lib.indexByte s.data.toList d < 0) : cuts (d.toNat : Int) (bytesOf s) = [bytesOf s] := by
  rw [cuts, cutsA_plain _ _ _ (index_miss s d (ib_miss s d h))]; rfl
theorem cuts_hit (s : ByteArray) (d : UInt8) (i : Nat) (h : Lib.indexByte s.data.toList d = i) :
    i < s.size ∧ cuts (d.toNat : Int) (bytesOf s) = bytesOf (s.extract 0 i) :: cuts (d.toNat : Int) (bytesOf (s.extract (i + 1) s.size)) := by
  obtain ⟨h1, h2, h3⟩ := index_hit s d i (ib_hit s d i h)
  refine ⟨h3, ?_⟩
  have e1 : bytesOf s = (bytesOf s).take i ++ (d.toNat : Int) :: (bytesOf s).drop (i + 1) := by rw [← h2, List.take_append_drop]
  have e2 : bytesOf (s.extract (i + 1) s.size) = (bytesOf s).drop (i + 1) := by
    rw [bytesOf_cut]
    exact List.take_of_length_le (by rw [List.length_drop, bytesOf_length]; omega)
  have e3 : bytesOf (s.extract 0 i) = (bytesOf s).take i := by rw [bytesOf_cut, List.drop_zero, Nat.sub_zero]
  have e4 := cutsA_hit (d.toNat : Int) [] ((bytesOf s).take i) ((bytesOf s).drop (i + 1)) h1
  rw [← e1] at e4
  rw [e2, e3]
  exact e4
set_option maxRecDepth 100000 in
set_option maxHeartbeats 2000000 in
theorem split1_box (n : Nat) (hn : 1 ≤ n) (d : UInt8) (Bp Bs Bv : Nat) (s : ByteArray) (hsz : s.size ≤ 1000000) (w : World) (hp : w.cell? ⟨Bp, 0, none⟩ = some (.string ⟨#[d]⟩)) (hs : w.cell? ⟨Bs, 0, none⟩ = some (.string s))
    (hfz : w.frozen? ⟨Bs, 0, none⟩ = false) (hv : w.cell? ⟨Bv, 0, none⟩ = some (.int .i64 0)) (hps : Bp ≠ Bs) (hvs : Bv ≠ Bs) :
    SeqBox Fence.wide n Tryz.prog 112 #[.pointer (some ⟨Bp, 0, none⟩), .pointer (some ⟨Bs, 0, none⟩), .pointer (some ⟨Bv, 0, none⟩)] (fun x : Txt => #[Value.string x.1]) Bs [Bp, Bs, Bv]
      (fun xs => xs.map bT = cuts (d.toNat : Int) (bytesOf s)) (fun pre => pre.map bT <+: cuts (d.toNat : Int) (bytesOf s)) (s.size + 1) w := fun l J Jx W hW hJ hJx hJb hY h0 => by
  have hp := hW.cell (p := ⟨Bp, 0, none⟩) (World.block_lt_of_cell? w _ hp) |>.trans hp
  have hfz := (hW.frozen (p := ⟨Bs, 0, none⟩) (World.block_lt_of_cell? w _ hs)).trans hfz
  have hs := hW.cell (p := ⟨Bs, 0, none⟩) (World.block_lt_of_cell? w _ hs) |>.trans hs
  have hv := hW.cell (p := ⟨Bv, 0, none⟩) (World.block_lt_of_cell? w _ hv) |>.trans hv
  clear hW
  refine callsIn_of_wp Tryz.func112 rfl trivial ?_ rfl
  simp only [Tryz.ntmps112, List.size_toArray, List.length_cons, List.length_nil, Nat.reduceAdd, Nat.reduceSub, Array.replicate_succ, Array.replicate_zero, List.push_toArray, List.append_toArray, List.nil_append, List.cons_append]
  have hd1 : decide ((1 : Int) = 0) = false := by decide
  gi_wp2
  gi_loopw [7] (fun _ wr => ∃ (pre : List Txt) (r : ByteArray), wr.cell? ⟨Bs, 0, none⟩ = some (.string r) ∧ wr.frozen? ⟨Bs, 0, none⟩ = false ∧ wr.cell? ⟨Bp, 0, none⟩ = some (.string ⟨#[d]⟩) ∧
      wr.cell? ⟨Bv, 0, none⟩ = some (.int .i64 0) ∧ J pre wr ∧ pre.length + r.size ≤ s.size ∧ pre.map bT ++ cuts (d.toNat : Int) (bytesOf r) = cuts (d.toNat : Int) (bytesOf s)) (fun _ wr => boxSize wr Bs)
  case atStart => exact ⟨[], s, hs, hfz, hp, hv, h0, by simp, rfl⟩
  case round =>
    obtain ⟨pre, r, hs, hfz, hp, hv, hJp, hlen, hcuts⟩ := hrel
    have hrs : r.size ≤ 1000000 := by omega
    have HLEN := Aside0.mk hlen
    have HCUTS := Aside0.mk hcuts
    have HIX := Tryz.strings_Index_one r d wr
    by_cases hz : Lib.indexByte r.data.toList d < 0
    · have HC := Aside0.mk (cuts_miss r d hz)
      obtain ⟨fn, tmps, assign, body, hy, hR⟩ := hY pre ⟨r, hrs⟩ wr hJp (by omega)
      dsimp only at hy
      obtain ⟨z, hz2⟩ : ∃ z, z = Lib.indexByte r.data.toList d := ⟨_, rfl⟩
      rw [← hz2] at HIX hz
      have HI := Aside0.mk HIX
      clear HIX hz2 hlen hcuts
      gi_wp2_with (refine ⟨trivial, ?_⟩; gi_at_call 113; refine (callsIn_wide.2 HI.out).mono ?_; rintro e w' ⟨rfl, rfl⟩)
      refine hR.mono ?_
      rintro e W3 (⟨rfl, hJ3, hk3⟩ | ⟨rfl, hJx3⟩)
      · gi_wp2
        go_end0
        exact ⟨⟨_, rfl⟩, .inl ⟨pre ++ [⟨r, hrs⟩], by rw [List.map_append, ← HCUTS.out, HC.out]; rfl, hJ3⟩⟩
      · gi_wp2
        go_end0
        exact ⟨⟨_, rfl⟩, .inr ⟨pre ++ [⟨r, hrs⟩], by rw [List.map_append, ← HCUTS.out, HC.out]; exact List.prefix_rfl, hJx3⟩⟩
    · obtain ⟨i, hi⟩ : ∃ i : Nat, Lib.indexByte r.data.toList d = i := ⟨(Lib.indexByte r.data.toList d).toNat, by omega⟩
      obtain ⟨hil, hcut⟩ := cuts_hit r d i hi
      have HC := Aside0.mk hcut
      rw [hi] at HIX
      have HI := Aside0.mk HIX
      have hes : (r.extract 0 i).size ≤ 1000000 := by rw [ByteArray.size_extract]; omega
      obtain ⟨fn, tmps, assign, body, hy, hR⟩ := hY pre ⟨r.extract 0 i, hes⟩ wr hJp (by omega)
      dsimp only at hy
      have hw1 : wrap64 (i : Int) = i := by unfold wrap64; omega
      have hw2 : wrap64 ((i : Int) + 1) = i + 1 := by unfold wrap64; omega
      have hle : i ≤ r.size := by omega
      have hle1 : i + 1 ≤ r.size := by omega
      clear HIX hi hz hlen hcuts hcut
      gi_wp2_with (refine ⟨trivial, ?_⟩; gi_at_call 113; refine (callsIn_wide.2 HI.out).mono ?_; rintro e w' ⟨rfl, rfl⟩)
      refine hR.mono ?_
      rintro e W3 (⟨rfl, hJ3, hk3⟩ | ⟨rfl, hJx3⟩)
      · have hs3 := cell_keepBl hk3 (by simp) hs
        have hp3 := cell_keepBl hk3 (by simp) hp
        have hv3 := cell_keepBl hk3 (by simp) hv
        have hf3 := frozen_keepBl hk3 (by simp) hfz
        gi_wp2
        go_roundw
        case rel =>
          refine ⟨pre ++ [⟨r.extract 0 i, hes⟩], r.extract (i + 1) r.size, World.cell?_setCell_same' _ _ _ (by rw [hs3]; rfl), by rw [World.frozen?_setCell]; exact hf3, (World.cell?_setCell_other _ _ _ _ (by simp [Ne.symm hps])).trans hp3, (World.cell?_setCell_other _ _ _ _ (by simp [Ne.symm hvs])).trans hv3, hJb _ _ _ hJ3, ?_, ?_⟩
          · have := HLEN.out
            rw [List.length_append, ByteArray.size_extract]
            simp
            omega
          · rw [List.map_append, ← HCUTS.out, HC.out, List.append_assoc]; rfl
        case measure =>
          rw [boxSize, boxSize, World.cell?_setCell_same' _ _ _ (by rw [hs3]; rfl), hs]
          simp [ByteArray.size_extract]
          omega
      · gi_wp2
        refine bodyPost_ret (results_none rfl _ _ _) rfl ?_
        exact ⟨⟨_, rfl⟩, .inr ⟨pre ++ [⟨r.extract 0 i, hes⟩], by rw [List.map_append, ← HCUTS.out, HC.out]; exact ⟨cuts (d.toNat : Int) (bytesOf (r.extract (i + 1) r.size)), by rw [List.append_assoc]; rfl⟩, hJx3⟩⟩
end Go.Proofs.YtjggdkcfpdhoaaaGreatDoor.Seq
