/- strings.Cut at one byte; path.Take: the path at a text's beginning. -/
import Derived.Test.YtjggdkcfpdhoaaaGreatDoorDotted
import Derived.WalkKit
import Derived.Below
import Derived.WalkSpells
import Derived.OwnWalkIn
import Derived.LoopIn
import Derived.IntWalk
namespace Go.Proofs.YtjggdkcfpdhoaaaGreatDoor.Take
open Go Go.RowKit Go.Proofs.YtjggdkcfpdhoaaaGreatDoorW.PrintWords Go.Proofs.YtjggdkcfpdhoaaaGreatDoor.Dots Go.Proofs.YtjggdkcfpdhoaaaGreatDoor.Dotted
set_option linter.unusedVariables false
set_option linter.unusedSimpArgs false
/-- Where a byte first stands; -1. -/
def cutI (s : ByteArray) (d : UInt8) : Int := Lib.indexByte s.data.toList d
def cutA (s : ByteArray) (d : UInt8) : ByteArray := if cutI s d < 0 then s else s.extract 0 (cutI s d).toNat
def cutB (s : ByteArray) (d : UInt8) : ByteArray := if cutI s d < 0 then ⟨#[]⟩ else s.extract ((cutI s d).toNat + 1) s.size
def cutF (s : ByteArray) (d : UInt8) : Bool := decide (0 ≤ cutI s d)
theorem cutI_hit (s : ByteArray) (d : UInt8) (i : Nat) (h : cutI s d = i) : i < s.size := (Seq.cuts_hit s d i h).1
theorem cutA_size (s : ByteArray) (d : UInt8) : (cutA s d).size ≤ s.size := by
  unfold cutA
  split
  · exact Nat.le_refl _
  · rw [ByteArray.size_extract]; omega
theorem cutB_size (s : ByteArray) (d : UInt8) : (cutB s d).size ≤ s.size := by
  unfold cutB
  split
  · exact Nat.zero_le _
  · rw [ByteArray.size_extract]; omega
set_option maxHeartbeats 1000000 in
theorem cut_calls (s : ByteArray) (d : UInt8) (hs : s.size ≤ 1000000) (w : World) : Calls Tryz.prog 15 #[.string s, .string ⟨#[d]⟩] w fun e w' =>
    e = .returned (.tuple #[.string (cutA s d), .string (cutB s d), .bool (cutF s d)]) ∧ ∃ n, w' = w.drewN n := by
  have h1 : Calls Tryz.prog 35 #[.string s, .string ⟨#[d]⟩] w fun e w' =>
      e = .returned (.tuple #[.string (cutA s d), .string (cutB s d), .bool (cutF s d)]) ∧ ∃ n, w' = w.drewN n := by
    have HI := Aside0.mk (Tryz.stringslite_Index_one s d w)
    by_cases hz : cutI s d < 0
    · have e1 : cutA s d = s := if_pos hz
      have e2 : cutB s d = ⟨#[]⟩ := if_pos hz
      have e3 : cutF s d = false := decide_eq_false (by omega)
      rw [e1, e2, e3]
      obtain ⟨z, hz2⟩ : ∃ z, z = Lib.indexByte s.data.toList d := ⟨_, rfl⟩
      have hz : z < 0 := by rw [hz2]; exact hz
      rw [← hz2] at HI
      clear hz2 e1 e2 e3
      have t1 : decide (0 ≤ z) = false := decide_eq_false (by omega)
      go_enter Tryz.func35, Tryz.ntmps35
      go_wp2_with (go_at_call 50; refine HI.out.mono ?_; rintro e w' ⟨rfl, rfl⟩)
      refine bodyPost_ret (v := .tuple #[.string s, .string ⟨#[]⟩, .bool false]) (by simp [results, Tryz.results35, go_sem]) rfl ⟨rfl, 0, rfl⟩
    · obtain ⟨i, hi⟩ : ∃ i : Nat, cutI s d = i := ⟨(cutI s d).toNat, by omega⟩
      have hil := cutI_hit s d i hi
      have e1 : cutA s d = s.extract 0 i := by rw [cutA, if_neg hz, hi]; rfl
      have e2 : cutB s d = s.extract (i + 1) s.size := by rw [cutB, if_neg hz, hi]; rfl
      have e3 : cutF s d = true := decide_eq_true (by omega)
      rw [e1, e2, e3]
      have hi2 : Lib.indexByte s.data.toList d = i := hi
      rw [hi2] at HI
      clear hi hi2 hz e1 e2 e3
      have t1 : decide (0 ≤ (i : Int)) = true := decide_eq_true (by omega)
      have hw1 : wrap64 (i : Int) = i := by unfold wrap64; omega
      have hw2 : wrap64 ((i : Int) + 1) = i + 1 := by unfold wrap64; omega
      have hle : i ≤ s.size := by omega
      have hle1 : i + 1 ≤ s.size := by omega
      go_enter Tryz.func35, Tryz.ntmps35
      go_wp2_with (go_at_call 50; refine HI.out.mono ?_; rintro e w' ⟨rfl, rfl⟩)
      go_region
      go_wp2
      refine bodyPost_ret (v := .tuple #[.string (s.extract 0 i), .string (s.extract (i + 1) s.size), .bool true]) (by simp [results, Tryz.results35, go_sem]) rfl ⟨rfl, 1, rfl⟩
  have H1 := Aside0.mk h1
  clear h1
  go_enter Tryz.func15, Tryz.ntmps15
  go_wp2_with (go_at_call 35; refine H1.out.mono ?_; rintro e w' ⟨rfl, n, rfl⟩)
  refine bodyPost_ret (v := .tuple #[.string (cutA s d), .string (cutB s d), .bool (cutF s d)]) (by simp [results, Tryz.results15, go_sem]) rfl ⟨rfl, n, rfl⟩
def emptyB : ByteArray := ⟨#[]⟩
def preF (s : ByteArray) (d : UInt8) : Bool := Lib.hasPrefix s.data.toList [d]
def preT (s : ByteArray) (d : UInt8) : ByteArray := ⟨(Lib.trimPrefix s.data.toList [d]).toArray⟩
theorem preT_size (s : ByteArray) (d : UInt8) : (preT s d).size ≤ s.size := by
  have e : (preT s d).size = (Lib.trimPrefix s.data.toList [d]).length := by show (Lib.trimPrefix s.data.toList [d]).toArray.size = _; simp
  have e2 : s.data.toList.length = s.size := data_length s
  rw [e, ← e2]
  unfold Lib.trimPrefix
  split <;> simp
theorem prefix_calls (s : ByteArray) (d : UInt8) (w : World) : Calls Tryz.prog 55 #[.string s, .string ⟨#[d]⟩] w fun e w' =>
    e = .returned (.tuple #[.string (preT s d), .bool (preF s d)]) ∧ w' = w := Tryz.strings_CutPrefix s ⟨#[d]⟩ w
def takeG (b1 b2 b3 b4 b5 b6 : Bool) (l d q : ByteArray) : Option (ByteArray × ByteArray × ByteArray) :=
  if b1 = false then none else if b2 = false then none else if b3 = true then some (l, d, q) else if b4 = false then none else if b5 = false then none else if b6 = false then none else some (l, d, q)
/-- The path at a text's beginning: its two parts, what is behind it; i: what stands between the brackets. -/
def takeI (s i : ByteArray) : Option (ByteArray × ByteArray × ByteArray) :=
  takeG (preF (cutA s 62) 60) (cutF s 62) i.toList.isEmpty (cutF i 64) (localB (cutA i 64)) (domainB (cutB i 64)) (cutA i 64) (cutB i 64) (cutB s 62)
def takeB (s : ByteArray) : Option (ByteArray × ByteArray × ByteArray) := takeI s (preT (cutA s 62) 60)
def takeV (ev : Value) : Option (ByteArray × ByteArray × ByteArray) → Value
  | some (l, d, r) => .tuple #[.agg #[.string l, .string d], .string r, .nilIface]
  | none => .tuple #[.agg #[.string emptyB, .string emptyB], .string emptyB, ev]
/-- What lies there when all is cut: the result's place, the path's. -/
structure TW (w : World) (l d : ByteArray) (ev : Value) (W : World) : Prop where
  e : W.cell? ⟨1, 0, none⟩ = some ev
  ra : W.cell? ⟨w.heap.size, 0, none⟩ = some (.string ⟨#[]⟩)
  rb : W.cell? ⟨w.heap.size, 1, none⟩ = some (.string ⟨#[]⟩)
  pa : W.cell? ⟨w.heap.size + 1, 0, none⟩ = some (.string l)
  pb : W.cell? ⟨w.heap.size + 1, 1, none⟩ = some (.string d)
  fa : W.frozen? ⟨w.heap.size, 0, none⟩ = false
  fb : W.frozen? ⟨w.heap.size, 1, none⟩ = false
  sz : w.heap.size + 2 ≤ W.heap.size
  bel : Below w.heap.size w W
theorem TW.start (w : World) (l d : ByteArray) (ev : Value) (n : Nat) (hE : w.cell? ⟨1, 0, none⟩ = some ev) :
    TW w l d ev (((w.alloc (Obj.cells #[Value.string ⟨#[]⟩, Value.string ⟨#[]⟩] 24)).drewN n).alloc (Obj.cells #[Value.string l, Value.string d] 24)) := by
  have hlt : 1 < w.heap.size := World.block_lt_of_cell? w _ hE
  have e1 : ((w.alloc (Obj.cells #[Value.string ⟨#[]⟩, Value.string ⟨#[]⟩] 24)).drewN n).heap.size = w.heap.size + 1 := World.size_alloc _ _
  have old : ∀ b i, b < w.heap.size + 1 → (((w.alloc (Obj.cells #[Value.string ⟨#[]⟩, Value.string ⟨#[]⟩] 24)).drewN n).alloc (Obj.cells #[Value.string l, Value.string d] 24)).cell? ⟨b, i, none⟩ = (w.alloc (Obj.cells #[Value.string ⟨#[]⟩, Value.string ⟨#[]⟩] 24)).cell? ⟨b, i, none⟩ := fun b i h => World.cell?_alloc_past _ _ _ (by rw [e1]; exact h)
  have oldf : ∀ b i, b < w.heap.size + 1 → (((w.alloc (Obj.cells #[Value.string ⟨#[]⟩, Value.string ⟨#[]⟩] 24)).drewN n).alloc (Obj.cells #[Value.string l, Value.string d] 24)).frozen? ⟨b, i, none⟩ = (w.alloc (Obj.cells #[Value.string ⟨#[]⟩, Value.string ⟨#[]⟩] 24)).frozen? ⟨b, i, none⟩ := fun b i h => World.frozen?_alloc_past _ _ _ (by rw [e1]; exact h)
  refine ⟨?_, ?_, ?_, ?_, ?_, ?_, ?_, ?_, ?_⟩
  · rw [old _ _ (by omega), World.cell?_alloc_past _ _ _ hlt]; exact hE
  · rw [old _ _ (by omega), World.cell?_alloc_at _ _ _ _ rfl]; rfl
  · rw [old _ _ (by omega), World.cell?_alloc_at _ _ _ _ rfl]; rfl
  · rw [World.cell?_alloc_at _ _ _ _ e1.symm]; rfl
  · rw [World.cell?_alloc_at _ _ _ _ e1.symm]; rfl
  · rw [oldf _ _ (by omega), World.frozen?_alloc_at _ _ _ _ rfl]
  · rw [oldf _ _ (by omega), World.frozen?_alloc_at _ _ _ _ rfl]
  · rw [World.size_alloc, e1]; omega
  · exact (pw_below_drewN ((Below.refl _ w).alloc (Nat.le_refl _) _) n).alloc (by rw [e1]; omega) _
theorem TW.below {w W W' : World} {l d : ByteArray} {ev : Value} (h : TW w l d ev W) (hb : Below W.heap.size W W') : TW w l d ev W' := by
  have h2 := h.sz
  have h1 : 1 < W.heap.size := World.block_lt_of_cell? W _ h.e
  have c : ∀ b i v, b < W.heap.size → W.cell? ⟨b, i, none⟩ = some v → W'.cell? ⟨b, i, none⟩ = some v := fun b i v hlt hc => (hb.cell (p := ⟨b, i, none⟩) hlt).trans hc
  exact ⟨c _ _ _ h1 h.e, c _ _ _ (by omega) h.ra, c _ _ _ (by omega) h.rb, c _ _ _ (by omega) h.pa, c _ _ _ (by omega) h.pb,
    (hb.frozen (p := ⟨w.heap.size, 0, none⟩) (by show w.heap.size < _; omega)).trans h.fa, (hb.frozen (p := ⟨w.heap.size, 1, none⟩) (by show w.heap.size < _; omega)).trans h.fb, Nat.le_trans h2 hb.size, h.bel.trans (hb.mono (by omega))⟩
set_option maxHeartbeats 2000000 in
theorem take_calls (s : ByteArray) (hs : s.size ≤ 1000000) (ev : Value) (w : World) (hE : w.cell? ⟨1, 0, none⟩ = some ev) :
    Calls Tryz.prog 54 #[.string s] w fun e w' => e = .returned (takeV ev (takeB s)) ∧ Below w.heap.size w w' := by
  have hlt : 1 < w.heap.size := World.block_lt_of_cell? w _ hE
  have s1 := cutA_size s 62
  obtain ⟨r, hr⟩ : ∃ r, r = takeB s := ⟨_, rfl⟩
  rw [← hr]
  unfold takeB takeI at hr
  have HC1 := Aside0.mk (fun W => cut_calls s 62 hs W)
  obtain ⟨i0, hi0⟩ : ∃ i0, i0 = cutA s 62 := ⟨_, rfl⟩
  have s2 := preT_size i0 60
  have HP := Aside0.mk (fun W => prefix_calls i0 60 W)
  rw [← hi0] at hr HC1 s1
  obtain ⟨i, hi⟩ : ∃ i, i = preT i0 60 := ⟨_, rfl⟩
  rw [← hi] at hr HP s2
  have HC2 := Aside0.mk (fun W => cut_calls i 64 (by omega) W)
  have s3 := cutA_size i 64
  have s4 := cutB_size i 64
  obtain ⟨l, hl⟩ : ∃ l, l = cutA i 64 := ⟨_, rfl⟩
  obtain ⟨d, hd⟩ : ∃ d, d = cutB i 64 := ⟨_, rfl⟩
  obtain ⟨q, hq⟩ : ∃ q, q = cutB s 62 := ⟨_, rfl⟩
  rw [← hl] at hr HC2 s3
  rw [← hd] at hr HC2 s4
  rw [← hq] at hr HC1
  have HL := Aside0.mk (fun W => local_calls l (by omega) W)
  have HD := Aside0.mk (fun W => domain_calls d (by omega) W)
  clear hi0 hi hl hd hq s1 s2 s3 s4
  go_enter Tryz.func54, Tryz.ntmps54
  go_upto_region 5 with (first
      | (go_at_call 15; first | (with_reducible refine (HC1.out _).mono ?_; rintro e w' ⟨rfl, n1, rfl⟩) | (with_reducible refine (HC2.out _).mono ?_; rintro e w' ⟨rfl, n2, rfl⟩))
      | (go_at_call 55; refine (HP.out _).mono ?_; rintro e w' ⟨rfl, rfl⟩))
  have HT := Aside0.mk (TW.start w l d ev (n1 + n2) hE)
  obtain ⟨W, hW⟩ : ∃ W, W = (((w.alloc (Obj.cells #[Value.string ⟨#[]⟩, Value.string ⟨#[]⟩] 24)).drewN (n1 + n2)).alloc (Obj.cells #[Value.string l, Value.string d] 24)) := ⟨_, rfl⟩
  rw [← hW] at HT ⊢
  clear hW
  have ha0 := HT.out.e; have hb0 := HT.out.ra; have hc0 := HT.out.rb; have hd0 := HT.out.pa; have he0 := HT.out.pb; have hf0 := HT.out.fa; have hg0 := HT.out.fb
  clear HC1 HC2 HP
  cases b1 : preF i0 60 with
  | false =>
    rw [b1] at hr
    have hr : r = none := hr
    subst hr
    go_wp2
    go_region
    go_wp2
    refine bodyPost_ret (v := takeV ev (none)) (by simp [results, Tryz.results54, go_sem, takeV, emptyB, hb0, hc0]) rfl ⟨rfl, pw_below_drewN ((HT.out.bel.setCell (p := ⟨w.heap.size, 0, none⟩) (Nat.le_refl _) _).setCell (p := ⟨w.heap.size, 1, none⟩) (Nat.le_refl _) _) 1⟩
  | true =>
    rw [b1] at hr
    cases b2 : cutF s 62 with
    | false =>
      rw [b2] at hr
      have hr : r = none := hr
      subst hr
      go_wp2
      go_region
      go_wp2
      refine bodyPost_ret (v := takeV ev (none)) (by simp [results, Tryz.results54, go_sem, takeV, emptyB, hb0, hc0]) rfl ⟨rfl, pw_below_drewN ((HT.out.bel.setCell (p := ⟨w.heap.size, 0, none⟩) (Nat.le_refl _) _).setCell (p := ⟨w.heap.size, 1, none⟩) (Nat.le_refl _) _) 1⟩
    | true =>
      rw [b2] at hr
      cases b3 : i.toList.isEmpty with
      | true =>
        rw [b3] at hr
        have hr : r = some (l, d, q) := hr
        subst hr
        go_wp2
        refine bodyPost_ret (v := takeV ev (some (l, d, q))) (by simp [results, Tryz.results54, go_sem, takeV, emptyB, hb0, hc0]) rfl ⟨rfl, (HT.out.bel.setCell (p := ⟨w.heap.size, 0, none⟩) (Nat.le_refl _) _).setCell (p := ⟨w.heap.size, 1, none⟩) (Nat.le_refl _) _⟩
      | false =>
        rw [b3] at hr
        cases b4 : cutF i 64 with
        | false =>
          rw [b4] at hr
          have hr : r = none := hr
          subst hr
          go_wp2
          go_region
          go_wp2
          refine bodyPost_ret (v := takeV ev (none)) (by simp [results, Tryz.results54, go_sem, takeV, emptyB, hb0, hc0]) rfl ⟨rfl, pw_below_drewN ((HT.out.bel.setCell (p := ⟨w.heap.size, 0, none⟩) (Nat.le_refl _) _).setCell (p := ⟨w.heap.size, 1, none⟩) (Nat.le_refl _) _) 1⟩
        | true =>
          rw [b4] at hr
          cases b5 : localB l with
          | false =>
            rw [b5] at hr HL
            have hr : r = none := hr
            subst hr
            go_wp2_with (first
              | (go_at_call 81; refine (HL.out _).mono ?_; rintro e W1 ⟨rfl, hb1⟩; have HT1 := Aside0.mk (HT.out.below hb1); clear hb1; have ha1 := HT1.out.e; have hb1 := HT1.out.ra; have hc1 := HT1.out.rb; have hd1 := HT1.out.pa; have he1 := HT1.out.pb; have hf1 := HT1.out.fa; have hg1 := HT1.out.fb)
              | (go_at_call 37; refine (HD.out _).mono ?_; rintro e W2 ⟨rfl, hb2⟩; have HT2 := Aside0.mk (HT1.out.below hb2); clear hb2; have ha2 := HT2.out.e; have hb2 := HT2.out.ra; have hc2 := HT2.out.rb; have hd2 := HT2.out.pa; have he2 := HT2.out.pb; have hf2 := HT2.out.fa; have hg2 := HT2.out.fb))
            go_region
            go_wp2
            refine bodyPost_ret (v := takeV ev (none)) (by simp [results, Tryz.results54, go_sem, takeV, emptyB, hb1, hc1]) rfl ⟨rfl, pw_below_drewN ((HT1.out.bel.setCell (p := ⟨w.heap.size, 0, none⟩) (Nat.le_refl _) _).setCell (p := ⟨w.heap.size, 1, none⟩) (Nat.le_refl _) _) 1⟩
          | true =>
            rw [b5] at hr HL
            cases b6 : domainB d with
            | false =>
              rw [b6] at hr HD
              have hr : r = none := hr
              subst hr
              go_wp2_with (first
                | (go_at_call 81; refine (HL.out _).mono ?_; rintro e W1 ⟨rfl, hb1⟩; have HT1 := Aside0.mk (HT.out.below hb1); clear hb1; have ha1 := HT1.out.e; have hb1 := HT1.out.ra; have hc1 := HT1.out.rb; have hd1 := HT1.out.pa; have he1 := HT1.out.pb; have hf1 := HT1.out.fa; have hg1 := HT1.out.fb)
                | (go_at_call 37; refine (HD.out _).mono ?_; rintro e W2 ⟨rfl, hb2⟩; have HT2 := Aside0.mk (HT1.out.below hb2); clear hb2; have ha2 := HT2.out.e; have hb2 := HT2.out.ra; have hc2 := HT2.out.rb; have hd2 := HT2.out.pa; have he2 := HT2.out.pb; have hf2 := HT2.out.fa; have hg2 := HT2.out.fb))
              go_region
              go_wp2
              refine bodyPost_ret (v := takeV ev (none)) (by simp [results, Tryz.results54, go_sem, takeV, emptyB, hb2, hc2]) rfl ⟨rfl, pw_below_drewN ((HT2.out.bel.setCell (p := ⟨w.heap.size, 0, none⟩) (Nat.le_refl _) _).setCell (p := ⟨w.heap.size, 1, none⟩) (Nat.le_refl _) _) 1⟩
            | true =>
              rw [b6] at hr HD
              have hr : r = some (l, d, q) := hr
              subst hr
              go_wp2_with (first
                | (go_at_call 81; refine (HL.out _).mono ?_; rintro e W1 ⟨rfl, hb1⟩; have HT1 := Aside0.mk (HT.out.below hb1); clear hb1; have ha1 := HT1.out.e; have hb1 := HT1.out.ra; have hc1 := HT1.out.rb; have hd1 := HT1.out.pa; have he1 := HT1.out.pb; have hf1 := HT1.out.fa; have hg1 := HT1.out.fb)
                | (go_at_call 37; refine (HD.out _).mono ?_; rintro e W2 ⟨rfl, hb2⟩; have HT2 := Aside0.mk (HT1.out.below hb2); clear hb2; have ha2 := HT2.out.e; have hb2 := HT2.out.ra; have hc2 := HT2.out.rb; have hd2 := HT2.out.pa; have he2 := HT2.out.pb; have hf2 := HT2.out.fa; have hg2 := HT2.out.fb))
              refine bodyPost_ret (v := takeV ev (some (l, d, q))) (by simp [results, Tryz.results54, go_sem, takeV, emptyB, hb2, hc2]) rfl ⟨rfl, (HT2.out.bel.setCell (p := ⟨w.heap.size, 0, none⟩) (Nat.le_refl _) _).setCell (p := ⟨w.heap.size, 1, none⟩) (Nat.le_refl _) _⟩
end Go.Proofs.YtjggdkcfpdhoaaaGreatDoor.Take
