/- The document's Parse of layer 19, walked. -/
import Derived.Test.YtjggdkcfpdhoaaaGreatDoorQOpt
import Derived.Test.YtjggdkcfpdhoaaaGreatDoorBase
import Derived.Deep.DeepCutAuto
namespace Go.Proofs.YtjggdkcfpdhoaaaGreatDoor.RefParse
open Go Go.RowKit Go.Proofs.YtjggdkcfpdhoaaaGreatDoorW.PrintWords Go.Proofs.YtjggdkcfpdhoaaaGreatDoor.Dots Go.Proofs.YtjggdkcfpdhoaaaGreatDoor.Large Go.Proofs.YtjggdkcfpdhoaaaGreatDoor.Path Go.Proofs.YtjggdkcfpdhoaaaGreatDoor.Dotted Go.Proofs.YtjggdkcfpdhoaaaGreatDoor.Take Go.Proofs.YtjggdkcfpdhoaaaGreatDoor.Number Go.Proofs.YtjggdkcfpdhoaaaGreatDoor.Opt Go.Proofs.YtjggdkcfpdhoaaaGreatDoor.Mail Go.Proofs.YtjggdkcfpdhoaaaGreatDoor.Read Go.Proofs.YtjggdkcfpdhoaaaGreatDoor.Parse Go.Proofs.YtjggdkcfpdhoaaaGreatDoor.QRef3 Go.Proofs.YtjggdkcfpdhoaaaGreatDoor.QRef4 Go.Proofs.YtjggdkcfpdhoaaaGreatDoor.QOpt
set_option linter.unusedVariables false
set_option linter.unusedSimpArgs false
/-- What lies there while the document's Parse runs: the result's place, the command's. -/
structure QW (w : World) (Q : Nat) (c : CmdR) (W : World) : Prop where
  r0 : CmdAt w.heap.size emptyC W
  cq : CmdAt Q c W
  lt : w.heap.size < Q
  bel : Below w.heap.size w W
theorem QW.below {w W W2 : World} {Q : Nat} {c : CmdR} (h : QW w Q c W) (hb : Below W.heap.size W W2) : QW w Q c W2 :=
  ⟨h.r0.below hb, h.cq.below hb, h.lt, h.bel.trans (hb.mono h.bel.size)⟩
theorem CmdAt.other {B : Nat} {c : CmdR} {W : World} (h : CmdAt B c W) {p : Addr} (hp : p.block ≠ B) (v : Value) : CmdAt B c (W.setCell p v) :=
  h.heap (Below.heap_setCell W p v B (fun e => hp e.symm))
theorem QW.setA {w W : World} {Q : Nat} {c : CmdR} (h : QW w Q c W) (a : ByteArray) : QW w Q { c with a := a } (W.setCell ⟨Q, 3, none⟩ (.string a)) :=
  ⟨CmdAt.other h.r0 (fun e => by have := h.lt; simp only at e; omega) _, h.cq.setA a, h.lt, h.bel.setCell (Nat.le_of_lt h.lt) _⟩
theorem QW.setN {w W : World} {Q : Nat} {c : CmdR} (h : QW w Q c W) (n : Int) : QW w Q { c with n := n } (W.setCell ⟨Q, 4, none⟩ (.int .i64 n)) :=
  ⟨CmdAt.other h.r0 (fun e => by have := h.lt; simp only at e; omega) _, h.cq.setN n, h.lt, h.bel.setCell (Nat.le_of_lt h.lt) _⟩
theorem QW.setB {w W : World} {Q : Nat} {c : CmdR} (h : QW w Q c W) (b : ByteArray) : QW w Q { c with b := b } (W.setCell ⟨Q, 5, none⟩ (.string b)) :=
  ⟨CmdAt.other h.r0 (fun e => by have := h.lt; simp only at e; omega) _, h.cq.setB b, h.lt, h.bel.setCell (Nat.le_of_lt h.lt) _⟩
theorem QW.setP {w W : World} {Q : Nat} {c : CmdR} (h : QW w Q c W) (l d : ByteArray) : QW w Q { c with l := l, d := d } ((W.setCell ⟨Q, 1, none⟩ (.string l)).setCell ⟨Q, 2, none⟩ (.string d)) :=
  ⟨CmdAt.other (CmdAt.other h.r0 (fun e => by have := h.lt; simp only at e; omega) _) (fun e => by have := h.lt; simp only at e; omega) _, h.cq.setP l d, h.lt, (h.bel.setCell (Nat.le_of_lt h.lt) _).setCell (Nat.le_of_lt h.lt) _⟩
theorem refDomain_below (s : ByteArray) (hs : s.size ≤ 1000000) (w : World) : Calls Tryz.prog 21 #[.string s] w fun e w' => e = .returned (.bool (domainB s)) ∧ Below w.heap.size w w' := by
  refine (refDomain_calls s hs w).mono ?_
  rintro e w' ⟨he, n, rfl⟩
  exact ⟨he, pw_below_drewN (Below.refl _ w) n⟩
theorem refDigits_below (s : ByteArray) (w : World) : Calls Tryz.prog 25 #[.string s] w fun e w' => e = .returned (.int .i64 (digR s)) ∧ Below w.heap.size w w' := by
  refine (refDigits_calls s w).mono ?_
  rintro e w' ⟨he, n, rfl⟩
  exact ⟨he, pw_below_drewN (Below.refl _ w) n⟩
theorem same_bytes {a b : ByteArray} (h : a.toList = b.toList) : a = b := toList_inj h
def verbC (v : ByteArray) : CmdR := { emptyC with v := v }
def HELO : ByteArray := ⟨#[72, 69, 76, 79]⟩
def EHLO : ByteArray := ⟨#[69, 72, 76, 79]⟩
def MAIL : ByteArray := ⟨#[77, 65, 73, 76]⟩
def RCPT : ByteArray := ⟨#[82, 67, 80, 84]⟩
def DATA : ByteArray := ⟨#[68, 65, 84, 65]⟩
def RSET : ByteArray := ⟨#[82, 83, 69, 84]⟩
def NOOP : ByteArray := ⟨#[78, 79, 79, 80]⟩
def QUIT : ByteArray := ⟨#[81, 85, 73, 84]⟩
def VRFY : ByteArray := ⟨#[86, 82, 70, 89]⟩
/-- What a verb's way answers. -/
def outC : Option CmdR → CmdR × Int
  | none => (emptyC, 501)
  | some c => (c, 0)
theorem parse_of (s v q : ByteArray) (f : Bool) (hv : v = largeB (cutA s 32)) (hq : q = cutB s 32) (hf : f = cutF s 32) :
    parseC s = if Lib.containsS verbsL v = false then (emptyC, 500) else outC (readO (verbC v) q f) := by
  rw [parseC, ← hv, ← hq, ← hf]
  split
  · rfl
  · have h : readO { emptyC with v := v } q f = readO (verbC v) q f := rfl
    rw [h]
    cases readO (verbC v) q f <;> rfl
theorem read_dom (v q : ByteArray) (f : Bool) (h : v = HELO ∨ v = EHLO) : readO (verbC v) q f = if domainB q = true then some { verbC v with a := q } else none := by
  rcases h with rfl | rfl
  · rw [readO, show ((verbC HELO).v.toList == [72, 69, 76, 79]) = true by decide +kernel]
    rfl
  · rw [readO, show ((verbC EHLO).v.toList == [72, 69, 76, 79]) = false by decide +kernel, show ((verbC EHLO).v.toList == [69, 72, 76, 79]) = true by decide +kernel]
    rfl
theorem read_bare (v q : ByteArray) (f : Bool) (h : v = DATA ∨ v = RSET ∨ v = QUIT) : readO (verbC v) q f = if f = true then none else some (verbC v) := by
  rcases h with rfl | rfl | rfl
  · rw [readO, show ((verbC DATA).v.toList == [72, 69, 76, 79]) = false by decide +kernel, show ((verbC DATA).v.toList == [69, 72, 76, 79]) = false by decide +kernel, show ((verbC DATA).v.toList == [77, 65, 73, 76]) = false by decide +kernel, show ((verbC DATA).v.toList == [82, 67, 80, 84]) = false by decide +kernel, show ((verbC DATA).v.toList == [78, 79, 79, 80]) = false by decide +kernel, show ((verbC DATA).v.toList == [86, 82, 70, 89]) = false by decide +kernel]
    rfl
  · rw [readO, show ((verbC RSET).v.toList == [72, 69, 76, 79]) = false by decide +kernel, show ((verbC RSET).v.toList == [69, 72, 76, 79]) = false by decide +kernel, show ((verbC RSET).v.toList == [77, 65, 73, 76]) = false by decide +kernel, show ((verbC RSET).v.toList == [82, 67, 80, 84]) = false by decide +kernel, show ((verbC RSET).v.toList == [78, 79, 79, 80]) = false by decide +kernel, show ((verbC RSET).v.toList == [86, 82, 70, 89]) = false by decide +kernel]
    rfl
  · rw [readO, show ((verbC QUIT).v.toList == [72, 69, 76, 79]) = false by decide +kernel, show ((verbC QUIT).v.toList == [69, 72, 76, 79]) = false by decide +kernel, show ((verbC QUIT).v.toList == [77, 65, 73, 76]) = false by decide +kernel, show ((verbC QUIT).v.toList == [82, 67, 80, 84]) = false by decide +kernel, show ((verbC QUIT).v.toList == [78, 79, 79, 80]) = false by decide +kernel, show ((verbC QUIT).v.toList == [86, 82, 70, 89]) = false by decide +kernel]
    rfl
theorem read_noop (q : ByteArray) (f : Bool) : readO (verbC NOOP) q f = some { verbC NOOP with a := q } := by
  rw [readO, show ((verbC NOOP).v.toList == [72, 69, 76, 79]) = false by decide +kernel, show ((verbC NOOP).v.toList == [69, 72, 76, 79]) = false by decide +kernel, show ((verbC NOOP).v.toList == [77, 65, 73, 76]) = false by decide +kernel, show ((verbC NOOP).v.toList == [82, 67, 80, 84]) = false by decide +kernel, show ((verbC NOOP).v.toList == [78, 79, 79, 80]) = true by decide +kernel]
  rfl
theorem read_vrfy (q : ByteArray) (f : Bool) : readO (verbC VRFY) q f = if q.toList.isEmpty = true then none else some { verbC VRFY with a := q } := by
  rw [readO, show ((verbC VRFY).v.toList == [72, 69, 76, 79]) = false by decide +kernel, show ((verbC VRFY).v.toList == [69, 72, 76, 79]) = false by decide +kernel, show ((verbC VRFY).v.toList == [77, 65, 73, 76]) = false by decide +kernel, show ((verbC VRFY).v.toList == [82, 67, 80, 84]) = false by decide +kernel, show ((verbC VRFY).v.toList == [78, 79, 79, 80]) = false by decide +kernel, show ((verbC VRFY).v.toList == [86, 82, 70, 89]) = true by decide +kernel]
  rfl
theorem read_mail (q : ByteArray) (f : Bool) : readO (verbC MAIL) q f = mailO (verbC MAIL) q fromS := by
  rw [readO, show ((verbC MAIL).v.toList == [72, 69, 76, 79]) = false by decide +kernel, show ((verbC MAIL).v.toList == [69, 72, 76, 79]) = false by decide +kernel, show ((verbC MAIL).v.toList == [77, 65, 73, 76]) = true by decide +kernel]
  rfl
theorem read_rcpt (q : ByteArray) (f : Bool) : readO (verbC RCPT) q f = mailO (verbC RCPT) q toS := by
  rw [readO, show ((verbC RCPT).v.toList == [72, 69, 76, 79]) = false by decide +kernel, show ((verbC RCPT).v.toList == [69, 72, 76, 79]) = false by decide +kernel, show ((verbC RCPT).v.toList == [77, 65, 73, 76]) = false by decide +kernel, show ((verbC RCPT).v.toList == [82, 67, 80, 84]) = true by decide +kernel]
  rfl
theorem verbs_iff (v : ByteArray) : Lib.containsS verbsL v = true ↔ v = HELO ∨ v = EHLO ∨ v = MAIL ∨ v = RCPT ∨ v = DATA ∨ v = RSET ∨ v = NOOP ∨ v = QUIT ∨ v = VRFY := by
  rw [Lib.containsS_iff]
  simp only [verbsL, List.mem_cons, List.not_mem_nil, or_false]
  rfl
def cmdQ (c : CmdR) : Obj := .cells #[.string c.v, .string c.l, .string c.d, .string c.a, .int .i64 c.n, .string c.b] 29
theorem cmdAt_newQ (w : World) (c : CmdR) : CmdAt w.heap.size c (w.alloc (cmdQ c)) :=
  ⟨World.cell?_alloc_at _ _ _ _ rfl, World.cell?_alloc_at _ _ _ _ rfl, World.cell?_alloc_at _ _ _ _ rfl, World.cell?_alloc_at _ _ _ _ rfl, World.cell?_alloc_at _ _ _ _ rfl, World.cell?_alloc_at _ _ _ _ rfl, fun i => World.frozen?_alloc_at _ _ _ _ rfl⟩
theorem QW.new {w W : World} (v : ByteArray) (hb : Below w.heap.size w W) (hr : CmdAt w.heap.size emptyC W) : QW w W.heap.size { emptyC with v := v } (W.alloc (cmdQ { emptyC with v := v })) :=
  have h0 : Below W.heap.size W (W.alloc (cmdQ { emptyC with v := v })) := (Below.refl _ W).alloc (Nat.le_refl _) _
  ⟨hr.below h0, cmdAt_newQ W _, hr.lt, hb.trans (h0.mono hb.size)⟩
theorem cut_ends (s : ByteArray) (k : Nat) (hk : k ≤ s.size) (hno : (32 : UInt8) ∉ s.data.toList.take k) (hend : k = s.size ∨ (k < s.size ∧ bt s (k : Int) = 32)) :
    cutA s 32 = s.extract 0 k ∧ cutF s 32 = decide (k < s.size) ∧ cutB s 32 = if k < s.size then s.extract (k + 1) s.size else ⟨#[]⟩ := by
  rcases hend with rfl | ⟨hlt, h32⟩
  · have hall : s.data.toList.take s.size = s.data.toList := List.take_of_length_le (by rw [data_length]; exact Nat.le_refl _)
    rw [hall] at hno
    have hc : cutI s 32 = -1 := none_of 32 s.data.toList hno
    refine ⟨?_, ?_, ?_⟩
    · rw [cutA, hc, if_pos (by decide)]
      apply data_inj
      rw [cut_data, List.drop_zero, Nat.sub_zero, hall]
    · rw [cutF, hc, decide_eq_false (Nat.lt_irrefl _)]
      rfl
    · rw [cutB, hc, if_pos (by decide), if_neg (Nat.lt_irrefl _)]
  · have hc : cutI s 32 = k := first_of 32 s.data.toList k (by rw [data_at s k hlt]; congr 1; exact (at_eq s k hlt 32).2 (by rw [h32]; rfl)) hno
    refine ⟨?_, ?_, ?_⟩
    · rw [cutA, hc, if_neg (by omega)]
      rfl
    · rw [cutF, hc, decide_eq_true hlt]
      simp
    · rw [cutB, hc, if_neg (by omega), if_pos hlt]
      rfl
set_option maxRecDepth 100000 in
set_option maxHeartbeats 8000000 in
theorem refParse_calls (s : ByteArray) (hs : s.size ≤ 1000000) (w : World) :
    Calls Tryz.prog 8 #[.string s] w fun e w' => e = .returned (.tuple #[cmdV (parseC s).1, .int .i64 (parseC s).2]) ∧ Below w.heap.size w w' := by
  have HE := Aside0.mk (cut_ends s)
  obtain ⟨r, hr⟩ : ∃ r, r = parseC s := ⟨_, rfl⟩
  rw [← hr]
  have HR := Aside0.mk hr
  clear hr
  go_enter Tryz.func8, Tryz.ntmps8
  have hr0 := cmdAt_newQ w emptyC
  have hb0 : Below w.heap.size w (w.alloc (cmdQ emptyC)) := (Below.refl _ w).alloc (Nat.le_refl _) _
  have HR0 := Aside0.mk hr0
  have HB0 := Aside0.mk hb0
  clear hr0 hb0
  go_upto_block 0 with (fail)
  go_cut [4] (fun v4 wc => ∃ k : Nat, v4 = .int .i64 k ∧ k ≤ s.size ∧ wc = w.alloc (cmdQ emptyC) ∧ Aside0 (cutA s 32 = s.extract 0 k ∧ cutF s 32 = decide (k < s.size) ∧ cutB s 32 = if k < s.size then s.extract (k + 1) s.size else ⟨#[]⟩))
  case first =>
    go_wp2
    go_loop [4] (fun i => ∃ k : Nat, k ≤ s.size ∧ i = .int .i64 k ∧ Aside0 ((32 : UInt8) ∉ s.data.toList.take k)) (fun i => s.size - (intOf i).toNat)
    case atStart => exact ⟨0, Nat.zero_le _, rfl, ⟨by simp⟩⟩
    case round =>
      obtain ⟨k, hk, rfl, HN⟩ := hrel
      by_cases hlt : k < s.size
      · have hx := bt_is s k hlt
        have hda := data_at s k hlt
        have hae := at_eq s k hlt 32
        obtain ⟨c, hc⟩ : ∃ c, c = bt s (k : Int) := ⟨_, rfl⟩
        have HC := Aside0.mk hc
        rw [← hc] at hx hda hae
        have t1 : decide ((k : Int) < (s.size : Int)) = true := decide_eq_true (by omega)
        by_cases h32 : c = 32
        · have HEN := Aside0.mk (HE.out k hk HN.out (.inr ⟨hlt, by rw [← hc]; exact h32⟩))
          have t2 : (c == 32) = true := by simpa using h32
          clear hda hae hc
          subst h32
          go_wp2
          go_meet
          case rel => exact ⟨k, rfl, hk, rfl, HEN⟩
        · have HN2 := Aside0.mk (show (32 : UInt8) ∉ s.data.toList.take (k + 1) by
            rw [List.take_add_one, hda]
            intro hm
            rcases List.mem_append.1 hm with h | h
            · exact HN.out h
            · have : (32 : UInt8) = c.toNat.toUInt8 := by simpa using h
              exact h32 (by have := hae.1 this.symm; simpa using this))
          have t2 : (c == 32) = false := by simpa using h32
          clear hda hae hc
          go_wp2
          go_round
          case rel => exact ⟨k + 1, by omega, by go_num, HN2⟩
          case measure => simp [intOf]; omega
      · have hke : k = s.size := by omega
        have HEN := Aside0.mk (HE.out k hk HN.out (.inl hke))
        have t1 : decide ((k : Int) < (s.size : Int)) = false := decide_eq_false (by omega)
        have t2 : decide (k < s.size) = false := decide_eq_false hlt
        clear hke
        go_wp2
        go_meet
        case rel => exact ⟨k, rfl, hk, rfl, HEN⟩
  case rest =>
    obtain ⟨k, rfl, hk, rfl, HK⟩ := hcut
    have hz1 := cutA_size s 32
    have hz2 := cutB_size s 32
    have HL := Aside0.mk (fun W => refLarge2_calls (cutA s 32) (by omega) W)
    obtain ⟨A, hA⟩ : ∃ A, A = cutA s 32 := ⟨_, rfl⟩
    obtain ⟨v, hv⟩ : ∃ v, v = largeB (cutA s 32) := ⟨_, rfl⟩
    rw [← hv, ← hA] at HL
    have hAe : s.extract 0 k = A := by rw [hA, HK.out.1]
    have HV := Aside0.mk hv
    clear hA hv
    go_upto_if 36 with (go_at_call 20; (try rw [hAe]); refine (HL.out _).mono ?_; rintro e w1 ⟨rfl, hb1⟩; have HR1 := Aside0.mk (HR0.out.below hb1); have HB1 := Aside0.mk (HB0.out.trans (hb1.mono HB0.out.size)); clear hb1)
    obtain ⟨f, hf⟩ : ∃ f, f = decide (k < s.size) := ⟨_, rfl⟩
    obtain ⟨q, hq⟩ : ∃ q, q = cutB s 32 := ⟨_, rfl⟩
    have hqe : q = if k < s.size then s.extract (k + 1) s.size else ⟨#[]⟩ := by rw [hq, HK.out.2.2]
    have hfe : f = cutF s 32 := by rw [hf, HK.out.2.1]
    have HQ := Aside0.mk hq
    have HF := Aside0.mk hfe
    rw [← hf]
    clear hq hfe hAe HL
    go_cut [6] (fun v6 wc => v6 = .string q ∧ wc = w1)
    case first =>
      by_cases hlt : k < s.size
      · rw [if_pos hlt] at hqe
        rw [decide_eq_true hlt] at hf
        subst hf
        have hw : wrap64 ((k : Int) + 1) = k + 1 := by unfold wrap64; omega
        subst hqe
        go_wp2
        go_meet
        case rel => exact ⟨rfl, rfl⟩
      · rw [if_neg hlt] at hqe
        rw [decide_eq_false hlt] at hf
        subst hf
        subst hqe
        go_wp2
        go_meet
        case rel => exact ⟨rfl, rfl⟩
    case rest =>
      obtain ⟨rfl, rfl⟩ := hcut
      clear hf hqe HK
      go_upto_block 2 with (fail)
      have hW0 := QW.new v HB1.out HR1.out
      have HP := Aside0.mk (HR.out.trans (parse_of s v q f HV.out HQ.out HF.out))
      have hqz : q.size ≤ 1000000 := by rw [HQ.out]; omega
      have HW := Aside0.mk hW0
      obtain ⟨w1, hw1⟩ : ∃ x, x = wc := ⟨_, rfl⟩
      rw [← hw1] at HW ⊢
      have hfold : w1.alloc (Obj.cells #[Value.string v, Value.string ⟨#[]⟩, Value.string ⟨#[]⟩, Value.string ⟨#[]⟩, Value.int IntKind.i64 0, Value.string ⟨#[]⟩] 29) = w1.alloc (cmdQ { emptyC with v := v }) := rfl
      rw [hfold]
      obtain ⟨W, hW⟩ : ∃ W, W = w1.alloc (cmdQ { emptyC with v := v }) := ⟨_, rfl⟩
      obtain ⟨Q, hQ⟩ : ∃ Q, Q = w1.heap.size := ⟨_, rfl⟩
      rw [← hW, ← hQ] at HW ⊢
      clear hfold hW0 hW hQ HB1 HR1 HR0 HB0 HR HV HQ HF HE hz1 hz2 hk hw1
        -- CLASSES
      cases hv9 : Lib.containsS verbsL v with
      | false =>
        have HP2 : Aside0 (r = (emptyC, 500)) := ⟨by rw [HP.out, if_pos hv9]⟩
        have hno : ∀ x, x ∈ verbsL → (v.toList == x.toList) = false := fun x hx => by
          rw [beq_eq_false_iff_ne]
          intro e
          have e2 := same_bytes e
          subst e2
          rw [(Lib.containsS_iff _ _).2 hx] at hv9
          cases hv9
        have q0 : (v.toList == [72, 69, 76, 79]) = false := by have := hno ⟨#[72, 69, 76, 79]⟩ (by simp [verbsL]); rwa [show (⟨#[72, 69, 76, 79]⟩ : ByteArray).toList = [72, 69, 76, 79] by decide +kernel] at this
        have q1 : (v.toList == [69, 72, 76, 79]) = false := by have := hno ⟨#[69, 72, 76, 79]⟩ (by simp [verbsL]); rwa [show (⟨#[69, 72, 76, 79]⟩ : ByteArray).toList = [69, 72, 76, 79] by decide +kernel] at this
        have q2 : (v.toList == [77, 65, 73, 76]) = false := by have := hno ⟨#[77, 65, 73, 76]⟩ (by simp [verbsL]); rwa [show (⟨#[77, 65, 73, 76]⟩ : ByteArray).toList = [77, 65, 73, 76] by decide +kernel] at this
        have q3 : (v.toList == [82, 67, 80, 84]) = false := by have := hno ⟨#[82, 67, 80, 84]⟩ (by simp [verbsL]); rwa [show (⟨#[82, 67, 80, 84]⟩ : ByteArray).toList = [82, 67, 80, 84] by decide +kernel] at this
        have q4 : (v.toList == [68, 65, 84, 65]) = false := by have := hno ⟨#[68, 65, 84, 65]⟩ (by simp [verbsL]); rwa [show (⟨#[68, 65, 84, 65]⟩ : ByteArray).toList = [68, 65, 84, 65] by decide +kernel] at this
        have q5 : (v.toList == [82, 83, 69, 84]) = false := by have := hno ⟨#[82, 83, 69, 84]⟩ (by simp [verbsL]); rwa [show (⟨#[82, 83, 69, 84]⟩ : ByteArray).toList = [82, 83, 69, 84] by decide +kernel] at this
        have q6 : (v.toList == [78, 79, 79, 80]) = false := by have := hno ⟨#[78, 79, 79, 80]⟩ (by simp [verbsL]); rwa [show (⟨#[78, 79, 79, 80]⟩ : ByteArray).toList = [78, 79, 79, 80] by decide +kernel] at this
        have q7 : (v.toList == [81, 85, 73, 84]) = false := by have := hno ⟨#[81, 85, 73, 84]⟩ (by simp [verbsL]); rwa [show (⟨#[81, 85, 73, 84]⟩ : ByteArray).toList = [81, 85, 73, 84] by decide +kernel] at this
        have q8 : (v.toList == [86, 82, 70, 89]) = false := by have := hno ⟨#[86, 82, 70, 89]⟩ (by simp [verbsL]); rwa [show (⟨#[86, 82, 70, 89]⟩ : ByteArray).toList = [86, 82, 70, 89] by decide +kernel] at this
        clear hno hv9 HP
        have m0 := HW.out.r0.c0; have m1 := HW.out.r0.c1; have m2 := HW.out.r0.c2; have m3 := HW.out.r0.c3; have m4 := HW.out.r0.c4; have m5 := HW.out.r0.c5; have mf := HW.out.r0.fr; simp only [emptyC, emptyB] at m0 m1 m2 m3 m4 m5
        go_wp2
        refine bodyPost_ret (v := .tuple #[cmdV emptyC, .int .i64 500]) (by simp [results, Tryz.results8, go_sem, cmdV, verbC, emptyC, emptyB, m0, m1, m2, m3, m4, m5]) rfl ⟨by rw [HP2.out] <;> rfl, ((((((HW.out.bel.setCell (p := ⟨w.heap.size, 0, none⟩) (Nat.le_refl _) _).setCell (p := ⟨w.heap.size, 1, none⟩) (Nat.le_refl _) _).setCell (p := ⟨w.heap.size, 2, none⟩) (Nat.le_refl _) _).setCell (p := ⟨w.heap.size, 3, none⟩) (Nat.le_refl _) _).setCell (p := ⟨w.heap.size, 4, none⟩) (Nat.le_refl _) _).setCell (p := ⟨w.heap.size, 5, none⟩) (Nat.le_refl _) _)⟩
      | true =>
        have HP1 : Aside0 (r = outC (readO (verbC v) q f)) := ⟨by rw [HP.out, if_neg (by rw [hv9]; decide)]⟩
        clear HP
        have hvv := (verbs_iff v).1 hv9
        clear hv9
        rcases hvv with h | h | h | h | h | h | h | h | h
        · -- HELO
          obtain rfl : v = ⟨#[72, 69, 76, 79]⟩ := h
          have HD := Aside0.mk (fun W => refDomain_below q hqz W)
          have HP2 : Aside0 (r = outC (if domainB q = true then some { verbC HELO with a := q } else none)) := ⟨by rw [HP1.out, ← read_dom HELO q f (.inl rfl)] <;> rfl⟩
          clear HP1
          have HW1 := Aside0.mk (HW.out.setA q)
          have n0 := HW.out.cq.c0; have n1 := HW.out.cq.c1; have n2 := HW.out.cq.c2; have n3 := HW.out.cq.c3; have n4 := HW.out.cq.c4; have n5 := HW.out.cq.c5; have nf := HW.out.cq.fr
          go_upto_region 15 with (fail)
          obtain ⟨W1, hW1⟩ : ∃ x, x = W.setCell ⟨Q, 3, none⟩ (.string q) := ⟨_, rfl⟩
          rw [← hW1] at HW1 ⊢
          clear hW1 HW n0 n1 n2 n3 n4 n5 nf
          cases hd : domainB q with
          | false =>
            rw [hd] at HD HP2
            go_wp2_with (go_at_call 21; refine (HD.out _).mono ?_; rintro e W2 ⟨rfl, hb2⟩; have HW2 := Aside0.mk (HW1.out.below hb2); clear hb2; have m0 := HW2.out.r0.c0; have m1 := HW2.out.r0.c1; have m2 := HW2.out.r0.c2; have m3 := HW2.out.r0.c3; have m4 := HW2.out.r0.c4; have m5 := HW2.out.r0.c5; have mf := HW2.out.r0.fr; simp only [emptyC, emptyB] at m0 m1 m2 m3 m4 m5)
            refine bodyPost_ret (v := .tuple #[cmdV emptyC, .int .i64 501]) (by simp [results, Tryz.results8, go_sem, cmdV, verbC, emptyC, emptyB, m0, m1, m2, m3, m4, m5]) rfl ⟨by rw [HP2.out] <;> rfl, ((((((HW2.out.bel.setCell (p := ⟨w.heap.size, 0, none⟩) (Nat.le_refl _) _).setCell (p := ⟨w.heap.size, 1, none⟩) (Nat.le_refl _) _).setCell (p := ⟨w.heap.size, 2, none⟩) (Nat.le_refl _) _).setCell (p := ⟨w.heap.size, 3, none⟩) (Nat.le_refl _) _).setCell (p := ⟨w.heap.size, 4, none⟩) (Nat.le_refl _) _).setCell (p := ⟨w.heap.size, 5, none⟩) (Nat.le_refl _) _)⟩
          | true =>
            rw [hd] at HD HP2
            go_wp2_with (go_at_call 21; refine (HD.out _).mono ?_; rintro e W2 ⟨rfl, hb2⟩; have HW2 := Aside0.mk (HW1.out.below hb2); clear hb2; have m0 := HW2.out.r0.c0; have m1 := HW2.out.r0.c1; have m2 := HW2.out.r0.c2; have m3 := HW2.out.r0.c3; have m4 := HW2.out.r0.c4; have m5 := HW2.out.r0.c5; have mf := HW2.out.r0.fr; simp only [emptyC, emptyB] at m0 m1 m2 m3 m4 m5; have n0 := HW2.out.cq.c0; have n1 := HW2.out.cq.c1; have n2 := HW2.out.cq.c2; have n3 := HW2.out.cq.c3; have n4 := HW2.out.cq.c4; have n5 := HW2.out.cq.c5; have nf := HW2.out.cq.fr)
            refine bodyPost_ret (v := .tuple #[cmdV { verbC HELO with a := q }, .int .i64 0]) (by simp [results, Tryz.results8, go_sem, cmdV, verbC, emptyC, emptyB, m0, m1, m2, m3, m4, m5, HELO, n0, n1, n2, n3, n4, n5]) rfl ⟨by rw [HP2.out] <;> rfl, ((((((HW2.out.bel.setCell (p := ⟨w.heap.size, 0, none⟩) (Nat.le_refl _) _).setCell (p := ⟨w.heap.size, 1, none⟩) (Nat.le_refl _) _).setCell (p := ⟨w.heap.size, 2, none⟩) (Nat.le_refl _) _).setCell (p := ⟨w.heap.size, 3, none⟩) (Nat.le_refl _) _).setCell (p := ⟨w.heap.size, 4, none⟩) (Nat.le_refl _) _).setCell (p := ⟨w.heap.size, 5, none⟩) (Nat.le_refl _) _)⟩
        · -- EHLO
          obtain rfl : v = ⟨#[69, 72, 76, 79]⟩ := h
          have HD := Aside0.mk (fun W => refDomain_below q hqz W)
          have HP2 : Aside0 (r = outC (if domainB q = true then some { verbC EHLO with a := q } else none)) := ⟨by rw [HP1.out, ← read_dom EHLO q f (.inr rfl)] <;> rfl⟩
          clear HP1
          have HW1 := Aside0.mk (HW.out.setA q)
          have n0 := HW.out.cq.c0; have n1 := HW.out.cq.c1; have n2 := HW.out.cq.c2; have n3 := HW.out.cq.c3; have n4 := HW.out.cq.c4; have n5 := HW.out.cq.c5; have nf := HW.out.cq.fr
          go_upto_region 15 with (fail)
          obtain ⟨W1, hW1⟩ : ∃ x, x = W.setCell ⟨Q, 3, none⟩ (.string q) := ⟨_, rfl⟩
          rw [← hW1] at HW1 ⊢
          clear hW1 HW n0 n1 n2 n3 n4 n5 nf
          cases hd : domainB q with
          | false =>
            rw [hd] at HD HP2
            go_wp2_with (go_at_call 21; refine (HD.out _).mono ?_; rintro e W2 ⟨rfl, hb2⟩; have HW2 := Aside0.mk (HW1.out.below hb2); clear hb2; have m0 := HW2.out.r0.c0; have m1 := HW2.out.r0.c1; have m2 := HW2.out.r0.c2; have m3 := HW2.out.r0.c3; have m4 := HW2.out.r0.c4; have m5 := HW2.out.r0.c5; have mf := HW2.out.r0.fr; simp only [emptyC, emptyB] at m0 m1 m2 m3 m4 m5)
            refine bodyPost_ret (v := .tuple #[cmdV emptyC, .int .i64 501]) (by simp [results, Tryz.results8, go_sem, cmdV, verbC, emptyC, emptyB, m0, m1, m2, m3, m4, m5]) rfl ⟨by rw [HP2.out] <;> rfl, ((((((HW2.out.bel.setCell (p := ⟨w.heap.size, 0, none⟩) (Nat.le_refl _) _).setCell (p := ⟨w.heap.size, 1, none⟩) (Nat.le_refl _) _).setCell (p := ⟨w.heap.size, 2, none⟩) (Nat.le_refl _) _).setCell (p := ⟨w.heap.size, 3, none⟩) (Nat.le_refl _) _).setCell (p := ⟨w.heap.size, 4, none⟩) (Nat.le_refl _) _).setCell (p := ⟨w.heap.size, 5, none⟩) (Nat.le_refl _) _)⟩
          | true =>
            rw [hd] at HD HP2
            go_wp2_with (go_at_call 21; refine (HD.out _).mono ?_; rintro e W2 ⟨rfl, hb2⟩; have HW2 := Aside0.mk (HW1.out.below hb2); clear hb2; have m0 := HW2.out.r0.c0; have m1 := HW2.out.r0.c1; have m2 := HW2.out.r0.c2; have m3 := HW2.out.r0.c3; have m4 := HW2.out.r0.c4; have m5 := HW2.out.r0.c5; have mf := HW2.out.r0.fr; simp only [emptyC, emptyB] at m0 m1 m2 m3 m4 m5; have n0 := HW2.out.cq.c0; have n1 := HW2.out.cq.c1; have n2 := HW2.out.cq.c2; have n3 := HW2.out.cq.c3; have n4 := HW2.out.cq.c4; have n5 := HW2.out.cq.c5; have nf := HW2.out.cq.fr)
            refine bodyPost_ret (v := .tuple #[cmdV { verbC EHLO with a := q }, .int .i64 0]) (by simp [results, Tryz.results8, go_sem, cmdV, verbC, emptyC, emptyB, m0, m1, m2, m3, m4, m5, EHLO, n0, n1, n2, n3, n4, n5]) rfl ⟨by rw [HP2.out] <;> rfl, ((((((HW2.out.bel.setCell (p := ⟨w.heap.size, 0, none⟩) (Nat.le_refl _) _).setCell (p := ⟨w.heap.size, 1, none⟩) (Nat.le_refl _) _).setCell (p := ⟨w.heap.size, 2, none⟩) (Nat.le_refl _) _).setCell (p := ⟨w.heap.size, 3, none⟩) (Nat.le_refl _) _).setCell (p := ⟨w.heap.size, 4, none⟩) (Nat.le_refl _) _).setCell (p := ⟨w.heap.size, 5, none⟩) (Nat.le_refl _) _)⟩
        · -- MAIL
          obtain rfl : v = ⟨#[77, 65, 73, 76]⟩ := h
          have HP2 : Aside0 (r = outC (mailO (verbC MAIL) q fromS)) := ⟨by rw [HP1.out, ← read_mail q f]; rfl⟩
          clear HP1
          have HBg : Aside0 (∀ W, Calls Tryz.prog 22 #[.string q, .string ⟨#[70, 82, 79, 77, 58]⟩] W fun e w' => e = .returned (.bool (aftF q fromS)) ∧ Below W.heap.size W w') := ⟨fun W => begins_calls q fromS hqz (by decide) W⟩
          have hzb : aftF q fromS = true → 5 ≤ q.size := fun h => by rw [aftF, Bool.and_eq_true, decide_eq_true_eq] at h; exact h.1
          cases hbg : aftF q fromS with
          | false =>
            have HP3 : Aside0 (r = (emptyC, 501)) := ⟨by rw [HP2.out, mailO, hbg, if_pos rfl]; rfl⟩
            rw [hbg] at HBg
            clear HP2 hbg hzb
            go_wp2_with (go_at_call 22; refine (HBg.out _).mono ?_; rintro e W2 ⟨rfl, hb2⟩; have HW2 := Aside0.mk (HW.out.below hb2); clear hb2; have m0 := HW2.out.r0.c0; have m1 := HW2.out.r0.c1; have m2 := HW2.out.r0.c2; have m3 := HW2.out.r0.c3; have m4 := HW2.out.r0.c4; have m5 := HW2.out.r0.c5; have mf := HW2.out.r0.fr; simp only [emptyC, emptyB] at m0 m1 m2 m3 m4 m5)
            refine bodyPost_ret (v := .tuple #[cmdV emptyC, .int .i64 501]) (by simp [results, Tryz.results8, go_sem, cmdV, verbC, emptyC, emptyB, m0, m1, m2, m3, m4, m5]) rfl ⟨by rw [HP3.out] <;> rfl, ((((((HW2.out.bel.setCell (p := ⟨w.heap.size, 0, none⟩) (Nat.le_refl _) _).setCell (p := ⟨w.heap.size, 1, none⟩) (Nat.le_refl _) _).setCell (p := ⟨w.heap.size, 2, none⟩) (Nat.le_refl _) _).setCell (p := ⟨w.heap.size, 3, none⟩) (Nat.le_refl _) _).setCell (p := ⟨w.heap.size, 4, none⟩) (Nat.le_refl _) _).setCell (p := ⟨w.heap.size, 5, none⟩) (Nat.le_refl _) _)⟩
          | true =>
            have hq3 := hzb hbg
            have haV : aftV q fromS = q.extract 5 q.size := by rw [aftV, if_pos hbg]; rfl
            have hmail : mailO (verbC MAIL) q fromS = match takeB (q.extract 5 q.size) with | none => none | some (l, d, o) => if ((verbC MAIL).v.toList == [82, 67, 80, 84]) = true then (if o.toList.isEmpty = true then some { verbC MAIL with l := l, d := d } else none) else optsO o.size { verbC MAIL with l := l, d := d, n := -1 } o := by
              rw [mailO, hbg, if_neg (by decide), haV]
              rfl
            rw [hmail] at HP2
            rw [hbg] at HBg
            clear hmail haV hbg hzb
            have hrz : (q.extract 5 q.size).size ≤ 1000000 := by rw [ByteArray.size_extract]; omega
            have HT := Aside0.mk (fun W => refTake_calls (q.extract 5 q.size) hrz W)
            obtain ⟨rr, hrr⟩ : ∃ x, x = q.extract 5 q.size := ⟨_, rfl⟩
            have HRR := Aside0.mk hrr
            rw [← hrr] at HP2 HT hrz
            clear hrr
            go_upto_region 36 with (go_at_call 22; refine (HBg.out _).mono ?_; rintro e W2 ⟨rfl, hb2⟩; have HW2 := Aside0.mk (HW.out.below hb2); clear hb2)
            rw [← HRR.out]
            clear HW HBg HRR
            cases htb : takeB rr with
            | none =>
              have hT := take_none rr htb
              have HP3 : Aside0 (r = (emptyC, 501)) := ⟨by rw [HP2.out, htb]; rfl⟩
              rw [hT] at HT
              clear HP2 htb hT
              go_wp2_with (go_at_call 23; refine (HT.out _).mono ?_; rintro e W3 ⟨rfl, hb3⟩; have HW3 := Aside0.mk ((HW2.out.below hb3).below ((Below.refl _ W3).alloc (Nat.le_refl _) (Obj.cells #[Value.string ⟨#[]⟩, Value.string ⟨#[]⟩] 24))); clear hb3; have m0 := HW3.out.r0.c0; have m1 := HW3.out.r0.c1; have m2 := HW3.out.r0.c2; have m3 := HW3.out.r0.c3; have m4 := HW3.out.r0.c4; have m5 := HW3.out.r0.c5; have mf := HW3.out.r0.fr; simp only [emptyC, emptyB] at m0 m1 m2 m3 m4 m5)
              refine bodyPost_ret (v := .tuple #[cmdV emptyC, .int .i64 501]) (by simp [results, Tryz.results8, go_sem, cmdV, verbC, emptyC, emptyB, m0, m1, m2, m3, m4, m5]) rfl ⟨by rw [HP3.out] <;> rfl, ((((((HW3.out.bel.setCell (p := ⟨w.heap.size, 0, none⟩) (Nat.le_refl _) _).setCell (p := ⟨w.heap.size, 1, none⟩) (Nat.le_refl _) _).setCell (p := ⟨w.heap.size, 2, none⟩) (Nat.le_refl _) _).setCell (p := ⟨w.heap.size, 3, none⟩) (Nat.le_refl _) _).setCell (p := ⟨w.heap.size, 4, none⟩) (Nat.le_refl _) _).setCell (p := ⟨w.heap.size, 5, none⟩) (Nat.le_refl _) _)⟩
            | some x =>
              obtain ⟨l, d, o⟩ := x
              obtain ⟨n, hn1, hn2, hT, hx, hox⟩ := take_some rr l d o htb
              rw [hT] at HT
              rw [htb] at HP2
              clear htb hT
              have HX := Aside0.mk hx
              clear hx
              have hn0 : ((n : Int) == 0) = false := by rw [beq_eq_false_iff_ne]; omega
              have HP3 : Aside0 (r = outC (optsO o.size { verbC MAIL with l := l, d := d, n := -1 } o)) := ⟨by rw [HP2.out]; show outC (if ((verbC MAIL).v.toList == [82, 67, 80, 84]) = true then _ else optsO o.size { verbC MAIL with l := l, d := d, n := -1 } o) = _; rw [if_neg (by decide +kernel)]⟩
              clear HP2
              go_upto_if 101 with (go_at_call 23; refine (HT.out _).mono ?_; rintro e W3 ⟨rfl, hb3⟩; have HW3 := Aside0.mk ((HW2.out.below hb3).below ((Below.refl _ W3).alloc (Nat.le_refl _) (Obj.cells #[Value.string l, Value.string d] 24))); clear hb3; have p0 : (W3.alloc (Obj.cells #[Value.string l, Value.string d] 24)).cell? ⟨W3.heap.size, 0, none⟩ = some (.string l) := World.cell?_alloc_at _ _ _ _ rfl; have p1 : (W3.alloc (Obj.cells #[Value.string l, Value.string d] 24)).cell? ⟨W3.heap.size, 1, none⟩ = some (.string d) := World.cell?_alloc_at _ _ _ _ rfl)
              obtain ⟨W4, hW4⟩ : ∃ x, x = W3.alloc (Obj.cells #[Value.string l, Value.string d] 24) := ⟨_, rfl⟩
              obtain ⟨P, hP⟩ : ∃ x, x = W3.heap.size := ⟨_, rfl⟩
              rw [← hW4] at HW3 p0 p1 ⊢
              rw [← hP] at p0 p1 ⊢
              clear hW4 hP HW2 HT
              have HW5 := Aside0.mk ((HW3.out.setP l d).setN (-1))
              have HO := Aside0.mk (show rr.extract n rr.size = o from HX.out)
              have hoz : o.size ≤ 1000000 := by omega
              have HCU := Aside0.mk (fun W => refCut_calls o hoz 32 W)
              have hps := parts_pos o 32
              have hpl := parts_len o
              have HPZ := Aside0.mk (parts_size o)
              have HP4 : Aside0 (r = outC (partsO { verbC MAIL with l := l, d := d, n := -1 } (partsB o 32))) := ⟨by rw [HP3.out, opts_parts _ _ _ (Nat.le_refl _)]⟩
              obtain ⟨ps, hpe⟩ : ∃ x, x = partsB o 32 := ⟨_, rfl⟩
              rw [← hpe] at HCU HP4 HPZ hps hpl
              clear HP3 hpe HX
              have n0 := HW3.out.cq.c0; have n1 := HW3.out.cq.c1; have n2 := HW3.out.cq.c2; have n3 := HW3.out.cq.c3; have n4 := HW3.out.cq.c4; have n5 := HW3.out.cq.c5; have nf := HW3.out.cq.fr
              go_upto_region 42 with (fail)
              obtain ⟨W5, hW5⟩ : ∃ x, x = ((W4.setCell ⟨Q, 1, none⟩ (.string l)).setCell ⟨Q, 2, none⟩ (.string d)).setCell ⟨Q, 4, none⟩ (.int .i64 (-1)) := ⟨_, rfl⟩
              rw [← hW5] at HW5 ⊢
              clear hW5 HW3 n0 n1 n2 n3 n4 n5 nf p0 p1
              have hQlt := HW5.out.cq.lt
              obtain ⟨c0, hc0⟩ : ∃ x, x = { verbC MAIL with l := l, d := d, n := -1 } := ⟨_, rfl⟩
              rw [← hc0] at HP4
              have HW6 : Aside0 (QW w Q c0 W5) := ⟨by rw [hc0]; exact HW5.out⟩
              clear HW5 hc0
              go_upto_region 43 with (go_at_call 24; (try rw [HO.out]); refine (HCU.out _).mono ?_; rintro e W6 ⟨hp6, hb6⟩; obtain ⟨bb, cap, rfl, hrow⟩ := hp6; have HW7 := Aside0.mk (HW6.out.below hb6); have HRW := Aside0.mk hrow; clear hb6 hrow)
              have hbQ : bb ≠ Q := by have := HRW.out.lo; omega
              have hcap := HRW.out.le
              have hcell0 := HRW.out.cell 0 (by omega)
              obtain ⟨p0, hp0⟩ : ∃ x, x = ps.getD 0 ByteArray.empty := ⟨_, rfl⟩
              rw [← hp0] at hcell0
              have HPO : Aside0 (r = outC (if p0.toList.isEmpty = true then foldO c0 (ps.drop 1) else none)) := ⟨by rw [HP4.out, partsO, ← hp0]⟩
              obtain ⟨m, hm⟩ : ∃ m, ps.length = m + 1 := ⟨ps.length - 1, by omega⟩
              have hm0 : 0 < ps.length := by omega
              clear HP4 hp0 HCU HO HW6
              cases hp0e : p0.toList.isEmpty with
              | false =>
                rw [hp0e] at HPO
                have HP5 : Aside0 (r = (emptyC, 501)) := ⟨HPO.out⟩
                have hp0n : ¬ p0.toList = [] := by simpa using hp0e
                have m0 := HW7.out.r0.c0; have m1 := HW7.out.r0.c1; have m2 := HW7.out.r0.c2; have m3 := HW7.out.r0.c3; have m4 := HW7.out.r0.c4; have m5 := HW7.out.r0.c5; have mf := HW7.out.r0.fr; simp only [emptyC, emptyB] at m0 m1 m2 m3 m4 m5
                go_wp2
                refine bodyPost_ret (v := .tuple #[cmdV emptyC, .int .i64 501]) (by simp [results, Tryz.results8, go_sem, cmdV, verbC, emptyC, emptyB, m0, m1, m2, m3, m4, m5]) rfl ⟨by rw [HP5.out] <;> rfl, ((((((HW7.out.bel.setCell (p := ⟨w.heap.size, 0, none⟩) (Nat.le_refl _) _).setCell (p := ⟨w.heap.size, 1, none⟩) (Nat.le_refl _) _).setCell (p := ⟨w.heap.size, 2, none⟩) (Nat.le_refl _) _).setCell (p := ⟨w.heap.size, 3, none⟩) (Nat.le_refl _) _).setCell (p := ⟨w.heap.size, 4, none⟩) (Nat.le_refl _) _).setCell (p := ⟨w.heap.size, 5, none⟩) (Nat.le_refl _) _)⟩
              | true =>
                rw [hp0e, if_pos rfl] at HPO
                have hp0n : p0.toList = [] := by simpa using hp0e
                go_upto_block 3 with (fail)
                obtain ⟨A1, hA1⟩ : ∃ x, x = (if cap = 1 then some (⟨bb, 0, none⟩ : Addr) else some ⟨bb, 1, none⟩) := ⟨_, rfl⟩
                rw [← hA1]
                have HA1 : Aside0 (0 < m → A1 = some ⟨bb, 1, none⟩) := ⟨fun h => by rw [hA1, if_neg (by omega)]⟩
                clear hA1 hcell0 hp0n hp0e hps hm0
                have HM := Aside0.mk hm
                have hml : m ≤ 1000000 := by omega
                clear hm hcap hpl
                go_wp2
                go_loopw [120] (fun i wr => ∃ (j : Nat) (c : CmdR), i = .int .i64 j ∧ j ≤ m ∧ Aside0 (foldO c0 (ps.drop 1) = foldO c (ps.drop (1 + j))) ∧ Aside0 (QW w Q c wr) ∧ Aside0 (RowAt W5.heap.size bb cap ps wr)) (fun i _ => m - (intOf i).toNat)
                case atStart => exact ⟨0, c0, rfl, Nat.zero_le _, ⟨rfl⟩, HW7, HRW⟩
                case round =>
                  clear HW7 HRW
                  obtain ⟨j, c, rfl, hj, HFO, HWc, HRc⟩ := hrel
                  by_cases hjm : j < m
                  · obtain rfl := HA1.out (by omega)
                    have hjl : 1 + j < ps.length := by have := HM.out; omega
                    have hcell := HRc.out.cell (1 + j) hjl
                    have hpz := HPZ.out (ps.getD (1 + j) ByteArray.empty) (by rw [List.getD_eq_getElem?_getD, List.getElem?_eq_getElem hjl]; exact List.getElem_mem hjl)
                    have HF1 : Aside0 (foldO c0 (ps.drop 1) = match optR c (ps.getD (1 + j) ByteArray.empty) with | none => none | some c' => foldO c' (ps.drop (1 + (j + 1)))) := ⟨by
                      rw [HFO.out, List.drop_eq_getElem_cons hjl, foldO, ← opt_eq, List.getD_eq_getElem?_getD, List.getElem?_eq_getElem hjl]
                      rfl⟩
                    obtain ⟨p, hp⟩ : ∃ p, p = ps.getD (1 + j) ByteArray.empty := ⟨_, rfl⟩
                    rw [← hp] at hcell hpz HF1
                    have hpz6 : p.size ≤ 1000000 := by omega
                    have HL := Aside0.mk (fun W => refLarge2_calls p hpz6 W)
                    have HB5 : Aside0 (∀ W, Calls Tryz.prog 22 #[.string p, .string ⟨#[83, 73, 90, 69, 61]⟩] W fun e w' => e = .returned (.bool (aftF p sizeE)) ∧ Below W.heap.size W w') := ⟨fun W => begins_calls p sizeE hpz6 (by decide) W⟩
                    have HDG := Aside0.mk (fun W => refDigits_below (p.extract 5 p.size) W)
                    have hz5 : aftF p sizeE = true → 5 ≤ p.size := fun h => by rw [aftF, Bool.and_eq_true, decide_eq_true_eq] at h; exact h.1
                    rw [optR] at HF1
                    obtain ⟨u, hu⟩ : ∃ x, x = largeB p := ⟨_, rfl⟩
                    obtain ⟨dg, hdg⟩ : ∃ x, x = digR (p.extract 5 p.size) := ⟨_, rfl⟩
                    obtain ⟨bg, hbg⟩ : ∃ x, x = aftF p sizeE := ⟨_, rfl⟩
                    rw [← hu] at HL HF1
                    rw [← hdg] at HDG HF1
                    rw [← hbg] at HB5 hz5 HF1
                    clear hu hdg hbg hp hpz HFO
                    have t0 : decide ((j : Int) < (m : Int)) = true := decide_eq_true (by omega)
                    have hmain : True := trivial
                    have hne : (Q : Nat) ≠ bb := fun e => hbQ e.symm
                    have HFAIL : Aside0 (((bg && (decide (0 ≤ dg) && decide (c.n < 0))) = false) → (((u.toList == body7 || u.toList == body8) && c.b.toList.isEmpty) = false) → r = (emptyC, 501)) := ⟨fun h1 h2 => by rw [HPO.out, HF1.out, h1, h2]; rfl⟩
                    have HBODY : Aside0 (((bg && (decide (0 ≤ dg) && decide (c.n < 0))) = false) → (((u.toList == body7 || u.toList == body8) && c.b.toList.isEmpty) = true) → foldO c0 (ps.drop 1) = foldO { c with b := u.extract 5 u.size } (ps.drop (1 + (j + 1)))) := ⟨fun h1 h2 => by rw [HF1.out, h1, h2]; rfl⟩
                    have HSIZE : Aside0 (((bg && (decide (0 ≤ dg) && decide (c.n < 0))) = true) → foldO c0 (ps.drop 1) = foldO { c with n := dg } (ps.drop (1 + (j + 1)))) := ⟨fun h1 => by rw [HF1.out, h1]; rfl⟩
                    clear HF1
                    cases hb1 : (bg && (decide (0 ≤ dg) && decide (c.n < 0))) with
                    | true =>
                      have HS1 := Aside0.mk (HSIZE.out hb1)
                      rw [Bool.and_eq_true, Bool.and_eq_true, decide_eq_true_eq, decide_eq_true_eq] at hb1
                      obtain ⟨rfl, hd0, hcn⟩ := hb1
                      have h5 := hz5 rfl
                      clear HFAIL HBODY HSIZE hz5
                      go_upto_region 50 with (go_at_call 20; refine (HL.out _).mono ?_; rintro e W8 ⟨rfl, hb8⟩; have HW8 := Aside0.mk (HWc.out.below hb8); have HR8 := Aside0.mk (HRc.out.below hb8); clear hb8)
                      clear HWc HRc
                      go_upto_region 51 with (first
                        | (go_at_call 22; refine (HB5.out _).mono ?_; rintro e W9 ⟨rfl, hb9⟩; have HW9 := Aside0.mk (HW8.out.below hb9); have HR9 := Aside0.mk (HR8.out.below hb9); clear hb9)
                        | (go_at_call 25; refine (HDG.out _).mono ?_; rintro e W10 ⟨rfl, hb10⟩; have HW10 := Aside0.mk (HW9.out.below hb10); have HR10 := Aside0.mk (HR9.out.below hb10); clear hb10; have n4 := HW10.out.cq.c4))
                      go_wp2_with (go_at_call 25; refine (HDG.out _).mono ?_; rintro e W11 ⟨rfl, hb11⟩; have HW11 := Aside0.mk (HW10.out.below hb11); have HR11 := Aside0.mk (HR10.out.below hb11); clear hb11; have k4 := HW11.out.cq.c4; have kf := HW11.out.cq.fr)
                      go_roundw
                      case rel => exact ⟨j + 1, { c with n := dg }, by go_num, by omega, HS1, ⟨HW11.out.setN dg⟩, ⟨HR11.out.other hne _⟩⟩
                      case measure => simp [intOf]; omega
                    | false =>
                      have hways : bg = false ∨ (bg = true ∧ ¬ 0 ≤ dg) ∨ (bg = true ∧ 0 ≤ dg ∧ ¬ c.n < 0) := by
                        cases bg with
                        | false => exact .inl rfl
                        | true =>
                          by_cases h0 : 0 ≤ dg
                          · by_cases hn : c.n < 0
                            · rw [decide_eq_true h0, decide_eq_true hn] at hb1; cases hb1
                            · exact .inr (.inr ⟨rfl, h0, hn⟩)
                          · exact .inr (.inl ⟨rfl, h0⟩)
                      have HFA := Aside0.mk (HFAIL.out hb1)
                      have HBO := Aside0.mk (HBODY.out hb1)
                      clear hb1 HFAIL HBODY HSIZE
                      go_upto_region 50 with (go_at_call 20; refine (HL.out _).mono ?_; rintro e W8 ⟨rfl, hb8⟩; have HW8 := Aside0.mk (HWc.out.below hb8); have HR8 := Aside0.mk (HRc.out.below hb8); clear hb8)
                      clear HWc HRc
                      rcases hways with h | ⟨h, hd⟩ | ⟨h, hd, hcn⟩
                      · subst h
                        go_upto_region 52 with (go_at_call 22; refine (HB5.out _).mono ?_; rintro e W9 ⟨rfl, hb9⟩; have HW9 := Aside0.mk (HW8.out.below hb9); have HR9 := Aside0.mk (HR8.out.below hb9); clear hb9)
                        clear HW8 HR8
                        clear HL HB5 HDG hz5
                        have hul : u.toList.length = u.size := by rw [toList_data, data_length]
                        have n5 := HW9.out.cq.c5
                        have nf := HW9.out.cq.fr
                        cases h7 : (u.toList == body7) with
                        | true =>
                          have h7l : (u.toList == ([66, 79, 68, 89, 61, 55, 66, 73, 84] : List UInt8)) = true := h7
                          have hu5 : 5 ≤ u.size := by rw [← hul, beq_iff_eq.1 h7]; decide
                          cases he : c.b.toList.isEmpty with
                          | true =>
                            have HS2 := Aside0.mk (HBO.out (by rw [h7, he]; rfl))
                            have he2 : c.b.toList = [] := by simpa using he
                            go_wp2
                            go_roundw
                            case rel => exact ⟨j + 1, { c with b := u.extract 5 u.size }, by go_num, by omega, HS2, ⟨HW9.out.setB _⟩, ⟨HR9.out.other hne _⟩⟩
                            case measure => simp [intOf]; omega
                          | false =>
                            have HP6 := Aside0.mk (HFA.out (by rw [h7, he]; rfl))
                            have he2 : ¬ c.b.toList = [] := by simpa using he
                            have m0 := HW9.out.r0.c0; have m1 := HW9.out.r0.c1; have m2 := HW9.out.r0.c2; have m3 := HW9.out.r0.c3; have m4 := HW9.out.r0.c4; have m5 := HW9.out.r0.c5; have mf := HW9.out.r0.fr; simp only [emptyC, emptyB] at m0 m1 m2 m3 m4 m5
                            go_wp2
                            refine bodyPost_ret (v := .tuple #[cmdV emptyC, .int .i64 501]) (by simp [results, Tryz.results8, go_sem, cmdV, verbC, emptyC, emptyB, m0, m1, m2, m3, m4, m5]) rfl ⟨by rw [HP6.out] <;> rfl, ((((((HW9.out.bel.setCell (p := ⟨w.heap.size, 0, none⟩) (Nat.le_refl _) _).setCell (p := ⟨w.heap.size, 1, none⟩) (Nat.le_refl _) _).setCell (p := ⟨w.heap.size, 2, none⟩) (Nat.le_refl _) _).setCell (p := ⟨w.heap.size, 3, none⟩) (Nat.le_refl _) _).setCell (p := ⟨w.heap.size, 4, none⟩) (Nat.le_refl _) _).setCell (p := ⟨w.heap.size, 5, none⟩) (Nat.le_refl _) _)⟩
                        | false =>
                          have h7l : (u.toList == ([66, 79, 68, 89, 61, 55, 66, 73, 84] : List UInt8)) = false := h7
                          cases h8 : (u.toList == body8) with
                          | true =>
                            have h8l : (u.toList == ([66, 79, 68, 89, 61, 56, 66, 73, 84, 77, 73, 77, 69] : List UInt8)) = true := h8
                            have hu5 : 5 ≤ u.size := by rw [← hul, beq_iff_eq.1 h8]; decide
                            cases he : c.b.toList.isEmpty with
                            | true =>
                              have HS2 := Aside0.mk (HBO.out (by rw [h7, h8, he]; rfl))
                              have he2 : c.b.toList = [] := by simpa using he
                              go_wp2
                              go_roundw
                              case rel => exact ⟨j + 1, { c with b := u.extract 5 u.size }, by go_num, by omega, HS2, ⟨HW9.out.setB _⟩, ⟨HR9.out.other hne _⟩⟩
                              case measure => simp [intOf]; omega
                            | false =>
                              have HP6 := Aside0.mk (HFA.out (by rw [h7, h8, he]; rfl))
                              have he2 : ¬ c.b.toList = [] := by simpa using he
                              have m0 := HW9.out.r0.c0; have m1 := HW9.out.r0.c1; have m2 := HW9.out.r0.c2; have m3 := HW9.out.r0.c3; have m4 := HW9.out.r0.c4; have m5 := HW9.out.r0.c5; have mf := HW9.out.r0.fr; simp only [emptyC, emptyB] at m0 m1 m2 m3 m4 m5
                              go_wp2
                              refine bodyPost_ret (v := .tuple #[cmdV emptyC, .int .i64 501]) (by simp [results, Tryz.results8, go_sem, cmdV, verbC, emptyC, emptyB, m0, m1, m2, m3, m4, m5]) rfl ⟨by rw [HP6.out] <;> rfl, ((((((HW9.out.bel.setCell (p := ⟨w.heap.size, 0, none⟩) (Nat.le_refl _) _).setCell (p := ⟨w.heap.size, 1, none⟩) (Nat.le_refl _) _).setCell (p := ⟨w.heap.size, 2, none⟩) (Nat.le_refl _) _).setCell (p := ⟨w.heap.size, 3, none⟩) (Nat.le_refl _) _).setCell (p := ⟨w.heap.size, 4, none⟩) (Nat.le_refl _) _).setCell (p := ⟨w.heap.size, 5, none⟩) (Nat.le_refl _) _)⟩
                          | false =>
                            have h8l : (u.toList == ([66, 79, 68, 89, 61, 56, 66, 73, 84, 77, 73, 77, 69] : List UInt8)) = false := h8
                            have HP6 := Aside0.mk (HFA.out (by rw [h7, h8]; rfl))
                            have m0 := HW9.out.r0.c0; have m1 := HW9.out.r0.c1; have m2 := HW9.out.r0.c2; have m3 := HW9.out.r0.c3; have m4 := HW9.out.r0.c4; have m5 := HW9.out.r0.c5; have mf := HW9.out.r0.fr; simp only [emptyC, emptyB] at m0 m1 m2 m3 m4 m5
                            go_wp2
                            refine bodyPost_ret (v := .tuple #[cmdV emptyC, .int .i64 501]) (by simp [results, Tryz.results8, go_sem, cmdV, verbC, emptyC, emptyB, m0, m1, m2, m3, m4, m5]) rfl ⟨by rw [HP6.out] <;> rfl, ((((((HW9.out.bel.setCell (p := ⟨w.heap.size, 0, none⟩) (Nat.le_refl _) _).setCell (p := ⟨w.heap.size, 1, none⟩) (Nat.le_refl _) _).setCell (p := ⟨w.heap.size, 2, none⟩) (Nat.le_refl _) _).setCell (p := ⟨w.heap.size, 3, none⟩) (Nat.le_refl _) _).setCell (p := ⟨w.heap.size, 4, none⟩) (Nat.le_refl _) _).setCell (p := ⟨w.heap.size, 5, none⟩) (Nat.le_refl _) _)⟩
                      · subst h
                        have h5 := hz5 rfl
                        go_upto_region 52 with (first
                          | (go_at_call 22; refine (HB5.out _).mono ?_; rintro e W9 ⟨rfl, hb9⟩; have HW9 := Aside0.mk (HW8.out.below hb9); have HR9 := Aside0.mk (HR8.out.below hb9); clear hb9)
                          | (go_at_call 25; refine (HDG.out _).mono ?_; rintro e W10 ⟨rfl, hb10⟩; have HW10 := Aside0.mk (HW9.out.below hb10); have HR10 := Aside0.mk (HR9.out.below hb10); clear hb10; have n4 := HW10.out.cq.c4))
                        clear HW8 HR8 HW9 HR9 n4
                        clear hd HL HB5 HDG hz5
                        have hul : u.toList.length = u.size := by rw [toList_data, data_length]
                        have n5 := HW10.out.cq.c5
                        have nf := HW10.out.cq.fr
                        cases h7 : (u.toList == body7) with
                        | true =>
                          have h7l : (u.toList == ([66, 79, 68, 89, 61, 55, 66, 73, 84] : List UInt8)) = true := h7
                          have hu5 : 5 ≤ u.size := by rw [← hul, beq_iff_eq.1 h7]; decide
                          cases he : c.b.toList.isEmpty with
                          | true =>
                            have HS2 := Aside0.mk (HBO.out (by rw [h7, he]; rfl))
                            have he2 : c.b.toList = [] := by simpa using he
                            go_wp2
                            go_roundw
                            case rel => exact ⟨j + 1, { c with b := u.extract 5 u.size }, by go_num, by omega, HS2, ⟨HW10.out.setB _⟩, ⟨HR10.out.other hne _⟩⟩
                            case measure => simp [intOf]; omega
                          | false =>
                            have HP6 := Aside0.mk (HFA.out (by rw [h7, he]; rfl))
                            have he2 : ¬ c.b.toList = [] := by simpa using he
                            have m0 := HW10.out.r0.c0; have m1 := HW10.out.r0.c1; have m2 := HW10.out.r0.c2; have m3 := HW10.out.r0.c3; have m4 := HW10.out.r0.c4; have m5 := HW10.out.r0.c5; have mf := HW10.out.r0.fr; simp only [emptyC, emptyB] at m0 m1 m2 m3 m4 m5
                            go_wp2
                            refine bodyPost_ret (v := .tuple #[cmdV emptyC, .int .i64 501]) (by simp [results, Tryz.results8, go_sem, cmdV, verbC, emptyC, emptyB, m0, m1, m2, m3, m4, m5]) rfl ⟨by rw [HP6.out] <;> rfl, ((((((HW10.out.bel.setCell (p := ⟨w.heap.size, 0, none⟩) (Nat.le_refl _) _).setCell (p := ⟨w.heap.size, 1, none⟩) (Nat.le_refl _) _).setCell (p := ⟨w.heap.size, 2, none⟩) (Nat.le_refl _) _).setCell (p := ⟨w.heap.size, 3, none⟩) (Nat.le_refl _) _).setCell (p := ⟨w.heap.size, 4, none⟩) (Nat.le_refl _) _).setCell (p := ⟨w.heap.size, 5, none⟩) (Nat.le_refl _) _)⟩
                        | false =>
                          have h7l : (u.toList == ([66, 79, 68, 89, 61, 55, 66, 73, 84] : List UInt8)) = false := h7
                          cases h8 : (u.toList == body8) with
                          | true =>
                            have h8l : (u.toList == ([66, 79, 68, 89, 61, 56, 66, 73, 84, 77, 73, 77, 69] : List UInt8)) = true := h8
                            have hu5 : 5 ≤ u.size := by rw [← hul, beq_iff_eq.1 h8]; decide
                            cases he : c.b.toList.isEmpty with
                            | true =>
                              have HS2 := Aside0.mk (HBO.out (by rw [h7, h8, he]; rfl))
                              have he2 : c.b.toList = [] := by simpa using he
                              go_wp2
                              go_roundw
                              case rel => exact ⟨j + 1, { c with b := u.extract 5 u.size }, by go_num, by omega, HS2, ⟨HW10.out.setB _⟩, ⟨HR10.out.other hne _⟩⟩
                              case measure => simp [intOf]; omega
                            | false =>
                              have HP6 := Aside0.mk (HFA.out (by rw [h7, h8, he]; rfl))
                              have he2 : ¬ c.b.toList = [] := by simpa using he
                              have m0 := HW10.out.r0.c0; have m1 := HW10.out.r0.c1; have m2 := HW10.out.r0.c2; have m3 := HW10.out.r0.c3; have m4 := HW10.out.r0.c4; have m5 := HW10.out.r0.c5; have mf := HW10.out.r0.fr; simp only [emptyC, emptyB] at m0 m1 m2 m3 m4 m5
                              go_wp2
                              refine bodyPost_ret (v := .tuple #[cmdV emptyC, .int .i64 501]) (by simp [results, Tryz.results8, go_sem, cmdV, verbC, emptyC, emptyB, m0, m1, m2, m3, m4, m5]) rfl ⟨by rw [HP6.out] <;> rfl, ((((((HW10.out.bel.setCell (p := ⟨w.heap.size, 0, none⟩) (Nat.le_refl _) _).setCell (p := ⟨w.heap.size, 1, none⟩) (Nat.le_refl _) _).setCell (p := ⟨w.heap.size, 2, none⟩) (Nat.le_refl _) _).setCell (p := ⟨w.heap.size, 3, none⟩) (Nat.le_refl _) _).setCell (p := ⟨w.heap.size, 4, none⟩) (Nat.le_refl _) _).setCell (p := ⟨w.heap.size, 5, none⟩) (Nat.le_refl _) _)⟩
                          | false =>
                            have h8l : (u.toList == ([66, 79, 68, 89, 61, 56, 66, 73, 84, 77, 73, 77, 69] : List UInt8)) = false := h8
                            have HP6 := Aside0.mk (HFA.out (by rw [h7, h8]; rfl))
                            have m0 := HW10.out.r0.c0; have m1 := HW10.out.r0.c1; have m2 := HW10.out.r0.c2; have m3 := HW10.out.r0.c3; have m4 := HW10.out.r0.c4; have m5 := HW10.out.r0.c5; have mf := HW10.out.r0.fr; simp only [emptyC, emptyB] at m0 m1 m2 m3 m4 m5
                            go_wp2
                            refine bodyPost_ret (v := .tuple #[cmdV emptyC, .int .i64 501]) (by simp [results, Tryz.results8, go_sem, cmdV, verbC, emptyC, emptyB, m0, m1, m2, m3, m4, m5]) rfl ⟨by rw [HP6.out] <;> rfl, ((((((HW10.out.bel.setCell (p := ⟨w.heap.size, 0, none⟩) (Nat.le_refl _) _).setCell (p := ⟨w.heap.size, 1, none⟩) (Nat.le_refl _) _).setCell (p := ⟨w.heap.size, 2, none⟩) (Nat.le_refl _) _).setCell (p := ⟨w.heap.size, 3, none⟩) (Nat.le_refl _) _).setCell (p := ⟨w.heap.size, 4, none⟩) (Nat.le_refl _) _).setCell (p := ⟨w.heap.size, 5, none⟩) (Nat.le_refl _) _)⟩
                      · subst h
                        have h5 := hz5 rfl
                        go_upto_region 52 with (first
                          | (go_at_call 22; refine (HB5.out _).mono ?_; rintro e W9 ⟨rfl, hb9⟩; have HW9 := Aside0.mk (HW8.out.below hb9); have HR9 := Aside0.mk (HR8.out.below hb9); clear hb9)
                          | (go_at_call 25; refine (HDG.out _).mono ?_; rintro e W10 ⟨rfl, hb10⟩; have HW10 := Aside0.mk (HW9.out.below hb10); have HR10 := Aside0.mk (HR9.out.below hb10); clear hb10; have n4 := HW10.out.cq.c4))
                        clear HW8 HR8 HW9 HR9 n4
                        clear hd hcn HL HB5 HDG hz5
                        have hul : u.toList.length = u.size := by rw [toList_data, data_length]
                        have n5 := HW10.out.cq.c5
                        have nf := HW10.out.cq.fr
                        cases h7 : (u.toList == body7) with
                        | true =>
                          have h7l : (u.toList == ([66, 79, 68, 89, 61, 55, 66, 73, 84] : List UInt8)) = true := h7
                          have hu5 : 5 ≤ u.size := by rw [← hul, beq_iff_eq.1 h7]; decide
                          cases he : c.b.toList.isEmpty with
                          | true =>
                            have HS2 := Aside0.mk (HBO.out (by rw [h7, he]; rfl))
                            have he2 : c.b.toList = [] := by simpa using he
                            go_wp2
                            go_roundw
                            case rel => exact ⟨j + 1, { c with b := u.extract 5 u.size }, by go_num, by omega, HS2, ⟨HW10.out.setB _⟩, ⟨HR10.out.other hne _⟩⟩
                            case measure => simp [intOf]; omega
                          | false =>
                            have HP6 := Aside0.mk (HFA.out (by rw [h7, he]; rfl))
                            have he2 : ¬ c.b.toList = [] := by simpa using he
                            have m0 := HW10.out.r0.c0; have m1 := HW10.out.r0.c1; have m2 := HW10.out.r0.c2; have m3 := HW10.out.r0.c3; have m4 := HW10.out.r0.c4; have m5 := HW10.out.r0.c5; have mf := HW10.out.r0.fr; simp only [emptyC, emptyB] at m0 m1 m2 m3 m4 m5
                            go_wp2
                            refine bodyPost_ret (v := .tuple #[cmdV emptyC, .int .i64 501]) (by simp [results, Tryz.results8, go_sem, cmdV, verbC, emptyC, emptyB, m0, m1, m2, m3, m4, m5]) rfl ⟨by rw [HP6.out] <;> rfl, ((((((HW10.out.bel.setCell (p := ⟨w.heap.size, 0, none⟩) (Nat.le_refl _) _).setCell (p := ⟨w.heap.size, 1, none⟩) (Nat.le_refl _) _).setCell (p := ⟨w.heap.size, 2, none⟩) (Nat.le_refl _) _).setCell (p := ⟨w.heap.size, 3, none⟩) (Nat.le_refl _) _).setCell (p := ⟨w.heap.size, 4, none⟩) (Nat.le_refl _) _).setCell (p := ⟨w.heap.size, 5, none⟩) (Nat.le_refl _) _)⟩
                        | false =>
                          have h7l : (u.toList == ([66, 79, 68, 89, 61, 55, 66, 73, 84] : List UInt8)) = false := h7
                          cases h8 : (u.toList == body8) with
                          | true =>
                            have h8l : (u.toList == ([66, 79, 68, 89, 61, 56, 66, 73, 84, 77, 73, 77, 69] : List UInt8)) = true := h8
                            have hu5 : 5 ≤ u.size := by rw [← hul, beq_iff_eq.1 h8]; decide
                            cases he : c.b.toList.isEmpty with
                            | true =>
                              have HS2 := Aside0.mk (HBO.out (by rw [h7, h8, he]; rfl))
                              have he2 : c.b.toList = [] := by simpa using he
                              go_wp2
                              go_roundw
                              case rel => exact ⟨j + 1, { c with b := u.extract 5 u.size }, by go_num, by omega, HS2, ⟨HW10.out.setB _⟩, ⟨HR10.out.other hne _⟩⟩
                              case measure => simp [intOf]; omega
                            | false =>
                              have HP6 := Aside0.mk (HFA.out (by rw [h7, h8, he]; rfl))
                              have he2 : ¬ c.b.toList = [] := by simpa using he
                              have m0 := HW10.out.r0.c0; have m1 := HW10.out.r0.c1; have m2 := HW10.out.r0.c2; have m3 := HW10.out.r0.c3; have m4 := HW10.out.r0.c4; have m5 := HW10.out.r0.c5; have mf := HW10.out.r0.fr; simp only [emptyC, emptyB] at m0 m1 m2 m3 m4 m5
                              go_wp2
                              refine bodyPost_ret (v := .tuple #[cmdV emptyC, .int .i64 501]) (by simp [results, Tryz.results8, go_sem, cmdV, verbC, emptyC, emptyB, m0, m1, m2, m3, m4, m5]) rfl ⟨by rw [HP6.out] <;> rfl, ((((((HW10.out.bel.setCell (p := ⟨w.heap.size, 0, none⟩) (Nat.le_refl _) _).setCell (p := ⟨w.heap.size, 1, none⟩) (Nat.le_refl _) _).setCell (p := ⟨w.heap.size, 2, none⟩) (Nat.le_refl _) _).setCell (p := ⟨w.heap.size, 3, none⟩) (Nat.le_refl _) _).setCell (p := ⟨w.heap.size, 4, none⟩) (Nat.le_refl _) _).setCell (p := ⟨w.heap.size, 5, none⟩) (Nat.le_refl _) _)⟩
                          | false =>
                            have h8l : (u.toList == ([66, 79, 68, 89, 61, 56, 66, 73, 84, 77, 73, 77, 69] : List UInt8)) = false := h8
                            have HP6 := Aside0.mk (HFA.out (by rw [h7, h8]; rfl))
                            have m0 := HW10.out.r0.c0; have m1 := HW10.out.r0.c1; have m2 := HW10.out.r0.c2; have m3 := HW10.out.r0.c3; have m4 := HW10.out.r0.c4; have m5 := HW10.out.r0.c5; have mf := HW10.out.r0.fr; simp only [emptyC, emptyB] at m0 m1 m2 m3 m4 m5
                            go_wp2
                            refine bodyPost_ret (v := .tuple #[cmdV emptyC, .int .i64 501]) (by simp [results, Tryz.results8, go_sem, cmdV, verbC, emptyC, emptyB, m0, m1, m2, m3, m4, m5]) rfl ⟨by rw [HP6.out] <;> rfl, ((((((HW10.out.bel.setCell (p := ⟨w.heap.size, 0, none⟩) (Nat.le_refl _) _).setCell (p := ⟨w.heap.size, 1, none⟩) (Nat.le_refl _) _).setCell (p := ⟨w.heap.size, 2, none⟩) (Nat.le_refl _) _).setCell (p := ⟨w.heap.size, 3, none⟩) (Nat.le_refl _) _).setCell (p := ⟨w.heap.size, 4, none⟩) (Nat.le_refl _) _).setCell (p := ⟨w.heap.size, 5, none⟩) (Nat.le_refl _) _)⟩
                  · have hjm2 : j = m := by omega
                    have HP5 : Aside0 (r = (c, 0)) := ⟨by rw [HPO.out, HFO.out, hjm2, List.drop_of_length_le (by rw [HM.out]; omega)]; rfl⟩
                    have t0 : decide ((j : Int) < (m : Int)) = false := decide_eq_false (by omega)
                    clear hjm2
                    have m0 := HWc.out.r0.c0; have m1 := HWc.out.r0.c1; have m2 := HWc.out.r0.c2; have m3 := HWc.out.r0.c3; have m4 := HWc.out.r0.c4; have m5 := HWc.out.r0.c5; have mf := HWc.out.r0.fr; simp only [emptyC, emptyB] at m0 m1 m2 m3 m4 m5; have n0 := HWc.out.cq.c0; have n1 := HWc.out.cq.c1; have n2 := HWc.out.cq.c2; have n3 := HWc.out.cq.c3; have n4 := HWc.out.cq.c4; have n5 := HWc.out.cq.c5; have nf := HWc.out.cq.fr
                    go_wp2
                    refine bodyPost_ret (v := .tuple #[cmdV c, .int .i64 0]) (by simp [results, Tryz.results8, go_sem, cmdV, verbC, emptyC, emptyB, m0, m1, m2, m3, m4, m5, n0, n1, n2, n3, n4, n5]) rfl ⟨by rw [HP5.out] <;> rfl, ((((((HWc.out.bel.setCell (p := ⟨w.heap.size, 0, none⟩) (Nat.le_refl _) _).setCell (p := ⟨w.heap.size, 1, none⟩) (Nat.le_refl _) _).setCell (p := ⟨w.heap.size, 2, none⟩) (Nat.le_refl _) _).setCell (p := ⟨w.heap.size, 3, none⟩) (Nat.le_refl _) _).setCell (p := ⟨w.heap.size, 4, none⟩) (Nat.le_refl _) _).setCell (p := ⟨w.heap.size, 5, none⟩) (Nat.le_refl _) _)⟩
        · -- RCPT
          obtain rfl : v = ⟨#[82, 67, 80, 84]⟩ := h
          have HP2 : Aside0 (r = outC (mailO (verbC RCPT) q toS)) := ⟨by rw [HP1.out, ← read_rcpt q f]; rfl⟩
          clear HP1
          have HBg : Aside0 (∀ W, Calls Tryz.prog 22 #[.string q, .string ⟨#[84, 79, 58]⟩] W fun e w' => e = .returned (.bool (aftF q toS)) ∧ Below W.heap.size W w') := ⟨fun W => begins_calls q toS hqz (by decide) W⟩
          have hzb : aftF q toS = true → 3 ≤ q.size := fun h => by rw [aftF, Bool.and_eq_true, decide_eq_true_eq] at h; exact h.1
          cases hbg : aftF q toS with
          | false =>
            have HP3 : Aside0 (r = (emptyC, 501)) := ⟨by rw [HP2.out, mailO, hbg, if_pos rfl]; rfl⟩
            rw [hbg] at HBg
            clear HP2 hbg hzb
            go_wp2_with (go_at_call 22; refine (HBg.out _).mono ?_; rintro e W2 ⟨rfl, hb2⟩; have HW2 := Aside0.mk (HW.out.below hb2); clear hb2; have m0 := HW2.out.r0.c0; have m1 := HW2.out.r0.c1; have m2 := HW2.out.r0.c2; have m3 := HW2.out.r0.c3; have m4 := HW2.out.r0.c4; have m5 := HW2.out.r0.c5; have mf := HW2.out.r0.fr; simp only [emptyC, emptyB] at m0 m1 m2 m3 m4 m5)
            refine bodyPost_ret (v := .tuple #[cmdV emptyC, .int .i64 501]) (by simp [results, Tryz.results8, go_sem, cmdV, verbC, emptyC, emptyB, m0, m1, m2, m3, m4, m5]) rfl ⟨by rw [HP3.out] <;> rfl, ((((((HW2.out.bel.setCell (p := ⟨w.heap.size, 0, none⟩) (Nat.le_refl _) _).setCell (p := ⟨w.heap.size, 1, none⟩) (Nat.le_refl _) _).setCell (p := ⟨w.heap.size, 2, none⟩) (Nat.le_refl _) _).setCell (p := ⟨w.heap.size, 3, none⟩) (Nat.le_refl _) _).setCell (p := ⟨w.heap.size, 4, none⟩) (Nat.le_refl _) _).setCell (p := ⟨w.heap.size, 5, none⟩) (Nat.le_refl _) _)⟩
          | true =>
            have hq3 := hzb hbg
            have haV : aftV q toS = q.extract 3 q.size := by rw [aftV, if_pos hbg]; rfl
            have hmail : mailO (verbC RCPT) q toS = match takeB (q.extract 3 q.size) with | none => none | some (l, d, o) => if ((verbC RCPT).v.toList == [82, 67, 80, 84]) = true then (if o.toList.isEmpty = true then some { verbC RCPT with l := l, d := d } else none) else optsO o.size { verbC RCPT with l := l, d := d, n := -1 } o := by
              rw [mailO, hbg, if_neg (by decide), haV]
              rfl
            rw [hmail] at HP2
            rw [hbg] at HBg
            clear hmail haV hbg hzb
            have hrz : (q.extract 3 q.size).size ≤ 1000000 := by rw [ByteArray.size_extract]; omega
            have HT := Aside0.mk (fun W => refTake_calls (q.extract 3 q.size) hrz W)
            obtain ⟨rr, hrr⟩ : ∃ x, x = q.extract 3 q.size := ⟨_, rfl⟩
            have HRR := Aside0.mk hrr
            rw [← hrr] at HP2 HT hrz
            clear hrr
            go_upto_region 36 with (go_at_call 22; refine (HBg.out _).mono ?_; rintro e W2 ⟨rfl, hb2⟩; have HW2 := Aside0.mk (HW.out.below hb2); clear hb2)
            rw [← HRR.out]
            clear HW HBg HRR
            cases htb : takeB rr with
            | none =>
              have hT := take_none rr htb
              have HP3 : Aside0 (r = (emptyC, 501)) := ⟨by rw [HP2.out, htb]; rfl⟩
              rw [hT] at HT
              clear HP2 htb hT
              go_wp2_with (go_at_call 23; refine (HT.out _).mono ?_; rintro e W3 ⟨rfl, hb3⟩; have HW3 := Aside0.mk ((HW2.out.below hb3).below ((Below.refl _ W3).alloc (Nat.le_refl _) (Obj.cells #[Value.string ⟨#[]⟩, Value.string ⟨#[]⟩] 24))); clear hb3; have m0 := HW3.out.r0.c0; have m1 := HW3.out.r0.c1; have m2 := HW3.out.r0.c2; have m3 := HW3.out.r0.c3; have m4 := HW3.out.r0.c4; have m5 := HW3.out.r0.c5; have mf := HW3.out.r0.fr; simp only [emptyC, emptyB] at m0 m1 m2 m3 m4 m5)
              refine bodyPost_ret (v := .tuple #[cmdV emptyC, .int .i64 501]) (by simp [results, Tryz.results8, go_sem, cmdV, verbC, emptyC, emptyB, m0, m1, m2, m3, m4, m5]) rfl ⟨by rw [HP3.out] <;> rfl, ((((((HW3.out.bel.setCell (p := ⟨w.heap.size, 0, none⟩) (Nat.le_refl _) _).setCell (p := ⟨w.heap.size, 1, none⟩) (Nat.le_refl _) _).setCell (p := ⟨w.heap.size, 2, none⟩) (Nat.le_refl _) _).setCell (p := ⟨w.heap.size, 3, none⟩) (Nat.le_refl _) _).setCell (p := ⟨w.heap.size, 4, none⟩) (Nat.le_refl _) _).setCell (p := ⟨w.heap.size, 5, none⟩) (Nat.le_refl _) _)⟩
            | some x =>
              obtain ⟨l, d, o⟩ := x
              obtain ⟨n, hn1, hn2, hT, hx, hox⟩ := take_some rr l d o htb
              rw [hT] at HT
              rw [htb] at HP2
              clear htb hT
              have HX := Aside0.mk hx
              clear hx
              have hn0 : ((n : Int) == 0) = false := by rw [beq_eq_false_iff_ne]; omega
              have HP3 : Aside0 (r = outC (if o.toList.isEmpty = true then some { verbC RCPT with l := l, d := d } else none)) := ⟨by rw [HP2.out]; show outC (if ((verbC RCPT).v.toList == [82, 67, 80, 84]) = true then (if o.toList.isEmpty = true then some { verbC RCPT with l := l, d := d } else none) else _) = _; rw [if_pos (by decide +kernel)]⟩
              have hoe : o.toList.isEmpty = decide (n = rr.size) := by
                have e : o.toList.length = o.size := by rw [toList_data, data_length]
                rw [Bool.eq_iff_iff, List.isEmpty_iff_length_eq_zero, e, decide_eq_true_eq]
                omega
              rw [hoe] at HP3
              clear hoe HP2
              by_cases hne : n = rr.size
              · rw [decide_eq_true hne, if_pos rfl] at HP3
                have t1 : decide ((n : Int) < (rr.size : Int)) = false := decide_eq_false (by omega)
                have t2 : decide (n < rr.size) = false := decide_eq_false (by omega)
                clear hne
                go_upto_if 101 with (go_at_call 23; refine (HT.out _).mono ?_; rintro e W3 ⟨rfl, hb3⟩; have HW3 := Aside0.mk ((HW2.out.below hb3).below ((Below.refl _ W3).alloc (Nat.le_refl _) (Obj.cells #[Value.string l, Value.string d] 24))); clear hb3; have p0 : (W3.alloc (Obj.cells #[Value.string l, Value.string d] 24)).cell? ⟨W3.heap.size, 0, none⟩ = some (.string l) := World.cell?_alloc_at _ _ _ _ rfl; have p1 : (W3.alloc (Obj.cells #[Value.string l, Value.string d] 24)).cell? ⟨W3.heap.size, 1, none⟩ = some (.string d) := World.cell?_alloc_at _ _ _ _ rfl)
                obtain ⟨W4, hW4⟩ : ∃ x, x = W3.alloc (Obj.cells #[Value.string l, Value.string d] 24) := ⟨_, rfl⟩
                obtain ⟨P, hP⟩ : ∃ x, x = W3.heap.size := ⟨_, rfl⟩
                rw [← hW4] at HW3 p0 p1 ⊢
                rw [← hP] at p0 p1 ⊢
                clear hW4 hP HW2 HT
                have HW5 := Aside0.mk (HW3.out.setP l d)
                have n0 := HW3.out.cq.c0; have n1 := HW3.out.cq.c1; have n2 := HW3.out.cq.c2; have n3 := HW3.out.cq.c3; have n4 := HW3.out.cq.c4; have n5 := HW3.out.cq.c5; have nf := HW3.out.cq.fr
                go_upto_region 55 with (fail)
                obtain ⟨W5, hW5⟩ : ∃ x, x = (W4.setCell ⟨Q, 1, none⟩ (.string l)).setCell ⟨Q, 2, none⟩ (.string d) := ⟨_, rfl⟩
                rw [← hW5] at HW5 ⊢
                clear hW5 HW3 n0 n1 n2 n3 n4 n5 nf
                have m0 := HW5.out.r0.c0; have m1 := HW5.out.r0.c1; have m2 := HW5.out.r0.c2; have m3 := HW5.out.r0.c3; have m4 := HW5.out.r0.c4; have m5 := HW5.out.r0.c5; have mf := HW5.out.r0.fr; simp only [emptyC, emptyB] at m0 m1 m2 m3 m4 m5; have n0 := HW5.out.cq.c0; have n1 := HW5.out.cq.c1; have n2 := HW5.out.cq.c2; have n3 := HW5.out.cq.c3; have n4 := HW5.out.cq.c4; have n5 := HW5.out.cq.c5; have nf := HW5.out.cq.fr
                go_wp2
                refine bodyPost_ret (v := .tuple #[cmdV { verbC RCPT with l := l, d := d }, .int .i64 0]) (by simp [results, Tryz.results8, go_sem, cmdV, verbC, emptyC, emptyB, m0, m1, m2, m3, m4, m5, RCPT, n0, n1, n2, n3, n4, n5]) rfl ⟨by rw [HP3.out] <;> rfl, ((((((HW5.out.bel.setCell (p := ⟨w.heap.size, 0, none⟩) (Nat.le_refl _) _).setCell (p := ⟨w.heap.size, 1, none⟩) (Nat.le_refl _) _).setCell (p := ⟨w.heap.size, 2, none⟩) (Nat.le_refl _) _).setCell (p := ⟨w.heap.size, 3, none⟩) (Nat.le_refl _) _).setCell (p := ⟨w.heap.size, 4, none⟩) (Nat.le_refl _) _).setCell (p := ⟨w.heap.size, 5, none⟩) (Nat.le_refl _) _)⟩
              · rw [decide_eq_false hne, if_neg (by decide)] at HP3
                have t1 : decide ((n : Int) < (rr.size : Int)) = true := decide_eq_true (by omega)
                have t2 : decide (n < rr.size) = true := decide_eq_true (by omega)
                go_upto_if 101 with (go_at_call 23; refine (HT.out _).mono ?_; rintro e W3 ⟨rfl, hb3⟩; have HW3 := Aside0.mk ((HW2.out.below hb3).below ((Below.refl _ W3).alloc (Nat.le_refl _) (Obj.cells #[Value.string l, Value.string d] 24))); clear hb3; have p0 : (W3.alloc (Obj.cells #[Value.string l, Value.string d] 24)).cell? ⟨W3.heap.size, 0, none⟩ = some (.string l) := World.cell?_alloc_at _ _ _ _ rfl; have p1 : (W3.alloc (Obj.cells #[Value.string l, Value.string d] 24)).cell? ⟨W3.heap.size, 1, none⟩ = some (.string d) := World.cell?_alloc_at _ _ _ _ rfl)
                obtain ⟨W4, hW4⟩ : ∃ x, x = W3.alloc (Obj.cells #[Value.string l, Value.string d] 24) := ⟨_, rfl⟩
                obtain ⟨P, hP⟩ : ∃ x, x = W3.heap.size := ⟨_, rfl⟩
                rw [← hW4] at HW3 p0 p1 ⊢
                rw [← hP] at p0 p1 ⊢
                clear hW4 hP HW2 HT
                have m0 := HW3.out.r0.c0; have m1 := HW3.out.r0.c1; have m2 := HW3.out.r0.c2; have m3 := HW3.out.r0.c3; have m4 := HW3.out.r0.c4; have m5 := HW3.out.r0.c5; have mf := HW3.out.r0.fr; simp only [emptyC, emptyB] at m0 m1 m2 m3 m4 m5
                go_wp2
                refine bodyPost_ret (v := .tuple #[cmdV emptyC, .int .i64 501]) (by simp [results, Tryz.results8, go_sem, cmdV, verbC, emptyC, emptyB, m0, m1, m2, m3, m4, m5]) rfl ⟨by rw [HP3.out] <;> rfl, ((((((HW3.out.bel.setCell (p := ⟨w.heap.size, 0, none⟩) (Nat.le_refl _) _).setCell (p := ⟨w.heap.size, 1, none⟩) (Nat.le_refl _) _).setCell (p := ⟨w.heap.size, 2, none⟩) (Nat.le_refl _) _).setCell (p := ⟨w.heap.size, 3, none⟩) (Nat.le_refl _) _).setCell (p := ⟨w.heap.size, 4, none⟩) (Nat.le_refl _) _).setCell (p := ⟨w.heap.size, 5, none⟩) (Nat.le_refl _) _)⟩
        · -- DATA
          obtain rfl : v = ⟨#[68, 65, 84, 65]⟩ := h
          have HP2 : Aside0 (r = outC (if f = true then none else some (verbC DATA))) := ⟨by rw [HP1.out, ← read_bare DATA q f (.inl rfl)] <;> rfl⟩
          clear HP1
          have m0 := HW.out.r0.c0; have m1 := HW.out.r0.c1; have m2 := HW.out.r0.c2; have m3 := HW.out.r0.c3; have m4 := HW.out.r0.c4; have m5 := HW.out.r0.c5; have mf := HW.out.r0.fr; simp only [emptyC, emptyB] at m0 m1 m2 m3 m4 m5; have n0 := HW.out.cq.c0; have n1 := HW.out.cq.c1; have n2 := HW.out.cq.c2; have n3 := HW.out.cq.c3; have n4 := HW.out.cq.c4; have n5 := HW.out.cq.c5; have nf := HW.out.cq.fr
          cases f with
          | true =>
            go_wp2
            refine bodyPost_ret (v := .tuple #[cmdV emptyC, .int .i64 501]) (by simp [results, Tryz.results8, go_sem, cmdV, verbC, emptyC, emptyB, m0, m1, m2, m3, m4, m5]) rfl ⟨by rw [HP2.out] <;> rfl, ((((((HW.out.bel.setCell (p := ⟨w.heap.size, 0, none⟩) (Nat.le_refl _) _).setCell (p := ⟨w.heap.size, 1, none⟩) (Nat.le_refl _) _).setCell (p := ⟨w.heap.size, 2, none⟩) (Nat.le_refl _) _).setCell (p := ⟨w.heap.size, 3, none⟩) (Nat.le_refl _) _).setCell (p := ⟨w.heap.size, 4, none⟩) (Nat.le_refl _) _).setCell (p := ⟨w.heap.size, 5, none⟩) (Nat.le_refl _) _)⟩
          | false =>
            go_wp2
            refine bodyPost_ret (v := .tuple #[cmdV (verbC DATA), .int .i64 0]) (by simp [results, Tryz.results8, go_sem, cmdV, verbC, emptyC, emptyB, m0, m1, m2, m3, m4, m5, DATA, n0, n1, n2, n3, n4, n5]) rfl ⟨by rw [HP2.out] <;> rfl, ((((((HW.out.bel.setCell (p := ⟨w.heap.size, 0, none⟩) (Nat.le_refl _) _).setCell (p := ⟨w.heap.size, 1, none⟩) (Nat.le_refl _) _).setCell (p := ⟨w.heap.size, 2, none⟩) (Nat.le_refl _) _).setCell (p := ⟨w.heap.size, 3, none⟩) (Nat.le_refl _) _).setCell (p := ⟨w.heap.size, 4, none⟩) (Nat.le_refl _) _).setCell (p := ⟨w.heap.size, 5, none⟩) (Nat.le_refl _) _)⟩
        · -- RSET
          obtain rfl : v = ⟨#[82, 83, 69, 84]⟩ := h
          have HP2 : Aside0 (r = outC (if f = true then none else some (verbC RSET))) := ⟨by rw [HP1.out, ← read_bare RSET q f (.inr (.inl rfl))] <;> rfl⟩
          clear HP1
          have m0 := HW.out.r0.c0; have m1 := HW.out.r0.c1; have m2 := HW.out.r0.c2; have m3 := HW.out.r0.c3; have m4 := HW.out.r0.c4; have m5 := HW.out.r0.c5; have mf := HW.out.r0.fr; simp only [emptyC, emptyB] at m0 m1 m2 m3 m4 m5; have n0 := HW.out.cq.c0; have n1 := HW.out.cq.c1; have n2 := HW.out.cq.c2; have n3 := HW.out.cq.c3; have n4 := HW.out.cq.c4; have n5 := HW.out.cq.c5; have nf := HW.out.cq.fr
          cases f with
          | true =>
            go_wp2
            refine bodyPost_ret (v := .tuple #[cmdV emptyC, .int .i64 501]) (by simp [results, Tryz.results8, go_sem, cmdV, verbC, emptyC, emptyB, m0, m1, m2, m3, m4, m5]) rfl ⟨by rw [HP2.out] <;> rfl, ((((((HW.out.bel.setCell (p := ⟨w.heap.size, 0, none⟩) (Nat.le_refl _) _).setCell (p := ⟨w.heap.size, 1, none⟩) (Nat.le_refl _) _).setCell (p := ⟨w.heap.size, 2, none⟩) (Nat.le_refl _) _).setCell (p := ⟨w.heap.size, 3, none⟩) (Nat.le_refl _) _).setCell (p := ⟨w.heap.size, 4, none⟩) (Nat.le_refl _) _).setCell (p := ⟨w.heap.size, 5, none⟩) (Nat.le_refl _) _)⟩
          | false =>
            go_wp2
            refine bodyPost_ret (v := .tuple #[cmdV (verbC RSET), .int .i64 0]) (by simp [results, Tryz.results8, go_sem, cmdV, verbC, emptyC, emptyB, m0, m1, m2, m3, m4, m5, RSET, n0, n1, n2, n3, n4, n5]) rfl ⟨by rw [HP2.out] <;> rfl, ((((((HW.out.bel.setCell (p := ⟨w.heap.size, 0, none⟩) (Nat.le_refl _) _).setCell (p := ⟨w.heap.size, 1, none⟩) (Nat.le_refl _) _).setCell (p := ⟨w.heap.size, 2, none⟩) (Nat.le_refl _) _).setCell (p := ⟨w.heap.size, 3, none⟩) (Nat.le_refl _) _).setCell (p := ⟨w.heap.size, 4, none⟩) (Nat.le_refl _) _).setCell (p := ⟨w.heap.size, 5, none⟩) (Nat.le_refl _) _)⟩
        · -- NOOP
          obtain rfl : v = ⟨#[78, 79, 79, 80]⟩ := h
          have HP2 : Aside0 (r = outC (some { verbC NOOP with a := q })) := ⟨by rw [HP1.out, ← read_noop q f]; rfl⟩
          clear HP1
          have HW1 := Aside0.mk (HW.out.setA q)
          have n0 := HW.out.cq.c0; have n1 := HW.out.cq.c1; have n2 := HW.out.cq.c2; have n3 := HW.out.cq.c3; have n4 := HW.out.cq.c4; have n5 := HW.out.cq.c5; have nf := HW.out.cq.fr
          go_upto_region 55 with (fail)
          obtain ⟨W1, hW1⟩ : ∃ x, x = W.setCell ⟨Q, 3, none⟩ (.string q) := ⟨_, rfl⟩
          rw [← hW1] at HW1 ⊢
          clear hW1 HW n0 n1 n2 n3 n4 n5 nf
          have m0 := HW1.out.r0.c0; have m1 := HW1.out.r0.c1; have m2 := HW1.out.r0.c2; have m3 := HW1.out.r0.c3; have m4 := HW1.out.r0.c4; have m5 := HW1.out.r0.c5; have mf := HW1.out.r0.fr; simp only [emptyC, emptyB] at m0 m1 m2 m3 m4 m5; have n0 := HW1.out.cq.c0; have n1 := HW1.out.cq.c1; have n2 := HW1.out.cq.c2; have n3 := HW1.out.cq.c3; have n4 := HW1.out.cq.c4; have n5 := HW1.out.cq.c5; have nf := HW1.out.cq.fr
          go_wp2
          refine bodyPost_ret (v := .tuple #[cmdV { verbC NOOP with a := q }, .int .i64 0]) (by simp [results, Tryz.results8, go_sem, cmdV, verbC, emptyC, emptyB, m0, m1, m2, m3, m4, m5, NOOP, n0, n1, n2, n3, n4, n5]) rfl ⟨by rw [HP2.out] <;> rfl, ((((((HW1.out.bel.setCell (p := ⟨w.heap.size, 0, none⟩) (Nat.le_refl _) _).setCell (p := ⟨w.heap.size, 1, none⟩) (Nat.le_refl _) _).setCell (p := ⟨w.heap.size, 2, none⟩) (Nat.le_refl _) _).setCell (p := ⟨w.heap.size, 3, none⟩) (Nat.le_refl _) _).setCell (p := ⟨w.heap.size, 4, none⟩) (Nat.le_refl _) _).setCell (p := ⟨w.heap.size, 5, none⟩) (Nat.le_refl _) _)⟩
        · -- QUIT
          obtain rfl : v = ⟨#[81, 85, 73, 84]⟩ := h
          have HP2 : Aside0 (r = outC (if f = true then none else some (verbC QUIT))) := ⟨by rw [HP1.out, ← read_bare QUIT q f (.inr (.inr rfl))] <;> rfl⟩
          clear HP1
          have m0 := HW.out.r0.c0; have m1 := HW.out.r0.c1; have m2 := HW.out.r0.c2; have m3 := HW.out.r0.c3; have m4 := HW.out.r0.c4; have m5 := HW.out.r0.c5; have mf := HW.out.r0.fr; simp only [emptyC, emptyB] at m0 m1 m2 m3 m4 m5; have n0 := HW.out.cq.c0; have n1 := HW.out.cq.c1; have n2 := HW.out.cq.c2; have n3 := HW.out.cq.c3; have n4 := HW.out.cq.c4; have n5 := HW.out.cq.c5; have nf := HW.out.cq.fr
          cases f with
          | true =>
            go_wp2
            refine bodyPost_ret (v := .tuple #[cmdV emptyC, .int .i64 501]) (by simp [results, Tryz.results8, go_sem, cmdV, verbC, emptyC, emptyB, m0, m1, m2, m3, m4, m5]) rfl ⟨by rw [HP2.out] <;> rfl, ((((((HW.out.bel.setCell (p := ⟨w.heap.size, 0, none⟩) (Nat.le_refl _) _).setCell (p := ⟨w.heap.size, 1, none⟩) (Nat.le_refl _) _).setCell (p := ⟨w.heap.size, 2, none⟩) (Nat.le_refl _) _).setCell (p := ⟨w.heap.size, 3, none⟩) (Nat.le_refl _) _).setCell (p := ⟨w.heap.size, 4, none⟩) (Nat.le_refl _) _).setCell (p := ⟨w.heap.size, 5, none⟩) (Nat.le_refl _) _)⟩
          | false =>
            go_wp2
            refine bodyPost_ret (v := .tuple #[cmdV (verbC QUIT), .int .i64 0]) (by simp [results, Tryz.results8, go_sem, cmdV, verbC, emptyC, emptyB, m0, m1, m2, m3, m4, m5, QUIT, n0, n1, n2, n3, n4, n5]) rfl ⟨by rw [HP2.out] <;> rfl, ((((((HW.out.bel.setCell (p := ⟨w.heap.size, 0, none⟩) (Nat.le_refl _) _).setCell (p := ⟨w.heap.size, 1, none⟩) (Nat.le_refl _) _).setCell (p := ⟨w.heap.size, 2, none⟩) (Nat.le_refl _) _).setCell (p := ⟨w.heap.size, 3, none⟩) (Nat.le_refl _) _).setCell (p := ⟨w.heap.size, 4, none⟩) (Nat.le_refl _) _).setCell (p := ⟨w.heap.size, 5, none⟩) (Nat.le_refl _) _)⟩
        · -- VRFY
          obtain rfl : v = ⟨#[86, 82, 70, 89]⟩ := h
          have HP2 : Aside0 (r = outC (if q.toList.isEmpty = true then none else some { verbC VRFY with a := q })) := ⟨by rw [HP1.out, ← read_vrfy q f]; rfl⟩
          clear HP1
          have HW1 := Aside0.mk (HW.out.setA q)
          have n0 := HW.out.cq.c0; have n1 := HW.out.cq.c1; have n2 := HW.out.cq.c2; have n3 := HW.out.cq.c3; have n4 := HW.out.cq.c4; have n5 := HW.out.cq.c5; have nf := HW.out.cq.fr
          go_upto_region 26 with (fail)
          obtain ⟨W1, hW1⟩ : ∃ x, x = W.setCell ⟨Q, 3, none⟩ (.string q) := ⟨_, rfl⟩
          rw [← hW1] at HW1 ⊢
          clear hW1 HW n0 n1 n2 n3 n4 n5 nf
          have m0 := HW1.out.r0.c0; have m1 := HW1.out.r0.c1; have m2 := HW1.out.r0.c2; have m3 := HW1.out.r0.c3; have m4 := HW1.out.r0.c4; have m5 := HW1.out.r0.c5; have mf := HW1.out.r0.fr; simp only [emptyC, emptyB] at m0 m1 m2 m3 m4 m5; have n0 := HW1.out.cq.c0; have n1 := HW1.out.cq.c1; have n2 := HW1.out.cq.c2; have n3 := HW1.out.cq.c3; have n4 := HW1.out.cq.c4; have n5 := HW1.out.cq.c5; have nf := HW1.out.cq.fr
          cases hq : q.toList.isEmpty with
          | true =>
            rw [hq] at HP2
            have hq2 : q.toList = [] := by simpa using hq
            go_wp2
            refine bodyPost_ret (v := .tuple #[cmdV emptyC, .int .i64 501]) (by simp [results, Tryz.results8, go_sem, cmdV, verbC, emptyC, emptyB, m0, m1, m2, m3, m4, m5]) rfl ⟨by rw [HP2.out] <;> rfl, ((((((HW1.out.bel.setCell (p := ⟨w.heap.size, 0, none⟩) (Nat.le_refl _) _).setCell (p := ⟨w.heap.size, 1, none⟩) (Nat.le_refl _) _).setCell (p := ⟨w.heap.size, 2, none⟩) (Nat.le_refl _) _).setCell (p := ⟨w.heap.size, 3, none⟩) (Nat.le_refl _) _).setCell (p := ⟨w.heap.size, 4, none⟩) (Nat.le_refl _) _).setCell (p := ⟨w.heap.size, 5, none⟩) (Nat.le_refl _) _)⟩
          | false =>
            rw [hq] at HP2
            have hq2 : ¬ q.toList = [] := by simpa using hq
            go_wp2
            refine bodyPost_ret (v := .tuple #[cmdV { verbC VRFY with a := q }, .int .i64 0]) (by simp [results, Tryz.results8, go_sem, cmdV, verbC, emptyC, emptyB, m0, m1, m2, m3, m4, m5, VRFY, n0, n1, n2, n3, n4, n5]) rfl ⟨by rw [HP2.out] <;> rfl, ((((((HW1.out.bel.setCell (p := ⟨w.heap.size, 0, none⟩) (Nat.le_refl _) _).setCell (p := ⟨w.heap.size, 1, none⟩) (Nat.le_refl _) _).setCell (p := ⟨w.heap.size, 2, none⟩) (Nat.le_refl _) _).setCell (p := ⟨w.heap.size, 3, none⟩) (Nat.le_refl _) _).setCell (p := ⟨w.heap.size, 4, none⟩) (Nat.le_refl _) _).setCell (p := ⟨w.heap.size, 5, none⟩) (Nat.le_refl _) _)⟩
end Go.Proofs.YtjggdkcfpdhoaaaGreatDoor.RefParse
