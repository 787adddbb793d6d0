/- smtp.number: the number of one to nine digits; smtp.after: what is behind words, whatever their letters. -/
import Derived.Test.YtjggdkcfpdhoaaaGreatDoorLarge
import Derived.Test.YtjggdkcfpdhoaaaGreatDoorTake
import Derived.Shelf.Strings.SlTrimAscii
import Derived.Lib.AtoiBound
namespace Go.Proofs.YtjggdkcfpdhoaaaGreatDoor.Number
open Go Go.RowKit Go.Proofs.YtjggdkcfpdhoaaaGreatDoorW.PrintWords Go.Proofs.YtjggdkcfpdhoaaaGreatDoor.Large Go.Proofs.YtjggdkcfpdhoaaaGreatDoor.Take
set_option linter.unusedVariables false
set_option linter.unusedSimpArgs false
def digI (c : Int) : Bool := decide (48 ≤ c) && decide (c ≤ 57)
def valL (l : List Int) : Int := l.foldl (fun n c => 10 * n + (c - 48)) 0
/-- Is a text one to nine digits? -/
def numF (s : ByteArray) : Bool := decide (1 ≤ s.size) && (decide (s.size ≤ 9) && (bytesOf s).all digI)
def numV (s : ByteArray) : Int := if numF s = true then valL (bytesOf s) else 0
def tens : List UInt8 := [48, 49, 50, 51, 52, 53, 54, 55, 56, 57]
theorem tens_dig (b : UInt8) : tens.contains b = digI (b.toNat : Int) := by
  have h : ∀ n : Fin 256, tens.contains (UInt8.ofNat n.val) = digI (n.val : Int) := by decide +kernel
  have h1 := h ⟨b.toNat, b.toNat_lt⟩
  simpa using h1
theorem drop_nil (p : UInt8 → Bool) : ∀ l : List UInt8, l.dropWhile p = [] ↔ ∀ a ∈ l, p a = true
  | [] => by simp
  | a :: l => by
    cases h : p a with
    | true => simp [List.dropWhile_cons, h, drop_nil p l]
    | false => simp [List.dropWhile_cons, h]
theorem drop_head (p : UInt8 → Bool) (b : UInt8) (r : List UInt8) : ∀ l : List UInt8, l.dropWhile p = b :: r → p b = false
  | [], h => by simp at h
  | a :: l, h => by
    cases h1 : p a with
    | true => rw [List.dropWhile_cons, h1] at h; exact drop_head p b r l h
    | false =>
      rw [List.dropWhile_cons, h1] at h
      have h2 : a :: l = b :: r := h
      rw [List.cons.injEq] at h2
      rw [← h2.1]; exact h1
theorem trim_nil (l : List UInt8) : (Lib.trimS l tens).isEmpty = l.all (fun b => tens.contains b) := by
  have key : ∀ x : List UInt8, x.dropWhile (tens.contains ·) = [] ↔ ∀ a ∈ x, tens.contains a = true := fun x => drop_nil _ x
  rw [Bool.eq_iff_iff, List.isEmpty_iff, List.all_eq_true]
  show (Lib.trimRightS l tens).dropWhile (tens.contains ·) = [] ↔ _
  rw [key]
  constructor
  · intro h a ha
    have h2 : (l.reverse.dropWhile (tens.contains ·)) = [] := by
      cases h3 : l.reverse.dropWhile (tens.contains ·) with
      | nil => rfl
      | cons b r =>
        have h4 := h b (by show b ∈ (l.reverse.dropWhile (tens.contains ·)).reverse; rw [h3]; simp)
        have h5 := drop_head _ b r _ h3
        rw [h4] at h5
        exact absurd h5 (by simp)
    exact (key _).1 h2 a (by simpa using ha)
  · intro h a ha
    have h1 : a ∈ (l.reverse.dropWhile (tens.contains ·)).reverse := ha
    rw [List.mem_reverse] at h1
    exact h a (by simpa using (List.dropWhile_sublist _).subset h1)
theorem decFrom_digits : ∀ (l : List UInt8) (acc : Nat), (l.all fun b => tens.contains b) = true → Lib.decFrom acc l = some (l.foldl (fun n b => n * 10 + (b.toNat - 48)) acc) := by
  intro l
  induction l with
  | nil => intro acc _; rfl
  | cons b r ih =>
    intro acc h
    rw [List.all_cons, Bool.and_eq_true] at h
    have hd := h.1
    rw [tens_dig, digI, Bool.and_eq_true, decide_eq_true_eq, decide_eq_true_eq] at hd
    have hv : Lib.digitVal b = some (b.toNat - 48) := if_pos (by omega)
    rw [Lib.decFrom, hv, List.foldl_cons]
    exact ih _ h.2
theorem fold_val : ∀ (l : List UInt8) (acc : Nat), (l.all fun b => tens.contains b) = true →
    ((l.foldl (fun n b => n * 10 + (b.toNat - 48)) acc : Nat) : Int) = (l.map fun b : UInt8 => (b.toNat : Int)).foldl (fun n c => 10 * n + (c - 48)) (acc : Int) := by
  intro l
  induction l with
  | nil => intro acc _; rfl
  | cons b r ih =>
    intro acc h
    rw [List.all_cons, Bool.and_eq_true] at h
    have hd := h.1
    rw [tens_dig, digI, Bool.and_eq_true, decide_eq_true_eq, decide_eq_true_eq] at hd
    rw [List.foldl_cons, List.map_cons, List.foldl_cons, ih _ h.2]
    congr 1
    omega
theorem all_dig (s : ByteArray) : (s.data.toList.all fun b => tens.contains b) = (bytesOf s).all digI := by
  rw [bytesOf, List.all_map]
  congr 1
  funext b
  exact tens_dig b
theorem atoi_val (s : ByteArray) (h0 : 1 ≤ s.size) (h : (bytesOf s).all digI = true) : Lib.atoi s.data.toList = some (valL (bytesOf s)) := by
  rw [← all_dig] at h
  have hl : s.data.toList.length = s.size := data_length s
  have e : valL (bytesOf s) = ((s.data.toList.foldl (fun n b => n * 10 + (b.toNat - 48)) 0 : Nat) : Int) := by rw [fold_val _ _ h]; rfl
  rw [e]
  cases h1 : s.data.toList with
  | nil => rw [h1] at hl; simp at hl; omega
  | cons b r =>
    rw [h1] at h
    have hb := h
    rw [List.all_cons, Bool.and_eq_true] at hb
    have hd := hb.1
    rw [tens_dig, digI, Bool.and_eq_true, decide_eq_true_eq, decide_eq_true_eq] at hd
    have n1 : (b == 45) = false := by
      cases h2 : b == 45 with
      | false => rfl
      | true => rw [beq_iff_eq] at h2; rw [h2] at hd; exact absurd hd (by decide)
    have n2 : (b == 43) = false := by
      cases h2 : b == 43 with
      | false => rfl
      | true => rw [beq_iff_eq] at h2; rw [h2] at hd; exact absurd hd (by decide)
    rw [Lib.atoi, n1, n2]
    simp only [Bool.false_eq_true, if_false]
    rw [Lib.decNat, List.isEmpty_cons, if_neg (by simp), decFrom_digits _ _ h]
    rfl
set_option maxHeartbeats 1000000 in
theorem number_calls (s : ByteArray) (hs : s.size ≤ 1000000) (w : World) : Calls Tryz.prog 32 #[.string s] w fun e w' => e = .returned (.tuple #[.int .i64 (numV s), .bool (numF s)]) ∧ Below w.heap.size w w' := by
  have HT := Aside0.mk (fun W => Any.strings_Trim_laid Tryz.lays160 (by kernel_rfl) s ⟨#[48, 49, 50, 51, 52, 53, 54, 55, 56, 57]⟩ W (by omega) (by decide) (ascii_of_all (by decide)))
  obtain ⟨T, hT⟩ : ∃ T : ByteArray, T = ⟨(Lib.trimS s.data.toList tens).toArray⟩ := ⟨_, rfl⟩
  have HT : Aside0 (∀ W, Calls Tryz.prog 47 #[.string s, .string ⟨#[48, 49, 50, 51, 52, 53, 54, 55, 56, 57]⟩] W fun e w' => e = .returned (.string T) ∧ Below W.heap.size W w') := by rw [hT]; exact ⟨fun W => HT.out W⟩
  have hTe : T.toList.isEmpty = (bytesOf s).all digI := by rw [hT, Dots.toList_data, ← all_dig, ← trim_nil]
  clear hT
  by_cases h1 : 1 ≤ s.size
  · by_cases h9 : s.size ≤ 9
    · cases hd : (bytesOf s).all digI with
      | true =>
        have e1 : numF s = true := by rw [numF, decide_eq_true h1, decide_eq_true h9, hd]; rfl
        have e2 : numV s = valL (bytesOf s) := if_pos e1
        have HA := Aside0.mk (fun W => Tryz.strconv_Atoi s _ (by omega) (atoi_val s h1 hd) W)
        rw [hd] at hTe
        rw [e1, e2]
        clear e1 e2 hd
        have t1 : decide ((s.size : Int) < 1) = false := decide_eq_false (by omega)
        have t2 : decide (9 < (s.size : Int)) = false := decide_eq_false (by omega)
        go_enter Tryz.func32, Tryz.ntmps32
        go_wp2_with (first
          | (go_at_call 47; refine (HT.out _).mono ?_; rintro e w1 ⟨rfl, hb1⟩; have HB1 := Aside0.mk hb1; clear hb1)
          | (go_at_call 48; refine (HA.out _).mono ?_; rintro e w2 ⟨rfl, hb2⟩; have HB2 := Aside0.mk hb2; clear hb2))
        go_region
        go_wp2
        refine bodyPost_ret (v := .tuple #[.int .i64 (valL (bytesOf s)), .bool true]) (by simp [results, Tryz.results32, go_sem]) rfl ⟨rfl, pw_below_drewN ?_ 1⟩
        obtain ⟨t, ht⟩ := HB2.out
        rw [ht]
        exact HB1.out.trans (((Below.refl _ w1).grown (Go.Proofs.YtjggdkcfpdhoaaaGreatDoorW.SRows.bytes_grown w1 _ t) (Nat.le_refl _) (fun k e => by cases e)).mono HB1.out.size)
      | false =>
        have e1 : numF s = false := by rw [numF, hd, Bool.and_false, Bool.and_false]
        have e2 : numV s = 0 := if_neg (by rw [e1]; simp)
        rw [hd] at hTe
        rw [e1, e2]
        clear e1 e2 hd
        have t1 : decide ((s.size : Int) < 1) = false := decide_eq_false (by omega)
        have t2 : decide (9 < (s.size : Int)) = false := decide_eq_false (by omega)
        go_enter Tryz.func32, Tryz.ntmps32
        go_wp2_with (go_at_call 47; refine (HT.out _).mono ?_; rintro e w1 ⟨rfl, hb1⟩; have HB1 := Aside0.mk hb1; clear hb1)
        refine bodyPost_ret (v := .tuple #[.int .i64 0, .bool false]) (by simp [results, Tryz.results32, go_sem]) rfl ⟨rfl, HB1.out⟩
    · have e1 : numF s = false := by rw [numF, decide_eq_false h9, Bool.false_and, Bool.and_false]
      have e2 : numV s = 0 := if_neg (by rw [e1]; simp)
      rw [e1, e2]
      clear e1 e2 hTe
      have t1 : decide ((s.size : Int) < 1) = false := decide_eq_false (by omega)
      have t2 : decide (9 < (s.size : Int)) = true := decide_eq_true (by omega)
      go_enter Tryz.func32, Tryz.ntmps32
      go_wp2
      refine bodyPost_ret (v := .tuple #[.int .i64 0, .bool false]) (by simp [results, Tryz.results32, go_sem]) rfl ⟨rfl, Below.refl _ _⟩
  · have e1 : numF s = false := by rw [numF, decide_eq_false h1, Bool.false_and]
    have e2 : numV s = 0 := if_neg (by rw [e1]; simp)
    rw [e1, e2]
    clear e1 e2 hTe
    have t1 : decide ((s.size : Int) < 1) = true := decide_eq_true (by omega)
    go_enter Tryz.func32, Tryz.ntmps32
    go_wp2
    refine bodyPost_ret (v := .tuple #[.int .i64 0, .bool false]) (by simp [results, Tryz.results32, go_sem]) rfl ⟨rfl, Below.refl _ _⟩
/-- What is behind words, whatever their letters. -/
def aftF (s words : ByteArray) : Bool := decide (words.size ≤ s.size) && (largeB (s.extract 0 words.size)).toList == words.toList
def aftV (s words : ByteArray) : ByteArray := if aftF s words = true then s.extract words.size s.size else ⟨#[]⟩
set_option maxHeartbeats 1000000 in
theorem after_calls (s words : ByteArray) (hs : s.size ≤ 1000000) (hw : words.size ≤ 1000) (w : World) :
    Calls Tryz.prog 53 #[.string s, .string words] w fun e w' => e = .returned (.tuple #[.string (aftV s words), .bool (aftF s words)]) ∧ Below w.heap.size w w' := by
  by_cases h1 : words.size ≤ s.size
  · have HL := Aside0.mk (fun W => large_calls (s.extract 0 words.size) (by rw [ByteArray.size_extract]; omega) W)
    obtain ⟨u, hu⟩ : ∃ u, u = largeB (s.extract 0 words.size) := ⟨_, rfl⟩
    rw [← hu] at HL
    have hd : aftF s words = (u.toList == words.toList) := by rw [aftF, decide_eq_true h1, Bool.true_and, ← hu]
    clear hu
    have t1 : decide ((s.size : Int) < (words.size : Int)) = false := decide_eq_false (by omega)
    have t2 : decide (s.size < words.size) = false := decide_eq_false (by omega)
    cases hb : u.toList == words.toList with
    | true =>
      have e2 : aftV s words = s.extract words.size s.size := if_pos (hd.trans hb)
      rw [hd.trans hb, e2]
      clear e2 hd
      go_enter Tryz.func53, Tryz.ntmps53
      go_wp2_with (go_at_call 16; refine (HL.out _).mono ?_; rintro e w1 ⟨rfl, hb1⟩; have HB1 := Aside0.mk hb1; clear hb1)
      refine bodyPost_ret (v := .tuple #[.string (s.extract words.size s.size), .bool true]) (by simp [results, Tryz.results53, go_sem]) rfl ⟨rfl, HB1.out⟩
    | false =>
      have e2 : aftV s words = ⟨#[]⟩ := if_neg (by rw [hd.trans hb]; simp)
      rw [hd.trans hb, e2]
      clear e2 hd
      go_enter Tryz.func53, Tryz.ntmps53
      go_wp2_with (go_at_call 16; refine (HL.out _).mono ?_; rintro e w1 ⟨rfl, hb1⟩; have HB1 := Aside0.mk hb1; clear hb1)
      refine bodyPost_ret (v := .tuple #[.string ⟨#[]⟩, .bool false]) (by simp [results, Tryz.results53, go_sem]) rfl ⟨rfl, HB1.out⟩
  · have hd : aftF s words = false := by rw [aftF, decide_eq_false h1, Bool.false_and]
    have e2 : aftV s words = ⟨#[]⟩ := if_neg (by rw [hd]; simp)
    rw [hd, e2]
    clear e2 hd
    have t1 : decide ((s.size : Int) < (words.size : Int)) = true := decide_eq_true (by omega)
    have t2 : decide (s.size < words.size) = true := decide_eq_true (by omega)
    go_enter Tryz.func53, Tryz.ntmps53
    go_wp2
    refine bodyPost_ret (v := .tuple #[.string ⟨#[]⟩, .bool false]) (by simp [results, Tryz.results53, go_sem]) rfl ⟨rfl, Below.refl _ _⟩
end Go.Proofs.YtjggdkcfpdhoaaaGreatDoor.Number
