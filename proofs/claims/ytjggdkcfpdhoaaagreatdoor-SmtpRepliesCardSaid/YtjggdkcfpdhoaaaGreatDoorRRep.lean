/- The document's Reply of layer 19, walked; a reply's code. -/
import Derived.Test.YtjggdkcfpdhoaaaGreatDoorRep
import Derived.Test.YtjggdkcfpdhoaaaGreatDoorQDig
import Derived.Test.YtjggdkcfpdhoaaaGreatDoorCodeT
import Derived.IntWalk
namespace Go.Proofs.YtjggdkcfpdhoaaaGreatDoor.RRep
open Go Go.RowKit Go.Proofs.YtjggdkcfpdhoaaaGreatDoorW.PrintWords Go.Proofs.YtjggdkcfpdhoaaaGreatDoorW.PrintMore Go.Proofs.YtjggdkcfpdhoaaaGreatDoor.Dots Go.Proofs.YtjggdkcfpdhoaaaGreatDoor.Number Go.Proofs.YtjggdkcfpdhoaaaGreatDoor.Bld Go.Proofs.YtjggdkcfpdhoaaaGreatDoor.Reply Go.Proofs.YtjggdkcfpdhoaaaGreatDoor.NL Go.Proofs.YtjggdkcfpdhoaaaGreatDoor.Rep Go.Proofs.YtjggdkcfpdhoaaaGreatDoor.QRef3 Go.Proofs.YtjggdkcfpdhoaaaGreatDoor.QDig Go.Proofs.YtjggdkcfpdhoaaaGreatDoor.CodeT
attribute [local go_sem] max2_int max_two
set_option linter.unusedVariables false
set_option linter.unusedSimpArgs false
theorem bcell {W w1 : World} (hb : Below W.heap.size W w1) : (∀ b o, b < W.heap.size → w1.cell? ⟨b, o, none⟩ = W.cell? ⟨b, o, none⟩) ∧ (∀ b o, b < W.heap.size → w1.frozen? ⟨b, o, none⟩ = W.frozen? ⟨b, o, none⟩) :=
  ⟨fun b o h => hb.cell (p := ⟨b, o, none⟩) h, fun b o h => hb.frozen (p := ⟨b, o, none⟩) h⟩
def wantB (code : Int) (ls : List ByteArray) (k : Nat) : ByteArray := ⟨(accR code ls k).toArray⟩
theorem app_data (a b : ByteArray) : (a ++ b).data.toList = a.data.toList ++ b.data.toList := by
  have : (a ++ b).data = a.data ++ b.data := ByteArray.data_append
  rw [this, Array.toList_append]
theorem want_data (code : Int) (ls : List ByteArray) (k : Nat) : (wantB code ls k).data.toList = accR code ls k := by simp [wantB]
theorem want_succ (code : Int) (ls : List ByteArray) (k : Nat) : wantB code ls (k + 1) = wantB code ls k ++ lineB code (decide (k + 1 = ls.length)) (ls.getD k ByteArray.empty) := by
  apply data_inj
  rw [app_data, want_data, want_data]
  rfl
theorem want_size (code : Int) (ls : List ByteArray) (k : Nat) : (wantB code ls k).size = (accR code ls k).length := by rw [← data_length, want_data]
theorem reply_one (code : Int) : replyB code [⟨#[]⟩] = itoaB code ++ (⟨#[32, 13, 10]⟩ : ByteArray) := by
  apply data_inj
  have e : (replyB code [⟨#[]⟩]).data.toList = [] ++ (lineB code true ⟨#[]⟩).data.toList := by
    show (accR code [⟨#[]⟩] 1).toArray.toList = _
    simp [accR]
  rw [e, app_data, lineB, app_data, app_data, app_data]
  simp [itoaB, crlf]
/-- Three digits. -/
theorem itoa_three (m : Nat) (h1 : 100 ≤ m) (h2 : m ≤ 999) : Lib.itoa (m : Int) = [UInt8.ofNat (48 + m / 100), UInt8.ofNat (48 + m / 10 % 10), UInt8.ofNat (48 + m % 10)] := by
  have e : ((m : Nat) : Int).toNat = m := by omega
  rw [Lib.itoa, if_neg (by omega), e, Lib.decDigits.eq_def m, dif_neg (by omega), Lib.decDigits.eq_def (m / 10), dif_neg (by omega), Lib.decDigits_one (by omega), Nat.div_div_eq_div_mul]
  rfl
theorem code_three (m : Nat) (h1 : 100 ≤ m) (h2 : m ≤ 999) (s : ByteArray) (rest : List UInt8) (hs : s.data.toList = Lib.itoa (m : Int) ++ rest) : codeV s = m := by
  have hz : 3 ≤ s.size := by
    have := data_length s
    rw [hs, itoa_three m h1 h2] at this
    simp at this
    omega
  have hd : ∀ x : Nat, x < 10 → (UInt8.ofNat (48 + x)).toNat = 48 + x := fun x hx => by rw [UInt8.toNat_ofNat']; omega
  have hb : bytesOf (s.extract 0 3) = [((48 + m / 100 : Nat) : Int), ((48 + m / 10 % 10 : Nat) : Int), ((48 + m % 10 : Nat) : Int)] := by
    rw [bytesOf, cut_data, hs, itoa_three m h1 h2]
    simp only [List.cons_append, List.nil_append, List.drop_zero, Nat.sub_zero, List.take_succ_cons, List.take_zero, List.map_cons, List.map_nil]
    rw [hd _ (by omega), hd _ (by omega), hd _ (by omega)]
  have hsz : (s.extract 0 3).size = 3 := by rw [ByteArray.size_extract]; omega
  have hall : ((bytesOf (s.extract 0 3)).all digI) = true := by
    rw [hb]
    simp only [List.all_cons, List.all_nil, Bool.and_true, digI, Bool.and_eq_true, decide_eq_true_eq]
    omega
  have hf : numF (s.extract 0 3) = true := by rw [numF, hsz, hall]; rfl
  rw [codeV, if_pos hz, numV, if_pos hf, hb, valL]
  simp only [List.foldl_cons, List.foldl_nil]
  omega
theorem code_reply (code : Int) (h1 : 100 ≤ code) (h2 : code ≤ 999) (ls : List ByteArray) : codeV (replyB code (linesR ls)) = code := by
  obtain ⟨m, rfl⟩ := Int.eq_ofNat_of_zero_le (show 0 ≤ code by omega)
  obtain ⟨x, xs, hl⟩ : ∃ x xs, linesR ls = x :: xs := by
    cases ls with
    | nil => exact ⟨_, [], rfl⟩
    | cons x xs => exact ⟨x, xs, rfl⟩
  rw [hl]
  have hpre : ∀ k, 1 ≤ k → ∃ r, accR (m : Int) (x :: xs) k = Lib.itoa (m : Int) ++ r := by
    intro k hk
    induction k with
    | zero => omega
    | succ k ih =>
      rcases Nat.eq_zero_or_pos k with rfl | h0
      · have e : accR (m : Int) (x :: xs) 1 = Lib.itoa (m : Int) ++ ((if decide (0 + 1 = (x :: xs).length) = true then (⟨#[32]⟩ : ByteArray) else ⟨#[45]⟩).data.toList ++ (((x :: xs).getD 0 ByteArray.empty).data.toList ++ crlf.data.toList)) := by
          rw [accR, accR, lineB, app_data, app_data, app_data, List.nil_append, List.append_assoc, List.append_assoc]
        exact ⟨_, e⟩
      · obtain ⟨r, hr⟩ := ih (by omega)
        exact ⟨_, by rw [accR, hr, List.append_assoc]⟩
  obtain ⟨r, hr⟩ := hpre (x :: xs).length (by simp)
  refine code_three m (by omega) (by omega) _ r ?_
  rw [← hr]
  simp [replyB]
theorem step_a {wr w1 : World} (h : Below wr.drew.heap.size wr.drew w1) (o : Obj) : Below wr.heap.size wr (w1.alloc o) :=
  have h1 : Below wr.heap.size wr w1 := ((Below.refl _ wr).drew).trans h
  h1.alloc h1.size o
theorem step_b {wr w1 : World} {o : Obj} (h : Below (wr.drew.alloc o).heap.size (wr.drew.alloc o) w1) : Below wr.heap.size wr w1 :=
  have h0 : Below wr.heap.size wr (wr.drew.alloc o) := ((Below.refl _ wr).drew).alloc (Nat.le_refl _) o
  h0.trans (h.mono h0.size)
set_option maxRecDepth 100000 in
set_option maxHeartbeats 8000000 in
theorem refReply_calls (code : Int) (hc1 : 100 ≤ code) (hc2 : code ≤ 999) (ls : List ByteArray) (h100 : ls.length ≤ 100) (hsz : ∀ l ∈ ls, l.size ≤ 1000) (A : Option Addr) (cp : Nat) (w : World) (hS : SliceN A ls w) :
    Calls Tryz.prog 11 #[.int .i64 code, .slice A ls.length cp] w fun e w' => e = .returned (.string (replyB code (linesR ls))) ∧ Below w.heap.size w w' := by
  have HD := Aside0.mk (fun W => refDigits10_calls code (by omega) (by omega) W)
  have hit := itoa_len code (by omega) hc2
  have hds : (itoaB code).size = (Lib.itoa code).length := by show (Lib.itoa code).toArray.size = _; simp
  cases ls with
  | nil =>
    rw [show linesR [] = [⟨#[]⟩] from rfl, reply_one]
    obtain ⟨d, hd⟩ : ∃ d, d = itoaB code := ⟨_, rfl⟩
    rw [← hd] at HD hds ⊢
    clear hd
    have f1 : ¬ 9223372036854775807 < d.size + 3 := by omega
    show Calls Tryz.prog 11 #[.int .i64 code, .slice A 0 cp] w _
    go_enter Tryz.func11, Tryz.ntmps11
    go_wp2_with (go_at_call 31; refine (HD.out _).mono ?_; rintro e w1 ⟨rfl, hb1⟩; have HB1 := Aside0.mk hb1; clear hb1)
    go_ret
    exact ⟨rfl, HB1.out⟩
  | cons x xs =>
    have hlr : linesR (x :: xs) = x :: xs := rfl
    rw [hlr]
    obtain ⟨ls, hls⟩ : ∃ l, l = x :: xs := ⟨_, rfl⟩
    have h1 : 1 ≤ ls.length := by rw [hls]; simp
    rw [← hls] at h100 hsz hS ⊢
    obtain ⟨b, o, rfl, hcell⟩ := hS (by omega)
    have HC := Aside0.mk hcell
    have HSZ := Aside0.mk hsz
    have HWS := Aside0.mk (fun k (hk : k ≤ ls.length) => accR_size code ls (by omega) hsz k hk)
    obtain ⟨n, hn⟩ : ∃ n, n = ls.length := ⟨_, rfl⟩
    have HN := Aside0.mk hn
    obtain ⟨r, hr⟩ : ∃ r, r = replyB code ls := ⟨_, rfl⟩
    have HR : Aside0 (r = wantB code ls n) := ⟨by rw [hr, hn]; rfl⟩
    rw [← hr]
    rw [← hn] at h1 h100 ⊢
    have t3 : ((n : Int) == 0) = false := by rw [beq_eq_false_iff_ne]; omega
    clear hn hr hls hcell hsz hS hlr
    go_enter Tryz.func11, Tryz.ntmps11
    go_wp2
    go_loopw [5, 16] (fun v i wr => ∃ k : Nat, k ≤ n ∧ i = .int .i64 k ∧ v = .string (wantB code ls k) ∧ Aside0 (Below w.heap.size w wr)) (fun _ i _ => n - (intOf i).toNat)
    case atStart => exact ⟨0, Nat.zero_le _, rfl, rfl, ⟨Below.refl _ _⟩⟩
    case round =>
      obtain ⟨k, hk, rfl, rfl, HB⟩ := hrel
      by_cases hlt : k < n
      · have hc0 := HC.out k (by rw [← HN.out]; exact hlt)
        have hcell : wr.cell? ⟨b, o + k, none⟩ = some (.string (ls.getD k ByteArray.empty)) := (HB.out.cell (p := ⟨b, o + k, none⟩) (World.block_lt_of_cell? w _ hc0)).trans hc0
        have hlz : (ls.getD k ByteArray.empty).size ≤ 1000 := HSZ.out _ (by rw [List.getD_eq_getElem?_getD, List.getElem?_eq_getElem (by rw [← HN.out]; exact hlt)]; exact List.getElem_mem _)
        have hsucc := want_succ code ls k
        have hws : (wantB code ls k).size ≤ 110000 := by
          rw [want_size]
          have := HWS.out k (by rw [← HN.out]; exact hk)
          omega
        rw [← HN.out] at hsucc
        obtain ⟨l, hl⟩ : ∃ x, x = ls.getD k ByteArray.empty := ⟨_, rfl⟩
        rw [← hl] at hcell hlz hsucc
        unfold lineB at hsucc
        rw [show (⟨(Lib.itoa code).toArray⟩ : ByteArray) = itoaB code from rfl] at hsucc
        obtain ⟨d, hd⟩ : ∃ d, d = itoaB code := ⟨_, rfl⟩
        rw [← hd] at HD hds hsucc
        obtain ⟨s, hs⟩ : ∃ x, x = wantB code ls k := ⟨_, rfl⟩
        rw [← hs] at hsucc hws ⊢
        have HSU := Aside0.mk hsucc
        clear hd hs hl hsucc hc0
        have t4 : decide ((k : Int) < (n : Int)) = true := decide_eq_true (by omega)
        have f1 : ¬ 9223372036854775807 < d.size + 1 := by omega
        have f2 : ¬ 9223372036854775807 < d.size + 1 + l.size := by omega
        have f3 : ¬ 9223372036854775807 < d.size + 1 + l.size + 2 := by omega
        have f4 : ¬ 9223372036854775807 < s.size + (d.size + 1 + l.size + 2) := by omega
        have HSTEP : Aside0 (∀ wr w2 : World, Below w.heap.size w wr → Below wr.heap.size wr w2 → Below w.heap.size w w2) := ⟨fun _ _ h1 h2 => h1.trans (h2.mono h1.size)⟩
        by_cases hkn : k + 1 = n
        · have g1 : IntKind.i64.wrap ((k : Int) - (n : Int)) = -1 := by
            rw [show (k : Int) - (n : Int) = -1 by omega]; decide
          have g2 : IntKind.i64.wrap ((-1 : Int) + 2) = 1 := by decide
          have g3 : IntKind.i64.wrap 1 = 1 := by decide
          have HSU2 : Aside0 (wantB code ls (k + 1) = s ++ (((d ++ (⟨#[32]⟩ : ByteArray)) ++ l) ++ crlf)) := ⟨by rw [HSU.out, decide_eq_true hkn]; rfl⟩
          clear HSU hds hit
          go_upto_region 7 with (fail)
          go_region_with (go_at_call 31; refine (HD.out _).mono ?_; rintro e w1 ⟨rfl, hb1⟩; have hbc := (bcell hb1).1; have HB1 := Aside0.mk hb1; clear hb1)
          all_goals
            go_wp2
            go_roundw
            case rel => exact ⟨k + 1, by omega, by go_num, by rw [HSU2.out]; rfl, ⟨HSTEP.out _ _ HB.out (by first | exact step_a HB1.out _ | exact step_b HB1.out)⟩⟩
            case measure => simp [intOf]; try omega
        · obtain ⟨m, hm⟩ : ∃ m : Int, m = (k : Int) - (n : Int) := ⟨_, rfl⟩
          have g1 : IntKind.i64.wrap ((k : Int) - (n : Int)) = m := by
            rw [← hm]; exact (Go.Proofs.YtjggdkcfpdhoaaaGreatDoorW.PrintLast.i64_w _).trans (Go.IntWalk.wrap64_in _ ⟨by omega, by omega⟩)
          have g2 : IntKind.i64.wrap (m + 2) = m + 2 := (Go.Proofs.YtjggdkcfpdhoaaaGreatDoorW.PrintLast.i64_w _).trans (Go.IntWalk.wrap64_in _ ⟨by omega, by omega⟩)
          have g3 : ¬ 0 < m + 2 := by omega
          have g4 : (if (0 : Int) < m + 2 then m + 2 else 0) = 0 := if_neg g3
          have HSU2 : Aside0 (wantB code ls (k + 1) = s ++ (((d ++ (⟨#[45]⟩ : ByteArray)) ++ l) ++ crlf)) := ⟨by rw [HSU.out, decide_eq_false hkn]; rfl⟩
          clear HSU hds hit hm
          go_upto_region 7 with (fail)
          go_region_with (go_at_call 31; refine (HD.out _).mono ?_; rintro e w1 ⟨rfl, hb1⟩; have hbc := (bcell hb1).1; have HB1 := Aside0.mk hb1; clear hb1)
          all_goals
            go_wp2
            go_roundw
            case rel => exact ⟨k + 1, by omega, by go_num, by rw [HSU2.out]; rfl, ⟨HSTEP.out _ _ HB.out (by first | exact step_a HB1.out _ | exact step_b HB1.out)⟩⟩
            case measure => simp [intOf]; try omega
      · have hkn : k = n := by omega
        subst hkn
        rw [← HR.out] at *
        have t4 : decide ((k : Int) < (k : Int)) = false := decide_eq_false (by omega)
        go_wp2
        go_ret
        exact ⟨rfl, HB.out⟩
end Go.Proofs.YtjggdkcfpdhoaaaGreatDoor.RRep
