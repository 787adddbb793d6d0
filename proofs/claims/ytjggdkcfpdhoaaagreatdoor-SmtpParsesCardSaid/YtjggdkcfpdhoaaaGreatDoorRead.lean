/- Command.read: what is behind a verb. -/
import Derived.Test.YtjggdkcfpdhoaaaGreatDoorMail
namespace Go.Proofs.YtjggdkcfpdhoaaaGreatDoor.Read
open Go Go.RowKit Go.Proofs.YtjggdkcfpdhoaaaGreatDoorW.PrintWords Go.Proofs.YtjggdkcfpdhoaaaGreatDoor.Large Go.Proofs.YtjggdkcfpdhoaaaGreatDoor.Take Go.Proofs.YtjggdkcfpdhoaaaGreatDoor.Number Go.Proofs.YtjggdkcfpdhoaaaGreatDoor.Opt Go.Proofs.YtjggdkcfpdhoaaaGreatDoor.Mail Go.Proofs.YtjggdkcfpdhoaaaGreatDoor.Dotted
set_option linter.unusedVariables false
set_option linter.unusedSimpArgs false
def fromS : ByteArray := ⟨#[70, 82, 79, 77, 58]⟩
def toS : ByteArray := ⟨#[84, 79, 58]⟩
def readG (b1 b2 b3 b4 b5 b6 dom emp more : Bool) (c ca : CmdR) (m1 m2 : Option CmdR) : Option CmdR :=
  if b1 = true then (if dom = true then some ca else none)
  else if b2 = true then (if dom = true then some ca else none)
  else if b3 = true then m1
  else if b4 = true then m2
  else if b5 = true then some ca
  else if b6 = true then (if emp = true then none else some ca)
  else if more = true then none else some c
/-- A command read on behind its verb. -/
def readO (c : CmdR) (rest : ByteArray) (more : Bool) : Option CmdR :=
  readG (c.v.toList == [72, 69, 76, 79]) (c.v.toList == [69, 72, 76, 79]) (c.v.toList == [77, 65, 73, 76]) (c.v.toList == [82, 67, 80, 84]) (c.v.toList == [78, 79, 79, 80]) (c.v.toList == [86, 82, 70, 89])
    (domainB rest) rest.toList.isEmpty more c { c with a := rest } (mailO c rest fromS) (mailO c rest toS)
set_option maxRecDepth 100000 in
set_option maxHeartbeats 4000000 in
theorem read_calls (B : Nat) (c : CmdR) (rest : ByteArray) (more : Bool) (hs : rest.size ≤ 1000000) (t : Nat) (pv : Value) (w : World) (hE : w.cell? ⟨1, 0, none⟩ = some (.iface t pv)) (h : CmdAt B c w) :
    Calls Tryz.prog 19 #[.pointer (some ⟨B, 0, none⟩), .string rest, .bool more] w (PostM B w (readO c rest more)) := by
  obtain ⟨r, hr⟩ : ∃ r, r = readO c rest more := ⟨_, rfl⟩
  rw [← hr]
  unfold readO at hr
  have HD := Aside0.mk (fun W => domain_calls rest hs W)
  obtain ⟨dm, hdm⟩ : ∃ x, x = domainB rest := ⟨_, rfl⟩
  rw [← hdm] at hr HD
  have HM1 := Aside0.mk (mail_calls B c rest fromS hs (by decide) t pv w hE h)
  have HM2 := Aside0.mk (mail_calls B c rest toS hs (by decide) t pv w hE h)
  obtain ⟨m1, hm1⟩ : ∃ x, x = mailO c rest fromS := ⟨_, rfl⟩
  obtain ⟨m2, hm2⟩ : ∃ x, x = mailO c rest toS := ⟨_, rfl⟩
  rw [← hm1] at hr HM1
  rw [← hm2] at hr HM2
  have HCA := Aside0.mk h
  have hv0 := h.c0
  have hv3 := h.c3
  have hz3 := h.fr 3
  have HA := Aside0.mk (h.setA rest)
  have HKA := Aside0.mk ((KB.refl B w).setCell (p := ⟨B, 3, none⟩) (.inl rfl) (.string rest))
  clear h hE hdm hm1 hm2
  cases b1 : c.v.toList == [72, 69, 76, 79] with
  | true =>
    rw [b1] at hr
    cases dm with
    | true =>
      have hr2 : r = some { c with a := rest } := hr
      clear hr
      subst hr2
      go_enter Tryz.func19, Tryz.ntmps19
      go_wp2_with (go_at_call 37; refine (HD.out _).mono ?_; rintro e w1 ⟨rfl, hb1⟩; have HB1 := Aside0.mk hb1; clear hb1)
      go_ret
      exact ⟨rfl, ⟨_, HA.out.below HB1.out, fun q hq => by cases hq; rfl⟩, HKA.out.below HB1.out⟩
    | false =>
      have hr2 : r = none := hr
      clear hr
      subst hr2
      go_enter Tryz.func19, Tryz.ntmps19
      go_wp2_with (go_at_call 37; refine (HD.out _).mono ?_; rintro e w1 ⟨rfl, hb1⟩; have HB1 := Aside0.mk hb1; clear hb1)
      go_ret
      exact ⟨rfl, ⟨_, HA.out.below HB1.out, fun q hq => by cases hq⟩, HKA.out.below HB1.out⟩
  | false =>
    rw [b1] at hr
    cases b2 : c.v.toList == [69, 72, 76, 79] with
    | true =>
      rw [b2] at hr
      cases dm with
      | true =>
        have hr2 : r = some { c with a := rest } := hr
        clear hr
        subst hr2
        go_enter Tryz.func19, Tryz.ntmps19
        go_wp2_with (go_at_call 37; refine (HD.out _).mono ?_; rintro e w1 ⟨rfl, hb1⟩; have HB1 := Aside0.mk hb1; clear hb1)
        go_ret
        exact ⟨rfl, ⟨_, HA.out.below HB1.out, fun q hq => by cases hq; rfl⟩, HKA.out.below HB1.out⟩
      | false =>
        have hr2 : r = none := hr
        clear hr
        subst hr2
        go_enter Tryz.func19, Tryz.ntmps19
        go_wp2_with (go_at_call 37; refine (HD.out _).mono ?_; rintro e w1 ⟨rfl, hb1⟩; have HB1 := Aside0.mk hb1; clear hb1)
        go_ret
        exact ⟨rfl, ⟨_, HA.out.below HB1.out, fun q hq => by cases hq⟩, HKA.out.below HB1.out⟩
    | false =>
      rw [b2] at hr
      cases b3 : c.v.toList == [77, 65, 73, 76] with
      | true =>
        rw [b3] at hr
        have hr2 : r = m1 := hr
        clear hr
        subst hr2
        go_enter Tryz.func19, Tryz.ntmps19
        go_wp2_with (go_at_call 38; refine HM1.out.mono ?_; rintro e w1 ⟨rfl, hp1, hp2⟩; have HP1 := Aside0.mk hp1; have HP2 := Aside0.mk hp2; clear hp1 hp2)
        go_ret
        exact ⟨rfl, HP1.out, HP2.out⟩
      | false =>
        rw [b3] at hr
        cases b4 : c.v.toList == [82, 67, 80, 84] with
        | true =>
          rw [b4] at hr
          have hr2 : r = m2 := hr
          clear hr
          subst hr2
          go_enter Tryz.func19, Tryz.ntmps19
          go_wp2_with (go_at_call 38; refine HM2.out.mono ?_; rintro e w1 ⟨rfl, hp1, hp2⟩; have HP1 := Aside0.mk hp1; have HP2 := Aside0.mk hp2; clear hp1 hp2)
          go_ret
          exact ⟨rfl, HP1.out, HP2.out⟩
        | false =>
          rw [b4] at hr
          cases b5 : c.v.toList == [78, 79, 79, 80] with
          | true =>
            rw [b5] at hr
            have hr2 : r = some { c with a := rest } := hr
            clear hr
            subst hr2
            go_enter Tryz.func19, Tryz.ntmps19
            go_wp2
            go_ret
            exact ⟨rfl, ⟨_, HA.out, fun q hq => by cases hq; rfl⟩, HKA.out⟩
          | false =>
            rw [b5] at hr
            cases b6 : c.v.toList == [86, 82, 70, 89] with
            | true =>
              rw [b6] at hr
              cases be : rest.toList.isEmpty with
              | true =>
                rw [be] at hr
                have hr2 : r = none := hr
                clear hr
                subst hr2
                go_enter Tryz.func19, Tryz.ntmps19
                go_wp2
                go_ret
                exact ⟨rfl, ⟨_, HA.out, fun q hq => by cases hq⟩, HKA.out⟩
              | false =>
                rw [be] at hr
                have hr2 : r = some { c with a := rest } := hr
                clear hr
                subst hr2
                go_enter Tryz.func19, Tryz.ntmps19
                go_wp2
                go_ret
                exact ⟨rfl, ⟨_, HA.out, fun q hq => by cases hq; rfl⟩, HKA.out⟩
            | false =>
              rw [b6] at hr
              cases more with
              | true =>
                have hr2 : r = none := hr
                clear hr
                subst hr2
                go_enter Tryz.func19, Tryz.ntmps19
                go_wp2
                go_ret
                exact ⟨rfl, ⟨_, HCA.out, fun q hq => by cases hq⟩, KB.refl _ w⟩
              | false =>
                have hr2 : r = some c := hr
                clear hr
                subst hr2
                go_enter Tryz.func19, Tryz.ntmps19
                go_wp2
                go_ret
                exact ⟨rfl, ⟨_, HCA.out, fun q hq => by cases hq; rfl⟩, KB.refl _ w⟩
end Go.Proofs.YtjggdkcfpdhoaaaGreatDoor.Read
