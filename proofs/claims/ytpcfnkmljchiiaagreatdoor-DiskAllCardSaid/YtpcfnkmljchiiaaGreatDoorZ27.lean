/- Steps towards RDiskAll: DRdp. -/
import Derived.Test.YtpcfnkmljchiiaaGreatDoorZ19
import Derived.Test.YtpcfnkmljchiiaaGreatDoorZ26
import Derived.Laws.Cover1
set_option linter.unusedVariables false
set_option linter.unusedSimpArgs false
/- The document's names behind a step: what the walk knows, where its boxes lie. -/
namespace Go.Proofs.YtpcfnkmljchiiaaGreatDoor.DRdp
open Go Go.RowKit Go.Maps Go.Proofs.YtpcfnkmljchiiaaGreatDoorW.PrintWords Go.Proofs.YtpcfnkmljchiiaaGreatDoorW.PrintLast DPl DAt DRn DRd DRl DRt DDo
theorem less_before : ∀ x y : List UInt8, Op.bytesLess x y = bytesBefore x y
  | [], [] => rfl
  | [], _ :: _ => rfl
  | _ :: _, [] => rfl
  | a :: r, b :: s => by rw [Op.bytesLess, bytesBefore, less_before r s]
theorem nmS_list (q : List UInt8) : (nmS q).toList = q := by rw [ByteArray.toList_eq]; rfl
theorem before_eq (a b : List UInt8) : before a b = bytesBefore a b := rfl
theorem geq_nm (q : List UInt8) (s : ByteArray) : (!Op.bytesLess (nmS q).toList s.toList) = !before q s.data.toList := by rw [nmS_list, ByteArray.toList_eq, less_before, before_eq]
theorem neq_nm (q : List UInt8) (s : ByteArray) : (!((nmS q).toList == s.toList)) = decide (q ≠ s.data.toList) := by
  rw [nmS_list, ByteArray.toList_eq]
  by_cases h : q = s.data.toList
  · rw [h]; simp
  · rw [decide_eq_true h]; simp [h]
theorem nmS_data (s : ByteArray) : nmS s.data.toList = s := by
  apply ByteArray.ext
  simp [nmS]
abbrev tN : Nat := 44
abbrev tE : Nat := 144
def namesL (N : Nms) : List ByteArray := N.map fun q => nmS q.1
def numsL (N : Nms) : List Int := N.map Prod.snd
theorem names_len (N : Nms) : (namesL N).length = N.length := by simp [namesL]
theorem nums_len (N : Nms) : (numsL N).length = N.length := by simp [numsL]
/-- What the walk of Names.Do knows: the four boxes (names, entry, result, out), and out's rows. -/
structure DoW (w : World) (nv0 iv0 : Value) (e : Ent) (nm im vn vi : Value) (ns : List ByteArray) (is : List Int) (U : World) : Prop where
  bel : Below w.heap.size w U
  hn : U.heap[w.heap.size]? = some (.cells #[nv0, iv0] tN (0, 0))
  he : U.heap[w.heap.size + 1]? = some (.cells #[.string e.name, .string e.gone, .int .i64 e.file] tE (0, 0))
  hr : U.heap[w.heap.size + 1 + 1]? = some (.cells #[.slice none 0 0, .slice none 0 0] tN (0, 0))
  ho : U.heap[w.heap.size + 1 + 1 + 1]? = some (.cells #[nm, im] tN (0, 0))
  rn : Kd.R Kd.string 9 U w.heap.size (fun _ => True) vn ns
  ri : Kd.R (Kd.int .i64) 3 U w.heap.size (fun _ => True) vi is
section
variable {w U U1 : World} {nv0 iv0 nm im vn vi v1 : Value} {e : Ent} {ns ns1 : List ByteArray} {is is1 : List Int}
theorem DoW.keep (h : DoW w nv0 iv0 e nm im vn vi ns is U) (hb : Below U.heap.size U U1) : DoW w nv0 iv0 e nm im vn vi ns is U1 :=
  ⟨h.bel.trans (hb.mono h.bel.size), (hb.block _ (blk_lt h.hn)).trans h.hn, (hb.block _ (blk_lt h.he)).trans h.he, (hb.block _ (blk_lt h.hr)).trans h.hr, (hb.block _ (blk_lt h.ho)).trans h.ho, Kd.R_below h.rn hb, Kd.R_below h.ri hb⟩
theorem DoW.alloc (h : DoW w nv0 iv0 e nm im vn vi ns is U) (o : Obj) : DoW w nv0 iv0 e nm im vn vi ns is (U.alloc o) := h.keep ((Below.refl _ U).alloc (Nat.le_refl _) o)
theorem DoW.drew (h : DoW w nv0 iv0 e nm im vn vi ns is U) : DoW w nv0 iv0 e nm im vn vi ns is U.drew := h.keep (Below.refl _ U).drew
theorem row_obj {d : Nat} {v : Value} {size n base : Nat} {xs : List Value} {g t : Nat} {cs : Array Value} {m : Nat × Nat} (ho : U.ownsRow base d size v n xs) (hg : U.heap[g]? = some (.cells cs t m)) (ht : d ≠ t) : some g ≠ v.ownBlock := fun er => by
  obtain ⟨cells, hc⟩ := own_typed ho _ er.symm
  rw [hg] at hc
  cases hc
  exact ht rfl
theorem DoW.addN (h : DoW w nv0 iv0 e nm im vn vi ns is U) (hr : Kd.R Kd.string 9 U1 w.heap.size (fun _ => True) v1 ns1) (hb : Below w.heap.size w U1) (hg : U.grownBy U1 vn.ownBlock) : DoW w nv0 iv0 e nm im v1 vi ns1 is U1 := by
  obtain ⟨inner, ho⟩ := Kd.R_own h.rn
  have hk := But.grown hg
  exact ⟨hb, hk.obj h.hn (row_obj ho h.hn (by decide)), hk.obj h.he (row_obj ho h.he (by decide)), hk.obj h.hr (row_obj ho h.hr (by decide)), hk.obj h.ho (row_obj ho h.ho (by decide)), hr, R_row h.ri hk (Not.own ho (by decide))⟩
theorem DoW.addI (h : DoW w nv0 iv0 e nm im vn vi ns is U) (hr : Kd.R (Kd.int .i64) 3 U1 w.heap.size (fun _ => True) v1 is1) (hb : Below w.heap.size w U1) (hg : U.grownBy U1 vi.ownBlock) : DoW w nv0 iv0 e nm im vn v1 ns is1 U1 := by
  obtain ⟨inner, ho⟩ := Kd.R_own h.ri
  have hk := But.grown hg
  exact ⟨hb, hk.obj h.hn (row_obj ho h.hn (by decide)), hk.obj h.he (row_obj ho h.he (by decide)), hk.obj h.hr (row_obj ho h.hr (by decide)), hk.obj h.ho (row_obj ho h.ho (by decide)), R_row h.rn hk (Not.own ho (by decide)), hr⟩
theorem DoW.put (h : DoW w nv0 iv0 e nm im vn vi ns is U) (i : Nat) (u a b : Value) (hab : (#[nm, im] : Array Value).setIfInBounds i u = #[a, b]) : DoW w nv0 iv0 e a b vn vi ns is (U.setCell ⟨w.heap.size + 1 + 1 + 1, i, none⟩ u) := by
  have hs := But.setCell U ⟨w.heap.size + 1 + 1 + 1, i, none⟩ u
  have hn : ∀ qs : List Nat, tN ∉ qs → Not U (some (w.heap.size + 1 + 1 + 1)) qs := fun qs hq => Not.cells (t := tN) (fun g hg => by obtain rfl := Option.some.inj hg; exact ⟨_, _, h.ho⟩) (fun q hq2 e => hq (e ▸ hq2))
  have ne : ∀ k, k < w.heap.size + 1 + 1 + 1 → some k ≠ some (w.heap.size + 1 + 1 + 1) := fun k hk er => by have := Option.some.inj er; omega
  exact ⟨h.bel.setCell (by show w.heap.size ≤ w.heap.size + 1 + 1 + 1; omega) u, hs.obj h.hn (ne _ (by omega)), hs.obj h.he (ne _ (by omega)), hs.obj h.hr (ne _ (by omega)), blk_put h.ho i u hab, R_row h.rn hs (hn _ (by decide)), R_row h.ri hs (hn _ (by decide))⟩
theorem DoW.res (h : DoW w nv0 iv0 e nm im vn vi ns is U) (i : Nat) (u : Value) (b : Nat) (u2 : Value) : Kd.R Kd.string 9 ((U.setCell ⟨w.heap.size + 1 + 1, i, none⟩ u).setCell ⟨w.heap.size + 1 + 1, b, none⟩ u2) w.heap.size (fun _ => True) vn ns ∧ Kd.R (Kd.int .i64) 3 ((U.setCell ⟨w.heap.size + 1 + 1, i, none⟩ u).setCell ⟨w.heap.size + 1 + 1, b, none⟩ u2) w.heap.size (fun _ => True) vi is ∧ Below w.heap.size w ((U.setCell ⟨w.heap.size + 1 + 1, i, none⟩ u).setCell ⟨w.heap.size + 1 + 1, b, none⟩ u2) := by
  have hs := (But.setCell U ⟨w.heap.size + 1 + 1, i, none⟩ u).trans (But.setCell (U.setCell ⟨w.heap.size + 1 + 1, i, none⟩ u) ⟨w.heap.size + 1 + 1, b, none⟩ u2)
  have hn : ∀ qs : List Nat, tN ∉ qs → Not U (some (w.heap.size + 1 + 1)) qs := fun qs hq => Not.cells (t := tN) (fun g hg => by obtain rfl := Option.some.inj hg; exact ⟨_, _, h.hr⟩) (fun q hq2 e => hq (e ▸ hq2))
  exact ⟨R_row h.rn hs (hn _ (by decide)), R_row h.ri hs (hn _ (by decide)), (h.bel.setCell (by show w.heap.size ≤ w.heap.size + 1 + 1; omega) u).setCell (by show w.heap.size ≤ w.heap.size + 1 + 1; omega) u2⟩
theorem DoW.resb (h : DoW w nv0 iv0 e nm im vn vi ns is U) (u u2 : Value) : ((U.setCell ⟨w.heap.size + 1 + 1, 0, none⟩ u).setCell ⟨w.heap.size + 1 + 1, 1, none⟩ u2).heap[w.heap.size + 1 + 1]? = some (.cells #[u, u2] tN (0, 0)) := blk_put (blk_put h.hr 0 u rfl) 1 u2 rfl
theorem DoW.cn0 (h : DoW w nv0 iv0 e nm im vn vi ns is U) : U.cell? ⟨w.heap.size, 0, none⟩ = some nv0 := (blk_cell h.hn 0).trans rfl
theorem DoW.cn1 (h : DoW w nv0 iv0 e nm im vn vi ns is U) : U.cell? ⟨w.heap.size, 1, none⟩ = some iv0 := (blk_cell h.hn 1).trans rfl
theorem DoW.ce0 (h : DoW w nv0 iv0 e nm im vn vi ns is U) : U.cell? ⟨w.heap.size + 1, 0, none⟩ = some (.string e.name) := (blk_cell h.he 0).trans rfl
theorem DoW.ce1 (h : DoW w nv0 iv0 e nm im vn vi ns is U) : U.cell? ⟨w.heap.size + 1, 1, none⟩ = some (.string e.gone) := (blk_cell h.he 1).trans rfl
theorem DoW.ce2 (h : DoW w nv0 iv0 e nm im vn vi ns is U) : U.cell? ⟨w.heap.size + 1, 2, none⟩ = some (.int .i64 e.file) := (blk_cell h.he 2).trans rfl
theorem DoW.co0 (h : DoW w nv0 iv0 e nm im vn vi ns is U) : U.cell? ⟨w.heap.size + 1 + 1 + 1, 0, none⟩ = some nm := (blk_cell h.ho 0).trans rfl
theorem DoW.co1 (h : DoW w nv0 iv0 e nm im vn vi ns is U) : U.cell? ⟨w.heap.size + 1 + 1 + 1, 1, none⟩ = some im := (blk_cell h.ho 1).trans rfl
theorem DoW.fo (h : DoW w nv0 iv0 e nm im vn vi ns is U) (i : Nat) : U.frozen? ⟨w.heap.size + 1 + 1 + 1, i, none⟩ = false := blk_frozen h.ho i
end
/-- A row of one cell. -/
theorem one_str {U : World} {a : Nat} {x : ByteArray} (h : U.heap[a]? = some (.cells #[.string x] 9 (0, 0))) : Kd.C Kd.string U (some ⟨a, 0, none⟩) 1 [x] :=
  Kd.C_of_reads (d := ByteArray.empty) (h1 := fun _ => rfl) ⟨rfl, by simp, fun _ => ⟨_, rfl, fun j hj => by
    have : j = 0 := by simpa using hj
    subst this
    exact (blk_cell h 0).trans rfl⟩⟩
theorem one_int {U : World} {a : Nat} {x : Int} (h : U.heap[a]? = some (.cells #[.int .i64 x] 3 (0, 0))) : Kd.C (Kd.int .i64) U (some ⟨a, 0, none⟩) 1 [x] :=
  Kd.C_of_reads (d := (0 : Int)) (h1 := fun _ => rfl) ⟨rfl, by simp, fun _ => ⟨_, rfl, fun j hj => by
    have : j = 0 := by simpa using hj
    subst this
    exact (blk_cell h 0).trans rfl⟩⟩
theorem obj_alloc {U : World} {a : Nat} {ob : Obj} (h : U.heap[a]? = some ob) (o : Obj) : (U.alloc o).heap[a]? = some ob := (((Below.refl _ U).alloc (Nat.le_refl _) o).block _ (blk_lt h)).trans h
theorem obj_grown {U U1 : World} {base : Nat} {v : Value} {ys : List ByteArray} {ok : Nat → Prop} (hR : Kd.R Kd.string 9 U base ok v ys) (hg : U.grownBy U1 v.ownBlock) {a : Nat} {cs : Array Value} (h : U.heap[a]? = some (.cells cs 3 (0, 0))) : U1.heap[a]? = some (.cells cs 3 (0, 0)) := by
  obtain ⟨inner, ho⟩ := Kd.R_own hR
  exact (But.grown hg).obj h (row_obj ho h (by decide))
theorem doc_step (e : Ent) (put : Bool) (M N : Nms) (i : Nat) (q : List UInt8 × Int) (hq : N[i]? = some q) (R : Nms) (h : M ++ docDo e put (N.drop i) = R) :
    (M ++ ((if put = false ∧ before q.1 e.name.data.toList = false then [(e.name.data.toList, e.file)] else []) ++ (if q.1 ≠ e.gone.data.toList ∧ (e.file < 0 ∨ q.1 ≠ e.name.data.toList) then [q] else []))) ++ docDo e (put || !before q.1 e.name.data.toList) (N.drop (i + 1)) = R := by
  obtain ⟨hl, hx⟩ := List.getElem?_eq_some_iff.1 hq
  rw [List.drop_eq_getElem_cons hl, hx] at h
  rw [docDo] at h
  rw [← h, List.append_assoc]
theorem doc_next (e : Ent) (put : Bool) (M N : Nms) (i : Nat) (q : List UInt8 × Int) (R : Nms) (h : (M ++ ((if put = false ∧ before q.1 e.name.data.toList = false then [(e.name.data.toList, e.file)] else []) ++ (if q.1 ≠ e.gone.data.toList ∧ (e.file < 0 ∨ q.1 ≠ e.name.data.toList) then [q] else []))) ++ docDo e (put || !before q.1 e.name.data.toList) (N.drop (i + 1)) = R) (hp : ¬(put = false ∧ before q.1 e.name.data.toList = false)) :
    (q.1 ≠ e.gone.data.toList ∧ (e.file < 0 ∨ q.1 ≠ e.name.data.toList) → (M ++ [q]) ++ docDo e (put || !before q.1 e.name.data.toList) (N.drop (i + 1)) = R) ∧ (¬(q.1 ≠ e.gone.data.toList ∧ (e.file < 0 ∨ q.1 ≠ e.name.data.toList)) → M ++ docDo e (put || !before q.1 e.name.data.toList) (N.drop (i + 1)) = R) := by
  rw [if_neg hp, List.nil_append] at h
  constructor
  · intro hc
    rw [if_pos hc] at h
    exact h
  · intro hc
    rw [if_neg hc, List.append_nil] at h
    exact h
theorem doc_put1 (e : Ent) (M N : Nms) (i : Nat) (q : List UInt8 × Int) (R : Nms) (h : (M ++ ((if false = false ∧ before q.1 e.name.data.toList = false then [(e.name.data.toList, e.file)] else []) ++ (if q.1 ≠ e.gone.data.toList ∧ (e.file < 0 ∨ q.1 ≠ e.name.data.toList) then [q] else []))) ++ docDo e (false || !before q.1 e.name.data.toList) (N.drop (i + 1)) = R) (hb : before q.1 e.name.data.toList = false) :
    (q.1 ≠ e.gone.data.toList ∧ (e.file < 0 ∨ q.1 ≠ e.name.data.toList) → ((M ++ [(e.name.data.toList, e.file)]) ++ [q]) ++ docDo e true (N.drop (i + 1)) = R) ∧ (¬(q.1 ≠ e.gone.data.toList ∧ (e.file < 0 ∨ q.1 ≠ e.name.data.toList)) → (M ++ [(e.name.data.toList, e.file)]) ++ docDo e true (N.drop (i + 1)) = R) := by
  rw [if_pos ⟨rfl, hb⟩, hb] at h
  constructor
  · intro hc
    rw [if_pos hc] at h
    simpa using h
  · intro hc
    rw [if_neg hc, List.append_nil] at h
    exact h
theorem doc_put1_len (e : Ent) (M N : Nms) (i : Nat) (q : List UInt8 × Int) (R : Nms) (h : (M ++ ((if false = false ∧ before q.1 e.name.data.toList = false then [(e.name.data.toList, e.file)] else []) ++ (if q.1 ≠ e.gone.data.toList ∧ (e.file < 0 ∨ q.1 ≠ e.name.data.toList) then [q] else []))) ++ docDo e (false || !before q.1 e.name.data.toList) (N.drop (i + 1)) = R) (hb : before q.1 e.name.data.toList = false) : (M ++ [(e.name.data.toList, e.file)]).length ≤ R.length := by
  rw [if_pos ⟨rfl, hb⟩] at h
  rw [← h]
  simp only [List.length_append]
  omega
theorem names_snoc (M : Nms) (q : List UInt8 × Int) : namesL (M ++ [q]) = namesL M ++ [nmS q.1] := by simp [namesL]
theorem nums_snoc (M : Nms) (q : List UInt8 × Int) : numsL (M ++ [q]) = numsL M ++ [q.2] := by simp [numsL]
theorem doc_len (e : Ent) : ∀ (put : Bool) (N : Nms), (docDo e put N).length ≤ 2 * N.length + 1
  | put, [] => by unfold docDo; split <;> simp
  | put, q :: r => by
    unfold docDo
    have := doc_len e (put || !before q.1 e.name.data.toList) r
    rw [List.length_append, List.length_append]
    have h1 : (if put = false ∧ before q.1 e.name.data.toList = false then [(e.name.data.toList, e.file)] else ([] : Nms)).length ≤ 1 := by split <;> simp
    have h2 : (if q.1 ≠ e.gone.data.toList ∧ (e.file < 0 ∨ q.1 ≠ e.name.data.toList) then [q] else ([] : Nms)).length ≤ 1 := by split <;> simp
    simp only [List.length_cons]
    omega
end Go.Proofs.YtpcfnkmljchiiaaGreatDoor.DRdp
