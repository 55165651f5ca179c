/-
  The rows' frames: a slice among the arguments.
-/
import Derived.Test.YtjcebkkmpgafkaaRows
import Derived.Test.YtjcebkkmpgafkaaExC
import Derived.Test.YtjcebkkmpgafkaaFrame
import Derived.Test.YtjcebkkmpgafkaaEachL
import Derived.Deep.Slices
import Derived.Deep.Fields
namespace Go.Proofs.Ytjcebkkmpgafkaa
open Go Go.Joins Go.ChangeShapes Go.WideShapes Go.RowKit Go.Deep
open Ex (Cont)

theorem spot_of {w : World} {a : Addr} {u : Value} (h : w.cell? a = some u) : a.spot = none ∧ ∃ c t f, w.heap[a.block]? = some (.cells c t f) ∧ c[a.off]? = some u := by
  unfold World.cell? at h
  split at h
  · rename_i c t f hh
    split at h
    · cases h
    · rename_i hs
      exact ⟨by simpa using hs, c, t, f, hh, h⟩
  · cases h

theorem seg_of {w : World} {a : Addr} {xs : List Value} (h0 : 0 < xs.length) (hc : ∀ j u, xs[j]? = some u → w.cell? (a.add j) = some u) : a.spot = none ∧ (Cont.seg a.off xs).sat w.heap[a.block]? := by
  have h1 := hc 0 _ (List.getElem?_eq_getElem h0)
  obtain ⟨hs, c, t, f, hh, -⟩ := spot_of (by simpa [Addr.add] using h1)
  refine ⟨hs, c, t, f, hh, fun j u hu => ?_⟩
  obtain ⟨b, o, s⟩ := a
  simp only at hs hh
  subst hs
  have h2 := hc j u hu
  rw [Ex.addr_add] at h2
  obtain ⟨-, c', t', f', hh', hc'⟩ := spot_of h2
  simp only at hh' hc'
  rw [hh] at hh'
  injection hh' with hh'
  injection hh' with e1 e2 e3
  subst e1
  simpa using hc'

theorem open_rows {H : Type} {enc : TypeId × Value → H} {P : Program} {w : World} {base : Nat} {spare : Nat → Bool} {held : Bool} {r : Reach} {b0 : Nat} {v : Value} {d : DataW H} {p : List MemPlace} {t e : TypeId} {sz : Nat} (ht : P.underlying t = some (.slice e)) (hC : P.cellsOf e = sz) (hsz : 0 < sz)
    {α : Type} (good : α → Prop) (f : α → List Value) (hf : ∀ a, (f a).length = sz)
    (hel : ∀ (cs : List Value) (n : Nat) (D : DataW H) (Pl : List MemPlace), cs.length = sz → DataW.trod enc P w base spare held n e cs = some (D, Pl) → ∃ a, good a ∧ cs = f a)
    (hv : Value.okWide P w r b0 t v) (h : DataW.Trod enc P w base spare held t v d p) :
    (∃ A c, v = .slice A 0 c) ∨ ∃ (b o c : Nat) (l : List α), 0 < l.length ∧ v = .slice (some ⟨b, o, none⟩) l.length c ∧ (∀ x ∈ l, good x) ∧ (Cont.seg o (l.flatMap f)).sat w.heap[b]? ∧ l.length ≤ maxLen := by
  obtain ⟨A, n, c, rfl⟩ := okWide_slice ht hv
  obtain ⟨fuel, hfu⟩ := h
  rcases Go.Deep.open_slice ht hfu with ⟨h0, -⟩ | ⟨a, len, cap, m, k, D, Pl, hcs, -, hle, hcap, hm, -, hi⟩
  · left
    injection h0 with h0
    injection h0 with h1 h2 h3
    subst h1 h2 h3
    exact ⟨_, _, rfl⟩
  · injection hcs with hcs
    injection hcs with h1 h2 h3
    subst h1 h2 h3
    rcases Nat.eq_zero_or_pos n with hn | hn
    · subst hn
      exact .inl ⟨_, _, rfl⟩
    right
    have hmn : n ≤ m := by rw [hm]; split <;> omega
    have key : ∀ q, q ≤ n → ∃ l : List α, l.length = q ∧ (∀ x ∈ l, good x) ∧ ∀ j u, (l.flatMap f)[j]? = some u → w.cell? (a.add j) = some u := by
      intro q
      induction q with
      | zero => exact fun _ => ⟨[], rfl, fun _ h => (by cases h), fun j u h => (by simp at h)⟩
      | succ q ih =>
        intro hq
        obtain ⟨l, hl, hg, hc⟩ := ih (by omega)
        obtain ⟨cs', hcc, htr⟩ := hi q (by omega)
        rw [hC] at hcc
        obtain ⟨_, hcl, hat⟩ := World.cells?_some hcc
        obtain ⟨x, hx, rfl⟩ := hel cs' _ _ _ hcl htr
        have hfl : (l.flatMap f).length = q * sz := by
          rw [← hl]
          clear hl hg hc
          induction l with
          | nil => simp
          | cons y l ih => rw [List.flatMap_cons, List.length_append, hf, ih, List.length_cons, Nat.add_mul]; omega
        refine ⟨l ++ [x], by simp [hl], fun y hy => ?_, fun j u hu => ?_⟩
        · rcases List.mem_append.1 hy with hy | hy
          · exact hg y hy
          · rcases List.mem_singleton.1 hy with rfl
            exact hx
        · rw [List.flatMap_append] at hu
          rcases Nat.lt_or_ge j (q * sz) with hj | hj
          · rw [List.getElem?_append_left (by omega)] at hu
            exact hc j u hu
          · rw [List.getElem?_append_right (by omega), hfl] at hu
            have hu' : (f x)[j - q * sz]? = some u := by simpa using hu
            have hlt : j - q * sz < sz := by
              have := (List.getElem?_eq_some_iff.1 hu').1
              rw [hf] at this
              exact this
            have h5 := hat (j - q * sz) hlt
            rw [Go.Deep.add_add, show q * sz + (j - q * sz) = j by omega, hu'] at h5
            exact h5
    obtain ⟨l, hl, hg, hc⟩ := key n (Nat.le_refl _)
    have hpos : 0 < (l.flatMap f).length := by
      cases l with
      | nil => simp at hl; omega
      | cons y l => rw [List.flatMap_cons, List.length_append, hf]; omega
    obtain ⟨hs, hseg⟩ := seg_of hpos hc
    obtain ⟨b, o, s⟩ := a
    simp only at hs
    subst hs
    exact ⟨b, o, c, l, by omega, by rw [hl], hg, hseg, by omega⟩

theorem open_nums {H : Type} {enc : TypeId × Value → H} {w : World} {base : Nat} {spare : Nat → Bool} {held : Bool} {r : Reach} {b0 : Nat} {v : Value} {d : DataW H} {p : List MemPlace}
    (hv : Value.okWide Try.prog w r b0 49 v) (h : DataW.Trod enc Try.prog w base spare held 49 v d p) :
    (∃ A c, v = .slice A 0 c) ∨ ∃ (b o c : Nat) (l : List Nat), 0 < l.length ∧ v = .slice (some ⟨b, o, none⟩) l.length c ∧ (∀ x ∈ l, x < 4294967296) ∧ (Cont.seg o (numCells l)).sat w.heap[b]? ∧ l.length ≤ maxLen :=
  open_rows (sz := 1) Try.underlying49 (by kernel_rfl) (by omega) (fun x : Nat => x < 4294967296) (fun x => [xV x]) (fun _ => rfl) (fun cs n D Pl hl ht => by
    match cs, hl with
    | [v], _ =>
      obtain ⟨m, e, -, hw⟩ := DataW.trod_int Try.underlying26 ht
      injection e with e
      subst e
      obtain ⟨x, rfl, hx⟩ := wf_u32 hw
      exact ⟨x, hx, rfl⟩) hv h

def fieldsI : Array Field := #[{ name := "Op", type := 3, offset := 0, embedded := false, tag := "", pkgPath := "", byteOffset := 0 },
  { name := "Rd", type := 3, offset := 1, embedded := false, tag := "", pkgPath := "", byteOffset := 8 },
  { name := "Rn", type := 3, offset := 2, embedded := false, tag := "", pkgPath := "", byteOffset := 16 },
  { name := "Rm", type := 3, offset := 3, embedded := false, tag := "", pkgPath := "", byteOffset := 24 },
  { name := "Imm", type := 2, offset := 4, embedded := false, tag := "", pkgPath := "", byteOffset := 32 },
  { name := "Cond", type := 3, offset := 5, embedded := false, tag := "", pkgPath := "", byteOffset := 40 }]
theorem underI : Try.prog.underlying 25 = some (.struct fieldsI) := Try.underlying25

theorem int_of {H : Type} {enc : TypeId × Value → H} {w : World} {base : Nat} {spare : Nat → Bool} {held : Bool} {n : Nat} {t : TypeId} {c : Value} {y : Option (DataW H × List MemPlace)} (ht : Try.prog.underlying t = some (.int .i64))
    (h : DataW.trod enc Try.prog w base spare held n t [c] = y) (hy : y.isSome = true) : ∃ x : Int, c = .int .i64 x ∧ -9223372036854775808 ≤ x ∧ x ≤ 9223372036854775807 := by
  cases y with
  | none => cases hy
  | some y =>
    obtain ⟨m, e, -, hw⟩ := DataW.trod_int ht h
    injection e with e
    exact ⟨m, e, wf_i64 hw⟩

theorem ins_elem {H : Type} {enc : TypeId × Value → H} {w : World} {base : Nat} {spare : Nat → Bool} {held : Bool} (cs : List Value) (n : Nat) (D : DataW H) (Pl : List MemPlace) (hl : cs.length = 6)
    (h : DataW.trod enc Try.prog w base spare held n 25 cs = some (D, Pl)) : ∃ i : I, i.fit ∧ cs = i.cells.toList := by
  match cs, hl with
  | [c0, c1, c2, c3, c4, c5], _ =>
    have hone : oneCellFields Try.prog fieldsI = true := by kernel_rfl
    obtain ⟨ys, n', -, -, -, hyl, hf⟩ := DataW.trod_struct underI h
    have key : ∀ (j : Nat) (f : Field) (c : Value), fieldsI[j]? = some f → [c0, c1, c2, c3, c4, c5][j]? = some c → Try.prog.underlying f.type = some (.int .i64) → ∃ x : Int, c = .int .i64 x ∧ -9223372036854775808 ≤ x ∧ x ≤ 9223372036854775807 := fun j f c hj hc hty => by
      obtain ⟨ho, hk⟩ := hone_of hone j f hj
      have h1 := hf j f hj
      rw [ho, hk] at h1
      have hjl : j < 6 := (List.getElem?_eq_some_iff.1 hc).1
      have he : ([c0, c1, c2, c3, c4, c5].drop j).take 1 = [c] := by
        rw [List.drop_eq_getElem_cons (by simpa using hjl)]
        simp only [List.take_succ_cons, List.take_zero, List.cons.injEq, and_true]
        exact (List.getElem?_eq_some_iff.1 hc).2
      rw [he] at h1
      refine int_of hty h1 ?_
      rw [List.getElem?_eq_getElem (by rw [hyl]; exact hjl)]
      rfl
    obtain ⟨x0, rfl, -⟩ := key 0 _ c0 rfl rfl Try.underlying3
    obtain ⟨x1, rfl, h1⟩ := key 1 _ c1 rfl rfl Try.underlying3
    obtain ⟨x2, rfl, h2⟩ := key 2 _ c2 rfl rfl Try.underlying3
    obtain ⟨x3, rfl, h3⟩ := key 3 _ c3 rfl rfl Try.underlying3
    obtain ⟨x4, rfl, h4⟩ := key 4 _ c4 rfl rfl Try.underlying2
    obtain ⟨x5, rfl, h5⟩ := key 5 _ c5 rfl rfl Try.underlying3
    exact ⟨⟨x0, x1, x2, x3, x4, x5⟩, ⟨h1, h2, h3, h4, h5⟩, rfl⟩

theorem open_inss {H : Type} {enc : TypeId × Value → H} {w : World} {base : Nat} {spare : Nat → Bool} {held : Bool} {r : Reach} {b0 : Nat} {v : Value} {d : DataW H} {p : List MemPlace}
    (hv : Value.okWide Try.prog w r b0 50 v) (h : DataW.Trod enc Try.prog w base spare held 50 v d p) :
    (∃ A c, v = .slice A 0 c) ∨ ∃ (b o c : Nat) (l : List I), 0 < l.length ∧ v = .slice (some ⟨b, o, none⟩) l.length c ∧ (∀ i ∈ l, i.fit) ∧ (Cont.seg o (insCells l)).sat w.heap[b]? ∧ l.length ≤ maxLen :=
  open_rows (sz := 6) Try.underlying50 (by kernel_rfl) (by omega) (fun i : I => i.fit) (fun i => i.cells.toList) (fun _ => rfl) (fun cs n D Pl hl ht => ins_elem cs n D Pl hl ht) hv h

theorem again_any {H : Type} {enc : TypeId × Value → H} {W W' : World} {t : TypeId} {v : Value} {d : DataW H} {p : List MemPlace} {sp : Nat → Bool} (hr : Try.prog.readableRec t = true) (hrow : t < Try.prog.types.size)
    (h : DataW.Trod enc Try.prog W 0 (fun _ => true) true t v d p) (hb : Below W.heap.size W W') (hlt : ∀ x ∈ p, x.block < W.heap.size) (hsp : ∀ x ∈ p, sp x.block = true) :
    DataW.Trod enc Try.prog W' 0 sp true t v d p :=
  WideElems.Trod_stays laidOut hr hrow h (fun x hx => hb.same (hlt x hx)) hsp

end Go.Proofs.Ytjcebkkmpgafkaa
