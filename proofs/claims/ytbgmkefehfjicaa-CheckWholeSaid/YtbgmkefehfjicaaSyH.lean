/-
  The rows' frames, by Sy: slices and numbers among the arguments.
-/
import Derived.Test.YtbgmkefehfjicaaRows
import Derived.Test.YtbgmkefehfjicaaSyG
import Derived.SizedLaws
import Derived.Test.YtbgmkefehfjicaaPost
import Derived.Lib.SmallJoins
import Derived.Carry
import Derived.ProofKit
import Derived.OpenShut
import Derived.Deep.Slices
import Derived.Deep.Fields
namespace Go.Proofs.Ytbgmkefehfjicaa
open Go Go.Joins Go.ChangeShapes Go.WideShapes Go.RowKit Go.Deep
open Sy (Cont)

theorem wf_i64 {n : Int} (h : (Lit.int .i64 n).wf = true) : -9223372036854775808 ≤ n ∧ n ≤ 9223372036854775807 := by
  simp only [Lit.wf, Bool.and_eq_true, decide_eq_true_eq] at h
  have e1 : IntKind.i64.min = -9223372036854775808 := by decide +kernel
  have e2 : IntKind.i64.max = 9223372036854775807 := by decide +kernel
  rw [e1, e2] at h
  exact h

theorem wf_u64 {n : Int} (h : (Lit.int .u64 n).wf = true) : 0 ≤ n ∧ n < 18446744073709551616 := by
  simp only [Lit.wf, Bool.and_eq_true, decide_eq_true_eq] at h
  have e1 : IntKind.u64.min = 0 := by decide +kernel
  have e2 : IntKind.u64.max = 18446744073709551615 := by decide +kernel
  rw [e1, e2] at h
  omega

theorem own : ownKnob Try.prog.godebug = none := by kernel_rfl
theorem laidOut : laidOutB Try.prog = true := by kernel_rfl

theorem spot_of {w : World} {a : Addr} {u : Value} (h : w.cell? a = some u) : a.spot = none ∧ ∃ c t f, w.heap[a.block]? = some (.cells c t f) ∧ c[a.off]? = some u := by
  unfold World.cell? at h
  split at h
  · rename_i c t f hh
    split at h
    · cases h
    · rename_i hs
      exact ⟨by simpa using hs, c, t, f, hh, h⟩
  · cases h

theorem seg_of {w : World} {a : Addr} {xs : List Value} (h0 : 0 < xs.length) (hc : ∀ j u, xs[j]? = some u → w.cell? (a.add j) = some u) : a.spot = none ∧ (Cont.seg a.off xs).sat w.heap[a.block]? := by
  have h1 := hc 0 _ (List.getElem?_eq_getElem h0)
  obtain ⟨hs, c, t, f, hh, -⟩ := spot_of (by simpa [Addr.add] using h1)
  refine ⟨hs, c, t, f, hh, fun j u hu => ?_⟩
  obtain ⟨b, o, s⟩ := a
  simp only at hs hh
  subst hs
  have h2 := hc j u hu
  rw [Sy.addr_add] at h2
  obtain ⟨-, c', t', f', hh', hc'⟩ := spot_of h2
  simp only at hh' hc'
  rw [hh] at hh'
  injection hh' with hh'
  injection hh' with e1 e2 e3
  subst e1
  simpa using hc'

theorem open_rows {H : Type} {enc : TypeId × Value → H} {P : Program} {w : World} {base : Nat} {spare : Nat → Bool} {held : Bool} {r : Reach} {b0 : Nat} {v : Value} {d : DataW H} {p : List MemPlace} {t e : TypeId} {sz : Nat} (ht : P.underlying t = some (.slice e)) (hC : P.cellsOf e = sz) (hsz : 0 < sz)
    {α : Type} (good : α → Prop) (f : α → List Value) (hf : ∀ a, (f a).length = sz)
    (hel : ∀ (cs : List Value) (n : Nat) (D : DataW H) (Pl : List MemPlace), cs.length = sz → DataW.trod enc P w base spare held n e cs = some (D, Pl) → ∃ a, good a ∧ cs = f a)
    (hv : Value.okWide P w r b0 t v) (h : DataW.Trod enc P w base spare held t v d p) :
    (∃ A c, v = .slice A 0 c) ∨ ∃ (b o c : Nat) (l : List α), 0 < l.length ∧ v = .slice (some ⟨b, o, none⟩) l.length c ∧ (∀ x ∈ l, good x) ∧ (Cont.seg o (l.flatMap f)).sat w.heap[b]? ∧ l.length ≤ maxLen ∧ ∃ D E, d = .slice D E ∧ D.length = l.length := by
  obtain ⟨A, n, c, rfl⟩ := okWide_slice ht hv
  obtain ⟨fuel, hfu⟩ := h
  rcases Go.Deep.open_slice ht hfu with ⟨h0, -⟩ | ⟨a, len, cap, m, k, D, Pl, hcs, -, hle, hcap, hm, hx, hi⟩
  · left
    injection h0 with h0
    injection h0 with h1 h2 h3
    subst h1 h2 h3
    exact ⟨_, _, rfl⟩
  · injection hcs with hcs
    injection hcs with h1 h2 h3
    subst h1 h2 h3
    rcases Nat.eq_zero_or_pos n with hn | hn
    · subst hn
      exact .inl ⟨_, _, rfl⟩
    right
    have hmn : n ≤ m := by rw [hm]; split <;> omega
    have key : ∀ q, q ≤ n → ∃ l : List α, l.length = q ∧ (∀ x ∈ l, good x) ∧ ∀ j u, (l.flatMap f)[j]? = some u → w.cell? (a.add j) = some u := by
      intro q
      induction q with
      | zero => exact fun _ => ⟨[], rfl, fun _ h => (by cases h), fun j u h => (by simp at h)⟩
      | succ q ih =>
        intro hq
        obtain ⟨l, hl, hg, hc⟩ := ih (by omega)
        obtain ⟨cs', hcc, htr⟩ := hi q (by omega)
        rw [hC] at hcc
        obtain ⟨_, hcl, hat⟩ := World.cells?_some hcc
        obtain ⟨x, hx, rfl⟩ := hel cs' _ _ _ hcl htr
        have hfl : (l.flatMap f).length = q * sz := by
          rw [← hl]
          clear hl hg hc
          induction l with
          | nil => simp
          | cons y l ih => rw [List.flatMap_cons, List.length_append, hf, ih, List.length_cons, Nat.add_mul]; omega
        refine ⟨l ++ [x], by simp [hl], fun y hy => ?_, fun j u hu => ?_⟩
        · rcases List.mem_append.1 hy with hy | hy
          · exact hg y hy
          · rcases List.mem_singleton.1 hy with rfl
            exact hx
        · rw [List.flatMap_append] at hu
          rcases Nat.lt_or_ge j (q * sz) with hj | hj
          · rw [List.getElem?_append_left (by omega)] at hu
            exact hc j u hu
          · rw [List.getElem?_append_right (by omega), hfl] at hu
            have hu' : (f x)[j - q * sz]? = some u := by simpa using hu
            have hlt : j - q * sz < sz := by
              have := (List.getElem?_eq_some_iff.1 hu').1
              rw [hf] at this
              exact this
            have h5 := hat (j - q * sz) hlt
            rw [Go.Deep.add_add, show q * sz + (j - q * sz) = j by omega, hu'] at h5
            exact h5
    obtain ⟨l, hl, hg, hc⟩ := key n (Nat.le_refl _)
    have hpos : 0 < (l.flatMap f).length := by
      cases l with
      | nil => simp at hl; omega
      | cons y l => rw [List.flatMap_cons, List.length_append, hf]; omega
    obtain ⟨hs, hseg⟩ := seg_of hpos hc
    obtain ⟨b, o, s⟩ := a
    simp only at hs
    subst hs
    injection hx with hx hx2
    exact ⟨b, o, c, l, by omega, by rw [hl], hg, hseg, by omega, _, _, hx, by simp [hl]⟩

/-- A number that is a cell of its own. -/
theorem cell_int {H : Type} {enc : TypeId × Value → H} {w : World} {base : Nat} {spare : Nat → Bool} {held : Bool} {n : Nat} {t : TypeId} {k : IntKind} {c : Value} {y : Option (DataW H × List MemPlace)} (ht : Try.prog.underlying t = some (.int k))
    (h : DataW.trod enc Try.prog w base spare held n t [c] = y) (hy : y.isSome = true) : ∃ x : Int, c = .int k x ∧ (Lit.int k x).wf = true := by
  cases y with
  | none => cases hy
  | some y =>
    obtain ⟨m, e, -, hw⟩ := DataW.trod_int ht h
    injection e with e
    exact ⟨m, e, hw⟩

/-- A struct's field of one cell, among its cells. -/
theorem cell_field {H : Type} {enc : TypeId × Value → H} {w : World} {base : Nat} {spare : Nat → Bool} {held : Bool} {n : Nat} {t : TypeId} {fs : Array Field} {cs : List Value} {y : DataW H × List MemPlace} (hu : Try.prog.underlying t = some (.struct fs)) (hone : oneCellFields Try.prog fs = true)
    (hl : cs.length = fs.size) (h : DataW.trod enc Try.prog w base spare held n t cs = some y) : ∃ n', ∀ (j : Nat) (f : Field) (c : Value), fs[j]? = some f → cs[j]? = some c → ∃ y, DataW.trod enc Try.prog w base spare held n' f.type [c] = some y := by
  obtain ⟨ys, n', -, -, -, hyl, hf⟩ := DataW.trod_struct hu h
  refine ⟨n', fun j f c hj hc => ?_⟩
  obtain ⟨ho, hk⟩ := hone_of hone j f hj
  have h1 := hf j f hj
  rw [ho, hk] at h1
  have hjl : j < cs.length := (List.getElem?_eq_some_iff.1 hc).1
  have he : (cs.drop j).take 1 = [c] := by
    rw [List.drop_eq_getElem_cons hjl]
    simp only [List.take_succ_cons, List.take_zero, List.cons.injEq, and_true]
    exact (List.getElem?_eq_some_iff.1 hc).2
  rw [he] at h1
  rw [h1, List.getElem?_eq_getElem (by rw [hyl, ← hl]; exact hjl)]
  exact ⟨_, rfl⟩

theorem again_any {H : Type} {enc : TypeId × Value → H} {W W' : World} {t : TypeId} {v : Value} {d : DataW H} {p : List MemPlace} {sp : Nat → Bool} (hr : Try.prog.readableRec t = true) (hrow : t < Try.prog.types.size)
    (h : DataW.Trod enc Try.prog W 0 (fun _ => true) true t v d p) (hb : Below W.heap.size W W') (hlt : ∀ x ∈ p, x.block < W.heap.size) (hsp : ∀ x ∈ p, sp x.block = true) :
    DataW.Trod enc Try.prog W' 0 sp true t v d p :=
  WideElems.Trod_stays laidOut hr hrow h (fun x hx => hb.same (hlt x hx)) hsp

end Go.Proofs.Ytbgmkefehfjicaa
