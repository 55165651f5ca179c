import Derived.Test.YtbgmkefehfjicaaEv
namespace Go.Proofs.Ytbgmkefehfjicaa.Ev
open Go Go.RowKit

variable {P : Program}

/-- Some slots of the frame, spelt anew ahead of the rest. -/
theorem RelF.known {f : F} {a : Act} (h : RelF f a) (l : List (Nat × Value)) (hl : ∀ p ∈ l, f.get p.1 = p.2) : RelF ⟨f.n, l ++ f.w⟩ a := by
  refine ⟨h.defers, h.size, fun t => ?_⟩
  rw [h.get t]
  show getW f.w t = getW (l ++ f.w) t
  induction l with
  | nil => rfl
  | cons p l ih =>
    obtain ⟨i, v⟩ := p
    rw [List.cons_append, getW_cons]
    split
    · rename_i hit
      subst hit
      exact hl (i, v) (by simp)
    · exact ih fun q hq => hl q (by simp [hq])

theorem RelF.full (xs : Array Value) : RelF ⟨xs.size, argsW 0 xs.toList⟩ { tmps := xs, defers := [] } := by
  refine ⟨rfl, rfl, fun t => ?_⟩
  show _ = getW (argsW 0 xs.toList) t
  rw [getW_args]
  simp [Array.getD_eq_getD_getElem?]

/-- A frame of which some slots are known. -/
structure Known (n : Nat) (l : List (Nat × Value)) (a : Act) : Prop where
  defers : a.defers = []
  size : a.tmps.size = n
  get : ∀ p ∈ l, a.tmps.getD p.1 undef = p.2

theorem Known.rel {n : Nat} {l : List (Nat × Value)} {a : Act} (h : Known n l a) : RelF ⟨n, l ++ argsW 0 a.tmps.toList⟩ a := by
  have h0 : RelF ⟨n, argsW 0 a.tmps.toList⟩ a := by
    have := RelF.full a.tmps
    obtain ⟨t, d⟩ := a
    have hd := h.defers
    have hs := h.size
    simp only at hd hs
    subst hd
    subst hs
    exact this
  exact h0.known l fun p hp => by rw [← h0.get]; exact h.get p hp

theorem Known.of {f : F} {a : Act} (h : RelF f a) (l : List (Nat × Value)) (hl : l.map (fun p => f.get p.1) = l.map (·.2)) : Known f.n l a :=
  ⟨h.defers, h.size, fun p hp => by rw [h.get]; exact List.map_inj_left.1 hl p hp⟩

/-- Some blocks of the call's own, known; the others forgotten. -/
structure Own (w0 : World) (L : List (Nat × Obj)) (W : World) : Prop where
  below : Below w0.heap.size w0 W
  blk : ∀ p ∈ L, w0.heap.size ≤ p.1 ∧ W.heap[p.1]? = some p.2
  nodup : (L.map (·.1)).Nodup

theorem Own.rep {w0 W : World} {L : List (Nat × Obj)} (h : Own w0 L W) (orc : Option (List Nat)) (ci ri : Nat) : Rep w0 ⟨L, W.heap.size, orc, [], [], ci, ri⟩ W :=
  ⟨h.below.os, h.below.tape, h.below.output, rfl, h.below.size, h.below.block, fun p hp => by
    obtain ⟨h1, h2⟩ := h.blk p hp
    refine ⟨h1, ?_, h2⟩
    show p.1 < W.heap.size
    exact (Array.getElem?_eq_some_iff.1 h2).1, h.nodup⟩

theorem Rep.own {w0 W : World} {e : E} (h : Rep w0 e W) (L : List (Nat × Obj)) (hL : List.Sublist L e.L) : Own w0 L W :=
  ⟨h.below, fun p hp => by
    obtain ⟨h1, _, h3⟩ := h.blk p (hL.subset hp)
    exact ⟨h1, h3⟩, List.Nodup.sublist (hL.map _) h.nodup⟩

/-- What came of a piece of code: how it ended; the slots asked for; which blocks are known; what must be one. -/
structure Piece where
  x : Exit
  n : Nat
  vs : List Value
  L : List (Nat × Obj)
  top : Nat
  ls : List Tok
  rs : List Tok
  qs : List (Tok × Tok)

def piece (P : Program) (S : Ctx) (n : Nat) (fn : FuncId) (c : Code) (f : F) (e : E) (ks : List Nat) : Option Piece :=
  match ev P S n fn c f e with
  | some (x, f', e') => some ⟨x, f'.n, ks.map f'.get, e'.L, e'.top, lefts e'.vc, rights e'.vc, asked e'.vc⟩
  | none => none

def pieceTrace (P : Program) (S : Ctx) (n : Nat) (fn : FuncId) (c : Code) (f : F) (e : E) : Option (List Nat) :=
  match ev P S.bare n fn c f e with
  | some (_, _, e') => some e'.tr.reverse
  | none => none

theorem zip_get (f : F) : ∀ ks : List Nat, (ks.zip (ks.map f.get)).map (fun p => f.get p.1) = (ks.zip (ks.map f.get)).map (·.2)
  | [] => rfl
  | k :: ks => by simp only [List.map_cons, List.zip_cons_cons]; rw [zip_get f ks]

/-- A PIECE OF CODE, from a frame of which some slots are known and a world of which some blocks are. -/
theorem wp_piece {S : Ctx} (hS : S.holds P) (hP : P.follows .mixedOrders = true) (n : Nat) (fn : FuncId) {c : Code} {w0 W : World} {a : Act} {m : Nat} {l : List (Nat × Value)} {L : List (Nat × Obj)} {orc : Option (List Nat)}
    (hk : Known m l a) (ho : Own w0 L W) (ks : List Nat) {p : Piece} (h : piece P S n fn c ⟨m, l ++ argsW 0 a.tmps.toList⟩ ⟨L, W.heap.size, orc, [], [], 0, 0⟩ ks = some p) (hls : p.ls = p.rs) (hq : ∀ q ∈ p.qs, q.1 = q.2)
    {Q : Exit → Act → World → Prop} (hQ : ∀ a' W', Known p.n (ks.zip p.vs) a' → Own w0 p.L W' → W'.heap.size = p.top → Q p.x a' W') : c.wp P Q a W := by
  unfold piece at h
  split at h
  · rename_i x f' e' hev
    injection h with h
    subst h
    refine wp_mono (ev_sound hS hP n fn c _ _ _ _ _ hev (ok_of_lists hls hq) a W hk.rel (ho.rep orc 0 0)) ?_
    rintro x2 a2 W2 ⟨rfl, hrel, hrep⟩
    refine hQ a2 W2 (Known.of hrel _ ?_) (hrep.own _ (List.Sublist.refl _)) hrep.size
    exact zip_get f' ks
  · cases h


/-- The same, the parts asked one by one; the accesses found by a first run from f0, e0 (numbers for the blocks). -/
theorem wp_piece_at {S : Ctx} (hS : S.holds P) (hP : P.follows .mixedOrders = true) (n : Nat) (fn : FuncId) {c : Code} {w0 W : World} {a : Act} {m : Nat} {l : List (Nat × Value)} {L : List (Nat × Obj)} (f0 : F) (e0 : E)
    (hk : Known m l a) (ho : Own w0 L W) (ks : List Nat) {x : Exit} {m' : Nat} {vs : List Value} {L' : List (Nat × Obj)} {t : Nat} {qs : List (Tok × Tok)}
    (h : (piece P S n fn c ⟨m, l ++ argsW 0 a.tmps.toList⟩ ⟨L, W.heap.size, pieceTrace P S n fn c f0 e0, [], [], 0, 0⟩ ks).map (fun p => (p.x, p.n, p.vs, p.L, p.top, p.qs)) = some (x, m', vs, L', t, qs))
    (hls : (piece P S n fn c ⟨m, l ++ argsW 0 a.tmps.toList⟩ ⟨L, W.heap.size, pieceTrace P S n fn c f0 e0, [], [], 0, 0⟩ ks).map (·.ls) = (piece P S n fn c ⟨m, l ++ argsW 0 a.tmps.toList⟩ ⟨L, W.heap.size, pieceTrace P S n fn c f0 e0, [], [], 0, 0⟩ ks).map (·.rs)) (hq : ∀ q ∈ qs, q.1 = q.2)
    {Q : Exit → Act → World → Prop} (hQ : ∀ a' W', Known m' (ks.zip vs) a' → Own w0 L' W' → W'.heap.size = t → Q x a' W') : c.wp P Q a W := by
  cases hp : piece P S n fn c ⟨m, l ++ argsW 0 a.tmps.toList⟩ ⟨L, W.heap.size, pieceTrace P S n fn c f0 e0, [], [], 0, 0⟩ ks with
  | none => rw [hp] at h; cases h
  | some p =>
    rw [hp] at h hls
    simp only [Option.map_some, Option.some.injEq, Prod.mk.injEq] at h hls
    obtain ⟨rfl, rfl, rfl, rfl, rfl, rfl⟩ := h
    exact wp_piece hS hP n fn hk ho ks hp hls hq hQ

theorem Own.sub {w0 W : World} {L L' : List (Nat × Obj)} (h : Own w0 L W) (hs : List.Sublist L' L) : Own w0 L' W :=
  ⟨h.below, fun p hp => h.blk p (hs.subset hp), List.Nodup.sublist (hs.map _) h.nodup⟩

theorem Known.sub {n : Nat} {l l' : List (Nat × Value)} {a : Act} (h : Known n l a) (hs : ∀ p ∈ l', p ∈ l) : Known n l' a :=
  ⟨h.defers, h.size, fun p hp => h.get p (hs p hp)⟩

/-- AT A RETURN: what the results' slots hold. -/
theorem bodyPost_known {fn : Func} {w0 W : World} {a : Act} {m : Nat} {l : List (Nat × Value)} {L : List (Nat × Obj)} (orc : Option (List Nat)) {v : Value} {R : Ending → World → Prop} {x : Exit} (hx : x = .ret ∨ x = .normal)
    (hk : Known m l a) (ho : Own w0 L W)
    (h : (lread P (resF fn (F.get ⟨m, l ++ argsW 0 a.tmps.toList⟩)) ⟨L, W.heap.size, orc, [], [], 0, 0⟩).map (·.1) = some v)
    (hls : (lread P (resF fn (F.get ⟨m, l ++ argsW 0 a.tmps.toList⟩)) ⟨L, W.heap.size, orc, [], [], 0, 0⟩).map (fun p => lefts p.2.vc) = (lread P (resF fn (F.get ⟨m, l ++ argsW 0 a.tmps.toList⟩)) ⟨L, W.heap.size, orc, [], [], 0, 0⟩).map (fun p => rights p.2.vc))
    (hq : (lread P (resF fn (F.get ⟨m, l ++ argsW 0 a.tmps.toList⟩)) ⟨L, W.heap.size, orc, [], [], 0, 0⟩).map (fun p => asked p.2.vc) = some [])
    (hR : R (.returned v) W) : bodyPost P fn R x a W := by
  cases hr : lread P (resF fn (F.get ⟨m, l ++ argsW 0 a.tmps.toList⟩)) ⟨L, W.heap.size, orc, [], [], 0, 0⟩ with
  | none => rw [hr] at h; cases h
  | some r =>
    obtain ⟨v', e'⟩ := r
    rw [hr] at h hls hq
    simp only [Option.map_some, Option.some.injEq] at h hls hq
    subst h
    obtain ⟨hrun, _⟩ := lread_sound P _ _ _ _ W hr (ok_of_lists hls (by rw [hq]; simp)) (ho.rep orc 0 0)
    rw [← resF_eq hk.rel] at hrun
    rcases hx with rfl | rfl
    · exact ⟨hk.defers, v', hrun, hR⟩
    · exact ⟨hk.defers, v', hrun, hR⟩

end Go.Proofs.Ytbgmkefehfjicaa.Ev
