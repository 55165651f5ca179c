/-
  Symbolic runs: what may come of a piece is a tree; choices are told by an oracle; tests that are open part the way.
-/
import Derived.Test.YtbgmkefehfjicaaSyF
import Derived.Laws.AppendOwn
namespace Go.Proofs.Ytbgmkefehfjicaa.Sy
open Go Go.RowKit
open Ev (one cell_of frozen_of calm)

/-- What is known of a block: all; a row of the call's own (n elements of type e, room for cap); some cells from off on. -/
inductive Cont where
  | obj (o : Obj)
  | row (e : TypeId) (size n cap : Nat) (xs : List Value)
  | seg (off : Nat) (xs : List Value)

def Cont.sat : Cont → Option Obj → Prop
  | .obj o, h => h = some o
  | .row e size n cap xs, h => ∃ cur, h = some (.cells cur e (0, 0)) ∧ xs.length = n * size ∧ n ≤ cap ∧ cap ≤ maxLen ∧ cur.size = cap * size ∧ cur.toList.take (n * size) = xs
  | .seg off xs, h => ∃ c t f, h = some (.cells c t f) ∧ ∀ j u, xs[j]? = some u → c.toList[off + j]? = some u

def Cont.at : Cont → Nat → Option Value
  | .obj (.cells c _ _), i => c.toList[i]?
  | .obj _, _ => none
  | .row _ _ _ _ xs, i => xs[i]?
  | .seg off xs, i => if off ≤ i then xs[i - off]? else none

theorem Cont.some_of {ct : Cont} {h : Option Obj} (hs : ct.sat h) : ∃ o, h = some o := by
  cases ct with
  | obj o => exact ⟨o, hs⟩
  | row e size n cap xs => obtain ⟨cur, h, -⟩ := hs; exact ⟨_, h⟩
  | seg off xs => obtain ⟨c, t, f, h, -⟩ := hs; exact ⟨_, h⟩

theorem take_get {α : Type} {l xs : List α} {n i : Nat} {v : α} (h : l.take n = xs) (hv : xs[i]? = some v) : l[i]? = some v := by
  subst h
  rw [List.getElem?_take] at hv
  split at hv
  · exact hv
  · cases hv

theorem Cont.at_spec {ct : Cont} {h : Option Obj} (hs : ct.sat h) {i : Nat} {v : Value} (hv : ct.at i = some v) : ∃ c t f, h = some (.cells c t f) ∧ c[i]? = some v := by
  cases ct with
  | obj o =>
    cases o with
    | cells c t f => exact ⟨c, t, f, hs, by simpa [Cont.at] using hv⟩
    | _ => cases hv
  | row e size n cap xs =>
    obtain ⟨cur, h, -, -, -, -, ht⟩ := hs
    exact ⟨cur, e, (0, 0), h, by simpa using take_get ht hv⟩
  | seg off xs =>
    obtain ⟨c, t, f, h, hc⟩ := hs
    simp only [Cont.at] at hv
    split at hv
    · rename_i hle
      have := hc _ _ hv
      rw [show off + (i - off) = i by omega] at this
      exact ⟨c, t, f, h, by simpa using this⟩
    · cases hv

/-- The cells, whatever else is known. -/
def Cont.asSeg : Cont → Cont
  | .obj (.cells c _ _) => .seg 0 c.toList
  | .row _ _ _ _ xs => .seg 0 xs
  | c => c

theorem Cont.sat_seg {ct : Cont} {h : Option Obj} (hs : ct.sat h) : ct.asSeg.sat h := by
  cases ct with
  | obj o =>
    cases o with
    | cells c t f => exact ⟨c, t, f, hs, fun j u hu => by rw [Nat.zero_add]; exact hu⟩
    | _ => exact hs
  | row e size n cap xs =>
    obtain ⟨cur, h, -, -, -, -, ht⟩ := hs
    exact ⟨cur, e, (0, 0), h, fun j u hu => by rw [Nat.zero_add]; exact take_get ht hu⟩
  | seg off xs => exact hs

/-- What is asked of a block that is at hand. -/
def Cont.view : Cont → Cont → Cont
  | .seg .., c => c.asSeg
  | _, c => c

theorem Cont.sat_view {p c : Cont} {h : Option Obj} (hs : c.sat h) : (p.view c).sat h := by
  cases p with
  | seg off xs => exact Cont.sat_seg hs
  | _ => exact hs

/-- A block that is known whole is a row, too. -/
def Cont.asRow (c : Cont) (size n cap : Nat) : Cont := match c with
  | .obj (.cells cs t (lo, hi)) => match Nat.beq cs.size (cap * size) && (Nat.ble n cap && (Nat.ble cap maxLen && (Nat.beq lo 0 && Nat.beq hi 0))) with
    | true => .row t size n cap (cs.toList.take (n * size))
    | false => c
  | _ => c

theorem Cont.sat_row {c : Cont} {size n cap : Nat} {h : Option Obj} (hs : c.sat h) : (c.asRow size n cap).sat h := by
  unfold Cont.asRow
  split
  · rename_i cs t lo hi
    split
    · rename_i hb
      simp only [Bool.and_eq_true, Nat.beq_eq, Nat.ble_eq] at hb
      obtain ⟨h1, h2, h3, h4, h5⟩ := hb
      subst h4 h5
      refine ⟨cs, hs, ?_, h2, h3, h1, rfl⟩
      have : n * size ≤ cap * size := Nat.mul_le_mul_right _ h2
      simp only [List.length_take, Array.length_toList, h1]
      omega
    · exact hs
  · exact hs

/-- What is asked of a block that is used up. -/
def Cont.useView : Cont → Cont → Cont
  | .row _ size n cap _, c => c.asRow size n cap
  | _, c => c

theorem Cont.sat_useView {p c : Cont} {h : Option Obj} (hs : c.sat h) : (p.useView c).sat h := by
  cases p with
  | row e size n cap xs => exact Cont.sat_row hs
  | _ => exact hs

/-- A block that is known: its number, what lies there, whether the call may write it. -/
structure Blk where
  nm : Nat
  ct : Cont
  own : Bool

/-- Two things that must be one. -/
inductive Tok where
  | nat (n : Nat)
  | val (v : Value)
  | cont (c : Cont)
  | code (c : Code)
  | blks (l : List Blk)
  | sem (s : Sem Next)

/-- A letter: a number, an integer, and so on, of which nothing is known but what is said behind it. -/
structure Let where
  n : Nat
  i : Int
  b : Bool
  v : Value
  l : List Value

def Let.none : Let := ⟨0, 0, false, .tuple #[], []⟩

/-- What a choice is about (for the tool alone). -/
inductive Hint where
  | pick (b : Nat) (l : List Nat)
  | num (n : Nat)
  | mask (l : List Nat)
  | lit (b : Bool)
  | names (l r : List Nat)
  | sug (j n : Nat)
  | ints (a b : Int)
  | note (js : List Nat) (i n : Nat)
  | way
  | drop (m : Nat)
  | force
  | tail (l : List Nat)

/-- What may come of a piece. -/
inductive T (α : Type) where
  | ret (a : α)
  | fail
  | ask (k : Let → T α)
  | same (l r : Tok) (k : T α)
  | need (p : Prop) (k : T α)
  | hyp (p : Prop) (k : T α)
  | both (x y : T α)
  | cond (c : Bool) (x y : T α)
  | or (h : Hint) (k : Nat → T α)

namespace T
variable {α β : Type}
def bind : T α → (α → T β) → T β
  | ret a, f => f a
  | fail, _ => fail
  | ask k, f => ask fun x => (k x).bind f
  | same l r k, f => same l r (k.bind f)
  | need p k, f => need p (k.bind f)
  | hyp p k, f => hyp p (k.bind f)
  | both x y, f => both (x.bind f) (y.bind f)
  | cond c x y, f => cond c (x.bind f) (y.bind f)
  | or h k, f => or h fun j => (k j).bind f

def all (K : α → Prop) : T α → Prop
  | ret a => K a
  | fail => False
  | ask k => ∀ x, (k x).all K
  | same l r k => l = r ∧ k.all K
  | need p k => p ∧ k.all K
  | hyp p k => p → k.all K
  | both x y => x.all K ∧ y.all K
  | cond c x y => (c = true → x.all K) ∧ (c = false → y.all K)
  | or _ k => ∃ j, (k j).all K

theorem all_bind (t : T α) (f : α → T β) (K : β → Prop) : (t.bind f).all K ↔ t.all fun a => (f a).all K := by
  induction t with
  | ret a => exact Iff.rfl
  | fail => exact Iff.rfl
  | ask k ih => exact forall_congr' fun x => ih x
  | same l r k ih => exact and_congr_right fun _ => ih
  | need p k ih => exact and_congr_right fun _ => ih
  | hyp p k ih => exact imp_congr_right fun _ => ih
  | both x y ih1 ih2 => exact and_congr ih1 ih2
  | cond c x y ih1 ih2 => exact and_congr (imp_congr_right fun _ => ih1) (imp_congr_right fun _ => ih2)
  | or h k ih => exact exists_congr fun j => ih j

theorem all_mono {K K' : α → Prop} (h : ∀ a, K a → K' a) : ∀ t : T α, t.all K → t.all K'
  | ret _, h1 => h _ h1
  | fail, h1 => h1
  | ask k, h1 => fun x => all_mono h (k x) (h1 x)
  | same _ _ k, h1 => ⟨h1.1, all_mono h k h1.2⟩
  | need _ k, h1 => ⟨h1.1, all_mono h k h1.2⟩
  | hyp _ k, h1 => fun hp => all_mono h k (h1 hp)
  | both x y, h1 => ⟨all_mono h x h1.1, all_mono h y h1.2⟩
  | cond _ x y, h1 => ⟨fun hc => all_mono h x (h1.1 hc), fun hc => all_mono h y (h1.2 hc)⟩
  | or _ k, h1 => h1.elim fun j hj => ⟨j, all_mono h (k j) hj⟩
end T

/-- The choices. -/
inductive O where
  | nil
  | step (j : Nat) (o : O)
  | fork (a b : O)

def O.steps : List Nat → O → O
  | [], o => o
  | j :: l, o => .step j (O.steps l o)

/-- So many times the first choice. -/
noncomputable def O.zero (n : Nat) (o : O) : O := @Nat.rec (fun _ => O) o (fun _ ih => .step 0 ih) n

/-- Choices, and how often the first one stands ahead of each. -/
noncomputable def O.runs : List (Nat × Nat) → O → O
  | [], o => o
  | p :: r, o => O.zero p.1 (.step p.2 (O.runs r o))

/-- What came of it. -/
inductive Res (α : Type) where
  | leaf (a : α)
  | need (p : Prop) (r : Res α)
  | hyp (p : Prop) (r : Res α)
  | both (x y : Res α)
  | br (c : Bool) (x y : Res α)

namespace Res
variable {α β : Type}
def map (f : α → β) : Res α → Res β
  | leaf a => leaf (f a)
  | need p r => need p (r.map f)
  | hyp p r => hyp p (r.map f)
  | both x y => both (x.map f) (y.map f)
  | br c x y => br c (x.map f) (y.map f)

def holds (K : α → Prop) : Res α → Prop
  | leaf a => K a
  | need p r => p ∧ r.holds K
  | hyp p r => p → r.holds K
  | both x y => x.holds K ∧ y.holds K
  | br c x y => (c = true → x.holds K) ∧ (c = false → y.holds K)

theorem holds_map (f : α → β) (K : β → Prop) (r : Res α) : (r.map f).holds K ↔ r.holds fun a => K (f a) := by
  induction r with
  | leaf a => exact Iff.rfl
  | need p r ih => exact and_congr_right fun _ => ih
  | hyp p r ih => exact imp_congr_right fun _ => ih
  | both x y ih1 ih2 => exact and_congr ih1 ih2
  | br c x y ih1 ih2 => exact and_congr (imp_congr_right fun _ => ih1) (imp_congr_right fun _ => ih2)

theorem holds_mono {K K' : α → Prop} (h : ∀ a, K a → K' a) : ∀ r : Res α, r.holds K → r.holds K'
  | leaf _, h1 => h _ h1
  | need _ r, h1 => ⟨h1.1, holds_mono h r h1.2⟩
  | hyp _ r, h1 => fun hp => holds_mono h r (h1 hp)
  | both x y, h1 => ⟨holds_mono h x h1.1, holds_mono h y h1.2⟩
  | br _ x y, h1 => ⟨fun hc => holds_mono h x (h1.1 hc), fun hc => holds_mono h y (h1.2 hc)⟩
end Res

/-- Things that must be one. -/
inductive TT where
  | nil
  | cons (t : Tok) (r : TT)
  | node (x y : TT)

structure Out (α : Type) where
  res : Res α
  l : TT
  r : TT

noncomputable def T.run {α : Type} (t : T α) : O → (Nat → Let) → Option (Out α) :=
  @T.rec α (fun _ => O → (Nat → Let) → Option (Out α))
    (fun a _ _ => some ⟨.leaf a, .nil, .nil⟩)
    (fun _ _ => none)
    (fun _ ih o ns => ih (ns 0) o fun j => ns (j + 1))
    (fun l r _ ih o ns => match ih o ns with
      | some x => some ⟨x.res, .cons l x.l, .cons r x.r⟩
      | none => none)
    (fun p _ ih o ns => match ih o ns with
      | some x => some ⟨.need p x.res, x.l, x.r⟩
      | none => none)
    (fun p _ ih o ns => match ih o ns with
      | some x => some ⟨.hyp p x.res, x.l, x.r⟩
      | none => none)
    (fun _ _ ihx ihy o ns => match o with
      | .fork a b => match ihx a ns, ihy b ns with
        | some u, some v => some ⟨.both u.res v.res, .node u.l v.l, .node u.r v.r⟩
        | _, _ => none
      | _ => none)
    (fun c _ _ ihx ihy o ns => match o with
      | .fork a b => match ihx a ns, ihy b ns with
        | some u, some v => some ⟨.br c u.res v.res, .node u.l v.l, .node u.r v.r⟩
        | _, _ => none
      | .step _ a => match c with
        | true => ihx a ns
        | false => ihy a ns
      | .nil => none)
    (fun _ _ ih o ns => match o with
      | .step j a => ih j a ns
      | _ => none)
    t

section
variable {α : Type} (o : O) (ns : Nat → Let)
theorem run_ret (a : α) : (T.ret a).run o ns = some ⟨.leaf a, .nil, .nil⟩ := rfl
theorem run_fail : (T.fail : T α).run o ns = none := rfl
theorem run_ask (k : Let → T α) : (T.ask k).run o ns = (k (ns 0)).run o fun j => ns (j + 1) := rfl
theorem run_same (l r : Tok) (k : T α) : (T.same l r k).run o ns = (match k.run o ns with
    | some x => some ⟨x.res, .cons l x.l, .cons r x.r⟩
    | none => none) := rfl
theorem run_need (p : Prop) (k : T α) : (T.need p k).run o ns = (match k.run o ns with
    | some x => some ⟨.need p x.res, x.l, x.r⟩
    | none => none) := rfl
theorem run_hyp (p : Prop) (k : T α) : (T.hyp p k).run o ns = (match k.run o ns with
    | some x => some ⟨.hyp p x.res, x.l, x.r⟩
    | none => none) := rfl
theorem run_both (x y : T α) : (T.both x y).run o ns = (match o with
    | .fork a b => match x.run a ns, y.run b ns with
      | some u, some v => some ⟨.both u.res v.res, .node u.l v.l, .node u.r v.r⟩
      | _, _ => none
    | _ => none) := rfl
theorem run_cond (c : Bool) (x y : T α) : (T.cond c x y).run o ns = (match o with
    | .fork a b => match x.run a ns, y.run b ns with
      | some u, some v => some ⟨.br c u.res v.res, .node u.l v.l, .node u.r v.r⟩
      | _, _ => none
    | .step _ a => match c with
      | true => x.run a ns
      | false => y.run a ns
    | .nil => none) := rfl
theorem run_or (h : Hint) (k : Nat → T α) : (T.or h k).run o ns = (match o with
    | .step j a => (k j).run a ns
    | _ => none) := rfl
end

def consN {α : Type} (a : α) (f : Nat → α) : Nat → α
  | 0 => a
  | j + 1 => f j

theorem all_of_run {α : Type} {K : α → Prop} : ∀ (t : T α) (o : O), (∀ ns, ∃ x, t.run o ns = some x ∧ x.l = x.r ∧ x.res.holds K) → t.all K
  | .ret a, o, h => by
    obtain ⟨x, h1, -, h3⟩ := h fun _ => Let.none
    injection h1 with h1
    subst h1
    exact h3
  | .fail, o, h => by
    obtain ⟨x, h1, -⟩ := h fun _ => Let.none
    cases h1
  | .ask k, o, h => fun x => all_of_run (k x) o fun ns => h (consN x ns)
  | .same l r k, o, h => by
    have key : ∀ ns, ∃ x, k.run o ns = some x ∧ l = r ∧ x.l = x.r ∧ x.res.holds K := fun ns => by
      obtain ⟨x, h1, h2, h3⟩ := h ns
      rw [run_same] at h1
      split at h1
      · rename_i y hy
        injection h1 with h1
        subst h1
        simp only [TT.cons.injEq] at h2
        exact ⟨y, hy, h2.1, h2.2, h3⟩
      · cases h1
    exact ⟨(key fun _ => Let.none).elim fun _ h => h.2.1, all_of_run k o fun ns => (key ns).imp fun _ h => ⟨h.1, h.2.2⟩⟩
  | .need p k, o, h => by
    have key : ∀ ns, ∃ x, k.run o ns = some x ∧ p ∧ x.l = x.r ∧ x.res.holds K := fun ns => by
      obtain ⟨x, h1, h2, h3⟩ := h ns
      rw [run_need] at h1
      split at h1
      · rename_i y hy
        injection h1 with h1
        subst h1
        exact ⟨y, hy, h3.1, h2, h3.2⟩
      · cases h1
    exact ⟨(key fun _ => Let.none).elim fun _ h => h.2.1, all_of_run k o fun ns => (key ns).imp fun _ h => ⟨h.1, h.2.2⟩⟩
  | .hyp p k, o, h => fun hp => all_of_run k o fun ns => by
      obtain ⟨x, h1, h2, h3⟩ := h ns
      rw [run_hyp] at h1
      split at h1
      · rename_i y hy
        injection h1 with h1
        subst h1
        exact ⟨y, hy, h2, h3 hp⟩
      · cases h1
  | .both x y, .nil, h => by
    obtain ⟨z, h1, -⟩ := h fun _ => Let.none
    cases h1
  | .both x y, .step _ _, h => by
    obtain ⟨z, h1, -⟩ := h fun _ => Let.none
    cases h1
  | .both x y, .fork a b, h => by
    have key : ∀ ns, ∃ u v, x.run a ns = some u ∧ y.run b ns = some v ∧ u.l = u.r ∧ v.l = v.r ∧ u.res.holds K ∧ v.res.holds K := fun ns => by
      obtain ⟨z, h1, h2, h3⟩ := h ns
      rw [run_both] at h1; dsimp only at h1
      split at h1
      · rename_i u v hu hv
        injection h1 with h1
        subst h1
        simp only [TT.node.injEq] at h2
        exact ⟨u, v, hu, hv, h2.1, h2.2, h3.1, h3.2⟩
      · cases h1
    exact ⟨all_of_run x a fun ns => (key ns).elim fun u h => h.elim fun v h => ⟨u, h.1, h.2.2.1, h.2.2.2.2.1⟩,
      all_of_run y b fun ns => (key ns).elim fun u h => h.elim fun v h => ⟨v, h.2.1, h.2.2.2.1, h.2.2.2.2.2⟩⟩
  | .cond c x y, .nil, h => by
    obtain ⟨z, h1, -⟩ := h fun _ => Let.none
    cases h1
  | .cond c x y, .step _ a, h => by
    cases c with
    | true => exact ⟨fun _ => all_of_run x a fun ns => h ns, fun hc => (by cases hc)⟩
    | false => exact ⟨fun hc => (by cases hc), fun _ => all_of_run y a fun ns => h ns⟩
  | .cond c x y, .fork a b, h => by
    have key : ∀ ns, ∃ u v, x.run a ns = some u ∧ y.run b ns = some v ∧ u.l = u.r ∧ v.l = v.r ∧ (c = true → u.res.holds K) ∧ (c = false → v.res.holds K) := fun ns => by
      obtain ⟨z, h1, h2, h3⟩ := h ns
      rw [run_cond] at h1; dsimp only at h1
      split at h1
      · rename_i u v hu hv
        injection h1 with h1
        subst h1
        simp only [TT.node.injEq] at h2
        exact ⟨u, v, hu, hv, h2.1, h2.2, h3.1, h3.2⟩
      · cases h1
    exact ⟨fun hc => all_of_run x a fun ns => (key ns).elim fun u h => h.elim fun v h => ⟨u, h.1, h.2.2.1, h.2.2.2.2.1 hc⟩,
      fun hc => all_of_run y b fun ns => (key ns).elim fun u h => h.elim fun v h => ⟨v, h.2.1, h.2.2.2.1, h.2.2.2.2.2 hc⟩⟩
  | .or _ k, .nil, h => by
    obtain ⟨z, h1, -⟩ := h fun _ => Let.none
    cases h1
  | .or _ k, .fork _ _, h => by
    obtain ⟨z, h1, -⟩ := h fun _ => Let.none
    cases h1
  | .or _ k, .step j a, h => ⟨j, all_of_run (k j) a h⟩

/-- Two entries that may not speak of one block. -/
def Far (p q : Blk) : Prop := (p.own || q.own) = true → p.nm ≠ q.nm
theorem Far.symm {p q : Blk} (h : Far p q) : Far q p := fun ho he => h (by rw [Bool.or_comm]; exact ho) he.symm

/-- The world W: of the blocks of w0 those that are kept as they were; the known ones as e tells. -/
structure Rep (w0 : World) (keep : Nat → Prop) (L : List Blk) (W : World) : Prop where
  os : W.os = w0.os
  tape : W.tape = w0.tape
  output : W.output = w0.output
  size : w0.heap.size ≤ W.heap.size
  old : ∀ k, k < w0.heap.size → keep k → W.heap[k]? = w0.heap[k]?
  blk : ∀ p ∈ L, p.ct.sat W.heap[p.nm]? ∧ (p.own = true → p.nm < w0.heap.size → ¬ keep p.nm)
  far : L.Pairwise Far

section rep
variable {w0 W : World} {keep : Nat → Prop} {L : List Blk}

theorem Rep.draw (h : Rep w0 keep L W) : Rep w0 keep L { W with drawn := W.drawn + 1 } := ⟨h.os, h.tape, h.output, h.size, h.old, h.blk, h.far⟩

theorem Rep.at (h : Rep w0 keep L W) {j : Nat} {p : Blk} (hj : L[j]? = some p) : p.ct.sat W.heap[p.nm]? := (h.blk p (List.mem_of_getElem? hj)).1

theorem Rep.lt (h : Rep w0 keep L W) {p : Blk} (hp : p ∈ L) : p.nm < W.heap.size := by
  obtain ⟨o, ho⟩ := Cont.some_of (h.blk p hp).1
  exact (Array.getElem?_eq_some_iff.1 ho).1

theorem Rep.push (h : Rep w0 keep L W) (o : Obj) : Rep w0 keep (⟨W.heap.size, .obj o, true⟩ :: L) { W with heap := W.heap.push o } := by
  refine ⟨h.os, h.tape, h.output, by have := h.size; simp; omega, fun k hk hkp => ?_, fun p hp => ?_, ?_⟩
  · have := h.size
    show (W.heap.push o)[k]? = _
    rw [Array.getElem?_push, if_neg (by omega)]
    exact h.old k hk hkp
  · simp only [List.mem_cons] at hp
    rcases hp with rfl | hp
    · refine ⟨?_, fun _ hlt => ?_⟩
      · show (W.heap.push o)[W.heap.size]? = _
        rw [Array.getElem?_push, if_pos rfl]
      · have := h.size
        simp only at hlt
        omega
    · have hlt := h.lt hp
      obtain ⟨h1, h2⟩ := h.blk p hp
      refine ⟨?_, h2⟩
      show p.ct.sat (W.heap.push o)[p.nm]?
      rw [Array.getElem?_push, if_neg (by omega)]
      exact h1
  · simp only [List.pairwise_cons]
    refine ⟨fun q hq _ he => ?_, h.far⟩
    have := h.lt hq
    simp only at he
    omega

theorem far_ne {L : List Blk} (h : L.Pairwise Far) {i j : Nat} {p q : Blk} (hi : L[i]? = some p) (hj : L[j]? = some q) (hne : i ≠ j) : Far p q := by
  obtain ⟨hi1, hi2⟩ := List.getElem?_eq_some_iff.1 hi
  obtain ⟨hj1, hj2⟩ := List.getElem?_eq_some_iff.1 hj
  rcases Nat.lt_or_gt_of_ne hne with hlt | hlt
  · have := List.pairwise_iff_getElem.1 h i j hi1 hj1 hlt
    rwa [hi2, hj2] at this
  · have := List.pairwise_iff_getElem.1 h j i hj1 hi1 hlt
    rw [hi2, hj2] at this
    exact this.symm

/-- One of the known blocks holds something else. -/
theorem Rep.set {W' : World} (h : Rep w0 keep L W) {j : Nat} {p : Blk} (hj : L[j]? = some p) (hown : p.own = true) (ct : Cont)
    (h1 : W'.os = W.os) (h2 : W'.tape = W.tape) (h3 : W'.output = W.output) (h4 : W'.heap.size = W.heap.size) (h5 : ∀ k, k ≠ p.nm → W'.heap[k]? = W.heap[k]?) (h6 : ct.sat W'.heap[p.nm]?) :
    Rep w0 keep (L.set j ⟨p.nm, ct, true⟩) W' := by
  have hp := h.blk p (List.mem_of_getElem? hj)
  obtain ⟨hjl, hje⟩ := List.getElem?_eq_some_iff.1 hj
  refine ⟨h1.trans h.os, h2.trans h.tape, h3.trans h.output, by rw [h4]; exact h.size, fun k hk hkp => ?_, fun q hq => ?_, ?_⟩
  · rw [h5 k (fun he => by subst he; exact hp.2 hown hk hkp)]; exact h.old k hk hkp
  · obtain ⟨i, hi⟩ := List.mem_iff_getElem?.1 hq
    rw [List.getElem?_set] at hi
    split at hi
    · rename_i hij
      injection hi with hi
      subst hi
      exact ⟨h6, fun _ => hp.2 hown⟩
    · rename_i hij
      have hb := h.blk q (List.mem_of_getElem? hi)
      refine ⟨?_, hb.2⟩
      rw [h5 q.nm (far_ne h.far hi hj (Ne.symm hij) (by rw [hown, Bool.or_true]))]
      exact hb.1
  · rw [List.pairwise_iff_getElem]
    intro i k hi hk hik
    have hi' : i < L.length := by simpa using hi
    have hk' : k < L.length := by simpa using hk
    have h0 := List.pairwise_iff_getElem.1 h.far i k hi' hk' hik
    simp only [List.getElem_set]
    have hown' : L[j].own = true := by rw [hje]; exact hown
    have hnm : p.nm = L[j].nm := by rw [hje]
    split
    · rename_i e1
      subst e1
      split
      · omega
      · intro _
        have h1 := h0 (by rw [hown']; rfl)
        rw [← hnm] at h1
        exact h1
    · split
      · rename_i e1
        subst e1
        intro _
        have h1 := h0 (by rw [hown', Bool.or_true])
        rw [← hnm] at h1
        exact h1
      · exact h0

theorem Rep.below (h : Rep w0 (fun _ => True) L W) : Below w0.heap.size w0 W := ⟨h.os, h.tape, h.output, h.size, fun k hk => h.old k hk trivial⟩

theorem Rep.sub {L' : List Blk} (h : Rep w0 keep L W) (hs : List.Sublist L' L) : Rep w0 keep L' W :=
  ⟨h.os, h.tape, h.output, h.size, h.old, fun p hp => h.blk p (hs.subset hp), h.far.sublist hs⟩
end rep


/-- What a piece reads; what it uses up; how many letters it asks; what it reads, however much that is (rb). -/
structure MemC where
  rd : List (Nat × Cont)
  use : List (Nat × Cont)
  m : Nat
  rb : List (Nat × Cont)

/-- A way in which it may end: what is said of the letters; what is known behind it (new blocks, or such as were used; nb: however many). -/
structure OutM where
  hyp : List Let → Prop
  nw : List Let → List (Nat × Cont)
  nb : List Let → List (Nat × Cont)

structure MemC.pre (c : MemC) (W : World) : Prop where
  rd : ∀ p ∈ c.rd, p.2.sat W.heap[p.1]?
  use : ∀ p ∈ c.use, p.2.sat W.heap[p.1]?
  nodup : (c.use.map (·.1)).Nodup
  apart : ∀ p ∈ c.rd, ∀ q ∈ c.use, p.1 ≠ q.1
  rb : ∀ p ∈ c.rb, p.2.sat W.heap[p.1]?
  apartB : ∀ p ∈ c.rb, ∀ q ∈ c.use, p.1 ≠ q.1

structure MemC.post (c : MemC) (o : OutM) (W W' : World) (ns : List Let) : Prop where
  len : ns.length = c.m
  hyp : o.hyp ns
  os : W'.os = W.os
  tape : W'.tape = W.tape
  output : W'.output = W.output
  size : W.heap.size ≤ W'.heap.size
  old : ∀ k, k < W.heap.size → (∀ p ∈ c.use, p.1 ≠ k) → W'.heap[k]? = W.heap[k]?
  nw : ∀ p ∈ o.nw ns, (W.heap.size ≤ p.1 ∨ ∃ q ∈ c.use, q.1 = p.1) ∧ p.2.sat W'.heap[p.1]?
  nodup : ((o.nw ns).map (·.1)).Nodup
  nb : ∀ p ∈ o.nb ns, (W.heap.size ≤ p.1 ∨ ∃ q ∈ c.use, q.1 = p.1) ∧ p.2.sat W'.heap[p.1]?
  nodupB : ((o.nb ns).map (·.1)).Nodup
  apartB : ∀ p ∈ o.nw ns, ∀ q ∈ o.nb ns, p.1 ≠ q.1

/-- A call that is met by its contract. -/
structure CallC where
  f : FuncId
  args : Array Value
  ok : Prop
  mem : MemC
  outs : List (OutM × (List Let → Value))

def Meets (P : Program) (c : CallC) : Prop :=
  c.ok → ∀ W : World, c.mem.pre W → Calls P c.f c.args W fun en W' => ∃ o ∈ c.outs, ∃ ns, en = .returned (o.2 ns) ∧ c.mem.post o.1 W W' ns

/-- A loop, or a region that draws its order, that is met by what was shown of it: the slots that it is told of; how it ends; what slots hold then. -/
structure LoopC where
  c : Code
  n : Nat
  sl : List (Nat × Value)
  ok : Prop
  mem : MemC
  outs : List (OutM × Exit × (List Let → List (Nat × Value)))

def MeetsL (P : Program) (c : LoopC) : Prop :=
  c.ok → ∀ (a : Act) (W : World), Known c.n c.sl a → c.mem.pre W → c.c.wp P (fun x a' W' => ∃ o ∈ c.outs, x = o.2.1 ∧ calm x = true ∧ ∃ ns, Known c.n (o.2.2 ns) a' ∧ c.mem.post o.1 W W' ns) a W

/-- One operation that is met by what was shown of it (none: it yields nothing). -/
structure OpC where
  mem : MemC
  outs : List (OutM × (List Let → Option Value))

def nextO : Option Value → Next
  | some v => .value v
  | none => .skip

def OpMeets (P : Program) (s : Sem Next) (c : OpC) : Prop :=
  ∀ W : World, c.mem.pre W → ∃ o ∈ c.outs, ∃ ns W', s.run P W = .ok (nextO (o.2 ns)) W' ∧ c.mem.post o.1 W W' ns

/-- The same, of the operation as it is asked for. -/
structure OpK where
  s : Sem Next
  ok : Prop
  c : OpC

def OpK.meets (P : Program) (k : OpK) : Prop := k.ok → OpMeets P k.s k.c

/-- Contracts of calls, of loops and regions, of operations. -/
structure Ctx where
  cl : FuncId → List (Array Value → List Blk → CallC)
  lp : FuncId → List (F → List Blk → LoopC)
  rg : FuncId → Nat → List (F → List Blk → LoopC)
  op : FuncId → Nat → List (F → List Blk → OpK)

structure Ctx.holds (P : Program) (S : Ctx) : Prop where
  cl : ∀ f, ∀ c ∈ S.cl f, ∀ a L, Meets P (c a L)
  lp : ∀ f, ∀ c ∈ S.lp f, ∀ a L, MeetsL P (c a L)
  rg : ∀ f n, ∀ c ∈ S.rg f n, ∀ a L, MeetsL P (c a L)
  op : ∀ f n, ∀ c ∈ S.op f n, ∀ a L, (c a L).meets P

variable (P : Program) (S : Ctx)

/-! ### Choices that are often made -/

section
variable {α : Type}
noncomputable def pickT (L : List Blk) (b : Nat) (k : Blk → Nat → T α) : T α := .or (.pick b (L.map (·.nm))) fun j => match nth L j with
  | some p => .same (.nat b) (.nat p.nm) (k p j)
  | none => .fail

def two {β : Type} (x y : β) : Nat → β
  | 0 => x
  | _ + 1 => y

/-- One or the other. -/
def altT (x y : T α) : T α := .or (.num 2) (two x y)

/-- The first, where b is known; else the second. -/
def litT (b : Bool) (x y : T α) : T α := .or (.lit b) (two x y)

theorem litT_spec {b : Bool} {x y : T α} {K : α → Prop} (h : (litT b x y).all K) : x.all K ∨ y.all K := by
  obtain ⟨j, h⟩ := h
  cases j with
  | zero => exact .inl h
  | succ j => exact .inr h

theorem altT_spec {x y : T α} {K : α → Prop} (h : (altT x y).all K) : x.all K ∨ y.all K := by
  obtain ⟨j, h⟩ := h
  cases j with
  | zero => exact .inl h
  | succ j => exact .inr h

theorem two_spec {h : Hint} {x y : T α} {K : α → Prop} (hx : (T.or h (two x y)).all K) : x.all K ∨ y.all K := by
  obtain ⟨j, hx⟩ := hx
  cases j with
  | zero => exact .inl hx
  | succ j => exact .inr hx

/-- Either it can be reckoned, or it is asked for. -/
def reqP (b : Bool) (p : Prop) (k : T α) : T α := altT (match b with
  | true => k
  | false => .fail) (.need p k)

theorem tok_nat {a b : Nat} (h : Tok.nat a = Tok.nat b) : a = b := by injection h
theorem tok_val {a b : Value} (h : Tok.val a = Tok.val b) : a = b := by injection h
theorem tok_cont {a b : Cont} (h : Tok.cont a = Tok.cont b) : a = b := by injection h
theorem tok_code {a b : Code} (h : Tok.code a = Tok.code b) : a = b := by injection h
theorem tok_sem {a b : Sem Next} (h : Tok.sem a = Tok.sem b) : a = b := by injection h
theorem tok_blks {a b : List Blk} (h : Tok.blks a = Tok.blks b) : a = b := by injection h

theorem pickT_spec {L : List Blk} {b : Nat} {k : Blk → Nat → T α} {K : α → Prop} (h : (pickT L b k).all K) : ∃ p j, L[j]? = some p ∧ b = p.nm ∧ (k p j).all K := by
  obtain ⟨j, h⟩ := h
  dsimp only at h
  split at h
  · rename_i p hp
    exact ⟨p, j, by rw [← nth_eq]; exact hp, tok_nat h.1, h.2⟩
  · exact h.elim

theorem reqP_spec {b : Bool} {p : Prop} {k : T α} {K : α → Prop} (h : (reqP b p k).all K) : (b = true ∨ p) ∧ k.all K := by
  rcases altT_spec h with h | h
  · cases b with
    | true => exact ⟨.inl rfl, h⟩
    | false => exact h.elim
  · exact ⟨.inr h.1, h.2⟩

/-- A list, its spine laid bare. -/
noncomputable def forceL {β : Type} (l : List β) : (List β → T α) → T α :=
  @List.rec β (fun _ => (List β → T α) → T α) (fun k => k []) (fun x _ ih k => ih fun l' => k (x :: l')) l

theorem forceL_eq {β : Type} : ∀ (l : List β) (k : List β → T α), forceL l k = k l
  | [], _ => rfl
  | x :: l, k => forceL_eq l fun l' => k (x :: l')

/-- A list, its spine laid bare if it can be. -/
noncomputable def forceT {β : Type} (l : List β) (k : List β → T α) : T α := .or .force (two (forceL l k) (k l))

theorem forceT_spec {β : Type} {l : List β} {k : List β → T α} {K : α → Prop} (h : (forceT l k).all K) : (k l).all K := by
  rcases two_spec h with h | h
  · rw [forceL_eq] at h
    exact h
  · exact h

/-- One of its elements is another. -/
noncomputable def setK {β : Type} (l : List β) : Nat → β → (List β → T α) → T α :=
  @List.rec β (fun _ => Nat → β → (List β → T α) → T α) (fun _ _ _ => .fail)
    (fun x r ih i v k => @Nat.rec (fun _ => T α) (k (v :: r)) (fun i _ => ih i v fun l' => k (x :: l')) i) l

theorem setK_spec {β : Type} {K : α → Prop} : ∀ {l : List β} {i : Nat} {v : β} {k : List β → T α}, (setK l i v k).all K → i < l.length ∧ (k (l.set i v)).all K
  | [], _, _, _, h => h.elim
  | x :: l, 0, v, k, h => ⟨by simp, h⟩
  | x :: l, i + 1, v, k, h => by
    obtain ⟨h1, h2⟩ := setK_spec (l := l) (i := i) (v := v) (k := fun l' => k (x :: l')) h
    exact ⟨by simpa using h1, h2⟩

/-- A letter's string. -/
def strV (v : Value) : ByteArray := match v with
  | .string s => s
  | _ => ByteArray.empty

/-- What a cell holds, by its type's zero. -/
def kindT (z : Value) (o : Option Value) (k : Value → T α) : T α := match z with
  | .int kd _ => .need (∃ i, o = some (.int kd i)) (.ask fun x => .hyp (o = some (.int kd x.i)) (k (.int kd x.i)))
  | .bool _ => .need (∃ b, o = some (.bool b)) (.ask fun x => .hyp (o = some (.bool x.b)) (k (.bool x.b)))
  | .string _ => .need (∃ s, o = some (.string s)) (.ask fun x => .hyp (o = some (.string (strV x.v))) (k (.string (strV x.v))))
  | _ => .need (∃ v, o = some v) (.ask fun x => .hyp (o = some x.v) (k x.v))

theorem kindT_spec {z : Value} {o : Option Value} {k : Value → T α} {K : α → Prop} (h : (kindT z o k).all K) : ∃ v, o = some v ∧ (k v).all K := by
  unfold kindT at h
  split at h
  · obtain ⟨⟨i, hi⟩, h⟩ := h
    exact ⟨_, hi, h ⟨0, i, false, undef, []⟩ hi⟩
  · obtain ⟨⟨b, hb⟩, h⟩ := h
    exact ⟨_, hb, h ⟨0, 0, b, undef, []⟩ hb⟩
  · obtain ⟨⟨s, hs⟩, h⟩ := h
    exact ⟨_, hs, h ⟨0, 0, false, .string s, []⟩ hs⟩
  · obtain ⟨⟨v, hv⟩, h⟩ := h
    exact ⟨_, hv, h ⟨0, 0, false, v, []⟩ hv⟩

def loadT (z : Option Value) (o : Option Value) (k : Value → T α) : T α := match z with
  | none => match o with
    | some v => k v
    | none => .fail
  | some z => altT (match o with
    | some v => k v
    | none => .fail) (kindT z o k)

theorem loadT_spec {z : Option Value} {o : Option Value} {k : Value → T α} {K : α → Prop} (h : (loadT z o k).all K) : ∃ v, o = some v ∧ (k v).all K := by
  unfold loadT at h
  split at h
  · split at h
    · exact ⟨_, rfl, h⟩
    · exact h.elim
  · rcases altT_spec h with h | h
    · split at h
      · exact ⟨_, rfl, h⟩
      · exact h.elim
    · exact kindT_spec h
end

/-- A cell is written. -/
noncomputable def putT {α : Type} (L : List Blk) (p : Blk) (j : Nat) (a : Addr) (v : Value) (k : List Blk → T α) : T α := match a.spot with
  | some _ => .fail
  | none => match p with
    | ⟨n, .obj (.cells c t (lo, hi)), true⟩ => match (decide (lo ≤ a.off) && decide (a.off < hi)) with
      | false => altT (setK c.toList a.off v fun l' => setK L j ⟨n, .obj (.cells ⟨l'⟩ t (lo, hi)), true⟩ k)
          (.need (a.off < c.size) (setK L j ⟨n, .obj (.cells (c.setIfInBounds a.off v) t (lo, hi)), true⟩ k))
      | true => .fail
    | ⟨n, .row t size m cap xs, true⟩ => reqP (Nat.blt a.off xs.length) (a.off < xs.length) (setK L j ⟨n, .row t size m cap (xs.set a.off v), true⟩ k)
    | _ => .fail

theorem putT_sound {α : Type} {w0 W : World} {keep : Nat → Prop} {L : List Blk} {p : Blk} {j : Nat} {a : Addr} {v : Value} {k : List Blk → T α} {K : α → Prop} (h : (putT L p j a v k).all K) (hj : L[j]? = some p) (hb : a.block = p.nm) (hr : Rep w0 keep L W) :
    ∃ L' u, W.cell? a = some u ∧ W.frozen? a = false ∧ Rep w0 keep L' (W.setCell a v) ∧ (k L').all K := by
  unfold putT at h
  split at h
  · exact h.elim
  rename_i hs
  split at h
  · rename_i n c t lo hi
    split at h
    · rename_i hfz
      have hat : W.heap[n]? = some (.cells c t (lo, hi)) := hr.at hj
      have hfz' : W.frozen? a = false := by rw [frozen_of hb hat]; exact hfz
      have hb : a.block = n := hb
      have key : a.off < c.size → (setK L j ⟨n, .obj (.cells (c.setIfInBounds a.off v) t (lo, hi)), true⟩ k).all K → ∃ L' u, W.cell? a = some u ∧ W.frozen? a = false ∧ Rep w0 keep L' (W.setCell a v) ∧ (k L').all K := fun hlt h => by
        have hcell : W.cell? a = some c[a.off] := by rw [cell_of hb hat hs]; simp [hlt]
        refine ⟨_, _, hcell, hfz', ?_, (setK_spec h).2⟩
        refine hr.set hj rfl _ rfl rfl rfl (by simp [World.setCell]) (fun k hk => ?_) ?_
        · simp only [World.setCell, Array.getElem?_modify]
          rw [if_neg (by rw [hb]; exact fun h => hk h.symm)]
        · show (W.setCell a v).heap[n]? = _
          simp only [World.setCell, Array.getElem?_modify, hb, if_true]
          rw [hat]
          simp [hs]
      rcases altT_spec h with h | h
      · obtain ⟨hlt, h⟩ := setK_spec h
        refine key (by simpa using hlt) ?_
        have e : c.setIfInBounds a.off v = ⟨c.toList.set a.off v⟩ := by
          apply Array.ext'
          simp
        rw [e]
        exact h
      · exact key h.1 h.2
    · exact h.elim
  · rename_i n t size m' cap xs
    obtain ⟨hlt, h⟩ := reqP_spec h
    have hlt : a.off < xs.length := hlt.elim (fun h => Nat.le_of_ble_eq_true h) id
    have hb : a.block = n := hb
    obtain ⟨cur, hat, hlen, hnc, hcm, hcs, htk⟩ : Cont.sat (.row t size m' cap xs) W.heap[n]? := hr.at hj
    have hcu : cur.toList[a.off]? = some xs[a.off] := take_get htk (List.getElem?_eq_getElem hlt)
    have hcell : W.cell? a = some xs[a.off] := by rw [cell_of hb hat hs]; simpa using hcu
    have hfz' : W.frozen? a = false := by rw [frozen_of hb hat]; simp
    refine ⟨_, _, hcell, hfz', ?_, (setK_spec h).2⟩
    refine hr.set hj rfl _ rfl rfl rfl (by simp [World.setCell]) (fun k hk => ?_) ⟨cur.setIfInBounds a.off v, ?_, by simpa using hlen, hnc, hcm, by simpa using hcs, ?_⟩
    · simp only [World.setCell, Array.getElem?_modify]
      rw [if_neg (by rw [hb]; exact fun h => hk h.symm)]
    · simp only [World.setCell, Array.getElem?_modify, hb, if_true]
      rw [hat]
      simp [hs]
    · rw [Array.toList_setIfInBounds, ← htk, List.take_set]
  · exact h.elim

/-- A computation, over the known memory. (zs: the zeros of the cells that it loads.) -/
noncomputable def lrun {α β : Type} (s : Sem β) : List Value → List Blk → (β → List Blk → T α) → T α :=
  @Sem.rec β (fun _ => List Value → List Blk → (β → List Blk → T α) → T α)
    (fun a _ L c => c a L)
    (fun _ a _ ih zs L c => pickT L a.block fun p _ => match a.spot with
      | some _ => .fail
      | none => loadT zs.head? (p.ct.at a.off) fun v => ih v zs.tail L c)
    (fun _ a v _ ih zs L c => pickT L a.block fun p j => reqP (one v) (one v = true) (putT L p j a v fun L' => ih zs L' c))
    (fun o _ ih zs L c => .ask fun x => ih x.n zs (⟨x.n, .obj o, true⟩ :: L) c)
    (fun r _ ih zs L c => pickT L r fun p _ => match p.ct with
      | .obj (.cells cs t _) => ih (some (t, cs.size)) zs L c
      | .row t size _ cap _ => ih (some (t, cap * size)) zs L c
      | _ => .fail)
    (fun a n _ ih zs L c => pickT L a.block fun p j => match p with
      | ⟨nm, .obj (.cells cs _ _), true⟩ => match Nat.beq n 0 with
        | true => .fail
        | false => setK L j ⟨nm, .seg 0 cs.toList, true⟩ fun L' => ih zs L' c
      | _ => .fail)
    (fun a _ ih zs L c => pickT L a.block fun p _ => match p.ct with
      | .obj (.cells _ _ (lo, hi)) => ih (decide (lo ≤ a.off) && decide (a.off < hi)) zs L c
      | .row _ _ _ _ _ => ih false zs L c
      | _ => .fail)
    (fun r _ ih zs L c => pickT L r fun p _ => match p.ct with
      | .obj (.cells ..) => .fail
      | .obj o => ih o zs L c
      | _ => .fail)
    (fun r o _ ih zs L c => pickT L r fun p j => match p with
      | ⟨_, .obj (.cells ..), _⟩ => .fail
      | ⟨n, .obj _, true⟩ => ih zs (L.set j ⟨n, .obj o, true⟩) c
      | _ => .fail)
    (fun q _ ih zs L c => match q.forced with
      | true => ih 0 zs L c
      | false => .fail)
    (fun _ _ _ _ _ _ => .fail)
    (fun _ ih zs L c => ih P zs L c)
    (fun _ _ ih zs L c => ih zs L c)
    (fun _ _ _ _ => .fail)
    s

theorem cell_at {W : World} {a : Addr} {n : Nat} {ct : Cont} {v : Value} (hb : a.block = n) (hs : ct.sat W.heap[n]?) (hp : a.spot = none) (hv : ct.at a.off = some v) : W.cell? a = some v := by
  obtain ⟨c, t, f, h, hc⟩ := Cont.at_spec hs hv
  rw [cell_of hb h hp]
  exact hc

theorem lrun_sound {w0 : World} {keep : Nat → Prop} {α β : Type} {K : α → Prop} (s : Sem β) : ∀ (zs : List Value) (L : List Blk) (W : World) (c : β → List Blk → T α), (lrun P s zs L c).all K → Rep w0 keep L W →
    ∃ x L' W', s.run P W = .ok x W' ∧ Rep w0 keep L' W' ∧ (c x L').all K := by
  induction s with
  | pure a => intro zs L W c h hr; exact ⟨a, L, W, rfl, hr, h⟩
  | load m a k ih =>
    intro zs L W c h hr
    obtain ⟨p, j, hj, hb, h⟩ := pickT_spec h
    split at h
    · exact h.elim
    · rename_i hs
      obtain ⟨v, hv, h⟩ := loadT_spec h
      obtain ⟨x, L', W', h1, h2⟩ := ih v _ _ W c h hr
      refine ⟨x, L', W', ?_, h2⟩
      simp only [Sem.run, cell_at hb (hr.at hj) hs hv]
      exact h1
  | store m a v k ih =>
    intro zs L W c h hr
    obtain ⟨p, j, hj, hb, h⟩ := pickT_spec h
    obtain ⟨hone, h⟩ := reqP_spec h
    have hone : one v = true := hone.elim id id
    obtain ⟨L1, u, hcell, hfz', hset, h⟩ := putT_sound h hj hb hr
    obtain ⟨x, L', W', h1, h2⟩ := ih _ _ _ c h hset
    refine ⟨x, L', W', ?_, h2⟩
    cases v <;> first | (simp [one] at hone; done) | (simp only [Sem.run, hcell, hfz']; exact h1)
  | new o k ih =>
    intro zs L W c h hr
    obtain ⟨x, L', W', h1, h2⟩ := ih _ _ _ _ c (h ⟨W.heap.size, 0, false, undef, []⟩) (hr.push o)
    exact ⟨x, L', W', h1, h2⟩
  | shape r k ih =>
    intro zs L W c h hr
    obtain ⟨⟨n, ct, ow⟩, j, hj, hb, h⟩ := pickT_spec h
    have hb : r = n := hb
    split at h
    · rename_i cs t f hct
      simp only at hct
      subst hct
      obtain ⟨x, L', W', h1, h2⟩ := ih _ _ _ W c h hr
      refine ⟨x, L', W', ?_, h2⟩
      have hat : W.heap[n]? = some (.cells cs t f) := hr.at hj
      have : W.shape? r = some (t, cs.size) := by subst hb; simp [World.shape?, hat]
      simp only [Sem.run, this]
      exact h1
    · rename_i t size m' cap xs hct
      simp only at hct
      subst hct
      obtain ⟨x, L', W', h1, h2⟩ := ih _ _ _ W c h hr
      refine ⟨x, L', W', ?_, h2⟩
      obtain ⟨cur, hat, -, -, -, hcs, -⟩ : Cont.sat (.row t size m' cap xs) W.heap[n]? := hr.at hj
      have : W.shape? r = some (t, cap * size) := by subst hb; simp [World.shape?, hat, hcs]
      simp only [Sem.run, this]
      exact h1
    · exact h.elim
  | freeze a n k ih =>
    intro zs L W c h hr
    obtain ⟨p, j, hj, hb, h⟩ := pickT_spec h
    split at h
    · rename_i nm cs t f
      split at h
      · exact h.elim
      · rename_i hn
        have hn : n ≠ 0 := fun h0 => by rw [h0] at hn; cases hn
        have hb : a.block = nm := hb
        have hat : W.heap[nm]? = some (.cells cs t f) := hr.at hj
        have hset : Rep w0 keep (L.set j ⟨nm, .seg 0 cs.toList, true⟩) (W.freeze a n) := by
          unfold World.freeze
          rw [if_neg hn]
          refine hr.set hj rfl _ rfl rfl rfl (by simp) (fun k hk => ?_) ?_
          · simp only [Array.getElem?_modify]
            rw [if_neg (by rw [hb]; exact fun h => hk h.symm)]
          · obtain ⟨lo, hi⟩ := f
            refine ⟨cs, t, if lo == hi then (a.off, a.off + n) else (min lo a.off, max hi (a.off + n)), ?_, fun j u hu => by rw [Nat.zero_add]; exact hu⟩
            show (W.heap.modify a.block _)[nm]? = _
            simp only [Array.getElem?_modify, hb, if_true]
            rw [hat]
            rfl
        obtain ⟨x, L', W', h1, h2⟩ := ih _ _ _ c (setK_spec h).2 hset
        exact ⟨x, L', W', h1, h2⟩
    · exact h.elim
  | frozen a k ih =>
    intro zs L W c h hr
    obtain ⟨⟨n, ct, ow⟩, j, hj, hb, h⟩ := pickT_spec h
    have hb : a.block = n := hb
    split at h
    · rename_i cs t lo hi hct
      simp only at hct
      subst hct
      obtain ⟨x, L', W', h1, h2⟩ := ih _ _ _ W c h hr
      refine ⟨x, L', W', ?_, h2⟩
      have hat : W.heap[n]? = some (.cells cs t (lo, hi)) := hr.at hj
      simp only [Sem.run, frozen_of hb hat]
      exact h1
    · rename_i t size m' cap xs hct
      simp only at hct
      subst hct
      obtain ⟨x, L', W', h1, h2⟩ := ih _ _ _ W c h hr
      refine ⟨x, L', W', ?_, h2⟩
      obtain ⟨cur, hat, -⟩ : Cont.sat (.row t size m' cap xs) W.heap[n]? := hr.at hj
      have : W.frozen? a = false := by rw [frozen_of hb hat]; simp
      simp only [Sem.run, this]
      exact h1
    · exact h.elim
  | getObj r k ih =>
    intro zs L W c h hr
    obtain ⟨⟨n, ct, ow⟩, j, hj, hb, h⟩ := pickT_spec h
    have hb : r = n := hb
    split at h
    · exact h.elim
    · rename_i o hno hct
      simp only at hct
      subst hct
      obtain ⟨x, L', W', h1, h2⟩ := ih _ _ _ W c h hr
      refine ⟨x, L', W', ?_, h2⟩
      have hat : W.heap[n]? = some o := hr.at hj
      subst hb
      simp only [Sem.run, hat]
      cases o <;> first | exact h1 | exact (hno _ _ _ rfl).elim
    · exact h.elim
  | setObj r o k ih =>
    intro zs L W c h hr
    obtain ⟨p, j, hj, hb, h⟩ := pickT_spec h
    split at h
    · exact h.elim
    · rename_i n o1 hno
      have hb : r = n := hb
      have hat : W.heap[n]? = some o1 := hr.at hj
      have hlt : r < W.heap.size := by
        have := hr.lt (List.mem_of_getElem? hj)
        rw [hb]; exact this
      have hset : Rep w0 keep (L.set j ⟨n, .obj o, true⟩) { W with heap := W.heap.setIfInBounds r o } := by
        refine hr.set hj rfl _ rfl rfl rfl (by simp) (fun k hk => ?_) ?_
        · simp only [Array.getElem?_setIfInBounds]
          rw [if_neg (by rw [hb]; exact fun h => hk h.symm)]
        · show (W.heap.setIfInBounds r o)[n]? = some o
          simp only [Array.getElem?_setIfInBounds, ← hb, if_true, hlt]
      obtain ⟨x, L', W', h1, h2⟩ := ih _ _ _ c h hset
      refine ⟨x, L', W', ?_, h2⟩
      subst hb
      simp only [Sem.run, hat]
      cases o1 <;> first | exact h1 | exact (hno _ _ _ _ _ rfl).elim
    · exact h.elim
  | choose q k ih =>
    intro zs L W c h hr
    change (match q.forced with
      | true => _
      | false => _ : T α).all K at h
    split at h
    · rename_i hf
      obtain ⟨x, L', W', h1, h2⟩ := ih _ _ _ _ c h hr
      refine ⟨x, L', W', ?_, h2⟩
      simp only [Sem.run, hf, if_true]
      exact h1
    · exact h.elim
  | sys cc k ih => intro zs L W c h; exact h.elim
  | program k ih => intro zs L W c h hr; exact ih _ _ _ _ c h hr
  | mark m k ih => intro zs L W c h hr; exact ih _ _ _ c h hr
  | halt h => intro zs L W c h; exact h.elim

/-- Loads alone. -/
noncomputable def lread {α β : Type} (s : Sem β) : List Value → List Blk → (β → T α) → T α :=
  @Sem.rec β (fun _ => List Value → List Blk → (β → T α) → T α)
    (fun a _ _ c => c a)
    (fun _ a _ ih zs L c => pickT L a.block fun p _ => match a.spot with
      | some _ => .fail
      | none => loadT zs.head? (p.ct.at a.off) fun v => ih v zs.tail L c)
    (fun _ _ _ _ _ _ _ _ => .fail) (fun _ _ _ _ _ _ => .fail) (fun _ _ _ _ _ _ => .fail) (fun _ _ _ _ _ _ _ => .fail) (fun _ _ _ _ _ _ => .fail)
    (fun r _ ih zs L c => pickT L r fun p _ => match p.ct with
      | .obj (.cells ..) => .fail
      | .obj o => ih o zs L c
      | _ => .fail)
    (fun _ _ _ _ _ _ _ => .fail) (fun _ _ _ _ _ _ => .fail) (fun _ _ _ _ _ _ => .fail)
    (fun _ ih zs L c => ih P zs L c)
    (fun _ _ ih zs L c => ih zs L c)
    (fun _ _ _ _ => .fail)
    s

/-- The blocks of L are there. -/
def There (L : List Blk) (W : World) : Prop := ∀ p ∈ L, p.ct.sat W.heap[p.nm]?

theorem lread_sound {L : List Blk} {α β : Type} {K : α → Prop} (s : Sem β) : ∀ (zs : List Value) (c : β → T α), (lread P s zs L c).all K → ∃ x, (c x).all K ∧ ∀ W, There L W → s.run P W = .ok x W := by
  induction s with
  | pure a => intro zs c h; exact ⟨a, h, fun W _ => rfl⟩
  | load m a k ih =>
    intro zs c h
    obtain ⟨p, j, hj, hb, h⟩ := pickT_spec h
    split at h
    · exact h.elim
    · rename_i hs
      obtain ⟨v, hv, h⟩ := loadT_spec h
      obtain ⟨x, hx, h1⟩ := ih v _ c h
      refine ⟨x, hx, fun W hW => ?_⟩
      simp only [Sem.run, cell_at hb (hW _ (List.mem_of_getElem? hj)) hs hv]
      exact h1 W hW
  | getObj r k ih =>
    intro zs c h
    obtain ⟨⟨n, ct, ow⟩, j, hj, hb, h⟩ := pickT_spec h
    have hb : r = n := hb
    split at h
    · exact h.elim
    · rename_i o hno hct
      simp only at hct
      subst hct
      obtain ⟨x, hx, h1⟩ := ih _ _ c h
      refine ⟨x, hx, fun W hW => ?_⟩
      have hat : W.heap[n]? = some o := hW _ (List.mem_of_getElem? hj)
      subst hb
      have h2 := h1 W hW
      simp only [Sem.run, hat]
      cases o <;> first | exact h2 | exact (hno _ _ _ rfl).elim
    · exact h.elim
  | program k ih => intro zs c h; exact ih _ _ c h
  | mark m k ih => intro zs c h; exact ih _ c h
  | _ => intro zs c h; exact h.elim

end Go.Proofs.Ytbgmkefehfjicaa.Sy
