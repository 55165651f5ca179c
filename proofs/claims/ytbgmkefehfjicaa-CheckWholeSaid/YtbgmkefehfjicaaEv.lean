import Derived.WalkKit
import Derived.LoopN
import Derived.KernelRfl
namespace Go.Proofs.Ytbgmkefehfjicaa.Ev
open Go Go.RowKit

/-- The call's own memory: the blocks that it has made (number, what lies there), the next number; which of them each access meets ('orc': none: they are searched); the numbers that must be one. -/
inductive Tok where
  | nat (n : Nat)
  | val (v : Value)

/-- Two things that must be one; 'hyp': by what is known, not by reckoning. -/
structure VC where
  l : Tok
  r : Tok
  hyp : Bool

/-- A call that is met by its contract: the function, the arguments, what it hands back, how many blocks it makes. -/
structure CallC where
  f : FuncId
  args : Array Value
  v : Value
  n : Nat

structure E where
  L : List (Nat × Obj)
  top : Nat
  orc : Option (List Nat)
  tr : List Nat
  vc : List VC
  ci : Nat
  ri : Nat

def E.ok (e : E) : Prop := ∀ p ∈ e.vc, p.l = p.r

def findB : List (Nat × Obj) → Nat → Nat → Option Nat
  | [], _, _ => none
  | p :: L, b, j => match Nat.decEq p.1 b with
    | .isTrue _ => some j
    | .isFalse _ => findB L b (j + 1)

def E.pick (e : E) (b : Nat) : Option ((Nat × Obj) × Nat × E) :=
  match e.orc with
  | none => match findB e.L b 0 with
    | none => none
    | some j => match e.L[j]? with
      | none => none
      | some p => some (p, j, { e with tr := j :: e.tr, vc := ⟨.nat b, .nat p.1, false⟩ :: e.vc })
  | some [] => none
  | some (j :: r) => match e.L[j]? with
    | none => none
    | some p => some (p, j, { e with orc := some r, vc := ⟨.nat b, .nat p.1, false⟩ :: e.vc })

theorem E.pick_spec {e e' : E} {b j : Nat} {p : Nat × Obj} (h : e.pick b = some (p, j, e')) :
    e.L[j]? = some p ∧ e'.L = e.L ∧ e'.top = e.top ∧ e'.vc = ⟨.nat b, .nat p.1, false⟩ :: e.vc := by
  unfold E.pick at h
  split at h
  · split at h
    · cases h
    · split at h
      · cases h
      · rename_i q hq
        injection h with h
        injection h with h1 h2
        injection h2 with h2 h3
        subst h1 h2 h3
        exact ⟨hq, rfl, rfl, rfl⟩
  · cases h
  · split at h
    · cases h
    · rename_i q hq
      injection h with h
      injection h with h1 h2
      injection h2 with h2 h3
      subst h1 h2 h3
      exact ⟨hq, rfl, rfl, rfl⟩

/-- The world W: the old blocks as they were in w0, the call's own as e tells. -/
structure Rep (w0 : World) (e : E) (W : World) : Prop where
  os : W.os = w0.os
  tape : W.tape = w0.tape
  output : W.output = w0.output
  size : W.heap.size = e.top
  base : w0.heap.size ≤ e.top
  old : ∀ k, k < w0.heap.size → W.heap[k]? = w0.heap[k]?
  blk : ∀ p ∈ e.L, w0.heap.size ≤ p.1 ∧ p.1 < e.top ∧ W.heap[p.1]? = some p.2
  nodup : (e.L.map (·.1)).Nodup

theorem Rep.below {w0 W : World} {e : E} (h : Rep w0 e W) : Below w0.heap.size w0 W :=
  ⟨h.os, h.tape, h.output, by have := h.size; have := h.base; omega, fun k hk => h.old k hk⟩

theorem Rep.of_eq {w0 W : World} {e e' : E} (h : Rep w0 e W) (hL : e'.L = e.L) (ht : e'.top = e.top) : Rep w0 e' W :=
  ⟨h.os, h.tape, h.output, ht ▸ h.size, ht ▸ h.base, h.old, by rw [hL, ht]; exact h.blk, by rw [hL]; exact h.nodup⟩

theorem Rep.draw {w0 W : World} {e : E} (h : Rep w0 e W) : Rep w0 e { W with drawn := W.drawn + 1 } :=
  ⟨h.os, h.tape, h.output, h.size, h.base, h.old, h.blk, h.nodup⟩

theorem Rep.at {w0 W : World} {e : E} (h : Rep w0 e W) {j : Nat} {p : Nat × Obj} (hj : e.L[j]? = some p) : W.heap[p.1]? = some p.2 :=
  (h.blk p (List.mem_of_getElem? hj)).2.2

theorem Rep.push {w0 W : World} {e : E} (h : Rep w0 e W) (o : Obj) : Rep w0 { e with L := (e.top, o) :: e.L, top := e.top + 1 } { W with heap := W.heap.push o } := by
  have hs := h.size
  refine ⟨h.os, h.tape, h.output, by simp [hs], by have := h.base; show _ ≤ e.top + 1; omega, fun k hk => ?_, fun p hp => ?_, ?_⟩
  · have := h.base
    show (W.heap.push o)[k]? = _
    rw [Array.getElem?_push, if_neg (by omega)]
    exact h.old k hk
  · simp only [List.mem_cons] at hp
    have hb := h.base
    rcases hp with rfl | hp
    · refine ⟨by simpa using hb, by simp, ?_⟩
      show (W.heap.push o)[e.top]? = _
      rw [Array.getElem?_push, if_pos hs.symm]
    · obtain ⟨h1, h2, h3⟩ := h.blk p hp
      refine ⟨h1, by simp; omega, ?_⟩
      show (W.heap.push o)[p.1]? = _
      rw [Array.getElem?_push, if_neg (by omega)]
      exact h3
  · simp only [List.map_cons, List.nodup_cons]
    refine ⟨fun hm => ?_, h.nodup⟩
    obtain ⟨p, hp, he⟩ := List.mem_map.1 hm
    have := (h.blk p hp).2.1
    omega

theorem nodup_ne {L : List (Nat × Obj)} (h : (L.map (·.1)).Nodup) {i j : Nat} {p q : Nat × Obj} (hi : L[i]? = some p) (hj : L[j]? = some q) (hne : i ≠ j) : p.1 ≠ q.1 := by
  intro he
  have hi' : (L.map (·.1))[i]? = some p.1 := by simp [hi]
  have hj' : (L.map (·.1))[j]? = some p.1 := by simp [hj, he]
  obtain ⟨hi1, hi2⟩ := List.getElem?_eq_some_iff.1 hi'
  obtain ⟨hj1, hj2⟩ := List.getElem?_eq_some_iff.1 hj'
  rcases Nat.lt_or_gt_of_ne hne with hlt | hlt
  · exact (List.pairwise_iff_getElem.1 h i j hi1 hj1 hlt) (by rw [hi2, hj2])
  · exact (List.pairwise_iff_getElem.1 h j i hj1 hi1 hlt) (by rw [hi2, hj2])

/-- One of the call's own blocks holds something else. -/
theorem Rep.set {w0 W W' : World} {e : E} (h : Rep w0 e W) {j : Nat} {p : Nat × Obj} (hj : e.L[j]? = some p) (o : Obj)
    (h1 : W'.os = W.os) (h2 : W'.tape = W.tape) (h3 : W'.output = W.output) (h4 : W'.heap.size = W.heap.size) (h5 : ∀ k, k ≠ p.1 → W'.heap[k]? = W.heap[k]?) (h6 : W'.heap[p.1]? = some o) :
    Rep w0 { e with L := e.L.set j (p.1, o) } W' := by
  have hp := h.blk p (List.mem_of_getElem? hj)
  obtain ⟨hjl, hje⟩ := List.getElem?_eq_some_iff.1 hj
  refine ⟨h1.trans h.os, h2.trans h.tape, h3.trans h.output, h4.trans h.size, h.base, fun k hk => ?_, fun q hq => ?_, ?_⟩
  · rw [h5 k (by omega)]; exact h.old k hk
  · obtain ⟨i, hi⟩ := List.mem_iff_getElem?.1 hq
    rw [List.getElem?_set] at hi
    split at hi
    · injection hi with hi
      subst hi
      exact ⟨hp.1, hp.2.1, h6⟩
    · rename_i hij
      have hb := h.blk q (List.mem_of_getElem? hi)
      refine ⟨hb.1, hb.2.1, ?_⟩
      rw [h5 q.1 (nodup_ne h.nodup hi hj (Ne.symm hij))]
      exact hb.2.2
  · have : (e.L.set j (p.1, o)).map (·.1) = e.L.map (·.1) := by
      rw [List.map_set]
      apply List.ext_getElem?
      intro i
      rw [List.getElem?_set]
      split
      · rename_i hij; subst hij; simp [hjl, hje]
      · rfl
    simp only [this]
    exact h.nodup

variable (P : Program)

def one : Value → Bool
  | .agg _ | .tuple _ => false
  | _ => true

/-- A computation, over the call's own memory. -/
def lrun {α : Type} : Sem α → E → Option (α × E)
  | .pure a, e => some (a, e)
  | .load _ a k, e => match e.pick a.block with
    | some ((_, .cells c _ _), _, e') => match a.spot with
      | some _ => none
      | none => match c.toList[a.off]? with
        | some v => lrun (k v) e'
        | none => none
    | _ => none
  | .store _ a v k, e => match one v with
    | false => none
    | true => match e.pick a.block with
      | some ((b, .cells c t (lo, hi)), j, e') => match a.spot with
        | some _ => none
        | none => match c.toList[a.off]?, (decide (lo ≤ a.off) && decide (a.off < hi)) with
          | some _, false => lrun k { e' with L := e'.L.set j (b, .cells (c.setIfInBounds a.off v) t (lo, hi)) }
          | _, _ => none
      | _ => none
  | .new o k, e => lrun (k e.top) { e with L := (e.top, o) :: e.L, top := e.top + 1 }
  | .shape r k, e => match e.pick r with
    | some ((_, .cells c t _), _, e') => lrun (k (some (t, c.size))) e'
    | _ => none
  | .freeze _ _ _, _ => none
  | .frozen a k, e => match e.pick a.block with
    | some ((_, .cells _ _ (lo, hi)), _, e') => lrun (k (decide (lo ≤ a.off) && decide (a.off < hi))) e'
    | _ => none
  | .getObj r k, e => match e.pick r with
    | some ((_, .cells ..), _, _) => none
    | some ((_, o), _, e') => lrun (k o) e'
    | none => none
  | .setObj r o k, e => match e.pick r with
    | some ((_, .cells ..), _, _) => none
    | some ((b, _), j, e') => lrun k { e' with L := e'.L.set j (b, o) }
    | none => none
  | .choose q k, e => match q.forced with
    | true => lrun (k 0) e
    | false => none
  | .sys _ _, _ => none
  | .program k, e => lrun (k P) e
  | .mark _ k, e => lrun k e
  | .halt _, _ => none

theorem vc_sub {e e' : E} {q : VC} {x : E} (h : x.vc = q :: e.vc) (hs : ∀ p ∈ x.vc, p ∈ e'.vc) : ∀ p ∈ e.vc, p ∈ e'.vc :=
  fun p hp => hs p (by rw [h]; exact List.mem_cons_of_mem _ hp)

theorem lrun_mono {α : Type} (s : Sem α) : ∀ (e e' : E) (x : α), lrun P s e = some (x, e') → ∀ p ∈ e.vc, p ∈ e'.vc := by
  induction s with
  | pure a => intro e e' x h; simp only [lrun, Option.some.injEq, Prod.mk.injEq] at h; rw [h.2]; exact fun _ h => h
  | load m a k ih =>
    intro e e' x h
    simp only [lrun] at h
    split at h
    · rename_i hp
      split at h
      · cases h
      · split at h
        · exact vc_sub (E.pick_spec hp).2.2.2 (ih _ _ _ _ h)
        · cases h
    · cases h
  | store m a v k ih =>
    intro e e' x h
    simp only [lrun] at h
    split at h
    · cases h
    · split at h
      · rename_i hp
        split at h
        · cases h
        · split at h
          · exact vc_sub (E.pick_spec hp).2.2.2 (fun p hp => ih _ _ _ h p hp)
          · cases h
      · cases h
  | new o k ih => intro e e' x h; exact fun p hp => ih _ _ _ _ h p hp
  | shape r k ih =>
    intro e e' x h
    simp only [lrun] at h
    split at h
    · rename_i hp; exact vc_sub (E.pick_spec hp).2.2.2 (ih _ _ _ _ h)
    · cases h
  | freeze a n k ih => intro e e' x h; cases h
  | frozen a k ih =>
    intro e e' x h
    simp only [lrun] at h
    split at h
    · rename_i hp; exact vc_sub (E.pick_spec hp).2.2.2 (ih _ _ _ _ h)
    · cases h
  | getObj r k ih =>
    intro e e' x h
    simp only [lrun] at h
    split at h
    · cases h
    · rename_i hp; exact vc_sub (E.pick_spec hp).2.2.2 (ih _ _ _ _ h)
    · cases h
  | setObj r o k ih =>
    intro e e' x h
    simp only [lrun] at h
    split at h
    · cases h
    · rename_i hp; exact vc_sub (E.pick_spec hp).2.2.2 (fun p hp => ih _ _ _ h p hp)
    · cases h
  | choose q k ih =>
    intro e e' x h
    simp only [lrun] at h
    split at h
    · exact ih _ _ _ _ h
    · cases h
  | sys c k ih => intro e e' x h; cases h
  | program k ih => intro e e' x h; exact ih _ _ _ _ h
  | mark m k ih => intro e e' x h; exact ih _ _ _ h
  | halt h => intro e e' x h; cases h

theorem tok_nat {a b : Nat} (h : Tok.nat a = Tok.nat b) : a = b := by injection h

theorem cell_of {W : World} {a : Addr} {b : Nat} {c : Array Value} {t : TypeId} {f : Nat × Nat} (hb : a.block = b) (h : W.heap[b]? = some (.cells c t f)) (hs : a.spot = none) : W.cell? a = c[a.off]? := by
  subst hb
  simp [World.cell?, h, hs]

theorem frozen_of {W : World} {a : Addr} {b : Nat} {c : Array Value} {t : TypeId} {lo hi : Nat} (hb : a.block = b) (h : W.heap[b]? = some (.cells c t (lo, hi))) : W.frozen? a = (decide (lo ≤ a.off) && decide (a.off < hi)) := by
  subst hb
  simp [World.frozen?, h]

theorem lrun_sound {w0 : World} {α : Type} (s : Sem α) : ∀ (e e' : E) (x : α) (W : World), lrun P s e = some (x, e') → e'.ok → Rep w0 e W →
    ∃ W', s.run P W = .ok x W' ∧ Rep w0 e' W' := by
  induction s with
  | pure a =>
    intro e e' x W h _ hr
    simp only [lrun, Option.some.injEq, Prod.mk.injEq] at h
    obtain ⟨rfl, rfl⟩ := h
    exact ⟨W, rfl, hr⟩
  | load m a k ih =>
    intro e e' x W h hok hr
    simp only [lrun] at h
    split at h
    · rename_i b c t f j e1 hp
      obtain ⟨hj, hL, ht, hv⟩ := E.pick_spec hp
      split at h
      · cases h
      · rename_i hs
        split at h
        · rename_i v hcv
          have hb : a.block = b := tok_nat (hok ⟨.nat a.block, .nat b, false⟩ (lrun_mono P _ _ _ _ h _ (by rw [hv]; simp)))
          obtain ⟨W', h1, h2⟩ := ih v _ _ _ W h hok (hr.of_eq hL ht)
          refine ⟨W', ?_, h2⟩
          have hcell : W.cell? a = some v := by rw [cell_of hb (hr.at hj) hs]; simpa using hcv
          simp only [Sem.run, hcell]
          exact h1
        · cases h
    · cases h
  | store m a v k ih =>
    intro e e' x W h hok hr
    simp only [lrun] at h
    split at h
    · cases h
    · rename_i hone
      split at h
      · rename_i b c t lo hi j e1 hp
        obtain ⟨hj, hL, ht, hv⟩ := E.pick_spec hp
        split at h
        · cases h
        · rename_i hs
          split at h
          · rename_i u hcv hfz
            have hb : a.block = b := tok_nat (hok ⟨.nat a.block, .nat b, false⟩ (lrun_mono P _ _ _ _ h _ (by simp only [hv]; simp)))
            have hat := hr.at hj
            have hcell : W.cell? a = some u := by rw [cell_of hb hat hs]; simpa using hcv
            have hfz' : W.frozen? a = false := by rw [frozen_of hb hat]; exact hfz
            have hr1 : Rep w0 e1 W := hr.of_eq hL ht
            have hset : Rep w0 { e1 with L := e1.L.set j (b, .cells (c.setIfInBounds a.off v) t (lo, hi)) } (W.setCell a v) := by
              refine hr1.set (p := (b, .cells c t (lo, hi))) (by rw [hL]; exact hj) _ rfl rfl rfl (by simp [World.setCell]) (fun k hk => ?_) ?_
              · simp only [World.setCell, Array.getElem?_modify]
                rw [if_neg (by rw [hb]; exact fun h => hk h.symm)]
              · simp only [World.setCell, Array.getElem?_modify, hb, if_true]
                rw [hat]
                simp [hs]
            obtain ⟨W', h1, h2⟩ := ih _ _ _ _ h hok hset
            refine ⟨W', ?_, h2⟩
            cases v <;> first | (simp [one] at hone; done) | (simp only [Sem.run, hcell, hfz']; exact h1)
          · cases h
      · cases h
  | new o k ih =>
    intro e e' x W h hok hr
    obtain ⟨W', h1, h2⟩ := ih _ _ _ _ _ h hok (hr.push o)
    refine ⟨W', ?_, h2⟩
    simp only [Sem.run, hr.size]
    exact h1
  | shape r k ih =>
    intro e e' x W h hok hr
    simp only [lrun] at h
    split at h
    · rename_i b c t f j e1 hp
      obtain ⟨hj, hL, ht, hv⟩ := E.pick_spec hp
      have hb : r = b := tok_nat (hok ⟨.nat r, .nat b, false⟩ (lrun_mono P _ _ _ _ h _ (by rw [hv]; simp)))
      obtain ⟨W', h1, h2⟩ := ih _ _ _ _ W h hok (hr.of_eq hL ht)
      refine ⟨W', ?_, h2⟩
      have : W.shape? r = some (t, c.size) := by subst hb; simp [World.shape?, hr.at hj]
      simp only [Sem.run, this]
      exact h1
    · cases h
  | freeze a n k ih => intro e e' x W h; cases h
  | frozen a k ih =>
    intro e e' x W h hok hr
    simp only [lrun] at h
    split at h
    · rename_i b c t lo hi j e1 hp
      obtain ⟨hj, hL, ht, hv⟩ := E.pick_spec hp
      have hb : a.block = b := tok_nat (hok ⟨.nat a.block, .nat b, false⟩ (lrun_mono P _ _ _ _ h _ (by rw [hv]; simp)))
      obtain ⟨W', h1, h2⟩ := ih _ _ _ _ W h hok (hr.of_eq hL ht)
      refine ⟨W', ?_, h2⟩
      simp only [Sem.run, frozen_of hb (hr.at hj)]
      exact h1
    · cases h
  | getObj r k ih =>
    intro e e' x W h hok hr
    simp only [lrun] at h
    split at h
    · cases h
    · rename_i b o j e1 hno hp
      obtain ⟨hj, hL, ht, hv⟩ := E.pick_spec hp
      have hb : r = b := tok_nat (hok ⟨.nat r, .nat b, false⟩ (lrun_mono P _ _ _ _ h _ (by rw [hv]; simp)))
      obtain ⟨W', h1, h2⟩ := ih _ _ _ _ W h hok (hr.of_eq hL ht)
      refine ⟨W', ?_, h2⟩
      have hat := hr.at hj
      subst hb
      simp only [Sem.run, hat]
      cases o <;> first | exact h1 | exact (hno _ _ _ _ _ _ hp).elim
    · cases h
  | setObj r o k ih =>
    intro e e' x W h hok hr
    simp only [lrun] at h
    split at h
    · cases h
    · rename_i b o1 j e1 hno hp
      obtain ⟨hj, hL, ht, hv⟩ := E.pick_spec hp
      have hb : r = b := tok_nat (hok ⟨.nat r, .nat b, false⟩ (lrun_mono P _ _ _ _ h _ (by simp only [hv]; simp)))
      have hat := hr.at hj
      have hr1 : Rep w0 e1 W := hr.of_eq hL ht
      have hlt : r < W.heap.size := by
        have := (hr.blk _ (List.mem_of_getElem? hj)).2.1
        rw [hr.size, hb]; exact this
      have hset : Rep w0 { e1 with L := e1.L.set j (b, o) } { W with heap := W.heap.setIfInBounds r o } := by
        refine hr1.set (p := (b, o1)) (by rw [hL]; exact hj) _ rfl rfl rfl (by simp) (fun k hk => ?_) ?_
        · simp only [Array.getElem?_setIfInBounds]
          rw [if_neg (by rw [hb]; exact fun h => hk h.symm)]
        · simp only [Array.getElem?_setIfInBounds, ← hb, if_true, hlt]
      obtain ⟨W', h1, h2⟩ := ih _ _ _ _ h hok hset
      refine ⟨W', ?_, h2⟩
      subst hb
      simp only [Sem.run, hat]
      cases o1 <;> first | exact h1 | exact (hno _ _ _ _ _ _ hp).elim
    · cases h
  | choose q k ih =>
    intro e e' x W h hok hr
    simp only [lrun] at h
    split at h
    · rename_i hf
      obtain ⟨W', h1, h2⟩ := ih _ _ _ _ _ h hok hr
      refine ⟨W', ?_, h2⟩
      simp only [Sem.run, hf, if_true]
      exact h1
    · cases h
  | sys c k ih => intro e e' x W h; cases h
  | program k ih =>
    intro e e' x W h hok hr
    exact ih _ _ _ _ _ h hok hr
  | mark m k ih =>
    intro e e' x W h hok hr
    exact ih _ _ _ _ h hok hr
  | halt h => intro e e' x W h; cases h



/-! ### A frame: what has been written, the latest first -/

structure F where
  n : Nat
  w : List (Nat × Value)

def getW : List (Nat × Value) → Nat → Value
  | [], _ => undef
  | p :: r, t => bif Nat.beq p.1 t then p.2 else getW r t

def F.get (f : F) (t : Nat) : Value := getW f.w t

def F.put (f : F) : Option Tmp → Value → F
  | none, _ => f
  | some d, v => bif Nat.blt d f.n then { f with w := (d, v) :: f.w } else f

def F.eval (f : F) : Operand → Value
  | .tmp t => f.get t
  | .const v => v
  | .global g => .pointer (some ⟨g, 0, none⟩)
  | .func g => .func (.func g) #[] #[]

def F.yielded (f : F) (ops : Array Oper) (j : Nat) : Option Bool :=
  match ops.toList[j]? with
  | none => none
  | some o => match o.dst with
    | none => none
    | some t => match f.get t with
      | .bool b => some b
      | _ => none

def argsW : Nat → List Value → List (Nat × Value)
  | _, [] => []
  | i, v :: r => (i, v) :: argsW (i + 1) r

/-- The frame of a call: its arguments, room for n more. -/
def F.init (args : Array Value) (n : Nat) : F := ⟨args.size + (n - args.size), argsW 0 args.toList⟩

structure RelF (f : F) (a : Act) : Prop where
  defers : a.defers = []
  size : a.tmps.size = f.n
  get : ∀ t, a.tmps.getD t undef = f.get t

theorem getW_cons (i : Nat) (v : Value) (r : List (Nat × Value)) (t : Nat) : getW ((i, v) :: r) t = if i = t then v else getW r t := by
  simp only [getW]
  by_cases h : i = t
  · simp [h]
  · have : Nat.beq i t = false := by cases hb : Nat.beq i t with
      | false => rfl
      | true => exact (h (Nat.eq_of_beq_eq_true hb)).elim
    simp [h, this]

theorem RelF.put {f : F} {a : Act} (h : RelF f a) (d : Option Tmp) (v : Value) : RelF (f.put d v) (a.put d v) := by
  cases d with
  | none => exact h
  | some d =>
    unfold F.put Act.put
    by_cases hd : d < f.n
    · have hb : Nat.blt d f.n = true := by simpa using hd
      simp only [hb, cond_true]
      refine ⟨h.defers, by simpa using h.size, fun t => ?_⟩
      show (a.tmps.setIfInBounds d v).getD t undef = getW ((d, v) :: f.w) t
      rw [getW_cons]
      have hg := h.get t
      simp only [Array.getD_eq_getD_getElem?, Array.getElem?_setIfInBounds] at hg ⊢
      by_cases he : d = t
      · have hs := h.size
        subst he
        rw [if_pos rfl, if_pos rfl, if_pos (by rw [hs]; exact hd)]
        rfl
      · rw [if_neg he, if_neg he]
        exact hg
    · have hb : Nat.blt d f.n = false := by cases hb : Nat.blt d f.n with
        | false => rfl
        | true => exact (hd (Nat.le_of_ble_eq_true hb)).elim
      simp only [hb, cond_false]
      have hs := h.size
      have hnot : a.tmps.size ≤ d := by rw [hs]; exact Nat.le_of_not_lt hd
      simp only [Array.setIfInBounds_eq_of_size_le hnot]
      exact h

theorem RelF.eval {f : F} {a : Act} (h : RelF f a) : f.eval = a.eval := by
  funext x
  cases x with
  | tmp t => exact (h.get t).symm
  | _ => rfl

theorem RelF.yielded {f : F} {a : Act} (h : RelF f a) (ops : Array Oper) : f.yielded ops = yielded ops a.tmps := by
  funext j
  unfold F.yielded Go.yielded
  have e : ops[j]? = ops.toList[j]? := by simp
  rw [e]
  cases ops.toList[j]? with
  | none => rfl
  | some o =>
    simp only [Option.bind_some]
    cases o.dst with
    | none => rfl
    | some t =>
      simp only [Option.bind_some]
      have hg := h.get t
      rw [← hg]
      simp only [Array.getD_eq_getD_getElem?]
      cases a.tmps[t]? with
      | none => rfl
      | some v => cases v <;> rfl

theorem getW_args : ∀ (l : List Value) (i t : Nat), getW (argsW i l) t = if t < i then undef else l.getD (t - i) undef
  | [], i, t => by simp [argsW, getW]
  | v :: r, i, t => by
    simp only [argsW]
    rw [getW_cons, getW_args r (i + 1) t]
    by_cases h : i = t
    · subst h; simp
    · rw [if_neg h]
      by_cases h2 : t < i
      · rw [if_pos h2, if_pos (by omega)]
      · rw [if_neg h2, if_neg (by omega)]
        have : t - i = (t - (i + 1)) + 1 := by omega
        rw [this]
        simp

theorem RelF.init (args : Array Value) (n : Nat) : RelF (F.init args n) { tmps := args ++ Array.replicate (n - args.size) undef, defers := [] } := by
  refine ⟨rfl, by simp [F.init], fun t => ?_⟩
  show _ = getW (argsW 0 args.toList) t
  rw [getW_args]
  simp only [Nat.not_lt_zero, if_false, Nat.sub_zero, Array.getD_eq_getD_getElem?, Array.getElem?_append]
  by_cases h : t < args.size
  · simp [h]
  · have : args.toList[t]? = none := by simp; omega
    simp only [h, if_false, List.getD_eq_getElem?_getD, this]
    simp only [Array.getElem?_replicate]
    split <;> rfl

/-- What the results read. -/
def resF (fn : Func) (g : Nat → Value) : Sem Value := do
  let vs ← fn.results.mapM fun
    | .tmp t => pure (g t)
    | .cell a t => do loadVar t (← asAddr (g a))
  pure (if h : vs.size = 1 then vs[0] else .tuple vs)

theorem resF_eq {f : F} {a : Act} (h : RelF f a) (fn : Func) : results fn a.tmps = resF fn f.get := by
  have : f.get = fun t => a.tmps.getD t undef := funext fun t => (h.get t).symm
  rw [this]
  rfl

/-! ### Code -/

/-- It hands back v; nothing that was there has turned; so many blocks are new. -/
def Gives (P : Program) (f : FuncId) (args : Array Value) (v : Value) (n : Nat) : Prop :=
  ∀ W : World, Calls P f args W fun e W' => e = .returned v ∧ Below W.heap.size W W' ∧ W'.heap.size = W.heap.size + n

/-- Which calls are met by a contract, and by which, one after the other; which slots (of which function) are given another spelling, and which. -/
structure Ctx where
  isC : FuncId → Bool
  cl : List CallC
  fl : FuncId → Tmp → Bool
  rl : List Value

def Ctx.holds (P : Program) (S : Ctx) : Prop := ∀ c ∈ S.cl, Gives P c.f c.args c.v c.n

def fix (S : Ctx) (fn : FuncId) (dst : Option Tmp) (v : Value) (e : E) : Value × E :=
  match dst with
  | none => (v, e)
  | some t => match S.fl fn t with
    | false => (v, e)
    | true => match S.rl[e.ri]? with
      | none => (v, e)
      | some v' => (v', { e with ri := e.ri + 1, vc := ⟨.val v, .val v', true⟩ :: e.vc })

theorem fix_mono (S : Ctx) (fn : FuncId) (dst : Option Tmp) (v : Value) (e : E) : ∀ p ∈ e.vc, p ∈ (fix S fn dst v e).2.vc := by
  unfold fix
  split
  · exact fun _ h => h
  · split
    · exact fun _ h => h
    · split
      · exact fun _ h => h
      · exact fun p hp => List.mem_cons_of_mem _ hp

theorem fix_val (S : Ctx) (fn : FuncId) (dst : Option Tmp) (v : Value) (e : E) (hok : (fix S fn dst v e).2.ok) : (fix S fn dst v e).1 = v := by
  unfold fix at *
  split
  · rfl
  · split
    · rfl
    · split
      · rfl
      · rename_i v' h
        simp only [*] at hok
        have := hok ⟨.val v, .val v', true⟩ (by simp)
        injection this with this
        exact this.symm

theorem fix_rep {w0 W : World} (S : Ctx) (fn : FuncId) (dst : Option Tmp) (v : Value) (e : E) (h : Rep w0 e W) : Rep w0 (fix S fn dst v e).2 W := by
  unfold fix
  split
  · exact h
  · split
    · exact h
    · split
      · exact h
      · exact h.of_eq rfl rfl

abbrev CallE := FuncId → Array Value → E → Option (Value × E)

def evOp (S : Ctx) (fn : FuncId) (call : CallE) (o : Oper) (a : F) (e : E) : Option (F × E) :=
  match lrun P (execOp a.eval o) e with
  | some (.value v, e') => some (a.put o.dst (fix S fn o.dst v e').1, (fix S fn o.dst v e').2)
  | some (.skip, e') => some (a.put o.dst undef, e')
  | some (.enter f args, e') => match call f args e' with
    | some (v, e'') => some (a.put o.dst (fix S fn o.dst v e'').1, (fix S fn o.dst v e'').2)
    | none => none
  | _ => none

/-- Operation number i: guarded or not. -/
def evAt (S : Ctx) (fn : FuncId) (call : CallE) (ops : Array Oper) (i : Nat) (a : F) (e : E) : Option (F × E) :=
  match ops[i]? with
  | none => some (a, e)
  | some o => match Region.wanted o (a.yielded ops) with
    | true => evOp P S fn call o a e
    | false => some (a.put o.dst undef, e)

def evOps (S : Ctx) (fn : FuncId) (call : CallE) (ops : Array Oper) : List Nat → F → E → Option (F × E)
  | [], a, e => some (a, e)
  | i :: rest, a, e => match evAt P S fn call ops i a e with
    | some (a', e') => evOps S fn call ops rest a' e'
    | none => none

/-- A computation that looks at no memory. -/
def pureOf {α : Type} : Sem α → Option α
  | .pure a => some a
  | .program k => pureOf (k P)
  | .mark _ k => pureOf k
  | _ => none

/-- What operation i yields in whatever world. -/
def freeAt (ops : Array Oper) (listed : Array Bool) (a : F) (i : Nat) : Option F :=
  match ops[i]? with
  | none => none
  | some o => match Region.free .any ops listed i with
    | false => none
    | true => match Region.wanted o (a.yielded ops) with
      | false => some (a.put o.dst undef)
      | true => match pureOf P (execOp a.eval o) with
        | some (.value v) => some (a.put o.dst v)
        | _ => none

def firstFree (ops : Array Oper) (listed : Array Bool) (a : F) : List Nat → Option (Nat × F)
  | [] => none
  | i :: rest => match freeAt P ops listed a i with
    | some a' => some (i, a')
    | none => firstFree ops listed a rest

/-- A region that draws its order: what yields in whatever world is taken first; else one operation alone may come up. -/
def evAny (S : Ctx) (fn : FuncId) (call : CallE) (ops : Array Oper) : Nat → Array Bool → F → E → Option (F × E)
  | 0, listed, a, e => match Region.ready .any ops listed with
    | [] => some (a, e)
    | _ => none
  | n + 1, listed, a, e => match Region.ready .any ops listed with
    | [] => some (a, e)
    | rs => match firstFree P ops listed a rs with
      | some (i, a') => evAny S fn call ops n (listed.setIfInBounds i true) a' e
      | none => match rs with
        | [i] => match evAt P S fn call ops i a e with
          | some (a', e') => evAny S fn call ops n (listed.setIfInBounds i true) a' e'
          | none => none
        | _ => none

def evLoop (f : F → E → Option (Exit × F × E)) : Nat → F → E → Option (Exit × F × E)
  | 0, _, _ => none
  | m + 1, a, e => match f a e with
    | some (.normal, a1, e1) => evLoop f m a1 e1
    | r => r

/-- What the results read: loads alone. -/
def lread {α : Type} : Sem α → E → Option (α × E)
  | .pure a, e => some (a, e)
  | .load _ a k, e => match e.pick a.block with
    | some ((_, .cells c _ _), _, e') => match a.spot with
      | some _ => none
      | none => match c.toList[a.off]? with
        | some v => lread (k v) e'
        | none => none
    | _ => none
  | .program k, e => lread (k P) e
  | .mark _ k, e => lread k e
  | _, _ => none

def evCall (S : Ctx) (ev : FuncId → Code → F → E → Option (Exit × F × E)) : CallE := fun f args e =>
  match S.isC f with
  | true => match S.cl[e.ci]? with
    | none => none
    | some c => match Nat.decEq c.f f with
      | .isFalse _ => none
      | .isTrue _ => some (c.v, { e with top := e.top + c.n, ci := e.ci + 1, vc := ⟨.val (.tuple args), .val (.tuple c.args), false⟩ :: e.vc })
  | false => match P.funcs[f]? with
    | none => none
    | some fn => match fn.body with
      | none => none
      | some c => match ev f c (F.init args fn.ntmps) e with
        | some (x, a, e') => match x with
          | .normal | .ret => lread P (resF fn a.get) e'
          | _ => none
        | none => none

def ev (S : Ctx) : Nat → FuncId → Code → F → E → Option (Exit × F × E)
  | 0, _, _, _, _ => none
  | n + 1, fn, c, a, e => match c with
    | .skip | .label _ => some (.normal, a, e)
    | .region _ ops false => match evOps P S fn (evCall P S (ev S n)) ops (List.range ops.size) a e with
      | some (a', e') => some (.normal, a', e')
      | none => none
    | .region _ ops true => match Region.noSelect ops with
      | false => none
      | true => match evAny P S fn (evCall P S (ev S n)) ops ops.size (Array.replicate ops.size false) a e with
        | some (a', e') => some (.normal, a', e')
        | none => none
    | .seq x y => match ev S n fn x a e with
      | some (.normal, a1, e1) => ev S n fn y a1 e1
      | r => r
    | .cond b x y => match a.eval b with
      | .bool true => ev S n fn x a e
      | .bool false => ev S n fn y a e
      | _ => none
    | .block id x => match ev S n fn x a e with
      | some (.exit id', a1, e1) => match Nat.decEq id' id with
        | .isTrue _ => some (.normal, a1, e1)
        | .isFalse _ => some (.exit id', a1, e1)
      | r => r
    | .loop x => evLoop (ev S n fn x) n a e
    | .exit id => some (.exit id, a, e)
    | .ret => some (.ret, a, e)
    | _ => none

/-! ### Soundness -/

/-- The one end. -/
def Post (w0 : World) (x : Exit) (f : F) (e : E) : Exit → Act → World → Prop := fun x' a' W => x' = x ∧ RelF f a' ∧ Rep w0 e W

/-- The exits that ev knows. -/
def calm : Exit → Bool
  | .normal | .exit _ | .ret => true
  | _ => false

def MonoC (call : CallE) : Prop := ∀ f args e v e', call f args e = some (v, e') → ∀ p ∈ e.vc, p ∈ e'.vc
def SoundC (w0 : World) (call : CallE) : Prop := ∀ f args e v e', call f args e = some (v, e') → e'.ok → ∀ W, Rep w0 e W → Calls P f args W fun en W' => en = .returned v ∧ Rep w0 e' W'
def MonoE (f : F → E → Option (Exit × F × E)) : Prop := ∀ a e x a' e', f a e = some (x, a', e') → calm x = true ∧ ∀ p ∈ e.vc, p ∈ e'.vc
def SoundE (w0 : World) (c : Code) (f : F → E → Option (Exit × F × E)) : Prop := ∀ g e x g' e', f g e = some (x, g', e') → e'.ok → ∀ a W, RelF g a → Rep w0 e W → c.wp P (Post w0 x g' e') a W

theorem evOp_mono {S : Ctx} {fn : FuncId} {call : CallE} (hc : MonoC call) {o : Oper} {a a' : F} {e e' : E} (h : evOp P S fn call o a e = some (a', e')) : ∀ p ∈ e.vc, p ∈ e'.vc := by
  unfold evOp at h
  split at h
  · rename_i hl; injection h with h; injection h with _ h2; subst h2; exact fun p hp => fix_mono _ _ _ _ _ _ (lrun_mono P _ _ _ _ hl _ hp)
  · rename_i hl; injection h with h; injection h with _ h2; subst h2; exact lrun_mono P _ _ _ _ hl
  · rename_i hl
    split at h
    · rename_i hcall; injection h with h; injection h with _ h2; subst h2
      exact fun p hp => fix_mono _ _ _ _ _ _ (hc _ _ _ _ _ hcall _ (lrun_mono P _ _ _ _ hl _ hp))
    · cases h
  · cases h

theorem evAt_mono {S : Ctx} {fn : FuncId} {call : CallE} (hc : MonoC call) {ops : Array Oper} {i : Nat} {a a' : F} {e e' : E} (h : evAt P S fn call ops i a e = some (a', e')) : ∀ p ∈ e.vc, p ∈ e'.vc := by
  unfold evAt at h
  split at h
  · injection h with h; injection h with _ h2; subst h2; exact fun _ h => h
  · split at h
    · exact evOp_mono P hc h
    · injection h with h; injection h with _ h2; subst h2; exact fun _ h => h

theorem evOps_mono {S : Ctx} {fn : FuncId} {call : CallE} (hc : MonoC call) {ops : Array Oper} : ∀ (l : List Nat) {a a' : F} {e e' : E}, evOps P S fn call ops l a e = some (a', e') → ∀ p ∈ e.vc, p ∈ e'.vc
  | [], a, a', e, e', h => by injection h with h; injection h with _ h2; subst h2; exact fun _ h => h
  | i :: rest, a, a', e, e', h => by
    simp only [evOps] at h
    split at h
    · rename_i h1; exact fun p hp => evOps_mono hc rest h _ (evAt_mono P hc h1 _ hp)
    · cases h

theorem evAny_mono {S : Ctx} {fn : FuncId} {call : CallE} (hc : MonoC call) {ops : Array Oper} : ∀ (n : Nat) {listed : Array Bool} {a a' : F} {e e' : E}, evAny P S fn call ops n listed a e = some (a', e') → ∀ p ∈ e.vc, p ∈ e'.vc
  | 0, listed, a, a', e, e', h => by
    simp only [evAny] at h
    split at h
    · injection h with h; injection h with _ h2; subst h2; exact fun _ h => h
    · cases h
  | n + 1, listed, a, a', e, e', h => by
    simp only [evAny] at h
    split at h
    · injection h with h; injection h with _ h2; subst h2; exact fun _ h => h
    · split at h
      · exact evAny_mono hc n h
      · split at h
        · split at h
          · rename_i h1; exact fun p hp => evAny_mono hc n h _ (evAt_mono P hc h1 _ hp)
          · cases h
        · cases h

theorem lread_mono {α : Type} (s : Sem α) : ∀ (e e' : E) (x : α), lread P s e = some (x, e') → ∀ p ∈ e.vc, p ∈ e'.vc := by
  induction s with
  | pure a => intro e e' x h; simp only [lread, Option.some.injEq, Prod.mk.injEq] at h; rw [h.2]; exact fun _ h => h
  | load m a k ih =>
    intro e e' x h
    simp only [lread] at h
    split at h
    · rename_i hp
      split at h
      · cases h
      · split at h
        · exact vc_sub (E.pick_spec hp).2.2.2 (ih _ _ _ _ h)
        · cases h
    · cases h
  | program k ih => intro e e' x h; exact ih _ _ _ _ h
  | mark m k ih => intro e e' x h; exact ih _ _ _ h
  | _ => intro e e' x h; cases h

theorem lread_sound {w0 : World} {α : Type} (s : Sem α) : ∀ (e e' : E) (x : α) (W : World), lread P s e = some (x, e') → e'.ok → Rep w0 e W →
    s.run P W = .ok x W ∧ Rep w0 e' W := by
  induction s with
  | pure a =>
    intro e e' x W h _ hr
    simp only [lread, Option.some.injEq, Prod.mk.injEq] at h
    obtain ⟨rfl, rfl⟩ := h
    exact ⟨rfl, hr⟩
  | load m a k ih =>
    intro e e' x W h hok hr
    simp only [lread] at h
    split at h
    · rename_i b c t f j e1 hp
      obtain ⟨hj, hL, ht, hv⟩ := E.pick_spec hp
      split at h
      · cases h
      · rename_i hs
        split at h
        · rename_i v hcv
          have hb : a.block = b := tok_nat (hok ⟨.nat a.block, .nat b, false⟩ (lread_mono P _ _ _ _ h _ (by rw [hv]; simp)))
          obtain ⟨h1, h2⟩ := ih v _ _ _ W h hok (hr.of_eq hL ht)
          refine ⟨?_, h2⟩
          have hcell : W.cell? a = some v := by rw [cell_of hb (hr.at hj) hs]; simpa using hcv
          simp only [Sem.run, hcell]
          exact h1
        · cases h
    · cases h
  | program k ih => intro e e' x W h hok hr; exact ih _ _ _ _ _ h hok hr
  | mark m k ih => intro e e' x W h hok hr; exact ih _ _ _ _ h hok hr
  | _ => intro e e' x W h; cases h

theorem pureOf_run {α : Type} (s : Sem α) : ∀ (x : α), pureOf P s = some x → ∀ W, s.run P W = .ok x W := by
  induction s with
  | pure a => intro x h W; injection h with h; subst h; rfl
  | program k ih => intro x h W; exact ih _ _ h W
  | mark m k ih => intro x h W; exact ih _ h W
  | _ => intro x h; cases h

variable {P}

theorem evAt_sound {w0 : World} {S : Ctx} {fn : FuncId} {call : CallE} (hm : MonoC call) (hs : SoundC P w0 call) {ops : Array Oper} {i : Nat} {a a' : F} {e e' : E} (h : evAt P S fn call ops i a e = some (a', e')) (hok : e'.ok)
    {b : Act} {W : World} (hf : RelF a b) (hr : Rep w0 e W) {Q : Exit → Act → World → Prop} {K : Act → World → Prop} (hK : ∀ b' W', RelF a' b' → Rep w0 e' W' → K b' W') : wpOp P ops Q i K b W := by
  unfold evAt at h
  unfold wpOp
  split at h
  · rename_i h0
    injection h with h; injection h with h1 h2; subst h1 h2
    simp only [h0]
    exact hK _ _ hf hr
  · rename_i o h0
    simp only [h0]
    split at h
    · rename_i hw
      rw [hf.yielded] at hw
      rw [if_pos hw]
      left
      unfold evOp at h
      unfold Oper.wp
      rw [hf.eval] at h
      split at h
      · rename_i v e1 hl
        injection h with h; injection h with h1 h2; subst h1 h2
        obtain ⟨W', hrun, hr'⟩ := lrun_sound P _ _ _ _ W hl (fun p hp => hok p (fix_mono _ _ _ _ _ p hp)) hr
        rw [hrun]; exact hK _ _ (by rw [fix_val _ _ _ _ _ hok]; exact hf.put _ _) (fix_rep _ _ _ _ _ hr')
      · rename_i e1 hl
        injection h with h; injection h with h1 h2; subst h1 h2
        obtain ⟨W', hrun, hr'⟩ := lrun_sound P _ _ _ _ W hl hok hr
        rw [hrun]; exact hK _ _ (hf.put _ _) hr'
      · rename_i f args e1 hl
        split at h
        · rename_i v e2 hcall
          injection h with h; injection h with h1 h2; subst h1 h2
          have hok2 : e2.ok := fun p hp => hok p (fix_mono _ _ _ _ _ p hp)
          obtain ⟨W', hrun, hr'⟩ := lrun_sound P _ _ _ _ W hl (fun p hp => hok2 p (hm _ _ _ _ _ hcall p hp)) hr
          rw [hrun]
          exact (hs _ _ _ _ _ hcall hok2 W' hr').mono fun en W'' ⟨he, hR⟩ => by subst he; exact hK _ _ (by rw [fix_val _ _ _ _ _ hok]; exact hf.put _ _) (fix_rep _ _ _ _ _ hR)
        · cases h
      · cases h
    · rename_i hw
      rw [hf.yielded] at hw
      injection h with h; injection h with h1 h2; subst h1 h2
      rw [hw]
      exact hK _ _ (hf.put _ _) hr

theorem evOps_sound {w0 : World} {S : Ctx} {fn : FuncId} {call : CallE} (hm : MonoC call) (hs : SoundC P w0 call) {ops : Array Oper} {Q : Exit → Act → World → Prop} : ∀ (l : List Nat) {a a' : F} {e e' : E}, evOps P S fn call ops l a e = some (a', e') → e'.ok →
    ∀ {b : Act} {W : World}, RelF a b → Rep w0 e W → (∀ b' W', RelF a' b' → Rep w0 e' W' → Q .normal b' W') → wpOps P ops Q l b W
  | [], a, a', e, e', h, hok, b, W, hf, hr, hQ => by
    injection h with h; injection h with h1 h2; subst h1 h2
    exact hQ _ _ hf hr
  | i :: rest, a, a', e, e', h, hok, b, W, hf, hr, hQ => by
    simp only [evOps] at h
    split at h
    · rename_i a1 e1 h1
      rw [wpOps_cons]
      exact evAt_sound hm hs h1 (fun p hp => hok p (evOps_mono P hm rest h p hp)) hf hr (fun b' W' hf' hr' => evOps_sound hm hs rest h hok hf' hr' hQ)
    · cases h

theorem freeAt_spec {ops : Array Oper} {listed : Array Bool} {a a' : F} {b : Act} (hrel : RelF a b) {i : Nat} (h : freeAt P ops listed a i = some a') :
    ∃ o v, ops[i]? = some o ∧ Region.free .any ops listed i = true ∧ a' = a.put o.dst v ∧ Yields P ops o v b := by
  unfold freeAt at h
  split at h
  · cases h
  · rename_i o ho
    split at h
    · cases h
    · rename_i hf
      split at h
      · rename_i hw
        injection h with h
        rw [hrel.yielded] at hw
        exact ⟨o, undef, ho, hf, h.symm, .inr ⟨hw, rfl⟩⟩
      · rename_i hw
        rw [hrel.yielded] at hw
        rw [hrel.eval] at h
        split at h
        · rename_i v hp
          injection h with h
          exact ⟨o, v, ho, hf, h.symm, .inl ⟨hw, fun W => pureOf_run P _ _ hp W⟩⟩
        · cases h

theorem firstFree_spec {ops : Array Oper} {listed : Array Bool} {a : F} : ∀ (l : List Nat) {i : Nat} {a' : F}, firstFree P ops listed a l = some (i, a') → i ∈ l ∧ freeAt P ops listed a i = some a'
  | [], i, a', h => by cases h
  | j :: rest, i, a', h => by
    simp only [firstFree] at h
    split at h
    · rename_i h1; injection h with h; injection h with h2 h3; subst h2 h3; exact ⟨List.mem_cons_self, h1⟩
    · obtain ⟨h1, h2⟩ := firstFree_spec rest h; exact ⟨List.mem_cons_of_mem _ h1, h2⟩

theorem evAny_sound {w0 : World} {S : Ctx} {fn : FuncId} {call : CallE} (hm : MonoC call) (hs : SoundC P w0 call) {ops : Array Oper} (hns : Region.noSelect ops = true) {Q : Exit → Act → World → Prop} (hQ0 : ∀ c a w, ¬ Q (.panic c) a w) :
    ∀ (n : Nat) {listed : Array Bool} {a a' : F} {e e' : E}, evAny P S fn call ops n listed a e = some (a', e') → e'.ok →
    ∀ {b : Act} {W : World}, RelF a b → Rep w0 e W → (∀ b' W', RelF a' b' → Rep w0 e' W' → Q .normal b' W') → wpAny P .any ops Q n listed b W
  | 0, listed, a, a', e, e', h, hok, b, W, hf, hr, hQ => by
    simp only [evAny] at h
    split at h
    · rename_i hrd
      injection h with h; injection h with h1 h2; subst h1 h2
      exact wpAny_done hrd (hQ _ _ hf hr) 0
    · cases h
  | n + 1, listed, a, a', e, e', h, hok, b, W, hf, hr, hQ => by
    simp only [evAny] at h
    split at h
    · rename_i hrd
      injection h with h; injection h with h1 h2; subst h1 h2
      exact wpAny_done hrd (hQ _ _ hf hr) (n + 1)
    · rename_i hne
      split at h
      · rename_i i a1 hff
        obtain ⟨hmem, hfa⟩ := firstFree_spec _ hff
        obtain ⟨o, v, ho, hfr, rfl, hy⟩ := freeAt_spec hf hfa
        exact wpAny_take ho hns hfr (by simpa using hmem) (fun c b w hq => (hQ0 c _ w hq).elim) hy (evAny_sound hm hs hns hQ0 n h hok (hf.put _ _) hr hQ)
      · split at h
        · rename_i i hrd
          split at h
          · rename_i a1 e1 h1
            refine wpAny_all hrd (by simp) fun k hk => ?_
            obtain rfl : k = i := by simpa using hk
            exact evAt_sound hm hs h1 (fun p hp => hok p (evAny_mono P hm n h p hp)) hf hr (fun b' W' hf' hr' => evAny_sound hm hs hns hQ0 n h hok hf' hr' hQ)
          · cases h
        · cases h

theorem evLoop_mono {f : F → E → Option (Exit × F × E)} (hf : MonoE f) : ∀ m, MonoE (evLoop f m)
  | 0, a, e, x, a', e', h => by cases h
  | m + 1, a, e, x, a', e', h => by
    simp only [evLoop] at h
    split at h
    · rename_i h1
      have h2 := evLoop_mono hf m _ _ _ _ _ h
      exact ⟨h2.1, fun p hp => h2.2 p ((hf _ _ _ _ _ h1).2 p hp)⟩
    · exact hf _ _ _ _ _ h

theorem evLoop_sound {w0 : World} {c : Code} {f : F → E → Option (Exit × F × E)} (hm : MonoE f) (hf : SoundE P w0 c f) : ∀ (m : Nat) (a : F) (e : E) (x : Exit) (a' : F) (e' : E), evLoop f m a e = some (x, a', e') → e'.ok →
    ∀ b W, RelF a b → Rep w0 e W → Code.rounds P c (Post w0 x a' e') m b W
  | 0, a, e, x, a', e', h, _, b, W, _, _ => by cases h
  | m + 1, a, e, x, a', e', h, hok, b, W, hrel, hr => by
    simp only [evLoop] at h
    rw [rounds_succ]
    split at h
    · rename_i a1 e1 h1
      refine wp_mono (hf _ _ _ _ _ h1 (fun p hp => hok p ((evLoop_mono hm m _ _ _ _ _ h).2 p hp)) b W hrel hr) ?_
      rintro x2 a2 W2 ⟨rfl, hrel2, hr2⟩
      exact evLoop_sound hm hf m _ _ _ _ _ h hok a2 W2 hrel2 hr2
    · rename_i hne
      refine wp_mono (hf _ _ _ _ _ h hok b W hrel hr) ?_
      rintro x2 a2 W2 ⟨rfl, hrel2, hr2⟩
      have hx : x2 ≠ .normal := fun hx => by subst hx; exact hne _ _ h
      cases x2 <;> first | exact (hx rfl).elim | exact ⟨rfl, hrel2, hr2⟩

theorem evCall_mono {S : Ctx} {f : FuncId → Code → F → E → Option (Exit × F × E)} (hf : ∀ fn c, MonoE (f fn c)) : MonoC (evCall P S f) := by
  intro g args e v e' h
  unfold evCall at h
  split at h
  · split at h
    · cases h
    · split at h
      · cases h
      · injection h with h; injection h with _ h2; subst h2; exact fun p hp => List.mem_cons_of_mem _ hp
  · split at h
    · cases h
    · split at h
      · cases h
      · split at h
        · rename_i h1
          split at h
          · exact fun p hp => lread_mono P _ _ _ _ h p ((hf _ _ _ _ _ _ _ h1).2 p hp)
          · exact fun p hp => lread_mono P _ _ _ _ h p ((hf _ _ _ _ _ _ _ h1).2 p hp)
          · cases h
        · cases h

theorem evCall_sound {w0 : World} {S : Ctx} (hS : S.holds P) {f : FuncId → Code → F → E → Option (Exit × F × E)} (hf : ∀ fn c, SoundE P w0 c (f fn c)) : SoundC P w0 (evCall P S f) := by
  intro g args e v e' h hok W hr
  unfold evCall at h
  split at h
  · split at h
    · cases h
    rename_i cc hS1
    split at h
    · cases h
    rename_i hcf _
    injection h with h; injection h with h1 h2; subst h1 h2
    have hargs : args = cc.args := by
      have := hok ⟨.val (.tuple args), .val (.tuple cc.args), false⟩ (by simp)
      injection this with this
      injection this
    subst hargs
    subst hcf
    refine (hS _ (List.mem_of_getElem? hS1) W).mono ?_
    rintro en W' ⟨rfl, hb, hsz⟩
    have hs := hr.size
    refine ⟨rfl, hb.os.trans hr.os, hb.tape.trans hr.tape, hb.output.trans hr.output, by simp [hsz, hs], by have := hr.base; simp; omega, fun k hk => ?_, fun p hp => ?_, hr.nodup⟩
    · rw [hb.block k (by have := hr.base; omega)]; exact hr.old k hk
    · obtain ⟨h1, h2, h3⟩ := hr.blk p hp
      refine ⟨h1, by simp; omega, ?_⟩
      rw [hb.block p.1 (by omega)]; exact h3
  · split at h
    · cases h
    · rename_i fn hfn
      split at h
      · cases h
      · rename_i c hb
        split at h
        · rename_i x a1 e1 h1
          have key : ∀ v e', lread P (resF fn a1.get) e1 = some (v, e') → e'.ok → (x = .normal ∨ x = .ret) → Calls P g args W fun en W' => en = .returned v ∧ Rep w0 e' W' := by
            intro v e' hl hok hx
            refine calls_of_wp hfn hb (wp_mono (hf g c _ _ _ _ _ h1 (fun p hp => hok p (lread_mono P _ _ _ _ hl p hp)) _ W (RelF.init args fn.ntmps) hr) ?_)
            rintro x2 a2 W2 ⟨rfl, hrel2, hr2⟩
            obtain ⟨hrun, hr3⟩ := lread_sound P _ _ _ _ W2 hl hok hr2
            rw [← resF_eq hrel2] at hrun
            rcases hx with rfl | rfl
            · exact ⟨hrel2.defers, v, hrun, rfl, hr3⟩
            · exact ⟨hrel2.defers, v, hrun, rfl, hr3⟩
          split at h
          · exact key _ _ h hok (.inl rfl)
          · exact key _ _ h hok (.inr rfl)
          · cases h
        · cases h

theorem ev_mono {S : Ctx} : ∀ (n : Nat) (fn : FuncId) (c : Code), MonoE (ev P S n fn c)
  | 0, fn, c, a, e, x, a', e', h => by cases h
  | n + 1, fn, c, a, e, x, a', e', h => by
    have ih0 : ∀ fn c, MonoE (ev P S n fn c) := ev_mono n
    have ih := ih0 fn
    have hc : MonoC (evCall P S (ev P S n)) := evCall_mono ih0
    unfold ev at h
    split at h
    · injection h with h; injection h with h1 h2; injection h2 with h2 h3; subst h1 h3; exact ⟨rfl, fun _ h => h⟩
    · injection h with h; injection h with h1 h2; injection h2 with h2 h3; subst h1 h3; exact ⟨rfl, fun _ h => h⟩
    · split at h
      · rename_i h0
        injection h with h; injection h with h1 h2; injection h2 with h2 h3; subst h1 h3
        exact ⟨rfl, evOps_mono P hc _ h0⟩
      · cases h
    · split at h
      · cases h
      · split at h
        · rename_i h0
          injection h with h; injection h with h1 h2; injection h2 with h2 h3; subst h1 h3
          exact ⟨rfl, evAny_mono P hc _ h0⟩
        · cases h
    · split at h
      · rename_i h0
        have h1 := ih _ _ _ _ _ _ h
        exact ⟨h1.1, fun p hp => h1.2 p ((ih _ _ _ _ _ _ h0).2 p hp)⟩
      · exact ih _ _ _ _ _ _ h
    · split at h
      · exact ih _ _ _ _ _ _ h
      · exact ih _ _ _ _ _ _ h
      · cases h
    · split at h
      · rename_i h0
        have h1 := ih _ _ _ _ _ _ h0
        split at h
        · injection h with h; injection h with h1' h2; injection h2 with h2 h3; subst h1' h3; exact ⟨rfl, h1.2⟩
        · injection h with h; injection h with h1' h2; injection h2 with h2 h3; subst h1' h3; exact ⟨rfl, h1.2⟩
      · exact ih _ _ _ _ _ _ h
    · exact evLoop_mono (ih _) n _ _ _ _ _ h
    · injection h with h; injection h with h1 h2; injection h2 with h2 h3; subst h1 h3; exact ⟨rfl, fun _ h => h⟩
    · injection h with h; injection h with h1 h2; injection h2 with h2 h3; subst h1 h3; exact ⟨rfl, fun _ h => h⟩
    · cases h

theorem ev_sound {w0 : World} {S : Ctx} (hS : S.holds P) (hP : P.follows .mixedOrders = true) : ∀ (n : Nat) (fn : FuncId) (c : Code), SoundE P w0 c (ev P S n fn c)
  | 0, fn, c, a, e, x, a', e', h, _, _, _, _, _ => by cases h
  | n + 1, fn, c, a, e, x, a', e', h, hok, b, W, hrel, hr => by
    have ih0 : ∀ fn c, SoundE P w0 c (ev P S n fn c) := ev_sound hS hP n
    have im0 : ∀ fn c, MonoE (ev P S n fn c) := ev_mono n
    have ih := ih0 fn
    have im := im0 fn
    have hm : MonoC (evCall P S (ev P S n)) := evCall_mono im0
    have hc : SoundC P w0 (evCall P S (ev P S n)) := evCall_sound hS ih0
    unfold ev at h
    split at h
    · injection h with h; injection h with h1 h2; injection h2 with h2 h3; subst h1 h2 h3; exact wp_skip ⟨rfl, hrel, hr⟩
    · injection h with h; injection h with h1 h2; injection h2 with h2 h3; subst h1 h2 h3; exact wp_label ⟨rfl, hrel, hr⟩
    · split at h
      · rename_i h0
        injection h with h; injection h with h1 h2; injection h2 with h2 h3; subst h1 h2 h3
        exact wp_region (evOps_sound hm hc _ h0 hok hrel hr fun b' W' hb' hr' => ⟨rfl, hb', hr'⟩)
      · cases h
    · split at h
      · cases h
      · rename_i hns
        split at h
        · rename_i h0
          injection h with h; injection h with h1 h2; injection h2 with h2 h3; subst h1 h2 h3
          exact wp_region_any hP (evAny_sound hm hc hns (fun c a w hq => by cases hq.1) _ h0 hok hrel hr.draw fun b' W' hb' hr' => ⟨rfl, hb', hr'⟩)
        · cases h
    · split at h
      · rename_i a1 e1 h0
        refine wp_seq (wp_mono (ih _ _ _ _ _ _ h0 (fun p hp => hok p ((im _ _ _ _ _ _ h).2 p hp)) b W hrel hr) ?_)
        rintro x2 a2 W2 ⟨rfl, hrel2, hr2⟩
        exact ih _ _ _ _ _ _ h hok a2 W2 hrel2 hr2
      · rename_i hne
        refine wp_seq (wp_mono (ih _ _ _ _ _ _ h hok b W hrel hr) ?_)
        rintro x2 a2 W2 ⟨rfl, hrel2, hr2⟩
        have hx : x2 ≠ .normal := fun hx => by subst hx; exact hne _ _ h
        cases x2 <;> first | exact (hx rfl).elim | exact ⟨rfl, hrel2, hr2⟩
    · split at h
      · rename_i hb; rw [hrel.eval] at hb; exact wp_cond_true hb (ih _ _ _ _ _ _ h hok b W hrel hr)
      · rename_i hb; rw [hrel.eval] at hb; exact wp_cond_false hb (ih _ _ _ _ _ _ h hok b W hrel hr)
      · cases h
    · split at h
      · rename_i id' a1 e1 h0
        split at h
        · rename_i hid _
          injection h with h; injection h with h1 h2; injection h2 with h2 h3; subst h1 h2 h3
          refine wp_block (wp_mono (ih _ _ _ _ _ _ h0 hok b W hrel hr) ?_)
          rintro x2 a2 W2 ⟨rfl, hrel2, hr2⟩
          simp only [Exit.inBlock, hid, if_true]
          exact ⟨rfl, hrel2, hr2⟩
        · rename_i hid _
          injection h with h; injection h with h1 h2; injection h2 with h2 h3; subst h1 h2 h3
          refine wp_block (wp_mono (ih _ _ _ _ _ _ h0 hok b W hrel hr) ?_)
          rintro x2 a2 W2 ⟨rfl, hrel2, hr2⟩
          simp only [Exit.inBlock, hid, if_false]
          exact ⟨rfl, hrel2, hr2⟩
      · rename_i hne
        refine wp_block (wp_mono (ih _ _ _ _ _ _ h hok b W hrel hr) ?_)
        rintro x2 a2 W2 ⟨rfl, hrel2, hr2⟩
        have hcalm := (im _ _ _ _ _ _ h).1
        cases x2 <;> first | exact ⟨rfl, hrel2, hr2⟩ | exact (hne _ _ _ h).elim | (simp [calm] at hcalm)
    · exact wp_loop_rounds n (evLoop_sound (im _) (ih _) n _ _ _ _ _ h hok b W hrel hr)
    · injection h with h; injection h with h1 h2; injection h2 with h2 h3; subst h1 h2 h3; exact wp_exit ⟨rfl, hrel, hr⟩
    · injection h with h; injection h with h1 h2; injection h2 with h2 h3; subst h1 h2 h3; exact wp_ret ⟨rfl, hrel, hr⟩
    · cases h

/-! ### The two runs -/

def start (b : Nat) (orc : Option (List Nat)) : E := ⟨[], b, orc, [], [], 0, 0⟩

/-- The contracts with no new blocks: for the first run alone. -/
def Ctx.bare (S : Ctx) : Ctx := { S with cl := S.cl.map fun c => { c with n := 0 } }

/-- Which block each access meets: found at the number 0. -/
def traceOf (P : Program) (S : Ctx) (n : Nat) (f : FuncId) (args : Array Value) : List Nat :=
  match evCall P S.bare (ev P S.bare n) f args (start 0 none) with
  | some (_, e) => e.tr.reverse
  | none => []

def lefts : List VC → List Tok
  | [] => []
  | c :: r => match c.hyp with
    | true => lefts r
    | false => c.l :: lefts r
def rights : List VC → List Tok
  | [] => []
  | c :: r => match c.hyp with
    | true => rights r
    | false => c.r :: rights r
def asked : List VC → List (Tok × Tok)
  | [] => []
  | c :: r => match c.hyp with
    | true => (c.l, c.r) :: asked r
    | false => asked r

structure Out where
  res : Option (Value × Nat)
  ls : List Tok
  rs : List Tok
  qs : List (Tok × Tok)

/-- What the call hands back, how many blocks it has made; what must be one. -/
def out (P : Program) (S : Ctx) (n : Nat) (f : FuncId) (args : Array Value) (b : Nat) : Out :=
  match evCall P S (ev P S n) f args (start b (some (traceOf P S n f args))) with
  | some (v, e) => ⟨some (v, e.top), lefts e.vc, rights e.vc, asked e.vc⟩
  | none => ⟨none, [], [], []⟩

theorem ok_of_lists {vc : List VC} (h : lefts vc = rights vc) (hq : ∀ q ∈ asked vc, q.1 = q.2) : ∀ p ∈ vc, p.l = p.r := by
  induction vc with
  | nil => intro p hp; cases hp
  | cons c l ih =>
    intro p hp
    simp only [lefts, rights, asked] at h hq
    cases hc : c.hyp with
    | true =>
      rw [hc] at h hq
      rcases List.mem_cons.1 hp with rfl | hp
      · exact hq (p.l, p.r) (by simp)
      · exact ih h (fun q hm => hq q (by simp [hm])) p hp
    | false =>
      rw [hc] at h hq
      simp only [List.cons.injEq] at h
      rcases List.mem_cons.1 hp with rfl | hp
      · exact h.1
      · exact ih h.2 hq p hp

theorem gives_of_top {S : Ctx} (hS : S.holds P) (hP : P.follows .mixedOrders = true) (n : Nat) {f : FuncId} {args : Array Value} {v : Value} {k : Nat} {qs : List (Tok × Tok)} (hq : ∀ q ∈ qs, q.1 = q.2) (t : Nat → Nat) (ht : ∀ b, t b = b + k)
    (h : ∀ b, (out P S n f args b).res = some (v, t b) ∧ (out P S n f args b).ls = (out P S n f args b).rs ∧ (out P S n f args b).qs = qs) : Gives P f args v k := by
  intro W
  obtain ⟨h1, h2, h3⟩ := h W.heap.size
  unfold out at h1 h2 h3
  split at h1
  · rename_i v' e hc
    rw [hc] at h2 h3
    simp only [Option.some.injEq, Prod.mk.injEq] at h1
    obtain ⟨rfl, htop⟩ := h1
    simp only at h3
    have hr0 : Rep W (start W.heap.size (some (traceOf P S n f args))) W := ⟨rfl, rfl, rfl, rfl, Nat.le_refl _, fun _ _ => rfl, by simp [start], by simp [start]⟩
    refine (evCall_sound hS (ev_sound hS hP n) _ _ _ _ _ hc (ok_of_lists h2 (by rw [h3]; exact hq)) W hr0).mono ?_
    rintro en W' ⟨rfl, hr⟩
    exact ⟨rfl, hr.below, by rw [hr.size, htop, ht]⟩
  · cases h1

theorem gives_of_asked {S : Ctx} (hS : S.holds P) (hP : P.follows .mixedOrders = true) (n : Nat) {f : FuncId} {args : Array Value} {v : Value} {k : Nat} {qs : List (Tok × Tok)} (hq : ∀ q ∈ qs, q.1 = q.2)
    (h : ∀ b, (out P S n f args b).res = some (v, b + k) ∧ (out P S n f args b).ls = (out P S n f args b).rs ∧ (out P S n f args b).qs = qs) : Gives P f args v k :=
  gives_of_top hS hP n hq (fun b => b + k) (fun _ => rfl) h

theorem gives_of_out {S : Ctx} (hS : S.holds P) (hP : P.follows .mixedOrders = true) (n : Nat) {f : FuncId} {args : Array Value} {v : Value} {k : Nat}
    (h : ∀ b, (out P S n f args b).res = some (v, b + k) ∧ (out P S n f args b).ls = (out P S n f args b).rs ∧ (out P S n f args b).qs = []) : Gives P f args v k :=
  gives_of_asked hS hP n (qs := []) (by simp) h

def noSpec : Ctx := ⟨fun _ => false, [], fun _ _ => false, []⟩
theorem noSpec_holds : noSpec.holds P := fun _ h => by cases h

/-- Calls met by contracts alone. -/
def withCalls (fs : List FuncId) (cl : List CallC) : Ctx := ⟨fun f => fs.any (Nat.beq f), cl, fun _ _ => false, []⟩
theorem withCalls_holds {fs : List FuncId} {cl : List CallC} (h : ∀ c ∈ cl, Gives P c.f c.args c.v c.n) : (withCalls fs cl).holds P := h
/-- And slots of the function fn given another spelling. -/
def withBoth (fs : List FuncId) (cl : List CallC) (fn : FuncId) (ts : List Tmp) (rl : List Value) : Ctx := ⟨fun f => fs.any (Nat.beq f), cl, fun f t => Nat.beq f fn && ts.any (Nat.beq t), rl⟩
theorem withBoth_holds {fs : List FuncId} {cl : List CallC} {fn : FuncId} {ts : List Tmp} {rl : List Value} (h : ∀ c ∈ cl, Gives P c.f c.args c.v c.n) : (withBoth fs cl fn ts rl).holds P := h

end Go.Proofs.Ytbgmkefehfjicaa.Ev
