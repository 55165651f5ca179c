/-
  Frames: what has been written, the latest first.
-/
import Derived.Test.YtbgmkefehfjicaaExQ
namespace Go.Proofs.Ytbgmkefehfjicaa.Sy
open Go Go.RowKit

structure F where
  n : Nat
  w : List (Nat × Value)

noncomputable def getW (w : List (Nat × Value)) (t : Nat) : Value := @List.rec (Nat × Value) (fun _ => Value) undef (fun p _ ih => @Bool.rec (fun _ => Value) ih p.2 (Nat.beq p.1 t)) w

theorem getW_eq (p : Nat × Value) (r : List (Nat × Value)) (t : Nat) : getW (p :: r) t = bif Nat.beq p.1 t then p.2 else getW r t := by
  show @Bool.rec (fun _ => Value) (getW r t) p.2 (Nat.beq p.1 t) = _
  cases Nat.beq p.1 t <;> rfl

noncomputable def F.get (f : F) (t : Nat) : Value := getW f.w t

def F.put (f : F) (d : Option Tmp) (v : Value) : F := match d with
  | none => f
  | some d => match f with
    | ⟨n, w⟩ => match Nat.blt d n with
      | true => ⟨n, (d, v) :: w⟩
      | false => ⟨n, w⟩

noncomputable def F.eval (f : F) : Operand → Value
  | .tmp t => f.get t
  | .const v => v
  | .global g => .pointer (some ⟨g, 0, none⟩)
  | .func g => .func (.func g) #[] #[]

noncomputable def F.yielded (f : F) (ops : Array Oper) (j : Nat) : Option Bool :=
  match ops.toList[j]? with
  | none => none
  | some o => match o.dst with
    | none => none
    | some t => match f.get t with
      | .bool b => some b
      | _ => none

def argsW : Nat → List Value → List (Nat × Value)
  | _, [] => []
  | i, v :: r => (i, v) :: argsW (i + 1) r

/-- The frame of a call: its arguments, room for n more. -/
def F.init (args : Array Value) (n : Nat) : F := ⟨args.size + (n - args.size), argsW 0 args.toList⟩

structure RelF (f : F) (a : Act) : Prop where
  defers : a.defers = []
  size : a.tmps.size = f.n
  get : ∀ t, a.tmps.getD t undef = f.get t

theorem getW_cons (i : Nat) (v : Value) (r : List (Nat × Value)) (t : Nat) : getW ((i, v) :: r) t = if i = t then v else getW r t := by
  rw [getW_eq]
  by_cases h : i = t
  · simp [h]
  · have : Nat.beq i t = false := by cases hb : Nat.beq i t with
      | false => rfl
      | true => exact (h (Nat.eq_of_beq_eq_true hb)).elim
    simp [h, this]

theorem RelF.put {f : F} {a : Act} (h : RelF f a) (d : Option Tmp) (v : Value) : RelF (f.put d v) (a.put d v) := by
  cases d with
  | none => exact h
  | some d =>
    obtain ⟨fn, fw⟩ := f
    show RelF (match Nat.blt d fn with
      | true => ⟨fn, (d, v) :: fw⟩
      | false => ⟨fn, fw⟩) _
    unfold Act.put
    by_cases hd : d < fn
    · have hb : Nat.blt d fn = true := by simpa using hd
      simp only [hb]
      refine ⟨h.defers, by simpa using h.size, fun t => ?_⟩
      show (a.tmps.setIfInBounds d v).getD t undef = getW ((d, v) :: fw) t
      rw [getW_cons]
      have hg := h.get t
      simp only [Array.getD_eq_getD_getElem?, Array.getElem?_setIfInBounds] at hg ⊢
      by_cases he : d = t
      · have hs := h.size
        subst he
        rw [if_pos rfl, if_pos rfl, if_pos (by rw [hs]; exact hd)]
        rfl
      · rw [if_neg he, if_neg he]
        exact hg
    · have hb : Nat.blt d fn = false := by cases hb : Nat.blt d fn with
        | false => rfl
        | true => exact (hd (Nat.le_of_ble_eq_true hb)).elim
      simp only [hb]
      have hs := h.size
      have hnot : a.tmps.size ≤ d := by rw [hs]; exact Nat.le_of_not_lt hd
      simp only [Array.setIfInBounds_eq_of_size_le hnot]
      exact h

theorem RelF.eval {f : F} {a : Act} (h : RelF f a) : f.eval = a.eval := by
  funext x
  cases x with
  | tmp t => exact (h.get t).symm
  | _ => rfl

theorem RelF.yielded {f : F} {a : Act} (h : RelF f a) (ops : Array Oper) : f.yielded ops = yielded ops a.tmps := by
  funext j
  unfold F.yielded Go.yielded
  have e : ops[j]? = ops.toList[j]? := by simp
  rw [e]
  cases ops.toList[j]? with
  | none => rfl
  | some o =>
    simp only [Option.bind_some]
    cases o.dst with
    | none => rfl
    | some t =>
      simp only [Option.bind_some]
      have hg := h.get t
      rw [← hg]
      simp only [Array.getD_eq_getD_getElem?]
      cases a.tmps[t]? with
      | none => rfl
      | some v => cases v <;> rfl

theorem getW_args : ∀ (l : List Value) (i t : Nat), getW (argsW i l) t = if t < i then undef else l.getD (t - i) undef
  | [], i, t => by show undef = _; simp
  | v :: r, i, t => by
    simp only [argsW]
    rw [getW_cons, getW_args r (i + 1) t]
    by_cases h : i = t
    · subst h; simp
    · rw [if_neg h]
      by_cases h2 : t < i
      · rw [if_pos h2, if_pos (by omega)]
      · rw [if_neg h2, if_neg (by omega)]
        have : t - i = (t - (i + 1)) + 1 := by omega
        rw [this]
        simp

theorem RelF.init (args : Array Value) (n : Nat) : RelF (F.init args n) { tmps := args ++ Array.replicate (n - args.size) undef, defers := [] } := by
  refine ⟨rfl, by simp [F.init], fun t => ?_⟩
  show _ = getW (argsW 0 args.toList) t
  rw [getW_args]
  simp only [Nat.not_lt_zero, if_false, Nat.sub_zero, Array.getD_eq_getD_getElem?, Array.getElem?_append]
  by_cases h : t < args.size
  · simp [h]
  · have : args.toList[t]? = none := by simp; omega
    simp only [h, if_false, List.getD_eq_getElem?_getD, this]
    simp only [Array.getElem?_replicate]
    split <;> rfl

/-- What the results read. -/
def resF (fn : Func) (g : Nat → Value) : Sem Value := do
  let vs ← fn.results.mapM fun
    | .tmp t => pure (g t)
    | .cell a t => do loadVar t (← asAddr (g a))
  pure (if h : vs.size = 1 then vs[0] else .tuple vs)

theorem resF_eq {f : F} {a : Act} (h : RelF f a) (fn : Func) : results fn a.tmps = resF fn f.get := by
  have : f.get = fun t => a.tmps.getD t undef := funext fun t => (h.get t).symm
  rw [this]
  rfl

/-- Some slots of the frame, spelt anew ahead of the rest. -/
theorem RelF.known {f : F} {a : Act} (h : RelF f a) (l : List (Nat × Value)) (hl : ∀ p ∈ l, f.get p.1 = p.2) : RelF ⟨f.n, l ++ f.w⟩ a := by
  refine ⟨h.defers, h.size, fun t => ?_⟩
  rw [h.get t]
  show getW f.w t = getW (l ++ f.w) t
  induction l with
  | nil => rfl
  | cons p l ih =>
    obtain ⟨i, v⟩ := p
    rw [List.cons_append, getW_cons]
    split
    · rename_i hit
      subst hit
      exact hl (i, v) (by simp)
    · exact ih fun q hq => hl q (by simp [hq])

theorem RelF.full (xs : Array Value) : RelF ⟨xs.size, argsW 0 xs.toList⟩ { tmps := xs, defers := [] } := by
  refine ⟨rfl, rfl, fun t => ?_⟩
  show _ = getW (argsW 0 xs.toList) t
  rw [getW_args]
  simp [Array.getD_eq_getD_getElem?]

/-- A frame of which some slots are known. -/
structure Known (n : Nat) (l : List (Nat × Value)) (a : Act) : Prop where
  defers : a.defers = []
  size : a.tmps.size = n
  get : ∀ p ∈ l, a.tmps.getD p.1 undef = p.2

theorem Known.rel {n : Nat} {l : List (Nat × Value)} {a : Act} (h : Known n l a) : RelF ⟨n, l ++ argsW 0 a.tmps.toList⟩ a := by
  have h0 : RelF ⟨n, argsW 0 a.tmps.toList⟩ a := by
    have := RelF.full a.tmps
    obtain ⟨t, d⟩ := a
    have hd := h.defers
    have hs := h.size
    simp only at hd hs
    subst hd
    subst hs
    exact this
  exact h0.known l fun p hp => by rw [← h0.get]; exact h.get p hp

theorem Known.of {f : F} {a : Act} (h : RelF f a) (l : List (Nat × Value)) (hl : l.map (fun p => f.get p.1) = l.map (·.2)) : Known f.n l a :=
  ⟨h.defers, h.size, fun p hp => by rw [h.get]; exact List.map_inj_left.1 hl p hp⟩


/-- A slot spelt anew. -/
theorem RelF.same {f : F} {a : Act} (h : RelF f a) {t : Nat} {v : Value} (hv : f.get t = v) : RelF (f.put (some t) v) a := by
  obtain ⟨n, w⟩ := f
  show RelF (match Nat.blt t n with
    | true => ⟨n, (t, v) :: w⟩
    | false => ⟨n, w⟩) _
  split
  · refine ⟨h.defers, h.size, fun u => ?_⟩
    rw [h.get u]
    show getW w u = getW ((t, v) :: w) u
    rw [getW_cons]
    split
    · rename_i hu
      subst hu
      exact hv
    · rfl
  · exact h

/-- A list's element. -/
noncomputable def nth {α : Type} (l : List α) : Nat → Option α := @List.rec α (fun _ => Nat → Option α) (fun _ => none) (fun a _ ih j => @Nat.rec (fun _ => Option α) (some a) (fun i _ => ih i) j) l

theorem nth_eq {α : Type} : ∀ (l : List α) (j : Nat), nth l j = l[j]?
  | [], _ => rfl
  | _ :: _, 0 => rfl
  | _ :: l, j + 1 => by
    show nth l j = _
    rw [nth_eq l j]
    simp

end Go.Proofs.Ytbgmkefehfjicaa.Sy
