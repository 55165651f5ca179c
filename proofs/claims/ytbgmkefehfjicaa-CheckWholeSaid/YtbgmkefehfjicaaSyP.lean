/-
  A region that draws its order, makes several blocks and lays down in them: whatever order is drawn, each is a new one.
-/
import Derived.Test.YtbgmkefehfjicaaSyA
import Derived.OrdersHeld
namespace Go.Proofs.Ytbgmkefehfjicaa.Sy
open Go Go.RowKit
open Ev (one cell_of frozen_of)

def pureOf (P : Program) : Sem Next → Option Value
  | .pure (.value v) => some v
  | .program k => pureOf P (k P)
  | .mark _ k => pureOf P k
  | _ => none

theorem pureOf_spec {P : Program} {s : Sem Next} {v : Value} (h : pureOf P s = some v) (W : World) : s.run P W = .ok (.value v) W := by
  induction s with
  | pure x => cases x <;> simp [pureOf] at h; subst h; rfl
  | program k ih => exact ih _ h
  | mark m k ih => exact ih h
  | _ => simp [pureOf] at h

/-- What an operation lays down, and what comes of it. -/
def storesOf (P : Program) : Sem Next → Option (List (Addr × Value) × Next)
  | .pure x => some ([], x)
  | .store _ a v k => match storesOf P k with
    | some (l, x) => some ((a, v) :: l, x)
    | none => none
  | .program k => storesOf P (k P)
  | .mark _ k => storesOf P k
  | _ => none

def newOf (P : Program) : Sem Next → Option (Obj × (Nat → Sem Next))
  | .new c k => some (c, k)
  | .program k => newOf P (k P)
  | .mark _ k => newOf P k
  | _ => none

theorem newOf_run {P : Program} {s : Sem Next} {c : Obj} {k : Nat → Sem Next} (h : newOf P s = some (c, k)) (W : World) : s.run P W = (k W.heap.size).run P { W with heap := W.heap.push c } := by
  induction s with
  | new c' k' ih => simp only [newOf, Option.some.injEq, Prod.mk.injEq] at h; obtain ⟨rfl, rfl⟩ := h; rfl
  | program k ih => exact ih _ h
  | mark m k ih => exact ih h
  | _ => simp [newOf] at h

theorem newOf_stores {P : Program} {s : Sem Next} {r : Obj × (Nat → Sem Next)} (h : newOf P s = some r) : storesOf P s = none := by
  induction s with
  | new c' k' ih => rfl
  | program k ih => exact ih _ h
  | mark m k ih => exact ih h
  | _ => simp [newOf] at h

def nextVal : Next → Option Value
  | .value v => some v
  | .skip => some undef
  | _ => none

/-- What a simple operation does: it lays something down and has a value, or makes a block and has a value that hangs on its number. -/
inductive Simple where
  | act (l : List (Addr × Value)) (v : Value)
  | new (c : Obj) (v : Nat → Value)

def pushW (W : World) (c : Obj) : World := { W with heap := W.heap.push c }

def stoOp (o : Oper) : Bool := match o.op with
  | .store .. => true
  | _ => false

/-- What may come in between; the others wait for all of them. -/
def plainOp (o : Oper) : Bool := match o.op with
  | .call c => match c.callee with
    | .builtin _ => true
    | _ => false
  | _ => true

def Does (P : Program) (ops : Array Oper) (o : Oper) (a : Act) : Simple → Prop
  | .act l v => (Region.wanted o (yielded ops a.tmps) = true ∧ (stoOp o = false → l = []) ∧ ∃ nx, storesOf P (execOp a.eval o) = some (l, nx) ∧ nextVal nx = some v) ∨ (Region.wanted o (yielded ops a.tmps) = false ∧ l = [] ∧ v = undef)
  | .new c v => Region.wanted o (yielded ops a.tmps) = true ∧ ∃ k, newOf P (execOp a.eval o) = some (c, k) ∧ ∀ n, pureOf P (k n) = some (v n)

section
variable {P : Program} {ops : Array Oper}

theorem Does.of_same {o : Oper} {a a' : Act} {r : Simple} (h : Does P ops o a r) (he : execOp a'.eval o = execOp a.eval o) (hw : Region.wanted o (yielded ops a'.tmps) = Region.wanted o (yielded ops a.tmps)) : Does P ops o a' r := by
  cases r <;> (unfold Does at *; rw [he, hw]; exact h)

theorem Does.uniq {o : Oper} {a : Act} {r r' : Simple} (h : Does P ops o a r) (h' : Does P ops o a r') : r = r' := by
  cases r with
  | act l v =>
    cases r' with
    | act l' v' =>
      rcases h with ⟨h1, -, nx, h2, h2'⟩ | ⟨h1, rfl, rfl⟩ <;> rcases h' with ⟨h3, -, nx', h4, h4'⟩ | ⟨h3, rfl, rfl⟩
      · rw [h2] at h4
        simp only [Option.some.injEq, Prod.mk.injEq] at h4
        obtain ⟨rfl, rfl⟩ := h4
        rw [h2'] at h4'
        injection h4' with h4'
        rw [h4']
      · rw [h1] at h3; cases h3
      · rw [h1] at h3; cases h3
      · rfl
    | new c v' =>
      obtain ⟨h3, k, h4, -⟩ := h'
      rcases h with ⟨h1, -, nx, h2, h2'⟩ | ⟨h1, rfl, rfl⟩
      · rw [newOf_stores h4] at h2; cases h2
      · rw [h1] at h3; cases h3
  | new c v =>
    obtain ⟨h1, k, h2, hv⟩ := h
    cases r' with
    | act l' v' =>
      rcases h' with ⟨h3, -, nx, h4, -⟩ | ⟨h3, rfl, rfl⟩
      · rw [newOf_stores h2] at h4; cases h4
      · rw [h1] at h3; cases h3
    | new c' v' =>
      obtain ⟨h3, k', h4, hv'⟩ := h'
      rw [h2] at h4
      simp only [Option.some.injEq, Prod.mk.injEq] at h4
      obtain ⟨rfl, rfl⟩ := h4
      have hv : v = v' := by
        funext n
        have h5 := (hv n).symm.trans (hv' n)
        injection h5
      rw [hv]

/-- Nobody who could come before number i touches its temporaries. -/
def FreeAt (ops : Array Oper) (listed : Array Bool) (i : Nat) (oi : Oper) : Prop :=
  ∀ j oj, ops[j]? = some oj → j ≠ i → listed.getD j true = false → (∀ e ∈ oj.after, Region.binds .any e = true → e.on ≠ i) → oi.apart ops oj = true

theorem FreeAt.more {listed : Array Bool} {i j : Nat} {oi : Oper} (h : FreeAt ops listed i oi) : FreeAt ops (listed.setIfInBounds j true) i oi := fun k ok hk hki hun hno => by
  refine h k ok hk hki ?_ hno
  by_cases hjk : j = k
  · subst hjk
    rcases Nat.lt_or_ge j listed.size with h' | h'
    · simp [h'] at hun
    · simp [Nat.not_lt.2 h'] at hun
  · rwa [getD_set_ne true hjk] at hun

/-- The new blocks. -/
abbrev News := Nat → Option Obj
def putN (N : News) (n : Nat) (c : Obj) : News := fun k => if k = n then some c else N k

theorem putN_comm {N : News} {n m : Nat} {c d : Obj} (h : n ≠ m) : putN (putN N n c) m d = putN (putN N m d) n c := by
  funext k
  simp only [putN]
  by_cases h1 : k = m <;> by_cases h2 : k = n <;> simp [h1, h2]
  · subst h1 h2; exact absurd rfl h
  · subst h1; simp_all
  · subst h2; simp_all

def sto1 (N : News) (p : Addr × Value) : Option News := match N p.1.block with
  | some (.cells c t (lo, hi)) => match p.1.spot, one p.2 with
    | none, true => match c.toList[p.1.off]?, (decide (lo ≤ p.1.off) && decide (p.1.off < hi)) with
      | some _, false => some (putN N p.1.block (.cells (c.setIfInBounds p.1.off p.2) t (lo, hi)))
      | _, _ => none
    | _, _ => none
  | _ => none

def stos : News → List (Addr × Value) → Option News
  | N, [] => some N
  | N, p :: r => match sto1 N p with
    | some N' => stos N' r
    | none => none

theorem sto1_spec {N N' : News} {p : Addr × Value} (h : sto1 N p = some N') : ∃ c t lo hi u, N p.1.block = some (.cells c t (lo, hi)) ∧ p.1.spot = none ∧ one p.2 = true ∧ c.toList[p.1.off]? = some u ∧ (decide (lo ≤ p.1.off) && decide (p.1.off < hi)) = false ∧ N' = putN N p.1.block (.cells (c.setIfInBounds p.1.off p.2) t (lo, hi)) := by
  unfold sto1 at h
  split at h
  · rename_i c t lo hi hN
    split at h
    · rename_i hs ho
      split at h
      · rename_i u hu hf
        injection h with h
        exact ⟨c, t, lo, hi, u, hN, hs, ho, hu, hf, h.symm⟩
      · cases h
    · cases h
  · cases h

theorem sto1_of {N : News} {p : Addr × Value} {c : Array Value} {t : TypeId} {lo hi : Nat} {u : Value} (h1 : N p.1.block = some (.cells c t (lo, hi))) (h2 : p.1.spot = none) (h3 : one p.2 = true) (h4 : c.toList[p.1.off]? = some u) (h5 : (decide (lo ≤ p.1.off) && decide (p.1.off < hi)) = false) :
    sto1 N p = some (putN N p.1.block (.cells (c.setIfInBounds p.1.off p.2) t (lo, hi))) := by
  unfold sto1
  simp only [h1, h2, h3, h4, h5]

theorem sto1_dom {N N' : News} {p : Addr × Value} (h : sto1 N p = some N') (k : Nat) : N' k = none ↔ N k = none := by
  obtain ⟨c, t, lo, hi, u, h1, -, -, -, -, rfl⟩ := sto1_spec h
  simp only [putN]
  split
  · rename_i hk; subst hk; simp [h1]
  · exact Iff.rfl

theorem stos_dom : ∀ {l : List (Addr × Value)} {N N' : News}, stos N l = some N' → ∀ k, N' k = none ↔ N k = none
  | [], N, N', h, k => by simp only [stos, Option.some.injEq] at h; rw [h]
  | p :: r, N, N', h, k => by
    simp only [stos] at h
    split at h
    · rename_i N1 h1
      exact (stos_dom h k).trans (sto1_dom h1 k)
    · cases h

theorem stos_in : ∀ {l : List (Addr × Value)} {N N' : News}, stos N l = some N' → ∀ p ∈ l, N p.1.block ≠ none
  | [], N, N', h, p, hp => by cases hp
  | q :: r, N, N', h, p, hp => by
    simp only [stos] at h
    split at h
    · rename_i N1 h1
      rcases List.mem_cons.1 hp with rfl | hp
      · obtain ⟨c, t, lo, hi, u, h2, -⟩ := sto1_spec h1
        rw [h2]; exact nofun
      · exact fun h0 => stos_in h p hp ((sto1_dom h1 _).2 h0)
    · cases h

theorem sto1_put {N : News} {p : Addr × Value} {n : Nat} {c : Obj} (hne : p.1.block ≠ n) : sto1 (putN N n c) p = (sto1 N p).map fun N' => putN N' n c := by
  have h0 : putN N n c p.1.block = N p.1.block := by simp [putN, hne]
  unfold sto1
  rw [h0]
  split
  · split
    · split
      · simp only [Option.map_some]
        rw [putN_comm (Ne.symm hne)]
      · rfl
    · rfl
  · rfl

theorem stos_put : ∀ {l : List (Addr × Value)} {N : News} {n : Nat} {c : Obj}, (∀ p ∈ l, p.1.block ≠ n) → stos (putN N n c) l = (stos N l).map fun N' => putN N' n c
  | [], N, n, c, h => rfl
  | p :: r, N, n, c, h => by
    simp only [stos, sto1_put (h p List.mem_cons_self)]
    cases sto1 N p with
    | none => rfl
    | some N1 => exact stos_put (fun q hq => h q (List.mem_cons_of_mem _ hq))

def After (K : Array Bool → Act → News → Prop) (listed : Array Bool) (a : Act) (N : News) (i : Nat) (o : Oper) : Simple → Prop
  | .act l v => ∃ N', stos N l = some N' ∧ K (listed.setIfInBounds i true) (a.put o.dst v) N'
  | .new c v => ∀ n, N n = none → K (listed.setIfInBounds i true) (a.put o.dst (v n)) (putN N n c)

def AllPlain (ops : Array Oper) (listed : Array Bool) : Prop := ∀ i o, ops[i]? = some o → listed.getD i true = false → plainOp o = false
def Ordered (ops : Array Oper) (listed : Array Bool) : Prop := ∀ i p o q, ops[i]? = some o → listed.getD i true = false → plainOp o = false → ops[p]? = some q → listed.getD p true = false → plainOp q = true →
  ∃ e ∈ o.after, Region.binds .any e = true ∧ e.on = p

/-- Of two that lay something down the one waits for the other. -/
def Chain (ops : Array Oper) (listed : Array Bool) : Prop := ∀ i p o q, i ≠ p → ops[i]? = some o → listed.getD i true = false → stoOp o = true → ops[p]? = some q → listed.getD p true = false → stoOp q = true →
  (∃ e ∈ o.after, Region.binds .any e = true ∧ e.on = p) ∨ (∃ e ∈ q.after, Region.binds .any e = true ∧ e.on = i)

theorem getD_set_of {listed : Array Bool} {i j : Nat} (h : (listed.setIfInBounds j true).getD i true = false) : listed.getD i true = false := by
  by_cases hjk : j = i
  · subst hjk
    rcases Nat.lt_or_ge j listed.size with h' | h'
    · simp [h'] at h
    · simp [Nat.not_lt.2 h'] at h
  · rwa [getD_set_ne true hjk] at h

theorem Ordered.more {listed : Array Bool} (h : Ordered ops listed) (j : Nat) : Ordered ops (listed.setIfInBounds j true) := fun i p o q h1 h2 h3 h4 h5 h6 => h i p o q h1 (getD_set_of h2) h3 h4 (getD_set_of h5) h6

theorem getD_of_ready {listed : Array Bool} {i : Nat} (h : i ∈ Region.ready .any ops listed) : listed.getD i true = false := (mem_ready.1 h).1

theorem Ordered.plain {listed : Array Bool} (h : Ordered ops listed) {i j : Nat} {o oj : Oper} (hi : ops[i]? = some o) (hiu : listed.getD i true = false) (hp : plainOp o = true) (hj : j ∈ Region.ready .any ops listed) (hoj : ops[j]? = some oj) : plainOp oj = true := by
  cases hq : plainOp oj with
  | true => rfl
  | false =>
    obtain ⟨e, he, hb, heq⟩ := h j i oj o hoj (getD_of_ready hj) hq hi hiu hp
    obtain ⟨_, o', ho', hall⟩ := mem_ready.1 hj
    rw [hoj] at ho'
    injection ho' with ho'
    subst ho'
    have h1 := hall e he hb
    rw [heq] at h1
    rcases Nat.lt_or_ge i listed.size with h' | h'
    · simp [h'] at hiu h1; rw [hiu] at h1; cases h1
    · simp [Array.getElem?_eq_none h'] at h1

theorem Chain.more {listed : Array Bool} (h : Chain ops listed) (j : Nat) : Chain ops (listed.setIfInBounds j true) := fun i p o q h0 h1 h2 h3 h4 h5 h6 => h i p o q h0 h1 (getD_set_of h2) h3 h4 (getD_set_of h5) h6

def CanK (P : Program) (ops : Array Oper) (Fin : Nat → Array Bool → Act → News → Prop) : Nat → Array Bool → Act → News → Prop
  | 0, listed, a, N => AllPlain ops listed ∧ Fin 0 listed a N
  | k + 1, listed, a, N => (AllPlain ops listed ∧ Fin (k + 1) listed a N) ∨
    ∃ i o r, ops[i]? = some o ∧ plainOp o = true ∧ i ∈ Region.ready .any ops listed ∧ FreeAt ops listed i o ∧ Does P ops o a r ∧ After (CanK P ops Fin k) listed a N i o r

variable {Fin : Nat → Array Bool → Act → News → Prop}

theorem not_waits {listed : Array Bool} {i j : Nat} {oj : Oper} (hi : i ∈ Region.ready .any ops listed) (hj : j ∈ Region.ready .any ops listed) (hoj : ops[j]? = some oj) : ∀ e ∈ oj.after, Region.binds .any e = true → e.on ≠ i := fun e he hb heq => by
  obtain ⟨_, o, ho, hall⟩ := mem_ready.1 hj
  rw [hoj] at ho
  injection ho with ho
  subst ho
  have h1 := hall e he hb
  have h0 := (mem_ready.1 hi).1
  rw [heq] at h1
  rcases Nat.lt_or_ge i listed.size with h' | h'
  · simp [h'] at h0 h1; rw [h0] at h1; cases h1
  · simp [Array.getElem?_eq_none h'] at h1

theorem Chain.one {listed : Array Bool} (h : Chain ops listed) {i j : Nat} {o oj : Oper} (hi : i ∈ Region.ready .any ops listed) (ho : ops[i]? = some o) (hj : j ∈ Region.ready .any ops listed) (hoj : ops[j]? = some oj) (hne : i ≠ j) : stoOp o = false ∨ stoOp oj = false := by
  cases h1 : stoOp o with
  | false => exact .inl rfl
  | true =>
    cases h2 : stoOp oj with
    | false => exact .inr rfl
    | true =>
      rcases h i j o oj hne ho (getD_of_ready hi) h1 hoj (getD_of_ready hj) h2 with ⟨e, he, hb, hon⟩ | ⟨e, he, hb, hon⟩
      · exact absurd hon (not_waits hj hi ho e he hb)
      · exact absurd hon (not_waits hi hj hoj e he hb)

theorem Does.nil {o : Oper} {a : Act} {l : List (Addr × Value)} {v : Value} (h : Does P ops o a (.act l v)) (hs : stoOp o = false) : l = [] := by
  rcases h with ⟨-, h, -⟩ | ⟨-, h, -⟩
  · exact h hs
  · exact h

theorem exists_fresh (B : Nat) (l : List (Addr × Value)) : ∃ n, B ≤ n ∧ ∀ p ∈ l, p.1.block ≠ n := by
  induction l generalizing B with
  | nil => exact ⟨B, Nat.le_refl _, fun _ h => by cases h⟩
  | cons p r ih =>
    obtain ⟨n, h1, h2⟩ := ih (max B (p.1.block + 1))
    refine ⟨n, by omega, fun q hq => ?_⟩
    rcases List.mem_cons.1 hq with rfl | hq
    · omega
    · exact h2 q hq

def Bounded (N : News) : Prop := ∃ B, ∀ k, B ≤ k → N k = none
theorem Bounded.put {N : News} (h : Bounded N) (n : Nat) (c : Obj) : Bounded (putN N n c) := by
  obtain ⟨B, h⟩ := h
  refine ⟨max B (n + 1), fun k hk => ?_⟩
  simp only [putN]
  rw [if_neg (by omega)]
  exact h k (by omega)
theorem Bounded.stos {N N' : News} (h : Bounded N) {l : List (Addr × Value)} (hs : stos N l = some N') : Bounded N' := by
  obtain ⟨B, h⟩ := h
  exact ⟨B, fun k hk => (stos_dom hs k).2 (h k hk)⟩

theorem swap (hs : Region.noSelect ops = true) : ∀ {k : Nat} {listed : Array Bool} {a : Act} {N : News} {j : Nat} {oj : Oper}, Chain ops listed → Bounded N → CanK P ops Fin (k + 1) listed a N → j ∈ Region.ready .any ops listed → ops[j]? = some oj → plainOp oj = true →
    ∃ r, Does P ops oj a r ∧ After (CanK P ops Fin k) listed a N j oj r := by
  intro k
  induction k with
  | zero =>
    intro listed a N j oj hch hB h hj hoj hpj
    rcases h with h | ⟨i, o, r, h1, h1p, h2, h3, h4, h5⟩
    · rw [h.1 j oj hoj (getD_of_ready hj)] at hpj; cases hpj
    · by_cases hji : j = i
      · subst hji
        rw [hoj] at h1
        injection h1 with h1
        subst h1
        exact ⟨r, h4, h5⟩
      · have h6 := ready_mono hj hji
        have : AllPlain ops (listed.setIfInBounds i true) := by
          cases r with
          | act l v => obtain ⟨N', -, h5⟩ := h5; exact h5.1
          | new c v =>
            obtain ⟨B, hB⟩ := hB
            exact (h5 B (hB B (Nat.le_refl _))).1
        rw [this j oj hoj (getD_of_ready h6)] at hpj; cases hpj
  | succ k ih =>
    intro listed a N j oj hch hB h hj hoj hpj
    rcases h with h | ⟨i, o, r, h1, h1p, h2, h3, h4, h5⟩
    · rw [h.1 j oj hoj (getD_of_ready hj)] at hpj; cases hpj
    by_cases hji : j = i
    · subst hji
      rw [hoj] at h1
      injection h1 with h1
      subst h1
      exact ⟨r, h4, h5⟩
    have h6 := ready_mono hj hji
    obtain ⟨p1, p2, p3⟩ := Oper.apart_spec (h3 j oj hoj hji (mem_ready.1 hj).1 (not_waits h2 hj hoj))
    have back : ∀ (u : Value) {r : Simple}, Does P ops oj (a.put o.dst u) r → Does P ops oj a r := fun u r hd =>
      hd.of_same (execOp_put oj (Region.noSelect_spec hs j oj · · hoj) a o.dst u p1).symm (wanted_put oj a o.dst u p1).symm
    have forth : ∀ (u : Value), Does P ops o (a.put oj.dst u) r := fun u =>
      h4.of_same (execOp_put o (Region.noSelect_spec hs i o · · h1) a oj.dst u p3) (wanted_put o a oj.dst u p3)
    have hri : i ∈ Region.ready .any ops (listed.setIfInBounds j true) := ready_mono h2 (Ne.symm hji)
    have hset : (listed.setIfInBounds i true).setIfInBounds j true = (listed.setIfInBounds j true).setIfInBounds i true := Array.setIfInBounds_comm _ _ (fun h => hji h.symm)
    have hput : ∀ u v : Value, (a.put o.dst u).put oj.dst v = (a.put oj.dst v).put o.dst u := fun u v => (Act.put_comm a u v p2)
    have hone := hch.one h2 h1 hj hoj (Ne.symm hji)
    cases r with
    | act l v =>
      obtain ⟨Ni, hNi, h5⟩ := h5
      obtain ⟨rj, hd, ha⟩ := ih (hch.more i) (hB.stos hNi) h5 h6 hoj hpj
      have hd0 := back v hd
      refine ⟨rj, hd0, ?_⟩
      cases rj with
      | act lj vj =>
        obtain ⟨Nj, hNj, ha⟩ := ha
        rw [hset, hput] at ha
        rcases hone with h0 | h0
        · obtain rfl := h4.nil h0
          simp only [stos, Option.some.injEq] at hNi
          subst hNi
          exact ⟨Nj, hNj, .inr ⟨i, o, .act [] v, h1, h1p, hri, h3.more, forth vj, Nj, rfl, ha⟩⟩
        · obtain rfl := hd0.nil h0
          simp only [stos, Option.some.injEq] at hNj
          subst hNj
          exact ⟨N, rfl, .inr ⟨i, o, .act l v, h1, h1p, hri, h3.more, forth vj, Ni, hNi, ha⟩⟩
      | new c vj =>
        intro n hn
        refine .inr ⟨i, o, .act l v, h1, h1p, hri, h3.more, forth _, putN Ni n c, ?_, ?_⟩
        · rw [stos_put (fun p hp he => stos_in hNi p hp (by rw [he]; exact hn)), hNi]; rfl
        · rw [← hset, ← hput]; exact ha n ((stos_dom hNi n).2 hn)
    | new c v =>
      have hB' := hB
      obtain ⟨B, hB'⟩ := hB'
      obtain ⟨rj, hd, _⟩ := ih (hch.more i) (hB.put B c) (h5 B (hB' B (Nat.le_refl _))) h6 hoj hpj
      have hd0 := back _ hd
      refine ⟨rj, hd0, ?_⟩
      have key : ∀ n, N n = none → After (CanK P ops Fin k) (listed.setIfInBounds i true) (a.put o.dst (v n)) (putN N n c) j oj rj := fun n hn => by
        obtain ⟨r', hd', ha'⟩ := ih (hch.more i) (hB.put n c) (h5 n hn) h6 hoj hpj
        rw [hd0.uniq (back _ hd')]
        exact ha'
      cases rj with
      | act lj vj =>
        obtain ⟨n0, hn0, hf0⟩ := exists_fresh B lj
        obtain ⟨N1, hN1, -⟩ := key n0 (hB' n0 hn0)
        rw [stos_put hf0] at hN1
        cases hN2 : stos N lj with
        | none => rw [hN2] at hN1; cases hN1
        | some N2 =>
          refine ⟨N2, hN2, .inr ⟨i, o, .new c v, h1, h1p, hri, h3.more, forth vj, fun n hn => ?_⟩⟩
          have hn' := (stos_dom hN2 n).1 hn
          obtain ⟨N3, hN3, ha⟩ := key n hn'
          rw [stos_put (fun p hp he => stos_in hN2 p hp (by rw [he]; exact hn')), hN2] at hN3
          simp only [Option.map_some, Option.some.injEq] at hN3
          subst hN3
          rw [← hset, ← hput]
          exact ha
      | new c' vj =>
        intro m hm
        refine .inr ⟨i, o, .new c v, h1, h1p, hri, h3.more, forth _, fun n hn => ?_⟩
        have hnm : n ≠ m := fun he => by subst he; simp [putN] at hn
        have hn' : N n = none := by simpa [putN, hnm] using hn
        rw [← hset, ← hput, ← putN_comm hnm]
        exact key n hn' m (by simp [putN, Ne.symm hnm, hm])

/-- As w1, but for new blocks. -/
structure Grown (w1 : World) (N : News) (W : World) : Prop where
  os : W.os = w1.os
  tape : W.tape = w1.tape
  output : W.output = w1.output
  size : w1.heap.size ≤ W.heap.size
  old : ∀ k, k < w1.heap.size → W.heap[k]? = w1.heap[k]?
  blk : ∀ k o, N k = some o → w1.heap.size ≤ k ∧ W.heap[k]? = some o

theorem Grown.fresh {w1 W : World} {N : News} (h : Grown w1 N W) : N W.heap.size = none := by
  cases hN : N W.heap.size with
  | none => rfl
  | some o =>
    have := (h.blk _ _ hN).2
    rw [Array.getElem?_eq_none (Nat.le_refl _)] at this
    cases this

theorem Grown.bounded {w1 W : World} {N : News} (h : Grown w1 N W) : Bounded N := ⟨W.heap.size, fun k hk => by
  cases hN : N k with
  | none => rfl
  | some o =>
    have := (h.blk _ _ hN).2
    rw [Array.getElem?_eq_none hk] at this
    cases this⟩

theorem Grown.push {w1 W : World} {N : News} (c : Obj) (h : Grown w1 N W) : Grown w1 (putN N W.heap.size c) (pushW W c) := by
  refine ⟨h.os, h.tape, h.output, ?_, fun k hk => ?_, fun k o hk => ?_⟩
  · show w1.heap.size ≤ (W.heap.push c).size
    have := h.size
    simp; omega
  · show (W.heap.push c)[k]? = _
    have := h.size
    rw [Array.getElem?_push, if_neg (by omega)]
    exact h.old k hk
  · simp only [putN] at hk
    show _ ∧ (W.heap.push c)[k]? = _
    split at hk
    · rename_i he
      subst he
      exact ⟨h.size, by simpa using hk⟩
    · rename_i hne
      obtain ⟨h1, h2⟩ := h.blk k o hk
      exact ⟨h1, by rw [Array.getElem?_push, if_neg hne]; exact h2⟩

theorem Grown.sto {w1 W : World} {N N' : News} {p : Addr × Value} (h : Grown w1 N W) (hs : sto1 N p = some N') : ∃ u, W.cell? p.1 = some u ∧ W.frozen? p.1 = false ∧ one p.2 = true ∧ Grown w1 N' (W.setCell p.1 p.2) := by
  obtain ⟨c, t, lo, hi, u, h1, h2, h3, h4, h5, rfl⟩ := sto1_spec hs
  obtain ⟨hb, hat⟩ := h.blk _ _ h1
  have hcell : W.cell? p.1 = some u := by rw [cell_of rfl hat h2]; simpa using h4
  have hfz : W.frozen? p.1 = false := by rw [frozen_of rfl hat]; exact h5
  refine ⟨u, hcell, hfz, h3, h.os, h.tape, h.output, by simpa [World.setCell] using h.size, fun k hk => ?_, fun k o hk => ?_⟩
  · simp only [World.setCell, Array.getElem?_modify]
    rw [if_neg (by omega)]
    exact h.old k hk
  · simp only [putN] at hk
    simp only [World.setCell, Array.getElem?_modify]
    split at hk
    · rename_i he
      subst he
      injection hk with hk
      subst hk
      refine ⟨hb, ?_⟩
      rw [if_pos rfl, hat]
      simp [h2]
    · rename_i hne
      rw [if_neg (fun he => hne he.symm)]
      exact h.blk k o hk

theorem stores_run {s : Sem Next} : ∀ {w1 W : World} {N N' : News} {l : List (Addr × Value)} {nx : Next}, storesOf P s = some (l, nx) → Grown w1 N W → stos N l = some N' → ∃ W', s.run P W = .ok nx W' ∧ Grown w1 N' W' := by
  induction s with
  | pure x =>
    intro w1 W N N' l nx h hg hs
    simp only [storesOf, Option.some.injEq, Prod.mk.injEq] at h
    obtain ⟨rfl, rfl⟩ := h
    simp only [stos, Option.some.injEq] at hs
    subst hs
    exact ⟨W, rfl, hg⟩
  | store m a v k ih =>
    intro w1 W N N' l nx h hg hs
    simp only [storesOf] at h
    split at h
    · rename_i l' x hk
      simp only [Option.some.injEq, Prod.mk.injEq] at h
      obtain ⟨rfl, rfl⟩ := h
      simp only [stos] at hs
      split at hs
      · rename_i N1 h1
        obtain ⟨u, hcell, hfz, hone, hg1⟩ := hg.sto h1
        obtain ⟨W', h2, h3⟩ := ih hk hg1 hs
        refine ⟨W', ?_, h3⟩
        cases v <;> first | (simp [one] at hone; done) | (simp only [Sem.run, hcell, hfz]; exact h2)
      · cases hs
    · cases h
  | program k ih => intro w1 W N N' l nx h hg hs; exact ih _ h hg hs
  | mark m k ih => intro w1 W N N' l nx h hg hs; exact ih h hg hs
  | _ => intro w1 W N N' l nx h; simp [storesOf] at h

/-! ### Regions with an end behind which nothing need hold -/

/-- Whatever order is picked; S holds behind every operation but those that wait for all that was taken at once. -/
def wpAnyX (P : Program) (ops : Array Oper) (Q : Exit → Act → World → Prop) (S : World → Prop) (fin : Nat → Prop) : Nat → Array Bool → Act → World → Prop
  | 0, listed, a, w => Region.ready .any ops listed = [] ∧ Q .normal a w
  | fuel + 1, listed, a, w =>
    (Region.ready .any ops listed = [] → Q .normal a w) ∧
    ∀ i ∈ Region.ready .any ops listed, wpOp P ops Q i (fun a' w' => (fin i ∨ (S w → S w')) ∧ wpAnyX P ops Q S fin fuel (listed.setIfInBounds i true) a' w') a w

section anyX
variable {P : Program} {ops : Array Oper} {Q : Exit → Act → World → Prop} {S : World → Prop} {fin : Nat → Prop}

theorem wpAny_of_X : ∀ (fuel : Nat) (listed : Array Bool) (a : Act) (w : World), wpAnyX P ops Q S fin fuel listed a w → wpAny P .any ops Q fuel listed a w
  | 0, _, _, _, h => h
  | fuel + 1, _, _, _, h => ⟨h.1, fun i hi => wpOp_mono (fun a' w' h' => wpAny_of_X fuel _ a' w' h'.2) (h.2 i hi)⟩

/-- i is listed ahead of j, directly or by others. -/
inductive Waits (ops : Array Oper) (i : Nat) : Nat → Prop where
  | direct {j : Nat} {oj : Oper} {e : Edge} (hj : ops[j]? = some oj) (he : e ∈ oj.after) (hb : Region.binds .any e = true) (ho : e.on = i) : Waits ops i j
  | step {j : Nat} {oj : Oper} {e : Edge} (hj : ops[j]? = some oj) (he : e ∈ oj.after) (hb : Region.binds .any e = true) (h : Waits ops i e.on) : Waits ops i j

/-- What is listed waits for nothing that is not. -/
def ClosedL (ops : Array Oper) (listed : Array Bool) : Prop := ∀ (j : Nat) (oj : Oper), ops[j]? = some oj → listed.getD j false = true → ∀ e ∈ oj.after, Region.binds .any e = true → listed.getD e.on false = true

theorem ClosedL.waits {listed : Array Bool} (h : ClosedL ops listed) {i : Nat} : ∀ {j : Nat}, Waits ops i j → listed.getD j false = true → listed.getD i false = true := by
  intro j hw
  induction hw with
  | direct hj he hb ho => intro hl; rw [← ho]; exact h _ _ hj hl _ he hb
  | step hj he hb _ ih => intro hl; exact ih (h _ _ hj hl _ he hb)

theorem ClosedL.ready {listed : Array Bool} (h : ClosedL ops listed) {i j : Nat} (hw : Waits ops i j) (hj : j ∈ Region.ready .any ops listed) : listed.getD i false = true := by
  obtain ⟨-, oj, hoj, hall⟩ := mem_ready.1 hj
  cases hw with
  | direct h1 he hb ho =>
    rw [hoj] at h1
    injection h1 with h1
    subst h1
    rw [← ho]
    exact hall _ he hb
  | step h1 he hb hw =>
    rw [hoj] at h1
    injection h1 with h1
    subst h1
    exact h.waits hw (hall _ he hb)

theorem ClosedL.set {listed : Array Bool} (h : ClosedL ops listed) {j : Nat} (hj : j ∈ Region.ready .any ops listed) : ClosedL ops (listed.setIfInBounds j true) := by
  intro k ok hk hl e he hb
  have hup : ∀ n : Nat, listed.getD n false = true → (listed.setIfInBounds j true).getD n false = true := fun n hn => by
    by_cases hjn : j = n
    · subst hjn
      rcases Nat.lt_or_ge j listed.size with h' | h'
      · simp [h']
      · simp [Array.getElem?_eq_none h'] at hn
    · rw [getD_set_ne false hjn]; exact hn
  by_cases hjk : j = k
  · subst hjk
    obtain ⟨-, oj, hoj, hall⟩ := mem_ready.1 hj
    rw [hoj] at hk
    injection hk with hk
    subst hk
    exact hup _ (hall e he hb)
  · rw [getD_set_ne false hjk] at hl
    exact hup _ (h k ok hk hl e he hb)

theorem Waits.trans {i k f : Nat} (h1 : Waits ops i k) (h2 : Waits ops k f) : Waits ops i f := by
  induction h2 with
  | direct hj he hb ho => exact .step hj he hb (by rw [ho]; exact h1)
  | step hj he hb _ ih => exact .step hj he hb ih

theorem wpAnyX_first {i : Nat} {oi : Oper} {v : Value} (hi : ops[i]? = some oi) (hsel : ∀ (j : Nat) (o : Oper) cs b, ops[j]? = some o → o.op ≠ .select cs b)
    (hQ : ∀ c a w, Q (.panic c) (a.put oi.dst v) w → Q (.panic c) a w) (hfin : ∀ j oj, fin j → ops[j]? = some oj → Waits ops i j) :
    ∀ (fuel : Nat) (listed : Array Bool) (a : Act) (w : World), ClosedL ops listed →
      (∀ j oj, ops[j]? = some oj → j ≠ i → listed.getD j true = false → (∀ e ∈ oj.after, Region.binds .any e = true → e.on ≠ i) → oi.apart ops oj = true) →
      i ∈ Region.ready .any ops listed → YieldsIf P ops S oi v a → S w →
      wpAnyX P ops Q S fin fuel (listed.setIfInBounds i true) (a.put oi.dst v) w → wpAnyX P ops Q S fin (fuel + 1) listed a w := by
  intro fuel
  induction fuel with
  | zero =>
    intro listed a w _ _ hr hy hS H
    refine ⟨fun h => (by rw [h] at hr; cases hr), fun j hj => ?_⟩
    by_cases hji : j = i
    · subst hji; exact hy.wpOp hi hS ⟨.inr fun _ => hS, H⟩
    · have := ready_mono hj hji
      rw [H.1] at this
      cases this
  | succ fuel ih =>
    intro listed a w hcl hfree hr hy hS H
    refine ⟨fun h => (by rw [h] at hr; cases hr), fun j hj => ?_⟩
    by_cases hji : j = i
    · subst hji; exact hy.wpOp hi hS ⟨.inr fun _ => hS, H⟩
    · have h1 := H.2 j (ready_mono hj hji)
      obtain ⟨hjun, oj, hoj, hall⟩ := mem_ready.1 hj
      have hnot : ∀ e ∈ oj.after, Region.binds .any e = true → e.on ≠ i := fun e he hb heq => by
        have h1 := hall e he hb
        have h0 := (mem_ready.1 hr).1
        rw [heq] at h1
        rcases Nat.lt_or_ge i listed.size with h' | h'
        · simp [h'] at h0 h1; rw [h0] at h1; cases h1
        · simp [Array.getElem?_eq_none h'] at h1
      have hnf : ¬ fin j := fun hf => by
        have h1 := hcl.ready (hfin j oj hf hoj) hj
        have h0 := (mem_ready.1 hr).1
        rcases Nat.lt_or_ge i listed.size with h' | h'
        · simp [h'] at h0 h1; rw [h0] at h1; cases h1
        · simp [Array.getElem?_eq_none h'] at h0
      have h2 := wpOp_putIf hoj (hfree j oj hoj hji hjun hnot) (fun cs b => hsel i oi cs b hi) (fun cs b => hsel j oj cs b hoj) hQ hy h1
      have hfree' : ∀ k ok, ops[k]? = some ok → k ≠ i → (listed.setIfInBounds j true).getD k true = false →
          (∀ e ∈ ok.after, Region.binds .any e = true → e.on ≠ i) → oi.apart ops ok = true := fun k ok hk hki hun hno => by
        refine hfree k ok hk hki ?_ hno
        by_cases hjk : j = k
        · subst hjk; exact hjun
        · rw [getD_set_ne true hjk] at hun; exact hun
      refine wpOp_mono (fun a' w' h3 => ?_) h2
      have hS' := (h3.2.1.resolve_left hnf) hS
      refine ⟨.inr fun _ => hS', ih (listed.setIfInBounds j true) a' w' (hcl.set hj) hfree' (ready_mono hr (Ne.symm hji)) h3.1 hS' ?_⟩
      rw [Array.setIfInBounds_comm _ _ hji]
      exact h3.2.2

/-- One that reads nothing: whatever holds. -/
theorem wpAnyX_firstP {i : Nat} {oi : Oper} {v : Value} (hi : ops[i]? = some oi) (hsel : ∀ (j : Nat) (o : Oper) cs b, ops[j]? = some o → o.op ≠ .select cs b)
    (hQ : ∀ c a w, Q (.panic c) (a.put oi.dst v) w → Q (.panic c) a w) :
    ∀ (fuel : Nat) (listed : Array Bool) (a : Act) (w : World),
      (∀ j oj, ops[j]? = some oj → j ≠ i → listed.getD j true = false → (∀ e ∈ oj.after, Region.binds .any e = true → e.on ≠ i) → oi.apart ops oj = true) →
      i ∈ Region.ready .any ops listed → YieldsIf P ops (fun _ => True) oi v a →
      wpAnyX P ops Q S fin fuel (listed.setIfInBounds i true) (a.put oi.dst v) w → wpAnyX P ops Q S fin (fuel + 1) listed a w := by
  intro fuel
  induction fuel with
  | zero =>
    intro listed a w _ hr hy H
    refine ⟨fun h => (by rw [h] at hr; cases hr), fun j hj => ?_⟩
    by_cases hji : j = i
    · subst hji; exact hy.wpOp hi trivial ⟨.inr fun h => h, H⟩
    · have := ready_mono hj hji
      rw [H.1] at this
      cases this
  | succ fuel ih =>
    intro listed a w hfree hr hy H
    refine ⟨fun h => (by rw [h] at hr; cases hr), fun j hj => ?_⟩
    by_cases hji : j = i
    · subst hji; exact hy.wpOp hi trivial ⟨.inr fun h => h, H⟩
    · have h1 := H.2 j (ready_mono hj hji)
      obtain ⟨hjun, oj, hoj, hall⟩ := mem_ready.1 hj
      have hnot : ∀ e ∈ oj.after, Region.binds .any e = true → e.on ≠ i := fun e he hb heq => by
        have h1 := hall e he hb
        have h0 := (mem_ready.1 hr).1
        rw [heq] at h1
        rcases Nat.lt_or_ge i listed.size with h' | h'
        · simp [h'] at h0 h1; rw [h0] at h1; cases h1
        · simp [Array.getElem?_eq_none h'] at h1
      have h2 := wpOp_putIf hoj (hfree j oj hoj hji hjun hnot) (fun cs b => hsel i oi cs b hi) (fun cs b => hsel j oj cs b hoj) hQ hy h1
      have hfree' : ∀ k ok, ops[k]? = some ok → k ≠ i → (listed.setIfInBounds j true).getD k true = false →
          (∀ e ∈ ok.after, Region.binds .any e = true → e.on ≠ i) → oi.apart ops ok = true := fun k ok hk hki hun hno => by
        refine hfree k ok hk hki ?_ hno
        by_cases hjk : j = k
        · subst hjk; exact hjun
        · rw [getD_set_ne true hjk] at hun; exact hun
      refine wpOp_mono (fun a' w' h3 => ?_) h2
      refine ⟨h3.2.1, ih (listed.setIfInBounds j true) a' w' hfree' (ready_mono hr (Ne.symm hji)) h3.1 ?_⟩
      rw [Array.setIfInBounds_comm _ _ hji]
      exact h3.2.2

theorem wpAnyX_takeP {i : Nat} {oi : Oper} {v : Value} {fuel : Nat} {listed : Array Bool} {a : Act} {w : World} (hi : ops[i]? = some oi)
    (hs : Region.noSelect ops = true) (hf : Region.free .any ops listed i = true) (hr : (Region.ready .any ops listed).contains i = true)
    (hQ : ∀ c a w, Q (.panic c) (a.put oi.dst v) w → Q (.panic c) a w) (hy : YieldsIf P ops (fun _ => True) oi v a)
    (h : wpAnyX P ops Q S fin fuel (listed.setIfInBounds i true) (a.put oi.dst v) w) : wpAnyX P ops Q S fin (fuel + 1) listed a w :=
  wpAnyX_firstP hi (Region.noSelect_spec hs) hQ fuel listed a w (Region.free_spec hi hf) (by simpa using hr) hy h

theorem wpAnyX_take {i : Nat} {oi : Oper} {v : Value} {fuel : Nat} {listed : Array Bool} {a : Act} {w : World} (hi : ops[i]? = some oi)
    (hs : Region.noSelect ops = true) (hf : Region.free .any ops listed i = true) (hr : (Region.ready .any ops listed).contains i = true)
    (hQ : ∀ c a w, Q (.panic c) (a.put oi.dst v) w → Q (.panic c) a w) (hfin : ∀ j oj, fin j → ops[j]? = some oj → Waits ops i j) (hcl : ClosedL ops listed) (hy : YieldsIf P ops S oi v a) (hS : S w)
    (h : wpAnyX P ops Q S fin fuel (listed.setIfInBounds i true) (a.put oi.dst v) w) : wpAnyX P ops Q S fin (fuel + 1) listed a w :=
  wpAnyX_first hi (Region.noSelect_spec hs) hQ hfin fuel listed a w hcl (Region.free_spec hi hf) (by simpa using hr) hy hS h

theorem wpAnyX_all {rs : List Nat} {fuel : Nat} {listed : Array Bool} {a : Act} {w : World} (hr : Region.ready .any ops listed = rs) (hne : rs ≠ [])
    (h : ∀ i ∈ rs, wpOp P ops Q i (fun a' w' => (fin i ∨ (S w → S w')) ∧ wpAnyX P ops Q S fin fuel (listed.setIfInBounds i true) a' w') a w) : wpAnyX P ops Q S fin (fuel + 1) listed a w :=
  ⟨fun h0 => absurd (hr ▸ h0) hne, hr ▸ h⟩

theorem wpAnyX_done {listed : Array Bool} {a : Act} {w : World} (hr : Region.ready .any ops listed = []) (h : Q .normal a w) :
    ∀ fuel, wpAnyX P ops Q S fin fuel listed a w
  | 0 => ⟨hr, h⟩
  | _ + 1 => ⟨fun _ => h, by rw [hr]; simp⟩

theorem wp_region_X {id : Nat} {a : Act} {w : World} (hm : P.follows .mixedOrders = true)
    (h : wpAnyX P ops Q S fin ops.size (Array.replicate ops.size false) a { w with drawn := w.drawn + 1 }) : (Code.region id ops true).wp P Q a w :=
  wp_region_any hm (wpAny_of_X _ _ _ _ h)
end anyX

def FinOf (P : Program) (ops : Array Oper) (Q : Exit → Act → World → Prop) (S : World → Prop) (fin : Nat → Prop) (w1 : World) (k : Nat) (listed : Array Bool) (a : Act) (N : News) : Prop := ∀ W, Grown w1 N W → wpAnyX P ops Q S fin k listed a W

/-- WHATEVER ORDER IS DRAWN. -/
theorem canK_any (hs : Region.noSelect ops = true) {Q : Exit → Act → World → Prop} {w1 : World} {S : World → Prop} {fin : Nat → Prop} (hS : ∀ N W, Grown w1 N W → S W) :
    ∀ (k : Nat) {listed : Array Bool} {a : Act} {N : News} {W : World}, Ordered ops listed → Chain ops listed → CanK P ops (FinOf P ops Q S fin w1) k listed a N → Grown w1 N W → wpAnyX P ops Q S fin k listed a W
  | 0, _, _, _, _, _, _, h, hW => h.2 _ hW
  | k + 1, listed, a, N, W, hord, hch, h, hW => by
    rcases h with h | h
    · exact h.2 _ hW
    have hck : CanK P ops (FinOf P ops Q S fin w1) (k + 1) listed a N := .inr h
    obtain ⟨i, o, r, h1, h1p, h2, h3, h4, h5⟩ := h
    refine ⟨fun h0 => (by rw [h0] at h2; cases h2), fun j hj => ?_⟩
    obtain ⟨_, oj, hoj, _⟩ := mem_ready.1 hj
    obtain ⟨r, hd, ha⟩ := swap hs hch hW.bounded hck hj hoj (hord.plain h1 (getD_of_ready h2) h1p hj hoj)
    unfold wpOp
    simp only [hoj]
    cases r with
    | act l v =>
      obtain ⟨N', hN', ha⟩ := ha
      rcases hd with ⟨hw, -, nx, hv, hnx⟩ | ⟨hw, rfl, rfl⟩
      · obtain ⟨W', hrun, hg⟩ := stores_run hv hW hN'
        simp only [hw, if_true, Oper.wp, hrun]
        cases nx <;> first | (simp [nextVal] at hnx; done) | (simp only [nextVal, Option.some.injEq] at hnx; subst hnx; simp only [Oper.upon]; exact .inl ⟨.inr fun _ => hS _ _ hg, canK_any hs hS k (hord.more j) (hch.more j) ha hg⟩)
      · simp only [stos, Option.some.injEq] at hN'
        subst hN'
        simp only [hw, Bool.false_eq_true, if_false]
        exact ⟨.inr fun _ => hS _ _ hW, canK_any hs hS k (hord.more j) (hch.more j) ha hW⟩
    | new c v =>
      obtain ⟨hw, kk, hv, hpv⟩ := hd
      have hrun : (execOp a.eval oj).run P W = .ok (.value (v W.heap.size)) (pushW W c) := by
        rw [newOf_run hv, pureOf_spec (hpv _)]; rfl
      simp only [hw, if_true, Oper.wp, hrun, Oper.upon]
      exact .inl ⟨.inr fun _ => hS _ _ (hW.push c), canK_any hs hS k (hord.more j) (hch.more j) (ha _ hW.fresh) (hW.push c)⟩

end

end Go.Proofs.Ytbgmkefehfjicaa.Sy
