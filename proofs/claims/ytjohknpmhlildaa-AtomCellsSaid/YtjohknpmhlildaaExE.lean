/-
  Compare and swap, met by what is shown of it.
-/
import Derived.Test.YtjohknpmhlildaaExD
import Derived.Laws.Externs
import Derived.Conc.AtomicLaws2
namespace Go.Proofs.Ytjohknpmhlildaa.Ex
open Go Go.RowKit
variable {P : Program}

def oneObj (t : TypeId) (x : Value) : Cont := .obj (.cells #[x] t (0, 0))
/-- A cell is compared with x, which it holds, and becomes n. -/
def casC (g : Nat) (t : TypeId) (x n : Value) : OpC := ⟨⟨[], [(g, oneObj t x)], 0, fun _ => True, fun _ => [(g, oneObj t n)]⟩, fun _ => .bool true, false⟩
/-- It is compared with another than it holds. -/
def casN (g : Nat) (t : TypeId) (x : Value) : OpC := ⟨⟨[(g, oneObj t x)], [], 0, fun _ => True, fun _ => []⟩, fun _ => .bool false, false⟩

def casPtr (ad : Addr) (old n : Option Addr) : Sem Value := do
  let a' ← asAddr (.pointer (some ad))
  if ← Extern.Atomic.touchesFrozen a' then unsupported (.unsafePointer "a write to bytes that a string shares")
  let eq ← match Extern.Atomic.T.ptr, ← Extern.Atomic.read .ptr a', Value.pointer old with
    | _, .int _ x, .int _ y => pure (x == y)
    | .ptr, .pointer x, .pointer y => samePointer x y
    | .int _, .pointer (some _), .int _ 0 | .int _, .int _ 0, .pointer (some _) => pure false
    | .int _, .pointer (some _), _ | .int _, _, .pointer (some _) => unsupported .addressObserved
    | _, _, _ => stuck "atomic.CompareAndSwap: old is no T"
  if eq then store a' (.pointer n) .atomic
  pure (Value.bool eq)
theorem casPtr_eq {ad : Addr} (old n : Option Addr) : Extern.Atomic.casT .ptr #[.pointer (some ad), .pointer old, .pointer n] = casPtr ad old n := rfl

theorem run_same {w : World} (x : Option Addr) : (samePointer x x).run P w = .ok true w := by
  cases x <;> simp [samePointer, sameAddr]

theorem run_casPtr {w : World} {ad : Addr} {x n : Option Addr} (hc : w.cell? ad = some (.pointer x)) (hz : w.frozen? ad = false) : (casPtr ad x n).run P w = .ok (.bool true) (w.setCell ad (.pointer n)) := by
  simp [casPtr, Extern.Atomic.touchesFrozen, Extern.Atomic.read, asAddr, viewAt, World.shape?_isSome_of_cell? hc, hc, hz, run_same, run_store P w ad (.pointer n) .atomic rfl, Result.andThen]

theorem one_cell {W : World} {g : Nat} {t : TypeId} {x : Value} (h : (oneObj t x).sat W.heap[g]?) : W.cell? ⟨g, 0, none⟩ = some x ∧ W.frozen? ⟨g, 0, none⟩ = false :=
  ⟨cell_at (ct := oneObj t x) rfl h rfl rfl, by rw [Ev.frozen_of (b := g) rfl h]; simp⟩

theorem cas_post {W : World} {g : Nat} {t : TypeId} {x n : Value} (h : (oneObj t x).sat W.heap[g]?) : (casC g t x n).mem.post W (W.setCell ⟨g, 0, none⟩ n) [] := by
  refine ⟨rfl, trivial, rfl, rfl, rfl, by simp [World.setCell], fun k _ hno => ?_, fun p hp => ?_, by simp [casC]⟩
  · simp only [World.setCell, Array.getElem?_modify]
    rw [if_neg (hno _ (List.mem_singleton_self _))]
  · rcases List.mem_singleton.1 hp with rfl
    refine ⟨.inr ⟨_, List.mem_singleton_self _, rfl⟩, ?_⟩
    have h' : W.heap[g]? = some (.cells #[x] t (0, 0)) := h
    show (W.setCell ⟨g, 0, none⟩ n).heap[g]? = some (.cells #[n] t (0, 0))
    simp [World.setCell, Array.getElem?_modify, h']

structure IsCas (P : Program) (f : FuncId) (t : Extern.Atomic.T) : Prop where
  out : ∃ fn, P.funcs[f]? = some fn ∧ (fn.name == "runtime.NumGoroutine") = false ∧ fn.body.isNone = true ∧ Extern.findNext fn = none ∧ Extern.find fn = some (Extern.Atomic.casT t)

theorem casPtr_met {f : FuncId} (h : IsCas P f .ptr) (g : Nat) (t : TypeId) (x n : Option Addr) : OpMeets P (callFunc f #[.pointer (some ⟨g, 0, none⟩), .pointer x, .pointer n]) (casC g t (.pointer x) (.pointer n)) := by
  intro W hpre
  obtain ⟨fn, h1, h2, h3, h4, h5⟩ := h.out
  have hs := hpre.use _ (List.mem_singleton_self _)
  have hc := one_cell hs
  refine ⟨[], _, ?_, cas_post hs⟩
  rw [run_callFunc_extern h1 h2 h3 h4 h5, casPtr_eq, run_casPtr hc.1 hc.2]
  rfl

theorem cas_met {f : FuncId} {k : IntKind} (h : IsCas P f (.int k)) (g : Nat) (t : TypeId) (x n : Int) : OpMeets P (callFunc f #[.pointer (some ⟨g, 0, none⟩), .int k x, .int k n]) (casC g t (.int k x) (.int k n)) := by
  intro W hpre
  obtain ⟨fn, h1, h2, h3, h4, h5⟩ := h.out
  have hs := hpre.use _ (List.mem_singleton_self _)
  have hc := one_cell hs
  refine ⟨[], _, ?_, cas_post hs⟩
  rw [run_callFunc_extern h1 h2 h3 h4 h5, Conc.casT_eq, Conc.run_cas_hit_entry hc.1 hc.2]
  rfl

theorem casN_met {f : FuncId} {k : IntKind} (h : IsCas P f (.int k)) (g : Nat) (t : TypeId) (x y n : Int) (hne : x ≠ y) : OpMeets P (callFunc f #[.pointer (some ⟨g, 0, none⟩), .int k y, .int k n]) (casN g t (.int k x)) := by
  intro W hpre
  obtain ⟨fn, h1, h2, h3, h4, h5⟩ := h.out
  have hc := one_cell (hpre.rd _ (List.mem_singleton_self _))
  refine ⟨[], W, ?_, rfl, trivial, rfl, rfl, rfl, Nat.le_refl _, fun _ _ _ => rfl, fun _ h => (by cases h), List.nodup_nil⟩
  rw [run_callFunc_extern h1 h2 h3 h4 h5, Conc.casT_eq, Conc.run_cas_miss_entry hc.1 hc.2 hne]
  rfl

end Go.Proofs.Ytjohknpmhlildaa.Ex
