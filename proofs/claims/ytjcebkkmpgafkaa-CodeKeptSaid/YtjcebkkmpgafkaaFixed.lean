/-
  The words without fields: the map that fixed makes.
-/
import Derived.Test.YtjcebkkmpgafkaaEncode
import Derived.Maps.RangeWalk
import Derived.Maps.Own
namespace Go.Proofs.Ytjcebkkmpgafkaa
open Go Go.RowKit Ev

theorem calls_of_ev {P : Program} {S : Ctx} (hS : S.holds P) (hP : P.follows .mixedOrders = true) (n : Nat) {f : FuncId} {args : Array Value} {v : Value} (W : World) {L : List (Nat × Obj)} {t : Nat}
    (h1 : (evCall P S (ev P S n) f args (Ev.start W.heap.size (some (traceOf P S n f args)))).map (fun p => (p.1, p.2.L, p.2.top)) = some (v, L, t))
    (h2 : (evCall P S (ev P S n) f args (Ev.start W.heap.size (some (traceOf P S n f args)))).map (fun p => lefts p.2.vc) = (evCall P S (ev P S n) f args (Ev.start W.heap.size (some (traceOf P S n f args)))).map (fun p => rights p.2.vc))
    (h3 : (evCall P S (ev P S n) f args (Ev.start W.heap.size (some (traceOf P S n f args)))).map (fun p => asked p.2.vc) = some []) :
    Calls P f args W fun en W' => en = .returned v ∧ Below W.heap.size W W' ∧ W'.heap.size = t ∧ ∀ p ∈ L, W'.heap[p.1]? = some p.2 := by
  cases hc : evCall P S (ev P S n) f args (Ev.start W.heap.size (some (traceOf P S n f args))) with
  | none => rw [hc] at h1; cases h1
  | some r =>
    obtain ⟨v', e⟩ := r
    rw [hc] at h1 h2 h3
    simp only [Option.map_some, Option.some.injEq, Prod.mk.injEq] at h1 h2 h3
    obtain ⟨rfl, rfl, rfl⟩ := h1
    have hr0 : Rep W (Ev.start W.heap.size (some (traceOf P S n f args))) W := ⟨rfl, rfl, rfl, rfl, Nat.le_refl _, fun _ _ => rfl, by simp [Ev.start], by simp [Ev.start]⟩
    refine (evCall_sound hS (ev_sound hS hP n) _ _ _ _ _ hc (ok_of_lists h2 (by rw [h3]; simp)) W hr0).mono ?_
    rintro en W' ⟨rfl, hr⟩
    exact ⟨rfl, hr.below, hr.size, fun p hp => (hr.blk p hp).2.2⟩

def fixedEnts : Array MapEntry := #[⟨.int .i64 30, .int .u32 3573759423, 0⟩, ⟨.int .i64 31, .int .u32 3573759935, 1⟩, ⟨.int .i64 32, .int .u32 3573751839, 2⟩, ⟨.int .i64 34, .int .u32 3560964096, 3⟩]
def fixedD {H : Type} : DataW H := .map [(.int .i64 30, .lit (.int .u32 3573759423)), (.int .i64 31, .lit (.int .u32 3573759935)), (.int .i64 32, .lit (.int .u32 3573751839)), (.int .i64 34, .lit (.int .u32 3560964096))]

theorem fixed_any (W : World) : Calls Try.prog 29 #[] W fun e W' => e = .returned (.map (some W.heap.size)) ∧ Below W.heap.size W W' ∧ W'.heap.size = W.heap.size + 1 ∧ ∀ p ∈ [(W.heap.size, Obj.map fixedEnts 4)], W'.heap[p.1]? = some p.2 :=
  calls_of_ev (S := noSpec) noSpec_holds mixed 100 W (by kernel_rfl) (by kernel_rfl) (by kernel_rfl)

theorem fixed_owns {H : Type} {W : World} {b : Nat} (h : W.heap[b]? = some (.map fixedEnts 4)) : W.ownsMap Try.prog 3 (plainElem (H := H) Try.prog 26) b 4 fixedD := by
  refine ⟨fixedEnts, 4, h, ⟨by decide, ?_, ?_⟩, by decide, ?_⟩
  · refine ⟨by simp [fixedEnts], by simp [fixedEnts], by simp [fixedEnts]⟩
  · intro x hx
    simp only [fixedEnts, List.mem_cons, List.not_mem_nil, or_false] at hx
    rcases hx with rfl | rfl | rfl | rfl
    · exact ⟨(.int .i64 30, .lit (.int .u32 3573759423)), by kernel_rfl⟩
    · exact ⟨(.int .i64 31, .lit (.int .u32 3573759935)), by kernel_rfl⟩
    · exact ⟨(.int .i64 32, .lit (.int .u32 3573751839)), by kernel_rfl⟩
    · exact ⟨(.int .i64 34, .lit (.int .u32 3560964096)), by kernel_rfl⟩
  · kernel_rfl

theorem fixed_entry {H : Type} {k c : Int} (hh : Maps.has (fixedD (H := H)) (.int .i64 k) = true) (ha : ∀ zd, (fixedD (H := H)).atKey (.int .i64 k) zd = .lit (.int .u32 c)) : (k = 30 ∧ c = 3573759423) ∨ (k = 31 ∧ c = 3573759935) ∨ (k = 32 ∧ c = 3573751839) ∨ (k = 34 ∧ c = 3560964096) := by
  have h0 := ha .nil
  simp only [fixedD, Maps.has_eq, List.any_cons, List.any_nil, Bool.or_false, Bool.or_eq_true] at hh
  have key : ∀ a : Int, Lit.sameKey (.int .i64 a) (.int .i64 k) = true → a = k := fun a h => by simpa [Lit.sameKey] using h
  rcases hh with h | h | h | h
  · have e := key _ h
    subst e
    have : (fixedD (H := H)).atKey (.int .i64 30) .nil = .lit (.int .u32 3573759423) := by kernel_rfl
    rw [this] at h0
    simp at h0
    omega
  · have e := key _ h
    subst e
    have : (fixedD (H := H)).atKey (.int .i64 31) .nil = .lit (.int .u32 3573759935) := by kernel_rfl
    rw [this] at h0
    simp at h0
    omega
  · have e := key _ h
    subst e
    have : (fixedD (H := H)).atKey (.int .i64 32) .nil = .lit (.int .u32 3573751839) := by kernel_rfl
    rw [this] at h0
    simp at h0
    omega
  · have e := key _ h
    subst e
    have : (fixedD (H := H)).atKey (.int .i64 34) .nil = .lit (.int .u32 3560964096) := by kernel_rfl
    rw [this] at h0
    simp at h0
    omega

end Go.Proofs.Ytjcebkkmpgafkaa
