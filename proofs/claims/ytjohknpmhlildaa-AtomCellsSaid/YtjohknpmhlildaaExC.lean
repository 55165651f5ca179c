/-
  The second evaluator: how it is used.
-/
import Derived.Test.YtjohknpmhlildaaExB
namespace Go.Proofs.Ytjohknpmhlildaa.Ex
open Go Go.RowKit
open Ev (F RelF getW one resF resF_eq calm Known)

variable {P : Program} {S : Ctx}

def emptyM : MemC := ⟨[], [], 0, fun _ => True, fun _ => []⟩
def readM (rd : List (Nat × Cont)) : MemC := ⟨rd, [], 0, fun _ => True, fun _ => []⟩

theorem post_read {rd : List (Nat × Cont)} {W W' : World} (h : Below W.heap.size W W') : (readM rd).post W W' [] :=
  ⟨rfl, trivial, h.os, h.tape, h.output, h.size, fun k hk _ => h.block k hk, fun _ hp => (by cases hp), List.nodup_nil⟩

def plainC (f : FuncId) (args : Array Value) (v : Value) : CallC := ⟨f, args, readM [], fun _ => v⟩
theorem meets_plain {f : FuncId} {args : Array Value} {v : Value} (h : ∀ W, Calls P f args W fun e W' => e = .returned v ∧ Below W.heap.size W W') : Meets P (plainC f args v) :=
  fun W _ => (h W).mono fun _ _ h => ⟨[], h.1, post_read h.2⟩

/-- A part of a piece of code: the way down to it. -/
def sub : Code → List Nat → Code
  | c, [] => c
  | .seq a _, 0 :: l => sub a l
  | .seq _ b, _ :: l => sub b l
  | .block _ c, _ :: l => sub c l
  | .loop c, _ :: l => sub c l
  | .scope c, _ :: l => sub c l
  | .cond _ a _, 0 :: l => sub a l
  | .cond _ _ b, _ :: l => sub b l
  | c, _ => c

def loopsOf : Code → List Code
  | .loop c => c :: loopsOf c
  | .seq a b => loopsOf a ++ loopsOf b
  | .block _ c | .scope c => loopsOf c
  | .cond _ a b => loopsOf a ++ loopsOf b
  | _ => []

/-- The regions that draw their order, by their numbers. -/
def regionsOf (n : Nat) : Code → List Code
  | .region id ops b => if Nat.beq id n then [.region id ops b] else []
  | .loop c => regionsOf n c
  | .seq a b => regionsOf n a ++ regionsOf n b
  | .block _ c | .scope c => regionsOf n c
  | .cond _ a b => regionsOf n a ++ regionsOf n b
  | _ => []

def regionOf (f : Func) (n : Nat) : Code := match f.body with
  | some c => (regionsOf n c).getD 0 .skip
  | none => .skip

def opsOf : Code → Array Oper
  | .region _ ops _ => ops
  | _ => #[]

/-- The body of a function's loop number k (from 0). -/
def loopBody (f : Func) (k : Nat) : Code := match f.body with
  | some c => (loopsOf c).getD k .skip
  | none => .skip

/-- Of which blocks (by their positions) a region that draws its order takes no note, since they change in it. -/
def dpOf : List (FuncId × Nat × List Nat) → FuncId → Nat → List Nat
  | [], _, _ => []
  | p :: r, f, n => match Nat.beq p.1 f && Nat.beq p.2.1 n with
    | true => p.2.2
    | false => dpOf r f n

/-- Contracts for the functions fs; slots that are given anew; slots whose loads are given; what is given; loops of the functions lf. -/
def mkCtx (fs : List FuncId) (cl : List (Hist → CallC)) (fx gl : List (FuncId × Tmp)) (rl : List (Hist → Value)) (lf : List FuncId) (lp : List (Hist → LoopC)) (lr : List (FuncId × Nat) := []) (ox : List (FuncId × Nat) := []) (oc : List (FuncId × Nat) := []) (ol : List (Hist → OpC) := []) (dp : List (FuncId × Nat × List Nat) := []) : Ctx :=
  ⟨fun f => fs.any (Nat.beq f), cl, fun f t => fx.any fun p => Nat.beq p.1 f && Nat.beq p.2 t, fun f t => gl.any fun p => Nat.beq p.1 f && Nat.beq p.2 t, rl, fun f t => ox.any fun p => Nat.beq p.1 f && Nat.beq p.2 t, fun f t => oc.any fun p => Nat.beq p.1 f && Nat.beq p.2 t, ol, fun f => lf.any (Nat.beq f), fun f t => lr.any fun p => Nat.beq p.1 f && Nat.beq p.2 t, lp, dpOf dp⟩

def AllC (P : Program) (l : List (Hist → CallC)) : Prop := ∀ c ∈ l, ∀ h, Meets P (c h)
def AllL (P : Program) (l : List (Hist → LoopC)) : Prop := ∀ c ∈ l, ∀ h, MeetsL P (c h)

theorem mk_holds {fs : List FuncId} {cl : List (Hist → CallC)} {fx gl : List (FuncId × Tmp)} {rl : List (Hist → Value)} {lf : List FuncId} {lp : List (Hist → LoopC)} {lr ox oc : List (FuncId × Nat)} {ol : List (Hist → OpC)} {dp : List (FuncId × Nat × List Nat)} (h1 : AllC P cl) (h2 : AllL P lp) : (mkCtx fs cl fx gl rl lf lp lr ox oc ol dp).holds P := ⟨h1, h2⟩
theorem nil_c : AllC P [] := fun _ h => by cases h
theorem nil_l : AllL P [] := fun _ h => by cases h
theorem cons_c {c : Hist → CallC} {l : List (Hist → CallC)} (h : ∀ x, Meets P (c x)) (hl : AllC P l) : AllC P (c :: l) := fun x hx => by
  rcases List.mem_cons.1 hx with rfl | hx
  · exact h
  · exact hl x hx
theorem cons_l {c : Hist → LoopC} {l : List (Hist → LoopC)} (h : ∀ x, MeetsL P (c x)) (hl : AllL P l) : AllL P (c :: l) := fun x hx => by
  rcases List.mem_cons.1 hx with rfl | hx
  · exact h
  · exact hl x hx

def E0 (L : List Blk) (orc : Option (List Nat)) : E := ⟨L, orc, [], 0, 0, 0, 0, []⟩

/-- The accesses of a call, found at numbers. -/
def traceC (P : Program) (S : Ctx) (n : Nat) (f : FuncId) (args : Array Value) (L : List Blk) : Option (List Nat) :=
  match (evCall P S (ev P S n) f args (E0 L none)).run (fun j => 1000 + j) (fun _ => []) with
  | some x => some x.a.2.tr.reverse
  | none => none

def callOut (P : Program) (S : Ctx) (n : Nat) (f : FuncId) (args : Array Value) (L : List Blk) (orc : Option (List Nat)) (ns : Nat → Nat) (ls : Nat → List Value) : Option (R (Value × E)) :=
  (evCall P S (ev P S n) f args (E0 L orc)).run ns ls

/-- A CALL. -/
theorem calls_run (hS : S.holds P) (hP : P.follows .mixedOrders = true) (n : Nat) {f : FuncId} {args : Array Value} {L0 : List Blk} {orc : Option (List Nat)}
    {v : (Nat → Nat) → (Nat → List Value) → Value} {L' : (Nat → Nat) → (Nat → List Value) → List Blk} {q : (Nat → Nat) → (Nat → List Value) → List (Bool × Prop)}
    (h1 : ∀ ns ls, (callOut P S n f args L0 orc ns ls).map (fun x => (x.a.1, x.a.2.L, x.q)) = some (v ns ls, L' ns ls, q ns ls))
    (h2 : ∀ ns ls, (callOut P S n f args L0 orc ns ls).map (·.l) = (callOut P S n f args L0 orc ns ls).map (·.r))
    {w0 W : World} {keep : Nat → Prop} (hr : Rep w0 keep (E0 L0 none) W) {Q : Ending → World → Prop}
    (hQ : ∀ ns ls, holds (∀ W', Rep w0 keep (E0 (L' ns ls) none) W' → Q (.returned (v ns ls)) W') (q ns ls)) : Calls P f args W Q := by
  have hall : (evCall P S (ev P S n) f args (E0 L0 orc)).all fun y => ∀ W', Rep w0 keep y.2 W' → Q (.returned y.1) W' := by
    refine all_of_run _ fun ns ls => ?_
    have e1 := h1 ns ls
    have e2 := h2 ns ls
    unfold callOut at e1 e2
    cases hx : (evCall P S (ev P S n) f args (E0 L0 orc)).run ns ls with
    | none => rw [hx] at e1; cases e1
    | some x =>
      rw [hx] at e1 e2
      simp only [Option.map_some, Option.some.injEq, Prod.mk.injEq] at e1 e2
      refine ⟨x, rfl, e2, ?_⟩
      have := hQ ns ls
      rw [← e1.1, ← e1.2.1, ← e1.2.2] at this
      have hmono : ∀ (X Y : Prop) (l : List (Bool × Prop)), (X → Y) → holds X l → holds Y l := by
        intro X Y l hXY
        induction l with
        | nil => exact hXY
        | cons p l ih =>
          obtain ⟨b, p⟩ := p
          cases b
          · exact fun h hp => ih (h hp)
          · exact fun h => ⟨h.1, ih h.2⟩
      exact hmono _ _ _ (fun h W' hr' => h W' (hr'.of_eq rfl)) this
  refine (evCall_sound hS (ev_sound hS hP n) _ _ _ _ hall W (hr.of_eq rfl)).mono ?_
  rintro en W' ⟨v', e', rfl, hr', hk⟩
  exact hk W' hr'

theorem rep_start (w : World) : Rep w (fun _ => True) (E0 [] none) w :=
  ⟨rfl, rfl, rfl, Nat.le_refl _, fun _ _ _ => rfl, fun _ h => (by cases h), List.Pairwise.nil⟩

/-- A CALL that looks at nothing of old, by its value alone. -/
theorem calls_value (hS : S.holds P) (hP : P.follows .mixedOrders = true) (n : Nat) {f : FuncId} {args : Array Value} (v : Value) (q : (Nat → Nat) → (Nat → List Value) → List (Bool × Prop))
    (h1 : ∀ ns ls, (callOut P S n f args [] (traceC P S n f args []) ns ls).map (fun x => (x.a.1, x.q)) = some (v, q ns ls))
    (h2 : ∀ ns ls, (callOut P S n f args [] (traceC P S n f args []) ns ls).map (·.l) = (callOut P S n f args [] (traceC P S n f args []) ns ls).map (·.r))
    (hq : ∀ ns ls, holds True (q ns ls)) (W : World) : Calls P f args W fun e W' => e = .returned v ∧ Below W.heap.size W W' := by
  have hall : (evCall P S (ev P S n) f args (E0 [] (traceC P S n f args []))).all fun y => y.1 = v := by
    refine all_of_run _ fun ns ls => ?_
    have e1 := h1 ns ls
    have e2 := h2 ns ls
    have hq := hq ns ls
    unfold callOut at e1 e2
    cases hx : (evCall P S (ev P S n) f args (E0 [] (traceC P S n f args []))).run ns ls with
    | none => rw [hx] at e1; cases e1
    | some x =>
      rw [hx] at e1 e2
      simp only [Option.map_some, Option.some.injEq, Prod.mk.injEq] at e1 e2
      refine ⟨x, rfl, e2, ?_⟩
      rw [← e1.2] at hq
      have key : ∀ l : List (Bool × Prop), holds True l → holds (x.a.1 = v) l := by
        intro l
        induction l with
        | nil => exact fun _ => e1.1
        | cons p l ih =>
          obtain ⟨b, p⟩ := p
          cases b
          · exact fun h hp => ih (h hp)
          · exact fun h => ⟨h.1, ih h.2⟩
      exact key _ hq
  refine (evCall_sound hS (ev_sound hS hP n) _ _ _ _ hall W ((rep_start W).of_eq rfl)).mono ?_
  rintro en W' ⟨v', e', rfl, hr', rfl⟩
  exact ⟨rfl, hr'.below⟩

def pieceOut (P : Program) (S : Ctx) (n : Nat) (fn : FuncId) (c : Code) (f : F) (L : List Blk) (orc : Option (List Nat)) (ns : Nat → Nat) (ls : Nat → List Value) : Option (R (Exit × F × E)) :=
  (ev P S n fn c f (E0 L orc)).run ns ls

def traceP (P : Program) (S : Ctx) (n : Nat) (fn : FuncId) (c : Code) (f : F) (L : List Blk) : Option (List Nat) :=
  match (ev P S n fn c f (E0 L none)).run (fun j => 1000 + j) (fun _ => []) with
  | some x => some x.a.2.2.tr.reverse
  | none => none

theorem zip_get (f : F) : ∀ ks : List Nat, (ks.zip (ks.map f.get)).map (fun p => f.get p.1) = (ks.zip (ks.map f.get)).map (·.2)
  | [] => rfl
  | k :: ks => by simp only [List.map_cons, List.zip_cons_cons]; rw [zip_get f ks]

theorem holds_mono {X Y : Prop} (h : X → Y) : ∀ l : List (Bool × Prop), holds X l → holds Y l
  | [], h1 => h h1
  | (true, _) :: l, h1 => ⟨h1.1, holds_mono h l h1.2⟩
  | (false, _) :: l, h1 => fun hp => holds_mono h l (h1 hp)

def pickL (L : List Blk) (pk : List Nat) : List Blk := pk.filterMap fun i => L[i]?

theorem Rep.pick {w0 W : World} {keep : Nat → Prop} {e : E} (h : Rep w0 keep e W) : ∀ {pk : List Nat}, pk.Nodup → Rep w0 keep (E0 (pickL e.L pk) none) W := by
  intro pk hpk
  refine ⟨h.os, h.tape, h.output, h.size, h.old, fun p hp => ?_, ?_⟩
  · obtain ⟨i, -, hi⟩ := List.mem_filterMap.1 hp
    exact h.blk p (List.mem_of_getElem? hi)
  · show (pickL e.L pk).Pairwise Far
    unfold pickL
    induction pk with
    | nil => exact List.Pairwise.nil
    | cons i pk ih =>
      rw [List.nodup_cons] at hpk
      rw [List.filterMap_cons]
      split
      · exact ih hpk.2
      · rename_i p hp
        rw [List.pairwise_cons]
        refine ⟨fun q hq => ?_, ih hpk.2⟩
        obtain ⟨j, hj, hjq⟩ := List.mem_filterMap.1 hq
        exact far_ne h.far hp hjq (fun e => hpk.1 (e ▸ hj))

/-- A PIECE OF CODE: ks: the slots that are asked for. -/
theorem wp_run (hS : S.holds P) (hP : P.follows .mixedOrders = true) (n : Nat) (fn : FuncId) {c : Code} {w0 W : World} {keep : Nat → Prop} {a : Act} {m : Nat} {l : List (Nat × Value)} {L : List Blk} (orc : Option (List Nat))
    (hk : Known m l a) (hr : Rep w0 keep (E0 L none) W) (ks : List Nat) (pk : List Nat) (hpk : pk.Nodup)
    {x : Exit} {m' : Nat} {vs : (Nat → Nat) → (Nat → List Value) → List Value} {L' : (Nat → Nat) → (Nat → List Value) → List Blk} {q : (Nat → Nat) → (Nat → List Value) → List (Bool × Prop)}
    (h1 : ∀ ns ls, (pieceOut P S n fn c ⟨m, l ++ Ev.argsW 0 a.tmps.toList⟩ L orc ns ls).map (fun y => (y.a.1, y.a.2.1.n, ks.map y.a.2.1.get, pickL y.a.2.2.L pk, y.q)) = some (x, m', vs ns ls, L' ns ls, q ns ls))
    (h2 : ∀ ns ls, (pieceOut P S n fn c ⟨m, l ++ Ev.argsW 0 a.tmps.toList⟩ L orc ns ls).map (·.l) = (pieceOut P S n fn c ⟨m, l ++ Ev.argsW 0 a.tmps.toList⟩ L orc ns ls).map (·.r))
    {Q : Exit → Act → World → Prop} (hQ : ∀ ns ls, holds (∀ a' W', Known m' (ks.zip (vs ns ls)) a' → Rep w0 keep (E0 (L' ns ls) none) W' → Q x a' W') (q ns ls)) : c.wp P Q a W := by
  have hall : (ev P S n fn c ⟨m, l ++ Ev.argsW 0 a.tmps.toList⟩ (E0 L orc)).all fun y => ∀ a' W', RelF y.2.1 a' → Rep w0 keep y.2.2 W' → Q y.1 a' W' := by
    refine all_of_run _ fun ns ls => ?_
    have e1 := h1 ns ls
    have e2 := h2 ns ls
    unfold pieceOut at e1 e2
    cases hx : (ev P S n fn c ⟨m, l ++ Ev.argsW 0 a.tmps.toList⟩ (E0 L orc)).run ns ls with
    | none => rw [hx] at e1; cases e1
    | some y =>
      rw [hx] at e1 e2
      simp only [Option.map_some, Option.some.injEq, Prod.mk.injEq] at e1 e2
      obtain ⟨g1, g2, g3, g4, g5⟩ := e1
      refine ⟨y, rfl, e2, ?_⟩
      have := hQ ns ls
      rw [← g5] at this
      refine holds_mono (fun h a' W' hf hr' => ?_) _ this
      rw [g1]
      refine h a' W' ?_ (by rw [← g4]; exact hr'.pick hpk)
      rw [← g2, ← g3]
      exact Known.of hf _ (zip_get _ _)
  refine wp_mono (ev_sound hS hP n fn c _ _ _ hall a W hk.rel (hr.of_eq rfl)) ?_
  rintro x2 a2 W2 ⟨-, g, e, hk, hf, hr'⟩
  exact hk a2 W2 hf hr'

/-- AT A RETURN: what the results' slots hold. -/
theorem bodyPost_run {fn : Func} {w0 W : World} {keep : Nat → Prop} {a : Act} {m : Nat} {l : List (Nat × Value)} {L : List Blk} (orc : Option (List Nat)) {v : Value} {R0 : Ending → World → Prop} {x : Exit} (hx : x = .ret ∨ x = .normal)
    (hk : Known m l a) (hr : Rep w0 keep (E0 L none) W)
    (h : ((lread P S false (resF fn (F.get ⟨m, l ++ Ev.argsW 0 a.tmps.toList⟩)) (E0 L orc)).run (fun _ => 0) (fun _ => [])).map (fun y => (y.a.1, y.q)) = some (v, []))
    (h2 : ((lread P S false (resF fn (F.get ⟨m, l ++ Ev.argsW 0 a.tmps.toList⟩)) (E0 L orc)).run (fun _ => 0) (fun _ => [])).map (·.l) = ((lread P S false (resF fn (F.get ⟨m, l ++ Ev.argsW 0 a.tmps.toList⟩)) (E0 L orc)).run (fun _ => 0) (fun _ => [])).map (·.r))
    (hd : ((lread P S false (resF fn (F.get ⟨m, l ++ Ev.argsW 0 a.tmps.toList⟩)) (E0 L orc)).det).isSome = true)
    (hR : R0 (.returned v) W) : bodyPost P fn R0 x a W := by
  have hdet : ∀ {α : Type} (t : T α) (a : α) (ns ls) (y : Ex.R α), t.det = some a → t.run ns ls = some y → y.l = y.r → holds True y.q → y.a = a ∧ t.all (· = a) := by
    intro α t
    induction t with
    | ret b => intro a ns ls y h1 h2 _ _; injection h1 with h1; injection h2 with h2; subst h1 h2; exact ⟨rfl, rfl⟩
    | same l r k ih =>
      intro a ns ls y h1 h2 h3 h4
      simp only [T.run] at h2
      split at h2
      · rename_i z hz
        injection h2 with h2
        subst h2
        simp only [List.cons.injEq] at h3
        obtain ⟨g1, g2⟩ := ih a ns ls z h1 hz h3.2 h4
        exact ⟨g1, h3.1, g2⟩
      · cases h2
    | need p k ih =>
      intro a ns ls y h1 h2 h3 h4
      simp only [T.run] at h2
      split at h2
      · rename_i z hz
        injection h2 with h2
        subst h2
        obtain ⟨g1, g2⟩ := ih a ns ls z h1 hz h3 h4.2
        exact ⟨g1, h4.1, g2⟩
      · cases h2
    | _ => intro a ns ls y h1; cases h1
  cases hd' : (lread P S false (resF fn (F.get ⟨m, l ++ Ev.argsW 0 a.tmps.toList⟩)) (E0 L orc)).det with
  | none => rw [hd'] at hd; cases hd
  | some b =>
    cases hy : (lread P S false (resF fn (F.get ⟨m, l ++ Ev.argsW 0 a.tmps.toList⟩)) (E0 L orc)).run (fun _ => 0) (fun _ => []) with
    | none => rw [hy] at h; cases h
    | some y =>
      rw [hy] at h h2
      simp only [Option.map_some, Option.some.injEq, Prod.mk.injEq] at h h2
      obtain ⟨g1, g2⟩ := hdet _ _ _ _ y hd' hy h2 (by rw [h.2]; trivial)
      obtain ⟨v', e', hrun, -, hv⟩ := lread_sound P S (W := W) _ _ _ _ g2 (fun p hp => (hr.blk p hp).1)
      rw [← resF_eq hk.rel] at hrun
      have : v' = v := by
        have := congrArg Prod.fst (hv.trans g1.symm)
        exact this.trans h.1
      subst this
      rcases hx with rfl | rfl
      · exact ⟨hk.defers, v', hrun, hR⟩
      · exact ⟨hk.defers, v', hrun, hR⟩

end Go.Proofs.Ytjohknpmhlildaa.Ex
