/-
  Symbolic runs, made ready: each operation is looked at once, each function once.
-/
import Derived.Test.YtbgmkefehfjicaaSyG
namespace Go.Proofs.Ytbgmkefehfjicaa.Sy
open Go Go.RowKit
open Ev (calm one)
set_option linter.unusedVariables false
set_option linter.unusedSimpArgs false

variable {α : Type}

abbrev OpF (α : Type) := Option G → F → List Blk → (Option G → F → List Blk → T α) → T α

/-- An operation, made ready. -/
structure OpB (α : Type) where
  f : CallE α → OpF α

noncomputable def OpB.run (b : OpB α) : CallE α → OpF α := @OpB.rec α (fun _ => CallE α → OpF α) (fun f => f) b

/-- Code, made ready. -/
structure CodeB (α : Type) where
  f : CallE α → Nat → PieceE α

noncomputable def CodeB.run (b : CodeB α) : CallE α → Nat → PieceE α := @CodeB.rec α (fun _ => CallE α → Nat → PieceE α) (fun f => f) b

section ops
variable (P : Program) (S : Ctx) (fn : FuncId) (ops : Array Oper)

noncomputable def genB (i : Nat) : OpB α := ⟨fun call g a L c => evAtG P S fn call ops i g a L c⟩

/-- What is left to the evaluator. -/
noncomputable def elseF (o : Oper) (call : CallE α) (a : F) (L : List Blk) (c : Option G → F → List Blk → T α) : T α := doOp P call o a L (c none)

noncomputable def argsE (a : F) : List Operand → List Value
  | [] => []
  | x :: r => a.eval x :: argsE a r
noncomputable def callB (d : Option Nat) (f : FuncId) (args : List Operand) : OpB α := ⟨fun call _ a L c => call f (Array.mk (argsE a args)) L fun v L' => c none (a.put d v) L'⟩

noncomputable def valOpB (o : Oper) (d : Nat) : OpB α := ⟨fun call _ a L c => (valB P o).run a L (fun v => c none (a.put (some d) v) L) (elseF P o call a L c)⟩

noncomputable def storeK (L : List Blk) (b off : Nat) (u : Value) (a : F) (c : Option G → F → List Blk → T α) : T α := pickT L b fun p j => reqP (one u) (one u = true) (putT L p j ⟨b, off, none⟩ u fun L' => c none (a.put none undef) L')
noncomputable def storeF (o : Oper) (call : CallE α) (v u : Value) (a : F) (L : List Blk) (c : Option G → F → List Blk → T α) : T α := match v with
  | .pointer (some ⟨b, off, none⟩) => match u with
    | .agg _ => elseF P o call a L c
    | .tuple _ => elseF P o call a L c
    | u => storeK L b off u a c
  | _ => elseF P o call a L c
noncomputable def storeB (o : Oper) (x v : Operand) : OpB α := ⟨fun call _ a L c => storeF P o call (a.eval x) (a.eval v) a L c⟩

noncomputable def allocB (d t : Nat) (z : Value) : OpB α := ⟨fun _ _ a L c => .ask fun x => c none (a.put (some d) (.pointer (some ⟨x.n, 0, none⟩))) (⟨x.n, .obj (.cells z.cells t (0, 0)), true⟩ :: L)⟩

noncomputable def zeroP (t : TypeId) : Option Value := match P.info? t with
  | some i => i.zero
  | none => none

/-- A function that is called by its name, in a cut. -/
noncomputable def namedP (f : FuncId) : Bool := match P.funcs[f]? with
  | some fn => match fn.body with
    | some _ => match fn.name == "runtime.NumGoroutine" with
      | true => false
      | false => true
    | none => false
  | none => false

noncomputable def doB (o : Oper) : OpB α := ⟨fun call _ a L c => doOp P call o a L (c none)⟩

noncomputable def freeB (o : Oper) : OpB α := match o.dst with
  | none => match o.op with
    | .store t x v => match sizeP P t with
      | some n => match Nat.beq n 1 with
        | true => storeB P o x v
        | false => doB P o
      | none => doB P o
    | .call c => match c.callee with
      | .value (.func f) => match namedP P f with
        | true => callB none f c.args.toList
        | false => doB P o
      | _ => doB P o
    | _ => doB P o
  | some d => match o.op with
    | .alloc t => match zeroP P t with
      | some z => allocB d t z
      | none => doB P o
    | .call c => match c.callee with
      | .value (.func f) => match namedP P f with
        | true => callB (some d) f c.args.toList
        | false => doB P o
      | .builtin .len => valOpB P o d
      | _ => doB P o
    | _ => valOpB P o d

noncomputable def yesF (d : Option Nat) (c : Option G → F → List Blk → T α) (a : F) (L : List Blk) : T α := c none (a.put d undef) L

/-- One that is guarded. -/
noncomputable def condB (o : Oper) (t : Nat) (want : Bool) (b : Bool) (call : CallE α) (a : F) (L : List Blk) (c : Option G → F → List Blk → T α) : T α := match want with
  | true => .cond b ((freeB P o).run call none (a.put (some t) (.bool true)) L c) (yesF o.dst c (a.put (some t) (.bool false)) L)
  | false => .cond b (yesF o.dst c (a.put (some t) (.bool true)) L) ((freeB P o).run call none (a.put (some t) (.bool false)) L c)

noncomputable def guardF (i : Nat) (o : Oper) (t : Nat) (want gr : Bool) (call : CallE α) (g : Option G) (a : F) (L : List Blk) (c : Option G → F → List Blk → T α) : T α := match g with
  | some _ => evAtG P S fn call ops i g a L c
  | none => match a.get t with
    | .bool b => match gr with
      | true => litT b (condB P o t want b call a L c) (heldG P ops L none a o fun g' a' => c g' a' L)
      | false => condB P o t want b call a L c
    | _ => evAtG P S fn call ops i g a L c

noncomputable def dstAt (j : Nat) : Option Nat := match ops[j]? with
  | some oj => oj.dst
  | none => none

noncomputable def guardB (i : Nat) (o : Oper) (j : Nat) (want : Bool) : OpB α := match dstAt ops j with
  | some t => match groupOk ops o with
    | true => ⟨fun call g a L c => guardF P S fn ops i o t want true call g a L c⟩
    | false => ⟨fun call g a L c => guardF P S fn ops i o t want false call g a L c⟩
  | none => genB P S fn ops i

def isPick (o : Oper) : Bool := match o.op with
  | .pick .. => true
  | _ => false

noncomputable def opB (i : Nat) (o : Oper) : OpB α := match S.op fn (keyOf o) with
  | _ :: _ => genB P S fn ops i
  | [] => match isPick o with
    | true => genB P S fn ops i
    | false => match o.guard with
      | none => freeB P o
      | some (j, want) => guardB P S fn ops i o j want

noncomputable def opsB (l : List Oper) : Nat → List (OpB α) := @List.rec Oper (fun _ => Nat → List (OpB α)) (fun _ => []) (fun o _ ih i => opB P S fn ops i o :: ih (Nat.add i 1)) l
end ops

noncomputable def runB (call : CallE α) (c : F → List Blk → T α) (l : List (OpB α)) : Option G → F → List Blk → T α :=
  @List.rec (OpB α) (fun _ => Option G → F → List Blk → T α) (fun _ a L => c a L) (fun b _ ih g a L => b.run call g a L ih) l

/-- It does what the evaluator does. -/
def Fits (P : Program) (S : Ctx) (fn : FuncId) (ops : Array Oper) (i : Nat) (b : OpB α) : Prop :=
  ∀ (call : CallE α) (g : Option G) (a : F) (L : List Blk) (c : Option G → F → List Blk → T α) (K : α → Prop), (b.run call g a L c).all K → (evAtG P S fn call ops i g a L c).all K

section
variable {P : Program} {S : Ctx} {fn : FuncId} {ops : Array Oper} {i : Nat} {o : Oper}

theorem fits_gen : Fits P S fn ops i (genB P S fn ops i : OpB α) := fun _ _ _ _ _ _ h => h

/-- One that is not guarded. -/
structure Plain (S : Ctx) (fn : FuncId) (ops : Array Oper) (i : Nat) (o : Oper) : Prop where
  at_ : ops[i]? = some o
  guard : o.guard = none
  op : S.op fn (keyOf o) = []
  pick : ∀ x y z, o.op ≠ .pick x y z

theorem Plain.eq (h : Plain S fn ops i o) (call : CallE α) (g : Option G) (a : F) (L : List Blk) (c : Option G → F → List Blk → T α) : evAtG P S fn call ops i g a L c = doOp P call o a L (c none) := by
  have hn : nth ops.toList i = some o := by rw [nth_eq, Array.getElem?_toList]; exact h.at_
  have hg : guardOf a ops o = .free := by unfold guardOf; rw [h.guard]
  have e1 : evAt P S fn call ops i a L (c none) = doOp P call o a L (c none) := by
    unfold evAt
    simp only [hn]
    unfold guardT
    simp only [hg]
    unfold evOp
    simp only [h.op]
  unfold evAtG
  simp only [hn, hg]
  rw [← e1]
  cases g with
  | none => rfl
  | some g =>
    cases ho : o.op <;> first | rfl | exact absurd ho (h.pick _ _ _)

/-- It does what the operation does. -/
def FitsD (P : Program) (o : Oper) (b : OpB α) : Prop :=
  ∀ (call : CallE α) (g : Option G) (a : F) (L : List Blk) (c : Option G → F → List Blk → T α) (K : α → Prop), (b.run call g a L c).all K → (doOp P call o a L (c none)).all K

theorem fits_of (h : Plain S fn ops i o) {b : OpB α} (hb : FitsD P o b) : Fits P S fn ops i b :=
  fun call g a L c K hx => by rw [h.eq]; exact hb call g a L c K hx

theorem fits_val {d : Nat} (hd : o.dst = some d) : FitsD P o (valOpB P o d : OpB α) := fun call g a L c K hx => by
  refine valB_do ?_
  rw [hd]
  exact hx

theorem argsE_eq (a : F) : ∀ l : List Operand, argsE a l = l.map a.eval
  | [] => rfl
  | x :: r => by simp only [argsE, List.map_cons, argsE_eq a r]

theorem fits_call {d : Option Nat} {f : FuncId} {cl : Call} (hd : o.dst = d) (ho : o.op = .call cl) (hc : cl.callee = .value (.func f)) (hf : namedP P f = true) : FitsD P o (callB d f cl.args.toList : OpB α) := fun call g a L c K hx => by
  have e : doing P a.eval o = .call f (cl.args.map a.eval) := by
    have : callOf P a.eval o = some (f, cl.args.map a.eval) := by
      unfold namedP at hf
      unfold callOf
      simp only [ho, hc]
      split at hf
      · rename_i fn' hfn
        simp only [hfn]
        split at hf
        · rename_i b hb
          simp only [hb]
          split at hf
          · cases hf
          · rename_i hn
            simp only [hn]
        · cases hf
      · cases hf
    unfold doing
    simp only [ho, this]
  refine doOp_of ?_
  unfold doOp0
  rw [e, hd]
  have ea : cl.args.map a.eval = Array.mk (argsE a cl.args.toList) := by
    rw [argsE_eq]
    apply Array.ext'
    simp
  simp only [ea]
  exact hx

theorem fits_store {t : TypeId} {x v : Operand} (hd : o.dst = none) (ho : o.op = .store t x v) (hs : sizeP P t = some 1) : FitsD P o (storeB P o x v : OpB α) := fun call g a L c K hx => by
  change (storeF P o call (a.eval x) (a.eval v) a L c).all K at hx
  unfold storeF at hx
  split at hx
  · rename_i b off hv
    have key : ∀ u : Value, a.eval v = u → (∀ l, u ≠ .agg l) → (∀ l, u ≠ .tuple l) → (storeK L b off u a c).all K → (doOp P call o a L (c none)).all K := fun u hu h1 h2 hx => by
      have e : doing P a.eval o = .store b off u := by
        have : storeOf P a.eval o = some (b, off, u) := by
          unfold storeOf
          simp only [ho, hv, hu]
          cases u <;> first | exact absurd rfl (h1 _) | exact absurd rfl (h2 _) | (simp only [hs]; try rfl)
        unfold doing
        simp only [ho, this]
      refine doOp_of ?_
      unfold doOp0
      rw [e, hd]
      exact hx
    split at hx
    · exact hx
    · exact hx
    · rename_i u h1 h2
      exact key _ rfl (fun l hl => h1 l hl) (fun l hl => h2 l hl) hx
  · exact hx

theorem fits_alloc {d t : Nat} {z : Value} (hd : o.dst = some d) (ho : o.op = .alloc t) (hz : zeroP P t = some z) : FitsD P o (allocB d t z : OpB α) := fun call g a L c K hx => by
  have e : doing P a.eval o = .gen := by
    unfold doing
    simp only [ho]
  refine doOp_of ?_
  unfold doOp0
  rw [e]
  unfold zeroP at hz
  split at hz
  · rename_i inf hi
    have ex : execOp a.eval o = allocS t := by
      unfold execOp
      rw [ho]
      rfl
    unfold genOp
    rw [ex]
    show (lrun P (((((match P.info? t with
        | some i => (Sem.pure i : Sem TypeInfo)
        | none => stuck "no such type").bind fun i => match i.zero with
        | some v => (Sem.pure v : Sem Value)
        | none => unsupported (.resourceLimit "a value of more than 2^22 cells")).bind fun z => (((Sem.new (.cells z.cells t) fun r => Sem.pure r).bind fun r => Sem.pure (⟨r, 0, none⟩ : Addr)).bind fun ad => Sem.pure (Value.pointer (some ad)))).bind fun v => Sem.pure (Next.value v))) (zerosOf P o) L (stepO call o a (c none))).all K
    rw [hi]
    show (lrun P ((((match inf.zero with
        | some v => (Sem.pure v : Sem Value)
        | none => unsupported (.resourceLimit "a value of more than 2^22 cells")).bind fun z => (((Sem.new (.cells z.cells t) fun r => Sem.pure r).bind fun r => Sem.pure (⟨r, 0, none⟩ : Addr)).bind fun ad => Sem.pure (Value.pointer (some ad)))).bind fun v => Sem.pure (Next.value v))) (zerosOf P o) L (stepO call o a (c none))).all K
    rw [hz]
    intro x
    have hx := hx x
    show (c none (a.put o.dst _) _).all K
    rw [hd]
    exact hx
  · cases hz

theorem fits_do : FitsD P o (doB P o : OpB α) := fun _ _ _ _ _ _ h => h

theorem fits_free : FitsD P o (freeB P o : OpB α) := by
  unfold freeB
  split
  · rename_i hd
    split
    · rename_i t x v ho
      split
      · rename_i n hn
        split
        · rename_i h1
          have h1 := Nat.eq_of_beq_eq_true h1
          subst h1
          exact fits_store hd ho hn
        · exact fits_do
      · exact fits_do
    · rename_i cl ho
      split
      · rename_i f hc
        split
        · rename_i hf
          exact fits_call hd ho hc hf
        · exact fits_do
      · exact fits_do
    · exact fits_do
  · rename_i d hd
    split
    · rename_i t ho
      split
      · rename_i z hz
        exact fits_alloc hd ho hz
      · exact fits_do
    · rename_i cl ho
      split
      · rename_i f hc
        split
        · rename_i hf
          exact fits_call hd ho hc hf
        · exact fits_do
      · exact fits_val hd
      · exact fits_do
    · exact fits_val hd

theorem fits_guard (h : ops[i]? = some o) {j : Nat} {want : Bool} (hg : o.guard = some (j, want)) (hop : S.op fn (keyOf o) = []) : Fits P S fn ops i (guardB P S fn ops i o j want : OpB α) := by
  have hn : nth ops.toList i = some o := by rw [nth_eq, Array.getElem?_toList]; exact h
  unfold guardB
  split
  · rename_i t ht
    have hgo : ∀ (a : F) (b : Bool), a.get t = .bool b → guardOf a ops o = .test t b want := fun a b hb => by
      unfold dstAt at ht
      split at ht
      · rename_i oj hj
        have hj' : nth ops.toList j = some oj := by rw [nth_eq, Array.getElem?_toList]; exact hj
        unfold guardOf
        simp only [hg, hj', ht, hb]
      · cases ht
    have main : ∀ (gr : Bool), groupOk ops o = gr → Fits P S fn ops i (⟨fun call g a L c => guardF P S fn ops i o t want gr call g a L c⟩ : OpB α) := fun gr hgr call g a L c K hx => by
      change (guardF P S fn ops i o t want gr call g a L c).all K at hx
      unfold guardF at hx
      split at hx
      · exact hx
      · split at hx
        · rename_i b hb
          have e := hgo a b hb
          have cnd : (condB P o t want b call a L c).all K → (evAt P S fn call ops i a L (c none)).all K := fun hx => by
            unfold evAt
            simp only [hn]
            unfold guardT
            simp only [e]
            unfold condB at hx
            have ev0 : ∀ a : F, evOp P S fn call o a L (c none) = doOp P call o a L (c none) := fun a => by
              unfold evOp
              simp only [hop]
            cases want with
            | true => exact ⟨fun hb => by rw [ev0]; exact fits_free call none _ L c K (hx.1 hb), fun hb => hx.2 hb⟩
            | false => exact ⟨fun hb => hx.1 hb, fun hb => by rw [ev0]; exact fits_free call none _ L c K (hx.2 hb)⟩
          unfold evAtG
          simp only [hn, e, hgr]
          split at hx
          · rcases litT_spec hx with hx | hx
            · exact ⟨0, cnd hx⟩
            · exact ⟨1, hx⟩
          · exact cnd hx
        · exact hx
    split
    · rename_i hgr
      exact main true hgr
    · rename_i hgr
      exact main false hgr
  · exact fits_gen

theorem fits_op (h : ops[i]? = some o) : Fits P S fn ops i (opB P S fn ops i o : OpB α) := by
  unfold opB
  split
  · exact fits_gen
  · rename_i hop
    split
    · exact fits_gen
    · rename_i hp
      have hpk : ∀ x y z, o.op ≠ .pick x y z := fun x y z he => by
        unfold isPick at hp
        rw [he] at hp
        cases hp
      split
      · rename_i hg
        exact fits_of ⟨h, hg, hop, hpk⟩ fits_free
      · rename_i j want hg
        exact fits_guard h hg hop
end

/-! ### Code -/

section code
variable (P : Program) (S : Ctx) (fn : FuncId)

noncomputable def seqF (y : PieceE α) (c : Exit → F → List Blk → T α) (r : Exit) (a : F) (L : List Blk) : T α := match r with
  | .normal => y a L c
  | r => c r a L

noncomputable def condF (b : Operand) (x y : PieceE α) (a : F) (L : List Blk) (c : Exit → F → List Blk → T α) : T α := match b with
  | .tmp s => match a.get s with
    | .bool t => .cond t (x (a.put (some s) (.bool true)) L c) (y (a.put (some s) (.bool false)) L c)
    | _ => .fail
  | b => match a.eval b with
    | .bool t => .cond t (x a L c) (y a L c)
    | _ => .fail

noncomputable def blockF (id : Nat) (c : Exit → F → List Blk → T α) (r : Exit) (a : F) (L : List Blk) : T α := match r with
  | .exit id' => match Nat.beq id' id with
    | true => c .normal a L
    | false => c (.exit id') a L
  | r => c r a L

noncomputable def againF (ih : F → List Blk → T α) (c : Exit → F → List Blk → T α) (x : Exit) (a : F) (L : List Blk) : T α := match x with
  | .normal => ih a L
  | x => c x a L

/-- The rounds of a loop; the frame is made short now and then. -/
noncomputable def roundsF (f : PieceE α) (c : Exit → F → List Blk → T α) (m : Nat) : F → List Blk → T α :=
  @Nat.rec (fun _ => F → List Blk → T α) (fun _ _ => .fail) (fun k ih a L => match Nat.beq (Nat.mod k 4) 0 with
    | true => forceL (compactW 0 a.w) fun w => f ⟨a.n, w⟩ L fun x a1 L1 => againF ih c x a1 L1
    | false => f a L fun x a1 L1 => againF ih c x a1 L1) m

noncomputable def loopF (x : Code) (f : PieceE α) (n : Nat) (a : F) (L : List Blk) (c : Exit → F → List Blk → T α) : T α := match S.lp fn with
  | k :: ks => .or (.num ((k :: ks).length + 1)) fun j => match nth (k :: ks) j with
    | some k => loopBy (k a L) (.loop x) a L c
    | none => roundsF f c n a L
  | [] => roundsF f c n a L

noncomputable def codeB (x : Code) : CodeB α := @Code.rec (fun _ => CodeB α)
  ⟨fun _ _ a L c => c .normal a L⟩
  (fun id ops d => match d with
    | false => ⟨fun call _ a L c => runB call (fun a' L' => c .normal a' L') (opsB P S fn ops ops.toList 0) none a L⟩
    | true => ⟨fun call _ a L c => anyF P S fn id ops call a L c⟩)
  (fun _ _ ihx ihy => ⟨fun call n a L c => ihx.run call n a L fun r a1 L1 => seqF (ihy.run call n) c r a1 L1⟩)
  (fun b _ _ ihx ihy => ⟨fun call n a L c => condF b (ihx.run call n) (ihy.run call n) a L c⟩)
  (fun id _ ih => ⟨fun call n a L c => ih.run call n a L fun r a1 L1 => blockF id c r a1 L1⟩)
  (fun x ih => ⟨fun call n a L c => loopF S fn x (ih.run call n) n a L c⟩)
  (fun _ _ _ _ _ _ => ⟨fun _ _ _ _ _ => .fail⟩)
  (fun id => ⟨fun _ _ a L c => c (.exit id) a L⟩)
  (fun _ _ => ⟨fun _ _ _ _ _ => .fail⟩)
  (fun _ => ⟨fun _ _ a L c => c .normal a L⟩)
  (fun _ => ⟨fun _ _ _ _ _ => .fail⟩)
  ⟨fun _ _ a L c => c .ret a L⟩
  (fun _ => ⟨fun _ _ _ _ _ => .fail⟩)
  x

structure FnB (α : Type) where
  f : CallE α → Nat → Array Value → List Blk → (Value → List Blk → T α) → T α

noncomputable def FnB.run (b : FnB α) : CallE α → Nat → Array Value → List Blk → (Value → List Blk → T α) → T α := @FnB.rec α (fun _ => CallE α → Nat → Array Value → List Blk → (Value → List Blk → T α) → T α) (fun f => f) b

noncomputable def retF (rs : List ResultVar) (c : Value → List Blk → T α) (x : Exit) (a : F) (L : List Blk) : T α := match x with
  | .normal => resT P a.get L rs fun l => c (oneV l) L
  | .ret => resT P a.get L rs fun l => c (oneV l) L
  | _ => .fail

noncomputable def fnB (f : FuncId) : FnB α := match nth P.funcs.toList f with
  | none => ⟨fun _ _ _ _ _ => .fail⟩
  | some fc => match fc.body with
    | none => ⟨fun _ _ _ _ _ => .fail⟩
    | some b => ⟨fun call n args L c => (codeB P S f b).run call n (F.init args fc.ntmps) L fun x a L' => retF P fc.results.toList c x a L'⟩

noncomputable def fnC (f : FuncId) : FnB α := match S.cl f with
  | k :: ks => ⟨fun call n args L c => .or (.num ((k :: ks).length + 1)) fun j => match nth (k :: ks) j with
    | some k => match Nat.decEq (k args L).f f with
      | .isTrue _ => metBy (k args L) args L c
      | .isFalse _ => .fail
    | none => (fnB P S f).run call n args L c⟩
  | [] => fnB P S f

noncomputable def callN (n : Nat) : CallE α := @Nat.rec (fun _ => CallE α) (fun _ _ _ _ => .fail) (fun n ih f args L c => (fnC P S f).run ih n args L c) n
end code

section sound
variable {P : Program} {S : Ctx} {w0 : World} {keep : Nat → Prop} {K : α → Prop}

theorem opsB_at {fn : FuncId} {ops : Array Oper} : ∀ (l : List Oper) (i : Nat), (∀ j o, l[j]? = some o → ops[i + j]? = some o) → ∀ {b : OpB α} {r : List (OpB α)}, opsB P S fn ops l i = b :: r → ∃ o l', l = o :: l' ∧ b = opB P S fn ops i o ∧ r = opsB P S fn ops l' (i + 1)
  | [], i, _, b, r, h => by cases h
  | o :: l, i, hl, b, r, h => by
    change opB P S fn ops i o :: opsB P S fn ops l (i + 1) = b :: r at h
    injection h with h1 h2
    exact ⟨o, l, rfl, h1.symm, h2.symm⟩

theorem runB_sound (hS : S.holds P) {fn : FuncId} {call : CallE α} (hs : SoundC P w0 keep K call) {ops : Array Oper} {Q : Exit → Act → World → Prop} {c : F → List Blk → T α} (hQ : ∀ a' L' b' W', (c a' L').all K → RelF a' b' → Rep w0 keep L' W' → Q .normal b' W') :
    ∀ (l : List Oper) (i : Nat), (∀ j o, l[j]? = some o → ops[i + j]? = some o) → i + l.length = ops.size → ∀ {g : Option G} {a : F} {L : List Blk}, (runB call c (opsB P S fn ops l i) g a L).all K →
    ∀ {b : Act} {W : World}, RelF a b → Inv g b → Rep w0 keep L W → wpOps P ops Q (List.range' i l.length) b W
  | [], i, _, _, g, a, L, h, b, W, hf, _, hr => hQ _ _ _ _ h hf hr
  | o :: l, i, hl, hn, g, a, L, h, b, W, hf, hi, hr => by
    have h0 := hl 0 o rfl
    rw [List.length_cons, List.range'_succ, wpOps_cons]
    have h : ((opB P S fn ops i o).run call g a L (runB call c (opsB P S fn ops l (i + 1)))).all K := h
    refine evAtG_sound hS hs (c := runB call c (opsB P S fn ops l (i + 1))) (fits_op (by simpa using h0) call g a L _ K h) hf hi hr fun g' a' L' b' W' hk hf' hi' hr' => ?_
    exact runB_sound hS hs hQ l (i + 1) (fun j u hu => by
      have := hl (j + 1) u (by simpa using hu)
      rw [← this]
      congr 1
      omega) (by rw [List.length_cons] at hn; omega) hk hf' hi' hr'

theorem roundsF_sound {x : Code} {f : PieceE α} (hf : SoundE P w0 keep K x f) {c : Exit → F → List Blk → T α} : ∀ (m : Nat) (a : F) (L : List Blk), (roundsF f c m a L).all K →
    ∀ b W, RelF a b → Rep w0 keep L W → Code.rounds P x (Post w0 keep K c) m b W
  | 0, a, L, h, b, W, _, _ => h.elim
  | m + 1, a, L, h, b, W, hrel, hr => by
    rw [rounds_succ]
    have hg : ∃ a', RelF a' b ∧ (f a' L fun x a1 L1 => againF (roundsF f c m) c x a1 L1).all K := by
      change (match Nat.beq (Nat.mod m 4) 0 with
        | true => forceL (compactW 0 a.w) fun w => f ⟨a.n, w⟩ L fun x a1 L1 => againF (roundsF f c m) c x a1 L1
        | false => f a L fun x a1 L1 => againF (roundsF f c m) c x a1 L1).all K at h
      split at h
      · rw [forceL_eq] at h
        exact ⟨_, RelF.shorten hrel, h⟩
      · exact ⟨_, hrel, h⟩
    obtain ⟨a', hrel', h⟩ := hg
    refine wp_mono (hf _ _ _ h b W hrel' hr) ?_
    rintro x a2 W2 ⟨hx, g, L2, h, hrel2, hr2⟩
    cases x with
    | normal => exact roundsF_sound hf m _ _ h a2 W2 hrel2 hr2
    | _ => exact ⟨hx, g, L2, h, hrel2, hr2⟩

theorem codeB_sound (hS : S.holds P) (hP : P.follows .mixedOrders = true) (fn : FuncId) {call : CallE α} (hss : ∀ w0 keep, SoundC P w0 keep K call) (n : Nat) : ∀ x : Code, SoundE P w0 keep K x ((codeB P S fn x).run call n) := by
  have hs : SoundC P w0 keep K call := hss w0 keep
  intro x
  induction x with
  | skip => intro a L c h b W hrel hr; exact wp_skip ⟨rfl, _, _, h, hrel, hr⟩
  | region id ops d =>
    cases d with
    | false =>
      intro a L c h b W hrel hr
      have h : (runB call (fun a' L' => c .normal a' L') (opsB P S fn ops ops.toList 0) none a L).all K := h
      refine wp_region ?_
      have := runB_sound hS hs (Q := Post w0 keep K c) (c := fun a' L' => c .normal a' L') (fun a' L' b' W' hk hb' hr' => ⟨rfl, _, _, hk, hb', hr'⟩) ops.toList 0 (fun j o ho => by rw [Nat.zero_add]; simpa using ho) (by simp) h hrel (Inv.none _) hr
      rw [Array.length_toList, ← List.range_eq_range'] at this
      exact this
    | true =>
      intro a L c h b W hrel hr
      exact anyF_sound hS hP hss id ops _ _ _ h b W hrel hr
  | seq x y ihx ihy =>
    intro a L c h b W hrel hr
    refine wp_seq (wp_mono (ihx _ _ _ h b W hrel hr) ?_)
    rintro x a2 W2 ⟨hx, g2, L2, h, hrel2, hr2⟩
    cases x with
    | normal => exact ihy _ _ _ h a2 W2 hrel2 hr2
    | _ => exact ⟨hx, _, _, h, hrel2, hr2⟩
  | cond c x y ihx ihy =>
    intro a L k h b W hrel hr
    change (condF c ((codeB P S fn x).run call n) ((codeB P S fn y).run call n) a L k).all K at h
    unfold condF at h
    split at h
    · rename_i s
      split at h
      · rename_i t hb
        have hb' : b.eval (.tmp s) = .bool t := by rw [← hrel.eval]; exact hb
        cases t with
        | true => exact wp_cond_true hb' (ihx _ _ _ (h.1 rfl) b W (hrel.same hb) hr)
        | false => exact wp_cond_false hb' (ihy _ _ _ (h.2 rfl) b W (hrel.same hb) hr)
      · exact h.elim
    · split at h
      · rename_i t hb
        rw [hrel.eval] at hb
        cases t with
        | true => exact wp_cond_true hb (ihx _ _ _ (h.1 rfl) b W hrel hr)
        | false => exact wp_cond_false hb (ihy _ _ _ (h.2 rfl) b W hrel hr)
      · exact h.elim
  | block id x ih =>
    intro a L c h b W hrel hr
    refine wp_block (wp_mono (ih _ _ _ h b W hrel hr) ?_)
    rintro x a2 W2 ⟨hx, g2, L2, h, hrel2, hr2⟩
    cases x with
    | exit id' =>
      simp only [blockF] at h
      split at h
      · rename_i hid
        have hid := Nat.eq_of_beq_eq_true hid
        simp only [Exit.inBlock, hid, if_true]
        exact ⟨rfl, _, _, h, hrel2, hr2⟩
      · rename_i hid
        have hid : ¬ id' = id := fun he => by rw [he, Nat.beq_refl] at hid; cases hid
        simp only [Exit.inBlock, hid, if_false]
        exact ⟨rfl, _, _, h, hrel2, hr2⟩
    | normal => exact ⟨hx, _, _, h, hrel2, hr2⟩
    | ret => exact ⟨hx, _, _, h, hrel2, hr2⟩
    | _ => simp [calm] at hx
  | loop x ih =>
    intro a L c h b W hrel hr
    change (loopF S fn x ((codeB P S fn x).run call n) n a L c).all K at h
    unfold loopF at h
    split at h
    · rename_i k ks hlp
      obtain ⟨j, h⟩ := h
      dsimp only at h
      split at h
      · rename_i k' hj
        rw [nth_eq] at hj
        exact loopBy_sound (hS.lp fn k' (by rw [hlp]; exact List.mem_of_getElem? hj) a L) h hrel hr
      · exact wp_loop_rounds n (roundsF_sound ih n _ _ h b W hrel hr)
    · exact wp_loop_rounds n (roundsF_sound ih n _ _ h b W hrel hr)
  | exit id => intro a L c h b W hrel hr; exact wp_exit ⟨rfl, _, _, h, hrel, hr⟩
  | label l => intro a L c h b W hrel hr; exact wp_label ⟨rfl, _, _, h, hrel, hr⟩
  | ret => intro a L c h b W hrel hr; exact wp_ret ⟨rfl, _, _, h, hrel, hr⟩
  | rangeFunc f ps x y _ _ => intro a L c h; exact h.elim
  | scope x _ => intro a L c h; exact h.elim
  | goto l => intro a L c h; exact h.elim
  | refuse s => intro a L c h; exact h.elim

theorem fnB_sound (hS : S.holds P) (hP : P.follows .mixedOrders = true) {call : CallE α} (hs : ∀ w0 keep, SoundC P w0 keep K call) (n : Nat) {f : FuncId} {args : Array Value} {L : List Blk} {c : Value → List Blk → T α} (h : ((fnB P S f).run call n args L c).all K) (W : World) (hr : Rep w0 keep L W) :
    Calls P f args W fun en W' => ∃ v L', en = .returned v ∧ Rep w0 keep L' W' ∧ (c v L').all K := by
  unfold fnB at h
  rw [nth_eq, Array.getElem?_toList] at h
  split at h
  · exact h.elim
  · rename_i fc hfn
    split at h
    · exact h.elim
    · rename_i x hb
      refine calls_of_wp hfn hb (wp_mono (codeB_sound hS hP f hs n x _ _ _ h _ W (RelF.init args fc.ntmps) hr) ?_)
      rintro x a2 W2 ⟨-, g2, L2, h, hrel2, hr2⟩
      have key : (resT P g2.get L2 fc.results.toList fun l => c (oneV l) L2).all K → bodyPost P fc (fun en W' => ∃ v L', en = .returned v ∧ Rep w0 keep L' W' ∧ (c v L').all K) .ret a2 W2 := fun h => by
        obtain ⟨l, hk, hrun⟩ := resT_spec (fun p hp => (hr2.blk p hp).1) h
        have hrun := resF_run (fn := fc) (hrun W2 (fun p hp => (hr2.blk p hp).1))
        rw [← resF_eq hrel2] at hrun
        exact ⟨hrel2.defers, _, hrun, _, L2, rfl, hr2, hk⟩
      cases x with
      | normal => exact key h
      | ret => exact key h
      | _ => exact h.elim

theorem callN_sound (hS : S.holds P) (hP : P.follows .mixedOrders = true) : ∀ (n : Nat) (w0 : World) (keep : Nat → Prop), SoundC P w0 keep K (callN P S n)
  | 0, w0, keep => fun f args L c h => h.elim
  | n + 1, w0, keep => fun f args L c h W hr => by
    have ih : ∀ w0 keep, SoundC P w0 keep K (callN P S n) := callN_sound hS hP n
    change ((fnC P S f).run (callN P S n) n args L c).all K at h
    unfold fnC at h
    split at h
    · rename_i k ks hcl
      obtain ⟨j, h⟩ := h
      dsimp only at h
      split at h
      · rename_i k' hj
        rw [nth_eq] at hj
        split at h
        · rename_i hcf _
          have := metBy_sound (hS.cl f k' (by rw [hcl]; exact List.mem_of_getElem? hj) args L) h hr
          rw [hcf] at this
          exact this
        · exact h.elim
      · exact fnB_sound hS hP ih n h W hr
    · exact fnB_sound hS hP ih n h W hr
end sound

/-! ### How it is used -/

noncomputable def inC (P : Program) (S : Ctx) (n : Nat) (f : FuncId) (args : Array Value) (L : List Blk) (kf : Blk → Bool) : T (Value × List Blk) := (fnB P S f).run (callN P S n) n args L fun v L' => .ret (v, L'.filter kf)

noncomputable def shutC (P : Program) (S : Ctx) (n : Nat) (f : FuncId) (args : Array Value) (v : Value) : T Unit := (fnB P S f).run (callN P S n) n args [] fun v' _ => .same (.val v') (.val v) (.ret ())

section
variable {P : Program} {S : Ctx}

theorem calls_ofC (hS : S.holds P) (hP : P.follows .mixedOrders = true) {n : Nat} {f : FuncId} {args : Array Value} {L0 : List Blk} {o : O} {R : (Nat → Let) → Res (Value × List Blk)} {kf : Blk → Bool} (h : Ran (inC P S n f args L0 kf) o R)
    {w0 W : World} {keep : Nat → Prop} (hr : Rep w0 keep L0 W) {Q : Ending → World → Prop} (hQ : ∀ ns, (R ns).holds fun y => ∀ W', Rep w0 keep y.2 W' → Q (.returned y.1) W') : Calls P f args W Q := by
  have hall := h.all hQ
  refine (fnB_sound hS hP (callN_sound hS hP n) n hall W hr).mono ?_
  rintro en W' ⟨v', L', rfl, hr', hk⟩
  exact hk W' (hr'.sub List.filter_sublist)

theorem meets_ofC (hS : S.holds P) (hP : P.follows .mixedOrders = true) {n : Nat} {c : CallC} {o : O} {R : (Nat → Let) → Res (Value × List Blk)} {kf : Blk → Bool} (h : Ran (inC P S n c.f c.args (blks c.mem) kf) o R)
    (hQ : c.ok → ∀ ns, (R ns).holds (leafC c)) : Meets P c := by
  intro hok W hpre
  refine calls_ofC hS hP h (rep_of_pre hpre) fun ns => Res.holds_mono (fun y hy W' hr => ?_) _ (hQ hok ns)
  obtain ⟨o, ho, ns, h1, h2, ⟨pk, h3, h4⟩, h5⟩ := hy
  exact ⟨o, ho, ns, by rw [h2], post_of_rep hr h1 h5 pk h3 h4⟩

theorem calls_shutC (hS : S.holds P) (hP : P.follows .mixedOrders = true) {n : Nat} {f : FuncId} {args : Array Value} {v : Value} {o : O} (ps : List Prop) (hps : ∀ p ∈ ps, p)
    (h : ∀ ns, ((shutC P S n f args v).run o ns).map (fun x => (x.res.asks, x.l)) = ((shutC P S n f args v).run o ns).map (fun x => (some ps, x.r))) (h0 : ∀ ns, ((shutC P S n f args v).run o ns).isSome = true) (W : World) :
    Calls P f args W fun e W' => e = .returned v ∧ Below W.heap.size W W' := by
  have hall : (shutC P S n f args v).all fun _ => True := by
    refine all_of_run _ o fun ns => ?_
    have h := h ns
    have h0 := h0 ns
    cases hx : (shutC P S n f args v).run o ns with
    | none => rw [hx] at h0; cases h0
    | some x =>
      rw [hx] at h
      simp only [Option.map_some, Option.some.injEq, Prod.mk.injEq] at h
      exact ⟨x, rfl, h.2, Res.asks_holds h.1 hps⟩
  refine (fnB_sound hS hP (callN_sound hS hP n) n hall W (rep_start W)).mono ?_
  rintro en W' ⟨v', L', rfl, hr', hk⟩
  have hv : v' = v := tok_val hk.1
  exact ⟨by rw [hv], hr'.below⟩
end

end Go.Proofs.Ytbgmkefehfjicaa.Sy
