/-
  Symbolic runs: operations, regions, code, calls.
-/
import Derived.Test.YtbgmkefehfjicaaSyB
import Derived.OrdersHeld
namespace Go.Proofs.Ytbgmkefehfjicaa.Sy
open Go Go.RowKit
open Ev (one cell_of frozen_of calm)

variable (P : Program) (S : Ctx)

variable {α : Type}

abbrev CallE (α : Type) := FuncId → Array Value → List Blk → (Value → List Blk → T α) → T α

section
variable {α β : Type}
def askN : Nat → (List Let → T α) → T α
  | 0, k => k []
  | n + 1, k => .ask fun x => askN n fun r => k (x :: r)

/-- Each of several. -/
def outsT : List β → (β → T α) → T α
  | [], _ => .fail
  | [o], f => f o
  | o :: p :: r, f => .both (f o) (outsT (p :: r) f)

theorem outsT_all {f : β → T α} {K : α → Prop} : ∀ {l : List β}, (outsT l f).all K → ∀ o ∈ l, (f o).all K
  | [], h, o, ho => by cases ho
  | [p], h, o, ho => by
    obtain rfl : o = p := by simpa using ho
    exact h
  | p :: q :: r, h, o, ho => by
    rcases List.mem_cons.1 ho with rfl | ho
    · exact h.1
    · exact outsT_all h.2 o ho

/-- Blocks taken out of those that are known. -/
noncomputable def takeAll (ow : Bool) : List (Nat × Cont) → List Blk → (List Blk → List Blk → T α) → T α
  | [], L, k => k L []
  | p :: r, L, k => pickT L p.1 fun b j => match (!ow || b.own) with
    | true => .same (.cont p.2) (.cont (match ow with | true => p.2.useView b.ct | false => p.2.view b.ct)) (forceT (L.eraseIdx j) fun L1 => takeAll ow r L1 fun L2 U => k L2 (b :: U))
    | false => .fail

def ownOf (p : Nat × Cont) : Blk := ⟨p.1, p.2, true⟩

/-- All of it is known. -/
def GotL (L : List Blk) (l : List (Nat × Cont)) : Prop := ∀ p ∈ l, ∃ q ∈ L, q.nm = p.1 ∧ ∀ h, q.ct.sat h → p.2.sat h

/-- What is read, however much that is. -/
noncomputable def rbT (l : List (Nat × Cont)) (L : List Blk) (k : T α) : T α := .or .force (two (match l with
  | [] => k
  | _ => .fail) (.or (.tail (L.map (·.nm))) fun d => .need (GotL (L.drop d) l) k))

noncomputable def memBy (c : MemC) (L : List Blk) (outs : List (OutM × β)) (k : β → List Let → List Blk → T α) : T α :=
  takeAll false c.rd L fun L1 U1 => takeAll true c.use L1 fun L2 _ => rbT c.rb (U1 ++ L2) (outsT outs fun o => askN c.m fun ns => .hyp (o.1.hyp ns) (.or .force (two (match o.1.nb ns with
    | [] => forceT ((o.1.nw ns).map ownOf ++ (U1 ++ L2)) fun L3 => k o.2 ns L3
    | _ => .fail) (forceT ((o.1.nw ns).map ownOf ++ ((U1 ++ L2) ++ (o.1.nb ns).map ownOf)) fun L3 => k o.2 ns L3))))
end

/-- An operation's word, for those that are given: its slot, or what it is. -/
def keyOf (o : Oper) : Nat := match o.dst with
  | some t => t
  | none => match o.op with
    | .mapUpdate .. => 900000
    | .store .. => 900001
    | _ => 900002

def zerosOf (o : Oper) : List Value := match o.op with
  | .load t _ => zeroCells P t
  | _ => []

def stepO (call : CallE α) (o : Oper) (a : F) (c : F → List Blk → T α) (x : Next) (L : List Blk) : T α := match x with
  | .value v => c (a.put o.dst v) L
  | .skip => c (a.put o.dst undef) L
  | .enter f args => call f args L fun v L' => c (a.put o.dst v) L'
  | _ => .fail

noncomputable def opBy (k : OpC) (o : Oper) (a : F) (L : List Blk) (c : F → List Blk → T α) : T α := memBy k.mem L k.outs fun v ns L' => c (a.put o.dst ((v ns).getD undef)) L'

noncomputable def genOp (call : CallE α) (o : Oper) (a : F) (L : List Blk) (c : F → List Blk → T α) : T α := lrun P (execOp a.eval o) (zerosOf P o) L (stepO call o a c)

/-- A slice of which nothing is known: its length, where it begins. -/
def lenS (v : Value) : Nat := match v with
  | .slice _ n _ => n
  | _ => 0
def ptrS (v : Value) : Nat := match v with
  | .slice (some ⟨b, _, _⟩) _ _ => b
  | _ => 0
def offS (v : Value) : Nat := match v with
  | .slice (some ⟨_, o, _⟩) _ _ => o
  | _ => 0

def canOpa (o : Oper) : Bool := match o.op with
  | .indexAddr .. => true
  | .call c => match c.callee with
    | .builtin .len => true
    | _ => false
  | _ => false

noncomputable def opaV (P : Program) (a : F) (o : Oper) (k : Value → T α) : T α := match o.op with
  | .indexAddr t x y => match P.underlying t with
    | some (.slice el) => match P.info? el with
      | some inf => match a.eval y with
        | .int _ i => .need ((∃ n c, a.eval x = .slice (some ⟨ptrS (a.eval x), offS (a.eval x), none⟩) n c) ∧ 0 ≤ i ∧ i < (lenS (a.eval x) : Int)) (k (.pointer (some ⟨ptrS (a.eval x), offS (a.eval x) + i.toNat * inf.size, none⟩)))
        | _ => .fail
      | none => .fail
    | _ => .fail
  | .call c => match c.callee with
    | .builtin .len => match c.args.toList, c.argTypes.toList with
      | [x], [t] => match P.underlying t with
        | some (.slice _) => .need (∃ p n c, a.eval x = .slice p n c) (k (.int .i64 (Int.ofNat (lenS (a.eval x)))))
        | _ => .fail
      | _, _ => .fail
    | _ => .fail
  | _ => .fail

noncomputable def doOp0 (call : CallE α) (o : Oper) (a : F) (L : List Blk) (c : F → List Blk → T α) : T α :=
  match doing P a.eval o with
  | .val v => c (a.put o.dst v) L
  | .maybe b p v => reqP b p (c (a.put o.dst v) L)
  | .load t b off => loadN P t b off L fun v => c (a.put o.dst v) L
  | .store b off v => pickT L b fun p j => reqP (one v) (one v = true) (putT L p j ⟨b, off, none⟩ v fun L' => c (a.put o.dst undef) L')
  | .whole n b off C => altT (match Nat.beq off 0 with
    | false => .fail
    | true => pickT L b fun p j => match p with
      | ⟨nm, .obj (.cells old ty (lo, hi)), true⟩ => match Nat.beq lo 0 && Nat.beq hi 0 with
        | true => reqP (Nat.beq old.size C.size && (Nat.beq n C.size && C.all (·.oneCell'))) (old.size = C.size ∧ n = C.size ∧ C.all (·.oneCell') = true) (setK L j ⟨nm, .obj (.cells C ty (0, 0)), true⟩ fun L' => c (a.put o.dst undef) L')
        | false => .fail
      | _ => .fail) (genOp P call o a L c)
  | .app t v x => altT (appT P L t v x fun k => opBy k o a L c) (genOp P call o a L c)
  | .call f args => call f args L fun v L' => c (a.put o.dst v) L'
  | .make e z bytes n lv cv => altT (genOp P call o a L c) (.same (.val lv) (.val cv) (reqP (Ex.leQ 0 n && (Nat.ble (n.toNat * bytes) 281474976710656 && Nat.ble n.toNat maxLen)) (0 ≤ n ∧ n.toNat * bytes ≤ 281474976710656 ∧ n.toNat ≤ maxLen)
      (.ask fun x => c (a.put o.dst (.slice (some ⟨x.n, 0, none⟩) n.toNat n.toNat)) (⟨x.n, .row e 1 n.toNat n.toNat (List.replicate n.toNat z), true⟩ :: L))))
  | .bytes s => forceL (bytesV s) fun l => opBy (bytesC s.size l) o a L c
  | .peq neg b1 o1 b2 o2 => peqT L b1 o1 b2 o2 fun r => c (a.put o.dst (.bool (bif neg then !r else r))) L
  | .cas b off old new => casT L b off old new fun r L' => c (a.put o.dst (.bool r)) L'
  | .gen => genOp P call o a L c

noncomputable def doOp (call : CallE α) (o : Oper) (a : F) (L : List Blk) (c : F → List Blk → T α) : T α := match canOpa o with
  | true => .or .force (two (doOp0 P call o a L c) (opaV P a o fun v => c (a.put o.dst v) L))
  | false => doOp0 P call o a L c

noncomputable def evOp (fn : FuncId) (call : CallE α) (o : Oper) (a : F) (L : List Blk) (c : F → List Blk → T α) : T α :=
  match S.op fn (keyOf o) with
  | k :: ks => .or (.num ((k :: ks).length + 1)) fun j => match nth (k :: ks) j with
      | some k => .same (.sem (execOp a.eval o)) (.sem (k a L).s) (.need (k a L).ok (opBy (k a L).c o a L c))
      | none => doOp P call o a L c
  | [] => doOp P call o a L c

/-- Is it to be done at all? -/
inductive Guard where
  | free
  | no
  | test (t : Nat) (b want : Bool)

noncomputable def guardOf (a : F) (ops : Array Oper) (o : Oper) : Guard := match o.guard with
  | none => .free
  | some (j, want) => match nth ops.toList j with
    | none => .no
    | some oj => match oj.dst with
      | none => .no
      | some t => match a.get t with
        | .bool b => .test t b want
        | _ => .no

noncomputable def guardT (a : F) (ops : Array Oper) (o : Oper) (yes no : F → T α) : T α := match guardOf a ops o with
  | .free => yes a
  | .no => no a
  | .test t b want => match want with
    | true => .cond b (yes (a.put (some t) (.bool true))) (no (a.put (some t) (.bool false)))
    | false => .cond b (no (a.put (some t) (.bool true))) (yes (a.put (some t) (.bool false)))

theorem guardT_spec {a : F} {ops : Array Oper} {o : Oper} {yes no : F → T α} {K : α → Prop} {b : Act} (hf : RelF a b) (h : (guardT a ops o yes no).all K) :
    ∃ a', RelF a' b ∧ ((Region.wanted o (yielded ops b.tmps) = true ∧ (yes a').all K) ∨ (Region.wanted o (yielded ops b.tmps) = false ∧ (no a').all K)) := by
  rw [← hf.yielded]
  unfold guardT at h
  have key : match guardOf a ops o with
      | .free => Region.wanted o (a.yielded ops) = true
      | .no => Region.wanted o (a.yielded ops) = false
      | .test t b want => Region.wanted o (a.yielded ops) = (b == want) ∧ a.get t = .bool b := by
    unfold guardOf Region.wanted F.yielded
    cases hg : o.guard with
    | none => rfl
    | some p =>
      obtain ⟨j, want⟩ := p
      simp only [nth_eq]
      cases hj : ops.toList[j]? with
      | none => rfl
      | some oj =>
        simp only
        cases hd : oj.dst with
        | none => rfl
        | some t =>
          simp only
          cases hv : a.get t with
          | bool b => exact ⟨by cases b <;> cases want <;> rfl, hv⟩
          | _ => rfl
  split at h
  · rename_i hg
    rw [hg] at key
    exact ⟨a, hf, .inl ⟨key, h⟩⟩
  · rename_i hg
    rw [hg] at key
    exact ⟨a, hf, .inr ⟨key, h⟩⟩
  · rename_i t c want hg
    rw [hg] at key
    obtain ⟨k1, k2⟩ := key
    cases want <;> cases c
    · exact ⟨_, hf.same k2, .inl ⟨k1, h.2 rfl⟩⟩
    · exact ⟨_, hf.same k2, .inr ⟨k1, h.1 rfl⟩⟩
    · exact ⟨_, hf.same k2, .inr ⟨k1, h.2 rfl⟩⟩
    · exact ⟨_, hf.same k2, .inl ⟨k1, h.1 rfl⟩⟩


/-! ### Operations under one open guard, and the pick behind them: done at once -/

/-- One that does nothing but reckon. -/
def pureKind (o : Oper) : Bool := match o.op with
  | .move _ | .assign _ | .convert .. | .unOp .. | .fieldAddr .. | .load .. => true
  | .binOp op _ _ _ _ => match op with
    | .shl | .shr | .quo | .rem => false
    | _ => true
  | .call c => match c.callee with
    | .builtin .len => true
    | .builtin .cap => true
    | .builtin .max => true
    | .builtin .min => true
    | _ => false
  | _ => false

noncomputable def plainGuard (ops : Array Oper) (j : Nat) : Bool := match nth ops.toList j with
  | some o => match o.guard with
    | none => true
    | some _ => false
  | none => false

/-- May those with this guard be taken at once? -/
noncomputable def groupOk (ops : Array Oper) (o : Oper) : Bool := match o.guard with
  | none => false
  | some (j, want) => @List.rec Oper (fun _ => Bool) true (fun p _ ih => match p.guard with
      | none => ih
      | some (j', w') => match plainGuard ops j' with
        | false => false
        | true => match Nat.beq j j' with
          | false => ih
          | true => match want, w' with
            | true, true => match pureKind p with
              | true => ih
              | false => false
            | false, false => match pureKind p with
              | true => ih
              | false => false
            | _, _ => false) ops.toList

/-- A group under way: the guard; the frame as it is where they are done. -/
structure G where
  b : Bool
  want : Bool
  a : F

def hit (b want : Bool) : Bool := match want with
  | true => b
  | false => !b

def selV (c : Bool) (v w : Value) : Value := match c with
  | true => v
  | false => w

/-! ### Values, made ready: each operation is looked at once -/

structure VB (α : Type) where
  f : F → List Blk → (Value → T α) → T α → T α

noncomputable def VB.run (b : VB α) : F → List Blk → (Value → T α) → T α → T α := @VB.rec α (fun _ => F → List Blk → (Value → T α) → T α → T α) (fun f => f) b

def twoI (op : BinOp) (x y : Value) : Option Value := match x with
  | .int k a => match y with
    | .int k' b => Ex.twoQ op (.int k a) (.int k' b)
    | _ => none
  | _ => none

def optF (k : Value → T α) (e : T α) (r : Option Value) : T α := match r with
  | some v => k v
  | none => e

/-- Are two integers one? They may be one term. -/
def sameF (r : Bool) (op : BinOp) (k : Value → T α) (e : T α) (x y : Value) : T α := match x with
  | .int kx a => match y with
    | .int ky b => .or (.ints a b) (two (.same (.val (.int kx a)) (.val (.int ky b)) (k (.bool r))) (optF k e (Ex.twoQ op (.int kx a) (.int ky b))))
    | _ => e
  | _ => e

def ptrF (g : Nat → Nat → T α) (e : T α) (v : Value) : T α := match v with
  | .pointer (some ⟨b, off, none⟩) => g b off
  | _ => e

def ixF (size : Nat) (k : Value → T α) (e : T α) (v w : Value) : T α := match v with
  | .slice (some ⟨b, off, none⟩) n _ => match w with
    | .int _ i => reqP (Ex.leQ 0 i && Ex.ltQ i (n : Int)) (0 ≤ i ∧ i < (n : Int)) (k (.pointer (some ⟨b, off + i.toNat * size, none⟩)))
    | _ => e
  | _ => e

noncomputable def idxF (k : Value → T α) (e : T α) (v w : Value) : T α := match v with
  | .string s => match w with
    | .int _ i => reqP (Ex.leQ 0 i && Ex.ltQ i (s.size : Int)) (0 ≤ i ∧ i < (s.size : Int)) (k (.int .u8 (byteQ s i.toNat)))
    | _ => e
  | _ => e

noncomputable def extF (ix : Nat) (k : Value → T α) (e : T α) (v : Value) : T α := match v with
  | .tuple vs => optF k e (nth vs.toList ix)
  | _ => e

def lenF (str : Bool) (k : Value → T α) (e : T α) (v : Value) : T α := match v with
  | .string s => match str with
    | true => k (.int .i64 (Int.ofNat s.size))
    | false => e
  | .slice _ n _ => match str with
    | true => e
    | false => k (.int .i64 (Int.ofNat n))
  | _ => e

noncomputable def fieldOffP (s : TypeId) (f : Nat) : Option Nat := match P.underlying s with
  | some (.struct fs) => match fs[f]? with
    | some fl => match sizeP P fl.type with
      | some n => match Nat.beq n 0 with
        | true => none
        | false => some fl.offset
      | none => none
    | none => none
  | _ => none

noncomputable def elemSizeP (t : TypeId) : Option Nat := match P.underlying t with
  | some (.slice el) => match P.info? el with
    | some inf => some inf.size
    | none => none
  | _ => none

/-- Is it a string's length, a slice's? -/
noncomputable def lenP (t : TypeId) : Option Bool := match P.underlying t with
  | some .string => some true
  | some (.slice _) => some false
  | _ => none

noncomputable def elseV : VB α := ⟨fun _ _ _ e => e⟩

noncomputable def valB (o : Oper) : VB α := match o.op with
  | .move x => ⟨fun a _ k _ => k (a.eval x)⟩
  | .assign x => ⟨fun a _ k _ => k (a.eval x)⟩
  | .binOp op _ x y _ => match isShift op with
    | true => elseV
    | false => match op with
      | .eql => ⟨fun a _ k e => sameF true .eql k e (a.eval x) (a.eval y)⟩
      | .neq => ⟨fun a _ k e => sameF false .neq k e (a.eval x) (a.eval y)⟩
      | op => ⟨fun a _ k e => optF k e (twoI op (a.eval x) (a.eval y))⟩
  | .load t x => ⟨fun a L k e => ptrF (fun b off => loadN P t b off L k) e (a.eval x)⟩
  | .fieldAddr s x f => match fieldOffP P s f with
    | some foff => ⟨fun a _ k e => ptrF (fun b off => k (.pointer (some ⟨b, Nat.add off foff, none⟩))) e (a.eval x)⟩
    | none => elseV
  | .indexAddr t x y => match elemSizeP P t with
    | some size => ⟨fun a _ k e => .or .force (two (ixF size k e (a.eval x) (a.eval y)) e)⟩
    | none => elseV
  | .index t x y => match lenP P t with
    | some true => ⟨fun a _ k e => idxF k e (a.eval x) (a.eval y)⟩
    | _ => elseV
  | .extract x ix => ⟨fun a _ k e => extF ix k e (a.eval x)⟩
  | .call c => match c.callee with
    | .builtin .len => match c.args.toList, c.argTypes.toList with
      | [x], [t] => match lenP P t with
        | some str => ⟨fun a _ k e => .or .force (two (lenF str k e (a.eval x)) e)⟩
        | none => elseV
      | _, _ => elseV
    | _ => elseV
  | _ => elseV

/-- What it tells is what is to be done. -/
def Tells (P : Program) (L : List Blk) (k : Value → T α) (K : α → Prop) (d : Doing) : Prop :=
  (∃ v, d = .val v ∧ (k v).all K) ∨ (∃ t b off, d = .load t b off ∧ (loadN P t b off L k).all K) ∨ (∃ b p v, d = .maybe b p v ∧ (reqP b p (k v)).all K)

variable {P} in
theorem valB_spec {o : Oper} {a : F} {L : List Blk} {k : Value → T α} {e : T α} {K : α → Prop} (h : ((valB P o : VB α).run a L k e).all K) : e.all K ∨ Tells P L k K (doing P a.eval o) := by
  have vl : ∀ v, doing P a.eval o = .val v → (k v).all K → e.all K ∨ Tells P L k K (doing P a.eval o) := fun v h1 h2 => .inr (.inl ⟨v, h1, h2⟩)
  unfold valB at h
  split at h
  · rename_i x ho
    exact vl _ (by unfold doing quick; simp only [ho]) h
  · rename_i x ho
    exact vl _ (by unfold doing quick; simp only [ho]) h
  · rename_i op t x y u ho
    split at h
    · exact .inl h
    · rename_i hs
      have key : ∀ (kx ky : IntKind) (m m' : Int) (v : Value), a.eval x = .int kx m → a.eval y = .int ky m' → Ex.twoQ op (.int kx m) (.int ky m') = some v → doing P a.eval o = .val v := fun kx ky m m' v h1 h2 hv => by
        unfold doing quick
        simp only [ho, hs, h1, h2, hv]
      have opt : ∀ {r : Option Value}, (∀ v, r = some v → doing P a.eval o = .val v) → (optF k e r).all K → e.all K ∨ Tells P L k K (doing P a.eval o) := fun {r} hr h => by
        unfold optF at h
        split at h
        · exact vl _ (hr _ rfl) h
        · exact .inl h
      have same : ∀ r : Bool, (∀ kx m, Ex.twoQ op (.int kx m) (.int kx m) = some (.bool r)) → (sameF r op k e (a.eval x) (a.eval y)).all K → e.all K ∨ Tells P L k K (doing P a.eval o) := fun r hr h => by
        unfold sameF at h
        split at h
        · rename_i kx m h1
          split at h
          · rename_i ky m' h2
            rcases two_spec h with hx | hx
            · obtain ⟨h3, hx⟩ := hx
              have h3 := tok_val h3
              injection h3 with h4 h5
              subst h4 h5
              exact vl _ (key _ _ _ _ _ h1 h2 (hr _ _)) hx
            · exact opt (fun v hv => key _ _ _ _ _ h1 h2 hv) hx
          · exact .inl h
        · exact .inl h
      split at h
      · exact same true (fun kx m => by simp [Ex.twoQ, Ex.intQ, Ex.binQ, Ex.eqQ_eq]) h
      · exact same false (fun kx m => by simp [Ex.twoQ, Ex.intQ, Ex.binQ, Ex.eqQ_eq]) h
      · refine opt (fun v hv => ?_) h
        unfold twoI at hv
        split at hv
        · rename_i kx m h1
          split at hv
          · rename_i ky m' h2
            exact key _ _ _ _ _ h1 h2 hv
          · cases hv
        · cases hv
  · rename_i t x ho
    change (ptrF (fun b off => loadN P t b off L k) e (a.eval x)).all K at h
    unfold ptrF at h
    split at h
    · rename_i b off hv
      refine .inr (.inr (.inl ⟨t, b, off, ?_, h⟩))
      unfold doing loadOf
      simp only [ho, hv]
    · exact .inl h
  · rename_i s x f ho
    split at h
    · rename_i foff hf
      change (ptrF (fun b off => k (.pointer (some ⟨b, Nat.add off foff, none⟩))) e (a.eval x)).all K at h
      unfold ptrF at h
      split at h
      · rename_i b off hv
        refine vl _ ?_ h
        unfold doing quick
        simp only [ho, hv]
        have : fieldQ P s f b off = some (.pointer (some ⟨b, Nat.add off foff, none⟩)) := by
          unfold fieldOffP at hf
          unfold fieldQ
          split at hf
          · rename_i fs hu
            simp only [hu]
            split at hf
            · rename_i fl hfl
              simp only [hfl]
              split at hf
              · rename_i n hn
                simp only [hn]
                split at hf
                · cases hf
                · rename_i hz
                  injection hf with hf
                  simp only [hz, hf]
              · cases hf
            · cases hf
          · cases hf
        simp only [this]
      · exact .inl h
    · exact .inl h
  · rename_i t x y ho
    split at h
    · rename_i size hf
      rcases (two_spec h).symm with h | h
      · exact .inl h
      unfold ixF at h
      split at h
      · rename_i b off n cc hv
        split at h
        · rename_i kk j hw
          refine .inr (.inr (.inr ⟨_, _, _, ?_, h⟩))
          unfold elemSizeP at hf
          unfold doing symQ
          simp only [ho, hv, hw]
          split at hf
          · rename_i el hu
            simp only [hu]
            split at hf
            · rename_i inf hi
              injection hf with hf
              simp only [hi, hf]
            · cases hf
          · cases hf
        · exact .inl h
      · exact .inl h
    · exact .inl h
  · rename_i t x y ho
    split at h
    · rename_i hf
      change (idxF k e (a.eval x) (a.eval y)).all K at h
      unfold idxF at h
      split at h
      · rename_i s hv
        split at h
        · rename_i kk j hw
          refine .inr (.inr (.inr ⟨_, _, _, ?_, h⟩))
          unfold lenP at hf
          unfold doing symQ
          simp only [ho, hv, hw]
          split at hf
          · rename_i hu
            simp only [hu]
          · cases hf
          · cases hf
        · exact .inl h
      · exact .inl h
    · exact .inl h
  · rename_i x ix ho
    change (extF ix k e (a.eval x)).all K at h
    unfold extF at h
    split at h
    · rename_i vs hv
      unfold optF at h
      split at h
      · rename_i v hn
        refine vl v ?_ h
        unfold doing quick
        simp only [ho, hv, hn]
      · exact .inl h
    · exact .inl h
  · rename_i c ho
    split at h
    · rename_i hc
      split at h
      · rename_i x t ha ht
        split at h
        · rename_i str hl
          rcases (two_spec h).symm with h | h
          · exact .inl h
          have key : ∀ v, lenOf P a.eval o = some v → doing P a.eval o = .val v := fun v hv => by
            have h1 : callOf P a.eval o = none := by unfold callOf; simp only [ho, hc]
            have h2 : appOf a.eval o = none := by unfold appOf; simp only [ho, hc]
            have h3 : mmOf a.eval o = none := by unfold mmOf; simp only [ho, hc]
            unfold doing
            simp only [ho, h1, h2, h3, hv]
          unfold lenP at hl
          unfold lenF at h
          split at h
          · rename_i s hv
            split at h
            · refine vl _ (key _ ?_) h
              unfold lenOf
              simp only [ho, hc, ha, ht, hv]
              split at hl
              · rename_i hu
                simp only [hu]
              · cases hl
              · cases hl
            · exact .inl h
          · rename_i ad n cc hv
            split at h
            · exact .inl h
            · refine vl _ (key _ ?_) h
              unfold lenOf
              simp only [ho, hc, ha, ht, hv]
              split at hl
              · cases hl
              · rename_i hu
                simp only [hu]
              · cases hl
          · exact .inl h
        · exact .inl h
      · exact .inl h
    · exact .inl h
  · exact .inl h

/-- What an operation yields that does nothing else. -/
noncomputable def heldV0 (a : F) (L0 : List Blk) (o : Oper) (k : Value → T α) : T α := match doing P a.eval o with
  | .val v => k v
  | .load t b off => loadN P t b off L0 k
  | .maybe b p v => reqP b p (k v)
  | .gen => lread P (execOp a.eval o) (zerosOf P o) L0 fun x => match x with
    | .value v => k v
    | _ => .fail
  | _ => .fail

noncomputable def heldV (a : F) (L0 : List Blk) (o : Oper) (k : Value → T α) : T α := match canOpa o with
  | true => .or .force (two (heldV0 P a L0 o k) (opaV P a o k))
  | false => heldV0 P a L0 o k

noncomputable def heldG (ops : Array Oper) (L0 : List Blk) (g : Option G) (a : F) (o : Oper) (k : Option G → F → T α) : T α :=
  match guardOf a ops o with
  | .free => match g with
    | none => (valB P o).run a L0 (fun v => k none (a.put o.dst v)) (heldV P a L0 o fun v => k none (a.put o.dst v))
    | some g => match o.op with
      | .pick c x y => match a.eval c with
        | .bool b => .same (.val (.bool b)) (.val (.bool g.b)) (match mergeV b (match g.want with | true => g.a.eval x | false => a.eval x) (match g.want with | true => a.eval y | false => g.a.eval y) with
          | some v => k none (a.put o.dst v)
          | none => .fail)
        | _ => .fail
      | _ => heldV P a L0 o fun v => k (some ⟨g.b, g.want, g.a.put o.dst v⟩) (a.put o.dst v)
  | .no => k none (a.put o.dst undef)
  | .test t b want => match g with
    | none => heldV P (a.put (some t) (.bool want)) L0 o fun v => k (some ⟨b, want, (a.put (some t) (.bool want)).put o.dst v⟩) (a.put o.dst (selV (hit b want) v undef))
    | some g => .same (.val (.bool b)) (.val (.bool g.b)) (.same (.val (.bool want)) (.val (.bool g.want)) (heldV P g.a L0 o fun v => k (some ⟨g.b, g.want, g.a.put o.dst v⟩) (a.put o.dst (selV (hit b want) v undef))))

/-- A group that is under way is right. -/
def Inv (g : Option G) (b : Act) : Prop := ∀ x, g = some x → x.b = x.want → RelF x.a b

theorem Inv.none (b : Act) : Inv Option.none b := fun _ h => by cases h

theorem guardOf_key {a : F} {ops : Array Oper} {o : Oper} {b : Act} (hf : RelF a b) : match guardOf a ops o with
      | .free => Region.wanted o (yielded ops b.tmps) = true
      | .no => Region.wanted o (yielded ops b.tmps) = false
      | .test t c want => Region.wanted o (yielded ops b.tmps) = (c == want) ∧ a.get t = .bool c := by
  rw [← hf.yielded]
  unfold guardOf Region.wanted F.yielded
  cases hg : o.guard with
  | none => rfl
  | some p =>
    obtain ⟨j, want⟩ := p
    simp only [nth_eq]
    cases hj : ops.toList[j]? with
    | none => rfl
    | some oj =>
      simp only
      cases hd : oj.dst with
      | none => rfl
      | some t =>
        simp only
        cases hv : a.get t with
        | bool b => exact ⟨by cases b <;> cases want <;> rfl, hv⟩
        | _ => rfl

/-- Operation number i: guarded or not. -/
noncomputable def evAt (fn : FuncId) (call : CallE α) (ops : Array Oper) (i : Nat) (a : F) (L : List Blk) (c : F → List Blk → T α) : T α :=
  match nth ops.toList i with
  | none => c a L
  | some o => guardT a ops o (fun a => evOp P S fn call o a L c) (fun a => c (a.put o.dst undef) L)

/-- The same, where groups are done at once. -/
noncomputable def evAtG (fn : FuncId) (call : CallE α) (ops : Array Oper) (i : Nat) (g : Option G) (a : F) (L : List Blk) (c : Option G → F → List Blk → T α) : T α :=
  match nth ops.toList i with
  | none => evAt P S fn call ops i a L (c none)
  | some o => match guardOf a ops o with
    | .test _ b _ => match groupOk ops o with
      | true => match g with
        | none => litT b (evAt P S fn call ops i a L (c none)) (heldG P ops L g a o fun g' a' => c g' a' L)
        | some _ => heldG P ops L g a o fun g' a' => c g' a' L
      | false => evAt P S fn call ops i a L (c none)
    | .free => match g, o.op with
      | some _, .pick .. => heldG P ops L g a o fun g' a' => c g' a' L
      | _, _ => evAt P S fn call ops i a L (c none)
    | .no => evAt P S fn call ops i a L (c none)

noncomputable def evOps (fn : FuncId) (call : CallE α) (ops : Array Oper) (c : F → List Blk → T α) (l : List Nat) : Option G → F → List Blk → T α :=
  @List.rec Nat (fun _ => Option G → F → List Blk → T α) (fun _ => c) (fun i _ ih g a L => evAtG P S fn call ops i g a L ih) l

/-! ### Sets of operations as numbers -/

def listedOf (n m : Nat) : Array Bool := ((List.range n).map fun j => m.testBit j).toArray

theorem listedOf_get (n m j : Nat) : (listedOf n m)[j]? = if j < n then some (m.testBit j) else none := by
  simp only [listedOf, List.getElem?_toArray, List.getElem?_map]
  split
  · rename_i h; rw [List.getElem?_range h]; rfl
  · rename_i h; rw [List.getElem?_eq_none (by simpa using h)]; rfl

theorem listedOf_getD (n m j : Nat) (d : Bool) : (listedOf n m).getD j d = if j < n then m.testBit j else d := by
  rw [Array.getD_eq_getD_getElem?, listedOf_get]
  split <;> rfl

theorem testBit_or_shift (m i j : Nat) : (m ||| 1 <<< i).testBit j = (m.testBit j || decide (j = i)) := by
  rw [Nat.testBit_or, Nat.one_shiftLeft, Nat.testBit_two_pow]
  by_cases h : i = j
  · subst h; simp
  · simp [h, Ne.symm h]

theorem listedOf_set (n m i : Nat) : (listedOf n m).setIfInBounds i true = listedOf n (m ||| 1 <<< i) := by
  apply Array.ext_getElem?
  intro j
  rw [Array.getElem?_setIfInBounds, listedOf_get, listedOf_get]
  have hs : (listedOf n m).size = n := by simp [listedOf]
  rw [hs, testBit_or_shift]
  by_cases h : i = j
  · subst h
    by_cases hn : i < n <;> simp [hn]
  · simp [h, Ne.symm h]

theorem listedOf_zero (n : Nat) : Array.replicate n false = listedOf n 0 := by
  apply Array.ext_getElem?
  intro j
  rw [listedOf_get, Array.getElem?_replicate]
  split <;> simp

def orAll {α : Type} (f : α → Option Nat) : List α → Nat
  | [] => 0
  | x :: r => match f x with
    | some k => orAll f r ||| 1 <<< k
    | none => orAll f r

theorem orAll_testBit {α : Type} {f : α → Option Nat} (k : Nat) : ∀ l : List α, (orAll f l).testBit k = true ↔ ∃ x ∈ l, f x = some k
  | [] => by simp [orAll]
  | x :: r => by
    simp only [orAll]
    split
    · rename_i j hj
      rw [testBit_or_shift]
      simp only [Bool.or_eq_true, decide_eq_true_eq, orAll_testBit k r, List.mem_cons, exists_eq_or_imp, hj, Option.some.injEq]
      exact ⟨fun h => h.elim .inr fun h => .inl h.symm, fun h => h.elim (fun h => .inr h.symm) .inl⟩
    · rename_i hj
      simp only [orAll_testBit k r, List.mem_cons, exists_eq_or_imp, hj]
      exact ⟨.inr, fun h => h.elim (fun h => by cases h) id⟩

def subM (w m : Nat) : Bool := Nat.beq (Nat.land w m) w

theorem subM_spec {w m : Nat} : subM w m = true ↔ ∀ k, w.testBit k = true → m.testBit k = true := by
  unfold subM
  rw [Nat.beq_eq]
  constructor
  · intro h k hk
    have h1 := congrArg (fun x => x.testBit k) h
    have h2 : (w &&& m).testBit k = w.testBit k := h1
    rw [Nat.testBit_and, hk, Bool.true_and] at h2
    exact h2
  · intro h
    refine Nat.eq_of_testBit_eq fun k => ?_
    show (w &&& m).testBit k = w.testBit k
    rw [Nat.testBit_and]
    cases hk : w.testBit k with
    | false => rfl
    | true => rw [h k hk]; rfl

theorem bit_of (m i : Nat) : Nat.beq (Nat.mod (Nat.shiftRight m i) 2) 0 = !m.testBit i := by
  have h : Nat.mod (Nat.shiftRight m i) 2 = (m >>> i) % 2 := rfl
  rw [h, Nat.testBit, Nat.one_and_eq_mod_two]
  rcases Nat.mod_two_eq_zero_or_one (m >>> i) with h | h <;> rw [h] <;> rfl

/-- A bit. -/
def tb (m i : Nat) : Bool := match Nat.beq (Nat.mod (Nat.shiftRight m i) 2) 0 with
  | true => false
  | false => true
theorem tb_eq (m i : Nat) : tb m i = m.testBit i := by
  unfold tb
  rw [bit_of]
  cases m.testBit i <;> rfl

/-- The operations of a list that p tells of, by their numbers. -/
def ixL (p : Nat → Oper → Bool) : List Oper → Nat → List Nat
  | [], _ => []
  | o :: r, j => match p j o with
    | true => j :: ixL p r (Nat.succ j)
    | false => ixL p r (Nat.succ j)

theorem ixL_cons (p : Nat → Oper → Bool) (o : Oper) (r : List Oper) (j : Nat) : ixL p (o :: r) j = match p j o with
    | true => j :: ixL p r (Nat.succ j)
    | false => ixL p r (Nat.succ j) := rfl

theorem ixL_mem (p : Nat → Oper → Bool) : ∀ (l : List Oper) (j k : Nat), k ∈ ixL p l j → j ≤ k
  | [], _, _, h => by cases h
  | o :: r, j, k, h => by
    unfold ixL at h
    split at h
    · rcases List.mem_cons.1 h with rfl | h
      · exact Nat.le_refl _
      · have := ixL_mem p r _ k h
        omega
    · have := ixL_mem p r _ k h
      omega

theorem ixL_eq (p : Nat → Oper → Bool) : ∀ (l : List Oper) (j : Nat), ixL p l j = (List.range' j l.length).filter fun i => match l[i - j]? with
    | some o => p i o
    | none => false
  | [], _ => rfl
  | o :: r, j => by
    have ih := ixL_eq p r (j + 1)
    have e : ((List.range' (j + 1) r.length).filter fun i => match (o :: r)[i - j]? with
        | some o => p i o
        | none => false) = (List.range' (j + 1) r.length).filter fun i => match r[i - (j + 1)]? with
        | some o => p i o
        | none => false := List.filter_congr fun i hi => by
      have hi := List.mem_range'_1.1 hi
      have : i - j = (i - (j + 1)) + 1 := by omega
      rw [this, List.getElem?_cons_succ]
    rw [List.length_cons, List.range'_succ, List.filter_cons, e, ← ih]
    simp only [Nat.sub_self, List.getElem?_cons_zero]
    rw [ixL_cons]
    cases p j o <;> rfl

/-- The bits of those. -/
def orL (p : Nat → Oper → Bool) : List Oper → Nat → Nat
  | [], _ => 0
  | o :: r, j => match p j o with
    | true => Nat.lor (orL p r (Nat.succ j)) (Nat.shiftLeft 1 j)
    | false => orL p r (Nat.succ j)

theorem orL_cons (p : Nat → Oper → Bool) (o : Oper) (r : List Oper) (j : Nat) : orL p (o :: r) j = match p j o with
    | true => Nat.lor (orL p r (Nat.succ j)) (Nat.shiftLeft 1 j)
    | false => orL p r (Nat.succ j) := rfl

theorem orL_bit (p : Nat → Oper → Bool) : ∀ (l : List Oper) (j k : Nat), (orL p l j).testBit k = true ↔ j ≤ k ∧ ∃ o, l[k - j]? = some o ∧ p k o = true
  | [], j, k => by simp [orL]
  | o :: r, j, k => by
    have ih := orL_bit p r (j + 1) k
    have key : (j ≤ k ∧ ∃ o', (o :: r)[k - j]? = some o' ∧ p k o' = true) ↔ (k = j ∧ p j o = true) ∨ (orL p r (j + 1)).testBit k = true := by
      rw [ih]
      rcases Nat.lt_trichotomy k j with h | h | h
      · constructor
        · rintro ⟨h1, -⟩; omega
        · rintro (⟨h1, -⟩ | ⟨h1, -⟩) <;> omega
      · subst h
        constructor
        · rintro ⟨-, o', h1, h2⟩
          simp only [Nat.sub_self, List.getElem?_cons_zero, Option.some.injEq] at h1
          subst h1
          exact .inl ⟨rfl, h2⟩
        · rintro (⟨-, h2⟩ | ⟨h1, -⟩)
          · exact ⟨Nat.le_refl _, o, by simp, h2⟩
          · omega
      · have e : k - j = (k - (j + 1)) + 1 := by omega
        rw [e, List.getElem?_cons_succ]
        constructor
        · rintro ⟨-, h2⟩
          exact .inr ⟨by omega, h2⟩
        · rintro (⟨h1, -⟩ | ⟨-, h2⟩)
          · omega
          · exact ⟨by omega, h2⟩
    rw [key, orL_cons]
    have hs : ∀ x : Nat, (Nat.lor x (Nat.shiftLeft 1 j)).testBit k = (x.testBit k || decide (k = j)) := fun x => testBit_or_shift x j k
    cases hp : p j o with
    | true =>
      simp only [hs, Bool.or_eq_true, decide_eq_true_eq, and_true]
      exact ⟨fun h => h.symm, fun h => h.symm⟩
    | false =>
      simp

def waitO (o : Oper) : Nat := orAll (fun e : Edge => match Region.binds .any e with
    | true => some e.on
    | false => none) o.after.toList

/-- For which operations number i waits. -/
def waitM (ops : Array Oper) (i : Nat) : Nat := match ops[i]? with
  | some o => orAll (fun e : Edge => match Region.binds .any e with
    | true => some e.on
    | false => none) o.after.toList
  | none => 1 <<< ops.size

theorem waitM_eq {ops : Array Oper} {i : Nat} {o : Oper} (h : ops[i]? = some o) : waitM ops i = waitO o := by
  unfold waitM
  rw [h]
  rfl

def readyS (ops : Array Oper) (m : Nat) : List Nat := (List.range ops.size).filter fun i => !m.testBit i && (Nat.blt (waitM ops i) (1 <<< ops.size) && subM (waitM ops i) m)

noncomputable def readyL (z m : Nat) (l : List Oper) : Nat → List Nat := @List.rec Oper (fun _ => Nat → List Nat) (fun _ => []) (fun o _ ih j => match Nat.beq (Nat.mod (Nat.shiftRight m j) 2) 0 with
  | false => ih (Nat.succ j)
  | true => match Nat.beq (Nat.land (waitO o) m) (waitO o) with
    | false => ih (Nat.succ j)
    | true => match Nat.ble (Nat.succ (waitO o)) z with
      | true => j :: ih (Nat.succ j)
      | false => ih (Nat.succ j)) l

noncomputable def readyM (ops : Array Oper) (m : Nat) : List Nat := readyL (Nat.shiftLeft 1 ops.size) m ops.toList 0

theorem readyL_eq (z m : Nat) : ∀ (l : List Oper) (j : Nat), readyL z m l j = ixL (fun i o => !m.testBit i && (Nat.blt (waitO o) z && subM (waitO o) m)) l j
  | [], _ => rfl
  | o :: r, j => by
    have ih := readyL_eq z m r (Nat.succ j)
    change (match Nat.beq (Nat.mod (Nat.shiftRight m j) 2) 0 with
      | false => readyL z m r (Nat.succ j)
      | true => match Nat.beq (Nat.land (waitO o) m) (waitO o) with
        | false => readyL z m r (Nat.succ j)
        | true => match Nat.ble (Nat.succ (waitO o)) z with
          | true => j :: readyL z m r (Nat.succ j)
          | false => readyL z m r (Nat.succ j)) = _
    rw [bit_of, ih, ixL_cons]
    have e1 : subM (waitO o) m = Nat.beq (Nat.land (waitO o) m) (waitO o) := rfl
    have e2 : Nat.blt (waitO o) z = Nat.ble (Nat.succ (waitO o)) z := rfl
    simp only [e1, e2]
    cases m.testBit j <;> cases Nat.beq (Nat.land (waitO o) m) (waitO o) <;> cases Nat.ble (Nat.succ (waitO o)) z <;> rfl

theorem readyM_slow (ops : Array Oper) (m : Nat) : readyM ops m = readyS ops m := by
  unfold readyM readyS
  rw [readyL_eq, ixL_eq, Array.length_toList, ← List.range_eq_range']
  refine List.filter_congr fun i hi => ?_
  have hi : i < ops.size := List.mem_range.1 hi
  have ho : ops[i]? = some ops[i] := by simp [hi]
  rw [Nat.sub_zero, Array.getElem?_toList, ho, waitM_eq ho]
  rfl

theorem readyM_eq (ops : Array Oper) (m : Nat) : Region.ready .any ops (listedOf ops.size m) = readyM ops m := by
  rw [readyM_slow]
  unfold Region.ready readyS
  refine List.filter_congr fun i hi => ?_
  have hi : i < ops.size := List.mem_range.1 hi
  rw [listedOf_getD, if_pos hi]
  congr 1
  have ho : ops[i]? = some ops[i] := by simp [hi]
  rw [ho, Option.map_some, Option.getD_some]
  have hbit : ∀ k, (waitM ops i).testBit k = true ↔ ∃ e ∈ ops[i].after.toList, Region.binds .any e = true ∧ e.on = k := fun k => by
    unfold waitM
    rw [ho]
    simp only [orAll_testBit]
    refine exists_congr fun e => and_congr_right fun _ => ?_
    split
    · rename_i h; simp [h]
    · rename_i h; simp [h]
  rw [Bool.eq_iff_iff, Array.all_eq_true_iff_forall_mem, Bool.and_eq_true, subM_spec, Nat.blt_eq]
  constructor
  · intro h
    refine ⟨?_, fun k hk => ?_⟩
    · rw [Nat.one_shiftLeft]
      refine Nat.lt_pow_two_of_testBit _ fun k hk => ?_
      cases hb : (waitM ops i).testBit k with
      | false => rfl
      | true =>
        obtain ⟨e, he, hbd, hon⟩ := (hbit k).1 hb
        have h1 := h e (by simpa using he)
        rw [hbd, hon, listedOf_getD, if_neg (by omega)] at h1
        cases h1
    · obtain ⟨e, he, hbd, hon⟩ := (hbit k).1 hk
      have h1 := h e (by simpa using he)
      rw [hbd, hon, listedOf_getD] at h1
      split at h1
      · simpa using h1
      · cases h1
  · rintro ⟨hlt, h⟩ e he
    cases hbd : Region.binds .any e with
    | false => rfl
    | true =>
      have hk := (hbit e.on).2 ⟨e, by simpa using he, hbd, rfl⟩
      have hn : e.on < ops.size := by
        rcases Nat.lt_or_ge e.on ops.size with h' | h'
        · exact h'
        · have h2 := Nat.ge_two_pow_of_testBit hk
          rw [Nat.one_shiftLeft] at hlt
          have h3 := Nat.pow_le_pow_right (n := 2) (by omega) h'
          omega
      rw [listedOf_getD, if_pos hn, h _ hk]
      rfl

def lookM (ops : Array Oper) (i : Nat) : Nat := match ops[i]? with
  | some o => orAll some (o.looksAt ops)
  | none => 0

def dstM (ops : Array Oper) (i : Nat) : Nat := match ops[i]? with
  | some o => match o.dst with
    | some d => 1 <<< d
    | none => 0
  | none => 0

def apartM (ops : Array Oper) (i j : Nat) : Bool := Nat.beq (Nat.lor (Nat.land (dstM ops i) (Nat.lor (lookM ops j) (dstM ops j))) (Nat.land (dstM ops j) (lookM ops i))) 0

theorem testBit_one_shift (d k : Nat) : (1 <<< d).testBit k = decide (d = k) := by rw [Nat.one_shiftLeft, Nat.testBit_two_pow]

theorem apartM_spec {ops : Array Oper} {i j : Nat} {x y : Oper} (hx : ops[i]? = some x) (hy : ops[j]? = some y) (h : apartM ops i j = true) : x.apart ops y = true := by
  unfold apartM at h
  have h := Nat.eq_of_beq_eq_true h
  have hbit : ∀ k, ¬ ((dstM ops i).testBit k = true ∧ ((lookM ops j).testBit k = true ∨ (dstM ops j).testBit k = true)) ∧ ¬ ((dstM ops j).testBit k = true ∧ (lookM ops i).testBit k = true) := fun k => by
    have h1 := congrArg (fun z => z.testBit k) h
    have h2 : ((dstM ops i &&& (lookM ops j ||| dstM ops j)) ||| (dstM ops j &&& lookM ops i)).testBit k = false := by
      have := h1
      simp only [Nat.zero_testBit] at this
      exact this
    simp only [Nat.testBit_or, Nat.testBit_and, Bool.or_eq_false_iff, Bool.and_eq_false_iff] at h2
    obtain ⟨h3, h4⟩ := h2
    refine ⟨fun ⟨a, b⟩ => ?_, fun ⟨a, b⟩ => ?_⟩
    · rcases h3 with h3 | h3
      · rw [h3] at a; cases a
      · rcases b with b | b
        · rw [h3.1] at b; cases b
        · rw [h3.2] at b; cases b
    · rcases h4 with h4 | h4
      · rw [h4] at a; cases a
      · rw [h4] at b; cases b
  have look : ∀ {n : Nat} {o : Oper} {d : Nat}, ops[n]? = some o → d ∈ o.looksAt ops → (lookM ops n).testBit d = true := fun ho hd => by
    unfold lookM
    rw [ho]
    exact (orAll_testBit _ _).2 ⟨_, hd, rfl⟩
  have dst : ∀ {n : Nat} {o : Oper} {d : Nat}, ops[n]? = some o → o.dst = some d → (dstM ops n).testBit d = true := fun ho hd => by
    unfold dstM
    rw [ho]
    simp only [hd, testBit_one_shift, decide_true]
  unfold Oper.apart
  rw [Bool.and_eq_true]
  constructor
  · cases hd : x.dst with
    | none => rfl
    | some d =>
      simp only [Bool.and_eq_true, Bool.not_eq_true', bne_iff_ne, ne_eq]
      refine ⟨?_, fun he => (hbit d).1 ⟨dst hx hd, .inr (dst hy he)⟩⟩
      cases hc : (y.looksAt ops).contains d with
      | false => rfl
      | true => exact absurd ⟨dst hx hd, .inl (look hy (by simpa using hc))⟩ (hbit d).1
  · cases hd : y.dst with
    | none => rfl
    | some d =>
      simp only [Bool.not_eq_true']
      cases hc : (x.looksAt ops).contains d with
      | false => rfl
      | true => exact absurd ⟨dst hy hd, look hx (by simpa using hc)⟩ (hbit d).2

/-- Who touches the temporaries of number i, and does not wait for it. -/
def confS (ops : Array Oper) (i : Nat) : Nat := orAll (fun j => match Nat.beq j i || ((waitM ops j).testBit i || apartM ops i j) with
    | true => none
    | false => some j) (List.range ops.size)

def lookO (ops : Array Oper) (o : Oper) : Nat := orAll some (o.looksAt ops)
def dstO (o : Oper) : Nat := match o.dst with
  | some d => 1 <<< d
  | none => 0

noncomputable def confL (ops : Array Oper) (di li i : Nat) (l : List Oper) : Nat → Nat := @List.rec Oper (fun _ => Nat → Nat) (fun _ => 0) (fun o _ ih j => match Nat.beq j i with
  | true => ih (Nat.succ j)
  | false => match Nat.beq (Nat.mod (Nat.shiftRight (waitO o) i) 2) 0 with
    | false => ih (Nat.succ j)
    | true => match Nat.beq (Nat.lor (Nat.land di (Nat.lor (lookO ops o) (dstO o))) (Nat.land (dstO o) li)) 0 with
      | true => ih (Nat.succ j)
      | false => Nat.lor (ih (Nat.succ j)) (Nat.shiftLeft 1 j)) l

noncomputable def confM (ops : Array Oper) (i : Nat) : Nat := confL ops (dstM ops i) (lookM ops i) i ops.toList 0

def confP (ops : Array Oper) (di li i : Nat) (j : Nat) (o : Oper) : Bool := !(Nat.beq j i || ((waitO o).testBit i || Nat.beq (Nat.lor (Nat.land di (Nat.lor (lookO ops o) (dstO o))) (Nat.land (dstO o) li)) 0))

theorem confL_eq (ops : Array Oper) (di li i : Nat) : ∀ (l : List Oper) (j : Nat), confL ops di li i l j = orL (confP ops di li i) l j
  | [], _ => rfl
  | o :: r, j => by
    have ih := confL_eq ops di li i r (Nat.succ j)
    change (match Nat.beq j i with
      | true => confL ops di li i r (Nat.succ j)
      | false => match Nat.beq (Nat.mod (Nat.shiftRight (waitO o) i) 2) 0 with
        | false => confL ops di li i r (Nat.succ j)
        | true => match Nat.beq (Nat.lor (Nat.land di (Nat.lor (lookO ops o) (dstO o))) (Nat.land (dstO o) li)) 0 with
          | true => confL ops di li i r (Nat.succ j)
          | false => Nat.lor (confL ops di li i r (Nat.succ j)) (Nat.shiftLeft 1 j)) = _
    rw [bit_of, ih, orL_cons]
    unfold confP
    cases Nat.beq j i <;> cases (waitO o).testBit i <;> cases Nat.beq (Nat.lor (Nat.land di (Nat.lor (lookO ops o) (dstO o))) (Nat.land (dstO o) li)) 0 <;> rfl

theorem confM_slow (ops : Array Oper) (i : Nat) : confM ops i = confS ops i := by
  refine Nat.eq_of_testBit_eq fun k => ?_
  rw [Bool.eq_iff_iff]
  unfold confM confS
  rw [confL_eq, orL_bit, orAll_testBit]
  constructor
  · rintro ⟨-, o, ho, hp⟩
    rw [Nat.sub_zero, Array.getElem?_toList] at ho
    refine ⟨k, List.mem_range.2 (Array.getElem?_eq_some_iff.1 ho).1, ?_⟩
    have e : apartM ops i k = Nat.beq (Nat.lor (Nat.land (dstM ops i) (Nat.lor (lookO ops o) (dstO o))) (Nat.land (dstO o) (lookM ops i))) 0 := by
      unfold apartM
      have e1 : lookM ops k = lookO ops o := by unfold lookM; rw [ho]; rfl
      have e2 : dstM ops k = dstO o := by unfold dstM; rw [ho]; rfl
      rw [e1, e2]
    unfold confP at hp
    rw [waitM_eq ho, e]
    simp only [Bool.not_eq_true'] at hp
    rw [hp]
  · rintro ⟨x, hx, hk⟩
    have hx : x < ops.size := List.mem_range.1 hx
    have hxk : x = k := by
      split at hk
      · cases hk
      · injection hk
    subst hxk
    have ho : ops[x]? = some ops[x] := by simp [hx]
    refine ⟨Nat.zero_le _, ops[x], by rw [Nat.sub_zero, Array.getElem?_toList, ho], ?_⟩
    have e : apartM ops i x = Nat.beq (Nat.lor (Nat.land (dstM ops i) (Nat.lor (lookO ops ops[x]) (dstO ops[x]))) (Nat.land (dstO ops[x]) (lookM ops i))) 0 := by
      unfold apartM
      have e1 : lookM ops x = lookO ops ops[x] := by unfold lookM; rw [ho]; rfl
      have e2 : dstM ops x = dstO ops[x] := by unfold dstM; rw [ho]; rfl
      rw [e1, e2]
    rw [waitM_eq ho, e] at hk
    unfold confP
    split at hk
    · cases hk
    · rename_i h
      rw [h]
      rfl

noncomputable def freeM (ops : Array Oper) (m i : Nat) : Bool := subM (confM ops i) m

theorem freeM_spec {ops : Array Oper} {m i : Nat} {o : Oper} (ho : ops[i]? = some o) (h : freeM ops m i = true) : Region.free .any ops (listedOf ops.size m) i = true := by
  unfold Region.free
  rw [ho]
  simp only [List.all_eq_true, List.mem_range]
  intro j hj
  by_cases hji : j = i
  · simp [hji]
  · rw [listedOf_getD, if_pos hj]
    unfold freeM at h
    rw [subM_spec] at h
    cases hb : m.testBit j with
    | true => simp
    | false =>
      have hoj : ops[j]? = some ops[j] := by simp [hj]
      have h2 : ¬ (confM ops i).testBit j = true := fun hc => by rw [h j hc] at hb; cases hb
      rw [confM_slow] at h2
      unfold confS at h2
      simp only [orAll_testBit] at h2
      have h3 := fun hx => h2 ⟨j, List.mem_range.2 hj, hx⟩
      have hbq : Nat.beq j i = false := by
        cases hb : Nat.beq j i with
        | false => rfl
        | true => exact absurd (Nat.eq_of_beq_eq_true hb) hji
      simp only [hbq, Bool.false_or] at h3
      cases hx : (waitM ops j).testBit i || apartM ops i j with
      | false => rw [hx] at h3; exact absurd rfl h3
      | true =>
        rw [Bool.or_eq_true] at hx
        rw [hoj]
        rcases hx with hx | hx
        · unfold waitM at hx
          rw [hoj] at hx
          simp only [orAll_testBit] at hx
          obtain ⟨e, he, hk⟩ := hx
          have hany : (ops[j].after.any fun e => Region.binds .any e && e.on == i) = true := by
            rw [Array.any_eq_true']
            refine ⟨e, by simpa using he, ?_⟩
            split at hk
            · rename_i hbd
              injection hk with hk
              simp [hbd, hk]
            · cases hk
          simp only [hany, Bool.true_or, Bool.or_true]
        · simp only [apartM_spec ho hoj hx, Bool.or_true]

def plainM (ops : Array Oper) : Nat := orAll (fun j => match ops[j]? with
  | some o => match plainOp o with
    | true => some j
    | false => none
  | none => none) (List.range ops.size)

def allPlain (ops : Array Oper) (m : Nat) : Bool := subM (plainM ops) m

theorem allPlain_spec {ops : Array Oper} {m : Nat} (h : allPlain ops m = true) : AllPlain ops (listedOf ops.size m) := fun i o ho hu => by
  have hi : i < ops.size := (Array.getElem?_eq_some_iff.1 ho).1
  rw [listedOf_getD, if_pos hi] at hu
  cases hp : plainOp o with
  | false => rfl
  | true =>
    have h1 : (plainM ops).testBit i = true := (orAll_testBit i _).2 ⟨i, List.mem_range.2 hi, by rw [ho]; simp only [hp]⟩
    rw [subM_spec.1 h i h1] at hu
    cases hu

def isReady (ops : Array Oper) (m i : Nat) : Bool := Nat.blt i ops.size && (!tb m i && (Nat.blt (waitM ops i) (1 <<< ops.size) && subM (waitM ops i) m))

theorem isReady_spec {ops : Array Oper} {m i : Nat} (h : isReady ops m i = true) : i ∈ readyM ops m := by
  unfold isReady at h
  rw [Bool.and_eq_true, Nat.blt_eq, tb_eq] at h
  rw [readyM_slow]
  exact List.mem_filter.2 ⟨List.mem_range.2 h.1, h.2⟩

/-- What is still to come, without number i. -/
def dropOne (i : Nat) : List Nat → List Nat
  | [] => []
  | j :: r => match Nat.beq i j with
    | true => r
    | false => j :: dropOne i r

inductive Shape where
  | act (l : List (Addr × Value)) (v : Value)
  | new (c : Obj) (k : Nat → Sem Next)

def shapeOf (P : Program) (st : Bool) (s : Sem Next) : Option Shape :=
  match newOf P s with
  | some (c, k) => some (.new c k)
  | none => match storesOf P s with
    | none => none
    | some (l, nx) => match nextVal nx, st || l.isEmpty with
      | some v, true => some (.act l v)
      | _, _ => none

theorem shapeOf_act {P : Program} {st : Bool} {s : Sem Next} {l : List (Addr × Value)} {v : Value} (h : shapeOf P st s = some (.act l v)) : (st = false → l = []) ∧ ∃ nx, storesOf P s = some (l, nx) ∧ nextVal nx = some v := by
  unfold shapeOf at h
  split at h
  · cases h
  · split at h
    · cases h
    · rename_i l' nx hs
      split at h
      · rename_i v' hv hst
        injection h with h
        injection h with h1 h2
        subst h1 h2
        refine ⟨fun h0 => ?_, nx, hs, hv⟩
        rw [h0, Bool.false_or] at hst
        exact List.isEmpty_iff.1 hst
      · cases h

theorem shapeOf_new {P : Program} {st : Bool} {s : Sem Next} {c : Obj} {k : Nat → Sem Next} (h : shapeOf P st s = some (.new c k)) : newOf P s = some (c, k) := by
  unfold shapeOf at h
  split at h
  · rename_i c' k' hn
    injection h with h
    injection h with h1 h2
    subst h1 h2
    exact hn
  · split at h
    · cases h
    · split at h
      · injection h with h; cases h
      · cases h

/-- The first of those that are ready, if it is simple. -/
noncomputable def firstSimple (P : Program) (ops : Array Oper) (m : Nat) (a : F) : List Nat → Option (Nat × Oper × Shape)
  | [] => none
  | i :: rest => match ops[i]? with
    | none => none
    | some o => match isReady ops m i && (plainOp o && freeM ops m i) with
      | false => firstSimple P ops m a rest
      | true => match Region.wanted o (a.yielded ops) with
        | false => some (i, o, .act [] undef)
        | true => match shapeOf P (stoOp o) (execOp a.eval o) with
          | some s => some (i, o, s)
          | none => firstSimple P ops m a rest

def ordered (ops : Array Oper) (listed : Array Bool) : Bool := (List.range ops.size).all fun i => listed.getD i true || match ops[i]? with
  | some o => plainOp o || (List.range ops.size).all fun p => listed.getD p true || match ops[p]? with
    | some q => !plainOp q || o.after.any fun e => Region.binds .any e && Nat.beq e.on p
    | none => true
  | none => true

theorem ordered_spec {ops : Array Oper} {listed : Array Bool} (h : ordered ops listed = true) : Ordered ops listed := fun i p o q ho hu hp hq hv hpl => by
  simp only [ordered, List.all_eq_true, List.mem_range] at h
  have h1 := h i (Array.getElem?_eq_some_iff.1 ho).1
  simp only [ho, hu, hp, Bool.false_or, List.all_eq_true, List.mem_range] at h1
  have h2 := h1 p (Array.getElem?_eq_some_iff.1 hq).1
  simp only [hq, hv, hpl, Bool.false_or, Bool.not_true] at h2
  obtain ⟨e, he, hb⟩ := Array.any_eq_true'.1 h2
  simp only [Bool.and_eq_true] at hb
  exact ⟨e, he, hb.1, Nat.eq_of_beq_eq_true hb.2⟩

def chained (ops : Array Oper) (listed : Array Bool) : Bool := (List.range ops.size).all fun i => listed.getD i true || match ops[i]? with
  | some o => !stoOp o || (List.range ops.size).all fun p => Nat.beq i p || (listed.getD p true || match ops[p]? with
    | some q => !stoOp q || ((o.after.any fun e => Region.binds .any e && Nat.beq e.on p) || (q.after.any fun e => Region.binds .any e && Nat.beq e.on i))
    | none => true)
  | none => true

theorem any_waits {o : Oper} {p : Nat} (h : (o.after.any fun e => Region.binds .any e && Nat.beq e.on p) = true) : ∃ e ∈ o.after, Region.binds .any e = true ∧ e.on = p := by
  obtain ⟨e, he, hb⟩ := Array.any_eq_true'.1 h
  simp only [Bool.and_eq_true] at hb
  exact ⟨e, he, hb.1, Nat.eq_of_beq_eq_true hb.2⟩

theorem chained_spec {ops : Array Oper} {listed : Array Bool} (h : chained ops listed = true) : Chain ops listed := fun i p o q hne ho hu hp hq hv hpl => by
  simp only [chained, List.all_eq_true, List.mem_range] at h
  have h1 := h i (Array.getElem?_eq_some_iff.1 ho).1
  simp only [ho, hu, hp, Bool.false_or, Bool.not_true, List.all_eq_true, List.mem_range] at h1
  have h2 := h1 p (Array.getElem?_eq_some_iff.1 hq).1
  have hb : Nat.beq i p = false := by
    cases hb : Nat.beq i p with
    | false => rfl
    | true => exact absurd (Nat.eq_of_beq_eq_true hb) hne
  simp only [hq, hv, hpl, hb, Bool.false_or, Bool.not_true, Bool.or_eq_true] at h2
  exact h2.imp any_waits any_waits

abbrev RestE (α : Type) := Nat → Nat → F → List Blk → T α

/-- Things laid down in the m newest blocks. -/
noncomputable def layN (m : Nat) : List (Addr × Value) → List Blk → (List Blk → T α) → T α
  | [], L, k => k L
  | p :: r, L, k => pickT L p.1.block fun b j => match b with
    | ⟨n, .obj (.cells c t (lo, hi)), _⟩ => match Nat.blt j m, p.1.spot, one p.2 with
      | true, none, true => match c.toList[p.1.off]?, (decide (lo ≤ p.1.off) && decide (p.1.off < hi)) with
        | some _, false => forceT (L.set j ⟨n, .obj (.cells (c.setIfInBounds p.1.off p.2) t (lo, hi)), true⟩) fun L1 => layN m r L1 k
        | _, _ => .fail
      | _, _, _ => .fail
    | _ => .fail

/-- All that remain, but for what comes behind all the others, are simple: one after the other, as they stand. -/
noncomputable def evRest (P : Program) (ops : Array Oper) (fin : RestE α) : Nat → List Nat → Nat → Nat → F → List Blk → T α
  | 0, _, _, m, a, L => match allPlain ops m with
    | true => fin 0 m a L
    | false => .fail
  | n + 1, td, c, m, a, L => match allPlain ops m with
    | true => fin (n + 1) m a L
    | false => match firstSimple P ops m a td with
      | some (i, o, .act l v) => layN c l L fun L1 => evRest P ops fin n (dropOne i td) c (m ||| 1 <<< i) (a.put o.dst v) L1
      | some (i, o, .new x k) => .ask fun b => match pureOf P (k b.n) with
        | some v => evRest P ops fin n (dropOne i td) (c + 1) (m ||| 1 <<< i) (a.put o.dst v) (⟨b.n, .obj x, true⟩ :: L)
        | none => .fail
      | none => .fail

/-- The blocks of L0, wherever they are now. -/
noncomputable def backAll : List Blk → List Blk → (List Blk → T α) → T α
  | [], _, k => k []
  | p :: ps, L, k => pickT L p.nm fun b _ => backAll ps L fun l => k (b :: l)

/-- The blocks of L0 are still known; how many there are nobody knows. -/
noncomputable def backTT (L0 L1 : List Blk) (k : T α) : T α := .or (.tail (L0.map (·.nm))) fun d => .or (.tail (L1.map (·.nm))) fun d1 => .same (.blks (L0.drop d)) (.blks (L1.drop d1)) (backAll (L0.take d) L1 fun l => .same (.blks (L0.take d)) (.blks l) k)

/-- Those of which a region takes note. -/
def dropM : Nat → List Blk → List Blk
  | _, [] => []
  | m, p :: ps => match Nat.beq (Nat.mod m 2) 0 with
    | true => p :: dropM (Nat.div m 2) ps
    | false => dropM (Nat.div m 2) ps

theorem dropM_sub {p : Blk} : ∀ {L : List Blk} {m : Nat}, p ∈ dropM m L → p ∈ L
  | [], _, h => h
  | q :: L, m, h => by
    unfold dropM at h
    split at h
    · rcases List.mem_cons.1 h with rfl | h
      · exact List.mem_cons_self
      · exact List.mem_cons_of_mem _ (dropM_sub h)
    · exact List.mem_cons_of_mem _ (dropM_sub h)

/-- Operation i at once, since nobody can tell when it is done. -/
noncomputable def heldT (ops : Array Oper) (m : Nat) (g : Option G) (a : F) (L0 : List Blk) (i : Nat) (k : Option G → F → T α) : T α :=
  match isReady ops m i with
  | false => .fail
  | true => match freeM ops m i with
    | false => .fail
    | true => match ops[i]? with
      | none => .fail
      | some o => match guardOf a ops o with
        | .test _ b _ => match groupOk ops o with
          | true => match g with
            | none => litT b (guardT a ops o (fun a => heldV P a L0 o fun v => k none (a.put o.dst v)) (fun a => k none (a.put o.dst undef))) (heldG P ops L0 g a o k)
            | some _ => heldG P ops L0 g a o k
          | false => guardT a ops o (fun a => heldV P a L0 o fun v => k none (a.put o.dst v)) (fun a => k none (a.put o.dst undef))
        | _ => heldG P ops L0 g a o k

/-- One that may be taken at once, as it seems. -/
def heldKind (o : Oper) : Bool := match o.op with
  | .move _ | .assign _ | .convert .. | .unOp .. | .fieldAddr .. | .load .. | .pick .. | .extract .. | .binOp .. | .indexAddr .. | .index .. | .slice .. | .field .. | .nilCheck .. | .build .. | .lookup .. => true
  | .call c => match c.callee with
    | .builtin .len => true
    | .builtin .cap => true
    | .builtin .max => true
    | .builtin .min => true
    | _ => false
  | _ => false

/-! ### What a region writes -/

/-- Where a store's address begins: a slot that is there ahead of the region. -/
noncomputable def rootOf (ops : List Oper) : Nat → Operand → Option Nat
  | 0, _ => none
  | n + 1, .tmp s => match @List.rec Oper (fun _ => Option Op) none (fun o _ ih => match o.dst with
      | some d => match Nat.beq d s with
        | true => some o.op
        | false => ih
      | none => ih) ops with
    | none => some s
    | some (.fieldAddr _ y _) => rootOf ops n y
    | some (.indexAddr _ y _) => rootOf ops n y
    | some (.move y) => rootOf ops n y
    | some (.nilCheck y) => rootOf ops n y
    | some _ => none
  | _, _ => none

def storeAddr (o : Oper) : Option Operand := match o.op with
  | .store _ x _ => some x
  | .mapUpdate _ x _ _ => some x
  | _ => none

def readAddr (o : Oper) : Option Operand := match o.op with
  | .load _ x => some x
  | .convert _ _ x => some x
  | _ => none

noncomputable def storeRoots (ops : List Oper) : List Oper → List Nat
  | [] => []
  | o :: r => match storeAddr o with
    | none => storeRoots ops r
    | some x => match rootOf ops 10 x with
      | none => storeRoots ops r
      | some s => s :: storeRoots ops r

/-- Does it read, if it does, where a slot leads that was there ahead? -/
noncomputable def rooted (ops : Array Oper) (o : Oper) : Bool := match readAddr o with
  | none => true
  | some (.const _) => true
  | some x => match rootOf ops.toList 10 x with
    | none => false
    | some s => match (storeRoots ops.toList ops.toList).contains s with
      | true => false
      | false => true

/-- What an operation waits for, directly or by others. -/
def orWaits (ops : Array Oper) (acc : Nat) : List Nat → Nat
  | [] => acc
  | j :: r => match tb acc j with
    | true => Nat.lor (waitM ops j) (orWaits ops acc r)
    | false => orWaits ops acc r

def closM (ops : Array Oper) : Nat → Nat → Nat
  | 0, acc => acc
  | n + 1, acc => match Nat.beq (orWaits ops acc (List.range ops.size)) acc with
    | true => acc
    | false => closM ops n (orWaits ops acc (List.range ops.size))

def closW (ops : Array Oper) (f : Nat) : Nat := closM ops ops.size (waitM ops f)

/-- What all of fs wait for. -/
def finM (ops : Array Oper) : List Nat → Nat
  | [] => Nat.sub (Nat.shiftLeft 1 ops.size) 1
  | f :: r => Nat.land (closW ops f) (finM ops r)

/-- A number, reckoned once. -/
noncomputable def forceM {β : Type} (m : Nat) (k : Nat → β) : β := @Nat.rec (fun _ => β) (k 0) (fun n _ => k (Nat.succ n)) m
theorem forceM_eq {β : Type} (m : Nat) (k : Nat → β) : forceM m k = k m := by cases m <;> rfl

def closedM (ops : Array Oper) (m : Nat) : Bool := (List.range ops.size).all fun j => !tb m j || (Nat.blt (waitM ops j) (1 <<< ops.size) && subM (waitM ops j) m)

def noRead (o : Oper) : Bool := match o.op with
  | .move _ | .assign _ | .extract .. | .pick .. | .binOp .. | .unOp .. | .fieldAddr .. | .build .. | .nilCheck _ | .indexAddr .. => true
  | _ => false

def isAlloc (o : Oper) : Bool := match o.guard with
  | none => match o.op with
    | .alloc _ => true
    | _ => false
  | some _ => false

def isCall (o : Oper) : Bool := match o.op with
  | .call c => match c.callee with
    | .builtin _ => false
    | _ => true
  | _ => false

noncomputable def findA (ops : Array Oper) (p : Oper → Bool) : List Nat → Bool
  | [] => false
  | i :: r => match ops[i]? with
    | some o => match p o with
      | true => true
      | false => findA ops p r
    | none => findA ops p r

noncomputable def heldJ (ops : Array Oper) (fw m i : Nat) (l : List Oper) : Nat → Option Nat := @List.rec Oper (fun _ => Nat → Option Nat) (fun _ => none) (fun o _ ih j => match Nat.beq (Nat.mod (Nat.shiftRight m j) 2) 0 with
  | false => ih (Nat.succ j)
  | true => match Nat.beq (Nat.land (waitO o) m) (waitO o) with
    | false => ih (Nat.succ j)
    | true => match heldKind o with
      | false => ih (Nat.succ j)
      | true => match tb fw j || noRead o with
        | false => ih (Nat.succ j)
        | true => match Nat.beq j i with
          | true => ih (Nat.succ j)
          | false => match freeM ops m j with
            | true => some j
            | false => ih (Nat.succ j)) l

/-- Is a call still to come? -/
noncomputable def callLeft (m : Nat) (l : List Oper) : Nat → Bool := @List.rec Oper (fun _ => Nat → Bool) (fun _ => false) (fun o _ ih j => match Nat.beq (Nat.mod (Nat.shiftRight m j) 2) 0 with
  | false => ih (Nat.succ j)
  | true => match isCall o with
    | true => true
    | false => ih (Nat.succ j)) l

/-- What seems best. -/
noncomputable def sugJ (ops : Array Oper) (fw : Nat) (m : Nat) : Nat := match heldJ ops fw m ops.size ops.toList 0 with
  | some j => j
  | none => match readyM ops m with
    | [] => ops.size
    | i :: r => match r with
      | [] => ops.size + 2
      | _ => match findA ops isAlloc (i :: r), callLeft m ops.toList 0 with
        | true, true => ops.size + 3
        | _, _ => ops.size + 1

/-- Operation i ends the region. -/
noncomputable def lastM (ops : Array Oper) (fs : List Nat) (m i : Nat) : Bool := fs.contains i && match readyM ops (m ||| 1 <<< i) with
  | [] => true
  | _ => false

/-- All that is left, from i on, is such an end. -/
def restFin (ops : Array Oper) (fs : List Nat) (m i : Nat) : Bool := fs.contains i && (List.range ops.size).all fun k => tb m k || fs.contains k

/-- The ends of a region, in whatever order. -/
noncomputable def evFin (fn : FuncId) (call : CallE α) (ops : Array Oper) (fs : List Nat) (c : F → List Blk → T α) : Nat → Nat → F → List Blk → T α
  | 0, m, a, L => match readyM ops m with
    | [] => c a L
    | _ => .fail
  | n + 1, m, a, L => match readyM ops m with
    | [] => c a L
    | i :: r => outsT (i :: r) fun i => match fs.contains i with
      | true => evAt P S fn call ops i a L fun a1 L1 => evFin fn call ops fs c n (m ||| 1 <<< i) a1 L1
      | false => .fail

/-- What an alloc makes. -/
noncomputable def allocOf (P : Program) (ops : Array Oper) (i : Nat) : Option (Nat × Nat × Array Value) := match ops[i]? with
  | some o => match o.guard, o.dst, o.op with
    | none, some d, .alloc t => match P.info? t with
      | some inf => match inf.zero with
        | some z => some (d, t, z.cells)
        | none => none
      | none => none
    | _, _, _ => none
  | none => none

noncomputable def findOp (ops : Array Oper) (p : Oper → Bool) : List Nat → Option Nat
  | [] => none
  | i :: r => match ops[i]? with
    | some o => match p o with
      | true => some i
      | false => findOp ops p r
    | none => findOp ops p r

/-- All that is not the call's own was there. -/
noncomputable def oldT (Ls : List Blk) : List Blk → T α → T α
  | [], k => k
  | p :: r, k => match p.own with
    | true => oldT Ls r k
    | false => pickT Ls p.nm fun _ _ => oldT Ls r k

noncomputable def oldTT (Ls L : List Blk) (k : T α) : T α := .or .force (two (oldT Ls L k) (.or (.tail (L.map (·.nm))) fun d => .or (.tail (Ls.map (·.nm))) fun d1 => .same (.blks (L.drop d)) (.blks (Ls.drop d1)) (oldT Ls (L.take d) k)))

def eqN : List Nat → List Nat → Bool
  | [], [] => true
  | a :: l, b :: r => match Nat.beq a b with
    | true => eqN l r
    | false => false
  | _, _ => false

noncomputable def sugFl (ops : Array Oper) (fw i : Nat) (m : Nat) : Nat := match heldJ ops fw m i ops.toList 0 with
  | some j => j
  | none => match dropOne i (readyM ops m) with
    | [] => ops.size
    | _ => ops.size + 1

/-- A region of which the alloc number i is done at some moment, nobody can tell when: it counts as done last. -/
noncomputable def evFl (fn : FuncId) (call : CallE α) (ops : Array Oper) (fw : Nat) (L0 : List Blk) (bk : List Blk → List Blk) (i d : Nat) (x : Obj) (Ls : List Blk) (fin : RestE α) : Nat → Nat → F → List Blk → T α
  | 0, _, _, _ => .fail
  | n + 1, m, a, L => .or (.sug (sugFl ops fw i m) (ops.size + 2)) fun j => match Nat.blt j ops.size with
    | true => match Nat.beq j i || Nat.beq n 0 with
      | true => .fail
      | false => .ask fun v => match tb fw j with
        | false => heldT P ops m none (a.put (some d) v.v) [] j fun _ a' => .same (.val (a'.get d)) (.val v.v) (evFl fn call ops fw L0 bk i d x Ls fin n (m ||| 1 <<< j) a' L)
        | true => heldT P ops m none (a.put (some d) v.v) L0 j fun _ a' => .same (.val (a'.get d)) (.val v.v) (evFl fn call ops fw L0 bk i d x Ls fin n (m ||| 1 <<< j) a' L)
    | false => match Nat.beq j ops.size with
      | true => match readyM ops m with
        | [k] => match Nat.beq k i with
          | true => oldTT Ls L (.ask fun b => fin n (m ||| 1 <<< i) (a.put (some d) (.pointer (some ⟨b.n, 0, none⟩))) (⟨b.n, .obj x, true⟩ :: L))
          | false => .fail
        | _ => .fail
      | false => match Nat.beq n 0 || !(eqN (readyM ops (m ||| 1 <<< i)) (dropOne i (readyM ops m))) with
        | true => .fail
        | false => outsT (dropOne i (readyM ops m)) fun k => .ask fun v => evAt P S fn call ops k (a.put (some d) v.v) L fun a1 L1 => .same (.val (a1.get d)) (.val v.v) (forceL (bk L1) fun LB => .or (.names (L0.map (·.nm)) (LB.map (·.nm))) (two (.same (.blks L0) (.blks LB) (evFl fn call ops fw L0 bk i d x Ls fin n (m ||| 1 <<< k) a1 L1))
            (.or .force (two (backAll L0 L1 fun l => .same (.blks L0) (.blks l) (evFl fn call ops fw L0 bk i d x Ls fin n (m ||| 1 <<< k) a1 L1)) (backTT L0 L1 (evFl fn call ops fw L0 bk i d x Ls fin n (m ||| 1 <<< k) a1 L1))))))

noncomputable def evFloat (fn : FuncId) (call : CallE α) (ops : Array Oper) (fw : Nat) (L0 : List Blk) (bk : List Blk → List Blk) (fin : RestE α) : RestE α := fun n m a L => match findOp ops isAlloc (readyM ops m) with
  | none => .fail
  | some i => match isReady ops m i with
    | false => .fail
    | true => match allocOf P ops i with
      | none => .fail
      | some (d, t, z) => evFl P S fn call ops fw L0 bk i d (.cells z t (0, 0)) L fin n m a L

/-- The next step of a region that draws its order: operation j at once; the end; the rest by itself; each that is ready. -/
noncomputable def evAny (fn : FuncId) (call : CallE α) (ops : Array Oper) (fs : List Nat) (fw : Nat) (L0 : List Blk) (bk : List Blk → List Blk) (can : Nat → Bool) (rest flt : RestE α) (c : F → List Blk → T α) : Nat → Nat → Option G → F → List Blk → T α
  | 0, m, _, a, L => match readyM ops m with
    | [] => c a L
    | _ => .fail
  | n + 1, m, g, a, L => .or (.sug (sugJ ops fw m) (ops.size + 3)) fun j => match Nat.blt j ops.size with
    | true => match tb fw j with
      | false => heldT P ops m g a [] j fun g' a' => evAny fn call ops fs fw L0 bk can rest flt c n (m ||| 1 <<< j) g' a' L
      | true => heldT P ops m g a L0 j fun g' a' => evAny fn call ops fs fw L0 bk can rest flt c n (m ||| 1 <<< j) g' a' L
    | false => match Nat.beq j ops.size with
      | true => match readyM ops m with
        | [] => c a L
        | _ => .fail
      | false => match Nat.beq j (ops.size + 1) with
        | true => match can m with
          | true => rest (n + 1) m a L
          | false => .fail
        | false => match Nat.beq j (ops.size + 3) with
         | true => flt (n + 1) m a L
         | false => outsT (readyM ops m) fun i => evAt P S fn call ops i a L fun a1 L1 =>
          match lastM ops fs m i with
          | true => c a1 L1
          | false => match restFin ops fs m i with
            | true => evFin P S fn call ops fs c n (m ||| 1 <<< i) a1 L1
            | false => forceL (bk L1) fun LB => .or (.names (L0.map (·.nm)) (LB.map (·.nm))) (two (.same (.blks L0) (.blks LB) (evAny fn call ops fs fw L0 bk can rest flt c n (m ||| 1 <<< i) none a1 L1))
            (.or .force (two (backAll L0 L1 fun l => .same (.blks L0) (.blks l) (evAny fn call ops fs fw L0 bk can rest flt c n (m ||| 1 <<< i) none a1 L1)) (backTT L0 L1 (evAny fn call ops fs fw L0 bk can rest flt c n (m ||| 1 <<< i) none a1 L1)))))

/-- In m rounds: several that are simple, then one after the other. -/
noncomputable def evMany (fn : FuncId) (call : CallE α) (ops : Array Oper) (fs : List Nat) (fw : Nat) (L0 : List Blk) (bk : List Blk → List Blk) (c : F → List Blk → T α) : Nat → RestE α
  | 0 => fun n m a L => evAny P S fn call ops fs fw L0 bk (fun _ => false) (fun _ _ _ _ => .fail) (fun _ _ _ _ => .fail) c n m none a L
  | r + 1 => fun n m a L => evAny P S fn call ops fs fw L0 bk (fun m => ordered ops (listedOf ops.size m) && chained ops (listedOf ops.size m)) (fun n m a L => evRest P ops (fun n m a L => match closedM ops m with
    | true => evMany fn call ops fs fw L0 bk c r n m a L
    | false => .fail) n (List.range ops.size) 0 m a L) (evFloat P S fn call ops fw L0 bk (evMany fn call ops fs fw L0 bk c r)) c n m none a L

/-! ### Frames made short -/

def compactW : Nat → List (Nat × Value) → List (Nat × Value)
  | _, [] => []
  | m, p :: r => match Nat.beq (Nat.mod (Nat.shiftRight m p.1) 2) 0 with
    | true => p :: compactW (Nat.lor m (Nat.shiftLeft 1 p.1)) r
    | false => compactW m r

def shorten (f : F) : F := ⟨f.n, compactW 0 f.w⟩

theorem getW_compact : ∀ (w : List (Nat × Value)) (m t : Nat), m.testBit t = false → getW (compactW m w) t = getW w t
  | [], _, _, _ => rfl
  | p :: r, m, t, h => by
    unfold compactW
    rw [bit_of]
    cases hb : m.testBit p.1 with
    | false =>
      simp only [Bool.not_false]
      rw [getW_cons, getW_cons]
      split
      · rfl
      · rename_i hne
        refine getW_compact r _ t ?_
        show (m ||| 1 <<< p.1).testBit t = false
        rw [testBit_or_shift, h]
        simp [Ne.symm hne]
    | true =>
      simp only [Bool.not_true]
      rw [getW_compact r m t h, getW_cons, if_neg]
      intro he
      rw [he, h] at hb
      cases hb

theorem RelF.shorten {f : F} {a : Act} (h : RelF f a) : RelF (shorten f) a :=
  ⟨h.defers, h.size, fun t => by rw [h.get t]; exact (getW_compact f.w 0 t (by simp)).symm⟩

/-- The blocks that are taken out ahead of the region: those that it writes. -/
noncomputable def minusT (a : F) (ops : List Oper) : List Oper → List Blk → (List Nat → List Blk → T α) → T α
  | [], L, k => k [] L
  | o :: r, L, k => match storeAddr o with
    | none => minusT a ops r L k
    | some x => match rootOf ops 10 x with
      | none => minusT a ops r L k
      | some s => match a.get s with
        | .pointer (some ⟨b, _, _⟩) => .or (.pick b (L.map (·.nm) ++ [b])) fun j => forceL (L.eraseIdx j) fun L' => minusT a ops r L' fun js L2 => k (j :: js) L2
        | .slice (some ⟨b, _, _⟩) _ _ => .or (.pick b (L.map (·.nm) ++ [b])) fun j => forceL (L.eraseIdx j) fun L' => minusT a ops r L' fun js L2 => k (j :: js) L2
        | .map (some b) => .or (.pick b (L.map (·.nm) ++ [b])) fun j => forceL (L.eraseIdx j) fun L' => minusT a ops r L' fun js L2 => k (j :: js) L2
        | _ => minusT a ops r L k

theorem minusT_spec {a : F} {ops : List Oper} {K : α → Prop} : ∀ {l : List Oper} {L : List Blk} {k : List Nat → List Blk → T α}, (minusT a ops l L k).all K → ∃ js L', (∀ p ∈ L', p ∈ L) ∧ (k js L').all K
  | [], L, k, h => ⟨[], L, fun _ h => h, h⟩
  | o :: r, L, k, h => by
    have er : ∀ {b : Nat}, (T.or (Hint.pick b (L.map (·.nm) ++ [b])) fun j => forceL (L.eraseIdx j) fun L' => minusT a ops r L' fun js L2 => k (j :: js) L2).all K → ∃ js L', (∀ p ∈ L', p ∈ L) ∧ (k js L').all K := fun h => by
      obtain ⟨j, h⟩ := h
      dsimp only at h
      rw [forceL_eq] at h
      obtain ⟨js, L', h1, h2⟩ := minusT_spec h
      exact ⟨_, L', fun p hp => List.mem_of_mem_eraseIdx (h1 p hp), h2⟩
    unfold minusT at h
    split at h
    · exact minusT_spec h
    · split at h
      · exact minusT_spec h
      · split at h
        · exact er h
        · exact er h
        · exact er h
        · exact minusT_spec h

def eraseAll : List Nat → List Blk → List Blk
  | [], L => L
  | j :: js, L => eraseAll js (L.eraseIdx j)

theorem eraseAll_sub {p : Blk} : ∀ {js : List Nat} {L : List Blk}, p ∈ eraseAll js L → p ∈ L
  | [], _, h => h
  | _ :: _, _, h => List.mem_of_mem_eraseIdx (eraseAll_sub h)

/-- The blocks of which a region takes note, behind an operation of it. -/
def backOf (n0 : Nat) (js : List Nat) (mask : Nat) (L : List Blk) : List Blk := dropM mask (eraseAll js (L.drop (L.length - n0)))

theorem backOf_sub {n0 : Nat} {js : List Nat} {mask : Nat} (L : List Blk) (p : Blk) (h : p ∈ backOf n0 js mask L) : p ∈ L := List.mem_of_mem_drop (eraseAll_sub (dropM_sub h))

/-- The slots behind which a region reads, as far as it tells; none: it does not tell. -/
noncomputable def noteSlots (ops : List Oper) (st : List Nat) : List Oper → Option (List Nat)
  | [] => some []
  | o :: r => match readAddr o with
    | none => noteSlots ops st r
    | some (.const _) => noteSlots ops st r
    | some x => match rootOf ops 10 x with
      | none => noteSlots ops st r
      | some s => match noteSlots ops st r with
        | none => none
        | some l => match st.contains s || l.contains s with
          | true => some l
          | false => some (s :: l)

noncomputable def tailOf (L : List Blk) : Option Nat → List Blk
  | none => []
  | some d => L.drop d

noncomputable def noteT (a : F) (L : List Blk) : Option Nat → List Nat → (List Blk → T α) → T α
  | tl, [], k => k (tailOf L tl)
  | tl, s :: r, k => .or .force (two (match a.get s with
    | .pointer (some ⟨b, _, _⟩) => .or (.pick b (L.map (·.nm) ++ [b])) fun j => match nth L j with
      | some p => noteT a L tl r fun R => k (p :: R)
      | none => noteT a L tl r k
    | .slice (some ⟨b, _, _⟩) _ _ => .or (.pick b (L.map (·.nm) ++ [b])) fun j => match nth L j with
      | some p => noteT a L tl r fun R => k (p :: R)
      | none => noteT a L tl r k
    | _ => noteT a L tl r k) (match tl with
      | some d => noteT a L (some d) r k
      | none => .or (.tail (L.map (·.nm))) fun d => noteT a L (some d) r k))

theorem noteT_spec {a : F} {L : List Blk} {K : α → Prop} : ∀ {l : List Nat} {tl : Option Nat} {k : List Blk → T α}, (noteT a L tl l k).all K → ∃ R, (∀ p ∈ R, p ∈ L) ∧ (k R).all K
  | [], tl, k, h => ⟨tailOf L tl, fun p hp => by
      cases tl with
      | none => cases hp
      | some d => exact List.mem_of_mem_drop hp, h⟩
  | s :: r, tl, k, h => by
    have er : ∀ {b : Nat}, (T.or (Hint.pick b (L.map (·.nm) ++ [b])) fun j => match nth L j with
        | some p => noteT a L tl r fun R => k (p :: R)
        | none => noteT a L tl r k).all K → ∃ R, (∀ p ∈ R, p ∈ L) ∧ (k R).all K := fun h => by
      obtain ⟨j, h⟩ := h
      dsimp only at h
      split at h
      · rename_i p hp
        obtain ⟨R, h1, h2⟩ := noteT_spec h
        rw [nth_eq] at hp
        refine ⟨p :: R, fun q hq => ?_, h2⟩
        rcases List.mem_cons.1 hq with rfl | hq
        · exact List.mem_of_getElem? hp
        · exact h1 q hq
      · exact noteT_spec h
    unfold noteT at h
    rcases two_spec h with h | h
    · split at h
      · exact er h
      · exact er h
      · exact noteT_spec h
    · split at h
      · exact noteT_spec h
      · obtain ⟨d, h⟩ := h
        exact noteT_spec h

/-- The map that an operation asks. -/
noncomputable def mapArg (a : F) (o : Oper) : Option Nat := match o.op with
  | .call c => match c.args.toList with
    | x :: _ => match a.eval x with
      | .map (some r) => some r
      | _ => none
    | [] => none
  | .lookup _ x _ _ => match a.eval x with
    | .map (some r) => some r
    | _ => none
  | _ => none

/-- The blocks that a region reads, found at numbers. -/
noncomputable def dryR (P : Program) (L : List Blk) (ops : Array Oper) : List Oper → F → List Nat
  | [], _ => []
  | o :: r, a => match heldKind o with
    | false => dryR P L ops r (a.put o.dst undef)
    | true => match guardOf a ops o with
      | .no => dryR P L ops r (a.put o.dst undef)
      | g => match (match g with
          | .test _ b want => match b with
            | true => want
            | false => !want
          | _ => true) with
        | false => dryR P L ops r (a.put o.dst undef)
        | true => match o.op with
          | .nilCheck x => dryR P L ops r (a.put o.dst (a.eval x))
          | .convert _ _ x => match a.eval x with
            | .slice (some ⟨b, _, _⟩) _ _ => b :: dryR P L ops r (a.put o.dst undef)
            | _ => match quick P a.eval o with
              | some v => dryR P L ops r (a.put o.dst v)
              | none => dryR P L ops r (a.put o.dst undef)
          | _ => match doing P a.eval o with
            | .val v => dryR P L ops r (a.put o.dst v)
            | .maybe _ _ v => dryR P L ops r (a.put o.dst v)
            | .load t b off => match L.find? (fun p => Nat.beq p.nm b), sizeP P t, aggOf P t with
              | some p, some n, some g => match cellsLit p.ct off n with
                | some cs => b :: dryR P L ops r (a.put o.dst (match g with
                  | true => .agg cs.toArray
                  | false => match cs with
                    | [v] => v
                    | _ => undef))
                | none => b :: dryR P L ops r (a.put o.dst undef)
              | _, _, _ => dryR P L ops r (a.put o.dst undef)
            | _ => match mapArg a o with
              | some b => b :: dryR P L ops r (a.put o.dst undef)
              | none => dryR P L ops r (a.put o.dst undef)

def placesOf (L : List Nat) : List Nat → List Nat → List Nat
  | [], _ => []
  | b :: r, seen => match seen.contains b with
    | true => placesOf L r seen
    | false => match L.findIdx? (fun n => Nat.beq n b) with
      | some j => j :: placesOf L r (b :: seen)
      | none => placesOf L r (b :: seen)

noncomputable def noteX (js : List Nat) (n : Nat) (L : List Blk) : Nat → Nat → (List Blk → T α) → T α
  | 0, _, k => k []
  | f + 1, i, k => .or (.note js i n) fun j => match nth L j with
    | some p => noteX js n L f (i + 1) fun R => k (p :: R)
    | none => k []

theorem noteX_spec {js : List Nat} {n : Nat} {L : List Blk} {K : α → Prop} : ∀ {f i : Nat} {k : List Blk → T α}, (noteX js n L f i k).all K → ∃ R, (∀ p ∈ R, p ∈ L) ∧ (k R).all K
  | 0, _, k, h => ⟨[], fun _ h => (by cases h), h⟩
  | f + 1, i, k, h => by
    obtain ⟨j, h⟩ := h
    dsimp only at h
    split at h
    · rename_i p hp
      obtain ⟨R, h1, h2⟩ := noteX_spec h
      rw [nth_eq] at hp
      refine ⟨p :: R, fun q hq => ?_, h2⟩
      rcases List.mem_cons.1 hq with rfl | hq
      · exact List.mem_of_getElem? hp
      · exact h1 q hq
    · exact ⟨[], fun _ h => (by cases h), h⟩

/-- Does it wait for all that read? -/
def finWaitsAll (ops : Array Oper) (w : Nat) : Bool := (List.range ops.size).all fun i => match ops[i]? with
  | some o => match readAddr o with
    | some _ => tb w i
    | none => true
  | none => true

def isStore (o : Oper) : Bool := match o.op with
  | .store .. => true
  | _ => false

/-- The stores that wait for all that reads. -/
noncomputable def finOf (ops : Array Oper) : List Nat := match ops.toList.getLast? with
  | some o => match isStore o with
    | true => (List.range ops.size).filter fun i => match ops[i]? with
      | some oi => isStore oi && finWaitsAll ops (closW ops i)
      | none => false
    | false => []
  | none => []

noncomputable def notesOf (ops : List Oper) : Option (List Nat) := noteSlots ops (storeRoots ops ops) ops

abbrev PieceE (α : Type) := F → List Blk → (Exit → F → List Blk → T α) → T α

noncomputable def evLoop (f : PieceE α) (c : Exit → F → List Blk → T α) (m : Nat) : F → List Blk → T α :=
  @Nat.rec (fun _ => F → List Blk → T α) (fun _ _ => .fail) (fun _ ih a L => forceL (compactW 0 a.w) fun w => f ⟨a.n, w⟩ L fun x a1 L1 => match x with
    | .normal => ih a1 L1
    | x => c x a1 L1) m

noncomputable def metBy (k : CallC) (args : Array Value) (L : List Blk) (c : Value → List Blk → T α) : T α :=
  .same (.val (.tuple args)) (.val (.tuple k.args)) (.need k.ok (memBy k.mem L k.outs fun v ns L' => c (v ns) L'))

noncomputable def loopBy (k : LoopC) (x : Code) (a : F) (L : List Blk) (c : Exit → F → List Blk → T α) : T α :=
  .same (.code x) (.code k.c) (.same (.nat a.n) (.nat k.n) (.same (.val (.tuple (k.sl.map fun p => a.get p.1).toArray)) (.val (.tuple (k.sl.map (·.2)).toArray))
    (.need k.ok (memBy k.mem L k.outs fun o ns L' => .ask fun x => c o.1 ⟨k.n, o.2 ns ++ argsW 0 x.l⟩ L'))))

noncomputable def inCall (ev : FuncId → Code → PieceE α) : CallE α := fun f args L c =>
  match nth P.funcs.toList f with
    | none => .fail
    | some fn => match fn.body with
      | none => .fail
      | some b => ev f b (F.init args fn.ntmps) L fun x a L' => match x with
        | .normal => resT P a.get L' fn.results.toList fun l => c (oneV l) L'
        | .ret => resT P a.get L' fn.results.toList fun l => c (oneV l) L'
        | _ => .fail

noncomputable def evCall (ev : FuncId → Code → PieceE α) : CallE α := fun f args L c =>
  match S.cl f with
  | k :: ks => .or (.num ((k :: ks).length + 1)) fun j => match nth (k :: ks) j with
    | some k => match Nat.decEq (k args L).f f with
      | .isTrue _ => metBy (k args L) args L c
      | .isFalse _ => .fail
    | none => inCall P ev f args L c
  | [] => inCall P ev f args L c

/-- A region that draws its order. -/
noncomputable def anyF (fn : FuncId) (id : Nat) (ops : Array Oper) (call : CallE α) (a : F) (L : List Blk) (c : Exit → F → List Blk → T α) : T α := match S.rg fn id with
  | k :: ks => .or (.num (k :: ks).length) fun j => match nth (k :: ks) j with
    | some k => loopBy (k a L) (.region id ops true) a L c
    | none => .fail
  | [] => match Region.noSelect ops with
    | false => .fail
    | true => .or .way fun j => match j with
      | 0 => noteX (placesOf (L.map (·.nm)) (dryR P L ops ops.toList a) []) L.length L 20 0 fun R => forceM (finM ops (finOf ops)) fun fw => evMany P S fn call ops (finOf ops) fw R (fun _ => []) (fun a' L' => c .normal a' L') 4 ops.size 0 a L
      | _ + 1 => match notesOf ops.toList with
        | some sl => noteT a L none sl fun R => forceM (finM ops []) fun fw => evMany P S fn call ops [] fw R (fun _ => []) (fun a' L' => c .normal a' L') 4 ops.size 0 a L
        | none => minusT a ops.toList ops.toList L fun js L1 => .or (.mask [fn, id]) fun mask => forceL (dropM mask L1) fun L0 => forceM (finM ops []) fun fw => evMany P S fn call ops [] fw L0 (backOf L.length js mask) (fun a' L' => c .normal a' L') 4 ops.size 0 a L

noncomputable def evBody (ev : FuncId → Code → PieceE α) (n : Nat) (fn : FuncId) (x : Code) (a : F) (L : List Blk) (c : Exit → F → List Blk → T α) : T α := match x with
    | .skip | .label _ => c .normal a L
    | .region _ ops false => evOps P S fn (evCall P S ev) ops (fun a' L' => c .normal a' L') (List.range ops.size) none a L
    | .region id ops true => anyF P S fn id ops (evCall P S ev) a L c
    | .seq x y => ev fn x a L fun r a1 L1 => match r with
      | .normal => ev fn y a1 L1 c
      | r => c r a1 L1
    | .cond b x y => match b with
      | .tmp s => match a.get s with
        | .bool t => .cond t (ev fn x (a.put (some s) (.bool true)) L c) (ev fn y (a.put (some s) (.bool false)) L c)
        | _ => .fail
      | b => match a.eval b with
        | .bool t => .cond t (ev fn x a L c) (ev fn y a L c)
        | _ => .fail
    | .block id x => ev fn x a L fun r a1 L1 => match r with
      | .exit id' => match Nat.beq id' id with
        | true => c .normal a1 L1
        | false => c (.exit id') a1 L1
      | r => c r a1 L1
    | .loop x => match S.lp fn with
      | k :: ks => .or (.num ((k :: ks).length + 1)) fun j => match nth (k :: ks) j with
        | some k => loopBy (k a L) (.loop x) a L c
        | none => evLoop (ev fn x) c n a L
      | [] => evLoop (ev fn x) c n a L
    | .exit id => c (.exit id) a L
    | .ret => c .ret a L
    | _ => .fail

noncomputable def ev (n : Nat) : FuncId → Code → PieceE α :=
  @Nat.rec (fun _ => FuncId → Code → PieceE α) (fun _ _ _ _ _ => .fail) (fun n ih => evBody P S ih n) n

end Go.Proofs.Ytbgmkefehfjicaa.Sy
