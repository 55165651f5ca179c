/-
  Symbolic runs: operations, regions, code, calls; Symbolic runs: they tell what comes; Symbolic runs: how they are used; Symbolic runs: contexts, contracts that hand back a row; The program draws the orders that Go leaves open; lower.number, and the reference's: the instructions that put a number int
-/
import Derived.Test.YtlpcnaeknbmjdaaGreatPa
import Derived.OrdersHeld
import Derived.Test.YtlpcnaeknbmjdaaGreatProg
import Derived.KernelRfl

namespace Go.Proofs.YtlpcnaeknbmjdaaGreat.Sy
open Go Go.RowKit
open Ev (one cell_of frozen_of calm)
variable (P : Program) (S : Ctx)
variable {α : Type}
abbrev CallE (α : Type) := FuncId → Array Value → List Blk → (Value → List Blk → T α) → T α
section
variable {α β : Type}
def askN : Nat → (List Let → T α) → T α
  | 0, k => k []
  | n + 1, k => .ask fun x => askN n fun r => k (x :: r)
def outsT : List β → (β → T α) → T α
  | [], _ => .fail
  | [o], f => f o
  | o :: p :: r, f => .both (f o) (outsT (p :: r) f)
theorem outsT_all {f : β → T α} {K : α → Prop} : ∀ {l : List β}, (outsT l f).all K → ∀ o ∈ l, (f o).all K
  | [], h, o, ho => by cases ho
  | [p], h, o, ho => by
    obtain rfl : o = p := by simpa using ho
    exact h
  | p :: q :: r, h, o, ho => by
    rcases List.mem_cons.1 ho with rfl | ho
    · exact h.1
    · exact outsT_all h.2 o ho
noncomputable def takeAll (ow : Bool) : List (Nat × Cont) → List Blk → (List Blk → List Blk → T α) → T α
  | [], L, k => k L []
  | p :: r, L, k => pickT L p.1 fun b j => match (!ow || b.own) with
    | true => .same (.cont p.2) (.cont (match ow with | true => p.2.useView b.ct | false => p.2.view b.ct)) (forceT (L.eraseIdx j) fun L1 => takeAll ow r L1 fun L2 U => k L2 (b :: U))
    | false => .fail
def ownOf (p : Nat × Cont) : Blk := ⟨p.1, p.2, true⟩
def GotL (L : List Blk) (l : List (Nat × Cont)) : Prop := ∀ p ∈ l, ∃ q ∈ L, q.nm = p.1 ∧ ∀ h, q.ct.sat h → p.2.sat h
noncomputable def rbT (l : List (Nat × Cont)) (L : List Blk) (k : T α) : T α := .or .force (two (match l with
  | [] => k
  | _ => .fail) (.or (.tail (L.map (·.nm))) fun d => .need (GotL (L.drop d) l) k))
noncomputable def memBy (c : MemC) (L : List Blk) (outs : List (OutM × β)) (k : β → List Let → List Blk → T α) : T α :=
  takeAll false c.rd L fun L1 U1 => takeAll true c.use L1 fun L2 _ => rbT c.rb (U1 ++ L2) (outsT outs fun o => askN c.m fun ns => .hyp (o.1.hyp ns) (.or .force (two (match o.1.nb ns with
    | [] => forceT ((o.1.nw ns).map ownOf ++ (U1 ++ L2)) fun L3 => k o.2 ns L3
    | _ => .fail) (forceT ((o.1.nw ns).map ownOf ++ ((U1 ++ L2) ++ (o.1.nb ns).map ownOf)) fun L3 => k o.2 ns L3))))
noncomputable def memU (rd : List (Nat × Cont)) (m : Nat) (rb u1 ub : List (Nat × Cont)) (rest : List Blk) (L : List Blk) (outs : List (OutM × β)) (k : β → List Let → List Blk → T α) : T α :=
  takeAll false rd L fun L1 U1 => takeAll true u1 L1 fun L2 _ => .or (.tail (L2.map (·.nm))) fun d => .need ((L2.drop d).Perm (ub.map ownOf ++ rest))
    (rbT rb (U1 ++ (L2.take d ++ rest)) (outsT outs fun o => askN m fun ns => .hyp (o.1.hyp ns) (forceT ((o.1.nw ns).map ownOf ++ ((U1 ++ (L2.take d ++ rest)) ++ (o.1.nb ns).map ownOf)) fun L3 => k o.2 ns L3)))
end
def keyOf (o : Oper) : Nat := match o.dst with
  | some t => t
  | none => match o.op with
    | .mapUpdate .. => 900000
    | .store .. => 900001
    | _ => 900002
def zerosOf (o : Oper) : List Value := match o.op with
  | .load t _ => zeroCells P t
  | _ => []
def stepO (call : CallE α) (o : Oper) (a : F) (c : F → List Blk → T α) (x : Next) (L : List Blk) : T α := match x with
  | .value v => c (a.put o.dst v) L
  | .skip => c (a.put o.dst undef) L
  | .enter f args => call f args L fun v L' => c (a.put o.dst v) L'
  | _ => .fail
noncomputable def opBy (k : OpC) (o : Oper) (a : F) (L : List Blk) (c : F → List Blk → T α) : T α := memBy k.mem L k.outs fun v ns L' => c (a.put o.dst ((v ns).getD undef)) L'
noncomputable def genOp (call : CallE α) (o : Oper) (a : F) (L : List Blk) (c : F → List Blk → T α) : T α := lrun P (execOp a.eval o) (zerosOf P o) L (stepO call o a c)
def lenS (v : Value) : Nat := match v with
  | .slice _ n _ => n
  | _ => 0
def ptrS (v : Value) : Nat := match v with
  | .slice (some ⟨b, _, _⟩) _ _ => b
  | _ => 0
def offS (v : Value) : Nat := match v with
  | .slice (some ⟨_, o, _⟩) _ _ => o
  | _ => 0
def canOpa (o : Oper) : Bool := match o.op with
  | .indexAddr .. => true
  | .call c => match c.callee with
    | .builtin .len => true
    | _ => false
  | _ => false
noncomputable def opaV (P : Program) (a : F) (o : Oper) (k : Value → T α) : T α := match o.op with
  | .indexAddr t x y => match P.underlying t with
    | some (.slice el) => match P.info? el with
      | some inf => match a.eval y with
        | .int _ i => .need ((∃ n c, a.eval x = .slice (some ⟨ptrS (a.eval x), offS (a.eval x), none⟩) n c) ∧ 0 ≤ i ∧ i < (lenS (a.eval x) : Int)) (k (.pointer (some ⟨ptrS (a.eval x), offS (a.eval x) + i.toNat * inf.size, none⟩)))
        | _ => .fail
      | none => .fail
    | _ => .fail
  | .call c => match c.callee with
    | .builtin .len => match c.args.toList, c.argTypes.toList with
      | [x], [t] => match P.underlying t with
        | some (.slice _) => .need (∃ p n c, a.eval x = .slice p n c) (k (.int .i64 (Int.ofNat (lenS (a.eval x)))))
        | _ => .fail
      | _, _ => .fail
    | _ => .fail
  | _ => .fail
noncomputable def doOp0 (call : CallE α) (o : Oper) (a : F) (L : List Blk) (c : F → List Blk → T α) : T α :=
  match doing P a.eval o with
  | .val v => c (a.put o.dst v) L
  | .maybe b p v => reqP b p (c (a.put o.dst v) L)
  | .load t b off => loadN P t b off L fun v => c (a.put o.dst v) L
  | .store b off v => pickT L b fun p j => reqP (one v) (one v = true) (putT L p j ⟨b, off, none⟩ v fun L' => c (a.put o.dst undef) L')
  | .whole n b off C => altT (match Nat.beq off 0 with
    | false => .fail
    | true => pickT L b fun p j => match p with
      | ⟨nm, .obj (.cells old ty (lo, hi)), true⟩ => match Nat.beq lo 0 && Nat.beq hi 0 with
        | true => reqP (Nat.beq old.size C.size && (Nat.beq n C.size && C.all (·.oneCell'))) (old.size = C.size ∧ n = C.size ∧ C.all (·.oneCell') = true) (setK L j ⟨nm, .obj (.cells C ty (0, 0)), true⟩ fun L' => c (a.put o.dst undef) L')
        | false => .fail
      | _ => .fail) (genOp P call o a L c)
  | .app t v x => altT (appT P L t v x fun k => opBy k o a L c) (genOp P call o a L c)
  | .call f args => call f args L fun v L' => c (a.put o.dst v) L'
  | .make e z bytes n lv cv => altT (genOp P call o a L c) (.same (.val lv) (.val cv) (reqP (Ex.leQ 0 n && (Nat.ble (n.toNat * bytes) 281474976710656 && Nat.ble n.toNat maxLen)) (0 ≤ n ∧ n.toNat * bytes ≤ 281474976710656 ∧ n.toNat ≤ maxLen)
      (.ask fun x => c (a.put o.dst (.slice (some ⟨x.n, 0, none⟩) n.toNat n.toNat)) (⟨x.n, .row e 1 n.toNat n.toNat (List.replicate n.toNat z), true⟩ :: L))))
  | .bytes s => forceL (bytesV s) fun l => opBy (bytesC s.size l) o a L c
  | .peq neg b1 o1 b2 o2 => peqT L b1 o1 b2 o2 fun r => c (a.put o.dst (.bool (bif neg then !r else r))) L
  | .cas b off old new => casT L b off old new fun r L' => c (a.put o.dst (.bool r)) L'
  | .gen => genOp P call o a L c
noncomputable def doOp (call : CallE α) (o : Oper) (a : F) (L : List Blk) (c : F → List Blk → T α) : T α := match canOpa o with
  | true => .or .force (two (doOp0 P call o a L c) (opaV P a o fun v => c (a.put o.dst v) L))
  | false => doOp0 P call o a L c
noncomputable def evOp (fn : FuncId) (call : CallE α) (o : Oper) (a : F) (L : List Blk) (c : F → List Blk → T α) : T α :=
  match S.op fn (keyOf o) with
  | k :: ks => .or (.num ((k :: ks).length + 1)) fun j => match nth (k :: ks) j with
      | some k => .same (.sem (execOp a.eval o)) (.sem (k a L).s) (.need (k a L).ok (opBy (k a L).c o a L c))
      | none => doOp P call o a L c
  | [] => doOp P call o a L c
inductive Guard where
  | free
  | no
  | test (t : Nat) (b want : Bool)
noncomputable def guardOf (a : F) (ops : Array Oper) (o : Oper) : Guard := match o.guard with
  | none => .free
  | some (j, want) => match nth ops.toList j with
    | none => .no
    | some oj => match oj.dst with
      | none => .no
      | some t => match a.get t with
        | .bool b => .test t b want
        | _ => .no
noncomputable def guardT (a : F) (ops : Array Oper) (o : Oper) (yes no : F → T α) : T α := match guardOf a ops o with
  | .free => yes a
  | .no => no a
  | .test t b want => match want with
    | true => .cond b (yes (a.put (some t) (.bool true))) (no (a.put (some t) (.bool false)))
    | false => .cond b (no (a.put (some t) (.bool true))) (yes (a.put (some t) (.bool false)))
theorem guardT_spec {a : F} {ops : Array Oper} {o : Oper} {yes no : F → T α} {K : α → Prop} {b : Act} (hf : RelF a b) (h : (guardT a ops o yes no).all K) :
    ∃ a', RelF a' b ∧ ((Region.wanted o (yielded ops b.tmps) = true ∧ (yes a').all K) ∨ (Region.wanted o (yielded ops b.tmps) = false ∧ (no a').all K)) := by
  rw [← hf.yielded]
  unfold guardT at h
  have key : match guardOf a ops o with
      | .free => Region.wanted o (a.yielded ops) = true
      | .no => Region.wanted o (a.yielded ops) = false
      | .test t b want => Region.wanted o (a.yielded ops) = (b == want) ∧ a.get t = .bool b := by
    unfold guardOf Region.wanted F.yielded
    cases hg : o.guard with
    | none => rfl
    | some p =>
      obtain ⟨j, want⟩ := p
      simp only [nth_eq]
      cases hj : ops.toList[j]? with
      | none => rfl
      | some oj =>
        simp only
        cases hd : oj.dst with
        | none => rfl
        | some t =>
          simp only
          cases hv : a.get t with
          | bool b => exact ⟨by cases b <;> cases want <;> rfl, hv⟩
          | _ => rfl
  split at h
  · rename_i hg
    rw [hg] at key
    exact ⟨a, hf, .inl ⟨key, h⟩⟩
  · rename_i hg
    rw [hg] at key
    exact ⟨a, hf, .inr ⟨key, h⟩⟩
  · rename_i t c want hg
    rw [hg] at key
    obtain ⟨k1, k2⟩ := key
    cases want <;> cases c
    · exact ⟨_, hf.same k2, .inl ⟨k1, h.2 rfl⟩⟩
    · exact ⟨_, hf.same k2, .inr ⟨k1, h.1 rfl⟩⟩
    · exact ⟨_, hf.same k2, .inr ⟨k1, h.2 rfl⟩⟩
    · exact ⟨_, hf.same k2, .inl ⟨k1, h.1 rfl⟩⟩
def pureKind (o : Oper) : Bool := match o.op with
  | .move _ | .assign _ | .convert .. | .unOp .. | .fieldAddr .. | .load .. => true
  | .binOp op _ _ _ _ => match op with
    | .shl | .shr | .quo | .rem => false
    | _ => true
  | .call c => match c.callee with
    | .builtin .len => true
    | .builtin .cap => true
    | .builtin .max => true
    | .builtin .min => true
    | _ => false
  | _ => false
noncomputable def plainGuard (ops : Array Oper) (j : Nat) : Bool := match nth ops.toList j with
  | some o => match o.guard with
    | none => true
    | some _ => false
  | none => false
noncomputable def groupOk (ops : Array Oper) (o : Oper) : Bool := match o.guard with
  | none => false
  | some (j, want) => @List.rec Oper (fun _ => Bool) true (fun p _ ih => match p.guard with
      | none => ih
      | some (j', w') => match plainGuard ops j' with
        | false => false
        | true => match Nat.beq j j' with
          | false => ih
          | true => match want, w' with
            | true, true => match pureKind p with
              | true => ih
              | false => false
            | false, false => match pureKind p with
              | true => ih
              | false => false
            | _, _ => false) ops.toList
structure G where
  b : Bool
  want : Bool
  a : F
def hit (b want : Bool) : Bool := match want with
  | true => b
  | false => !b
def selV (c : Bool) (v w : Value) : Value := match c with
  | true => v
  | false => w
structure VB (α : Type) where
  f : F → List Blk → (Value → T α) → T α → T α
noncomputable def VB.run (b : VB α) : F → List Blk → (Value → T α) → T α → T α := @VB.rec α (fun _ => F → List Blk → (Value → T α) → T α → T α) (fun f => f) b
def twoI (op : BinOp) (x y : Value) : Option Value := match x with
  | .int k a => match y with
    | .int k' b => Ex.twoQ op (.int k a) (.int k' b)
    | _ => none
  | _ => none
def optF (k : Value → T α) (e : T α) (r : Option Value) : T α := match r with
  | some v => k v
  | none => e
def sameF (r : Bool) (op : BinOp) (k : Value → T α) (e : T α) (x y : Value) : T α := match x with
  | .int kx a => match y with
    | .int ky b => .or (.ints a b) (two (.same (.val (.int kx a)) (.val (.int ky b)) (k (.bool r))) (optF k e (Ex.twoQ op (.int kx a) (.int ky b))))
    | _ => e
  | _ => e
def ptrF (g : Nat → Nat → T α) (e : T α) (v : Value) : T α := match v with
  | .pointer (some ⟨b, off, none⟩) => g b off
  | _ => e
def ixF (size : Nat) (k : Value → T α) (e : T α) (v w : Value) : T α := match v with
  | .slice (some ⟨b, off, none⟩) n _ => match w with
    | .int _ i => reqP (Ex.leQ 0 i && Ex.ltQ i (n : Int)) (0 ≤ i ∧ i < (n : Int)) (k (.pointer (some ⟨b, off + i.toNat * size, none⟩)))
    | _ => e
  | _ => e
noncomputable def idxF (k : Value → T α) (e : T α) (v w : Value) : T α := match v with
  | .string s => match w with
    | .int _ i => reqP (Ex.leQ 0 i && Ex.ltQ i (s.size : Int)) (0 ≤ i ∧ i < (s.size : Int)) (k (.int .u8 (byteQ s i.toNat)))
    | _ => e
  | _ => e
noncomputable def extF (ix : Nat) (k : Value → T α) (e : T α) (v : Value) : T α := match v with
  | .tuple vs => optF k e (nth vs.toList ix)
  | _ => e
def lenF (str : Bool) (k : Value → T α) (e : T α) (v : Value) : T α := match v with
  | .string s => match str with
    | true => k (.int .i64 (Int.ofNat s.size))
    | false => e
  | .slice _ n _ => match str with
    | true => e
    | false => k (.int .i64 (Int.ofNat n))
  | _ => e
noncomputable def fieldOffP (s : TypeId) (f : Nat) : Option Nat := match P.underlying s with
  | some (.struct fs) => match fs[f]? with
    | some fl => match sizeP P fl.type with
      | some n => match Nat.beq n 0 with
        | true => none
        | false => some fl.offset
      | none => none
    | none => none
  | _ => none
noncomputable def elemSizeP (t : TypeId) : Option Nat := match P.underlying t with
  | some (.slice el) => match P.info? el with
    | some inf => some inf.size
    | none => none
  | _ => none
noncomputable def lenP (t : TypeId) : Option Bool := match P.underlying t with
  | some .string => some true
  | some (.slice _) => some false
  | _ => none
noncomputable def elseV : VB α := ⟨fun _ _ _ e => e⟩
noncomputable def valB (o : Oper) : VB α := match o.op with
  | .move x => ⟨fun a _ k _ => k (a.eval x)⟩
  | .assign x => ⟨fun a _ k _ => k (a.eval x)⟩
  | .binOp op _ x y _ => match isShift op with
    | true => elseV
    | false => match op with
      | .eql => ⟨fun a _ k e => sameF true .eql k e (a.eval x) (a.eval y)⟩
      | .neq => ⟨fun a _ k e => sameF false .neq k e (a.eval x) (a.eval y)⟩
      | op => ⟨fun a _ k e => optF k e (twoI op (a.eval x) (a.eval y))⟩
  | .load t x => ⟨fun a L k e => ptrF (fun b off => loadN P t b off L k) e (a.eval x)⟩
  | .fieldAddr s x f => match fieldOffP P s f with
    | some foff => ⟨fun a _ k e => ptrF (fun b off => k (.pointer (some ⟨b, Nat.add off foff, none⟩))) e (a.eval x)⟩
    | none => elseV
  | .indexAddr t x y => match elemSizeP P t with
    | some size => ⟨fun a _ k e => .or .force (two (ixF size k e (a.eval x) (a.eval y)) e)⟩
    | none => elseV
  | .index t x y => match lenP P t with
    | some true => ⟨fun a _ k e => idxF k e (a.eval x) (a.eval y)⟩
    | _ => elseV
  | .extract x ix => ⟨fun a _ k e => extF ix k e (a.eval x)⟩
  | .call c => match c.callee with
    | .builtin .len => match c.args.toList, c.argTypes.toList with
      | [x], [t] => match lenP P t with
        | some str => ⟨fun a _ k e => .or .force (two (lenF str k e (a.eval x)) e)⟩
        | none => elseV
      | _, _ => elseV
    | _ => elseV
  | _ => elseV
def Tells (P : Program) (L : List Blk) (k : Value → T α) (K : α → Prop) (d : Doing) : Prop :=
  (∃ v, d = .val v ∧ (k v).all K) ∨ (∃ t b off, d = .load t b off ∧ (loadN P t b off L k).all K) ∨ (∃ b p v, d = .maybe b p v ∧ (reqP b p (k v)).all K)
variable {P} in
theorem valB_spec {o : Oper} {a : F} {L : List Blk} {k : Value → T α} {e : T α} {K : α → Prop} (h : ((valB P o : VB α).run a L k e).all K) : e.all K ∨ Tells P L k K (doing P a.eval o) := by
  have vl : ∀ v, doing P a.eval o = .val v → (k v).all K → e.all K ∨ Tells P L k K (doing P a.eval o) := fun v h1 h2 => .inr (.inl ⟨v, h1, h2⟩)
  unfold valB at h
  split at h
  · rename_i x ho
    exact vl _ (by unfold doing quick; simp only [ho]) h
  · rename_i x ho
    exact vl _ (by unfold doing quick; simp only [ho]) h
  · rename_i op t x y u ho
    split at h
    · exact .inl h
    · rename_i hs
      have key : ∀ (kx ky : IntKind) (m m' : Int) (v : Value), a.eval x = .int kx m → a.eval y = .int ky m' → Ex.twoQ op (.int kx m) (.int ky m') = some v → doing P a.eval o = .val v := fun kx ky m m' v h1 h2 hv => by
        unfold doing quick
        simp only [ho, hs, h1, h2, hv]
      have opt : ∀ {r : Option Value}, (∀ v, r = some v → doing P a.eval o = .val v) → (optF k e r).all K → e.all K ∨ Tells P L k K (doing P a.eval o) := fun {r} hr h => by
        unfold optF at h
        split at h
        · exact vl _ (hr _ rfl) h
        · exact .inl h
      have same : ∀ r : Bool, (∀ kx m, Ex.twoQ op (.int kx m) (.int kx m) = some (.bool r)) → (sameF r op k e (a.eval x) (a.eval y)).all K → e.all K ∨ Tells P L k K (doing P a.eval o) := fun r hr h => by
        unfold sameF at h
        split at h
        · rename_i kx m h1
          split at h
          · rename_i ky m' h2
            rcases two_spec h with hx | hx
            · obtain ⟨h3, hx⟩ := hx
              have h3 := tok_val h3
              injection h3 with h4 h5
              subst h4 h5
              exact vl _ (key _ _ _ _ _ h1 h2 (hr _ _)) hx
            · exact opt (fun v hv => key _ _ _ _ _ h1 h2 hv) hx
          · exact .inl h
        · exact .inl h
      split at h
      · exact same true (fun kx m => by simp [Ex.twoQ, Ex.intQ, Ex.binQ, Ex.eqQ_eq]) h
      · exact same false (fun kx m => by simp [Ex.twoQ, Ex.intQ, Ex.binQ, Ex.eqQ_eq]) h
      · refine opt (fun v hv => ?_) h
        unfold twoI at hv
        split at hv
        · rename_i kx m h1
          split at hv
          · rename_i ky m' h2
            exact key _ _ _ _ _ h1 h2 hv
          · cases hv
        · cases hv
  · rename_i t x ho
    change (ptrF (fun b off => loadN P t b off L k) e (a.eval x)).all K at h
    unfold ptrF at h
    split at h
    · rename_i b off hv
      refine .inr (.inr (.inl ⟨t, b, off, ?_, h⟩))
      unfold doing loadOf
      simp only [ho, hv]
    · exact .inl h
  · rename_i s x f ho
    split at h
    · rename_i foff hf
      change (ptrF (fun b off => k (.pointer (some ⟨b, Nat.add off foff, none⟩))) e (a.eval x)).all K at h
      unfold ptrF at h
      split at h
      · rename_i b off hv
        refine vl _ ?_ h
        unfold doing quick
        simp only [ho, hv]
        have : fieldQ P s f b off = some (.pointer (some ⟨b, Nat.add off foff, none⟩)) := by
          unfold fieldOffP at hf
          unfold fieldQ
          split at hf
          · rename_i fs hu
            simp only [hu]
            split at hf
            · rename_i fl hfl
              simp only [hfl]
              split at hf
              · rename_i n hn
                simp only [hn]
                split at hf
                · cases hf
                · rename_i hz
                  injection hf with hf
                  simp only [hz, hf]
              · cases hf
            · cases hf
          · cases hf
        simp only [this]
      · exact .inl h
    · exact .inl h
  · rename_i t x y ho
    split at h
    · rename_i size hf
      rcases (two_spec h).symm with h | h
      · exact .inl h
      unfold ixF at h
      split at h
      · rename_i b off n cc hv
        split at h
        · rename_i kk j hw
          refine .inr (.inr (.inr ⟨_, _, _, ?_, h⟩))
          unfold elemSizeP at hf
          unfold doing symQ
          simp only [ho, hv, hw]
          split at hf
          · rename_i el hu
            simp only [hu]
            split at hf
            · rename_i inf hi
              injection hf with hf
              simp only [hi, hf]
            · cases hf
          · cases hf
        · exact .inl h
      · exact .inl h
    · exact .inl h
  · rename_i t x y ho
    split at h
    · rename_i hf
      change (idxF k e (a.eval x) (a.eval y)).all K at h
      unfold idxF at h
      split at h
      · rename_i s hv
        split at h
        · rename_i kk j hw
          refine .inr (.inr (.inr ⟨_, _, _, ?_, h⟩))
          unfold lenP at hf
          unfold doing symQ
          simp only [ho, hv, hw]
          split at hf
          · rename_i hu
            simp only [hu]
          · cases hf
          · cases hf
        · exact .inl h
      · exact .inl h
    · exact .inl h
  · rename_i x ix ho
    change (extF ix k e (a.eval x)).all K at h
    unfold extF at h
    split at h
    · rename_i vs hv
      unfold optF at h
      split at h
      · rename_i v hn
        refine vl v ?_ h
        unfold doing quick
        simp only [ho, hv, hn]
      · exact .inl h
    · exact .inl h
  · rename_i c ho
    split at h
    · rename_i hc
      split at h
      · rename_i x t ha ht
        split at h
        · rename_i str hl
          rcases (two_spec h).symm with h | h
          · exact .inl h
          have key : ∀ v, lenOf P a.eval o = some v → doing P a.eval o = .val v := fun v hv => by
            have h1 : callOf P a.eval o = none := by unfold callOf; simp only [ho, hc]
            have h2 : appOf a.eval o = none := by unfold appOf; simp only [ho, hc]
            have h3 : mmOf a.eval o = none := by unfold mmOf; simp only [ho, hc]
            unfold doing
            simp only [ho, h1, h2, h3, hv]
          unfold lenP at hl
          unfold lenF at h
          split at h
          · rename_i s hv
            split at h
            · refine vl _ (key _ ?_) h
              unfold lenOf
              simp only [ho, hc, ha, ht, hv]
              split at hl
              · rename_i hu
                simp only [hu]
              · cases hl
              · cases hl
            · exact .inl h
          · rename_i ad n cc hv
            split at h
            · exact .inl h
            · refine vl _ (key _ ?_) h
              unfold lenOf
              simp only [ho, hc, ha, ht, hv]
              split at hl
              · cases hl
              · rename_i hu
                simp only [hu]
              · cases hl
          · exact .inl h
        · exact .inl h
      · exact .inl h
    · exact .inl h
  · exact .inl h
noncomputable def heldV0 (a : F) (L0 : List Blk) (o : Oper) (k : Value → T α) : T α := match doing P a.eval o with
  | .val v => k v
  | .load t b off => loadN P t b off L0 k
  | .maybe b p v => reqP b p (k v)
  | .gen => lread P (execOp a.eval o) (zerosOf P o) L0 fun x => match x with
    | .value v => k v
    | _ => .fail
  | _ => .fail
noncomputable def heldV (a : F) (L0 : List Blk) (o : Oper) (k : Value → T α) : T α := match canOpa o with
  | true => .or .force (two (heldV0 P a L0 o k) (opaV P a o k))
  | false => heldV0 P a L0 o k
noncomputable def heldG (ops : Array Oper) (L0 : List Blk) (g : Option G) (a : F) (o : Oper) (k : Option G → F → T α) : T α :=
  match guardOf a ops o with
  | .free => match g with
    | none => (valB P o).run a L0 (fun v => k none (a.put o.dst v)) (heldV P a L0 o fun v => k none (a.put o.dst v))
    | some g => match o.op with
      | .pick c x y => match a.eval c with
        | .bool b => .same (.val (.bool b)) (.val (.bool g.b)) (match mergeV b (match g.want with | true => g.a.eval x | false => a.eval x) (match g.want with | true => a.eval y | false => g.a.eval y) with
          | some v => k none (a.put o.dst v)
          | none => .fail)
        | _ => .fail
      | _ => heldV P a L0 o fun v => k (some ⟨g.b, g.want, g.a.put o.dst v⟩) (a.put o.dst v)
  | .no => k none (a.put o.dst undef)
  | .test t b want => match g with
    | none => heldV P (a.put (some t) (.bool want)) L0 o fun v => k (some ⟨b, want, (a.put (some t) (.bool want)).put o.dst v⟩) (a.put o.dst (selV (hit b want) v undef))
    | some g => .same (.val (.bool b)) (.val (.bool g.b)) (.same (.val (.bool want)) (.val (.bool g.want)) (heldV P g.a L0 o fun v => k (some ⟨g.b, g.want, g.a.put o.dst v⟩) (a.put o.dst (selV (hit b want) v undef))))
def Inv (g : Option G) (b : Act) : Prop := ∀ x, g = some x → x.b = x.want → RelF x.a b
theorem Inv.none (b : Act) : Inv Option.none b := fun _ h => by cases h
theorem guardOf_key {a : F} {ops : Array Oper} {o : Oper} {b : Act} (hf : RelF a b) : match guardOf a ops o with
      | .free => Region.wanted o (yielded ops b.tmps) = true
      | .no => Region.wanted o (yielded ops b.tmps) = false
      | .test t c want => Region.wanted o (yielded ops b.tmps) = (c == want) ∧ a.get t = .bool c := by
  rw [← hf.yielded]
  unfold guardOf Region.wanted F.yielded
  cases hg : o.guard with
  | none => rfl
  | some p =>
    obtain ⟨j, want⟩ := p
    simp only [nth_eq]
    cases hj : ops.toList[j]? with
    | none => rfl
    | some oj =>
      simp only
      cases hd : oj.dst with
      | none => rfl
      | some t =>
        simp only
        cases hv : a.get t with
        | bool b => exact ⟨by cases b <;> cases want <;> rfl, hv⟩
        | _ => rfl
noncomputable def evAt (fn : FuncId) (call : CallE α) (ops : Array Oper) (i : Nat) (a : F) (L : List Blk) (c : F → List Blk → T α) : T α :=
  match nth ops.toList i with
  | none => c a L
  | some o => guardT a ops o (fun a => evOp P S fn call o a L c) (fun a => c (a.put o.dst undef) L)
noncomputable def evAtG (fn : FuncId) (call : CallE α) (ops : Array Oper) (i : Nat) (g : Option G) (a : F) (L : List Blk) (c : Option G → F → List Blk → T α) : T α :=
  match nth ops.toList i with
  | none => evAt P S fn call ops i a L (c none)
  | some o => match guardOf a ops o with
    | .test _ b _ => match groupOk ops o with
      | true => match g with
        | none => litT b (evAt P S fn call ops i a L (c none)) (heldG P ops L g a o fun g' a' => c g' a' L)
        | some _ => heldG P ops L g a o fun g' a' => c g' a' L
      | false => evAt P S fn call ops i a L (c none)
    | .free => match g, o.op with
      | some _, .pick .. => heldG P ops L g a o fun g' a' => c g' a' L
      | _, _ => evAt P S fn call ops i a L (c none)
    | .no => evAt P S fn call ops i a L (c none)
noncomputable def evOps (fn : FuncId) (call : CallE α) (ops : Array Oper) (c : F → List Blk → T α) (l : List Nat) : Option G → F → List Blk → T α :=
  @List.rec Nat (fun _ => Option G → F → List Blk → T α) (fun _ => c) (fun i _ ih g a L => evAtG P S fn call ops i g a L ih) l
def listedOf (n m : Nat) : Array Bool := ((List.range n).map fun j => m.testBit j).toArray
theorem listedOf_get (n m j : Nat) : (listedOf n m)[j]? = if j < n then some (m.testBit j) else none := by
  simp only [listedOf, List.getElem?_toArray, List.getElem?_map]
  split
  · rename_i h; rw [List.getElem?_range h]; rfl
  · rename_i h; rw [List.getElem?_eq_none (by simpa using h)]; rfl
theorem listedOf_getD (n m j : Nat) (d : Bool) : (listedOf n m).getD j d = if j < n then m.testBit j else d := by
  rw [Array.getD_eq_getD_getElem?, listedOf_get]
  split <;> rfl
theorem testBit_or_shift (m i j : Nat) : (m ||| 1 <<< i).testBit j = (m.testBit j || decide (j = i)) := by
  rw [Nat.testBit_or, Nat.one_shiftLeft, Nat.testBit_two_pow]
  by_cases h : i = j
  · subst h; simp
  · simp [h, Ne.symm h]
theorem listedOf_set (n m i : Nat) : (listedOf n m).setIfInBounds i true = listedOf n (m ||| 1 <<< i) := by
  apply Array.ext_getElem?
  intro j
  rw [Array.getElem?_setIfInBounds, listedOf_get, listedOf_get]
  have hs : (listedOf n m).size = n := by simp [listedOf]
  rw [hs, testBit_or_shift]
  by_cases h : i = j
  · subst h
    by_cases hn : i < n <;> simp [hn]
  · simp [h, Ne.symm h]
theorem listedOf_zero (n : Nat) : Array.replicate n false = listedOf n 0 := by
  apply Array.ext_getElem?
  intro j
  rw [listedOf_get, Array.getElem?_replicate]
  split <;> simp
def orAll {α : Type} (f : α → Option Nat) : List α → Nat
  | [] => 0
  | x :: r => match f x with
    | some k => orAll f r ||| 1 <<< k
    | none => orAll f r
theorem orAll_testBit {α : Type} {f : α → Option Nat} (k : Nat) : ∀ l : List α, (orAll f l).testBit k = true ↔ ∃ x ∈ l, f x = some k
  | [] => by simp [orAll]
  | x :: r => by
    simp only [orAll]
    split
    · rename_i j hj
      rw [testBit_or_shift]
      simp only [Bool.or_eq_true, decide_eq_true_eq, orAll_testBit k r, List.mem_cons, exists_eq_or_imp, hj, Option.some.injEq]
      exact ⟨fun h => h.elim .inr fun h => .inl h.symm, fun h => h.elim (fun h => .inr h.symm) .inl⟩
    · rename_i hj
      simp only [orAll_testBit k r, List.mem_cons, exists_eq_or_imp, hj]
      exact ⟨.inr, fun h => h.elim (fun h => by cases h) id⟩
def subM (w m : Nat) : Bool := Nat.beq (Nat.land w m) w
theorem subM_spec {w m : Nat} : subM w m = true ↔ ∀ k, w.testBit k = true → m.testBit k = true := by
  unfold subM
  rw [Nat.beq_eq]
  constructor
  · intro h k hk
    have h1 := congrArg (fun x => x.testBit k) h
    have h2 : (w &&& m).testBit k = w.testBit k := h1
    rw [Nat.testBit_and, hk, Bool.true_and] at h2
    exact h2
  · intro h
    refine Nat.eq_of_testBit_eq fun k => ?_
    show (w &&& m).testBit k = w.testBit k
    rw [Nat.testBit_and]
    cases hk : w.testBit k with
    | false => rfl
    | true => rw [h k hk]; rfl
theorem bit_of (m i : Nat) : Nat.beq (Nat.mod (Nat.shiftRight m i) 2) 0 = !m.testBit i := by
  have h : Nat.mod (Nat.shiftRight m i) 2 = (m >>> i) % 2 := rfl
  rw [h, Nat.testBit, Nat.one_and_eq_mod_two]
  rcases Nat.mod_two_eq_zero_or_one (m >>> i) with h | h <;> rw [h] <;> rfl
def tb (m i : Nat) : Bool := match Nat.beq (Nat.mod (Nat.shiftRight m i) 2) 0 with
  | true => false
  | false => true
theorem tb_eq (m i : Nat) : tb m i = m.testBit i := by
  unfold tb
  rw [bit_of]
  cases m.testBit i <;> rfl
def ixL (p : Nat → Oper → Bool) : List Oper → Nat → List Nat
  | [], _ => []
  | o :: r, j => match p j o with
    | true => j :: ixL p r (Nat.succ j)
    | false => ixL p r (Nat.succ j)
theorem ixL_cons (p : Nat → Oper → Bool) (o : Oper) (r : List Oper) (j : Nat) : ixL p (o :: r) j = match p j o with
    | true => j :: ixL p r (Nat.succ j)
    | false => ixL p r (Nat.succ j) := rfl
theorem ixL_eq (p : Nat → Oper → Bool) : ∀ (l : List Oper) (j : Nat), ixL p l j = (List.range' j l.length).filter fun i => match l[i - j]? with
    | some o => p i o
    | none => false
  | [], _ => rfl
  | o :: r, j => by
    have ih := ixL_eq p r (j + 1)
    have e : ((List.range' (j + 1) r.length).filter fun i => match (o :: r)[i - j]? with
        | some o => p i o
        | none => false) = (List.range' (j + 1) r.length).filter fun i => match r[i - (j + 1)]? with
        | some o => p i o
        | none => false := List.filter_congr fun i hi => by
      have hi := List.mem_range'_1.1 hi
      have : i - j = (i - (j + 1)) + 1 := by omega
      rw [this, List.getElem?_cons_succ]
    rw [List.length_cons, List.range'_succ, List.filter_cons, e, ← ih]
    simp only [Nat.sub_self, List.getElem?_cons_zero]
    rw [ixL_cons]
    cases p j o <;> rfl
def orL (p : Nat → Oper → Bool) : List Oper → Nat → Nat
  | [], _ => 0
  | o :: r, j => match p j o with
    | true => Nat.lor (orL p r (Nat.succ j)) (Nat.shiftLeft 1 j)
    | false => orL p r (Nat.succ j)
theorem orL_cons (p : Nat → Oper → Bool) (o : Oper) (r : List Oper) (j : Nat) : orL p (o :: r) j = match p j o with
    | true => Nat.lor (orL p r (Nat.succ j)) (Nat.shiftLeft 1 j)
    | false => orL p r (Nat.succ j) := rfl
theorem orL_bit (p : Nat → Oper → Bool) : ∀ (l : List Oper) (j k : Nat), (orL p l j).testBit k = true ↔ j ≤ k ∧ ∃ o, l[k - j]? = some o ∧ p k o = true
  | [], j, k => by simp [orL]
  | o :: r, j, k => by
    have ih := orL_bit p r (j + 1) k
    have key : (j ≤ k ∧ ∃ o', (o :: r)[k - j]? = some o' ∧ p k o' = true) ↔ (k = j ∧ p j o = true) ∨ (orL p r (j + 1)).testBit k = true := by
      rw [ih]
      rcases Nat.lt_trichotomy k j with h | h | h
      · constructor
        · rintro ⟨h1, -⟩; omega
        · rintro (⟨h1, -⟩ | ⟨h1, -⟩) <;> omega
      · subst h
        constructor
        · rintro ⟨-, o', h1, h2⟩
          simp only [Nat.sub_self, List.getElem?_cons_zero, Option.some.injEq] at h1
          subst h1
          exact .inl ⟨rfl, h2⟩
        · rintro (⟨-, h2⟩ | ⟨h1, -⟩)
          · exact ⟨Nat.le_refl _, o, by simp, h2⟩
          · omega
      · have e : k - j = (k - (j + 1)) + 1 := by omega
        rw [e, List.getElem?_cons_succ]
        constructor
        · rintro ⟨-, h2⟩
          exact .inr ⟨by omega, h2⟩
        · rintro (⟨h1, -⟩ | ⟨-, h2⟩)
          · omega
          · exact ⟨by omega, h2⟩
    rw [key, orL_cons]
    have hs : ∀ x : Nat, (Nat.lor x (Nat.shiftLeft 1 j)).testBit k = (x.testBit k || decide (k = j)) := fun x => testBit_or_shift x j k
    cases hp : p j o with
    | true =>
      simp only [hs, Bool.or_eq_true, decide_eq_true_eq, and_true]
      exact ⟨fun h => h.symm, fun h => h.symm⟩
    | false =>
      simp
def waitO (o : Oper) : Nat := orAll (fun e : Edge => match Region.binds .any e with
    | true => some e.on
    | false => none) o.after.toList
def waitM (ops : Array Oper) (i : Nat) : Nat := match ops[i]? with
  | some o => orAll (fun e : Edge => match Region.binds .any e with
    | true => some e.on
    | false => none) o.after.toList
  | none => 1 <<< ops.size
theorem waitM_eq {ops : Array Oper} {i : Nat} {o : Oper} (h : ops[i]? = some o) : waitM ops i = waitO o := by
  unfold waitM
  rw [h]
  rfl
def readyS (ops : Array Oper) (m : Nat) : List Nat := (List.range ops.size).filter fun i => !m.testBit i && (Nat.blt (waitM ops i) (1 <<< ops.size) && subM (waitM ops i) m)
noncomputable def readyL (z m : Nat) (l : List Oper) : Nat → List Nat := @List.rec Oper (fun _ => Nat → List Nat) (fun _ => []) (fun o _ ih j => match Nat.beq (Nat.mod (Nat.shiftRight m j) 2) 0 with
  | false => ih (Nat.succ j)
  | true => match Nat.beq (Nat.land (waitO o) m) (waitO o) with
    | false => ih (Nat.succ j)
    | true => match Nat.ble (Nat.succ (waitO o)) z with
      | true => j :: ih (Nat.succ j)
      | false => ih (Nat.succ j)) l
noncomputable def readyM (ops : Array Oper) (m : Nat) : List Nat := readyL (Nat.shiftLeft 1 ops.size) m ops.toList 0
theorem readyL_eq (z m : Nat) : ∀ (l : List Oper) (j : Nat), readyL z m l j = ixL (fun i o => !m.testBit i && (Nat.blt (waitO o) z && subM (waitO o) m)) l j
  | [], _ => rfl
  | o :: r, j => by
    have ih := readyL_eq z m r (Nat.succ j)
    change (match Nat.beq (Nat.mod (Nat.shiftRight m j) 2) 0 with
      | false => readyL z m r (Nat.succ j)
      | true => match Nat.beq (Nat.land (waitO o) m) (waitO o) with
        | false => readyL z m r (Nat.succ j)
        | true => match Nat.ble (Nat.succ (waitO o)) z with
          | true => j :: readyL z m r (Nat.succ j)
          | false => readyL z m r (Nat.succ j)) = _
    rw [bit_of, ih, ixL_cons]
    have e1 : subM (waitO o) m = Nat.beq (Nat.land (waitO o) m) (waitO o) := rfl
    have e2 : Nat.blt (waitO o) z = Nat.ble (Nat.succ (waitO o)) z := rfl
    simp only [e1, e2]
    cases m.testBit j <;> cases Nat.beq (Nat.land (waitO o) m) (waitO o) <;> cases Nat.ble (Nat.succ (waitO o)) z <;> rfl
theorem readyM_slow (ops : Array Oper) (m : Nat) : readyM ops m = readyS ops m := by
  unfold readyM readyS
  rw [readyL_eq, ixL_eq, Array.length_toList, ← List.range_eq_range']
  refine List.filter_congr fun i hi => ?_
  have hi : i < ops.size := List.mem_range.1 hi
  have ho : ops[i]? = some ops[i] := by simp [hi]
  rw [Nat.sub_zero, Array.getElem?_toList, ho, waitM_eq ho]
  rfl
theorem readyM_eq (ops : Array Oper) (m : Nat) : Region.ready .any ops (listedOf ops.size m) = readyM ops m := by
  rw [readyM_slow]
  unfold Region.ready readyS
  refine List.filter_congr fun i hi => ?_
  have hi : i < ops.size := List.mem_range.1 hi
  rw [listedOf_getD, if_pos hi]
  congr 1
  have ho : ops[i]? = some ops[i] := by simp [hi]
  rw [ho, Option.map_some, Option.getD_some]
  have hbit : ∀ k, (waitM ops i).testBit k = true ↔ ∃ e ∈ ops[i].after.toList, Region.binds .any e = true ∧ e.on = k := fun k => by
    unfold waitM
    rw [ho]
    simp only [orAll_testBit]
    refine exists_congr fun e => and_congr_right fun _ => ?_
    split
    · rename_i h; simp [h]
    · rename_i h; simp [h]
  rw [Bool.eq_iff_iff, Array.all_eq_true_iff_forall_mem, Bool.and_eq_true, subM_spec, Nat.blt_eq]
  constructor
  · intro h
    refine ⟨?_, fun k hk => ?_⟩
    · rw [Nat.one_shiftLeft]
      refine Nat.lt_pow_two_of_testBit _ fun k hk => ?_
      cases hb : (waitM ops i).testBit k with
      | false => rfl
      | true =>
        obtain ⟨e, he, hbd, hon⟩ := (hbit k).1 hb
        have h1 := h e (by simpa using he)
        rw [hbd, hon, listedOf_getD, if_neg (by omega)] at h1
        cases h1
    · obtain ⟨e, he, hbd, hon⟩ := (hbit k).1 hk
      have h1 := h e (by simpa using he)
      rw [hbd, hon, listedOf_getD] at h1
      split at h1
      · simpa using h1
      · cases h1
  · rintro ⟨hlt, h⟩ e he
    cases hbd : Region.binds .any e with
    | false => rfl
    | true =>
      have hk := (hbit e.on).2 ⟨e, by simpa using he, hbd, rfl⟩
      have hn : e.on < ops.size := by
        rcases Nat.lt_or_ge e.on ops.size with h' | h'
        · exact h'
        · have h2 := Nat.ge_two_pow_of_testBit hk
          rw [Nat.one_shiftLeft] at hlt
          have h3 := Nat.pow_le_pow_right (n := 2) (by omega) h'
          omega
      rw [listedOf_getD, if_pos hn, h _ hk]
      rfl
def lookM (ops : Array Oper) (i : Nat) : Nat := match ops[i]? with
  | some o => orAll some (o.looksAt ops)
  | none => 0
def dstM (ops : Array Oper) (i : Nat) : Nat := match ops[i]? with
  | some o => match o.dst with
    | some d => 1 <<< d
    | none => 0
  | none => 0
def apartM (ops : Array Oper) (i j : Nat) : Bool := Nat.beq (Nat.lor (Nat.land (dstM ops i) (Nat.lor (lookM ops j) (dstM ops j))) (Nat.land (dstM ops j) (lookM ops i))) 0
theorem testBit_one_shift (d k : Nat) : (1 <<< d).testBit k = decide (d = k) := by rw [Nat.one_shiftLeft, Nat.testBit_two_pow]
theorem apartM_spec {ops : Array Oper} {i j : Nat} {x y : Oper} (hx : ops[i]? = some x) (hy : ops[j]? = some y) (h : apartM ops i j = true) : x.apart ops y = true := by
  unfold apartM at h
  have h := Nat.eq_of_beq_eq_true h
  have hbit : ∀ k, ¬ ((dstM ops i).testBit k = true ∧ ((lookM ops j).testBit k = true ∨ (dstM ops j).testBit k = true)) ∧ ¬ ((dstM ops j).testBit k = true ∧ (lookM ops i).testBit k = true) := fun k => by
    have h1 := congrArg (fun z => z.testBit k) h
    have h2 : ((dstM ops i &&& (lookM ops j ||| dstM ops j)) ||| (dstM ops j &&& lookM ops i)).testBit k = false := by
      have := h1
      simp only [Nat.zero_testBit] at this
      exact this
    simp only [Nat.testBit_or, Nat.testBit_and, Bool.or_eq_false_iff, Bool.and_eq_false_iff] at h2
    obtain ⟨h3, h4⟩ := h2
    refine ⟨fun ⟨a, b⟩ => ?_, fun ⟨a, b⟩ => ?_⟩
    · rcases h3 with h3 | h3
      · rw [h3] at a; cases a
      · rcases b with b | b
        · rw [h3.1] at b; cases b
        · rw [h3.2] at b; cases b
    · rcases h4 with h4 | h4
      · rw [h4] at a; cases a
      · rw [h4] at b; cases b
  have look : ∀ {n : Nat} {o : Oper} {d : Nat}, ops[n]? = some o → d ∈ o.looksAt ops → (lookM ops n).testBit d = true := fun ho hd => by
    unfold lookM
    rw [ho]
    exact (orAll_testBit _ _).2 ⟨_, hd, rfl⟩
  have dst : ∀ {n : Nat} {o : Oper} {d : Nat}, ops[n]? = some o → o.dst = some d → (dstM ops n).testBit d = true := fun ho hd => by
    unfold dstM
    rw [ho]
    simp only [hd, testBit_one_shift, decide_true]
  unfold Oper.apart
  rw [Bool.and_eq_true]
  constructor
  · cases hd : x.dst with
    | none => rfl
    | some d =>
      simp only [Bool.and_eq_true, Bool.not_eq_true', bne_iff_ne, ne_eq]
      refine ⟨?_, fun he => (hbit d).1 ⟨dst hx hd, .inr (dst hy he)⟩⟩
      cases hc : (y.looksAt ops).contains d with
      | false => rfl
      | true => exact absurd ⟨dst hx hd, .inl (look hy (by simpa using hc))⟩ (hbit d).1
  · cases hd : y.dst with
    | none => rfl
    | some d =>
      simp only [Bool.not_eq_true']
      cases hc : (x.looksAt ops).contains d with
      | false => rfl
      | true => exact absurd ⟨dst hy hd, look hx (by simpa using hc)⟩ (hbit d).2
def confS (ops : Array Oper) (i : Nat) : Nat := orAll (fun j => match Nat.beq j i || ((waitM ops j).testBit i || apartM ops i j) with
    | true => none
    | false => some j) (List.range ops.size)
def lookO (ops : Array Oper) (o : Oper) : Nat := orAll some (o.looksAt ops)
def dstO (o : Oper) : Nat := match o.dst with
  | some d => 1 <<< d
  | none => 0
noncomputable def confL (ops : Array Oper) (di li i : Nat) (l : List Oper) : Nat → Nat := @List.rec Oper (fun _ => Nat → Nat) (fun _ => 0) (fun o _ ih j => match Nat.beq j i with
  | true => ih (Nat.succ j)
  | false => match Nat.beq (Nat.mod (Nat.shiftRight (waitO o) i) 2) 0 with
    | false => ih (Nat.succ j)
    | true => match Nat.beq (Nat.lor (Nat.land di (Nat.lor (lookO ops o) (dstO o))) (Nat.land (dstO o) li)) 0 with
      | true => ih (Nat.succ j)
      | false => Nat.lor (ih (Nat.succ j)) (Nat.shiftLeft 1 j)) l
noncomputable def confM (ops : Array Oper) (i : Nat) : Nat := confL ops (dstM ops i) (lookM ops i) i ops.toList 0
def confP (ops : Array Oper) (di li i : Nat) (j : Nat) (o : Oper) : Bool := !(Nat.beq j i || ((waitO o).testBit i || Nat.beq (Nat.lor (Nat.land di (Nat.lor (lookO ops o) (dstO o))) (Nat.land (dstO o) li)) 0))
theorem confL_eq (ops : Array Oper) (di li i : Nat) : ∀ (l : List Oper) (j : Nat), confL ops di li i l j = orL (confP ops di li i) l j
  | [], _ => rfl
  | o :: r, j => by
    have ih := confL_eq ops di li i r (Nat.succ j)
    change (match Nat.beq j i with
      | true => confL ops di li i r (Nat.succ j)
      | false => match Nat.beq (Nat.mod (Nat.shiftRight (waitO o) i) 2) 0 with
        | false => confL ops di li i r (Nat.succ j)
        | true => match Nat.beq (Nat.lor (Nat.land di (Nat.lor (lookO ops o) (dstO o))) (Nat.land (dstO o) li)) 0 with
          | true => confL ops di li i r (Nat.succ j)
          | false => Nat.lor (confL ops di li i r (Nat.succ j)) (Nat.shiftLeft 1 j)) = _
    rw [bit_of, ih, orL_cons]
    unfold confP
    cases Nat.beq j i <;> cases (waitO o).testBit i <;> cases Nat.beq (Nat.lor (Nat.land di (Nat.lor (lookO ops o) (dstO o))) (Nat.land (dstO o) li)) 0 <;> rfl
theorem confM_slow (ops : Array Oper) (i : Nat) : confM ops i = confS ops i := by
  refine Nat.eq_of_testBit_eq fun k => ?_
  rw [Bool.eq_iff_iff]
  unfold confM confS
  rw [confL_eq, orL_bit, orAll_testBit]
  constructor
  · rintro ⟨-, o, ho, hp⟩
    rw [Nat.sub_zero, Array.getElem?_toList] at ho
    refine ⟨k, List.mem_range.2 (Array.getElem?_eq_some_iff.1 ho).1, ?_⟩
    have e : apartM ops i k = Nat.beq (Nat.lor (Nat.land (dstM ops i) (Nat.lor (lookO ops o) (dstO o))) (Nat.land (dstO o) (lookM ops i))) 0 := by
      unfold apartM
      have e1 : lookM ops k = lookO ops o := by unfold lookM; rw [ho]; rfl
      have e2 : dstM ops k = dstO o := by unfold dstM; rw [ho]; rfl
      rw [e1, e2]
    unfold confP at hp
    rw [waitM_eq ho, e]
    simp only [Bool.not_eq_true'] at hp
    rw [hp]
  · rintro ⟨x, hx, hk⟩
    have hx : x < ops.size := List.mem_range.1 hx
    have hxk : x = k := by
      split at hk
      · cases hk
      · injection hk
    subst hxk
    have ho : ops[x]? = some ops[x] := by simp [hx]
    refine ⟨Nat.zero_le _, ops[x], by rw [Nat.sub_zero, Array.getElem?_toList, ho], ?_⟩
    have e : apartM ops i x = Nat.beq (Nat.lor (Nat.land (dstM ops i) (Nat.lor (lookO ops ops[x]) (dstO ops[x]))) (Nat.land (dstO ops[x]) (lookM ops i))) 0 := by
      unfold apartM
      have e1 : lookM ops x = lookO ops ops[x] := by unfold lookM; rw [ho]; rfl
      have e2 : dstM ops x = dstO ops[x] := by unfold dstM; rw [ho]; rfl
      rw [e1, e2]
    rw [waitM_eq ho, e] at hk
    unfold confP
    split at hk
    · cases hk
    · rename_i h
      rw [h]
      rfl
noncomputable def freeM (ops : Array Oper) (m i : Nat) : Bool := subM (confM ops i) m
theorem freeM_spec {ops : Array Oper} {m i : Nat} {o : Oper} (ho : ops[i]? = some o) (h : freeM ops m i = true) : Region.free .any ops (listedOf ops.size m) i = true := by
  unfold Region.free
  rw [ho]
  simp only [List.all_eq_true, List.mem_range]
  intro j hj
  by_cases hji : j = i
  · simp [hji]
  · rw [listedOf_getD, if_pos hj]
    unfold freeM at h
    rw [subM_spec] at h
    cases hb : m.testBit j with
    | true => simp
    | false =>
      have hoj : ops[j]? = some ops[j] := by simp [hj]
      have h2 : ¬ (confM ops i).testBit j = true := fun hc => by rw [h j hc] at hb; cases hb
      rw [confM_slow] at h2
      unfold confS at h2
      simp only [orAll_testBit] at h2
      have h3 := fun hx => h2 ⟨j, List.mem_range.2 hj, hx⟩
      have hbq : Nat.beq j i = false := by
        cases hb : Nat.beq j i with
        | false => rfl
        | true => exact absurd (Nat.eq_of_beq_eq_true hb) hji
      simp only [hbq, Bool.false_or] at h3
      cases hx : (waitM ops j).testBit i || apartM ops i j with
      | false => rw [hx] at h3; exact absurd rfl h3
      | true =>
        rw [Bool.or_eq_true] at hx
        rw [hoj]
        rcases hx with hx | hx
        · unfold waitM at hx
          rw [hoj] at hx
          simp only [orAll_testBit] at hx
          obtain ⟨e, he, hk⟩ := hx
          have hany : (ops[j].after.any fun e => Region.binds .any e && e.on == i) = true := by
            rw [Array.any_eq_true']
            refine ⟨e, by simpa using he, ?_⟩
            split at hk
            · rename_i hbd
              injection hk with hk
              simp [hbd, hk]
            · cases hk
          simp only [hany, Bool.true_or, Bool.or_true]
        · simp only [apartM_spec ho hoj hx, Bool.or_true]
def plainM (ops : Array Oper) : Nat := orAll (fun j => match ops[j]? with
  | some o => match plainOp o with
    | true => some j
    | false => none
  | none => none) (List.range ops.size)
def allPlain (ops : Array Oper) (m : Nat) : Bool := subM (plainM ops) m
theorem allPlain_spec {ops : Array Oper} {m : Nat} (h : allPlain ops m = true) : AllPlain ops (listedOf ops.size m) := fun i o ho hu => by
  have hi : i < ops.size := (Array.getElem?_eq_some_iff.1 ho).1
  rw [listedOf_getD, if_pos hi] at hu
  cases hp : plainOp o with
  | false => rfl
  | true =>
    have h1 : (plainM ops).testBit i = true := (orAll_testBit i _).2 ⟨i, List.mem_range.2 hi, by rw [ho]; simp only [hp]⟩
    rw [subM_spec.1 h i h1] at hu
    cases hu
def isReady (ops : Array Oper) (m i : Nat) : Bool := Nat.blt i ops.size && (!tb m i && (Nat.blt (waitM ops i) (1 <<< ops.size) && subM (waitM ops i) m))
theorem isReady_spec {ops : Array Oper} {m i : Nat} (h : isReady ops m i = true) : i ∈ readyM ops m := by
  unfold isReady at h
  rw [Bool.and_eq_true, Nat.blt_eq, tb_eq] at h
  rw [readyM_slow]
  exact List.mem_filter.2 ⟨List.mem_range.2 h.1, h.2⟩
def dropOne (i : Nat) : List Nat → List Nat
  | [] => []
  | j :: r => match Nat.beq i j with
    | true => r
    | false => j :: dropOne i r
inductive Shape where
  | act (l : List (Addr × Value)) (v : Value)
  | new (c : Obj) (k : Nat → Sem Next)
def shapeOf (P : Program) (st : Bool) (s : Sem Next) : Option Shape :=
  match newOf P s with
  | some (c, k) => some (.new c k)
  | none => match storesOf P s with
    | none => none
    | some (l, nx) => match nextVal nx, st || l.isEmpty with
      | some v, true => some (.act l v)
      | _, _ => none
theorem shapeOf_act {P : Program} {st : Bool} {s : Sem Next} {l : List (Addr × Value)} {v : Value} (h : shapeOf P st s = some (.act l v)) : (st = false → l = []) ∧ ∃ nx, storesOf P s = some (l, nx) ∧ nextVal nx = some v := by
  unfold shapeOf at h
  split at h
  · cases h
  · split at h
    · cases h
    · rename_i l' nx hs
      split at h
      · rename_i v' hv hst
        injection h with h
        injection h with h1 h2
        subst h1 h2
        refine ⟨fun h0 => ?_, nx, hs, hv⟩
        rw [h0, Bool.false_or] at hst
        exact List.isEmpty_iff.1 hst
      · cases h
theorem shapeOf_new {P : Program} {st : Bool} {s : Sem Next} {c : Obj} {k : Nat → Sem Next} (h : shapeOf P st s = some (.new c k)) : newOf P s = some (c, k) := by
  unfold shapeOf at h
  split at h
  · rename_i c' k' hn
    injection h with h
    injection h with h1 h2
    subst h1 h2
    exact hn
  · split at h
    · cases h
    · split at h
      · injection h with h; cases h
      · cases h
noncomputable def firstSimple (P : Program) (ops : Array Oper) (m : Nat) (a : F) : List Nat → Option (Nat × Oper × Shape)
  | [] => none
  | i :: rest => match ops[i]? with
    | none => none
    | some o => match isReady ops m i && (plainOp o && freeM ops m i) with
      | false => firstSimple P ops m a rest
      | true => match Region.wanted o (a.yielded ops) with
        | false => some (i, o, .act [] undef)
        | true => match shapeOf P (stoOp o) (execOp a.eval o) with
          | some s => some (i, o, s)
          | none => firstSimple P ops m a rest
def ordered (ops : Array Oper) (listed : Array Bool) : Bool := (List.range ops.size).all fun i => listed.getD i true || match ops[i]? with
  | some o => plainOp o || (List.range ops.size).all fun p => listed.getD p true || match ops[p]? with
    | some q => !plainOp q || o.after.any fun e => Region.binds .any e && Nat.beq e.on p
    | none => true
  | none => true
theorem ordered_spec {ops : Array Oper} {listed : Array Bool} (h : ordered ops listed = true) : Ordered ops listed := fun i p o q ho hu hp hq hv hpl => by
  simp only [ordered, List.all_eq_true, List.mem_range] at h
  have h1 := h i (Array.getElem?_eq_some_iff.1 ho).1
  simp only [ho, hu, hp, Bool.false_or, List.all_eq_true, List.mem_range] at h1
  have h2 := h1 p (Array.getElem?_eq_some_iff.1 hq).1
  simp only [hq, hv, hpl, Bool.false_or, Bool.not_true] at h2
  obtain ⟨e, he, hb⟩ := Array.any_eq_true'.1 h2
  simp only [Bool.and_eq_true] at hb
  exact ⟨e, he, hb.1, Nat.eq_of_beq_eq_true hb.2⟩
def chained (ops : Array Oper) (listed : Array Bool) : Bool := (List.range ops.size).all fun i => listed.getD i true || match ops[i]? with
  | some o => !stoOp o || (List.range ops.size).all fun p => Nat.beq i p || (listed.getD p true || match ops[p]? with
    | some q => !stoOp q || ((o.after.any fun e => Region.binds .any e && Nat.beq e.on p) || (q.after.any fun e => Region.binds .any e && Nat.beq e.on i))
    | none => true)
  | none => true
theorem any_waits {o : Oper} {p : Nat} (h : (o.after.any fun e => Region.binds .any e && Nat.beq e.on p) = true) : ∃ e ∈ o.after, Region.binds .any e = true ∧ e.on = p := by
  obtain ⟨e, he, hb⟩ := Array.any_eq_true'.1 h
  simp only [Bool.and_eq_true] at hb
  exact ⟨e, he, hb.1, Nat.eq_of_beq_eq_true hb.2⟩
theorem chained_spec {ops : Array Oper} {listed : Array Bool} (h : chained ops listed = true) : Chain ops listed := fun i p o q hne ho hu hp hq hv hpl => by
  simp only [chained, List.all_eq_true, List.mem_range] at h
  have h1 := h i (Array.getElem?_eq_some_iff.1 ho).1
  simp only [ho, hu, hp, Bool.false_or, Bool.not_true, List.all_eq_true, List.mem_range] at h1
  have h2 := h1 p (Array.getElem?_eq_some_iff.1 hq).1
  have hb : Nat.beq i p = false := by
    cases hb : Nat.beq i p with
    | false => rfl
    | true => exact absurd (Nat.eq_of_beq_eq_true hb) hne
  simp only [hq, hv, hpl, hb, Bool.false_or, Bool.not_true, Bool.or_eq_true] at h2
  exact h2.imp any_waits any_waits
abbrev RestE (α : Type) := Nat → Nat → F → List Blk → T α
noncomputable def layN (m : Nat) : List (Addr × Value) → List Blk → (List Blk → T α) → T α
  | [], L, k => k L
  | p :: r, L, k => pickT L p.1.block fun b j => match b with
    | ⟨n, .obj (.cells c t (lo, hi)), _⟩ => match Nat.blt j m, p.1.spot, one p.2 with
      | true, none, true => match c.toList[p.1.off]?, (decide (lo ≤ p.1.off) && decide (p.1.off < hi)) with
        | some _, false => forceT (L.set j ⟨n, .obj (.cells (c.setIfInBounds p.1.off p.2) t (lo, hi)), true⟩) fun L1 => layN m r L1 k
        | _, _ => .fail
      | _, _, _ => .fail
    | _ => .fail
noncomputable def evRest (P : Program) (ops : Array Oper) (fin : RestE α) : Nat → List Nat → Nat → Nat → F → List Blk → T α
  | 0, _, _, m, a, L => match allPlain ops m with
    | true => fin 0 m a L
    | false => .fail
  | n + 1, td, c, m, a, L => match allPlain ops m with
    | true => fin (n + 1) m a L
    | false => match firstSimple P ops m a td with
      | some (i, o, .act l v) => layN c l L fun L1 => evRest P ops fin n (dropOne i td) c (m ||| 1 <<< i) (a.put o.dst v) L1
      | some (i, o, .new x k) => .ask fun b => match pureOf P (k b.n) with
        | some v => evRest P ops fin n (dropOne i td) (c + 1) (m ||| 1 <<< i) (a.put o.dst v) (⟨b.n, .obj x, true⟩ :: L)
        | none => .fail
      | none => .fail
noncomputable def backAll : List Blk → List Blk → (List Blk → T α) → T α
  | [], _, k => k []
  | p :: ps, L, k => pickT L p.nm fun b _ => backAll ps L fun l => k (b :: l)
noncomputable def backTT (L0 L1 : List Blk) (k : T α) : T α := .or (.tail (L0.map (·.nm))) fun d => .or (.tail (L1.map (·.nm))) fun d1 => .same (.blks (L0.drop d)) (.blks (L1.drop d1)) (backAll (L0.take d) L1 fun l => .same (.blks (L0.take d)) (.blks l) k)
def dropM : Nat → List Blk → List Blk
  | _, [] => []
  | m, p :: ps => match Nat.beq (Nat.mod m 2) 0 with
    | true => p :: dropM (Nat.div m 2) ps
    | false => dropM (Nat.div m 2) ps
theorem dropM_sub {p : Blk} : ∀ {L : List Blk} {m : Nat}, p ∈ dropM m L → p ∈ L
  | [], _, h => h
  | q :: L, m, h => by
    unfold dropM at h
    split at h
    · rcases List.mem_cons.1 h with rfl | h
      · exact List.mem_cons_self
      · exact List.mem_cons_of_mem _ (dropM_sub h)
    · exact List.mem_cons_of_mem _ (dropM_sub h)
noncomputable def heldT (ops : Array Oper) (m : Nat) (g : Option G) (a : F) (L0 : List Blk) (i : Nat) (k : Option G → F → T α) : T α :=
  match isReady ops m i with
  | false => .fail
  | true => match freeM ops m i with
    | false => .fail
    | true => match ops[i]? with
      | none => .fail
      | some o => match guardOf a ops o with
        | .test _ b _ => match groupOk ops o with
          | true => match g with
            | none => litT b (guardT a ops o (fun a => heldV P a L0 o fun v => k none (a.put o.dst v)) (fun a => k none (a.put o.dst undef))) (heldG P ops L0 g a o k)
            | some _ => heldG P ops L0 g a o k
          | false => guardT a ops o (fun a => heldV P a L0 o fun v => k none (a.put o.dst v)) (fun a => k none (a.put o.dst undef))
        | _ => heldG P ops L0 g a o k
def heldKind (o : Oper) : Bool := match o.op with
  | .move _ | .assign _ | .convert .. | .unOp .. | .fieldAddr .. | .load .. | .pick .. | .extract .. | .binOp .. | .indexAddr .. | .index .. | .slice .. | .field .. | .nilCheck .. | .build .. | .lookup .. | .makeFunc .. => true
  | .call c => match c.callee with
    | .builtin .len => true
    | .builtin .cap => true
    | .builtin .max => true
    | .builtin .min => true
    | _ => false
  | _ => false
noncomputable def rootOf (ops : List Oper) : Nat → Operand → Option Nat
  | 0, _ => none
  | n + 1, .tmp s => match @List.rec Oper (fun _ => Option Op) none (fun o _ ih => match o.dst with
      | some d => match Nat.beq d s with
        | true => some o.op
        | false => ih
      | none => ih) ops with
    | none => some s
    | some (.fieldAddr _ y _) => rootOf ops n y
    | some (.indexAddr _ y _) => rootOf ops n y
    | some (.move y) => rootOf ops n y
    | some (.nilCheck y) => rootOf ops n y
    | some _ => none
  | _, _ => none
def storeAddr (o : Oper) : Option Operand := match o.op with
  | .store _ x _ => some x
  | .mapUpdate _ x _ _ => some x
  | _ => none
def readAddr (o : Oper) : Option Operand := match o.op with
  | .load _ x => some x
  | .convert _ _ x => some x
  | _ => none
noncomputable def storeRoots (ops : List Oper) : List Oper → List Nat
  | [] => []
  | o :: r => match storeAddr o with
    | none => storeRoots ops r
    | some x => match rootOf ops 10 x with
      | none => storeRoots ops r
      | some s => s :: storeRoots ops r
def orWaits (ops : Array Oper) (acc : Nat) : List Nat → Nat
  | [] => acc
  | j :: r => match tb acc j with
    | true => Nat.lor (waitM ops j) (orWaits ops acc r)
    | false => orWaits ops acc r
def closM (ops : Array Oper) : Nat → Nat → Nat
  | 0, acc => acc
  | n + 1, acc => match Nat.beq (orWaits ops acc (List.range ops.size)) acc with
    | true => acc
    | false => closM ops n (orWaits ops acc (List.range ops.size))
def closW (ops : Array Oper) (f : Nat) : Nat := closM ops ops.size (waitM ops f)
def finM (ops : Array Oper) : List Nat → Nat
  | [] => Nat.sub (Nat.shiftLeft 1 ops.size) 1
  | f :: r => Nat.land (closW ops f) (finM ops r)
noncomputable def forceM {β : Type} (m : Nat) (k : Nat → β) : β := @Nat.rec (fun _ => β) (k 0) (fun n _ => k (Nat.succ n)) m
theorem forceM_eq {β : Type} (m : Nat) (k : Nat → β) : forceM m k = k m := by cases m <;> rfl
def closedM (ops : Array Oper) (m : Nat) : Bool := (List.range ops.size).all fun j => !tb m j || (Nat.blt (waitM ops j) (1 <<< ops.size) && subM (waitM ops j) m)
def noRead (o : Oper) : Bool := match o.op with
  | .move _ | .assign _ | .extract .. | .pick .. | .binOp .. | .unOp .. | .fieldAddr .. | .build .. | .nilCheck _ | .indexAddr .. | .makeFunc .. => true
  | _ => false
def isAlloc (o : Oper) : Bool := match o.guard with
  | none => match o.op with
    | .alloc _ => true
    | _ => false
  | some _ => false
def isCall (o : Oper) : Bool := match o.op with
  | .call c => match c.callee with
    | .builtin _ => false
    | _ => true
  | _ => false
noncomputable def findA (ops : Array Oper) (p : Oper → Bool) : List Nat → Bool
  | [] => false
  | i :: r => match ops[i]? with
    | some o => match p o with
      | true => true
      | false => findA ops p r
    | none => findA ops p r
noncomputable def heldJ (ops : Array Oper) (fw m i : Nat) (l : List Oper) : Nat → Option Nat := @List.rec Oper (fun _ => Nat → Option Nat) (fun _ => none) (fun o _ ih j => match Nat.beq (Nat.mod (Nat.shiftRight m j) 2) 0 with
  | false => ih (Nat.succ j)
  | true => match Nat.beq (Nat.land (waitO o) m) (waitO o) with
    | false => ih (Nat.succ j)
    | true => match heldKind o with
      | false => ih (Nat.succ j)
      | true => match tb fw j || noRead o with
        | false => ih (Nat.succ j)
        | true => match Nat.beq j i with
          | true => ih (Nat.succ j)
          | false => match freeM ops m j with
            | true => some j
            | false => ih (Nat.succ j)) l
noncomputable def callLeft (m : Nat) (l : List Oper) : Nat → Bool := @List.rec Oper (fun _ => Nat → Bool) (fun _ => false) (fun o _ ih j => match Nat.beq (Nat.mod (Nat.shiftRight m j) 2) 0 with
  | false => ih (Nat.succ j)
  | true => match isCall o with
    | true => true
    | false => ih (Nat.succ j)) l
noncomputable def sugJ (ops : Array Oper) (fw : Nat) (m : Nat) : Nat := match heldJ ops fw m ops.size ops.toList 0 with
  | some j => j
  | none => match readyM ops m with
    | [] => ops.size
    | i :: r => match r with
      | [] => ops.size + 2
      | _ => match findA ops isAlloc (i :: r), callLeft m ops.toList 0 with
        | true, true => ops.size + 3
        | _, _ => ops.size + 1
noncomputable def lastM (ops : Array Oper) (fs : List Nat) (m i : Nat) : Bool := fs.contains i && match readyM ops (m ||| 1 <<< i) with
  | [] => true
  | _ => false
def restFin (ops : Array Oper) (fs : List Nat) (m i : Nat) : Bool := fs.contains i && (List.range ops.size).all fun k => tb m k || fs.contains k
noncomputable def evFin (fn : FuncId) (call : CallE α) (ops : Array Oper) (fs : List Nat) (c : F → List Blk → T α) : Nat → Nat → F → List Blk → T α
  | 0, m, a, L => match readyM ops m with
    | [] => c a L
    | _ => .fail
  | n + 1, m, a, L => match readyM ops m with
    | [] => c a L
    | i :: r => outsT (i :: r) fun i => match fs.contains i with
      | true => evAt P S fn call ops i a L fun a1 L1 => evFin fn call ops fs c n (m ||| 1 <<< i) a1 L1
      | false => .fail
noncomputable def allocOf (P : Program) (ops : Array Oper) (i : Nat) : Option (Nat × Nat × Array Value) := match ops[i]? with
  | some o => match o.guard, o.dst, o.op with
    | none, some d, .alloc t => match P.info? t with
      | some inf => match inf.zero with
        | some z => some (d, t, z.cells)
        | none => none
      | none => none
    | _, _, _ => none
  | none => none
noncomputable def findOp (ops : Array Oper) (p : Oper → Bool) : List Nat → Option Nat
  | [] => none
  | i :: r => match ops[i]? with
    | some o => match p o with
      | true => some i
      | false => findOp ops p r
    | none => findOp ops p r
noncomputable def oldT (Ls : List Blk) : List Blk → T α → T α
  | [], k => k
  | p :: r, k => match p.own with
    | true => oldT Ls r k
    | false => pickT Ls p.nm fun _ _ => oldT Ls r k
noncomputable def oldTT (Ls L : List Blk) (k : T α) : T α := .or .force (two (oldT Ls L k) (.or (.tail (L.map (·.nm))) fun d => .or (.tail (Ls.map (·.nm))) fun d1 => .same (.blks (L.drop d)) (.blks (Ls.drop d1)) (oldT Ls (L.take d) k)))
def eqN : List Nat → List Nat → Bool
  | [], [] => true
  | a :: l, b :: r => match Nat.beq a b with
    | true => eqN l r
    | false => false
  | _, _ => false
noncomputable def sugFl (ops : Array Oper) (fw i : Nat) (m : Nat) : Nat := match heldJ ops fw m i ops.toList 0 with
  | some j => j
  | none => match dropOne i (readyM ops m) with
    | [] => ops.size
    | _ => ops.size + 1
noncomputable def evFl (fn : FuncId) (call : CallE α) (ops : Array Oper) (fw : Nat) (L0 : List Blk) (bk : List Blk → List Blk) (i d : Nat) (x : Obj) (Ls : List Blk) (fin : RestE α) : Nat → Nat → F → List Blk → T α
  | 0, _, _, _ => .fail
  | n + 1, m, a, L => .or (.sug (sugFl ops fw i m) (ops.size + 2)) fun j => match Nat.blt j ops.size with
    | true => match Nat.beq j i || Nat.beq n 0 with
      | true => .fail
      | false => .ask fun v => match tb fw j with
        | false => heldT P ops m none (a.put (some d) v.v) [] j fun _ a' => .same (.val (a'.get d)) (.val v.v) (evFl fn call ops fw L0 bk i d x Ls fin n (m ||| 1 <<< j) a' L)
        | true => heldT P ops m none (a.put (some d) v.v) L0 j fun _ a' => .same (.val (a'.get d)) (.val v.v) (evFl fn call ops fw L0 bk i d x Ls fin n (m ||| 1 <<< j) a' L)
    | false => match Nat.beq j ops.size with
      | true => match readyM ops m with
        | [k] => match Nat.beq k i with
          | true => oldTT Ls L (.ask fun b => fin n (m ||| 1 <<< i) (a.put (some d) (.pointer (some ⟨b.n, 0, none⟩))) (⟨b.n, .obj x, true⟩ :: L))
          | false => .fail
        | _ => .fail
      | false => match Nat.beq n 0 || !(eqN (readyM ops (m ||| 1 <<< i)) (dropOne i (readyM ops m))) with
        | true => .fail
        | false => outsT (dropOne i (readyM ops m)) fun k => .ask fun v => evAt P S fn call ops k (a.put (some d) v.v) L fun a1 L1 => .same (.val (a1.get d)) (.val v.v) (forceL (bk L1) fun LB => .or (.names (L0.map (·.nm)) (LB.map (·.nm))) (two (.same (.blks L0) (.blks LB) (evFl fn call ops fw L0 bk i d x Ls fin n (m ||| 1 <<< k) a1 L1))
            (.or .force (two (backAll L0 L1 fun l => .same (.blks L0) (.blks l) (evFl fn call ops fw L0 bk i d x Ls fin n (m ||| 1 <<< k) a1 L1)) (backTT L0 L1 (evFl fn call ops fw L0 bk i d x Ls fin n (m ||| 1 <<< k) a1 L1))))))
noncomputable def evFloat (fn : FuncId) (call : CallE α) (ops : Array Oper) (fw : Nat) (L0 : List Blk) (bk : List Blk → List Blk) (fin : RestE α) : RestE α := fun n m a L => match findOp ops isAlloc (readyM ops m) with
  | none => .fail
  | some i => match isReady ops m i with
    | false => .fail
    | true => match allocOf P ops i with
      | none => .fail
      | some (d, t, z) => evFl P S fn call ops fw L0 bk i d (.cells z t (0, 0)) L fin n m a L
noncomputable def evAny (fn : FuncId) (call : CallE α) (ops : Array Oper) (fs : List Nat) (fw : Nat) (L0 : List Blk) (bk : List Blk → List Blk) (can : Nat → Bool) (rest flt : RestE α) (c : F → List Blk → T α) : Nat → Nat → Option G → F → List Blk → T α
  | 0, m, _, a, L => match readyM ops m with
    | [] => c a L
    | _ => .fail
  | n + 1, m, g, a, L => .or (.sug (sugJ ops fw m) (ops.size + 3)) fun j => match Nat.blt j ops.size with
    | true => match tb fw j with
      | false => heldT P ops m g a [] j fun g' a' => evAny fn call ops fs fw L0 bk can rest flt c n (m ||| 1 <<< j) g' a' L
      | true => heldT P ops m g a L0 j fun g' a' => evAny fn call ops fs fw L0 bk can rest flt c n (m ||| 1 <<< j) g' a' L
    | false => match Nat.beq j ops.size with
      | true => match readyM ops m with
        | [] => c a L
        | _ => .fail
      | false => match Nat.beq j (ops.size + 1) with
        | true => match can m with
          | true => rest (n + 1) m a L
          | false => .fail
        | false => match Nat.beq j (ops.size + 3) with
         | true => flt (n + 1) m a L
         | false => outsT (readyM ops m) fun i => evAt P S fn call ops i a L fun a1 L1 =>
          match lastM ops fs m i with
          | true => c a1 L1
          | false => match restFin ops fs m i with
            | true => evFin P S fn call ops fs c n (m ||| 1 <<< i) a1 L1
            | false => forceL (bk L1) fun LB => .or (.names (L0.map (·.nm)) (LB.map (·.nm))) (two (.same (.blks L0) (.blks LB) (evAny fn call ops fs fw L0 bk can rest flt c n (m ||| 1 <<< i) none a1 L1))
            (.or .force (two (backAll L0 L1 fun l => .same (.blks L0) (.blks l) (evAny fn call ops fs fw L0 bk can rest flt c n (m ||| 1 <<< i) none a1 L1)) (backTT L0 L1 (evAny fn call ops fs fw L0 bk can rest flt c n (m ||| 1 <<< i) none a1 L1)))))
noncomputable def evMany (fn : FuncId) (call : CallE α) (ops : Array Oper) (fs : List Nat) (fw : Nat) (L0 : List Blk) (bk : List Blk → List Blk) (c : F → List Blk → T α) : Nat → RestE α
  | 0 => fun n m a L => evAny P S fn call ops fs fw L0 bk (fun _ => false) (fun _ _ _ _ => .fail) (fun _ _ _ _ => .fail) c n m none a L
  | r + 1 => fun n m a L => evAny P S fn call ops fs fw L0 bk (fun m => ordered ops (listedOf ops.size m) && chained ops (listedOf ops.size m)) (fun n m a L => evRest P ops (fun n m a L => match closedM ops m with
    | true => evMany fn call ops fs fw L0 bk c r n m a L
    | false => .fail) n (List.range ops.size) 0 m a L) (evFloat P S fn call ops fw L0 bk (evMany fn call ops fs fw L0 bk c r)) c n m none a L
def compactW : Nat → List (Nat × Value) → List (Nat × Value)
  | _, [] => []
  | m, p :: r => match Nat.beq (Nat.mod (Nat.shiftRight m p.1) 2) 0 with
    | true => p :: compactW (Nat.lor m (Nat.shiftLeft 1 p.1)) r
    | false => compactW m r
def shorten (f : F) : F := ⟨f.n, compactW 0 f.w⟩
theorem getW_compact : ∀ (w : List (Nat × Value)) (m t : Nat), m.testBit t = false → getW (compactW m w) t = getW w t
  | [], _, _, _ => rfl
  | p :: r, m, t, h => by
    unfold compactW
    rw [bit_of]
    cases hb : m.testBit p.1 with
    | false =>
      simp only [Bool.not_false]
      rw [getW_cons, getW_cons]
      split
      · rfl
      · rename_i hne
        refine getW_compact r _ t ?_
        show (m ||| 1 <<< p.1).testBit t = false
        rw [testBit_or_shift, h]
        simp [Ne.symm hne]
    | true =>
      simp only [Bool.not_true]
      rw [getW_compact r m t h, getW_cons, if_neg]
      intro he
      rw [he, h] at hb
      cases hb
theorem RelF.shorten {f : F} {a : Act} (h : RelF f a) : RelF (shorten f) a :=
  ⟨h.defers, h.size, fun t => by rw [h.get t]; exact (getW_compact f.w 0 t (by simp)).symm⟩
noncomputable def minusT (a : F) (ops : List Oper) : List Oper → List Blk → (List Nat → List Blk → T α) → T α
  | [], L, k => k [] L
  | o :: r, L, k => match storeAddr o with
    | none => minusT a ops r L k
    | some x => match rootOf ops 10 x with
      | none => minusT a ops r L k
      | some s => match a.get s with
        | .pointer (some ⟨b, _, _⟩) => .or (.pick b (L.map (·.nm) ++ [b])) fun j => forceL (L.eraseIdx j) fun L' => minusT a ops r L' fun js L2 => k (j :: js) L2
        | .slice (some ⟨b, _, _⟩) _ _ => .or (.pick b (L.map (·.nm) ++ [b])) fun j => forceL (L.eraseIdx j) fun L' => minusT a ops r L' fun js L2 => k (j :: js) L2
        | .map (some b) => .or (.pick b (L.map (·.nm) ++ [b])) fun j => forceL (L.eraseIdx j) fun L' => minusT a ops r L' fun js L2 => k (j :: js) L2
        | _ => minusT a ops r L k
theorem minusT_spec {a : F} {ops : List Oper} {K : α → Prop} : ∀ {l : List Oper} {L : List Blk} {k : List Nat → List Blk → T α}, (minusT a ops l L k).all K → ∃ js L', (∀ p ∈ L', p ∈ L) ∧ (k js L').all K
  | [], L, k, h => ⟨[], L, fun _ h => h, h⟩
  | o :: r, L, k, h => by
    have er : ∀ {b : Nat}, (T.or (Hint.pick b (L.map (·.nm) ++ [b])) fun j => forceL (L.eraseIdx j) fun L' => minusT a ops r L' fun js L2 => k (j :: js) L2).all K → ∃ js L', (∀ p ∈ L', p ∈ L) ∧ (k js L').all K := fun h => by
      obtain ⟨j, h⟩ := h
      dsimp only at h
      rw [forceL_eq] at h
      obtain ⟨js, L', h1, h2⟩ := minusT_spec h
      exact ⟨_, L', fun p hp => List.mem_of_mem_eraseIdx (h1 p hp), h2⟩
    unfold minusT at h
    split at h
    · exact minusT_spec h
    · split at h
      · exact minusT_spec h
      · split at h
        · exact er h
        · exact er h
        · exact er h
        · exact minusT_spec h
def eraseAll : List Nat → List Blk → List Blk
  | [], L => L
  | j :: js, L => eraseAll js (L.eraseIdx j)
theorem eraseAll_sub {p : Blk} : ∀ {js : List Nat} {L : List Blk}, p ∈ eraseAll js L → p ∈ L
  | [], _, h => h
  | _ :: _, _, h => List.mem_of_mem_eraseIdx (eraseAll_sub h)
def backOf (n0 : Nat) (js : List Nat) (mask : Nat) (L : List Blk) : List Blk := dropM mask (eraseAll js (L.drop (L.length - n0)))
theorem backOf_sub {n0 : Nat} {js : List Nat} {mask : Nat} (L : List Blk) (p : Blk) (h : p ∈ backOf n0 js mask L) : p ∈ L := List.mem_of_mem_drop (eraseAll_sub (dropM_sub h))
noncomputable def noteSlots (ops : List Oper) (st : List Nat) : List Oper → Option (List Nat)
  | [] => some []
  | o :: r => match readAddr o with
    | none => noteSlots ops st r
    | some (.const _) => noteSlots ops st r
    | some x => match rootOf ops 10 x with
      | none => noteSlots ops st r
      | some s => match noteSlots ops st r with
        | none => none
        | some l => match st.contains s || l.contains s with
          | true => some l
          | false => some (s :: l)
noncomputable def tailOf (L : List Blk) : Option Nat → List Blk
  | none => []
  | some d => L.drop d
noncomputable def noteT (a : F) (L : List Blk) : Option Nat → List Nat → (List Blk → T α) → T α
  | tl, [], k => k (tailOf L tl)
  | tl, s :: r, k => .or .force (two (match a.get s with
    | .pointer (some ⟨b, _, _⟩) => .or (.pick b (L.map (·.nm) ++ [b])) fun j => match nth L j with
      | some p => noteT a L tl r fun R => k (p :: R)
      | none => noteT a L tl r k
    | .slice (some ⟨b, _, _⟩) _ _ => .or (.pick b (L.map (·.nm) ++ [b])) fun j => match nth L j with
      | some p => noteT a L tl r fun R => k (p :: R)
      | none => noteT a L tl r k
    | _ => noteT a L tl r k) (match tl with
      | some d => noteT a L (some d) r k
      | none => .or (.tail (L.map (·.nm))) fun d => noteT a L (some d) r k))
theorem noteT_spec {a : F} {L : List Blk} {K : α → Prop} : ∀ {l : List Nat} {tl : Option Nat} {k : List Blk → T α}, (noteT a L tl l k).all K → ∃ R, (∀ p ∈ R, p ∈ L) ∧ (k R).all K
  | [], tl, k, h => ⟨tailOf L tl, fun p hp => by
      cases tl with
      | none => cases hp
      | some d => exact List.mem_of_mem_drop hp, h⟩
  | s :: r, tl, k, h => by
    have er : ∀ {b : Nat}, (T.or (Hint.pick b (L.map (·.nm) ++ [b])) fun j => match nth L j with
        | some p => noteT a L tl r fun R => k (p :: R)
        | none => noteT a L tl r k).all K → ∃ R, (∀ p ∈ R, p ∈ L) ∧ (k R).all K := fun h => by
      obtain ⟨j, h⟩ := h
      dsimp only at h
      split at h
      · rename_i p hp
        obtain ⟨R, h1, h2⟩ := noteT_spec h
        rw [nth_eq] at hp
        refine ⟨p :: R, fun q hq => ?_, h2⟩
        rcases List.mem_cons.1 hq with rfl | hq
        · exact List.mem_of_getElem? hp
        · exact h1 q hq
      · exact noteT_spec h
    unfold noteT at h
    rcases two_spec h with h | h
    · split at h
      · exact er h
      · exact er h
      · exact noteT_spec h
    · split at h
      · exact noteT_spec h
      · obtain ⟨d, h⟩ := h
        exact noteT_spec h
noncomputable def mapArg (a : F) (o : Oper) : Option Nat := match o.op with
  | .call c => match c.args.toList with
    | x :: _ => match a.eval x with
      | .map (some r) => some r
      | _ => none
    | [] => none
  | .lookup _ x _ _ => match a.eval x with
    | .map (some r) => some r
    | _ => none
  | _ => none
noncomputable def dryR (P : Program) (L : List Blk) (ops : Array Oper) : List Oper → F → List Nat
  | [], _ => []
  | o :: r, a => match heldKind o with
    | false => dryR P L ops r (a.put o.dst undef)
    | true => match guardOf a ops o with
      | .no => dryR P L ops r (a.put o.dst undef)
      | g => match (match g with
          | .test _ b want => match b with
            | true => want
            | false => !want
          | _ => true) with
        | false => dryR P L ops r (a.put o.dst undef)
        | true => match o.op with
          | .nilCheck x => dryR P L ops r (a.put o.dst (a.eval x))
          | .convert _ _ x => match a.eval x with
            | .slice (some ⟨b, _, _⟩) _ _ => b :: dryR P L ops r (a.put o.dst undef)
            | _ => match quick P a.eval o with
              | some v => dryR P L ops r (a.put o.dst v)
              | none => dryR P L ops r (a.put o.dst undef)
          | _ => match doing P a.eval o with
            | .val v => dryR P L ops r (a.put o.dst v)
            | .maybe _ _ v => dryR P L ops r (a.put o.dst v)
            | .load t b off => match L.find? (fun p => Nat.beq p.nm b), sizeP P t, aggOf P t with
              | some p, some n, some g => match cellsLit p.ct off n with
                | some cs => b :: dryR P L ops r (a.put o.dst (match g with
                  | true => .agg cs.toArray
                  | false => match cs with
                    | [v] => v
                    | _ => undef))
                | none => b :: dryR P L ops r (a.put o.dst undef)
              | _, _, _ => dryR P L ops r (a.put o.dst undef)
            | _ => match mapArg a o with
              | some b => b :: dryR P L ops r (a.put o.dst undef)
              | none => dryR P L ops r (a.put o.dst undef)
def placesOf (L : List Nat) : List Nat → List Nat → List Nat
  | [], _ => []
  | b :: r, seen => match seen.contains b with
    | true => placesOf L r seen
    | false => match L.findIdx? (fun n => Nat.beq n b) with
      | some j => j :: placesOf L r (b :: seen)
      | none => placesOf L r (b :: seen)
noncomputable def noteX (js : List Nat) (n : Nat) (L : List Blk) : Nat → Nat → (List Blk → T α) → T α
  | 0, _, k => k []
  | f + 1, i, k => .or (.note js i n) fun j => match nth L j with
    | some p => noteX js n L f (i + 1) fun R => k (p :: R)
    | none => k []
theorem noteX_spec {js : List Nat} {n : Nat} {L : List Blk} {K : α → Prop} : ∀ {f i : Nat} {k : List Blk → T α}, (noteX js n L f i k).all K → ∃ R, (∀ p ∈ R, p ∈ L) ∧ (k R).all K
  | 0, _, k, h => ⟨[], fun _ h => (by cases h), h⟩
  | f + 1, i, k, h => by
    obtain ⟨j, h⟩ := h
    dsimp only at h
    split at h
    · rename_i p hp
      obtain ⟨R, h1, h2⟩ := noteX_spec h
      rw [nth_eq] at hp
      refine ⟨p :: R, fun q hq => ?_, h2⟩
      rcases List.mem_cons.1 hq with rfl | hq
      · exact List.mem_of_getElem? hp
      · exact h1 q hq
    · exact ⟨[], fun _ h => (by cases h), h⟩
def finWaitsAll (ops : Array Oper) (w : Nat) : Bool := (List.range ops.size).all fun i => match ops[i]? with
  | some o => match readAddr o with
    | some _ => tb w i
    | none => true
  | none => true
def isStore (o : Oper) : Bool := match o.op with
  | .store .. => true
  | _ => false
noncomputable def finOf (ops : Array Oper) : List Nat := match ops.toList.getLast? with
  | some o => match isStore o with
    | true => (List.range ops.size).filter fun i => match ops[i]? with
      | some oi => isStore oi && finWaitsAll ops (closW ops i)
      | none => false
    | false => []
  | none => []
noncomputable def notesOf (ops : List Oper) : Option (List Nat) := noteSlots ops (storeRoots ops ops) ops
noncomputable def objsOf (L : List Blk) : List Blk := @List.rec Blk (fun _ => List Blk) [] (fun p _ ih => match p.ct with
  | .obj _ => p :: ih
  | _ => ih) L
theorem objsOf_sub {p : Blk} : ∀ {L : List Blk}, p ∈ objsOf L → p ∈ L
  | [], h => h
  | q :: L, h => by
    have h : p ∈ (match q.ct with | .obj _ => q :: objsOf L | _ => objsOf L) := h
    split at h
    · rcases List.mem_cons.1 h with rfl | h
      · exact List.mem_cons_self
      · exact List.mem_cons_of_mem _ (objsOf_sub h)
    · exact List.mem_cons_of_mem _ (objsOf_sub h)
noncomputable def hasMk (ops : List Oper) : Bool := @List.rec Oper (fun _ => Bool) false (fun o _ ih => match o.op with
  | .makeFunc .. => true
  | _ => ih) ops
abbrev PieceE (α : Type) := F → List Blk → (Exit → F → List Blk → T α) → T α
noncomputable def evLoop (f : PieceE α) (c : Exit → F → List Blk → T α) (m : Nat) : F → List Blk → T α :=
  @Nat.rec (fun _ => F → List Blk → T α) (fun _ _ => .fail) (fun _ ih a L => forceL (compactW 0 a.w) fun w => f ⟨a.n, w⟩ L fun x a1 L1 => match x with
    | .normal => ih a1 L1
    | x => c x a1 L1) m
noncomputable def metBy (k : CallC) (args : Array Value) (L : List Blk) (c : Value → List Blk → T α) : T α :=
  .same (.val (.tuple args)) (.val (.tuple k.args)) (.need k.ok (memBy k.mem L k.outs fun v ns L' => c (v ns) L'))
noncomputable def loopBy (k : LoopC) (x : Code) (a : F) (L : List Blk) (c : Exit → F → List Blk → T α) : T α :=
  .same (.code x) (.code k.c) (.same (.nat a.n) (.nat k.n) (.same (.val (.tuple (k.sl.map fun p => a.get p.1).toArray)) (.val (.tuple (k.sl.map (·.2)).toArray))
    (.need k.ok (memBy k.mem L k.outs fun o ns L' => .ask fun x => c o.1 ⟨k.n, o.2 ns ++ argsW 0 x.l⟩ L'))))
noncomputable def metU (k : CallU) (args : Array Value) (L : List Blk) (c : Value → List Blk → T α) : T α :=
  .same (.val (.tuple args)) (.val (.tuple k.args)) (.need k.ok (memU k.rd k.m k.rb k.u1 k.ub k.rest L k.outs fun v ns L' => c (v ns) L'))
noncomputable def loopU (k : LoopU) (x : Code) (a : F) (L : List Blk) (c : Exit → F → List Blk → T α) : T α :=
  .same (.code x) (.code k.x) (.same (.nat a.n) (.nat k.n) (.same (.val (.tuple (k.sl.map fun p => a.get p.1).toArray)) (.val (.tuple (k.sl.map (·.2)).toArray))
    (.need k.ok (memU k.rd k.m k.rb k.u1 k.ub k.rest L k.outs fun o ns L' => .ask fun x => c o.1 ⟨k.n, o.2 ns ++ argsW 0 x.l⟩ L'))))
noncomputable def inCall (ev : FuncId → Code → PieceE α) : CallE α := fun f args L c =>
  match nth P.funcs.toList f with
    | none => .fail
    | some fn => match fn.body with
      | none => .fail
      | some b => ev f b (F.init args fn.ntmps) L fun x a L' => match x with
        | .normal => resT P a.get L' fn.results.toList fun l => c (oneV l) L'
        | .ret => resT P a.get L' fn.results.toList fun l => c (oneV l) L'
        | _ => .fail
noncomputable def evCallC (ev : FuncId → Code → PieceE α) : CallE α := fun f args L c =>
  match S.cl f with
  | k :: ks => .or (.num ((k :: ks).length + 1)) fun j => match nth (k :: ks) j with
    | some k => match Nat.decEq (k args L).f f with
      | .isTrue _ => metBy (k args L) args L c
      | .isFalse _ => .fail
    | none => inCall P ev f args L c
  | [] => inCall P ev f args L c
noncomputable def evCall (ev : FuncId → Code → PieceE α) : CallE α := fun f args L c =>
  match S.cu f with
  | k :: ks => .or (.num ((k :: ks).length + 1)) fun j => match nth (k :: ks) j with
    | some k => match Nat.decEq (k args L).f f with
      | .isTrue _ => metU (k args L) args L c
      | .isFalse _ => .fail
    | none => evCallC P S ev f args L c
  | [] => evCallC P S ev f args L c
noncomputable def evLoopC (ev : PieceE α) (fn : FuncId) (n : Nat) (x : Code) (a : F) (L : List Blk) (c : Exit → F → List Blk → T α) : T α := match S.lp fn with
  | k :: ks => .or (.num ((k :: ks).length + 1)) fun j => match nth (k :: ks) j with
    | some k => loopBy (k a L) (.loop x) a L c
    | none => evLoop ev c n a L
  | [] => evLoop ev c n a L
noncomputable def anyF (fn : FuncId) (id : Nat) (ops : Array Oper) (call : CallE α) (a : F) (L : List Blk) (c : Exit → F → List Blk → T α) : T α := match S.rg fn id with
  | k :: ks => .or (.num (k :: ks).length) fun j => match nth (k :: ks) j with
    | some k => loopBy (k a L) (.region id ops true) a L c
    | none => .fail
  | [] => match Region.noSelect ops with
    | false => .fail
    | true => .or .way fun j => match j with
      | 0 => noteX (placesOf (L.map (·.nm)) (dryR P L ops ops.toList a) []) L.length L 20 0 fun R => forceM (finM ops (finOf ops)) fun fw => evMany P S fn call ops (finOf ops) fw R (fun _ => []) (fun a' L' => c .normal a' L') 4 ops.size 0 a L
      | 2 => .or (.tail (L.map (·.nm))) fun d => forceL (objsOf (L.take d)) fun R => forceM (finM ops (finOf ops)) fun fw => evMany P S fn call ops (finOf ops) fw R (fun _ => []) (fun a' L' => c .normal a' L') 4 ops.size 0 a L
      | _ => match hasMk ops.toList with
        | true => .fail
        | false => match notesOf ops.toList with
          | some sl => noteT a L none sl fun R => forceM (finM ops []) fun fw => evMany P S fn call ops [] fw R (fun _ => []) (fun a' L' => c .normal a' L') 4 ops.size 0 a L
          | none => minusT a ops.toList ops.toList L fun js L1 => .or (.mask [fn, id]) fun mask => forceL (dropM mask L1) fun L0 => forceM (finM ops []) fun fw => evMany P S fn call ops [] fw L0 (backOf L.length js mask) (fun a' L' => c .normal a' L') 4 ops.size 0 a L
noncomputable def evBody (ev : FuncId → Code → PieceE α) (n : Nat) (fn : FuncId) (x : Code) (a : F) (L : List Blk) (c : Exit → F → List Blk → T α) : T α := match x with
    | .skip | .label _ => c .normal a L
    | .region _ ops false => evOps P S fn (evCall P S ev) ops (fun a' L' => c .normal a' L') (List.range ops.size) none a L
    | .region id ops true => anyF P S fn id ops (evCall P S ev) a L c
    | .seq x y => ev fn x a L fun r a1 L1 => match r with
      | .normal => ev fn y a1 L1 c
      | r => c r a1 L1
    | .cond b x y => match b with
      | .tmp s => match a.get s with
        | .bool t => .cond t (ev fn x (a.put (some s) (.bool true)) L c) (ev fn y (a.put (some s) (.bool false)) L c)
        | _ => .fail
      | b => match a.eval b with
        | .bool t => .cond t (ev fn x a L c) (ev fn y a L c)
        | _ => .fail
    | .block id x => ev fn x a L fun r a1 L1 => match r with
      | .exit id' => match Nat.beq id' id with
        | true => c .normal a1 L1
        | false => c (.exit id') a1 L1
      | r => c r a1 L1
    | .loop x => match S.lu fn with
      | k :: ks => .or (.num ((k :: ks).length + 1)) fun j => match nth (k :: ks) j with
        | some k => loopU (k a L) (.loop x) a L c
        | none => evLoopC S (ev fn x) fn n x a L c
      | [] => evLoopC S (ev fn x) fn n x a L c
    | .exit id => c (.exit id) a L
    | .ret => c .ret a L
    | _ => .fail
noncomputable def ev (n : Nat) : FuncId → Code → PieceE α :=
  @Nat.rec (fun _ => FuncId → Code → PieceE α) (fun _ _ _ _ _ => .fail) (fun n ih => evBody P S ih n) n
end Go.Proofs.YtlpcnaeknbmjdaaGreat.Sy

namespace Go.Proofs.YtlpcnaeknbmjdaaGreat.Sy
open Go Go.RowKit
open Ev (one cell_of frozen_of calm)
variable {P : Program} {S : Ctx}
variable {w0 : World} {keep : Nat → Prop} {α : Type} {K : α → Prop}
def Post (w0 : World) (keep : Nat → Prop) (K : α → Prop) (c : Exit → F → List Blk → T α) : Exit → Act → World → Prop :=
  fun x a W => calm x = true ∧ ∃ g L, (c x g L).all K ∧ RelF g a ∧ Rep w0 keep L W
def SoundC (P : Program) (w0 : World) (keep : Nat → Prop) (K : α → Prop) (call : CallE α) : Prop := ∀ f args L c, (call f args L c).all K → ∀ W, Rep w0 keep L W → Calls P f args W fun en W' => ∃ v L', en = .returned v ∧ Rep w0 keep L' W' ∧ (c v L').all K
def SoundE (P : Program) (w0 : World) (keep : Nat → Prop) (K : α → Prop) (x : Code) (f : PieceE α) : Prop := ∀ g L c, (f g L c).all K → ∀ a W, RelF g a → Rep w0 keep L W → x.wp P (Post w0 keep K c) a W
theorem askN_all : ∀ (n : Nat) (k : List Let → T α), (askN n k).all K → ∀ ns : List Let, ns.length = n → (k ns).all K
  | 0, k, h, ns, hn => by
    obtain rfl := List.eq_nil_of_length_eq_zero hn
    exact h
  | n + 1, k, h, [], hn => by cases hn
  | n + 1, k, h, x :: r, hn => askN_all n _ (h x) r (by simpa using hn)
theorem eraseIdx_perm {α : Type} : ∀ (l : List α) (j : Nat) (a : α), l[j]? = some a → l.Perm (a :: l.eraseIdx j)
  | [], j, a, h => by cases h
  | x :: l, 0, a, h => by
    simp only [List.getElem?_cons_zero, Option.some.injEq] at h
    subst h
    exact List.Perm.refl _
  | x :: l, j + 1, a, h => by
    have := eraseIdx_perm l j a (by simpa using h)
    exact (this.cons x).trans (List.Perm.swap a x _)
theorem takeAll_sound {W : World} (ow : Bool) : ∀ (l : List (Nat × Cont)) (L : List Blk) (k : List Blk → List Blk → T α), (takeAll ow l L k).all K → There L W →
    ∃ L' U, (k L' U).all K ∧ (∀ p ∈ l, p.2.sat W.heap[p.1]?) ∧ U.map (·.nm) = l.map (·.1) ∧ (∀ b ∈ U, ow = true → b.own = true) ∧ L.Perm (U ++ L')
  | [], L, k, h, _ => ⟨L, [], h, fun _ hp => (by cases hp), rfl, fun _ hp => (by cases hp), List.Perm.refl _⟩
  | p :: r, L, k, h, ht => by
    simp only [takeAll] at h
    obtain ⟨b, j, hj, h1, h⟩ := pickT_spec h
    split at h
    · rename_i how
      obtain ⟨h2, h⟩ := h
      have h := forceT_spec h
      have hsub : List.Sublist (L.eraseIdx j) L := List.eraseIdx_sublist _ _
      obtain ⟨L2, U, h3, h4, h6, h7, h8⟩ := takeAll_sound ow r (L.eraseIdx j) _ h (fun q hq => ht q (hsub.subset hq))
      refine ⟨L2, b :: U, h3, fun q hq => ?_, by simp [h6, h1], fun q hq how2 => ?_, ?_⟩
      · rcases List.mem_cons.1 hq with rfl | hq
        · rw [h1, tok_cont h2]
          have h0 := ht _ (List.mem_of_getElem? hj)
          cases ow with
          | true => exact Cont.sat_useView h0
          | false => exact Cont.sat_view h0
        · exact h4 q hq
      · rcases List.mem_cons.1 hq with rfl | hq
        · rw [how2] at how; simpa using how
        · exact h7 q hq how2
      · exact (eraseIdx_perm L j b hj).trans (h8.cons b)
    · exact h.elim
theorem rbT_spec {l : List (Nat × Cont)} {L : List Blk} {k : T α} (h : (rbT l L k).all K) : GotL L l ∧ k.all K := by
  unfold rbT at h
  rcases two_spec h with h | h
  · split at h
    · exact ⟨fun _ hp => (by cases hp), h⟩
    · exact h.elim
  · obtain ⟨d, h1, h⟩ := h
    exact ⟨fun p hp => by
      obtain ⟨q, hq, h2⟩ := h1 p hp
      exact ⟨q, List.mem_of_mem_drop hq, h2⟩, h⟩
theorem Rep.perm {L L' : List Blk} {W : World} (hp : L.Perm L') (h : Rep w0 keep L W) : Rep w0 keep L' W :=
  ⟨h.os, h.tape, h.output, h.size, h.old, fun p hm => h.blk p (hp.mem_iff.2 hm), (hp.pairwise_iff (fun h => Far.symm h)).1 h.far⟩
theorem mem_core {c : MemC} {L U rest : List Blk} {W : World} (hr : Rep w0 keep L W) (hperm : L.Perm (U ++ rest)) (hU : U.map (·.nm) = c.use.map (·.1)) (hUo : ∀ b ∈ U, b.own = true) (huse : ∀ p ∈ c.use, p.2.sat W.heap[p.1]?)
    (hrd : ∀ p ∈ c.rd, p.2.sat W.heap[p.1]? ∧ ∃ b ∈ rest, b.nm = p.1) (hgot : GotL rest c.rb) :
    c.pre W ∧ ∀ o : OutM, ∀ ns W', c.post o W W' ns → Rep w0 keep ((o.nw ns).map ownOf ++ (rest ++ (o.nb ns).map ownOf)) W' := by
  have hfar : (U ++ rest).Pairwise Far := (hperm.pairwise_iff (fun h => Far.symm h)).1 hr.far
  have hmem : ∀ q ∈ rest, q ∈ L := fun q hq => hperm.mem_iff.2 (List.mem_append_right _ hq)
  have hUe : ∀ b ∈ U, b ∈ L ∧ b.own = true := fun b hb => ⟨hperm.mem_iff.2 (List.mem_append_left _ hb), hUo b hb⟩
  rw [List.pairwise_append] at hfar
  obtain ⟨hfU, hfR, hfUR⟩ := hfar
  have hndU : (U.map (·.nm)).Nodup := by
    rw [List.nodup_iff_pairwise_ne, List.pairwise_map]
    exact hfU.imp_of_mem fun ha _ hab => hab (by rw [(hUe _ ha).2]; rfl)
  have hap : ∀ p ∈ c.rd, ∀ q ∈ c.use, p.1 ≠ q.1 := fun p hp q hq he => by
    obtain ⟨b1, hb1, e1⟩ := (hrd p hp).2
    have h2 : q.1 ∈ U.map (·.nm) := by rw [hU]; exact List.mem_map.2 ⟨q, hq, rfl⟩
    obtain ⟨b2, hb2, e2⟩ := List.mem_map.1 h2
    exact hfUR b2 hb2 b1 hb1 (by rw [(hUe _ hb2).2]; rfl) (by rw [e2, e1, he])
  have hrb : ∀ p ∈ c.rb, p.2.sat W.heap[p.1]? := fun p hp => by
    obtain ⟨q, hq, h1, h2⟩ := hgot p hp
    rw [← h1]
    exact h2 _ (hr.blk q (hmem q hq)).1
  have hapB : ∀ p ∈ c.rb, ∀ q ∈ c.use, p.1 ≠ q.1 := fun p hp q hq he => by
    obtain ⟨x, hx, h1, -⟩ := hgot p hp
    have h2 : q.1 ∈ U.map (·.nm) := by rw [hU]; exact List.mem_map.2 ⟨q, hq, rfl⟩
    obtain ⟨b2, hb2, e2⟩ := List.mem_map.1 h2
    exact hfUR b2 hb2 x hx (by rw [(hUe _ hb2).2]; rfl) (by rw [e2, h1, he])
  refine ⟨⟨fun p hp => (hrd p hp).1, huse, by rw [← hU]; exact hndU, hap, hrb, hapB⟩, ?_⟩
  rintro o ns W' ⟨hns, hhyp, o1, o2, o3, hsz, hkeep, hnw0, hnwd0, hnb, hnbd, hnab⟩
  obtain ⟨new, hnew⟩ : ∃ new, new = o.nw ns ++ o.nb ns := ⟨_, rfl⟩
  have hnw : ∀ p ∈ new, (W.heap.size ≤ p.1 ∨ ∃ q ∈ c.use, q.1 = p.1) ∧ p.2.sat W'.heap[p.1]? := fun p hp => by
    rw [hnew] at hp
    exact (List.mem_append.1 hp).elim (hnw0 p) (hnb p)
  have hnwd : (new.map (·.1)).Nodup := by
    rw [hnew, List.map_append, List.nodup_append]
    refine ⟨hnwd0, hnbd, fun a ha b hb => ?_⟩
    obtain ⟨x, hx, rfl⟩ := List.mem_map.1 ha
    obtain ⟨y, hy, rfl⟩ := List.mem_map.1 hb
    exact hnab x hx y hy
  have hp3 : (new.map ownOf ++ rest).Perm ((o.nw ns).map ownOf ++ (rest ++ (o.nb ns).map ownOf)) := by
    rw [hnew, List.map_append, List.append_assoc]
    exact List.Perm.append_left _ List.perm_append_comm
  have hnuse : ∀ p ∈ c.use, ∃ b ∈ U, b.nm = p.1 := fun p hp => by
    have : p.1 ∈ U.map (·.nm) := by rw [hU]; exact List.mem_map.2 ⟨p, hp, rfl⟩
    obtain ⟨b, hb, he⟩ := List.mem_map.1 this
    exact ⟨b, hb, he⟩
  have hrest : ∀ q ∈ rest, ∀ p ∈ c.use, p.1 ≠ q.nm := fun q hq p hp he => by
    obtain ⟨b, hb, hbe⟩ := hnuse p hp
    exact hfUR b hb q hq (by rw [(hUe _ hb).2]; rfl) (by rw [hbe, he])
  have hnk : ∀ p ∈ c.use, p.1 < w0.heap.size → ¬ keep p.1 := fun p hp hlt => by
    obtain ⟨b, hb, hbe⟩ := hnuse p hp
    rw [← hbe] at hlt ⊢
    exact (hr.blk b (hUe b hb).1).2 (hUe b hb).2 hlt
  refine Rep.perm hp3 ⟨o1.trans hr.os, o2.trans hr.tape, o3.trans hr.output, Nat.le_trans hr.size hsz, fun k hk hkp => ?_, fun p hp => ?_, ?_⟩
  · rw [hkeep k (Nat.lt_of_lt_of_le hk hr.size) (fun p hp he => by subst he; exact hnk p hp hk hkp)]
    exact hr.old k hk hkp
  · simp only [List.mem_append, List.mem_map] at hp
    rcases hp with ⟨q, hq, rfl⟩ | hp
    · refine ⟨(hnw q hq).2, fun _ hlt => ?_⟩
      have hlt' : q.1 < w0.heap.size := hlt
      show ¬ keep q.1
      rcases (hnw q hq).1 with h1 | ⟨p, hp, he⟩
      · have := hr.size
        omega
      · rw [← he] at hlt' ⊢
        exact hnk p hp hlt'
    · have hpe := hmem p hp
      obtain ⟨h1, h2⟩ := hr.blk p hpe
      exact ⟨by rw [hkeep p.nm (hr.lt hpe) (hrest p hp)]; exact h1, h2⟩
  · have hlt : ∀ b ∈ L, b.nm < W.heap.size := fun b hb => hr.lt hb
    rw [List.pairwise_append]
    refine ⟨?_, hfR, fun a ha b hb _ he => ?_⟩
    · rw [List.pairwise_map]
      rw [List.nodup_iff_pairwise_ne, List.pairwise_map] at hnwd
      exact hnwd.imp (S := fun a b => Far (ownOf a) (ownOf b)) fun h _ => h
    · obtain ⟨q, hq, rfl⟩ := List.mem_map.1 ha
      have he' : q.1 = b.nm := he
      rcases (hnw q hq).1 with h1 | ⟨p, hp, hpe⟩
      · have h2 := hlt b (hmem b hb)
        omega
      · exact hrest b hb p hp (hpe.trans he')
theorem memBy_sound {β : Type} {c : MemC} {L : List Blk} {outs : List (OutM × β)} {k : β → List Let → List Blk → T α} (h : (memBy c L outs k).all K) {W : World} (hr : Rep w0 keep L W) :
    c.pre W ∧ ∀ o ∈ outs, ∀ ns W', c.post o.1 W W' ns → ∃ L', Rep w0 keep L' W' ∧ (k o.2 ns L').all K := by
  obtain ⟨L1, U1, h, hrd, hU1, -, hp1⟩ := takeAll_sound (W := W) _ _ _ _ h (fun p hp => (hr.blk p hp).1)
  obtain ⟨L2, U, h, huse, hU, hUo, hp2⟩ := takeAll_sound (W := W) _ _ _ _ h (fun p hp => (hr.blk p (hp1.mem_iff.2 (List.mem_append_right _ hp))).1)
  have hperm : L.Perm (U ++ (U1 ++ L2)) := by
    refine hp1.trans ((hp2.append_left U1).trans ?_)
    rw [← List.append_assoc, ← List.append_assoc]
    exact List.perm_append_comm.append_right _
  obtain ⟨hgot, h⟩ := rbT_spec h
  obtain ⟨hpre, hpost⟩ := mem_core hr hperm hU (fun b hb => hUo b hb rfl) huse (fun p hp => ⟨hrd p hp, by
    have h1 : p.1 ∈ U1.map (·.nm) := by rw [hU1]; exact List.mem_map.2 ⟨p, hp, rfl⟩
    obtain ⟨b1, hb1, e1⟩ := List.mem_map.1 h1
    exact ⟨b1, List.mem_append_left _ hb1, e1⟩⟩) hgot
  refine ⟨hpre, fun o ho ns W' hp => ⟨_, hpost o.1 ns W' hp, ?_⟩⟩
  rcases two_spec (askN_all _ _ (outsT_all h o ho) ns hp.len hp.hyp) with hK | hK
  · split at hK
    · rename_i hb
      have hK := forceT_spec hK
      rw [hb, List.map_nil, List.append_nil]
      exact hK
    · exact hK.elim
  · exact forceT_spec hK
theorem memU_sound {β : Type} {rd : List (Nat × Cont)} {m : Nat} {rb u1 ub : List (Nat × Cont)} {rest L : List Blk} {outs : List (OutM × β)} {k : β → List Let → List Blk → T α} (h : (memU rd m rb u1 ub rest L outs k).all K) {W : World} (hr : Rep w0 keep L W) :
    (⟨rd, u1 ++ ub, m, rb⟩ : MemC).pre W ∧ ∀ o ∈ outs, ∀ ns W', (⟨rd, u1 ++ ub, m, rb⟩ : MemC).post o.1 W W' ns → ∃ L', Rep w0 keep L' W' ∧ (k o.2 ns L').all K := by
  obtain ⟨L1, U1, h, hrd, hU1, -, hp1⟩ := takeAll_sound (W := W) _ _ _ _ h (fun p hp => (hr.blk p hp).1)
  obtain ⟨L2, U, h, huse, hU, hUo, hp2⟩ := takeAll_sound (W := W) _ _ _ _ h (fun p hp => (hr.blk p (hp1.mem_iff.2 (List.mem_append_right _ hp))).1)
  obtain ⟨d, hd, h⟩ := h
  obtain ⟨hgot, h⟩ := rbT_spec h
  have hL2 : L2.Perm (ub.map ownOf ++ (L2.take d ++ rest)) := by
    have h1 : L2.Perm (L2.take d ++ (ub.map ownOf ++ rest)) := by
      conv => lhs; rw [← List.take_append_drop d L2]
      exact hd.append_left _
    refine h1.trans ?_
    rw [← List.append_assoc, ← List.append_assoc]
    exact List.perm_append_comm.append_right _
  have hperm : L.Perm ((U ++ ub.map ownOf) ++ (U1 ++ (L2.take d ++ rest))) := by
    refine hp1.trans ((hp2.append_left U1).trans ?_)
    refine ((hL2.append_left U).append_left U1).trans ?_
    rw [← List.append_assoc U, ← List.append_assoc U1, ← List.append_assoc (U ++ ub.map ownOf)]
    exact List.perm_append_comm.append_right _
  obtain ⟨hpre, hpost⟩ := mem_core (c := ⟨rd, u1 ++ ub, m, rb⟩) hr hperm (by rw [List.map_append, List.map_append, hU, List.map_map]; rfl) (fun b hb => by
      rcases List.mem_append.1 hb with hb | hb
      · exact hUo b hb rfl
      · obtain ⟨q, -, rfl⟩ := List.mem_map.1 hb
        rfl) (fun p hp => by
      rcases List.mem_append.1 hp with hp | hp
      · exact huse p hp
      · exact (hr.blk (ownOf p) (hperm.mem_iff.2 (List.mem_append_left _ (List.mem_append_right _ (List.mem_map.2 ⟨p, hp, rfl⟩))))).1) (fun p hp => ⟨hrd p hp, by
    have h1 : p.1 ∈ U1.map (·.nm) := by rw [hU1]; exact List.mem_map.2 ⟨p, hp, rfl⟩
    obtain ⟨b1, hb1, e1⟩ := List.mem_map.1 h1
    exact ⟨b1, List.mem_append_left _ hb1, e1⟩⟩) hgot
  refine ⟨hpre, fun o ho ns W' hp => ⟨_, hpost o.1 ns W' hp, ?_⟩⟩
  exact forceT_spec (askN_all _ _ (outsT_all h o ho) ns hp.len hp.hyp)
theorem opaV_spec {a : F} {o : Oper} {k : Value → T α} (h : (opaV P a o k).all K) : ∃ v, (∀ W, (execOp a.eval o).run P W = .ok (.value v) W) ∧ (k v).all K := by
  unfold opaV at h
  split at h
  · rename_i t x y ho
    split at h
    · rename_i el hu
      split at h
      · rename_i inf hi
        split at h
        · rename_i kk i hy
          obtain ⟨⟨⟨n, c, hx⟩, h1, h2⟩, h⟩ := h
          refine ⟨_, fun W => ?_, h⟩
          have hl : lenS (a.eval x) = n := by rw [hx]; rfl
          rw [hl] at h2
          have hs : symQ P a.eval o = some (Ex.leQ 0 i && Ex.ltQ i (n : Int), 0 ≤ i ∧ i < (n : Int), .pointer (some ⟨ptrS (a.eval x), offS (a.eval x) + i.toNat * inf.size, none⟩)) := by
            unfold symQ
            rw [ho]
            simp only [hy]
            rw [hx]
            simp only [hu, hi]
            rfl
          exact symQ_run hs (.inr ⟨h1, h2⟩) W
        · exact h.elim
      · exact h.elim
    · exact h.elim
  · rename_i c ho
    split at h
    · rename_i hc
      split at h
      · rename_i x t ha ht
        split at h
        · rename_i el hu
          obtain ⟨⟨p, n, cc, hx⟩, h⟩ := h
          refine ⟨_, fun W => ?_, h⟩
          have hl : lenOf P a.eval o = some (.int .i64 (Int.ofNat (lenS (a.eval x)))) := by
            unfold lenOf
            simp only [ho, hc, ha, ht]
            rw [hx]
            simp only [hu]
            rfl
          exact lenOf_run hl W
        · exact h.elim
      · exact h.elim
    · exact h.elim
  · exact h.elim
theorem evOp_sound (hS : S.holds P) {fn : FuncId} {call : CallE α} (hs : SoundC P w0 keep K call) {o : Oper} {a : F} {L : List Blk} {c : F → List Blk → T α} (h : (evOp P S fn call o a L c).all K)
    {b : Act} {W : World} (hf : RelF a b) (hr : Rep w0 keep L W) : ∃ x W1, (execOp b.eval o).run P W = .ok x W1 ∧
      ((∃ v L', x = .value v ∧ (c (a.put o.dst v) L').all K ∧ Rep w0 keep L' W1) ∨ (∃ L', x = .skip ∧ (c (a.put o.dst undef) L').all K ∧ Rep w0 keep L' W1) ∨
        ∃ f args, x = .enter f args ∧ Calls P f args W1 fun en W2 => ∃ v L', en = .returned v ∧ Rep w0 keep L' W2 ∧ (c (a.put o.dst v) L').all K) := by
  have byC : ∀ k : OpC, OpMeets P (execOp a.eval o) k → (opBy k o a L c).all K → ∃ x W1, (execOp b.eval o).run P W = .ok x W1 ∧
      ((∃ v L', x = .value v ∧ (c (a.put o.dst v) L').all K ∧ Rep w0 keep L' W1) ∨ (∃ L', x = .skip ∧ (c (a.put o.dst undef) L').all K ∧ Rep w0 keep L' W1) ∨
        ∃ f args, x = .enter f args ∧ Calls P f args W1 fun en W2 => ∃ v L', en = .returned v ∧ Rep w0 keep L' W2 ∧ (c (a.put o.dst v) L').all K) := fun k hm h => by
    rw [hf.eval] at hm
    obtain ⟨hpre, h⟩ := memBy_sound h hr
    obtain ⟨o1, ho1, ns, W1, hrun, hpost⟩ := hm W hpre
    obtain ⟨L1, hr1, h⟩ := h o1 ho1 ns W1 hpost
    refine ⟨_, _, hrun, ?_⟩
    cases hv : o1.2 ns with
    | some v =>
      rw [hv] at h
      exact .inl ⟨v, L1, rfl, h, hr1⟩
    | none =>
      rw [hv] at h
      exact .inr (.inl ⟨L1, rfl, h, hr1⟩)
  have gen : (genOp P call o a L c).all K → ∃ x W1, (execOp b.eval o).run P W = .ok x W1 ∧
      ((∃ v L', x = .value v ∧ (c (a.put o.dst v) L').all K ∧ Rep w0 keep L' W1) ∨ (∃ L', x = .skip ∧ (c (a.put o.dst undef) L').all K ∧ Rep w0 keep L' W1) ∨
        ∃ f args, x = .enter f args ∧ Calls P f args W1 fun en W2 => ∃ v L', en = .returned v ∧ Rep w0 keep L' W2 ∧ (c (a.put o.dst v) L').all K) := fun h => by
    unfold genOp at h
    rw [hf.eval] at h
    obtain ⟨x, L1, W1, hrun, hr1, h⟩ := lrun_sound P _ _ _ W _ h hr
    refine ⟨x, W1, hrun, ?_⟩
    unfold stepO at h
    cases x with
    | value v => exact .inl ⟨v, L1, rfl, h, hr1⟩
    | skip => exact .inr (.inl ⟨L1, rfl, h, hr1⟩)
    | enter f args =>
      exact .inr (.inr ⟨f, args, rfl, (hs _ _ _ _ h W1 hr1).mono fun en W2 ⟨v, L2, he, hR, h⟩ => ⟨v, L2, he, hR, h⟩⟩)
    | _ => exact h.elim
  have dop0 : (doOp0 P call o a L c).all K → ∃ x W1, (execOp b.eval o).run P W = .ok x W1 ∧
      ((∃ v L', x = .value v ∧ (c (a.put o.dst v) L').all K ∧ Rep w0 keep L' W1) ∨ (∃ L', x = .skip ∧ (c (a.put o.dst undef) L').all K ∧ Rep w0 keep L' W1) ∨
        ∃ f args, x = .enter f args ∧ Calls P f args W1 fun en W2 => ∃ v L', en = .returned v ∧ Rep w0 keep L' W2 ∧ (c (a.put o.dst v) L').all K) := fun h => by
    unfold doOp0 at h
    have hd := doing_spec (P := P) (ρ := b.eval) (fun g => rfl) o
    rw [hf.eval] at h
    split at h
    · rename_i v hv
      rw [hv] at hd
      exact ⟨_, _, hd W, .inl ⟨v, L, rfl, h, hr⟩⟩
    · rename_i bb p v hv
      rw [hv] at hd
      obtain ⟨h1, h⟩ := reqP_spec h
      exact ⟨_, _, hd h1 W, .inl ⟨v, L, rfl, h, hr⟩⟩
    · rename_i t bb off hv
      rw [hv] at hd
      obtain ⟨v, hk, hrun⟩ := loadN_spec (fun p hp => (hr.blk p hp).1) h
      exact ⟨_, _, by rw [loadOf_run hd]; exact hrun W (fun p hp => (hr.blk p hp).1), .inl ⟨v, L, rfl, hk, hr⟩⟩
    · rename_i bb off v hv
      rw [hv] at hd
      obtain ⟨p, j, hj, hb, h⟩ := pickT_spec h
      obtain ⟨hone, h⟩ := reqP_spec h
      have hone : one v = true := hone.elim id id
      obtain ⟨L1, u, hcell, hfz, hset, h⟩ := putT_sound h hj hb hr
      refine ⟨.skip, W.setCell ⟨bb, off, none⟩ v, ?_, .inr (.inl ⟨L1, rfl, h, hset⟩)⟩
      rw [storeOf_run hd]
      have : (Go.store ⟨bb, off, none⟩ v).run P W = .ok () (W.setCell ⟨bb, off, none⟩ v) := by
        cases v <;> first | (simp [one] at hone; done) | simp [Go.store, Sem.run, hcell, hfz]
      rw [this]
    · rename_i n bb off C hv
      rw [hv] at hd
      obtain ⟨t, hd⟩ := hd
      rcases altT_spec h with h | h
      · have hoff : off = 0 ∧ (pickT L bb fun p j => match p with
            | ⟨nm, .obj (.cells old ty (lo, hi)), true⟩ => match Nat.beq lo 0 && Nat.beq hi 0 with
              | true => reqP (Nat.beq old.size C.size && (Nat.beq n C.size && C.all (·.oneCell'))) (old.size = C.size ∧ n = C.size ∧ C.all (·.oneCell') = true) (setK L j ⟨nm, .obj (.cells C ty (0, 0)), true⟩ fun L' => c (a.put o.dst undef) L')
              | false => .fail
            | _ => .fail).all K := by
          cases hbo : Nat.beq off 0 with
          | false => rw [hbo] at h; exact h.elim
          | true => rw [hbo] at h; exact ⟨Nat.eq_of_beq_eq_true hbo, h⟩
        obtain ⟨hoff, h⟩ := hoff
        subst hoff
        obtain ⟨p, j, hj, hb, h⟩ := pickT_spec h
        split at h
        · rename_i nm old ty lo hi
          split at h
          · rename_i hz
            simp only [Bool.and_eq_true, Nat.beq_eq] at hz
            obtain ⟨rfl, rfl⟩ := hz
            obtain ⟨hreq, h⟩ := reqP_spec h
            have hreq : old.size = C.size ∧ n = C.size ∧ C.all (·.oneCell') = true := hreq.elim (fun h => by simpa only [Bool.and_eq_true, Nat.beq_eq] using h) id
            have hat : W.heap[nm]? = some (.cells old ty (0, 0)) := hr.at hj
            have hb : bb = nm := hb
            subst hb
            refine ⟨.skip, W.setRow bb C, wholeOf_run hd hreq.1 hreq.2.1 hreq.2.2 hat, .inr (.inl ⟨_, rfl, (setK_spec h).2, ?_⟩)⟩
            exact hr.set hj rfl _ rfl rfl rfl (by simp) (fun k hk => setRow_other W bb k C hk) (setRow_heap W bb old C ty (0, 0) hat)
          · exact h.elim
        · exact h.elim
      · exact gen h
    · rename_i t v x hv
      rw [hv] at hd
      rcases altT_spec h with h | h
      · obtain ⟨k, hm, h⟩ := appT_spec (ty := o.type) h
        refine byC k (fun W hW => ?_) h
        rw [hf.eval, appOf_run hd]
        exact hm W hW
      · exact gen h
    · rename_i f args hv
      rw [hv] at hd
      exact ⟨_, _, hd W, .inr (.inr ⟨f, args, rfl, (hs _ _ _ _ h W hr).mono fun en W2 ⟨v, L2, he, hR, h⟩ => ⟨v, L2, he, hR, h⟩⟩)⟩
    · rename_i e z bytes n lv cv hv
      rw [hv] at hd
      rcases altT_spec h with h | ⟨h1, h⟩
      · exact gen h
      · obtain ⟨hreq, h⟩ := reqP_spec h
        have hreq : 0 ≤ n ∧ n.toNat * bytes ≤ 281474976710656 ∧ n.toNat ≤ maxLen := hreq.elim (fun h => by simpa only [Bool.and_eq_true, Ex.leQ_eq, decide_eq_true_eq, Nat.ble_eq] using h) id
        obtain ⟨C, hC, hrun⟩ := makeOf_run hd (tok_val h1) hreq.1 hreq.2.1 hreq.2.2 W
        refine ⟨_, _, hrun, .inl ⟨_, _, rfl, h ⟨W.heap.size, 0, false, undef, []⟩, ?_⟩⟩
        have hsz : C.size = n.toNat := by rw [← Array.length_toList, hC]; simp
        have hp := hr.push (.cells C e (0, 0))
        refine ⟨hp.os, hp.tape, hp.output, hp.size, hp.old, fun p hpm => ?_, ?_⟩
        · rcases List.mem_cons.1 hpm with rfl | hpm
          · obtain ⟨h2, h3⟩ := hp.blk _ List.mem_cons_self
            exact ⟨⟨C, h2, by simp, Nat.le_refl _, hreq.2.2, by simp [hsz], by simp [hC]⟩, h3⟩
          · exact hp.blk p (List.mem_cons_of_mem _ hpm)
        · have hf := hp.far
          rw [List.pairwise_cons] at hf ⊢
          exact ⟨fun q hq ho => hf.1 q hq ho, hf.2⟩
    · rename_i s hv
      rw [hv] at hd
      obtain ⟨e, hd⟩ := hd
      rw [forceL_eq] at h
      exact byC _ (by rw [hf.eval]; exact bytesOf_met hd) h
    · rename_i neg b1 o1 b2 o2 hv
      rw [hv] at hd
      obtain ⟨r, h, hrun⟩ := peqT_spec (P := P) h hr
      exact ⟨_, _, peqOf_run hd hrun, .inl ⟨_, L, rfl, h, hr⟩⟩
    · rename_i bb off old new hv
      rw [hv] at hd
      obtain ⟨p, j, hj, hb, h⟩ := pickT_spec h
      split at h
      · exact h.elim
      · rename_i hpl
        split at h
        · rename_i cur hcur
          obtain ⟨r, h, hrun⟩ := samePT_spec (P := P) h hr
          obtain ⟨cc, tt, hat⟩ := plainCt_spec hpl (hr.at hj)
          have hcell : W.cell? ⟨bb, off, none⟩ = some (.pointer cur) := cell_at (a := ⟨bb, off, none⟩) hb (hr.at hj) rfl hcur
          have hx := casOf_run (P := P) (W := W) (fun g => rfl) hd (by rw [hb]; exact hat) hcell hrun
          cases r with
          | true =>
            obtain ⟨L1, u, -, -, hset, h⟩ := putT_sound (h.1 rfl) hj hb hr
            exact ⟨_, _, hx, .inl ⟨_, L1, rfl, h, hset⟩⟩
          | false => exact ⟨_, _, hx, .inl ⟨_, L, rfl, h.2 rfl, hr⟩⟩
        · exact h.elim
    · exact gen h
  have dop : (doOp P call o a L c).all K → ∃ x W1, (execOp b.eval o).run P W = .ok x W1 ∧
      ((∃ v L', x = .value v ∧ (c (a.put o.dst v) L').all K ∧ Rep w0 keep L' W1) ∨ (∃ L', x = .skip ∧ (c (a.put o.dst undef) L').all K ∧ Rep w0 keep L' W1) ∨
        ∃ f args, x = .enter f args ∧ Calls P f args W1 fun en W2 => ∃ v L', en = .returned v ∧ Rep w0 keep L' W2 ∧ (c (a.put o.dst v) L').all K) := fun h => by
    unfold doOp at h
    split at h
    · rcases two_spec h with h | h
      · exact dop0 h
      · obtain ⟨v, hrun, hk⟩ := opaV_spec h
        rw [hf.eval] at hrun
        exact ⟨_, _, hrun W, .inl ⟨v, L, rfl, hk, hr⟩⟩
    · exact dop0 h
  unfold evOp at h
  split at h
  · rename_i k ks hop
    obtain ⟨j, h⟩ := h
    dsimp only at h
    split at h
    · rename_i k' hj
      obtain ⟨h1, h2, h⟩ := h
      rw [nth_eq] at hj
      have hm := hS.op fn (keyOf o) k' (by rw [hop]; exact List.mem_of_getElem? hj) a L h2
      rw [← tok_sem h1] at hm
      exact byC _ hm h
    · exact dop h
  · exact dop h
theorem evAt_sound (hS : S.holds P) {fn : FuncId} {call : CallE α} (hs : SoundC P w0 keep K call) {ops : Array Oper} {i : Nat} {a : F} {L : List Blk} {c : F → List Blk → T α} (h : (evAt P S fn call ops i a L c).all K)
    {b : Act} {W : World} (hf : RelF a b) (hr : Rep w0 keep L W) {Q : Exit → Act → World → Prop} {K' : Act → World → Prop} (hK : ∀ a' L' b' W', (c a' L').all K → RelF a' b' → Rep w0 keep L' W' → K' b' W') : wpOp P ops Q i K' b W := by
  unfold evAt at h
  rw [nth_eq, Array.getElem?_toList] at h
  unfold wpOp
  split at h
  · rename_i h0
    simp only [h0]
    exact hK _ _ _ _ h hf hr
  · rename_i o h0
    simp only [h0]
    obtain ⟨a', hf', h⟩ := guardT_spec hf h
    rcases h with ⟨hw, h⟩ | ⟨hw, h⟩
    · rw [if_pos hw]
      left
      unfold Oper.wp
      obtain ⟨x, W1, hrun, hx⟩ := evOp_sound hS hs h hf' hr
      rw [hrun]
      rcases hx with ⟨v, L', rfl, hk, hr'⟩ | ⟨L', rfl, hk, hr'⟩ | ⟨f, args, rfl, hc⟩
      · exact hK _ _ _ _ hk (hf'.put _ _) hr'
      · exact hK _ _ _ _ hk (hf'.put _ _) hr'
      · refine hc.mono fun en W2 ⟨v, L2, he, hR, h⟩ => ?_
        subst he
        exact hK _ _ _ _ h (hf'.put _ _) hR
    · rw [hw]
      exact hK _ _ _ _ h (hf'.put _ _) hr
theorem heldV_of {a : F} {L0 : List Blk} {o : Oper} {k : Value → T α} (h : (heldV0 P a L0 o k).all K) : (heldV P a L0 o k).all K := by
  unfold heldV
  split
  · exact ⟨0, h⟩
  · exact h
theorem doOp_of {call : CallE α} {a : F} {L : List Blk} {o : Oper} {c : F → List Blk → T α} (h : (doOp0 P call o a L c).all K) : (doOp P call o a L c).all K := by
  unfold doOp
  split
  · exact ⟨0, h⟩
  · exact h
theorem heldV0_sound {a : F} {L0 : List Blk} {o : Oper} {k : Value → T α} {W0 : World} (h0 : There L0 W0) (h : (heldV0 P a L0 o k).all K) : ∃ v, (∀ W, There L0 W → (execOp a.eval o).run P W = .ok (.value v) W) ∧ (k v).all K := by
  unfold heldV0 at h
  have hd := doing_spec (P := P) (ρ := a.eval) (fun g => rfl) o
  split at h
  · rename_i v hv
    rw [hv] at hd
    exact ⟨v, fun W _ => hd W, h⟩
  · rename_i t bb off hv
    rw [hv] at hd
    obtain ⟨v, hk, hrun⟩ := loadN_spec h0 h
    exact ⟨v, fun W hS => by rw [loadOf_run hd]; exact hrun W hS, hk⟩
  · rename_i bb p v hv
    rw [hv] at hd
    obtain ⟨h1, h⟩ := reqP_spec h
    exact ⟨_, fun W _ => hd h1 W, h⟩
  · obtain ⟨x, hx, hrun⟩ := lread_sound P _ _ _ h
    cases x with
    | value v => exact ⟨v, hrun, hx⟩
    | _ => exact hx.elim
  · exact h.elim
theorem heldV_sound {a : F} {L0 : List Blk} {o : Oper} {k : Value → T α} {W0 : World} (h0 : There L0 W0) (h : (heldV P a L0 o k).all K) : ∃ v, (∀ W, There L0 W → (execOp a.eval o).run P W = .ok (.value v) W) ∧ (k v).all K := by
  unfold heldV at h
  split at h
  · rcases two_spec h with h | h
    · exact heldV0_sound h0 h
    · obtain ⟨v, h1, h2⟩ := opaV_spec h
      exact ⟨v, fun W _ => h1 W, h2⟩
  · exact heldV0_sound h0 h
theorem valB_held {a : F} {L0 : List Blk} {o : Oper} {k : Value → T α} (h : ((valB P o : VB α).run a L0 k (heldV P a L0 o k)).all K) : (heldV P a L0 o k).all K := by
  rcases valB_spec h with h | h | h | h
  · exact h
  · obtain ⟨v, h1, h2⟩ := h
    refine heldV_of ?_
    unfold heldV0
    rw [h1]
    exact h2
  · obtain ⟨t, b, off, h1, h2⟩ := h
    refine heldV_of ?_
    unfold heldV0
    rw [h1]
    exact h2
  · obtain ⟨b, p, v, h1, h2⟩ := h
    refine heldV_of ?_
    unfold heldV0
    rw [h1]
    exact h2
theorem valB_do {call : CallE α} {a : F} {L : List Blk} {o : Oper} {c : F → List Blk → T α} (h : ((valB P o : VB α).run a L (fun v => c (a.put o.dst v) L) (doOp P call o a L c)).all K) : (doOp P call o a L c).all K := by
  rcases valB_spec h with h | h | h | h
  · exact h
  · obtain ⟨v, h1, h2⟩ := h
    refine doOp_of ?_
    unfold doOp0
    rw [h1]
    exact h2
  · obtain ⟨t, b, off, h1, h2⟩ := h
    refine doOp_of ?_
    unfold doOp0
    rw [h1]
    exact h2
  · obtain ⟨b, p, v, h1, h2⟩ := h
    refine doOp_of ?_
    unfold doOp0
    rw [h1]
    exact h2
theorem heldG_sound {ops : Array Oper} {L0 : List Blk} {g : Option G} {a : F} {o : Oper} {k : Option G → F → T α} {b : Act} {W0 : World} (h0 : There L0 W0) (hf : RelF a b) (hi : Inv g b) (h : (heldG P ops L0 g a o k).all K) :
    ∃ g' a' v, YieldsIf P ops (There L0) o v b ∧ RelF a' (b.put o.dst v) ∧ Inv g' (b.put o.dst v) ∧ (k g' a').all K := by
  unfold heldG at h
  have key := guardOf_key (ops := ops) (o := o) hf
  split at h
  · rename_i hg
    rw [hg] at key
    simp only at key
    have plain : ∀ f : Value → T α, (heldV P a L0 o f).all K → ∃ v, YieldsIf P ops (There L0) o v b ∧ (f v).all K := fun f h => by
      obtain ⟨v, h1, h2⟩ := heldV_sound h0 h
      rw [hf.eval] at h1
      exact ⟨v, .inl ⟨key, fun W hS => h1 W hS⟩, h2⟩
    split at h
    · obtain ⟨v, h1, h2⟩ := plain _ (valB_held h)
      exact ⟨_, _, v, h1, hf.put _ _, Inv.none _, h2⟩
    · rename_i g
      split at h
      · rename_i c x y ho
        split at h
        · rename_i bb hc
          obtain ⟨h1, h⟩ := h
          have h1 : bb = g.b := by injection (tok_val h1)
          split at h
          · rename_i v hv
            have hv := mergeV_spec hv
            rw [hf.eval] at hc
            refine ⟨_, _, v, .inl ⟨key, fun W _ => ?_⟩, hf.put _ _, Inv.none _, h⟩
            rw [pick_run ho hc W]
            have e : v = if bb = true then b.eval x else b.eval y := by
              rw [hv]
              cases hb : bb with
              | true =>
                simp only [if_true]
                cases hw : g.want with
                | true =>
                  have := hi g rfl (by rw [← h1, hb, hw])
                  simp only [this.eval]
                | false => simp only [hf.eval]
              | false =>
                simp only [Bool.false_eq_true, if_false]
                cases hw : g.want with
                | true => simp only [hf.eval]
                | false =>
                  have := hi g rfl (by rw [← h1, hb, hw])
                  simp only [this.eval]
            rw [← e]
          · exact h.elim
        · exact h.elim
      · obtain ⟨v, h1, h2⟩ := plain _ h
        refine ⟨_, _, v, h1, hf.put _ _, fun x hx hb => ?_, h2⟩
        injection hx with hx
        subst hx
        exact (hi g rfl hb).put _ _
  · rename_i hg
    rw [hg] at key
    exact ⟨_, _, undef, .inr ⟨key, rfl⟩, hf.put _ _, Inv.none _, h⟩
  · rename_i t c want hg
    rw [hg] at key
    obtain ⟨k1, k2⟩ := key
    have sel : ∀ (v : Value) (a1 : F), (c = want → RelF a1 b) → (∀ W, There L0 W → (execOp a1.eval o).run P W = .ok (.value v) W) → YieldsIf P ops (There L0) o (selV (hit c want) v undef) b ∧ (c = want → selV (hit c want) v undef = v) := fun v a1 h1 h2 => by
      by_cases hcw : c = want
      · have hh : hit c want = true := by subst hcw; cases c <;> rfl
        rw [hh]
        have h3 := h1 hcw
        refine ⟨.inl ⟨by rw [k1, hcw]; simp, fun W hS => ?_⟩, fun _ => rfl⟩
        rw [← h3.eval]
        exact h2 W hS
      · have hh : hit c want = false := by cases c <;> cases want <;> simp_all [hit]
        rw [hh]
        exact ⟨.inr ⟨by rw [k1]; cases c <;> cases want <;> simp_all, rfl⟩, fun h => absurd h hcw⟩
    split at h
    · obtain ⟨v, h1, h2⟩ := heldV_sound h0 h
      have ha : c = want → RelF (a.put (some t) (.bool want)) b := fun hcw => hf.same (by rw [k2, hcw])
      obtain ⟨s1, s2⟩ := sel v _ ha h1
      refine ⟨_, _, _, s1, hf.put _ _, fun x hx hb => ?_, h2⟩
      injection hx with hx
      subst hx
      rw [s2 hb]
      exact (ha hb).put _ _
    · rename_i g
      obtain ⟨e1, e2, h⟩ := h
      have e1 : c = g.b := by injection (tok_val e1)
      have e2 : want = g.want := by injection (tok_val e2)
      obtain ⟨v, h1, h2⟩ := heldV_sound h0 h
      have ha : c = want → RelF g.a b := fun hcw => hi g rfl (by rw [← e1, ← e2, hcw])
      obtain ⟨s1, s2⟩ := sel v _ ha h1
      refine ⟨_, _, _, s1, hf.put _ _, fun x hx hb => ?_, h2⟩
      injection hx with hx
      subst hx
      have hcw : c = want := by rw [e1, e2]; exact hb
      rw [s2 hcw]
      exact (ha hcw).put _ _
theorem evAtG_sound (hS : S.holds P) {fn : FuncId} {call : CallE α} (hs : SoundC P w0 keep K call) {ops : Array Oper} {i : Nat} {g : Option G} {a : F} {L : List Blk} {c : Option G → F → List Blk → T α} (h : (evAtG P S fn call ops i g a L c).all K)
    {b : Act} {W : World} (hf : RelF a b) (hi : Inv g b) (hr : Rep w0 keep L W) {Q : Exit → Act → World → Prop} {K' : Act → World → Prop} (hK : ∀ g' a' L' b' W', (c g' a' L').all K → RelF a' b' → Inv g' b' → Rep w0 keep L' W' → K' b' W') : wpOp P ops Q i K' b W := by
  have plain : (evAt P S fn call ops i a L (c none)).all K → wpOp P ops Q i K' b W := fun h => evAt_sound hS hs h hf hr fun a' L' b' W' hk hf' hr' => hK none a' L' b' W' hk hf' (Inv.none _) hr'
  unfold evAtG at h
  split at h
  · exact plain h
  · rename_i o ho
    rw [nth_eq, Array.getElem?_toList] at ho
    have group : (heldG P ops L g a o fun g' a' => c g' a' L).all K → wpOp P ops Q i K' b W := fun h => by
      obtain ⟨g', a', v, h1, h2, h3, h4⟩ := heldG_sound (fun p hp => (hr.blk p hp).1) hf hi h
      exact h1.wpOp ho (fun p hp => (hr.blk p hp).1) (hK _ _ _ _ _ h4 h2 h3 hr)
    split at h
    · split at h
      · split at h
        · exact (litT_spec h).elim plain group
        · exact group h
      · exact plain h
    · split at h
      · exact group h
      · exact plain h
    · exact plain h
theorem evOps_sound (hS : S.holds P) {fn : FuncId} {call : CallE α} (hs : SoundC P w0 keep K call) {ops : Array Oper} {Q : Exit → Act → World → Prop} {c : F → List Blk → T α} : ∀ (l : List Nat) {g : Option G} {a : F} {L : List Blk}, (evOps P S fn call ops c l g a L).all K →
    ∀ {b : Act} {W : World}, RelF a b → Inv g b → Rep w0 keep L W → (∀ a' L' b' W', (c a' L').all K → RelF a' b' → Rep w0 keep L' W' → Q .normal b' W') → wpOps P ops Q l b W
  | [], g, a, L, h, b, W, hf, _, hr, hQ => hQ _ _ _ _ h hf hr
  | i :: rest, g, a, L, h, b, W, hf, hi, hr, hQ => by
    rw [wpOps_cons]
    exact evAtG_sound hS hs (c := evOps P S fn call ops c rest) h hf hi hr (fun g' a' L' b' W' hk hf' hi' hr' => evOps_sound hS hs rest hk hf' hi' hr' hQ)
theorem backAll_sound : ∀ (L0 : List Blk) {L : List Blk} {k : List Blk → T α}, (backAll L0 L k).all K → ∃ l, (∀ b ∈ l, b ∈ L) ∧ (k l).all K
  | [], L, k, h => ⟨[], fun _ h => (by cases h), h⟩
  | p :: ps, L, k, h => by
    simp only [backAll] at h
    obtain ⟨b, j, hj, -, h⟩ := pickT_spec h
    obtain ⟨l, h1, h2⟩ := backAll_sound ps h
    refine ⟨b :: l, fun x hx => ?_, h2⟩
    rcases List.mem_cons.1 hx with rfl | hx
    · exact List.mem_of_getElem? hj
    · exact h1 x hx
theorem backTT_sound {L0 L1 : List Blk} {k : T α} (h : (backTT L0 L1 k).all K) : (∀ b ∈ L0, b ∈ L1) ∧ k.all K := by
  obtain ⟨d, d1, h1, h⟩ := h
  obtain ⟨l, h2, h3, h⟩ := backAll_sound _ h
  refine ⟨fun b hb => ?_, h⟩
  rw [← List.take_append_drop d L0] at hb
  rcases List.mem_append.1 hb with hb | hb
  · rw [tok_blks h3] at hb
    exact h2 b hb
  · rw [tok_blks h1] at hb
    exact List.mem_of_mem_drop hb
theorem heldT_sound {ops : Array Oper} {m : Nat} {g : Option G} {a : F} {L0 : List Blk} {b : Act} {W0 : World} (h0 : There L0 W0) (hrel : RelF a b) (hi : Inv g b) {i : Nat} {k : Option G → F → T α} (h : (heldT P ops m g a L0 i k).all K) :
    ∃ g' a' o v, ops[i]? = some o ∧ i ∈ readyM ops m ∧ Region.free .any ops (listedOf ops.size m) i = true ∧ YieldsIf P ops (There L0) o v b ∧ RelF a' (b.put o.dst v) ∧ Inv g' (b.put o.dst v) ∧ (k g' a').all K := by
  unfold heldT at h
  split at h
  · exact h.elim
  rename_i hrd
  have hrd := isReady_spec hrd
  split at h
  · exact h.elim
  rename_i hf
  split at h
  · exact h.elim
  rename_i o ho
  have hf := freeM_spec ho hf
  have group : (heldG P ops L0 g a o k).all K → ∃ g' a' o v, ops[i]? = some o ∧ i ∈ readyM ops m ∧ Region.free .any ops (listedOf ops.size m) i = true ∧ YieldsIf P ops (There L0) o v b ∧ RelF a' (b.put o.dst v) ∧ Inv g' (b.put o.dst v) ∧ (k g' a').all K := fun h => by
    obtain ⟨g', a', v, h1, h2, h3, h4⟩ := heldG_sound h0 hrel hi h
    exact ⟨g', a', o, v, ho, hrd, hf, h1, h2, h3, h4⟩
  have fork : (guardT a ops o (fun a => heldV P a L0 o fun v => k none (a.put o.dst v)) (fun a => k none (a.put o.dst undef))).all K → ∃ g' a' o v, ops[i]? = some o ∧ i ∈ readyM ops m ∧ Region.free .any ops (listedOf ops.size m) i = true ∧ YieldsIf P ops (There L0) o v b ∧ RelF a' (b.put o.dst v) ∧ Inv g' (b.put o.dst v) ∧ (k g' a').all K := fun h => by
    obtain ⟨a', hrel', h⟩ := guardT_spec hrel h
    rcases h with ⟨hw, h⟩ | ⟨hw, h⟩
    · obtain ⟨v, h1, h2⟩ := heldV_sound h0 h
      rw [hrel'.eval] at h1
      exact ⟨_, _, o, v, ho, hrd, hf, .inl ⟨hw, fun W hS => h1 W hS⟩, hrel'.put _ _, Inv.none _, h2⟩
    · exact ⟨_, _, o, undef, ho, hrd, hf, .inr ⟨hw, rfl⟩, hrel'.put _ _, Inv.none _, h⟩
  split at h
  · split at h
    · split at h
      · exact (litT_spec h).elim fork group
      · exact group h
    · exact fork h
  · exact group h
theorem firstSimple_spec {P : Program} {ops : Array Oper} {m : Nat} {a : F} {b : Act} (hf : RelF a b) : ∀ (rs : List Nat) {i : Nat} {o : Oper} {s : Shape}, firstSimple P ops m a rs = some (i, o, s) →
    i ∈ readyM ops m ∧ ops[i]? = some o ∧ plainOp o = true ∧ FreeAt ops (listedOf ops.size m) i o ∧ ((Region.wanted o (yielded ops b.tmps) = false ∧ s = .act [] undef) ∨ (Region.wanted o (yielded ops b.tmps) = true ∧ shapeOf P (stoOp o) (execOp b.eval o) = some s))
  | [], _, _, _, h => by cases h
  | i :: rest, i', o', s', h => by
    have more : firstSimple P ops m a rest = some (i', o', s') → i' ∈ readyM ops m ∧ ops[i']? = some o' ∧ plainOp o' = true ∧ FreeAt ops (listedOf ops.size m) i' o' ∧ ((Region.wanted o' (yielded ops b.tmps) = false ∧ s' = .act [] undef) ∨ (Region.wanted o' (yielded ops b.tmps) = true ∧ shapeOf P (stoOp o') (execOp b.eval o') = some s')) := fun h => by
      exact firstSimple_spec hf rest h
    unfold firstSimple at h
    split at h
    · cases h
    · rename_i o ho
      split at h
      · exact more h
      · rename_i hfr
        simp only [Bool.and_eq_true] at hfr
        obtain ⟨hrd, hpl, hfr⟩ := hfr
        have hfr := freeM_spec ho hfr
        have hrd := isReady_spec hrd
        split at h
        · rename_i hw
          injection h with h
          simp only [Prod.mk.injEq] at h
          obtain ⟨rfl, rfl, rfl⟩ := h
          exact ⟨hrd, ho, hpl, Region.free_spec ho hfr, .inl ⟨by rw [← hf.yielded]; exact hw, rfl⟩⟩
        · rename_i hw
          split at h
          · rename_i s hs
            injection h with h
            simp only [Prod.mk.injEq] at h
            obtain ⟨rfl, rfl, rfl⟩ := h
            exact ⟨hrd, ho, hpl, Region.free_spec ho hfr, .inr ⟨by rw [← hf.yielded]; exact hw, by rw [← hf.eval]; exact hs⟩⟩
          · exact more h
def blkOf (p : Nat × Obj) : Blk := ⟨p.1, .obj p.2, true⟩
def look : List (Nat × Obj) → News
  | [], _ => none
  | (n, o) :: M, k => if k = n then some o else look M k
theorem look_none {M : List (Nat × Obj)} {k : Nat} : look M k = none ↔ k ∉ M.map (·.1) := by
  induction M with
  | nil => simp [look]
  | cons p M ih =>
    simp only [look, List.map_cons, List.mem_cons, not_or]
    split
    · rename_i h; simp [h]
    · rename_i h; rw [ih]; exact ⟨fun h1 => ⟨h, h1⟩, fun h1 => h1.2⟩
theorem look_at : ∀ {M : List (Nat × Obj)} {j n : Nat} {o : Obj}, (M.map (·.1)).Nodup → M[j]? = some (n, o) → look M n = some o
  | [], j, n, o, _, h => by cases h
  | p :: M, 0, n, o, _, h => by
    simp only [List.getElem?_cons_zero, Option.some.injEq] at h
    subst h
    simp [look]
  | p :: M, j + 1, n, o, hd, h => by
    rw [List.map_cons, List.nodup_cons] at hd
    have h' : M[j]? = some (n, o) := by simpa using h
    have hm : n ∈ M.map (·.1) := List.mem_map.2 ⟨(n, o), List.mem_of_getElem? h', rfl⟩
    have hne : n ≠ p.1 := fun he => hd.1 (he ▸ hm)
    simp only [look, if_neg hne]
    exact look_at hd.2 h'
theorem look_set : ∀ {M : List (Nat × Obj)} {j n : Nat} {o o' : Obj}, (M.map (·.1)).Nodup → M[j]? = some (n, o) → look (M.set j (n, o')) = putN (look M) n o'
  | [], j, n, o, o', _, h => by cases h
  | p :: M, 0, n, o, o', _, h => by
    simp only [List.getElem?_cons_zero, Option.some.injEq] at h
    subst h
    funext k
    simp only [List.set_cons_zero, look, putN]
    split <;> rfl
  | p :: M, j + 1, n, o, o', hd, h => by
    rw [List.map_cons, List.nodup_cons] at hd
    have h' : M[j]? = some (n, o) := by simpa using h
    have hm : n ∈ M.map (·.1) := List.mem_map.2 ⟨(n, o), List.mem_of_getElem? h', rfl⟩
    have hne : n ≠ p.1 := fun he => hd.1 (he ▸ hm)
    funext k
    simp only [List.set_cons_succ, look, putN]
    rw [look_set hd.2 h']
    simp only [putN]
    by_cases h1 : k = p.1
    · simp [h1, Ne.symm hne]
    · by_cases h2 : k = n <;> simp [h1, h2, hne]
theorem map_set_fst : ∀ {M : List (Nat × Obj)} {j n : Nat} {o o' : Obj}, M[j]? = some (n, o) → (M.set j (n, o')).map (·.1) = M.map (·.1)
  | [], j, n, o, o', h => by cases h
  | p :: M, 0, n, o, o', h => by
    simp only [List.getElem?_cons_zero, Option.some.injEq] at h
    subst h
    rfl
  | p :: M, j + 1, n, o, o', h => by
    simp only [List.set_cons_succ, List.map_cons]
    rw [map_set_fst (by simpa using h)]
theorem layN_sound {L0 : List Blk} : ∀ (l : List (Addr × Value)) {M : List (Nat × Obj)} {L : List Blk} {k : List Blk → T α}, (layN M.length l L k).all K → L = M.map blkOf ++ L0 → (M.map (·.1)).Nodup →
    ∃ M' L', stos (look M) l = some (look M') ∧ L' = M'.map blkOf ++ L0 ∧ M'.length = M.length ∧ (M'.map (·.1)).Nodup ∧ (k L').all K
  | [], M, L, k, h, hL, hd => ⟨M, L, rfl, hL, rfl, hd, h⟩
  | p :: r, M, L, k, h, hL, hd => by
    simp only [layN] at h
    obtain ⟨b, j, hj, hb, h⟩ := pickT_spec h
    split at h
    · rename_i n c t lo hi ow
      split at h
      · rename_i hlt hs ho
        split at h
        · rename_i u hu hf
          have h := forceT_spec h
          have hb : p.1.block = n := hb
          have hjm : j < M.length := by simpa using hlt
          rw [hL, List.getElem?_append_left (by simpa using hjm), List.getElem?_map] at hj
          obtain ⟨q, hq, hqe⟩ := Option.map_eq_some_iff.1 hj
          obtain ⟨qn, qo⟩ := q
          simp only [blkOf, Blk.mk.injEq, Cont.obj.injEq] at hqe
          obtain ⟨rfl, rfl, -⟩ := hqe
          have hlook := look_at hd hq
          have h1 := sto1_of (N := look M) (p := p) (by rw [hb]; exact hlook) hs ho hu hf
          rw [hb, ← look_set hd hq] at h1
          have hset : (M.set j (qn, .cells (c.setIfInBounds p.1.off p.2) t (lo, hi))).length = M.length := by simp
          rw [← hset] at h
          obtain ⟨M', L', g1, g2, g3, g4, g5⟩ := layN_sound r (M := M.set j (qn, .cells (c.setIfInBounds p.1.off p.2) t (lo, hi))) h (by
            rw [hL, List.set_append_left _ _ (by simpa using hjm), List.map_set]
            rfl) (by rw [map_set_fst hq]; exact hd)
          refine ⟨M', L', ?_, g2, by rw [g3, hset], g4, g5⟩
          simp only [stos, h1]
          exact g1
        · exact h.elim
      · exact h.elim
    · exact h.elim
theorem evRest_can {ops : Array Oper} {fin : RestE α} {Fin : Nat → Array Bool → Act → News → Prop} {L0 : List Blk} (hFin : ∀ k l a L b M, (fin k l a L).all K → RelF a b → L = M.map blkOf ++ L0 → (M.map (·.1)).Nodup → Fin k (listedOf ops.size l) b (look M)) : ∀ (n : Nat) {td : List Nat} {m : Nat} {a : F} {L : List Blk} {b : Act} {M : List (Nat × Obj)}, (evRest P ops fin n td M.length m a L).all K →
    RelF a b → L = M.map blkOf ++ L0 → (M.map (·.1)).Nodup → CanK P ops Fin n (listedOf ops.size m) b (look M)
  | 0, td, m, a, L, b, M, h, hf, hL, hd => by
    simp only [evRest] at h
    split at h
    · rename_i hrd
      exact ⟨allPlain_spec hrd, hFin _ _ _ _ _ _ h hf hL hd⟩
    · exact h.elim
  | n + 1, td, m, a, L, b, M, h, hf, hL, hd => by
    simp only [evRest] at h
    split at h
    · rename_i hrd
      exact .inl ⟨allPlain_spec hrd, hFin _ _ _ _ _ _ h hf hL hd⟩
    · split at h
      · rename_i i o l v hs
        obtain ⟨h1, h2, hp, h3, h4⟩ := firstSimple_spec hf _ hs
        obtain ⟨M', L', g1, g2, g3, g4, g5⟩ := layN_sound l h hL hd
        rw [← g3] at g5
        refine .inr ⟨i, o, .act l v, h2, hp, by rw [readyM_eq]; exact h1, h3, ?_, look M', g1, by rw [listedOf_set]; exact evRest_can hFin n g5 (hf.put _ _) g2 g4⟩
        rcases h4 with ⟨hw, he⟩ | ⟨hw, he⟩
        · injection he with he1 he2; exact .inr ⟨hw, he1, he2⟩
        · obtain ⟨q1, nx, q2, q3⟩ := shapeOf_act he
          exact .inl ⟨hw, q1, nx, q2, q3⟩
      · rename_i i o c k hs
        obtain ⟨h1, h2, hp, h3, h4⟩ := firstSimple_spec hf _ hs
        rcases h4 with ⟨hw, he⟩ | ⟨hw, he⟩
        · cases he
        have hv : ∀ b, ∃ v, pureOf P (k b) = some v ∧ (evRest P ops fin n (dropOne i td) (M.length + 1) (m ||| 1 <<< i) (a.put o.dst v) (⟨b, .obj c, true⟩ :: L)).all K := fun b => by
          have hm := h ⟨b, 0, false, undef, []⟩
          dsimp only at hm
          split at hm
          · rename_i v hp
            exact ⟨v, hp, hm⟩
          · exact hm.elim
        refine .inr ⟨i, o, .new c (fun m => (pureOf P (k m)).getD undef), h2, hp, by rw [readyM_eq]; exact h1, h3, ⟨hw, k, shapeOf_new he, fun b => ?_⟩, fun b hm => ?_⟩
        · obtain ⟨v, hp, -⟩ := hv b
          simp only [hp, Option.getD_some]
        · obtain ⟨v, hp, hmm⟩ := hv b
          simp only [hp, Option.getD_some]
          rw [listedOf_set]
          have := evRest_can hFin n (M := (b, c) :: M) hmm (hf.put _ _) (by rw [hL]; rfl) (by rw [List.map_cons, List.nodup_cons]; exact ⟨look_none.1 hm, hd⟩)
          exact this
      · exact h.elim
theorem Rep.grown {w1 W : World} {L L' : List Blk} {M : List (Nat × Obj)} (hr : Rep w0 keep L w1) (hg : Grown w1 (look M) W) (hd : (M.map (·.1)).Nodup) (hL : L' = M.map blkOf ++ L) : Rep w0 keep L' W := by
  have hlt : ∀ p ∈ L, p.nm < w1.heap.size := fun p hp => by
    obtain ⟨o, ho⟩ := Cont.some_of (hr.blk p hp).1
    exact (Array.getElem?_eq_some_iff.1 ho).1
  have hblk : ∀ q ∈ M, w1.heap.size ≤ q.1 ∧ W.heap[q.1]? = some q.2 := fun q hq => by
    obtain ⟨j, hj⟩ := List.mem_iff_getElem?.1 hq
    exact hg.blk _ _ (look_at hd hj)
  refine ⟨hg.os.trans hr.os, hg.tape.trans hr.tape, hg.output.trans hr.output, Nat.le_trans hr.size hg.size, fun k hk hkeep => (hg.old k (Nat.lt_of_lt_of_le hk hr.size)).trans (hr.old k hk hkeep), fun p hp => ?_, ?_⟩
  · rw [hL] at hp
    rcases List.mem_append.1 hp with hp | hp
    · obtain ⟨q, hq, rfl⟩ := List.mem_map.1 hp
      obtain ⟨h1, h2⟩ := hblk q hq
      refine ⟨h2, fun _ h3 => ?_⟩
      have := hr.size
      simp only [blkOf] at h3
      omega
    · refine ⟨?_, (hr.blk p hp).2⟩
      rw [hg.old _ (hlt p hp)]
      exact (hr.blk p hp).1
  · rw [hL, List.pairwise_append]
    refine ⟨?_, hr.far, fun p hp q hq => ?_⟩
    · rw [List.pairwise_map]
      have := hd
      rw [List.Nodup, List.pairwise_map] at this
      refine this.imp fun {x y} hne => ?_
      exact fun _ => hne
    · obtain ⟨p', hp', rfl⟩ := List.mem_map.1 hp
      have h1 := (hblk p' hp').1
      have h2 := hlt q hq
      exact fun _ => by simp only [blkOf]; omega
theorem waitM_spec {ops : Array Oper} {f i : Nat} (hi : i < ops.size) (h : (waitM ops f).testBit i = true) : ∃ of, ops[f]? = some of ∧ ∃ e ∈ of.after, Region.binds .any e = true ∧ e.on = i := by
  unfold waitM at h
  split at h
  · rename_i of ho
    simp only [orAll_testBit] at h
    obtain ⟨e, he, hk⟩ := h
    split at hk
    · rename_i hb
      injection hk with hk
      exact ⟨of, ho, e, by simpa using he, hb, hk⟩
    · cases hk
  · rw [testBit_one_shift, decide_eq_true_eq] at h
    omega
theorem waitM_of {ops : Array Oper} {f : Nat} {of : Oper} (ho : ops[f]? = some of) {e : Edge} (he : e ∈ of.after) (hb : Region.binds .any e = true) : (waitM ops f).testBit e.on = true := by
  unfold waitM
  rw [ho]
  simp only [orAll_testBit]
  exact ⟨e, by simpa using he, by rw [hb]⟩
theorem orWaits_spec {ops : Array Oper} {acc i : Nat} : ∀ {l : List Nat}, (orWaits ops acc l).testBit i = true → acc.testBit i = true ∨ ∃ j, acc.testBit j = true ∧ (waitM ops j).testBit i = true
  | [], h => .inl h
  | j :: r, h => by
    unfold orWaits at h
    rw [tb_eq] at h
    split at h
    · rename_i hj
      change ((waitM ops j) ||| (orWaits ops acc r)).testBit i = true at h
      rw [Nat.testBit_or, Bool.or_eq_true] at h
      rcases h with h | h
      · exact .inr ⟨j, hj, h⟩
      · exact orWaits_spec h
    · exact orWaits_spec h
theorem closM_spec {ops : Array Oper} {f : Nat} : ∀ (n : Nat) {acc : Nat}, (∀ i, i < ops.size → acc.testBit i = true → Waits ops i f) → ∀ i, i < ops.size → (closM ops n acc).testBit i = true → Waits ops i f
  | 0, _, h => h
  | n + 1, acc, h => by
    unfold closM
    split
    · exact h
    · refine closM_spec n fun i hlt hi => ?_
      rcases orWaits_spec hi with hi | ⟨j, hj, hi⟩
      · exact h i hlt hi
      · obtain ⟨oj, ho, e, he, hb, hon⟩ := waitM_spec hlt hi
        exact Waits.trans (.direct ho he hb hon) (h j (Array.getElem?_eq_some_iff.1 ho).1 hj)
theorem finM_spec {ops : Array Oper} {i : Nat} (hlt : i < ops.size) : ∀ {fs : List Nat}, (finM ops fs).testBit i = true → ∀ f ∈ fs, Waits ops i f
  | [], _ => fun _ h => by cases h
  | g :: r, h => by
    change ((closW ops g) &&& (finM ops r)).testBit i = true at h
    rw [Nat.testBit_and, Bool.and_eq_true] at h
    intro f hf
    rcases List.mem_cons.1 hf with rfl | hf
    · refine closM_spec _ (fun i hlt hi => ?_) i hlt h.1
      obtain ⟨oj, ho, e, he, hb, hon⟩ := waitM_spec hlt hi
      exact .direct ho he hb hon
    · exact finM_spec hlt h.2 f hf
theorem closed_zero (ops : Array Oper) : ClosedL ops (listedOf ops.size 0) := fun j oj hj hl => by
  rw [listedOf_getD] at hl
  split at hl <;> simp at hl
theorem closedM_spec {ops : Array Oper} {m : Nat} (h : closedM ops m = true) : ClosedL ops (listedOf ops.size m) := fun j oj hj hl e he hb => by
  rw [listedOf_getD] at hl ⊢
  split at hl
  · rename_i hlt
    simp only [closedM, List.all_eq_true, List.mem_range, tb_eq] at h
    have h1 := h j hlt
    rw [hl] at h1
    simp only [Bool.not_true, Bool.false_or, Bool.and_eq_true] at h1
    have hw := waitM_of hj he hb
    have h2 := subM_spec.1 h1.2 _ hw
    have h3 : waitM ops j < 1 <<< ops.size := by
      have := h1.1
      rwa [Nat.blt_eq] at this
    rw [if_pos]
    · exact h2
    · refine Nat.lt_of_not_le fun hle => ?_
      rw [Nat.testBit_lt_two_pow (Nat.lt_of_lt_of_le h3 (by rw [Nat.one_shiftLeft]; exact Nat.pow_le_pow_right (by omega) hle))] at hw
      cases hw
  · cases hl
def RestS (P : Program) (w0 : World) (keep : Nat → Prop) (K : α → Prop) (ops : Array Oper) (fs : List Nat) (L0 : List Blk) (c : F → List Blk → T α) (rest : RestE α) : Prop :=
  ∀ (n m : Nat) (a : F) (L : List Blk) (Q : Exit → Act → World → Prop), (∀ c a w, ¬ Q (.panic c) a w) → (rest n m a L).all K → ClosedL ops (listedOf ops.size m) → ∀ (b : Act) (W : World), RelF a b → Rep w0 keep L W → There L0 W →
    (∀ a' L' b' W', (c a' L').all K → RelF a' b' → Rep w0 keep L' W' → Q .normal b' W') → wpAnyX P ops Q (There L0) (fun j => j ∈ fs) n (listedOf ops.size m) b W
theorem evRest_sound {ops : Array Oper} {fs : List Nat} (hns : Region.noSelect ops = true) {L0 : List Blk} {c : F → List Blk → T α} {fin : RestE α} (hf0 : RestS P w0 keep K ops fs L0 c fin) (m : Nat) (hord : ordered ops (listedOf ops.size m) = true) (hch : chained ops (listedOf ops.size m) = true) (n : Nat) (td : List Nat) (a : F) (L : List Blk) (Q : Exit → Act → World → Prop) (hQ0 : ∀ c a w, ¬ Q (.panic c) a w) (h : (evRest P ops (fun n m a L => match closedM ops m with
    | true => fin n m a L
    | false => .fail) n td 0 m a L).all K) (b : Act) (W : World) (hf : RelF a b) (hr : Rep w0 keep L W) (hS : There L0 W)
    (hQ : ∀ a' L' b' W', (c a' L').all K → RelF a' b' → Rep w0 keep L' W' → Q .normal b' W') : wpAnyX P ops Q (There L0) (fun j => j ∈ fs) n (listedOf ops.size m) b W := by
  have hthere : ∀ N W', Grown W N W' → There L0 W' := fun N W' hg p hp => by
    have h1 := hS p hp
    obtain ⟨o, ho⟩ := Cont.some_of h1
    rw [hg.old _ (Array.getElem?_eq_some_iff.1 ho).1]
    exact h1
  refine canK_any hns (w1 := W) (N := look []) hthere n (ordered_spec hord) (chained_spec hch) (evRest_can (L0 := L) (M := []) (fun k l a' L' b' M hk hf' hL hd W' hg => ?_) n h hf rfl List.nodup_nil) ⟨rfl, rfl, rfl, Nat.le_refl _, fun _ _ => rfl, fun _ _ hp => (by cases hp)⟩
  split at hk
  · rename_i hcm
    exact hf0 k l a' L' Q hQ0 hk (closedM_spec hcm) b' W' hf' (hr.grown hg hd hL) (hthere _ W' hg) hQ
  · exact hk.elim
theorem evFin_sound (hSS : S.holds P) {fn : FuncId} {call : CallE α} (hs : SoundC P w0 keep K call) {ops : Array Oper} {fs : List Nat} {L0 : List Blk} {c : F → List Blk → T α} :
    ∀ (n : Nat) (m : Nat) (a : F) (L : List Blk) (Q : Exit → Act → World → Prop), (evFin P S fn call ops fs c n m a L).all K →
    ∀ (b : Act) (W : World), RelF a b → Rep w0 keep L W → (∀ a' L' b' W', (c a' L').all K → RelF a' b' → Rep w0 keep L' W' → Q .normal b' W') → wpAnyX P ops Q (There L0) (fun j => j ∈ fs) n (listedOf ops.size m) b W
  | 0, m, a, L, Q, h, b, W, hf, hr, hQ => by
    simp only [evFin] at h
    split at h
    · rename_i hrd
      exact wpAnyX_done (by rw [readyM_eq]; exact hrd) (hQ _ _ _ _ h hf hr) 0
    · exact h.elim
  | n + 1, m, a, L, Q, h, b, W, hf, hr, hQ => by
    simp only [evFin] at h
    split at h
    · rename_i hrd
      exact wpAnyX_done (by rw [readyM_eq]; exact hrd) (hQ _ _ _ _ h hf hr) (n + 1)
    · rename_i i r hrd
      refine wpAnyX_all (rs := i :: r) (by rw [readyM_eq]; exact hrd) (by simp) fun k hk => ?_
      have h := outsT_all h k hk
      split at h
      · rename_i hkf
        refine evAt_sound hSS hs h hf hr (fun a' L' b' W' hk hf' hr' => ?_)
        exact ⟨.inl (by simpa using hkf), by rw [listedOf_set]; exact evFin_sound hSS hs n _ _ _ Q hk _ _ hf' hr' hQ⟩
      · exact h.elim
theorem rep_hide {L : List Blk} {W : World} {H : Nat → Prop} (hr : Rep w0 keep L W) (hown : ∀ p ∈ L, p.own = true → ¬ H p.nm) : Rep W (fun k => (k < w0.heap.size ∧ keep k) ∨ H k) L W :=
  ⟨rfl, rfl, rfl, Nat.le_refl _, fun _ _ _ => rfl, fun p hp => ⟨(hr.blk p hp).1, fun ho _ hk => hk.elim (fun h => (hr.blk p hp).2 ho h.1 h.2) (hown p hp ho)⟩, hr.far⟩
theorem rep_show {L L' : List Blk} {W W' : World} {H : Nat → Prop} (hr : Rep w0 keep L W) (hH : ∀ k, H k → k < W.heap.size) (h : Rep W (fun k => (k < w0.heap.size ∧ keep k) ∨ H k) L' W') :
    Rep w0 keep L' W' ∧ (∀ k, H k → W'.heap[k]? = W.heap[k]?) ∧ (∀ p ∈ L', p.own = true → ¬ H p.nm) ∧ W.heap.size ≤ W'.heap.size := by
  refine ⟨⟨h.os.trans hr.os, h.tape.trans hr.tape, h.output.trans hr.output, Nat.le_trans hr.size h.size, fun k hk hkp => (h.old k (Nat.lt_of_lt_of_le hk hr.size) (.inl ⟨hk, hkp⟩)).trans (hr.old k hk hkp), fun p hp => ⟨(h.blk p hp).1, fun ho hlt hkp => (h.blk p hp).2 ho (Nat.lt_of_lt_of_le hlt hr.size) (.inl ⟨hlt, hkp⟩)⟩, h.far⟩, fun k hk => h.old k (hH k hk) (.inr hk), fun p hp ho hk => (h.blk p hp).2 ho (hH _ hk) (.inr hk), h.size⟩
theorem RelF.over {f : F} {a : Act} {d : Nat} {v u : Value} (h : RelF (f.put (some d) v) a) : RelF (f.put (some d) u) (a.put (some d) u) := by
  have h2 := h.put (some d) u
  obtain ⟨n, w⟩ := f
  have e : ∀ w : List (Nat × Value), F.put ⟨n, w⟩ (some d) u = match Nat.blt d n with
      | true => ⟨n, (d, u) :: w⟩
      | false => ⟨n, w⟩ := fun _ => rfl
  have e2 : F.put ⟨n, w⟩ (some d) v = match Nat.blt d n with
      | true => ⟨n, (d, v) :: w⟩
      | false => ⟨n, w⟩ := rfl
  rw [e2] at h2
  rw [e w]
  split at h2
  · rename_i hb
    have e3 : F.put ⟨n, (d, v) :: w⟩ (some d) u = ⟨n, (d, u) :: (d, v) :: w⟩ := by rw [e, hb]
    rw [e3] at h2
    refine ⟨h2.defers, h2.size, fun t => ?_⟩
    rw [h2.get t]
    show getW ((d, u) :: (d, v) :: w) t = getW ((d, u) :: w) t
    rw [getW_cons, getW_cons, getW_cons]
    split <;> rfl
  · rename_i hb
    have e3 : F.put ⟨n, w⟩ (some d) u = ⟨n, w⟩ := by rw [e, hb]
    rw [e3] at h2
    exact h2
theorem oldT_spec {Ls : List Blk} {k : T α} : ∀ {L : List Blk}, (oldT Ls L k).all K → (∀ p ∈ L, p.own = false → ∃ q ∈ Ls, q.nm = p.nm) ∧ k.all K
  | [], h => ⟨fun _ h => (by cases h), h⟩
  | p :: r, h => by
    unfold oldT at h
    split at h
    · rename_i ho
      obtain ⟨h1, h2⟩ := oldT_spec h
      refine ⟨fun q hq hno => ?_, h2⟩
      rcases List.mem_cons.1 hq with rfl | hq
      · rw [ho] at hno; cases hno
      · exact h1 q hq hno
    · obtain ⟨b, j, hj, hb, h⟩ := pickT_spec h
      obtain ⟨h1, h2⟩ := oldT_spec h
      refine ⟨fun q hq hno => ?_, h2⟩
      rcases List.mem_cons.1 hq with rfl | hq
      · exact ⟨b, List.mem_of_getElem? hj, hb.symm⟩
      · exact h1 q hq hno
theorem oldTT_spec {Ls L : List Blk} {k : T α} (h : (oldTT Ls L k).all K) : (∀ p ∈ L, p.own = false → ∃ q ∈ Ls, q.nm = p.nm) ∧ k.all K := by
  rcases two_spec h with h | h
  · exact oldT_spec h
  · obtain ⟨d, d1, h1, h⟩ := h
    obtain ⟨h2, h⟩ := oldT_spec h
    refine ⟨fun p hp hno => ?_, h⟩
    rw [← List.take_append_drop d L] at hp
    rcases List.mem_append.1 hp with hp | hp
    · exact h2 p hp hno
    · rw [tok_blks h1] at hp
      exact ⟨p, List.mem_of_mem_drop hp, rfl⟩
theorem eqN_spec : ∀ {l r : List Nat}, eqN l r = true → l = r
  | [], [], _ => rfl
  | [], _ :: _, h => by cases h
  | _ :: _, [], h => by cases h
  | a :: l, b :: r, h => by
    unfold eqN at h
    split at h
    · rename_i hb
      rw [Nat.eq_of_beq_eq_true hb, eqN_spec h]
    · cases h
theorem mem_dropOne {i k : Nat} (hne : k ≠ i) : ∀ {l : List Nat}, k ∈ l → k ∈ dropOne i l
  | [], h => by cases h
  | j :: r, h => by
    unfold dropOne
    split
    · rename_i hb
      have hb := Nat.eq_of_beq_eq_true hb
      rcases List.mem_cons.1 h with rfl | h
      · exact absurd hb.symm hne
      · exact h
    · rcases List.mem_cons.1 h with rfl | h
      · exact List.mem_cons_self
      · exact List.mem_cons_of_mem _ (mem_dropOne hne h)
theorem dropOne_sub {i k : Nat} : ∀ {l : List Nat}, k ∈ dropOne i l → k ∈ l
  | [], h => by cases h
  | j :: r, h => by
    unfold dropOne at h
    split at h
    · exact List.mem_cons_of_mem _ h
    · rcases List.mem_cons.1 h with rfl | h
      · exact List.mem_cons_self
      · exact List.mem_cons_of_mem _ (dropOne_sub h)
def allocS (t : TypeId) : Sem Next := (((((Sem.program fun p => Sem.pure p).bind fun p => match p.info? t with
  | some i => (Sem.pure i : Sem TypeInfo)
  | none => stuck "no such type").bind fun i => match i.zero with
  | some v => (Sem.pure v : Sem Value)
  | none => unsupported (.resourceLimit "a value of more than 2^22 cells")).bind fun z => (((Sem.new (.cells z.cells t) fun r => Sem.pure r).bind fun r => Sem.pure (⟨r, 0, none⟩ : Addr)).bind fun ad => Sem.pure (Value.pointer (some ad)))).bind fun v => Sem.pure (Next.value v))
theorem alloc_wp {ops : Array Oper} {i d t : Nat} {z : Array Value} (h : allocOf P ops i = some (d, t, z)) {b : Act} {W : World} {Q : Exit → Act → World → Prop} {K' : Act → World → Prop}
    (hK : K' (b.put (some d) (.pointer (some ⟨W.heap.size, 0, none⟩))) { W with heap := W.heap.push (.cells z t (0, 0)) }) : wpOp P ops Q i K' b W := by
  unfold allocOf at h
  split at h
  · rename_i o ho
    split at h
    · rename_i d' t' hg hd hop
      split at h
      · rename_i inf hi
        split at h
        · rename_i zz hz
          injection h with h
          simp only [Prod.mk.injEq] at h
          obtain ⟨rfl, rfl, rfl⟩ := h
          have hw : Region.wanted o (yielded ops b.tmps) = true := by unfold Region.wanted; simp only [hg]
          have ex : execOp b.eval o = allocS t' := by
            unfold execOp
            rw [hop]
            rfl
          have hrun : (execOp b.eval o).run P W = .ok (.value (.pointer (some ⟨W.heap.size, 0, none⟩))) { W with heap := W.heap.push (.cells zz.cells t' (0, 0)) } := by
            rw [ex]
            show ((((match P.info? t' with
              | some i => (Sem.pure i : Sem TypeInfo)
              | none => stuck "no such type").bind fun i => match i.zero with
              | some v => (Sem.pure v : Sem Value)
              | none => unsupported (.resourceLimit "a value of more than 2^22 cells")).bind fun z => (((Sem.new (.cells z.cells t') fun r => Sem.pure r).bind fun r => Sem.pure (⟨r, 0, none⟩ : Addr)).bind fun ad => Sem.pure (Value.pointer (some ad)))).bind fun v => Sem.pure (Next.value v)).run P W = _
            rw [hi]
            show (((match inf.zero with
              | some v => (Sem.pure v : Sem Value)
              | none => unsupported (.resourceLimit "a value of more than 2^22 cells")).bind fun z => (((Sem.new (.cells z.cells t') fun r => Sem.pure r).bind fun r => Sem.pure (⟨r, 0, none⟩ : Addr)).bind fun ad => Sem.pure (Value.pointer (some ad)))).bind fun v => Sem.pure (Next.value v)).run P W = _
            rw [hz]
            rfl
          unfold wpOp
          simp only [ho, hw, if_true]
          left
          unfold Oper.wp
          rw [hrun]
          show K' (b.put o.dst _) _
          rw [hd]
          exact hK
        · cases h
      · cases h
    · cases h
  · cases h
structure Fl (w0 : World) (keep : Nat → Prop) (x : Obj) (d : Nat) (Ls L0 : List Blk) (st : Option Nat) (a : F) (L : List Blk) (b : Act) (W : World) : Prop where
  rel : ∃ v, RelF (a.put (some d) v) b ∧ ∀ nb, st = some nb → v = .pointer (some ⟨nb, 0, none⟩)
  rep : Rep w0 keep L W
  there : There L0 W
  old : ∀ q ∈ Ls, q.nm < W.heap.size ∧ st ≠ some q.nm
  hid : ∀ nb, st = some nb → W.heap[nb]? = some x ∧ w0.heap.size ≤ nb
  own : ∀ p ∈ L, p.own = true → st ≠ some p.nm
section fl
variable {x : Obj} {d : Nat} {Ls L0 : List Blk} {a : F} {L : List Blk} {b : Act} {W : World}
theorem Fl.hide {st : Option Nat} (h : Fl w0 keep x d Ls L0 st a L b W) : Rep W (fun k => (k < w0.heap.size ∧ keep k) ∨ st = some k) L W := rep_hide (H := fun k => st = some k) h.rep h.own
theorem Fl.show {st : Option Nat} (h : Fl w0 keep x d Ls L0 st a L b W) {a' : F} {L' : List Blk} {b' : Act} {W' : World} (hr : Rep W (fun k => (k < w0.heap.size ∧ keep k) ∨ st = some k) L' W') {v : Value} (hf : RelF a' b') (hv : a'.get d = v) (hp : ∀ nb, st = some nb → v = .pointer (some ⟨nb, 0, none⟩)) (ht : There L0 W') : Fl w0 keep x d Ls L0 st a' L' b' W' := by
  have hH : ∀ k, st = some k → k < W.heap.size := fun k hk => (Array.getElem?_eq_some_iff.1 (h.hid k hk).1).1
  obtain ⟨g1, g2, g3, g4⟩ := rep_show (H := fun k => st = some k) h.rep hH hr
  exact ⟨⟨v, hf.same hv, hp⟩, g1, ht, fun q hq => ⟨Nat.lt_of_lt_of_le (h.old q hq).1 g4, (h.old q hq).2⟩, fun nb hnb => ⟨(g2 nb hnb).trans (h.hid nb hnb).1, (h.hid nb hnb).2⟩, g3⟩
theorem Fl.still {st : Option Nat} (h : Fl w0 keep x d Ls L0 st a L b W) {a' : F} {b' : Act} {v : Value} (hf : RelF a' b') (hv : a'.get d = v) (hp : ∀ nb, st = some nb → v = .pointer (some ⟨nb, 0, none⟩)) : Fl w0 keep x d Ls L0 st a' L b' W :=
  ⟨⟨v, hf.same hv, hp⟩, h.rep, h.there, h.old, h.hid, h.own⟩
theorem Fl.done (h : Fl w0 keep x d Ls L0 none a L b W) : Fl w0 keep x d Ls L0 (some W.heap.size) a L (b.put (some d) (.pointer (some ⟨W.heap.size, 0, none⟩))) { W with heap := W.heap.push x } := by
  obtain ⟨v, hv, -⟩ := h.rel
  have hp := h.rep.push x
  have hp' : Rep w0 keep L { W with heap := W.heap.push x } := hp.sub (List.sublist_cons_self _ _)
  refine ⟨⟨_, hv.over, fun nb hnb => by injection hnb with hnb; rw [hnb]⟩, hp', fun p hpm => ?_, fun q hq => ?_, fun nb hnb => ?_, fun p hpm _ he => ?_⟩
  · have h1 := h.there p hpm
    obtain ⟨o, ho⟩ := Cont.some_of h1
    have hlt := (Array.getElem?_eq_some_iff.1 ho).1
    show p.ct.sat (W.heap.push x)[p.nm]?
    rw [Array.getElem?_push, if_neg (by omega)]
    exact h1
  · have := (h.old q hq).1
    refine ⟨?_, fun he => ?_⟩
    · show q.nm < (W.heap.push x).size
      rw [Array.size_push]
      omega
    · injection he with he
      omega
  · injection hnb with hnb
    subst hnb
    refine ⟨?_, h.rep.size⟩
    show (W.heap.push x)[W.heap.size]? = some x
    rw [Array.getElem?_push, if_pos rfl]
  · injection he with he
    have := h.rep.lt hpm
    omega
theorem Fl.told {nb : Nat} (h : Fl w0 keep x d Ls L0 (some nb) a L b W) (hold : ∀ p ∈ L, p.own = false → ∃ q ∈ Ls, q.nm = p.nm) : RelF (a.put (some d) (.pointer (some ⟨nb, 0, none⟩))) b ∧ Rep w0 keep (⟨nb, .obj x, true⟩ :: L) W := by
  obtain ⟨v, hv, hp⟩ := h.rel
  rw [hp nb rfl] at hv
  obtain ⟨h1, h2⟩ := h.hid nb rfl
  refine ⟨hv, h.rep.os, h.rep.tape, h.rep.output, h.rep.size, h.rep.old, fun p hpm => ?_, ?_⟩
  · rcases List.mem_cons.1 hpm with rfl | hpm
    · refine ⟨h1, fun _ hlt => ?_⟩
      simp only at hlt
      omega
    · exact h.rep.blk p hpm
  · rw [List.pairwise_cons]
    refine ⟨fun q hq _ he => ?_, h.rep.far⟩
    have he : nb = q.nm := he
    cases ho : q.own with
    | true => exact h.own q hq ho (by rw [he])
    | false =>
      obtain ⟨p, hp1, hp2⟩ := hold q hq ho
      exact (h.old p hp1).2 (by rw [hp2, he])
end fl
theorem or_swap (m i j : Nat) : m ||| 1 <<< i ||| 1 <<< j = m ||| 1 <<< j ||| 1 <<< i := by
  refine Nat.eq_of_testBit_eq fun k => ?_
  simp only [Nat.testBit_or]
  cases m.testBit k <;> cases (1 <<< i).testBit k <;> cases (1 <<< j).testBit k <;> rfl
theorem evFl_sound (hSS : S.holds P) {fn : FuncId} {call : CallE α} (hs : ∀ w0 keep, SoundC P w0 keep K call) {ops : Array Oper} (hns : Region.noSelect ops = true) {fs : List Nat} {fw : Nat} (hfw : ∀ j, j < ops.size → fw.testBit j = true → ∀ f ∈ fs, Waits ops j f) {L0 : List Blk} {bk : List Blk → List Blk} (hbk : ∀ L p, p ∈ bk L → p ∈ L)
    {c : F → List Blk → T α} {i d t : Nat} {z : Array Value} (hal : allocOf P ops i = some (d, t, z)) {Ls : List Blk} {fin : RestE α} (hfin : RestS P w0 keep K ops fs L0 c fin) :
    ∀ (n : Nat) (m : Nat) (a : F) (L : List Blk) (Q : Exit → Act → World → Prop), (∀ c a w, ¬ Q (.panic c) a w) → (evFl P S fn call ops fw L0 bk i d (.cells z t (0, 0)) Ls fin n m a L).all K → ClosedL ops (listedOf ops.size m) → i ∈ readyM ops m →
    (∀ a' L' b' W', (c a' L').all K → RelF a' b' → Rep w0 keep L' W' → Q .normal b' W') →
      (∀ nb b W, Fl w0 keep (.cells z t (0, 0)) d Ls L0 (some nb) a L b W → wpAnyX P ops Q (There L0) (fun j => j ∈ fs) (n - 1) (listedOf ops.size (m ||| 1 <<< i)) b W) ∧
      (∀ b W, Fl w0 keep (.cells z t (0, 0)) d Ls L0 none a L b W → wpAnyX P ops Q (There L0) (fun j => j ∈ fs) n (listedOf ops.size m) b W)
  | 0, m, a, L, Q, hQ0, h, _, _, _ => h.elim
  | n + 1, m, a, L, Q, hQ0, h, hcl, hir, hQ => by
    simp only [evFl, tb_eq] at h
    obtain ⟨j, h⟩ := h
    dsimp only at h
    have hil : ClosedL ops (listedOf ops.size (m ||| 1 <<< i)) := by rw [← listedOf_set]; exact hcl.set (by rw [readyM_eq]; exact hir)
    have next : ∀ {k : Nat}, k ∈ readyM ops m → k ≠ i → ClosedL ops (listedOf ops.size (m ||| 1 <<< k)) ∧ i ∈ readyM ops (m ||| 1 <<< k) := fun {k} hk hne => by
      refine ⟨by rw [← listedOf_set]; exact hcl.set (by rw [readyM_eq]; exact hk), ?_⟩
      rw [← readyM_eq, ← listedOf_set]
      exact ready_mono (by rw [readyM_eq]; exact hir) (Ne.symm hne)
    split at h
    ·
      split at h
      · exact h.elim
      · rename_i hji
        simp only [Bool.or_eq_false_iff] at hji
        obtain ⟨hji, hn0⟩ := hji
        have hji : j ≠ i := fun he => by rw [he, Nat.beq_refl] at hji; cases hji
        obtain ⟨n', rfl⟩ : ∃ n', n = n' + 1 := by
          cases n with
          | zero => simp at hn0
          | succ n' => exact ⟨n', rfl⟩
        have both : ∀ (st : Option Nat) (b : Act) (W : World), Fl w0 keep (.cells z t (0, 0)) d Ls L0 st a L b W → ∃ o v, ops[j]? = some o ∧ j ∈ readyM ops m ∧ Region.free .any ops (listedOf ops.size m) j = true ∧ (YieldsIf P ops (There []) o v b ∨ (YieldsIf P ops (There L0) o v b ∧ ∀ f of, f ∈ fs → ops[f]? = some of → Waits ops j f)) ∧ ∃ a', Fl w0 keep (.cells z t (0, 0)) d Ls L0 st a' L (b.put o.dst v) W ∧ (evFl P S fn call ops fw L0 bk i d (.cells z t (0, 0)) Ls fin (n' + 1) (m ||| 1 <<< j) a' L).all K := fun st b W hF => by
          obtain ⟨v, hv, hp⟩ := hF.rel
          have h := h ⟨0, 0, false, v, []⟩
          dsimp only at h
          split at h
          · obtain ⟨g', a', o, v', ho, hmem, hfr, hy, hf', hi', he, h⟩ := heldT_sound (W0 := W) (fun _ hp => (by cases hp)) hv (Inv.none b) h
            exact ⟨o, v', ho, hmem, hfr, .inl hy, a', hF.still hf' (tok_val he) hp, h⟩
          · rename_i hfb
            obtain ⟨g', a', o, v', ho, hmem, hfr, hy, hf', hi', he, h⟩ := heldT_sound hF.there hv (Inv.none b) h
            exact ⟨o, v', ho, hmem, hfr, .inr ⟨hy, fun f of hf hof => hfw _ (Array.getElem?_eq_some_iff.1 ho).1 hfb f hf⟩, a', hF.still hf' (tok_val he) hp, h⟩
        constructor
        · intro nb b W hF
          obtain ⟨o, v, ho, hmem, hfr, hy, a', hF', h⟩ := both _ b W hF
          have ih := (evFl_sound hSS hs hns hfw hbk hal hfin (n' + 1) (m ||| 1 <<< j) a' L Q hQ0 h (next hmem hji).1 (next hmem hji).2 hQ).1 nb _ _ hF'
          have hfr' := Region.free_spec ho hfr
          have hr' : j ∈ Region.ready .any ops (listedOf ops.size (m ||| 1 <<< i)) := by
            rw [← listedOf_set]
            exact ready_mono (by rw [readyM_eq]; exact hmem) hji
          have hfr2 : ∀ k ok, ops[k]? = some ok → k ≠ j → (listedOf ops.size (m ||| 1 <<< i)).getD k true = false → (∀ e ∈ ok.after, Region.binds .any e = true → e.on ≠ j) → o.apart ops ok = true := fun k ok hk hkj hun hno => by
            rw [← listedOf_set] at hun
            exact hfr' k ok hk hkj (getD_set_of hun) hno
          rcases hy with hy | ⟨hy, hw⟩
          · refine wpAnyX_firstP ho (Region.noSelect_spec hns) (fun c b w hq => (hQ0 c _ w hq).elim) n' _ _ _ hfr2 hr' (hy.imp (fun h => ⟨h.1, fun W _ => h.2 W fun _ hp => (by cases hp)⟩) id) ?_
            rw [listedOf_set, or_swap]
            exact ih
          · refine wpAnyX_first ho (Region.noSelect_spec hns) (fun c b w hq => (hQ0 c _ w hq).elim) hw n' _ _ _ hil hfr2 hr' hy hF.there ?_
            rw [listedOf_set, or_swap]
            exact ih
        · intro b W hF
          obtain ⟨o, v, ho, hmem, hfr, hy, a', hF', h⟩ := both _ b W hF
          have ih := (evFl_sound hSS hs hns hfw hbk hal hfin (n' + 1) (m ||| 1 <<< j) a' L Q hQ0 h (next hmem hji).1 (next hmem hji).2 hQ).2 _ _ hF'
          rw [← listedOf_set] at ih
          rcases hy with hy | ⟨hy, hw⟩
          · exact wpAnyX_takeP ho hns hfr (by rw [readyM_eq]; simpa using hmem) (fun c b w hq => (hQ0 c _ w hq).elim) (hy.imp (fun h => ⟨h.1, fun W _ => h.2 W fun _ hp => (by cases hp)⟩) id) ih
          · exact wpAnyX_take ho hns hfr (by rw [readyM_eq]; simpa using hmem) (fun c b w hq => (hQ0 c _ w hq).elim) hw hcl hy hF.there ih
    · split at h
      ·
        split at h
        · rename_i k hrd
          split at h
          · rename_i hki
            have hki := Nat.eq_of_beq_eq_true hki
            subst hki
            obtain ⟨hold, h⟩ := oldTT_spec h
            have B : ∀ nb b W, Fl w0 keep (.cells z t (0, 0)) d Ls L0 (some nb) a L b W → wpAnyX P ops Q (There L0) (fun j => j ∈ fs) n (listedOf ops.size (m ||| 1 <<< k)) b W := fun nb b W hF => by
              obtain ⟨g1, g2⟩ := hF.told hold
              exact hfin n _ _ _ Q hQ0 (h ⟨nb, 0, false, undef, []⟩) hil b W g1 g2 hF.there hQ
            refine ⟨B, fun b W hF => wpAnyX_all (rs := [k]) (by rw [readyM_eq]; exact hrd) (by simp) fun k' hk' => ?_⟩
            rcases List.mem_singleton.1 hk' with rfl
            have hD := hF.done
            refine alloc_wp hal ⟨.inr fun _ => hD.there, ?_⟩
            rw [listedOf_set]
            exact B _ _ _ hD
          · exact h.elim
        · exact h.elim
      ·
        split at h
        · exact h.elim
        · rename_i hc
          simp only [Bool.or_eq_false_iff, Bool.not_eq_false'] at hc
          obtain ⟨hn0, heq⟩ := hc
          have heq := eqN_spec heq
          obtain ⟨n', rfl⟩ : ∃ n', n = n' + 1 := by
            cases n with
            | zero => simp at hn0
            | succ n' => exact ⟨n', rfl⟩
          have step : ∀ (st : Option Nat) (k : Nat) (b : Act) (W : World), k ∈ dropOne i (readyM ops m) → Fl w0 keep (.cells z t (0, 0)) d Ls L0 st a L b W → wpOp P ops Q k (fun b' W' => There L0 W' ∧ ∃ a' L', Fl w0 keep (.cells z t (0, 0)) d Ls L0 st a' L' b' W' ∧ (evFl P S fn call ops fw L0 bk i d (.cells z t (0, 0)) Ls fin (n' + 1) (m ||| 1 <<< k) a' L').all K) b W := fun st k b W hk hF => by
            obtain ⟨v, hv, hp⟩ := hF.rel
            have h := outsT_all h k hk ⟨0, 0, false, v, []⟩
            refine evAt_sound hSS (hs W _) h hv hF.hide (fun a' L' b' W' hk hf' hr' => ?_)
            obtain ⟨he, hk⟩ := hk
            rw [forceL_eq] at hk
            rcases two_spec hk with hk | hk
            · obtain ⟨h1, h2⟩ := hk
              have h1 : There L0 W' := by
                rw [tok_blks h1]
                exact fun p hp => (hr'.blk p (hbk _ p hp)).1
              exact ⟨h1, a', L', hF.show hr' hf' (tok_val he) hp h1, h2⟩
            · have hk : (∀ b ∈ L0, b ∈ L') ∧ (evFl P S fn call ops fw L0 bk i d (.cells z t (0, 0)) Ls fin (n' + 1) (m ||| 1 <<< k) a' L').all K := by
                rcases two_spec hk with hk | hk
                · obtain ⟨l, hm, h1, h2⟩ := backAll_sound _ hk
                  exact ⟨fun b hb => by rw [tok_blks h1] at hb; exact hm b hb, h2⟩
                · exact backTT_sound hk
              obtain ⟨hm, h2⟩ := hk
              have h1 : There L0 W' := fun p hp => (hr'.blk p (hm p hp)).1
              exact ⟨h1, a', L', hF.show hr' hf' (tok_val he) hp h1, h2⟩
          have B : ∀ nb b W, Fl w0 keep (.cells z t (0, 0)) d Ls L0 (some nb) a L b W → wpAnyX P ops Q (There L0) (fun j => j ∈ fs) (n' + 1) (listedOf ops.size (m ||| 1 <<< i)) b W := fun nb b W hF => by
            by_cases hne : dropOne i (readyM ops m) = []
            · rw [hne] at h
              exact h.elim
            refine wpAnyX_all (rs := dropOne i (readyM ops m)) (by rw [readyM_eq]; exact heq) hne fun k hk => ?_
            have hk2 : k ∈ Region.ready .any ops (listedOf ops.size (m ||| 1 <<< i)) := by rw [readyM_eq, heq]; exact hk
            have hki : k ≠ i := fun he => by
              have h1 := (mem_ready.1 hk2).1
              rw [he, ← listedOf_set] at h1
              have hlt : i < (listedOf ops.size m).size := by
                have := getD_of_ready (by rw [readyM_eq]; exact hir : i ∈ Region.ready .any ops (listedOf ops.size m))
                rcases Nat.lt_or_ge i (listedOf ops.size m).size with h' | h'
                · exact h'
                · rw [Array.getD_eq_getD_getElem?, Array.getElem?_eq_none h'] at this; cases this
              simp [hlt] at h1
            refine wpOp_mono (fun b' W' ⟨h1, a', L', hF', h2⟩ => ⟨.inr fun _ => h1, ?_⟩) (step _ k b W hk hF)
            have hkm := dropOne_sub hk
            rw [listedOf_set, or_swap]
            exact (evFl_sound hSS hs hns hfw hbk hal hfin (n' + 1) (m ||| 1 <<< k) a' L' Q hQ0 h2 (next hkm hki).1 (next hkm hki).2 hQ).1 nb b' W' hF'
          refine ⟨B, fun b W hF => ?_⟩
          refine wpAnyX_all (rs := readyM ops m) (readyM_eq _ _) (fun he => by rw [he] at hir; cases hir) fun k hk => ?_
          by_cases hki : k = i
          · subst hki
            have hD := hF.done
            refine alloc_wp hal ⟨.inr fun _ => hD.there, ?_⟩
            rw [listedOf_set]
            exact B _ _ _ hD
          · refine wpOp_mono (fun b' W' ⟨h1, a', L', hF', h2⟩ => ⟨.inr fun _ => h1, ?_⟩) (step _ k b W (mem_dropOne hki hk) hF)
            rw [listedOf_set]
            exact (evFl_sound hSS hs hns hfw hbk hal hfin (n' + 1) (m ||| 1 <<< k) a' L' Q hQ0 h2 (next hk hki).1 (next hk hki).2 hQ).2 b' W' hF'
theorem evFloat_sound (hSS : S.holds P) {fn : FuncId} {call : CallE α} (hs : ∀ w0 keep, SoundC P w0 keep K call) {ops : Array Oper} (hns : Region.noSelect ops = true) {fs : List Nat} {fw : Nat} (hfw : ∀ j, j < ops.size → fw.testBit j = true → ∀ f ∈ fs, Waits ops j f) {L0 : List Blk} {bk : List Blk → List Blk} (hbk : ∀ L p, p ∈ bk L → p ∈ L)
    {c : F → List Blk → T α} {fin : RestE α} (hfin : RestS P w0 keep K ops fs L0 c fin) : RestS P w0 keep K ops fs L0 c (evFloat P S fn call ops fw L0 bk fin) := by
  intro n m a L Q hQ0 h hcl b W hf hr hS hQ
  unfold evFloat at h
  split at h
  · exact h.elim
  rename_i i _
  split at h
  · exact h.elim
  rename_i hrd
  split at h
  · exact h.elim
  rename_i d t z hal
  exact (evFl_sound hSS hs hns hfw hbk hal hfin n m a L Q hQ0 h hcl (isReady_spec hrd) hQ).2 b W ⟨⟨a.get d, hf.same rfl, fun _ h => (by cases h)⟩, hr, hS, fun q hq => ⟨hr.lt hq, fun h => (by cases h)⟩, fun _ h => (by cases h), fun _ _ _ h => (by cases h)⟩
theorem evAny_sound (hSS : S.holds P) {fn : FuncId} {call : CallE α} (hs : SoundC P w0 keep K call) {ops : Array Oper} (hns : Region.noSelect ops = true) {fs : List Nat} {fw : Nat} (hfw : ∀ j, j < ops.size → fw.testBit j = true → ∀ f ∈ fs, Waits ops j f) {L0 : List Blk} {bk : List Blk → List Blk} (hbk : ∀ L p, p ∈ bk L → p ∈ L) {can : Nat → Bool} {rest flt : RestE α} {c : F → List Blk → T α} (hflt : RestS P w0 keep K ops fs L0 c flt)
    (hrest : ∀ (m : Nat), can m = true → ∀ (n : Nat) (a : F) (L : List Blk) (Q : Exit → Act → World → Prop), (∀ c a w, ¬ Q (.panic c) a w) → (rest n m a L).all K → ClosedL ops (listedOf ops.size m) → ∀ (b : Act) (W : World), RelF a b → Rep w0 keep L W → There L0 W →
      (∀ a' L' b' W', (c a' L').all K → RelF a' b' → Rep w0 keep L' W' → Q .normal b' W') → wpAnyX P ops Q (There L0) (fun j => j ∈ fs) n (listedOf ops.size m) b W) :
    ∀ (n : Nat) (m : Nat) (g : Option G) (a : F) (L : List Blk) (Q : Exit → Act → World → Prop), (∀ c a w, ¬ Q (.panic c) a w) → (evAny P S fn call ops fs fw L0 bk can rest flt c n m g a L).all K → ClosedL ops (listedOf ops.size m) →
    ∀ (b : Act) (W : World), RelF a b → Inv g b → Rep w0 keep L W → There L0 W → (∀ a' L' b' W', (c a' L').all K → RelF a' b' → Rep w0 keep L' W' → Q .normal b' W') → wpAnyX P ops Q (There L0) (fun j => j ∈ fs) n (listedOf ops.size m) b W
  | 0, m, g, a, L, Q, hQ0, h, _, b, W, hf, _, hr, hS, hQ => by
    simp only [evAny] at h
    split at h
    · rename_i hrd
      exact wpAnyX_done (by rw [readyM_eq]; exact hrd) (hQ _ _ _ _ h hf hr) 0
    · exact h.elim
  | n + 1, m, g, a, L, Q, hQ0, h, hcl, b, W, hf, hi, hr, hS, hQ => by
    simp only [evAny, tb_eq] at h
    obtain ⟨j, h⟩ := h
    dsimp only at h
    split at h
    · split at h
      · obtain ⟨g', a', o, v, ho, hmem, hfr, hy, hf', hi', h⟩ := heldT_sound (W0 := W) (fun _ hp => (by cases hp)) hf hi h
        exact wpAnyX_takeP ho hns hfr (by rw [readyM_eq]; simpa using hmem) (fun c b w hq => (hQ0 c _ w hq).elim) (hy.imp (fun h => ⟨h.1, fun W _ => h.2 W fun _ hp => (by cases hp)⟩) id) (by rw [listedOf_set]; exact evAny_sound hSS hs hns hfw hbk hflt hrest n _ _ _ _ Q hQ0 h (by rw [← listedOf_set]; exact hcl.set (by rw [readyM_eq]; exact hmem)) _ _ hf' hi' hr hS hQ)
      rename_i hfb
      obtain ⟨g', a', o, v, ho, hmem, hfr, hy, hf', hi', h⟩ := heldT_sound hS hf hi h
      exact wpAnyX_take ho hns hfr (by rw [readyM_eq]; simpa using hmem) (fun c b w hq => (hQ0 c _ w hq).elim) (fun f of hf hof => hfw _ (Array.getElem?_eq_some_iff.1 ho).1 hfb f hf) hcl hy hS (by rw [listedOf_set]; exact evAny_sound hSS hs hns hfw hbk hflt hrest n _ _ _ _ Q hQ0 h (by rw [← listedOf_set]; exact hcl.set (by rw [readyM_eq]; exact hmem)) _ _ hf' hi' hr hS hQ)
    · split at h
      · split at h
        · rename_i hrd
          exact wpAnyX_done (by rw [readyM_eq]; exact hrd) (hQ _ _ _ _ h hf hr) (n + 1)
        · exact h.elim
      · split at h
        · split at h
          · rename_i hcan
            exact hrest _ hcan _ _ _ Q hQ0 h hcl _ _ hf hr hS hQ
          · exact h.elim
        split at h
        · exact hflt _ _ _ _ Q hQ0 h hcl _ _ hf hr hS hQ
        · by_cases hne : readyM ops m = []
          · rw [hne] at h
            exact h.elim
          refine wpAnyX_all (readyM_eq _ _) hne fun k hk0 => ?_
          have h := outsT_all h k hk0
          refine evAt_sound hSS hs h hf hr (fun a' L' b' W' hk hf' hr' => ?_)
          split at hk
          · rename_i hlast
            unfold lastM at hlast
            rw [Bool.and_eq_true] at hlast
            obtain ⟨hl1, hl2⟩ := hlast
            refine ⟨.inl (by simpa using hl1), ?_⟩
            rw [listedOf_set]
            refine wpAnyX_done ?_ (hQ _ _ _ _ hk hf' hr') n
            rw [readyM_eq]
            split at hl2
            · rename_i h0
              exact h0
            · cases hl2
          split at hk
          · rename_i hrf
            unfold restFin at hrf
            rw [Bool.and_eq_true] at hrf
            exact ⟨.inl (by simpa using hrf.1), by rw [listedOf_set]; exact evFin_sound hSS hs n _ _ _ Q hk _ _ hf' hr' hQ⟩
          rw [forceL_eq] at hk
          have hk := two_spec hk
          rcases hk with hk | hk
          · obtain ⟨h1, h2⟩ := hk
            have h1 : There L0 W' := by
              rw [tok_blks h1]
              exact fun p hp => (hr'.blk p (hbk _ p hp)).1
            exact ⟨.inr fun _ => h1, by rw [listedOf_set]; exact evAny_sound hSS hs hns hfw hbk hflt hrest n _ _ _ _ Q hQ0 h2 (by rw [← listedOf_set]; exact hcl.set (by rw [readyM_eq]; exact hk0)) _ _ hf' (Inv.none _) hr' h1 hQ⟩
          · have hk : (∀ b ∈ L0, b ∈ L') ∧ (evAny P S fn call ops fs fw L0 bk can rest flt c n (m ||| 1 <<< k) none a' L').all K := by
              rcases two_spec hk with hk | hk
              · obtain ⟨l, hm, h1, h2⟩ := backAll_sound _ hk
                exact ⟨fun b hb => by rw [tok_blks h1] at hb; exact hm b hb, h2⟩
              · exact backTT_sound hk
            obtain ⟨hm, h2⟩ := hk
            have h1 : There L0 W' := fun p hp => (hr'.blk p (hm p hp)).1
            exact ⟨.inr fun _ => h1, by rw [listedOf_set]; exact evAny_sound hSS hs hns hfw hbk hflt hrest n _ _ _ _ Q hQ0 h2 (by rw [← listedOf_set]; exact hcl.set (by rw [readyM_eq]; exact hk0)) _ _ hf' (Inv.none _) hr' h1 hQ⟩
theorem evMany_sound (hSS : S.holds P) {fn : FuncId} {call : CallE α} (hs : ∀ w0 keep, SoundC P w0 keep K call) {ops : Array Oper} (hns : Region.noSelect ops = true) {fs : List Nat} {fw : Nat} (hfw : ∀ j, j < ops.size → fw.testBit j = true → ∀ f ∈ fs, Waits ops j f) {L0 : List Blk} {bk : List Blk → List Blk} (hbk : ∀ L p, p ∈ bk L → p ∈ L) {c : F → List Blk → T α} : ∀ m, RestS P w0 keep K ops fs L0 c (evMany P S fn call ops fs fw L0 bk c m)
  | 0 => fun n m a L Q h0 h1 hc b W h2 h3 h4 h5 => evAny_sound hSS (hs _ _) hns hfw hbk (flt := fun _ _ _ _ => .fail) (fun _ _ _ _ _ _ h => False.elim h) (fun _ h => (by cases h)) n m none a L Q h0 h1 hc b W h2 (Inv.none _) h3 h4 h5
  | r + 1 => fun n m a L Q h0 h1 hc b0 W0 g2 g3 g4 g5 => evAny_sound hSS (hs _ _) hns hfw hbk (evFloat_sound hSS hs hns hfw hbk (evMany_sound hSS hs hns hfw hbk r)) (fun m h n a L Q h0 h1 hc' b W h2 h3 h4 h5 => by
      simp only [Bool.and_eq_true] at h
      exact evRest_sound hns (evMany_sound hSS hs hns hfw hbk r) m h.1 h.2 n _ a L Q h0 h1 b W h2 h3 h4 h5) n m none a L Q h0 h1 hc b0 W0 g2 (Inv.none _) g3 g4 g5
theorem evLoop_sound {x : Code} {f : PieceE α} (hf : SoundE P w0 keep K x f) {c : Exit → F → List Blk → T α} : ∀ (m : Nat) (a : F) (L : List Blk), (evLoop f c m a L).all K →
    ∀ b W, RelF a b → Rep w0 keep L W → Code.rounds P x (Post w0 keep K c) m b W
  | 0, a, L, h, b, W, _, _ => h.elim
  | m + 1, a, L, h, b, W, hrel, hr => by
    rw [rounds_succ]
    change (forceL (compactW 0 a.w) _).all K at h
    rw [forceL_eq] at h
    refine wp_mono (hf _ _ _ h b W (RelF.shorten hrel) hr) ?_
    rintro x a2 W2 ⟨hx, g, L2, h, hrel2, hr2⟩
    cases x with
    | normal => exact evLoop_sound hf m _ _ h a2 W2 hrel2 hr2
    | _ => exact ⟨hx, g, L2, h, hrel2, hr2⟩
theorem metBy_sound {k : CallC} (hc : Meets P k) {args : Array Value} {L : List Blk} {c : Value → List Blk → T α} (h : (metBy k args L c).all K) {W : World} (hr : Rep w0 keep L W) : Calls P k.f args W fun en W' => ∃ v L', en = .returned v ∧ Rep w0 keep L' W' ∧ (c v L').all K := by
  obtain ⟨ha, hok, h⟩ := h
  have hargs : args = k.args := by
    have := tok_val ha
    injection this
  subst hargs
  obtain ⟨hpre, h⟩ := memBy_sound h hr
  refine (hc hok W hpre).mono ?_
  rintro en W' ⟨o, ho, ns, rfl, hpost⟩
  obtain ⟨L', hr', hk⟩ := h o ho ns W' hpost
  exact ⟨o.2 ns, L', rfl, hr', hk⟩
theorem loopBy_sound {k : LoopC} (hc : MeetsL P k) {x : Code} {a : F} {L : List Blk} {c : Exit → F → List Blk → T α} (h : (loopBy k x a L c).all K) {b : Act} {W : World} (hf : RelF a b) (hr : Rep w0 keep L W) : x.wp P (Post w0 keep K c) b W := by
  obtain ⟨h1, h2, h3, hok, h⟩ := h
  obtain rfl := tok_code h1
  have hn := tok_nat h2
  have hsl : (k.sl.map fun p => a.get p.1).toArray = (k.sl.map (·.2)).toArray := by
    have := tok_val h3
    injection this
  have hsl := congrArg Array.toList hsl
  have hk : Known k.n k.sl b := by
    rw [← hn]
    exact Known.of hf k.sl (by simpa using hsl)
  obtain ⟨hpre, h⟩ := memBy_sound h hr
  refine wp_mono (hc hok b W hk hpre) ?_
  rintro x' a' W' ⟨o, ho, rfl, hx, ns, hk', hpost⟩
  obtain ⟨L', hr', hk⟩ := h o ho ns W' hpost
  exact ⟨hx, _, _, hk ⟨0, 0, false, undef, a'.tmps.toList⟩, hk'.rel, hr'⟩
theorem metU_sound {k : CallU} (hc : Meets P k.c) {args : Array Value} {L : List Blk} {c : Value → List Blk → T α} (h : (metU k args L c).all K) {W : World} (hr : Rep w0 keep L W) : Calls P k.f args W fun en W' => ∃ v L', en = .returned v ∧ Rep w0 keep L' W' ∧ (c v L').all K := by
  obtain ⟨ha, hok, h⟩ := h
  have hargs : args = k.args := by
    have := tok_val ha
    injection this
  subst hargs
  obtain ⟨hpre, h⟩ := memU_sound h hr
  refine (hc hok W hpre).mono ?_
  rintro en W' ⟨o, ho, ns, rfl, hpost⟩
  obtain ⟨L', hr', hk⟩ := h o ho ns W' hpost
  exact ⟨o.2 ns, L', rfl, hr', hk⟩
theorem loopU_sound {k : LoopU} (hc : MeetsL P k.c) {x : Code} {a : F} {L : List Blk} {c : Exit → F → List Blk → T α} (h : (loopU k x a L c).all K) {b : Act} {W : World} (hf : RelF a b) (hr : Rep w0 keep L W) : x.wp P (Post w0 keep K c) b W := by
  obtain ⟨h1, h2, h3, hok, h⟩ := h
  obtain rfl := tok_code h1
  have hn := tok_nat h2
  have hsl : (k.sl.map fun p => a.get p.1).toArray = (k.sl.map (·.2)).toArray := by
    have := tok_val h3
    injection this
  have hsl := congrArg Array.toList hsl
  have hk : Known k.n k.sl b := by
    rw [← hn]
    exact Known.of hf k.sl (by simpa using hsl)
  obtain ⟨hpre, h⟩ := memU_sound h hr
  refine wp_mono (hc hok b W hk hpre) ?_
  rintro x' a' W' ⟨o, ho, rfl, hx, ns, hk', hpost⟩
  obtain ⟨L', hr', hk⟩ := h o ho ns W' hpost
  exact ⟨hx, _, _, hk ⟨0, 0, false, undef, a'.tmps.toList⟩, hk'.rel, hr'⟩
theorem anyF_sound (hS : S.holds P) (hP : P.follows .mixedOrders = true) {fn : FuncId} {call : CallE α} (hc : ∀ w0 keep, SoundC P w0 keep K call) (id : Nat) (ops : Array Oper) : SoundE P w0 keep K (.region id ops true) (anyF P S fn id ops call) := by
  intro a L c h b W hrel hr
  unfold anyF at h
  split at h
  · rename_i k ks hrg
    obtain ⟨j, h⟩ := h
    dsimp only at h
    split at h
    · rename_i k' hj
      rw [nth_eq] at hj
      exact loopBy_sound (hS.rg fn id k' (by rw [hrg]; exact List.mem_of_getElem? hj) a L) h hrel hr
    · exact h.elim
  split at h
  · exact h.elim
  · rename_i hns
    obtain ⟨j, h⟩ := h
    dsimp only at h
    split at h
    · obtain ⟨R, hsub, h⟩ := noteX_spec h
      rw [forceM_eq] at h
      exact wp_region_X hP (by rw [listedOf_zero]; exact evMany_sound hS hc hns (fun j hlt hj => finM_spec hlt hj) (fun _ _ h => (by cases h)) 4 _ _ _ _ _ (fun c a w hq => by cases hq.1) h (closed_zero _) _ _ hrel hr.draw (fun p hp => (hr.blk p (hsub p hp)).1) fun a' L' b' W' hk hb' hr' => ⟨rfl, _, _, hk, hb', hr'⟩)
    · obtain ⟨d, h⟩ := h
      dsimp only at h
      rw [forceL_eq, forceM_eq] at h
      exact wp_region_X hP (by rw [listedOf_zero]; exact evMany_sound hS hc hns (fun j hlt hj => finM_spec hlt hj) (fun _ _ h => (by cases h)) 4 _ _ _ _ _ (fun c a w hq => by cases hq.1) h (closed_zero _) _ _ hrel hr.draw (fun p hp => (hr.blk p (List.mem_of_mem_take (objsOf_sub hp))).1) fun a' L' b' W' hk hb' hr' => ⟨rfl, _, _, hk, hb', hr'⟩)
    split at h
    · exact h.elim
    split at h
    · obtain ⟨R, hsub, h⟩ := noteT_spec h
      rw [forceM_eq] at h
      exact wp_region_X hP (by rw [listedOf_zero]; exact evMany_sound hS hc hns (fun j hlt hj => finM_spec hlt hj) (fun _ _ h => (by cases h)) 4 _ _ _ _ _ (fun c a w hq => by cases hq.1) h (closed_zero _) _ _ hrel hr.draw (fun p hp => (hr.blk p (hsub p hp)).1) fun a' L' b' W' hk hb' hr' => ⟨rfl, _, _, hk, hb', hr'⟩)
    · obtain ⟨js, L1, hsub, h⟩ := minusT_spec h
      obtain ⟨mask, h⟩ := h
      dsimp only at h
      rw [forceL_eq, forceM_eq] at h
      exact wp_region_X hP (by rw [listedOf_zero]; exact evMany_sound hS hc hns (fun j hlt hj => finM_spec hlt hj) backOf_sub 4 _ _ _ _ _ (fun c a w hq => by cases hq.1) h (closed_zero _) _ _ hrel hr.draw (fun p hp => (hr.blk p (hsub p (dropM_sub hp))).1) fun a' L' b' W' hk hb' hr' => ⟨rfl, _, _, hk, hb', hr'⟩)
theorem inCall_sound {f : FuncId → Code → PieceE α} (hf : ∀ fn x, SoundE P w0 keep K x (f fn x)) : SoundC P w0 keep K (inCall P f) := by
  intro g args L c h W hr
  unfold inCall at h
  rw [nth_eq, Array.getElem?_toList] at h
  split at h
  · exact h.elim
  · rename_i fn hfn
    split at h
    · exact h.elim
    · rename_i x hb
      refine calls_of_wp hfn hb (wp_mono (hf g x _ _ _ h _ W (RelF.init args fn.ntmps) hr) ?_)
      rintro x a2 W2 ⟨-, g2, L2, h, hrel2, hr2⟩
      have key : (resT P g2.get L2 fn.results.toList fun l => c (oneV l) L2).all K → bodyPost P fn (fun en W' => ∃ v L', en = .returned v ∧ Rep w0 keep L' W' ∧ (c v L').all K) .ret a2 W2 := fun h => by
        obtain ⟨l, hk, hrun⟩ := resT_spec (fun p hp => (hr2.blk p hp).1) h
        have hrun := resF_run (fn := fn) (hrun W2 (fun p hp => (hr2.blk p hp).1))
        rw [← resF_eq hrel2] at hrun
        exact ⟨hrel2.defers, _, hrun, _, L2, rfl, hr2, hk⟩
      cases x with
      | normal => exact key h
      | ret => exact key h
      | _ => exact h.elim
theorem evCallC_sound (hS : S.holds P) {f : FuncId → Code → PieceE α} (hf : ∀ fn x, SoundE P w0 keep K x (f fn x)) : SoundC P w0 keep K (evCallC P S f) := by
  intro g args L c h W hr
  unfold evCallC at h
  split at h
  · rename_i k ks hcl
    obtain ⟨j, h⟩ := h
    dsimp only at h
    split at h
    · rename_i k' hj
      rw [nth_eq] at hj
      split at h
      · rename_i hcf _
        have := metBy_sound (hS.cl g k' (by rw [hcl]; exact List.mem_of_getElem? hj) args L) h hr
        rw [hcf] at this
        exact this
      · exact h.elim
    · exact inCall_sound hf _ _ _ _ h W hr
  · exact inCall_sound hf _ _ _ _ h W hr
theorem evLoopC_sound (hS : S.holds P) {f : PieceE α} {x : Code} (hf : SoundE P w0 keep K x f) {fn : FuncId} {n : Nat} {a : F} {L : List Blk} {c : Exit → F → List Blk → T α} (h : (evLoopC S f fn n x a L c).all K) {b : Act} {W : World} (hrel : RelF a b) (hr : Rep w0 keep L W) : (Code.loop x).wp P (Post w0 keep K c) b W := by
  unfold evLoopC at h
  split at h
  · rename_i k ks hlp
    obtain ⟨j, h⟩ := h
    dsimp only at h
    split at h
    · rename_i k' hj
      rw [nth_eq] at hj
      exact loopBy_sound (hS.lp fn k' (by rw [hlp]; exact List.mem_of_getElem? hj) a L) h hrel hr
    · exact wp_loop_rounds n (evLoop_sound hf n _ _ h b W hrel hr)
  · exact wp_loop_rounds n (evLoop_sound hf n _ _ h b W hrel hr)
theorem evCall_sound (hS : S.holds P) {f : FuncId → Code → PieceE α} (hf : ∀ fn x, SoundE P w0 keep K x (f fn x)) : SoundC P w0 keep K (evCall P S f) := by
  intro g args L c h W hr
  unfold evCall at h
  split at h
  · rename_i k ks hcl
    obtain ⟨j, h⟩ := h
    dsimp only at h
    split at h
    · rename_i k' hj
      rw [nth_eq] at hj
      split at h
      · rename_i hcf _
        have := metU_sound (hS.cu g k' (by rw [hcl]; exact List.mem_of_getElem? hj) args L) h hr
        rw [hcf] at this
        exact this
      · exact h.elim
    · exact evCallC_sound hS hf _ _ _ _ h W hr
  · exact evCallC_sound hS hf _ _ _ _ h W hr
theorem ev_succ (n : Nat) (fn : FuncId) (x : Code) (a : F) (L : List Blk) (c : Exit → F → List Blk → T α) : ev P S (n + 1) fn x a L c = evBody P S (ev P S n) n fn x a L c := rfl
theorem ev_sounds (hS : S.holds P) (hP : P.follows .mixedOrders = true) : ∀ (n : Nat) (w0 : World) (keep : Nat → Prop) (fn : FuncId) (x : Code), SoundE P w0 keep K x (ev P S n fn x)
  | 0, w0, keep, fn, x, a, L, c, h, _, _, _, _ => h.elim
  | n + 1, w0, keep, fn, x, a, L, c, h, b, W, hrel, hr => by
    have ih0 : ∀ fn x, SoundE P w0 keep K x (ev P S n fn x) := ev_sounds hS hP n w0 keep
    have ih := ih0 fn
    have hcs : ∀ w0 keep, SoundC P w0 keep K (evCall P S (ev P S n)) := fun w0 keep => evCall_sound hS (ev_sounds hS hP n w0 keep)
    have hc : SoundC P w0 keep K (evCall P S (ev P S n)) := hcs w0 keep
    rw [ev_succ] at h
    unfold evBody at h
    split at h
    · exact wp_skip ⟨rfl, _, _, h, hrel, hr⟩
    · exact wp_label ⟨rfl, _, _, h, hrel, hr⟩
    · exact wp_region (evOps_sound hS hc _ h hrel (Inv.none _) hr fun a' L' b' W' hk hb' hr' => ⟨rfl, _, _, hk, hb', hr'⟩)
    · rename_i id ops
      exact anyF_sound hS hP hcs id ops _ _ _ h b W hrel hr
    · refine wp_seq (wp_mono (ih _ _ _ _ h b W hrel hr) ?_)
      rintro x a2 W2 ⟨hx, g2, L2, h, hrel2, hr2⟩
      cases x with
      | normal => exact ih _ _ _ _ h a2 W2 hrel2 hr2
      | _ => exact ⟨hx, _, _, h, hrel2, hr2⟩
    · split at h
      · rename_i s
        split at h
        · rename_i t hb
          have hb' : b.eval (.tmp s) = .bool t := by rw [← hrel.eval]; exact hb
          cases t with
          | true => exact wp_cond_true hb' (ih _ _ _ _ (h.1 rfl) b W (hrel.same hb) hr)
          | false => exact wp_cond_false hb' (ih _ _ _ _ (h.2 rfl) b W (hrel.same hb) hr)
        · exact h.elim
      · split at h
        · rename_i t hb
          rw [hrel.eval] at hb
          cases t with
          | true => exact wp_cond_true hb (ih _ _ _ _ (h.1 rfl) b W hrel hr)
          | false => exact wp_cond_false hb (ih _ _ _ _ (h.2 rfl) b W hrel hr)
        · exact h.elim
    · rename_i id x
      refine wp_block (wp_mono (ih _ _ _ _ h b W hrel hr) ?_)
      rintro x a2 W2 ⟨hx, g2, L2, h, hrel2, hr2⟩
      cases x with
      | exit id' =>
        simp only at h
        split at h
        · rename_i hid
          have hid := Nat.eq_of_beq_eq_true hid
          simp only [Exit.inBlock, hid, if_true]
          exact ⟨rfl, _, _, h, hrel2, hr2⟩
        · rename_i hid
          have hid : ¬ id' = id := fun he => by rw [he, Nat.beq_refl] at hid; cases hid
          simp only [Exit.inBlock, hid, if_false]
          exact ⟨rfl, _, _, h, hrel2, hr2⟩
      | normal => exact ⟨hx, _, _, h, hrel2, hr2⟩
      | ret => exact ⟨hx, _, _, h, hrel2, hr2⟩
      | _ => simp [calm] at hx
    · split at h
      · rename_i k ks hlp
        obtain ⟨j, h⟩ := h
        dsimp only at h
        split at h
        · rename_i k' hj
          rw [nth_eq] at hj
          exact loopU_sound (hS.lu fn k' (by rw [hlp]; exact List.mem_of_getElem? hj) a L) h hrel hr
        · exact evLoopC_sound hS (ih _) h hrel hr
      · exact evLoopC_sound hS (ih _) h hrel hr
    · exact wp_exit ⟨rfl, _, _, h, hrel, hr⟩
    · exact wp_ret ⟨rfl, _, _, h, hrel, hr⟩
    · exact h.elim
theorem ev_sound (hS : S.holds P) (hP : P.follows .mixedOrders = true) (n : Nat) (fn : FuncId) (x : Code) : SoundE P w0 keep K x (ev P S n fn x) := ev_sounds hS hP n w0 keep fn x
end Go.Proofs.YtlpcnaeknbmjdaaGreat.Sy

namespace Go.Proofs.YtlpcnaeknbmjdaaGreat.Sy
open Go Go.RowKit
open Ev (calm)
variable {P : Program} {S : Ctx}
noncomputable def inT (P : Program) (S : Ctx) (n : Nat) (f : FuncId) (args : Array Value) (L : List Blk) (kf : Blk → Bool) : T (Value × List Blk) := inCall P (ev P S n) f args L fun v L' => .ret (v, L'.filter kf)
def noB (_ : Blk) : Bool := false
def rowB (b : Blk) : Bool := match b.ct with
  | .row .. => true
  | _ => false
def rowT (t : TypeId) (b : Blk) : Bool := match b.ct with
  | .row .. => true
  | .obj (.cells _ t' _) => Nat.beq t t'
  | _ => false
noncomputable def pieceT (P : Program) (S : Ctx) (n : Nat) (fn : FuncId) (c : Code) (m : Nat) (l : List (Nat × Value)) (xs : List Value) (L : List Blk) (ks : List Nat) : T (Exit × Nat × List Value × List Blk) :=
  ev P S n fn c ⟨m, l ++ argsW 0 xs⟩ L fun x a L' => .ret (x, a.n, ks.map a.get, L')
structure Ran {α : Type} (t : T α) (o : O) (R : (Nat → Let) → Res α) : Prop where
  res : ∀ ns, (t.run o ns).map (·.res) = some (R ns)
  one : ∀ ns, (t.run o ns).map (·.l) = (t.run o ns).map (·.r)
theorem Ran.all {α : Type} {t : T α} {o : O} {R : (Nat → Let) → Res α} (h : Ran t o R) {K : α → Prop} (hK : ∀ ns, (R ns).holds K) : t.all K := by
  refine all_of_run t o fun ns => ?_
  have h1 := h.res ns
  have h2 := h.one ns
  cases hx : t.run o ns with
  | none => rw [hx] at h1; cases h1
  | some x =>
    rw [hx] at h1 h2
    simp only [Option.map_some, Option.some.injEq] at h1 h2
    exact ⟨x, rfl, h2, by rw [h1]; exact hK ns⟩
theorem calls_of (hS : S.holds P) (hP : P.follows .mixedOrders = true) {n : Nat} {f : FuncId} {args : Array Value} {L0 : List Blk} {o : O} {R : (Nat → Let) → Res (Value × List Blk)} {kf : Blk → Bool} (h : Ran (inT P S n f args L0 kf) o R)
    {w0 W : World} {keep : Nat → Prop} (hr : Rep w0 keep L0 W) {Q : Ending → World → Prop} (hQ : ∀ ns, (R ns).holds fun y => ∀ W', Rep w0 keep y.2 W' → Q (.returned y.1) W') : Calls P f args W Q := by
  have hall := h.all hQ
  unfold inT at hall
  refine (inCall_sound (ev_sound hS hP n) _ _ _ _ hall W hr).mono ?_
  rintro en W' ⟨v', L', rfl, hr', hk⟩
  exact hk W' (hr'.sub List.filter_sublist)
theorem zip_get (f : F) : ∀ ks : List Nat, (ks.zip (ks.map f.get)).map (fun p => f.get p.1) = (ks.zip (ks.map f.get)).map (·.2)
  | [] => rfl
  | k :: ks => by simp only [List.map_cons, List.zip_cons_cons]; rw [zip_get f ks]
theorem wp_of (hS : S.holds P) (hP : P.follows .mixedOrders = true) {n : Nat} {fn : FuncId} {c : Code} {m : Nat} {l : List (Nat × Value)} {a : Act} {L : List Blk} {ks : List Nat} {o : O} {R : (Nat → Let) → Res (Exit × Nat × List Value × List Blk)}
    (h : Ran (pieceT P S n fn c m l a.tmps.toList L ks) o R) {w0 W : World} {keep : Nat → Prop} (hk : Known m l a) (hr : Rep w0 keep L W)
    {Q : Exit → Act → World → Prop} (hQ : ∀ ns, (R ns).holds fun y => ∀ a' W', calm y.1 = true → Known y.2.1 (ks.zip y.2.2.1) a' → Rep w0 keep y.2.2.2 W' → Q y.1 a' W') : c.wp P Q a W := by
  have hall := h.all hQ
  unfold pieceT at hall
  refine wp_mono (ev_sound hS hP n fn c _ _ _ hall a W hk.rel hr) ?_
  rintro x2 a2 W2 ⟨hx, g, L2, hk2, hf, hr'⟩
  exact hk2 a2 W2 hx (Known.of hf _ (zip_get _ _)) hr'
def Res.asks {α : Type} : Res α → Option (List Prop)
  | .leaf _ => some []
  | .need p r => match r.asks with
    | some l => some (p :: l)
    | none => none
  | .hyp _ r => r.asks
  | .both x y => match x.asks, y.asks with
    | some l, some m => some (l ++ m)
    | _, _ => none
  | .br _ _ _ => none
theorem Res.asks_holds {α : Type} : ∀ {r : Res α} {l : List Prop}, r.asks = some l → (∀ p ∈ l, p) → r.holds fun _ => True
  | .leaf _, _, _, _ => trivial
  | .need p r, l, h, hl => by
    simp only [Res.asks] at h
    split at h
    · rename_i m hm
      injection h with h
      subst h
      exact ⟨hl p List.mem_cons_self, Res.asks_holds hm fun q hq => hl q (List.mem_cons_of_mem _ hq)⟩
    · cases h
  | .hyp _ r, l, h, hl => fun _ => Res.asks_holds (r := r) h hl
  | .both x y, l, h, hl => by
    simp only [Res.asks] at h
    split at h
    · rename_i m n hm hn
      injection h with h
      subst h
      exact ⟨Res.asks_holds hm fun q hq => hl q (List.mem_append_left _ hq), Res.asks_holds hn fun q hq => hl q (List.mem_append_right _ hq)⟩
    · cases h
  | .br _ _ _, _, h, _ => by cases h
def blks (c : MemC) : List Blk := c.rd.map (fun p => ⟨p.1, p.2, false⟩) ++ (c.use.map ownOf ++ c.rb.map (fun p => ⟨p.1, p.2, false⟩))
def keepOf (c : MemC) (k : Nat) : Prop := ∀ p ∈ c.use, p.1 ≠ k
theorem rep_of_pre {c : MemC} {W : World} (h : c.pre W) : Rep W (keepOf c) (blks c) W := by
  have hf : ∀ l : List (Nat × Cont), (l.map fun p => (⟨p.1, p.2, false⟩ : Blk)).Pairwise Far := fun l => by
    rw [List.pairwise_map]
    exact List.pairwise_of_forall fun a b h => by cases h
  refine ⟨rfl, rfl, rfl, Nat.le_refl _, fun _ _ _ => rfl, fun p hp => ?_, ?_⟩
  · rcases List.mem_append.1 hp with hp | hp
    · obtain ⟨q, hq, rfl⟩ := List.mem_map.1 hp
      exact ⟨h.rd q hq, fun h => by cases h⟩
    rcases List.mem_append.1 hp with hp | hp
    · obtain ⟨q, hq, rfl⟩ := List.mem_map.1 hp
      exact ⟨h.use q hq, fun _ _ hk => hk q hq rfl⟩
    · obtain ⟨q, hq, rfl⟩ := List.mem_map.1 hp
      exact ⟨h.rb q hq, fun h => by cases h⟩
  · unfold blks
    rw [List.pairwise_append, List.pairwise_append]
    refine ⟨hf _, ⟨?_, hf _, fun a ha b hb => ?_⟩, fun a ha b hb => ?_⟩
    · rw [List.pairwise_map]
      have := h.nodup
      rw [List.nodup_iff_pairwise_ne, List.pairwise_map] at this
      exact this.imp (S := fun a b => Far (ownOf a) (ownOf b)) fun h _ => h
    · obtain ⟨p, hp, rfl⟩ := List.mem_map.1 ha
      obtain ⟨q, hq, rfl⟩ := List.mem_map.1 hb
      exact fun _ he => h.apartB q hq p hp he.symm
    · obtain ⟨p, hp, rfl⟩ := List.mem_map.1 ha
      rcases List.mem_append.1 hb with hb | hb
      · obtain ⟨q, hq, rfl⟩ := List.mem_map.1 hb
        exact fun _ => h.apart p hp q hq
      · obtain ⟨q, hq, rfl⟩ := List.mem_map.1 hb
        exact fun ho => by cases ho
def pickL (L : List Blk) (pk : List Nat) : List Blk := pk.filterMap fun i => L[i]?
theorem Rep.pick {w0 W : World} {keep : Nat → Prop} {L : List Blk} (h : Rep w0 keep L W) : ∀ {pk : List Nat}, pk.Nodup → Rep w0 keep (pickL L pk) W := by
  intro pk hpk
  refine ⟨h.os, h.tape, h.output, h.size, h.old, fun p hp => ?_, ?_⟩
  · obtain ⟨i, -, hi⟩ := List.mem_filterMap.1 hp
    exact h.blk p (List.mem_of_getElem? hi)
  · unfold pickL
    induction pk with
    | nil => exact List.Pairwise.nil
    | cons i pk ih =>
      rw [List.nodup_cons] at hpk
      rw [List.filterMap_cons]
      split
      · exact ih hpk.2
      · rename_i p hp
        rw [List.pairwise_cons]
        refine ⟨fun q hq => ?_, ih hpk.2⟩
        obtain ⟨j, hj, hjq⟩ := List.mem_filterMap.1 hq
        exact far_ne h.far hp hjq (fun e => hpk.1 (e ▸ hj))
def fitB (b : Blk) (p : Nat × Cont) : Prop := b.nm = p.1 ∧ b.own = true ∧ (b.ct = p.2 ∨ p.2.useView b.ct = p.2 ∨ p.2.view b.ct = p.2)
def fitsB : List Blk → List (Nat × Cont) → Prop
  | [], [] => True
  | b :: l, p :: r => fitB b p ∧ fitsB l r
  | _, _ => False
theorem Rep.fits {w0 W : World} {keep : Nat → Prop} : ∀ {l : List Blk} {r : List (Nat × Cont)}, fitsB l r → Rep w0 keep l W → Rep w0 keep (r.map ownOf) W
  | [], [], _, h => h
  | [], _ :: _, h, _ => h.elim
  | _ :: _, [], h, _ => h.elim
  | b :: l, p :: r, ⟨⟨h1, h2, h3⟩, h4⟩, h => by
    have ih := Rep.fits h4 (h.sub (List.sublist_cons_self b l))
    have hnm : r.map (·.1) = l.map (·.nm) := by
      clear ih h h1 h2 h3
      revert r
      induction l with
      | nil => intro r h; cases r with
        | nil => rfl
        | cons _ _ => exact h.elim
      | cons x l ihl => intro r h; cases r with
        | nil => exact h.elim
        | cons y r => simp only [List.map_cons, ihl r h.2, h.1.1]
    have hb := h.blk b List.mem_cons_self
    have hsat : p.2.sat W.heap[b.nm]? := by
      rcases h3 with h3 | h3 | h3
      · rw [← h3]; exact hb.1
      · rw [← h3]; exact Cont.sat_useView hb.1
      · rw [← h3]; exact Cont.sat_view hb.1
    refine ⟨h.os, h.tape, h.output, h.size, h.old, fun q hq => ?_, ?_⟩
    · rw [List.map_cons] at hq
      rcases List.mem_cons.1 hq with rfl | hq
      · show p.2.sat W.heap[p.1]? ∧ _
        rw [← h1]
        refine ⟨hsat, fun _ hlt => ?_⟩
        have : ownOf p = ⟨p.1, p.2, true⟩ := rfl
        simp only [ownOf] at hlt ⊢
        rw [← h1] at hlt ⊢
        exact hb.2 h2 hlt
      · exact ih.blk q hq
    · rw [List.map_cons, List.pairwise_cons]
      refine ⟨fun q hq => ?_, ih.far⟩
      obtain ⟨x, hx, rfl⟩ := List.mem_map.1 hq
      have hx1 : x.1 ∈ l.map (·.nm) := by rw [← hnm]; exact List.mem_map.2 ⟨x, hx, rfl⟩
      obtain ⟨b', hb', he⟩ := List.mem_map.1 hx1
      have hf := (List.pairwise_cons.1 h.far).1 b' hb' (by rw [h2]; rfl)
      intro _
      show p.1 ≠ x.1
      rw [← h1, ← he]
      exact hf
theorem post_of_ent {c : MemC} {o : OutM} {W W' : World} {ns : List Let} (hp : Rep W (keepOf c) ((o.nw ns ++ o.nb ns).map ownOf) W') (hn : ns.length = c.m) (hh : o.hyp ns) : c.post o W W' ns := by
  have hall : ∀ p ∈ o.nw ns ++ o.nb ns, (W.heap.size ≤ p.1 ∨ ∃ q ∈ c.use, q.1 = p.1) ∧ p.2.sat W'.heap[p.1]? := fun p hpm => by
    have hb := hp.blk _ (List.mem_map.2 ⟨p, hpm, rfl⟩)
    refine ⟨?_, hb.1⟩
    rcases Nat.lt_or_ge p.1 W.heap.size with hlt | hge
    · have := hb.2 rfl hlt
      unfold keepOf at this
      simp only [ownOf, ne_eq] at this
      refine .inr (Classical.byContradiction fun hno => this fun q hq he => hno ⟨q, hq, he⟩)
    · exact .inl hge
  have hf := hp.far
  rw [List.pairwise_map] at hf
  have hnd : ((o.nw ns ++ o.nb ns).map (·.1)).Nodup := by
    rw [List.nodup_iff_pairwise_ne, List.pairwise_map]
    exact hf.imp fun h => h rfl
  rw [List.map_append, List.nodup_append] at hnd
  exact ⟨hn, hh, hp.os, hp.tape, hp.output, hp.size, fun k hk hno => hp.old k hk hno, fun p hpm => hall p (List.mem_append_left _ hpm), hnd.1, fun p hpm => hall p (List.mem_append_right _ hpm), hnd.2.1, fun p hpm q hq => hnd.2.2 _ (List.mem_map.2 ⟨p, hpm, rfl⟩) _ (List.mem_map.2 ⟨q, hq, rfl⟩)⟩
theorem post_of_rep {c : MemC} {o : OutM} {W W' : World} {L : List Blk} {ns : List Let} (hr : Rep W (keepOf c) L W') (hn : ns.length = c.m) (hh : o.hyp ns) (pk : List Nat) (hpk : pk.Nodup) (hL : fitsB (pickL L pk) (o.nw ns ++ o.nb ns)) : c.post o W W' ns :=
  post_of_ent ((hr.pick hpk).fits hL) hn hh
def leafC (c : CallC) (y : Value × List Blk) : Prop :=
  ∃ o ∈ c.outs, ∃ ns : List Let, ns.length = c.mem.m ∧ y.1 = o.2 ns ∧ (∃ pk : List Nat, pk.Nodup ∧ fitsB (pickL y.2 pk) (o.1.nw ns ++ o.1.nb ns)) ∧ o.1.hyp ns
theorem meets_of (hS : S.holds P) (hP : P.follows .mixedOrders = true) {n : Nat} {c : CallC} {o : O} {R : (Nat → Let) → Res (Value × List Blk)} {kf : Blk → Bool} (h : Ran (inT P S n c.f c.args (blks c.mem) kf) o R)
    (hQ : c.ok → ∀ ns, (R ns).holds (leafC c)) : Meets P c := by
  intro hok W hpre
  refine calls_of hS hP h (rep_of_pre hpre) fun ns => Res.holds_mono (fun y hy W' hr => ?_) _ (hQ hok ns)
  obtain ⟨o, ho, ns, h1, h2, ⟨pk, h3, h4⟩, h5⟩ := hy
  exact ⟨o, ho, ns, by rw [h2], post_of_rep hr h1 h5 pk h3 h4⟩
def leafL {σ : Type} (c : LoopC) (ks : List Nat) (slots : σ → List (Nat × Value)) (mem : σ → List Blk) (ok : σ → Prop) (μ : σ → Nat) (s : σ) (y : Exit × Nat × List Value × List Blk) : Prop :=
  y.2.1 = c.n ∧ ((y.1 = .normal ∧ ∃ s', ok s' ∧ μ s' < μ s ∧ ks.zip y.2.2.1 = slots s' ∧ ∃ pk : List Nat, pk.Nodup ∧ pickL y.2.2.2 pk = mem s') ∨
    (y.1 ≠ .normal ∧ ∃ o ∈ c.outs, y.1 = o.2.1 ∧ ∃ ns : List Let, ns.length = c.mem.m ∧ (∃ q : List Nat, o.2.2 ns = q.filterMap fun i => (ks.zip y.2.2.1)[i]?) ∧ (∃ pk : List Nat, pk.Nodup ∧ fitsB (pickL y.2.2.2 pk) (o.1.nw ns ++ o.1.nb ns)) ∧ o.1.hyp ns))
theorem Known.sub {n : Nat} {l l' : List (Nat × Value)} {a : Act} (h : Known n l a) (hs : ∀ p ∈ l', p ∈ l) : Known n l' a := ⟨h.defers, h.size, fun p hp => h.get p (hs p hp)⟩
theorem loop_ofS {σ : Type} {S : σ → Ctx} (hS : ∀ s, (S s).holds P) (hP : P.follows .mixedOrders = true) {n : Nat} {fn : FuncId} {body : Code} {c : LoopC} (hc : c.c = .loop body) (ks : List Nat) (slots : σ → List (Nat × Value)) (mem : σ → List Blk) (ok : σ → Prop) (μ : σ → Nat)
    (s0 : σ) (h0 : c.ok → ok s0) (hs0 : ∀ p ∈ slots s0, p ∈ c.sl) (pk0 : List Nat) (hpk0 : pk0.Nodup) (hm0 : pickL (blks c.mem) pk0 = mem s0)
    {o : σ → O} {R : σ → List Value → (Nat → Let) → Res (Exit × Nat × List Value × List Blk)} (h : ∀ s xs, ok s → Ran (pieceT P (S s) n fn body c.n (slots s) xs (mem s) ks) (o s) (R s xs))
    (hQ : c.ok → ∀ s xs, ok s → ∀ ns, (R s xs ns).holds (leafL c ks slots mem ok μ s)) : MeetsL P c := by
  intro hok a W hk hpre
  rw [hc]
  have key : ∀ m s a W', ok s → μ s < m → Known c.n (slots s) a → Rep W (keepOf c.mem) (mem s) W' →
      Code.rounds P body (fun x a' W' => ∃ o ∈ c.outs, x = o.2.1 ∧ calm x = true ∧ ∃ ns, Known c.n (o.2.2 ns) a' ∧ c.mem.post o.1 W W' ns) m a W' := by
    intro m
    induction m with
    | zero => intro s a W' _ hlt; omega
    | succ m ih =>
      intro s a W' hs hlt hK hR
      rw [rounds_succ]
      refine wp_of (hS s) hP (h s a.tmps.toList hs) hK hR fun ns => Res.holds_mono (fun y hy a' W2 hx hK' hR' => ?_) _ (hQ hok s a.tmps.toList hs ns)
      obtain ⟨hn, hy⟩ := hy
      rcases hy with ⟨hx1, s', hs', hμ, hz, pk, hpk, hm⟩ | ⟨hx1, o, ho, he, ns', g1, ⟨q, g2⟩, ⟨pk, g3, g4⟩, g5⟩
      · rw [hx1]
        rw [hn, hz] at hK'
        have hR2 := hR'.pick hpk
        rw [hm] at hR2
        exact ih s' a' W2 hs' (by omega) hK' hR2
      · have hfin : ∃ o ∈ c.outs, y.1 = o.2.1 ∧ calm y.1 = true ∧ ∃ ns, Known c.n (o.2.2 ns) a' ∧ c.mem.post o.1 W W2 ns := by
          refine ⟨o, ho, he, hx, ns', ?_, post_of_rep hR' g1 g5 pk g3 g4⟩
          rw [hn] at hK'
          refine Known.sub hK' fun p hp => ?_
          rw [g2] at hp
          obtain ⟨i, -, hi⟩ := List.mem_filterMap.1 hp
          exact List.mem_of_getElem? hi
        cases hy1 : y.1 with
        | normal => exact absurd hy1 hx1
        | _ => rw [hy1] at hfin; exact hfin
  refine wp_loop_rounds (μ s0 + 1) (key _ s0 a W (h0 hok) (by omega) (Known.sub hk hs0) ?_)
  have := (rep_of_pre hpre).pick hpk0
  rw [hm0] at this
  exact this
theorem loop_of (hS : S.holds P) (hP : P.follows .mixedOrders = true) {n : Nat} {fn : FuncId} {body : Code} {c : LoopC} {σ : Type} (hc : c.c = .loop body) (ks : List Nat) (slots : σ → List (Nat × Value)) (mem : σ → List Blk) (ok : σ → Prop) (μ : σ → Nat)
    (s0 : σ) (h0 : c.ok → ok s0) (hs0 : ∀ p ∈ slots s0, p ∈ c.sl) (pk0 : List Nat) (hpk0 : pk0.Nodup) (hm0 : pickL (blks c.mem) pk0 = mem s0)
    {o : σ → O} {R : σ → List Value → (Nat → Let) → Res (Exit × Nat × List Value × List Blk)} (h : ∀ s xs, ok s → Ran (pieceT P S n fn body c.n (slots s) xs (mem s) ks) (o s) (R s xs))
    (hQ : c.ok → ∀ s xs, ok s → ∀ ns, (R s xs ns).holds (leafL c ks slots mem ok μ s)) : MeetsL P c :=
  loop_ofS (S := fun _ => S) (fun _ => hS) hP hc ks slots mem ok μ s0 h0 hs0 pk0 hpk0 hm0 h hQ
def Ent (L L' : List Blk) : Prop := ∀ (w0 : World) (keep : Nat → Prop) (W : World), Rep w0 keep L W → Rep w0 keep L' W
theorem Ent.refl (L : List Blk) : Ent L L := fun _ _ _ h => h
theorem Ent.trans {A B C : List Blk} (h : Ent A B) (h' : Ent B C) : Ent A C := fun w k W hr => h' w k W (h w k W hr)
theorem Ent.perm {A B : List Blk} (h : A.Perm B) : Ent A B := fun _ _ _ hr => hr.perm h
theorem Ent.sub {A B : List Blk} (h : List.Sublist B A) : Ent A B := fun _ _ _ hr => hr.sub h
theorem Ent.map {A : List Blk} {f : Blk → Blk} (h1 : ∀ b, (f b).nm = b.nm) (h2 : ∀ b, (f b).own = b.own) (h3 : ∀ b ∈ A, ∀ h, b.ct.sat h → (f b).ct.sat h) : Ent A (A.map f) := fun w0 keep W hr => by
  refine ⟨hr.os, hr.tape, hr.output, hr.size, hr.old, fun p hp => ?_, ?_⟩
  · obtain ⟨b, hb, rfl⟩ := List.mem_map.1 hp
    obtain ⟨g1, g2⟩ := hr.blk b hb
    rw [h1, h2]
    exact ⟨h3 b hb _ g1, g2⟩
  · rw [List.pairwise_map]
    refine hr.far.imp fun {a b} hab ho => ?_
    rw [h1, h1]
    rw [h2, h2] at ho
    exact hab ho
theorem Ent.app {A B A' B' : List Blk} (h1 : ∃ f : Blk → Blk, (∀ b, (f b).nm = b.nm) ∧ (∀ b, (f b).own = b.own) ∧ (∀ b ∈ A ++ B, ∀ h, b.ct.sat h → (f b).ct.sat h) ∧ A' = A.map f ∧ B' = B.map f) : Ent (A ++ B) (A' ++ B') := by
  obtain ⟨f, g1, g2, g3, rfl, rfl⟩ := h1
  rw [← List.map_append]
  exact Ent.map g1 g2 g3
noncomputable def inB (P : Program) (S : Ctx) (n : Nat) (f : FuncId) (args : Array Value) (L : List Blk) : T (Value × List Blk) := inCall P (ev P S n) f args L fun v L' => .ret (v, L')
def leafB (c : CallC) (y : Value × List Blk) : Prop :=
  ∃ o ∈ c.outs, ∃ ns : List Let, ns.length = c.mem.m ∧ y.1 = o.2 ns ∧ Ent y.2 ((o.1.nw ns ++ o.1.nb ns).map ownOf) ∧ o.1.hyp ns
theorem meets_ofB (hS : S.holds P) (hP : P.follows .mixedOrders = true) {n : Nat} {c : CallC} {o : O} {R : (Nat → Let) → Res (Value × List Blk)} {L : List Blk} (hL : Ent (blks c.mem) L) (h : Ran (inB P S n c.f c.args L) o R)
    (hQ : c.ok → ∀ ns, (R ns).holds (leafB c)) : Meets P c := by
  intro hok W hpre
  have hall := h.all (hQ hok)
  unfold inB at hall
  refine (inCall_sound (ev_sound hS hP n) _ _ _ _ hall W (hL _ _ _ (rep_of_pre hpre))).mono ?_
  rintro en W' ⟨v', L', rfl, hr', o, ho, ns, h1, h2, h3, h4⟩
  exact ⟨o, ho, ns, congrArg Ending.returned h2, post_of_ent (h3 _ _ _ hr') h1 h4⟩
noncomputable def inY (P : Program) (S : Ctx) (n : Nat) (f : FuncId) (args : Array Value) (L : List Blk) (k : Nat) : T (Value × List Blk) := inCall P (ev P S n) f args L fun v L' => .or (.tail (L'.map (·.nm))) fun d => match Nat.ble k d with
  | true => .ret (v, L'.take k ++ L'.drop d)
  | false => .fail
theorem meets_ofY (hS : S.holds P) (hP : P.follows .mixedOrders = true) {n k : Nat} {c : CallC} {o : O} {R : (Nat → Let) → Res (Value × List Blk)} {L : List Blk} (hL : Ent (blks c.mem) L) (h : Ran (inY P S n c.f c.args L k) o R)
    (hQ : c.ok → ∀ ns, (R ns).holds (leafB c)) : Meets P c := by
  intro hok W hpre
  have hall := h.all (hQ hok)
  unfold inY at hall
  refine (inCall_sound (ev_sound hS hP n) _ _ _ _ hall W (hL _ _ _ (rep_of_pre hpre))).mono ?_
  rintro en W' ⟨v', L', rfl, hr', d, hd⟩
  dsimp only at hd
  split at hd
  · rename_i hk
    have hk := Nat.le_of_ble_eq_true hk
    obtain ⟨o, ho, ns, h1, h2, h3, h4⟩ := hd
    refine ⟨o, ho, ns, congrArg Ending.returned h2, post_of_ent (h3 _ _ _ (hr'.sub ?_)) h1 h4⟩
    have : L' = L'.take k ++ L'.drop k := (List.take_append_drop k L').symm
    conv => rhs; rw [this]
    refine List.Sublist.append (List.Sublist.refl _) ?_
    have e : L'.drop d = (L'.drop k).drop (d - k) := by rw [List.drop_drop]; congr 1; omega
    rw [e]
    exact List.drop_sublist _ _
  · exact hd.elim
def leafLB {σ : Type} (c : LoopC) (ks : List Nat) (slots : σ → List (Nat × Value)) (mem : σ → List Blk) (ok : σ → Prop) (μ : σ → Nat) (s : σ) (y : Exit × Nat × List Value × List Blk) : Prop :=
  y.2.1 = c.n ∧ ((y.1 = .normal ∧ ∃ s', ok s' ∧ μ s' < μ s ∧ ks.zip y.2.2.1 = slots s' ∧ Ent y.2.2.2 (mem s')) ∨
    (y.1 ≠ .normal ∧ ∃ o ∈ c.outs, y.1 = o.2.1 ∧ ∃ ns : List Let, ns.length = c.mem.m ∧ (∃ q : List Nat, o.2.2 ns = q.filterMap fun i => (ks.zip y.2.2.1)[i]?) ∧ Ent y.2.2.2 ((o.1.nw ns ++ o.1.nb ns).map ownOf) ∧ o.1.hyp ns))
theorem loop_ofB {σ : Type} {S : σ → Ctx} (hS : ∀ s, (S s).holds P) (hP : P.follows .mixedOrders = true) {n : Nat} {fn : FuncId} {body : Code} {c : LoopC} (hc : c.c = .loop body) (ks : List Nat) (slots : σ → List (Nat × Value)) (mem : σ → List Blk) (ok : σ → Prop) (μ : σ → Nat)
    (s0 : σ) (h0 : c.ok → ok s0) (hs0 : ∀ p ∈ slots s0, p ∈ c.sl) (hm0 : Ent (blks c.mem) (mem s0))
    {o : σ → O} {R : σ → (Nat → Value) → (Nat → Let) → Res (Exit × Nat × List Value × List Blk)} (h : ∀ s f, ok s → Ran (pieceT P (S s) n fn body c.n (slots s) ((List.range c.n).map f) (mem s) ks) (o s) (R s f))
    (hQ : c.ok → ∀ s f, ok s → ∀ ns, (R s f ns).holds (leafLB c ks slots mem ok μ s)) : MeetsL P c := by
  intro hok a W hk hpre
  rw [hc]
  have hrm : ∀ (xs : List Value) (n : Nat), xs.length = n → (List.range n).map (fun j => xs.getD j undef) = xs := fun xs n h => by
    apply List.ext_getElem?
    intro i
    rw [List.getElem?_map]
    by_cases hi : i < n
    · rw [List.getElem?_range hi, List.getElem?_eq_getElem (by omega)]
      simp [List.getD_eq_getElem?_getD, List.getElem?_eq_getElem (show i < xs.length by omega)]
    · rw [List.getElem?_eq_none (by simpa using Nat.le_of_not_lt hi), List.getElem?_eq_none (by omega)]
      rfl
  have key : ∀ m s a W', ok s → μ s < m → Known c.n (slots s) a → Rep W (keepOf c.mem) (mem s) W' →
      Code.rounds P body (fun x a' W' => ∃ o ∈ c.outs, x = o.2.1 ∧ calm x = true ∧ ∃ ns, Known c.n (o.2.2 ns) a' ∧ c.mem.post o.1 W W' ns) m a W' := by
    intro m
    induction m with
    | zero => intro s a W' _ hlt; omega
    | succ m ih =>
      intro s a W' hs hlt hK hR
      rw [rounds_succ]
      have hran := h s (fun j => a.tmps.toList.getD j undef) hs
      rw [hrm a.tmps.toList c.n (by rw [Array.length_toList]; exact hK.size)] at hran
      refine wp_of (hS s) hP hran hK hR fun ns => Res.holds_mono (fun y hy a' W2 hx hK' hR' => ?_) _ (hQ hok s (fun j => a.tmps.toList.getD j undef) hs ns)
      obtain ⟨hn, hy⟩ := hy
      rcases hy with ⟨hx1, s', hs', hμ, hz, hm⟩ | ⟨hx1, o, ho, he, ns', g1, ⟨q, g2⟩, g3, g5⟩
      · rw [hx1]
        rw [hn, hz] at hK'
        exact ih s' a' W2 hs' (by omega) hK' (hm _ _ _ hR')
      · have hfin : ∃ o ∈ c.outs, y.1 = o.2.1 ∧ calm y.1 = true ∧ ∃ ns, Known c.n (o.2.2 ns) a' ∧ c.mem.post o.1 W W2 ns := by
          refine ⟨o, ho, he, hx, ns', ?_, post_of_ent (g3 _ _ _ hR') g1 g5⟩
          rw [hn] at hK'
          refine Known.sub hK' fun p hp => ?_
          rw [g2] at hp
          obtain ⟨i, -, hi⟩ := List.mem_filterMap.1 hp
          exact List.mem_of_getElem? hi
        cases hy1 : y.1 with
        | normal => exact absurd hy1 hx1
        | _ => rw [hy1] at hfin; exact hfin
  exact wp_loop_rounds (μ s0 + 1) (key _ s0 a W (h0 hok) (by omega) (Known.sub hk hs0) (hm0 _ _ _ (rep_of_pre hpre)))
end Go.Proofs.YtlpcnaeknbmjdaaGreat.Sy

namespace Go.Proofs.YtlpcnaeknbmjdaaGreat.Sy
open Go Go.RowKit
variable {P : Program}
def pickF {β : Type} (f : Nat) : List (Nat × β) → List β
  | [] => []
  | p :: r => match Nat.beq p.1 f with
    | true => p.2 :: pickF f r
    | false => pickF f r
theorem pickF_mem {β : Type} {f : Nat} {x : β} : ∀ {l : List (Nat × β)}, x ∈ pickF f l → ∃ p ∈ l, p.2 = x
  | [], h => by cases h
  | p :: r, h => by
    unfold pickF at h
    split at h
    · rcases List.mem_cons.1 h with rfl | h
      · exact ⟨p, List.mem_cons_self, rfl⟩
      · obtain ⟨q, hq, e⟩ := pickF_mem h
        exact ⟨q, List.mem_cons_of_mem _ hq, e⟩
    · obtain ⟨q, hq, e⟩ := pickF_mem h
      exact ⟨q, List.mem_cons_of_mem _ hq, e⟩
def mkS (cl : List (FuncId × (Array Value → List Blk → CallC))) (lp : List (FuncId × (F → List Blk → LoopC))) (op : List (FuncId × Nat × (F → List Blk → OpK))) : Ctx :=
  ⟨fun f => pickF f cl, fun f => pickF f lp, fun _ _ => [], fun f n => pickF n (pickF f op), fun _ => [], fun _ => []⟩
theorem mkS_holds {cl : List (FuncId × (Array Value → List Blk → CallC))} {lp : List (FuncId × (F → List Blk → LoopC))} {op : List (FuncId × Nat × (F → List Blk → OpK))}
    (h1 : ∀ p ∈ cl, ∀ a L, Meets P (p.2 a L)) (h2 : ∀ p ∈ lp, ∀ a L, MeetsL P (p.2 a L)) (h3 : ∀ p ∈ op, ∀ a L, (p.2.2 a L).meets P) : (mkS cl lp op).holds P := by
  refine ⟨fun f c hc a L => ?_, fun f c hc a L => ?_, fun f n c hc => (by cases hc), fun f n c hc a L => ?_, fun f c hc => (by cases hc), fun f c hc => (by cases hc)⟩
  · obtain ⟨p, hp, rfl⟩ := pickF_mem hc
    exact h1 p hp a L
  · obtain ⟨p, hp, rfl⟩ := pickF_mem hc
    exact h2 p hp a L
  · obtain ⟨p, hp, rfl⟩ := pickF_mem hc
    obtain ⟨q, hq, rfl⟩ := pickF_mem hp
    exact h3 q hq a L
def mkU (S : Ctx) (cu : List (FuncId × (Array Value → List Blk → CallU))) (lu : List (FuncId × (F → List Blk → LoopU))) : Ctx :=
  ⟨S.cl, S.lp, S.rg, S.op, fun f => pickF f cu, fun f => pickF f lu⟩
theorem mkU_holds {S : Ctx} (hS : S.holds P) {cu : List (FuncId × (Array Value → List Blk → CallU))} {lu : List (FuncId × (F → List Blk → LoopU))}
    (h1 : ∀ p ∈ cu, ∀ a L, Meets P (p.2 a L).c) (h2 : ∀ p ∈ lu, ∀ a L, MeetsL P (p.2 a L).c) : (mkU S cu lu).holds P := by
  refine ⟨hS.cl, hS.lp, hS.rg, hS.op, fun f c hc a L => ?_, fun f c hc a L => ?_⟩
  · obtain ⟨p, hp, rfl⟩ := pickF_mem hc
    exact h1 p hp a L
  · obtain ⟨p, hp, rfl⟩ := pickF_mem hc
    exact h2 p hp a L
def S0 : Ctx := mkS [] [] []
theorem S0_holds : S0.holds P := mkS_holds (fun _ h => (by cases h)) (fun _ h => (by cases h)) (fun _ h => (by cases h))
noncomputable def argI (a : Array Value) (i : Nat) : Int := match nth a.toList i with
  | some (.int _ n) => n
  | _ => 0
def rowO (e size n : Nat) (xs : List Value) (v : Value → Value) : OutM × (List Let → Value) :=
  (⟨fun ns => n ≤ num ns 1, fun ns => [(num ns 0, .row e size n (num ns 1) xs)], fun _ => []⟩, fun ns => v (.slice (some ⟨num ns 0, 0, none⟩) n (num ns 1)))
theorem rowO_leaf {c : CallC} {e size n : Nat} {xs : List Value} {v : Value → Value} (ho : rowO e size n xs v ∈ c.outs) (hm : c.mem.m = 2) {g cap : Nat} {y : Value × List Blk} (i : Nat) {b : Blk} (hv : y.1 = v (.slice (some ⟨g, 0, none⟩) n cap)) (hb : y.2[i]? = some b) (hf : fitB b (g, .row e size n cap xs)) (hc : n ≤ cap) : leafC c y := by
  refine ⟨_, ho, [⟨g, 0, false, undef, []⟩, ⟨cap, 0, false, undef, []⟩], hm.symm, hv, ⟨[i], by simp, ?_⟩, hc⟩
  have : pickL y.2 [i] = [b] := by simp [pickL, hb]
  rw [this]
  exact ⟨hf, trivial⟩
theorem rowO_leaf' {c : CallC} {e size n n' : Nat} {xs xs' : List Value} {v : Value → Value} (ho : rowO e size n xs v ∈ c.outs) (hm : c.mem.m = 2) {g cap : Nat} {y : Value × List Blk} (i : Nat) (hv : y.1 = v (.slice (some ⟨g, 0, none⟩) n' cap)) (hb : y.2[i]? = some ⟨g, .row e size n' cap xs', true⟩) (hn : n' = n) (hx : xs' = xs) (hc : n' ≤ cap) : leafC c y := by
  subst hn hx
  exact rowO_leaf ho hm i hv hb ⟨rfl, rfl, .inl rfl⟩ hc
def plainO (v : Value) : OutM × (List Let → Value) := (⟨fun _ => True, fun _ => [], fun _ => []⟩, fun _ => v)
theorem plainO_leaf {c : CallC} {v : Value} (ho : plainO v ∈ c.outs) (hm : c.mem.m = 0) {y : Value × List Blk} (hv : y.1 = v) : leafC c y :=
  ⟨_, ho, [], hm.symm, hv, ⟨[], List.nodup_nil, trivial⟩, trivial⟩
def ptrN (v : Value) : Nat := match v with
  | .slice (some ⟨b, _, _⟩) _ _ => b
  | .pointer (some ⟨b, _, _⟩) => b
  | _ => 0
def capN (v : Value) : Nat := match v with
  | .slice _ _ c => c
  | _ => 0
noncomputable def argV (a : Array Value) (i : Nat) : Value := match nth a.toList i with
  | some v => v
  | _ => undef
theorem b_and (b c : Bool) : ((bif b then c else false) = true) = (b = true ∧ c = true) := by cases b <;> cases c <;> simp
theorem b_or (b c : Bool) : ((bif b then true else c) = true) = (b = true ∨ c = true) := by cases b <;> cases c <;> simp
theorem b_not (b : Bool) : ((!b) = true) = ¬ (b = true) := by cases b <;> simp
theorem b_f (b : Bool) : (b = false) = ¬ (b = true) := by cases b <;> simp
theorem b_and' (b c : Bool) : ((b && c) = true) = (b = true ∧ c = true) := by cases b <;> cases c <;> simp
theorem b_or' (b c : Bool) : ((b || c) = true) = (b = true ∨ c = true) := by cases b <;> cases c <;> simp
theorem b_tt : (true = true) = True := by simp
theorem b_ft : (false = true) = False := by simp
theorem q_lt (a b : Int) : (Ex.ltQ a b = true) = (a < b) := by rw [Ex.ltQ_eq]; simp
theorem q_le (a b : Int) : (Ex.leQ a b = true) = (a ≤ b) := by rw [Ex.leQ_eq]; simp
theorem q_eq (a b : Int) : (Ex.eqQ a b = true) = (a = b) := by rw [Ex.eqQ_eq]; simp
theorem leafL_next {σ : Type} {c : LoopC} {ks : List Nat} {slots : σ → List (Nat × Value)} {mem : σ → List Blk} {ok : σ → Prop} {μ : σ → Nat} {s : σ} {n : Nat} {vs : List Value} {L : List Blk}
    (s' : σ) (hn : n = c.n) (hok : ok s') (hμ : μ s' < μ s) (hz : ks.zip vs = slots s') (pk : List Nat) (hpk : pk.Nodup) (hp : pickL L pk = mem s') : leafL c ks slots mem ok μ s (.normal, n, vs, L) :=
  ⟨hn, .inl ⟨rfl, s', hok, hμ, hz, pk, hpk, hp⟩⟩
theorem leafL_end {σ : Type} {c : LoopC} {ks : List Nat} {slots : σ → List (Nat × Value)} {mem : σ → List Blk} {ok : σ → Prop} {μ : σ → Nat} {s : σ} {x : Exit} {n : Nat} {vs : List Value} {L : List Blk}
    (i : Nat) {o : OutM × Exit × (List Let → List (Nat × Value))} (ho : c.outs[i]? = some o) (hx : x = o.2.1) (hne : x ≠ .normal) (hn : n = c.n) (ns : List Let) (hm : ns.length = c.mem.m) (q : List Nat) (hq : o.2.2 ns = q.filterMap fun i => (ks.zip vs)[i]?)
    (pk : List Nat) (hpk : pk.Nodup) (hf : fitsB (pickL L pk) (o.1.nw ns ++ o.1.nb ns)) (hh : o.1.hyp ns) : leafL c ks slots mem ok μ s (x, n, vs, L) :=
  ⟨hn, .inr ⟨hne, o, List.mem_of_getElem? ho, hx, ns, hm, ⟨q, hq⟩, ⟨pk, hpk, hf⟩, hh⟩⟩
theorem inc_q (k : Nat) (h : k < 9223372036854775807) : Ex.wrapQ .i64 (Ex.addQ (k : Int) 1) = ((k + 1 : Nat) : Int) := by
  rw [Ex.wrapQ_eq, Ex.addQ_eq]
  simp [IntKind.wrap, IntKind.signed, IntKind.bits]
  omega
def loopsOf : Code → List Code
  | .loop c => c :: loopsOf c
  | .seq a b => loopsOf a ++ loopsOf b
  | .block _ c | .scope c => loopsOf c
  | .cond _ a b => loopsOf a ++ loopsOf b
  | _ => []
def loopBody (f : Func) (k : Nat) : Code := match f.body with
  | some c => (loopsOf c).getD k .skip
  | none => .skip
def plainC (f : FuncId) (args : Array Value) (v : Value) : CallC := ⟨f, args, True, ⟨[], [], 0, []⟩, [plainO v]⟩
end Go.Proofs.YtlpcnaeknbmjdaaGreat.Sy

namespace Go.Proofs.YtlpcnaeknbmjdaaGreat
open Go
theorem mixed : Tryz.prog.follows .mixedOrders = true := by kernel_rfl
end Go.Proofs.YtlpcnaeknbmjdaaGreat

namespace Go.Proofs.YtlpcnaeknbmjdaaGreat.Lw
set_option linter.unusedVariables false
set_option linter.unusedSimpArgs false
open Go Go.RowKit
open Go.Proofs.YtlpcnaeknbmjdaaGreat.Sy (Let Blk)
structure I where
  op : Int
  rd : Int
  rn : Int
  rm : Int
  imm : Int
  cond : Int
  deriving DecidableEq
def I.cells (i : I) : List Value := [.int .i64 i.op, .int .i64 i.rd, .int .i64 i.rn, .int .i64 i.rm, .int .i64 i.imm, .int .i64 i.cond]
def insCells (l : List I) : List Value := l.flatMap I.cells
def movk (r x : Int) (i : Int) : List I := if x = 0 then [] else [⟨2, r, 0, 0, x, i⟩]
def numL (r v : Int) : List I := ⟨1, r, 0, 0, v % 65536, 0⟩ :: (movk r (v / 65536 % 65536) 1 ++ (movk r (v / 4294967296 % 65536) 2 ++ movk r (v / 281474976710656 % 65536) 3))
def goodU (v : Int) : Prop := 0 ≤ v ∧ v < 18446744073709551616
abbrev tI : TypeId := 49
def numC (r v : Int) : Sy.CallC := ⟨159, #[.int .i64 r, .int .u64 v], goodU v, ⟨[], [], 2, []⟩, [Sy.rowO tI 6 (numL r v).length (insCells (numL r v)) id]⟩
def rnum0 (r v : Int) : Sy.CallC := ⟨138, #[.slice none 0 0, .int .i64 r, .int .u64 v], goodU v, ⟨[], [], 2, []⟩, [Sy.rowO tI 6 (numL r v).length (insCells (numL r v)) id]⟩
def rnumA (g n cap : Nat) (xs : List Value) (r v : Int) : Sy.CallC := ⟨138, #[.slice (some ⟨g, 0, none⟩) n cap, .int .i64 r, .int .u64 v], goodU v ∧ n ≤ 1000000, ⟨[], [(g, .row tI 6 n cap xs)], 2, []⟩,
  [Sy.rowO tI 6 (n + (numL r v).length) (xs ++ insCells (numL r v)) id]⟩
def rnum0_o : Sy.O := (Sy.O.steps [0, 0, 0, 0, 0, 0, 0, 0, 0, 0, 0, 0] (Sy.O.fork (Sy.O.steps [0, 0, 0, 1, 0, 0, 0, 0, 0, 0, 0, 0, 0, 0, 0] (Sy.O.fork (Sy.O.steps [0, 0, 0, 1, 0, 0, 0, 0, 0, 0, 0, 0, 0, 0, 0] (Sy.O.fork (Sy.O.steps [0, 0, 0, 1, 0, 0, 0, 0, 0, 0, 0, 0, 0, 0, 0] Sy.O.nil) (Sy.O.steps [0] Sy.O.nil))) (Sy.O.steps [0] (Sy.O.fork (Sy.O.steps [0, 0, 0, 1, 0, 0, 0, 0, 0, 0, 0, 0, 0, 0, 0] Sy.O.nil) (Sy.O.steps [0] Sy.O.nil))))) (Sy.O.steps [0] (Sy.O.fork (Sy.O.steps [0, 0, 0, 1, 0, 0, 0, 0, 0, 0, 0, 0, 0, 0, 0] (Sy.O.fork (Sy.O.steps [0, 0, 0, 1, 0, 0, 0, 0, 0, 0, 0, 0, 0, 0, 0] Sy.O.nil) (Sy.O.steps [0] Sy.O.nil))) (Sy.O.steps [0] (Sy.O.fork (Sy.O.steps [0, 0, 0, 1, 0, 0, 0, 0, 0, 0, 0, 0, 0, 0, 0] Sy.O.nil) (Sy.O.steps [0] Sy.O.nil)))))))
noncomputable def rnum0_R (r : Int) (v : Int) (ns : Nat → Sy.Let) : Sy.Res (Value × List Blk) :=
 let z0 := (Let.n (ns 2))
 let z1 := (nat_lit 65536)
 let z2 := (Ex.wrapQ IntKind.u64 (Ex.quoQ v z1))
 let z3 := (Let.n (ns 5))
 let z4 := (Nat.le (2 : Nat) z3)
 let z5 := (Ex.wrapQ IntKind.u64 (Ex.quoQ z2 z1))
 let z6 := (!Ex.eqQ (Ex.remQ z5 z1) (0 : Int))
 let z7 := (Let.n (ns 8))
 let z8 := (Nat.le (3 : Nat) z7)
 let z9 := (Ex.remQ (Ex.wrapQ IntKind.u64 (Ex.quoQ z5 z1)) z1)
 let z10 := (!Ex.eqQ z9 (0 : Int))
 let z11 := (Let.n (ns 11))
 let z12 := (Ex.wrapQ IntKind.i64 (Ex.remQ v z1))
 let z13 := (Ex.wrapQ IntKind.i64 (Ex.remQ z2 z1))
 let z14 := (Ex.wrapQ IntKind.i64 (Ex.remQ z5 z1))
 let z15 := (Ex.wrapQ IntKind.i64 z9)
 let z16 := (Sy.Cont.obj (Obj.cells (Array.mk [Value.int IntKind.i64 (2 : Int), Value.int IntKind.i64 r, Value.int IntKind.i64 (0 : Int), Value.int IntKind.i64 (0 : Int), Value.int IntKind.i64 z15, Value.int IntKind.i64 (3 : Int)]) (49 : Nat)))
 let z17 := (Let.n (ns 6))
 let z18 := (Sy.Cont.obj (Obj.cells (Array.mk [Value.int IntKind.i64 (2 : Int), Value.int IntKind.i64 r, Value.int IntKind.i64 (0 : Int), Value.int IntKind.i64 (0 : Int), Value.int IntKind.i64 z14, Value.int IntKind.i64 (2 : Int)]) (49 : Nat)))
 let z19 := (Let.n (ns 3))
 let z20 := (Sy.Cont.obj (Obj.cells (Array.mk [Value.int IntKind.i64 (2 : Int), Value.int IntKind.i64 r, Value.int IntKind.i64 (0 : Int), Value.int IntKind.i64 (0 : Int), Value.int IntKind.i64 z13, Value.int IntKind.i64 (1 : Int)]) (49 : Nat)))
 let z21 := (Let.n (ns 0))
 let z22 := [Value.int IntKind.i64 (1 : Int), Value.int IntKind.i64 r, Value.int IntKind.i64 (0 : Int), Value.int IntKind.i64 (0 : Int), Value.int IntKind.i64 z12, Value.int IntKind.i64 (0 : Int)]
 let z23 := (Sy.Cont.obj (Obj.cells (Array.mk z22) (49 : Nat)))
 let z24 := (Let.n (ns 7))
 let z25 := (some (Addr.mk z24 (0 : Nat) none))
 let z26 := (Let.n (ns 4))
 let z27 := (some (Addr.mk z26 (0 : Nat) none))
 Sy.Res.hyp (Nat.le (1 : Nat) z0) (Sy.Res.br (!Ex.eqQ (Ex.remQ z2 z1) (0 : Int)) (Sy.Res.hyp z4 (Sy.Res.br z6 (Sy.Res.hyp z8 (Sy.Res.br z10 (Sy.Res.hyp (Nat.le (4 : Nat) z11) (Sy.Res.leaf (Value.slice (some (Addr.mk (Let.n (ns 10)) (0 : Nat) none)) (4 : Nat) z11, [Blk.mk (Let.n (ns 10)) (Sy.Cont.row (49 : Nat) (6 : Nat) (4 : Nat) z11 [Value.int IntKind.i64 (1 : Int), Value.int IntKind.i64 r, Value.int IntKind.i64 (0 : Int), Value.int IntKind.i64 (0 : Int), Value.int IntKind.i64 z12, Value.int IntKind.i64 (0 : Int), Value.int IntKind.i64 (2 : Int), Value.int IntKind.i64 r, Value.int IntKind.i64 (0 : Int), Value.int IntKind.i64 (0 : Int), Value.int IntKind.i64 z13, Value.int IntKind.i64 (1 : Int), Value.int IntKind.i64 (2 : Int), Value.int IntKind.i64 r, Value.int IntKind.i64 (0 : Int), Value.int IntKind.i64 (0 : Int), Value.int IntKind.i64 z14, Value.int IntKind.i64 (2 : Int), Value.int IntKind.i64 (2 : Int), Value.int IntKind.i64 r, Value.int IntKind.i64 (0 : Int), Value.int IntKind.i64 (0 : Int), Value.int IntKind.i64 z15, Value.int IntKind.i64 (3 : Int)]) true, Blk.mk (Let.n (ns 9)) z16 true, Blk.mk z17 z18 true, Blk.mk z19 z20 true, Blk.mk z21 z23 true]))) (Sy.Res.leaf (Value.slice z25 (3 : Nat) z7, [Blk.mk z24 (Sy.Cont.row (49 : Nat) (6 : Nat) (3 : Nat) z7 [Value.int IntKind.i64 (1 : Int), Value.int IntKind.i64 r, Value.int IntKind.i64 (0 : Int), Value.int IntKind.i64 (0 : Int), Value.int IntKind.i64 z12, Value.int IntKind.i64 (0 : Int), Value.int IntKind.i64 (2 : Int),
 Value.int IntKind.i64 r, Value.int IntKind.i64 (0 : Int), Value.int IntKind.i64 (0 : Int), Value.int IntKind.i64 z13, Value.int IntKind.i64 (1 : Int), Value.int IntKind.i64 (2 : Int), Value.int IntKind.i64 r, Value.int IntKind.i64 (0 : Int), Value.int IntKind.i64 (0 : Int), Value.int IntKind.i64 z14, Value.int IntKind.i64 (2 : Int)]) true, Blk.mk z17 z18 true, Blk.mk z19 z20 true, Blk.mk z21 z23 true])))) (Sy.Res.br z10 (Sy.Res.hyp z8 (Sy.Res.leaf (Value.slice z25 (3 : Nat) z7, [Blk.mk z24 (Sy.Cont.row (49 : Nat) (6 : Nat) (3 : Nat) z7 [Value.int IntKind.i64 (1 : Int), Value.int IntKind.i64 r, Value.int IntKind.i64 (0 : Int), Value.int IntKind.i64 (0 : Int), Value.int IntKind.i64 z12, Value.int IntKind.i64 (0 : Int), Value.int IntKind.i64 (2 : Int), Value.int IntKind.i64 r, Value.int IntKind.i64 (0 : Int), Value.int IntKind.i64 (0 : Int), Value.int IntKind.i64 z13, Value.int IntKind.i64 (1 : Int), Value.int IntKind.i64 (2 : Int), Value.int IntKind.i64 r, Value.int IntKind.i64 (0 : Int), Value.int IntKind.i64 (0 : Int), Value.int IntKind.i64 z15, Value.int IntKind.i64 (3 : Int)]) true, Blk.mk z17 z16 true, Blk.mk z19 z20 true, Blk.mk z21 z23 true]))) (Sy.Res.leaf (Value.slice z27 (2 : Nat) z3, [Blk.mk z26 (Sy.Cont.row (49 : Nat) (6 : Nat) (2 : Nat) z3 [Value.int IntKind.i64 (1 : Int), Value.int IntKind.i64 r, Value.int IntKind.i64 (0 : Int), Value.int IntKind.i64 (0 : Int), Value.int IntKind.i64 z12, Value.int IntKind.i64 (0 : Int), Value.int IntKind.i64 (2 : Int), Value.int
 IntKind.i64 r, Value.int IntKind.i64 (0 : Int), Value.int IntKind.i64 (0 : Int), Value.int IntKind.i64 z13, Value.int IntKind.i64 (1 : Int)]) true, Blk.mk z19 z20 true, Blk.mk z21 z23 true]))))) (Sy.Res.br z6 (Sy.Res.hyp z4 (Sy.Res.br z10 (Sy.Res.hyp z8 (Sy.Res.leaf (Value.slice z25 (3 : Nat) z7, [Blk.mk z24 (Sy.Cont.row (49 : Nat) (6 : Nat) (3 : Nat) z7 [Value.int IntKind.i64 (1 : Int), Value.int IntKind.i64 r, Value.int IntKind.i64 (0 : Int), Value.int IntKind.i64 (0 : Int), Value.int IntKind.i64 z12, Value.int IntKind.i64 (0 : Int), Value.int IntKind.i64 (2 : Int), Value.int IntKind.i64 r, Value.int IntKind.i64 (0 : Int), Value.int IntKind.i64 (0 : Int), Value.int IntKind.i64 z14, Value.int IntKind.i64 (2 : Int), Value.int IntKind.i64 (2 : Int), Value.int IntKind.i64 r, Value.int IntKind.i64 (0 : Int), Value.int IntKind.i64 (0 : Int), Value.int IntKind.i64 z15, Value.int IntKind.i64 (3 : Int)]) true, Blk.mk z17 z16 true, Blk.mk z19 z18 true, Blk.mk z21 z23 true]))) (Sy.Res.leaf (Value.slice z27 (2 : Nat) z3, [Blk.mk z26 (Sy.Cont.row (49 : Nat) (6 : Nat) (2 : Nat) z3 [Value.int IntKind.i64 (1 : Int), Value.int IntKind.i64 r, Value.int IntKind.i64 (0 : Int), Value.int IntKind.i64 (0 : Int), Value.int IntKind.i64 z12, Value.int IntKind.i64 (0 : Int), Value.int IntKind.i64 (2 : Int), Value.int IntKind.i64 r, Value.int IntKind.i64 (0 : Int), Value.int IntKind.i64 (0 : Int), Value.int IntKind.i64 z14, Value.int IntKind.i64 (2 : Int)]) true, Blk.mk z19 z18 true, Blk.mk z21 z23
 true])))) (Sy.Res.br z10 (Sy.Res.hyp z4 (Sy.Res.leaf (Value.slice z27 (2 : Nat) z3, [Blk.mk z26 (Sy.Cont.row (49 : Nat) (6 : Nat) (2 : Nat) z3 [Value.int IntKind.i64 (1 : Int), Value.int IntKind.i64 r, Value.int IntKind.i64 (0 : Int), Value.int IntKind.i64 (0 : Int), Value.int IntKind.i64 z12, Value.int IntKind.i64 (0 : Int), Value.int IntKind.i64 (2 : Int), Value.int IntKind.i64 r, Value.int IntKind.i64 (0 : Int), Value.int IntKind.i64 (0 : Int), Value.int IntKind.i64 z15, Value.int IntKind.i64 (3 : Int)]) true, Blk.mk z19 z16 true, Blk.mk z21 z23 true]))) (Sy.Res.leaf (Value.slice (some (Addr.mk (Let.n (ns 1)) (0 : Nat) none)) (1 : Nat) z0, [Blk.mk (Let.n (ns 1)) (Sy.Cont.row (49 : Nat) (6 : Nat) (1 : Nat) z0 z22) true, Blk.mk z21 z23 true])))))
theorem rnum0_run (r v : Int) : Sy.Ran (Sy.inT Tryz.prog Sy.S0 100 138 #[.slice none 0 0, .int .i64 r, .int .u64 v] [] (Sy.rowT tI)) rnum0_o (rnum0_R r v) := ⟨fun ns => by kernel_rfl, fun ns => by kernel_rfl⟩
def rnumA_o : Sy.O := (Sy.O.steps [0, 0, 0, 1, 0, 1, 1, 0, 0, 0, 0, 0, 0, 0, 0] (Sy.O.fork (Sy.O.steps [0, 0, 0, 1, 0, 1, 1, 0, 0, 0, 0, 0, 0, 0, 0] (Sy.O.fork (Sy.O.steps [0, 0, 0, 1, 0, 1, 1, 0, 0, 0, 0, 0, 0, 0, 0] (Sy.O.fork (Sy.O.steps [0, 0, 0, 1, 0, 1, 1, 0, 0, 0, 0, 0, 0, 0, 0] Sy.O.nil) (Sy.O.steps [0] Sy.O.nil))) (Sy.O.steps [0] (Sy.O.fork (Sy.O.steps [0, 0, 0, 1, 0, 1, 1, 0, 0, 0, 0, 0, 0, 0, 0] Sy.O.nil) (Sy.O.steps [0] Sy.O.nil))))) (Sy.O.steps [0] (Sy.O.fork (Sy.O.steps [0, 0, 0, 1, 0, 1, 1, 0, 0, 0, 0, 0, 0, 0, 0] (Sy.O.fork (Sy.O.steps [0, 0, 0, 1, 0, 1, 1, 0, 0, 0, 0, 0, 0, 0, 0] Sy.O.nil) (Sy.O.steps [0] Sy.O.nil))) (Sy.O.steps [0] (Sy.O.fork (Sy.O.steps [0, 0, 0, 1, 0, 1, 1, 0, 0, 0, 0, 0, 0, 0, 0] Sy.O.nil) (Sy.O.steps [0] Sy.O.nil)))))))
noncomputable def rnumA_R (g : Nat) (n : Nat) (cap : Nat) (xs : List Value) (r : Int) (v : Int) (ns : Nat → Sy.Let) : Sy.Res (Value × List Blk) :=
 let z0 := (n + (1 : Nat))
 let z1 := (Let.n (ns 2))
 let z2 := (nat_lit 65536)
 let z3 := (Ex.wrapQ IntKind.u64 (Ex.quoQ v z2))
 let z4 := (n + (1 : Nat) + (1 : Nat) ≤ (9223372036854775807 : Nat))
 let z5 := (n + (1 : Nat) + (1 : Nat))
 let z6 := (z5 * (48 : Nat) ≤ (140737488355328 : Nat))
 let z7 := (Let.n (ns 5))
 let z8 := (Nat.le z5 z7)
 let z9 := (Ex.wrapQ IntKind.u64 (Ex.quoQ z3 z2))
 let z10 := (!Ex.eqQ (Ex.remQ z9 z2) (0 : Int))
 let z11 := (n + (1 : Nat) + (1 : Nat) + (1 : Nat) ≤ (9223372036854775807 : Nat))
 let z12 := (n + (1 : Nat) + (1 : Nat) + (1 : Nat))
 let z13 := (z12 * (48 : Nat) ≤ (140737488355328 : Nat))
 let z14 := (Let.n (ns 8))
 let z15 := (Nat.le z12 z14)
 let z16 := (Ex.remQ (Ex.wrapQ IntKind.u64 (Ex.quoQ z9 z2)) z2)
 let z17 := (!Ex.eqQ z16 (0 : Int))
 let z18 := (n + (1 : Nat) + (1 : Nat) + (1 : Nat) + (1 : Nat))
 let z19 := (Let.n (ns 11))
 let z20 := [Value.int IntKind.i64 (1 : Int), Value.int IntKind.i64 r, Value.int IntKind.i64 (0 : Int), Value.int IntKind.i64 (0 : Int), Value.int IntKind.i64 (Ex.wrapQ IntKind.i64 (Ex.remQ v z2)), Value.int IntKind.i64 (0 : Int)]
 let z21 := (List.append xs z20)
 let z22 := [Value.int IntKind.i64 (2 : Int), Value.int IntKind.i64 r, Value.int IntKind.i64 (0 : Int), Value.int IntKind.i64 (0 : Int), Value.int IntKind.i64 (Ex.wrapQ IntKind.i64 (Ex.remQ z3 z2)), Value.int IntKind.i64 (1 : Int)]
 let z23 := (List.append z21 z22)
 let z24 := [Value.int IntKind.i64 (2 : Int), Value.int IntKind.i64 r, Value.int IntKind.i64 (0 : Int), Value.int IntKind.i64 (0 : Int), Value.int IntKind.i64 (Ex.wrapQ IntKind.i64 (Ex.remQ z9 z2)), Value.int IntKind.i64 (2 : Int)]
 let z25 := (List.append z23 z24)
 let z26 := [Value.int IntKind.i64 (2 : Int), Value.int IntKind.i64 r, Value.int IntKind.i64 (0 : Int), Value.int IntKind.i64 (0 : Int), Value.int IntKind.i64 (Ex.wrapQ IntKind.i64 z16), Value.int IntKind.i64 (3 : Int)]
 let z27 := (Sy.Cont.obj (Obj.cells (Array.mk z26) (49 : Nat)))
 let z28 := (Let.n (ns 6))
 let z29 := (Sy.Cont.obj (Obj.cells (Array.mk z24) (49 : Nat)))
 let z30 := (Let.n (ns 3))
 let z31 := (Sy.Cont.obj (Obj.cells (Array.mk z22) (49 : Nat)))
 let z32 := (Let.n (ns 0))
 let z33 := (Sy.Cont.obj (Obj.cells (Array.mk z20) (49 : Nat)))
 let z34 := (Let.n (ns 7))
 let z35 := (some (Addr.mk z34 (0 : Nat) none))
 let z36 := (Let.n (ns 4))
 let z37 := (some (Addr.mk z36 (0 : Nat) none))
 let z38 := (List.append z21 z24)
 Sy.Res.need (n + (1 : Nat) ≤ (9223372036854775807 : Nat)) (Sy.Res.need (z0 * (48 : Nat) ≤ (140737488355328 : Nat)) (Sy.Res.hyp (Nat.le z0 z1) (Sy.Res.br (!Ex.eqQ (Ex.remQ z3 z2) (0 : Int)) (Sy.Res.need z4 (Sy.Res.need z6 (Sy.Res.hyp z8 (Sy.Res.br z10 (Sy.Res.need z11 (Sy.Res.need z13 (Sy.Res.hyp z15 (Sy.Res.br z17 (Sy.Res.need (n + (1 : Nat) + (1 : Nat) + (1 : Nat) + (1 : Nat) ≤ (9223372036854775807 : Nat)) (Sy.Res.need (z18 * (48 : Nat) ≤ (140737488355328 : Nat)) (Sy.Res.hyp (Nat.le z18 z19) (Sy.Res.leaf (Value.slice (some (Addr.mk (Let.n (ns 10)) (0 : Nat) none)) z18 z19, [Blk.mk (Let.n (ns 10)) (Sy.Cont.row (49 : Nat) (6 : Nat) z18 z19 (List.append z25 z26)) true, Blk.mk (Let.n (ns 9)) z27 true, Blk.mk z28 z29 true, Blk.mk z30 z31 true, Blk.mk z32 z33 true]))))) (Sy.Res.leaf (Value.slice z35 z12 z14, [Blk.mk z34 (Sy.Cont.row (49 : Nat) (6 : Nat) z12 z14 z25) true, Blk.mk z28 z29 true, Blk.mk z30 z31 true, Blk.mk z32 z33 true])))))) (Sy.Res.br z17 (Sy.Res.need z11 (Sy.Res.need z13 (Sy.Res.hyp z15 (Sy.Res.leaf (Value.slice z35 z12 z14, [Blk.mk z34 (Sy.Cont.row (49 : Nat) (6 : Nat) z12 z14 (List.append z23 z26)) true, Blk.mk z28 z27 true, Blk.mk z30 z31 true, Blk.mk z32 z33 true]))))) (Sy.Res.leaf (Value.slice z37 z5 z7, [Blk.mk z36 (Sy.Cont.row (49 : Nat) (6 : Nat) z5 z7 z23) true, Blk.mk z30 z31 true, Blk.mk z32 z33 true]))))))) (Sy.Res.br z10 (Sy.Res.need z4 (Sy.Res.need z6 (Sy.Res.hyp z8 (Sy.Res.br z17 (Sy.Res.need z11 (Sy.Res.need z13 (Sy.Res.hyp z15 (Sy.Res.leaf
 (Value.slice z35 z12 z14, [Blk.mk z34 (Sy.Cont.row (49 : Nat) (6 : Nat) z12 z14 (List.append z38 z26)) true, Blk.mk z28 z27 true, Blk.mk z30 z29 true, Blk.mk z32 z33 true]))))) (Sy.Res.leaf (Value.slice z37 z5 z7, [Blk.mk z36 (Sy.Cont.row (49 : Nat) (6 : Nat) z5 z7 z38) true, Blk.mk z30 z29 true, Blk.mk z32 z33 true])))))) (Sy.Res.br z17 (Sy.Res.need z4 (Sy.Res.need z6 (Sy.Res.hyp z8 (Sy.Res.leaf (Value.slice z37 z5 z7, [Blk.mk z36 (Sy.Cont.row (49 : Nat) (6 : Nat) z5 z7 (List.append z21 z26)) true, Blk.mk z30 z27 true, Blk.mk z32 z33 true]))))) (Sy.Res.leaf (Value.slice (some (Addr.mk (Let.n (ns 1)) (0 : Nat) none)) z0 z1, [Blk.mk (Let.n (ns 1)) (Sy.Cont.row (49 : Nat) (6 : Nat) z0 z1 z21) true, Blk.mk z32 z33 true])))))))
theorem rnumA_run (g n cap : Nat) (xs : List Value) (r v : Int) : Sy.Ran (Sy.inT Tryz.prog Sy.S0 100 138 #[.slice (some ⟨g, 0, none⟩) n cap, .int .i64 r, .int .u64 v] [⟨g, .row tI 6 n cap xs, true⟩] (Sy.rowT tI)) rnumA_o (rnumA_R g n cap xs r v) := ⟨fun ns => by kernel_rfl, fun ns => by kernel_rfl⟩
def num_o : Sy.O := (Sy.O.steps [0, 0] (Sy.O.fork (Sy.O.steps [0, 0, 0, 1, 0, 0, 0, 0, 0, 0, 0, 0, 0, 0, 0, 0] (Sy.O.fork (Sy.O.steps [0, 0, 0, 1, 0, 0, 0, 0, 0, 0, 0, 0, 0, 0, 0, 0] (Sy.O.fork (Sy.O.steps [0, 0, 0, 1, 0, 0, 0, 0, 0, 0, 0, 0, 0, 0, 0] Sy.O.nil) (Sy.O.steps [0] Sy.O.nil))) (Sy.O.steps [0, 0] (Sy.O.fork (Sy.O.steps [0, 0, 0, 1, 0, 0, 0, 0, 0, 0, 0, 0, 0, 0, 0] Sy.O.nil) (Sy.O.steps [0] Sy.O.nil))))) (Sy.O.steps [0, 0] (Sy.O.fork (Sy.O.steps [0, 0, 0, 1, 0, 0, 0, 0, 0, 0, 0, 0, 0, 0, 0, 0] (Sy.O.fork (Sy.O.steps [0, 0, 0, 1, 0, 0, 0, 0, 0, 0, 0, 0, 0, 0, 0] Sy.O.nil) (Sy.O.steps [0] Sy.O.nil))) (Sy.O.steps [0, 0] (Sy.O.fork (Sy.O.steps [0, 0, 0, 1, 0, 0, 0, 0, 0, 0, 0, 0, 0, 0, 0] Sy.O.nil) (Sy.O.steps [0] Sy.O.nil)))))))
noncomputable def num_R (r : Int) (v : Int) (ns : Nat → Sy.Let) : Sy.Res (Value × List Blk) :=
 let z0 := (Ex.andQ IntKind.u64 (Ex.shrQ IntKind.u64 v (16 : Nat)) (65535 : Int))
 let z1 := (Let.n (ns 3))
 let z2 := (Nat.le (2 : Nat) z1)
 let z3 := (Ex.andQ IntKind.u64 (Ex.shrQ IntKind.u64 v (32 : Nat)) (65535 : Int))
 let z4 := (!Ex.eqQ z3 (0 : Int))
 let z5 := (Let.n (ns 6))
 let z6 := (Nat.le (3 : Nat) z5)
 let z7 := (Ex.andQ IntKind.u64 (Ex.shrQ IntKind.u64 v (48 : Nat)) (65535 : Int))
 let z8 := (!Ex.eqQ z7 (0 : Int))
 let z9 := (Let.n (ns 9))
 let z10 := (Ex.wrapQ IntKind.i64 (Ex.andQ IntKind.u64 v (65535 : Int)))
 let z11 := (Ex.wrapQ IntKind.i64 z0)
 let z12 := (Ex.wrapQ IntKind.i64 z3)
 let z13 := (Ex.wrapQ IntKind.i64 z7)
 let z14 := (Sy.Cont.obj (Obj.cells (Array.mk [Value.int IntKind.i64 (2 : Int), Value.int IntKind.i64 r, Value.int IntKind.i64 (0 : Int), Value.int IntKind.i64 (0 : Int), Value.int IntKind.i64 z13, Value.int IntKind.i64 (3 : Int)]) (49 : Nat)))
 let z15 := (Let.n (ns 4))
 let z16 := (Sy.Cont.obj (Obj.cells (Array.mk [Value.int IntKind.i64 (2 : Int), Value.int IntKind.i64 r, Value.int IntKind.i64 (0 : Int), Value.int IntKind.i64 (0 : Int), Value.int IntKind.i64 z12, Value.int IntKind.i64 (2 : Int)]) (49 : Nat)))
 let z17 := (Let.n (ns 1))
 let z18 := (Sy.Cont.obj (Obj.cells (Array.mk [Value.int IntKind.i64 (2 : Int), Value.int IntKind.i64 r, Value.int IntKind.i64 (0 : Int), Value.int IntKind.i64 (0 : Int), Value.int IntKind.i64 z11, Value.int IntKind.i64 (1 : Int)]) (49 : Nat)))
 let z19 := (Let.n (ns 5))
 let z20 := (some (Addr.mk z19 (0 : Nat) none))
 let z21 := (Let.n (ns 2))
 let z22 := (some (Addr.mk z21 (0 : Nat) none))
 Sy.Res.br (!Ex.eqQ z0 (0 : Int)) (Sy.Res.hyp z2 (Sy.Res.br z4 (Sy.Res.hyp z6 (Sy.Res.br z8 (Sy.Res.hyp (Nat.le (4 : Nat) z9) (Sy.Res.leaf (Value.slice (some (Addr.mk (Let.n (ns 8)) (0 : Nat) none)) (4 : Nat) z9, [Blk.mk (Let.n (ns 8)) (Sy.Cont.row (49 : Nat) (6 : Nat) (4 : Nat) z9 [Value.int IntKind.i64 (1 : Int), Value.int IntKind.i64 r, Value.int IntKind.i64 (0 : Int), Value.int IntKind.i64 (0 : Int), Value.int IntKind.i64 z10, Value.int IntKind.i64 (0 : Int), Value.int IntKind.i64 (2 : Int), Value.int IntKind.i64 r, Value.int IntKind.i64 (0 : Int), Value.int IntKind.i64 (0 : Int), Value.int IntKind.i64 z11, Value.int IntKind.i64 (1 : Int), Value.int IntKind.i64 (2 : Int), Value.int IntKind.i64 r, Value.int IntKind.i64 (0 : Int), Value.int IntKind.i64 (0 : Int), Value.int IntKind.i64 z12, Value.int IntKind.i64 (2 : Int), Value.int IntKind.i64 (2 : Int), Value.int IntKind.i64 r, Value.int IntKind.i64 (0 : Int), Value.int IntKind.i64 (0 : Int), Value.int IntKind.i64 z13, Value.int IntKind.i64 (3 : Int)]) true, Blk.mk (Let.n (ns 7)) z14 true, Blk.mk z15 z16 true, Blk.mk z17 z18 true]))) (Sy.Res.leaf (Value.slice z20 (3 : Nat) z5, [Blk.mk z19 (Sy.Cont.row (49 : Nat) (6 : Nat) (3 : Nat) z5 [Value.int IntKind.i64 (1 : Int), Value.int IntKind.i64 r, Value.int IntKind.i64 (0 : Int), Value.int IntKind.i64 (0 : Int), Value.int IntKind.i64 z10, Value.int IntKind.i64 (0 : Int), Value.int IntKind.i64 (2 : Int), Value.int IntKind.i64 r, Value.int IntKind.i64 (0 : Int), Value.int
 IntKind.i64 (0 : Int), Value.int IntKind.i64 z11, Value.int IntKind.i64 (1 : Int), Value.int IntKind.i64 (2 : Int), Value.int IntKind.i64 r, Value.int IntKind.i64 (0 : Int), Value.int IntKind.i64 (0 : Int), Value.int IntKind.i64 z12, Value.int IntKind.i64 (2 : Int)]) true, Blk.mk z15 z16 true, Blk.mk z17 z18 true])))) (Sy.Res.br z8 (Sy.Res.hyp z6 (Sy.Res.leaf (Value.slice z20 (3 : Nat) z5, [Blk.mk z19 (Sy.Cont.row (49 : Nat) (6 : Nat) (3 : Nat) z5 [Value.int IntKind.i64 (1 : Int), Value.int IntKind.i64 r, Value.int IntKind.i64 (0 : Int), Value.int IntKind.i64 (0 : Int), Value.int IntKind.i64 z10, Value.int IntKind.i64 (0 : Int), Value.int IntKind.i64 (2 : Int), Value.int IntKind.i64 r, Value.int IntKind.i64 (0 : Int), Value.int IntKind.i64 (0 : Int), Value.int IntKind.i64 z11, Value.int IntKind.i64 (1 : Int), Value.int IntKind.i64 (2 : Int), Value.int IntKind.i64 r, Value.int IntKind.i64 (0 : Int), Value.int IntKind.i64 (0 : Int), Value.int IntKind.i64 z13, Value.int IntKind.i64 (3 : Int)]) true, Blk.mk z15 z14 true, Blk.mk z17 z18 true]))) (Sy.Res.leaf (Value.slice z22 (2 : Nat) z1, [Blk.mk z21 (Sy.Cont.row (49 : Nat) (6 : Nat) (2 : Nat) z1 [Value.int IntKind.i64 (1 : Int), Value.int IntKind.i64 r, Value.int IntKind.i64 (0 : Int), Value.int IntKind.i64 (0 : Int), Value.int IntKind.i64 z10, Value.int IntKind.i64 (0 : Int), Value.int IntKind.i64 (2 : Int), Value.int IntKind.i64 r, Value.int IntKind.i64 (0 : Int), Value.int IntKind.i64 (0 : Int), Value.int IntKind.i64 z11,
 Value.int IntKind.i64 (1 : Int)]) true, Blk.mk z17 z18 true]))))) (Sy.Res.br z4 (Sy.Res.hyp z2 (Sy.Res.br z8 (Sy.Res.hyp z6 (Sy.Res.leaf (Value.slice z20 (3 : Nat) z5, [Blk.mk z19 (Sy.Cont.row (49 : Nat) (6 : Nat) (3 : Nat) z5 [Value.int IntKind.i64 (1 : Int), Value.int IntKind.i64 r, Value.int IntKind.i64 (0 : Int), Value.int IntKind.i64 (0 : Int), Value.int IntKind.i64 z10, Value.int IntKind.i64 (0 : Int), Value.int IntKind.i64 (2 : Int), Value.int IntKind.i64 r, Value.int IntKind.i64 (0 : Int), Value.int IntKind.i64 (0 : Int), Value.int IntKind.i64 z12, Value.int IntKind.i64 (2 : Int), Value.int IntKind.i64 (2 : Int), Value.int IntKind.i64 r, Value.int IntKind.i64 (0 : Int), Value.int IntKind.i64 (0 : Int), Value.int IntKind.i64 z13, Value.int IntKind.i64 (3 : Int)]) true, Blk.mk z15 z14 true, Blk.mk z17 z16 true]))) (Sy.Res.leaf (Value.slice z22 (2 : Nat) z1, [Blk.mk z21 (Sy.Cont.row (49 : Nat) (6 : Nat) (2 : Nat) z1 [Value.int IntKind.i64 (1 : Int), Value.int IntKind.i64 r, Value.int IntKind.i64 (0 : Int), Value.int IntKind.i64 (0 : Int), Value.int IntKind.i64 z10, Value.int IntKind.i64 (0 : Int), Value.int IntKind.i64 (2 : Int), Value.int IntKind.i64 r, Value.int IntKind.i64 (0 : Int), Value.int IntKind.i64 (0 : Int), Value.int IntKind.i64 z12, Value.int IntKind.i64 (2 : Int)]) true, Blk.mk z17 z16 true])))) (Sy.Res.br z8 (Sy.Res.hyp z2 (Sy.Res.leaf (Value.slice z22 (2 : Nat) z1, [Blk.mk z21 (Sy.Cont.row (49 : Nat) (6 : Nat) (2 : Nat) z1 [Value.int IntKind.i64 (1 : Int),
 Value.int IntKind.i64 r, Value.int IntKind.i64 (0 : Int), Value.int IntKind.i64 (0 : Int), Value.int IntKind.i64 z10, Value.int IntKind.i64 (0 : Int), Value.int IntKind.i64 (2 : Int), Value.int IntKind.i64 r, Value.int IntKind.i64 (0 : Int), Value.int IntKind.i64 (0 : Int), Value.int IntKind.i64 z13, Value.int IntKind.i64 (3 : Int)]) true, Blk.mk z17 z14 true]))) (Sy.Res.leaf (Value.slice (some (Addr.mk (Let.n (ns 0)) (0 : Nat) none)) (1 : Nat) (1 : Nat), [Blk.mk (Let.n (ns 0)) (Sy.Cont.obj (Obj.cells (Array.mk [Value.int IntKind.i64 (1 : Int), Value.int IntKind.i64 r, Value.int IntKind.i64 (0 : Int), Value.int IntKind.i64 (0 : Int), Value.int IntKind.i64 z10, Value.int IntKind.i64 (0 : Int)]) (49 : Nat))) true]))))
theorem num_run (r v : Int) : Sy.Ran (Sy.inT Tryz.prog Sy.S0 100 159 #[.int .i64 r, .int .u64 v] [] (Sy.rowT tI)) num_o (num_R r v) := ⟨fun ns => by kernel_rfl, fun ns => by kernel_rfl⟩
theorem and16 {v : Int} (h : goodU v) : Ex.wrapQ .i64 (Ex.andQ .u64 v 65535) = v % 65536 := by
  unfold goodU at h
  obtain ⟨n, rfl⟩ : ∃ n : Nat, v = n := ⟨v.toNat, by omega⟩
  rw [Ex.andQ_eq, Ex.wrapQ_eq]
  have : ((BitVec.ofInt 64 (n : Int) &&& BitVec.ofInt 64 65535).toNat : Int) = (n : Int) % 65536 := by
    have e : (BitVec.ofInt 64 (n : Int) &&& BitVec.ofInt 64 65535).toNat = n % 65536 := by
      have h1 : (BitVec.ofInt 64 (n : Int)).toNat = n := by
        rw [BitVec.toNat_ofInt]; omega
      rw [BitVec.toNat_and, h1]
      exact Nat.and_two_pow_sub_one_eq_mod n 16
    rw [e]; omega
  show IntKind.i64.wrap (IntKind.u64.wrap ((BitVec.ofInt 64 (n : Int) &&& BitVec.ofInt 64 65535).toNat : Int)) = _
  rw [this]
  simp [IntKind.wrap, IntKind.signed, IntKind.bits]
  omega
theorem shand {v : Int} (h : goodU v) (k : Nat) (hk : k < 64) : Ex.andQ .u64 (Ex.shrQ .u64 v k) 65535 = v / (2 ^ k : Nat) % 65536 := by
  unfold goodU at h
  obtain ⟨n, rfl⟩ : ∃ n : Nat, v = n := ⟨v.toNat, by omega⟩
  have hs : Ex.shrQ .u64 (n : Int) k = ((n / 2 ^ k : Nat) : Int) := by
    rw [Ex.shrQ_eq]
    have : min k IntKind.u64.bits = k := by simp [IntKind.bits]; omega
    rw [this]
    have : ((2 : Int) ^ k) = ((2 ^ k : Nat) : Int) := by simp
    rw [this]
    exact (Int.ofNat_fdiv n (2 ^ k)).symm
  rw [hs, Ex.andQ_eq]
  have hm : n / 2 ^ k < 18446744073709551616 := Nat.lt_of_le_of_lt (Nat.div_le_self _ _) (by omega)
  generalize hj : n / 2 ^ k = m at *
  have e : (BitVec.ofInt 64 (m : Int) &&& BitVec.ofInt 64 65535).toNat = m % 65536 := by
    have h1 : (BitVec.ofInt 64 (m : Int)).toNat = m := by
      rw [BitVec.toNat_ofInt]; omega
    rw [BitVec.toNat_and, h1]
    exact Nat.and_two_pow_sub_one_eq_mod m 16
  show IntKind.u64.wrap ((BitVec.ofInt 64 (m : Int) &&& BitVec.ofInt 64 65535).toNat : Int) = _
  rw [e]
  have : (n : Int) / ((2 ^ k : Nat) : Int) = (m : Int) := by rw [← hj]; simp
  rw [this]
  simp [IntKind.wrap, IntKind.signed, IntKind.bits]
  omega
theorem wrap16 (x : Int) : Ex.wrapQ .i64 (x % 65536) = x % 65536 := by
  rw [Ex.wrapQ_eq]
  simp [IntKind.wrap, IntKind.signed, IntKind.bits]
  omega
theorem tst_t (x : Int) : ((!Ex.eqQ x 0) = true) = ¬ (x = 0) := by rw [Ex.eqQ_eq]; simp
theorem tst_f (x : Int) : ((!Ex.eqQ x 0) = false) = (x = 0) := by rw [Ex.eqQ_eq]; simp
theorem quo16 {v : Int} (h : goodU v) : Ex.wrapQ .u64 (Ex.quoQ v 65536) = v / 65536 := by
  unfold goodU at h
  obtain ⟨n, rfl⟩ : ∃ n : Nat, v = n := ⟨v.toNat, by omega⟩
  rw [Ex.wrapQ_eq, Ex.quoQ_eq]
  show IntKind.u64.wrap (((n / 65536 : Nat) : Int)) = _
  simp [IntKind.wrap, IntKind.signed, IntKind.bits]
  omega
theorem rem16 {v : Int} (h : goodU v) : Ex.remQ v 65536 = v % 65536 := by
  unfold goodU at h
  obtain ⟨n, rfl⟩ : ∃ n : Nat, v = n := ⟨v.toNat, by omega⟩
  rw [Ex.remQ_eq]
  show ((n % 65536 : Nat) : Int) = _
  omega
theorem good_quo {v : Int} (h : goodU v) : goodU (v / 65536) := by unfold goodU at *; omega
theorem rnum_eqs {v : Int} (h : goodU v) : Ex.remQ v 65536 = v % 65536 ∧ Ex.wrapQ .u64 (Ex.quoQ v 65536) = v / 65536 ∧ Ex.remQ (v / 65536) 65536 = v / 65536 % 65536 ∧ Ex.wrapQ .u64 (Ex.quoQ (v / 65536) 65536) = v / 4294967296 ∧ Ex.remQ (v / 4294967296) 65536 = v / 4294967296 % 65536 ∧
    Ex.wrapQ .u64 (Ex.quoQ (v / 4294967296) 65536) = v / 281474976710656 ∧ Ex.remQ (v / 281474976710656) 65536 = v / 281474976710656 % 65536 := by
  have e1 : v / 65536 / 65536 = v / 4294967296 := by omega
  have e2 : v / 4294967296 / 65536 = v / 281474976710656 := by omega
  have g1 := good_quo h
  have g2 := good_quo g1
  rw [e1] at g2
  have g3 := good_quo g2
  rw [e2] at g3
  exact ⟨rem16 h, quo16 h, rem16 g1, by rw [quo16 g1, e1], rem16 g2, by rw [quo16 g2, e2], rem16 g3⟩
theorem rnum0_met (r v : Int) : Sy.Meets Tryz.prog (rnum0 r v) := by
  refine Sy.meets_of Sy.S0_holds mixed (rnum0_run r v) fun hok ns => ?_
  obtain ⟨h1, h2, h3, h4, h5, h6, h7⟩ := rnum_eqs (show goodU v from hok)
  simp only [rnum0_R, Sy.Res.holds, Int.ofNat_eq_natCast, h1, h2, h3, h4, h5, h6, h7, wrap16, tst_t, tst_f]
  unfold rnum0 numL movk
  refine fun hc0 => ⟨fun c1 hc1 => ⟨fun c2 hc2 => ⟨fun c3 hc3 => ?_, fun c3 => ?_⟩, fun c2 => ⟨fun c3 hc3 => ?_, fun c3 => ?_⟩⟩, fun c1 => ⟨fun c2 hc2 => ⟨fun c3 hc3 => ?_, fun c3 => ?_⟩, fun c2 => ⟨fun c3 hc3 => ?_, fun c3 => ?_⟩⟩⟩
  all_goals
    simp only [c1, c2, c3, if_true, if_false]
    exact Sy.rowO_leaf' (List.mem_singleton_self _) rfl 0 rfl rfl rfl rfl (by assumption)
theorem rnumA_met (g n cap : Nat) (xs : List Value) (r v : Int) : Sy.Meets Tryz.prog (rnumA g n cap xs r v) := by
  refine Sy.meets_of Sy.S0_holds mixed (rnumA_run g n cap xs r v) fun hok ns => ?_
  obtain ⟨hok, hn⟩ := hok
  obtain ⟨h1, h2, h3, h4, h5, h6, h7⟩ := rnum_eqs (show goodU v from hok)
  simp only [rnumA_R, Sy.Res.holds, Int.ofNat_eq_natCast, h1, h2, h3, h4, h5, h6, h7, wrap16, tst_t, tst_f]
  unfold rnumA numL movk
  refine ⟨by omega, by omega, fun hc0 => ⟨fun c1 => ⟨by omega, by omega, fun hc1 => ⟨fun c2 => ⟨by omega, by omega, fun hc2 => ⟨fun c3 => ⟨by omega, by omega, fun hc3 => ?_⟩, fun c3 => ?_⟩⟩, fun c2 => ⟨fun c3 => ⟨by omega, by omega, fun hc3 => ?_⟩, fun c3 => ?_⟩⟩⟩,
    fun c1 => ⟨fun c2 => ⟨by omega, by omega, fun hc2 => ⟨fun c3 => ⟨by omega, by omega, fun hc3 => ?_⟩, fun c3 => ?_⟩⟩, fun c2 => ⟨fun c3 => ⟨by omega, by omega, fun hc3 => ?_⟩, fun c3 => ?_⟩⟩⟩⟩
  all_goals
    simp only [c1, c2, c3, if_true, if_false]
    exact Sy.rowO_leaf' (List.mem_singleton_self _) rfl 0 rfl rfl (by simp) (by simp [insCells, I.cells]) (by assumption)
theorem numC_met (r v : Int) : Sy.Meets Tryz.prog (numC r v) := by
  refine Sy.meets_of Sy.S0_holds mixed (num_run r v) fun hok ns => ?_
  have h1 : Ex.andQ .u64 (Ex.shrQ .u64 v 16) 65535 = v / 65536 % 65536 := shand hok 16 (by omega)
  have h2 : Ex.andQ .u64 (Ex.shrQ .u64 v 32) 65535 = v / 4294967296 % 65536 := shand hok 32 (by omega)
  have h3 : Ex.andQ .u64 (Ex.shrQ .u64 v 48) 65535 = v / 281474976710656 % 65536 := shand hok 48 (by omega)
  have h0 := and16 (show goodU v from hok)
  simp only [num_R, Sy.Res.holds, Int.ofNat_eq_natCast, h0, h1, h2, h3, wrap16, tst_t, tst_f]
  unfold numC numL movk
  refine ⟨fun c1 hc1 => ⟨fun c2 hc2 => ⟨fun c3 hc3 => ?_, fun c3 => ?_⟩, fun c2 => ⟨fun c3 hc3 => ?_, fun c3 => ?_⟩⟩, fun c1 => ⟨fun c2 hc2 => ⟨fun c3 hc3 => ?_, fun c3 => ?_⟩, fun c2 => ⟨fun c3 hc3 => ?_, fun c3 => ?_⟩⟩⟩
  all_goals
    simp only [c1, c2, c3, if_true, if_false]
    refine Sy.rowO_leaf (List.mem_singleton_self _) rfl 0 rfl rfl ⟨rfl, rfl, ?_⟩ (by first | assumption | exact Nat.le_refl _)
    first | exact .inl rfl | exact .inr (.inl rfl)
end Go.Proofs.YtlpcnaeknbmjdaaGreat.Lw

namespace Go.Proofs.YtlpcnaeknbmjdaaGreat.Lw
set_option linter.unusedVariables false
set_option linter.unusedSimpArgs false
open Go Go.RowKit
open Go.Proofs.YtlpcnaeknbmjdaaGreat.Sy (Let Blk)
abbrev fSame : FuncId := 15
noncomputable def bodyS : Code := Sy.loopBody Tryz.f15 0
def slS (ga gb ca cb n m k : Nat) : List (Nat × Value) := [(0, .slice (some ⟨ga, 0, none⟩) n ca), (1, .slice (some ⟨gb, 0, none⟩) m cb), (4, .bool false), (5, .int .i64 k)]
def memS (ga gb : Nat) (xs ys : List Value) : List Blk := [⟨ga, .seg 0 xs, false⟩, ⟨gb, .seg 0 ys, false⟩]
noncomputable def loopS (ga gb ca cb : Nat) (A B : List I) : Sy.LoopC :=
  ⟨.loop bodyS, 26, slS ga gb ca cb A.length B.length 0, A.length = B.length ∧ A.length ≤ 1000000000, ⟨[(ga, .seg 0 (insCells A)), (gb, .seg 0 (insCells B))], [], 0, []⟩,
    [(⟨fun _ => A = B, fun _ => [], fun _ => []⟩, .exit 0, fun _ => []), (⟨fun _ => A ≠ B, fun _ => [], fun _ => []⟩, .ret, fun _ => [(4, .bool false)])]⟩
def sameB_o : Sy.O := (Sy.O.steps [0] (Sy.O.fork (Sy.O.steps [1, 0, 0, 0, 1, 0, 1, 2, 0, 1, 3, 0, 0, 1, 1, 1, 1, 1, 1, 1, 1, 4, 5, 6, 0, 1, 7, 0, 1, 1, 1, 1, 1, 1, 1, 1, 1, 8] (Sy.O.fork Sy.O.nil Sy.O.nil)) Sy.O.nil))
noncomputable def sameB_R (ga : Nat) (gb : Nat) (ca : Nat) (cb : Nat) (n : Nat) (m : Nat) (k : Nat) (xs : List Value) (ys : List Value) (rest : List Value) (ns : Nat → Sy.Let) : Sy.Res (Exit × Nat × List Value × List Blk) :=
 let z0 := (Sy.Cont.seg (0 : Nat) xs)
 let z1 := ((0 : Nat) + Int.toNat (↑k : Int) * (6 : Nat))
 let z2 := ((0 : Nat) + Int.toNat (↑k : Int) * (6 : Nat) + (1 : Nat))
 let z3 := ((0 : Nat) + Int.toNat (↑k : Int) * (6 : Nat) + (1 : Nat) + (1 : Nat))
 let z4 := ((0 : Nat) + Int.toNat (↑k : Int) * (6 : Nat) + (1 : Nat) + (1 : Nat) + (1 : Nat))
 let z5 := ((0 : Nat) + Int.toNat (↑k : Int) * (6 : Nat) + (1 : Nat) + (1 : Nat) + (1 : Nat) + (1 : Nat))
 let z6 := ((0 : Nat) + Int.toNat (↑k : Int) * (6 : Nat) + (1 : Nat) + (1 : Nat) + (1 : Nat) + (1 : Nat) + (1 : Nat))
 let z7 := (Sy.Cont.seg (0 : Nat) ys)
 let z8 := (some (Addr.mk ga (0 : Nat) none))
 let z9 := (some (Addr.mk gb (0 : Nat) none))
 let z10 := [Value.slice z8 n ca, Value.slice z9 m cb, Value.bool false, Value.int IntKind.i64 (↑k : Int)]
 Sy.Res.br (Ex.ltQ (↑k : Int) (Int.ofNat n)) (Sy.Res.need ((0 : Int) ≤ (↑k : Int) ∧ (↑k : Int) < (↑n : Int)) (Sy.Res.need (∃ (i : Int), Sy.Cont.at z0 z1 = some (Value.int IntKind.i64 i)) (Sy.Res.hyp (Sy.Cont.at z0 z1 = some (Value.int IntKind.i64 (Let.i (ns 0)))) (Sy.Res.need (∃ (i : Int), Sy.Cont.at z0 z2 = some (Value.int IntKind.i64 i)) (Sy.Res.hyp (Sy.Cont.at z0 z2 = some (Value.int IntKind.i64 (Let.i (ns 1)))) (Sy.Res.need (∃ (i : Int), Sy.Cont.at z0 z3 = some (Value.int IntKind.i64 i)) (Sy.Res.hyp (Sy.Cont.at z0 z3 = some (Value.int IntKind.i64 (Let.i (ns 2)))) (Sy.Res.need (∃ (i : Int), Sy.Cont.at z0 z4 = some (Value.int IntKind.i64 i)) (Sy.Res.hyp (Sy.Cont.at z0 z4 = some (Value.int IntKind.i64 (Let.i (ns 3)))) (Sy.Res.need (∃ (i : Int), Sy.Cont.at z0 z5 = some (Value.int IntKind.i64 i)) (Sy.Res.hyp (Sy.Cont.at z0 z5 = some (Value.int IntKind.i64 (Let.i (ns 4)))) (Sy.Res.need (∃ (i : Int), Sy.Cont.at z0 z6 = some (Value.int IntKind.i64 i)) (Sy.Res.hyp (Sy.Cont.at z0 z6 = some (Value.int IntKind.i64 (Let.i (ns 5)))) (Sy.Res.need ((0 : Int) ≤ (↑k : Int) ∧ (↑k : Int) < (↑m : Int)) (Sy.Res.need (∃ (i : Int), Sy.Cont.at z7 z1 = some (Value.int IntKind.i64 i)) (Sy.Res.hyp (Sy.Cont.at z7 z1 = some (Value.int IntKind.i64 (Let.i (ns 6)))) (Sy.Res.need (∃ (i : Int), Sy.Cont.at z7 z2 = some (Value.int IntKind.i64 i)) (Sy.Res.hyp (Sy.Cont.at z7 z2 = some (Value.int IntKind.i64 (Let.i (ns 7)))) (Sy.Res.need (∃ (i : Int), Sy.Cont.at z7 z3 = some (Value.int IntKind.i64 i))
 (Sy.Res.hyp (Sy.Cont.at z7 z3 = some (Value.int IntKind.i64 (Let.i (ns 8)))) (Sy.Res.need (∃ (i : Int), Sy.Cont.at z7 z4 = some (Value.int IntKind.i64 i)) (Sy.Res.hyp (Sy.Cont.at z7 z4 = some (Value.int IntKind.i64 (Let.i (ns 9)))) (Sy.Res.need (∃ (i : Int), Sy.Cont.at z7 z5 = some (Value.int IntKind.i64 i)) (Sy.Res.hyp (Sy.Cont.at z7 z5 = some (Value.int IntKind.i64 (Let.i (ns 10)))) (Sy.Res.need (∃ (i : Int), Sy.Cont.at z7 z6 = some (Value.int IntKind.i64 i)) (Sy.Res.hyp (Sy.Cont.at z7 z6 = some (Value.int IntKind.i64 (Let.i (ns 11)))) (Sy.Res.br (!(Ex.eqQ (Let.i (ns 0)) (Let.i (ns 6)) && (Ex.eqQ (Let.i (ns 1)) (Let.i (ns 7)) && (Ex.eqQ (Let.i (ns 2)) (Let.i (ns 8)) && (Ex.eqQ (Let.i (ns 3)) (Let.i (ns 9)) && (Ex.eqQ (Let.i (ns 4)) (Let.i (ns 10)) && (Ex.eqQ (Let.i (ns 5)) (Let.i (ns 11)) && true))))))) (Sy.Res.leaf (Exit.ret, (26 : Nat), z10, memS ga gb xs ys)) (Sy.Res.leaf (Exit.normal, (26 : Nat), [Value.slice z8 n ca, Value.slice z9 m cb, Value.bool false, Value.int IntKind.i64 (Ex.wrapQ IntKind.i64 (Ex.addQ (↑k : Int) (1 : Int)))], memS ga gb xs ys))))))))))))))))))))))))))))) (Sy.Res.leaf (Exit.exit (0 : Nat), (26 : Nat), z10, memS ga gb xs ys))
theorem sameB_run (ga gb ca cb n m k : Nat) (xs ys : List Value) (rest : List Value) : Sy.Ran (Sy.pieceT Tryz.prog Sy.S0 50 fSame bodyS 26 (slS ga gb ca cb n m k) rest (memS ga gb xs ys) [0, 1, 4, 5]) sameB_o (sameB_R ga gb ca cb n m k xs ys rest) := ⟨fun ns => by kernel_rfl, fun ns => by kernel_rfl⟩
theorem cells_at {α : Type} (f : α → List Value) (sz : Nat) (hf : ∀ x, (f x).length = sz) : ∀ {l : List α} {k : Nat} {x : α}, l[k]? = some x → ∀ j u, (f x)[j]? = some u → (l.flatMap f)[k * sz + j]? = some u
  | [], k, x, h, _, _, _ => by simp at h
  | y :: l, k, x, h, j, u, hu => by
    have hj : j < sz := by rw [← hf x]; exact (List.getElem?_eq_some_iff.1 hu).1
    rw [List.flatMap_cons]
    cases k with
    | zero =>
      simp only [List.getElem?_cons_zero, Option.some.injEq] at h
      subst h
      rw [List.getElem?_append_left (by rw [hf]; omega), Nat.zero_mul, Nat.zero_add]
      exact hu
    | succ k =>
      rw [List.getElem?_append_right (by rw [hf, Nat.succ_mul]; omega), hf]
      have := cells_at f sz hf (l := l) (k := k) (by simpa using h) j u hu
      rw [show (k + 1) * sz + j - sz = k * sz + j by rw [Nat.succ_mul]; omega]
      exact this
theorem seg_at {α : Type} (f : α → List Value) (sz : Nat) (hf : ∀ x, (f x).length = sz) {l : List α} {k : Nat} {x : α} (h : l[k]? = some x) (o j : Nat) {u : Value} (hu : (f x)[j]? = some u) : (Sy.Cont.seg o (l.flatMap f)).at (o + k * sz + j) = some u := by
  simp only [Sy.Cont.at]
  rw [if_pos (by omega), show o + k * sz + j - o = k * sz + j by omega]
  exact cells_at f sz hf h j u hu
theorem ins_at {l : List I} {k : Nat} {x : I} (h : l[k]? = some x) (o : Nat) :
    (Sy.Cont.seg o (insCells l)).at (o + Int.toNat (k : Int) * 6) = some (.int .i64 x.op) ∧ (Sy.Cont.seg o (insCells l)).at (o + Int.toNat (k : Int) * 6 + 1) = some (.int .i64 x.rd) ∧ (Sy.Cont.seg o (insCells l)).at (o + Int.toNat (k : Int) * 6 + 1 + 1) = some (.int .i64 x.rn) ∧
    (Sy.Cont.seg o (insCells l)).at (o + Int.toNat (k : Int) * 6 + 1 + 1 + 1) = some (.int .i64 x.rm) ∧ (Sy.Cont.seg o (insCells l)).at (o + Int.toNat (k : Int) * 6 + 1 + 1 + 1 + 1) = some (.int .i64 x.imm) ∧ (Sy.Cont.seg o (insCells l)).at (o + Int.toNat (k : Int) * 6 + 1 + 1 + 1 + 1 + 1) = some (.int .i64 x.cond) := by
  have hh := fun j u hu => seg_at I.cells 6 (fun _ => rfl) h o j (u := u) hu
  simp only [Int.toNat_natCast]
  exact ⟨hh 0 _ rfl, hh 1 _ rfl, hh 2 _ rfl, hh 3 _ rfl, hh 4 _ rfl, hh 5 _ rfl⟩
theorem some_int (k : IntKind) (a b : Int) : ((some (Value.int k a) : Option Value) = some (Value.int k b)) = (a = b) := by simp
theorem lt_t (a b : Int) : (Ex.ltQ a b = true) = (a < b) := by rw [Ex.ltQ_eq]; simp
theorem lt_f (a b : Int) : (Ex.ltQ a b = false) = ¬ (a < b) := by rw [Ex.ltQ_eq]; simp
theorem inc_i (k : Nat) (h : k < 1000000001) : Ex.wrapQ .i64 (Ex.addQ (k : Int) 1) = ((k + 1 : Nat) : Int) := by
  rw [Ex.wrapQ_eq, Ex.addQ_eq]
  simp [IntKind.wrap, IntKind.signed, IntKind.bits]
  omega
theorem I.ext_iff' (x y : I) : x = y ↔ x.op = y.op ∧ x.rd = y.rd ∧ x.rn = y.rn ∧ x.rm = y.rm ∧ x.imm = y.imm ∧ x.cond = y.cond := by
  cases x; cases y; simp
theorem loopS_met (ga gb ca cb : Nat) (A B : List I) : Sy.MeetsL Tryz.prog (loopS ga gb ca cb A B) := by
  refine Sy.loop_of (n := 50) (fn := fSame) Sy.S0_holds mixed (body := bodyS) rfl [0, 1, 4, 5] (fun k : Nat => slS ga gb ca cb A.length B.length k) (fun _ => memS ga gb (insCells A) (insCells B)) (fun k => k ≤ A.length ∧ A.length = B.length ∧ A.length ≤ 1000000000 ∧ A.take k = B.take k) (fun k => A.length - k)
    0 (fun h => ⟨Nat.zero_le _, h.1, h.2, rfl⟩) (fun p hp => hp) [0, 1] (by decide) rfl (o := fun _ => sameB_o) (R := fun k xs => sameB_R ga gb ca cb A.length B.length k (insCells A) (insCells B) xs) (fun k xs _ => sameB_run ga gb ca cb A.length B.length k (insCells A) (insCells B) xs) ?_
  rintro - k rest ⟨hk, hl, hm, ht⟩ ns
  simp only [sameB_R, Sy.Res.holds, Int.ofNat_eq_natCast, lt_t, lt_f]
  refine ⟨fun hlt => ?_, fun hge => ?_⟩
  · have hlt : k < A.length := by omega
    have ea : A[k]? = some A[k] := List.getElem?_eq_getElem hlt
    have eb : B[k]? = some B[k] := List.getElem?_eq_getElem (by omega)
    obtain ⟨a0, a1, a2, a3, a4, a5⟩ := ins_at ea 0
    obtain ⟨b0, b1, b2, b3, b4, b5⟩ := ins_at eb 0
    simp only [a0, a1, a2, a3, a4, a5, b0, b1, b2, b3, b4, b5, some_int, exists_eq', true_and]
    refine ⟨by omega, fun h0 h1 h2 h3 h4 h5 => ⟨by omega, fun h6 h7 h8 h9 h10 h11 => ?_⟩⟩
    simp only [← h0, ← h1, ← h2, ← h3, ← h4, ← h5, ← h6, ← h7, ← h8, ← h9, ← h10, ← h11, Ex.eqQ_eq]
    refine ⟨fun hne => ⟨rfl, .inr ⟨by simp, _, List.mem_cons_of_mem _ (List.mem_singleton_self _), rfl, [], rfl, ⟨[2], rfl⟩, ⟨[], List.nodup_nil, trivial⟩, fun he => ?_⟩⟩, fun heq => ⟨rfl, .inl ⟨rfl, k + 1, ⟨by omega, hl, hm, ?_⟩, (by show A.length - (k + 1) < A.length - k; omega), ?_, [0, 1], by decide, rfl⟩⟩⟩
    · subst he
      simp at hne
    · have : A[k] = B[k] := (I.ext_iff' _ _).2 (by simpa using heq)
      rw [List.take_succ_eq_append_getElem hlt, List.take_succ_eq_append_getElem (by omega), ht, this]
    · rw [inc_i k (by omega)]; rfl
  · refine ⟨rfl, .inr ⟨by simp, _, List.mem_cons_self, rfl, [], rfl, ⟨[], rfl⟩, ⟨[], List.nodup_nil, trivial⟩, ?_⟩⟩
    have : k = A.length := by omega
    subst this
    rw [List.take_length, hl, List.take_length] at ht
    exact ht
end Go.Proofs.YtlpcnaeknbmjdaaGreat.Lw

namespace Go.Proofs.YtlpcnaeknbmjdaaGreat.Lw
set_option linter.unusedVariables false
set_option linter.unusedSimpArgs false
open Go Go.RowKit
open Go.Proofs.YtlpcnaeknbmjdaaGreat.Sy (Let Blk)
structure Nd where
  op : Int
  val : Int
  a : Int
  b : Int
  deriving DecidableEq
def Nd.cells (n : Nd) : List Value := [.int .i64 n.op, .int .u64 n.val, .int .i64 n.a, .int .i64 n.b]
def ndCells (l : List Nd) : List Value := l.flatMap Nd.cells
def nodeOk (loc : Int) (i : Nat) (n : Nd) : Prop :=
  (n.op = 1 ∧ n.a = 0 ∧ n.b = 0) ∨ (n.op = 2 ∧ n.a = 0 ∧ n.b = 0 ∧ n.val < loc) ∨ (3 ≤ n.op ∧ n.op ≤ 5 ∧ n.val = 0 ∧ 0 ≤ n.a ∧ n.a < i ∧ n.b = 0) ∨
  (6 ≤ n.op ∧ n.op ≤ 19 ∧ n.val = 0 ∧ 0 ≤ n.a ∧ n.a < i ∧ 0 ≤ n.b ∧ n.b < i)
def Nd.refs (n : Nd) : List Nat := if n.op < 3 then [] else if n.op < 6 then [n.a.toNat] else [n.a.toNat, n.b.toNat]
def refs (l : List Nd) : List Nat := l.flatMap Nd.refs
def nodesOk (loc : Int) (l : List Nd) : Prop := ∀ i n, l[i]? = some n → nodeOk loc i n
def onceOk (l : List Nd) : Prop := ∀ j, j < l.length → (refs l).count j = if j + 1 < l.length then 1 else 0
def isExpr (loc : Int) (l : List Nd) : Prop := nodesOk loc l ∧ 0 < l.length ∧ l.length ≤ 65536 ∧ onceOk l
noncomputable def tru (p : Prop) : Bool := @decide p (Classical.propDecidable p)
abbrev fCE : FuncId := 98
noncomputable def bodyCE : Code := Sy.loopBody Tryz.f98 0
def slCE (g o c n k : Nat) (loc : Int) : List (Nat × Value) := [(0, .slice (some ⟨g, o, none⟩) n c), (1, .int .i64 loc), (4, .bool false), (9, .slice (some ⟨g, o, none⟩) n c), (10, .int .i64 n), (11, .int .i64 k)]
def ceB_o : Sy.O := (Sy.O.fork (Sy.O.steps [0, 1, 0, 0, 1, 1, 1, 1, 1, 1, 0, 0, 0, 1, 0, 0, 0, 1, 0, 0, 0, 2, 3, 4, 1, 5, 0, 0, 0, 6, 7, 8, 9, 10, 0, 0, 0, 11, 12, 13, 1, 14, 0, 0, 0, 15, 16, 17, 18, 19, 0, 0, 0] (Sy.O.fork (Sy.O.steps [1, 0, 0, 0, 1, 0, 0, 0, 2, 1, 3, 4, 0, 0, 0, 5, 1, 6, 7, 1] (Sy.O.fork Sy.O.nil Sy.O.nil)) (Sy.O.steps [0, 0, 0] (Sy.O.fork (Sy.O.steps [1, 0, 0, 0, 0, 1, 0, 0, 0, 2, 1, 3, 4, 1, 5, 0, 0, 0, 6, 7, 8, 9, 10, 11, 0, 0, 0, 12, 1, 13, 14, 1] (Sy.O.fork Sy.O.nil Sy.O.nil)) (Sy.O.steps [0, 0, 0, 1, 0, 0, 0] (Sy.O.fork (Sy.O.steps [0, 0, 0, 1, 0, 0, 0, 1] (Sy.O.fork Sy.O.nil Sy.O.nil)) (Sy.O.steps [1, 0, 0, 0, 1, 0, 0, 0, 1, 0, 0, 0, 1] (Sy.O.fork Sy.O.nil Sy.O.nil)))))))) Sy.O.nil)
noncomputable def ceB_R (g : Nat) (o : Nat) (c : Nat) (n : Nat) (k : Nat) (loc : Int) (xs : List Value) (rest : List Value) (ns : Nat → Sy.Let) : Sy.Res (Exit × Nat × List Value × List Blk) :=
 let z0 := (Sy.Cont.seg o xs)
 let z1 := (o + Int.toNat (↑k : Int) * (4 : Nat))
 let z2 := (o + Int.toNat (↑k : Int) * (4 : Nat) + (1 : Nat))
 let z3 := (o + Int.toNat (↑k : Int) * (4 : Nat) + (1 : Nat) + (1 : Nat))
 let z4 := (o + Int.toNat (↑k : Int) * (4 : Nat) + (1 : Nat) + (1 : Nat) + (1 : Nat))
 let z5 := (some (Addr.mk g o none))
 let z6 := [Value.slice z5 n c, Value.int IntKind.i64 loc, Value.bool false, Value.slice z5 n c, Value.int IntKind.i64 (↑n : Int), Value.int IntKind.i64 (↑k : Int)]
 Sy.Res.br (Ex.ltQ (↑k : Int) (↑n : Int)) (Sy.Res.need ((0 : Int) ≤ (↑k : Int) ∧ (↑k : Int) < (↑n : Int)) (Sy.Res.need (∃ (i : Int), Sy.Cont.at z0 z1 = some (Value.int IntKind.i64 i)) (Sy.Res.hyp (Sy.Cont.at z0 z1 = some (Value.int IntKind.i64 (Let.i (ns 0)))) (Sy.Res.need (∃ (i : Int), Sy.Cont.at z0 z2 = some (Value.int IntKind.u64 i)) (Sy.Res.hyp (Sy.Cont.at z0 z2 = some (Value.int IntKind.u64 (Let.i (ns 1)))) (Sy.Res.need (∃ (i : Int), Sy.Cont.at z0 z3 = some (Value.int IntKind.i64 i)) (Sy.Res.hyp (Sy.Cont.at z0 z3 = some (Value.int IntKind.i64 (Let.i (ns 2)))) (Sy.Res.need (∃ (i : Int), Sy.Cont.at z0 z4 = some (Value.int IntKind.i64 i)) (Sy.Res.hyp (Sy.Cont.at z0 z4 = some (Value.int IntKind.i64 (Let.i (ns 3)))) (Sy.Res.br (Ex.eqQ (Let.i (ns 0)) (1 : Int)) (Sy.Res.br (bif !Ex.eqQ (Let.i (ns 2)) (0 : Int) then true else !Ex.eqQ (Let.i (ns 3)) (0 : Int)) (Sy.Res.leaf (Exit.ret, (113 : Nat), z6, [Blk.mk (Let.n (ns 4)) (Sy.Cont.obj (Obj.cells (Array.mk [Value.int IntKind.i64 (Let.i (ns 0)), Value.int IntKind.u64 (Let.i (ns 1)), Value.int IntKind.i64 (Let.i (ns 2)), Value.int IntKind.i64 (Let.i (ns 3))]) (127 : Nat))) true, Blk.mk g z0 false])) (Sy.Res.leaf (Exit.normal, (113 : Nat), [Value.slice z5 n c, Value.int IntKind.i64 loc, Value.bool false, Value.slice z5 n c, Value.int IntKind.i64 (↑n : Int), Value.int IntKind.i64 (Ex.wrapQ IntKind.i64 (Ex.addQ (↑k : Int) (1 : Int)))], [Blk.mk (Let.n (ns 4)) (Sy.Cont.obj (Obj.cells (Array.mk [Value.int IntKind.i64 (Let.i (ns 0)),
 Value.int IntKind.u64 (Let.i (ns 1)), Value.int IntKind.i64 (Let.i (ns 2)), Value.int IntKind.i64 (Let.i (ns 3))]) (127 : Nat))) true, Blk.mk g z0 false]))) (Sy.Res.br (Ex.eqQ (Let.i (ns 0)) (2 : Int)) (Sy.Res.br (bif !bif Ex.eqQ (Let.i (ns 2)) (0 : Int) then Ex.ltQ (Let.i (ns 1)) (Ex.wrapQ IntKind.u64 loc) else false then true else !Ex.eqQ (Let.i (ns 3)) (0 : Int)) (Sy.Res.leaf (Exit.ret, (113 : Nat), z6, [Blk.mk (Let.n (ns 4)) (Sy.Cont.obj (Obj.cells (Array.mk [Value.int IntKind.i64 (Let.i (ns 0)), Value.int IntKind.u64 (Let.i (ns 1)), Value.int IntKind.i64 (Let.i (ns 2)), Value.int IntKind.i64 (Let.i (ns 3))]) (127 : Nat))) true, Blk.mk g z0 false])) (Sy.Res.leaf (Exit.normal, (113 : Nat), [Value.slice z5 n c, Value.int IntKind.i64 loc, Value.bool false, Value.slice z5 n c, Value.int IntKind.i64 (↑n : Int), Value.int IntKind.i64 (Ex.wrapQ IntKind.i64 (Ex.addQ (↑k : Int) (1 : Int)))], [Blk.mk (Let.n (ns 4)) (Sy.Cont.obj (Obj.cells (Array.mk [Value.int IntKind.i64 (Let.i (ns 0)), Value.int IntKind.u64 (Let.i (ns 1)), Value.int IntKind.i64 (Let.i (ns 2)), Value.int IntKind.i64 (Let.i (ns 3))]) (127 : Nat))) true, Blk.mk g z0 false]))) (Sy.Res.br (bif Ex.leQ (3 : Int) (Let.i (ns 0)) then Ex.leQ (Let.i (ns 0)) (5 : Int) else false) (Sy.Res.br (bif !bif Ex.leQ (0 : Int) (Let.i (ns 2)) then Ex.ltQ (Let.i (ns 2)) (↑k : Int) else false then true else !bif Ex.eqQ (Let.i (ns 3)) (0 : Int) then Ex.eqQ (Let.i (ns 1)) (0 : Int) else false) (Sy.Res.leaf (Exit.ret, (113 : Nat), z6, [Blk.mk
 (Let.n (ns 4)) (Sy.Cont.obj (Obj.cells (Array.mk [Value.int IntKind.i64 (Let.i (ns 0)), Value.int IntKind.u64 (Let.i (ns 1)), Value.int IntKind.i64 (Let.i (ns 2)), Value.int IntKind.i64 (Let.i (ns 3))]) (127 : Nat))) true, Blk.mk g z0 false])) (Sy.Res.leaf (Exit.normal, (113 : Nat), [Value.slice z5 n c, Value.int IntKind.i64 loc, Value.bool false, Value.slice z5 n c, Value.int IntKind.i64 (↑n : Int), Value.int IntKind.i64 (Ex.wrapQ IntKind.i64 (Ex.addQ (↑k : Int) (1 : Int)))], [Blk.mk (Let.n (ns 4)) (Sy.Cont.obj (Obj.cells (Array.mk [Value.int IntKind.i64 (Let.i (ns 0)), Value.int IntKind.u64 (Let.i (ns 1)), Value.int IntKind.i64 (Let.i (ns 2)), Value.int IntKind.i64 (Let.i (ns 3))]) (127 : Nat))) true, Blk.mk g z0 false]))) (Sy.Res.br (bif !bif Ex.leQ (0 : Int) (Let.i (ns 2)) then Ex.ltQ (Let.i (ns 2)) (↑k : Int) else false then true else !bif bif bif bif Ex.leQ (0 : Int) (Let.i (ns 3)) then Ex.ltQ (Let.i (ns 3)) (↑k : Int) else false then Ex.leQ (6 : Int) (Let.i (ns 0)) else false then Ex.leQ (Let.i (ns 0)) (19 : Int) else false then Ex.eqQ (Let.i (ns 1)) (0 : Int) else false) (Sy.Res.leaf (Exit.ret, (113 : Nat), z6, [Blk.mk (Let.n (ns 4)) (Sy.Cont.obj (Obj.cells (Array.mk [Value.int IntKind.i64 (Let.i (ns 0)), Value.int IntKind.u64 (Let.i (ns 1)), Value.int IntKind.i64 (Let.i (ns 2)), Value.int IntKind.i64 (Let.i (ns 3))]) (127 : Nat))) true, Blk.mk g z0 false])) (Sy.Res.leaf (Exit.normal, (113 : Nat), [Value.slice z5 n c, Value.int IntKind.i64 loc, Value.bool false,
 Value.slice z5 n c, Value.int IntKind.i64 (↑n : Int), Value.int IntKind.i64 (Ex.wrapQ IntKind.i64 (Ex.addQ (↑k : Int) (1 : Int)))], [Blk.mk (Let.n (ns 4)) (Sy.Cont.obj (Obj.cells (Array.mk [Value.int IntKind.i64 (Let.i (ns 0)), Value.int IntKind.u64 (Let.i (ns 1)), Value.int IntKind.i64 (Let.i (ns 2)), Value.int IntKind.i64 (Let.i (ns 3))]) (127 : Nat))) true, Blk.mk g z0 false]))))))))))))))) (Sy.Res.leaf (Exit.exit (0 : Nat), (113 : Nat), z6, [Blk.mk g z0 false]))
theorem ceB_run (g o c n k : Nat) (loc : Int) (xs : List Value) (rest : List Value) : Sy.Ran (Sy.pieceT Tryz.prog Sy.S0 50 fCE bodyCE 113 (slCE g o c n k loc) rest [⟨g, .seg o xs, false⟩] [0, 1, 4, 9, 10, 11]) ceB_o (ceB_R g o c n k loc xs rest) := ⟨fun ns => by kernel_rfl, fun ns => by kernel_rfl⟩
theorem nd_at {l : List Nd} {k : Nat} {x : Nd} (h : l[k]? = some x) (o : Nat) :
    (Sy.Cont.seg o (ndCells l)).at (o + Int.toNat (k : Int) * 4) = some (.int .i64 x.op) ∧ (Sy.Cont.seg o (ndCells l)).at (o + Int.toNat (k : Int) * 4 + 1) = some (.int .u64 x.val) ∧
    (Sy.Cont.seg o (ndCells l)).at (o + Int.toNat (k : Int) * 4 + 1 + 1) = some (.int .i64 x.a) ∧ (Sy.Cont.seg o (ndCells l)).at (o + Int.toNat (k : Int) * 4 + 1 + 1 + 1) = some (.int .i64 x.b) := by
  have hh := fun j u hu => seg_at Nd.cells 4 (fun _ => rfl) h o j (u := u) hu
  simp only [Int.toNat_natCast]
  exact ⟨hh 0 _ rfl, hh 1 _ rfl, hh 2 _ rfl, hh 3 _ rfl⟩
theorem wrapU {x : Int} (h0 : 0 ≤ x) (h1 : x < 18446744073709551616) : Ex.wrapQ .u64 x = x := by
  rw [Ex.wrapQ_eq]
  simp [IntKind.wrap, IntKind.signed, IntKind.bits]
  omega
theorem some_bool (a b : Bool) : ((some (Value.bool a) : Option Value) = some (Value.bool b)) = (a = b) := by simp
noncomputable def loopCE (g o c : Nat) (l : List Nd) (loc : Int) : Sy.LoopC :=
  ⟨.loop bodyCE, 113, slCE g o c l.length 0 loc, 0 ≤ loc ∧ loc ≤ 1000 ∧ l.length ≤ 4398046511104, ⟨[(g, .seg o (ndCells l))], [], 0, []⟩,
    [(⟨fun _ => nodesOk loc l, fun _ => [], fun _ => []⟩, .exit 0, fun _ => [(0, .slice (some ⟨g, o, none⟩) l.length c), (1, .int .i64 loc), (4, .bool false)]), (⟨fun _ => ¬ nodesOk loc l, fun _ => [], fun _ => []⟩, .ret, fun _ => [(4, .bool false)])]⟩
theorem loopCE_met (g o c : Nat) (l : List Nd) (loc : Int) : Sy.MeetsL Tryz.prog (loopCE g o c l loc) := by
  refine Sy.loop_of (n := 50) (fn := fCE) Sy.S0_holds mixed (body := bodyCE) rfl [0, 1, 4, 9, 10, 11] (fun k : Nat => slCE g o c l.length k loc) (fun _ => [⟨g, .seg o (ndCells l), false⟩])
    (fun k => k ≤ l.length ∧ 0 ≤ loc ∧ loc ≤ 1000 ∧ l.length ≤ 4398046511104 ∧ ∀ i n, i < k → l[i]? = some n → nodeOk loc i n) (fun k => l.length - k)
    0 (fun h => ⟨Nat.zero_le _, h.1, h.2.1, h.2.2, fun i n hi => absurd hi (Nat.not_lt_zero i)⟩) (fun p hp => hp) [0] (by decide) rfl (o := fun _ => ceB_o) (R := fun k xs => ceB_R g o c l.length k loc (ndCells l) xs) (fun k xs _ => ceB_run g o c l.length k loc (ndCells l) xs) ?_
  rintro - k rest ⟨hk, hl0, hl1, hm, hall⟩ ns
  have hw : Ex.wrapQ .u64 loc = loc := wrapU hl0 (by omega)
  simp only [ceB_R, Sy.Res.holds, Int.ofNat_eq_natCast, Sy.b_and, Sy.b_or, Sy.b_not, Sy.b_f, Sy.b_and', Sy.b_or', Sy.q_lt, Sy.q_le, Sy.q_eq, Sy.b_tt, Sy.b_ft, not_true_eq_false, not_false_eq_true, hw]
  refine ⟨fun hlt => ?_, fun hge => ?_⟩
  · have hlt : k < l.length := by omega
    have ea : l[k]? = some l[k] := List.getElem?_eq_getElem hlt
    obtain ⟨a0, a1, a2, a3⟩ := nd_at ea o
    simp only [a0, a1, a2, a3, some_int, some_bool, exists_eq', true_and]
    generalize l[k] = x at *
    refine ⟨by omega, fun h0 h1 h2 h3 => ?_⟩
    simp only [← h0, ← h1, ← h2, ← h3]
    have bad : ¬ nodeOk loc k x → ¬ nodesOk loc l := fun h h' => h (h' k x ea)
    have good : nodeOk loc k x → k + 1 ≤ l.length ∧ 0 ≤ loc ∧ loc ≤ 1000 ∧ l.length ≤ 4398046511104 ∧ ∀ i n, i < k + 1 → l[i]? = some n → nodeOk loc i n := fun h => ⟨by omega, hl0, hl1, hm, fun i n hi hn => by
      rcases Nat.lt_succ_iff_lt_or_eq.1 hi with hi | rfl
      · exact hall i n hi hn
      · rw [ea] at hn
        injection hn with hn
        rw [← hn]; exact h⟩
    have inc := Sy.inc_q k (by omega)
    refine ⟨fun c1 => ⟨fun r => ?_, fun r => ?_⟩, fun c1 => ⟨fun c2 => ⟨fun r => ?_, fun r => ?_⟩, fun c2 => ⟨fun c3 => ⟨fun r => ?_, fun r => ?_⟩, fun c3 => ⟨fun r => ?_, fun r => ?_⟩⟩⟩⟩
    all_goals first
      | exact Sy.leafL_end 1 rfl rfl (by simp) rfl [] rfl [2] rfl [] List.nodup_nil trivial (bad (by unfold nodeOk; omega))
      | exact Sy.leafL_next (k + 1) rfl (good (by unfold nodeOk; omega)) (by show l.length - (k + 1) < l.length - k; omega) (by rw [inc]; rfl) [1] (by decide) rfl
  · refine Sy.leafL_end 0 rfl rfl (by simp) rfl [] rfl [0, 1, 2] rfl [] List.nodup_nil trivial fun i n hn => hall i n ?_ hn
    have := (List.getElem?_eq_some_iff.1 hn).1
    omega
end Go.Proofs.YtlpcnaeknbmjdaaGreat.Lw
