/-
  The second evaluator: operations, regions, code, calls.
-/
import Derived.Test.YtjohknpmhlildaaEx
import Derived.OrdersHeld
namespace Go.Proofs.Ytjohknpmhlildaa.Ex
open Go Go.RowKit
open Ev (F RelF getW one resF resF_eq cell_of frozen_of calm)

namespace T
variable {α β : Type}
/-- The one thing that comes of it, where nothing is asked. -/
def det : T α → Option α
  | ret a => some a
  | same _ _ k => k.det
  | need _ k => k.det
  | _ => none

theorem all_det {K : α → Prop} : ∀ {t : T α} {a : α}, t.det = some a → t.all K → K a
  | ret a, b, h, h1 => by injection h with h; subst h; exact h1
  | same _ _ k, b, h, h1 => all_det (t := k) h h1.2
  | need _ k, b, h, h1 => all_det (t := k) h h1.2
  | fail, _, h, _ => by cases h
  | ask _, _, h, _ => by cases h
  | hyp _ _, _, h, _ => by cases h

theorem det_only {K : α → Prop} : ∀ {t : T α} {a : α}, t.det = some a → t.all K → t.all (· = a)
  | ret a, b, h, h1 => by injection h
  | same _ _ k, b, h, h1 => ⟨h1.1, det_only (t := k) h h1.2⟩
  | need _ k, b, h, h1 => ⟨h1.1, det_only (t := k) h h1.2⟩
  | fail, _, h, _ => by cases h
  | ask _, _, h, _ => by cases h
  | hyp _ _, _, h, _ => by cases h
end T

variable (P : Program) (S : Ctx)

/-- Loads alone. -/
def lread {α : Type} (gv : Bool) : Sem α → E → T (α × E)
  | .pure a, e => .ret (a, e)
  | .load _ a k, e => match e.pick a.block with
    | some (⟨n, ct, _⟩, _, e') => match a.spot with
      | some _ => .fail
      | none => .same (.nat a.block) (.nat n) (match gv with
        | false => match ct.at a.off with
          | some v => lread gv (k v) e'
          | none => .fail
        | true => match S.rl[e'.ri]? with
          | some v => .need (ct.at a.off = some (v e'.hist)) (lread gv (k (v e'.hist)) { e' with ri := e'.ri + 1 })
          | none => .fail)
    | none => .fail
  | .program k, e => lread gv (k P) e
  | .mark _ k, e => lread gv k e
  | _, _ => .fail

/-- The blocks of L are there. -/
def There (L : List Blk) (W : World) : Prop := ∀ p ∈ L, p.ct.sat W.heap[p.nm]?

theorem lread_sound {W : World} {α : Type} (gv : Bool) (s : Sem α) : ∀ (e : E) (K : α × E → Prop), (lread P S gv s e).all K → There e.L W →
    ∃ x e', s.run P W = .ok x W ∧ e'.L = e.L ∧ K (x, e') := by
  induction s with
  | pure a => intro e K h hr; exact ⟨a, e, rfl, rfl, h⟩
  | load m a k ih =>
    intro e K h hr
    simp only [lread] at h
    split at h
    · rename_i n ct ow j e1 hp
      obtain ⟨hj, hL⟩ := E.pick_spec hp
      split at h
      · exact h.elim
      · rename_i hs
        obtain ⟨hb, h⟩ := h
        have hb := tok_nat hb
        have hat := hr _ (List.mem_of_getElem? hj)
        split at h
        · split at h
          · rename_i v hcv
            obtain ⟨x, e', h1, h2, h3⟩ := ih v _ K h (by rw [hL]; exact hr)
            refine ⟨x, e', ?_, h2.trans hL, h3⟩
            simp only [Sem.run, cell_at hb hat hs hcv]
            exact h1
          · exact h.elim
        · split at h
          · rename_i v hcv
            obtain ⟨hcv, h⟩ := h
            obtain ⟨x, e', h1, h2, h3⟩ := ih _ _ K h (by rw [← hL] at hr; exact hr)
            refine ⟨x, e', ?_, h2.trans hL, h3⟩
            simp only [Sem.run, cell_at hb hat hs hcv]
            exact h1
          · exact h.elim
    · exact h.elim
  | program k ih => intro e K h hr; exact ih _ _ K h hr
  | mark m k ih => intro e K h hr; exact ih _ K h hr
  | _ => intro e K h; exact h.elim

abbrev CallE := FuncId → Array Value → E → T (Value × E)

def fixT (fn : FuncId) (dst : Option Tmp) (v : Value) (e : E) : T (Value × E) :=
  match dst with
  | none => .ret (v, e)
  | some t => match S.fx fn t with
    | false => .ret (v, e)
    | true => match S.rl[e.ri]? with
      | some v' => .need (v = v' e.hist) (.ret (v' e.hist, { e with ri := e.ri + 1 }))
      | none => .fail

theorem fix_sound {fn : FuncId} {dst : Option Tmp} {v : Value} {e : E} {K : Value × E → Prop} (h : (fixT S fn dst v e).all K) : ∃ e', e'.L = e.L ∧ K (v, e') := by
  unfold fixT at h
  split at h
  · exact ⟨e, rfl, h⟩
  · split at h
    · exact ⟨e, rfl, h⟩
    · split at h
      · obtain ⟨hv, h⟩ := h
        exact ⟨{ e with ri := e.ri + 1 }, rfl, by rw [hv]; exact h⟩
      · exact h.elim

def gvOf (fn : FuncId) : Option Tmp → Bool
  | none => false
  | some t => S.gl fn t

def askN {α : Type} : Nat → (List (Nat × List Value) → T α) → T α
  | 0, k => k []
  | n + 1, k => .ask fun b l => askN n fun r => k ((b, l) :: r)

/-- Blocks taken out of those that are known. -/
def takeAll {α : Type} (ow : Bool) : List (Nat × Cont) → E → (E → List Blk → T α) → T α
  | [], e, k => k e []
  | p :: r, e, k => match e.pick p.1 with
    | some (b, j, e') => match (!ow || b.own) with
      | true => .same (.nat p.1) (.nat b.nm) (.same (.cont p.2) (.cont (match ow with | true => b.ct | false => p.2.view b.ct)) (takeAll ow r { e' with L := e'.L.eraseIdx j } fun e2 U => k e2 (b :: U)))
      | false => .fail
    | none => .fail

def ownOf (p : Nat × Cont) : Blk := ⟨p.1, p.2, true⟩

def memBy {α : Type} (c : MemC) (e : E) (k : List (Nat × List Value) → E → T α) : T α :=
  takeAll false c.rd e fun e1 U1 => takeAll true c.use e1 fun e2 _ => match c.m with
    | 0 => k [] { e2 with L := (c.nw []).map ownOf ++ (U1 ++ e2.L) }
    | m + 1 => askN (m + 1) fun ns => .hyp (c.hyp ns) (k ns { e2 with L := (c.nw ns).map ownOf ++ (U1 ++ e2.L), hist := ns ++ e2.hist })

/-- An operation's word, for those that are given: its slot, or what it is. -/
def keyOf (o : Oper) : Nat := match o.dst with
  | some t => t
  | none => match o.op with
    | .mapUpdate .. => 900000
    | .store .. => 900001
    | _ => 900002

def evOp (fn : FuncId) (call : CallE) (o : Oper) (a : F) (e : E) : T (F × E) :=
  match S.ox fn (keyOf o) with
  | true => match S.rl[e.ri]? with
    | some v => .need (∀ W, (execOp a.eval o).run P W = .ok (.value (v e.hist)) W) (.ret (a.put o.dst (v e.hist), { e with ri := e.ri + 1 }))
    | none => .fail
  | false => match S.oc fn (keyOf o) with
    | true => match S.ol[e.oi]? with
      | some c => .need (OpMeets P (execOp a.eval o) (c e.hist)) (memBy (c e.hist).mem e fun ns e' => .ret (a.put o.dst ((c e.hist).val ns), { e' with oi := e.oi + 1 }))
      | none => .fail
    | false => (lrun P S (gvOf S fn o.dst) (execOp a.eval o) e).bind fun r => match r with
      | (.value v, e') => (fixT S fn o.dst v e').bind fun p => .ret (a.put o.dst p.1, p.2)
      | (.skip, e') => .ret (a.put o.dst undef, e')
      | (.enter f args, e') => (call f args e').bind fun p => (fixT S fn o.dst p.1 p.2).bind fun q => .ret (a.put o.dst q.1, q.2)
      | _ => .fail

/-- Operation number i: guarded or not. -/
def evAt (fn : FuncId) (call : CallE) (ops : Array Oper) (i : Nat) (a : F) (e : E) : T (F × E) :=
  match ops[i]? with
  | none => .ret (a, e)
  | some o => match Region.wanted o (a.yielded ops) with
    | true => evOp P S fn call o a e
    | false => .ret (a.put o.dst undef, e)

def evOps (fn : FuncId) (call : CallE) (ops : Array Oper) : List Nat → F → E → T (F × E)
  | [], a, e => .ret (a, e)
  | i :: rest, a, e => (evAt P S fn call ops i a e).bind fun p => evOps fn call ops rest p.1 p.2

/-- What operation i yields in every world in which the blocks at hand are as they are. -/
def heldAt (fn : FuncId) (ops : Array Oper) (listed : Array Bool) (a : F) (e : E) (i : Nat) : Option (T (Value × E)) :=
  match ops[i]? with
  | none => none
  | some o => match Region.free .any ops listed i with
    | false => none
    | true => match Region.wanted o (a.yielded ops) with
      | false => some (.ret (undef, e))
      | true => match S.ox fn (keyOf o) with
       | true => match S.rl[e.ri]? with
         | some v => some (.need (∀ W, (execOp a.eval o).run P W = .ok (.value (v e.hist)) W) (.ret (v e.hist, { e with ri := e.ri + 1 })))
         | none => none
       | false => match (lread P S (gvOf S fn o.dst) (execOp a.eval o) e).det with
        | some (.value v, e') => some ((lread P S (gvOf S fn o.dst) (execOp a.eval o) e).bind fun _ => fixT S fn o.dst v e')
        | _ => none

def firstHeld (fn : FuncId) (ops : Array Oper) (listed : Array Bool) (a : F) (e : E) : List Nat → Option (Nat × Option Tmp × T (Value × E))
  | [] => none
  | i :: rest => match heldAt P S fn ops listed a e i with
    | some t => some (i, (ops[i]?).bind (·.dst), t)
    | none => firstHeld fn ops listed a e rest

def sames {α : Type} : List Blk → List Blk → T α → T α
  | p :: ps, q :: qs, k => .same (.nat p.nm) (.nat q.nm) (.same (.cont p.ct) (.cont q.ct) (sames ps qs k))
  | [], _, k => k
  | _, _, _ => .fail

/-- The blocks of L0, wherever they are now. -/
def backAll {α : Type} : List Blk → E → (E → T α) → T α
  | [], e, k => k e
  | p :: ps, e, k => match e.pick p.nm with
    | some (b, _, e') => .same (.nat p.nm) (.nat b.nm) (.same (.cont p.ct) (.cont b.ct) (backAll ps e' k))
    | none => .fail

/-- All but those at some positions. -/
def dropAt (ds : List Nat) : Nat → List Blk → List Blk
  | _, [] => []
  | i, p :: ps => match ds.any (Nat.beq i) with
    | true => dropAt ds (i + 1) ps
    | false => p :: dropAt ds (i + 1) ps

theorem dropAt_sub {ds : List Nat} {p : Blk} : ∀ {L : List Blk} {i : Nat}, p ∈ dropAt ds i L → p ∈ L
  | [], _, h => h
  | q :: L, i, h => by
    unfold dropAt at h
    split at h
    · exact List.mem_cons_of_mem _ (dropAt_sub h)
    · rcases List.mem_cons.1 h with rfl | h
      · exact List.mem_cons_self
      · exact List.mem_cons_of_mem _ (dropAt_sub h)

def evAny (fn : FuncId) (call : CallE) (ops : Array Oper) (fl : Bool) (L0 : List Blk) : Nat → Array Bool → F → E → T (F × E)
  | 0, listed, a, e => match Region.ready .any ops listed with
    | [] => .ret (a, e)
    | _ => .fail
  | n + 1, listed, a, e => match Region.ready .any ops listed with
    | [] => .ret (a, e)
    | rs => match firstHeld P S fn ops listed a { e with L := L0 } rs with
      | some (i, d, t) => t.bind fun p => evAny fn call ops fl L0 n (listed.setIfInBounds i true) (a.put d p.1) { p.2 with L := e.L }
      | none => match rs with
        | [i] => (evAt P S fn call ops i a e).bind fun p => match fl with
          | true => sames L0 (p.2.L.drop (p.2.L.length - L0.length)) (evAny fn call ops fl L0 n (listed.setIfInBounds i true) p.1 p.2)
          | false => backAll L0 p.2 fun e2 => evAny fn call ops fl L0 n (listed.setIfInBounds i true) p.1 e2
        | _ => .fail

def evLoop (f : F → E → T (Exit × F × E)) : Nat → F → E → T (Exit × F × E)
  | 0, _, _ => .fail
  | m + 1, a, e => (f a e).bind fun r => match r with
    | (.normal, a1, e1) => evLoop f m a1 e1
    | r => .ret r

def metBy (c : CallC) (args : Array Value) (e : E) : T (Value × E) :=
  .same (.val (.tuple args)) (.val (.tuple c.args)) (memBy c.mem e fun ns e' => .ret (c.v ns, { e' with ci := e.ci + 1 }))

def loopBy (c : LoopC) (x : Code) (a : F) (e : E) : T (Exit × F × E) :=
  .same (.code x) (.code c.c) (.same (.nat a.n) (.nat c.n) (.same (.val (.tuple (c.sl.map fun p => a.get p.1).toArray)) (.val (.tuple (c.sl.map (·.2)).toArray))
    (memBy c.mem e fun ns e' => .ask fun _ l => .ret (c.x, ⟨c.n, c.out ns ++ Ev.argsW 0 l⟩, { e' with li := e.li + 1 }))))

def evCall (ev : FuncId → Code → F → E → T (Exit × F × E)) : CallE := fun f args e =>
  match S.isC f with
  | true => match S.cl[e.ci]? with
    | none => .fail
    | some c => match Nat.decEq (c e.hist).f f with
      | .isFalse _ => .fail
      | .isTrue _ => metBy (c e.hist) args e
  | false => match P.funcs[f]? with
    | none => .fail
    | some fn => match fn.body with
      | none => .fail
      | some c => (ev f c (F.init args fn.ntmps) e).bind fun r => match r with
        | (.normal, a, e') => lread P S false (resF fn a.get) e'
        | (.ret, a, e') => lread P S false (resF fn a.get) e'
        | _ => .fail

def ev : Nat → FuncId → Code → F → E → T (Exit × F × E)
  | 0, _, _, _, _ => .fail
  | n + 1, fn, c, a, e => match c with
    | .skip | .label _ => .ret (.normal, a, e)
    | .region _ ops false => (evOps P S fn (evCall P S (ev n)) ops (List.range ops.size) a e).bind fun p => .ret (.normal, p.1, p.2)
    | .region id ops true => match S.lr fn id with
     | true => match S.lp[e.li]? with
        | none => .fail
        | some c => match calm (c e.hist).x with
          | true => loopBy (c e.hist) (.region id ops true) a e
          | false => .fail
     | false => match Region.noSelect ops with
      | false => .fail
      | true => (evAny P S fn (evCall P S (ev n)) ops (S.dp fn id).isEmpty (dropAt (S.dp fn id) 0 e.L) ops.size (Array.replicate ops.size false) a e).bind fun p => .ret (.normal, p.1, p.2)
    | .seq x y => (ev n fn x a e).bind fun r => match r with
      | (.normal, a1, e1) => ev n fn y a1 e1
      | r => .ret r
    | .cond b x y => match a.eval b with
      | .bool true => ev n fn x a e
      | .bool false => ev n fn y a e
      | _ => .fail
    | .block id x => (ev n fn x a e).bind fun r => match r with
      | (.exit id', a1, e1) => match Nat.decEq id' id with
        | .isTrue _ => .ret (.normal, a1, e1)
        | .isFalse _ => .ret (.exit id', a1, e1)
      | r => .ret r
    | .loop x => match S.lf fn with
      | false => evLoop (ev n fn x) n a e
      | true => match S.lp[e.li]? with
        | none => evLoop (ev n fn x) n a e
        | some c => match (c e.hist).x with
         | .normal => evLoop (ev n fn x) n a { e with li := e.li + 1 }
         | _ => match calm (c e.hist).x with
          | true => loopBy (c e.hist) (.loop x) a e
          | false => .fail
    | .exit id => .ret (.exit id, a, e)
    | .ret => .ret (.ret, a, e)
    | _ => .fail

/-! ### Soundness -/

variable {P S}
variable {w0 : World} {keep : Nat → Prop}

def Post (w0 : World) (keep : Nat → Prop) (K : Exit × F × E → Prop) : Exit → Act → World → Prop :=
  fun x a W => calm x = true ∧ ∃ g e, K (x, g, e) ∧ RelF g a ∧ Rep w0 keep e W

def SoundC (P : Program) (w0 : World) (keep : Nat → Prop) (call : CallE) : Prop := ∀ f args e K, (call f args e).all K → ∀ W, Rep w0 keep e W → Calls P f args W fun en W' => ∃ v e', en = .returned v ∧ Rep w0 keep e' W' ∧ K (v, e')
def SoundE (P : Program) (w0 : World) (keep : Nat → Prop) (c : Code) (f : F → E → T (Exit × F × E)) : Prop := ∀ g e K, (f g e).all K → ∀ a W, RelF g a → Rep w0 keep e W → c.wp P (Post w0 keep K) a W

theorem askN_all {α : Type} {K : α → Prop} : ∀ (n : Nat) (k : List (Nat × List Value) → T α), (askN n k).all K → ∀ ns : List (Nat × List Value), ns.length = n → (k ns).all K
  | 0, k, h, ns, hn => by
    obtain rfl := List.eq_nil_of_length_eq_zero hn
    exact h
  | n + 1, k, h, [], hn => by cases hn
  | n + 1, k, h, (b, l) :: r, hn => askN_all n _ (h b l) r (by simpa using hn)

theorem eraseIdx_perm {α : Type} : ∀ (l : List α) (j : Nat) (a : α), l[j]? = some a → l.Perm (a :: l.eraseIdx j)
  | [], j, a, h => by cases h
  | x :: l, 0, a, h => by
    simp only [List.getElem?_cons_zero, Option.some.injEq] at h
    subst h
    exact List.Perm.refl _
  | x :: l, j + 1, a, h => by
    have := eraseIdx_perm l j a (by simpa using h)
    exact (this.cons x).trans (List.Perm.swap a x _)

theorem takeAll_sound {α : Type} {K : α → Prop} {W : World} (ow : Bool) : ∀ (l : List (Nat × Cont)) (e : E) (k : E → List Blk → T α), (takeAll ow l e k).all K → There e.L W →
    ∃ e' U, (k e' U).all K ∧ (∀ p ∈ l, p.2.sat W.heap[p.1]?) ∧ U.map (·.nm) = l.map (·.1) ∧ (∀ b ∈ U, ow = true → b.own = true) ∧ e.L.Perm (U ++ e'.L)
  | [], e, k, h, _ => ⟨e, [], h, fun _ hp => (by cases hp), rfl, fun _ hp => (by cases hp), List.Perm.refl _⟩
  | p :: r, e, k, h, ht => by
    simp only [takeAll] at h
    split at h
    · rename_i b j e' hp
      obtain ⟨hj, hL⟩ := E.pick_spec hp
      split at h
      · rename_i how
        obtain ⟨h1, h2, h⟩ := h
        have hsub : List.Sublist (e'.L.eraseIdx j) e.L := by rw [hL]; exact List.eraseIdx_sublist _ _
        obtain ⟨e2, U, h3, h4, h6, h7, h8⟩ := takeAll_sound ow r { e' with L := e'.L.eraseIdx j } _ h (fun q hq => ht q (hsub.subset hq))
        refine ⟨e2, b :: U, h3, fun q hq => ?_, by simp [h6, tok_nat h1], fun q hq how2 => ?_, ?_⟩
        · rcases List.mem_cons.1 hq with rfl | hq
          · rw [tok_nat h1, tok_cont h2]
            have h0 := ht _ (List.mem_of_getElem? hj)
            cases ow with
            | true => exact h0
            | false => exact Cont.sat_view h0
          · exact h4 q hq
        · rcases List.mem_cons.1 hq with rfl | hq
          · rw [how2] at how; simpa using how
          · exact h7 q hq how2
        · have h9 := eraseIdx_perm e.L j b hj
          rw [← hL] at h9 ⊢
          exact h9.trans (h8.cons b)
      · exact h.elim
    · exact h.elim

theorem memBy_sound {α : Type} {c : MemC} {e : E} {k : List (Nat × List Value) → E → T α} {K : α → Prop} (h : (memBy c e k).all K) {W : World} (hr : Rep w0 keep e W) :
    c.pre W ∧ ∀ ns W', c.post W W' ns → ∃ e', Rep w0 keep e' W' ∧ (k ns e').all K := by
  obtain ⟨e1, U1, h, hrd, hU1, -, hp1⟩ := takeAll_sound (W := W) _ _ _ _ h (fun p hp => (hr.blk p hp).1)
  obtain ⟨e2, U, h, huse, hU, hUo, hp2⟩ := takeAll_sound (W := W) _ _ _ _ h (fun p hp => (hr.blk p (hp1.mem_iff.2 (List.mem_append_right _ hp))).1)
  have hperm : e.L.Perm (U ++ (U1 ++ e2.L)) := by
    refine hp1.trans ((hp2.append_left U1).trans ?_)
    rw [← List.append_assoc, ← List.append_assoc]
    exact List.perm_append_comm.append_right _
  have hfar : (U ++ (U1 ++ e2.L)).Pairwise Far := (hperm.pairwise_iff (fun h => Far.symm h)).1 hr.far
  have hmem : ∀ q ∈ U1 ++ e2.L, q ∈ e.L := fun q hq => hperm.mem_iff.2 (List.mem_append_right _ hq)
  have hUe : ∀ b ∈ U, b ∈ e.L ∧ b.own = true := fun b hb => ⟨hperm.mem_iff.2 (List.mem_append_left _ hb), hUo b hb rfl⟩
  rw [List.pairwise_append] at hfar
  obtain ⟨hfU, hfR, hfUR⟩ := hfar
  have hndU : (U.map (·.nm)).Nodup := by
    rw [List.nodup_iff_pairwise_ne, List.pairwise_map]
    exact hfU.imp_of_mem fun ha _ hab => hab (by rw [(hUe _ ha).2]; rfl)
  have hap : ∀ p ∈ c.rd, ∀ q ∈ c.use, p.1 ≠ q.1 := fun p hp q hq he => by
    have h1 : p.1 ∈ U1.map (·.nm) := by rw [hU1]; exact List.mem_map.2 ⟨p, hp, rfl⟩
    have h2 : q.1 ∈ U.map (·.nm) := by rw [hU]; exact List.mem_map.2 ⟨q, hq, rfl⟩
    obtain ⟨b1, hb1, e1⟩ := List.mem_map.1 h1
    obtain ⟨b2, hb2, e2⟩ := List.mem_map.1 h2
    exact hfUR b2 hb2 b1 (List.mem_append_left _ hb1) (by rw [(hUe _ hb2).2]; rfl) (by rw [e2, e1, he])
  generalize U1 ++ e2.L = rest at *
  refine ⟨⟨hrd, huse, by rw [← hU]; exact hndU, hap⟩, ?_⟩
  rintro ns W' ⟨hns, hhyp, o1, o2, o3, hsz, hkeep, hnw, hnwd⟩
  have hK : ∃ hh, (k ns { e2 with L := (c.nw ns).map ownOf ++ rest, hist := hh }).all K := by
    split at h
    · rename_i h0
      rw [h0] at hns
      obtain rfl := List.eq_nil_of_length_eq_zero hns
      exact ⟨_, h⟩
    · rename_i m h0
      rw [h0] at hns
      exact ⟨_, askN_all _ _ h ns hns hhyp⟩
  obtain ⟨hh, hK⟩ := hK
  have hnuse : ∀ p ∈ c.use, ∃ b ∈ U, b.nm = p.1 := fun p hp => by
    have : p.1 ∈ U.map (·.nm) := by rw [hU]; exact List.mem_map.2 ⟨p, hp, rfl⟩
    obtain ⟨b, hb, he⟩ := List.mem_map.1 this
    exact ⟨b, hb, he⟩
  have hrest : ∀ q ∈ rest, ∀ p ∈ c.use, p.1 ≠ q.nm := fun q hq p hp he => by
    obtain ⟨b, hb, hbe⟩ := hnuse p hp
    exact hfUR b hb q hq (by rw [(hUe _ hb).2]; rfl) (by rw [hbe, he])
  have hnk : ∀ p ∈ c.use, p.1 < w0.heap.size → ¬ keep p.1 := fun p hp hlt => by
    obtain ⟨b, hb, hbe⟩ := hnuse p hp
    rw [← hbe] at hlt ⊢
    exact (hr.blk b (hUe b hb).1).2 (hUe b hb).2 hlt
  refine ⟨_, ⟨o1.trans hr.os, o2.trans hr.tape, o3.trans hr.output, Nat.le_trans hr.size hsz, fun k hk hkp => ?_, fun p hp => ?_, ?_⟩, hK⟩
  · rw [hkeep k (Nat.lt_of_lt_of_le hk hr.size) (fun p hp he => by subst he; exact hnk p hp hk hkp)]
    exact hr.old k hk hkp
  · simp only [List.mem_append, List.mem_map] at hp
    rcases hp with ⟨q, hq, rfl⟩ | hp
    · refine ⟨(hnw q hq).2, fun _ hlt => ?_⟩
      have hlt' : q.1 < w0.heap.size := hlt
      show ¬ keep q.1
      rcases (hnw q hq).1 with h1 | ⟨p, hp, he⟩
      · have := hr.size
        omega
      · rw [← he] at hlt' ⊢
        exact hnk p hp hlt'
    · have hpe := hmem p hp
      obtain ⟨h1, h2⟩ := hr.blk p hpe
      exact ⟨by rw [hkeep p.nm (hr.lt hpe) (hrest p hp)]; exact h1, h2⟩
  · have hlt : ∀ b ∈ e.L, b.nm < W.heap.size := fun b hb => hr.lt hb
    rw [List.pairwise_append]
    refine ⟨?_, hfR, fun a ha b hb _ he => ?_⟩
    · rw [List.pairwise_map]
      rw [List.nodup_iff_pairwise_ne, List.pairwise_map] at hnwd
      exact hnwd.imp (S := fun a b => Far (ownOf a) (ownOf b)) fun h _ => h
    · obtain ⟨q, hq, rfl⟩ := List.mem_map.1 ha
      have he' : q.1 = b.nm := he
      rcases (hnw q hq).1 with h1 | ⟨p, hp, hpe⟩
      · have h2 := hlt b (hmem b hb)
        omega
      · exact hrest b hb p hp (hpe.trans he')

theorem evAt_sound {fn : FuncId} {call : CallE} (hs : SoundC P w0 keep call) {ops : Array Oper} {i : Nat} {a : F} {e : E} {K0 : F × E → Prop} (h : (evAt P S fn call ops i a e).all K0)
    {b : Act} {W : World} (hf : RelF a b) (hr : Rep w0 keep e W) {Q : Exit → Act → World → Prop} {K : Act → World → Prop} (hK : ∀ a' e' b' W', K0 (a', e') → RelF a' b' → Rep w0 keep e' W' → K b' W') : wpOp P ops Q i K b W := by
  unfold evAt at h
  unfold wpOp
  split at h
  · rename_i h0
    simp only [h0]
    exact hK _ _ _ _ h hf hr
  · rename_i o h0
    simp only [h0]
    split at h
    · rename_i hw
      rw [hf.yielded] at hw
      rw [if_pos hw]
      left
      unfold evOp at h
      unfold Oper.wp
      split at h
      · split at h
        · obtain ⟨hrun, h⟩ := h
          rw [hf.eval] at hrun
          rw [hrun W]
          exact hK _ _ _ _ h (hf.put _ _) (hr.of_eq rfl)
        · exact h.elim
      split at h
      · split at h
        · obtain ⟨hmeet, h⟩ := h
          rw [hf.eval] at hmeet
          obtain ⟨hpre, h⟩ := memBy_sound h hr
          obtain ⟨ns, W1, hrun, hpost⟩ := hmeet W hpre
          obtain ⟨e1, hr1, h⟩ := h ns W1 hpost
          rw [hrun]
          rename_i c _ _ _
          cases hsk : (c e.hist).skip with
          | true =>
            simp only [OpC.val, OpC.next, hsk] at h ⊢
            exact hK _ _ _ _ h (hf.put _ _) (hr1.of_eq rfl)
          | false =>
            simp only [OpC.val, OpC.next, hsk] at h ⊢
            exact hK _ _ _ _ h (hf.put _ _) (hr1.of_eq rfl)
        · exact h.elim
      rw [hf.eval, T.all_bind] at h
      obtain ⟨x, e1, W1, hrun, hr1, h⟩ := lrun_sound P S _ _ _ W _ h hr
      rw [hrun]
      cases x with
      | value v =>
        simp only [T.all_bind] at h
        obtain ⟨e2, hL, h⟩ := fix_sound S h
        exact hK _ _ _ _ h (hf.put _ _) (hr1.of_eq hL)
      | skip => exact hK _ _ _ _ h (hf.put _ _) hr1
      | enter f args =>
        simp only [T.all_bind] at h
        refine (hs _ _ _ _ h W1 hr1).mono fun en W2 ⟨v, e2, he, hR, h⟩ => ?_
        subst he
        obtain ⟨e3, hL, h⟩ := fix_sound S h
        exact hK _ _ _ _ h (hf.put _ _) (hR.of_eq hL)
      | _ => exact h.elim
    · rename_i hw
      rw [hf.yielded] at hw
      rw [hw]
      exact hK _ _ _ _ h (hf.put _ _) hr

theorem evOps_sound {fn : FuncId} {call : CallE} (hs : SoundC P w0 keep call) {ops : Array Oper} {Q : Exit → Act → World → Prop} {K : F × E → Prop} : ∀ (l : List Nat) {a : F} {e : E}, (evOps P S fn call ops l a e).all K →
    ∀ {b : Act} {W : World}, RelF a b → Rep w0 keep e W → (∀ a' e' b' W', K (a', e') → RelF a' b' → Rep w0 keep e' W' → Q .normal b' W') → wpOps P ops Q l b W
  | [], a, e, h, b, W, hf, hr, hQ => hQ _ _ _ _ h hf hr
  | i :: rest, a, e, h, b, W, hf, hr, hQ => by
    simp only [evOps, T.all_bind] at h
    rw [wpOps_cons]
    exact evAt_sound hs h hf hr (fun a' e' b' W' hk hf' hr' => evOps_sound hs rest hk hf' hr' hQ)

theorem sames_sound {α : Type} {K : α → Prop} {W : World} : ∀ (L0 L1 : List Blk) {k : T α}, (sames L0 L1 k).all K → There L1 W → There L0 W ∧ k.all K
  | [], _, k, h, _ => ⟨fun _ hp => (by cases hp), by simpa [sames] using h⟩
  | p :: ps, [], k, h, _ => h.elim
  | p :: ps, q :: qs, k, h, ht => by
    obtain ⟨h1, h2, h⟩ := h
    obtain ⟨h3, h4⟩ := sames_sound ps qs h fun x hx => ht x (List.mem_cons_of_mem _ hx)
    refine ⟨fun x hx => ?_, h4⟩
    rcases List.mem_cons.1 hx with rfl | hx
    · rw [tok_nat h1, tok_cont h2]; exact ht q List.mem_cons_self
    · exact h3 x hx

theorem backAll_sound {α : Type} {K : α → Prop} {W : World} : ∀ (L0 : List Blk) {e : E} {k : E → T α}, (backAll L0 e k).all K → There e.L W → There L0 W ∧ ∃ e', e'.L = e.L ∧ (k e').all K
  | [], e, k, h, _ => ⟨fun _ hp => (by cases hp), e, rfl, h⟩
  | p :: ps, e, k, h, ht => by
    simp only [backAll] at h
    split at h
    · rename_i b j e1 hp
      obtain ⟨hj, hL⟩ := E.pick_spec hp
      obtain ⟨h1, h2, h⟩ := h
      obtain ⟨h3, e2, h4, h5⟩ := backAll_sound ps h (by rw [hL]; exact ht)
      refine ⟨fun x hx => ?_, e2, h4.trans hL, h5⟩
      rcases List.mem_cons.1 hx with rfl | hx
      · rw [tok_nat h1, tok_cont h2]; exact ht b (List.mem_of_getElem? hj)
      · exact h3 x hx
    · exact h.elim

theorem heldAt_spec {fn : FuncId} {ops : Array Oper} {listed : Array Bool} {a : F} {e : E} {b : Act} (hrel : RelF a b) {i : Nat} {t : T (Value × E)} (h : heldAt P S fn ops listed a e i = some t) {K : Value × E → Prop} (ht : t.all K) :
    ∃ o v e', ops[i]? = some o ∧ Region.free .any ops listed i = true ∧ YieldsIf P ops (There e.L) o v b ∧ K (v, e') := by
  unfold heldAt at h
  split at h
  · cases h
  · rename_i o ho
    split at h
    · cases h
    · rename_i hf
      split at h
      · rename_i hw
        injection h with h
        subst h
        rw [hrel.yielded] at hw
        exact ⟨o, undef, e, ho, hf, .inr ⟨hw, rfl⟩, ht⟩
      · rename_i hw
        rw [hrel.yielded] at hw
        split at h
        · split at h
          · injection h with h
            subst h
            obtain ⟨hrun, ht⟩ := ht
            rw [hrel.eval] at hrun
            exact ⟨o, _, _, ho, hf, .inl ⟨hw, fun W _ => hrun W⟩, ht⟩
          · cases h
        split at h
        · rename_i v e' hd
          injection h with h
          subst h
          rw [T.all_bind] at ht
          have h1 := T.all_det hd ht
          have h2 := T.det_only hd ht
          obtain ⟨e2, -, hK⟩ := fix_sound S h1
          refine ⟨o, v, e2, ho, hf, .inl ⟨hw, fun W hS => ?_⟩, hK⟩
          rw [hrel.eval] at h2
          obtain ⟨x, e3, hrun, -, hx⟩ := lread_sound P S _ _ _ _ h2 hS
          injection hx with hx
          rw [hrun, hx]
        · cases h

theorem firstHeld_spec {fn : FuncId} {ops : Array Oper} {listed : Array Bool} {a : F} {e : E} : ∀ (l : List Nat) {i : Nat} {d : Option Tmp} {t : T (Value × E)}, firstHeld P S fn ops listed a e l = some (i, d, t) → i ∈ l ∧ d = (ops[i]?).bind (·.dst) ∧ heldAt P S fn ops listed a e i = some t
  | [], i, d, t, h => by cases h
  | j :: rest, i, d, t, h => by
    simp only [firstHeld] at h
    split at h
    · rename_i h1
      injection h with h; injection h with h2 h3; injection h3 with h3 h4
      subst h2 h3 h4
      exact ⟨List.mem_cons_self, rfl, h1⟩
    · obtain ⟨h1, h2⟩ := firstHeld_spec rest h; exact ⟨List.mem_cons_of_mem _ h1, h2⟩

theorem evAny_sound {fn : FuncId} {call : CallE} (hs : SoundC P w0 keep call) {ops : Array Oper} (hns : Region.noSelect ops = true) {Q : Exit → Act → World → Prop} (hQ0 : ∀ c a w, ¬ Q (.panic c) a w) {fl : Bool} {L0 : List Blk} {K : F × E → Prop} :
    ∀ (n : Nat) {listed : Array Bool} {a : F} {e : E}, (evAny P S fn call ops fl L0 n listed a e).all K →
    ∀ {b : Act} {W : World}, RelF a b → Rep w0 keep e W → There L0 W → (∀ a' e' b' W', K (a', e') → RelF a' b' → Rep w0 keep e' W' → Q .normal b' W') → wpAnyH P .any ops Q (There L0) n listed b W
  | 0, listed, a, e, h, b, W, hf, hr, hS, hQ => by
    simp only [evAny] at h
    split at h
    · rename_i hrd
      exact wpAnyH_done hrd (hQ _ _ _ _ h hf hr) 0
    · exact h.elim
  | n + 1, listed, a, e, h, b, W, hf, hr, hS, hQ => by
    simp only [evAny] at h
    split at h
    · rename_i hrd
      exact wpAnyH_done hrd (hQ _ _ _ _ h hf hr) (n + 1)
    · rename_i hne
      split at h
      · rename_i i d t hff
        obtain ⟨hmem, hd, hfa⟩ := firstHeld_spec _ hff
        rw [T.all_bind] at h
        obtain ⟨o, v, e', ho, hfr, hy, h⟩ := heldAt_spec hf hfa h
        rw [ho] at hd
        subst hd
        exact wpAnyH_take ho hns hfr (by simpa using hmem) (fun c b w hq => (hQ0 c _ w hq).elim) hy hS (evAny_sound hs hns hQ0 n h (hf.put _ _) (hr.of_eq rfl) hS hQ)
      · split at h
        · rename_i i hrd
          rw [T.all_bind] at h
          refine wpAnyH_all hrd (by simp) fun k hk => ?_
          obtain rfl : k = i := by simpa using hk
          refine evAt_sound hs h hf hr (fun a' e' b' W' hk hf' hr' => ?_)
          cases fl with
          | true =>
            obtain ⟨h1, h2⟩ := sames_sound _ _ hk (fun p hp => (hr'.blk p (List.mem_of_mem_drop hp)).1)
            exact ⟨h1, evAny_sound hs hns hQ0 n h2 hf' hr' h1 hQ⟩
          | false =>
            obtain ⟨h1, e2, hL, h2⟩ := backAll_sound _ hk (fun p hp => (hr'.blk p hp).1)
            exact ⟨h1, evAny_sound hs hns hQ0 n h2 hf' (hr'.of_eq hL) h1 hQ⟩
        · exact h.elim

theorem evLoop_sound {c : Code} {f : F → E → T (Exit × F × E)} (hf : SoundE P w0 keep c f) {K : Exit × F × E → Prop} : ∀ (m : Nat) (a : F) (e : E), (evLoop f m a e).all K →
    ∀ b W, RelF a b → Rep w0 keep e W → Code.rounds P c (Post w0 keep K) m b W
  | 0, a, e, h, b, W, _, _ => h.elim
  | m + 1, a, e, h, b, W, hrel, hr => by
    simp only [evLoop, T.all_bind] at h
    rw [rounds_succ]
    refine wp_mono (hf _ _ _ h b W hrel hr) ?_
    rintro x a2 W2 ⟨hx, g, e2, h, hrel2, hr2⟩
    cases x with
    | normal => exact evLoop_sound hf m _ _ h a2 W2 hrel2 hr2
    | _ => exact ⟨hx, g, e2, h, hrel2, hr2⟩

theorem metBy_sound {c : CallC} (hc : Meets P c) {args : Array Value} {e : E} {K : Value × E → Prop} (h : (metBy c args e).all K) {W : World} (hr : Rep w0 keep e W) : Calls P c.f args W fun en W' => ∃ v e', en = .returned v ∧ Rep w0 keep e' W' ∧ K (v, e') := by
  obtain ⟨ha, h⟩ := h
  have hargs : args = c.args := by
    have := tok_val ha
    injection this
  subst hargs
  obtain ⟨hpre, h⟩ := memBy_sound h hr
  refine (hc W hpre).mono ?_
  rintro en W' ⟨ns, rfl, hpost⟩
  obtain ⟨e', hr', hk⟩ := h ns W' hpost
  exact ⟨c.v ns, { e' with ci := e.ci + 1 }, rfl, hr'.of_eq rfl, hk⟩

theorem tok_code {a b : Code} (h : Tok.code a = Tok.code b) : a = b := by injection h

theorem relF_rest {n : Nat} {l : List (Nat × Value)} {a : Act} (h : Ev.Known n l a) : RelF ⟨n, l ++ Ev.argsW 0 a.tmps.toList⟩ a := h.rel

theorem loopBy_sound {c : LoopC} (hc : MeetsL P c) {x : Code} {a : F} {e : E} {K : Exit × F × E → Prop} (hx : calm c.x = true) (h : (loopBy c x a e).all K) {b : Act} {W : World} (hf : RelF a b) (hr : Rep w0 keep e W) : x.wp P (Post w0 keep K) b W := by
  obtain ⟨h1, h2, h3, h⟩ := h
  obtain rfl := tok_code h1
  have hn := tok_nat h2
  have hsl : (c.sl.map fun p => a.get p.1).toArray = (c.sl.map (·.2)).toArray := by
    have := tok_val h3
    injection this
  have hsl := congrArg Array.toList hsl
  have hk : Ev.Known c.n c.sl b := by
    rw [← hn]
    exact Ev.Known.of hf c.sl (by simpa using hsl)
  obtain ⟨hpre, h⟩ := memBy_sound h hr
  refine wp_mono (hc b W hk hpre) ?_
  rintro x' a' W' ⟨rfl, ns, hk', hpost⟩
  obtain ⟨e', hr', hk⟩ := h ns W' hpost
  exact ⟨hx, _, _, hk 0 a'.tmps.toList, relF_rest hk', hr'.of_eq rfl⟩

theorem evCall_sound (hS : S.holds P) {f : FuncId → Code → F → E → T (Exit × F × E)} (hf : ∀ fn c, SoundE P w0 keep c (f fn c)) : SoundC P w0 keep (evCall P S f) := by
  intro g args e K h W hr
  unfold evCall at h
  split at h
  · split at h
    · exact h.elim
    rename_i cc hS1
    split at h
    · exact h.elim
    rename_i hcf _
    subst hcf
    exact metBy_sound (hS.cl _ (List.mem_of_getElem? hS1) _) h hr
  · split at h
    · exact h.elim
    · rename_i fn hfn
      split at h
      · exact h.elim
      · rename_i c hb
        rw [T.all_bind] at h
        refine calls_of_wp hfn hb (wp_mono (hf g c _ _ _ h _ W (RelF.init args fn.ntmps) hr) ?_)
        rintro x a2 W2 ⟨-, g2, e2, h, hrel2, hr2⟩
        have key : (lread P S false (resF fn g2.get) e2).all K → bodyPost P fn (fun en W' => ∃ v e', en = .returned v ∧ Rep w0 keep e' W' ∧ K (v, e')) .ret a2 W2 := fun h => by
          obtain ⟨v, e3, hrun, hL, hk⟩ := lread_sound P S (W := W2) _ _ _ _ h (fun p hp => (hr2.blk p hp).1)
          rw [← resF_eq hrel2] at hrun
          exact ⟨hrel2.defers, v, hrun, v, e3, rfl, hr2.of_eq hL, hk⟩
        cases x with
        | normal => exact key h
        | ret => exact key h
        | _ => exact h.elim

theorem ev_sound (hS : S.holds P) (hP : P.follows .mixedOrders = true) : ∀ (n : Nat) (fn : FuncId) (c : Code), SoundE P w0 keep c (ev P S n fn c)
  | 0, fn, c, a, e, K, h, _, _, _, _ => h.elim
  | n + 1, fn, c, a, e, K, h, b, W, hrel, hr => by
    have ih0 : ∀ fn c, SoundE P w0 keep c (ev P S n fn c) := ev_sound hS hP n
    have ih := ih0 fn
    have hc : SoundC P w0 keep (evCall P S (ev P S n)) := evCall_sound hS ih0
    unfold ev at h
    split at h
    · exact wp_skip ⟨rfl, _, _, h, hrel, hr⟩
    · exact wp_label ⟨rfl, _, _, h, hrel, hr⟩
    · rw [T.all_bind] at h
      exact wp_region (evOps_sound hc _ h hrel hr fun a' e' b' W' hk hb' hr' => ⟨rfl, _, _, hk, hb', hr'⟩)
    · split at h
      · split at h
        · exact h.elim
        · rename_i hlp
          split at h
          · rename_i hx
            exact loopBy_sound (hS.lp _ (List.mem_of_getElem? hlp) _) hx h hrel hr
          · exact h.elim
      split at h
      · exact h.elim
      · rename_i hns
        rw [T.all_bind] at h
        exact wp_region_held hP (evAny_sound hc hns (fun c a w hq => by cases hq.1) _ h hrel hr.draw (fun p hp => (hr.blk p (dropAt_sub hp)).1) fun a' e' b' W' hk hb' hr' => ⟨rfl, _, _, hk, hb', hr'⟩)
    · rw [T.all_bind] at h
      refine wp_seq (wp_mono (ih _ _ _ _ h b W hrel hr) ?_)
      rintro x a2 W2 ⟨hx, g2, e2, h, hrel2, hr2⟩
      cases x with
      | normal => exact ih _ _ _ _ h a2 W2 hrel2 hr2
      | _ => exact ⟨hx, _, _, h, hrel2, hr2⟩
    · split at h
      · rename_i hb; rw [hrel.eval] at hb; exact wp_cond_true hb (ih _ _ _ _ h b W hrel hr)
      · rename_i hb; rw [hrel.eval] at hb; exact wp_cond_false hb (ih _ _ _ _ h b W hrel hr)
      · exact h.elim
    · rename_i id x
      rw [T.all_bind] at h
      refine wp_block (wp_mono (ih _ _ _ _ h b W hrel hr) ?_)
      rintro x a2 W2 ⟨hx, g2, e2, h, hrel2, hr2⟩
      cases x with
      | exit id' =>
        simp only at h
        split at h
        · rename_i hid _
          simp only [Exit.inBlock, hid, if_true]
          exact ⟨rfl, _, _, h, hrel2, hr2⟩
        · rename_i hid _
          simp only [Exit.inBlock, hid, if_false]
          exact ⟨rfl, _, _, h, hrel2, hr2⟩
      | normal => exact ⟨hx, _, _, h, hrel2, hr2⟩
      | ret => exact ⟨hx, _, _, h, hrel2, hr2⟩
      | _ => simp [calm] at hx
    · split at h
      · exact wp_loop_rounds n (evLoop_sound (ih _) n _ _ h b W hrel hr)
      · split at h
        · exact wp_loop_rounds n (evLoop_sound (ih _) n _ _ h b W hrel hr)
        · rename_i hlp
          split at h
          · exact wp_loop_rounds n (evLoop_sound (ih _) n _ _ h b W hrel (hr.of_eq rfl))
          split at h
          · rename_i hx
            exact loopBy_sound (hS.lp _ (List.mem_of_getElem? hlp) _) hx h hrel hr
          · exact h.elim
    · exact wp_exit ⟨rfl, _, _, h, hrel, hr⟩
    · exact wp_ret ⟨rfl, _, _, h, hrel, hr⟩
    · exact h.elim

end Go.Proofs.Ytjohknpmhlildaa.Ex
