/-
  Symbolic runs: how they are used.
-/
import Derived.Test.YtbgmkefehfjicaaSyD
namespace Go.Proofs.Ytbgmkefehfjicaa.Sy
open Go Go.RowKit
open Ev (calm)

variable {P : Program} {S : Ctx}

/-- The body of a call; contracts serve within it. (kf: the blocks that are told of.) -/
noncomputable def inT (P : Program) (S : Ctx) (n : Nat) (f : FuncId) (args : Array Value) (L : List Blk) (kf : Blk → Bool) : T (Value × List Blk) := inCall P (ev P S n) f args L fun v L' => .ret (v, L'.filter kf)

def allB (_ : Blk) : Bool := true
def noB (_ : Blk) : Bool := false
/-- Rows alone. -/
def rowB (b : Blk) : Bool := match b.ct with
  | .row .. => true
  | _ => false
/-- Rows, and what holds cells of type t. -/
def rowT (t : TypeId) (b : Blk) : Bool := match b.ct with
  | .row .. => true
  | .obj (.cells _ t' _) => Nat.beq t t'
  | _ => false

/-- A piece of code, from a frame of which some slots are known; ks: the slots that are asked for. -/
noncomputable def pieceT (P : Program) (S : Ctx) (n : Nat) (fn : FuncId) (c : Code) (m : Nat) (l : List (Nat × Value)) (xs : List Value) (L : List Blk) (ks : List Nat) : T (Exit × Nat × List Value × List Blk) :=
  ev P S n fn c ⟨m, l ++ argsW 0 xs⟩ L fun x a L' => .ret (x, a.n, ks.map a.get, L')

/-- It was run: what came of it. -/
structure Ran {α : Type} (t : T α) (o : O) (R : (Nat → Let) → Res α) : Prop where
  res : ∀ ns, (t.run o ns).map (·.res) = some (R ns)
  one : ∀ ns, (t.run o ns).map (·.l) = (t.run o ns).map (·.r)

theorem Ran.all {α : Type} {t : T α} {o : O} {R : (Nat → Let) → Res α} (h : Ran t o R) {K : α → Prop} (hK : ∀ ns, (R ns).holds K) : t.all K := by
  refine all_of_run t o fun ns => ?_
  have h1 := h.res ns
  have h2 := h.one ns
  cases hx : t.run o ns with
  | none => rw [hx] at h1; cases h1
  | some x =>
    rw [hx] at h1 h2
    simp only [Option.map_some, Option.some.injEq] at h1 h2
    exact ⟨x, rfl, h2, by rw [h1]; exact hK ns⟩

theorem calls_of (hS : S.holds P) (hP : P.follows .mixedOrders = true) {n : Nat} {f : FuncId} {args : Array Value} {L0 : List Blk} {o : O} {R : (Nat → Let) → Res (Value × List Blk)} {kf : Blk → Bool} (h : Ran (inT P S n f args L0 kf) o R)
    {w0 W : World} {keep : Nat → Prop} (hr : Rep w0 keep L0 W) {Q : Ending → World → Prop} (hQ : ∀ ns, (R ns).holds fun y => ∀ W', Rep w0 keep y.2 W' → Q (.returned y.1) W') : Calls P f args W Q := by
  have hall := h.all hQ
  unfold inT at hall
  refine (inCall_sound (ev_sound hS hP n) _ _ _ _ hall W hr).mono ?_
  rintro en W' ⟨v', L', rfl, hr', hk⟩
  exact hk W' (hr'.sub List.filter_sublist)

theorem zip_get (f : F) : ∀ ks : List Nat, (ks.zip (ks.map f.get)).map (fun p => f.get p.1) = (ks.zip (ks.map f.get)).map (·.2)
  | [] => rfl
  | k :: ks => by simp only [List.map_cons, List.zip_cons_cons]; rw [zip_get f ks]

theorem wp_of (hS : S.holds P) (hP : P.follows .mixedOrders = true) {n : Nat} {fn : FuncId} {c : Code} {m : Nat} {l : List (Nat × Value)} {a : Act} {L : List Blk} {ks : List Nat} {o : O} {R : (Nat → Let) → Res (Exit × Nat × List Value × List Blk)}
    (h : Ran (pieceT P S n fn c m l a.tmps.toList L ks) o R) {w0 W : World} {keep : Nat → Prop} (hk : Known m l a) (hr : Rep w0 keep L W)
    {Q : Exit → Act → World → Prop} (hQ : ∀ ns, (R ns).holds fun y => ∀ a' W', calm y.1 = true → Known y.2.1 (ks.zip y.2.2.1) a' → Rep w0 keep y.2.2.2 W' → Q y.1 a' W') : c.wp P Q a W := by
  have hall := h.all hQ
  unfold pieceT at hall
  refine wp_mono (ev_sound hS hP n fn c _ _ _ hall a W hk.rel hr) ?_
  rintro x2 a2 W2 ⟨hx, g, L2, hk2, hf, hr'⟩
  exact hk2 a2 W2 hx (Known.of hf _ (zip_get _ _)) hr'

/-! ### Closed runs: the choices are found at numbers -/

def findNm : List Nat → Nat → Nat → Option Nat
  | [], _, _ => none
  | p :: L, b, j => match Nat.beq p b with
    | true => some j
    | false => findNm L b (j + 1)

def eqNs : List Nat → List Nat → Bool
  | [], [] => true
  | a :: l, b :: r => match Nat.beq a b with
    | true => eqNs l r
    | false => false
  | _, _ => false

def firstO (f : Nat → Option O) : Nat → Nat → Option O
  | 0, _ => none
  | n + 1, j => match f j with
    | some o => some (.step j o)
    | none => firstO f n (j + 1)

/-- A number, laid bare. -/
noncomputable def forceN {β : Type} (m : Nat) (k : Nat → β) : β := @Nat.rec (fun _ => β) (k 0) (fun n _ => k (Nat.succ n)) m

noncomputable def T.trace {α : Type} (t : T α) : Nat → Option O :=
  @T.rec α (fun _ => Nat → Option O)
    (fun _ _ => some .nil)
    (fun _ => none)
    (fun _ ih i => ih ⟨Nat.add 1000 i, 0, false, undef, []⟩ (Nat.add i 1))
    (fun _ _ _ ih i => ih i)
    (fun _ _ ih i => ih i)
    (fun _ _ ih i => ih i)
    (fun _ _ ihx ihy i => match ihx i, ihy i with
      | some a, some b => some (.fork a b)
      | _, _ => none)
    (fun c _ _ ihx ihy i => match c with
      | true => match ihx i with
        | some o => some (.step 0 o)
        | none => none
      | false => match ihy i with
        | some o => some (.step 0 o)
        | none => none)
    (fun h _ ih i => match h with
      | .pick b l => match findNm l b 0 with
        | some j => forceN j fun j => match ih j i with
          | some o => some (.step j o)
          | none => none
        | none => none
      | .num n => firstO (fun j => ih j i) n 0
      | .mask _ => match ih 0 i with
        | some o => some (.step 0 o)
        | none => none
      | .force => match ih 0 i with
        | some o => some (.step 0 o)
        | none => none
      | .tail _ => match ih 0 i with
        | some o => some (.step 0 o)
        | none => none
      | .way => match ih 0 i with
        | some o => some (.step 0 o)
        | none => none
      | .drop m => forceN m fun m => match ih m i with
        | some o => some (.step m o)
        | none => none
      | .note js q n => match nth js q with
        | some j => match ih j i with
          | some o => some (.step j o)
          | none => none
        | none => forceN n fun n => match ih n i with
          | some o => some (.step n o)
          | none => none
      | .ints a b => match Ex.eqQ a b with
        | true => match ih 0 i with
          | some o => some (.step 0 o)
          | none => none
        | false => match ih 1 i with
          | some o => some (.step 1 o)
          | none => none
      | .sug j n => forceN j fun j => match ih j i with
        | some o => some (.step j o)
        | none => forceN (Nat.sub n 1) fun n1 => match ih n1 i with
          | some o => some (.step n1 o)
          | none => firstO (fun j => ih j i) n 0
      | .names l r => match eqNs l r with
        | true => match ih 0 i with
          | some o => some (.step 0 o)
          | none => none
        | false => match ih 1 i with
          | some o => some (.step 1 o)
          | none => none
      | .lit b => match b with
        | true => match ih 0 i with
          | some o => some (.step 0 o)
          | none => none
        | false => match ih 0 i with
          | some o => some (.step 0 o)
          | none => none)
    t

noncomputable def T.choices {α : Type} (t : T α) : O := match t.trace 0 with
  | some o => o
  | none => .nil

/-- What is asked for. -/
def Res.asks {α : Type} : Res α → Option (List Prop)
  | .leaf _ => some []
  | .need p r => match r.asks with
    | some l => some (p :: l)
    | none => none
  | .hyp _ r => r.asks
  | .both x y => match x.asks, y.asks with
    | some l, some m => some (l ++ m)
    | _, _ => none
  | .br _ _ _ => none

theorem Res.asks_holds {α : Type} : ∀ {r : Res α} {l : List Prop}, r.asks = some l → (∀ p ∈ l, p) → r.holds fun _ => True
  | .leaf _, _, _, _ => trivial
  | .need p r, l, h, hl => by
    simp only [Res.asks] at h
    split at h
    · rename_i m hm
      injection h with h
      subst h
      exact ⟨hl p List.mem_cons_self, Res.asks_holds hm fun q hq => hl q (List.mem_cons_of_mem _ hq)⟩
    · cases h
  | .hyp _ r, l, h, hl => fun _ => Res.asks_holds (r := r) h hl
  | .both x y, l, h, hl => by
    simp only [Res.asks] at h
    split at h
    · rename_i m n hm hn
      injection h with h
      subst h
      exact ⟨Res.asks_holds hm fun q hq => hl q (List.mem_append_left _ hq), Res.asks_holds hn fun q hq => hl q (List.mem_append_right _ hq)⟩
    · cases h
  | .br _ _ _, _, h, _ => by cases h

/-- A call that hands back v, whatever is drawn. -/
noncomputable def shutT (P : Program) (S : Ctx) (n : Nat) (f : FuncId) (args : Array Value) (v : Value) : T Unit := inCall P (ev P S n) f args [] fun v' _ => .same (.val v') (.val v) (.ret ())

theorem rep_start (w : World) : Rep w (fun _ => True) [] w :=
  ⟨rfl, rfl, rfl, Nat.le_refl _, fun _ _ _ => rfl, fun _ h => (by cases h), List.Pairwise.nil⟩

theorem calls_shut (hS : S.holds P) (hP : P.follows .mixedOrders = true) {n : Nat} {f : FuncId} {args : Array Value} {v : Value} {o : O} (ps : List Prop) (hps : ∀ p ∈ ps, p)
    (h : ∀ ns, ((shutT P S n f args v).run o ns).map (fun x => (x.res.asks, x.l)) = ((shutT P S n f args v).run o ns).map (fun x => (some ps, x.r))) (h0 : ∀ ns, ((shutT P S n f args v).run o ns).isSome = true) (W : World) :
    Calls P f args W fun e W' => e = .returned v ∧ Below W.heap.size W W' := by
  have hall : (shutT P S n f args v).all fun _ => True := by
    refine all_of_run _ o fun ns => ?_
    have h := h ns
    have h0 := h0 ns
    cases hx : (shutT P S n f args v).run o ns with
    | none => rw [hx] at h0; cases h0
    | some x =>
      rw [hx] at h
      simp only [Option.map_some, Option.some.injEq, Prod.mk.injEq] at h
      exact ⟨x, rfl, h.2, Res.asks_holds h.1 hps⟩
  unfold shutT at hall
  refine (inCall_sound (ev_sound hS hP n) _ _ _ _ hall W (rep_start W)).mono ?_
  rintro en W' ⟨v', L', rfl, hr', hk⟩
  have hv : v' = v := tok_val hk.1
  exact ⟨by rw [hv], hr'.below⟩

/-! ### Contracts -/

def blks (c : MemC) : List Blk := c.rd.map (fun p => ⟨p.1, p.2, false⟩) ++ (c.use.map ownOf ++ c.rb.map (fun p => ⟨p.1, p.2, false⟩))

def keepOf (c : MemC) (k : Nat) : Prop := ∀ p ∈ c.use, p.1 ≠ k

theorem rep_of_pre {c : MemC} {W : World} (h : c.pre W) : Rep W (keepOf c) (blks c) W := by
  have hf : ∀ l : List (Nat × Cont), (l.map fun p => (⟨p.1, p.2, false⟩ : Blk)).Pairwise Far := fun l => by
    rw [List.pairwise_map]
    exact List.pairwise_of_forall fun a b h => by cases h
  refine ⟨rfl, rfl, rfl, Nat.le_refl _, fun _ _ _ => rfl, fun p hp => ?_, ?_⟩
  · rcases List.mem_append.1 hp with hp | hp
    · obtain ⟨q, hq, rfl⟩ := List.mem_map.1 hp
      exact ⟨h.rd q hq, fun h => by cases h⟩
    rcases List.mem_append.1 hp with hp | hp
    · obtain ⟨q, hq, rfl⟩ := List.mem_map.1 hp
      exact ⟨h.use q hq, fun _ _ hk => hk q hq rfl⟩
    · obtain ⟨q, hq, rfl⟩ := List.mem_map.1 hp
      exact ⟨h.rb q hq, fun h => by cases h⟩
  · unfold blks
    rw [List.pairwise_append, List.pairwise_append]
    refine ⟨hf _, ⟨?_, hf _, fun a ha b hb => ?_⟩, fun a ha b hb => ?_⟩
    · rw [List.pairwise_map]
      have := h.nodup
      rw [List.nodup_iff_pairwise_ne, List.pairwise_map] at this
      exact this.imp (S := fun a b => Far (ownOf a) (ownOf b)) fun h _ => h
    · obtain ⟨p, hp, rfl⟩ := List.mem_map.1 ha
      obtain ⟨q, hq, rfl⟩ := List.mem_map.1 hb
      exact fun _ he => h.apartB q hq p hp he.symm
    · obtain ⟨p, hp, rfl⟩ := List.mem_map.1 ha
      rcases List.mem_append.1 hb with hb | hb
      · obtain ⟨q, hq, rfl⟩ := List.mem_map.1 hb
        exact fun _ => h.apart p hp q hq
      · obtain ⟨q, hq, rfl⟩ := List.mem_map.1 hb
        exact fun ho => by cases ho

def pickL (L : List Blk) (pk : List Nat) : List Blk := pk.filterMap fun i => L[i]?

theorem Rep.pick {w0 W : World} {keep : Nat → Prop} {L : List Blk} (h : Rep w0 keep L W) : ∀ {pk : List Nat}, pk.Nodup → Rep w0 keep (pickL L pk) W := by
  intro pk hpk
  refine ⟨h.os, h.tape, h.output, h.size, h.old, fun p hp => ?_, ?_⟩
  · obtain ⟨i, -, hi⟩ := List.mem_filterMap.1 hp
    exact h.blk p (List.mem_of_getElem? hi)
  · unfold pickL
    induction pk with
    | nil => exact List.Pairwise.nil
    | cons i pk ih =>
      rw [List.nodup_cons] at hpk
      rw [List.filterMap_cons]
      split
      · exact ih hpk.2
      · rename_i p hp
        rw [List.pairwise_cons]
        refine ⟨fun q hq => ?_, ih hpk.2⟩
        obtain ⟨j, hj, hjq⟩ := List.mem_filterMap.1 hq
        exact far_ne h.far hp hjq (fun e => hpk.1 (e ▸ hj))

/-- A block is as it is told. -/
def fitB (b : Blk) (p : Nat × Cont) : Prop := b.nm = p.1 ∧ b.own = true ∧ (b.ct = p.2 ∨ p.2.useView b.ct = p.2 ∨ p.2.view b.ct = p.2)

def fitsB : List Blk → List (Nat × Cont) → Prop
  | [], [] => True
  | b :: l, p :: r => fitB b p ∧ fitsB l r
  | _, _ => False

theorem Rep.fits {w0 W : World} {keep : Nat → Prop} : ∀ {l : List Blk} {r : List (Nat × Cont)}, fitsB l r → Rep w0 keep l W → Rep w0 keep (r.map ownOf) W
  | [], [], _, h => h
  | [], _ :: _, h, _ => h.elim
  | _ :: _, [], h, _ => h.elim
  | b :: l, p :: r, ⟨⟨h1, h2, h3⟩, h4⟩, h => by
    have ih := Rep.fits h4 (h.sub (List.sublist_cons_self b l))
    have hnm : r.map (·.1) = l.map (·.nm) := by
      clear ih h h1 h2 h3
      revert r
      induction l with
      | nil => intro r h; cases r with
        | nil => rfl
        | cons _ _ => exact h.elim
      | cons x l ihl => intro r h; cases r with
        | nil => exact h.elim
        | cons y r => simp only [List.map_cons, ihl r h.2, h.1.1]
    have hb := h.blk b List.mem_cons_self
    have hsat : p.2.sat W.heap[b.nm]? := by
      rcases h3 with h3 | h3 | h3
      · rw [← h3]; exact hb.1
      · rw [← h3]; exact Cont.sat_useView hb.1
      · rw [← h3]; exact Cont.sat_view hb.1
    refine ⟨h.os, h.tape, h.output, h.size, h.old, fun q hq => ?_, ?_⟩
    · rw [List.map_cons] at hq
      rcases List.mem_cons.1 hq with rfl | hq
      · show p.2.sat W.heap[p.1]? ∧ _
        rw [← h1]
        refine ⟨hsat, fun _ hlt => ?_⟩
        have : ownOf p = ⟨p.1, p.2, true⟩ := rfl
        simp only [ownOf] at hlt ⊢
        rw [← h1] at hlt ⊢
        exact hb.2 h2 hlt
      · exact ih.blk q hq
    · rw [List.map_cons, List.pairwise_cons]
      refine ⟨fun q hq => ?_, ih.far⟩
      obtain ⟨x, hx, rfl⟩ := List.mem_map.1 hq
      have hx1 : x.1 ∈ l.map (·.nm) := by rw [← hnm]; exact List.mem_map.2 ⟨x, hx, rfl⟩
      obtain ⟨b', hb', he⟩ := List.mem_map.1 hx1
      have hf := (List.pairwise_cons.1 h.far).1 b' hb' (by rw [h2]; rfl)
      intro _
      show p.1 ≠ x.1
      rw [← h1, ← he]
      exact hf

theorem post_of_ent {c : MemC} {o : OutM} {W W' : World} {ns : List Let} (hp : Rep W (keepOf c) ((o.nw ns ++ o.nb ns).map ownOf) W') (hn : ns.length = c.m) (hh : o.hyp ns) : c.post o W W' ns := by
  have hall : ∀ p ∈ o.nw ns ++ o.nb ns, (W.heap.size ≤ p.1 ∨ ∃ q ∈ c.use, q.1 = p.1) ∧ p.2.sat W'.heap[p.1]? := fun p hpm => by
    have hb := hp.blk _ (List.mem_map.2 ⟨p, hpm, rfl⟩)
    refine ⟨?_, hb.1⟩
    rcases Nat.lt_or_ge p.1 W.heap.size with hlt | hge
    · have := hb.2 rfl hlt
      unfold keepOf at this
      simp only [ownOf, ne_eq] at this
      refine .inr (Classical.byContradiction fun hno => this fun q hq he => hno ⟨q, hq, he⟩)
    · exact .inl hge
  have hf := hp.far
  rw [List.pairwise_map] at hf
  have hnd : ((o.nw ns ++ o.nb ns).map (·.1)).Nodup := by
    rw [List.nodup_iff_pairwise_ne, List.pairwise_map]
    exact hf.imp fun h => h rfl
  rw [List.map_append, List.nodup_append] at hnd
  exact ⟨hn, hh, hp.os, hp.tape, hp.output, hp.size, fun k hk hno => hp.old k hk hno, fun p hpm => hall p (List.mem_append_left _ hpm), hnd.1, fun p hpm => hall p (List.mem_append_right _ hpm), hnd.2.1, fun p hpm q hq => hnd.2.2 _ (List.mem_map.2 ⟨p, hpm, rfl⟩) _ (List.mem_map.2 ⟨q, hq, rfl⟩)⟩

theorem post_of_rep {c : MemC} {o : OutM} {W W' : World} {L : List Blk} {ns : List Let} (hr : Rep W (keepOf c) L W') (hn : ns.length = c.m) (hh : o.hyp ns) (pk : List Nat) (hpk : pk.Nodup) (hL : fitsB (pickL L pk) (o.nw ns ++ o.nb ns)) : c.post o W W' ns :=
  post_of_ent ((hr.pick hpk).fits hL) hn hh

/-- What a contract asks of what came. -/
def leafC (c : CallC) (y : Value × List Blk) : Prop :=
  ∃ o ∈ c.outs, ∃ ns : List Let, ns.length = c.mem.m ∧ y.1 = o.2 ns ∧ (∃ pk : List Nat, pk.Nodup ∧ fitsB (pickL y.2 pk) (o.1.nw ns ++ o.1.nb ns)) ∧ o.1.hyp ns

theorem meets_of (hS : S.holds P) (hP : P.follows .mixedOrders = true) {n : Nat} {c : CallC} {o : O} {R : (Nat → Let) → Res (Value × List Blk)} {kf : Blk → Bool} (h : Ran (inT P S n c.f c.args (blks c.mem) kf) o R)
    (hQ : c.ok → ∀ ns, (R ns).holds (leafC c)) : Meets P c := by
  intro hok W hpre
  refine calls_of hS hP h (rep_of_pre hpre) fun ns => Res.holds_mono (fun y hy W' hr => ?_) _ (hQ hok ns)
  obtain ⟨o, ho, ns, h1, h2, ⟨pk, h3, h4⟩, h5⟩ := hy
  exact ⟨o, ho, ns, by rw [h2], post_of_rep hr h1 h5 pk h3 h4⟩

/-- What a loop's round must leave: the next state, or an end. -/
def leafL {σ : Type} (c : LoopC) (ks : List Nat) (slots : σ → List (Nat × Value)) (mem : σ → List Blk) (ok : σ → Prop) (μ : σ → Nat) (s : σ) (y : Exit × Nat × List Value × List Blk) : Prop :=
  y.2.1 = c.n ∧ ((y.1 = .normal ∧ ∃ s', ok s' ∧ μ s' < μ s ∧ ks.zip y.2.2.1 = slots s' ∧ ∃ pk : List Nat, pk.Nodup ∧ pickL y.2.2.2 pk = mem s') ∨
    (y.1 ≠ .normal ∧ ∃ o ∈ c.outs, y.1 = o.2.1 ∧ ∃ ns : List Let, ns.length = c.mem.m ∧ (∃ q : List Nat, o.2.2 ns = q.filterMap fun i => (ks.zip y.2.2.1)[i]?) ∧ (∃ pk : List Nat, pk.Nodup ∧ fitsB (pickL y.2.2.2 pk) (o.1.nw ns ++ o.1.nb ns)) ∧ o.1.hyp ns))

theorem Known.sub {n : Nat} {l l' : List (Nat × Value)} {a : Act} (h : Known n l a) (hs : ∀ p ∈ l', p ∈ l) : Known n l' a := ⟨h.defers, h.size, fun p hp => h.get p (hs p hp)⟩

/-- A LOOP, by its states; the contracts may hang on them. -/
theorem loop_ofS {σ : Type} {S : σ → Ctx} (hS : ∀ s, (S s).holds P) (hP : P.follows .mixedOrders = true) {n : Nat} {fn : FuncId} {body : Code} {c : LoopC} (hc : c.c = .loop body) (ks : List Nat) (slots : σ → List (Nat × Value)) (mem : σ → List Blk) (ok : σ → Prop) (μ : σ → Nat)
    (s0 : σ) (h0 : c.ok → ok s0) (hs0 : ∀ p ∈ slots s0, p ∈ c.sl) (pk0 : List Nat) (hpk0 : pk0.Nodup) (hm0 : pickL (blks c.mem) pk0 = mem s0)
    {o : σ → O} {R : σ → List Value → (Nat → Let) → Res (Exit × Nat × List Value × List Blk)} (h : ∀ s xs, ok s → Ran (pieceT P (S s) n fn body c.n (slots s) xs (mem s) ks) (o s) (R s xs))
    (hQ : c.ok → ∀ s xs, ok s → ∀ ns, (R s xs ns).holds (leafL c ks slots mem ok μ s)) : MeetsL P c := by
  intro hok a W hk hpre
  rw [hc]
  have key : ∀ m s a W', ok s → μ s < m → Known c.n (slots s) a → Rep W (keepOf c.mem) (mem s) W' →
      Code.rounds P body (fun x a' W' => ∃ o ∈ c.outs, x = o.2.1 ∧ calm x = true ∧ ∃ ns, Known c.n (o.2.2 ns) a' ∧ c.mem.post o.1 W W' ns) m a W' := by
    intro m
    induction m with
    | zero => intro s a W' _ hlt; omega
    | succ m ih =>
      intro s a W' hs hlt hK hR
      rw [rounds_succ]
      refine wp_of (hS s) hP (h s a.tmps.toList hs) hK hR fun ns => Res.holds_mono (fun y hy a' W2 hx hK' hR' => ?_) _ (hQ hok s a.tmps.toList hs ns)
      obtain ⟨hn, hy⟩ := hy
      rcases hy with ⟨hx1, s', hs', hμ, hz, pk, hpk, hm⟩ | ⟨hx1, o, ho, he, ns', g1, ⟨q, g2⟩, ⟨pk, g3, g4⟩, g5⟩
      · rw [hx1]
        rw [hn, hz] at hK'
        have hR2 := hR'.pick hpk
        rw [hm] at hR2
        exact ih s' a' W2 hs' (by omega) hK' hR2
      · have hfin : ∃ o ∈ c.outs, y.1 = o.2.1 ∧ calm y.1 = true ∧ ∃ ns, Known c.n (o.2.2 ns) a' ∧ c.mem.post o.1 W W2 ns := by
          refine ⟨o, ho, he, hx, ns', ?_, post_of_rep hR' g1 g5 pk g3 g4⟩
          rw [hn] at hK'
          refine Known.sub hK' fun p hp => ?_
          rw [g2] at hp
          obtain ⟨i, -, hi⟩ := List.mem_filterMap.1 hp
          exact List.mem_of_getElem? hi
        cases hy1 : y.1 with
        | normal => exact absurd hy1 hx1
        | _ => rw [hy1] at hfin; exact hfin
  refine wp_loop_rounds (μ s0 + 1) (key _ s0 a W (h0 hok) (by omega) (Known.sub hk hs0) ?_)
  have := (rep_of_pre hpre).pick hpk0
  rw [hm0] at this
  exact this

/-- A LOOP, by its states. -/
theorem loop_of (hS : S.holds P) (hP : P.follows .mixedOrders = true) {n : Nat} {fn : FuncId} {body : Code} {c : LoopC} {σ : Type} (hc : c.c = .loop body) (ks : List Nat) (slots : σ → List (Nat × Value)) (mem : σ → List Blk) (ok : σ → Prop) (μ : σ → Nat)
    (s0 : σ) (h0 : c.ok → ok s0) (hs0 : ∀ p ∈ slots s0, p ∈ c.sl) (pk0 : List Nat) (hpk0 : pk0.Nodup) (hm0 : pickL (blks c.mem) pk0 = mem s0)
    {o : σ → O} {R : σ → List Value → (Nat → Let) → Res (Exit × Nat × List Value × List Blk)} (h : ∀ s xs, ok s → Ran (pieceT P S n fn body c.n (slots s) xs (mem s) ks) (o s) (R s xs))
    (hQ : c.ok → ∀ s xs, ok s → ∀ ns, (R s xs ns).holds (leafL c ks slots mem ok μ s)) : MeetsL P c :=
  loop_ofS (S := fun _ => S) (fun _ => hS) hP hc ks slots mem ok μ s0 h0 hs0 pk0 hpk0 hm0 h hQ

/-! ### However much there is -/

/-- What is known of L tells of L'. -/
def Ent (L L' : List Blk) : Prop := ∀ (w0 : World) (keep : Nat → Prop) (W : World), Rep w0 keep L W → Rep w0 keep L' W

theorem Ent.refl (L : List Blk) : Ent L L := fun _ _ _ h => h
theorem Ent.trans {A B C : List Blk} (h : Ent A B) (h' : Ent B C) : Ent A C := fun w k W hr => h' w k W (h w k W hr)
theorem Ent.perm {A B : List Blk} (h : A.Perm B) : Ent A B := fun _ _ _ hr => hr.perm h
theorem Ent.sub {A B : List Blk} (h : List.Sublist B A) : Ent A B := fun _ _ _ hr => hr.sub h

/-- What is known of one block, told otherwise. -/
theorem Ent.map {A : List Blk} {f : Blk → Blk} (h1 : ∀ b, (f b).nm = b.nm) (h2 : ∀ b, (f b).own = b.own) (h3 : ∀ b ∈ A, ∀ h, b.ct.sat h → (f b).ct.sat h) : Ent A (A.map f) := fun w0 keep W hr => by
  refine ⟨hr.os, hr.tape, hr.output, hr.size, hr.old, fun p hp => ?_, ?_⟩
  · obtain ⟨b, hb, rfl⟩ := List.mem_map.1 hp
    obtain ⟨g1, g2⟩ := hr.blk b hb
    rw [h1, h2]
    exact ⟨h3 b hb _ g1, g2⟩
  · rw [List.pairwise_map]
    refine hr.far.imp fun {a b} hab ho => ?_
    rw [h1, h1]
    rw [h2, h2] at ho
    exact hab ho

theorem Ent.app {A B A' B' : List Blk} (h1 : ∃ f : Blk → Blk, (∀ b, (f b).nm = b.nm) ∧ (∀ b, (f b).own = b.own) ∧ (∀ b ∈ A ++ B, ∀ h, b.ct.sat h → (f b).ct.sat h) ∧ A' = A.map f ∧ B' = B.map f) : Ent (A ++ B) (A' ++ B') := by
  obtain ⟨f, g1, g2, g3, rfl, rfl⟩ := h1
  rw [← List.map_append]
  exact Ent.map g1 g2 g3

/-- The body of a call; all blocks are told of. -/
noncomputable def inB (P : Program) (S : Ctx) (n : Nat) (f : FuncId) (args : Array Value) (L : List Blk) : T (Value × List Blk) := inCall P (ev P S n) f args L fun v L' => .ret (v, L')

/-- What a contract asks of what came. -/
def leafB (c : CallC) (y : Value × List Blk) : Prop :=
  ∃ o ∈ c.outs, ∃ ns : List Let, ns.length = c.mem.m ∧ y.1 = o.2 ns ∧ Ent y.2 ((o.1.nw ns ++ o.1.nb ns).map ownOf) ∧ o.1.hyp ns

theorem meets_ofB (hS : S.holds P) (hP : P.follows .mixedOrders = true) {n : Nat} {c : CallC} {o : O} {R : (Nat → Let) → Res (Value × List Blk)} {L : List Blk} (hL : Ent (blks c.mem) L) (h : Ran (inB P S n c.f c.args L) o R)
    (hQ : c.ok → ∀ ns, (R ns).holds (leafB c)) : Meets P c := by
  intro hok W hpre
  have hall := h.all (hQ hok)
  unfold inB at hall
  refine (inCall_sound (ev_sound hS hP n) _ _ _ _ hall W (hL _ _ _ (rep_of_pre hpre))).mono ?_
  rintro en W' ⟨v', L', rfl, hr', o, ho, ns, h1, h2, h3, h4⟩
  exact ⟨o, ho, ns, congrArg Ending.returned h2, post_of_ent (h3 _ _ _ hr') h1 h4⟩

/-- What a loop's round must leave: the next state, or an end. -/
def leafLB {σ : Type} (c : LoopC) (ks : List Nat) (slots : σ → List (Nat × Value)) (mem : σ → List Blk) (ok : σ → Prop) (μ : σ → Nat) (s : σ) (y : Exit × Nat × List Value × List Blk) : Prop :=
  y.2.1 = c.n ∧ ((y.1 = .normal ∧ ∃ s', ok s' ∧ μ s' < μ s ∧ ks.zip y.2.2.1 = slots s' ∧ Ent y.2.2.2 (mem s')) ∨
    (y.1 ≠ .normal ∧ ∃ o ∈ c.outs, y.1 = o.2.1 ∧ ∃ ns : List Let, ns.length = c.mem.m ∧ (∃ q : List Nat, o.2.2 ns = q.filterMap fun i => (ks.zip y.2.2.1)[i]?) ∧ Ent y.2.2.2 ((o.1.nw ns ++ o.1.nb ns).map ownOf) ∧ o.1.hyp ns))

/-- A LOOP, by its states; the contracts may hang on them; however much there is; all slots are letters. -/
theorem loop_ofB {σ : Type} {S : σ → Ctx} (hS : ∀ s, (S s).holds P) (hP : P.follows .mixedOrders = true) {n : Nat} {fn : FuncId} {body : Code} {c : LoopC} (hc : c.c = .loop body) (ks : List Nat) (slots : σ → List (Nat × Value)) (mem : σ → List Blk) (ok : σ → Prop) (μ : σ → Nat)
    (s0 : σ) (h0 : c.ok → ok s0) (hs0 : ∀ p ∈ slots s0, p ∈ c.sl) (hm0 : Ent (blks c.mem) (mem s0))
    {o : σ → O} {R : σ → (Nat → Value) → (Nat → Let) → Res (Exit × Nat × List Value × List Blk)} (h : ∀ s f, ok s → Ran (pieceT P (S s) n fn body c.n (slots s) ((List.range c.n).map f) (mem s) ks) (o s) (R s f))
    (hQ : c.ok → ∀ s f, ok s → ∀ ns, (R s f ns).holds (leafLB c ks slots mem ok μ s)) : MeetsL P c := by
  intro hok a W hk hpre
  rw [hc]
  have hrm : ∀ (xs : List Value) (n : Nat), xs.length = n → (List.range n).map (fun j => xs.getD j undef) = xs := fun xs n h => by
    apply List.ext_getElem?
    intro i
    rw [List.getElem?_map]
    by_cases hi : i < n
    · rw [List.getElem?_range hi, List.getElem?_eq_getElem (by omega)]
      simp [List.getD_eq_getElem?_getD, List.getElem?_eq_getElem (show i < xs.length by omega)]
    · rw [List.getElem?_eq_none (by simpa using Nat.le_of_not_lt hi), List.getElem?_eq_none (by omega)]
      rfl
  have key : ∀ m s a W', ok s → μ s < m → Known c.n (slots s) a → Rep W (keepOf c.mem) (mem s) W' →
      Code.rounds P body (fun x a' W' => ∃ o ∈ c.outs, x = o.2.1 ∧ calm x = true ∧ ∃ ns, Known c.n (o.2.2 ns) a' ∧ c.mem.post o.1 W W' ns) m a W' := by
    intro m
    induction m with
    | zero => intro s a W' _ hlt; omega
    | succ m ih =>
      intro s a W' hs hlt hK hR
      rw [rounds_succ]
      have hran := h s (fun j => a.tmps.toList.getD j undef) hs
      rw [hrm a.tmps.toList c.n (by rw [Array.length_toList]; exact hK.size)] at hran
      refine wp_of (hS s) hP hran hK hR fun ns => Res.holds_mono (fun y hy a' W2 hx hK' hR' => ?_) _ (hQ hok s (fun j => a.tmps.toList.getD j undef) hs ns)
      obtain ⟨hn, hy⟩ := hy
      rcases hy with ⟨hx1, s', hs', hμ, hz, hm⟩ | ⟨hx1, o, ho, he, ns', g1, ⟨q, g2⟩, g3, g5⟩
      · rw [hx1]
        rw [hn, hz] at hK'
        exact ih s' a' W2 hs' (by omega) hK' (hm _ _ _ hR')
      · have hfin : ∃ o ∈ c.outs, y.1 = o.2.1 ∧ calm y.1 = true ∧ ∃ ns, Known c.n (o.2.2 ns) a' ∧ c.mem.post o.1 W W2 ns := by
          refine ⟨o, ho, he, hx, ns', ?_, post_of_ent (g3 _ _ _ hR') g1 g5⟩
          rw [hn] at hK'
          refine Known.sub hK' fun p hp => ?_
          rw [g2] at hp
          obtain ⟨i, -, hi⟩ := List.mem_filterMap.1 hp
          exact List.mem_of_getElem? hi
        cases hy1 : y.1 with
        | normal => exact absurd hy1 hx1
        | _ => rw [hy1] at hfin; exact hfin
  exact wp_loop_rounds (μ s0 + 1) (key _ s0 a W (h0 hok) (by omega) (Known.sub hk hs0) (hm0 _ _ _ (rep_of_pre hpre)))

end Go.Proofs.Ytbgmkefehfjicaa.Sy
