/-
  Symbolic runs in which a call's own blocks are forgotten behind it, where nothing that it hands back leads to them.
-/
import Derived.Test.YtbgmkefehfjicaaSyI
namespace Go.Proofs.Ytbgmkefehfjicaa.Sy
open Go Go.RowKit

variable {α : Type}

/-- The blocks that a value names. -/
noncomputable def vnm (n : Nat) : Value → List Nat → List Nat := @Nat.rec (fun _ => Value → List Nat → List Nat) (fun _ acc => acc) (fun _ ih v acc => match v with
  | .pointer (some a) => a.block :: acc
  | .slice (some a) _ _ => a.block :: acc
  | .map (some r) => r :: acc
  | .chan (some r) => r :: acc
  | .agg c => c.toList.foldr ih acc
  | .tuple c => c.toList.foldr ih acc
  | .func _ f c => c.toList.foldr ih (f.toList.foldr ih acc)
  | .iface _ v => ih v acc
  | _ => acc) n

noncomputable def contNm (ct : Cont) (acc : List Nat) : List Nat := match ct with
  | .obj (.cells c _ _) => c.toList.foldr (vnm 6) acc
  | .obj (.map es _) => es.toList.foldr (fun e acc => vnm 6 e.key (vnm 6 e.val acc)) acc
  | .obj (.mapIter (some r) _ _ _) => r :: acc
  | .obj _ => acc
  | .row _ size _ _ xs => match xs with
    | .int _ _ :: _ => match Nat.beq size 1 with
      | true => acc
      | false => xs.foldr (vnm 6) acc
    | _ => xs.foldr (vnm 6) acc
  | .seg _ xs => xs.foldr (vnm 6) acc

noncomputable def memN (b : Nat) (l : List Nat) : Bool := @List.rec Nat (fun _ => Bool) false (fun x _ ih => match Nat.beq x b with
  | true => true
  | false => ih) l

noncomputable def findC (b : Nat) (L : List Blk) (acc : List Nat) : List Nat := @List.rec Blk (fun _ => List Nat) acc (fun p _ ih => match Nat.beq p.nm b with
  | true => contNm p.ct acc
  | false => ih) L

noncomputable def reachN (t : Nat) (L : List Blk) (n : Nat) : List Nat → List Nat → List Nat := @Nat.rec (fun _ => List Nat → List Nat → List Nat) (fun _ vis => vis) (fun _ ih work vis => match work with
  | [] => vis
  | b :: r => match Nat.ble t b with
    | false => ih r vis
    | true => match memN b vis with
      | true => ih r vis
      | false => ih (findC b L r) (b :: vis)) n

noncomputable def topN (L : List Blk) : Nat := @List.rec Blk (fun _ => Nat) 0 (fun p _ ih => match Nat.ble ih p.nm with
  | true => Nat.succ p.nm
  | false => ih) L

noncomputable def maskE (t : Nat) (vis : List Nat) (L : List Blk) : Nat := @List.rec Blk (fun _ => Nat) 1 (fun p _ m => match Nat.ble t p.nm with
  | false => match Nat.beq m 1 with
    | true => 1
    | false => Nat.add (Nat.mul 2 m) 1
  | true => match memN p.nm vis with
    | true => match Nat.beq m 1 with
      | true => 1
      | false => Nat.add (Nat.mul 2 m) 1
    | false => Nat.mul 2 m) L

/-- Which blocks stay. -/
noncomputable def maskOf (L : List Blk) (v : Value) (L' : List Blk) : Nat := match topN L with
  | t => maskE t (reachN t L' 100000 (vnm 6 v []) []) L'

noncomputable def maskK (L : List Blk) : Nat → (List Blk → T α) → T α := @List.rec Blk (fun _ => Nat → (List Blk → T α) → T α) (fun _ k => k []) (fun x r ih m k => match Nat.ble m 1 with
  | true => k (x :: r)
  | false => match Nat.beq (Nat.mod m 2) 1 with
    | true => ih (Nat.div m 2) fun l => k (x :: l)
    | false => ih (Nat.div m 2) k) L

theorem maskK_spec {K : α → Prop} : ∀ (L : List Blk) (m : Nat) (k : List Blk → T α), (maskK L m k).all K → ∃ L', List.Sublist L' L ∧ (k L').all K
  | [], m, k, h => ⟨[], List.Sublist.refl _, h⟩
  | x :: r, m, k, h => by
    change (match Nat.ble m 1 with
      | true => k (x :: r)
      | false => match Nat.beq (Nat.mod m 2) 1 with
        | true => maskK r (Nat.div m 2) fun l => k (x :: l)
        | false => maskK r (Nat.div m 2) k : T α).all K at h
    split at h
    · exact ⟨_, List.Sublist.refl _, h⟩
    · split at h
      · obtain ⟨L', h1, h2⟩ := maskK_spec r _ _ h
        exact ⟨_, h1.cons_cons x, h2⟩
      · obtain ⟨L', h1, h2⟩ := maskK_spec r _ _ h
        exact ⟨_, h1.cons x, h2⟩

/-- What a call leaves, shortened. -/
noncomputable def dropT (L : List Blk) (c : Value → List Blk → T α) (v : Value) (L' : List Blk) : T α := .or (.drop (maskOf L v L')) fun m => maskK L' m fun L2 => c v L2

theorem dropT_spec {K : α → Prop} {L : List Blk} {c : Value → List Blk → T α} {v : Value} {L' : List Blk} (h : (dropT L c v L').all K) : ∃ L2, List.Sublist L2 L' ∧ (c v L2).all K := by
  obtain ⟨m, h⟩ := h
  exact maskK_spec _ _ _ h

/-- The names that older blocks lead to. -/
noncomputable def oldNm (t : Nat) (L : List Blk) (acc : List Nat) : List Nat := @List.rec Blk (fun _ => List Nat) acc (fun p _ ih => match Nat.ble t p.nm with
  | true => ih
  | false => contNm p.ct ih) L

/-- Which blocks stay, where older blocks may lead to new ones. -/
noncomputable def maskO (L : List Blk) (v : Value) (L' : List Blk) : Nat := match topN L with
  | t => maskE t (reachN t L' 100000 (oldNm t L' (vnm 6 v [])) []) L'

noncomputable def dropO (L : List Blk) (c : Value → List Blk → T α) (v : Value) (L' : List Blk) : T α := .or (.drop (maskO L v L')) fun m => maskK L' m fun L2 => c v L2

theorem dropO_spec {K : α → Prop} {L : List Blk} {c : Value → List Blk → T α} {v : Value} {L' : List Blk} (h : (dropO L c v L').all K) : ∃ L2, List.Sublist L2 L' ∧ (c v L2).all K := by
  obtain ⟨m, h⟩ := h
  exact maskK_spec _ _ _ h

/-- A contract of a function that reads the block of its argument i. -/
structure MC where
  f : FuncId
  i : Nat
  k : Array Value → Cont → CallC

noncomputable def findM (f : FuncId) (l : List MC) : Option MC := @List.rec MC (fun _ => Option MC) none (fun x _ ih => match Nat.beq x.f f with
  | true => some x
  | false => ih) l

theorem findM_spec {f : FuncId} {x : MC} : ∀ {l : List MC}, findM f l = some x → x ∈ l ∧ x.f = f
  | [], h => by cases h
  | y :: l, h => by
    change (match Nat.beq y.f f with
      | true => some y
      | false => findM f l) = some x at h
    split at h
    · rename_i hb
      injection h with h
      subst h
      exact ⟨List.mem_cons_self, Nat.eq_of_beq_eq_true hb⟩
    · obtain ⟨h1, h2⟩ := findM_spec h
      exact ⟨List.mem_cons_of_mem _ h1, h2⟩

/-- What a closed run knows beside its context: contracts that read; which functions' blocks are forgotten (st: where older blocks may lead to them). -/
structure How where
  dr : FuncId → Bool
  st : FuncId → Bool
  mc : List MC

structure How.holds (P : Program) (H : How) : Prop where
  mc : ∀ x ∈ H.mc, ∀ a ct, Meets P (x.k a ct)

def How.none : How := ⟨fun _ => false, fun _ => false, []⟩
theorem How.none_holds {P : Program} : How.none.holds P := ⟨fun _ h => by cases h⟩

section
variable (P : Program) (S : Ctx) (dr : How)

/-- The block of an argument, or of the first that it holds. -/
noncomputable def argM (a : Array Value) (i : Nat) : Nat := match nth a.toList i with
  | some (.slice (some ⟨b, _, _⟩) _ _) => b
  | some (.pointer (some ⟨b, _, _⟩)) => b
  | some (.agg c) => match c.toList with
    | .slice (some ⟨b, _, _⟩) _ _ :: _ => b
    | _ => 0
  | _ => 0

noncomputable def mcT (x : MC) (f : FuncId) (args : Array Value) (L : List Blk) (c : Value → List Blk → T α) : T α := pickT L (argM args x.i) fun p _ => match x.k args p.ct with
  | k => match Nat.decEq k.f f with
    | .isTrue _ => metBy k args L c
    | .isFalse _ => .fail

noncomputable def plainJ (ih : CallE α) (n : Nat) : CallE α := fun f args L c => match dr.dr f with
  | true => (fnC P S f).run ih n args L (dropT L c)
  | false => match dr.st f with
    | true => (fnC P S f).run ih n args L (dropO L c)
    | false => (fnC P S f).run ih n args L c

noncomputable def callJ (n : Nat) : CallE α := @Nat.rec (fun _ => CallE α) (fun _ _ _ _ => .fail) (fun n ih f args L c => match findM f dr.mc with
  | some x => altT (mcT x f args L c) (plainJ P S dr ih n f args L c)
  | none => plainJ P S dr ih n f args L c) n

noncomputable def inJ (n : Nat) (f : FuncId) (args : Array Value) (L : List Blk) (kf : Blk → Bool) : T (Value × List Blk) := (fnB P S f).run (callJ P S dr n) n args L fun v L' => .ret (v, L'.filter kf)

/-- A call that hands back v, whatever is drawn; what it reads: L. -/
noncomputable def shutJ (n : Nat) (f : FuncId) (args : Array Value) (L : List Blk) (v : Value) : T Unit := (fnB P S f).run (callJ P S dr n) n args L fun v' _ => .same (.val v') (.val v) (.ret ())
end

section sound
variable {P : Program} {S : Ctx} {dr : How} {w0 : World} {keep : Nat → Prop} {K : α → Prop}

theorem fnC_sound (hS : S.holds P) (hP : P.follows .mixedOrders = true) {call : CallE α} (hs : ∀ w0 keep, SoundC P w0 keep K call) (n : Nat) {f : FuncId} {args : Array Value} {L : List Blk} {c : Value → List Blk → T α} (h : ((fnC P S f).run call n args L c).all K) (W : World) (hr : Rep w0 keep L W) :
    Calls P f args W fun en W' => ∃ v L', en = .returned v ∧ Rep w0 keep L' W' ∧ (c v L').all K := by
  unfold fnC at h
  split at h
  · rename_i k ks hcl
    obtain ⟨j, h⟩ := h
    dsimp only at h
    split at h
    · rename_i k' hj
      rw [nth_eq] at hj
      split at h
      · rename_i hcf _
        have := metBy_sound (hS.cl f k' (by rw [hcl]; exact List.mem_of_getElem? hj) args L) h hr
        rw [hcf] at this
        exact this
      · exact h.elim
    · exact fnB_sound hS hP hs n h W hr
  · exact fnB_sound hS hP hs n h W hr

theorem mcT_sound (hd : dr.holds P) {x : MC} (hx : x ∈ dr.mc) {f : FuncId} {args : Array Value} {L : List Blk} {c : Value → List Blk → T α} (h : (mcT x f args L c).all K) (W : World) (hr : Rep w0 keep L W) :
    Calls P f args W fun en W' => ∃ v L', en = .returned v ∧ Rep w0 keep L' W' ∧ (c v L').all K := by
  obtain ⟨p, j, hj, hb, h⟩ := pickT_spec h
  dsimp only at h
  split at h
  · rename_i hcf _
    have := metBy_sound (hd.mc x hx args p.ct) h hr
    rw [hcf] at this
    exact this
  · exact h.elim

theorem callJ_sound (hS : S.holds P) (hd : dr.holds P) (hP : P.follows .mixedOrders = true) : ∀ (n : Nat) (w0 : World) (keep : Nat → Prop), SoundC P w0 keep K (callJ P S dr n)
  | 0, w0, keep => fun f args L c h => h.elim
  | n + 1, w0, keep => fun f args L c h W hr => by
    have ih : ∀ w0 keep, SoundC P w0 keep K (callJ P S dr n) := callJ_sound hS hd hP n
    have plain : (plainJ P S dr (callJ P S dr n) n f args L c).all K → Calls P f args W fun en W' => ∃ v L', en = .returned v ∧ Rep w0 keep L' W' ∧ (c v L').all K := fun h => by
      unfold plainJ at h
      split at h
      · refine (fnC_sound hS hP ih n h W hr).mono ?_
        rintro en W' ⟨v, L', rfl, hr', h⟩
        obtain ⟨L2, h1, h2⟩ := dropT_spec h
        exact ⟨v, L2, rfl, hr'.sub h1, h2⟩
      split at h
      · refine (fnC_sound hS hP ih n h W hr).mono ?_
        rintro en W' ⟨v, L', rfl, hr', h⟩
        obtain ⟨L2, h1, h2⟩ := dropO_spec h
        exact ⟨v, L2, rfl, hr'.sub h1, h2⟩
      · exact fnC_sound hS hP ih n h W hr
    change (match findM f dr.mc with
      | some x => altT (mcT x f args L c) (plainJ P S dr (callJ P S dr n) n f args L c)
      | none => plainJ P S dr (callJ P S dr n) n f args L c : T α).all K at h
    split at h
    · rename_i x hx
      rcases altT_spec h with h | h
      · exact mcT_sound hd (findM_spec hx).1 h W hr
      · exact plain h
    · exact plain h

theorem calls_ofJ (hS : S.holds P) (hd : dr.holds P) (hP : P.follows .mixedOrders = true) {n : Nat} {f : FuncId} {args : Array Value} {L0 : List Blk} {o : O} {R : (Nat → Let) → Res (Value × List Blk)} {kf : Blk → Bool} (h : Ran (inJ P S dr n f args L0 kf) o R)
    {w0 W : World} {keep : Nat → Prop} (hr : Rep w0 keep L0 W) {Q : Ending → World → Prop} (hQ : ∀ ns, (R ns).holds fun y => ∀ W', Rep w0 keep y.2 W' → Q (.returned y.1) W') : Calls P f args W Q := by
  have hall := h.all hQ
  refine (fnB_sound hS hP (callJ_sound hS hd hP n) n hall W hr).mono ?_
  rintro en W' ⟨v', L', rfl, hr', hk⟩
  exact hk W' (hr'.sub List.filter_sublist)

theorem meets_ofJ (hS : S.holds P) (hd : dr.holds P) (hP : P.follows .mixedOrders = true) {n : Nat} {c : CallC} {o : O} {R : (Nat → Let) → Res (Value × List Blk)} {kf : Blk → Bool} (h : Ran (inJ P S dr n c.f c.args (blks c.mem) kf) o R)
    (hQ : c.ok → ∀ ns, (R ns).holds (leafC c)) : Meets P c := by
  intro hok W hpre
  refine calls_ofJ hS hd hP h (rep_of_pre hpre) fun ns => Res.holds_mono (fun y hy W' hr => ?_) _ (hQ hok ns)
  obtain ⟨o, ho, ns, h1, h2, ⟨pk, h3, h4⟩, h5⟩ := hy
  exact ⟨o, ho, ns, by rw [h2], post_of_rep hr h1 h5 pk h3 h4⟩

/-- A contract of a call that reads some blocks and hands back a value that is closed. -/
def shutC' (f : FuncId) (args : Array Value) (rd : List (Nat × Cont)) (ok : Prop) (v : Value) : CallC := ⟨f, args, ok, ⟨rd, [], 0, []⟩, [plainO v]⟩

/-- The needs that a closed run leaves: ps. -/
theorem meets_shutJ (hS : S.holds P) (hd : dr.holds P) (hP : P.follows .mixedOrders = true) {n : Nat} {f : FuncId} {args : Array Value} {rd : List (Nat × Cont)} {ok : Prop} {v : Value} {o : O} (ps : List Prop) (hps : ok → ∀ p ∈ ps, p)
    (h : ∀ ns, ((shutJ P S dr n f args (blks ⟨rd, [], 0, []⟩) v).run o ns).map (fun x => (x.res.asks, x.l)) = ((shutJ P S dr n f args (blks ⟨rd, [], 0, []⟩) v).run o ns).map (fun x => (some ps, x.r))) (h0 : ∀ ns, ((shutJ P S dr n f args (blks ⟨rd, [], 0, []⟩) v).run o ns).isSome = true) :
    Meets P (shutC' f args rd ok v) := by
  intro hok W hpre
  have hall : (shutJ P S dr n f args (blks ⟨rd, [], 0, []⟩) v).all fun _ => True := by
    refine all_of_run _ o fun ns => ?_
    have h := h ns
    have h0 := h0 ns
    cases hx : (shutJ P S dr n f args (blks ⟨rd, [], 0, []⟩) v).run o ns with
    | none => rw [hx] at h0; cases h0
    | some x =>
      rw [hx] at h
      simp only [Option.map_some, Option.some.injEq, Prod.mk.injEq] at h
      exact ⟨x, rfl, h.2, Res.asks_holds h.1 (hps hok)⟩
  refine (fnB_sound hS hP (callJ_sound hS hd hP n) n hall W (rep_of_pre hpre)).mono ?_
  rintro en W' ⟨v', L', rfl, hr', hk⟩
  have hv : v' = v := tok_val hk.1
  subst hv
  refine ⟨_, List.mem_singleton_self _, [], rfl, ?_⟩
  exact post_of_rep hr' rfl trivial [] List.nodup_nil trivial

/-- The same, where nothing is asked but what is plain. -/
theorem meets_shutJ' (hS : S.holds P) (hd : dr.holds P) (hP : P.follows .mixedOrders = true) {n : Nat} {f : FuncId} {args : Array Value} {rd : List (Nat × Cont)} {v : Value} {o : O}
    (h : ∀ ns, ((shutJ P S dr n f args (blks ⟨rd, [], 0, []⟩) v).run o ns).map (fun x => (x.res.asks, x.l)) = ((shutJ P S dr n f args (blks ⟨rd, [], 0, []⟩) v).run o ns).map (fun x => (x.res.asks.map fun l => l.map fun _ => True, x.r))) (h0 : ∀ ns, ((shutJ P S dr n f args (blks ⟨rd, [], 0, []⟩) v).run o ns).map (fun x => x.res.asks.isSome) = some true) :
    Meets P (shutC' f args rd True v) := by
  intro hok W hpre
  have hall : (shutJ P S dr n f args (blks ⟨rd, [], 0, []⟩) v).all fun _ => True := by
    refine all_of_run _ o fun ns => ?_
    have h := h ns
    have h0 := h0 ns
    cases hx : (shutJ P S dr n f args (blks ⟨rd, [], 0, []⟩) v).run o ns with
    | none => rw [hx] at h0; cases h0
    | some x =>
      rw [hx] at h h0
      simp only [Option.map_some, Option.some.injEq, Prod.mk.injEq] at h h0
      cases ha : x.res.asks with
      | none => rw [ha] at h0; cases h0
      | some l =>
        rw [ha] at h
        refine ⟨x, rfl, h.2, Res.asks_holds ha fun p hp => ?_⟩
        have h1 := h.1
        simp only [Option.map_some, Option.some.injEq] at h1
        rw [h1] at hp
        obtain ⟨q, -, rfl⟩ := List.mem_map.1 hp
        trivial
  refine (fnB_sound hS hP (callJ_sound hS hd hP n) n hall W (rep_of_pre hpre)).mono ?_
  rintro en W' ⟨v', L', rfl, hr', hk⟩
  have hv : v' = v := tok_val hk.1
  subst hv
  refine ⟨_, List.mem_singleton_self _, [], rfl, ?_⟩
  exact post_of_rep hr' rfl trivial [] List.nodup_nil trivial
end sound

end Go.Proofs.Ytbgmkefehfjicaa.Sy
