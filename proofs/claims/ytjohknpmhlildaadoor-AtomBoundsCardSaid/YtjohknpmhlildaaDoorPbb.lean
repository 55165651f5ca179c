/-
  Symbolic runs: they tell what comes; Symbolic runs: how they are used;
-/
import Derived.Test.YtjohknpmhlildaaDoorPba
import Derived.Test.YtjohknpmhlildaaDoorProg
import Derived.KernelRfl
import Derived.Lib.TrailingZeros
import Derived.Shelf.Spec.TrailingZeros
import Derived.Laws.Externs
import Derived.Conc.AtomicLaws2

noncomputable section
set_option linter.unusedVariables false
set_option linter.unusedSimpArgs false
namespace Go.Proofs.YtjohknpmhlildaaDoor.Sy
open Go Go.RowKit
open Ev (one cell_of frozen_of calm)
variable {P : Program} {S : Ctx}
variable {w0 : World} {keep : Nat → Prop} {α : Type} {K : α → Prop}
def Post (w0 : World) (keep : Nat → Prop) (K : α → Prop) (c : Exit → F → List Blk → T α) : Exit → Act → World → Prop :=
 fun x a W => calm x = true ∧ ∃ g L, (c x g L).all K ∧ RelF g a ∧ Rep w0 keep L W
def SoundC (P : Program) (w0 : World) (keep : Nat → Prop) (K : α → Prop) (call : CallE α) : Prop := ∀ f args L c, (call f args L c).all K → ∀ W, Rep w0 keep L W → Calls P f args W fun en W' => ∃ v L', en = .returned v ∧ Rep w0 keep L' W' ∧ (c v L').all K
def SoundE (P : Program) (w0 : World) (keep : Nat → Prop) (K : α → Prop) (x : Code) (f : PieceE α) : Prop := ∀ g L c, (f g L c).all K → ∀ a W, RelF g a → Rep w0 keep L W → x.wp P (Post w0 keep K c) a W
theorem askN_all : ∀ (n : Nat) (k : List Let → T α), (askN n k).all K → ∀ ns : List Let, ns.length = n → (k ns).all K
 | 0, k, h, ns, hn => by
   obtain rfl := List.eq_nil_of_length_eq_zero hn
   exact h
 | n + 1, k, h, [], hn => by cases hn
 | n + 1, k, h, x :: r, hn => askN_all n _ (h x) r (by simpa using hn)
theorem eraseIdx_perm {α : Type} : ∀ (l : List α) (j : Nat) (a : α), l[j]? = some a → l.Perm (a :: l.eraseIdx j)
 | [], j, a, h => by cases h
 | x :: l, 0, a, h => by
   simp only [List.getElem?_cons_zero, Option.some.injEq] at h
   subst h
   exact List.Perm.refl _
 | x :: l, j + 1, a, h => by
   have := eraseIdx_perm l j a (by simpa using h)
   exact (this.cons x).trans (List.Perm.swap a x _)
theorem takeAll_sound {W : World} (ow : Bool) : ∀ (l : List (Nat × Cont)) (L : List Blk) (k : List Blk → List Blk → T α), (takeAll ow l L k).all K → There L W →
  ∃ L' U, (k L' U).all K ∧ (∀ p ∈ l, p.2.sat W.heap[p.1]?) ∧ U.map (·.nm) = l.map (·.1) ∧ (∀ b ∈ U, ow = true → b.own = true) ∧ L.Perm (U ++ L')
 | [], L, k, h, _ => ⟨L, [], h, fun _ hp => (by cases hp), rfl, fun _ hp => (by cases hp), List.Perm.refl _⟩
 | p :: r, L, k, h, ht => by
   simp only [takeAll] at h
   obtain ⟨b, j, hj, h1, h⟩ := pickT_spec h
   split at h
   ·rename_i how
    obtain ⟨h2, h⟩ := h
    have h := forceT_spec h
    have hsub : List.Sublist (L.eraseIdx j) L := List.eraseIdx_sublist _ _
    obtain ⟨L2, U, h3, h4, h6, h7, h8⟩ := takeAll_sound ow r (L.eraseIdx j) _ h (fun q hq => ht q (hsub.subset hq))
    refine ⟨L2, b :: U, h3, fun q hq => ?_, by simp [h6, h1], fun q hq how2 => ?_, ?_⟩
    ·rcases List.mem_cons.1 hq with rfl | hq
     ·rw [h1, tok_cont h2]
      have h0 := ht _ (List.mem_of_getElem? hj)
      cases ow with
      | true => exact Cont.sat_useView h0
      | false => exact Cont.sat_view h0
     ·exact h4 q hq
    ·rcases List.mem_cons.1 hq with rfl | hq
     ·rw [how2] at how; simpa using how
     ·exact h7 q hq how2
    ·exact (eraseIdx_perm L j b hj).trans (h8.cons b)
   ·exact h.elim
theorem rbT_spec {l : List (Nat × Cont)} {L : List Blk} {k : T α} (h : (rbT l L k).all K) : GotL L l ∧ k.all K := by
 unfold rbT at h
 rcases two_spec h with h | h
 ·split at h
  ·exact ⟨fun _ hp => (by cases hp), h⟩
  ·exact h.elim
 ·obtain ⟨d, h1, h⟩ := h
  exact ⟨fun p hp => by
   obtain ⟨q, hq, h2⟩ := h1 p hp
   exact ⟨q, List.mem_of_mem_drop hq, h2⟩, h⟩
theorem Rep.perm {L L' : List Blk} {W : World} (hp : L.Perm L') (h : Rep w0 keep L W) : Rep w0 keep L' W :=
 ⟨h.os, h.tape, h.output, h.size, h.old, fun p hm => h.blk p (hp.mem_iff.2 hm), (hp.pairwise_iff (fun h => Far.symm h)).1 h.far⟩
theorem mem_core {c : MemC} {L U rest : List Blk} {W : World} (hr : Rep w0 keep L W) (hperm : L.Perm (U ++ rest)) (hU : U.map (·.nm) = c.use.map (·.1)) (hUo : ∀ b ∈ U, b.own = true) (huse : ∀ p ∈ c.use, p.2.sat W.heap[p.1]?)
  (hrd : ∀ p ∈ c.rd, p.2.sat W.heap[p.1]? ∧ ∃ b ∈ rest, b.nm = p.1) (hgot : GotL rest c.rb) :
  c.pre W ∧ ∀ o : OutM, ∀ ns W', c.post o W W' ns → Rep w0 keep ((o.nw ns).map ownOf ++ (rest ++ (o.nb ns).map ownOf)) W' := by
 have hfar : (U ++ rest).Pairwise Far := (hperm.pairwise_iff (fun h => Far.symm h)).1 hr.far
 have hmem : ∀ q ∈ rest, q ∈ L := fun q hq => hperm.mem_iff.2 (Sy.mR _ hq)
 have hUe : ∀ b ∈ U, b ∈ L ∧ b.own = true := fun b hb => ⟨hperm.mem_iff.2 (Sy.mL _ hb), hUo b hb⟩
 rw [List.pairwise_append] at hfar
 obtain ⟨hfU, hfR, hfUR⟩ := hfar
 have hndU : (U.map (·.nm)).Nodup := by
  rw [List.nodup_iff_pairwise_ne, List.pairwise_map]
  exact hfU.imp_of_mem fun ha _ hab => hab (by rw [(hUe _ ha).2]; rfl)
 have hap : ∀ p ∈ c.rd, ∀ q ∈ c.use, p.1 ≠ q.1 := fun p hp q hq he => by
  obtain ⟨b1, hb1, e1⟩ := (hrd p hp).2
  have h2 : q.1 ∈ U.map (·.nm) := by rw [hU]; exact List.mem_map.2 ⟨q, hq, rfl⟩
  obtain ⟨b2, hb2, e2⟩ := List.mem_map.1 h2
  exact hfUR b2 hb2 b1 hb1 (by rw [(hUe _ hb2).2]; rfl) (by rw [e2, e1, he])
 have hrb : ∀ p ∈ c.rb, p.2.sat W.heap[p.1]? := fun p hp => by
  obtain ⟨q, hq, h1, h2⟩ := hgot p hp
  rw [← h1]
  exact h2 _ (hr.blk q (hmem q hq)).1
 have hapB : ∀ p ∈ c.rb, ∀ q ∈ c.use, p.1 ≠ q.1 := fun p hp q hq he => by
  obtain ⟨x, hx, h1, -⟩ := hgot p hp
  have h2 : q.1 ∈ U.map (·.nm) := by rw [hU]; exact List.mem_map.2 ⟨q, hq, rfl⟩
  obtain ⟨b2, hb2, e2⟩ := List.mem_map.1 h2
  exact hfUR b2 hb2 x hx (by rw [(hUe _ hb2).2]; rfl) (by rw [e2, h1, he])
 refine ⟨⟨fun p hp => (hrd p hp).1, huse, by rw [← hU]; exact hndU, hap, hrb, hapB⟩, ?_⟩
 rintro o ns W' ⟨hns, hhyp, o1, o2, o3, hsz, hkeep, hnw0, hnwd0, hnb, hnbd, hnab⟩
 obtain ⟨new, hnew⟩ : ∃ new, new = o.nw ns ++ o.nb ns := ⟨_, rfl⟩
 have hnw : ∀ p ∈ new, (W.heap.size ≤ p.1 ∨ ∃ q ∈ c.use, q.1 = p.1) ∧ p.2.sat W'.heap[p.1]? := fun p hp => by
  rw [hnew] at hp
  exact (List.mem_append.1 hp).elim (hnw0 p) (hnb p)
 have hnwd : (new.map (·.1)).Nodup := by
  rw [hnew, List.map_append, List.nodup_append]
  refine ⟨hnwd0, hnbd, fun a ha b hb => ?_⟩
  obtain ⟨x, hx, rfl⟩ := List.mem_map.1 ha
  obtain ⟨y, hy, rfl⟩ := List.mem_map.1 hb
  exact hnab x hx y hy
 have hp3 : (new.map ownOf ++ rest).Perm ((o.nw ns).map ownOf ++ (rest ++ (o.nb ns).map ownOf)) := by
  rw [hnew, List.map_append, List.append_assoc]
  exact List.Perm.append_left _ List.perm_append_comm
 have hnuse : ∀ p ∈ c.use, ∃ b ∈ U, b.nm = p.1 := fun p hp => by
  have : p.1 ∈ U.map (·.nm) := by rw [hU]; exact List.mem_map.2 ⟨p, hp, rfl⟩
  obtain ⟨b, hb, he⟩ := List.mem_map.1 this
  exact ⟨b, hb, he⟩
 have hrest : ∀ q ∈ rest, ∀ p ∈ c.use, p.1 ≠ q.nm := fun q hq p hp he => by
  obtain ⟨b, hb, hbe⟩ := hnuse p hp
  exact hfUR b hb q hq (by rw [(hUe _ hb).2]; rfl) (by rw [hbe, he])
 have hnk : ∀ p ∈ c.use, p.1 < w0.heap.size → ¬ keep p.1 := fun p hp hlt => by
  obtain ⟨b, hb, hbe⟩ := hnuse p hp
  rw [← hbe] at hlt ⊢
  exact (hr.blk b (hUe b hb).1).2 (hUe b hb).2 hlt
 refine Rep.perm hp3 ⟨o1.trans hr.os, o2.trans hr.tape, o3.trans hr.output, Nat.le_trans hr.size hsz, fun k hk hkp => ?_, fun p hp => ?_, ?_⟩
 ·rw [hkeep k (Nat.lt_of_lt_of_le hk hr.size) (fun p hp he => by subst he; exact hnk p hp hk hkp)]
  exact hr.old k hk hkp
 ·simp only [List.mem_append, List.mem_map] at hp
  rcases hp with ⟨q, hq, rfl⟩ | hp
  ·refine ⟨(hnw q hq).2, fun _ hlt => ?_⟩
   have hlt' : q.1 < w0.heap.size := hlt
   show ¬ keep q.1
   rcases (hnw q hq).1 with h1 | ⟨p, hp, he⟩
   ·have := hr.size
    omega
   ·rw [← he] at hlt' ⊢
    exact hnk p hp hlt'
  ·have hpe := hmem p hp
   obtain ⟨h1, h2⟩ := hr.blk p hpe
   exact ⟨by rw [hkeep p.nm (hr.lt hpe) (hrest p hp)]; exact h1, h2⟩
 ·have hlt : ∀ b ∈ L, b.nm < W.heap.size := fun b hb => hr.lt hb
  rw [List.pairwise_append]
  refine ⟨?_, hfR, fun a ha b hb _ he => ?_⟩
  ·rw [List.pairwise_map]
   rw [List.nodup_iff_pairwise_ne, List.pairwise_map] at hnwd
   exact hnwd.imp (S := fun a b => Far (ownOf a) (ownOf b)) fun h _ => h
  ·obtain ⟨q, hq, rfl⟩ := List.mem_map.1 ha
   have he' : q.1 = b.nm := he
   rcases (hnw q hq).1 with h1 | ⟨p, hp, hpe⟩
   ·have h2 := hlt b (hmem b hb)
    omega
   ·exact hrest b hb p hp (hpe.trans he')
theorem memBy_sound {β : Type} {c : MemC} {L : List Blk} {outs : List (OutM × β)} {k : β → List Let → List Blk → T α} (h : (memBy c L outs k).all K) {W : World} (hr : Rep w0 keep L W) :
  c.pre W ∧ ∀ o ∈ outs, ∀ ns W', c.post o.1 W W' ns → ∃ L', Rep w0 keep L' W' ∧ (k o.2 ns L').all K := by
 obtain ⟨L1, U1, h, hrd, hU1, -, hp1⟩ := takeAll_sound (W := W) _ _ _ _ h (fun p hp => (hr.blk p hp).1)
 obtain ⟨L2, U, h, huse, hU, hUo, hp2⟩ := takeAll_sound (W := W) _ _ _ _ h (fun p hp => (hr.blk p (hp1.mem_iff.2 (Sy.mR _ hp))).1)
 have hperm : L.Perm (U ++ (U1 ++ L2)) := by
  refine hp1.trans ((hp2.append_left U1).trans ?_)
  rw [← List.append_assoc, ← List.append_assoc]
  exact List.perm_append_comm.append_right _
 obtain ⟨hgot, h⟩ := rbT_spec h
 obtain ⟨hpre, hpost⟩ := mem_core hr hperm hU (fun b hb => hUo b hb rfl) huse (fun p hp => ⟨hrd p hp, by
  have h1 : p.1 ∈ U1.map (·.nm) := by rw [hU1]; exact List.mem_map.2 ⟨p, hp, rfl⟩
  obtain ⟨b1, hb1, e1⟩ := List.mem_map.1 h1
  exact ⟨b1, Sy.mL _ hb1, e1⟩⟩) hgot
 refine ⟨hpre, fun o ho ns W' hp => ⟨_, hpost o.1 ns W' hp, ?_⟩⟩
 rcases two_spec (askN_all _ _ (outsT_all h o ho) ns hp.len hp.hyp) with hK | hK
 ·split at hK
  ·rename_i hb
   have hK := forceT_spec hK
   rw [hb, List.map_nil, List.append_nil]
   exact hK
  ·exact hK.elim
 ·exact forceT_spec hK
theorem memU_sound {β : Type} {rd : List (Nat × Cont)} {m : Nat} {rb u1 ub : List (Nat × Cont)} {rest L : List Blk} {outs : List (OutM × β)} {k : β → List Let → List Blk → T α} (h : (memU rd m rb u1 ub rest L outs k).all K) {W : World} (hr : Rep w0 keep L W) :
  (⟨rd, u1 ++ ub, m, rb⟩ : MemC).pre W ∧ ∀ o ∈ outs, ∀ ns W', (⟨rd, u1 ++ ub, m, rb⟩ : MemC).post o.1 W W' ns → ∃ L', Rep w0 keep L' W' ∧ (k o.2 ns L').all K := by
 obtain ⟨L1, U1, h, hrd, hU1, -, hp1⟩ := takeAll_sound (W := W) _ _ _ _ h (fun p hp => (hr.blk p hp).1)
 obtain ⟨L2, U, h, huse, hU, hUo, hp2⟩ := takeAll_sound (W := W) _ _ _ _ h (fun p hp => (hr.blk p (hp1.mem_iff.2 (Sy.mR _ hp))).1)
 obtain ⟨d, hd, h⟩ := h
 obtain ⟨hgot, h⟩ := rbT_spec h
 have hL2 : L2.Perm (ub.map ownOf ++ (L2.take d ++ rest)) := by
  have h1 : L2.Perm (L2.take d ++ (ub.map ownOf ++ rest)) := by
   conv => lhs; rw [← List.take_append_drop d L2]
   exact hd.append_left _
  refine h1.trans ?_
  rw [← List.append_assoc, ← List.append_assoc]
  exact List.perm_append_comm.append_right _
 have hperm : L.Perm ((U ++ ub.map ownOf) ++ (U1 ++ (L2.take d ++ rest))) := by
  refine hp1.trans ((hp2.append_left U1).trans ?_)
  refine ((hL2.append_left U).append_left U1).trans ?_
  rw [← List.append_assoc U, ← List.append_assoc U1, ← List.append_assoc (U ++ ub.map ownOf)]
  exact List.perm_append_comm.append_right _
 obtain ⟨hpre, hpost⟩ := mem_core (c := ⟨rd, u1 ++ ub, m, rb⟩) hr hperm (by rw [List.map_append, List.map_append, hU, List.map_map]; rfl) (fun b hb => by
   rcases List.mem_append.1 hb with hb | hb
   ·exact hUo b hb rfl
   ·obtain ⟨q, -, rfl⟩ := List.mem_map.1 hb
    rfl) (fun p hp => by
   rcases List.mem_append.1 hp with hp | hp
   ·exact huse p hp
   ·exact (hr.blk (ownOf p) (hperm.mem_iff.2 (Sy.mL _ (Sy.mR _ (List.mem_map.2 ⟨p, hp, rfl⟩))))).1) (fun p hp => ⟨hrd p hp, by
  have h1 : p.1 ∈ U1.map (·.nm) := by rw [hU1]; exact List.mem_map.2 ⟨p, hp, rfl⟩
  obtain ⟨b1, hb1, e1⟩ := List.mem_map.1 h1
  exact ⟨b1, Sy.mL _ hb1, e1⟩⟩) hgot
 refine ⟨hpre, fun o ho ns W' hp => ⟨_, hpost o.1 ns W' hp, ?_⟩⟩
 exact forceT_spec (askN_all _ _ (outsT_all h o ho) ns hp.len hp.hyp)
theorem opaV_spec {a : F} {o : Oper} {k : Value → T α} (h : (opaV P a o k).all K) : ∃ v, (∀ W, (execOp a.eval o).run P W = .ok (.value v) W) ∧ (k v).all K := by
 unfold opaV at h
 split at h
 ·rename_i t x y ho
  split at h
  ·rename_i el hu
   split at h
   ·rename_i inf hi
    split at h
    ·rename_i kk i hy
     obtain ⟨⟨⟨n, c, hx⟩, h1, h2⟩, h⟩ := h
     refine ⟨_, fun W => ?_, h⟩
     have hl : lenS (a.eval x) = n := by rw [hx]; rfl
     rw [hl] at h2
     have hs : symQ P a.eval o = some (Ex.leQ 0 i && Ex.ltQ i (n : Int), 0 ≤ i ∧ i < (n : Int), .pointer (some ⟨ptrS (a.eval x), offS (a.eval x) + i.toNat * inf.size, none⟩)) := by
      unfold symQ
      rw [ho]
      simp only [hy]
      rw [hx]
      simp only [hu, hi]
      rfl
     exact symQ_run hs (.inr ⟨h1, h2⟩) W
    ·exact h.elim
   ·exact h.elim
  ·exact h.elim
 ·rename_i c ho
  split at h
  ·rename_i hc
   split at h
   ·rename_i x t ha ht
    split at h
    ·rename_i el hu
     obtain ⟨⟨p, n, cc, hx⟩, h⟩ := h
     refine ⟨_, fun W => ?_, h⟩
     have hl : lenOf P a.eval o = some (.int .i64 (Int.ofNat (lenS (a.eval x)))) := by
      unfold lenOf
      simp only [ho, hc, ha, ht]
      rw [hx]
      simp only [hu]
      rfl
     exact lenOf_run hl W
    ·exact h.elim
   ·exact h.elim
  ·exact h.elim
 ·exact h.elim
theorem evOp_sound (hS : S.holds P) {fn : FuncId} {call : CallE α} (hs : SoundC P w0 keep K call) {o : Oper} {a : F} {L : List Blk} {c : F → List Blk → T α} (h : (evOp P S fn call o a L c).all K)
  {b : Act} {W : World} (hf : RelF a b) (hr : Rep w0 keep L W) : ∃ x W1, (execOp b.eval o).run P W = .ok x W1 ∧
   ((∃ v L', x = .value v ∧ (c (a.put o.dst v) L').all K ∧ Rep w0 keep L' W1) ∨ (∃ L', x = .skip ∧ (c (a.put o.dst undef) L').all K ∧ Rep w0 keep L' W1) ∨
     ∃ f args, x = .enter f args ∧ Calls P f args W1 fun en W2 => ∃ v L', en = .returned v ∧ Rep w0 keep L' W2 ∧ (c (a.put o.dst v) L').all K) := by
 have byC : ∀ k : OpC, OpMeets P (execOp a.eval o) k → (opBy k o a L c).all K → ∃ x W1, (execOp b.eval o).run P W = .ok x W1 ∧
   ((∃ v L', x = .value v ∧ (c (a.put o.dst v) L').all K ∧ Rep w0 keep L' W1) ∨ (∃ L', x = .skip ∧ (c (a.put o.dst undef) L').all K ∧ Rep w0 keep L' W1) ∨
     ∃ f args, x = .enter f args ∧ Calls P f args W1 fun en W2 => ∃ v L', en = .returned v ∧ Rep w0 keep L' W2 ∧ (c (a.put o.dst v) L').all K) := fun k hm h => by
  rw [hf.eval] at hm
  obtain ⟨hpre, h⟩ := memBy_sound h hr
  obtain ⟨o1, ho1, ns, W1, hrun, hpost⟩ := hm W hpre
  obtain ⟨L1, hr1, h⟩ := h o1 ho1 ns W1 hpost
  refine ⟨_, _, hrun, ?_⟩
  cases hv : o1.2 ns with
  | some v =>
    rw [hv] at h
    exact .inl ⟨v, L1, rfl, h, hr1⟩
  | none =>
    rw [hv] at h
    exact .inr (.inl ⟨L1, rfl, h, hr1⟩)
 have gen : (genOp P call o a L c).all K → ∃ x W1, (execOp b.eval o).run P W = .ok x W1 ∧
   ((∃ v L', x = .value v ∧ (c (a.put o.dst v) L').all K ∧ Rep w0 keep L' W1) ∨ (∃ L', x = .skip ∧ (c (a.put o.dst undef) L').all K ∧ Rep w0 keep L' W1) ∨
     ∃ f args, x = .enter f args ∧ Calls P f args W1 fun en W2 => ∃ v L', en = .returned v ∧ Rep w0 keep L' W2 ∧ (c (a.put o.dst v) L').all K) := fun h => by
  unfold genOp at h
  rw [hf.eval] at h
  obtain ⟨x, L1, W1, hrun, hr1, h⟩ := lrun_sound P _ _ _ W _ h hr
  refine ⟨x, W1, hrun, ?_⟩
  unfold stepO at h
  cases x with
  | value v => exact .inl ⟨v, L1, rfl, h, hr1⟩
  | skip => exact .inr (.inl ⟨L1, rfl, h, hr1⟩)
  | enter f args =>
    exact .inr (.inr ⟨f, args, rfl, (hs _ _ _ _ h W1 hr1).mono fun en W2 ⟨v, L2, he, hR, h⟩ => ⟨v, L2, he, hR, h⟩⟩)
  | _ => exact h.elim
 have dop0 : (doOp0 P call o a L c).all K → ∃ x W1, (execOp b.eval o).run P W = .ok x W1 ∧
   ((∃ v L', x = .value v ∧ (c (a.put o.dst v) L').all K ∧ Rep w0 keep L' W1) ∨ (∃ L', x = .skip ∧ (c (a.put o.dst undef) L').all K ∧ Rep w0 keep L' W1) ∨
     ∃ f args, x = .enter f args ∧ Calls P f args W1 fun en W2 => ∃ v L', en = .returned v ∧ Rep w0 keep L' W2 ∧ (c (a.put o.dst v) L').all K) := fun h => by
  unfold doOp0 at h
  have hd := doing_spec (P := P) (ρ := b.eval) (fun g => rfl) o
  rw [hf.eval] at h
  split at h
  ·rename_i v hv
   rw [hv] at hd
   exact ⟨_, _, hd W, .inl ⟨v, L, rfl, h, hr⟩⟩
  ·rename_i bb p v hv
   rw [hv] at hd
   obtain ⟨h1, h⟩ := reqP_spec h
   exact ⟨_, _, hd h1 W, .inl ⟨v, L, rfl, h, hr⟩⟩
  ·rename_i t bb off hv
   rw [hv] at hd
   obtain ⟨v, hk, hrun⟩ := loadN_spec (fun p hp => (hr.blk p hp).1) h
   exact ⟨_, _, by rw [loadOf_run hd]; exact hrun W (fun p hp => (hr.blk p hp).1), .inl ⟨v, L, rfl, hk, hr⟩⟩
  ·rename_i bb off v hv
   rw [hv] at hd
   obtain ⟨p, j, hj, hb, h⟩ := pickT_spec h
   obtain ⟨hone, h⟩ := reqP_spec h
   have hone : one v = true := hone.elim id id
   obtain ⟨L1, u, hcell, hfz, hset, h⟩ := putT_sound h hj hb hr
   refine ⟨.skip, W.setCell ⟨bb, off, none⟩ v, ?_, .inr (.inl ⟨L1, rfl, h, hset⟩)⟩
   rw [storeOf_run hd]
   have : (Go.store ⟨bb, off, none⟩ v).run P W = .ok () (W.setCell ⟨bb, off, none⟩ v) := by
    cases v <;> first | (simp [one] at hone; done) | simp [Go.store, Sem.run, hcell, hfz]
   rw [this]
  ·rename_i n bb off C hv
   rw [hv] at hd
   obtain ⟨t, hd⟩ := hd
   rcases altT_spec h with h | h
   ·have hoff : off = 0 ∧ (pickT L bb fun p j => match p with
      | ⟨nm, .obj (.cells old ty (lo, hi)), true⟩ => match Nat.beq lo 0 && Nat.beq hi 0 with
        | true => reqP (Nat.beq old.size C.size && (Nat.beq n C.size && C.all (·.oneCell'))) (old.size = C.size ∧ n = C.size ∧ C.all (·.oneCell') = true) (setK L j ⟨nm, .obj (.cells C ty (0, 0)), true⟩ fun L' => c (a.put o.dst undef) L')
        | false => .fail
      | _ => .fail).all K := by
     cases hbo : Nat.beq off 0 with
     | false => rw [hbo] at h; exact h.elim
     | true => rw [hbo] at h; exact ⟨Nat.eq_of_beq_eq_true hbo, h⟩
    obtain ⟨hoff, h⟩ := hoff
    subst hoff
    obtain ⟨p, j, hj, hb, h⟩ := pickT_spec h
    split at h
    ·rename_i nm old ty lo hi
     split at h
     ·rename_i hz
      simp only [Bool.and_eq_true, Nat.beq_eq] at hz
      obtain ⟨rfl, rfl⟩ := hz
      obtain ⟨hreq, h⟩ := reqP_spec h
      have hreq : old.size = C.size ∧ n = C.size ∧ C.all (·.oneCell') = true := hreq.elim (fun h => by simpa only [Bool.and_eq_true, Nat.beq_eq] using h) id
      have hat : W.heap[nm]? = some (.cells old ty (0, 0)) := hr.at hj
      have hb : bb = nm := hb
      subst hb
      refine ⟨.skip, W.setRow bb C, wholeOf_run hd hreq.1 hreq.2.1 hreq.2.2 hat, .inr (.inl ⟨_, rfl, (setK_spec h).2, ?_⟩)⟩
      exact hr.set hj rfl _ rfl rfl rfl (by simp) (fun k hk => setRow_other W bb k C hk) (setRow_heap W bb old C ty (0, 0) hat)
     ·exact h.elim
    ·exact h.elim
   ·exact gen h
  ·rename_i t v x hv
   rw [hv] at hd
   rcases altT_spec h with h | h
   ·obtain ⟨k, hm, h⟩ := appT_spec (ty := o.type) h
    refine byC k (fun W hW => ?_) h
    rw [hf.eval, appOf_run hd]
    exact hm W hW
   ·exact gen h
  ·rename_i f args hv
   rw [hv] at hd
   exact ⟨_, _, hd W, .inr (.inr ⟨f, args, rfl, (hs _ _ _ _ h W hr).mono fun en W2 ⟨v, L2, he, hR, h⟩ => ⟨v, L2, he, hR, h⟩⟩)⟩
  ·rename_i e z bytes n lv cv hv
   rw [hv] at hd
   rcases altT_spec h with h | ⟨h1, h⟩
   ·exact gen h
   ·obtain ⟨hreq, h⟩ := reqP_spec h
    have hreq : 0 ≤ n ∧ n.toNat * bytes ≤ 281474976710656 ∧ n.toNat ≤ maxLen := hreq.elim (fun h => by simpa only [Bool.and_eq_true, Ex.leQ_eq, decide_eq_true_eq, Nat.ble_eq] using h) id
    obtain ⟨C, hC, hrun⟩ := makeOf_run hd (tok_val h1) hreq.1 hreq.2.1 hreq.2.2 W
    refine ⟨_, _, hrun, .inl ⟨_, _, rfl, h ⟨W.heap.size, 0, false, undef, [], []⟩, ?_⟩⟩
    have hsz : C.size = n.toNat := by rw [← Array.length_toList, hC]; simp
    have hp := hr.push (.cells C e (0, 0))
    refine ⟨hp.os, hp.tape, hp.output, hp.size, hp.old, fun p hpm => ?_, ?_⟩
    ·rcases List.mem_cons.1 hpm with rfl | hpm
     ·obtain ⟨h2, h3⟩ := hp.blk _ Sy.mH
      exact ⟨⟨C, h2, by simp, Nat.le_refl _, hreq.2.2, by simp [hsz], by simp [hC]⟩, h3⟩
     ·exact hp.blk p (Sy.mC _ hpm)
    ·have hf := hp.far
     rw [List.pairwise_cons] at hf ⊢
     exact ⟨fun q hq ho => hf.1 q hq ho, hf.2⟩
  ·rename_i s hv
   rw [hv] at hd
   obtain ⟨e, hd⟩ := hd
   rw [forceL_eq] at h
   exact byC _ (by rw [hf.eval]; exact bytesOf_met hd) h
  ·rename_i neg b1 o1 b2 o2 hv
   rw [hv] at hd
   obtain ⟨r, h, hrun⟩ := peqT_spec (P := P) h hr
   exact ⟨_, _, peqOf_run hd hrun, .inl ⟨_, L, rfl, h, hr⟩⟩
  ·rename_i bb off old new hv
   rw [hv] at hd
   obtain ⟨p, j, hj, hb, h⟩ := pickT_spec h
   split at h
   ·exact h.elim
   ·rename_i hpl
    split at h
    ·rename_i cur hcur
     obtain ⟨r, h, hrun⟩ := samePT_spec (P := P) h hr
     obtain ⟨cc, tt, hat⟩ := plainCt_spec hpl (hr.at hj)
     have hcell : W.cell? ⟨bb, off, none⟩ = some (.pointer cur) := cell_at (a := ⟨bb, off, none⟩) hb (hr.at hj) rfl hcur
     have hx := casOf_run (P := P) (W := W) (fun g => rfl) hd (by rw [hb]; exact hat) hcell hrun
     cases r with
     | true =>
       obtain ⟨L1, u, -, -, hset, h⟩ := putT_sound (h.1 rfl) hj hb hr
       exact ⟨_, _, hx, .inl ⟨_, L1, rfl, h, hset⟩⟩
     | false => exact ⟨_, _, hx, .inl ⟨_, L, rfl, h.2 rfl, hr⟩⟩
    ·exact h.elim
  ·exact gen h
 have dop : (doOp P call o a L c).all K → ∃ x W1, (execOp b.eval o).run P W = .ok x W1 ∧
   ((∃ v L', x = .value v ∧ (c (a.put o.dst v) L').all K ∧ Rep w0 keep L' W1) ∨ (∃ L', x = .skip ∧ (c (a.put o.dst undef) L').all K ∧ Rep w0 keep L' W1) ∨
     ∃ f args, x = .enter f args ∧ Calls P f args W1 fun en W2 => ∃ v L', en = .returned v ∧ Rep w0 keep L' W2 ∧ (c (a.put o.dst v) L').all K) := fun h => by
  unfold doOp at h
  split at h
  ·rcases two_spec h with h | h
   ·exact dop0 h
   ·obtain ⟨v, hrun, hk⟩ := opaV_spec h
    rw [hf.eval] at hrun
    exact ⟨_, _, hrun W, .inl ⟨v, L, rfl, hk, hr⟩⟩
  ·exact dop0 h
 unfold evOp at h
 split at h
 ·rename_i k ks hop
  obtain ⟨j, h⟩ := h
  dsimp only at h
  split at h
  ·rename_i k' hj
   obtain ⟨h1, h2, h⟩ := h
   rw [nth_eq] at hj
   have hm := hS.op fn (keyOf o) k' (by rw [hop]; exact List.mem_of_getElem? hj) a L h2
   rw [← tok_sem h1] at hm
   exact byC _ hm h
  ·exact dop h
 ·exact dop h
theorem evAt_sound (hS : S.holds P) {fn : FuncId} {call : CallE α} (hs : SoundC P w0 keep K call) {ops : Array Oper} {i : Nat} {a : F} {L : List Blk} {c : F → List Blk → T α} (h : (evAt P S fn call ops i a L c).all K)
  {b : Act} {W : World} (hf : RelF a b) (hr : Rep w0 keep L W) {Q : Exit → Act → World → Prop} {K' : Act → World → Prop} (hK : ∀ a' L' b' W', (c a' L').all K → RelF a' b' → Rep w0 keep L' W' → K' b' W') : wpOp P ops Q i K' b W := by
 unfold evAt at h
 rw [nth_eq, Array.getElem?_toList] at h
 unfold wpOp
 split at h
 ·rename_i h0
  simp only [h0]
  exact hK _ _ _ _ h hf hr
 ·rename_i o h0
  simp only [h0]
  obtain ⟨a', hf', h⟩ := guardT_spec hf h
  rcases h with ⟨hw, h⟩ | ⟨hw, h⟩
  ·rw [if_pos hw]
   left
   unfold Oper.wp
   obtain ⟨x, W1, hrun, hx⟩ := evOp_sound hS hs h hf' hr
   rw [hrun]
   rcases hx with ⟨v, L', rfl, hk, hr'⟩ | ⟨L', rfl, hk, hr'⟩ | ⟨f, args, rfl, hc⟩
   ·exact hK _ _ _ _ hk (hf'.put _ _) hr'
   ·exact hK _ _ _ _ hk (hf'.put _ _) hr'
   ·refine hc.mono fun en W2 ⟨v, L2, he, hR, h⟩ => ?_
    subst he
    exact hK _ _ _ _ h (hf'.put _ _) hR
  ·rw [hw]
   exact hK _ _ _ _ h (hf'.put _ _) hr
theorem heldV_of {a : F} {L0 : List Blk} {o : Oper} {k : Value → T α} (h : (heldV0 P a L0 o k).all K) : (heldV P a L0 o k).all K := by
 unfold heldV
 split
 ·exact ⟨0, h⟩
 ·exact h
theorem heldV0_sound {a : F} {L0 : List Blk} {o : Oper} {k : Value → T α} {W0 : World} (h0 : There L0 W0) (h : (heldV0 P a L0 o k).all K) : ∃ v, (∀ W, There L0 W → (execOp a.eval o).run P W = .ok (.value v) W) ∧ (k v).all K := by
 unfold heldV0 at h
 have hd := doing_spec (P := P) (ρ := a.eval) (fun g => rfl) o
 split at h
 ·rename_i v hv
  rw [hv] at hd
  exact ⟨v, fun W _ => hd W, h⟩
 ·rename_i t bb off hv
  rw [hv] at hd
  obtain ⟨v, hk, hrun⟩ := loadN_spec h0 h
  exact ⟨v, fun W hS => by rw [loadOf_run hd]; exact hrun W hS, hk⟩
 ·rename_i bb p v hv
  rw [hv] at hd
  obtain ⟨h1, h⟩ := reqP_spec h
  exact ⟨_, fun W _ => hd h1 W, h⟩
 ·obtain ⟨x, hx, hrun⟩ := lread_sound P _ _ _ h
  cases x with
  | value v => exact ⟨v, hrun, hx⟩
  | _ => exact hx.elim
 ·exact h.elim
theorem heldV_sound {a : F} {L0 : List Blk} {o : Oper} {k : Value → T α} {W0 : World} (h0 : There L0 W0) (h : (heldV P a L0 o k).all K) : ∃ v, (∀ W, There L0 W → (execOp a.eval o).run P W = .ok (.value v) W) ∧ (k v).all K := by
 unfold heldV at h
 split at h
 ·rcases two_spec h with h | h
  ·exact heldV0_sound h0 h
  ·obtain ⟨v, h1, h2⟩ := opaV_spec h
   exact ⟨v, fun W _ => h1 W, h2⟩
 ·exact heldV0_sound h0 h
theorem valB_held {a : F} {L0 : List Blk} {o : Oper} {k : Value → T α} (h : ((valB P o : VB α).run a L0 k (heldV P a L0 o k)).all K) : (heldV P a L0 o k).all K := by
 rcases valB_spec h with h | h | h | h
 ·exact h
 ·obtain ⟨v, h1, h2⟩ := h
  refine heldV_of ?_
  unfold heldV0
  rw [h1]
  exact h2
 ·obtain ⟨t, b, off, h1, h2⟩ := h
  refine heldV_of ?_
  unfold heldV0
  rw [h1]
  exact h2
 ·obtain ⟨b, p, v, h1, h2⟩ := h
  refine heldV_of ?_
  unfold heldV0
  rw [h1]
  exact h2
theorem heldG_sound {ops : Array Oper} {L0 : List Blk} {g : Option G} {a : F} {o : Oper} {k : Option G → F → T α} {b : Act} {W0 : World} (h0 : There L0 W0) (hf : RelF a b) (hi : Inv g b) (h : (heldG P ops L0 g a o k).all K) :
  ∃ g' a' v, YieldsIf P ops (There L0) o v b ∧ RelF a' (b.put o.dst v) ∧ Inv g' (b.put o.dst v) ∧ (k g' a').all K := by
 unfold heldG at h
 have key := guardOf_key (ops := ops) (o := o) hf
 split at h
 ·rename_i hg
  rw [hg] at key
  simp only at key
  have plain : ∀ f : Value → T α, (heldV P a L0 o f).all K → ∃ v, YieldsIf P ops (There L0) o v b ∧ (f v).all K := fun f h => by
   obtain ⟨v, h1, h2⟩ := heldV_sound h0 h
   rw [hf.eval] at h1
   exact ⟨v, .inl ⟨key, fun W hS => h1 W hS⟩, h2⟩
  split at h
  ·obtain ⟨v, h1, h2⟩ := plain _ (valB_held h)
   exact ⟨_, _, v, h1, hf.put _ _, Inv.none _, h2⟩
  ·rename_i g
   split at h
   ·rename_i c x y ho
    split at h
    ·rename_i bb hc
     obtain ⟨h1, h⟩ := h
     have h1 : bb = g.b := by injection (tok_val h1)
     split at h
     ·rename_i v hv
      have hv := mergeV_spec hv
      rw [hf.eval] at hc
      refine ⟨_, _, v, .inl ⟨key, fun W _ => ?_⟩, hf.put _ _, Inv.none _, h⟩
      rw [pick_run ho hc W]
      have e : v = if bb = true then b.eval x else b.eval y := by
       rw [hv]
       cases hb : bb with
       | true =>
         simp only [if_true]
         cases hw : g.want with
         | true =>
           have := hi g rfl (by rw [← h1, hb, hw])
           simp only [this.eval]
         | false => simp only [hf.eval]
       | false =>
         simp only [Bool.false_eq_true, if_false]
         cases hw : g.want with
         | true => simp only [hf.eval]
         | false =>
           have := hi g rfl (by rw [← h1, hb, hw])
           simp only [this.eval]
      rw [← e]
     ·exact h.elim
    ·exact h.elim
   ·obtain ⟨v, h1, h2⟩ := plain _ h
    refine ⟨_, _, v, h1, hf.put _ _, fun x hx hb => ?_, h2⟩
    injection hx with hx
    subst hx
    exact (hi g rfl hb).put _ _
 ·rename_i hg
  rw [hg] at key
  exact ⟨_, _, undef, .inr ⟨key, rfl⟩, hf.put _ _, Inv.none _, h⟩
 ·rename_i t c want hg
  rw [hg] at key
  obtain ⟨k1, k2⟩ := key
  have sel : ∀ (v : Value) (a1 : F), (c = want → RelF a1 b) → (∀ W, There L0 W → (execOp a1.eval o).run P W = .ok (.value v) W) → YieldsIf P ops (There L0) o (selV (hit c want) v undef) b ∧ (c = want → selV (hit c want) v undef = v) := fun v a1 h1 h2 => by
   by_cases hcw : c = want
   ·have hh : hit c want = true := by subst hcw; cases c <;> rfl
    rw [hh]
    have h3 := h1 hcw
    refine ⟨.inl ⟨by rw [k1, hcw]; simp, fun W hS => ?_⟩, fun _ => rfl⟩
    rw [← h3.eval]
    exact h2 W hS
   ·have hh : hit c want = false := by cases c <;> cases want <;> simp_all [hit]
    rw [hh]
    exact ⟨.inr ⟨by rw [k1]; cases c <;> cases want <;> simp_all, rfl⟩, fun h => absurd h hcw⟩
  split at h
  ·obtain ⟨v, h1, h2⟩ := heldV_sound h0 h
   have ha : c = want → RelF (a.put (some t) (.bool want)) b := fun hcw => hf.same (by rw [k2, hcw])
   obtain ⟨s1, s2⟩ := sel v _ ha h1
   refine ⟨_, _, _, s1, hf.put _ _, fun x hx hb => ?_, h2⟩
   injection hx with hx
   subst hx
   rw [s2 hb]
   exact (ha hb).put _ _
  ·rename_i g
   obtain ⟨e1, e2, h⟩ := h
   have e1 : c = g.b := by injection (tok_val e1)
   have e2 : want = g.want := by injection (tok_val e2)
   obtain ⟨v, h1, h2⟩ := heldV_sound h0 h
   have ha : c = want → RelF g.a b := fun hcw => hi g rfl (by rw [← e1, ← e2, hcw])
   obtain ⟨s1, s2⟩ := sel v _ ha h1
   refine ⟨_, _, _, s1, hf.put _ _, fun x hx hb => ?_, h2⟩
   injection hx with hx
   subst hx
   have hcw : c = want := by rw [e1, e2]; exact hb
   rw [s2 hcw]
   exact (ha hcw).put _ _
theorem evAtG_sound (hS : S.holds P) {fn : FuncId} {call : CallE α} (hs : SoundC P w0 keep K call) {ops : Array Oper} {i : Nat} {g : Option G} {a : F} {L : List Blk} {c : Option G → F → List Blk → T α} (h : (evAtG P S fn call ops i g a L c).all K)
  {b : Act} {W : World} (hf : RelF a b) (hi : Inv g b) (hr : Rep w0 keep L W) {Q : Exit → Act → World → Prop} {K' : Act → World → Prop} (hK : ∀ g' a' L' b' W', (c g' a' L').all K → RelF a' b' → Inv g' b' → Rep w0 keep L' W' → K' b' W') : wpOp P ops Q i K' b W := by
 have plain : (evAt P S fn call ops i a L (c none)).all K → wpOp P ops Q i K' b W := fun h => evAt_sound hS hs h hf hr fun a' L' b' W' hk hf' hr' => hK none a' L' b' W' hk hf' (Inv.none _) hr'
 unfold evAtG at h
 split at h
 ·exact plain h
 ·rename_i o ho
  rw [nth_eq, Array.getElem?_toList] at ho
  have group : (heldG P ops L g a o fun g' a' => c g' a' L).all K → wpOp P ops Q i K' b W := fun h => by
   obtain ⟨g', a', v, h1, h2, h3, h4⟩ := heldG_sound (fun p hp => (hr.blk p hp).1) hf hi h
   exact h1.wpOp ho (fun p hp => (hr.blk p hp).1) (hK _ _ _ _ _ h4 h2 h3 hr)
  split at h
  ·split at h
   ·split at h
    ·exact (litT_spec h).elim plain group
    ·exact group h
   ·exact plain h
  ·split at h
   ·exact group h
   ·exact plain h
  ·exact plain h
theorem evOps_sound (hS : S.holds P) {fn : FuncId} {call : CallE α} (hs : SoundC P w0 keep K call) {ops : Array Oper} {Q : Exit → Act → World → Prop} {c : F → List Blk → T α} : ∀ (l : List Nat) {g : Option G} {a : F} {L : List Blk}, (evOps P S fn call ops c l g a L).all K →
  ∀ {b : Act} {W : World}, RelF a b → Inv g b → Rep w0 keep L W → (∀ a' L' b' W', (c a' L').all K → RelF a' b' → Rep w0 keep L' W' → Q .normal b' W') → wpOps P ops Q l b W
 | [], g, a, L, h, b, W, hf, _, hr, hQ => hQ _ _ _ _ h hf hr
 | i :: rest, g, a, L, h, b, W, hf, hi, hr, hQ => by
   rw [wpOps_cons]
   exact evAtG_sound hS hs (c := evOps P S fn call ops c rest) h hf hi hr (fun g' a' L' b' W' hk hf' hi' hr' => evOps_sound hS hs rest hk hf' hi' hr' hQ)
theorem backAll_sound : ∀ (L0 : List Blk) {L : List Blk} {k : List Blk → T α}, (backAll L0 L k).all K → ∃ l, (∀ b ∈ l, b ∈ L) ∧ (k l).all K
 | [], L, k, h => ⟨[], fun _ h => (by cases h), h⟩
 | p :: ps, L, k, h => by
   simp only [backAll] at h
   obtain ⟨b, j, hj, -, h⟩ := pickT_spec h
   obtain ⟨l, h1, h2⟩ := backAll_sound ps h
   refine ⟨b :: l, fun x hx => ?_, h2⟩
   rcases List.mem_cons.1 hx with rfl | hx
   ·exact List.mem_of_getElem? hj
   ·exact h1 x hx
theorem backTT_sound {L0 L1 : List Blk} {k : T α} (h : (backTT L0 L1 k).all K) : (∀ b ∈ L0, b ∈ L1) ∧ k.all K := by
 obtain ⟨d, d1, h1, h⟩ := h
 obtain ⟨l, h2, h3, h⟩ := backAll_sound _ h
 refine ⟨fun b hb => ?_, h⟩
 rw [← List.take_append_drop d L0] at hb
 rcases List.mem_append.1 hb with hb | hb
 ·rw [tok_blks h3] at hb
  exact h2 b hb
 ·rw [tok_blks h1] at hb
  exact List.mem_of_mem_drop hb
theorem heldT_sound {ops : Array Oper} {m : Nat} {g : Option G} {a : F} {L0 : List Blk} {b : Act} {W0 : World} (h0 : There L0 W0) (hrel : RelF a b) (hi : Inv g b) {i : Nat} {k : Option G → F → T α} (h : (heldT P ops m g a L0 i k).all K) :
  ∃ g' a' o v, ops[i]? = some o ∧ i ∈ readyM ops m ∧ Region.free .any ops (listedOf ops.size m) i = true ∧ YieldsIf P ops (There L0) o v b ∧ RelF a' (b.put o.dst v) ∧ Inv g' (b.put o.dst v) ∧ (k g' a').all K := by
 unfold heldT at h
 split at h
 ·exact h.elim
 rename_i hrd
 have hrd := isReady_spec hrd
 split at h
 ·exact h.elim
 rename_i hf
 split at h
 ·exact h.elim
 rename_i o ho
 have hf := freeM_spec ho hf
 have group : (heldG P ops L0 g a o k).all K → ∃ g' a' o v, ops[i]? = some o ∧ i ∈ readyM ops m ∧ Region.free .any ops (listedOf ops.size m) i = true ∧ YieldsIf P ops (There L0) o v b ∧ RelF a' (b.put o.dst v) ∧ Inv g' (b.put o.dst v) ∧ (k g' a').all K := fun h => by
  obtain ⟨g', a', v, h1, h2, h3, h4⟩ := heldG_sound h0 hrel hi h
  exact ⟨g', a', o, v, ho, hrd, hf, h1, h2, h3, h4⟩
 have fork : (guardT a ops o (fun a => heldV P a L0 o fun v => k none (a.put o.dst v)) (fun a => k none (a.put o.dst undef))).all K → ∃ g' a' o v, ops[i]? = some o ∧ i ∈ readyM ops m ∧ Region.free .any ops (listedOf ops.size m) i = true ∧ YieldsIf P ops (There L0) o v b ∧ RelF a' (b.put o.dst v) ∧ Inv g' (b.put o.dst v) ∧ (k g' a').all K := fun h => by
  obtain ⟨a', hrel', h⟩ := guardT_spec hrel h
  rcases h with ⟨hw, h⟩ | ⟨hw, h⟩
  ·obtain ⟨v, h1, h2⟩ := heldV_sound h0 h
   rw [hrel'.eval] at h1
   exact ⟨_, _, o, v, ho, hrd, hf, .inl ⟨hw, fun W hS => h1 W hS⟩, hrel'.put _ _, Inv.none _, h2⟩
  ·exact ⟨_, _, o, undef, ho, hrd, hf, .inr ⟨hw, rfl⟩, hrel'.put _ _, Inv.none _, h⟩
 split at h
 ·split at h
  ·split at h
   ·exact (litT_spec h).elim fork group
   ·exact group h
  ·exact fork h
 ·exact group h
theorem firstSimple_spec {P : Program} {ops : Array Oper} {m : Nat} {a : F} {b : Act} (hf : RelF a b) : ∀ (rs : List Nat) {i : Nat} {o : Oper} {s : Shape}, firstSimple P ops m a rs = some (i, o, s) →
  i ∈ readyM ops m ∧ ops[i]? = some o ∧ plainOp o = true ∧ FreeAt ops (listedOf ops.size m) i o ∧ ((Region.wanted o (yielded ops b.tmps) = false ∧ s = .act [] undef) ∨ (Region.wanted o (yielded ops b.tmps) = true ∧ shapeOf P (stoOp o) (execOp b.eval o) = some s))
 | [], _, _, _, h => by cases h
 | i :: rest, i', o', s', h => by
   have more : firstSimple P ops m a rest = some (i', o', s') → i' ∈ readyM ops m ∧ ops[i']? = some o' ∧ plainOp o' = true ∧ FreeAt ops (listedOf ops.size m) i' o' ∧ ((Region.wanted o' (yielded ops b.tmps) = false ∧ s' = .act [] undef) ∨ (Region.wanted o' (yielded ops b.tmps) = true ∧ shapeOf P (stoOp o') (execOp b.eval o') = some s')) := fun h => by
    exact firstSimple_spec hf rest h
   unfold firstSimple at h
   split at h
   ·cases h
   ·rename_i o ho
    split at h
    ·exact more h
    ·rename_i hfr
     simp only [Bool.and_eq_true] at hfr
     obtain ⟨hrd, hpl, hfr⟩ := hfr
     have hfr := freeM_spec ho hfr
     have hrd := isReady_spec hrd
     split at h
     ·rename_i hw
      injection h with h
      simp only [Prod.mk.injEq] at h
      obtain ⟨rfl, rfl, rfl⟩ := h
      exact ⟨hrd, ho, hpl, Region.free_spec ho hfr, .inl ⟨by rw [← hf.yielded]; exact hw, rfl⟩⟩
     ·rename_i hw
      split at h
      ·rename_i s hs
       injection h with h
       simp only [Prod.mk.injEq] at h
       obtain ⟨rfl, rfl, rfl⟩ := h
       exact ⟨hrd, ho, hpl, Region.free_spec ho hfr, .inr ⟨by rw [← hf.yielded]; exact hw, by rw [← hf.eval]; exact hs⟩⟩
      ·exact more h
def blkOf (p : Nat × Obj) : Blk := ⟨p.1, .obj p.2, true⟩
def look : List (Nat × Obj) → News
 | [], _ => none
 | (n, o) :: M, k => if k = n then some o else look M k
theorem look_none {M : List (Nat × Obj)} {k : Nat} : look M k = none ↔ k ∉ M.map (·.1) := by
 induction M with
 | nil => simp [look]
 | cons p M ih =>
   simp only [look, List.map_cons, List.mem_cons, not_or]
   split
   ·rename_i h; simp [h]
   ·rename_i h; rw [ih]; exact ⟨fun h1 => ⟨h, h1⟩, fun h1 => h1.2⟩
theorem look_at : ∀ {M : List (Nat × Obj)} {j n : Nat} {o : Obj}, (M.map (·.1)).Nodup → M[j]? = some (n, o) → look M n = some o
 | [], j, n, o, _, h => by cases h
 | p :: M, 0, n, o, _, h => by
   simp only [List.getElem?_cons_zero, Option.some.injEq] at h
   subst h
   simp [look]
 | p :: M, j + 1, n, o, hd, h => by
   rw [List.map_cons, List.nodup_cons] at hd
   have h' : M[j]? = some (n, o) := by simpa using h
   have hm : n ∈ M.map (·.1) := List.mem_map.2 ⟨(n, o), List.mem_of_getElem? h', rfl⟩
   have hne : n ≠ p.1 := fun he => hd.1 (he ▸ hm)
   simp only [look, if_neg hne]
   exact look_at hd.2 h'
theorem look_set : ∀ {M : List (Nat × Obj)} {j n : Nat} {o o' : Obj}, (M.map (·.1)).Nodup → M[j]? = some (n, o) → look (M.set j (n, o')) = putN (look M) n o'
 | [], j, n, o, o', _, h => by cases h
 | p :: M, 0, n, o, o', _, h => by
   simp only [List.getElem?_cons_zero, Option.some.injEq] at h
   subst h
   funext k
   simp only [List.set_cons_zero, look, putN]
   split <;> rfl
 | p :: M, j + 1, n, o, o', hd, h => by
   rw [List.map_cons, List.nodup_cons] at hd
   have h' : M[j]? = some (n, o) := by simpa using h
   have hm : n ∈ M.map (·.1) := List.mem_map.2 ⟨(n, o), List.mem_of_getElem? h', rfl⟩
   have hne : n ≠ p.1 := fun he => hd.1 (he ▸ hm)
   funext k
   simp only [List.set_cons_succ, look, putN]
   rw [look_set hd.2 h']
   simp only [putN]
   by_cases h1 : k = p.1
   ·simp [h1, Ne.symm hne]
   ·by_cases h2 : k = n <;> simp [h1, h2, hne]
theorem map_set_fst : ∀ {M : List (Nat × Obj)} {j n : Nat} {o o' : Obj}, M[j]? = some (n, o) → (M.set j (n, o')).map (·.1) = M.map (·.1)
 | [], j, n, o, o', h => by cases h
 | p :: M, 0, n, o, o', h => by
   simp only [List.getElem?_cons_zero, Option.some.injEq] at h
   subst h
   rfl
 | p :: M, j + 1, n, o, o', h => by
   simp only [List.set_cons_succ, List.map_cons]
   rw [map_set_fst (by simpa using h)]
theorem layN_sound {L0 : List Blk} : ∀ (l : List (Addr × Value)) {M : List (Nat × Obj)} {L : List Blk} {k : List Blk → T α}, (layN M.length l L k).all K → L = M.map blkOf ++ L0 → (M.map (·.1)).Nodup →
  ∃ M' L', stos (look M) l = some (look M') ∧ L' = M'.map blkOf ++ L0 ∧ M'.length = M.length ∧ (M'.map (·.1)).Nodup ∧ (k L').all K
 | [], M, L, k, h, hL, hd => ⟨M, L, rfl, hL, rfl, hd, h⟩
 | p :: r, M, L, k, h, hL, hd => by
   simp only [layN] at h
   obtain ⟨b, j, hj, hb, h⟩ := pickT_spec h
   split at h
   ·rename_i n c t lo hi ow
    split at h
    ·rename_i hlt hs ho
     split at h
     ·rename_i u hu hf
      have h := forceT_spec h
      have hb : p.1.block = n := hb
      have hjm : j < M.length := by simpa using hlt
      rw [hL, List.getElem?_append_left (by simpa using hjm), List.getElem?_map] at hj
      obtain ⟨q, hq, hqe⟩ := Option.map_eq_some_iff.1 hj
      obtain ⟨qn, qo⟩ := q
      simp only [blkOf, Blk.mk.injEq, Cont.obj.injEq] at hqe
      obtain ⟨rfl, rfl, -⟩ := hqe
      have hlook := look_at hd hq
      have h1 := sto1_of (N := look M) (p := p) (by rw [hb]; exact hlook) hs ho hu hf
      rw [hb, ← look_set hd hq] at h1
      have hset : (M.set j (qn, .cells (c.setIfInBounds p.1.off p.2) t (lo, hi))).length = M.length := by simp
      rw [← hset] at h
      obtain ⟨M', L', g1, g2, g3, g4, g5⟩ := layN_sound r (M := M.set j (qn, .cells (c.setIfInBounds p.1.off p.2) t (lo, hi))) h (by
       rw [hL, List.set_append_left _ _ (by simpa using hjm), List.map_set]
       rfl) (by rw [map_set_fst hq]; exact hd)
      refine ⟨M', L', ?_, g2, by rw [g3, hset], g4, g5⟩
      simp only [stos, h1]
      exact g1
     ·exact h.elim
    ·exact h.elim
   ·exact h.elim
theorem evRest_can {ops : Array Oper} {fin : RestE α} {Fin : Nat → Array Bool → Act → News → Prop} {L0 : List Blk} (hFin : ∀ k l a L b M, (fin k l a L).all K → RelF a b → L = M.map blkOf ++ L0 → (M.map (·.1)).Nodup → Fin k (listedOf ops.size l) b (look M)) : ∀ (n : Nat) {td : List Nat} {m : Nat} {a : F} {L : List Blk} {b : Act} {M : List (Nat × Obj)}, (evRest P ops fin n td M.length m a L).all K →
  RelF a b → L = M.map blkOf ++ L0 → (M.map (·.1)).Nodup → CanK P ops Fin n (listedOf ops.size m) b (look M)
 | 0, td, m, a, L, b, M, h, hf, hL, hd => by
   simp only [evRest] at h
   split at h
   ·rename_i hrd
    exact ⟨allPlain_spec hrd, hFin _ _ _ _ _ _ h hf hL hd⟩
   ·exact h.elim
 | n + 1, td, m, a, L, b, M, h, hf, hL, hd => by
   simp only [evRest] at h
   split at h
   ·rename_i hrd
    exact .inl ⟨allPlain_spec hrd, hFin _ _ _ _ _ _ h hf hL hd⟩
   ·split at h
    ·rename_i i o l v hs
     obtain ⟨h1, h2, hp, h3, h4⟩ := firstSimple_spec hf _ hs
     obtain ⟨M', L', g1, g2, g3, g4, g5⟩ := layN_sound l h hL hd
     rw [← g3] at g5
     refine .inr ⟨i, o, .act l v, h2, hp, by rw [readyM_eq]; exact h1, h3, ?_, look M', g1, by rw [listedOf_set]; exact evRest_can hFin n g5 (hf.put _ _) g2 g4⟩
     rcases h4 with ⟨hw, he⟩ | ⟨hw, he⟩
     ·injection he with he1 he2; exact .inr ⟨hw, he1, he2⟩
     ·obtain ⟨q1, nx, q2, q3⟩ := shapeOf_act he
      exact .inl ⟨hw, q1, nx, q2, q3⟩
    ·rename_i i o c k hs
     obtain ⟨h1, h2, hp, h3, h4⟩ := firstSimple_spec hf _ hs
     rcases h4 with ⟨hw, he⟩ | ⟨hw, he⟩
     ·cases he
     have hv : ∀ b, ∃ v, pureOf P (k b) = some v ∧ (evRest P ops fin n (dropOne i td) (M.length + 1) (m ||| 1 <<< i) (a.put o.dst v) (⟨b, .obj c, true⟩ :: L)).all K := fun b => by
      have hm := h ⟨b, 0, false, undef, [], []⟩
      dsimp only at hm
      split at hm
      ·rename_i v hp
       exact ⟨v, hp, hm⟩
      ·exact hm.elim
     refine .inr ⟨i, o, .new c (fun m => (pureOf P (k m)).getD undef), h2, hp, by rw [readyM_eq]; exact h1, h3, ⟨hw, k, shapeOf_new he, fun b => ?_⟩, fun b hm => ?_⟩
     ·obtain ⟨v, hp, -⟩ := hv b
      simp only [hp, Option.getD_some]
     ·obtain ⟨v, hp, hmm⟩ := hv b
      simp only [hp, Option.getD_some]
      rw [listedOf_set]
      have := evRest_can hFin n (M := (b, c) :: M) hmm (hf.put _ _) (by rw [hL]; rfl) (by rw [List.map_cons, List.nodup_cons]; exact ⟨look_none.1 hm, hd⟩)
      exact this
    ·exact h.elim
theorem Rep.grown {w1 W : World} {L L' : List Blk} {M : List (Nat × Obj)} (hr : Rep w0 keep L w1) (hg : Grown w1 (look M) W) (hd : (M.map (·.1)).Nodup) (hL : L' = M.map blkOf ++ L) : Rep w0 keep L' W := by
 have hlt : ∀ p ∈ L, p.nm < w1.heap.size := fun p hp => by
  obtain ⟨o, ho⟩ := Cont.some_of (hr.blk p hp).1
  exact (Array.getElem?_eq_some_iff.1 ho).1
 have hblk : ∀ q ∈ M, w1.heap.size ≤ q.1 ∧ W.heap[q.1]? = some q.2 := fun q hq => by
  obtain ⟨j, hj⟩ := List.mem_iff_getElem?.1 hq
  exact hg.blk _ _ (look_at hd hj)
 refine ⟨hg.os.trans hr.os, hg.tape.trans hr.tape, hg.output.trans hr.output, Nat.le_trans hr.size hg.size, fun k hk hkeep => (hg.old k (Nat.lt_of_lt_of_le hk hr.size)).trans (hr.old k hk hkeep), fun p hp => ?_, ?_⟩
 ·rw [hL] at hp
  rcases List.mem_append.1 hp with hp | hp
  ·obtain ⟨q, hq, rfl⟩ := List.mem_map.1 hp
   obtain ⟨h1, h2⟩ := hblk q hq
   refine ⟨h2, fun _ h3 => ?_⟩
   have := hr.size
   simp only [blkOf] at h3
   omega
  ·refine ⟨?_, (hr.blk p hp).2⟩
   rw [hg.old _ (hlt p hp)]
   exact (hr.blk p hp).1
 ·rw [hL, List.pairwise_append]
  refine ⟨?_, hr.far, fun p hp q hq => ?_⟩
  ·rw [List.pairwise_map]
   have := hd
   rw [List.Nodup, List.pairwise_map] at this
   refine this.imp fun {x y} hne => ?_
   exact fun _ => hne
  ·obtain ⟨p', hp', rfl⟩ := List.mem_map.1 hp
   have h1 := (hblk p' hp').1
   have h2 := hlt q hq
   exact fun _ => by simp only [blkOf]; omega
theorem waitM_spec {ops : Array Oper} {f i : Nat} (hi : i < ops.size) (h : (waitM ops f).testBit i = true) : ∃ of, ops[f]? = some of ∧ ∃ e ∈ of.after, Region.binds .any e = true ∧ e.on = i := by
 unfold waitM at h
 split at h
 ·rename_i of ho
  simp only [orAll_testBit] at h
  obtain ⟨e, he, hk⟩ := h
  split at hk
  ·rename_i hb
   injection hk with hk
   exact ⟨of, ho, e, by simpa using he, hb, hk⟩
  ·cases hk
 ·rw [testBit_one_shift, decide_eq_true_eq] at h
  omega
theorem waitM_of {ops : Array Oper} {f : Nat} {of : Oper} (ho : ops[f]? = some of) {e : Edge} (he : e ∈ of.after) (hb : Region.binds .any e = true) : (waitM ops f).testBit e.on = true := by
 unfold waitM
 rw [ho]
 simp only [orAll_testBit]
 exact ⟨e, by simpa using he, by rw [hb]⟩
theorem orWaits_spec {ops : Array Oper} {acc i : Nat} : ∀ {l : List Nat}, (orWaits ops acc l).testBit i = true → acc.testBit i = true ∨ ∃ j, acc.testBit j = true ∧ (waitM ops j).testBit i = true
 | [], h => .inl h
 | j :: r, h => by
   unfold orWaits at h
   rw [tb_eq] at h
   split at h
   ·rename_i hj
    change ((waitM ops j) ||| (orWaits ops acc r)).testBit i = true at h
    rw [Nat.testBit_or, Bool.or_eq_true] at h
    rcases h with h | h
    ·exact .inr ⟨j, hj, h⟩
    ·exact orWaits_spec h
   ·exact orWaits_spec h
theorem closM_spec {ops : Array Oper} {f : Nat} : ∀ (n : Nat) {acc : Nat}, (∀ i, i < ops.size → acc.testBit i = true → Waits ops i f) → ∀ i, i < ops.size → (closM ops n acc).testBit i = true → Waits ops i f
 | 0, _, h => h
 | n + 1, acc, h => by
   unfold closM
   split
   ·exact h
   ·refine closM_spec n fun i hlt hi => ?_
    rcases orWaits_spec hi with hi | ⟨j, hj, hi⟩
    ·exact h i hlt hi
    ·obtain ⟨oj, ho, e, he, hb, hon⟩ := waitM_spec hlt hi
     exact Waits.trans (.direct ho he hb hon) (h j (Array.getElem?_eq_some_iff.1 ho).1 hj)
theorem finM_spec {ops : Array Oper} {i : Nat} (hlt : i < ops.size) : ∀ {fs : List Nat}, (finM ops fs).testBit i = true → ∀ f ∈ fs, Waits ops i f
 | [], _ => fun _ h => by cases h
 | g :: r, h => by
   change ((closW ops g) &&& (finM ops r)).testBit i = true at h
   rw [Nat.testBit_and, Bool.and_eq_true] at h
   intro f hf
   rcases List.mem_cons.1 hf with rfl | hf
   ·refine closM_spec _ (fun i hlt hi => ?_) i hlt h.1
    obtain ⟨oj, ho, e, he, hb, hon⟩ := waitM_spec hlt hi
    exact .direct ho he hb hon
   ·exact finM_spec hlt h.2 f hf
theorem closed_zero (ops : Array Oper) : ClosedL ops (listedOf ops.size 0) := fun j oj hj hl => by
 rw [listedOf_getD] at hl
 split at hl <;> simp at hl
theorem closedM_spec {ops : Array Oper} {m : Nat} (h : closedM ops m = true) : ClosedL ops (listedOf ops.size m) := fun j oj hj hl e he hb => by
 rw [listedOf_getD] at hl ⊢
 split at hl
 ·rename_i hlt
  simp only [closedM, List.all_eq_true, List.mem_range, tb_eq] at h
  have h1 := h j hlt
  rw [hl] at h1
  simp only [Bool.not_true, Bool.false_or, Bool.and_eq_true] at h1
  have hw := waitM_of hj he hb
  have h2 := subM_spec.1 h1.2 _ hw
  have h3 : waitM ops j < 1 <<< ops.size := by
   have := h1.1
   rwa [Nat.blt_eq] at this
  rw [if_pos]
  ·exact h2
  ·refine Nat.lt_of_not_le fun hle => ?_
   rw [Nat.testBit_lt_two_pow (Nat.lt_of_lt_of_le h3 (by rw [Nat.one_shiftLeft]; exact Nat.pow_le_pow_right (by omega) hle))] at hw
   cases hw
 ·cases hl
def RestS (P : Program) (w0 : World) (keep : Nat → Prop) (K : α → Prop) (ops : Array Oper) (fs : List Nat) (L0 : List Blk) (c : F → List Blk → T α) (rest : RestE α) : Prop :=
 ∀ (n m : Nat) (a : F) (L : List Blk) (Q : Exit → Act → World → Prop), (∀ c a w, ¬ Q (.panic c) a w) → (rest n m a L).all K → ClosedL ops (listedOf ops.size m) → ∀ (b : Act) (W : World), RelF a b → Rep w0 keep L W → There L0 W →
  (∀ a' L' b' W', (c a' L').all K → RelF a' b' → Rep w0 keep L' W' → Q .normal b' W') → wpAnyX P ops Q (There L0) (fun j => j ∈ fs) n (listedOf ops.size m) b W
theorem evRest_sound {ops : Array Oper} {fs : List Nat} (hns : Region.noSelect ops = true) {L0 : List Blk} {c : F → List Blk → T α} {fin : RestE α} (hf0 : RestS P w0 keep K ops fs L0 c fin) (m : Nat) (hord : ordered ops (listedOf ops.size m) = true) (hch : chained ops (listedOf ops.size m) = true) (n : Nat) (td : List Nat) (a : F) (L : List Blk) (Q : Exit → Act → World → Prop) (hQ0 : ∀ c a w, ¬ Q (.panic c) a w) (h : (evRest P ops (fun n m a L => match closedM ops m with
  | true => fin n m a L
  | false => .fail) n td 0 m a L).all K) (b : Act) (W : World) (hf : RelF a b) (hr : Rep w0 keep L W) (hS : There L0 W)
  (hQ : ∀ a' L' b' W', (c a' L').all K → RelF a' b' → Rep w0 keep L' W' → Q .normal b' W') : wpAnyX P ops Q (There L0) (fun j => j ∈ fs) n (listedOf ops.size m) b W := by
 have hthere : ∀ N W', Grown W N W' → There L0 W' := fun N W' hg p hp => by
  have h1 := hS p hp
  obtain ⟨o, ho⟩ := Cont.some_of h1
  rw [hg.old _ (Array.getElem?_eq_some_iff.1 ho).1]
  exact h1
 refine canK_any hns (w1 := W) (N := look []) hthere n (ordered_spec hord) (chained_spec hch) (evRest_can (L0 := L) (M := []) (fun k l a' L' b' M hk hf' hL hd W' hg => ?_) n h hf rfl List.nodup_nil) ⟨rfl, rfl, rfl, Nat.le_refl _, fun _ _ => rfl, fun _ _ hp => (by cases hp)⟩
 split at hk
 ·rename_i hcm
  exact hf0 k l a' L' Q hQ0 hk (closedM_spec hcm) b' W' hf' (hr.grown hg hd hL) (hthere _ W' hg) hQ
 ·exact hk.elim
theorem evFin_sound (hSS : S.holds P) {fn : FuncId} {call : CallE α} (hs : SoundC P w0 keep K call) {ops : Array Oper} {fs : List Nat} {L0 : List Blk} {c : F → List Blk → T α} :
  ∀ (n : Nat) (m : Nat) (a : F) (L : List Blk) (Q : Exit → Act → World → Prop), (evFin P S fn call ops fs c n m a L).all K →
  ∀ (b : Act) (W : World), RelF a b → Rep w0 keep L W → (∀ a' L' b' W', (c a' L').all K → RelF a' b' → Rep w0 keep L' W' → Q .normal b' W') → wpAnyX P ops Q (There L0) (fun j => j ∈ fs) n (listedOf ops.size m) b W
 | 0, m, a, L, Q, h, b, W, hf, hr, hQ => by
   simp only [evFin] at h
   split at h
   ·rename_i hrd
    exact wpAnyX_done (by rw [readyM_eq]; exact hrd) (hQ _ _ _ _ h hf hr) 0
   ·exact h.elim
 | n + 1, m, a, L, Q, h, b, W, hf, hr, hQ => by
   simp only [evFin] at h
   split at h
   ·rename_i hrd
    exact wpAnyX_done (by rw [readyM_eq]; exact hrd) (hQ _ _ _ _ h hf hr) (n + 1)
   ·rename_i i r hrd
    refine wpAnyX_all (rs := i :: r) (by rw [readyM_eq]; exact hrd) (by simp) fun k hk => ?_
    have h := outsT_all h k hk
    split at h
    ·rename_i hkf
     refine evAt_sound hSS hs h hf hr (fun a' L' b' W' hk hf' hr' => ?_)
     exact ⟨.inl (by simpa using hkf), by rw [listedOf_set]; exact evFin_sound hSS hs n _ _ _ Q hk _ _ hf' hr' hQ⟩
    ·exact h.elim
theorem rep_hide {L : List Blk} {W : World} {H : Nat → Prop} (hr : Rep w0 keep L W) (hown : ∀ p ∈ L, p.own = true → ¬ H p.nm) : Rep W (fun k => (k < w0.heap.size ∧ keep k) ∨ H k) L W :=
 ⟨rfl, rfl, rfl, Nat.le_refl _, fun _ _ _ => rfl, fun p hp => ⟨(hr.blk p hp).1, fun ho _ hk => hk.elim (fun h => (hr.blk p hp).2 ho h.1 h.2) (hown p hp ho)⟩, hr.far⟩
theorem rep_show {L L' : List Blk} {W W' : World} {H : Nat → Prop} (hr : Rep w0 keep L W) (hH : ∀ k, H k → k < W.heap.size) (h : Rep W (fun k => (k < w0.heap.size ∧ keep k) ∨ H k) L' W') :
  Rep w0 keep L' W' ∧ (∀ k, H k → W'.heap[k]? = W.heap[k]?) ∧ (∀ p ∈ L', p.own = true → ¬ H p.nm) ∧ W.heap.size ≤ W'.heap.size := by
 refine ⟨⟨h.os.trans hr.os, h.tape.trans hr.tape, h.output.trans hr.output, Nat.le_trans hr.size h.size, fun k hk hkp => (h.old k (Nat.lt_of_lt_of_le hk hr.size) (.inl ⟨hk, hkp⟩)).trans (hr.old k hk hkp), fun p hp => ⟨(h.blk p hp).1, fun ho hlt hkp => (h.blk p hp).2 ho (Nat.lt_of_lt_of_le hlt hr.size) (.inl ⟨hlt, hkp⟩)⟩, h.far⟩, fun k hk => h.old k (hH k hk) (.inr hk), fun p hp ho hk => (h.blk p hp).2 ho (hH _ hk) (.inr hk), h.size⟩
theorem RelF.over {f : F} {a : Act} {d : Nat} {v u : Value} (h : RelF (f.put (some d) v) a) : RelF (f.put (some d) u) (a.put (some d) u) := by
 have h2 := h.put (some d) u
 obtain ⟨n, w⟩ := f
 have e : ∀ w : List (Nat × Value), F.put ⟨n, w⟩ (some d) u = match Nat.blt d n with
   | true => ⟨n, (d, u) :: w⟩
   | false => ⟨n, w⟩ := fun _ => rfl
 have e2 : F.put ⟨n, w⟩ (some d) v = match Nat.blt d n with
   | true => ⟨n, (d, v) :: w⟩
   | false => ⟨n, w⟩ := rfl
 rw [e2] at h2
 rw [e w]
 split at h2
 ·rename_i hb
  have e3 : F.put ⟨n, (d, v) :: w⟩ (some d) u = ⟨n, (d, u) :: (d, v) :: w⟩ := by rw [e, hb]
  rw [e3] at h2
  refine ⟨h2.defers, h2.size, fun t => ?_⟩
  rw [h2.get t]
  show getW ((d, u) :: (d, v) :: w) t = getW ((d, u) :: w) t
  rw [getW_cons, getW_cons, getW_cons]
  split <;> rfl
 ·rename_i hb
  have e3 : F.put ⟨n, w⟩ (some d) u = ⟨n, w⟩ := by rw [e, hb]
  rw [e3] at h2
  exact h2
theorem oldT_spec {Ls : List Blk} {k : T α} : ∀ {L : List Blk}, (oldT Ls L k).all K → (∀ p ∈ L, p.own = false → ∃ q ∈ Ls, q.nm = p.nm) ∧ k.all K
 | [], h => ⟨fun _ h => (by cases h), h⟩
 | p :: r, h => by
   unfold oldT at h
   split at h
   ·rename_i ho
    obtain ⟨h1, h2⟩ := oldT_spec h
    refine ⟨fun q hq hno => ?_, h2⟩
    rcases List.mem_cons.1 hq with rfl | hq
    ·rw [ho] at hno; cases hno
    ·exact h1 q hq hno
   ·obtain ⟨b, j, hj, hb, h⟩ := pickT_spec h
    obtain ⟨h1, h2⟩ := oldT_spec h
    refine ⟨fun q hq hno => ?_, h2⟩
    rcases List.mem_cons.1 hq with rfl | hq
    ·exact ⟨b, List.mem_of_getElem? hj, hb.symm⟩
    ·exact h1 q hq hno
theorem oldTT_spec {Ls L : List Blk} {k : T α} (h : (oldTT Ls L k).all K) : (∀ p ∈ L, p.own = false → ∃ q ∈ Ls, q.nm = p.nm) ∧ k.all K := by
 rcases two_spec h with h | h
 ·exact oldT_spec h
 ·obtain ⟨d, d1, h1, h⟩ := h
  obtain ⟨h2, h⟩ := oldT_spec h
  refine ⟨fun p hp hno => ?_, h⟩
  rw [← List.take_append_drop d L] at hp
  rcases List.mem_append.1 hp with hp | hp
  ·exact h2 p hp hno
  ·rw [tok_blks h1] at hp
   exact ⟨p, List.mem_of_mem_drop hp, rfl⟩
theorem eqN_spec : ∀ {l r : List Nat}, eqN l r = true → l = r
 | [], [], _ => rfl
 | [], _ :: _, h => by cases h
 | _ :: _, [], h => by cases h
 | a :: l, b :: r, h => by
   unfold eqN at h
   split at h
   ·rename_i hb
    rw [Nat.eq_of_beq_eq_true hb, eqN_spec h]
   ·cases h
theorem mem_dropOne {i k : Nat} (hne : k ≠ i) : ∀ {l : List Nat}, k ∈ l → k ∈ dropOne i l
 | [], h => by cases h
 | j :: r, h => by
   unfold dropOne
   split
   ·rename_i hb
    have hb := Nat.eq_of_beq_eq_true hb
    rcases List.mem_cons.1 h with rfl | h
    ·exact absurd hb.symm hne
    ·exact h
   ·rcases List.mem_cons.1 h with rfl | h
    ·exact Sy.mH
    ·exact Sy.mC _ (mem_dropOne hne h)
theorem dropOne_sub {i k : Nat} : ∀ {l : List Nat}, k ∈ dropOne i l → k ∈ l
 | [], h => by cases h
 | j :: r, h => by
   unfold dropOne at h
   split at h
   ·exact Sy.mC _ h
   ·rcases List.mem_cons.1 h with rfl | h
    ·exact Sy.mH
    ·exact Sy.mC _ (dropOne_sub h)
def allocS (t : TypeId) : Sem Next := (((((Sem.program fun p => Sem.pure p).bind fun p => match p.info? t with
 | some i => (Sem.pure i : Sem TypeInfo)
 | none => stuck "no such type").bind fun i => match i.zero with
 | some v => (Sem.pure v : Sem Value)
 | none => unsupported (.resourceLimit "a value of more than 2^22 cells")).bind fun z => (((Sem.new (.cells z.cells t) fun r => Sem.pure r).bind fun r => Sem.pure (⟨r, 0, none⟩ : Addr)).bind fun ad => Sem.pure (Value.pointer (some ad)))).bind fun v => Sem.pure (Next.value v))
theorem alloc_wp {ops : Array Oper} {i d t : Nat} {z : Array Value} (h : allocOf P ops i = some (d, t, z)) {b : Act} {W : World} {Q : Exit → Act → World → Prop} {K' : Act → World → Prop}
  (hK : K' (b.put (some d) (.pointer (some ⟨W.heap.size, 0, none⟩))) { W with heap := W.heap.push (.cells z t (0, 0)) }) : wpOp P ops Q i K' b W := by
 unfold allocOf at h
 split at h
 ·rename_i o ho
  split at h
  ·rename_i d' t' hg hd hop
   split at h
   ·rename_i inf hi
    split at h
    ·rename_i zz hz
     injection h with h
     simp only [Prod.mk.injEq] at h
     obtain ⟨rfl, rfl, rfl⟩ := h
     have hw : Region.wanted o (yielded ops b.tmps) = true := by unfold Region.wanted; simp only [hg]
     have ex : execOp b.eval o = allocS t' := by
      unfold execOp
      rw [hop]
      rfl
     have hrun : (execOp b.eval o).run P W = .ok (.value (.pointer (some ⟨W.heap.size, 0, none⟩))) { W with heap := W.heap.push (.cells zz.cells t' (0, 0)) } := by
      rw [ex]
      show ((((match P.info? t' with
       | some i => (Sem.pure i : Sem TypeInfo)
       | none => stuck "no such type").bind fun i => match i.zero with
       | some v => (Sem.pure v : Sem Value)
       | none => unsupported (.resourceLimit "a value of more than 2^22 cells")).bind fun z => (((Sem.new (.cells z.cells t') fun r => Sem.pure r).bind fun r => Sem.pure (⟨r, 0, none⟩ : Addr)).bind fun ad => Sem.pure (Value.pointer (some ad)))).bind fun v => Sem.pure (Next.value v)).run P W = _
      rw [hi]
      show (((match inf.zero with
       | some v => (Sem.pure v : Sem Value)
       | none => unsupported (.resourceLimit "a value of more than 2^22 cells")).bind fun z => (((Sem.new (.cells z.cells t') fun r => Sem.pure r).bind fun r => Sem.pure (⟨r, 0, none⟩ : Addr)).bind fun ad => Sem.pure (Value.pointer (some ad)))).bind fun v => Sem.pure (Next.value v)).run P W = _
      rw [hz]
      rfl
     unfold wpOp
     simp only [ho, hw, if_true]
     left
     unfold Oper.wp
     rw [hrun]
     show K' (b.put o.dst _) _
     rw [hd]
     exact hK
    ·cases h
   ·cases h
  ·cases h
 ·cases h
structure Fl (w0 : World) (keep : Nat → Prop) (x : Obj) (d : Nat) (Ls L0 : List Blk) (st : Option Nat) (a : F) (L : List Blk) (b : Act) (W : World) : Prop where
 rel : ∃ v, RelF (a.put (some d) v) b ∧ ∀ nb, st = some nb → v = .pointer (some ⟨nb, 0, none⟩)
 rep : Rep w0 keep L W
 there : There L0 W
 old : ∀ q ∈ Ls, q.nm < W.heap.size ∧ st ≠ some q.nm
 hid : ∀ nb, st = some nb → W.heap[nb]? = some x ∧ w0.heap.size ≤ nb
 own : ∀ p ∈ L, p.own = true → st ≠ some p.nm
section fl
variable {x : Obj} {d : Nat} {Ls L0 : List Blk} {a : F} {L : List Blk} {b : Act} {W : World}
theorem Fl.hide {st : Option Nat} (h : Fl w0 keep x d Ls L0 st a L b W) : Rep W (fun k => (k < w0.heap.size ∧ keep k) ∨ st = some k) L W := rep_hide (H := fun k => st = some k) h.rep h.own
theorem Fl.show {st : Option Nat} (h : Fl w0 keep x d Ls L0 st a L b W) {a' : F} {L' : List Blk} {b' : Act} {W' : World} (hr : Rep W (fun k => (k < w0.heap.size ∧ keep k) ∨ st = some k) L' W') {v : Value} (hf : RelF a' b') (hv : a'.get d = v) (hp : ∀ nb, st = some nb → v = .pointer (some ⟨nb, 0, none⟩)) (ht : There L0 W') : Fl w0 keep x d Ls L0 st a' L' b' W' := by
 have hH : ∀ k, st = some k → k < W.heap.size := fun k hk => (Array.getElem?_eq_some_iff.1 (h.hid k hk).1).1
 obtain ⟨g1, g2, g3, g4⟩ := rep_show (H := fun k => st = some k) h.rep hH hr
 exact ⟨⟨v, hf.same hv, hp⟩, g1, ht, fun q hq => ⟨Nat.lt_of_lt_of_le (h.old q hq).1 g4, (h.old q hq).2⟩, fun nb hnb => ⟨(g2 nb hnb).trans (h.hid nb hnb).1, (h.hid nb hnb).2⟩, g3⟩
theorem Fl.still {st : Option Nat} (h : Fl w0 keep x d Ls L0 st a L b W) {a' : F} {b' : Act} {v : Value} (hf : RelF a' b') (hv : a'.get d = v) (hp : ∀ nb, st = some nb → v = .pointer (some ⟨nb, 0, none⟩)) : Fl w0 keep x d Ls L0 st a' L b' W :=
 ⟨⟨v, hf.same hv, hp⟩, h.rep, h.there, h.old, h.hid, h.own⟩
theorem Fl.done (h : Fl w0 keep x d Ls L0 none a L b W) : Fl w0 keep x d Ls L0 (some W.heap.size) a L (b.put (some d) (.pointer (some ⟨W.heap.size, 0, none⟩))) { W with heap := W.heap.push x } := by
 obtain ⟨v, hv, -⟩ := h.rel
 have hp := h.rep.push x
 have hp' : Rep w0 keep L { W with heap := W.heap.push x } := hp.sub (List.sublist_cons_self _ _)
 refine ⟨⟨_, hv.over, fun nb hnb => by injection hnb with hnb; rw [hnb]⟩, hp', fun p hpm => ?_, fun q hq => ?_, fun nb hnb => ?_, fun p hpm _ he => ?_⟩
 ·have h1 := h.there p hpm
  obtain ⟨o, ho⟩ := Cont.some_of h1
  have hlt := (Array.getElem?_eq_some_iff.1 ho).1
  show p.ct.sat (W.heap.push x)[p.nm]?
  rw [Array.getElem?_push, if_neg (by omega)]
  exact h1
 ·have := (h.old q hq).1
  refine ⟨?_, fun he => ?_⟩
  ·show q.nm < (W.heap.push x).size
   rw [Array.size_push]
   omega
  ·injection he with he
   omega
 ·injection hnb with hnb
  subst hnb
  refine ⟨?_, h.rep.size⟩
  show (W.heap.push x)[W.heap.size]? = some x
  rw [Array.getElem?_push, if_pos rfl]
 ·injection he with he
  have := h.rep.lt hpm
  omega
theorem Fl.told {nb : Nat} (h : Fl w0 keep x d Ls L0 (some nb) a L b W) (hold : ∀ p ∈ L, p.own = false → ∃ q ∈ Ls, q.nm = p.nm) : RelF (a.put (some d) (.pointer (some ⟨nb, 0, none⟩))) b ∧ Rep w0 keep (⟨nb, .obj x, true⟩ :: L) W := by
 obtain ⟨v, hv, hp⟩ := h.rel
 rw [hp nb rfl] at hv
 obtain ⟨h1, h2⟩ := h.hid nb rfl
 refine ⟨hv, h.rep.os, h.rep.tape, h.rep.output, h.rep.size, h.rep.old, fun p hpm => ?_, ?_⟩
 ·rcases List.mem_cons.1 hpm with rfl | hpm
  ·refine ⟨h1, fun _ hlt => ?_⟩
   simp only at hlt
   omega
  ·exact h.rep.blk p hpm
 ·rw [List.pairwise_cons]
  refine ⟨fun q hq _ he => ?_, h.rep.far⟩
  have he : nb = q.nm := he
  cases ho : q.own with
  | true => exact h.own q hq ho (by rw [he])
  | false =>
    obtain ⟨p, hp1, hp2⟩ := hold q hq ho
    exact (h.old p hp1).2 (by rw [hp2, he])
end fl
theorem or_swap (m i j : Nat) : m ||| 1 <<< i ||| 1 <<< j = m ||| 1 <<< j ||| 1 <<< i := by
 refine Nat.eq_of_testBit_eq fun k => ?_
 simp only [Nat.testBit_or]
 cases m.testBit k <;> cases (1 <<< i).testBit k <;> cases (1 <<< j).testBit k <;> rfl
theorem evFl_sound (hSS : S.holds P) {fn : FuncId} {call : CallE α} (hs : ∀ w0 keep, SoundC P w0 keep K call) {ops : Array Oper} (hns : Region.noSelect ops = true) {fs : List Nat} {fw : Nat} (hfw : ∀ j, j < ops.size → fw.testBit j = true → ∀ f ∈ fs, Waits ops j f) {L0 : List Blk} {bk : List Blk → List Blk} (hbk : ∀ L p, p ∈ bk L → p ∈ L)
  {c : F → List Blk → T α} {i d t : Nat} {z : Array Value} (hal : allocOf P ops i = some (d, t, z)) {Ls : List Blk} {fin : RestE α} (hfin : RestS P w0 keep K ops fs L0 c fin) :
  ∀ (n : Nat) (m : Nat) (a : F) (L : List Blk) (Q : Exit → Act → World → Prop), (∀ c a w, ¬ Q (.panic c) a w) → (evFl P S fn call ops fw L0 bk i d (.cells z t (0, 0)) Ls fin n m a L).all K → ClosedL ops (listedOf ops.size m) → i ∈ readyM ops m →
  (∀ a' L' b' W', (c a' L').all K → RelF a' b' → Rep w0 keep L' W' → Q .normal b' W') →
   (∀ nb b W, Fl w0 keep (.cells z t (0, 0)) d Ls L0 (some nb) a L b W → wpAnyX P ops Q (There L0) (fun j => j ∈ fs) (n - 1) (listedOf ops.size (m ||| 1 <<< i)) b W) ∧
   (∀ b W, Fl w0 keep (.cells z t (0, 0)) d Ls L0 none a L b W → wpAnyX P ops Q (There L0) (fun j => j ∈ fs) n (listedOf ops.size m) b W)
 | 0, m, a, L, Q, hQ0, h, _, _, _ => h.elim
 | n + 1, m, a, L, Q, hQ0, h, hcl, hir, hQ => by
   simp only [evFl, tb_eq] at h
   obtain ⟨j, h⟩ := h
   dsimp only at h
   have hil : ClosedL ops (listedOf ops.size (m ||| 1 <<< i)) := by rw [← listedOf_set]; exact hcl.set (by rw [readyM_eq]; exact hir)
   have next : ∀ {k : Nat}, k ∈ readyM ops m → k ≠ i → ClosedL ops (listedOf ops.size (m ||| 1 <<< k)) ∧ i ∈ readyM ops (m ||| 1 <<< k) := fun {k} hk hne => by
    refine ⟨by rw [← listedOf_set]; exact hcl.set (by rw [readyM_eq]; exact hk), ?_⟩
    rw [← readyM_eq, ← listedOf_set]
    exact ready_mono (by rw [readyM_eq]; exact hir) (Ne.symm hne)
   split at h
   ·
    split at h
    ·exact h.elim
    ·rename_i hji
     simp only [Bool.or_eq_false_iff] at hji
     obtain ⟨hji, hn0⟩ := hji
     have hji : j ≠ i := fun he => by rw [he, Nat.beq_refl] at hji; cases hji
     obtain ⟨n', rfl⟩ : ∃ n', n = n' + 1 := by
      cases n with
      | zero => simp at hn0
      | succ n' => exact ⟨n', rfl⟩
     have both : ∀ (st : Option Nat) (b : Act) (W : World), Fl w0 keep (.cells z t (0, 0)) d Ls L0 st a L b W → ∃ o v, ops[j]? = some o ∧ j ∈ readyM ops m ∧ Region.free .any ops (listedOf ops.size m) j = true ∧ (YieldsIf P ops (There []) o v b ∨ (YieldsIf P ops (There L0) o v b ∧ ∀ f of, f ∈ fs → ops[f]? = some of → Waits ops j f)) ∧ ∃ a', Fl w0 keep (.cells z t (0, 0)) d Ls L0 st a' L (b.put o.dst v) W ∧ (evFl P S fn call ops fw L0 bk i d (.cells z t (0, 0)) Ls fin (n' + 1) (m ||| 1 <<< j) a' L).all K := fun st b W hF => by
      obtain ⟨v, hv, hp⟩ := hF.rel
      have h := h ⟨0, 0, false, v, [], []⟩
      dsimp only at h
      split at h
      ·obtain ⟨g', a', o, v', ho, hmem, hfr, hy, hf', hi', he, h⟩ := heldT_sound (W0 := W) (fun _ hp => (by cases hp)) hv (Inv.none b) h
       exact ⟨o, v', ho, hmem, hfr, .inl hy, a', hF.still hf' (tok_val he) hp, h⟩
      ·rename_i hfb
       obtain ⟨g', a', o, v', ho, hmem, hfr, hy, hf', hi', he, h⟩ := heldT_sound hF.there hv (Inv.none b) h
       exact ⟨o, v', ho, hmem, hfr, .inr ⟨hy, fun f of hf hof => hfw _ (Array.getElem?_eq_some_iff.1 ho).1 hfb f hf⟩, a', hF.still hf' (tok_val he) hp, h⟩
     constructor
     ·intro nb b W hF
      obtain ⟨o, v, ho, hmem, hfr, hy, a', hF', h⟩ := both _ b W hF
      have ih := (evFl_sound hSS hs hns hfw hbk hal hfin (n' + 1) (m ||| 1 <<< j) a' L Q hQ0 h (next hmem hji).1 (next hmem hji).2 hQ).1 nb _ _ hF'
      have hfr' := Region.free_spec ho hfr
      have hr' : j ∈ Region.ready .any ops (listedOf ops.size (m ||| 1 <<< i)) := by
       rw [← listedOf_set]
       exact ready_mono (by rw [readyM_eq]; exact hmem) hji
      have hfr2 : ∀ k ok, ops[k]? = some ok → k ≠ j → (listedOf ops.size (m ||| 1 <<< i)).getD k true = false → (∀ e ∈ ok.after, Region.binds .any e = true → e.on ≠ j) → o.apart ops ok = true := fun k ok hk hkj hun hno => by
       rw [← listedOf_set] at hun
       exact hfr' k ok hk hkj (getD_set_of hun) hno
      rcases hy with hy | ⟨hy, hw⟩
      ·refine wpAnyX_firstP ho (Region.noSelect_spec hns) (fun c b w hq => (hQ0 c _ w hq).elim) n' _ _ _ hfr2 hr' (hy.imp (fun h => ⟨h.1, fun W _ => h.2 W fun _ hp => (by cases hp)⟩) id) ?_
       rw [listedOf_set, or_swap]
       exact ih
      ·refine wpAnyX_first ho (Region.noSelect_spec hns) (fun c b w hq => (hQ0 c _ w hq).elim) hw n' _ _ _ hil hfr2 hr' hy hF.there ?_
       rw [listedOf_set, or_swap]
       exact ih
     ·intro b W hF
      obtain ⟨o, v, ho, hmem, hfr, hy, a', hF', h⟩ := both _ b W hF
      have ih := (evFl_sound hSS hs hns hfw hbk hal hfin (n' + 1) (m ||| 1 <<< j) a' L Q hQ0 h (next hmem hji).1 (next hmem hji).2 hQ).2 _ _ hF'
      rw [← listedOf_set] at ih
      rcases hy with hy | ⟨hy, hw⟩
      ·exact wpAnyX_takeP ho hns hfr (by rw [readyM_eq]; simpa using hmem) (fun c b w hq => (hQ0 c _ w hq).elim) (hy.imp (fun h => ⟨h.1, fun W _ => h.2 W fun _ hp => (by cases hp)⟩) id) ih
      ·exact wpAnyX_take ho hns hfr (by rw [readyM_eq]; simpa using hmem) (fun c b w hq => (hQ0 c _ w hq).elim) hw hcl hy hF.there ih
   ·split at h
    ·
     split at h
     ·rename_i k hrd
      split at h
      ·rename_i hki
       have hki := Nat.eq_of_beq_eq_true hki
       subst hki
       obtain ⟨hold, h⟩ := oldTT_spec h
       have B : ∀ nb b W, Fl w0 keep (.cells z t (0, 0)) d Ls L0 (some nb) a L b W → wpAnyX P ops Q (There L0) (fun j => j ∈ fs) n (listedOf ops.size (m ||| 1 <<< k)) b W := fun nb b W hF => by
        obtain ⟨g1, g2⟩ := hF.told hold
        exact hfin n _ _ _ Q hQ0 (h ⟨nb, 0, false, undef, [], []⟩) hil b W g1 g2 hF.there hQ
       refine ⟨B, fun b W hF => wpAnyX_all (rs := [k]) (by rw [readyM_eq]; exact hrd) (by simp) fun k' hk' => ?_⟩
       rcases List.mem_singleton.1 hk' with rfl
       have hD := hF.done
       refine alloc_wp hal ⟨.inr fun _ => hD.there, ?_⟩
       rw [listedOf_set]
       exact B _ _ _ hD
      ·exact h.elim
     ·exact h.elim
    ·
     split at h
     ·exact h.elim
     ·rename_i hc
      simp only [Bool.or_eq_false_iff, Bool.not_eq_false'] at hc
      obtain ⟨hn0, heq⟩ := hc
      have heq := eqN_spec heq
      obtain ⟨n', rfl⟩ : ∃ n', n = n' + 1 := by
       cases n with
       | zero => simp at hn0
       | succ n' => exact ⟨n', rfl⟩
      have step : ∀ (st : Option Nat) (k : Nat) (b : Act) (W : World), k ∈ dropOne i (readyM ops m) → Fl w0 keep (.cells z t (0, 0)) d Ls L0 st a L b W → wpOp P ops Q k (fun b' W' => There L0 W' ∧ ∃ a' L', Fl w0 keep (.cells z t (0, 0)) d Ls L0 st a' L' b' W' ∧ (evFl P S fn call ops fw L0 bk i d (.cells z t (0, 0)) Ls fin (n' + 1) (m ||| 1 <<< k) a' L').all K) b W := fun st k b W hk hF => by
       obtain ⟨v, hv, hp⟩ := hF.rel
       have h := outsT_all h k hk ⟨0, 0, false, v, [], []⟩
       refine evAt_sound hSS (hs W _) h hv hF.hide (fun a' L' b' W' hk hf' hr' => ?_)
       obtain ⟨he, hk⟩ := hk
       rw [forceL_eq] at hk
       rcases two_spec hk with hk | hk
       ·obtain ⟨h1, h2⟩ := hk
        have h1 : There L0 W' := by
         rw [tok_blks h1]
         exact fun p hp => (hr'.blk p (hbk _ p hp)).1
        exact ⟨h1, a', L', hF.show hr' hf' (tok_val he) hp h1, h2⟩
       ·have hk : (∀ b ∈ L0, b ∈ L') ∧ (evFl P S fn call ops fw L0 bk i d (.cells z t (0, 0)) Ls fin (n' + 1) (m ||| 1 <<< k) a' L').all K := by
         rcases two_spec hk with hk | hk
         ·obtain ⟨l, hm, h1, h2⟩ := backAll_sound _ hk
          exact ⟨fun b hb => by rw [tok_blks h1] at hb; exact hm b hb, h2⟩
         ·exact backTT_sound hk
        obtain ⟨hm, h2⟩ := hk
        have h1 : There L0 W' := fun p hp => (hr'.blk p (hm p hp)).1
        exact ⟨h1, a', L', hF.show hr' hf' (tok_val he) hp h1, h2⟩
      have B : ∀ nb b W, Fl w0 keep (.cells z t (0, 0)) d Ls L0 (some nb) a L b W → wpAnyX P ops Q (There L0) (fun j => j ∈ fs) (n' + 1) (listedOf ops.size (m ||| 1 <<< i)) b W := fun nb b W hF => by
       by_cases hne : dropOne i (readyM ops m) = []
       ·rw [hne] at h
        exact h.elim
       refine wpAnyX_all (rs := dropOne i (readyM ops m)) (by rw [readyM_eq]; exact heq) hne fun k hk => ?_
       have hk2 : k ∈ Region.ready .any ops (listedOf ops.size (m ||| 1 <<< i)) := by rw [readyM_eq, heq]; exact hk
       have hki : k ≠ i := fun he => by
        have h1 := (mem_ready.1 hk2).1
        rw [he, ← listedOf_set] at h1
        have hlt : i < (listedOf ops.size m).size := by
         have := getD_of_ready (by rw [readyM_eq]; exact hir : i ∈ Region.ready .any ops (listedOf ops.size m))
         rcases Nat.lt_or_ge i (listedOf ops.size m).size with h' | h'
         ·exact h'
         ·rw [Array.getD_eq_getD_getElem?, Array.getElem?_eq_none h'] at this; cases this
        simp [hlt] at h1
       refine wpOp_mono (fun b' W' ⟨h1, a', L', hF', h2⟩ => ⟨.inr fun _ => h1, ?_⟩) (step _ k b W hk hF)
       have hkm := dropOne_sub hk
       rw [listedOf_set, or_swap]
       exact (evFl_sound hSS hs hns hfw hbk hal hfin (n' + 1) (m ||| 1 <<< k) a' L' Q hQ0 h2 (next hkm hki).1 (next hkm hki).2 hQ).1 nb b' W' hF'
      refine ⟨B, fun b W hF => ?_⟩
      refine wpAnyX_all (rs := readyM ops m) (readyM_eq _ _) (fun he => by rw [he] at hir; cases hir) fun k hk => ?_
      by_cases hki : k = i
      ·subst hki
       have hD := hF.done
       refine alloc_wp hal ⟨.inr fun _ => hD.there, ?_⟩
       rw [listedOf_set]
       exact B _ _ _ hD
      ·refine wpOp_mono (fun b' W' ⟨h1, a', L', hF', h2⟩ => ⟨.inr fun _ => h1, ?_⟩) (step _ k b W (mem_dropOne hki hk) hF)
       rw [listedOf_set]
       exact (evFl_sound hSS hs hns hfw hbk hal hfin (n' + 1) (m ||| 1 <<< k) a' L' Q hQ0 h2 (next hk hki).1 (next hk hki).2 hQ).2 b' W' hF'
theorem evFloat_sound (hSS : S.holds P) {fn : FuncId} {call : CallE α} (hs : ∀ w0 keep, SoundC P w0 keep K call) {ops : Array Oper} (hns : Region.noSelect ops = true) {fs : List Nat} {fw : Nat} (hfw : ∀ j, j < ops.size → fw.testBit j = true → ∀ f ∈ fs, Waits ops j f) {L0 : List Blk} {bk : List Blk → List Blk} (hbk : ∀ L p, p ∈ bk L → p ∈ L)
  {c : F → List Blk → T α} {fin : RestE α} (hfin : RestS P w0 keep K ops fs L0 c fin) : RestS P w0 keep K ops fs L0 c (evFloat P S fn call ops fw L0 bk fin) := by
 intro n m a L Q hQ0 h hcl b W hf hr hS hQ
 unfold evFloat at h
 split at h
 ·exact h.elim
 rename_i i _
 split at h
 ·exact h.elim
 rename_i hrd
 split at h
 ·exact h.elim
 rename_i d t z hal
 exact (evFl_sound hSS hs hns hfw hbk hal hfin n m a L Q hQ0 h hcl (isReady_spec hrd) hQ).2 b W ⟨⟨a.get d, hf.same rfl, fun _ h => (by cases h)⟩, hr, hS, fun q hq => ⟨hr.lt hq, fun h => (by cases h)⟩, fun _ h => (by cases h), fun _ _ _ h => (by cases h)⟩
theorem evAny_sound (hSS : S.holds P) {fn : FuncId} {call : CallE α} (hs : SoundC P w0 keep K call) {ops : Array Oper} (hns : Region.noSelect ops = true) {fs : List Nat} {fw : Nat} (hfw : ∀ j, j < ops.size → fw.testBit j = true → ∀ f ∈ fs, Waits ops j f) {L0 : List Blk} {bk : List Blk → List Blk} (hbk : ∀ L p, p ∈ bk L → p ∈ L) {can : Nat → Bool} {rest flt : RestE α} {c : F → List Blk → T α} (hflt : RestS P w0 keep K ops fs L0 c flt)
  (hrest : ∀ (m : Nat), can m = true → ∀ (n : Nat) (a : F) (L : List Blk) (Q : Exit → Act → World → Prop), (∀ c a w, ¬ Q (.panic c) a w) → (rest n m a L).all K → ClosedL ops (listedOf ops.size m) → ∀ (b : Act) (W : World), RelF a b → Rep w0 keep L W → There L0 W →
   (∀ a' L' b' W', (c a' L').all K → RelF a' b' → Rep w0 keep L' W' → Q .normal b' W') → wpAnyX P ops Q (There L0) (fun j => j ∈ fs) n (listedOf ops.size m) b W) :
  ∀ (n : Nat) (m : Nat) (g : Option G) (a : F) (L : List Blk) (Q : Exit → Act → World → Prop), (∀ c a w, ¬ Q (.panic c) a w) → (evAny P S fn call ops fs fw L0 bk can rest flt c n m g a L).all K → ClosedL ops (listedOf ops.size m) →
  ∀ (b : Act) (W : World), RelF a b → Inv g b → Rep w0 keep L W → There L0 W → (∀ a' L' b' W', (c a' L').all K → RelF a' b' → Rep w0 keep L' W' → Q .normal b' W') → wpAnyX P ops Q (There L0) (fun j => j ∈ fs) n (listedOf ops.size m) b W
 | 0, m, g, a, L, Q, hQ0, h, _, b, W, hf, _, hr, hS, hQ => by
   simp only [evAny] at h
   split at h
   ·rename_i hrd
    exact wpAnyX_done (by rw [readyM_eq]; exact hrd) (hQ _ _ _ _ h hf hr) 0
   ·exact h.elim
 | n + 1, m, g, a, L, Q, hQ0, h, hcl, b, W, hf, hi, hr, hS, hQ => by
   simp only [evAny, tb_eq] at h
   obtain ⟨j, h⟩ := h
   dsimp only at h
   split at h
   ·split at h
    ·obtain ⟨g', a', o, v, ho, hmem, hfr, hy, hf', hi', h⟩ := heldT_sound (W0 := W) (fun _ hp => (by cases hp)) hf hi h
     exact wpAnyX_takeP ho hns hfr (by rw [readyM_eq]; simpa using hmem) (fun c b w hq => (hQ0 c _ w hq).elim) (hy.imp (fun h => ⟨h.1, fun W _ => h.2 W fun _ hp => (by cases hp)⟩) id) (by rw [listedOf_set]; exact evAny_sound hSS hs hns hfw hbk hflt hrest n _ _ _ _ Q hQ0 h (by rw [← listedOf_set]; exact hcl.set (by rw [readyM_eq]; exact hmem)) _ _ hf' hi' hr hS hQ)
    rename_i hfb
    obtain ⟨g', a', o, v, ho, hmem, hfr, hy, hf', hi', h⟩ := heldT_sound hS hf hi h
    exact wpAnyX_take ho hns hfr (by rw [readyM_eq]; simpa using hmem) (fun c b w hq => (hQ0 c _ w hq).elim) (fun f of hf hof => hfw _ (Array.getElem?_eq_some_iff.1 ho).1 hfb f hf) hcl hy hS (by rw [listedOf_set]; exact evAny_sound hSS hs hns hfw hbk hflt hrest n _ _ _ _ Q hQ0 h (by rw [← listedOf_set]; exact hcl.set (by rw [readyM_eq]; exact hmem)) _ _ hf' hi' hr hS hQ)
   ·split at h
    ·split at h
     ·rename_i hrd
      exact wpAnyX_done (by rw [readyM_eq]; exact hrd) (hQ _ _ _ _ h hf hr) (n + 1)
     ·exact h.elim
    ·split at h
     ·split at h
      ·rename_i hcan
       exact hrest _ hcan _ _ _ Q hQ0 h hcl _ _ hf hr hS hQ
      ·exact h.elim
     split at h
     ·exact hflt _ _ _ _ Q hQ0 h hcl _ _ hf hr hS hQ
     ·by_cases hne : readyM ops m = []
      ·rw [hne] at h
       exact h.elim
      refine wpAnyX_all (readyM_eq _ _) hne fun k hk0 => ?_
      have h := outsT_all h k hk0
      refine evAt_sound hSS hs h hf hr (fun a' L' b' W' hk hf' hr' => ?_)
      split at hk
      ·rename_i hlast
       unfold lastM at hlast
       rw [Bool.and_eq_true] at hlast
       obtain ⟨hl1, hl2⟩ := hlast
       refine ⟨.inl (by simpa using hl1), ?_⟩
       rw [listedOf_set]
       refine wpAnyX_done ?_ (hQ _ _ _ _ hk hf' hr') n
       rw [readyM_eq]
       split at hl2
       ·rename_i h0
        exact h0
       ·cases hl2
      split at hk
      ·rename_i hrf
       unfold restFin at hrf
       rw [Bool.and_eq_true] at hrf
       exact ⟨.inl (by simpa using hrf.1), by rw [listedOf_set]; exact evFin_sound hSS hs n _ _ _ Q hk _ _ hf' hr' hQ⟩
      rw [forceL_eq] at hk
      have hk := two_spec hk
      rcases hk with hk | hk
      ·obtain ⟨h1, h2⟩ := hk
       have h1 : There L0 W' := by
        rw [tok_blks h1]
        exact fun p hp => (hr'.blk p (hbk _ p hp)).1
       exact ⟨.inr fun _ => h1, by rw [listedOf_set]; exact evAny_sound hSS hs hns hfw hbk hflt hrest n _ _ _ _ Q hQ0 h2 (by rw [← listedOf_set]; exact hcl.set (by rw [readyM_eq]; exact hk0)) _ _ hf' (Inv.none _) hr' h1 hQ⟩
      ·have hk : (∀ b ∈ L0, b ∈ L') ∧ (evAny P S fn call ops fs fw L0 bk can rest flt c n (m ||| 1 <<< k) none a' L').all K := by
        rcases two_spec hk with hk | hk
        ·obtain ⟨l, hm, h1, h2⟩ := backAll_sound _ hk
         exact ⟨fun b hb => by rw [tok_blks h1] at hb; exact hm b hb, h2⟩
        ·exact backTT_sound hk
       obtain ⟨hm, h2⟩ := hk
       have h1 : There L0 W' := fun p hp => (hr'.blk p (hm p hp)).1
       exact ⟨.inr fun _ => h1, by rw [listedOf_set]; exact evAny_sound hSS hs hns hfw hbk hflt hrest n _ _ _ _ Q hQ0 h2 (by rw [← listedOf_set]; exact hcl.set (by rw [readyM_eq]; exact hk0)) _ _ hf' (Inv.none _) hr' h1 hQ⟩
theorem evMany_sound (hSS : S.holds P) {fn : FuncId} {call : CallE α} (hs : ∀ w0 keep, SoundC P w0 keep K call) {ops : Array Oper} (hns : Region.noSelect ops = true) {fs : List Nat} {fw : Nat} (hfw : ∀ j, j < ops.size → fw.testBit j = true → ∀ f ∈ fs, Waits ops j f) {L0 : List Blk} {bk : List Blk → List Blk} (hbk : ∀ L p, p ∈ bk L → p ∈ L) {c : F → List Blk → T α} : ∀ m, RestS P w0 keep K ops fs L0 c (evMany P S fn call ops fs fw L0 bk c m)
 | 0 => fun n m a L Q h0 h1 hc b W h2 h3 h4 h5 => evAny_sound hSS (hs _ _) hns hfw hbk (flt := fun _ _ _ _ => .fail) (fun _ _ _ _ _ _ h => False.elim h) (fun _ h => (by cases h)) n m none a L Q h0 h1 hc b W h2 (Inv.none _) h3 h4 h5
 | r + 1 => fun n m a L Q h0 h1 hc b0 W0 g2 g3 g4 g5 => evAny_sound hSS (hs _ _) hns hfw hbk (evFloat_sound hSS hs hns hfw hbk (evMany_sound hSS hs hns hfw hbk r)) (fun m h n a L Q h0 h1 hc' b W h2 h3 h4 h5 => by
   simp only [Bool.and_eq_true] at h
   exact evRest_sound hns (evMany_sound hSS hs hns hfw hbk r) m h.1 h.2 n _ a L Q h0 h1 b W h2 h3 h4 h5) n m none a L Q h0 h1 hc b0 W0 g2 (Inv.none _) g3 g4 g5
theorem evLoop_sound {x : Code} {f : PieceE α} (hf : SoundE P w0 keep K x f) {c : Exit → F → List Blk → T α} : ∀ (m : Nat) (a : F) (L : List Blk), (evLoop f c m a L).all K →
  ∀ b W, RelF a b → Rep w0 keep L W → Code.rounds P x (Post w0 keep K c) m b W
 | 0, a, L, h, b, W, _, _ => h.elim
 | m + 1, a, L, h, b, W, hrel, hr => by
   rw [rounds_succ]
   change (forceL (compactW 0 a.w) _).all K at h
   rw [forceL_eq] at h
   refine wp_mono (hf _ _ _ h b W (RelF.shorten hrel) hr) ?_
   rintro x a2 W2 ⟨hx, g, L2, h, hrel2, hr2⟩
   cases x with
   | normal => exact evLoop_sound hf m _ _ h a2 W2 hrel2 hr2
   | _ => exact ⟨hx, g, L2, h, hrel2, hr2⟩
theorem metBy_sound {k : CallC} (hc : Meets P k) {args : Array Value} {L : List Blk} {c : Value → List Blk → T α} (h : (metBy k args L c).all K) {W : World} (hr : Rep w0 keep L W) : Calls P k.f args W fun en W' => ∃ v L', en = .returned v ∧ Rep w0 keep L' W' ∧ (c v L').all K := by
 obtain ⟨ha, hok, h⟩ := h
 have hargs : args = k.args := by
  have := tok_val ha
  injection this
 subst hargs
 obtain ⟨hpre, h⟩ := memBy_sound h hr
 refine (hc hok W hpre).mono ?_
 rintro en W' ⟨o, ho, ns, rfl, hpost⟩
 obtain ⟨L', hr', hk⟩ := h o ho ns W' hpost
 exact ⟨o.2 ns, L', rfl, hr', hk⟩
theorem loopBy_sound {k : LoopC} (hc : MeetsL P k) {x : Code} {a : F} {L : List Blk} {c : Exit → F → List Blk → T α} (h : (loopBy k x a L c).all K) {b : Act} {W : World} (hf : RelF a b) (hr : Rep w0 keep L W) : x.wp P (Post w0 keep K c) b W := by
 obtain ⟨h1, h2, h3, hok, h⟩ := h
 obtain rfl := tok_code h1
 have hn := tok_nat h2
 have hsl : (k.sl.map fun p => a.get p.1).toArray = (k.sl.map (·.2)).toArray := by
  have := tok_val h3
  injection this
 have hsl := congrArg Array.toList hsl
 have hk : Known k.n k.sl b := by
  rw [← hn]
  exact Known.of hf k.sl (by simpa using hsl)
 obtain ⟨hpre, h⟩ := memBy_sound h hr
 refine wp_mono (hc hok b W hk hpre) ?_
 rintro x' a' W' ⟨o, ho, rfl, hx, ns, hk', hpost⟩
 obtain ⟨L', hr', hk⟩ := h o ho ns W' hpost
 exact ⟨hx, _, _, hk ⟨0, 0, false, undef, a'.tmps.toList, []⟩, hk'.rel, hr'⟩
theorem metU_sound {k : CallU} (hc : Meets P k.c) {args : Array Value} {L : List Blk} {c : Value → List Blk → T α} (h : (metU k args L c).all K) {W : World} (hr : Rep w0 keep L W) : Calls P k.f args W fun en W' => ∃ v L', en = .returned v ∧ Rep w0 keep L' W' ∧ (c v L').all K := by
 obtain ⟨ha, hok, h⟩ := h
 have hargs : args = k.args := by
  have := tok_val ha
  injection this
 subst hargs
 obtain ⟨hpre, h⟩ := memU_sound h hr
 refine (hc hok W hpre).mono ?_
 rintro en W' ⟨o, ho, ns, rfl, hpost⟩
 obtain ⟨L', hr', hk⟩ := h o ho ns W' hpost
 exact ⟨o.2 ns, L', rfl, hr', hk⟩
theorem loopU_sound {k : LoopU} (hc : MeetsL P k.c) {x : Code} {a : F} {L : List Blk} {c : Exit → F → List Blk → T α} (h : (loopU k x a L c).all K) {b : Act} {W : World} (hf : RelF a b) (hr : Rep w0 keep L W) : x.wp P (Post w0 keep K c) b W := by
 obtain ⟨h1, h2, h3, hok, h⟩ := h
 obtain rfl := tok_code h1
 have hn := tok_nat h2
 have hsl : (k.sl.map fun p => a.get p.1).toArray = (k.sl.map (·.2)).toArray := by
  have := tok_val h3
  injection this
 have hsl := congrArg Array.toList hsl
 have hk : Known k.n k.sl b := by
  rw [← hn]
  exact Known.of hf k.sl (by simpa using hsl)
 obtain ⟨hpre, h⟩ := memU_sound h hr
 refine wp_mono (hc hok b W hk hpre) ?_
 rintro x' a' W' ⟨o, ho, rfl, hx, ns, hk', hpost⟩
 obtain ⟨L', hr', hk⟩ := h o ho ns W' hpost
 exact ⟨hx, _, _, hk ⟨0, 0, false, undef, a'.tmps.toList, []⟩, hk'.rel, hr'⟩
theorem anyF_sound (hS : S.holds P) (hP : P.follows .mixedOrders = true) {fn : FuncId} {call : CallE α} (hc : ∀ w0 keep, SoundC P w0 keep K call) (id : Nat) (ops : Array Oper) : SoundE P w0 keep K (.region id ops true) (anyF P S fn id ops call) := by
 intro a L c h b W hrel hr
 unfold anyF at h
 split at h
 ·rename_i k ks hrg
  obtain ⟨j, h⟩ := h
  dsimp only at h
  split at h
  ·rename_i k' hj
   rw [nth_eq] at hj
   exact loopBy_sound (hS.rg fn id k' (by rw [hrg]; exact List.mem_of_getElem? hj) a L) h hrel hr
  ·exact h.elim
 split at h
 ·exact h.elim
 ·rename_i hns
  obtain ⟨j, h⟩ := h
  dsimp only at h
  split at h
  ·obtain ⟨R, hsub, h⟩ := noteX_spec h
   rw [forceM_eq] at h
   exact wp_region_X hP (by rw [listedOf_zero]; exact evMany_sound hS hc hns (fun j hlt hj => finM_spec hlt hj) (fun _ _ h => (by cases h)) 4 _ _ _ _ _ (fun c a w hq => by cases hq.1) h (closed_zero _) _ _ hrel hr.draw (fun p hp => (hr.blk p (hsub p hp)).1) fun a' L' b' W' hk hb' hr' => ⟨rfl, _, _, hk, hb', hr'⟩)
  ·obtain ⟨d, h⟩ := h
   dsimp only at h
   rw [forceL_eq, forceM_eq] at h
   exact wp_region_X hP (by rw [listedOf_zero]; exact evMany_sound hS hc hns (fun j hlt hj => finM_spec hlt hj) (fun _ _ h => (by cases h)) 4 _ _ _ _ _ (fun c a w hq => by cases hq.1) h (closed_zero _) _ _ hrel hr.draw (fun p hp => (hr.blk p (List.mem_of_mem_take (objsOf_sub hp))).1) fun a' L' b' W' hk hb' hr' => ⟨rfl, _, _, hk, hb', hr'⟩)
  ·rw [forceM_eq] at h
   exact wp_region_X hP (by rw [listedOf_zero]; exact evMany_sound hS hc hns (fun j hlt hj => finM_spec hlt hj) (fun _ _ h => (by cases h)) 4 _ _ _ _ _ (fun c a w hq => by cases hq.1) h (closed_zero _) _ _ hrel hr.draw (fun p hp => (hr.blk p hp).1) fun a' L' b' W' hk hb' hr' => ⟨rfl, _, _, hk, hb', hr'⟩)
  split at h
  ·exact h.elim
  split at h
  ·obtain ⟨R, hsub, h⟩ := noteT_spec h
   rw [forceM_eq] at h
   exact wp_region_X hP (by rw [listedOf_zero]; exact evMany_sound hS hc hns (fun j hlt hj => finM_spec hlt hj) (fun _ _ h => (by cases h)) 4 _ _ _ _ _ (fun c a w hq => by cases hq.1) h (closed_zero _) _ _ hrel hr.draw (fun p hp => (hr.blk p (hsub p hp)).1) fun a' L' b' W' hk hb' hr' => ⟨rfl, _, _, hk, hb', hr'⟩)
  ·obtain ⟨js, L1, hsub, h⟩ := minusT_spec h
   obtain ⟨mask, h⟩ := h
   dsimp only at h
   rw [forceL_eq, forceM_eq] at h
   exact wp_region_X hP (by rw [listedOf_zero]; exact evMany_sound hS hc hns (fun j hlt hj => finM_spec hlt hj) backOf_sub 4 _ _ _ _ _ (fun c a w hq => by cases hq.1) h (closed_zero _) _ _ hrel hr.draw (fun p hp => (hr.blk p (hsub p (dropM_sub hp))).1) fun a' L' b' W' hk hb' hr' => ⟨rfl, _, _, hk, hb', hr'⟩)
theorem inCall_sound {f : FuncId → Code → PieceE α} (hf : ∀ fn x, SoundE P w0 keep K x (f fn x)) : SoundC P w0 keep K (inCall P f) := by
 intro g args L c h W hr
 unfold inCall at h
 rw [nth_eq, Array.getElem?_toList] at h
 split at h
 ·exact h.elim
 ·rename_i fn hfn
  split at h
  ·exact h.elim
  ·rename_i x hb
   refine calls_of_wp hfn hb (wp_mono (hf g x _ _ _ h _ W (RelF.init args fn.ntmps) hr) ?_)
   rintro x a2 W2 ⟨-, g2, L2, h, hrel2, hr2⟩
   have key : (resT P g2.get L2 fn.results.toList fun l => c (oneV l) L2).all K → bodyPost P fn (fun en W' => ∃ v L', en = .returned v ∧ Rep w0 keep L' W' ∧ (c v L').all K) .ret a2 W2 := fun h => by
    obtain ⟨l, hk, hrun⟩ := resT_spec (fun p hp => (hr2.blk p hp).1) h
    have hrun := resF_run (fn := fn) (hrun W2 (fun p hp => (hr2.blk p hp).1))
    rw [← resF_eq hrel2] at hrun
    exact ⟨hrel2.defers, _, hrun, _, L2, rfl, hr2, hk⟩
   cases x with
   | normal => exact key h
   | ret => exact key h
   | _ => exact h.elim
theorem evCallC_sound (hS : S.holds P) {f : FuncId → Code → PieceE α} (hf : ∀ fn x, SoundE P w0 keep K x (f fn x)) : SoundC P w0 keep K (evCallC P S f) := by
 intro g args L c h W hr
 unfold evCallC at h
 split at h
 ·rename_i k ks hcl
  obtain ⟨j, h⟩ := h
  dsimp only at h
  split at h
  ·rename_i k' hj
   rw [nth_eq] at hj
   split at h
   ·rename_i hcf _
    have := metBy_sound (hS.cl g k' (by rw [hcl]; exact List.mem_of_getElem? hj) args L) h hr
    rw [hcf] at this
    exact this
   ·exact h.elim
  ·exact inCall_sound hf _ _ _ _ h W hr
 ·exact inCall_sound hf _ _ _ _ h W hr
theorem evLoopC_sound (hS : S.holds P) {f : PieceE α} {x : Code} (hf : SoundE P w0 keep K x f) {fn : FuncId} {n : Nat} {a : F} {L : List Blk} {c : Exit → F → List Blk → T α} (h : (evLoopC S f fn n x a L c).all K) {b : Act} {W : World} (hrel : RelF a b) (hr : Rep w0 keep L W) : (Code.loop x).wp P (Post w0 keep K c) b W := by
 unfold evLoopC at h
 split at h
 ·rename_i k ks hlp
  obtain ⟨j, h⟩ := h
  dsimp only at h
  split at h
  ·rename_i k' hj
   rw [nth_eq] at hj
   exact loopBy_sound (hS.lp fn k' (by rw [hlp]; exact List.mem_of_getElem? hj) a L) h hrel hr
  ·exact wp_loop_rounds n (evLoop_sound hf n _ _ h b W hrel hr)
 ·exact wp_loop_rounds n (evLoop_sound hf n _ _ h b W hrel hr)
theorem evCall_sound (hS : S.holds P) {f : FuncId → Code → PieceE α} (hf : ∀ fn x, SoundE P w0 keep K x (f fn x)) : SoundC P w0 keep K (evCall P S f) := by
 intro g args L c h W hr
 unfold evCall at h
 split at h
 ·rename_i k ks hcl
  obtain ⟨j, h⟩ := h
  dsimp only at h
  split at h
  ·rename_i k' hj
   rw [nth_eq] at hj
   split at h
   ·rename_i hcf _
    have := metU_sound (hS.cu g k' (by rw [hcl]; exact List.mem_of_getElem? hj) args L) h hr
    rw [hcf] at this
    exact this
   ·exact h.elim
  ·exact evCallC_sound hS hf _ _ _ _ h W hr
 ·exact evCallC_sound hS hf _ _ _ _ h W hr
theorem ev_succ (n : Nat) (fn : FuncId) (x : Code) (a : F) (L : List Blk) (c : Exit → F → List Blk → T α) : ev P S (n + 1) fn x a L c = evBody P S (ev P S n) n fn x a L c := rfl
theorem ev_sounds (hS : S.holds P) (hP : P.follows .mixedOrders = true) : ∀ (n : Nat) (w0 : World) (keep : Nat → Prop) (fn : FuncId) (x : Code), SoundE P w0 keep K x (ev P S n fn x)
 | 0, w0, keep, fn, x, a, L, c, h, _, _, _, _ => h.elim
 | n + 1, w0, keep, fn, x, a, L, c, h, b, W, hrel, hr => by
   have ih0 : ∀ fn x, SoundE P w0 keep K x (ev P S n fn x) := ev_sounds hS hP n w0 keep
   have ih := ih0 fn
   have hcs : ∀ w0 keep, SoundC P w0 keep K (evCall P S (ev P S n)) := fun w0 keep => evCall_sound hS (ev_sounds hS hP n w0 keep)
   have hc : SoundC P w0 keep K (evCall P S (ev P S n)) := hcs w0 keep
   rw [ev_succ] at h
   unfold evBody at h
   split at h
   ·exact wp_skip ⟨rfl, _, _, h, hrel, hr⟩
   ·exact wp_label ⟨rfl, _, _, h, hrel, hr⟩
   ·exact wp_region (evOps_sound hS hc _ h hrel (Inv.none _) hr fun a' L' b' W' hk hb' hr' => ⟨rfl, _, _, hk, hb', hr'⟩)
   ·rename_i id ops
    exact anyF_sound hS hP hcs id ops _ _ _ h b W hrel hr
   ·refine wp_seq (wp_mono (ih _ _ _ _ h b W hrel hr) ?_)
    rintro x a2 W2 ⟨hx, g2, L2, h, hrel2, hr2⟩
    cases x with
    | normal => exact ih _ _ _ _ h a2 W2 hrel2 hr2
    | _ => exact ⟨hx, _, _, h, hrel2, hr2⟩
   ·split at h
    ·rename_i s
     split at h
     ·rename_i t hb
      have hb' : b.eval (.tmp s) = .bool t := by rw [← hrel.eval]; exact hb
      cases t with
      | true => exact wp_cond_true hb' (ih _ _ _ _ (h.1 rfl) b W (hrel.same hb) hr)
      | false => exact wp_cond_false hb' (ih _ _ _ _ (h.2 rfl) b W (hrel.same hb) hr)
     ·exact h.elim
    ·split at h
     ·rename_i t hb
      rw [hrel.eval] at hb
      cases t with
      | true => exact wp_cond_true hb (ih _ _ _ _ (h.1 rfl) b W hrel hr)
      | false => exact wp_cond_false hb (ih _ _ _ _ (h.2 rfl) b W hrel hr)
     ·exact h.elim
   ·rename_i id x
    refine wp_block (wp_mono (ih _ _ _ _ h b W hrel hr) ?_)
    rintro x a2 W2 ⟨hx, g2, L2, h, hrel2, hr2⟩
    cases x with
    | exit id' =>
      simp only at h
      split at h
      ·rename_i hid
       have hid := Nat.eq_of_beq_eq_true hid
       simp only [Exit.inBlock, hid, if_true]
       exact ⟨rfl, _, _, h, hrel2, hr2⟩
      ·rename_i hid
       have hid : ¬ id' = id := fun he => by rw [he, Nat.beq_refl] at hid; cases hid
       simp only [Exit.inBlock, hid, if_false]
       exact ⟨rfl, _, _, h, hrel2, hr2⟩
    | normal => exact ⟨hx, _, _, h, hrel2, hr2⟩
    | ret => exact ⟨hx, _, _, h, hrel2, hr2⟩
    | _ => simp [calm] at hx
   ·split at h
    ·rename_i k ks hlp
     obtain ⟨j, h⟩ := h
     dsimp only at h
     split at h
     ·rename_i k' hj
      rw [nth_eq] at hj
      exact loopU_sound (hS.lu fn k' (by rw [hlp]; exact List.mem_of_getElem? hj) a L) h hrel hr
     ·exact evLoopC_sound hS (ih _) h hrel hr
    ·exact evLoopC_sound hS (ih _) h hrel hr
   ·exact wp_exit ⟨rfl, _, _, h, hrel, hr⟩
   ·exact wp_ret ⟨rfl, _, _, h, hrel, hr⟩
   ·exact h.elim
theorem ev_sound (hS : S.holds P) (hP : P.follows .mixedOrders = true) (n : Nat) (fn : FuncId) (x : Code) : SoundE P w0 keep K x (ev P S n fn x) := ev_sounds hS hP n w0 keep fn x
end Go.Proofs.YtjohknpmhlildaaDoor.Sy
namespace Go.Proofs.YtjohknpmhlildaaDoor.Sy
open Go Go.RowKit
open Ev (calm)
variable {P : Program} {S : Ctx}
def pieceT (P : Program) (S : Ctx) (n : Nat) (fn : FuncId) (c : Code) (m : Nat) (l : List (Nat × Value)) (xs : List Value) (L : List Blk) (ks : List Nat) : T (Exit × Nat × List Value × List Blk) :=
 ev P S n fn c ⟨m, l ++ argsW 0 xs⟩ L fun x a L' => .ret (x, a.n, ks.map a.get, L')
structure Ran {α : Type} (t : T α) (o : O) (R : (Nat → Let) → Res α) : Prop where
 res : ∀ ns, (t.run o ns).map (·.res) = some (R ns)
 one : ∀ ns, (t.run o ns).map (·.l) = (t.run o ns).map (·.r)
theorem Ran.all {α : Type} {t : T α} {o : O} {R : (Nat → Let) → Res α} (h : Ran t o R) {K : α → Prop} (hK : ∀ ns, (R ns).holds K) : t.all K := by
 refine all_of_run t o fun ns => ?_
 have h1 := h.res ns
 have h2 := h.one ns
 cases hx : t.run o ns with
 | none => rw [hx] at h1; cases h1
 | some x =>
   rw [hx] at h1 h2
   simp only [Option.map_some, Option.some.injEq] at h1 h2
   exact ⟨x, rfl, h2, by rw [h1]; exact hK ns⟩
theorem zip_get (f : F) : ∀ ks : List Nat, (ks.zip (ks.map f.get)).map (fun p => f.get p.1) = (ks.zip (ks.map f.get)).map (·.2)
 | [] => rfl
 | k :: ks => by simp only [List.map_cons, List.zip_cons_cons]; rw [zip_get f ks]
theorem wp_of (hS : S.holds P) (hP : P.follows .mixedOrders = true) {n : Nat} {fn : FuncId} {c : Code} {m : Nat} {l : List (Nat × Value)} {a : Act} {L : List Blk} {ks : List Nat} {o : O} {R : (Nat → Let) → Res (Exit × Nat × List Value × List Blk)}
  (h : Ran (pieceT P S n fn c m l a.tmps.toList L ks) o R) {w0 W : World} {keep : Nat → Prop} (hk : Known m l a) (hr : Rep w0 keep L W)
  {Q : Exit → Act → World → Prop} (hQ : ∀ ns, (R ns).holds fun y => ∀ a' W', calm y.1 = true → Known y.2.1 (ks.zip y.2.2.1) a' → Rep w0 keep y.2.2.2 W' → Q y.1 a' W') : c.wp P Q a W := by
 have hall := h.all hQ
 unfold pieceT at hall
 refine wp_mono (ev_sound hS hP n fn c _ _ _ hall a W hk.rel hr) ?_
 rintro x2 a2 W2 ⟨hx, g, L2, hk2, hf, hr'⟩
 exact hk2 a2 W2 hx (Known.of hf _ (zip_get _ _)) hr'
def blks (c : MemC) : List Blk := c.rd.map (fun p => ⟨p.1, p.2, false⟩) ++ (c.use.map ownOf ++ c.rb.map (fun p => ⟨p.1, p.2, false⟩))
def keepOf (c : MemC) (k : Nat) : Prop := ∀ p ∈ c.use, p.1 ≠ k
theorem rep_of_pre {c : MemC} {W : World} (h : c.pre W) : Rep W (keepOf c) (blks c) W := by
 have hf : ∀ l : List (Nat × Cont), (l.map fun p => (⟨p.1, p.2, false⟩ : Blk)).Pairwise Far := fun l => by
  rw [List.pairwise_map]
  exact List.pairwise_of_forall fun a b h => by cases h
 refine ⟨rfl, rfl, rfl, Nat.le_refl _, fun _ _ _ => rfl, fun p hp => ?_, ?_⟩
 ·rcases List.mem_append.1 hp with hp | hp
  ·obtain ⟨q, hq, rfl⟩ := List.mem_map.1 hp
   exact ⟨h.rd q hq, fun h => by cases h⟩
  rcases List.mem_append.1 hp with hp | hp
  ·obtain ⟨q, hq, rfl⟩ := List.mem_map.1 hp
   exact ⟨h.use q hq, fun _ _ hk => hk q hq rfl⟩
  ·obtain ⟨q, hq, rfl⟩ := List.mem_map.1 hp
   exact ⟨h.rb q hq, fun h => by cases h⟩
 ·unfold blks
  rw [List.pairwise_append, List.pairwise_append]
  refine ⟨hf _, ⟨?_, hf _, fun a ha b hb => ?_⟩, fun a ha b hb => ?_⟩
  ·rw [List.pairwise_map]
   have := h.nodup
   rw [List.nodup_iff_pairwise_ne, List.pairwise_map] at this
   exact this.imp (S := fun a b => Far (ownOf a) (ownOf b)) fun h _ => h
  ·obtain ⟨p, hp, rfl⟩ := List.mem_map.1 ha
   obtain ⟨q, hq, rfl⟩ := List.mem_map.1 hb
   exact fun _ he => h.apartB q hq p hp he.symm
  ·obtain ⟨p, hp, rfl⟩ := List.mem_map.1 ha
   rcases List.mem_append.1 hb with hb | hb
   ·obtain ⟨q, hq, rfl⟩ := List.mem_map.1 hb
    exact fun _ => h.apart p hp q hq
   ·obtain ⟨q, hq, rfl⟩ := List.mem_map.1 hb
    exact fun ho => by cases ho
def pickL (L : List Blk) (pk : List Nat) : List Blk := pk.filterMap fun i => L[i]?
theorem Rep.pick {w0 W : World} {keep : Nat → Prop} {L : List Blk} (h : Rep w0 keep L W) : ∀ {pk : List Nat}, pk.Nodup → Rep w0 keep (pickL L pk) W := by
 intro pk hpk
 refine ⟨h.os, h.tape, h.output, h.size, h.old, fun p hp => ?_, ?_⟩
 ·obtain ⟨i, -, hi⟩ := List.mem_filterMap.1 hp
  exact h.blk p (List.mem_of_getElem? hi)
 ·unfold pickL
  induction pk with
  | nil => exact List.Pairwise.nil
  | cons i pk ih =>
    rw [List.nodup_cons] at hpk
    rw [List.filterMap_cons]
    split
    ·exact ih hpk.2
    ·rename_i p hp
     rw [List.pairwise_cons]
     refine ⟨fun q hq => ?_, ih hpk.2⟩
     obtain ⟨j, hj, hjq⟩ := List.mem_filterMap.1 hq
     exact far_ne h.far hp hjq (fun e => hpk.1 (e ▸ hj))
theorem post_of_ent {c : MemC} {o : OutM} {W W' : World} {ns : List Let} (hp : Rep W (keepOf c) ((o.nw ns ++ o.nb ns).map ownOf) W') (hn : ns.length = c.m) (hh : o.hyp ns) : c.post o W W' ns := by
 have hall : ∀ p ∈ o.nw ns ++ o.nb ns, (W.heap.size ≤ p.1 ∨ ∃ q ∈ c.use, q.1 = p.1) ∧ p.2.sat W'.heap[p.1]? := fun p hpm => by
  have hb := hp.blk _ (List.mem_map.2 ⟨p, hpm, rfl⟩)
  refine ⟨?_, hb.1⟩
  rcases Nat.lt_or_ge p.1 W.heap.size with hlt | hge
  ·have := hb.2 rfl hlt
   unfold keepOf at this
   simp only [ownOf, ne_eq] at this
   refine .inr (Classical.byContradiction fun hno => this fun q hq he => hno ⟨q, hq, he⟩)
  ·exact .inl hge
 have hf := hp.far
 rw [List.pairwise_map] at hf
 have hnd : ((o.nw ns ++ o.nb ns).map (·.1)).Nodup := by
  rw [List.nodup_iff_pairwise_ne, List.pairwise_map]
  exact hf.imp fun h => h rfl
 rw [List.map_append, List.nodup_append] at hnd
 exact ⟨hn, hh, hp.os, hp.tape, hp.output, hp.size, fun k hk hno => hp.old k hk hno, fun p hpm => hall p (Sy.mL _ hpm), hnd.1, fun p hpm => hall p (Sy.mR _ hpm), hnd.2.1, fun p hpm q hq => hnd.2.2 _ (List.mem_map.2 ⟨p, hpm, rfl⟩) _ (List.mem_map.2 ⟨q, hq, rfl⟩)⟩
theorem Known.sub {n : Nat} {l l' : List (Nat × Value)} {a : Act} (h : Known n l a) (hs : ∀ p ∈ l', p ∈ l) : Known n l' a := ⟨h.defers, h.size, fun p hp => h.get p (hs p hp)⟩
def Ent (L L' : List Blk) : Prop := ∀ (w0 : World) (keep : Nat → Prop) (W : World), Rep w0 keep L W → Rep w0 keep L' W
theorem Ent.refl (L : List Blk) : Ent L L := fun _ _ _ h => h
theorem Ent.trans {A B C : List Blk} (h : Ent A B) (h' : Ent B C) : Ent A C := fun w k W hr => h' w k W (h w k W hr)
theorem Ent.perm {A B : List Blk} (h : A.Perm B) : Ent A B := fun _ _ _ hr => hr.perm h
theorem Ent.sub {A B : List Blk} (h : List.Sublist B A) : Ent A B := fun _ _ _ hr => hr.sub h
def inB (P : Program) (S : Ctx) (n : Nat) (f : FuncId) (args : Array Value) (L : List Blk) : T (Value × List Blk) := inCall P (ev P S n) f args L fun v L' => .ret (v, L')
def leafB (c : CallC) (y : Value × List Blk) : Prop :=
 ∃ o ∈ c.outs, ∃ ns : List Let, ns.length = c.mem.m ∧ y.1 = o.2 ns ∧ Ent y.2 ((o.1.nw ns ++ o.1.nb ns).map ownOf) ∧ o.1.hyp ns
theorem meets_ofB (hS : S.holds P) (hP : P.follows .mixedOrders = true) {n : Nat} {c : CallC} {o : O} {R : (Nat → Let) → Res (Value × List Blk)} {L : List Blk} (hL : Ent (blks c.mem) L) (h : Ran (inB P S n c.f c.args L) o R)
  (hQ : c.ok → ∀ ns, (R ns).holds (leafB c)) : Meets P c := by
 intro hok W hpre
 have hall := h.all (hQ hok)
 unfold inB at hall
 refine (inCall_sound (ev_sound hS hP n) _ _ _ _ hall W (hL _ _ _ (rep_of_pre hpre))).mono ?_
 rintro en W' ⟨v', L', rfl, hr', o, ho, ns, h1, h2, h3, h4⟩
 exact ⟨o, ho, ns, congrArg Ending.returned h2, post_of_ent (h3 _ _ _ hr') h1 h4⟩
def leafLB {σ : Type} (c : LoopC) (ks : List Nat) (slots : σ → List (Nat × Value)) (mem : σ → List Blk) (ok : σ → Prop) (μ : σ → Nat) (s : σ) (y : Exit × Nat × List Value × List Blk) : Prop :=
 y.2.1 = c.n ∧ ((y.1 = .normal ∧ ∃ s', ok s' ∧ μ s' < μ s ∧ ks.zip y.2.2.1 = slots s' ∧ Ent y.2.2.2 (mem s')) ∨
  (y.1 ≠ .normal ∧ ∃ o ∈ c.outs, y.1 = o.2.1 ∧ ∃ ns : List Let, ns.length = c.mem.m ∧ (∃ q : List Nat, o.2.2 ns = q.filterMap fun i => (ks.zip y.2.2.1)[i]?) ∧ Ent y.2.2.2 ((o.1.nw ns ++ o.1.nb ns).map ownOf) ∧ o.1.hyp ns))
theorem loop_ofB {σ : Type} {S : σ → Ctx} (hS : ∀ s, (S s).holds P) (hP : P.follows .mixedOrders = true) {n : Nat} {fn : FuncId} {body : Code} {c : LoopC} (hc : c.c = .loop body) (ks : List Nat) (slots : σ → List (Nat × Value)) (mem : σ → List Blk) (ok : σ → Prop) (μ : σ → Nat)
  (s0 : σ) (h0 : c.ok → ok s0) (hs0 : ∀ p ∈ slots s0, p ∈ c.sl) (hm0 : Ent (blks c.mem) (mem s0))
  {o : σ → O} {R : σ → (Nat → Value) → (Nat → Let) → Res (Exit × Nat × List Value × List Blk)} (h : ∀ s f, ok s → Ran (pieceT P (S s) n fn body c.n (slots s) ((List.range c.n).map f) (mem s) ks) (o s) (R s f))
  (hQ : c.ok → ∀ s f, ok s → ∀ ns, (R s f ns).holds (leafLB c ks slots mem ok μ s)) : MeetsL P c := by
 intro hok a W hk hpre
 rw [hc]
 have hrm : ∀ (xs : List Value) (n : Nat), xs.length = n → (List.range n).map (fun j => xs.getD j undef) = xs := fun xs n h => by
  apply List.ext_getElem?
  intro i
  rw [List.getElem?_map]
  by_cases hi : i < n
  ·rw [List.getElem?_range hi, List.getElem?_eq_getElem (by omega)]
   simp [List.getD_eq_getElem?_getD, List.getElem?_eq_getElem (show i < xs.length by omega)]
  ·rw [List.getElem?_eq_none (by simpa using Nat.le_of_not_lt hi), List.getElem?_eq_none (by omega)]
   rfl
 have key : ∀ m s a W', ok s → μ s < m → Known c.n (slots s) a → Rep W (keepOf c.mem) (mem s) W' →
   Code.rounds P body (fun x a' W' => ∃ o ∈ c.outs, x = o.2.1 ∧ calm x = true ∧ ∃ ns, Known c.n (o.2.2 ns) a' ∧ c.mem.post o.1 W W' ns) m a W' := by
  intro m
  induction m with
  | zero => intro s a W' _ hlt; omega
  | succ m ih =>
    intro s a W' hs hlt hK hR
    rw [rounds_succ]
    have hran := h s (fun j => a.tmps.toList.getD j undef) hs
    rw [hrm a.tmps.toList c.n (by rw [Array.length_toList]; exact hK.size)] at hran
    refine wp_of (hS s) hP hran hK hR fun ns => Res.holds_mono (fun y hy a' W2 hx hK' hR' => ?_) _ (hQ hok s (fun j => a.tmps.toList.getD j undef) hs ns)
    obtain ⟨hn, hy⟩ := hy
    rcases hy with ⟨hx1, s', hs', hμ, hz, hm⟩ | ⟨hx1, o, ho, he, ns', g1, ⟨q, g2⟩, g3, g5⟩
    ·rw [hx1]
     rw [hn, hz] at hK'
     exact ih s' a' W2 hs' (by omega) hK' (hm _ _ _ hR')
    ·have hfin : ∃ o ∈ c.outs, y.1 = o.2.1 ∧ calm y.1 = true ∧ ∃ ns, Known c.n (o.2.2 ns) a' ∧ c.mem.post o.1 W W2 ns := by
      refine ⟨o, ho, he, hx, ns', ?_, post_of_ent (g3 _ _ _ hR') g1 g5⟩
      rw [hn] at hK'
      refine Known.sub hK' fun p hp => ?_
      rw [g2] at hp
      obtain ⟨i, -, hi⟩ := List.mem_filterMap.1 hp
      exact List.mem_of_getElem? hi
     cases hy1 : y.1 with
     | normal => exact absurd hy1 hx1
     | _ => rw [hy1] at hfin; exact hfin
 exact wp_loop_rounds (μ s0 + 1) (key _ s0 a W (h0 hok) (by omega) (Known.sub hk hs0) (hm0 _ _ _ (rep_of_pre hpre)))
end Go.Proofs.YtjohknpmhlildaaDoor.Sy
namespace Go.Proofs.YtjohknpmhlildaaDoor.Sy
open Go Go.RowKit
variable {P : Program}
def pickF {β : Type} (f : Nat) : List (Nat × β) → List β
 | [] => []
 | p :: r => match Nat.beq p.1 f with
   | true => p.2 :: pickF f r
   | false => pickF f r
theorem pickF_mem {β : Type} {f : Nat} {x : β} : ∀ {l : List (Nat × β)}, x ∈ pickF f l → ∃ p ∈ l, p.2 = x
 | [], h => by cases h
 | p :: r, h => by
   unfold pickF at h
   split at h
   ·rcases List.mem_cons.1 h with rfl | h
    ·exact ⟨p, Sy.mH, rfl⟩
    ·obtain ⟨q, hq, e⟩ := pickF_mem h
     exact ⟨q, Sy.mC _ hq, e⟩
   ·obtain ⟨q, hq, e⟩ := pickF_mem h
    exact ⟨q, Sy.mC _ hq, e⟩
def mkS (cl : List (FuncId × (Array Value → List Blk → CallC))) (lp : List (FuncId × (F → List Blk → LoopC))) (op : List (FuncId × Nat × (F → List Blk → OpK))) : Ctx :=
 ⟨fun f => pickF f cl, fun f => pickF f lp, fun _ _ => [], fun f n => pickF n (pickF f op), fun _ => [], fun _ => []⟩
theorem mkS_holds {cl : List (FuncId × (Array Value → List Blk → CallC))} {lp : List (FuncId × (F → List Blk → LoopC))} {op : List (FuncId × Nat × (F → List Blk → OpK))}
  (h1 : ∀ p ∈ cl, ∀ a L, Meets P (p.2 a L)) (h2 : ∀ p ∈ lp, ∀ a L, MeetsL P (p.2 a L)) (h3 : ∀ p ∈ op, ∀ a L, (p.2.2 a L).meets P) : (mkS cl lp op).holds P := by
 refine ⟨fun f c hc a L => ?_, fun f c hc a L => ?_, fun f n c hc => (by cases hc), fun f n c hc a L => ?_, fun f c hc => (by cases hc), fun f c hc => (by cases hc)⟩
 ·obtain ⟨p, hp, rfl⟩ := pickF_mem hc
  exact h1 p hp a L
 ·obtain ⟨p, hp, rfl⟩ := pickF_mem hc
  exact h2 p hp a L
 ·obtain ⟨p, hp, rfl⟩ := pickF_mem hc
  obtain ⟨q, hq, rfl⟩ := pickF_mem hp
  exact h3 q hq a L
def mkU (S : Ctx) (cu : List (FuncId × (Array Value → List Blk → CallU))) (lu : List (FuncId × (F → List Blk → LoopU))) : Ctx :=
 ⟨S.cl, S.lp, S.rg, S.op, fun f => pickF f cu, fun f => pickF f lu⟩
theorem mkU_holds {S : Ctx} (hS : S.holds P) {cu : List (FuncId × (Array Value → List Blk → CallU))} {lu : List (FuncId × (F → List Blk → LoopU))}
  (h1 : ∀ p ∈ cu, ∀ a L, Meets P (p.2 a L).c) (h2 : ∀ p ∈ lu, ∀ a L, MeetsL P (p.2 a L).c) : (mkU S cu lu).holds P := by
 refine ⟨hS.cl, hS.lp, hS.rg, hS.op, fun f c hc a L => ?_, fun f c hc a L => ?_⟩
 ·obtain ⟨p, hp, rfl⟩ := pickF_mem hc
  exact h1 p hp a L
 ·obtain ⟨p, hp, rfl⟩ := pickF_mem hc
  exact h2 p hp a L
def S0 : Ctx := mkS [] [] []
theorem S0_holds : S0.holds P := mkS_holds (fun _ h => (by cases h)) (fun _ h => (by cases h)) (fun _ h => (by cases h))
def argI (a : Array Value) (i : Nat) : Int := match nth a.toList i with
 | some (.int _ n) => n
 | _ => 0
def plainO (v : Value) : OutM × (List Let → Value) := (⟨fun _ => True, fun _ => [], fun _ => []⟩, fun _ => v)
def ptrN (v : Value) : Nat := match v with
 | .slice (some ⟨b, _, _⟩) _ _ => b
 | .pointer (some ⟨b, _, _⟩) => b
 | _ => 0
def capN (v : Value) : Nat := match v with
 | .slice _ _ c => c
 | _ => 0
def argV (a : Array Value) (i : Nat) : Value := match nth a.toList i with
 | some v => v
 | _ => undef
def loopsOf : Code → List Code
 | .loop c => c :: loopsOf c
 | .seq a b => loopsOf a ++ loopsOf b
 | .block _ c | .scope c => loopsOf c
 | .cond _ a b => loopsOf a ++ loopsOf b
 | _ => []
def loopBody (f : Func) (k : Nat) : Code := match f.body with
 | some c => (loopsOf c).getD k .skip
 | none => .skip
end Go.Proofs.YtjohknpmhlildaaDoor.Sy
namespace Go.Proofs.YtjohknpmhlildaaDoor
open Go
theorem mixed : Tryd.prog.follows .mixedOrders = true := by kernel_rfl
end Go.Proofs.YtjohknpmhlildaaDoor
namespace Go.Proofs.YtjohknpmhlildaaDoor.Sy
open Go Go.RowKit
variable {P : Program} {S : Ctx}
abbrev Bun := List (Nat × Cont)
def rdsOf (l : Bun) : List Blk := l.map fun p => ⟨p.1, p.2, false⟩
def usedK (l : Bun) (k : Nat) : Prop := ∀ p ∈ l, p.1 ≠ k
def DoesB (P : Program) (f : FuncId) (args : Array Value) (rd use : Bun) (Q : Value → Bun → Prop) : Prop :=
 ∀ W, Rep W (usedK use) (rdsOf rd ++ use.map ownOf) W → Calls P f args W fun en W' => ∃ v out, en = .returned v ∧ Rep W (usedK use) (out.map ownOf) W' ∧ Q v out
theorem does_of (hS : S.holds P) (hP : P.follows .mixedOrders = true) {n : Nat} {f : FuncId} {args : Array Value} {rd use : Bun} {o : O} {R : (Nat → Let) → Res (Value × List Blk)} {L : List Blk} {Q : Value → Bun → Prop} (hL : Ent (rdsOf rd ++ use.map ownOf) L) (h : Ran (inB P S n f args L) o R)
  (hQ : ∀ ns, (R ns).holds fun y => ∃ out, Ent y.2 (out.map ownOf) ∧ Q y.1 out) : DoesB P f args rd use Q := by
 intro W hpre
 have hall := h.all hQ
 unfold inB at hall
 refine (inCall_sound (ev_sound hS hP n) _ _ _ _ hall W (hL _ _ _ hpre)).mono ?_
 rintro en W' ⟨v', L', rfl, hr', out, h1, h2⟩
 exact ⟨v', out, rfl, h1 _ _ _ hr', h2⟩
theorem does_mono {f : FuncId} {args : Array Value} {rd use : Bun} {Q Q' : Value → Bun → Prop} (h : DoesB P f args rd use Q) (hQ : ∀ v out, Q v out → Q' v out) : DoesB P f args rd use Q' := fun W hW =>
 (h W hW).mono fun _ _ ⟨v, out, h1, h2, h3⟩ => ⟨v, out, h1, h2, hQ _ _ h3⟩
theorem Rep.keep_eq {w0 W : World} {k k' : Nat → Prop} {L : List Blk} (h : Rep w0 k L W) (he : ∀ n, k n ↔ k' n) : Rep w0 k' L W := by
 have : k = k' := funext fun n => propext (he n)
 subst this
 exact h
theorem usedK_perm {a b : Bun} (h : a.Perm b) (k : Nat) : usedK a k ↔ usedK b k := ⟨fun x p hp => x p (h.mem_iff.2 hp), fun x p hp => x p (h.mem_iff.1 hp)⟩
theorem does_perm {f : FuncId} {args : Array Value} {rd use use' : Bun} {Q : Value → Bun → Prop} (h : DoesB P f args rd use Q) (hp : use.Perm use') : DoesB P f args rd use' Q := fun W hW => by
 have h1 := (hW.keep_eq (usedK_perm hp.symm)).perm (List.Perm.append_left (rdsOf rd) (hp.symm.map ownOf))
 exact (h W h1).mono fun _ _ ⟨v, out, e, h2, h3⟩ => ⟨v, out, e, h2.keep_eq (usedK_perm hp), h3⟩
theorem does_frame {f : FuncId} {args : Array Value} {rd use oth : Bun} {Q : Value → Bun → Prop} (h : DoesB P f args rd use Q) (hr : ∀ p ∈ rd, p ∈ oth) : DoesB P f args [] (use ++ oth) fun v out => ∃ o1, out = o1 ++ oth ∧ Q v o1 := fun W hW => by
 have hW : Rep W (usedK (use ++ oth)) ((use ++ oth).map ownOf) W := hW
 have hfar := hW.far
 rw [List.pairwise_map] at hfar
 have hfar : (use ++ oth).Pairwise fun a b => a.1 ≠ b.1 := hfar.imp fun h => h rfl
 obtain ⟨f1, f2, f3⟩ := List.pairwise_append.1 hfar
 have hsat : ∀ p ∈ use ++ oth, p.2.sat W.heap[p.1]? := fun p hp => (hW.blk (ownOf p) (List.mem_map.2 ⟨p, hp, rfl⟩)).1
 have pre : Rep W (usedK use) (rdsOf rd ++ use.map ownOf) W := by
  refine ⟨rfl, rfl, rfl, Nat.le_refl _, fun _ _ _ => rfl, fun b hb => ?_, ?_⟩
  ·rcases List.mem_append.1 hb with hb | hb
   ·obtain ⟨p, hp, rfl⟩ := List.mem_map.1 hb
    exact ⟨hsat p (Sy.mR _ (hr p hp)), fun h => by cases h⟩
   ·obtain ⟨p, hp, rfl⟩ := List.mem_map.1 hb
    exact ⟨hsat p (Sy.mL _ hp), fun _ _ hk => hk p hp rfl⟩
  ·refine List.pairwise_append.2 ⟨?_, ?_, ?_⟩
   ·rw [rdsOf, List.pairwise_map]
    exact List.pairwise_of_forall fun a b h => by cases h
   ·rw [List.pairwise_map]
    exact f1.imp (S := fun a b => Far (ownOf a) (ownOf b)) fun h _ => h
   ·intro a ha b hb _
    obtain ⟨p, hp, rfl⟩ := List.mem_map.1 ha
    obtain ⟨q, hq, rfl⟩ := List.mem_map.1 hb
    exact (f3 q hq p (hr p hp)).symm
 refine (h W pre).mono ?_
 rintro en W' ⟨v, out, rfl, h2, h3⟩
 refine ⟨v, out ++ oth, rfl, ?_, out, rfl, h3⟩
 have lt : ∀ p ∈ oth, p.1 < W.heap.size := fun p hp => by
  obtain ⟨o, ho⟩ := Cont.some_of (hsat p (Sy.mR _ hp))
  exact (Array.getElem?_eq_some_iff.1 ho).1
 have kp : ∀ p ∈ oth, usedK use p.1 := fun p hp q hq => f3 q hq p hp
 refine ⟨h2.os, h2.tape, h2.output, h2.size, fun k hk hn => h2.old k hk fun q hq => hn q (Sy.mL _ hq), fun b hb => ?_, ?_⟩
 ·obtain ⟨p, hp, rfl⟩ := List.mem_map.1 hb
  rcases List.mem_append.1 hp with hp | hp
  ·have := h2.blk (ownOf p) (List.mem_map.2 ⟨p, hp, rfl⟩)
   refine ⟨this.1, fun _ hlt hn => this.2 rfl hlt fun q hq => hn q (Sy.mL _ hq)⟩
  ·refine ⟨?_, fun _ _ hn => hn p (Sy.mR _ hp) rfl⟩
   show p.2.sat W'.heap[p.1]?
   rw [h2.old p.1 (lt p hp) (kp p hp)]
   exact hsat p (Sy.mR _ hp)
 ·have g := h2.far
  rw [List.pairwise_map] at g
  rw [List.pairwise_map]
  refine List.pairwise_append.2 ⟨g, f2.imp (S := fun a b => Far (ownOf a) (ownOf b)) fun h _ => h, fun p hp q hq _ => ?_⟩
  show p.1 ≠ q.1
  intro he
  have := h2.blk (ownOf p) (List.mem_map.2 ⟨p, hp, rfl⟩)
  exact this.2 rfl (by show p.1 < _; rw [he]; exact lt q hq) (by show usedK use p.1; rw [he]; exact kp q hq)
theorem does_all {f : FuncId} {args : Array Value} {rd use oth all : Bun} {Q Q' : Value → Bun → Prop} (h : DoesB P f args rd use Q) (hr : ∀ p ∈ rd, p ∈ oth) (hp : (use ++ oth).Perm all) (hQ : ∀ v o, Q v o → ∃ out, (o ++ oth).Perm out ∧ Q' v out) : DoesB P f args [] all Q' := fun W hW => by
 refine (does_perm (does_frame h hr) hp W hW).mono ?_
 rintro en W' ⟨v, out, rfl, h2, o1, rfl, h3⟩
 obtain ⟨out, h4, h5⟩ := hQ v o1 h3
 exact ⟨v, out, rfl, h2.perm (h4.map ownOf), h5⟩
def bunO (ns : List Let) : Bun := (ns.getD 0 Let.none).q
def doesO (vf : Let → Value) (Q : Value → Bun → Prop) : OutM × (List Let → Value) := (⟨fun ns => Q (vf (ns.getD 0 Let.none)) (bunO ns), fun _ => [], bunO⟩, fun ns => vf (ns.getD 0 Let.none))
def doesC (f : FuncId) (args : Array Value) (ok : Prop) (use : Bun) (vf : Let → Value) (Q : Value → Bun → Prop) : CallC := ⟨f, args, ok, ⟨[], use, 1, []⟩, [doesO vf Q]⟩
theorem Rep.rep_use {c : Bun} {W : World} (h1 : ∀ p ∈ c, p.2.sat W.heap[p.1]?) (h2 : (c.map (·.1)).Nodup) : Rep W (usedK c) (c.map ownOf) W := by
 refine ⟨rfl, rfl, rfl, Nat.le_refl _, fun _ _ _ => rfl, fun b hb => ?_, ?_⟩
 ·obtain ⟨p, hp, rfl⟩ := List.mem_map.1 hb
  exact ⟨h1 p hp, fun _ _ hk => hk p hp rfl⟩
 ·rw [List.pairwise_map]
  rw [List.nodup_iff_pairwise_ne, List.pairwise_map] at h2
  exact h2.imp (S := fun a b => Far (ownOf a) (ownOf b)) fun h _ => h
theorem Rep.nodup {w0 W : World} {k : Nat → Prop} {c : Bun} (h : Rep w0 k (c.map ownOf) W) : (c.map (·.1)).Nodup := by
 have g := h.far
 rw [List.pairwise_map] at g
 rw [List.nodup_iff_pairwise_ne, List.pairwise_map]
 exact g.imp fun h => h rfl
theorem does_meets {f : FuncId} {args : Array Value} {ok : Prop} {use : Bun} {vf : Let → Value} {Q : Value → Bun → Prop} (h : ok → (use.map (·.1)).Nodup → DoesB P f args [] use Q) (hv : ∀ v out, Q v out → ∃ l : Let, vf l = v ∧ l.q = out) : Meets P (doesC f args ok use vf Q) := fun hok W hpre => by
 have hr := Rep.rep_use hpre.use hpre.nodup
 refine (h hok hpre.nodup W hr).mono ?_
 rintro en W' ⟨v, out, rfl, h2, h3⟩
 obtain ⟨l, e1, e2⟩ := hv v out h3
 refine ⟨_, Sy.mS _, [l], by show _ = Ending.returned (vf l); rw [e1], post_of_ent ?_ rfl ?_⟩
 ·show Rep W (usedK use) (([] ++ l.q).map ownOf) W'
  rw [e2]
  exact h2
 ·show Q (vf l) l.q
  rw [e1, e2]
  exact h3
abbrev ptr (n : Nat) : Value := .pointer (some ⟨n, 0, none⟩)
abbrev ptr0 : Value := .pointer none
abbrev bx (n : Nat) (t : TypeId) (v : Value) : Nat × Cont := (n, .obj (.cells #[v] t (0, 0)))
abbrev tkB (n : Nat) (next : Value) (done : Int) (steps v : Int) (ok : Bool) (view : Value) : Nat × Cont := (n, .obj (.cells #[next, .int .u32 done, .int .i64 steps, .int .u64 v, .bool ok, view] 100 (0, 0)))
abbrev tkU (n : Nat) (next : Value) (steps : Int) : Nat × Cont := tkB n next 0 steps 0 false (.slice none 0 0)
abbrev clo (f : FuncId) (l : Array Value) : Value := .func (.func f) #[] l
end Go.Proofs.YtjohknpmhlildaaDoor.Sy
--@way 3
--@tail 0
namespace Go.Proofs.YtjohknpmhlildaaDoor.At
open Sy.O (fork nil step steps)
open Sy.Res (need hyp br leaf both)
open Go Go.RowKit
open Go.Proofs.YtjohknpmhlildaaDoor.Sy (Let Blk ptr bx tkB tkU clo)
abbrev fStep : FuncId := 17
abbrev tFn : TypeId := 1
abbrev tU : TypeId := 36
abbrev tTP : TypeId := 48
abbrev tSP : TypeId := 25
abbrev tSt : TypeId := 110
abbrev tNP : TypeId := 104
abbrev tNd : TypeId := 113
abbrev cPush (sb lb tb vb : Nat) : Value := clo 50 #[ptr sb, ptr lb, ptr tb, ptr vb]
abbrev cPush2 (lb tb sb pb vb : Nat) : Value := clo 52 #[ptr lb, ptr tb, ptr sb, ptr pb, ptr vb]
abbrev cPop (sb tb lb : Nat) : Value := clo 55 #[ptr sb, ptr tb, ptr lb]
abbrev cPop2 (lb tb sb pb : Nat) : Value := clo 56 #[ptr lb, ptr tb, ptr sb, ptr pb]
abbrev ndB (n : Nat) (v : Int) (below : Value) : Nat × Sy.Cont := (n, .obj (.cells #[.int .u64 v, below] tNd (0, 0)))
def push1n_o : Sy.O := (steps [0, 0, 0, 0, 0, 0, 0, 0, 0, 0, 0, 0, 1, 0, 5, 0, 0, 0, 0, 4, 0, 1, 0, 0, 1] nil)
noncomputable def push1n_R (tk sb lb tb vb st : Nat) (steps v : Int) (ns : Nat → Sy.Let) : Sy.Res (Value × List Blk) :=
 let z0 := Array.mk [Value.pointer none]
 let z1 := some (Addr.mk lb 0 none)
 let z2 := some (Addr.mk tb 0 none)
 let z3 := some (Addr.mk sb 0 none)
 let z4 := some (Addr.mk vb 0 none)
 leaf (Value.bool false, [Blk.mk (ns 0).n (.obj (.cells z0 104)) true, Blk.mk tk (.obj (.cells (Array.mk [Value.func (Fn.func 52) (Array.mk []) (Array.mk [.pointer z1, .pointer z2, .pointer z3, .pointer (some ⟨(ns 0).n, 0, none⟩), .pointer z4]), .int .u32 0, .int .i64 (Ex.wrapQ .i64 (Ex.addQ steps 1)), .int .u64 0, .bool false, .slice none 0 0]) 100)) true, Blk.mk sb (.obj (.cells (Array.mk [.pointer (some ⟨st, 0, none⟩)]) 25)) true, Blk.mk lb (.obj (.cells (Array.mk [Value.func (Fn.func 50) (Array.mk []) (Array.mk [.pointer z3, .pointer z1, .pointer z2, .pointer z4])]) 1)) true, Blk.mk tb (.obj (.cells (Array.mk [.pointer (some ⟨tk, 0, none⟩)]) 48)) true, Blk.mk vb (.obj (.cells (Array.mk [.int .u64 v]) 36)) true, Blk.mk st (.obj (.cells z0 110)) true])
theorem push1n_run (tk sb lb tb vb st : Nat) (steps v : Int) : Sy.Ran (Sy.inB Tryd.prog Sy.S0 50 fStep #[ptr tk] ([tkU tk (cPush sb lb tb vb) steps, bx sb tSP (ptr st), bx lb tFn (cPush sb lb tb vb), bx tb tTP (ptr tk), bx vb tU (.int .u64 v), bx st tSt Sy.ptr0].map Sy.ownOf)) push1n_o (push1n_R tk sb lb tb vb st steps v) := ⟨fun _ => by kernel_rfl, fun _ => by kernel_rfl⟩
def push1s_o : Sy.O := (steps [1, 0, 0, 1, 0, 1, 0, 0, 0, 1, 0, 0, 2, 0, 6, 0, 0, 0, 0, 0, 0, 5, 0, 2, 0, 0, 2] nil)
noncomputable def push1s_R (tk sb lb tb vb st : Nat) (steps v : Int) (p : Nat) (vp : Int) (up : Value) (ns : Nat → Sy.Let) : Sy.Res (Value × List Blk) :=
 let z0 := Array.mk [Value.pointer (some ⟨p, 0, none⟩)]
 let z1 := some (Addr.mk lb 0 none)
 let z2 := some (Addr.mk tb 0 none)
 let z3 := some (Addr.mk sb 0 none)
 let z4 := some (Addr.mk vb 0 none)
 leaf (Value.bool false, [Blk.mk (ns 0).n (.obj (.cells z0 104)) true, Blk.mk p (.obj (.cells (Array.mk [.int .u64 vp, up]) 113)) false, Blk.mk tk (.obj (.cells (Array.mk [Value.func (Fn.func 52) (Array.mk []) (Array.mk [.pointer z1, .pointer z2, .pointer z3, .pointer (some ⟨(ns 0).n, 0, none⟩), .pointer z4]), .int .u32 0, .int .i64 (Ex.wrapQ .i64 (Ex.addQ steps 1)), .int .u64 0, .bool false, .slice none 0 0]) 100)) true, Blk.mk sb (.obj (.cells (Array.mk [.pointer (some ⟨st, 0, none⟩)]) 25)) true, Blk.mk lb (.obj (.cells (Array.mk [Value.func (Fn.func 50) (Array.mk []) (Array.mk [.pointer z3, .pointer z1, .pointer z2, .pointer z4])]) 1)) true, Blk.mk tb (.obj (.cells (Array.mk [.pointer (some ⟨tk, 0, none⟩)]) 48)) true, Blk.mk vb (.obj (.cells (Array.mk [.int .u64 v]) 36)) true, Blk.mk st (.obj (.cells z0 110)) true])
theorem push1s_run (tk sb lb tb vb st : Nat) (steps v : Int) (p : Nat) (vp : Int) (up : Value) : Sy.Ran (Sy.inB Tryd.prog Sy.S0 50 fStep #[ptr tk] (Sy.rdsOf [ndB p vp up] ++ [tkU tk (cPush sb lb tb vb) steps, bx sb tSP (ptr st), bx lb tFn (cPush sb lb tb vb), bx tb tTP (ptr tk), bx vb tU (.int .u64 v), bx st tSt (ptr p)].map Sy.ownOf)) push1s_o (push1s_R tk sb lb tb vb st steps v p vp up) := ⟨fun _ => by kernel_rfl, fun _ => by kernel_rfl⟩
def push2nn_o : Sy.O := (steps [0, 0, 0, 0, 0, 0, 0, 0, 0, 0, 0, 0, 3, 0, 0, 2, 0, 0, 0, 0, 3, 0, 0, 1, 0, 1, 2, 3, 0, 5, 0, 4, 0, 4, 0, 5, 0, 5, 0, 6, 11, 1, 0, 1, 2, 3, 4, 5, 6, 7, 11, 0, 0, 7, 0, 0, 0, 0, 4, 0] (steps [0, 5, 0, 1, 0, 0, 1, 0, 0, 3, 0, 1, 2, 3, 8, 0, 1, 0, 0, 1] nil))
noncomputable def push2nn_R (tk sb lb tb vb st pb : Nat) (steps v : Int) (ns : Nat → Sy.Let) : Sy.Res (Value × List Blk) :=
 let z0 := Fn.func 50
 let z1 := Array.mk [Value.pointer (some ⟨sb, 0, none⟩), Value.pointer (some ⟨lb, 0, none⟩), Value.pointer (some ⟨tb, 0, none⟩), Value.pointer (some ⟨vb, 0, none⟩)]
 leaf (Value.bool true, [Blk.mk (ns 0).n (.obj (.cells (Array.mk [.int .u64 v, .pointer none]) 113)) true, Blk.mk tk (.obj (.cells (Array.mk [Value.func z0 (Array.mk []) z1, .int .u32 1, .int .i64 (Ex.wrapQ .i64 (Ex.addQ steps 1)), .int .u64 v, .bool true, .slice none 0 0]) 100)) true, Blk.mk sb (.obj (.cells (Array.mk [.pointer (some ⟨st, 0, none⟩)]) 25)) true, Blk.mk lb (.obj (.cells (Array.mk [Value.func z0 (Array.mk []) z1]) 1)) true, Blk.mk tb (.obj (.cells (Array.mk [.pointer (some ⟨tk, 0, none⟩)]) 48)) true, Blk.mk vb (.obj (.cells (Array.mk [.int .u64 v]) 36)) true, Blk.mk pb (.obj (.cells (Array.mk [.pointer none]) 104)) true, Blk.mk st (.obj (.cells (Array.mk [.pointer (some ⟨(ns 0).n, 0, none⟩)]) 110)) true])
theorem push2nn_run (tk sb lb tb vb st pb : Nat) (steps v : Int) : Sy.Ran (Sy.inB Tryd.prog Sy.S0 50 fStep #[ptr tk] ([tkU tk (cPush2 lb tb sb pb vb) steps, bx sb tSP (ptr st), bx lb tFn (cPush sb lb tb vb), bx tb tTP (ptr tk), bx vb tU (.int .u64 v), bx pb tNP Sy.ptr0, bx st tSt Sy.ptr0].map Sy.ownOf)) push2nn_o (push2nn_R tk sb lb tb vb st pb steps v) := ⟨fun _ => by kernel_rfl, fun _ => by kernel_rfl⟩
def push2ns_o : Sy.O := (steps [1, 0, 0, 1, 0, 1, 0, 0, 0, 1, 0, 0, 4, 0, 0, 3, 0, 1, 0, 0, 3, 0, 0, 2, 0, 1, 2, 3, 0, 6, 0, 4, 0, 5, 0, 5, 0, 6, 0, 6, 11, 1, 0, 1, 2, 3, 4, 5, 6, 7, 8, 11, 1, 1, 0, 0, 8, 0, 0, 2] nil)
noncomputable def push2ns_R (tk sb lb tb vb st pb : Nat) (steps v : Int) (q : Nat) (vq : Int) (uq : Value) (ns : Nat → Sy.Let) : Sy.Res (Value × List Blk) :=
 let z0 := some (Addr.mk q 0 none)
 let z1 := Fn.func 50
 let z2 := Array.mk [Value.pointer (some ⟨sb, 0, none⟩), Value.pointer (some ⟨lb, 0, none⟩), Value.pointer (some ⟨tb, 0, none⟩), Value.pointer (some ⟨vb, 0, none⟩)]
 leaf (Value.bool false, [Blk.mk (ns 0).n (.obj (.cells (Array.mk [.int .u64 v, .pointer z0]) 113)) true, Blk.mk q (.obj (.cells (Array.mk [.int .u64 vq, uq]) 113)) false, Blk.mk tk (.obj (.cells (Array.mk [Value.func z1 (Array.mk []) z2, .int .u32 0, .int .i64 (Ex.wrapQ .i64 (Ex.addQ steps 1)), .int .u64 0, .bool false, .slice none 0 0]) 100)) true, Blk.mk sb (.obj (.cells (Array.mk [.pointer (some ⟨st, 0, none⟩)]) 25)) true, Blk.mk lb (.obj (.cells (Array.mk [Value.func z1 (Array.mk []) z2]) 1)) true, Blk.mk tb (.obj (.cells (Array.mk [.pointer (some ⟨tk, 0, none⟩)]) 48)) true, Blk.mk vb (.obj (.cells (Array.mk [.int .u64 v]) 36)) true, Blk.mk pb (.obj (.cells (Array.mk [.pointer z0]) 104)) true, Blk.mk st (.obj (.cells (Array.mk [.pointer none]) 110)) true])
theorem push2ns_run (tk sb lb tb vb st pb : Nat) (steps v : Int) (q : Nat) (vq : Int) (uq : Value) : Sy.Ran (Sy.inB Tryd.prog Sy.S0 50 fStep #[ptr tk] (Sy.rdsOf [ndB q vq uq] ++ [tkU tk (cPush2 lb tb sb pb vb) steps, bx sb tSP (ptr st), bx lb tFn (cPush sb lb tb vb), bx tb tTP (ptr tk), bx vb tU (.int .u64 v), bx pb tNP (ptr q), bx st tSt Sy.ptr0].map Sy.ownOf)) push2ns_o (push2ns_R tk sb lb tb vb st pb steps v q vq uq) := ⟨fun _ => by kernel_rfl, fun _ => by kernel_rfl⟩
def push2sn_o : Sy.O := (steps [1, 0, 0, 1, 0, 1, 0, 0, 0, 1, 0, 0, 4, 0, 0, 3, 0, 1, 0, 0, 3, 0, 0, 2, 0, 1, 2, 3, 0, 6, 0, 4, 0, 5, 0, 5, 0, 6, 0, 6, 11, 1, 0, 1, 2, 3, 4, 5, 6, 7, 8, 11, 0, 0, 8, 0, 0, 2] nil)
noncomputable def push2sn_R (tk sb lb tb vb st pb : Nat) (steps v : Int) (p : Nat) (vp : Int) (up : Value) (ns : Nat → Sy.Let) : Sy.Res (Value × List Blk) :=
 let z0 := Fn.func 50
 let z1 := Array.mk [Value.pointer (some ⟨sb, 0, none⟩), Value.pointer (some ⟨lb, 0, none⟩), Value.pointer (some ⟨tb, 0, none⟩), Value.pointer (some ⟨vb, 0, none⟩)]
 leaf (Value.bool false, [Blk.mk (ns 0).n (.obj (.cells (Array.mk [.int .u64 v, .pointer none]) 113)) true, Blk.mk p (.obj (.cells (Array.mk [.int .u64 vp, up]) 113)) false, Blk.mk tk (.obj (.cells (Array.mk [Value.func z0 (Array.mk []) z1, .int .u32 0, .int .i64 (Ex.wrapQ .i64 (Ex.addQ steps 1)), .int .u64 0, .bool false, .slice none 0 0]) 100)) true, Blk.mk sb (.obj (.cells (Array.mk [.pointer (some ⟨st, 0, none⟩)]) 25)) true, Blk.mk lb (.obj (.cells (Array.mk [Value.func z0 (Array.mk []) z1]) 1)) true, Blk.mk tb (.obj (.cells (Array.mk [.pointer (some ⟨tk, 0, none⟩)]) 48)) true, Blk.mk vb (.obj (.cells (Array.mk [.int .u64 v]) 36)) true, Blk.mk pb (.obj (.cells (Array.mk [.pointer none]) 104)) true, Blk.mk st (.obj (.cells (Array.mk [.pointer (some ⟨p, 0, none⟩)]) 110)) true])
theorem push2sn_run (tk sb lb tb vb st pb : Nat) (steps v : Int) (p : Nat) (vp : Int) (up : Value) : Sy.Ran (Sy.inB Tryd.prog Sy.S0 50 fStep #[ptr tk] (Sy.rdsOf [ndB p vp up] ++ [tkU tk (cPush2 lb tb sb pb vb) steps, bx sb tSP (ptr st), bx lb tFn (cPush sb lb tb vb), bx tb tTP (ptr tk), bx vb tU (.int .u64 v), bx pb tNP Sy.ptr0, bx st tSt (ptr p)].map Sy.ownOf)) push2sn_o (push2sn_R tk sb lb tb vb st pb steps v p vp up) := ⟨fun _ => by kernel_rfl, fun _ => by kernel_rfl⟩
def push2ss_o : Sy.O := (steps [2, 0, 0, 2, 0, 2, 0, 0, 0, 2, 0, 0, 5, 0, 0, 4, 0, 2, 0, 0, 3, 0, 0, 3, 0, 1, 2, 3, 0, 7, 0, 4, 0, 6, 0, 5, 0, 7, 0, 6, 11, 1, 0, 1, 2, 3, 4, 5, 6, 7, 8, 9, 11, 2, 2, 0, 0, 9, 1, 1] (steps [2] (fork (steps [0, 0, 0, 6, 0, 0, 7, 0, 3, 0, 0, 3, 0, 0, 3, 0, 1, 2, 3, 8, 0, 3, 0, 0, 3] nil) (steps [0, 3] nil))))
noncomputable def push2ss_R (tk sb lb tb vb st pb : Nat) (steps v : Int) (p : Nat) (vp : Int) (up : Value) (q : Nat) (vq : Int) (uq : Value) (ns : Nat → Sy.Let) : Sy.Res (Value × List Blk) :=
 let z0 := some (Addr.mk q 0 none)
 let z1 := Sy.Cont.obj (Obj.cells (Array.mk [.int .u64 v, .pointer z0]) 113)
 let z2 := Sy.Cont.obj (Obj.cells (Array.mk [.int .u64 vp, up]) 113)
 let z3 := Sy.Cont.obj (Obj.cells (Array.mk [.int .u64 vq, uq]) 113)
 let z4 := Fn.func 50
 let z5 := Array.mk []
 let z6 := Array.mk [Value.pointer (some ⟨sb, 0, none⟩), Value.pointer (some ⟨lb, 0, none⟩), Value.pointer (some ⟨tb, 0, none⟩), Value.pointer (some ⟨vb, 0, none⟩)]
 let z7 := Ex.wrapQ .i64 (Ex.addQ steps 1)
 let z8 := Sy.Cont.obj (Obj.cells (Array.mk [.pointer (some ⟨st, 0, none⟩)]) 25)
 let z9 := Sy.Cont.obj (Obj.cells (Array.mk [Value.func z4 z5 z6]) 1)
 let z10 := Sy.Cont.obj (Obj.cells (Array.mk [.pointer (some ⟨tk, 0, none⟩)]) 48)
 let z11 := Sy.Cont.obj (Obj.cells (Array.mk [.int .u64 v]) 36)
 let z12 := Sy.Cont.obj (Obj.cells (Array.mk [.pointer z0]) 104)
 br (Nat.beq p q && true) (leaf (Value.bool true, [Blk.mk (ns 0).n z1 true, Blk.mk p z2 false, Blk.mk q z3 false, Blk.mk tk (.obj (.cells (Array.mk [Value.func z4 z5 z6, .int .u32 1, .int .i64 z7, .int .u64 v, .bool true, .slice none 0 0]) 100)) true, Blk.mk sb z8 true, Blk.mk lb z9 true, Blk.mk tb z10 true, Blk.mk vb z11 true, Blk.mk pb z12 true, Blk.mk st (.obj (.cells (Array.mk [.pointer (some ⟨(ns 0).n, 0, none⟩)]) 110)) true])) (leaf (Value.bool false, [Blk.mk (ns 0).n z1 true, Blk.mk p z2 false, Blk.mk q z3 false, Blk.mk tk (.obj (.cells (Array.mk [Value.func z4 z5 z6, .int .u32 0, .int .i64 z7, .int .u64 0, .bool false, .slice none 0 0]) 100)) true, Blk.mk sb z8 true, Blk.mk lb z9 true, Blk.mk tb z10 true, Blk.mk vb z11 true, Blk.mk pb z12 true, Blk.mk st (.obj (.cells (Array.mk [.pointer (some ⟨p, 0, none⟩)]) 110)) true]))
theorem push2ss_run (tk sb lb tb vb st pb : Nat) (steps v : Int) (p : Nat) (vp : Int) (up : Value) (q : Nat) (vq : Int) (uq : Value) : Sy.Ran (Sy.inB Tryd.prog Sy.S0 50 fStep #[ptr tk] (Sy.rdsOf [ndB p vp up, ndB q vq uq] ++ [tkU tk (cPush2 lb tb sb pb vb) steps, bx sb tSP (ptr st), bx lb tFn (cPush sb lb tb vb), bx tb tTP (ptr tk), bx vb tU (.int .u64 v), bx pb tNP (ptr q), bx st tSt (ptr p)].map Sy.ownOf)) push2ss_o (push2ss_R tk sb lb tb vb st pb steps v p vp up q vq uq) := ⟨fun _ => by kernel_rfl, fun _ => by kernel_rfl⟩
def pop1n_o : Sy.O := (steps [0, 0, 0, 0, 0, 0, 0, 0, 0, 0, 0, 0, 1, 0, 4, 0, 0, 0, 0, 0, 0, 0, 0, 4, 0, 1, 0, 0, 1, 0, 0, 3, 0, 1, 2, 3, 8, 0, 1, 0, 0, 1] nil)
noncomputable def pop1n_R (tk sb lb tb st : Nat) (steps : Int) (ns : Nat → Sy.Let) : Sy.Res (Value × List Blk) :=
 let z0 := Array.mk [Value.pointer none]
 let z1 := Fn.func 55
 let z2 := Array.mk [Value.pointer (some ⟨sb, 0, none⟩), Value.pointer (some ⟨tb, 0, none⟩), Value.pointer (some ⟨lb, 0, none⟩)]
 leaf (Value.bool true, [Blk.mk (ns 0).n (.obj (.cells z0 104)) true, Blk.mk tk (.obj (.cells (Array.mk [Value.func z1 (Array.mk []) z2, .int .u32 1, .int .i64 (Ex.wrapQ .i64 (Ex.addQ steps 1)), .int .u64 0, .bool false, .slice none 0 0]) 100)) true, Blk.mk sb (.obj (.cells (Array.mk [.pointer (some ⟨st, 0, none⟩)]) 25)) true, Blk.mk lb (.obj (.cells (Array.mk [Value.func z1 (Array.mk []) z2]) 1)) true, Blk.mk tb (.obj (.cells (Array.mk [.pointer (some ⟨tk, 0, none⟩)]) 48)) true, Blk.mk st (.obj (.cells z0 110)) true])
theorem pop1n_run (tk sb lb tb st : Nat) (steps : Int) : Sy.Ran (Sy.inB Tryd.prog Sy.S0 50 fStep #[ptr tk] ([tkU tk (cPop sb tb lb) steps, bx sb tSP (ptr st), bx lb tFn (cPop sb tb lb), bx tb tTP (ptr tk), bx st tSt Sy.ptr0].map Sy.ownOf)) pop1n_o (pop1n_R tk sb lb tb st steps) := ⟨fun _ => by kernel_rfl, fun _ => by kernel_rfl⟩
def pop1s_o : Sy.O := (steps [1, 0, 0, 1, 0, 1, 0, 0, 0, 1, 0, 0, 2, 0, 5, 0, 0, 0, 0, 0, 0, 0, 0, 0, 0, 5, 0, 2, 0, 0, 2] nil)
noncomputable def pop1s_R (tk sb lb tb st : Nat) (steps : Int) (p : Nat) (vp : Int) (up : Value) (ns : Nat → Sy.Let) : Sy.Res (Value × List Blk) :=
 let z0 := Array.mk [Value.pointer (some ⟨p, 0, none⟩)]
 let z1 := some (Addr.mk lb 0 none)
 let z2 := some (Addr.mk tb 0 none)
 let z3 := some (Addr.mk sb 0 none)
 leaf (Value.bool false, [Blk.mk (ns 0).n (.obj (.cells z0 104)) true, Blk.mk p (.obj (.cells (Array.mk [.int .u64 vp, up]) 113)) false, Blk.mk tk (.obj (.cells (Array.mk [Value.func (Fn.func 56) (Array.mk []) (Array.mk [.pointer z1, .pointer z2, .pointer z3, .pointer (some ⟨(ns 0).n, 0, none⟩)]), .int .u32 0, .int .i64 (Ex.wrapQ .i64 (Ex.addQ steps 1)), .int .u64 0, .bool false, .slice none 0 0]) 100)) true, Blk.mk sb (.obj (.cells (Array.mk [.pointer (some ⟨st, 0, none⟩)]) 25)) true, Blk.mk lb (.obj (.cells (Array.mk [Value.func (Fn.func 55) (Array.mk []) (Array.mk [.pointer z3, .pointer z2, .pointer z1])]) 1)) true, Blk.mk tb (.obj (.cells (Array.mk [.pointer (some ⟨tk, 0, none⟩)]) 48)) true, Blk.mk st (.obj (.cells z0 110)) true])
theorem pop1s_run (tk sb lb tb st : Nat) (steps : Int) (p : Nat) (vp : Int) (up : Value) : Sy.Ran (Sy.inB Tryd.prog Sy.S0 50 fStep #[ptr tk] (Sy.rdsOf [ndB p vp up] ++ [tkU tk (cPop sb tb lb) steps, bx sb tSP (ptr st), bx lb tFn (cPop sb tb lb), bx tb tTP (ptr tk), bx st tSt (ptr p)].map Sy.ownOf)) pop1s_o (pop1s_R tk sb lb tb st steps p vp up) := ⟨fun _ => by kernel_rfl, fun _ => by kernel_rfl⟩
def pop2n0_o : Sy.O := (steps [1, 0, 0, 1, 0, 1, 0, 0, 0, 1, 0, 0, 4, 0, 0, 3, 0, 1, 0, 0, 3, 0, 0, 2, 0, 1, 2, 3, 0, 5, 0, 4, 0, 5, 0, 5, 6, 7, 0, 0, 0, 11, 0, 0, 6, 0, 0, 1] nil)
noncomputable def pop2n0_R (tk sb lb tb st pb q : Nat) (steps v : Int) (ns : Nat → Sy.Let) : Sy.Res (Value × List Blk) :=
 let z0 := Fn.func 55
 let z1 := Array.mk [Value.pointer (some ⟨sb, 0, none⟩), Value.pointer (some ⟨tb, 0, none⟩), Value.pointer (some ⟨lb, 0, none⟩)]
 leaf (Value.bool false, [Blk.mk q (.obj (.cells (Array.mk [.int .u64 v, .pointer none]) 113)) false, Blk.mk tk (.obj (.cells (Array.mk [Value.func z0 (Array.mk []) z1, .int .u32 0, .int .i64 (Ex.wrapQ .i64 (Ex.addQ steps 1)), .int .u64 0, .bool false, .slice none 0 0]) 100)) true, Blk.mk sb (.obj (.cells (Array.mk [.pointer (some ⟨st, 0, none⟩)]) 25)) true, Blk.mk lb (.obj (.cells (Array.mk [Value.func z0 (Array.mk []) z1]) 1)) true, Blk.mk tb (.obj (.cells (Array.mk [.pointer (some ⟨tk, 0, none⟩)]) 48)) true, Blk.mk pb (.obj (.cells (Array.mk [.pointer (some ⟨q, 0, none⟩)]) 104)) true, Blk.mk st (.obj (.cells (Array.mk [.pointer none]) 110)) true])
theorem pop2n0_run (tk sb lb tb st pb q : Nat) (steps v : Int) : Sy.Ran (Sy.inB Tryd.prog Sy.S0 50 fStep #[ptr tk] (Sy.rdsOf [ndB q v Sy.ptr0] ++ ([tkU tk (cPop2 lb tb sb pb) steps, bx sb tSP (ptr st), bx lb tFn (cPop sb tb lb), bx tb tTP (ptr tk), bx pb tNP (ptr q), bx st tSt Sy.ptr0].map Sy.ownOf))) pop2n0_o (pop2n0_R tk sb lb tb st pb q steps v) := ⟨fun _ => by kernel_rfl, fun _ => by kernel_rfl⟩
def pop2n1_o : Sy.O := (steps [2, 0, 0, 2, 0, 2, 0, 0, 0, 2, 0, 0, 5, 0, 0, 4, 0, 2, 0, 0, 3, 0, 0, 3, 0, 1, 2, 3, 0, 6, 0, 4, 0, 6, 0, 5, 6, 7, 0, 0, 0, 11, 0, 0, 1, 1, 7, 0, 0, 2] nil)
noncomputable def pop2n1_R (tk sb lb tb st pb q : Nat) (steps v : Int) (r : Nat) (vr : Int) (ur : Value) (ns : Nat → Sy.Let) : Sy.Res (Value × List Blk) :=
 let z0 := Fn.func 55
 let z1 := Array.mk [Value.pointer (some ⟨sb, 0, none⟩), Value.pointer (some ⟨tb, 0, none⟩), Value.pointer (some ⟨lb, 0, none⟩)]
 leaf (Value.bool false, [Blk.mk q (.obj (.cells (Array.mk [.int .u64 v, .pointer (some ⟨r, 0, none⟩)]) 113)) false, Blk.mk r (.obj (.cells (Array.mk [.int .u64 vr, ur]) 113)) false, Blk.mk tk (.obj (.cells (Array.mk [Value.func z0 (Array.mk []) z1, .int .u32 0, .int .i64 (Ex.wrapQ .i64 (Ex.addQ steps 1)), .int .u64 0, .bool false, .slice none 0 0]) 100)) true, Blk.mk sb (.obj (.cells (Array.mk [.pointer (some ⟨st, 0, none⟩)]) 25)) true, Blk.mk lb (.obj (.cells (Array.mk [Value.func z0 (Array.mk []) z1]) 1)) true, Blk.mk tb (.obj (.cells (Array.mk [.pointer (some ⟨tk, 0, none⟩)]) 48)) true, Blk.mk pb (.obj (.cells (Array.mk [.pointer (some ⟨q, 0, none⟩)]) 104)) true, Blk.mk st (.obj (.cells (Array.mk [.pointer none]) 110)) true])
theorem pop2n1_run (tk sb lb tb st pb q : Nat) (steps v : Int) (r : Nat) (vr : Int) (ur : Value) : Sy.Ran (Sy.inB Tryd.prog Sy.S0 50 fStep #[ptr tk] (Sy.rdsOf [ndB q v (ptr r)] ++ (Sy.rdsOf [ndB r vr ur] ++ [tkU tk (cPop2 lb tb sb pb) steps, bx sb tSP (ptr st), bx lb tFn (cPop sb tb lb), bx tb tTP (ptr tk), bx pb tNP (ptr q), bx st tSt Sy.ptr0].map Sy.ownOf))) pop2n1_o (pop2n1_R tk sb lb tb st pb q steps v r vr ur) := ⟨fun _ => by kernel_rfl, fun _ => by kernel_rfl⟩
def pop2s0_o : Sy.O := (steps [2, 0, 0, 2, 0, 2, 0, 0, 0, 2, 0, 0, 5, 0, 0, 4, 0, 2, 0, 0, 3, 0, 0, 3, 0, 1, 2, 3, 0, 6, 0, 4, 0, 6, 0, 5, 6, 7, 0, 0, 0, 11, 0, 0, 7, 1, 1, 0] (fork (steps [0, 0, 3, 0, 0, 5, 0, 1, 0, 6, 0, 2, 3, 4, 0, 0, 0, 8, 2, 0, 0, 2, 0, 0, 3, 0, 1, 2, 3, 8, 0, 2, 0, 0, 2] nil) (steps [0, 2] nil)))
noncomputable def pop2s0_R (tk sb lb tb st pb q : Nat) (steps v : Int) (p : Nat) (vp : Int) (up : Value) (ns : Nat → Sy.Let) : Sy.Res (Value × List Blk) :=
 let z0 := Sy.Cont.obj (Obj.cells (Array.mk [.int .u64 v, .pointer none]) 113)
 let z1 := Sy.Cont.obj (Obj.cells (Array.mk [.int .u64 vp, up]) 113)
 let z2 := Fn.func 55
 let z3 := Array.mk []
 let z4 := Array.mk [Value.pointer (some ⟨sb, 0, none⟩), Value.pointer (some ⟨tb, 0, none⟩), Value.pointer (some ⟨lb, 0, none⟩)]
 let z5 := Ex.wrapQ .i64 (Ex.addQ steps 1)
 let z6 := Sy.Cont.obj (Obj.cells (Array.mk [.pointer (some ⟨st, 0, none⟩)]) 25)
 let z7 := Sy.Cont.obj (Obj.cells (Array.mk [Value.func z2 z3 z4]) 1)
 let z8 := Sy.Cont.obj (Obj.cells (Array.mk [.pointer (some ⟨tk, 0, none⟩)]) 48)
 let z9 := Sy.Cont.obj (Obj.cells (Array.mk [.pointer (some ⟨q, 0, none⟩)]) 104)
 br (Nat.beq p q && true) (leaf (Value.bool true, [Blk.mk q z0 false, Blk.mk p z1 false, Blk.mk tk (.obj (.cells (Array.mk [Value.func z2 z3 z4, .int .u32 1, .int .i64 z5, .int .u64 v, .bool true, .slice none 0 0]) 100)) true, Blk.mk sb z6 true, Blk.mk lb z7 true, Blk.mk tb z8 true, Blk.mk pb z9 true, Blk.mk st (.obj (.cells (Array.mk [.pointer none]) 110)) true])) (leaf (Value.bool false, [Blk.mk q z0 false, Blk.mk p z1 false, Blk.mk tk (.obj (.cells (Array.mk [Value.func z2 z3 z4, .int .u32 0, .int .i64 z5, .int .u64 0, .bool false, .slice none 0 0]) 100)) true, Blk.mk sb z6 true, Blk.mk lb z7 true, Blk.mk tb z8 true, Blk.mk pb z9 true, Blk.mk st (.obj (.cells (Array.mk [.pointer (some ⟨p, 0, none⟩)]) 110)) true]))
theorem pop2s0_run (tk sb lb tb st pb q : Nat) (steps v : Int) (p : Nat) (vp : Int) (up : Value) : Sy.Ran (Sy.inB Tryd.prog Sy.S0 50 fStep #[ptr tk] (Sy.rdsOf [ndB q v Sy.ptr0] ++ (Sy.rdsOf [ndB p vp up] ++ [tkU tk (cPop2 lb tb sb pb) steps, bx sb tSP (ptr st), bx lb tFn (cPop sb tb lb), bx tb tTP (ptr tk), bx pb tNP (ptr q), bx st tSt (ptr p)].map Sy.ownOf))) pop2s0_o (pop2s0_R tk sb lb tb st pb q steps v p vp up) := ⟨fun _ => by kernel_rfl, fun _ => by kernel_rfl⟩
def pop2s1_o : Sy.O := (steps [3, 0, 0, 3, 0, 3, 0, 0, 0, 3, 0, 0, 6, 0, 0, 5, 0, 3, 0, 0, 3, 0, 0, 4, 0, 1, 2, 3, 0, 7, 0, 4, 0, 7, 0, 5, 6, 7, 0, 0, 0, 11, 0, 0, 2, 2, 8, 1, 1, 0] (fork (steps [0, 0, 3, 0, 0, 6, 0, 1, 0, 7, 0, 2, 3, 4, 0, 0, 0, 8, 3, 0, 0, 3, 0, 0, 3, 0, 1, 2, 3, 8, 0, 3, 0, 0, 3] nil) (steps [0, 3] nil)))
noncomputable def pop2s1_R (tk sb lb tb st pb q : Nat) (steps v : Int) (p : Nat) (vp : Int) (up : Value) (r : Nat) (vr : Int) (ur : Value) (ns : Nat → Sy.Let) : Sy.Res (Value × List Blk) :=
 let z0 := some (Addr.mk r 0 none)
 let z1 := Sy.Cont.obj (Obj.cells (Array.mk [.int .u64 v, .pointer z0]) 113)
 let z2 := Sy.Cont.obj (Obj.cells (Array.mk [.int .u64 vp, up]) 113)
 let z3 := Sy.Cont.obj (Obj.cells (Array.mk [.int .u64 vr, ur]) 113)
 let z4 := Fn.func 55
 let z5 := Array.mk []
 let z6 := Array.mk [Value.pointer (some ⟨sb, 0, none⟩), Value.pointer (some ⟨tb, 0, none⟩), Value.pointer (some ⟨lb, 0, none⟩)]
 let z7 := Ex.wrapQ .i64 (Ex.addQ steps 1)
 let z8 := Sy.Cont.obj (Obj.cells (Array.mk [.pointer (some ⟨st, 0, none⟩)]) 25)
 let z9 := Sy.Cont.obj (Obj.cells (Array.mk [Value.func z4 z5 z6]) 1)
 let z10 := Sy.Cont.obj (Obj.cells (Array.mk [.pointer (some ⟨tk, 0, none⟩)]) 48)
 let z11 := Sy.Cont.obj (Obj.cells (Array.mk [.pointer (some ⟨q, 0, none⟩)]) 104)
 br (Nat.beq p q && true) (leaf (Value.bool true, [Blk.mk q z1 false, Blk.mk p z2 false, Blk.mk r z3 false, Blk.mk tk (.obj (.cells (Array.mk [Value.func z4 z5 z6, .int .u32 1, .int .i64 z7, .int .u64 v, .bool true, .slice none 0 0]) 100)) true, Blk.mk sb z8 true, Blk.mk lb z9 true, Blk.mk tb z10 true, Blk.mk pb z11 true, Blk.mk st (.obj (.cells (Array.mk [.pointer z0]) 110)) true])) (leaf (Value.bool false, [Blk.mk q z1 false, Blk.mk p z2 false, Blk.mk r z3 false, Blk.mk tk (.obj (.cells (Array.mk [Value.func z4 z5 z6, .int .u32 0, .int .i64 z7, .int .u64 0, .bool false, .slice none 0 0]) 100)) true, Blk.mk sb z8 true, Blk.mk lb z9 true, Blk.mk tb z10 true, Blk.mk pb z11 true, Blk.mk st (.obj (.cells (Array.mk [.pointer (some ⟨p, 0, none⟩)]) 110)) true]))
theorem pop2s1_run (tk sb lb tb st pb q : Nat) (steps v : Int) (p : Nat) (vp : Int) (up : Value) (r : Nat) (vr : Int) (ur : Value) : Sy.Ran (Sy.inB Tryd.prog Sy.S0 50 fStep #[ptr tk] (Sy.rdsOf [ndB q v (ptr r)] ++ (Sy.rdsOf [ndB p vp up, ndB r vr ur] ++ [tkU tk (cPop2 lb tb sb pb) steps, bx sb tSP (ptr st), bx lb tFn (cPop sb tb lb), bx tb tTP (ptr tk), bx pb tNP (ptr q), bx st tSt (ptr p)].map Sy.ownOf))) pop2s1_o (pop2s1_R tk sb lb tb st pb q steps v p vp up r vr ur) := ⟨fun _ => by kernel_rfl, fun _ => by kernel_rfl⟩
end Go.Proofs.YtjohknpmhlildaaDoor.At
namespace Go.Proofs.YtjohknpmhlildaaDoor.At
open Sy.O (fork nil step steps)
open Sy.Res (need hyp br leaf both)
open Go Go.RowKit
open Go.Proofs.YtjohknpmhlildaaDoor.Sy (Let Blk ptr bx tkB tkU clo)
abbrev fTz : FuncId := 72
def tabV : List Value := Lib.deBruijn64tab.map fun (n : Nat) => Value.int .u8 (n : Int)
abbrev tTab : TypeId := 175
abbrev tabB : Nat × Sy.Cont := (0, .row tTab 1 64 64 tabV)
def tz_o : Sy.O := (fork nil (steps [0, 0, 1, 0, 0, 1, 1, 1] nil))
noncomputable def tz_R (x : Int) (ns : Nat → Sy.Let) : Sy.Res (Value × List Blk) :=
 let z0 := Sy.Cont.row 175 1 64 64 tabV
 let z1 := [Blk.mk 0 z0 false]
 let z2 := Ex.wrapQ .u64 (Ex.mulQ (Ex.andQ .u64 x (Ex.wrapQ .u64 (Ex.subQ' 0 x))) 285870213051353865)
 let z3 := 0 + Int.toNat (Ex.shrQ .u64 z2 58) * 1
 br (Ex.eqQ x 0) (leaf (Value.int .i64 64, z1)) (need (0 ≤ Ex.shrQ .u64 z2 58 ∧ Ex.shrQ .u64 z2 (58 : Nat) < 64) (need (∃ (i : Int), Sy.Cont.at z0 z3 = some (Value.int .u8 i)) (hyp (Sy.Cont.at z0 z3 = some (Value.int .u8 (ns 0).i)) (leaf (Value.int .i64 (Ex.wrapQ .i64 (ns 0).i), z1)))))
theorem tz_run (x : Int) : Sy.Ran (Sy.inB Tryd.prog Sy.S0 50 fTz #[.int .u64 x] (Sy.rdsOf [tabB])) tz_o (tz_R x) := ⟨fun _ => by kernel_rfl, fun _ => by kernel_rfl⟩
open Go Go.RowKit
open Go.Proofs.YtjohknpmhlildaaDoor.Sy (Let Blk ptr bx tkB tkU clo)
def tzV (x : Int) : Int := (Lib.ctz 64 x.toNat : Int)
def tzC (x : Int) : Sy.CallC := ⟨fTz, #[.int .u64 x], 0 ≤ x ∧ x < 18446744073709551616, ⟨[tabB], [], 0, []⟩, [Sy.plainO (.int .i64 (tzV x))]⟩
theorem plain_leaf {c : Sy.CallC} {v : Value} (ho : Sy.plainO v ∈ c.outs) (hm : c.mem.m = 0) {y : Value × List Blk} (hv : y.1 = v) : Sy.leafB c y :=
 ⟨_, ho, [], hm.symm, hv, Sy.Ent.sub (List.nil_sublist _), trivial⟩
theorem tz_idx (x : Nat) (hx : x < 18446744073709551616) (h0 : x ≠ 0) :
  Ex.shrQ .u64 (Ex.wrapQ .u64 (Ex.mulQ (Ex.andQ .u64 (x : Int) (Ex.wrapQ .u64 (Ex.subQ' 0 (x : Int)))) 285870213051353865)) 58 = ((2 ^ Lib.ctz 64 x * 285870213051353865 % 18446744073709551616 / 288230376151711744 : Nat) : Int) := by
 obtain ⟨hlow, hk⟩ := Lib.lowest_bit 64 x h0 hx
 have key := tz64_key x _ hx h0 hlow
 rw [← key, Ex.shrQ_eq, Ex.wrapQ_eq, Ex.mulQ_eq, Ex.wrapQ_eq, Ex.subQ_eq]
 have e1 : Ex.andQ .u64 (x : Int) (IntKind.u64.wrap (0 - (x : Int))) = bits BinOp.and .u64 (x : Int) (IntKind.u64.wrap (-(x : Int))) := by
  rw [Ex.andQ_eq, Int.zero_sub]
  rfl
 rw [e1]
 generalize hz : IntKind.u64.wrap (bits BinOp.and IntKind.u64 (x : Int) (IntKind.u64.wrap (-(x : Int))) * 285870213051353865) = z
 have hz0 : 0 ≤ z := by rw [← hz, IntKind.wrap_u64]; omega
 show z.fdiv 288230376151711744 = z / 288230376151711744
 rw [Int.fdiv_eq_ediv_of_nonneg _ (by decide)]
theorem tab_at {i : Nat} (h : i < 64) : (Sy.Cont.row tTab 1 64 64 tabV).at (0 + i * 1) = some (.int .u8 (Lib.deBruijn64tab.getD i 0 : Nat)) := by
 have hl : Lib.deBruijn64tab.length = 64 := by decide
 simp only [Sy.Cont.at, tabV, Nat.zero_add, Nat.mul_one]
 rw [List.getElem?_map, List.getElem?_eq_getElem (by omega), List.getD_eq_getElem?_getD, List.getElem?_eq_getElem (by omega)]
 rfl
theorem tzC_met (x : Int) : Sy.Meets Tryd.prog (tzC x) := by
 refine Sy.meets_ofB Sy.S0_holds mixed (Sy.Ent.refl _) (tz_run x) ?_
 rintro ⟨h0, h1⟩ ns
 obtain ⟨n, rfl⟩ := Int.eq_ofNat_of_zero_le h0
 have h1 : n < 18446744073709551616 := by omega
 simp only [tz_R, Sy.Res.holds]
 refine ⟨fun hz => ?_, fun hz => ?_⟩
 ·rw [Ex.eqQ_eq] at hz
  have hz : n = 0 := by have := beq_iff_eq.1 hz; omega
  subst hz
  exact plain_leaf (v := .int .i64 (tzV 0)) Sy.mH rfl rfl
 ·rw [Ex.eqQ_eq] at hz
  have hz : n ≠ 0 := fun he => by subst he; exact absurd hz (by decide)
  rw [tz_idx n h1 hz]
  obtain ⟨hlow, hk⟩ := Lib.lowest_bit 64 n hz h1
  obtain ⟨hi, htab⟩ := Lib.deBruijn64_at _ hk
  generalize 2 ^ Lib.ctz 64 n * 285870213051353865 % 18446744073709551616 / 288230376151711744 = i at hi htab
  rw [Int.toNat_natCast, tab_at hi, htab]
  refine ⟨⟨by omega, by omega⟩, ⟨_, rfl⟩, fun hu => ?_⟩
  injection hu with hu
  injection hu with _ hu
  have e : Ex.wrapQ .i64 (ns 0).i = tzV (n : Int) := by
   rw [← hu, Ex.wrapQ_eq, IntKind.wrap_i64]
   unfold tzV
   rw [Int.toNat_natCast]
   generalize Lib.ctz 64 n = k at hk
   omega
  rw [e]
  exact plain_leaf (v := .int .i64 (tzV (n : Int))) Sy.mH rfl rfl
end Go.Proofs.YtjohknpmhlildaaDoor.At
--@way 3
--@tail 0
namespace Go.Proofs.YtjohknpmhlildaaDoor.At
open Sy.O (fork nil step steps)
open Sy.Res (need hyp br leaf both)
open Go Go.RowKit
open Go.Proofs.YtjohknpmhlildaaDoor.Sy (Let Blk ptr bx tkB tkU clo)
abbrev tI : TypeId := 3
abbrev tLoP : TypeId := 27
abbrev tLo : TypeId := 129
abbrev tTo : TypeId := 150
abbrev slB (n : Nat) (room lent : Int) : Nat × Sy.Cont := (n, .obj (.cells #[.int .i64 room, .int .u64 lent] tLo (0, 0)))
abbrev cTk (s2 : Nat) : Value := clo 71 #[ptr s2]
abbrev cGv (gb s2 : Nat) : Value := clo 73 #[ptr gb, ptr s2]
abbrev cChg (sb fb tb lb : Nat) : Value := clo 91 #[ptr sb, ptr fb, ptr tb, ptr lb]
abbrev cChg2 (lb tb sb wb nb ib : Nat) : Value := clo 93 #[ptr lb, ptr tb, ptr sb, ptr wb, ptr nb, ptr ib]
def ctxTz : Sy.Ctx := Sy.mkS [(fTz, fun a _ => tzC (Sy.argI a 0))] [] []
theorem ctxTz_holds : ctxTz.holds Tryd.prog := Sy.mkS_holds (fun p hp a L => by
 rcases List.mem_singleton.1 hp with rfl
 exact tzC_met _) (fun _ h => (by cases h)) (fun _ h => (by cases h))
def lend1_o : Sy.O := (steps [1, 0, 0, 1, 0, 1, 0, 0, 0, 1, 0, 0, 2, 0, 7, 0, 0, 0, 0, 4, 0, 0, 0, 0, 0, 1, 0, 0, 0, 0, 0, 7, 0, 0, 8, 0] (fork (steps [1, 0, 0, 0, 0, 0, 0, 0, 7, 0, 4, 0, 0, 4, 0, 0, 3, 0, 1, 2, 3, 8, 0, 4, 0, 0, 4] nil) (steps [0, 1, 0, 0, 0, 0, 0, 0, 0, 7, 0, 4, 0, 0, 4] nil)))
noncomputable def lend1_R (tk sb fb tb lb s2 st : Nat) (steps room was : Int) (ns : Nat → Sy.Let) : Sy.Res (Value × List Blk) :=
 let z0 := tzV (Ex.xorQ .u64 18446744073709551615 was)
 let z1 := Sy.Cont.row 175 1 64 64 tabV
 let z2 := Sy.Cont.obj (Obj.cells (Array.mk [.int .u64 was]) 36)
 let z3 := Fn.func 91
 let z4 := Array.mk []
 let z5 := some (Addr.mk sb 0 none)
 let z6 := some (Addr.mk tb 0 none)
 let z7 := some (Addr.mk lb 0 none)
 let z8 := Array.mk [Value.pointer z5, Value.pointer (some ⟨fb, 0, none⟩), Value.pointer z6, Value.pointer z7]
 let z9 := Ex.wrapQ .i64 (Ex.addQ steps 1)
 let z10 := Sy.Cont.obj (Obj.cells (Array.mk [.pointer (some ⟨st, 0, none⟩)]) 27)
 let z11 := Sy.Cont.obj (Obj.cells (Array.mk [Value.func (Fn.func 71) z4 (Array.mk [.pointer (some ⟨s2, 0, none⟩)])]) 150)
 let z12 := Sy.Cont.obj (Obj.cells (Array.mk [.pointer (some ⟨tk, 0, none⟩)]) 48)
 let z13 := Sy.Cont.obj (Obj.cells (Array.mk [Value.func z3 z4 z8]) 1)
 let z14 := Sy.Cont.obj (Obj.cells (Array.mk [.int .i64 room, .int .u64 was]) 129)
 need (0 ≤ Ex.xorQ .u64 18446744073709551615 was ∧ Ex.xorQ .u64 18446744073709551615 was < 18446744073709551616) (hyp True (br (Ex.leQ room z0) (leaf (Value.bool true, [Blk.mk (ns 2).n (.obj (.cells (Array.mk [.int .i64 0]) 3)) true, Blk.mk (ns 1).n (.obj (.cells (Array.mk [.int .u64 0]) 36)) true, Blk.mk 0 z1 false, Blk.mk (ns 0).n z2 true, Blk.mk tk (.obj (.cells (Array.mk [Value.func z3 z4 z8, .int .u32 1, .int .i64 z9, .int .u64 0, .bool false, .slice none 0 0]) 100)) true, Blk.mk sb z10 true, Blk.mk fb z11 true, Blk.mk tb z12 true, Blk.mk lb z13 true, Blk.mk s2 z10 true, Blk.mk st z14 true])) (leaf (Value.bool false, [Blk.mk (ns 2).n (.obj (.cells (Array.mk [.int .i64 z0]) 3)) true, Blk.mk (ns 1).n (.obj (.cells (Array.mk [.int .u64 (Ex.orQ .u64 was (Ex.shlQ .u64 1 (Int.toNat z0)))]) 36)) true, Blk.mk 0 z1 false, Blk.mk (ns 0).n z2 true, Blk.mk tk (.obj (.cells (Array.mk [Value.func (Fn.func 93) z4 (Array.mk [.pointer z7, .pointer z6, .pointer z5, .pointer (some ⟨(ns 0).n, 0, none⟩), .pointer (some ⟨(ns 1).n, 0, none⟩), .pointer (some ⟨(ns 2).n, 0, none⟩)]), .int .u32 0, .int .i64 z9, .int .u64 0, .bool false, .slice none 0 0]) 100)) true, Blk.mk sb z10 true, Blk.mk fb z11 true, Blk.mk tb z12 true, Blk.mk lb z13 true, Blk.mk s2 z10 true, Blk.mk st z14 true]))))
theorem lend1_run (tk sb fb tb lb s2 st : Nat) (steps room was : Int) : Sy.Ran (Sy.inB Tryd.prog ctxTz 50 fStep #[ptr tk] (Sy.rdsOf [tabB] ++ [tkU tk (cChg sb fb tb lb) steps, bx sb tLoP (ptr st), bx fb tTo (cTk s2), bx tb tTP (ptr tk), bx lb tFn (cChg sb fb tb lb), bx s2 tLoP (ptr st), slB st room was].map Sy.ownOf)) lend1_o (lend1_R tk sb fb tb lb s2 st steps room was) := ⟨fun _ => by kernel_rfl, fun _ => by kernel_rfl⟩
def give1_o : Sy.O := (steps [0, 0, 0, 0, 0, 0, 0, 0, 0, 0, 0, 0, 1, 0, 7, 0, 0, 0, 0, 3, 0, 0, 0, 0, 3, 0, 0, 7, 0, 1, 2, 3] (fork (steps [4, 0, 5, 0, 6, 0, 7, 0, 8, 0, 9, 10, 11, 0, 12, 0, 13, 0, 14, 0, 15, 0, 16, 0, 1, 0, 0, 0, 0, 0, 0, 0, 6, 0, 3, 0, 0, 3, 0, 0, 3, 0, 1, 2, 3, 8, 0, 3, 0, 0, 3] nil) (steps [0, 7, 0, 4, 0, 0, 6, 0, 5, 0, 6, 0, 7, 0, 0, 8, 0, 8, 0, 9, 10, 11] (fork (steps [12, 0, 13, 0, 14, 0, 15, 0, 16, 0, 1, 0, 0, 0, 0, 0, 0, 0, 6, 0, 3, 0, 0, 3, 0, 0, 3, 0, 1, 2, 3, 8, 0, 3, 0, 0, 3] nil) (steps [12, 0, 0, 7, 0, 13, 0, 1, 14, 0, 15, 0, 16] (fork (steps [1, 0, 0, 0, 0, 0, 0, 0, 6, 0, 3, 0, 0, 3, 0, 0, 3, 0, 1, 2, 3, 8, 0, 3, 0, 0, 3] nil) (steps [3, 0, 1, 0, 7, 0, 2, 1, 3, 4, 0, 7, 0, 5, 6, 7, 1, 0, 0, 0, 0, 0, 0, 0, 6, 0, 3, 0, 0, 3] nil)))))))
noncomputable def give1_R (tk sb fb tb lb s2 gb st : Nat) (steps room was g : Int) (ns : Nat → Sy.Let) : Sy.Res (Value × List Blk) :=
 let z0 := Sy.Cont.obj (Obj.cells (Array.mk [.int .u64 was]) 36)
 let z1 := Fn.func 91
 let z2 := Array.mk []
 let z3 := some (Addr.mk sb 0 none)
 let z4 := some (Addr.mk tb 0 none)
 let z5 := some (Addr.mk lb 0 none)
 let z6 := Array.mk [Value.pointer z3, Value.pointer (some ⟨fb, 0, none⟩), Value.pointer z4, Value.pointer z5]
 let z7 := Ex.wrapQ .i64 (Ex.addQ steps 1)
 let z8 := Sy.Cont.obj (Obj.cells (Array.mk [.pointer (some ⟨st, 0, none⟩)]) 27)
 let z9 := Sy.Cont.obj (Obj.cells (Array.mk [Value.func (Fn.func 73) z2 (Array.mk [.pointer (some ⟨gb, 0, none⟩), .pointer (some ⟨s2, 0, none⟩)])]) 150)
 let z10 := Sy.Cont.obj (Obj.cells (Array.mk [.pointer (some ⟨tk, 0, none⟩)]) 48)
 let z11 := Sy.Cont.obj (Obj.cells (Array.mk [Value.func z1 z2 z6]) 1)
 let z12 := Sy.Cont.obj (Obj.cells (Array.mk [.int .i64 g]) 3)
 let z13 := Sy.Cont.obj (Obj.cells (Array.mk [.int .i64 room, .int .u64 was]) 129)
 let z14 := leaf (Value.bool true, [Blk.mk (ns 2).n (.obj (.cells (Array.mk [.int .i64 0]) 3)) true, Blk.mk (ns 1).n (.obj (.cells (Array.mk [.int .u64 0]) 36)) true, Blk.mk (ns 0).n z0 true, Blk.mk tk (.obj (.cells (Array.mk [Value.func z1 z2 z6, .int .u32 1, .int .i64 z7, .int .u64 0, .bool false, .slice none 0 0]) 100)) true, Blk.mk sb z8 true, Blk.mk fb z9 true, Blk.mk tb z10 true, Blk.mk lb z11 true, Blk.mk s2 z8 true, Blk.mk gb z12 true, Blk.mk st z13 true])
 br (Ex.ltQ g 0) z14 (br (bif false then true else Ex.leQ room g) z14 (need (0 ≤ g) (br (bif false then true else Ex.eqQ (Ex.andQ .u64 (Ex.shrQ .u64 was (Int.toNat g)) 1) 0) z14 (need (0 ≤ g) (leaf (Value.bool false, [Blk.mk (ns 2).n z12 true, Blk.mk (ns 1).n (.obj (.cells (Array.mk [.int .u64 (Ex.andNotQ .u64 was (Ex.shlQ .u64 1 (Int.toNat g)))]) 36)) true, Blk.mk (ns 0).n z0 true, Blk.mk tk (.obj (.cells (Array.mk [Value.func (Fn.func 93) z2 (Array.mk [.pointer z5, .pointer z4, .pointer z3, .pointer (some ⟨(ns 0).n, 0, none⟩), .pointer (some ⟨(ns 1).n, 0, none⟩), .pointer (some ⟨(ns 2).n, 0, none⟩)]), .int .u32 0, .int .i64 z7, .int .u64 0, .bool false, .slice none 0 0]) 100)) true, Blk.mk sb z8 true, Blk.mk fb z9 true, Blk.mk tb z10 true, Blk.mk lb z11 true, Blk.mk s2 z8 true, Blk.mk gb z12 true, Blk.mk st z13 true]))))))
theorem give1_run (tk sb fb tb lb s2 gb st : Nat) (steps room was g : Int) : Sy.Ran (Sy.inB Tryd.prog Sy.S0 50 fStep #[ptr tk] ([tkU tk (cChg sb fb tb lb) steps, bx sb tLoP (ptr st), bx fb tTo (cGv gb s2), bx tb tTP (ptr tk), bx lb tFn (cChg sb fb tb lb), bx s2 tLoP (ptr st), bx gb tI (.int .i64 g), slB st room was].map Sy.ownOf)) give1_o (give1_R tk sb fb tb lb s2 gb st steps room was g) := ⟨fun _ => by kernel_rfl, fun _ => by kernel_rfl⟩
end Go.Proofs.YtjohknpmhlildaaDoor.At
namespace Go.Proofs.YtjohknpmhlildaaDoor.At
open Go Go.RowKit
open Go.Proofs.YtjohknpmhlildaaDoor.Sy (Let Blk ptr bx tkB tkU clo)
abbrev fCasU : FuncId := 100
abbrev fCasM : FuncId := 94
def casK (st : Nat) (room was w x : Int) : Sy.OpK :=
 ⟨callFunc fCasU #[.pointer (some ⟨st, 1, none⟩), .int .u64 w, .int .u64 x], True, ⟨⟨[], [slB st room was], 0, []⟩,
  [(⟨fun _ => was = w, fun _ => [slB st room x], fun _ => []⟩, fun _ => some (.bool true)), (⟨fun _ => was ≠ w, fun _ => [slB st room was], fun _ => []⟩, fun _ => some (.bool false))]⟩⟩
theorem casU_is : ∃ fn, Tryd.prog.funcs[fCasU]? = some fn ∧ (fn.name == "runtime.NumGoroutine") = false ∧ fn.body.isNone = true ∧ Extern.findNext fn = none ∧ Extern.find fn = some (Extern.Atomic.casT (.int .u64)) := ⟨Tryd.f100, Tryd.func100, by kernel_rfl, by kernel_rfl, by kernel_rfl, by kernel_rfl⟩
theorem casK_met (st : Nat) (room was w x : Int) : (casK st room was w x).meets Tryd.prog := by
 intro _ W hpre
 obtain ⟨fn, h1, h2, h3, h4, h5⟩ := casU_is
 have hs := hpre.use _ (Sy.mS _)
 have hs : W.heap[st]? = some (.cells #[.int .i64 room, .int .u64 was] tLo (0, 0)) := hs
 have hc : W.cell? ⟨st, 1, none⟩ = some (.int .u64 was) := Sy.cell_at (ct := (slB st room was).2) rfl hs rfl rfl
 have hz : W.frozen? ⟨st, 1, none⟩ = false := by
  rw [Ev.frozen_of (b := st) rfl hs]
  simp
 by_cases e : was = w
 ·subst e
  refine ⟨_, Sy.mH, [], W.setCell ⟨st, 1, none⟩ (.int .u64 x), ?_, rfl, rfl, rfl, rfl, rfl, by simp [World.setCell], fun k _ hno => ?_, fun p hp => ?_, by simp, fun _ h => (by cases h), List.nodup_nil, fun _ _ _ h => (by cases h)⟩
  ·show (callFunc _ _).run _ _ = _
   rw [run_callFunc_extern h1 h2 h3 h4 h5, Conc.casT_eq, Conc.run_cas_hit_entry hc hz]
   rfl
  ·simp only [World.setCell, Array.getElem?_modify]
   rw [if_neg (hno _ (Sy.mS _))]
  ·rcases List.mem_singleton.1 hp with rfl
   refine ⟨.inr ⟨_, Sy.mS _, rfl⟩, ?_⟩
   show (W.setCell ⟨st, 1, none⟩ (.int .u64 x)).heap[st]? = some (.cells #[.int .i64 room, .int .u64 x] tLo (0, 0))
   simp [World.setCell, Array.getElem?_modify, hs]
 ·refine ⟨_, Sy.mC _ (Sy.mS _), [], W, ?_, rfl, e, rfl, rfl, rfl, Nat.le_refl _, fun k _ _ => rfl, fun p hp => ?_, by simp, fun _ h => (by cases h), List.nodup_nil, fun _ _ _ h => (by cases h)⟩
  ·show (callFunc _ _).run _ _ = _
   rw [run_callFunc_extern h1 h2 h3 h4 h5, Conc.casT_eq, Conc.run_cas_miss_entry hc hz e]
   rfl
  ·rcases List.mem_singleton.1 hp with rfl
   exact ⟨.inr ⟨_, Sy.mS _, rfl⟩, hs⟩
def ctxCas (st : Nat) (room was w x : Int) : Sy.Ctx := Sy.mkS [] [] [(fCasM, 12, fun _ _ => casK st room was w x)]
theorem ctxCas_holds (st : Nat) (room was w x : Int) : (ctxCas st room was w x).holds Tryd.prog := Sy.mkS_holds (fun _ h => (by cases h)) (fun _ h => (by cases h)) (fun p hp a L => by
 rcases List.mem_singleton.1 hp with rfl
 exact casK_met _ _ _ _ _)
open Go.Proofs.YtjohknpmhlildaaDoor.Sy (Let Blk Cont ptr ptr0 bx tkB tkU clo)
abbrev tSnP : TypeId := 28
abbrev tSn : TypeId := 132
abbrev tStP : TypeId := 133
abbrev tSe : TypeId := 139
abbrev tGP : TypeId := 177
abbrev tSg : TypeId := 180
abbrev tB : TypeId := 4
abbrev tApS : TypeId := 136
abbrev tTh : TypeId := 152
abbrev tSl : TypeId := 34
abbrev fLook : FuncId := 96
abbrev fLdP : FuncId := 101
abbrev fStP : FuncId := 58
abbrev fLoadX : FuncId := 87
abbrev fStoreX : FuncId := 90
def adrV (v : Value) : Addr := match v with
 | .pointer (some a) => a
 | _ => ⟨0, 0, none⟩
def ldP (t : TypeId) (g : Nat) (C : Cont) (k : Nat) (v : Value) (slot : Nat) (a : Sy.F) : Sy.OpK :=
 ⟨Sy.opV (loadVar t (adrV (a.get slot))), Sy.aggOf Tryd.prog t = some false ∧ adrV (a.get slot) = ⟨g, k, none⟩ ∧ C.at k = some v, ⟨⟨[(g, C)], [], 0, []⟩, [(⟨fun _ => True, fun _ => [], fun _ => []⟩, fun _ => some v)]⟩⟩
theorem ldP_met (t : TypeId) (g : Nat) (C : Cont) (k : Nat) (v : Value) (slot : Nat) (a : Sy.F) : (ldP t g C k v slot a).meets Tryd.prog := by
 rintro ⟨hag, hadr, hv⟩ W hpre
 have hat := hpre.rd _ (Sy.mS _)
 refine ⟨_, Sy.mS _, [], W, ?_, ⟨rfl, trivial, rfl, rfl, rfl, Nat.le_refl _, fun k hk hu => rfl, fun p hp => (by cases hp), by simp, fun p hp => (by cases hp), by simp, fun p hp => (by cases hp)⟩⟩
 show (Sy.opV (loadVar t (adrV (a.get slot)))).run _ W = .ok (.value v) W
 rw [hadr]
 refine Sy.opV_run ?_
 have h0 : W.cell? ⟨g, k, none⟩ = some v := Sy.cell_at rfl hat rfl hv
 unfold loadVar
 simp [Sy.run_isAgg hag, h0]
def ldA (g : Nat) (C : Cont) (k : Nat) (x : Option Addr) : Sy.OpK :=
 ⟨callFunc fLoadX #[.pointer (some ⟨g, k, none⟩)], C.at k = some (.pointer x), ⟨⟨[(g, C)], [], 0, []⟩, [(⟨fun _ => True, fun _ => [], fun _ => []⟩, fun _ => some (.pointer x))]⟩⟩
theorem loadX_is : ∃ fn, Tryd.prog.funcs[fLoadX]? = some fn ∧ (fn.name == "runtime.NumGoroutine") = false ∧ fn.body.isNone = true ∧ Extern.findNext fn = none ∧ Extern.find fn = some (Extern.Atomic.loadT .ptr) := ⟨Tryd.f87, Tryd.func87, by kernel_rfl, by kernel_rfl, by kernel_rfl, by kernel_rfl⟩
theorem ldA_met (g : Nat) (C : Cont) (k : Nat) (x : Option Addr) : (ldA g C k x).meets Tryd.prog := by
 intro hv W hpre
 obtain ⟨fn, h1, h2, h3, h4, h5⟩ := loadX_is
 have hat := hpre.rd _ (Sy.mS _)
 have hc : W.cell? ⟨g, k, none⟩ = some (.pointer x) := Sy.cell_at rfl hat rfl hv
 refine ⟨_, Sy.mS _, [], W, ?_, ⟨rfl, trivial, rfl, rfl, rfl, Nat.le_refl _, fun k hk hu => rfl, fun p hp => (by cases hp), by simp, fun p hp => (by cases hp), by simp, fun p hp => (by cases hp)⟩⟩
 show (callFunc _ _).run _ _ = _
 rw [run_callFunc_extern h1 h2 h3 h4 h5]
 have : (Extern.Atomic.loadT .ptr #[.pointer (some ⟨g, k, none⟩)]).run Tryd.prog W = .ok (.pointer x) W := by
  have e : Extern.Atomic.loadT .ptr #[.pointer (some ⟨g, k, none⟩)] = (do Extern.Atomic.read .ptr (← asAddr (.pointer (some ⟨g, k, none⟩)))) := rfl
  rw [e]
  simp [Extern.Atomic.read, asAddr, hc, Result.andThen]
 rw [this]
 rfl
def stA (g : Nat) (e n cap : Nat) (xs : List Value) (k : Nat) (x : Option Addr) : Sy.OpK :=
 ⟨callFunc fStoreX #[.pointer (some ⟨g, k, none⟩), .pointer x], k < n, ⟨⟨[], [(g, .row e 1 n cap xs)], 0, []⟩, [(⟨fun _ => True, fun _ => [(g, .row e 1 n cap (xs.set k (.pointer x)))], fun _ => []⟩, fun _ => some (.tuple #[]))]⟩⟩
theorem storeX_is : ∃ fn, Tryd.prog.funcs[fStoreX]? = some fn ∧ (fn.name == "runtime.NumGoroutine") = false ∧ fn.body.isNone = true ∧ Extern.findNext fn = none ∧ Extern.find fn = some Extern.Atomic.storeT := ⟨Tryd.f90, Tryd.func90, by kernel_rfl, by kernel_rfl, by kernel_rfl, by kernel_rfl⟩
theorem stA_met (g : Nat) (e n cap : Nat) (xs : List Value) (k : Nat) (x : Option Addr) : (stA g e n cap xs k x).meets Tryd.prog := by
 intro hk W hpre
 obtain ⟨fn, h1, h2, h3, h4, h5⟩ := storeX_is
 have hat := hpre.use _ (Sy.mS _)
 obtain ⟨cur, hh, hlen, hn, hcap, hsz, htake⟩ := hat
 have hh : W.heap[g]? = some (.cells cur e (0, 0)) := hh
 have hsh : (W.shape? g).isSome = true := by simp [World.shape?, hh]
 refine ⟨_, Sy.mS _, [], W.setCell ⟨g, k, none⟩ (.pointer x), ?_, rfl, trivial, rfl, rfl, rfl, by simp [World.setCell], fun j _ hno => ?_, fun p hp => ?_, by simp, fun _ h => (by cases h), List.nodup_nil, fun _ _ _ h => (by cases h)⟩
 ·show (callFunc _ _).run _ _ = _
  rw [run_callFunc_extern h1 h2 h3 h4 h5]
  have hz : W.frozen? ⟨g, k, none⟩ = false := by rw [Ev.frozen_of (b := g) rfl hh]; simp
  have : (Extern.Atomic.storeT #[.pointer (some ⟨g, k, none⟩), .pointer x]).run Tryd.prog W = .ok (.tuple #[]) (W.setCell ⟨g, k, none⟩ (.pointer x)) := by
   have e : Extern.Atomic.storeT #[.pointer (some ⟨g, k, none⟩), .pointer x] = (do store (← asAddr (.pointer (some ⟨g, k, none⟩))) (.pointer x) .atomic; pure Extern.Atomic.none_) := rfl
   rw [e]
   have hk : k < n := hk
   obtain ⟨u, hu⟩ : ∃ u, W.cell? ⟨g, k, none⟩ = some u := by
    rw [Ev.cell_of (b := g) rfl hh rfl]
    exact ⟨_, Array.getElem?_eq_getElem (show k < cur.size by omega)⟩
   simp [hu, hz, Extern.Atomic.none_, asAddr, run_store Tryd.prog W ⟨g, k, none⟩ (.pointer x) .atomic rfl, Result.andThen]
  rw [this]
  rfl
 ·simp only [World.setCell, Array.getElem?_modify]
  rw [if_neg (hno _ (Sy.mS _))]
 ·rcases List.mem_singleton.1 hp with rfl
  refine ⟨.inr ⟨_, Sy.mS _, rfl⟩, ?_⟩
  refine ⟨cur.set! k (.pointer x), ?_, by rw [List.length_set]; exact hlen, hn, hcap, by simpa using hsz, ?_⟩
  ·show (W.setCell ⟨g, k, none⟩ (.pointer x)).heap[g]? = _
   simp [World.setCell, Array.getElem?_modify, hh]
  ·rw [← htake]
   simp [List.take_set]
end Go.Proofs.YtjohknpmhlildaaDoor.At
--@way 3
--@tail 0
namespace Go.Proofs.YtjohknpmhlildaaDoor.At
open Sy.O (fork nil step steps)
open Sy.Res (need hyp br leaf both)
open Go Go.RowKit
open Go.Proofs.YtjohknpmhlildaaDoor.Sy (Let Blk Cont ptr ptr0 bx tkB tkU clo)
abbrev seB (n : Nat) (v : Int) (view : Value) : Nat × Cont := (n, .obj (.cells #[.int .u64 v, view] tSe (0, 0)))
abbrev sgB (n st : Nat) (ahead at' moved : Value) : Nat × Cont := (n, .obj (.cells #[ptr st, ahead, at', moved] tSg (0, 0)))
abbrev sl (g n c : Nat) : Value := .slice (some ⟨g, 0, none⟩) n c
abbrev prB (g n c : Nat) (xs : List Value) : Nat × Cont := (g, .row tStP 1 n c xs)
abbrev blB (g n : Nat) (ms : List Value) : Nat × Cont := (g, .row tB 1 n n ms)
def bodyL1 : Code := Sy.loopBody Tryd.f96 0
def bodyL2 : Code := Sy.loopBody Tryd.f96 1
def ltK (k room : Nat) (b : Bool) : Sy.OpK :=
 ⟨Sy.opV (do eqGuard .lss 3 (.tmp 68) (.tmp 67) (.int .i64 (Int.ofNat k)) (.int .i64 (Int.ofNat room)); binOp .lss 3 (.int .i64 (Int.ofNat k)) (.int .i64 (Int.ofNat room))), b = decide (k < room),
  ⟨⟨[], [], 0, []⟩, [(⟨fun _ => True, fun _ => [], fun _ => []⟩, fun _ => some (.bool b))]⟩⟩
theorem ltK_met (k room : Nat) (b : Bool) : (ltK k room b).meets Tryd.prog := by
 intro hb W _
 have hb : b = decide (k < room) := hb
 refine ⟨_, Sy.mS _, [], W, ?_, ⟨rfl, trivial, rfl, rfl, rfl, Nat.le_refl _, fun k hk hu => rfl, fun p hp => (by cases hp), by simp, fun p hp => (by cases hp), by simp, fun p hp => (by cases hp)⟩⟩
 refine Sy.opV_run (Ex.twoQ_run (v := .bool b) ?_ W)
 show some (Value.bool (Ex.ltQ (Int.ofNat k) (Int.ofNat room))) = some (Value.bool b)
 rw [Ex.ltQ_eq, hb]
 congr 2
 simp
def ctxL1 (room mr : Nat) (ms : List Value) (k : Nat) (m : Bool) : Sy.Ctx :=
 Sy.mkS [] [] [(fLook, 69, fun _ _ => ltK k room true), (fLook, 86, fun a _ => ldP tB mr (blB mr room ms).2 k (.bool m) 85 a)]
def ctxL1x (room k : Nat) : Sy.Ctx := Sy.mkS [] [] [(fLook, 69, fun _ _ => ltK k room false)]
abbrev spK (k : Nat) : Nat := 0 + Int.toNat (Int.ofNat k) * 1
def ctxL2 (tr ca room : Nat) (xs : List Value) (k p : Nat) : Sy.Ctx :=
 Sy.mkS [] [] [(fLook, 115, fun a _ => ldP tStP tr (prB tr room ca xs).2 k (ptr p) 114 a)]
def slL1 (g tr ca ar ch room k : Nat) (same : Bool) (bw : Value) : List (Nat × Value) := [(0, ptr g), (4, sl ar room ch), (5, sl tr room ca), (6, .bool same), (7, bw), (67, .int .i64 (Int.ofNat room)), (68, .int .i64 (Int.ofNat k))]
def slL2 (tr ca room k : Nat) (v : Value) : List (Nat × Value) := [(9, v), (110, sl tr room ca), (111, .int .i64 (Int.ofNat room)), (112, .int .i64 (Int.ofNat k))]
def l1n_o : Sy.O := (steps [0, 0, 0, 1, 0, 3, 0, 1, 2, 0, 1, 3, 0, 2, 0, 4, 5, 6, 0, 1, 7, 0, 3, 0, 11, 1, 4, 5, 1, 1, 0, 0] (fork nil (steps [0, 1, 0, 0, 1, 0, 0, 1, 0, 0, 1, 1] (fork (steps [0, 1, 0, 2, 0, 0, 4, 0, 0, 1, 0, 0, 1, 0, 0, 1] nil) (steps [0, 1, 0, 0, 1, 0, 0, 1] nil)))))
noncomputable def l1n_R (g st tr ca ar ch room mr : Nat) (ms : List Value) (k p q : Nat) (vp vq : Int) (wp wq : Value) (m same : Bool) (TL : List Blk) (f : Nat → Value) (ns : Nat → Sy.Let) : Sy.Res (Exit × Nat × List Value × List Blk) :=
 let z0 := 0 ≤ Int.ofNat k ∧ Int.ofNat k < (↑room : Int)
 let z1 := some (Addr.mk g 0 none)
 let z2 := some (Addr.mk ar 0 none)
 let z3 := some (Addr.mk tr 0 none)
 let z4 := Int.ofNat room
 let z5 := Int.ofNat k
 let z6 := Ex.wrapQ .i64 (Ex.addQ z5 1)
 let z7 := Cont.row 4 1 room room ms
 let z8 := Cont.obj (Obj.cells (Array.mk [.pointer (some ⟨st, 0, none⟩), .slice z3 room ca, .slice none 0 0, .slice (some ⟨mr, 0, none⟩) room room]) 180)
 let z9 := 0 + Int.toNat z5 * 1
 let z10 := Cont.seg z9 [Value.pointer (some ⟨p, 0, none⟩)]
 let z11 := Cont.seg z9 [Value.pointer (some ⟨q, 0, none⟩)]
 let z12 := Cont.obj (Obj.cells (Array.mk [.int .u64 vp, wp]) 139)
 let z13 := Cont.obj (Obj.cells (Array.mk [.int .u64 vq, wq]) 139)
 let z14 := 0 + Int.toNat z5 * 1 < List.length ms
 let z15 := Cont.row 4 1 room room (List.set ms z9 (Value.bool true))
 need (true = decide (k < room)) (hyp True (need z0 (need z0 (br (bif false then !(Nat.beq p q && true) else Nat.beq p q && true) (leaf (Exit.normal, 125, [Value.pointer z1, Value.slice z2 room ch, Value.slice z3 room ca, Value.bool same, Value.slice none 0 0, Value.int .i64 z4, Value.int .i64 z6], Blk.mk mr z7 true :: Blk.mk g z8 false :: Blk.mk tr z10 false :: Blk.mk ar z11 false :: Blk.mk p z12 false :: Blk.mk q z13 false :: TL)) (need z0 (need (some false = some false ∧ adrV (Value.pointer (some ⟨mr, z9, none⟩)) = Addr.mk mr k none ∧ Cont.at z7 k = some (Value.bool m)) (hyp True (br (bif m then true else false) (need z0 (need z0 (need z14 (leaf (Exit.normal, 125, [Value.pointer z1, Value.slice z2 room ch, Value.slice z3 room ca, Value.bool false, wp, Value.int .i64 z4, Value.int .i64 z6], Blk.mk mr z15 true :: Blk.mk g z8 false :: Blk.mk tr z10 false :: Blk.mk ar z11 false :: Blk.mk p z12 false :: Blk.mk q z13 false :: TL))))) (need z0 (need z14 (leaf (Exit.normal, 125, [Value.pointer z1, Value.slice z2 room ch, Value.slice z3 room ca, Value.bool false, Value.slice none 0 0, Value.int .i64 z4, Value.int .i64 z6], Blk.mk mr z15 true :: Blk.mk g z8 false :: Blk.mk tr z10 false :: Blk.mk ar z11 false :: Blk.mk p z12 false :: Blk.mk q z13 false :: TL))))))))))))
theorem l1n_run (g st tr ca ar ch room mr : Nat) (ms : List Value) (k p q : Nat) (vp vq : Int) (wp wq : Value) (m same : Bool) (TL : List Blk) (f : Nat → Value) : Sy.Ran (Sy.pieceT Tryd.prog (ctxL1 room mr ms k m) 50 fLook bodyL1 125 (slL1 g tr ca ar ch room k same (.slice none 0 0)) ((List.range 125).map f) (⟨mr, (blB mr room ms).2, true⟩ :: ⟨g, (sgB g st (sl tr room ca) (.slice none 0 0) (sl mr room room)).2, false⟩ :: ⟨tr, .seg (spK k) [ptr p], false⟩ :: ⟨ar, .seg (spK k) [ptr q], false⟩ :: ⟨p, (seB p vp wp).2, false⟩ :: ⟨q, (seB q vq wq).2, false⟩ :: TL) [0, 4, 5, 6, 7, 67, 68]) l1n_o (l1n_R g st tr ca ar ch room mr ms k p q vp vq wp wq m same TL f) := ⟨fun _ => by kernel_rfl, fun _ => by kernel_rfl⟩
def l1s_o : Sy.O := (steps [0, 0, 0, 1, 0, 3, 0, 1, 2, 0, 1, 3, 0, 2, 0, 4, 5, 6, 0, 1, 7, 0, 3, 0, 11, 1, 4, 5, 1, 1, 0, 0] (fork nil (steps [0, 1, 0, 0, 1, 0, 0, 1, 0, 0, 1, 1] (fork (steps [0, 1, 0, 2, 0, 0, 4, 0, 0, 1, 0, 0, 1, 0, 0, 1] nil) (steps [0, 1, 0, 0, 1, 0, 0, 1] nil)))))
noncomputable def l1s_R (g st tr ca ar ch room mr bb bn bc : Nat) (ms : List Value) (k p q : Nat) (vp vq : Int) (wp wq : Value) (m same : Bool) (TL : List Blk) (f : Nat → Value) (ns : Nat → Sy.Let) : Sy.Res (Exit × Nat × List Value × List Blk) :=
 let z0 := 0 ≤ Int.ofNat k ∧ Int.ofNat k < (↑room : Int)
 let z1 := some (Addr.mk g 0 none)
 let z2 := some (Addr.mk ar 0 none)
 let z3 := some (Addr.mk tr 0 none)
 let z4 := some (Addr.mk bb 0 none)
 let z5 := Int.ofNat room
 let z6 := Int.ofNat k
 let z7 := Ex.wrapQ .i64 (Ex.addQ z6 1)
 let z8 := Cont.row 4 1 room room ms
 let z9 := Cont.obj (Obj.cells (Array.mk [.pointer (some ⟨st, 0, none⟩), .slice z3 room ca, .slice none 0 0, .slice (some ⟨mr, 0, none⟩) room room]) 180)
 let z10 := 0 + Int.toNat z6 * 1
 let z11 := Cont.seg z10 [Value.pointer (some ⟨p, 0, none⟩)]
 let z12 := Cont.seg z10 [Value.pointer (some ⟨q, 0, none⟩)]
 let z13 := Cont.obj (Obj.cells (Array.mk [.int .u64 vp, wp]) 139)
 let z14 := Cont.obj (Obj.cells (Array.mk [.int .u64 vq, wq]) 139)
 let z15 := 0 + Int.toNat z6 * 1 < List.length ms
 let z16 := Cont.row 4 1 room room (List.set ms z10 (Value.bool true))
 need (true = decide (k < room)) (hyp True (need z0 (need z0 (br (bif false then !(Nat.beq p q && true) else Nat.beq p q && true) (leaf (Exit.normal, 125, [Value.pointer z1, Value.slice z2 room ch, Value.slice z3 room ca, Value.bool same, Value.slice z4 bn bc, Value.int .i64 z5, Value.int .i64 z7], Blk.mk mr z8 true :: Blk.mk g z9 false :: Blk.mk tr z11 false :: Blk.mk ar z12 false :: Blk.mk p z13 false :: Blk.mk q z14 false :: TL)) (need z0 (need (some false = some false ∧ adrV (Value.pointer (some ⟨mr, z10, none⟩)) = Addr.mk mr k none ∧ Cont.at z8 k = some (Value.bool m)) (hyp True (br (bif m then false else false) (need z0 (need z0 (need z15 (leaf (Exit.normal, 125, [Value.pointer z1, Value.slice z2 room ch, Value.slice z3 room ca, Value.bool false, wp, Value.int .i64 z5, Value.int .i64 z7], Blk.mk mr z16 true :: Blk.mk g z9 false :: Blk.mk tr z11 false :: Blk.mk ar z12 false :: Blk.mk p z13 false :: Blk.mk q z14 false :: TL))))) (need z0 (need z15 (leaf (Exit.normal, 125, [Value.pointer z1, Value.slice z2 room ch, Value.slice z3 room ca, Value.bool false, Value.slice z4 bn bc, Value.int .i64 z5, Value.int .i64 z7], Blk.mk mr z16 true :: Blk.mk g z9 false :: Blk.mk tr z11 false :: Blk.mk ar z12 false :: Blk.mk p z13 false :: Blk.mk q z14 false :: TL))))))))))))
theorem l1s_run (g st tr ca ar ch room mr bb bn bc : Nat) (ms : List Value) (k p q : Nat) (vp vq : Int) (wp wq : Value) (m same : Bool) (TL : List Blk) (f : Nat → Value) : Sy.Ran (Sy.pieceT Tryd.prog (ctxL1 room mr ms k m) 50 fLook bodyL1 125 (slL1 g tr ca ar ch room k same (sl bb bn bc)) ((List.range 125).map f) (⟨mr, (blB mr room ms).2, true⟩ :: ⟨g, (sgB g st (sl tr room ca) (.slice none 0 0) (sl mr room room)).2, false⟩ :: ⟨tr, .seg (spK k) [ptr p], false⟩ :: ⟨ar, .seg (spK k) [ptr q], false⟩ :: ⟨p, (seB p vp wp).2, false⟩ :: ⟨q, (seB q vq wq).2, false⟩ :: TL) [0, 4, 5, 6, 7, 67, 68]) l1s_o (l1s_R g st tr ca ar ch room mr bb bn bc ms k p q vp vq wp wq m same TL f) := ⟨fun _ => by kernel_rfl, fun _ => by kernel_rfl⟩
def l1x_o : Sy.O := (steps [0, 0, 0, 1, 0] nil)
noncomputable def l1x_R (g st tr ca ar ch room mr : Nat) (ms : List Value) (k : Nat) (bw : Value) (same : Bool) (TL : List Blk) (f : Nat → Value) (ns : Nat → Sy.Let) : Sy.Res (Exit × Nat × List Value × List Blk) :=
 let z0 := some (Addr.mk tr 0 none)
 need (false = decide (k < room)) (hyp True (leaf (Exit.exit 0, 125, [Value.pointer (some ⟨g, 0, none⟩), Value.slice (some ⟨ar, 0, none⟩) room ch, Value.slice z0 room ca, Value.bool same, bw, Value.int .i64 (Int.ofNat room), Value.int .i64 (Int.ofNat k)], Blk.mk mr (Cont.row 4 1 room room ms) true :: Blk.mk g (Cont.obj (Obj.cells (Array.mk [.pointer (some ⟨st, 0, none⟩), .slice z0 room ca, .slice none 0 0, .slice (some ⟨mr, 0, none⟩) room room]) 180)) false :: TL)))
theorem l1x_run (g st tr ca ar ch room mr : Nat) (ms : List Value) (k : Nat) (bw : Value) (same : Bool) (TL : List Blk) (f : Nat → Value) : Sy.Ran (Sy.pieceT Tryd.prog (ctxL1x room k) 50 fLook bodyL1 125 (slL1 g tr ca ar ch room k same bw) ((List.range 125).map f) (⟨mr, (blB mr room ms).2, true⟩ :: ⟨g, (sgB g st (sl tr room ca) (.slice none 0 0) (sl mr room room)).2, false⟩ :: TL) [0, 4, 5, 6, 7, 67, 68]) l1x_o (l1x_R g st tr ca ar ch room mr ms k bw same TL f) := ⟨fun _ => by kernel_rfl, fun _ => by kernel_rfl⟩
def l2n_o : Sy.O := (fork (steps [0, 1, 0, 0, 1, 0, 0, 1, 0, 1, 0, 0, 0, 0, 0, 0, 0, 0, 1, 0, 0, 1] nil) nil)
noncomputable def l2n_R (tr ca room : Nat) (xs : List Value) (k p : Nat) (vp : Int) (wp : Value) (TL : List Blk) (f : Nat → Value) (ns : Nat → Sy.Let) : Sy.Res (Exit × Nat × List Value × List Blk) :=
 let z0 := Int.ofNat k
 let z1 := Int.ofNat room
 let z2 := Cont.row 133 1 room ca xs
 let z3 := some (Addr.mk tr 0 none)
 let z4 := [Value.int .u64 vp]
 let z5 := Cont.obj (Obj.cells (Array.mk [.int .u64 vp, wp]) 139)
 br (Ex.ltQ z0 z1) (need (0 ≤ Int.ofNat k ∧ Int.ofNat k < (↑room : Int)) (need (some false = some false ∧ adrV (Value.pointer (some (Addr.mk tr (0 + Int.toNat z0 * 1) none))) = Addr.mk tr k none ∧ Cont.at z2 k = some (Value.pointer (some ⟨p, 0, none⟩))) (hyp True (hyp (Nat.le 1 (ns 2).n) (leaf (Exit.normal, 125, [Value.slice (some ⟨(ns 1).n, 0, none⟩) 1 (ns 2).n, Value.slice z3 room ca, Value.int .i64 z1, Value.int .i64 (Ex.wrapQ .i64 (Ex.addQ z0 1))], Blk.mk (ns 1).n (Cont.row 36 1 1 (ns 2).n z4) true :: Blk.mk (ns 0).n (Cont.obj (Obj.cells (Array.mk z4) 36)) true :: Blk.mk tr z2 false :: Blk.mk p z5 false :: TL)))))) (leaf (Exit.exit 2, 125, [Value.slice none 0 0, Value.slice z3 room ca, Value.int .i64 z1, Value.int .i64 z0], Blk.mk tr z2 false :: Blk.mk p z5 false :: TL))
theorem l2n_run (tr ca room : Nat) (xs : List Value) (k p : Nat) (vp : Int) (wp : Value) (TL : List Blk) (f : Nat → Value) : Sy.Ran (Sy.pieceT Tryd.prog (ctxL2 tr ca room xs k p) 50 fLook bodyL2 125 (slL2 tr ca room k (.slice none 0 0)) ((List.range 125).map f) (⟨tr, (prB tr room ca xs).2, false⟩ :: ⟨p, (seB p vp wp).2, false⟩ :: TL) [9, 110, 111, 112]) l2n_o (l2n_R tr ca room xs k p vp wp TL f) := ⟨fun _ => by kernel_rfl, fun _ => by kernel_rfl⟩
def l2s_o : Sy.O := (fork (steps [0, 1, 0, 0, 1, 0, 0, 1, 0, 2, 0, 0, 0, 0, 2, 0, 1, 1, 0, 1, 1, 1, 0, 0, 1] nil) nil)
noncomputable def l2s_R (tr ca room : Nat) (xs : List Value) (k p g c : Nat) (zs : List Value) (vp : Int) (wp : Value) (TL : List Blk) (f : Nat → Value) (ns : Nat → Sy.Let) : Sy.Res (Exit × Nat × List Value × List Blk) :=
 let z0 := Int.ofNat k
 let z1 := Int.ofNat room
 let z2 := Cont.row 133 1 room ca xs
 let z3 := k + 1
 let z4 := some (Addr.mk tr 0 none)
 let z5 := [Value.int .u64 vp]
 let z6 := Cont.obj (Obj.cells (Array.mk [.int .u64 vp, wp]) 139)
 br (Ex.ltQ z0 z1) (need (0 ≤ Int.ofNat k ∧ Int.ofNat k < (↑room : Int)) (need (some false = some false ∧ adrV (Value.pointer (some (Addr.mk tr (0 + Int.toNat z0 * 1) none))) = Addr.mk tr k none ∧ Cont.at z2 k = some (Value.pointer (some ⟨p, 0, none⟩))) (hyp True (need (k + (1 : Nat) ≤ 9223372036854775807) (need (z3 * (8 : Nat) ≤ 140737488355328) (hyp (Nat.le z3 (ns 2).n) (leaf (Exit.normal, 125, [Value.slice (some ⟨(ns 1).n, 0, none⟩) z3 (ns 2).n, Value.slice z4 room ca, Value.int .i64 z1, Value.int .i64 (Ex.wrapQ .i64 (Ex.addQ z0 1))], Blk.mk (ns 1).n (Cont.row 36 1 z3 (ns 2).n (zs.append z5)) true :: Blk.mk (ns 0).n (Cont.obj (Obj.cells (Array.mk z5) 36)) true :: Blk.mk tr z2 false :: Blk.mk p z6 false :: TL)))))))) (leaf (Exit.exit 2, 125, [Value.slice (some ⟨g, 0, none⟩) k c, Value.slice z4 room ca, Value.int .i64 z1, Value.int .i64 z0], Blk.mk tr z2 false :: Blk.mk g (Cont.row 36 1 k c zs) true :: Blk.mk p z6 false :: TL))
theorem l2s_run (tr ca room : Nat) (xs : List Value) (k p g c : Nat) (zs : List Value) (vp : Int) (wp : Value) (TL : List Blk) (f : Nat → Value) : Sy.Ran (Sy.pieceT Tryd.prog (ctxL2 tr ca room xs k p) 50 fLook bodyL2 125 (slL2 tr ca room k (sl g k c)) ((List.range 125).map f) (⟨tr, (prB tr room ca xs).2, false⟩ :: ⟨g, .row tU 1 k c zs, true⟩ :: ⟨p, (seB p vp wp).2, false⟩ :: TL) [9, 110, 111, 112]) l2s_o (l2s_R tr ca room xs k p g c zs vp wp TL f) := ⟨fun _ => by kernel_rfl, fun _ => by kernel_rfl⟩
end Go.Proofs.YtjohknpmhlildaaDoor.At
namespace Go.Proofs.YtjohknpmhlildaaDoor.As
structure TaskD where
 kind : Nat
 pc : Nat
 steps : Nat
 v : Int
 slot : Int
 a : Nat
 b : Nat
 c : Nat
 bits : Int
 collect : List Nat
 ahead : List Nat
 moved : List Bool
 seen : List Int
 out : Int
 ok : Bool
 view : List Int
structure WorldD where
 thing : Nat
 room : Nat
 top : Nat
 value : List Int
 below : List Nat
 first : Nat
 last : Nat
 lent : Int
 cells : List Nat
 states : List (Int × List Int)
 busy : List Int
 done : Bool
 what : Int
 tasks : List TaskD
def TaskD.end' (t : TaskD) (v : Int) (ok : Bool) : TaskD := { t with pc := 0, out := v, ok := ok }
def WorldD.node (w : WorldD) (v : Int) (below : Nat) : WorldD := { w with value := w.value ++ [v], below := w.below ++ [below] }
def bitOf (v : Int) (n : Nat) : Bool := v.toNat.testBit n
def newW (thing room : Int) : Option WorldD :=
 if thing = 3 ∧ (room < 1 ∨ 64 < room) ∨ thing = 4 ∧ (room < 1 ∨ 16 < room) then none
 else some ⟨thing.toNat, room.toNat, 0, if thing = 2 then [0, 0] else [0], if thing = 2 then [0, 0] else [0], if thing = 2 then 1 else 0, if thing = 2 then 1 else 0, 0, if thing = 4 then List.replicate room.toNat 0 else [], [(0, [])], if thing = 4 then List.replicate room.toNat (-1) else [], false, 0, []⟩
def mayW (w : WorldD) (kind : Nat) (slot : Int) : Bool :=
 if kind = 8 then
  if slot < 0 ∨ (w.room : Int) ≤ slot then false
  else match w.busy[slot.toNat]? with
   | some n => if n < 0 then true else match w.tasks[n.toNat]? with
     | some t => t.pc == 0
     | none => true
   | none => true
 else true
def taskW (w : WorldD) (kind : Nat) (v slot : Int) : TaskD := ⟨kind, 1, 0, v, slot, 0, 0, 0, 0, [], [], if kind = 7 ∨ kind = 8 then List.replicate w.room false else [], [], 0, false, []⟩
def beginW (w : WorldD) (kind : Nat) (v slot : Int) : WorldD :=
 { w with busy := if kind = 8 then w.busy.set slot.toNat (w.tasks.length : Int) else w.busy, tasks := w.tasks ++ [taskW w kind v slot] }
def stackW (w : WorldD) (t : TaskD) : WorldD × TaskD :=
 if t.pc = 1 then
  if t.kind = 2 ∧ w.top = 0 then (w, { t with a := w.top }.end' 0 false) else (w, { t with a := w.top, pc := 2 })
 else if w.top ≠ t.a then (w, { t with pc := 1 })
 else if t.kind = 1 then ({ w.node t.v t.a with top := w.value.length }, { t with pc := 1 }.end' t.v true)
 else ({ w with top := w.below.getD t.a 0 }, { t with pc := 1 }.end' (w.value.getD t.a 0) true)
def putW (w : WorldD) (t : TaskD) : WorldD × TaskD :=
 if t.pc = 1 then (w, { t with a := w.last, pc := 2 })
 else if t.pc = 2 then (w, { t with b := w.below.getD t.a 0, pc := if w.below.getD t.a 0 = 0 then 3 else 5 })
 else if t.pc = 3 then
  if w.below.getD t.a 0 = 0 then ({ w.node t.v 0 with below := (w.below ++ [0]).set t.a w.value.length }, { t with c := w.value.length, pc := 4 })
  else (w, { t with pc := 1 })
 else if t.pc = 4 then (if w.last = t.a then { w with last := t.c } else w, t.end' t.v true)
 else (if w.last = t.a then { w with last := t.b } else w, { t with pc := 1 })
def takeW (w : WorldD) (t : TaskD) : WorldD × TaskD :=
 if t.pc = 1 then (w, { t with a := w.first, pc := 2 })
 else if t.pc = 2 then (w, { t with b := w.last, pc := 3 })
 else if t.pc = 3 then
  if w.below.getD t.a 0 = 0 then (w, { t with c := 0 }.end' 0 false) else (w, { t with c := w.below.getD t.a 0, pc := 4 })
 else if t.a = t.b then (if w.last = t.b then { w with last := t.c } else w, { t with pc := 1 })
 else if w.first = t.a then ({ w with first := t.c }, { t with pc := 1 }.end' (w.value.getD t.c 0) true)
 else (w, { t with pc := 1 })
def freeW (lent : Int) (room : Nat) : Nat → Nat → Nat
 | 0, n => n
 | k + 1, n => if n < room ∧ bitOf lent n = true then freeW lent room k (n + 1) else n
def slotsW (w : WorldD) (t : TaskD) : WorldD × TaskD :=
 if t.pc = 1 then
  if t.kind = 6 then
   if t.slot < 0 ∨ (w.room : Int) ≤ t.slot ∨ bitOf w.lent t.slot.toNat = false then (w, { t with bits := w.lent }.end' 0 false) else (w, { t with bits := w.lent, pc := 2 })
  else if freeW w.lent w.room w.room 0 = w.room then (w, { t with bits := w.lent, slot := w.room }.end' 0 false)
  else (w, { t with bits := w.lent, slot := (freeW w.lent w.room w.room 0 : Int), pc := 2 })
 else if w.lent = t.bits then ({ w with lent := ((t.bits.toNat ^^^ (1 <<< t.slot.toNat) : Nat) : Int) }, { t with pc := 1 }.end' t.slot true)
 else (w, { t with pc := 1 })
def diffW (at' ahead : List Nat) : List Bool := List.zipWith (fun x y => x != y) at' ahead
def fromW : List Bool → List Bool → Nat → Option Nat
 | true :: _, true :: _, i => some i
 | _ :: m, _ :: d, i => fromW m d (i + 1)
 | _, _, _ => none
def lookedW (w : WorldD) (t : TaskD) : TaskD × Option (List Int) :=
 if t.ahead = [] then ({ t with ahead := t.collect, collect := [] }, none)
 else
  let d := diffW t.collect t.ahead
  let u := { t with ahead := t.collect, collect := [], moved := List.zipWith (· || ·) t.moved d }
  if d.all (! ·) then (u, some (t.collect.map fun i => (w.states.getD i (0, [])).1))
  else match fromW t.moved d 0 with
   | some i => (u, some (w.states.getD (t.collect.getD i 0) (0, [])).2)
   | none => (u, none)
def snapW (w : WorldD) (t : TaskD) : WorldD × TaskD :=
 if t.pc = 2 then ({ w with states := w.states ++ [(t.v, t.seen)], cells := w.cells.set t.slot.toNat w.states.length }, t.end' t.v true)
 else
  let t := { t with collect := t.collect ++ [w.cells.getD t.collect.length 0] }
  if t.collect.length < w.room then (w, t)
  else match lookedW w t with
   | (t, none) => (w, t)
   | (t, some view) => if t.kind = 8 then (w, { t with seen := view, pc := 2 }) else (w, { t with view := view }.end' 0 true)
def onceW (w : WorldD) (t : TaskD) : WorldD × TaskD :=
 if t.pc = 2 then (w, t.end' w.what false)
 else if w.done then (w, { t with pc := 2 })
 else ({ w with done := true, what := t.v }, t.end' t.v true)
def oneW (w : WorldD) (t : TaskD) : WorldD × TaskD :=
 if t.kind = 1 ∨ t.kind = 2 then stackW w t else if t.kind = 3 then putW w t else if t.kind = 4 then takeW w t
 else if t.kind = 5 ∨ t.kind = 6 then slotsW w t else if t.kind = 7 ∨ t.kind = 8 then snapW w t else onceW w t
def stepW (w : WorldD) (n : Nat) : WorldD := match w.tasks[n]? with
 | none => w
 | some t => if t.pc = 0 then w else
   let r := oneW w { t with steps := t.steps + 1 }
   { r.1 with tasks := r.1.tasks.set n r.2 }
def pickW (p : Int) (n : Nat) : Nat := (p % (n : Int)).toNat
def playW (w : WorldD) (picks : List Int) : WorldD := picks.foldl (fun w p => if w.tasks = [] then w else stepW w (pickW p w.tasks.length)) w
def kindW (thing : Nat) (n : Int) : Nat := if thing = 5 then 9 else if n % 2 = 0 then 2 * thing else 2 * thing - 1
def doneW (w : WorldD) (n : Nat) : Prop := ∃ t, w.tasks[n]? = some t ∧ t.pc = 0
theorem step_done {w : WorldD} {n : Nat} (h : doneW w n) : stepW w n = w := by
 obtain ⟨t, ht, hp⟩ := h
 simp [stepW, ht, hp]
theorem step_at {w : WorldD} {n : Nat} {t : TaskD} (h : w.tasks[n]? = some t) (hp : t.pc ≠ 0) (hs : (oneW w { t with steps := t.steps + 1 }).1.tasks = w.tasks) :
  (stepW w n).tasks[n]? = some (oneW w { t with steps := t.steps + 1 }).2 ∧ stepW w n = { (oneW w { t with steps := t.steps + 1 }).1 with tasks := w.tasks.set n (oneW w { t with steps := t.steps + 1 }).2 } := by
 have hl : n < w.tasks.length := (List.getElem?_eq_some_iff.1 h).1
 have e : stepW w n = { (oneW w { t with steps := t.steps + 1 }).1 with tasks := w.tasks.set n (oneW w { t with steps := t.steps + 1 }).2 } := by
  simp only [stepW, h, if_neg hp, hs]
 refine ⟨?_, e⟩
 rw [e]
 simp [hl]
theorem stack_tasks (w : WorldD) (t : TaskD) : (stackW w t).1.tasks = w.tasks := by
 unfold stackW
 split
 ·split <;> rfl
 split
 ·rfl
 split <;> rfl
theorem slots_tasks (w : WorldD) (t : TaskD) : (slotsW w t).1.tasks = w.tasks := by
 unfold slotsW
 split
 ·split
  ·split <;> rfl
  split <;> rfl
 split <;> rfl
theorem once_tasks (w : WorldD) (t : TaskD) : (onceW w t).1.tasks = w.tasks := by
 unfold onceW
 split
 ·rfl
 split <;> rfl
def okTQ (L m : Nat) (t : TaskD) : Prop :=
 (t.kind = 3 ∨ t.kind = 4) ∧ (t.kind = 3 → 1 < t.pc → 1 ≤ t.a ∧ t.a ≤ m) ∧ (t.kind = 3 → t.pc = 4 → t.c = t.a + 1 ∧ t.c < L) ∧ (t.kind = 3 → 4 < t.pc → t.b = t.a + 1 ∧ t.b < L) ∧ (t.kind = 4 → 3 < t.pc → t.c = t.a + 1 ∧ t.c < L)
structure InvQ (w : WorldD) : Prop where
 len : w.value.length = w.below.length
 two : 2 ≤ w.below.length
 nxt : ∀ i, w.below.getD i 0 = if 1 ≤ i ∧ i + 1 < w.below.length then i + 1 else 0
 lo : w.below.length ≤ w.last + 2
 hi : w.last < w.below.length
 pos : 1 ≤ w.last
 ts : ∀ t ∈ w.tasks, okTQ w.below.length w.last t
theorem okTQ.mono {L M m k : Nat} (h : L ≤ M) (h' : m ≤ k) {t : TaskD} (ht : okTQ L m t) : okTQ M k t :=
 ⟨ht.1, fun a b => ⟨(ht.2.1 a b).1, by have := (ht.2.1 a b).2; omega⟩, fun a b => ⟨(ht.2.2.1 a b).1, by have := (ht.2.2.1 a b).2; omega⟩, fun a b => ⟨(ht.2.2.2.1 a b).1, by have := (ht.2.2.2.1 a b).2; omega⟩, fun a b => ⟨(ht.2.2.2.2 a b).1, by have := (ht.2.2.2.2 a b).2; omega⟩⟩
structure QPart (w : WorldD) : Prop where
 len : w.value.length = w.below.length
 two : 2 ≤ w.below.length
 nxt : ∀ i, w.below.getD i 0 = if 1 ≤ i ∧ i + 1 < w.below.length then i + 1 else 0
 lo : w.below.length ≤ w.last + 2
 hi : w.last < w.below.length
 pos : 1 ≤ w.last
theorem InvQ.part {w : WorldD} (h : InvQ w) : QPart w := ⟨h.len, h.two, h.nxt, h.lo, h.hi, h.pos⟩
theorem put_tasks (w : WorldD) (t : TaskD) : (putW w t).1.tasks = w.tasks := by
 unfold putW
 split
 ·rfl
 split
 ·rfl
 split
 ·split <;> rfl
 split
 ·show (if w.last = t.a then { w with last := t.c } else w).tasks = w.tasks
  split <;> rfl
 ·show (if w.last = t.a then { w with last := t.b } else w).tasks = w.tasks
  split <;> rfl
theorem take_tasks (w : WorldD) (t : TaskD) : (takeW w t).1.tasks = w.tasks := by
 unfold takeW
 split
 ·rfl
 split
 ·rfl
 split
 ·split <;> rfl
 split
 ·show (if w.last = t.b then { w with last := t.c } else w).tasks = w.tasks
  split <;> rfl
 split <;> rfl
theorem last_on {w : WorldD} (h : QPart w) {x : Nat} (hx : x = w.last + 1) (hl : x < w.below.length) : QPart { w with last := x } :=
 ⟨h.len, h.two, h.nxt, by show w.below.length ≤ x + 2; have := h.lo; omega, hl, by show 1 ≤ x; omega⟩
theorem link_on {w : WorldD} (h : QPart w) {a : Nat} (ha : 1 ≤ a) (hm : a ≤ w.last) (hz : w.below.getD a 0 = 0) (v : Int) :
  a + 1 = w.below.length ∧ QPart { w.node v 0 with below := (w.below ++ [0]).set a w.value.length } := by
 have h0 := h.two
 have hh := h.hi
 have hlo := h.lo
 have hlen := h.len
 have haL : a + 1 = w.below.length := by
  have hn := h.nxt a
  rw [hz] at hn
  by_cases hc : 1 ≤ a ∧ a + 1 < w.below.length
  ·rw [if_pos hc] at hn; omega
  ·omega
 refine ⟨haL, ?_⟩
 have hl : ((w.below ++ [0]).set a w.value.length).length = w.below.length + 1 := by simp
 refine ⟨?_, ?_, fun i => ?_, ?_, ?_, h.pos⟩
 ·show (w.value ++ [v]).length = ((w.below ++ [0]).set a w.value.length).length
  rw [hl, List.length_append, hlen]
  rfl
 ·show 2 ≤ ((w.below ++ [0]).set a w.value.length).length
  rw [hl]; omega
 ·show ((w.below ++ [0]).set a w.value.length).getD i 0 = if 1 ≤ i ∧ i + 1 < ((w.below ++ [0]).set a w.value.length).length then i + 1 else 0
  rw [hl, List.getD_eq_getElem?_getD, List.getElem?_set]
  by_cases hi : a = i
  ·subst hi
   rw [if_pos rfl, if_pos (by simp; omega), if_pos (by omega)]
   show w.value.length = a + 1
   omega
  ·rw [if_neg hi]
   have hn := h.nxt i
   rw [List.getD_eq_getElem?_getD] at hn
   rcases Nat.lt_or_ge i w.below.length with hlt | hge
   ·rw [List.getElem?_append_left hlt, hn]
    by_cases hc : 1 ≤ i ∧ i + 1 < w.below.length
    ·rw [if_pos hc, if_pos (by omega)]
    ·rw [if_neg hc, if_neg (by omega)]
   ·rw [List.getElem?_append_right hge, if_neg (by omega)]
    cases i - w.below.length with
    | zero => rfl
    | succ k => rfl
 ·show ((w.below ++ [0]).set a w.value.length).length ≤ w.last + 2
  rw [hl]; omega
 ·show w.last < ((w.below ++ [0]).set a w.value.length).length
  rw [hl]; omega
theorem put_inv {w : WorldD} (h : QPart w) {t : TaskD} (ht : okTQ w.below.length w.last t) (hk : t.kind = 3) (hp : t.pc ≠ 0) :
  QPart (putW w t).1 ∧ okTQ (putW w t).1.below.length (putW w t).1.last (putW w t).2 ∧ w.below.length ≤ (putW w t).1.below.length ∧ w.last ≤ (putW w t).1.last := by
 have h0 := h.two
 have no4 : t.kind ≠ 4 := by omega
 unfold putW
 split
 ·exact ⟨h, ⟨.inl hk, fun _ _ => ⟨h.pos, Nat.le_refl _⟩, fun _ e => (by simp at e), fun _ e => (by simp at e), fun e => absurd e no4⟩, Nat.le_refl _, Nat.le_refl _⟩
 rename_i n1
 obtain ⟨a1, a2⟩ := ht.2.1 hk (by omega)
 split
 ·refine ⟨h, ⟨.inl hk, fun _ _ => ⟨a1, a2⟩, fun _ e => ?_, fun _ e => ?_, fun e => absurd e no4⟩, Nat.le_refl _, Nat.le_refl _⟩
  ·simp only at e
   split at e <;> omega
  ·simp only at e
   have hn := h.nxt t.a
   split at e
   ·omega
   ·rename_i hne
    show w.below.getD t.a 0 = t.a + 1 ∧ w.below.getD t.a 0 < w.below.length
    rw [hn] at hne ⊢
    split at hne
    ·rename_i hc
     rw [if_pos hc]
     exact ⟨rfl, hc.2⟩
    ·exact absurd rfl hne
 split
 ·split
  ·rename_i hz
   obtain ⟨l1, l2⟩ := link_on h a1 a2 hz t.v
   have hl : ((w.below ++ [0]).set t.a w.value.length).length = w.below.length + 1 := by simp
   have hlen := h.len
   refine ⟨l2, ⟨.inl hk, fun _ _ => ⟨a1, a2⟩, fun _ _ => ?_, fun _ e => (by simp at e), fun e => absurd e no4⟩, ?_, Nat.le_refl _⟩
   ·show w.value.length = t.a + 1 ∧ w.value.length < ((w.below ++ [0]).set t.a w.value.length).length
    rw [hl]
    omega
   ·show w.below.length ≤ ((w.below ++ [0]).set t.a w.value.length).length
    rw [hl]
    omega
  ·exact ⟨h, ⟨.inl hk, fun _ e => (by simp at e), fun _ e => (by simp at e), fun _ e => (by simp at e), fun e => absurd e no4⟩, Nat.le_refl _, Nat.le_refl _⟩
 split
 ·rename_i h4
  obtain ⟨c1, c2⟩ := ht.2.2.1 hk h4
  show QPart (if w.last = t.a then { w with last := t.c } else w) ∧ okTQ (if w.last = t.a then { w with last := t.c } else w).below.length (if w.last = t.a then { w with last := t.c } else w).last _ ∧ w.below.length ≤ (if w.last = t.a then { w with last := t.c } else w).below.length ∧ w.last ≤ (if w.last = t.a then { w with last := t.c } else w).last
  split
  ·rename_i he
   exact ⟨last_on h (by omega) c2, ⟨.inl hk, fun _ e => (by simp [TaskD.end'] at e), fun _ e => (by simp [TaskD.end'] at e), fun _ e => (by simp [TaskD.end'] at e), fun e => absurd e no4⟩, Nat.le_refl _, by show w.last ≤ t.c; omega⟩
  ·exact ⟨h, ⟨.inl hk, fun _ e => (by simp [TaskD.end'] at e), fun _ e => (by simp [TaskD.end'] at e), fun _ e => (by simp [TaskD.end'] at e), fun e => absurd e no4⟩, Nat.le_refl _, Nat.le_refl _⟩
 ·rename_i n2 n3 n4
  obtain ⟨c1, c2⟩ := ht.2.2.2.1 hk (by omega)
  show QPart (if w.last = t.a then { w with last := t.b } else w) ∧ okTQ (if w.last = t.a then { w with last := t.b } else w).below.length (if w.last = t.a then { w with last := t.b } else w).last _ ∧ w.below.length ≤ (if w.last = t.a then { w with last := t.b } else w).below.length ∧ w.last ≤ (if w.last = t.a then { w with last := t.b } else w).last
  split
  ·rename_i he
   exact ⟨last_on h (by omega) c2, ⟨.inl hk, fun _ e => (by simp at e), fun _ e => (by simp at e), fun _ e => (by simp at e), fun e => absurd e no4⟩, Nat.le_refl _, by show w.last ≤ t.b; omega⟩
  ·exact ⟨h, ⟨.inl hk, fun _ e => (by simp at e), fun _ e => (by simp at e), fun _ e => (by simp at e), fun e => absurd e no4⟩, Nat.le_refl _, Nat.le_refl _⟩
theorem take_inv {w : WorldD} (h : QPart w) {t : TaskD} (ht : okTQ w.below.length w.last t) (hk : t.kind = 4) (hp : t.pc ≠ 0) :
  QPart (takeW w t).1 ∧ okTQ (takeW w t).1.below.length (takeW w t).1.last (takeW w t).2 ∧ w.below.length ≤ (takeW w t).1.below.length ∧ w.last ≤ (takeW w t).1.last := by
 have no3 : t.kind ≠ 3 := by omega
 have plain : ∀ u : TaskD, u.kind = t.kind → u.pc ≤ 3 → okTQ w.below.length w.last u := fun u hu hpc => ⟨.inr (by omega), fun e => absurd (hu ▸ e) no3, fun e => absurd (hu ▸ e) no3, fun e => absurd (hu ▸ e) no3, fun _ e => by omega⟩
 unfold takeW
 split
 ·exact ⟨h, plain _ rfl (by simp), Nat.le_refl _, Nat.le_refl _⟩
 split
 ·exact ⟨h, plain _ rfl (by simp), Nat.le_refl _, Nat.le_refl _⟩
 split
 ·split
  ·exact ⟨h, plain _ rfl (by simp [TaskD.end']), Nat.le_refl _, Nat.le_refl _⟩
  ·rename_i hz
   have hn := h.nxt t.a
   refine ⟨h, ⟨.inr hk, fun e => absurd e no3, fun e => absurd e no3, fun e => absurd e no3, fun _ _ => ?_⟩, Nat.le_refl _, Nat.le_refl _⟩
   show w.below.getD t.a 0 = t.a + 1 ∧ w.below.getD t.a 0 < w.below.length
   rw [hn] at hz ⊢
   by_cases hc : 1 ≤ t.a ∧ t.a + 1 < w.below.length
   ·rw [if_pos hc]
    exact ⟨rfl, hc.2⟩
   ·rw [if_neg hc] at hz
    exact absurd rfl hz
 rename_i n1 n2 n3
 obtain ⟨c1, c2⟩ := ht.2.2.2.2 hk (by omega)
 split
 ·rename_i hab
  show QPart (if w.last = t.b then { w with last := t.c } else w) ∧ okTQ (if w.last = t.b then { w with last := t.c } else w).below.length (if w.last = t.b then { w with last := t.c } else w).last _ ∧ w.below.length ≤ (if w.last = t.b then { w with last := t.c } else w).below.length ∧ w.last ≤ (if w.last = t.b then { w with last := t.c } else w).last
  split
  ·rename_i he
   exact ⟨last_on h (by omega) c2, (plain { t with pc := 1 } rfl (by simp)).mono (Nat.le_refl _) (by show w.last ≤ t.c; omega), Nat.le_refl _, by show w.last ≤ t.c; omega⟩
  ·exact ⟨h, plain _ rfl (by simp), Nat.le_refl _, Nat.le_refl _⟩
 split
 ·exact ⟨⟨h.len, h.two, h.nxt, h.lo, h.hi, h.pos⟩, plain _ rfl (by simp [TaskD.end']), Nat.le_refl _, Nat.le_refl _⟩
 ·exact ⟨h, plain _ rfl (by simp), Nat.le_refl _, Nat.le_refl _⟩
theorem one_put {w : WorldD} {t : TaskD} (h : t.kind = 3) : oneW w t = putW w t := by
 unfold oneW
 rw [if_neg (by omega), if_pos h]
theorem one_take {w : WorldD} {t : TaskD} (h : t.kind = 4) : oneW w t = takeW w t := by
 unfold oneW
 rw [if_neg (by omega), if_neg (by omega), if_pos h]
theorem step_inv {w : WorldD} (h : InvQ w) (n : Nat) : InvQ (stepW w n) := by
 cases ht : w.tasks[n]? with
 | none =>
   have : stepW w n = w := by simp [stepW, ht]
   rw [this]
   exact h
 | some t =>
   by_cases hp : t.pc = 0
   ·have : stepW w n = w := by simp [stepW, ht, hp]
    rw [this]
    exact h
   have hok := h.ts t (List.mem_of_getElem? ht)
   have hok' : okTQ w.below.length w.last { t with steps := t.steps + 1 } := hok
   have key : ∀ r : WorldD × TaskD, oneW w { t with steps := t.steps + 1 } = r → QPart r.1 ∧ okTQ r.1.below.length r.1.last r.2 ∧ w.below.length ≤ r.1.below.length ∧ w.last ≤ r.1.last → r.1.tasks = w.tasks → InvQ (stepW w n) := fun r hr ⟨q1, q2, q3, q4⟩ hs => by
    have he := (step_at ht hp (by rw [hr]; exact hs)).2
    rw [hr] at he
    rw [he]
    refine ⟨q1.len, q1.two, q1.nxt, q1.lo, q1.hi, q1.pos, fun x hx => ?_⟩
    rcases List.mem_or_eq_of_mem_set hx with hx | rfl
    ·exact (h.ts x hx).mono q3 q4
    ·exact q2
   rcases hok.1 with hk | hk
   ·exact key _ (one_put hk) (put_inv h.part hok' hk hp) (put_tasks _ _)
   ·exact key _ (one_take hk) (take_inv h.part hok' hk hp) (take_tasks _ _)
theorem one_snap {w : WorldD} {t : TaskD} (h : t.kind = 7 ∨ t.kind = 8) : oneW w t = snapW w t := by
 unfold oneW
 rw [if_neg (by omega), if_neg (by omega), if_neg (by omega), if_neg (by omega), if_pos h]
theorem snap_tasks (w : WorldD) (t : TaskD) : (snapW w t).1.tasks = w.tasks := by
 unfold snapW
 split
 ·rfl
 ·dsimp only
  split
  ·rfl
  ·split
   ·rfl
   ·split <;> rfl
theorem looked_kind (w : WorldD) (t : TaskD) : (lookedW w t).1.kind = t.kind ∧ (lookedW w t).1.pc = t.pc ∧ (lookedW w t).1.ahead = t.collect ∧ (lookedW w t).1.collect = [] := by
 unfold lookedW
 split
 ·exact ⟨rfl, rfl, rfl, rfl⟩
 ·dsimp only
  split
  ·exact ⟨rfl, rfl, rfl, rfl⟩
  ·split <;> exact ⟨rfl, rfl, rfl, rfl⟩
def wonW (w : WorldD) : Nat := w.tasks.countP (·.ok)
def staleW (w : WorldD) (t : TaskD) : Prop := if t.kind = 1 ∨ t.kind = 2 then w.top ≠ t.a else w.lent ≠ t.bits
def okB (w : WorldD) (S : Nat) (t : TaskD) : Prop :=
 (t.kind = 1 ∨ t.kind = 2 ∨ t.kind = 5 ∨ t.kind = 6) ∧ (t.pc = 0 → t.ok = true → t.steps ≤ 2 * S) ∧ (t.pc = 0 → t.ok = false → t.steps ≤ 2 * S + 1) ∧
 (t.pc ≠ 0 → t.ok = false) ∧ (t.pc = 1 → t.steps ≤ 2 * S) ∧ (1 < t.pc → t.steps ≤ 2 * S + 1 ∧ (staleW w t → t.steps + 1 ≤ 2 * S))
def InvB (w : WorldD) : Prop := ∀ t ∈ w.tasks, okB w (wonW w) t
theorem one_bound {w : WorldD} {S : Nat} {t : TaskD} (h : okB w S t) (hp : t.pc ≠ 0) :
  (oneW w { t with steps := t.steps + 1 }).1.tasks = w.tasks ∧
  (((oneW w { t with steps := t.steps + 1 }).1 = w ∧ (oneW w { t with steps := t.steps + 1 }).2.ok = false ∧ okB w S (oneW w { t with steps := t.steps + 1 }).2) ∨
   ((oneW w { t with steps := t.steps + 1 }).2.ok = true ∧ (oneW w { t with steps := t.steps + 1 }).2.pc = 0 ∧ (oneW w { t with steps := t.steps + 1 }).2.kind = t.kind ∧ (oneW w { t with steps := t.steps + 1 }).2.steps ≤ 2 * (S + 1))) := by
 obtain ⟨hk, -, -, hno, h1, h2⟩ := h
 have hno := hno hp
 by_cases hst : t.kind = 1 ∨ t.kind = 2
 ·have he : oneW w { t with steps := t.steps + 1 } = stackW w { t with steps := t.steps + 1 } := by unfold oneW; rw [if_pos (by exact hst)]
  rw [he]
  refine ⟨stack_tasks _ _, ?_⟩
  unfold stackW
  by_cases hp1 : t.pc = 1
  ·have := h1 hp1
   rw [if_pos (by exact hp1)]
   split
   ·exact .inl ⟨rfl, rfl, hk, fun _ e => (by simp [TaskD.end'] at e), fun _ _ => by simp only [TaskD.end']; omega, fun e => absurd rfl e, fun e => (by simp [TaskD.end'] at e), fun e => (by simp [TaskD.end'] at e)⟩
   ·refine .inl ⟨rfl, hno, hk, fun e => (by simp at e), fun e => (by simp at e), fun _ => hno, fun e => (by simp at e), fun _ => ⟨by simp only; omega, fun hs => ?_⟩⟩
    unfold staleW at hs
    rw [if_pos (by exact hst)] at hs
    exact absurd rfl hs
  ·rw [if_neg (by exact hp1)]
   obtain ⟨s1, s2⟩ := h2 (by omega)
   split
   ·rename_i hne
    have := s2 (by unfold staleW; rw [if_pos hst]; exact hne)
    exact .inl ⟨rfl, hno, hk, fun e => (by simp at e), fun e => (by simp at e), fun _ => hno, fun _ => by simp only; omega, fun e => (by simp at e)⟩
   split
   ·exact .inr ⟨rfl, rfl, rfl, by simp only [TaskD.end']; omega⟩
   ·exact .inr ⟨rfl, rfl, rfl, by simp only [TaskD.end']; omega⟩
 ·have hsl : t.kind = 5 ∨ t.kind = 6 := by omega
  have he : oneW w { t with steps := t.steps + 1 } = slotsW w { t with steps := t.steps + 1 } := by
   unfold oneW
   rw [if_neg (by exact hst), if_neg (by show ¬ t.kind = 3; omega), if_neg (by show ¬ t.kind = 4; omega), if_pos (by exact hsl)]
  rw [he]
  refine ⟨slots_tasks _ _, ?_⟩
  have ends : ∀ u : TaskD, u.kind = t.kind → u.steps = t.steps + 1 → t.steps ≤ 2 * S → okB w S (u.end' 0 false) := fun u hu hs hle =>
   ⟨by simp only [TaskD.end']; omega, fun _ e => (by simp [TaskD.end'] at e), fun _ _ => by simp only [TaskD.end']; omega, fun e => absurd rfl e, fun e => (by simp [TaskD.end'] at e), fun e => (by simp [TaskD.end'] at e)⟩
  have loads : ∀ u : TaskD, u.kind = t.kind → u.steps = t.steps + 1 → u.pc = 2 → u.ok = false → u.bits = w.lent → t.steps ≤ 2 * S → okB w S u := fun u hu hs hpc ho hb hle =>
   ⟨by omega, fun e => by omega, fun e => by omega, fun _ => ho, fun e => by omega, fun _ => ⟨by omega, fun hst' => by
    unfold staleW at hst'
    rw [if_neg (by omega), hb] at hst'
    exact absurd rfl hst'⟩⟩
  unfold slotsW
  by_cases hp1 : t.pc = 1
  ·have := h1 hp1
   rw [if_pos (by exact hp1)]
   split
   ·split
    ·exact .inl ⟨rfl, rfl, ends _ rfl rfl this⟩
    ·exact .inl ⟨rfl, hno, loads _ rfl rfl rfl hno rfl this⟩
   ·split
    ·exact .inl ⟨rfl, rfl, ends _ rfl rfl this⟩
    ·exact .inl ⟨rfl, hno, loads _ rfl rfl rfl hno rfl this⟩
  ·rw [if_neg (by exact hp1)]
   obtain ⟨s1, s2⟩ := h2 (by omega)
   split
   ·exact .inr ⟨rfl, rfl, rfl, by simp only [TaskD.end']; omega⟩
   ·rename_i hne
    have := s2 (by unfold staleW; rw [if_neg hst]; exact hne)
    exact .inl ⟨rfl, hno, hk, fun e => (by simp at e), fun e => (by simp at e), fun _ => hno, fun _ => by simp only; omega, fun e => (by simp at e)⟩
theorem okB.won {w w' : WorldD} {S : Nat} {t : TaskD} (h : okB w S t) : okB w' (S + 1) t := by
 obtain ⟨hk, h0, h0', hno, h1, h2⟩ := h
 exact ⟨hk, fun a b => by have := h0 a b; omega, fun a b => by have := h0' a b; omega, hno, fun a => by have := h1 a; omega, fun a => ⟨by have := (h2 a).1; omega, fun _ => by have := (h2 a).1; omega⟩⟩
theorem bound_inv {w : WorldD} (h : InvB w) (n : Nat) : InvB (stepW w n) := by
 cases ht : w.tasks[n]? with
 | none =>
   have : stepW w n = w := by simp [stepW, ht]
   rw [this]
   exact h
 | some t =>
   by_cases hp : t.pc = 0
   ·have : stepW w n = w := by simp [stepW, ht, hp]
    rw [this]
    exact h
   have hlt := (List.getElem?_eq_some_iff.1 ht).1
   have hget : w.tasks[n] = t := (List.getElem?_eq_some_iff.1 ht).2
   have hok := h t (List.mem_of_getElem? ht)
   have hno : t.ok = false := hok.2.2.2.1 hp
   obtain ⟨hts, hc⟩ := one_bound hok hp
   have he := (step_at ht hp hts).2
   generalize oneW w { t with steps := t.steps + 1 } = r at hts hc he
   have hwon : wonW (stepW w n) = wonW w + if r.2.ok then 1 else 0 := by
    rw [he]
    show (w.tasks.set n r.2).countP (·.ok) = _
    rw [List.countP_set (by exact hlt), hget, hno]
    simp [wonW]
   intro x hx
   rw [hwon]
   rcases hc with ⟨c1, c2, c3⟩ | ⟨c1, c2, c3, c4⟩
   ·have hw : stepW w n = { w with tasks := w.tasks.set n r.2 } := by rw [he, c1]
    rw [c2]
    have st : ∀ u : TaskD, okB w (wonW w) u → okB (stepW w n) (wonW w) u := fun u hu => by
     rw [hw]
     exact hu
    rw [hw] at hx
    rcases List.mem_or_eq_of_mem_set hx with hx | rfl
    ·exact st _ (h x hx)
    ·exact st _ c3
   ·rw [c1]
    rw [he] at hx
    rcases List.mem_or_eq_of_mem_set hx with hx | rfl
    ·exact (h x hx).won
    ·exact ⟨by rw [c3]; exact hok.1, fun _ _ => c4, fun _ e => (by rw [c1] at e; cases e), fun e => absurd c2 e, fun e => by omega, fun e => by omega⟩
theorem bound_each {w : WorldD} (h : InvB w) : ∀ t ∈ w.tasks, t.steps ≤ 2 * w.tasks.length := fun t ht => by
 obtain ⟨-, h0, h0', hno, h1, h2⟩ := h t ht
 have hle : wonW w ≤ w.tasks.length := List.countP_le_length
 have hlt : t.ok = false → wonW w < w.tasks.length := fun ho => by
  unfold wonW
  rcases Nat.lt_or_ge (w.tasks.countP (·.ok)) w.tasks.length with hl | hg
  ·exact hl
  ·have := List.countP_eq_length.1 (Nat.le_antisymm List.countP_le_length hg) t ht
   rw [ho] at this
   cases this
 by_cases hp : t.pc = 0
 ·cases ho : t.ok with
  | true => have := h0 hp ho; omega
  | false => have := h0' hp ho; have := hlt ho; omega
 ·have ho := hno hp
  have := hlt ho
  by_cases hp1 : t.pc = 1
  ·have := h1 hp1; omega
  ·have := (h2 (by omega)).1; omega
theorem sum_le : ∀ (l : List TaskD) (m : Nat), (∀ t ∈ l, t.steps ≤ m) → (l.map (·.steps)).sum ≤ m * l.length
 | [], m, _ => by simp
 | t :: l, m, hl => by
   have h1 := hl t Sy.mH
   have h2 := sum_le l m fun x hx => hl x (Sy.mC _ hx)
   simp only [List.map_cons, List.sum_cons, List.length_cons]
   rw [Nat.mul_succ]
   omega
theorem bound_all {w : WorldD} (h : InvB w) : (w.tasks.map (·.steps)).sum ≤ 2 * w.tasks.length * w.tasks.length := sum_le _ _ (bound_each h)
theorem bound_begin {w : WorldD} (h : InvB w) {kind : Nat} (hk : kind = 1 ∨ kind = 2 ∨ kind = 5 ∨ kind = 6) (v slot : Int) : InvB (beginW w kind v slot) := fun t ht => by
 have hw : wonW (beginW w kind v slot) = wonW w := by
  show (w.tasks ++ [taskW w kind v slot]).countP _ = w.tasks.countP _
  rw [List.countP_append]
  simp [taskW]
 rw [hw]
 rcases List.mem_append.1 ht with ht | ht
 ·exact h t ht
 ·rw [List.mem_singleton.1 ht]
  exact ⟨hk, fun e => (by simp [taskW] at e), fun e => (by simp [taskW] at e), fun _ => rfl, fun _ => Nat.zero_le _, fun e => (by simp [taskW] at e)⟩
structure okS (room : Nat) (t : TaskD) : Prop where
 kind : t.kind = 7 ∨ t.kind = 8
 pc : t.pc = 0 ∨ t.pc = 1 ∨ (t.pc = 2 ∧ t.kind = 8)
 end_ : t.kind = 7 → t.pc = 0 → t.steps ≤ room * (room + 2)
 mlen : t.moved.length = room
 clen : t.pc = 1 → t.collect.length < room
 fst : t.pc = 1 → t.kind = 7 → t.ahead = [] → t.steps = t.collect.length ∧ t.moved.countP id = 0
 snd : t.pc = 1 → t.ahead ≠ [] → t.ahead.length = room ∧ (t.kind = 7 → t.steps ≤ room * (1 + t.moved.countP id) + t.collect.length)
structure InvS (w : WorldD) : Prop where
 room : 1 ≤ w.room
 cells : w.cells.length = w.room
 ts : ∀ t ∈ w.tasks, okS w.room t
theorem from_none : ∀ (m d : List Bool) (i : Nat), m.length = d.length → fromW m d i = none → (List.zipWith (· || ·) m d).countP id = m.countP id + d.countP id
 | [], [], _, _, _ => rfl
 | true :: m, true :: d, i, _, h => by cases h
 | true :: m, false :: d, i, hl, h => by
   have := from_none m d (i + 1) (by simpa using hl) h
   simp only [List.zipWith_cons_cons, List.countP_cons, this]
   simp
   omega
 | false :: m, b :: d, i, hl, h => by
   have := from_none m d (i + 1) (by simpa using hl) (by cases b <;> exact h)
   simp only [List.zipWith_cons_cons, List.countP_cons, this]
   cases b <;> simp <;> omega
theorem some_true : ∀ d : List Bool, d.all (! ·) = false → 1 ≤ d.countP id
 | [], h => by cases h
 | true :: d, _ => by simp [List.countP_cons]
 | false :: d, h => by
   have := some_true d (by simpa using h)
   simp only [List.countP_cons]
   omega
theorem looked_bound {w : WorldD} {t : TaskD} (hm : t.moved.length = w.room) (hc : t.collect.length = w.room) (hr : 1 ≤ w.room)
  (h1 : t.kind = 7 → t.ahead = [] → t.steps = w.room ∧ t.moved.countP id = 0) (h2 : t.ahead ≠ [] → t.ahead.length = w.room ∧ (t.kind = 7 → t.steps ≤ w.room * (1 + t.moved.countP id) + w.room)) :
  (lookedW w t).1.moved.length = w.room ∧ (lookedW w t).1.steps = t.steps ∧ (lookedW w t).1.ahead ≠ [] ∧ (lookedW w t).1.ahead.length = w.room ∧
  ((lookedW w t).2 = none → t.kind = 7 → t.steps ≤ w.room * (1 + (lookedW w t).1.moved.countP id)) ∧ (t.kind = 7 → t.steps ≤ w.room * (w.room + 2)) := by
 have hne : t.collect ≠ [] := fun h => by rw [h] at hc; simp at hc; omega
 have hcnt : t.moved.countP id ≤ w.room := by rw [← hm]; exact List.countP_le_length
 have hbig : ∀ c, c ≤ w.room → w.room * (1 + c) + w.room ≤ w.room * (w.room + 2) := fun c hcc => by
  have := Nat.mul_le_mul_left w.room (show 1 + c + 1 ≤ w.room + 2 by omega)
  rw [Nat.mul_add w.room (1 + c) 1] at this
  omega
 unfold lookedW
 by_cases ha : t.ahead = []
 ·rw [if_pos ha]
  refine ⟨hm, rfl, hne, hc, fun _ h7 => ?_, fun h7 => ?_⟩
  ·obtain ⟨e1, e2⟩ := h1 h7 ha
   show t.steps ≤ w.room * (1 + t.moved.countP id)
   rw [e1, e2]
   omega
  ·obtain ⟨e1, e2⟩ := h1 h7 ha
   have := hbig 0 (by omega)
   omega
 ·obtain ⟨e1, e2⟩ := h2 ha
  rw [if_neg ha]
  have hdl : (diffW t.collect t.ahead).length = w.room := by simp [diffW, hc, e1]
  have hml : (List.zipWith (· || ·) t.moved (diffW t.collect t.ahead)).length = w.room := by simp [hm, hdl]
  have fin : t.kind = 7 → t.steps ≤ w.room * (w.room + 2) := fun h7 => Nat.le_trans (e2 h7) (hbig _ hcnt)
  dsimp only
  split
  ·exact ⟨hml, rfl, hne, hc, fun h => (by cases h), fin⟩
  ·rename_i hall
   have hall : (diffW t.collect t.ahead).all (! ·) = false := by simpa using hall
   split
   ·exact ⟨hml, rfl, hne, hc, fun h => (by cases h), fin⟩
   ·rename_i hf
    refine ⟨hml, rfl, hne, hc, fun _ h7 => ?_, fin⟩
    show t.steps ≤ w.room * (1 + (List.zipWith (· || ·) t.moved (diffW t.collect t.ahead)).countP id)
    rw [from_none _ _ 0 (by rw [hm, hdl]) hf]
    have := some_true _ hall
    have := Nat.mul_le_mul_left w.room (show 1 + t.moved.countP id + 1 ≤ 1 + (t.moved.countP id + (diffW t.collect t.ahead).countP id) by omega)
    rw [Nat.mul_add w.room (1 + t.moved.countP id) 1] at this
    have := e2 h7
    omega
theorem one_snapS {w : WorldD} (hr : 1 ≤ w.room) (hcl : w.cells.length = w.room) {t : TaskD} (h : okS w.room t) (hp : t.pc ≠ 0) :
  okS w.room (snapW w { t with steps := t.steps + 1 }).2 ∧ (snapW w { t with steps := t.steps + 1 }).1.room = w.room ∧ (snapW w { t with steps := t.steps + 1 }).1.cells.length = w.room := by
 obtain ⟨hk, hpc, he, hm, hc, h1, h2⟩ := h
 unfold snapW
 by_cases hp2 : t.pc = 2
 ·rw [if_pos (by exact hp2)]
  have h8 : t.kind = 8 := by rcases hpc with h | h | h <;> omega
  have n7 : t.kind ≠ 7 := by omega
  exact ⟨⟨hk, .inl rfl, fun h7 => absurd h7 n7, hm, fun e => (by simp [TaskD.end'] at e), fun e => (by simp [TaskD.end'] at e), fun e => (by simp [TaskD.end'] at e)⟩, rfl, by simp [hcl]⟩
 ·have hp1 : t.pc = 1 := by omega
  have hc := hc hp1
  have h1 := h1 hp1
  have h2 := h2 hp1
  rw [if_neg (by exact hp2)]
  dsimp only
  have hl : (t.collect ++ [w.cells.getD t.collect.length 0]).length = t.collect.length + 1 := by simp
  split
  ·rename_i hlt
   rw [hl] at hlt
   refine ⟨⟨hk, .inr (.inl hp1), fun _ e => (by have : t.pc = 0 := e; omega), hm, fun _ => by show (t.collect ++ _).length < _; rw [hl]; exact hlt, fun _ h7 ha => ?_, fun _ ha => ?_⟩, rfl, hcl⟩
   ·obtain ⟨e1, e2⟩ := h1 h7 ha
    refine ⟨?_, e2⟩
    show t.steps + 1 = (t.collect ++ _).length
    rw [hl, e1]
   ·obtain ⟨e1, e2⟩ := h2 ha
    refine ⟨e1, fun h7 => ?_⟩
    have := e2 h7
    show t.steps + 1 ≤ w.room * (1 + t.moved.countP id) + (t.collect ++ _).length
    rw [hl]
    omega
  ·rename_i hge
   have hfull : t.collect.length + 1 = w.room := by rw [hl] at hge; omega
   have hb := looked_bound (w := w) (t := { t with steps := t.steps + 1, collect := t.collect ++ [w.cells.getD t.collect.length 0] }) hm (by rw [hl]; exact hfull) hr
    (fun h7 ha => ⟨by have := (h1 h7 ha).1; show t.steps + 1 = w.room; omega, (h1 h7 ha).2⟩) (fun ha => ⟨(h2 ha).1, fun h7 => by have := (h2 ha).2 h7; show t.steps + 1 ≤ w.room * (1 + t.moved.countP id) + w.room; omega⟩)
   have hK := looked_kind w { t with steps := t.steps + 1, collect := t.collect ++ [w.cells.getD t.collect.length 0] }
   generalize lookedW w { t with steps := t.steps + 1, collect := t.collect ++ [w.cells.getD t.collect.length 0] } = r at hb hK
   obtain ⟨u, o⟩ := r
   obtain ⟨b1, b2, b3, b4, b5, b6⟩ := hb
   obtain ⟨k1, k2, k3, k4⟩ := hK
   simp only at b1 b2 b3 b4 b5 b6 k1 k2 k3 k4
   cases o with
   | none =>
     refine ⟨⟨by show u.kind = 7 ∨ _; rw [k1]; exact hk, .inr (.inl (by show u.pc = 1; rw [k2]; exact hp1)), fun _ e => (by have : u.pc = 0 := e; rw [k2] at this; omega), b1, fun _ => by show u.collect.length < w.room; rw [k4]; exact hr, fun _ _ ha => absurd ha b3, fun _ _ => ⟨b4, fun h7 => ?_⟩⟩, rfl, hcl⟩
     have := b5 rfl (by rw [← k1]; exact h7)
     show u.steps ≤ w.room * (1 + u.moved.countP id) + u.collect.length
     rw [b2]
     omega
   | some v =>
     simp only
     split
     ·rename_i h8
      exact ⟨⟨.inr h8, .inr (.inr ⟨rfl, h8⟩), fun _ e => (by simp at e), b1, fun e => (by simp at e), fun e => (by simp at e), fun e => (by simp at e)⟩, rfl, hcl⟩
     ·refine ⟨⟨by show u.kind = 7 ∨ _; rw [k1]; exact hk, .inl rfl, fun h7 _ => ?_, b1, fun e => (by simp [TaskD.end'] at e), fun e => (by simp [TaskD.end'] at e), fun e => (by simp [TaskD.end'] at e)⟩, rfl, hcl⟩
      have := b6 (by rw [← k1]; exact h7)
      show u.steps ≤ _
      rw [b2]
      exact this
theorem scan_inv {w : WorldD} (h : InvS w) (n : Nat) : InvS (stepW w n) := by
 cases ht : w.tasks[n]? with
 | none =>
   have : stepW w n = w := by simp [stepW, ht]
   rw [this]
   exact h
 | some t =>
   by_cases hp : t.pc = 0
   ·have : stepW w n = w := by simp [stepW, ht, hp]
    rw [this]
    exact h
   have hok := h.ts t (List.mem_of_getElem? ht)
   obtain ⟨g1, g2, g3⟩ := one_snapS h.room h.cells hok hp
   have hone : oneW w { t with steps := t.steps + 1 } = snapW w { t with steps := t.steps + 1 } := one_snap hok.kind
   have he := (step_at ht hp (by rw [hone]; exact snap_tasks _ _)).2
   rw [hone] at he
   rw [he]
   refine ⟨by show 1 ≤ (snapW w _).1.room; rw [g2]; exact h.room, by show (snapW w _).1.cells.length = (snapW w _).1.room; rw [g2, g3], fun x hx => ?_⟩
   show okS (snapW w _).1.room x
   rw [g2]
   rcases List.mem_or_eq_of_mem_set hx with hx | rfl
   ·exact h.ts x hx
   ·exact g1
theorem scan_begin {w : WorldD} (h : InvS w) {kind : Nat} (hk : kind = 7 ∨ kind = 8) (v slot : Int) : InvS (beginW w kind v slot) := by
 refine ⟨h.room, h.cells, fun t ht => ?_⟩
 rcases List.mem_append.1 ht with ht | ht
 ·exact h.ts t ht
 ·rw [List.mem_singleton.1 ht]
  have hr := h.room
  exact ⟨hk, .inr (.inl rfl), fun _ e => (by simp [taskW] at e), by show (if kind = 7 ∨ kind = 8 then List.replicate w.room false else []).length = w.room; rw [if_pos hk]; simp, fun _ => hr, fun _ _ _ => ⟨rfl, by show (if kind = 7 ∨ kind = 8 then List.replicate w.room false else []).countP id = 0; rw [if_pos hk]; simp⟩, fun _ e => absurd rfl e⟩
theorem one_tasks (w : WorldD) (t : TaskD) : (oneW w t).1.tasks = w.tasks := by
 unfold oneW
 split
 ·exact stack_tasks _ _
 split
 ·exact put_tasks _ _
 split
 ·exact take_tasks _ _
 split
 ·exact slots_tasks _ _
 split
 ·exact snap_tasks _ _
 ·exact once_tasks _ _
theorem one_kind (w : WorldD) (t : TaskD) : (oneW w t).2.kind = t.kind := by
 unfold oneW
 split
 ·unfold stackW
  split
  ·split <;> rfl
  split
  ·rfl
  split <;> rfl
 split
 ·unfold putW
  split
  ·rfl
  split
  ·rfl
  split
  ·split <;> rfl
  split <;> rfl
 split
 ·unfold takeW
  split
  ·rfl
  split
  ·rfl
  split
  ·split <;> rfl
  split
  ·rfl
  split <;> rfl
 split
 ·unfold slotsW
  split
  ·split
   ·split <;> rfl
   split <;> rfl
  split <;> rfl
 split
 ·unfold snapW
  split
  ·rfl
  ·dsimp only
   split
   ·rfl
   ·have hK := looked_kind w { t with collect := t.collect ++ [w.cells.getD t.collect.length 0] }
    generalize lookedW w { t with collect := t.collect ++ [w.cells.getD t.collect.length 0] } = r at hK
    obtain ⟨u, o⟩ := r
    cases o with
    | none => exact hK.1
    | some v =>
      simp only
      split <;> exact hK.1
 ·unfold onceW
  split
  ·rfl
  split <;> rfl
theorem step_kinds (w : WorldD) (n : Nat) : (stepW w n).tasks.map (·.kind) = w.tasks.map (·.kind) := by
 cases ht : w.tasks[n]? with
 | none => simp [stepW, ht]
 | some t =>
   by_cases hp : t.pc = 0
   ·simp [stepW, ht, hp]
   ·rw [(step_at ht hp (one_tasks _ _)).2]
    show (w.tasks.set n _).map _ = _
    apply List.ext_getElem?
    intro i
    rw [List.getElem?_map, List.getElem?_map, List.getElem?_set]
    by_cases hi : n = i
    ·subst hi
     rw [if_pos rfl, if_pos (List.getElem?_eq_some_iff.1 ht).1, ht]
     simp [one_kind]
    ·rw [if_neg hi]
def kindOk (thing kind : Nat) : Prop := (thing = 1 ∧ (kind = 1 ∨ kind = 2)) ∨ (thing = 2 ∧ (kind = 3 ∨ kind = 4)) ∨ (thing = 3 ∧ (kind = 5 ∨ kind = 6)) ∨ (thing = 4 ∧ (kind = 7 ∨ kind = 8)) ∨ (thing = 5 ∧ kind = 9)
structure OkW (w : WorldD) : Prop where
 kinds : ∀ t ∈ w.tasks, kindOk w.thing t.kind
 b : w.thing = 1 ∨ w.thing = 3 → InvB w
 q : w.thing = 2 → InvQ w
 s : w.thing = 4 → InvS w
theorem kind_ok {thing : Nat} (h : 1 ≤ thing ∧ thing ≤ 5) (n : Int) : kindOk thing (kindW thing n) := by
 unfold kindW kindOk
 split
 ·omega
 ·split <;> omega
theorem new_thing {thing room : Int} {w : WorldD} (h : newW thing room = some w) : w.thing = thing.toNat ∧ w.room = room.toNat ∧ w.tasks = [] := by
 unfold newW at h
 split at h
 ·cases h
 ·cases h
  exact ⟨rfl, rfl, rfl⟩
theorem ok_new {thing room : Int} (h5 : 1 ≤ thing ∧ thing ≤ 5) {w : WorldD} (h : newW thing room = some w) : OkW w := by
 obtain ⟨e1, e2, e3⟩ := new_thing h
 refine ⟨fun t ht => (by rw [e3] at ht; cases ht), fun _ t ht => (by rw [e3] at ht; cases ht), fun ht => ?_, fun ht => ?_⟩
 ·have : thing = 2 := by omega
  subst this
  unfold newW at h
  split at h
  ·cases h
  ·cases h
   refine ⟨rfl, Nat.le_refl _, fun i => ?_, (by show (2 : Nat) ≤ 1 + 2; decide), (by show (1 : Nat) < 2; decide), (by show (1 : Nat) ≤ 1; decide), fun t ht => nomatch ht⟩
   rcases i with _ | _ | i <;> simp
 ·have : thing = 4 := by omega
  subst this
  unfold newW at h
  split at h
  ·cases h
  ·rename_i hn
   cases h
   exact ⟨by show 1 ≤ room.toNat; omega, by simp, fun t ht => nomatch ht⟩
theorem ok_begin {w : WorldD} (h : OkW w) {kind : Nat} (hk : kindOk w.thing kind) (v slot : Int) : OkW (beginW w kind v slot) := by
 refine ⟨fun t ht => ?_, fun ht => bound_begin (h.b ht) (by unfold kindOk at hk; have : w.thing = 1 ∨ w.thing = 3 := ht; omega) v slot, fun ht => ?_, fun ht => scan_begin (h.s ht) (by unfold kindOk at hk; have : w.thing = 4 := ht; omega) v slot⟩
 ·rcases List.mem_append.1 ht with ht | ht
  ·exact h.kinds t ht
  ·rw [List.mem_singleton.1 ht]
   exact hk
 ·have hq := h.q ht
  refine ⟨hq.len, hq.two, hq.nxt, hq.lo, hq.hi, hq.pos, fun t ht' => ?_⟩
  rcases List.mem_append.1 ht' with ht' | ht'
  ·exact hq.ts t ht'
  ·rw [List.mem_singleton.1 ht']
   have : w.thing = 2 := ht
   have hk' : kind = 3 ∨ kind = 4 := by unfold kindOk at hk; omega
   refine ⟨hk', ?_, ?_, ?_, ?_⟩ <;> intro _ h2 <;> simp [taskW] at h2
theorem one_thing (w : WorldD) (t : TaskD) : (oneW w t).1.thing = w.thing ∧ (oneW w t).1.room = w.room := by
 unfold oneW
 split
 ·unfold stackW
  split
  ·split <;> exact ⟨rfl, rfl⟩
  split
  ·exact ⟨rfl, rfl⟩
  split <;> exact ⟨rfl, rfl⟩
 split
 ·unfold putW
  split
  ·exact ⟨rfl, rfl⟩
  split
  ·exact ⟨rfl, rfl⟩
  split
  ·split <;> exact ⟨rfl, rfl⟩
  split
  ·dsimp only; split <;> exact ⟨rfl, rfl⟩
  ·dsimp only; split <;> exact ⟨rfl, rfl⟩
 split
 ·unfold takeW
  split
  ·exact ⟨rfl, rfl⟩
  split
  ·exact ⟨rfl, rfl⟩
  split
  ·split <;> exact ⟨rfl, rfl⟩
  split
  ·dsimp only; split <;> exact ⟨rfl, rfl⟩
  split <;> exact ⟨rfl, rfl⟩
 split
 ·unfold slotsW
  split
  ·split
   ·split <;> exact ⟨rfl, rfl⟩
   split <;> exact ⟨rfl, rfl⟩
  split <;> exact ⟨rfl, rfl⟩
 split
 ·unfold snapW
  split
  ·exact ⟨rfl, rfl⟩
  ·dsimp only
   split
   ·exact ⟨rfl, rfl⟩
   ·split
    ·exact ⟨rfl, rfl⟩
    ·split <;> exact ⟨rfl, rfl⟩
 ·unfold onceW
  split
  ·exact ⟨rfl, rfl⟩
  split <;> exact ⟨rfl, rfl⟩
theorem step_thing (w : WorldD) (n : Nat) : (stepW w n).thing = w.thing ∧ (stepW w n).room = w.room := by
 cases ht : w.tasks[n]? with
 | none => simp [stepW, ht]
 | some t =>
   by_cases hp : t.pc = 0
   ·simp [stepW, ht, hp]
   ·rw [(step_at ht hp (one_tasks _ _)).2]
    exact one_thing _ _
theorem ok_step {w : WorldD} (h : OkW w) (n : Nat) : OkW (stepW w n) := by
 have hT := step_thing w n
 refine ⟨fun t ht => ?_, fun ht => bound_inv (h.b (hT.1 ▸ ht)) n, fun ht => step_inv (h.q (hT.1 ▸ ht)) n, fun ht => scan_inv (h.s (hT.1 ▸ ht)) n⟩
 rw [hT.1]
 have hm : t.kind ∈ (stepW w n).tasks.map (·.kind) := List.mem_map.2 ⟨t, ht, rfl⟩
 rw [step_kinds] at hm
 obtain ⟨u, hu, e⟩ := List.mem_map.1 hm
 rw [← e]
 exact h.kinds u hu
def sumW (w : WorldD) : Nat := (w.tasks.map (·.steps)).sum
theorem one_steps (w : WorldD) (t : TaskD) : (oneW w t).2.steps = t.steps := by
 unfold oneW
 split
 ·unfold stackW
  split
  ·split <;> rfl
  split
  ·rfl
  split <;> rfl
 split
 ·unfold putW
  split
  ·rfl
  split
  ·rfl
  split
  ·split <;> rfl
  split <;> rfl
 split
 ·unfold takeW
  split
  ·rfl
  split
  ·rfl
  split
  ·split <;> rfl
  split
  ·rfl
  split <;> rfl
 split
 ·unfold slotsW
  split
  ·split
   ·split <;> rfl
   split <;> rfl
  split <;> rfl
 split
 ·unfold snapW
  split
  ·rfl
  ·dsimp only
   split
   ·rfl
   ·have hK : ∀ (u : TaskD), (lookedW w u).1.steps = u.steps := fun u => by
     unfold lookedW
     split
     ·rfl
     dsimp only
     split
     ·rfl
     split <;> rfl
    have hK := hK { t with collect := t.collect ++ [w.cells.getD t.collect.length 0] }
    generalize lookedW w { t with collect := t.collect ++ [w.cells.getD t.collect.length 0] } = r at hK
    obtain ⟨u, o⟩ := r
    cases o with
    | none => exact hK
    | some v =>
      simp only
      split <;> exact hK
 ·unfold onceW
  split
  ·rfl
  split <;> rfl
theorem sum_set : ∀ (l : List Nat) (n a : Nat), l[n]? = some a → (l.set n (a + 1)).sum = l.sum + 1
 | [], n, a, h => by simp at h
 | x :: l, 0, a, h => by
   simp at h
   subst h
   simp
   omega
 | x :: l, n + 1, a, h => by
   have := sum_set l n a (by simpa using h)
   simp
   omega
theorem step_sum {w : WorldD} {n : Nat} {t : TaskD} (ht : w.tasks[n]? = some t) (hp : t.pc ≠ 0) : sumW (stepW w n) = sumW w + 1 := by
 unfold sumW
 rw [(step_at ht hp (one_tasks _ _)).2]
 show ((w.tasks.set n _).map _).sum = _
 rw [List.map_set, one_steps]
 exact sum_set _ n t.steps (by rw [List.getElem?_map, ht]; rfl)
theorem step_len (w : WorldD) (n : Nat) : (stepW w n).tasks.length = w.tasks.length := by
 have := congrArg List.length (step_kinds w n)
 simpa using this
theorem steps_le {w : WorldD} {n : Nat} {t : TaskD} (ht : w.tasks[n]? = some t) : t.steps ≤ sumW w :=
 le_sum _ _ (List.mem_map.2 ⟨t, List.mem_of_getElem? ht, rfl⟩)
where le_sum : ∀ (l : List Nat) (x : Nat), x ∈ l → x ≤ l.sum
 | a :: l, x, h => by
   rcases List.mem_cons.1 h with rfl | h
   ·simp
   ·have := le_sum l x h
    simp
    omega
theorem bounds_law {w : WorldD} (h : OkW w) : ((w.thing = 1 ∨ w.thing = 3) → sumW w ≤ 2 * w.tasks.length * w.tasks.length) ∧ ∀ t ∈ w.tasks, t.kind = 7 → t.steps ≤ w.room * (w.room + 2) := by
 refine ⟨fun e => bound_all (h.b e), fun t ht hk => ?_⟩
 have hk' := h.kinds t ht
 unfold kindOk at hk'
 have hS := (h.s (by omega)).ts t ht
 rcases hS.pc with hp | hp | ⟨-, hp⟩
 ·exact hS.end_ hk hp
 ·have hc := hS.clen hp
  by_cases ha : t.ahead = []
  ·have := (hS.fst hp hk ha).1
   have : w.room ≤ w.room * (w.room + 2) := Nat.le_mul_of_pos_right _ (by omega)
   omega
  ·have h1 := (hS.snd hp ha).2 hk
   have h2 : t.moved.countP id ≤ w.room := by have := List.countP_le_length (p := id) (l := t.moved); rw [hS.mlen] at this; exact this
   have h3 : w.room * (1 + t.moved.countP id) ≤ w.room * (1 + w.room) := Nat.mul_le_mul_left _ (by omega)
   have h4 : w.room * (w.room + 2) = w.room * (1 + w.room) + w.room := by rw [show w.room + 2 = (1 + w.room) + 1 by omega, Nat.mul_add, Nat.mul_one]
   omega
 ·omega
end Go.Proofs.YtjohknpmhlildaaDoor.As
namespace Go.Proofs.YtjohknpmhlildaaDoor.At
open Go Go.RowKit
open Go.Proofs.YtjohknpmhlildaaDoor.Sy (Let Blk Cont Bun ptr ptr0 bx tkB tkU clo DoesB usedK ownOf rdsOf Rep does_frame does_perm does_mono does_all)
open Go.Proofs.YtjohknpmhlildaaDoor.As
variable {P : Program}
structure TaskH where
 d : TaskD
 tk : Nat
 nx : Value
 vw : Value
 bl : Bun
abbrev nil0 : Value := .slice none 0 0
def TaskH.cell (x : TaskH) : Nat × Cont :=
 tkB x.tk x.nx (if x.d.pc = 0 then 1 else 0) (x.d.steps : Int) (if x.d.pc = 0 then x.d.out else 0) (if x.d.pc = 0 then x.d.ok else false) (if x.d.pc = 0 then x.vw else nil0)
def TaskH.all (x : TaskH) : Bun := x.cell :: x.bl
def allH (xs : List TaskH) : Bun := xs.flatMap TaskH.all
theorem TaskH.cell_on {x : TaskH} (h : x.d.pc ≠ 0) : x.cell = tkU x.tk x.nx (x.d.steps : Int) := by
 unfold TaskH.cell
 rw [if_neg h, if_neg h, if_neg h, if_neg h]
theorem TaskH.cell_end {x : TaskH} (h : x.d.pc = 0) : x.cell = tkB x.tk x.nx 1 (x.d.steps : Int) x.d.out x.d.ok x.vw := by
 unfold TaskH.cell
 rw [if_pos h, if_pos h, if_pos h, if_pos h]
theorem allH_at {xs : List TaskH} {n : Nat} {x : TaskH} (h : xs[n]? = some x) : (allH xs).Perm (x.all ++ allH (xs.take n ++ xs.drop (n + 1))) := by
 obtain ⟨hl, he⟩ := List.getElem?_eq_some_iff.1 h
 have e : xs = xs.take n ++ x :: xs.drop (n + 1) := by
  rw [← he, ← List.drop_eq_getElem_cons hl, List.take_append_drop]
 have : allH xs = allH (xs.take n) ++ (x.all ++ allH (xs.drop (n + 1))) := by
  conv => lhs; rw [e]
  simp [allH, List.flatMap_append]
 rw [this]
 have h2 : allH (xs.take n ++ xs.drop (n + 1)) = allH (xs.take n) ++ allH (xs.drop (n + 1)) := by simp [allH, List.flatMap_append]
 rw [h2, ← List.append_assoc, ← List.append_assoc]
 exact List.Perm.append_right _ List.perm_append_comm
theorem allH_set {xs : List TaskH} {n : Nat} {x y : TaskH} (h : xs[n]? = some x) : (y.all ++ allH (xs.take n ++ xs.drop (n + 1))).Perm (allH (xs.set n y)) := by
 obtain ⟨hl, he⟩ := List.getElem?_eq_some_iff.1 h
 have h1 : (xs.set n y)[n]? = some y := by simp [hl]
 have h2 := allH_at h1
 have e1 : (xs.set n y).take n = xs.take n := by
  apply List.ext_getElem?
  intro i
  rw [List.getElem?_take, List.getElem?_take, List.getElem?_set]
  split
  ·rw [if_neg (by omega)]
  ·rfl
 have e2 : (xs.set n y).drop (n + 1) = xs.drop (n + 1) := by
  apply List.ext_getElem?
  intro i
  rw [List.getElem?_drop, List.getElem?_drop, List.getElem?_set, if_neg (by omega)]
 rw [e1, e2] at h2
 exact h2.symm
theorem step_glue {f : FuncId} {args : Array Value} {rd th u s b : Bun} {xs : List TaskH} {n : Nat} {x : TaskH} {Q Q' : Value → Bun → Prop}
  (hx : xs[n]? = some x) (hb : b.Perm (th ++ (allH xs ++ (u ++ s))))
  (h : DoesB P f args rd (x.all ++ (th ++ u)) Q) (hr : ∀ p ∈ rd, p ∈ s)
  (hQ : ∀ v o, Q v o → ∃ y th' u', o.Perm (y.all ++ (th' ++ u')) ∧ Q' v (th' ++ (allH (xs.set n y) ++ (u' ++ s)))) : DoesB P f args [] b Q' := by
 refine does_all (oth := allH (xs.take n ++ xs.drop (n + 1)) ++ s) h (fun p hp => Sy.mR _ (hr p hp)) ?_ fun v o ho => ?_
 ·refine List.Perm.trans ?_ hb.symm
  have h1 := allH_at hx
  have h2 : (th ++ (allH xs ++ (u ++ s))).Perm (th ++ ((x.all ++ allH (xs.take n ++ xs.drop (n + 1))) ++ (u ++ s))) := List.Perm.append_left _ (List.Perm.append_right _ h1)
  refine List.Perm.trans ?_ h2.symm
  generalize allH (xs.take n ++ xs.drop (n + 1)) = r
  generalize x.all = a
  letI : DecidableEq (Nat × Cont) := Classical.typeDecidableEq _
  refine List.perm_iff_count.2 fun p => ?_
  simp only [List.count_append]
  omega
 ·obtain ⟨y, th', u', h1, h2⟩ := hQ v o ho
  refine ⟨_, ?_, h2⟩
  have h3 := allH_set (y := y) hx
  have h4 : (o ++ (allH (xs.take n ++ xs.drop (n + 1)) ++ s)).Perm ((y.all ++ (th' ++ u')) ++ (allH (xs.take n ++ xs.drop (n + 1)) ++ s)) := List.Perm.append_right _ h1
  refine h4.trans ?_
  have h5 : (th' ++ ((y.all ++ allH (xs.take n ++ xs.drop (n + 1))) ++ (u' ++ s))).Perm (th' ++ (allH (xs.set n y) ++ (u' ++ s))) := List.Perm.append_left _ (List.Perm.append_right _ h3)
  refine List.Perm.trans ?_ h5
  generalize allH (xs.take n ++ xs.drop (n + 1)) = r
  generalize y.all = a
  letI : DecidableEq (Nat × Cont) := Classical.typeDecidableEq _
  refine List.perm_iff_count.2 fun p => ?_
  simp only [List.count_append]
  omega
theorem begin_glue {f : FuncId} {args : Array Value} {rd th s b : Bun} {xs : List TaskH} {Q Q' : Value → Bun → Prop}
  (hb : b.Perm (th ++ (allH xs ++ s))) (h : DoesB P f args rd th Q) (hr : ∀ p ∈ rd, p ∈ s)
  (hQ : ∀ v o, Q v o → ∃ ys th', o.Perm (allH ys ++ th') ∧ Q' v (th' ++ (allH (xs ++ ys) ++ s))) : DoesB P f args [] b Q' := by
 refine does_all (oth := allH xs ++ s) h (fun p hp => Sy.mR _ (hr p hp)) hb.symm fun v o ho => ?_
 obtain ⟨ys, th', h1, h2⟩ := hQ v o ho
 refine ⟨_, ?_, h2⟩
 refine (List.Perm.append_right _ h1).trans ?_
 have : allH (xs ++ ys) = allH xs ++ allH ys := by simp [allH, List.flatMap_append]
 rw [this]
 generalize allH xs = r
 generalize allH ys = a
 letI : DecidableEq (Nat × Cont) := Classical.typeDecidableEq _
 refine List.perm_iff_count.2 fun p => ?_
 simp only [List.count_append]
 omega
theorem does_nodup {f : FuncId} {args : Array Value} {use : Bun} {Q : Value → Bun → Prop} (h : (use.map (·.1)).Nodup → DoesB P f args [] use Q) : DoesB P f args [] use Q := fun W hW => h (by
 have hW : Rep W (usedK use) (use.map ownOf) W := hW
 exact hW.nodup) W hW
end Go.Proofs.YtjohknpmhlildaaDoor.At
namespace Go.Proofs.YtjohknpmhlildaaDoor.At
open Go Go.RowKit
open Go.Proofs.YtjohknpmhlildaaDoor.Sy (Let Blk Cont Bun ptr ptr0 bx tkB tkU clo DoesB usedK ownOf rdsOf Rep does_frame does_perm does_mono does_all does_of S0_holds)
abbrev stp (s : Int) : Int := Ex.wrapQ .i64 (Ex.addQ s 1)
theorem stp_nat {k : Nat} (h : k < 4611686018427387904) : stp (k : Int) = ((k + 1 : Nat) : Int) := by
 have e : stp (k : Int) = IntKind.i64.wrap ((k : Int) + 1) := by
  unfold stp
  rw [Ex.wrapQ_eq, Ex.addQ_eq]
 rw [e, IntKind.wrap_i64]
 omega
theorem ent_pick {L : List Blk} {out : Bun} (pk : List Nat) (hpk : pk.Nodup) (h : Sy.pickL L pk = out.map ownOf) : Sy.Ent L (out.map ownOf) := fun _ _ _ hr => by
 rw [← h]
 exact hr.pick hpk
def DoesS (s : Bun) (f : FuncId) (args : Array Value) (use : Bun) (Q : Value → Bun → Prop) : Prop := ∃ rd, (∀ p ∈ rd, p ∈ s) ∧ DoesB Tryd.prog f args rd use Q
def IsN (s : Bun) (v : Value) : Prop := v = ptr0 ∨ ∃ p a b, v = ptr p ∧ ndB p a b ∈ s
theorem in1 {s : Bun} {a : Nat × Cont} (h : a ∈ s) : ∀ p ∈ [a], p ∈ s := fun p hp => by rw [List.mem_singleton.1 hp]; exact h
theorem in2 {s : Bun} {a b : Nat × Cont} (h : a ∈ s) (h' : b ∈ s) : ∀ p ∈ [a, b], p ∈ s := fun p hp => by
 rcases List.mem_cons.1 hp with rfl | hp
 ·exact h
 ·exact in1 h' p hp
theorem in3 {s : Bun} {a b c : Nat × Cont} (h : a ∈ s) (h' : b ∈ s) (h'' : c ∈ s) : ∀ p ∈ [a, b, c], p ∈ s := fun p hp => by
 rcases List.mem_cons.1 hp with rfl | hp
 ·exact h
 ·exact in2 h' h'' p hp
theorem in0 {s : Bun} : ∀ p ∈ ([] : Bun), p ∈ s := fun _ h => nomatch h
def push1Q (t : Value) (tk sb lb tb vb st : Nat) (n v : Int) (r : Value) (o : Bun) : Prop :=
 r = .bool false ∧ ∃ pb, o = [tkU tk (cPush2 lb tb sb pb vb) (stp n), bx sb tSP (ptr st), bx lb tFn (cPush sb lb tb vb), bx tb tTP (ptr tk), bx vb tU (.int .u64 v), bx pb tNP t, bx st tSt t]
theorem push1_does {s : Bun} {t : Value} (ht : IsN s t) (tk sb lb tb vb st : Nat) (n v : Int) :
  DoesS s fStep #[ptr tk] [tkU tk (cPush sb lb tb vb) n, bx sb tSP (ptr st), bx lb tFn (cPush sb lb tb vb), bx tb tTP (ptr tk), bx vb tU (.int .u64 v), bx st tSt t]
   (push1Q t tk sb lb tb vb st n v) := by
 rcases ht with rfl | ⟨p, a, b, rfl, hp⟩
 ·refine ⟨[], in0, does_of S0_holds mixed (Sy.Ent.refl _) (push1n_run tk sb lb tb vb st n v) fun ns => ?_⟩
  simp only [push1n_R, Sy.Res.holds]
  exact ⟨_, ent_pick [1, 2, 3, 4, 5, 0, 6] (by decide) rfl, rfl, _, rfl⟩
 ·refine ⟨_, in1 hp, does_of S0_holds mixed (Sy.Ent.refl _) (push1s_run tk sb lb tb vb st n v p a b) fun ns => ?_⟩
  simp only [push1s_R, Sy.Res.holds]
  exact ⟨_, ent_pick [2, 3, 4, 5, 6, 0, 7] (by decide) rfl, rfl, _, rfl⟩
def push2Q (t w : Value) (tk sb lb tb vb st : Nat) (n v : Int) (r : Value) (o : Bun) : Prop :=
 (t = w ∧ r = .bool true ∧ ∃ nn, o = [tkB tk (cPush sb lb tb vb) 1 (stp n) v true (.slice none 0 0), bx st tSt (ptr nn), ndB nn v w]) ∨
 (t ≠ w ∧ r = .bool false ∧ o = [tkU tk (cPush sb lb tb vb) (stp n), bx sb tSP (ptr st), bx lb tFn (cPush sb lb tb vb), bx tb tTP (ptr tk), bx vb tU (.int .u64 v), bx st tSt t])
theorem ptr_inj {p q : Nat} (h : ptr p = ptr q) : p = q := by
 injection h with h
 injection h with h
 injection h
theorem br_eq {p q : Nat} (h : (Nat.beq p q && true) = true) : p = q := by
 rw [Bool.and_true] at h
 exact Nat.eq_of_beq_eq_true h
theorem br_ne {p q : Nat} (h : (Nat.beq p q && true) = false) : ptr p ≠ ptr q := fun he => by
 have := ptr_inj he
 subst this
 rw [Bool.and_true, Nat.beq_refl] at h
 cases h
theorem push2_does {s : Bun} {t w : Value} (ht : IsN s t) (hw : IsN s w) (tk sb lb tb vb st pb : Nat) (n v : Int) :
  DoesS s fStep #[ptr tk] [tkU tk (cPush2 lb tb sb pb vb) n, bx sb tSP (ptr st), bx lb tFn (cPush sb lb tb vb), bx tb tTP (ptr tk), bx vb tU (.int .u64 v), bx pb tNP w, bx st tSt t]
   (push2Q t w tk sb lb tb vb st n v) := by
 rcases ht with rfl | ⟨p, a, b, rfl, hp⟩ <;> rcases hw with rfl | ⟨q, c, d, rfl, hq⟩
 ·refine ⟨[], in0, does_of S0_holds mixed (Sy.Ent.refl _) (push2nn_run tk sb lb tb vb st pb n v) fun ns => ?_⟩
  simp only [push2nn_R, Sy.Res.holds]
  exact ⟨_, ent_pick [1, 7, 0] (by decide) rfl, .inl ⟨rfl, rfl, _, rfl⟩⟩
 ·refine ⟨_, in1 hq, does_of S0_holds mixed (Sy.Ent.refl _) (push2ns_run tk sb lb tb vb st pb n v q c d) fun ns => ?_⟩
  simp only [push2ns_R, Sy.Res.holds]
  exact ⟨_, ent_pick [2, 3, 4, 5, 6, 8] (by decide) rfl, .inr ⟨nofun, rfl, rfl⟩⟩
 ·refine ⟨_, in1 hp, does_of S0_holds mixed (Sy.Ent.refl _) (push2sn_run tk sb lb tb vb st pb n v p a b) fun ns => ?_⟩
  simp only [push2sn_R, Sy.Res.holds]
  exact ⟨_, ent_pick [2, 3, 4, 5, 6, 8] (by decide) rfl, .inr ⟨nofun, rfl, rfl⟩⟩
 ·refine ⟨_, in2 hp hq, does_of S0_holds mixed (Sy.Ent.refl _) (push2ss_run tk sb lb tb vb st pb n v p a b q c d) fun ns => ?_⟩
  simp only [push2ss_R, Sy.Res.holds]
  refine ⟨fun h => ?_, fun h => ?_⟩
  ·have := br_eq h
   subst this
   exact ⟨_, ent_pick [3, 9, 0] (by decide) rfl, .inl ⟨rfl, rfl, _, rfl⟩⟩
  ·exact ⟨_, ent_pick [3, 4, 5, 6, 7, 9] (by decide) rfl, .inr ⟨br_ne h, rfl, rfl⟩⟩
def pop1Q (t : Value) (tk sb lb tb st : Nat) (n : Int) (r : Value) (o : Bun) : Prop :=
 (t = ptr0 ∧ r = .bool true ∧ o = [tkB tk (cPop sb tb lb) 1 (stp n) 0 false (.slice none 0 0), bx st tSt t]) ∨
    (t ≠ ptr0 ∧ r = .bool false ∧ ∃ pb, o = [tkU tk (cPop2 lb tb sb pb) (stp n), bx sb tSP (ptr st), bx lb tFn (cPop sb tb lb), bx tb tTP (ptr tk), bx pb tNP t, bx st tSt t])
theorem pop1_does {s : Bun} {t : Value} (ht : IsN s t) (tk sb lb tb st : Nat) (n : Int) :
  DoesS s fStep #[ptr tk] [tkU tk (cPop sb tb lb) n, bx sb tSP (ptr st), bx lb tFn (cPop sb tb lb), bx tb tTP (ptr tk), bx st tSt t]
   (pop1Q t tk sb lb tb st n) := by
 rcases ht with rfl | ⟨p, a, b, rfl, hp⟩
 ·refine ⟨[], in0, does_of S0_holds mixed (Sy.Ent.refl _) (pop1n_run tk sb lb tb st n) fun ns => ?_⟩
  simp only [pop1n_R, Sy.Res.holds]
  exact ⟨_, ent_pick [1, 5] (by decide) rfl, .inl ⟨rfl, rfl, rfl⟩⟩
 ·refine ⟨_, in1 hp, does_of S0_holds mixed (Sy.Ent.refl _) (pop1s_run tk sb lb tb st n p a b) fun ns => ?_⟩
  simp only [pop1s_R, Sy.Res.holds]
  exact ⟨_, ent_pick [2, 3, 4, 5, 0, 6] (by decide) rfl, .inr ⟨nofun, rfl, _, rfl⟩⟩
def pop2Q (t d : Value) (q : Nat) (c : Int) (tk sb lb tb st : Nat) (n : Int) (r : Value) (o : Bun) : Prop :=
 (t = ptr q ∧ r = .bool true ∧ o = [tkB tk (cPop sb tb lb) 1 (stp n) c true (.slice none 0 0), bx st tSt d]) ∨
    (t ≠ ptr q ∧ r = .bool false ∧ o = [tkU tk (cPop sb tb lb) (stp n), bx sb tSP (ptr st), bx lb tFn (cPop sb tb lb), bx tb tTP (ptr tk), bx st tSt t])
theorem pop2_does {s : Bun} {t d : Value} {q : Nat} {c : Int} (ht : IsN s t) (hq : ndB q c d ∈ s) (hd : IsN s d) (tk sb lb tb st pb : Nat) (n : Int) :
  DoesS s fStep #[ptr tk] [tkU tk (cPop2 lb tb sb pb) n, bx sb tSP (ptr st), bx lb tFn (cPop sb tb lb), bx tb tTP (ptr tk), bx pb tNP (ptr q), bx st tSt t]
   (pop2Q t d q c tk sb lb tb st n) := by
 rcases ht with rfl | ⟨p, a, b, rfl, hp⟩ <;> rcases hd with rfl | ⟨r, e, g, rfl, hr⟩
 ·refine ⟨_, in1 hq, does_of S0_holds mixed (Sy.Ent.refl _) (pop2n0_run tk sb lb tb st pb q n c) fun ns => ?_⟩
  simp only [pop2n0_R, Sy.Res.holds]
  exact ⟨_, ent_pick [1, 2, 3, 4, 6] (by decide) rfl, .inr ⟨nofun, rfl, rfl⟩⟩
 ·refine ⟨_, in2 hq hr, does_of S0_holds mixed (Sy.Ent.refl _) (pop2n1_run tk sb lb tb st pb q n c r e g) fun ns => ?_⟩
  simp only [pop2n1_R, Sy.Res.holds]
  exact ⟨_, ent_pick [2, 3, 4, 5, 7] (by decide) rfl, .inr ⟨nofun, rfl, rfl⟩⟩
 ·refine ⟨_, in2 hq hp, does_of S0_holds mixed (Sy.Ent.refl _) (pop2s0_run tk sb lb tb st pb q n c p a b) fun ns => ?_⟩
  simp only [pop2s0_R, Sy.Res.holds]
  refine ⟨fun h => ?_, fun h => ?_⟩
  ·have := br_eq h
   subst this
   exact ⟨_, ent_pick [2, 7] (by decide) rfl, .inl ⟨rfl, rfl, rfl⟩⟩
  ·exact ⟨_, ent_pick [2, 3, 4, 5, 7] (by decide) rfl, .inr ⟨br_ne h, rfl, rfl⟩⟩
 ·refine ⟨_, in3 hq hp hr, does_of S0_holds mixed (Sy.Ent.refl _) (pop2s1_run tk sb lb tb st pb q n c p a b r e g) fun ns => ?_⟩
  simp only [pop2s1_R, Sy.Res.holds]
  refine ⟨fun h => ?_, fun h => ?_⟩
  ·have := br_eq h
   subst this
   exact ⟨_, ent_pick [3, 8] (by decide) rfl, .inl ⟨rfl, rfl, rfl⟩⟩
  ·exact ⟨_, ent_pick [3, 4, 5, 6, 8] (by decide) rfl, .inr ⟨br_ne h, rfl, rfl⟩⟩
open Go.Proofs.YtjohknpmhlildaaDoor.As
theorem step_glueS {f : FuncId} {args : Array Value} {th u s b : Bun} {xs : List TaskH} {n : Nat} {x : TaskH} {Q Q' : Value → Bun → Prop}
  (hx : xs[n]? = some x) (hb : b.Perm (th ++ (allH xs ++ (u ++ s)))) (h : DoesS s f args (x.all ++ (th ++ u)) Q)
  (hQ : ∀ v o, Q v o → ∃ y th' u', o.Perm (y.all ++ (th' ++ u')) ∧ Q' v (th' ++ (allH (xs.set n y) ++ (u' ++ s)))) : DoesB Tryd.prog f args [] b Q' := by
 obtain ⟨rd, hr, h⟩ := h
 exact step_glue hx hb h hr hQ
theorem set_d {xs : List TaskH} {ts : List TaskD} (h : xs.map (·.d) = ts) (n : Nat) (y : TaskH) : (xs.set n y).map (·.d) = ts.set n y.d := by rw [List.map_set, h]
theorem set_tk {xs : List TaskH} {n : Nat} {x y : TaskH} (h : xs[n]? = some x) (e : y.tk = x.tk) : (xs.set n y).map (·.tk) = xs.map (·.tk) := by
 rw [List.map_set, e]
 apply List.ext_getElem?
 intro i
 rw [List.getElem?_set]
 split
 ·rename_i hi
  subst hi
  have hl := (List.getElem?_eq_some_iff.1 h).1
  rw [if_pos (by simpa using hl), List.getElem?_map, h]
  rfl
 ·rfl
theorem at_d {xs : List TaskH} {ts : List TaskD} (h : xs.map (·.d) = ts) {n : Nat} {t : TaskD} (ht : ts[n]? = some t) : ∃ x, xs[n]? = some x ∧ x.d = t := by
 subst h
 rw [List.getElem?_map, Option.map_eq_some_iff] at ht
 exact ht
theorem all_set {xs : List TaskH} {p : TaskH → Prop} (h : ∀ x ∈ xs, p x) {n : Nat} {y : TaskH} (hy : p y) : ∀ x ∈ xs.set n y, p x := fun x hx => by
 rcases List.mem_or_eq_of_mem_set hx with hx | rfl
 ·exact h x hx
 ·exact hy
def pvN (nd : List Nat) (i : Nat) : Value := if i = 0 then ptr0 else ptr (nd.getD (i - 1) 0)
theorem pvN_app {nd : List Nat} {i : Nat} (h : i ≤ nd.length) (n : Nat) : pvN (nd ++ [n]) i = pvN nd i := by
 unfold pvN
 split
 ·rfl
 ·rw [List.getD_eq_getElem?_getD, List.getElem?_append_left (by omega), ← List.getD_eq_getElem?_getD]
theorem pvN_new (nd : List Nat) (n : Nat) : pvN (nd ++ [n]) (nd.length + 1) = ptr n := by
 unfold pvN
 rw [if_neg (by omega)]
 simp
theorem pvN_inj {nd : List Nat} (h : nd.Nodup) {i j : Nat} (hi : i ≤ nd.length) (hj : j ≤ nd.length) (e : pvN nd i = pvN nd j) : i = j := by
 unfold pvN at e
 split at e <;> split at e
 ·omega
 ·cases e
 ·cases e
 ·rename_i h1 h2
  have e := ptr_inj e
  rw [List.getD_eq_getElem?_getD, List.getD_eq_getElem?_getD, List.getElem?_eq_getElem (by omega : i - 1 < nd.length), List.getElem?_eq_getElem (by omega : j - 1 < nd.length)] at e
  have e : nd[i - 1]'(by omega) = nd[j - 1]'(by omega) := by simpa using e
  have hpw := List.pairwise_iff_getElem.1 (List.nodup_iff_pairwise_ne.1 h)
  rcases Nat.lt_trichotomy (i - 1) (j - 1) with hlt | heq | hlt
  ·exact absurd e (hpw _ _ _ _ hlt)
  ·omega
  ·exact absurd e.symm (hpw _ _ _ _ hlt)
def nodesS (nd : List Nat) (value : List Int) (below : List Nat) : Bun := (List.range nd.length).map fun i => ndB (nd.getD i 0) (value.getD (i + 1) 0) (pvN nd (below.getD (i + 1) 0))
theorem nodes_is {nd : List Nat} {value : List Int} {below : List Nat} {i : Nat} (h : i ≤ nd.length) : IsN (nodesS nd value below) (pvN nd i) := by
 by_cases h0 : i = 0
 ·exact .inl (by rw [h0]; rfl)
 ·refine .inr ⟨_, _, _, by unfold pvN; rw [if_neg h0], List.mem_map.2 ⟨i - 1, List.mem_range.2 (by omega), rfl⟩⟩
theorem nodes_at {nd : List Nat} {value : List Int} {below : List Nat} {i : Nat} (h0 : i ≠ 0) (h : i ≤ nd.length) : ndB (nd.getD (i - 1) 0) (value.getD i 0) (pvN nd (below.getD i 0)) ∈ nodesS nd value below :=
 List.mem_map.2 ⟨i - 1, List.mem_range.2 (by omega), by rw [show i - 1 + 1 = i by omega]⟩
theorem nodes_app {nd : List Nat} {value : List Int} {below : List Nat} (h1 : value.length = nd.length + 1) (h2 : below.length = nd.length + 1) (hb : ∀ i, below.getD i 0 ≤ nd.length) (n : Nat) (v : Int) {k : Nat} (hk : k ≤ nd.length) :
  nodesS (nd ++ [n]) (value ++ [v]) (below ++ [k]) = nodesS nd value below ++ [ndB n v (pvN nd k)] := by
 unfold nodesS
 rw [List.length_append, List.length_singleton, List.range_succ, List.map_append]
 congr 1
 ·apply List.map_congr_left
  intro i hi
  have hi := List.mem_range.1 hi
  rw [List.getD_eq_getElem?_getD, List.getElem?_append_left hi, ← List.getD_eq_getElem?_getD, List.getD_eq_getElem?_getD (l := value ++ [v]), List.getElem?_append_left (by omega), ← List.getD_eq_getElem?_getD,
   List.getD_eq_getElem?_getD (l := below ++ [k]), List.getElem?_append_left (by omega), ← List.getD_eq_getElem?_getD, pvN_app (hb _)]
 ·rw [List.map_singleton]
  have e1 : (nd ++ [n]).getD nd.length 0 = n := by simp
  have e2 : (value ++ [v]).getD (nd.length + 1) 0 = v := by rw [← h1]; simp
  have e3 : (below ++ [k]).getD (nd.length + 1) 0 = k := by rw [← h2]; simp
  rw [e1, e2, e3, pvN_app hk]
inductive TS (st : Nat) (nd : List Nat) : TaskH → Prop
 | push1 (d : TaskD) (tk : Nat) (vw : Value) (sb lb tb vb : Nat) (hk : d.kind = 1) (hv : d.view = []) (hp : d.pc = 1) :
   TS st nd ⟨d, tk, cPush sb lb tb vb, vw, [bx sb tSP (ptr st), bx lb tFn (cPush sb lb tb vb), bx tb tTP (ptr tk), bx vb tU (.int .u64 d.v)]⟩
 | push2 (d : TaskD) (tk : Nat) (vw : Value) (sb lb tb vb pb : Nat) (hk : d.kind = 1) (hv : d.view = []) (hp : d.pc = 2) (ha : d.a ≤ nd.length) :
   TS st nd ⟨d, tk, cPush2 lb tb sb pb vb, vw, [bx sb tSP (ptr st), bx lb tFn (cPush sb lb tb vb), bx tb tTP (ptr tk), bx vb tU (.int .u64 d.v), bx pb tNP (pvN nd d.a)]⟩
 | pop1 (d : TaskD) (tk : Nat) (vw : Value) (sb lb tb : Nat) (hk : d.kind = 2) (hv : d.view = []) (hp : d.pc = 1) :
   TS st nd ⟨d, tk, cPop sb tb lb, vw, [bx sb tSP (ptr st), bx lb tFn (cPop sb tb lb), bx tb tTP (ptr tk)]⟩
 | pop2 (d : TaskD) (tk : Nat) (vw : Value) (sb lb tb pb : Nat) (hk : d.kind = 2) (hv : d.view = []) (hp : d.pc = 2) (h0 : d.a ≠ 0) (ha : d.a ≤ nd.length) :
   TS st nd ⟨d, tk, cPop2 lb tb sb pb, vw, [bx sb tSP (ptr st), bx lb tFn (cPop sb tb lb), bx tb tTP (ptr tk), bx pb tNP (pvN nd d.a)]⟩
 | done (d : TaskD) (tk : Nat) (nx : Value) (hk : d.kind = 1 ∨ d.kind = 2) (hv : d.view = []) (hp : d.pc = 0) : TS st nd ⟨d, tk, nx, nil0, []⟩
theorem TS.app {st : Nat} {nd : List Nat} {x : TaskH} (h : TS st nd x) (n : Nat) : TS st (nd ++ [n]) x := by
 have hl : nd.length ≤ (nd ++ [n]).length := by rw [List.length_append]; omega
 cases h with
 | push1 d tk vw sb lb tb vb hk hv hp => exact .push1 d tk vw sb lb tb vb hk hv hp
 | push2 d tk vw sb lb tb vb pb hk hv hp ha =>
   have := TS.push2 (st := st) (nd := nd ++ [n]) d tk vw sb lb tb vb pb hk hv hp (Nat.le_trans ha hl)
   rwa [pvN_app ha] at this
 | pop1 d tk vw sb lb tb hk hv hp => exact .pop1 d tk vw sb lb tb hk hv hp
 | pop2 d tk vw sb lb tb pb hk hv hp h0 ha =>
   have := TS.pop2 (st := st) (nd := nd ++ [n]) d tk vw sb lb tb pb hk hv hp h0 (Nat.le_trans ha hl)
   rwa [pvN_app ha] at this
 | done d tk nx hk hv hp => exact .done d tk nx hk hv hp
structure HeapSx (w : WorldD) (st : Nat) (tks : List Nat) (b : Bun) (xs : List TaskH) (nd : List Nat) : Prop where
 thing : w.thing = 1
 d : xs.map (·.d) = w.tasks
 tk : xs.map (·.tk) = tks
 ok : ∀ x ∈ xs, TS st nd x
 vlen : w.value.length = nd.length + 1
 blen : w.below.length = nd.length + 1
 bel : ∀ i, w.below.getD i 0 ≤ nd.length
 top : w.top ≤ nd.length
 perm : b.Perm ([bx st tSt (pvN nd w.top)] ++ (allH xs ++ ([] ++ nodesS nd w.value w.below)))
def HeapS (w : WorldD) (st : Nat) (tks : List Nat) (b : Bun) : Prop := ∃ xs nd, HeapSx w st tks b xs nd
theorem HeapSx.nodup {w : WorldD} {st : Nat} {tks : List Nat} {b : Bun} {xs : List TaskH} {nd : List Nat} (h : HeapSx w st tks b xs nd) (hn : (b.map (·.1)).Nodup) : nd.Nodup := by
 have := (h.perm.map (·.1)).nodup_iff.1 hn
 rw [List.map_append, List.map_append, List.map_append] at this
 have h2 := (List.nodup_append.1 (List.nodup_append.1 (List.nodup_append.1 this).2.1).2.1).2.1
 have e : (nodesS nd w.value w.below).map (·.1) = nd := by
  unfold nodesS
  rw [List.map_map]
  apply List.ext_getElem
  ·simp
  ·intro i h1 h2
   simp at h1
   simp [h1]
 rw [e] at h2
 exact h2
def stepQ (H : WorldD → Bun → Prop) (w : WorldD) (n : Nat) (r : Value) (o : Bun) : Prop := (∃ t', (stepW w n).tasks[n]? = some t' ∧ r = .bool (t'.pc == 0)) ∧ H (stepW w n) o
theorem stepQ_of {H : WorldD → Bun → Prop} {w w' : WorldD} {n : Nat} {t t' : TaskD} {r : Value} {o : Bun} (ht : w.tasks[n]? = some t) (hp : t.pc ≠ 0) (e : oneW w { t with steps := t.steps + 1 } = (w', t')) (hr : r = .bool (t'.pc == 0)) (hH : H { w' with tasks := w.tasks.set n t' } o) : stepQ H w n r o := by
 obtain ⟨h1, h2⟩ := step_at ht hp (one_tasks _ _)
 rw [e] at h1 h2
 exact ⟨⟨_, h1, hr⟩, by rw [h2]; exact hH⟩
theorem fin {H : WorldD → Bun → Prop} {w w' : WorldD} {n : Nat} {t : TaskD} {xs : List TaskH} (y : TaskH) (th' u' : Bun) {r : Value} {o s : Bun} (ht : w.tasks[n]? = some t) (hp : t.pc ≠ 0) (e : oneW w { t with steps := t.steps + 1 } = (w', y.d)) (hr : r = .bool (y.d.pc == 0))
  (ho : o = y.all ++ (th' ++ u')) (hH : H { w' with tasks := w.tasks.set n y.d } (th' ++ (allH (xs.set n y) ++ (u' ++ s)))) : ∃ y th' u', o.Perm (y.all ++ (th' ++ u')) ∧ stepQ H w n r (th' ++ (allH (xs.set n y) ++ (u' ++ s))) :=
 ⟨y, th', u', List.Perm.of_eq ho, stepQ_of ht hp e hr hH⟩
theorem all_on (y : TaskH) {k : Nat} (hp : y.d.pc ≠ 0) (hs : k < 4611686018427387904) (he : y.d.steps = k + 1) : y.all = tkU y.tk y.nx (stp (k : Int)) :: y.bl := by
 unfold TaskH.all
 rw [TaskH.cell_on hp, stp_nat hs, he]
theorem all_end (y : TaskH) {k : Nat} (hp : y.d.pc = 0) (hs : k < 4611686018427387904) (he : y.d.steps = k + 1) : y.all = tkB y.tk y.nx 1 (stp (k : Int)) y.d.out y.d.ok y.vw :: y.bl := by
 unfold TaskH.all
 rw [TaskH.cell_end hp, stp_nat hs, he]
theorem one_stack {w : WorldD} {t : TaskD} (h : t.kind = 1 ∨ t.kind = 2) : oneW w t = stackW w t := by unfold oneW; rw [if_pos h]
theorem HeapSx.set {w : WorldD} {st : Nat} {tks : List Nat} {b : Bun} {xs : List TaskH} {nd : List Nat} (h : HeapSx w st tks b xs nd) {n : Nat} {x y : TaskH} (hx : xs[n]? = some x) (ht : y.tk = x.tk) (hy : TS st nd y) {k : Nat} (hk : k ≤ nd.length) {o : Bun}
  (ho : o.Perm ([bx st tSt (pvN nd k)] ++ (allH (xs.set n y) ++ ([] ++ nodesS nd w.value w.below)))) : HeapS { w with top := k, tasks := w.tasks.set n y.d } st tks o :=
 ⟨xs.set n y, nd, h.thing, set_d h.d n y, by rw [set_tk hx ht]; exact h.tk, all_set h.ok hy, h.vlen, h.blen, h.bel, hk, ho⟩
theorem step_stack {w : WorldD} {st : Nat} {tks : List Nat} {b : Bun} (hH : HeapS w st tks b) {n : Nat} {t : TaskD} {tk : Nat} (ht : w.tasks[n]? = some t) (hp : t.pc ≠ 0) (hs : t.steps < 4611686018427387904) (htk : tks[n]? = some tk) :
  DoesB Tryd.prog fStep #[ptr tk] [] b (stepQ (fun w' o => HeapS w' st tks o) w n) := by
 refine does_nodup fun hnd => ?_
 obtain ⟨xs, nd, h⟩ := hH
 have hnd := h.nodup hnd
 obtain ⟨x, hx, rfl⟩ := at_d h.d ht
 have hok := h.ok x (List.mem_of_getElem? hx)
 have htk' : x.tk = tk := by
  have := h.tk
  subst this
  rw [List.getElem?_map, hx] at htk
  injection htk
 subst htk'
 have hcell := TaskH.cell_on hp
 refine step_glueS (Q := fun v o => ∃ y th' u', o.Perm (y.all ++ (th' ++ u')) ∧ stepQ (fun w' o => HeapS w' st tks o) w n v (th' ++ (allH (xs.set n y) ++ (u' ++ nodesS nd w.value w.below)))) hx h.perm ?_ fun _ _ hq => hq
 have mono : ∀ {args use} {Q Q' : Value → Bun → Prop}, DoesS (nodesS nd w.value w.below) fStep args use Q → (∀ v o, Q v o → Q' v o) → DoesS (nodesS nd w.value w.below) fStep args use Q' := fun ⟨rd, hr, hd⟩ hq => ⟨rd, hr, does_mono hd hq⟩
 unfold TaskH.all
 rw [hcell]
 cases hok with
 | push1 d tk vw sb lb tb vb hk hv hpc =>
   dsimp only at ht hp hs hx ⊢
   refine mono (push1_does (nodes_is h.top) tk sb lb tb vb st d.steps d.v) ?_
   rintro r o ⟨rfl, pb, rfl⟩
   obtain ⟨y, hy⟩ : ∃ y : TaskH, y = ⟨{ d with steps := d.steps + 1, a := w.top, pc := 2 }, tk, cPush2 lb tb sb pb vb, vw, [bx sb tSP (ptr st), bx lb tFn (cPush sb lb tb vb), bx tb tTP (ptr tk), bx vb tU (.int .u64 d.v), bx pb tNP (pvN nd w.top)]⟩ := ⟨_, rfl⟩
   refine fin y [bx st tSt (pvN nd w.top)] [] ht hp (w' := w) ?_ (by subst hy; rfl) ?_ (h.set hx (by subst hy; rfl) (by subst hy; exact .push2 _ tk vw sb lb tb vb pb hk hv rfl h.top) h.top (List.Perm.refl _))
   ·subst hy
    refine (one_stack (w := w) (t := { d with steps := d.steps + 1 }) (.inl hk)).trans ?_
    unfold stackW
    rw [if_pos hpc, if_neg (by rw [hk]; simp)]
   ·subst hy
    rw [all_on _ (by show (2 : Nat) ≠ 0; decide) hs rfl]
    rfl
 | push2 d tk vw sb lb tb vb pb hk hv hpc ha =>
   dsimp only at ht hp hs hx ⊢
   refine mono (push2_does (nodes_is h.top) (nodes_is ha) tk sb lb tb vb st pb d.steps d.v) ?_
   rintro r o (⟨e, rfl, nn, rfl⟩ | ⟨e, rfl, rfl⟩)
   ·have e := pvN_inj hnd h.top ha e
    obtain ⟨y, hy⟩ : ∃ y : TaskH, y = ⟨{ d with steps := d.steps + 1, pc := 0, out := d.v, ok := true }, tk, cPush sb lb tb vb, nil0, []⟩ := ⟨_, rfl⟩
    refine fin y [bx st tSt (ptr nn)] [ndB nn d.v (pvN nd d.a)] ht hp (w' := { w.node d.v d.a with top := w.value.length }) ?_ (by subst hy; rfl) ?_ ?_
    ·subst hy
     refine (one_stack (w := w) (t := { d with steps := d.steps + 1 }) (.inl hk)).trans ?_
     unfold stackW
     rw [if_neg (by show ¬ d.pc = 1; rw [hpc]; decide), if_neg (by show ¬ w.top ≠ d.a; omega), if_pos hk]
     rfl
    ·subst hy
     rw [all_end _ rfl hs rfl]
     rfl
    ·have hl : (nd ++ [nn]).length = nd.length + 1 := by simp
     refine ⟨xs.set n y, nd ++ [nn], h.thing, set_d h.d n y, by rw [set_tk hx (by subst hy; rfl)]; exact h.tk, all_set (fun x hx => (h.ok x hx).app nn) (by subst hy; exact .done _ _ _ (.inl hk) hv rfl), by show (w.value ++ [d.v]).length = _; rw [List.length_append, hl, h.vlen]; rfl, by show (w.below ++ [d.a]).length = _; rw [List.length_append, hl, h.blen]; rfl, fun i => ?_, by show w.value.length ≤ _; rw [hl, h.vlen]; exact Nat.le_refl _, ?_⟩
     ·rw [hl]
      show (w.below ++ [d.a]).getD i 0 ≤ _
      rw [List.getD_eq_getElem?_getD, List.getElem?_append]
      split
      ·rw [← List.getD_eq_getElem?_getD]
       have := h.bel i
       omega
      ·cases hi : i - w.below.length with
       | zero => simp; omega
       | succ m => simp
     ·show List.Perm _ ([bx st tSt (pvN (nd ++ [nn]) w.value.length)] ++ (allH _ ++ ([] ++ nodesS (nd ++ [nn]) (w.value ++ [d.v]) (w.below ++ [d.a]))))
      rw [nodes_app h.vlen h.blen h.bel nn d.v ha, h.vlen, pvN_new]
      exact List.Perm.append_left _ (List.Perm.append_left _ List.perm_append_comm)
   ·have e : w.top ≠ d.a := fun he => e (by rw [he])
    obtain ⟨y, hy⟩ : ∃ y : TaskH, y = ⟨{ d with steps := d.steps + 1, pc := 1 }, tk, cPush sb lb tb vb, vw, [bx sb tSP (ptr st), bx lb tFn (cPush sb lb tb vb), bx tb tTP (ptr tk), bx vb tU (.int .u64 d.v)]⟩ := ⟨_, rfl⟩
    refine fin y [bx st tSt (pvN nd w.top)] [] ht hp (w' := w) ?_ (by subst hy; rfl) ?_ (h.set hx (by subst hy; rfl) (by subst hy; exact .push1 _ tk vw sb lb tb vb hk hv rfl) h.top (List.Perm.refl _))
    ·subst hy
     refine (one_stack (w := w) (t := { d with steps := d.steps + 1 }) (.inl hk)).trans ?_
     unfold stackW
     rw [if_neg (by show ¬ d.pc = 1; rw [hpc]; decide), if_pos e]
    ·subst hy
     rw [all_on _ (by show (1 : Nat) ≠ 0; decide) hs rfl]
     rfl
 | pop1 d tk vw sb lb tb hk hv hpc =>
   dsimp only at ht hp hs hx ⊢
   refine mono (pop1_does (nodes_is h.top) tk sb lb tb st d.steps) ?_
   rintro r o (⟨e, rfl, rfl⟩ | ⟨e, rfl, pb, rfl⟩)
   ·have e : w.top = 0 := by
     unfold pvN at e
     split at e
     ·assumption
     ·cases e
    obtain ⟨y, hy⟩ : ∃ y : TaskH, y = ⟨{ d with steps := d.steps + 1, a := w.top, pc := 0, out := 0, ok := false }, tk, cPop sb tb lb, nil0, []⟩ := ⟨_, rfl⟩
    refine fin y [bx st tSt (pvN nd w.top)] [] ht hp (w' := w) ?_ (by subst hy; rfl) ?_ (h.set hx (by subst hy; rfl) (by subst hy; exact .done _ tk _ (.inr hk) hv rfl) h.top (List.Perm.refl _))
    ·subst hy
     refine (one_stack (w := w) (t := { d with steps := d.steps + 1 }) (.inr hk)).trans ?_
     unfold stackW
     rw [if_pos hpc, if_pos ⟨hk, e⟩]
     rfl
    ·subst hy
     rw [all_end _ rfl hs rfl]
     rfl
   ·have e : w.top ≠ 0 := fun he => e (by unfold pvN; rw [if_pos he])
    obtain ⟨y, hy⟩ : ∃ y : TaskH, y = ⟨{ d with steps := d.steps + 1, a := w.top, pc := 2 }, tk, cPop2 lb tb sb pb, vw, [bx sb tSP (ptr st), bx lb tFn (cPop sb tb lb), bx tb tTP (ptr tk), bx pb tNP (pvN nd w.top)]⟩ := ⟨_, rfl⟩
    refine fin y [bx st tSt (pvN nd w.top)] [] ht hp (w' := w) ?_ (by subst hy; rfl) ?_ (h.set hx (by subst hy; rfl) (by subst hy; exact .pop2 _ tk vw sb lb tb pb hk hv rfl e h.top) h.top (List.Perm.refl _))
    ·subst hy
     refine (one_stack (w := w) (t := { d with steps := d.steps + 1 }) (.inr hk)).trans ?_
     unfold stackW
     rw [if_pos hpc, if_neg (fun hc => e hc.2)]
    ·subst hy
     rw [all_on _ (by show (2 : Nat) ≠ 0; decide) hs rfl]
     rfl
 | pop2 d tk vw sb lb tb pb hk hv hpc h0 ha =>
   dsimp only at ht hp hs hx ⊢
   have hq := nodes_at (value := w.value) (below := w.below) h0 ha
   have hpv : pvN nd d.a = ptr (nd.getD (d.a - 1) 0) := by unfold pvN; rw [if_neg h0]
   have hdo := pop2_does (nodes_is (value := w.value) (below := w.below) h.top) hq (nodes_is (h.bel d.a)) tk sb lb tb st pb d.steps
   rw [← hpv] at hdo
   refine mono hdo ?_
   rintro r o (⟨e, rfl, rfl⟩ | ⟨e, rfl, rfl⟩)
   ·rw [← hpv] at e
    have e := pvN_inj hnd h.top ha e
    obtain ⟨y, hy⟩ : ∃ y : TaskH, y = ⟨{ d with steps := d.steps + 1, pc := 0, out := w.value.getD d.a 0, ok := true }, tk, cPop sb tb lb, nil0, []⟩ := ⟨_, rfl⟩
    refine fin y [bx st tSt (pvN nd (w.below.getD d.a 0))] [] ht hp (w' := { w with top := w.below.getD d.a 0 }) ?_ (by subst hy; rfl) ?_ (h.set hx (by subst hy; rfl) (by subst hy; exact .done _ tk _ (.inr hk) hv rfl) (h.bel _) (List.Perm.refl _))
    ·subst hy
     refine (one_stack (w := w) (t := { d with steps := d.steps + 1 }) (.inr hk)).trans ?_
     unfold stackW
     rw [if_neg (by show ¬ d.pc = 1; rw [hpc]; decide), if_neg (by show ¬ w.top ≠ d.a; omega), if_neg (by show ¬ d.kind = 1; rw [hk]; decide)]
     rfl
    ·subst hy
     rw [all_end _ rfl hs rfl]
     rfl
   ·have e : w.top ≠ d.a := fun he => e (by rw [← hpv, he])
    obtain ⟨y, hy⟩ : ∃ y : TaskH, y = ⟨{ d with steps := d.steps + 1, pc := 1 }, tk, cPop sb tb lb, vw, [bx sb tSP (ptr st), bx lb tFn (cPop sb tb lb), bx tb tTP (ptr tk)]⟩ := ⟨_, rfl⟩
    refine fin y [bx st tSt (pvN nd w.top)] [] ht hp (w' := w) ?_ (by subst hy; rfl) ?_ (h.set hx (by subst hy; rfl) (by subst hy; exact .pop1 _ tk vw sb lb tb hk hv rfl) h.top (List.Perm.refl _))
    ·subst hy
     refine (one_stack (w := w) (t := { d with steps := d.steps + 1 }) (.inr hk)).trans ?_
     unfold stackW
     rw [if_neg (by show ¬ d.pc = 1; rw [hpc]; decide), if_pos e]
    ·subst hy
     rw [all_on _ (by show (1 : Nat) ≠ 0; decide) hs rfl]
     rfl
 | done d tk nx hk hv hpc => exact absurd hpc hp
end Go.Proofs.YtjohknpmhlildaaDoor.At
--@way 3
--@tail 0
namespace Go.Proofs.YtjohknpmhlildaaDoor.At
open Sy.O (fork nil step steps)
open Sy.Res (need hyp br leaf both)
open Go Go.RowKit
open Go.Proofs.YtjohknpmhlildaaDoor.Sy (Let Blk ptr bx tkB tkU clo)
abbrev tQP : TypeId := 26
abbrev tQu : TypeId := 121
abbrev tLP : TypeId := 116
abbrev tLk : TypeId := 123
abbrev lkB (n : Nat) (v : Int) (next : Value) : Nat × Sy.Cont := (n, .obj (.cells #[.int .u64 v, next] tLk (0, 0)))
abbrev quB (n : Nat) (first last : Value) : Nat × Sy.Cont := (n, .obj (.cells #[first, last] tQu (0, 0)))
abbrev cPut (qb lb tb ob vb : Nat) : Value := clo 59 #[ptr qb, ptr lb, ptr tb, ptr ob, ptr vb]
abbrev cPut2 (ll qb lb tb ob vb : Nat) : Value := clo 61 #[ptr ll, ptr qb, ptr lb, ptr tb, ptr ob, ptr vb]
abbrev cPut5 (qb ll nb lb tb : Nat) : Value := clo 62 #[ptr qb, ptr ll, ptr nb, ptr lb, ptr tb]
abbrev cPut3 (ll ob lb tb qb vb : Nat) : Value := clo 64 #[ptr ll, ptr ob, ptr lb, ptr tb, ptr qb, ptr vb]
abbrev cPut4 (qb ll ob tb vb : Nat) : Value := clo 65 #[ptr qb, ptr ll, ptr ob, ptr tb, ptr vb]
def put1_o : Sy.O := (steps [1, 0, 0, 1, 0, 1, 0, 0, 0, 1, 0, 0, 2, 0, 8, 0, 0, 0, 0, 0, 0, 5, 0, 2, 0, 0, 2] nil)
noncomputable def put1_R (tk qb lb tb ob vb own st f : Nat) (steps v : Int) (p : Nat) (vp : Int) (up : Value) (ns : Nat → Sy.Let) : Sy.Res (Value × List Blk) :=
 let z0 := some (Addr.mk p 0 none)
 let z1 := some (Addr.mk qb 0 none)
 let z2 := some (Addr.mk lb 0 none)
 let z3 := some (Addr.mk tb 0 none)
 let z4 := some (Addr.mk ob 0 none)
 let z5 := some (Addr.mk vb 0 none)
 leaf (Value.bool false, [Blk.mk (ns 0).n (.obj (.cells (Array.mk [.pointer z0]) 116)) true, Blk.mk p (.obj (.cells (Array.mk [.int .u64 vp, up]) 123)) false, Blk.mk tk (.obj (.cells (Array.mk [Value.func (Fn.func 61) (Array.mk []) (Array.mk [.pointer (some ⟨(ns 0).n, 0, none⟩), .pointer z1, .pointer z2, .pointer z3, .pointer z4, .pointer z5]), .int .u32 0, .int .i64 (Ex.wrapQ .i64 (Ex.addQ steps 1)), .int .u64 0, .bool false, .slice none 0 0]) 100)) true, Blk.mk qb (.obj (.cells (Array.mk [.pointer (some ⟨st, 0, none⟩)]) 26)) true, Blk.mk lb (.obj (.cells (Array.mk [Value.func (Fn.func 59) (Array.mk []) (Array.mk [.pointer z1, .pointer z2, .pointer z3, .pointer z4, .pointer z5])]) 1)) true, Blk.mk tb (.obj (.cells (Array.mk [.pointer (some ⟨tk, 0, none⟩)]) 48)) true, Blk.mk ob (.obj (.cells (Array.mk [.pointer (some ⟨own, 0, none⟩)]) 116)) true, Blk.mk vb (.obj (.cells (Array.mk [.int .u64 v]) 36)) true, Blk.mk own (.obj (.cells (Array.mk [.int .u64 v, .pointer none]) 123)) true, Blk.mk st (.obj (.cells (Array.mk [.pointer (some ⟨f, 0, none⟩), .pointer z0]) 121)) true])
theorem put1_run (tk qb lb tb ob vb own st f : Nat) (steps v : Int) (p : Nat) (vp : Int) (up : Value) : Sy.Ran (Sy.inB Tryd.prog Sy.S0 50 fStep #[ptr tk] (Sy.rdsOf [lkB p vp up] ++ [tkU tk (cPut qb lb tb ob vb) steps, bx qb tQP (ptr st), bx lb tFn (cPut qb lb tb ob vb), bx tb tTP (ptr tk), bx ob tLP (ptr own), bx vb tU (.int .u64 v), lkB own v Sy.ptr0, quB st (ptr f) (ptr p)].map Sy.ownOf)) put1_o (put1_R tk qb lb tb ob vb own st f steps v p vp up) := ⟨fun _ => by kernel_rfl, fun _ => by kernel_rfl⟩
def put2n_o : Sy.O := (steps [1, 0, 0, 1, 0, 1, 0, 0, 0, 1, 0, 0, 7, 0, 0, 0, 0, 0, 0, 0, 0, 0, 0, 5, 0, 2, 0, 0, 2] nil)
noncomputable def put2n_R (tk qb lb tb ob vb own st ll p f : Nat) (steps v a : Int) (e : Value) (ns : Nat → Sy.Let) : Sy.Res (Value × List Blk) :=
 let z0 := some (Addr.mk ob 0 none)
 let z1 := some (Addr.mk lb 0 none)
 let z2 := some (Addr.mk tb 0 none)
 let z3 := some (Addr.mk qb 0 none)
 let z4 := some (Addr.mk vb 0 none)
 leaf (Value.bool false, [Blk.mk (ns 0).n (.obj (.cells (Array.mk [.pointer none]) 116)) true, Blk.mk p (.obj (.cells (Array.mk [.int .u64 a, .pointer none]) 123)) false, Blk.mk tk (.obj (.cells (Array.mk [Value.func (Fn.func 64) (Array.mk []) (Array.mk [.pointer (some ⟨ll, 0, none⟩), .pointer z0, .pointer z1, .pointer z2, .pointer z3, .pointer z4]), .int .u32 0, .int .i64 (Ex.wrapQ .i64 (Ex.addQ steps 1)), .int .u64 0, .bool false, .slice none 0 0]) 100)) true, Blk.mk qb (.obj (.cells (Array.mk [.pointer (some ⟨st, 0, none⟩)]) 26)) true, Blk.mk lb (.obj (.cells (Array.mk [Value.func (Fn.func 59) (Array.mk []) (Array.mk [.pointer z3, .pointer z1, .pointer z2, .pointer z0, .pointer z4])]) 1)) true, Blk.mk tb (.obj (.cells (Array.mk [.pointer (some ⟨tk, 0, none⟩)]) 48)) true, Blk.mk ob (.obj (.cells (Array.mk [.pointer (some ⟨own, 0, none⟩)]) 116)) true, Blk.mk vb (.obj (.cells (Array.mk [.int .u64 v]) 36)) true, Blk.mk ll (.obj (.cells (Array.mk [.pointer (some ⟨p, 0, none⟩)]) 116)) true, Blk.mk own (.obj (.cells (Array.mk [.int .u64 v, .pointer none]) 123)) true, Blk.mk st (.obj (.cells (Array.mk [.pointer (some ⟨f, 0, none⟩), e]) 121)) true])
theorem put2n_run (tk qb lb tb ob vb own st ll p f : Nat) (steps v a : Int) (e : Value) : Sy.Ran (Sy.inB Tryd.prog Sy.S0 50 fStep #[ptr tk] (Sy.rdsOf [lkB p a Sy.ptr0] ++ ([tkU tk (cPut2 ll qb lb tb ob vb) steps, bx qb tQP (ptr st), bx lb tFn (cPut qb lb tb ob vb), bx tb tTP (ptr tk), bx ob tLP (ptr own), bx vb tU (.int .u64 v), bx ll tLP (ptr p), lkB own v Sy.ptr0, quB st (ptr f) e].map Sy.ownOf))) put2n_o (put2n_R tk qb lb tb ob vb own st ll p f steps v a e) := ⟨fun _ => by kernel_rfl, fun _ => by kernel_rfl⟩
def put2s_o : Sy.O := (steps [2, 0, 0, 2, 0, 2, 0, 0, 0, 2, 0, 0, 8, 0, 0, 1, 1, 0, 0, 0, 0, 0, 0, 0, 0, 6, 0, 3, 0, 0, 3] nil)
noncomputable def put2s_R (tk qb lb tb ob vb own st ll p f : Nat) (steps v a : Int) (e : Value) (q : Nat) (vq : Int) (uq : Value) (ns : Nat → Sy.Let) : Sy.Res (Value × List Blk) :=
 let z0 := some (Addr.mk q 0 none)
 let z1 := some (Addr.mk qb 0 none)
 let z2 := some (Addr.mk lb 0 none)
 let z3 := some (Addr.mk tb 0 none)
 leaf (Value.bool false, [Blk.mk (ns 0).n (.obj (.cells (Array.mk [.pointer z0]) 116)) true, Blk.mk p (.obj (.cells (Array.mk [.int .u64 a, .pointer z0]) 123)) false, Blk.mk q (.obj (.cells (Array.mk [.int .u64 vq, uq]) 123)) false, Blk.mk tk (.obj (.cells (Array.mk [Value.func (Fn.func 62) (Array.mk []) (Array.mk [.pointer z1, .pointer (some ⟨ll, 0, none⟩), .pointer (some ⟨(ns 0).n, 0, none⟩), .pointer z2, .pointer z3]), .int .u32 0, .int .i64 (Ex.wrapQ .i64 (Ex.addQ steps 1)), .int .u64 0, .bool false, .slice none 0 0]) 100)) true, Blk.mk qb (.obj (.cells (Array.mk [.pointer (some ⟨st, 0, none⟩)]) 26)) true, Blk.mk lb (.obj (.cells (Array.mk [Value.func (Fn.func 59) (Array.mk []) (Array.mk [.pointer z1, .pointer z2, .pointer z3, .pointer (some ⟨ob, 0, none⟩), .pointer (some ⟨vb, 0, none⟩)])]) 1)) true, Blk.mk tb (.obj (.cells (Array.mk [.pointer (some ⟨tk, 0, none⟩)]) 48)) true, Blk.mk ob (.obj (.cells (Array.mk [.pointer (some ⟨own, 0, none⟩)]) 116)) true, Blk.mk vb (.obj (.cells (Array.mk [.int .u64 v]) 36)) true, Blk.mk ll (.obj (.cells (Array.mk [.pointer (some ⟨p, 0, none⟩)]) 116)) true, Blk.mk own (.obj (.cells (Array.mk [.int .u64 v, .pointer none]) 123)) true, Blk.mk st (.obj (.cells (Array.mk [.pointer (some ⟨f, 0, none⟩), e]) 121)) true])
theorem put2s_run (tk qb lb tb ob vb own st ll p f : Nat) (steps v a : Int) (e : Value) (q : Nat) (vq : Int) (uq : Value) : Sy.Ran (Sy.inB Tryd.prog Sy.S0 50 fStep #[ptr tk] (Sy.rdsOf [lkB p a (ptr q)] ++ (Sy.rdsOf [lkB q vq uq] ++ [tkU tk (cPut2 ll qb lb tb ob vb) steps, bx qb tQP (ptr st), bx lb tFn (cPut qb lb tb ob vb), bx tb tTP (ptr tk), bx ob tLP (ptr own), bx vb tU (.int .u64 v), bx ll tLP (ptr p), lkB own v Sy.ptr0, quB st (ptr f) e].map Sy.ownOf))) put2s_o (put2s_R tk qb lb tb ob vb own st ll p f steps v a e q vq uq) := ⟨fun _ => by kernel_rfl, fun _ => by kernel_rfl⟩
def put3s_o : Sy.O := (steps [2, 0, 0, 2, 0, 2, 0, 0, 0, 2, 0, 3, 0, 0, 8, 0, 1, 2, 3, 0, 6, 0, 8, 9, 9, 0, 0, 1, 0, 0, 1, 2, 3, 4, 5, 6, 7, 8, 9, 10, 5, 0, 0, 5, 0, 0, 4, 0, 2, 0, 0, 2] nil)
noncomputable def put3s_R (tk qb lb tb ob vb own st ll p f : Nat) (steps v a : Int) (e : Value) (q : Nat) (vq : Int) (uq : Value) (ns : Nat → Sy.Let) : Sy.Res (Value × List Blk) :=
 let z0 := Fn.func 59
 let z1 := Array.mk [Value.pointer (some ⟨qb, 0, none⟩), Value.pointer (some ⟨lb, 0, none⟩), Value.pointer (some ⟨tb, 0, none⟩), Value.pointer (some ⟨ob, 0, none⟩), Value.pointer (some ⟨vb, 0, none⟩)]
 leaf (Value.bool false, [Blk.mk p (.obj (.cells (Array.mk [.int .u64 a, .pointer (some ⟨q, 0, none⟩)]) 123)) false, Blk.mk q (.obj (.cells (Array.mk [.int .u64 vq, uq]) 123)) false, Blk.mk tk (.obj (.cells (Array.mk [Value.func z0 (Array.mk []) z1, .int .u32 0, .int .i64 (Ex.wrapQ .i64 (Ex.addQ steps 1)), .int .u64 0, .bool false, .slice none 0 0]) 100)) true, Blk.mk qb (.obj (.cells (Array.mk [.pointer (some ⟨st, 0, none⟩)]) 26)) true, Blk.mk lb (.obj (.cells (Array.mk [Value.func z0 (Array.mk []) z1]) 1)) true, Blk.mk tb (.obj (.cells (Array.mk [.pointer (some ⟨tk, 0, none⟩)]) 48)) true, Blk.mk ob (.obj (.cells (Array.mk [.pointer (some ⟨own, 0, none⟩)]) 116)) true, Blk.mk vb (.obj (.cells (Array.mk [.int .u64 v]) 36)) true, Blk.mk ll (.obj (.cells (Array.mk [.pointer (some ⟨p, 0, none⟩)]) 116)) true, Blk.mk own (.obj (.cells (Array.mk [.int .u64 v, .pointer none]) 123)) true, Blk.mk st (.obj (.cells (Array.mk [.pointer (some ⟨f, 0, none⟩), e]) 121)) true])
theorem put3s_run (tk qb lb tb ob vb own st ll p f : Nat) (steps v a : Int) (e : Value) (q : Nat) (vq : Int) (uq : Value) : Sy.Ran (Sy.inB Tryd.prog Sy.S0 50 fStep #[ptr tk] (Sy.rdsOf [lkB p a (ptr q), lkB q vq uq] ++ [tkU tk (cPut3 ll ob lb tb qb vb) steps, bx qb tQP (ptr st), bx lb tFn (cPut qb lb tb ob vb), bx tb tTP (ptr tk), bx ob tLP (ptr own), bx vb tU (.int .u64 v), bx ll tLP (ptr p), lkB own v Sy.ptr0, quB st (ptr f) e].map Sy.ownOf)) put3s_o (put3s_R tk qb lb tb ob vb own st ll p f steps v a e q vq uq) := ⟨fun _ => by kernel_rfl, fun _ => by kernel_rfl⟩
def put4_o : Sy.O := (steps [3, 0, 0, 3, 0, 3, 0, 0, 0, 3, 0, 3, 0, 0, 4, 0, 1, 2, 3, 0, 8, 0, 4, 0, 6, 0, 8, 1, 1, 2, 2, 9, 1, 0, 1] (fork (steps [0, 0, 5, 0, 0, 7, 0, 3, 0, 0, 3, 0, 0, 3, 0, 1, 2, 3, 8, 0, 3, 0, 0, 3] nil) (steps [0, 5, 0, 0, 7, 0, 3, 0, 0, 3, 0, 0, 3, 0, 1, 2, 3, 8, 0, 3, 0, 0, 3] nil)))
noncomputable def put4_R (tk qb lb tb ob vb own st ll f : Nat) (steps v : Int) (m : Nat) (vm : Int) (um : Value) (p : Nat) (vp : Int) (up : Value) (o : Nat) (vo : Int) (uo : Value) (ns : Nat → Sy.Let) : Sy.Res (Value × List Blk) :=
 let z0 := Sy.Cont.obj (Obj.cells (Array.mk [.int .u64 vm, um]) 123)
 let z1 := Sy.Cont.obj (Obj.cells (Array.mk [.int .u64 vp, up]) 123)
 let z2 := Sy.Cont.obj (Obj.cells (Array.mk [.int .u64 vo, uo]) 123)
 let z3 := Sy.Cont.obj (Obj.cells (Array.mk [Value.func (Fn.func 65) (Array.mk []) (Array.mk [.pointer (some ⟨qb, 0, none⟩), .pointer (some ⟨ll, 0, none⟩), .pointer (some ⟨ob, 0, none⟩), .pointer (some ⟨tb, 0, none⟩), .pointer (some ⟨vb, 0, none⟩)]), .int .u32 1, .int .i64 (Ex.wrapQ .i64 (Ex.addQ steps 1)), .int .u64 v, .bool true, .slice none 0 0]) 100)
 let z4 := Sy.Cont.obj (Obj.cells (Array.mk [.pointer (some ⟨st, 0, none⟩)]) 26)
 let z5 := Sy.Cont.obj (Obj.cells (Array.mk [.pointer (some ⟨tk, 0, none⟩)]) 48)
 let z6 := some (Addr.mk o 0 none)
 let z7 := Sy.Cont.obj (Obj.cells (Array.mk [.pointer z6]) 116)
 let z8 := Sy.Cont.obj (Obj.cells (Array.mk [.int .u64 v]) 36)
 let z9 := Sy.Cont.obj (Obj.cells (Array.mk [.pointer (some ⟨p, 0, none⟩)]) 116)
 let z10 := some (Addr.mk f 0 none)
 br (Nat.beq m p && true) (leaf (Value.bool true, [Blk.mk m z0 false, Blk.mk p z1 false, Blk.mk o z2 false, Blk.mk tk z3 true, Blk.mk qb z4 true, Blk.mk tb z5 true, Blk.mk ob z7 true, Blk.mk vb z8 true, Blk.mk ll z9 true, Blk.mk st (.obj (.cells (Array.mk [.pointer z10, .pointer z6]) 121)) true])) (leaf (Value.bool true, [Blk.mk m z0 false, Blk.mk p z1 false, Blk.mk o z2 false, Blk.mk tk z3 true, Blk.mk qb z4 true, Blk.mk tb z5 true, Blk.mk ob z7 true, Blk.mk vb z8 true, Blk.mk ll z9 true, Blk.mk st (.obj (.cells (Array.mk [.pointer z10, .pointer (some ⟨m, 0, none⟩)]) 121)) true]))
theorem put4_run (tk qb lb tb ob vb own st ll f : Nat) (steps v : Int) (m : Nat) (vm : Int) (um : Value) (p : Nat) (vp : Int) (up : Value) (o : Nat) (vo : Int) (uo : Value) : Sy.Ran (Sy.inB Tryd.prog Sy.S0 50 fStep #[ptr tk] (Sy.rdsOf [lkB m vm um, lkB p vp up, lkB o vo uo] ++ [tkU tk (cPut4 qb ll ob tb vb) steps, bx qb tQP (ptr st), bx tb tTP (ptr tk), bx ob tLP (ptr o), bx vb tU (.int .u64 v), bx ll tLP (ptr p), quB st (ptr f) (ptr m)].map Sy.ownOf)) put4_o (put4_R tk qb lb tb ob vb own st ll f steps v m vm um p vp up o vo uo) := ⟨fun _ => by kernel_rfl, fun _ => by kernel_rfl⟩
def put5_o : Sy.O := (steps [3, 0, 0, 3, 0, 3, 0, 0, 0, 3, 0, 3, 0, 0, 4, 0, 1, 2, 3, 0, 9, 0, 4, 0, 10, 0, 8, 1, 1, 2, 2, 12, 1, 0, 1] (fork (steps [0, 0, 6, 0, 0, 5, 0, 3, 0, 0, 3] nil) (steps [0, 6, 0, 0, 5, 0, 3, 0, 0, 3] nil)))
noncomputable def put5_R (tk qb lb tb ob vb own st ll nb f : Nat) (steps v : Int) (m : Nat) (vm : Int) (um : Value) (p : Nat) (vp : Int) (up : Value) (o : Nat) (vo : Int) (uo : Value) (ns : Nat → Sy.Let) : Sy.Res (Value × List Blk) :=
 let z0 := Sy.Cont.obj (Obj.cells (Array.mk [.int .u64 vm, um]) 123)
 let z1 := Sy.Cont.obj (Obj.cells (Array.mk [.int .u64 vp, up]) 123)
 let z2 := Sy.Cont.obj (Obj.cells (Array.mk [.int .u64 vo, uo]) 123)
 let z3 := Fn.func 59
 let z4 := Array.mk [Value.pointer (some ⟨qb, 0, none⟩), Value.pointer (some ⟨lb, 0, none⟩), Value.pointer (some ⟨tb, 0, none⟩), Value.pointer (some ⟨ob, 0, none⟩), Value.pointer (some ⟨vb, 0, none⟩)]
 let z5 := Sy.Cont.obj (Obj.cells (Array.mk [Value.func z3 (Array.mk []) z4, .int .u32 0, .int .i64 (Ex.wrapQ .i64 (Ex.addQ steps 1)), .int .u64 0, .bool false, .slice none 0 0]) 100)
 let z6 := Sy.Cont.obj (Obj.cells (Array.mk [.pointer (some ⟨st, 0, none⟩)]) 26)
 let z7 := Sy.Cont.obj (Obj.cells (Array.mk [Value.func z3 (Array.mk []) z4]) 1)
 let z8 := Sy.Cont.obj (Obj.cells (Array.mk [.pointer (some ⟨tk, 0, none⟩)]) 48)
 let z9 := Sy.Cont.obj (Obj.cells (Array.mk [.pointer (some ⟨own, 0, none⟩)]) 116)
 let z10 := Sy.Cont.obj (Obj.cells (Array.mk [.int .u64 v]) 36)
 let z11 := Sy.Cont.obj (Obj.cells (Array.mk [.pointer (some ⟨p, 0, none⟩)]) 116)
 let z12 := some (Addr.mk o 0 none)
 let z13 := Sy.Cont.obj (Obj.cells (Array.mk [.pointer z12]) 116)
 let z14 := Sy.Cont.obj (Obj.cells (Array.mk [.int .u64 v, .pointer none]) 123)
 let z15 := some (Addr.mk f 0 none)
 br (Nat.beq m p && true) (leaf (Value.bool false, [Blk.mk m z0 false, Blk.mk p z1 false, Blk.mk o z2 false, Blk.mk tk z5 true, Blk.mk qb z6 true, Blk.mk lb z7 true, Blk.mk tb z8 true, Blk.mk ob z9 true, Blk.mk vb z10 true, Blk.mk ll z11 true, Blk.mk nb z13 true, Blk.mk own z14 true, Blk.mk st (.obj (.cells (Array.mk [.pointer z15, .pointer z12]) 121)) true])) (leaf (Value.bool false, [Blk.mk m z0 false, Blk.mk p z1 false, Blk.mk o z2 false, Blk.mk tk z5 true, Blk.mk qb z6 true, Blk.mk lb z7 true, Blk.mk tb z8 true, Blk.mk ob z9 true, Blk.mk vb z10 true, Blk.mk ll z11 true, Blk.mk nb z13 true, Blk.mk own z14 true, Blk.mk st (.obj (.cells (Array.mk [.pointer z15, .pointer (some ⟨m, 0, none⟩)]) 121)) true]))
theorem put5_run (tk qb lb tb ob vb own st ll nb f : Nat) (steps v : Int) (m : Nat) (vm : Int) (um : Value) (p : Nat) (vp : Int) (up : Value) (o : Nat) (vo : Int) (uo : Value) : Sy.Ran (Sy.inB Tryd.prog Sy.S0 50 fStep #[ptr tk] (Sy.rdsOf [lkB m vm um, lkB p vp up, lkB o vo uo] ++ [tkU tk (cPut5 qb ll nb lb tb) steps, bx qb tQP (ptr st), bx lb tFn (cPut qb lb tb ob vb), bx tb tTP (ptr tk), bx ob tLP (ptr own), bx vb tU (.int .u64 v), bx ll tLP (ptr p), bx nb tLP (ptr o), lkB own v Sy.ptr0, quB st (ptr f) (ptr m)].map Sy.ownOf)) put5_o (put5_R tk qb lb tb ob vb own st ll nb f steps v m vm um p vp up o vo uo) := ⟨fun _ => by kernel_rfl, fun _ => by kernel_rfl⟩
end Go.Proofs.YtjohknpmhlildaaDoor.At
end
