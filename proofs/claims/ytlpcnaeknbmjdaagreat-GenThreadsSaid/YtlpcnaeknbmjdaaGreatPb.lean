/-
  Symbolic runs: they tell what comes; Symbolic runs: how they are used; Symbolic runs: contexts, contracts that hand back a row; The program draws the orders that Go leaves open; lower.number, and the reference's: the instructions that put a number into a register; Two lists of instructions, compared
-/
import Derived.Test.YtlpcnaeknbmjdaaGreatPa
import Derived.Test.YtlpcnaeknbmjdaaGreatProg
import Derived.KernelRfl

set_option linter.unusedVariables false
set_option linter.unusedSimpArgs false
noncomputable section
namespace Go.Proofs.YtlpcnaeknbmjdaaGreat.Sy
open Go Go.RowKit
open Ev (one cell_of frozen_of calm)
variable {P : Program} {S : Ctx}
variable {w0 : World} {keep : Nat → Prop} {α : Type} {K : α → Prop}
def Post (w0 : World) (keep : Nat → Prop) (K : α → Prop) (c : Exit → F → List Blk → T α) : Exit → Act → World → Prop :=
 fun x a W => calm x = true ∧ ∃ g L, (c x g L).all K ∧ RelF g a ∧ Rep w0 keep L W
def SoundC (P : Program) (w0 : World) (keep : Nat → Prop) (K : α → Prop) (call : CallE α) : Prop := ∀ f args L c, (call f args L c).all K → ∀ W, Rep w0 keep L W → Calls P f args W fun en W' => ∃ v L', en = .returned v ∧ Rep w0 keep L' W' ∧ (c v L').all K
def SoundE (P : Program) (w0 : World) (keep : Nat → Prop) (K : α → Prop) (x : Code) (f : PieceE α) : Prop := ∀ g L c, (f g L c).all K → ∀ a W, RelF g a → Rep w0 keep L W → x.wp P (Post w0 keep K c) a W
theorem askN_all : ∀ (n : Nat) (k : List Let → T α), (askN n k).all K → ∀ ns : List Let, ns.length = n → (k ns).all K
 | 0, k, h, ns, hn => by
   obtain rfl := List.eq_nil_of_length_eq_zero hn
   exact h
 | n + 1, k, h, [], hn => by cases hn
 | n + 1, k, h, x :: r, hn => askN_all n _ (h x) r (by simpa using hn)
theorem eraseIdx_perm {α : Type} : ∀ (l : List α) (j : Nat) (a : α), l[j]? = some a → l.Perm (a :: l.eraseIdx j)
 | [], j, a, h => by cases h
 | x :: l, 0, a, h => by
   simp only [List.getElem?_cons_zero, Option.some.injEq] at h
   subst h
   exact List.Perm.refl _
 | x :: l, j + 1, a, h => by
   have := eraseIdx_perm l j a (by simpa using h)
   exact (this.cons x).trans (List.Perm.swap a x _)
theorem takeAll_sound {W : World} (ow : Bool) : ∀ (l : List (Nat × Cont)) (L : List Blk) (k : List Blk → List Blk → T α), (takeAll ow l L k).all K → There L W →
  ∃ L' U, (k L' U).all K ∧ (∀ p ∈ l, p.2.sat W.heap[p.1]?) ∧ U.map (·.nm) = l.map (·.1) ∧ (∀ b ∈ U, ow = true → b.own = true) ∧ L.Perm (U ++ L')
 | [], L, k, h, _ => ⟨L, [], h, fun _ hp => (by cases hp), rfl, fun _ hp => (by cases hp), List.Perm.refl _⟩
 | p :: r, L, k, h, ht => by
   simp only [takeAll] at h
   obtain ⟨b, j, hj, h1, h⟩ := pickT_spec h
   split at h
   ·rename_i how
    obtain ⟨h2, h⟩ := h
    have h := forceT_spec h
    have hsub : List.Sublist (L.eraseIdx j) L := List.eraseIdx_sublist _ _
    obtain ⟨L2, U, h3, h4, h6, h7, h8⟩ := takeAll_sound ow r (L.eraseIdx j) _ h (fun q hq => ht q (hsub.subset hq))
    refine ⟨L2, b :: U, h3, fun q hq => ?_, by simp [h6, h1], fun q hq how2 => ?_, ?_⟩
    ·rcases List.mem_cons.1 hq with rfl | hq
     ·rw [h1, tok_cont h2]
      have h0 := ht _ (List.mem_of_getElem? hj)
      cases ow with
      | true => exact Cont.sat_useView h0
      | false => exact Cont.sat_view h0
     ·exact h4 q hq
    ·rcases List.mem_cons.1 hq with rfl | hq
     ·rw [how2] at how; simpa using how
     ·exact h7 q hq how2
    ·exact (eraseIdx_perm L j b hj).trans (h8.cons b)
   ·exact h.elim
theorem rbT_spec {l : List (Nat × Cont)} {L : List Blk} {k : T α} (h : (rbT l L k).all K) : GotL L l ∧ k.all K := by
 unfold rbT at h
 rcases two_spec h with h | h
 ·split at h
  ·exact ⟨fun _ hp => (by cases hp), h⟩
  ·exact h.elim
 ·obtain ⟨d, h1, h⟩ := h
  exact ⟨fun p hp => by
   obtain ⟨q, hq, h2⟩ := h1 p hp
   exact ⟨q, List.mem_of_mem_drop hq, h2⟩, h⟩
theorem Rep.perm {L L' : List Blk} {W : World} (hp : L.Perm L') (h : Rep w0 keep L W) : Rep w0 keep L' W :=
 ⟨h.os, h.tape, h.output, h.size, h.old, fun p hm => h.blk p (hp.mem_iff.2 hm), (hp.pairwise_iff (fun h => Far.symm h)).1 h.far⟩
theorem mem_core {c : MemC} {L U rest : List Blk} {W : World} (hr : Rep w0 keep L W) (hperm : L.Perm (U ++ rest)) (hU : U.map (·.nm) = c.use.map (·.1)) (hUo : ∀ b ∈ U, b.own = true) (huse : ∀ p ∈ c.use, p.2.sat W.heap[p.1]?)
  (hrd : ∀ p ∈ c.rd, p.2.sat W.heap[p.1]? ∧ ∃ b ∈ rest, b.nm = p.1) (hgot : GotL rest c.rb) :
  c.pre W ∧ ∀ o : OutM, ∀ ns W', c.post o W W' ns → Rep w0 keep ((o.nw ns).map ownOf ++ (rest ++ (o.nb ns).map ownOf)) W' := by
 have hfar : (U ++ rest).Pairwise Far := (hperm.pairwise_iff (fun h => Far.symm h)).1 hr.far
 have hmem : ∀ q ∈ rest, q ∈ L := fun q hq => hperm.mem_iff.2 (List.mem_append_right _ hq)
 have hUe : ∀ b ∈ U, b ∈ L ∧ b.own = true := fun b hb => ⟨hperm.mem_iff.2 (List.mem_append_left _ hb), hUo b hb⟩
 rw [List.pairwise_append] at hfar
 obtain ⟨hfU, hfR, hfUR⟩ := hfar
 have hndU : (U.map (·.nm)).Nodup := by
  rw [List.nodup_iff_pairwise_ne, List.pairwise_map]
  exact hfU.imp_of_mem fun ha _ hab => hab (by rw [(hUe _ ha).2]; rfl)
 have hap : ∀ p ∈ c.rd, ∀ q ∈ c.use, p.1 ≠ q.1 := fun p hp q hq he => by
  obtain ⟨b1, hb1, e1⟩ := (hrd p hp).2
  have h2 : q.1 ∈ U.map (·.nm) := by rw [hU]; exact List.mem_map.2 ⟨q, hq, rfl⟩
  obtain ⟨b2, hb2, e2⟩ := List.mem_map.1 h2
  exact hfUR b2 hb2 b1 hb1 (by rw [(hUe _ hb2).2]; rfl) (by rw [e2, e1, he])
 have hrb : ∀ p ∈ c.rb, p.2.sat W.heap[p.1]? := fun p hp => by
  obtain ⟨q, hq, h1, h2⟩ := hgot p hp
  rw [← h1]
  exact h2 _ (hr.blk q (hmem q hq)).1
 have hapB : ∀ p ∈ c.rb, ∀ q ∈ c.use, p.1 ≠ q.1 := fun p hp q hq he => by
  obtain ⟨x, hx, h1, -⟩ := hgot p hp
  have h2 : q.1 ∈ U.map (·.nm) := by rw [hU]; exact List.mem_map.2 ⟨q, hq, rfl⟩
  obtain ⟨b2, hb2, e2⟩ := List.mem_map.1 h2
  exact hfUR b2 hb2 x hx (by rw [(hUe _ hb2).2]; rfl) (by rw [e2, h1, he])
 refine ⟨⟨fun p hp => (hrd p hp).1, huse, by rw [← hU]; exact hndU, hap, hrb, hapB⟩, ?_⟩
 rintro o ns W' ⟨hns, hhyp, o1, o2, o3, hsz, hkeep, hnw0, hnwd0, hnb, hnbd, hnab⟩
 obtain ⟨new, hnew⟩ : ∃ new, new = o.nw ns ++ o.nb ns := ⟨_, rfl⟩
 have hnw : ∀ p ∈ new, (W.heap.size ≤ p.1 ∨ ∃ q ∈ c.use, q.1 = p.1) ∧ p.2.sat W'.heap[p.1]? := fun p hp => by
  rw [hnew] at hp
  exact (List.mem_append.1 hp).elim (hnw0 p) (hnb p)
 have hnwd : (new.map (·.1)).Nodup := by
  rw [hnew, List.map_append, List.nodup_append]
  refine ⟨hnwd0, hnbd, fun a ha b hb => ?_⟩
  obtain ⟨x, hx, rfl⟩ := List.mem_map.1 ha
  obtain ⟨y, hy, rfl⟩ := List.mem_map.1 hb
  exact hnab x hx y hy
 have hp3 : (new.map ownOf ++ rest).Perm ((o.nw ns).map ownOf ++ (rest ++ (o.nb ns).map ownOf)) := by
  rw [hnew, List.map_append, List.append_assoc]
  exact List.Perm.append_left _ List.perm_append_comm
 have hnuse : ∀ p ∈ c.use, ∃ b ∈ U, b.nm = p.1 := fun p hp => by
  have : p.1 ∈ U.map (·.nm) := by rw [hU]; exact List.mem_map.2 ⟨p, hp, rfl⟩
  obtain ⟨b, hb, he⟩ := List.mem_map.1 this
  exact ⟨b, hb, he⟩
 have hrest : ∀ q ∈ rest, ∀ p ∈ c.use, p.1 ≠ q.nm := fun q hq p hp he => by
  obtain ⟨b, hb, hbe⟩ := hnuse p hp
  exact hfUR b hb q hq (by rw [(hUe _ hb).2]; rfl) (by rw [hbe, he])
 have hnk : ∀ p ∈ c.use, p.1 < w0.heap.size → ¬ keep p.1 := fun p hp hlt => by
  obtain ⟨b, hb, hbe⟩ := hnuse p hp
  rw [← hbe] at hlt ⊢
  exact (hr.blk b (hUe b hb).1).2 (hUe b hb).2 hlt
 refine Rep.perm hp3 ⟨o1.trans hr.os, o2.trans hr.tape, o3.trans hr.output, Nat.le_trans hr.size hsz, fun k hk hkp => ?_, fun p hp => ?_, ?_⟩
 ·rw [hkeep k (Nat.lt_of_lt_of_le hk hr.size) (fun p hp he => by subst he; exact hnk p hp hk hkp)]
  exact hr.old k hk hkp
 ·simp only [List.mem_append, List.mem_map] at hp
  rcases hp with ⟨q, hq, rfl⟩ | hp
  ·refine ⟨(hnw q hq).2, fun _ hlt => ?_⟩
   have hlt' : q.1 < w0.heap.size := hlt
   show ¬ keep q.1
   rcases (hnw q hq).1 with h1 | ⟨p, hp, he⟩
   ·have := hr.size
    omega
   ·rw [← he] at hlt' ⊢
    exact hnk p hp hlt'
  ·have hpe := hmem p hp
   obtain ⟨h1, h2⟩ := hr.blk p hpe
   exact ⟨by rw [hkeep p.nm (hr.lt hpe) (hrest p hp)]; exact h1, h2⟩
 ·have hlt : ∀ b ∈ L, b.nm < W.heap.size := fun b hb => hr.lt hb
  rw [List.pairwise_append]
  refine ⟨?_, hfR, fun a ha b hb _ he => ?_⟩
  ·rw [List.pairwise_map]
   rw [List.nodup_iff_pairwise_ne, List.pairwise_map] at hnwd
   exact hnwd.imp (S := fun a b => Far (ownOf a) (ownOf b)) fun h _ => h
  ·obtain ⟨q, hq, rfl⟩ := List.mem_map.1 ha
   have he' : q.1 = b.nm := he
   rcases (hnw q hq).1 with h1 | ⟨p, hp, hpe⟩
   ·have h2 := hlt b (hmem b hb)
    omega
   ·exact hrest b hb p hp (hpe.trans he')
theorem memBy_sound {β : Type} {c : MemC} {L : List Blk} {outs : List (OutM × β)} {k : β → List Let → List Blk → T α} (h : (memBy c L outs k).all K) {W : World} (hr : Rep w0 keep L W) :
  c.pre W ∧ ∀ o ∈ outs, ∀ ns W', c.post o.1 W W' ns → ∃ L', Rep w0 keep L' W' ∧ (k o.2 ns L').all K := by
 obtain ⟨L1, U1, h, hrd, hU1, -, hp1⟩ := takeAll_sound (W := W) _ _ _ _ h (fun p hp => (hr.blk p hp).1)
 obtain ⟨L2, U, h, huse, hU, hUo, hp2⟩ := takeAll_sound (W := W) _ _ _ _ h (fun p hp => (hr.blk p (hp1.mem_iff.2 (List.mem_append_right _ hp))).1)
 have hperm : L.Perm (U ++ (U1 ++ L2)) := by
  refine hp1.trans ((hp2.append_left U1).trans ?_)
  rw [← List.append_assoc, ← List.append_assoc]
  exact List.perm_append_comm.append_right _
 obtain ⟨hgot, h⟩ := rbT_spec h
 obtain ⟨hpre, hpost⟩ := mem_core hr hperm hU (fun b hb => hUo b hb rfl) huse (fun p hp => ⟨hrd p hp, by
  have h1 : p.1 ∈ U1.map (·.nm) := by rw [hU1]; exact List.mem_map.2 ⟨p, hp, rfl⟩
  obtain ⟨b1, hb1, e1⟩ := List.mem_map.1 h1
  exact ⟨b1, List.mem_append_left _ hb1, e1⟩⟩) hgot
 refine ⟨hpre, fun o ho ns W' hp => ⟨_, hpost o.1 ns W' hp, ?_⟩⟩
 rcases two_spec (askN_all _ _ (outsT_all h o ho) ns hp.len hp.hyp) with hK | hK
 ·split at hK
  ·rename_i hb
   have hK := forceT_spec hK
   rw [hb, List.map_nil, List.append_nil]
   exact hK
  ·exact hK.elim
 ·exact forceT_spec hK
theorem memU_sound {β : Type} {rd : List (Nat × Cont)} {m : Nat} {rb u1 ub : List (Nat × Cont)} {rest L : List Blk} {outs : List (OutM × β)} {k : β → List Let → List Blk → T α} (h : (memU rd m rb u1 ub rest L outs k).all K) {W : World} (hr : Rep w0 keep L W) :
  (⟨rd, u1 ++ ub, m, rb⟩ : MemC).pre W ∧ ∀ o ∈ outs, ∀ ns W', (⟨rd, u1 ++ ub, m, rb⟩ : MemC).post o.1 W W' ns → ∃ L', Rep w0 keep L' W' ∧ (k o.2 ns L').all K := by
 obtain ⟨L1, U1, h, hrd, hU1, -, hp1⟩ := takeAll_sound (W := W) _ _ _ _ h (fun p hp => (hr.blk p hp).1)
 obtain ⟨L2, U, h, huse, hU, hUo, hp2⟩ := takeAll_sound (W := W) _ _ _ _ h (fun p hp => (hr.blk p (hp1.mem_iff.2 (List.mem_append_right _ hp))).1)
 obtain ⟨d, hd, h⟩ := h
 obtain ⟨hgot, h⟩ := rbT_spec h
 have hL2 : L2.Perm (ub.map ownOf ++ (L2.take d ++ rest)) := by
  have h1 : L2.Perm (L2.take d ++ (ub.map ownOf ++ rest)) := by
   conv => lhs; rw [← List.take_append_drop d L2]
   exact hd.append_left _
  refine h1.trans ?_
  rw [← List.append_assoc, ← List.append_assoc]
  exact List.perm_append_comm.append_right _
 have hperm : L.Perm ((U ++ ub.map ownOf) ++ (U1 ++ (L2.take d ++ rest))) := by
  refine hp1.trans ((hp2.append_left U1).trans ?_)
  refine ((hL2.append_left U).append_left U1).trans ?_
  rw [← List.append_assoc U, ← List.append_assoc U1, ← List.append_assoc (U ++ ub.map ownOf)]
  exact List.perm_append_comm.append_right _
 obtain ⟨hpre, hpost⟩ := mem_core (c := ⟨rd, u1 ++ ub, m, rb⟩) hr hperm (by rw [List.map_append, List.map_append, hU, List.map_map]; rfl) (fun b hb => by
   rcases List.mem_append.1 hb with hb | hb
   ·exact hUo b hb rfl
   ·obtain ⟨q, -, rfl⟩ := List.mem_map.1 hb
    rfl) (fun p hp => by
   rcases List.mem_append.1 hp with hp | hp
   ·exact huse p hp
   ·exact (hr.blk (ownOf p) (hperm.mem_iff.2 (List.mem_append_left _ (List.mem_append_right _ (List.mem_map.2 ⟨p, hp, rfl⟩))))).1) (fun p hp => ⟨hrd p hp, by
  have h1 : p.1 ∈ U1.map (·.nm) := by rw [hU1]; exact List.mem_map.2 ⟨p, hp, rfl⟩
  obtain ⟨b1, hb1, e1⟩ := List.mem_map.1 h1
  exact ⟨b1, List.mem_append_left _ hb1, e1⟩⟩) hgot
 refine ⟨hpre, fun o ho ns W' hp => ⟨_, hpost o.1 ns W' hp, ?_⟩⟩
 exact forceT_spec (askN_all _ _ (outsT_all h o ho) ns hp.len hp.hyp)
theorem opaV_spec {a : F} {o : Oper} {k : Value → T α} (h : (opaV P a o k).all K) : ∃ v, (∀ W, (execOp a.eval o).run P W = .ok (.value v) W) ∧ (k v).all K := by
 unfold opaV at h
 split at h
 ·rename_i t x y ho
  split at h
  ·rename_i el hu
   split at h
   ·rename_i inf hi
    split at h
    ·rename_i kk i hy
     obtain ⟨⟨⟨n, c, hx⟩, h1, h2⟩, h⟩ := h
     refine ⟨_, fun W => ?_, h⟩
     have hl : lenS (a.eval x) = n := by rw [hx]; rfl
     rw [hl] at h2
     have hs : symQ P a.eval o = some (Ex.leQ 0 i && Ex.ltQ i (n : Int), 0 ≤ i ∧ i < (n : Int), .pointer (some ⟨ptrS (a.eval x), offS (a.eval x) + i.toNat * inf.size, none⟩)) := by
      unfold symQ
      rw [ho]
      simp only [hy]
      rw [hx]
      simp only [hu, hi]
      rfl
     exact symQ_run hs (.inr ⟨h1, h2⟩) W
    ·exact h.elim
   ·exact h.elim
  ·exact h.elim
 ·rename_i c ho
  split at h
  ·rename_i hc
   split at h
   ·rename_i x t ha ht
    split at h
    ·rename_i el hu
     obtain ⟨⟨p, n, cc, hx⟩, h⟩ := h
     refine ⟨_, fun W => ?_, h⟩
     have hl : lenOf P a.eval o = some (.int .i64 (Int.ofNat (lenS (a.eval x)))) := by
      unfold lenOf
      simp only [ho, hc, ha, ht]
      rw [hx]
      simp only [hu]
      rfl
     exact lenOf_run hl W
    ·exact h.elim
   ·exact h.elim
  ·exact h.elim
 ·exact h.elim
theorem evOp_sound (hS : S.holds P) {fn : FuncId} {call : CallE α} (hs : SoundC P w0 keep K call) {o : Oper} {a : F} {L : List Blk} {c : F → List Blk → T α} (h : (evOp P S fn call o a L c).all K)
  {b : Act} {W : World} (hf : RelF a b) (hr : Rep w0 keep L W) : ∃ x W1, (execOp b.eval o).run P W = .ok x W1 ∧
   ((∃ v L', x = .value v ∧ (c (a.put o.dst v) L').all K ∧ Rep w0 keep L' W1) ∨ (∃ L', x = .skip ∧ (c (a.put o.dst undef) L').all K ∧ Rep w0 keep L' W1) ∨
     ∃ f args, x = .enter f args ∧ Calls P f args W1 fun en W2 => ∃ v L', en = .returned v ∧ Rep w0 keep L' W2 ∧ (c (a.put o.dst v) L').all K) := by
 have byC : ∀ k : OpC, OpMeets P (execOp a.eval o) k → (opBy k o a L c).all K → ∃ x W1, (execOp b.eval o).run P W = .ok x W1 ∧
   ((∃ v L', x = .value v ∧ (c (a.put o.dst v) L').all K ∧ Rep w0 keep L' W1) ∨ (∃ L', x = .skip ∧ (c (a.put o.dst undef) L').all K ∧ Rep w0 keep L' W1) ∨
     ∃ f args, x = .enter f args ∧ Calls P f args W1 fun en W2 => ∃ v L', en = .returned v ∧ Rep w0 keep L' W2 ∧ (c (a.put o.dst v) L').all K) := fun k hm h => by
  rw [hf.eval] at hm
  obtain ⟨hpre, h⟩ := memBy_sound h hr
  obtain ⟨o1, ho1, ns, W1, hrun, hpost⟩ := hm W hpre
  obtain ⟨L1, hr1, h⟩ := h o1 ho1 ns W1 hpost
  refine ⟨_, _, hrun, ?_⟩
  cases hv : o1.2 ns with
  | some v =>
    rw [hv] at h
    exact .inl ⟨v, L1, rfl, h, hr1⟩
  | none =>
    rw [hv] at h
    exact .inr (.inl ⟨L1, rfl, h, hr1⟩)
 have gen : (genOp P call o a L c).all K → ∃ x W1, (execOp b.eval o).run P W = .ok x W1 ∧
   ((∃ v L', x = .value v ∧ (c (a.put o.dst v) L').all K ∧ Rep w0 keep L' W1) ∨ (∃ L', x = .skip ∧ (c (a.put o.dst undef) L').all K ∧ Rep w0 keep L' W1) ∨
     ∃ f args, x = .enter f args ∧ Calls P f args W1 fun en W2 => ∃ v L', en = .returned v ∧ Rep w0 keep L' W2 ∧ (c (a.put o.dst v) L').all K) := fun h => by
  unfold genOp at h
  rw [hf.eval] at h
  obtain ⟨x, L1, W1, hrun, hr1, h⟩ := lrun_sound P _ _ _ W _ h hr
  refine ⟨x, W1, hrun, ?_⟩
  unfold stepO at h
  cases x with
  | value v => exact .inl ⟨v, L1, rfl, h, hr1⟩
  | skip => exact .inr (.inl ⟨L1, rfl, h, hr1⟩)
  | enter f args =>
    exact .inr (.inr ⟨f, args, rfl, (hs _ _ _ _ h W1 hr1).mono fun en W2 ⟨v, L2, he, hR, h⟩ => ⟨v, L2, he, hR, h⟩⟩)
  | _ => exact h.elim
 have dop0 : (doOp0 P call o a L c).all K → ∃ x W1, (execOp b.eval o).run P W = .ok x W1 ∧
   ((∃ v L', x = .value v ∧ (c (a.put o.dst v) L').all K ∧ Rep w0 keep L' W1) ∨ (∃ L', x = .skip ∧ (c (a.put o.dst undef) L').all K ∧ Rep w0 keep L' W1) ∨
     ∃ f args, x = .enter f args ∧ Calls P f args W1 fun en W2 => ∃ v L', en = .returned v ∧ Rep w0 keep L' W2 ∧ (c (a.put o.dst v) L').all K) := fun h => by
  unfold doOp0 at h
  have hd := doing_spec (P := P) (ρ := b.eval) (fun g => rfl) o
  rw [hf.eval] at h
  split at h
  ·rename_i v hv
   rw [hv] at hd
   exact ⟨_, _, hd W, .inl ⟨v, L, rfl, h, hr⟩⟩
  ·rename_i bb p v hv
   rw [hv] at hd
   obtain ⟨h1, h⟩ := reqP_spec h
   exact ⟨_, _, hd h1 W, .inl ⟨v, L, rfl, h, hr⟩⟩
  ·rename_i t bb off hv
   rw [hv] at hd
   obtain ⟨v, hk, hrun⟩ := loadN_spec (fun p hp => (hr.blk p hp).1) h
   exact ⟨_, _, by rw [loadOf_run hd]; exact hrun W (fun p hp => (hr.blk p hp).1), .inl ⟨v, L, rfl, hk, hr⟩⟩
  ·rename_i bb off v hv
   rw [hv] at hd
   obtain ⟨p, j, hj, hb, h⟩ := pickT_spec h
   obtain ⟨hone, h⟩ := reqP_spec h
   have hone : one v = true := hone.elim id id
   obtain ⟨L1, u, hcell, hfz, hset, h⟩ := putT_sound h hj hb hr
   refine ⟨.skip, W.setCell ⟨bb, off, none⟩ v, ?_, .inr (.inl ⟨L1, rfl, h, hset⟩)⟩
   rw [storeOf_run hd]
   have : (Go.store ⟨bb, off, none⟩ v).run P W = .ok () (W.setCell ⟨bb, off, none⟩ v) := by
    cases v <;> first | (simp [one] at hone; done) | simp [Go.store, Sem.run, hcell, hfz]
   rw [this]
  ·rename_i n bb off C hv
   rw [hv] at hd
   obtain ⟨t, hd⟩ := hd
   rcases altT_spec h with h | h
   ·have hoff : off = 0 ∧ (pickT L bb fun p j => match p with
      | ⟨nm, .obj (.cells old ty (lo, hi)), true⟩ => match Nat.beq lo 0 && Nat.beq hi 0 with
        | true => reqP (Nat.beq old.size C.size && (Nat.beq n C.size && C.all (·.oneCell'))) (old.size = C.size ∧ n = C.size ∧ C.all (·.oneCell') = true) (setK L j ⟨nm, .obj (.cells C ty (0, 0)), true⟩ fun L' => c (a.put o.dst undef) L')
        | false => .fail
      | _ => .fail).all K := by
     cases hbo : Nat.beq off 0 with
     | false => rw [hbo] at h; exact h.elim
     | true => rw [hbo] at h; exact ⟨Nat.eq_of_beq_eq_true hbo, h⟩
    obtain ⟨hoff, h⟩ := hoff
    subst hoff
    obtain ⟨p, j, hj, hb, h⟩ := pickT_spec h
    split at h
    ·rename_i nm old ty lo hi
     split at h
     ·rename_i hz
      simp only [Bool.and_eq_true, Nat.beq_eq] at hz
      obtain ⟨rfl, rfl⟩ := hz
      obtain ⟨hreq, h⟩ := reqP_spec h
      have hreq : old.size = C.size ∧ n = C.size ∧ C.all (·.oneCell') = true := hreq.elim (fun h => by simpa only [Bool.and_eq_true, Nat.beq_eq] using h) id
      have hat : W.heap[nm]? = some (.cells old ty (0, 0)) := hr.at hj
      have hb : bb = nm := hb
      subst hb
      refine ⟨.skip, W.setRow bb C, wholeOf_run hd hreq.1 hreq.2.1 hreq.2.2 hat, .inr (.inl ⟨_, rfl, (setK_spec h).2, ?_⟩)⟩
      exact hr.set hj rfl _ rfl rfl rfl (by simp) (fun k hk => setRow_other W bb k C hk) (setRow_heap W bb old C ty (0, 0) hat)
     ·exact h.elim
    ·exact h.elim
   ·exact gen h
  ·rename_i t v x hv
   rw [hv] at hd
   rcases altT_spec h with h | h
   ·obtain ⟨k, hm, h⟩ := appT_spec (ty := o.type) h
    refine byC k (fun W hW => ?_) h
    rw [hf.eval, appOf_run hd]
    exact hm W hW
   ·exact gen h
  ·rename_i f args hv
   rw [hv] at hd
   exact ⟨_, _, hd W, .inr (.inr ⟨f, args, rfl, (hs _ _ _ _ h W hr).mono fun en W2 ⟨v, L2, he, hR, h⟩ => ⟨v, L2, he, hR, h⟩⟩)⟩
  ·rename_i e z bytes n lv cv hv
   rw [hv] at hd
   rcases altT_spec h with h | ⟨h1, h⟩
   ·exact gen h
   ·obtain ⟨hreq, h⟩ := reqP_spec h
    have hreq : 0 ≤ n ∧ n.toNat * bytes ≤ 281474976710656 ∧ n.toNat ≤ maxLen := hreq.elim (fun h => by simpa only [Bool.and_eq_true, Ex.leQ_eq, decide_eq_true_eq, Nat.ble_eq] using h) id
    obtain ⟨C, hC, hrun⟩ := makeOf_run hd (tok_val h1) hreq.1 hreq.2.1 hreq.2.2 W
    refine ⟨_, _, hrun, .inl ⟨_, _, rfl, h ⟨W.heap.size, 0, false, undef, []⟩, ?_⟩⟩
    have hsz : C.size = n.toNat := by rw [← Array.length_toList, hC]; simp
    have hp := hr.push (.cells C e (0, 0))
    refine ⟨hp.os, hp.tape, hp.output, hp.size, hp.old, fun p hpm => ?_, ?_⟩
    ·rcases List.mem_cons.1 hpm with rfl | hpm
     ·obtain ⟨h2, h3⟩ := hp.blk _ List.mem_cons_self
      exact ⟨⟨C, h2, by simp, Nat.le_refl _, hreq.2.2, by simp [hsz], by simp [hC]⟩, h3⟩
     ·exact hp.blk p (List.mem_cons_of_mem _ hpm)
    ·have hf := hp.far
     rw [List.pairwise_cons] at hf ⊢
     exact ⟨fun q hq ho => hf.1 q hq ho, hf.2⟩
  ·rename_i s hv
   rw [hv] at hd
   obtain ⟨e, hd⟩ := hd
   rw [forceL_eq] at h
   exact byC _ (by rw [hf.eval]; exact bytesOf_met hd) h
  ·rename_i neg b1 o1 b2 o2 hv
   rw [hv] at hd
   obtain ⟨r, h, hrun⟩ := peqT_spec (P := P) h hr
   exact ⟨_, _, peqOf_run hd hrun, .inl ⟨_, L, rfl, h, hr⟩⟩
  ·rename_i bb off old new hv
   rw [hv] at hd
   obtain ⟨p, j, hj, hb, h⟩ := pickT_spec h
   split at h
   ·exact h.elim
   ·rename_i hpl
    split at h
    ·rename_i cur hcur
     obtain ⟨r, h, hrun⟩ := samePT_spec (P := P) h hr
     obtain ⟨cc, tt, hat⟩ := plainCt_spec hpl (hr.at hj)
     have hcell : W.cell? ⟨bb, off, none⟩ = some (.pointer cur) := cell_at (a := ⟨bb, off, none⟩) hb (hr.at hj) rfl hcur
     have hx := casOf_run (P := P) (W := W) (fun g => rfl) hd (by rw [hb]; exact hat) hcell hrun
     cases r with
     | true =>
       obtain ⟨L1, u, -, -, hset, h⟩ := putT_sound (h.1 rfl) hj hb hr
       exact ⟨_, _, hx, .inl ⟨_, L1, rfl, h, hset⟩⟩
     | false => exact ⟨_, _, hx, .inl ⟨_, L, rfl, h.2 rfl, hr⟩⟩
    ·exact h.elim
  ·exact gen h
 have dop : (doOp P call o a L c).all K → ∃ x W1, (execOp b.eval o).run P W = .ok x W1 ∧
   ((∃ v L', x = .value v ∧ (c (a.put o.dst v) L').all K ∧ Rep w0 keep L' W1) ∨ (∃ L', x = .skip ∧ (c (a.put o.dst undef) L').all K ∧ Rep w0 keep L' W1) ∨
     ∃ f args, x = .enter f args ∧ Calls P f args W1 fun en W2 => ∃ v L', en = .returned v ∧ Rep w0 keep L' W2 ∧ (c (a.put o.dst v) L').all K) := fun h => by
  unfold doOp at h
  split at h
  ·rcases two_spec h with h | h
   ·exact dop0 h
   ·obtain ⟨v, hrun, hk⟩ := opaV_spec h
    rw [hf.eval] at hrun
    exact ⟨_, _, hrun W, .inl ⟨v, L, rfl, hk, hr⟩⟩
  ·exact dop0 h
 unfold evOp at h
 split at h
 ·rename_i k ks hop
  obtain ⟨j, h⟩ := h
  dsimp only at h
  split at h
  ·rename_i k' hj
   obtain ⟨h1, h2, h⟩ := h
   rw [nth_eq] at hj
   have hm := hS.op fn (keyOf o) k' (by rw [hop]; exact List.mem_of_getElem? hj) a L h2
   rw [← tok_sem h1] at hm
   exact byC _ hm h
  ·exact dop h
 ·exact dop h
theorem evAt_sound (hS : S.holds P) {fn : FuncId} {call : CallE α} (hs : SoundC P w0 keep K call) {ops : Array Oper} {i : Nat} {a : F} {L : List Blk} {c : F → List Blk → T α} (h : (evAt P S fn call ops i a L c).all K)
  {b : Act} {W : World} (hf : RelF a b) (hr : Rep w0 keep L W) {Q : Exit → Act → World → Prop} {K' : Act → World → Prop} (hK : ∀ a' L' b' W', (c a' L').all K → RelF a' b' → Rep w0 keep L' W' → K' b' W') : wpOp P ops Q i K' b W := by
 unfold evAt at h
 rw [nth_eq, Array.getElem?_toList] at h
 unfold wpOp
 split at h
 ·rename_i h0
  simp only [h0]
  exact hK _ _ _ _ h hf hr
 ·rename_i o h0
  simp only [h0]
  obtain ⟨a', hf', h⟩ := guardT_spec hf h
  rcases h with ⟨hw, h⟩ | ⟨hw, h⟩
  ·rw [if_pos hw]
   left
   unfold Oper.wp
   obtain ⟨x, W1, hrun, hx⟩ := evOp_sound hS hs h hf' hr
   rw [hrun]
   rcases hx with ⟨v, L', rfl, hk, hr'⟩ | ⟨L', rfl, hk, hr'⟩ | ⟨f, args, rfl, hc⟩
   ·exact hK _ _ _ _ hk (hf'.put _ _) hr'
   ·exact hK _ _ _ _ hk (hf'.put _ _) hr'
   ·refine hc.mono fun en W2 ⟨v, L2, he, hR, h⟩ => ?_
    subst he
    exact hK _ _ _ _ h (hf'.put _ _) hR
  ·rw [hw]
   exact hK _ _ _ _ h (hf'.put _ _) hr
theorem heldV_of {a : F} {L0 : List Blk} {o : Oper} {k : Value → T α} (h : (heldV0 P a L0 o k).all K) : (heldV P a L0 o k).all K := by
 unfold heldV
 split
 ·exact ⟨0, h⟩
 ·exact h
theorem doOp_of {call : CallE α} {a : F} {L : List Blk} {o : Oper} {c : F → List Blk → T α} (h : (doOp0 P call o a L c).all K) : (doOp P call o a L c).all K := by
 unfold doOp
 split
 ·exact ⟨0, h⟩
 ·exact h
theorem heldV0_sound {a : F} {L0 : List Blk} {o : Oper} {k : Value → T α} {W0 : World} (h0 : There L0 W0) (h : (heldV0 P a L0 o k).all K) : ∃ v, (∀ W, There L0 W → (execOp a.eval o).run P W = .ok (.value v) W) ∧ (k v).all K := by
 unfold heldV0 at h
 have hd := doing_spec (P := P) (ρ := a.eval) (fun g => rfl) o
 split at h
 ·rename_i v hv
  rw [hv] at hd
  exact ⟨v, fun W _ => hd W, h⟩
 ·rename_i t bb off hv
  rw [hv] at hd
  obtain ⟨v, hk, hrun⟩ := loadN_spec h0 h
  exact ⟨v, fun W hS => by rw [loadOf_run hd]; exact hrun W hS, hk⟩
 ·rename_i bb p v hv
  rw [hv] at hd
  obtain ⟨h1, h⟩ := reqP_spec h
  exact ⟨_, fun W _ => hd h1 W, h⟩
 ·obtain ⟨x, hx, hrun⟩ := lread_sound P _ _ _ h
  cases x with
  | value v => exact ⟨v, hrun, hx⟩
  | _ => exact hx.elim
 ·exact h.elim
theorem heldV_sound {a : F} {L0 : List Blk} {o : Oper} {k : Value → T α} {W0 : World} (h0 : There L0 W0) (h : (heldV P a L0 o k).all K) : ∃ v, (∀ W, There L0 W → (execOp a.eval o).run P W = .ok (.value v) W) ∧ (k v).all K := by
 unfold heldV at h
 split at h
 ·rcases two_spec h with h | h
  ·exact heldV0_sound h0 h
  ·obtain ⟨v, h1, h2⟩ := opaV_spec h
   exact ⟨v, fun W _ => h1 W, h2⟩
 ·exact heldV0_sound h0 h
theorem valB_held {a : F} {L0 : List Blk} {o : Oper} {k : Value → T α} (h : ((valB P o : VB α).run a L0 k (heldV P a L0 o k)).all K) : (heldV P a L0 o k).all K := by
 rcases valB_spec h with h | h | h | h
 ·exact h
 ·obtain ⟨v, h1, h2⟩ := h
  refine heldV_of ?_
  unfold heldV0
  rw [h1]
  exact h2
 ·obtain ⟨t, b, off, h1, h2⟩ := h
  refine heldV_of ?_
  unfold heldV0
  rw [h1]
  exact h2
 ·obtain ⟨b, p, v, h1, h2⟩ := h
  refine heldV_of ?_
  unfold heldV0
  rw [h1]
  exact h2
theorem valB_do {call : CallE α} {a : F} {L : List Blk} {o : Oper} {c : F → List Blk → T α} (h : ((valB P o : VB α).run a L (fun v => c (a.put o.dst v) L) (doOp P call o a L c)).all K) : (doOp P call o a L c).all K := by
 rcases valB_spec h with h | h | h | h
 ·exact h
 ·obtain ⟨v, h1, h2⟩ := h
  refine doOp_of ?_
  unfold doOp0
  rw [h1]
  exact h2
 ·obtain ⟨t, b, off, h1, h2⟩ := h
  refine doOp_of ?_
  unfold doOp0
  rw [h1]
  exact h2
 ·obtain ⟨b, p, v, h1, h2⟩ := h
  refine doOp_of ?_
  unfold doOp0
  rw [h1]
  exact h2
theorem heldG_sound {ops : Array Oper} {L0 : List Blk} {g : Option G} {a : F} {o : Oper} {k : Option G → F → T α} {b : Act} {W0 : World} (h0 : There L0 W0) (hf : RelF a b) (hi : Inv g b) (h : (heldG P ops L0 g a o k).all K) :
  ∃ g' a' v, YieldsIf P ops (There L0) o v b ∧ RelF a' (b.put o.dst v) ∧ Inv g' (b.put o.dst v) ∧ (k g' a').all K := by
 unfold heldG at h
 have key := guardOf_key (ops := ops) (o := o) hf
 split at h
 ·rename_i hg
  rw [hg] at key
  simp only at key
  have plain : ∀ f : Value → T α, (heldV P a L0 o f).all K → ∃ v, YieldsIf P ops (There L0) o v b ∧ (f v).all K := fun f h => by
   obtain ⟨v, h1, h2⟩ := heldV_sound h0 h
   rw [hf.eval] at h1
   exact ⟨v, .inl ⟨key, fun W hS => h1 W hS⟩, h2⟩
  split at h
  ·obtain ⟨v, h1, h2⟩ := plain _ (valB_held h)
   exact ⟨_, _, v, h1, hf.put _ _, Inv.none _, h2⟩
  ·rename_i g
   split at h
   ·rename_i c x y ho
    split at h
    ·rename_i bb hc
     obtain ⟨h1, h⟩ := h
     have h1 : bb = g.b := by injection (tok_val h1)
     split at h
     ·rename_i v hv
      have hv := mergeV_spec hv
      rw [hf.eval] at hc
      refine ⟨_, _, v, .inl ⟨key, fun W _ => ?_⟩, hf.put _ _, Inv.none _, h⟩
      rw [pick_run ho hc W]
      have e : v = if bb = true then b.eval x else b.eval y := by
       rw [hv]
       cases hb : bb with
       | true =>
         simp only [if_true]
         cases hw : g.want with
         | true =>
           have := hi g rfl (by rw [← h1, hb, hw])
           simp only [this.eval]
         | false => simp only [hf.eval]
       | false =>
         simp only [Bool.false_eq_true, if_false]
         cases hw : g.want with
         | true => simp only [hf.eval]
         | false =>
           have := hi g rfl (by rw [← h1, hb, hw])
           simp only [this.eval]
      rw [← e]
     ·exact h.elim
    ·exact h.elim
   ·obtain ⟨v, h1, h2⟩ := plain _ h
    refine ⟨_, _, v, h1, hf.put _ _, fun x hx hb => ?_, h2⟩
    injection hx with hx
    subst hx
    exact (hi g rfl hb).put _ _
 ·rename_i hg
  rw [hg] at key
  exact ⟨_, _, undef, .inr ⟨key, rfl⟩, hf.put _ _, Inv.none _, h⟩
 ·rename_i t c want hg
  rw [hg] at key
  obtain ⟨k1, k2⟩ := key
  have sel : ∀ (v : Value) (a1 : F), (c = want → RelF a1 b) → (∀ W, There L0 W → (execOp a1.eval o).run P W = .ok (.value v) W) → YieldsIf P ops (There L0) o (selV (hit c want) v undef) b ∧ (c = want → selV (hit c want) v undef = v) := fun v a1 h1 h2 => by
   by_cases hcw : c = want
   ·have hh : hit c want = true := by subst hcw; cases c <;> rfl
    rw [hh]
    have h3 := h1 hcw
    refine ⟨.inl ⟨by rw [k1, hcw]; simp, fun W hS => ?_⟩, fun _ => rfl⟩
    rw [← h3.eval]
    exact h2 W hS
   ·have hh : hit c want = false := by cases c <;> cases want <;> simp_all [hit]
    rw [hh]
    exact ⟨.inr ⟨by rw [k1]; cases c <;> cases want <;> simp_all, rfl⟩, fun h => absurd h hcw⟩
  split at h
  ·obtain ⟨v, h1, h2⟩ := heldV_sound h0 h
   have ha : c = want → RelF (a.put (some t) (.bool want)) b := fun hcw => hf.same (by rw [k2, hcw])
   obtain ⟨s1, s2⟩ := sel v _ ha h1
   refine ⟨_, _, _, s1, hf.put _ _, fun x hx hb => ?_, h2⟩
   injection hx with hx
   subst hx
   rw [s2 hb]
   exact (ha hb).put _ _
  ·rename_i g
   obtain ⟨e1, e2, h⟩ := h
   have e1 : c = g.b := by injection (tok_val e1)
   have e2 : want = g.want := by injection (tok_val e2)
   obtain ⟨v, h1, h2⟩ := heldV_sound h0 h
   have ha : c = want → RelF g.a b := fun hcw => hi g rfl (by rw [← e1, ← e2, hcw])
   obtain ⟨s1, s2⟩ := sel v _ ha h1
   refine ⟨_, _, _, s1, hf.put _ _, fun x hx hb => ?_, h2⟩
   injection hx with hx
   subst hx
   have hcw : c = want := by rw [e1, e2]; exact hb
   rw [s2 hcw]
   exact (ha hcw).put _ _
theorem evAtG_sound (hS : S.holds P) {fn : FuncId} {call : CallE α} (hs : SoundC P w0 keep K call) {ops : Array Oper} {i : Nat} {g : Option G} {a : F} {L : List Blk} {c : Option G → F → List Blk → T α} (h : (evAtG P S fn call ops i g a L c).all K)
  {b : Act} {W : World} (hf : RelF a b) (hi : Inv g b) (hr : Rep w0 keep L W) {Q : Exit → Act → World → Prop} {K' : Act → World → Prop} (hK : ∀ g' a' L' b' W', (c g' a' L').all K → RelF a' b' → Inv g' b' → Rep w0 keep L' W' → K' b' W') : wpOp P ops Q i K' b W := by
 have plain : (evAt P S fn call ops i a L (c none)).all K → wpOp P ops Q i K' b W := fun h => evAt_sound hS hs h hf hr fun a' L' b' W' hk hf' hr' => hK none a' L' b' W' hk hf' (Inv.none _) hr'
 unfold evAtG at h
 split at h
 ·exact plain h
 ·rename_i o ho
  rw [nth_eq, Array.getElem?_toList] at ho
  have group : (heldG P ops L g a o fun g' a' => c g' a' L).all K → wpOp P ops Q i K' b W := fun h => by
   obtain ⟨g', a', v, h1, h2, h3, h4⟩ := heldG_sound (fun p hp => (hr.blk p hp).1) hf hi h
   exact h1.wpOp ho (fun p hp => (hr.blk p hp).1) (hK _ _ _ _ _ h4 h2 h3 hr)
  split at h
  ·split at h
   ·split at h
    ·exact (litT_spec h).elim plain group
    ·exact group h
   ·exact plain h
  ·split at h
   ·exact group h
   ·exact plain h
  ·exact plain h
theorem evOps_sound (hS : S.holds P) {fn : FuncId} {call : CallE α} (hs : SoundC P w0 keep K call) {ops : Array Oper} {Q : Exit → Act → World → Prop} {c : F → List Blk → T α} : ∀ (l : List Nat) {g : Option G} {a : F} {L : List Blk}, (evOps P S fn call ops c l g a L).all K →
  ∀ {b : Act} {W : World}, RelF a b → Inv g b → Rep w0 keep L W → (∀ a' L' b' W', (c a' L').all K → RelF a' b' → Rep w0 keep L' W' → Q .normal b' W') → wpOps P ops Q l b W
 | [], g, a, L, h, b, W, hf, _, hr, hQ => hQ _ _ _ _ h hf hr
 | i :: rest, g, a, L, h, b, W, hf, hi, hr, hQ => by
   rw [wpOps_cons]
   exact evAtG_sound hS hs (c := evOps P S fn call ops c rest) h hf hi hr (fun g' a' L' b' W' hk hf' hi' hr' => evOps_sound hS hs rest hk hf' hi' hr' hQ)
theorem backAll_sound : ∀ (L0 : List Blk) {L : List Blk} {k : List Blk → T α}, (backAll L0 L k).all K → ∃ l, (∀ b ∈ l, b ∈ L) ∧ (k l).all K
 | [], L, k, h => ⟨[], fun _ h => (by cases h), h⟩
 | p :: ps, L, k, h => by
   simp only [backAll] at h
   obtain ⟨b, j, hj, -, h⟩ := pickT_spec h
   obtain ⟨l, h1, h2⟩ := backAll_sound ps h
   refine ⟨b :: l, fun x hx => ?_, h2⟩
   rcases List.mem_cons.1 hx with rfl | hx
   ·exact List.mem_of_getElem? hj
   ·exact h1 x hx
theorem backTT_sound {L0 L1 : List Blk} {k : T α} (h : (backTT L0 L1 k).all K) : (∀ b ∈ L0, b ∈ L1) ∧ k.all K := by
 obtain ⟨d, d1, h1, h⟩ := h
 obtain ⟨l, h2, h3, h⟩ := backAll_sound _ h
 refine ⟨fun b hb => ?_, h⟩
 rw [← List.take_append_drop d L0] at hb
 rcases List.mem_append.1 hb with hb | hb
 ·rw [tok_blks h3] at hb
  exact h2 b hb
 ·rw [tok_blks h1] at hb
  exact List.mem_of_mem_drop hb
theorem heldT_sound {ops : Array Oper} {m : Nat} {g : Option G} {a : F} {L0 : List Blk} {b : Act} {W0 : World} (h0 : There L0 W0) (hrel : RelF a b) (hi : Inv g b) {i : Nat} {k : Option G → F → T α} (h : (heldT P ops m g a L0 i k).all K) :
  ∃ g' a' o v, ops[i]? = some o ∧ i ∈ readyM ops m ∧ Region.free .any ops (listedOf ops.size m) i = true ∧ YieldsIf P ops (There L0) o v b ∧ RelF a' (b.put o.dst v) ∧ Inv g' (b.put o.dst v) ∧ (k g' a').all K := by
 unfold heldT at h
 split at h
 ·exact h.elim
 rename_i hrd
 have hrd := isReady_spec hrd
 split at h
 ·exact h.elim
 rename_i hf
 split at h
 ·exact h.elim
 rename_i o ho
 have hf := freeM_spec ho hf
 have group : (heldG P ops L0 g a o k).all K → ∃ g' a' o v, ops[i]? = some o ∧ i ∈ readyM ops m ∧ Region.free .any ops (listedOf ops.size m) i = true ∧ YieldsIf P ops (There L0) o v b ∧ RelF a' (b.put o.dst v) ∧ Inv g' (b.put o.dst v) ∧ (k g' a').all K := fun h => by
  obtain ⟨g', a', v, h1, h2, h3, h4⟩ := heldG_sound h0 hrel hi h
  exact ⟨g', a', o, v, ho, hrd, hf, h1, h2, h3, h4⟩
 have fork : (guardT a ops o (fun a => heldV P a L0 o fun v => k none (a.put o.dst v)) (fun a => k none (a.put o.dst undef))).all K → ∃ g' a' o v, ops[i]? = some o ∧ i ∈ readyM ops m ∧ Region.free .any ops (listedOf ops.size m) i = true ∧ YieldsIf P ops (There L0) o v b ∧ RelF a' (b.put o.dst v) ∧ Inv g' (b.put o.dst v) ∧ (k g' a').all K := fun h => by
  obtain ⟨a', hrel', h⟩ := guardT_spec hrel h
  rcases h with ⟨hw, h⟩ | ⟨hw, h⟩
  ·obtain ⟨v, h1, h2⟩ := heldV_sound h0 h
   rw [hrel'.eval] at h1
   exact ⟨_, _, o, v, ho, hrd, hf, .inl ⟨hw, fun W hS => h1 W hS⟩, hrel'.put _ _, Inv.none _, h2⟩
  ·exact ⟨_, _, o, undef, ho, hrd, hf, .inr ⟨hw, rfl⟩, hrel'.put _ _, Inv.none _, h⟩
 split at h
 ·split at h
  ·split at h
   ·exact (litT_spec h).elim fork group
   ·exact group h
  ·exact fork h
 ·exact group h
theorem firstSimple_spec {P : Program} {ops : Array Oper} {m : Nat} {a : F} {b : Act} (hf : RelF a b) : ∀ (rs : List Nat) {i : Nat} {o : Oper} {s : Shape}, firstSimple P ops m a rs = some (i, o, s) →
  i ∈ readyM ops m ∧ ops[i]? = some o ∧ plainOp o = true ∧ FreeAt ops (listedOf ops.size m) i o ∧ ((Region.wanted o (yielded ops b.tmps) = false ∧ s = .act [] undef) ∨ (Region.wanted o (yielded ops b.tmps) = true ∧ shapeOf P (stoOp o) (execOp b.eval o) = some s))
 | [], _, _, _, h => by cases h
 | i :: rest, i', o', s', h => by
   have more : firstSimple P ops m a rest = some (i', o', s') → i' ∈ readyM ops m ∧ ops[i']? = some o' ∧ plainOp o' = true ∧ FreeAt ops (listedOf ops.size m) i' o' ∧ ((Region.wanted o' (yielded ops b.tmps) = false ∧ s' = .act [] undef) ∨ (Region.wanted o' (yielded ops b.tmps) = true ∧ shapeOf P (stoOp o') (execOp b.eval o') = some s')) := fun h => by
    exact firstSimple_spec hf rest h
   unfold firstSimple at h
   split at h
   ·cases h
   ·rename_i o ho
    split at h
    ·exact more h
    ·rename_i hfr
     simp only [Bool.and_eq_true] at hfr
     obtain ⟨hrd, hpl, hfr⟩ := hfr
     have hfr := freeM_spec ho hfr
     have hrd := isReady_spec hrd
     split at h
     ·rename_i hw
      injection h with h
      simp only [Prod.mk.injEq] at h
      obtain ⟨rfl, rfl, rfl⟩ := h
      exact ⟨hrd, ho, hpl, Region.free_spec ho hfr, .inl ⟨by rw [← hf.yielded]; exact hw, rfl⟩⟩
     ·rename_i hw
      split at h
      ·rename_i s hs
       injection h with h
       simp only [Prod.mk.injEq] at h
       obtain ⟨rfl, rfl, rfl⟩ := h
       exact ⟨hrd, ho, hpl, Region.free_spec ho hfr, .inr ⟨by rw [← hf.yielded]; exact hw, by rw [← hf.eval]; exact hs⟩⟩
      ·exact more h
def blkOf (p : Nat × Obj) : Blk := ⟨p.1, .obj p.2, true⟩
def look : List (Nat × Obj) → News
 | [], _ => none
 | (n, o) :: M, k => if k = n then some o else look M k
theorem look_none {M : List (Nat × Obj)} {k : Nat} : look M k = none ↔ k ∉ M.map (·.1) := by
 induction M with
 | nil => simp [look]
 | cons p M ih =>
   simp only [look, List.map_cons, List.mem_cons, not_or]
   split
   ·rename_i h; simp [h]
   ·rename_i h; rw [ih]; exact ⟨fun h1 => ⟨h, h1⟩, fun h1 => h1.2⟩
theorem look_at : ∀ {M : List (Nat × Obj)} {j n : Nat} {o : Obj}, (M.map (·.1)).Nodup → M[j]? = some (n, o) → look M n = some o
 | [], j, n, o, _, h => by cases h
 | p :: M, 0, n, o, _, h => by
   simp only [List.getElem?_cons_zero, Option.some.injEq] at h
   subst h
   simp [look]
 | p :: M, j + 1, n, o, hd, h => by
   rw [List.map_cons, List.nodup_cons] at hd
   have h' : M[j]? = some (n, o) := by simpa using h
   have hm : n ∈ M.map (·.1) := List.mem_map.2 ⟨(n, o), List.mem_of_getElem? h', rfl⟩
   have hne : n ≠ p.1 := fun he => hd.1 (he ▸ hm)
   simp only [look, if_neg hne]
   exact look_at hd.2 h'
theorem look_set : ∀ {M : List (Nat × Obj)} {j n : Nat} {o o' : Obj}, (M.map (·.1)).Nodup → M[j]? = some (n, o) → look (M.set j (n, o')) = putN (look M) n o'
 | [], j, n, o, o', _, h => by cases h
 | p :: M, 0, n, o, o', _, h => by
   simp only [List.getElem?_cons_zero, Option.some.injEq] at h
   subst h
   funext k
   simp only [List.set_cons_zero, look, putN]
   split <;> rfl
 | p :: M, j + 1, n, o, o', hd, h => by
   rw [List.map_cons, List.nodup_cons] at hd
   have h' : M[j]? = some (n, o) := by simpa using h
   have hm : n ∈ M.map (·.1) := List.mem_map.2 ⟨(n, o), List.mem_of_getElem? h', rfl⟩
   have hne : n ≠ p.1 := fun he => hd.1 (he ▸ hm)
   funext k
   simp only [List.set_cons_succ, look, putN]
   rw [look_set hd.2 h']
   simp only [putN]
   by_cases h1 : k = p.1
   ·simp [h1, Ne.symm hne]
   ·by_cases h2 : k = n <;> simp [h1, h2, hne]
theorem map_set_fst : ∀ {M : List (Nat × Obj)} {j n : Nat} {o o' : Obj}, M[j]? = some (n, o) → (M.set j (n, o')).map (·.1) = M.map (·.1)
 | [], j, n, o, o', h => by cases h
 | p :: M, 0, n, o, o', h => by
   simp only [List.getElem?_cons_zero, Option.some.injEq] at h
   subst h
   rfl
 | p :: M, j + 1, n, o, o', h => by
   simp only [List.set_cons_succ, List.map_cons]
   rw [map_set_fst (by simpa using h)]
theorem layN_sound {L0 : List Blk} : ∀ (l : List (Addr × Value)) {M : List (Nat × Obj)} {L : List Blk} {k : List Blk → T α}, (layN M.length l L k).all K → L = M.map blkOf ++ L0 → (M.map (·.1)).Nodup →
  ∃ M' L', stos (look M) l = some (look M') ∧ L' = M'.map blkOf ++ L0 ∧ M'.length = M.length ∧ (M'.map (·.1)).Nodup ∧ (k L').all K
 | [], M, L, k, h, hL, hd => ⟨M, L, rfl, hL, rfl, hd, h⟩
 | p :: r, M, L, k, h, hL, hd => by
   simp only [layN] at h
   obtain ⟨b, j, hj, hb, h⟩ := pickT_spec h
   split at h
   ·rename_i n c t lo hi ow
    split at h
    ·rename_i hlt hs ho
     split at h
     ·rename_i u hu hf
      have h := forceT_spec h
      have hb : p.1.block = n := hb
      have hjm : j < M.length := by simpa using hlt
      rw [hL, List.getElem?_append_left (by simpa using hjm), List.getElem?_map] at hj
      obtain ⟨q, hq, hqe⟩ := Option.map_eq_some_iff.1 hj
      obtain ⟨qn, qo⟩ := q
      simp only [blkOf, Blk.mk.injEq, Cont.obj.injEq] at hqe
      obtain ⟨rfl, rfl, -⟩ := hqe
      have hlook := look_at hd hq
      have h1 := sto1_of (N := look M) (p := p) (by rw [hb]; exact hlook) hs ho hu hf
      rw [hb, ← look_set hd hq] at h1
      have hset : (M.set j (qn, .cells (c.setIfInBounds p.1.off p.2) t (lo, hi))).length = M.length := by simp
      rw [← hset] at h
      obtain ⟨M', L', g1, g2, g3, g4, g5⟩ := layN_sound r (M := M.set j (qn, .cells (c.setIfInBounds p.1.off p.2) t (lo, hi))) h (by
       rw [hL, List.set_append_left _ _ (by simpa using hjm), List.map_set]
       rfl) (by rw [map_set_fst hq]; exact hd)
      refine ⟨M', L', ?_, g2, by rw [g3, hset], g4, g5⟩
      simp only [stos, h1]
      exact g1
     ·exact h.elim
    ·exact h.elim
   ·exact h.elim
theorem evRest_can {ops : Array Oper} {fin : RestE α} {Fin : Nat → Array Bool → Act → News → Prop} {L0 : List Blk} (hFin : ∀ k l a L b M, (fin k l a L).all K → RelF a b → L = M.map blkOf ++ L0 → (M.map (·.1)).Nodup → Fin k (listedOf ops.size l) b (look M)) : ∀ (n : Nat) {td : List Nat} {m : Nat} {a : F} {L : List Blk} {b : Act} {M : List (Nat × Obj)}, (evRest P ops fin n td M.length m a L).all K →
  RelF a b → L = M.map blkOf ++ L0 → (M.map (·.1)).Nodup → CanK P ops Fin n (listedOf ops.size m) b (look M)
 | 0, td, m, a, L, b, M, h, hf, hL, hd => by
   simp only [evRest] at h
   split at h
   ·rename_i hrd
    exact ⟨allPlain_spec hrd, hFin _ _ _ _ _ _ h hf hL hd⟩
   ·exact h.elim
 | n + 1, td, m, a, L, b, M, h, hf, hL, hd => by
   simp only [evRest] at h
   split at h
   ·rename_i hrd
    exact .inl ⟨allPlain_spec hrd, hFin _ _ _ _ _ _ h hf hL hd⟩
   ·split at h
    ·rename_i i o l v hs
     obtain ⟨h1, h2, hp, h3, h4⟩ := firstSimple_spec hf _ hs
     obtain ⟨M', L', g1, g2, g3, g4, g5⟩ := layN_sound l h hL hd
     rw [← g3] at g5
     refine .inr ⟨i, o, .act l v, h2, hp, by rw [readyM_eq]; exact h1, h3, ?_, look M', g1, by rw [listedOf_set]; exact evRest_can hFin n g5 (hf.put _ _) g2 g4⟩
     rcases h4 with ⟨hw, he⟩ | ⟨hw, he⟩
     ·injection he with he1 he2; exact .inr ⟨hw, he1, he2⟩
     ·obtain ⟨q1, nx, q2, q3⟩ := shapeOf_act he
      exact .inl ⟨hw, q1, nx, q2, q3⟩
    ·rename_i i o c k hs
     obtain ⟨h1, h2, hp, h3, h4⟩ := firstSimple_spec hf _ hs
     rcases h4 with ⟨hw, he⟩ | ⟨hw, he⟩
     ·cases he
     have hv : ∀ b, ∃ v, pureOf P (k b) = some v ∧ (evRest P ops fin n (dropOne i td) (M.length + 1) (m ||| 1 <<< i) (a.put o.dst v) (⟨b, .obj c, true⟩ :: L)).all K := fun b => by
      have hm := h ⟨b, 0, false, undef, []⟩
      dsimp only at hm
      split at hm
      ·rename_i v hp
       exact ⟨v, hp, hm⟩
      ·exact hm.elim
     refine .inr ⟨i, o, .new c (fun m => (pureOf P (k m)).getD undef), h2, hp, by rw [readyM_eq]; exact h1, h3, ⟨hw, k, shapeOf_new he, fun b => ?_⟩, fun b hm => ?_⟩
     ·obtain ⟨v, hp, -⟩ := hv b
      simp only [hp, Option.getD_some]
     ·obtain ⟨v, hp, hmm⟩ := hv b
      simp only [hp, Option.getD_some]
      rw [listedOf_set]
      have := evRest_can hFin n (M := (b, c) :: M) hmm (hf.put _ _) (by rw [hL]; rfl) (by rw [List.map_cons, List.nodup_cons]; exact ⟨look_none.1 hm, hd⟩)
      exact this
    ·exact h.elim
theorem Rep.grown {w1 W : World} {L L' : List Blk} {M : List (Nat × Obj)} (hr : Rep w0 keep L w1) (hg : Grown w1 (look M) W) (hd : (M.map (·.1)).Nodup) (hL : L' = M.map blkOf ++ L) : Rep w0 keep L' W := by
 have hlt : ∀ p ∈ L, p.nm < w1.heap.size := fun p hp => by
  obtain ⟨o, ho⟩ := Cont.some_of (hr.blk p hp).1
  exact (Array.getElem?_eq_some_iff.1 ho).1
 have hblk : ∀ q ∈ M, w1.heap.size ≤ q.1 ∧ W.heap[q.1]? = some q.2 := fun q hq => by
  obtain ⟨j, hj⟩ := List.mem_iff_getElem?.1 hq
  exact hg.blk _ _ (look_at hd hj)
 refine ⟨hg.os.trans hr.os, hg.tape.trans hr.tape, hg.output.trans hr.output, Nat.le_trans hr.size hg.size, fun k hk hkeep => (hg.old k (Nat.lt_of_lt_of_le hk hr.size)).trans (hr.old k hk hkeep), fun p hp => ?_, ?_⟩
 ·rw [hL] at hp
  rcases List.mem_append.1 hp with hp | hp
  ·obtain ⟨q, hq, rfl⟩ := List.mem_map.1 hp
   obtain ⟨h1, h2⟩ := hblk q hq
   refine ⟨h2, fun _ h3 => ?_⟩
   have := hr.size
   simp only [blkOf] at h3
   omega
  ·refine ⟨?_, (hr.blk p hp).2⟩
   rw [hg.old _ (hlt p hp)]
   exact (hr.blk p hp).1
 ·rw [hL, List.pairwise_append]
  refine ⟨?_, hr.far, fun p hp q hq => ?_⟩
  ·rw [List.pairwise_map]
   have := hd
   rw [List.Nodup, List.pairwise_map] at this
   refine this.imp fun {x y} hne => ?_
   exact fun _ => hne
  ·obtain ⟨p', hp', rfl⟩ := List.mem_map.1 hp
   have h1 := (hblk p' hp').1
   have h2 := hlt q hq
   exact fun _ => by simp only [blkOf]; omega
theorem waitM_spec {ops : Array Oper} {f i : Nat} (hi : i < ops.size) (h : (waitM ops f).testBit i = true) : ∃ of, ops[f]? = some of ∧ ∃ e ∈ of.after, Region.binds .any e = true ∧ e.on = i := by
 unfold waitM at h
 split at h
 ·rename_i of ho
  simp only [orAll_testBit] at h
  obtain ⟨e, he, hk⟩ := h
  split at hk
  ·rename_i hb
   injection hk with hk
   exact ⟨of, ho, e, by simpa using he, hb, hk⟩
  ·cases hk
 ·rw [testBit_one_shift, decide_eq_true_eq] at h
  omega
theorem waitM_of {ops : Array Oper} {f : Nat} {of : Oper} (ho : ops[f]? = some of) {e : Edge} (he : e ∈ of.after) (hb : Region.binds .any e = true) : (waitM ops f).testBit e.on = true := by
 unfold waitM
 rw [ho]
 simp only [orAll_testBit]
 exact ⟨e, by simpa using he, by rw [hb]⟩
theorem orWaits_spec {ops : Array Oper} {acc i : Nat} : ∀ {l : List Nat}, (orWaits ops acc l).testBit i = true → acc.testBit i = true ∨ ∃ j, acc.testBit j = true ∧ (waitM ops j).testBit i = true
 | [], h => .inl h
 | j :: r, h => by
   unfold orWaits at h
   rw [tb_eq] at h
   split at h
   ·rename_i hj
    change ((waitM ops j) ||| (orWaits ops acc r)).testBit i = true at h
    rw [Nat.testBit_or, Bool.or_eq_true] at h
    rcases h with h | h
    ·exact .inr ⟨j, hj, h⟩
    ·exact orWaits_spec h
   ·exact orWaits_spec h
theorem closM_spec {ops : Array Oper} {f : Nat} : ∀ (n : Nat) {acc : Nat}, (∀ i, i < ops.size → acc.testBit i = true → Waits ops i f) → ∀ i, i < ops.size → (closM ops n acc).testBit i = true → Waits ops i f
 | 0, _, h => h
 | n + 1, acc, h => by
   unfold closM
   split
   ·exact h
   ·refine closM_spec n fun i hlt hi => ?_
    rcases orWaits_spec hi with hi | ⟨j, hj, hi⟩
    ·exact h i hlt hi
    ·obtain ⟨oj, ho, e, he, hb, hon⟩ := waitM_spec hlt hi
     exact Waits.trans (.direct ho he hb hon) (h j (Array.getElem?_eq_some_iff.1 ho).1 hj)
theorem finM_spec {ops : Array Oper} {i : Nat} (hlt : i < ops.size) : ∀ {fs : List Nat}, (finM ops fs).testBit i = true → ∀ f ∈ fs, Waits ops i f
 | [], _ => fun _ h => by cases h
 | g :: r, h => by
   change ((closW ops g) &&& (finM ops r)).testBit i = true at h
   rw [Nat.testBit_and, Bool.and_eq_true] at h
   intro f hf
   rcases List.mem_cons.1 hf with rfl | hf
   ·refine closM_spec _ (fun i hlt hi => ?_) i hlt h.1
    obtain ⟨oj, ho, e, he, hb, hon⟩ := waitM_spec hlt hi
    exact .direct ho he hb hon
   ·exact finM_spec hlt h.2 f hf
theorem closed_zero (ops : Array Oper) : ClosedL ops (listedOf ops.size 0) := fun j oj hj hl => by
 rw [listedOf_getD] at hl
 split at hl <;> simp at hl
theorem closedM_spec {ops : Array Oper} {m : Nat} (h : closedM ops m = true) : ClosedL ops (listedOf ops.size m) := fun j oj hj hl e he hb => by
 rw [listedOf_getD] at hl ⊢
 split at hl
 ·rename_i hlt
  simp only [closedM, List.all_eq_true, List.mem_range, tb_eq] at h
  have h1 := h j hlt
  rw [hl] at h1
  simp only [Bool.not_true, Bool.false_or, Bool.and_eq_true] at h1
  have hw := waitM_of hj he hb
  have h2 := subM_spec.1 h1.2 _ hw
  have h3 : waitM ops j < 1 <<< ops.size := by
   have := h1.1
   rwa [Nat.blt_eq] at this
  rw [if_pos]
  ·exact h2
  ·refine Nat.lt_of_not_le fun hle => ?_
   rw [Nat.testBit_lt_two_pow (Nat.lt_of_lt_of_le h3 (by rw [Nat.one_shiftLeft]; exact Nat.pow_le_pow_right (by omega) hle))] at hw
   cases hw
 ·cases hl
def RestS (P : Program) (w0 : World) (keep : Nat → Prop) (K : α → Prop) (ops : Array Oper) (fs : List Nat) (L0 : List Blk) (c : F → List Blk → T α) (rest : RestE α) : Prop :=
 ∀ (n m : Nat) (a : F) (L : List Blk) (Q : Exit → Act → World → Prop), (∀ c a w, ¬ Q (.panic c) a w) → (rest n m a L).all K → ClosedL ops (listedOf ops.size m) → ∀ (b : Act) (W : World), RelF a b → Rep w0 keep L W → There L0 W →
  (∀ a' L' b' W', (c a' L').all K → RelF a' b' → Rep w0 keep L' W' → Q .normal b' W') → wpAnyX P ops Q (There L0) (fun j => j ∈ fs) n (listedOf ops.size m) b W
theorem evRest_sound {ops : Array Oper} {fs : List Nat} (hns : Region.noSelect ops = true) {L0 : List Blk} {c : F → List Blk → T α} {fin : RestE α} (hf0 : RestS P w0 keep K ops fs L0 c fin) (m : Nat) (hord : ordered ops (listedOf ops.size m) = true) (hch : chained ops (listedOf ops.size m) = true) (n : Nat) (td : List Nat) (a : F) (L : List Blk) (Q : Exit → Act → World → Prop) (hQ0 : ∀ c a w, ¬ Q (.panic c) a w) (h : (evRest P ops (fun n m a L => match closedM ops m with
  | true => fin n m a L
  | false => .fail) n td 0 m a L).all K) (b : Act) (W : World) (hf : RelF a b) (hr : Rep w0 keep L W) (hS : There L0 W)
  (hQ : ∀ a' L' b' W', (c a' L').all K → RelF a' b' → Rep w0 keep L' W' → Q .normal b' W') : wpAnyX P ops Q (There L0) (fun j => j ∈ fs) n (listedOf ops.size m) b W := by
 have hthere : ∀ N W', Grown W N W' → There L0 W' := fun N W' hg p hp => by
  have h1 := hS p hp
  obtain ⟨o, ho⟩ := Cont.some_of h1
  rw [hg.old _ (Array.getElem?_eq_some_iff.1 ho).1]
  exact h1
 refine canK_any hns (w1 := W) (N := look []) hthere n (ordered_spec hord) (chained_spec hch) (evRest_can (L0 := L) (M := []) (fun k l a' L' b' M hk hf' hL hd W' hg => ?_) n h hf rfl List.nodup_nil) ⟨rfl, rfl, rfl, Nat.le_refl _, fun _ _ => rfl, fun _ _ hp => (by cases hp)⟩
 split at hk
 ·rename_i hcm
  exact hf0 k l a' L' Q hQ0 hk (closedM_spec hcm) b' W' hf' (hr.grown hg hd hL) (hthere _ W' hg) hQ
 ·exact hk.elim
theorem evFin_sound (hSS : S.holds P) {fn : FuncId} {call : CallE α} (hs : SoundC P w0 keep K call) {ops : Array Oper} {fs : List Nat} {L0 : List Blk} {c : F → List Blk → T α} :
  ∀ (n : Nat) (m : Nat) (a : F) (L : List Blk) (Q : Exit → Act → World → Prop), (evFin P S fn call ops fs c n m a L).all K →
  ∀ (b : Act) (W : World), RelF a b → Rep w0 keep L W → (∀ a' L' b' W', (c a' L').all K → RelF a' b' → Rep w0 keep L' W' → Q .normal b' W') → wpAnyX P ops Q (There L0) (fun j => j ∈ fs) n (listedOf ops.size m) b W
 | 0, m, a, L, Q, h, b, W, hf, hr, hQ => by
   simp only [evFin] at h
   split at h
   ·rename_i hrd
    exact wpAnyX_done (by rw [readyM_eq]; exact hrd) (hQ _ _ _ _ h hf hr) 0
   ·exact h.elim
 | n + 1, m, a, L, Q, h, b, W, hf, hr, hQ => by
   simp only [evFin] at h
   split at h
   ·rename_i hrd
    exact wpAnyX_done (by rw [readyM_eq]; exact hrd) (hQ _ _ _ _ h hf hr) (n + 1)
   ·rename_i i r hrd
    refine wpAnyX_all (rs := i :: r) (by rw [readyM_eq]; exact hrd) (by simp) fun k hk => ?_
    have h := outsT_all h k hk
    split at h
    ·rename_i hkf
     refine evAt_sound hSS hs h hf hr (fun a' L' b' W' hk hf' hr' => ?_)
     exact ⟨.inl (by simpa using hkf), by rw [listedOf_set]; exact evFin_sound hSS hs n _ _ _ Q hk _ _ hf' hr' hQ⟩
    ·exact h.elim
theorem rep_hide {L : List Blk} {W : World} {H : Nat → Prop} (hr : Rep w0 keep L W) (hown : ∀ p ∈ L, p.own = true → ¬ H p.nm) : Rep W (fun k => (k < w0.heap.size ∧ keep k) ∨ H k) L W :=
 ⟨rfl, rfl, rfl, Nat.le_refl _, fun _ _ _ => rfl, fun p hp => ⟨(hr.blk p hp).1, fun ho _ hk => hk.elim (fun h => (hr.blk p hp).2 ho h.1 h.2) (hown p hp ho)⟩, hr.far⟩
theorem rep_show {L L' : List Blk} {W W' : World} {H : Nat → Prop} (hr : Rep w0 keep L W) (hH : ∀ k, H k → k < W.heap.size) (h : Rep W (fun k => (k < w0.heap.size ∧ keep k) ∨ H k) L' W') :
  Rep w0 keep L' W' ∧ (∀ k, H k → W'.heap[k]? = W.heap[k]?) ∧ (∀ p ∈ L', p.own = true → ¬ H p.nm) ∧ W.heap.size ≤ W'.heap.size := by
 refine ⟨⟨h.os.trans hr.os, h.tape.trans hr.tape, h.output.trans hr.output, Nat.le_trans hr.size h.size, fun k hk hkp => (h.old k (Nat.lt_of_lt_of_le hk hr.size) (.inl ⟨hk, hkp⟩)).trans (hr.old k hk hkp), fun p hp => ⟨(h.blk p hp).1, fun ho hlt hkp => (h.blk p hp).2 ho (Nat.lt_of_lt_of_le hlt hr.size) (.inl ⟨hlt, hkp⟩)⟩, h.far⟩, fun k hk => h.old k (hH k hk) (.inr hk), fun p hp ho hk => (h.blk p hp).2 ho (hH _ hk) (.inr hk), h.size⟩
theorem RelF.over {f : F} {a : Act} {d : Nat} {v u : Value} (h : RelF (f.put (some d) v) a) : RelF (f.put (some d) u) (a.put (some d) u) := by
 have h2 := h.put (some d) u
 obtain ⟨n, w⟩ := f
 have e : ∀ w : List (Nat × Value), F.put ⟨n, w⟩ (some d) u = match Nat.blt d n with
   | true => ⟨n, (d, u) :: w⟩
   | false => ⟨n, w⟩ := fun _ => rfl
 have e2 : F.put ⟨n, w⟩ (some d) v = match Nat.blt d n with
   | true => ⟨n, (d, v) :: w⟩
   | false => ⟨n, w⟩ := rfl
 rw [e2] at h2
 rw [e w]
 split at h2
 ·rename_i hb
  have e3 : F.put ⟨n, (d, v) :: w⟩ (some d) u = ⟨n, (d, u) :: (d, v) :: w⟩ := by rw [e, hb]
  rw [e3] at h2
  refine ⟨h2.defers, h2.size, fun t => ?_⟩
  rw [h2.get t]
  show getW ((d, u) :: (d, v) :: w) t = getW ((d, u) :: w) t
  rw [getW_cons, getW_cons, getW_cons]
  split <;> rfl
 ·rename_i hb
  have e3 : F.put ⟨n, w⟩ (some d) u = ⟨n, w⟩ := by rw [e, hb]
  rw [e3] at h2
  exact h2
theorem oldT_spec {Ls : List Blk} {k : T α} : ∀ {L : List Blk}, (oldT Ls L k).all K → (∀ p ∈ L, p.own = false → ∃ q ∈ Ls, q.nm = p.nm) ∧ k.all K
 | [], h => ⟨fun _ h => (by cases h), h⟩
 | p :: r, h => by
   unfold oldT at h
   split at h
   ·rename_i ho
    obtain ⟨h1, h2⟩ := oldT_spec h
    refine ⟨fun q hq hno => ?_, h2⟩
    rcases List.mem_cons.1 hq with rfl | hq
    ·rw [ho] at hno; cases hno
    ·exact h1 q hq hno
   ·obtain ⟨b, j, hj, hb, h⟩ := pickT_spec h
    obtain ⟨h1, h2⟩ := oldT_spec h
    refine ⟨fun q hq hno => ?_, h2⟩
    rcases List.mem_cons.1 hq with rfl | hq
    ·exact ⟨b, List.mem_of_getElem? hj, hb.symm⟩
    ·exact h1 q hq hno
theorem oldTT_spec {Ls L : List Blk} {k : T α} (h : (oldTT Ls L k).all K) : (∀ p ∈ L, p.own = false → ∃ q ∈ Ls, q.nm = p.nm) ∧ k.all K := by
 rcases two_spec h with h | h
 ·exact oldT_spec h
 ·obtain ⟨d, d1, h1, h⟩ := h
  obtain ⟨h2, h⟩ := oldT_spec h
  refine ⟨fun p hp hno => ?_, h⟩
  rw [← List.take_append_drop d L] at hp
  rcases List.mem_append.1 hp with hp | hp
  ·exact h2 p hp hno
  ·rw [tok_blks h1] at hp
   exact ⟨p, List.mem_of_mem_drop hp, rfl⟩
theorem eqN_spec : ∀ {l r : List Nat}, eqN l r = true → l = r
 | [], [], _ => rfl
 | [], _ :: _, h => by cases h
 | _ :: _, [], h => by cases h
 | a :: l, b :: r, h => by
   unfold eqN at h
   split at h
   ·rename_i hb
    rw [Nat.eq_of_beq_eq_true hb, eqN_spec h]
   ·cases h
theorem mem_dropOne {i k : Nat} (hne : k ≠ i) : ∀ {l : List Nat}, k ∈ l → k ∈ dropOne i l
 | [], h => by cases h
 | j :: r, h => by
   unfold dropOne
   split
   ·rename_i hb
    have hb := Nat.eq_of_beq_eq_true hb
    rcases List.mem_cons.1 h with rfl | h
    ·exact absurd hb.symm hne
    ·exact h
   ·rcases List.mem_cons.1 h with rfl | h
    ·exact List.mem_cons_self
    ·exact List.mem_cons_of_mem _ (mem_dropOne hne h)
theorem dropOne_sub {i k : Nat} : ∀ {l : List Nat}, k ∈ dropOne i l → k ∈ l
 | [], h => by cases h
 | j :: r, h => by
   unfold dropOne at h
   split at h
   ·exact List.mem_cons_of_mem _ h
   ·rcases List.mem_cons.1 h with rfl | h
    ·exact List.mem_cons_self
    ·exact List.mem_cons_of_mem _ (dropOne_sub h)
def allocS (t : TypeId) : Sem Next := (((((Sem.program fun p => Sem.pure p).bind fun p => match p.info? t with
 | some i => (Sem.pure i : Sem TypeInfo)
 | none => stuck "no such type").bind fun i => match i.zero with
 | some v => (Sem.pure v : Sem Value)
 | none => unsupported (.resourceLimit "a value of more than 2^22 cells")).bind fun z => (((Sem.new (.cells z.cells t) fun r => Sem.pure r).bind fun r => Sem.pure (⟨r, 0, none⟩ : Addr)).bind fun ad => Sem.pure (Value.pointer (some ad)))).bind fun v => Sem.pure (Next.value v))
theorem alloc_wp {ops : Array Oper} {i d t : Nat} {z : Array Value} (h : allocOf P ops i = some (d, t, z)) {b : Act} {W : World} {Q : Exit → Act → World → Prop} {K' : Act → World → Prop}
  (hK : K' (b.put (some d) (.pointer (some ⟨W.heap.size, 0, none⟩))) { W with heap := W.heap.push (.cells z t (0, 0)) }) : wpOp P ops Q i K' b W := by
 unfold allocOf at h
 split at h
 ·rename_i o ho
  split at h
  ·rename_i d' t' hg hd hop
   split at h
   ·rename_i inf hi
    split at h
    ·rename_i zz hz
     injection h with h
     simp only [Prod.mk.injEq] at h
     obtain ⟨rfl, rfl, rfl⟩ := h
     have hw : Region.wanted o (yielded ops b.tmps) = true := by unfold Region.wanted; simp only [hg]
     have ex : execOp b.eval o = allocS t' := by
      unfold execOp
      rw [hop]
      rfl
     have hrun : (execOp b.eval o).run P W = .ok (.value (.pointer (some ⟨W.heap.size, 0, none⟩))) { W with heap := W.heap.push (.cells zz.cells t' (0, 0)) } := by
      rw [ex]
      show ((((match P.info? t' with
       | some i => (Sem.pure i : Sem TypeInfo)
       | none => stuck "no such type").bind fun i => match i.zero with
       | some v => (Sem.pure v : Sem Value)
       | none => unsupported (.resourceLimit "a value of more than 2^22 cells")).bind fun z => (((Sem.new (.cells z.cells t') fun r => Sem.pure r).bind fun r => Sem.pure (⟨r, 0, none⟩ : Addr)).bind fun ad => Sem.pure (Value.pointer (some ad)))).bind fun v => Sem.pure (Next.value v)).run P W = _
      rw [hi]
      show (((match inf.zero with
       | some v => (Sem.pure v : Sem Value)
       | none => unsupported (.resourceLimit "a value of more than 2^22 cells")).bind fun z => (((Sem.new (.cells z.cells t') fun r => Sem.pure r).bind fun r => Sem.pure (⟨r, 0, none⟩ : Addr)).bind fun ad => Sem.pure (Value.pointer (some ad)))).bind fun v => Sem.pure (Next.value v)).run P W = _
      rw [hz]
      rfl
     unfold wpOp
     simp only [ho, hw, if_true]
     left
     unfold Oper.wp
     rw [hrun]
     show K' (b.put o.dst _) _
     rw [hd]
     exact hK
    ·cases h
   ·cases h
  ·cases h
 ·cases h
structure Fl (w0 : World) (keep : Nat → Prop) (x : Obj) (d : Nat) (Ls L0 : List Blk) (st : Option Nat) (a : F) (L : List Blk) (b : Act) (W : World) : Prop where
 rel : ∃ v, RelF (a.put (some d) v) b ∧ ∀ nb, st = some nb → v = .pointer (some ⟨nb, 0, none⟩)
 rep : Rep w0 keep L W
 there : There L0 W
 old : ∀ q ∈ Ls, q.nm < W.heap.size ∧ st ≠ some q.nm
 hid : ∀ nb, st = some nb → W.heap[nb]? = some x ∧ w0.heap.size ≤ nb
 own : ∀ p ∈ L, p.own = true → st ≠ some p.nm
section fl
variable {x : Obj} {d : Nat} {Ls L0 : List Blk} {a : F} {L : List Blk} {b : Act} {W : World}
theorem Fl.hide {st : Option Nat} (h : Fl w0 keep x d Ls L0 st a L b W) : Rep W (fun k => (k < w0.heap.size ∧ keep k) ∨ st = some k) L W := rep_hide (H := fun k => st = some k) h.rep h.own
theorem Fl.show {st : Option Nat} (h : Fl w0 keep x d Ls L0 st a L b W) {a' : F} {L' : List Blk} {b' : Act} {W' : World} (hr : Rep W (fun k => (k < w0.heap.size ∧ keep k) ∨ st = some k) L' W') {v : Value} (hf : RelF a' b') (hv : a'.get d = v) (hp : ∀ nb, st = some nb → v = .pointer (some ⟨nb, 0, none⟩)) (ht : There L0 W') : Fl w0 keep x d Ls L0 st a' L' b' W' := by
 have hH : ∀ k, st = some k → k < W.heap.size := fun k hk => (Array.getElem?_eq_some_iff.1 (h.hid k hk).1).1
 obtain ⟨g1, g2, g3, g4⟩ := rep_show (H := fun k => st = some k) h.rep hH hr
 exact ⟨⟨v, hf.same hv, hp⟩, g1, ht, fun q hq => ⟨Nat.lt_of_lt_of_le (h.old q hq).1 g4, (h.old q hq).2⟩, fun nb hnb => ⟨(g2 nb hnb).trans (h.hid nb hnb).1, (h.hid nb hnb).2⟩, g3⟩
theorem Fl.still {st : Option Nat} (h : Fl w0 keep x d Ls L0 st a L b W) {a' : F} {b' : Act} {v : Value} (hf : RelF a' b') (hv : a'.get d = v) (hp : ∀ nb, st = some nb → v = .pointer (some ⟨nb, 0, none⟩)) : Fl w0 keep x d Ls L0 st a' L b' W :=
 ⟨⟨v, hf.same hv, hp⟩, h.rep, h.there, h.old, h.hid, h.own⟩
theorem Fl.done (h : Fl w0 keep x d Ls L0 none a L b W) : Fl w0 keep x d Ls L0 (some W.heap.size) a L (b.put (some d) (.pointer (some ⟨W.heap.size, 0, none⟩))) { W with heap := W.heap.push x } := by
 obtain ⟨v, hv, -⟩ := h.rel
 have hp := h.rep.push x
 have hp' : Rep w0 keep L { W with heap := W.heap.push x } := hp.sub (List.sublist_cons_self _ _)
 refine ⟨⟨_, hv.over, fun nb hnb => by injection hnb with hnb; rw [hnb]⟩, hp', fun p hpm => ?_, fun q hq => ?_, fun nb hnb => ?_, fun p hpm _ he => ?_⟩
 ·have h1 := h.there p hpm
  obtain ⟨o, ho⟩ := Cont.some_of h1
  have hlt := (Array.getElem?_eq_some_iff.1 ho).1
  show p.ct.sat (W.heap.push x)[p.nm]?
  rw [Array.getElem?_push, if_neg (by omega)]
  exact h1
 ·have := (h.old q hq).1
  refine ⟨?_, fun he => ?_⟩
  ·show q.nm < (W.heap.push x).size
   rw [Array.size_push]
   omega
  ·injection he with he
   omega
 ·injection hnb with hnb
  subst hnb
  refine ⟨?_, h.rep.size⟩
  show (W.heap.push x)[W.heap.size]? = some x
  rw [Array.getElem?_push, if_pos rfl]
 ·injection he with he
  have := h.rep.lt hpm
  omega
theorem Fl.told {nb : Nat} (h : Fl w0 keep x d Ls L0 (some nb) a L b W) (hold : ∀ p ∈ L, p.own = false → ∃ q ∈ Ls, q.nm = p.nm) : RelF (a.put (some d) (.pointer (some ⟨nb, 0, none⟩))) b ∧ Rep w0 keep (⟨nb, .obj x, true⟩ :: L) W := by
 obtain ⟨v, hv, hp⟩ := h.rel
 rw [hp nb rfl] at hv
 obtain ⟨h1, h2⟩ := h.hid nb rfl
 refine ⟨hv, h.rep.os, h.rep.tape, h.rep.output, h.rep.size, h.rep.old, fun p hpm => ?_, ?_⟩
 ·rcases List.mem_cons.1 hpm with rfl | hpm
  ·refine ⟨h1, fun _ hlt => ?_⟩
   simp only at hlt
   omega
  ·exact h.rep.blk p hpm
 ·rw [List.pairwise_cons]
  refine ⟨fun q hq _ he => ?_, h.rep.far⟩
  have he : nb = q.nm := he
  cases ho : q.own with
  | true => exact h.own q hq ho (by rw [he])
  | false =>
    obtain ⟨p, hp1, hp2⟩ := hold q hq ho
    exact (h.old p hp1).2 (by rw [hp2, he])
end fl
theorem or_swap (m i j : Nat) : m ||| 1 <<< i ||| 1 <<< j = m ||| 1 <<< j ||| 1 <<< i := by
 refine Nat.eq_of_testBit_eq fun k => ?_
 simp only [Nat.testBit_or]
 cases m.testBit k <;> cases (1 <<< i).testBit k <;> cases (1 <<< j).testBit k <;> rfl
theorem evFl_sound (hSS : S.holds P) {fn : FuncId} {call : CallE α} (hs : ∀ w0 keep, SoundC P w0 keep K call) {ops : Array Oper} (hns : Region.noSelect ops = true) {fs : List Nat} {fw : Nat} (hfw : ∀ j, j < ops.size → fw.testBit j = true → ∀ f ∈ fs, Waits ops j f) {L0 : List Blk} {bk : List Blk → List Blk} (hbk : ∀ L p, p ∈ bk L → p ∈ L)
  {c : F → List Blk → T α} {i d t : Nat} {z : Array Value} (hal : allocOf P ops i = some (d, t, z)) {Ls : List Blk} {fin : RestE α} (hfin : RestS P w0 keep K ops fs L0 c fin) :
  ∀ (n : Nat) (m : Nat) (a : F) (L : List Blk) (Q : Exit → Act → World → Prop), (∀ c a w, ¬ Q (.panic c) a w) → (evFl P S fn call ops fw L0 bk i d (.cells z t (0, 0)) Ls fin n m a L).all K → ClosedL ops (listedOf ops.size m) → i ∈ readyM ops m →
  (∀ a' L' b' W', (c a' L').all K → RelF a' b' → Rep w0 keep L' W' → Q .normal b' W') →
   (∀ nb b W, Fl w0 keep (.cells z t (0, 0)) d Ls L0 (some nb) a L b W → wpAnyX P ops Q (There L0) (fun j => j ∈ fs) (n - 1) (listedOf ops.size (m ||| 1 <<< i)) b W) ∧
   (∀ b W, Fl w0 keep (.cells z t (0, 0)) d Ls L0 none a L b W → wpAnyX P ops Q (There L0) (fun j => j ∈ fs) n (listedOf ops.size m) b W)
 | 0, m, a, L, Q, hQ0, h, _, _, _ => h.elim
 | n + 1, m, a, L, Q, hQ0, h, hcl, hir, hQ => by
   simp only [evFl, tb_eq] at h
   obtain ⟨j, h⟩ := h
   dsimp only at h
   have hil : ClosedL ops (listedOf ops.size (m ||| 1 <<< i)) := by rw [← listedOf_set]; exact hcl.set (by rw [readyM_eq]; exact hir)
   have next : ∀ {k : Nat}, k ∈ readyM ops m → k ≠ i → ClosedL ops (listedOf ops.size (m ||| 1 <<< k)) ∧ i ∈ readyM ops (m ||| 1 <<< k) := fun {k} hk hne => by
    refine ⟨by rw [← listedOf_set]; exact hcl.set (by rw [readyM_eq]; exact hk), ?_⟩
    rw [← readyM_eq, ← listedOf_set]
    exact ready_mono (by rw [readyM_eq]; exact hir) (Ne.symm hne)
   split at h
   ·
    split at h
    ·exact h.elim
    ·rename_i hji
     simp only [Bool.or_eq_false_iff] at hji
     obtain ⟨hji, hn0⟩ := hji
     have hji : j ≠ i := fun he => by rw [he, Nat.beq_refl] at hji; cases hji
     obtain ⟨n', rfl⟩ : ∃ n', n = n' + 1 := by
      cases n with
      | zero => simp at hn0
      | succ n' => exact ⟨n', rfl⟩
     have both : ∀ (st : Option Nat) (b : Act) (W : World), Fl w0 keep (.cells z t (0, 0)) d Ls L0 st a L b W → ∃ o v, ops[j]? = some o ∧ j ∈ readyM ops m ∧ Region.free .any ops (listedOf ops.size m) j = true ∧ (YieldsIf P ops (There []) o v b ∨ (YieldsIf P ops (There L0) o v b ∧ ∀ f of, f ∈ fs → ops[f]? = some of → Waits ops j f)) ∧ ∃ a', Fl w0 keep (.cells z t (0, 0)) d Ls L0 st a' L (b.put o.dst v) W ∧ (evFl P S fn call ops fw L0 bk i d (.cells z t (0, 0)) Ls fin (n' + 1) (m ||| 1 <<< j) a' L).all K := fun st b W hF => by
      obtain ⟨v, hv, hp⟩ := hF.rel
      have h := h ⟨0, 0, false, v, []⟩
      dsimp only at h
      split at h
      ·obtain ⟨g', a', o, v', ho, hmem, hfr, hy, hf', hi', he, h⟩ := heldT_sound (W0 := W) (fun _ hp => (by cases hp)) hv (Inv.none b) h
       exact ⟨o, v', ho, hmem, hfr, .inl hy, a', hF.still hf' (tok_val he) hp, h⟩
      ·rename_i hfb
       obtain ⟨g', a', o, v', ho, hmem, hfr, hy, hf', hi', he, h⟩ := heldT_sound hF.there hv (Inv.none b) h
       exact ⟨o, v', ho, hmem, hfr, .inr ⟨hy, fun f of hf hof => hfw _ (Array.getElem?_eq_some_iff.1 ho).1 hfb f hf⟩, a', hF.still hf' (tok_val he) hp, h⟩
     constructor
     ·intro nb b W hF
      obtain ⟨o, v, ho, hmem, hfr, hy, a', hF', h⟩ := both _ b W hF
      have ih := (evFl_sound hSS hs hns hfw hbk hal hfin (n' + 1) (m ||| 1 <<< j) a' L Q hQ0 h (next hmem hji).1 (next hmem hji).2 hQ).1 nb _ _ hF'
      have hfr' := Region.free_spec ho hfr
      have hr' : j ∈ Region.ready .any ops (listedOf ops.size (m ||| 1 <<< i)) := by
       rw [← listedOf_set]
       exact ready_mono (by rw [readyM_eq]; exact hmem) hji
      have hfr2 : ∀ k ok, ops[k]? = some ok → k ≠ j → (listedOf ops.size (m ||| 1 <<< i)).getD k true = false → (∀ e ∈ ok.after, Region.binds .any e = true → e.on ≠ j) → o.apart ops ok = true := fun k ok hk hkj hun hno => by
       rw [← listedOf_set] at hun
       exact hfr' k ok hk hkj (getD_set_of hun) hno
      rcases hy with hy | ⟨hy, hw⟩
      ·refine wpAnyX_firstP ho (Region.noSelect_spec hns) (fun c b w hq => (hQ0 c _ w hq).elim) n' _ _ _ hfr2 hr' (hy.imp (fun h => ⟨h.1, fun W _ => h.2 W fun _ hp => (by cases hp)⟩) id) ?_
       rw [listedOf_set, or_swap]
       exact ih
      ·refine wpAnyX_first ho (Region.noSelect_spec hns) (fun c b w hq => (hQ0 c _ w hq).elim) hw n' _ _ _ hil hfr2 hr' hy hF.there ?_
       rw [listedOf_set, or_swap]
       exact ih
     ·intro b W hF
      obtain ⟨o, v, ho, hmem, hfr, hy, a', hF', h⟩ := both _ b W hF
      have ih := (evFl_sound hSS hs hns hfw hbk hal hfin (n' + 1) (m ||| 1 <<< j) a' L Q hQ0 h (next hmem hji).1 (next hmem hji).2 hQ).2 _ _ hF'
      rw [← listedOf_set] at ih
      rcases hy with hy | ⟨hy, hw⟩
      ·exact wpAnyX_takeP ho hns hfr (by rw [readyM_eq]; simpa using hmem) (fun c b w hq => (hQ0 c _ w hq).elim) (hy.imp (fun h => ⟨h.1, fun W _ => h.2 W fun _ hp => (by cases hp)⟩) id) ih
      ·exact wpAnyX_take ho hns hfr (by rw [readyM_eq]; simpa using hmem) (fun c b w hq => (hQ0 c _ w hq).elim) hw hcl hy hF.there ih
   ·split at h
    ·
     split at h
     ·rename_i k hrd
      split at h
      ·rename_i hki
       have hki := Nat.eq_of_beq_eq_true hki
       subst hki
       obtain ⟨hold, h⟩ := oldTT_spec h
       have B : ∀ nb b W, Fl w0 keep (.cells z t (0, 0)) d Ls L0 (some nb) a L b W → wpAnyX P ops Q (There L0) (fun j => j ∈ fs) n (listedOf ops.size (m ||| 1 <<< k)) b W := fun nb b W hF => by
        obtain ⟨g1, g2⟩ := hF.told hold
        exact hfin n _ _ _ Q hQ0 (h ⟨nb, 0, false, undef, []⟩) hil b W g1 g2 hF.there hQ
       refine ⟨B, fun b W hF => wpAnyX_all (rs := [k]) (by rw [readyM_eq]; exact hrd) (by simp) fun k' hk' => ?_⟩
       rcases List.mem_singleton.1 hk' with rfl
       have hD := hF.done
       refine alloc_wp hal ⟨.inr fun _ => hD.there, ?_⟩
       rw [listedOf_set]
       exact B _ _ _ hD
      ·exact h.elim
     ·exact h.elim
    ·
     split at h
     ·exact h.elim
     ·rename_i hc
      simp only [Bool.or_eq_false_iff, Bool.not_eq_false'] at hc
      obtain ⟨hn0, heq⟩ := hc
      have heq := eqN_spec heq
      obtain ⟨n', rfl⟩ : ∃ n', n = n' + 1 := by
       cases n with
       | zero => simp at hn0
       | succ n' => exact ⟨n', rfl⟩
      have step : ∀ (st : Option Nat) (k : Nat) (b : Act) (W : World), k ∈ dropOne i (readyM ops m) → Fl w0 keep (.cells z t (0, 0)) d Ls L0 st a L b W → wpOp P ops Q k (fun b' W' => There L0 W' ∧ ∃ a' L', Fl w0 keep (.cells z t (0, 0)) d Ls L0 st a' L' b' W' ∧ (evFl P S fn call ops fw L0 bk i d (.cells z t (0, 0)) Ls fin (n' + 1) (m ||| 1 <<< k) a' L').all K) b W := fun st k b W hk hF => by
       obtain ⟨v, hv, hp⟩ := hF.rel
       have h := outsT_all h k hk ⟨0, 0, false, v, []⟩
       refine evAt_sound hSS (hs W _) h hv hF.hide (fun a' L' b' W' hk hf' hr' => ?_)
       obtain ⟨he, hk⟩ := hk
       rw [forceL_eq] at hk
       rcases two_spec hk with hk | hk
       ·obtain ⟨h1, h2⟩ := hk
        have h1 : There L0 W' := by
         rw [tok_blks h1]
         exact fun p hp => (hr'.blk p (hbk _ p hp)).1
        exact ⟨h1, a', L', hF.show hr' hf' (tok_val he) hp h1, h2⟩
       ·have hk : (∀ b ∈ L0, b ∈ L') ∧ (evFl P S fn call ops fw L0 bk i d (.cells z t (0, 0)) Ls fin (n' + 1) (m ||| 1 <<< k) a' L').all K := by
         rcases two_spec hk with hk | hk
         ·obtain ⟨l, hm, h1, h2⟩ := backAll_sound _ hk
          exact ⟨fun b hb => by rw [tok_blks h1] at hb; exact hm b hb, h2⟩
         ·exact backTT_sound hk
        obtain ⟨hm, h2⟩ := hk
        have h1 : There L0 W' := fun p hp => (hr'.blk p (hm p hp)).1
        exact ⟨h1, a', L', hF.show hr' hf' (tok_val he) hp h1, h2⟩
      have B : ∀ nb b W, Fl w0 keep (.cells z t (0, 0)) d Ls L0 (some nb) a L b W → wpAnyX P ops Q (There L0) (fun j => j ∈ fs) (n' + 1) (listedOf ops.size (m ||| 1 <<< i)) b W := fun nb b W hF => by
       by_cases hne : dropOne i (readyM ops m) = []
       ·rw [hne] at h
        exact h.elim
       refine wpAnyX_all (rs := dropOne i (readyM ops m)) (by rw [readyM_eq]; exact heq) hne fun k hk => ?_
       have hk2 : k ∈ Region.ready .any ops (listedOf ops.size (m ||| 1 <<< i)) := by rw [readyM_eq, heq]; exact hk
       have hki : k ≠ i := fun he => by
        have h1 := (mem_ready.1 hk2).1
        rw [he, ← listedOf_set] at h1
        have hlt : i < (listedOf ops.size m).size := by
         have := getD_of_ready (by rw [readyM_eq]; exact hir : i ∈ Region.ready .any ops (listedOf ops.size m))
         rcases Nat.lt_or_ge i (listedOf ops.size m).size with h' | h'
         ·exact h'
         ·rw [Array.getD_eq_getD_getElem?, Array.getElem?_eq_none h'] at this; cases this
        simp [hlt] at h1
       refine wpOp_mono (fun b' W' ⟨h1, a', L', hF', h2⟩ => ⟨.inr fun _ => h1, ?_⟩) (step _ k b W hk hF)
       have hkm := dropOne_sub hk
       rw [listedOf_set, or_swap]
       exact (evFl_sound hSS hs hns hfw hbk hal hfin (n' + 1) (m ||| 1 <<< k) a' L' Q hQ0 h2 (next hkm hki).1 (next hkm hki).2 hQ).1 nb b' W' hF'
      refine ⟨B, fun b W hF => ?_⟩
      refine wpAnyX_all (rs := readyM ops m) (readyM_eq _ _) (fun he => by rw [he] at hir; cases hir) fun k hk => ?_
      by_cases hki : k = i
      ·subst hki
       have hD := hF.done
       refine alloc_wp hal ⟨.inr fun _ => hD.there, ?_⟩
       rw [listedOf_set]
       exact B _ _ _ hD
      ·refine wpOp_mono (fun b' W' ⟨h1, a', L', hF', h2⟩ => ⟨.inr fun _ => h1, ?_⟩) (step _ k b W (mem_dropOne hki hk) hF)
       rw [listedOf_set]
       exact (evFl_sound hSS hs hns hfw hbk hal hfin (n' + 1) (m ||| 1 <<< k) a' L' Q hQ0 h2 (next hk hki).1 (next hk hki).2 hQ).2 b' W' hF'
theorem evFloat_sound (hSS : S.holds P) {fn : FuncId} {call : CallE α} (hs : ∀ w0 keep, SoundC P w0 keep K call) {ops : Array Oper} (hns : Region.noSelect ops = true) {fs : List Nat} {fw : Nat} (hfw : ∀ j, j < ops.size → fw.testBit j = true → ∀ f ∈ fs, Waits ops j f) {L0 : List Blk} {bk : List Blk → List Blk} (hbk : ∀ L p, p ∈ bk L → p ∈ L)
  {c : F → List Blk → T α} {fin : RestE α} (hfin : RestS P w0 keep K ops fs L0 c fin) : RestS P w0 keep K ops fs L0 c (evFloat P S fn call ops fw L0 bk fin) := by
 intro n m a L Q hQ0 h hcl b W hf hr hS hQ
 unfold evFloat at h
 split at h
 ·exact h.elim
 rename_i i _
 split at h
 ·exact h.elim
 rename_i hrd
 split at h
 ·exact h.elim
 rename_i d t z hal
 exact (evFl_sound hSS hs hns hfw hbk hal hfin n m a L Q hQ0 h hcl (isReady_spec hrd) hQ).2 b W ⟨⟨a.get d, hf.same rfl, fun _ h => (by cases h)⟩, hr, hS, fun q hq => ⟨hr.lt hq, fun h => (by cases h)⟩, fun _ h => (by cases h), fun _ _ _ h => (by cases h)⟩
theorem evAny_sound (hSS : S.holds P) {fn : FuncId} {call : CallE α} (hs : SoundC P w0 keep K call) {ops : Array Oper} (hns : Region.noSelect ops = true) {fs : List Nat} {fw : Nat} (hfw : ∀ j, j < ops.size → fw.testBit j = true → ∀ f ∈ fs, Waits ops j f) {L0 : List Blk} {bk : List Blk → List Blk} (hbk : ∀ L p, p ∈ bk L → p ∈ L) {can : Nat → Bool} {rest flt : RestE α} {c : F → List Blk → T α} (hflt : RestS P w0 keep K ops fs L0 c flt)
  (hrest : ∀ (m : Nat), can m = true → ∀ (n : Nat) (a : F) (L : List Blk) (Q : Exit → Act → World → Prop), (∀ c a w, ¬ Q (.panic c) a w) → (rest n m a L).all K → ClosedL ops (listedOf ops.size m) → ∀ (b : Act) (W : World), RelF a b → Rep w0 keep L W → There L0 W →
   (∀ a' L' b' W', (c a' L').all K → RelF a' b' → Rep w0 keep L' W' → Q .normal b' W') → wpAnyX P ops Q (There L0) (fun j => j ∈ fs) n (listedOf ops.size m) b W) :
  ∀ (n : Nat) (m : Nat) (g : Option G) (a : F) (L : List Blk) (Q : Exit → Act → World → Prop), (∀ c a w, ¬ Q (.panic c) a w) → (evAny P S fn call ops fs fw L0 bk can rest flt c n m g a L).all K → ClosedL ops (listedOf ops.size m) →
  ∀ (b : Act) (W : World), RelF a b → Inv g b → Rep w0 keep L W → There L0 W → (∀ a' L' b' W', (c a' L').all K → RelF a' b' → Rep w0 keep L' W' → Q .normal b' W') → wpAnyX P ops Q (There L0) (fun j => j ∈ fs) n (listedOf ops.size m) b W
 | 0, m, g, a, L, Q, hQ0, h, _, b, W, hf, _, hr, hS, hQ => by
   simp only [evAny] at h
   split at h
   ·rename_i hrd
    exact wpAnyX_done (by rw [readyM_eq]; exact hrd) (hQ _ _ _ _ h hf hr) 0
   ·exact h.elim
 | n + 1, m, g, a, L, Q, hQ0, h, hcl, b, W, hf, hi, hr, hS, hQ => by
   simp only [evAny, tb_eq] at h
   obtain ⟨j, h⟩ := h
   dsimp only at h
   split at h
   ·split at h
    ·obtain ⟨g', a', o, v, ho, hmem, hfr, hy, hf', hi', h⟩ := heldT_sound (W0 := W) (fun _ hp => (by cases hp)) hf hi h
     exact wpAnyX_takeP ho hns hfr (by rw [readyM_eq]; simpa using hmem) (fun c b w hq => (hQ0 c _ w hq).elim) (hy.imp (fun h => ⟨h.1, fun W _ => h.2 W fun _ hp => (by cases hp)⟩) id) (by rw [listedOf_set]; exact evAny_sound hSS hs hns hfw hbk hflt hrest n _ _ _ _ Q hQ0 h (by rw [← listedOf_set]; exact hcl.set (by rw [readyM_eq]; exact hmem)) _ _ hf' hi' hr hS hQ)
    rename_i hfb
    obtain ⟨g', a', o, v, ho, hmem, hfr, hy, hf', hi', h⟩ := heldT_sound hS hf hi h
    exact wpAnyX_take ho hns hfr (by rw [readyM_eq]; simpa using hmem) (fun c b w hq => (hQ0 c _ w hq).elim) (fun f of hf hof => hfw _ (Array.getElem?_eq_some_iff.1 ho).1 hfb f hf) hcl hy hS (by rw [listedOf_set]; exact evAny_sound hSS hs hns hfw hbk hflt hrest n _ _ _ _ Q hQ0 h (by rw [← listedOf_set]; exact hcl.set (by rw [readyM_eq]; exact hmem)) _ _ hf' hi' hr hS hQ)
   ·split at h
    ·split at h
     ·rename_i hrd
      exact wpAnyX_done (by rw [readyM_eq]; exact hrd) (hQ _ _ _ _ h hf hr) (n + 1)
     ·exact h.elim
    ·split at h
     ·split at h
      ·rename_i hcan
       exact hrest _ hcan _ _ _ Q hQ0 h hcl _ _ hf hr hS hQ
      ·exact h.elim
     split at h
     ·exact hflt _ _ _ _ Q hQ0 h hcl _ _ hf hr hS hQ
     ·by_cases hne : readyM ops m = []
      ·rw [hne] at h
       exact h.elim
      refine wpAnyX_all (readyM_eq _ _) hne fun k hk0 => ?_
      have h := outsT_all h k hk0
      refine evAt_sound hSS hs h hf hr (fun a' L' b' W' hk hf' hr' => ?_)
      split at hk
      ·rename_i hlast
       unfold lastM at hlast
       rw [Bool.and_eq_true] at hlast
       obtain ⟨hl1, hl2⟩ := hlast
       refine ⟨.inl (by simpa using hl1), ?_⟩
       rw [listedOf_set]
       refine wpAnyX_done ?_ (hQ _ _ _ _ hk hf' hr') n
       rw [readyM_eq]
       split at hl2
       ·rename_i h0
        exact h0
       ·cases hl2
      split at hk
      ·rename_i hrf
       unfold restFin at hrf
       rw [Bool.and_eq_true] at hrf
       exact ⟨.inl (by simpa using hrf.1), by rw [listedOf_set]; exact evFin_sound hSS hs n _ _ _ Q hk _ _ hf' hr' hQ⟩
      rw [forceL_eq] at hk
      have hk := two_spec hk
      rcases hk with hk | hk
      ·obtain ⟨h1, h2⟩ := hk
       have h1 : There L0 W' := by
        rw [tok_blks h1]
        exact fun p hp => (hr'.blk p (hbk _ p hp)).1
       exact ⟨.inr fun _ => h1, by rw [listedOf_set]; exact evAny_sound hSS hs hns hfw hbk hflt hrest n _ _ _ _ Q hQ0 h2 (by rw [← listedOf_set]; exact hcl.set (by rw [readyM_eq]; exact hk0)) _ _ hf' (Inv.none _) hr' h1 hQ⟩
      ·have hk : (∀ b ∈ L0, b ∈ L') ∧ (evAny P S fn call ops fs fw L0 bk can rest flt c n (m ||| 1 <<< k) none a' L').all K := by
        rcases two_spec hk with hk | hk
        ·obtain ⟨l, hm, h1, h2⟩ := backAll_sound _ hk
         exact ⟨fun b hb => by rw [tok_blks h1] at hb; exact hm b hb, h2⟩
        ·exact backTT_sound hk
       obtain ⟨hm, h2⟩ := hk
       have h1 : There L0 W' := fun p hp => (hr'.blk p (hm p hp)).1
       exact ⟨.inr fun _ => h1, by rw [listedOf_set]; exact evAny_sound hSS hs hns hfw hbk hflt hrest n _ _ _ _ Q hQ0 h2 (by rw [← listedOf_set]; exact hcl.set (by rw [readyM_eq]; exact hk0)) _ _ hf' (Inv.none _) hr' h1 hQ⟩
theorem evMany_sound (hSS : S.holds P) {fn : FuncId} {call : CallE α} (hs : ∀ w0 keep, SoundC P w0 keep K call) {ops : Array Oper} (hns : Region.noSelect ops = true) {fs : List Nat} {fw : Nat} (hfw : ∀ j, j < ops.size → fw.testBit j = true → ∀ f ∈ fs, Waits ops j f) {L0 : List Blk} {bk : List Blk → List Blk} (hbk : ∀ L p, p ∈ bk L → p ∈ L) {c : F → List Blk → T α} : ∀ m, RestS P w0 keep K ops fs L0 c (evMany P S fn call ops fs fw L0 bk c m)
 | 0 => fun n m a L Q h0 h1 hc b W h2 h3 h4 h5 => evAny_sound hSS (hs _ _) hns hfw hbk (flt := fun _ _ _ _ => .fail) (fun _ _ _ _ _ _ h => False.elim h) (fun _ h => (by cases h)) n m none a L Q h0 h1 hc b W h2 (Inv.none _) h3 h4 h5
 | r + 1 => fun n m a L Q h0 h1 hc b0 W0 g2 g3 g4 g5 => evAny_sound hSS (hs _ _) hns hfw hbk (evFloat_sound hSS hs hns hfw hbk (evMany_sound hSS hs hns hfw hbk r)) (fun m h n a L Q h0 h1 hc' b W h2 h3 h4 h5 => by
   simp only [Bool.and_eq_true] at h
   exact evRest_sound hns (evMany_sound hSS hs hns hfw hbk r) m h.1 h.2 n _ a L Q h0 h1 b W h2 h3 h4 h5) n m none a L Q h0 h1 hc b0 W0 g2 (Inv.none _) g3 g4 g5
theorem evLoop_sound {x : Code} {f : PieceE α} (hf : SoundE P w0 keep K x f) {c : Exit → F → List Blk → T α} : ∀ (m : Nat) (a : F) (L : List Blk), (evLoop f c m a L).all K →
  ∀ b W, RelF a b → Rep w0 keep L W → Code.rounds P x (Post w0 keep K c) m b W
 | 0, a, L, h, b, W, _, _ => h.elim
 | m + 1, a, L, h, b, W, hrel, hr => by
   rw [rounds_succ]
   change (forceL (compactW 0 a.w) _).all K at h
   rw [forceL_eq] at h
   refine wp_mono (hf _ _ _ h b W (RelF.shorten hrel) hr) ?_
   rintro x a2 W2 ⟨hx, g, L2, h, hrel2, hr2⟩
   cases x with
   | normal => exact evLoop_sound hf m _ _ h a2 W2 hrel2 hr2
   | _ => exact ⟨hx, g, L2, h, hrel2, hr2⟩
theorem metBy_sound {k : CallC} (hc : Meets P k) {args : Array Value} {L : List Blk} {c : Value → List Blk → T α} (h : (metBy k args L c).all K) {W : World} (hr : Rep w0 keep L W) : Calls P k.f args W fun en W' => ∃ v L', en = .returned v ∧ Rep w0 keep L' W' ∧ (c v L').all K := by
 obtain ⟨ha, hok, h⟩ := h
 have hargs : args = k.args := by
  have := tok_val ha
  injection this
 subst hargs
 obtain ⟨hpre, h⟩ := memBy_sound h hr
 refine (hc hok W hpre).mono ?_
 rintro en W' ⟨o, ho, ns, rfl, hpost⟩
 obtain ⟨L', hr', hk⟩ := h o ho ns W' hpost
 exact ⟨o.2 ns, L', rfl, hr', hk⟩
theorem loopBy_sound {k : LoopC} (hc : MeetsL P k) {x : Code} {a : F} {L : List Blk} {c : Exit → F → List Blk → T α} (h : (loopBy k x a L c).all K) {b : Act} {W : World} (hf : RelF a b) (hr : Rep w0 keep L W) : x.wp P (Post w0 keep K c) b W := by
 obtain ⟨h1, h2, h3, hok, h⟩ := h
 obtain rfl := tok_code h1
 have hn := tok_nat h2
 have hsl : (k.sl.map fun p => a.get p.1).toArray = (k.sl.map (·.2)).toArray := by
  have := tok_val h3
  injection this
 have hsl := congrArg Array.toList hsl
 have hk : Known k.n k.sl b := by
  rw [← hn]
  exact Known.of hf k.sl (by simpa using hsl)
 obtain ⟨hpre, h⟩ := memBy_sound h hr
 refine wp_mono (hc hok b W hk hpre) ?_
 rintro x' a' W' ⟨o, ho, rfl, hx, ns, hk', hpost⟩
 obtain ⟨L', hr', hk⟩ := h o ho ns W' hpost
 exact ⟨hx, _, _, hk ⟨0, 0, false, undef, a'.tmps.toList⟩, hk'.rel, hr'⟩
theorem metU_sound {k : CallU} (hc : Meets P k.c) {args : Array Value} {L : List Blk} {c : Value → List Blk → T α} (h : (metU k args L c).all K) {W : World} (hr : Rep w0 keep L W) : Calls P k.f args W fun en W' => ∃ v L', en = .returned v ∧ Rep w0 keep L' W' ∧ (c v L').all K := by
 obtain ⟨ha, hok, h⟩ := h
 have hargs : args = k.args := by
  have := tok_val ha
  injection this
 subst hargs
 obtain ⟨hpre, h⟩ := memU_sound h hr
 refine (hc hok W hpre).mono ?_
 rintro en W' ⟨o, ho, ns, rfl, hpost⟩
 obtain ⟨L', hr', hk⟩ := h o ho ns W' hpost
 exact ⟨o.2 ns, L', rfl, hr', hk⟩
theorem loopU_sound {k : LoopU} (hc : MeetsL P k.c) {x : Code} {a : F} {L : List Blk} {c : Exit → F → List Blk → T α} (h : (loopU k x a L c).all K) {b : Act} {W : World} (hf : RelF a b) (hr : Rep w0 keep L W) : x.wp P (Post w0 keep K c) b W := by
 obtain ⟨h1, h2, h3, hok, h⟩ := h
 obtain rfl := tok_code h1
 have hn := tok_nat h2
 have hsl : (k.sl.map fun p => a.get p.1).toArray = (k.sl.map (·.2)).toArray := by
  have := tok_val h3
  injection this
 have hsl := congrArg Array.toList hsl
 have hk : Known k.n k.sl b := by
  rw [← hn]
  exact Known.of hf k.sl (by simpa using hsl)
 obtain ⟨hpre, h⟩ := memU_sound h hr
 refine wp_mono (hc hok b W hk hpre) ?_
 rintro x' a' W' ⟨o, ho, rfl, hx, ns, hk', hpost⟩
 obtain ⟨L', hr', hk⟩ := h o ho ns W' hpost
 exact ⟨hx, _, _, hk ⟨0, 0, false, undef, a'.tmps.toList⟩, hk'.rel, hr'⟩
theorem anyF_sound (hS : S.holds P) (hP : P.follows .mixedOrders = true) {fn : FuncId} {call : CallE α} (hc : ∀ w0 keep, SoundC P w0 keep K call) (id : Nat) (ops : Array Oper) : SoundE P w0 keep K (.region id ops true) (anyF P S fn id ops call) := by
 intro a L c h b W hrel hr
 unfold anyF at h
 split at h
 ·rename_i k ks hrg
  obtain ⟨j, h⟩ := h
  dsimp only at h
  split at h
  ·rename_i k' hj
   rw [nth_eq] at hj
   exact loopBy_sound (hS.rg fn id k' (by rw [hrg]; exact List.mem_of_getElem? hj) a L) h hrel hr
  ·exact h.elim
 split at h
 ·exact h.elim
 ·rename_i hns
  obtain ⟨j, h⟩ := h
  dsimp only at h
  split at h
  ·obtain ⟨R, hsub, h⟩ := noteX_spec h
   rw [forceM_eq] at h
   exact wp_region_X hP (by rw [listedOf_zero]; exact evMany_sound hS hc hns (fun j hlt hj => finM_spec hlt hj) (fun _ _ h => (by cases h)) 4 _ _ _ _ _ (fun c a w hq => by cases hq.1) h (closed_zero _) _ _ hrel hr.draw (fun p hp => (hr.blk p (hsub p hp)).1) fun a' L' b' W' hk hb' hr' => ⟨rfl, _, _, hk, hb', hr'⟩)
  ·obtain ⟨d, h⟩ := h
   dsimp only at h
   rw [forceL_eq, forceM_eq] at h
   exact wp_region_X hP (by rw [listedOf_zero]; exact evMany_sound hS hc hns (fun j hlt hj => finM_spec hlt hj) (fun _ _ h => (by cases h)) 4 _ _ _ _ _ (fun c a w hq => by cases hq.1) h (closed_zero _) _ _ hrel hr.draw (fun p hp => (hr.blk p (List.mem_of_mem_take (objsOf_sub hp))).1) fun a' L' b' W' hk hb' hr' => ⟨rfl, _, _, hk, hb', hr'⟩)
  ·rw [forceM_eq] at h
   exact wp_region_X hP (by rw [listedOf_zero]; exact evMany_sound hS hc hns (fun j hlt hj => finM_spec hlt hj) (fun _ _ h => (by cases h)) 4 _ _ _ _ _ (fun c a w hq => by cases hq.1) h (closed_zero _) _ _ hrel hr.draw (fun p hp => (hr.blk p hp).1) fun a' L' b' W' hk hb' hr' => ⟨rfl, _, _, hk, hb', hr'⟩)
  split at h
  ·exact h.elim
  split at h
  ·obtain ⟨R, hsub, h⟩ := noteT_spec h
   rw [forceM_eq] at h
   exact wp_region_X hP (by rw [listedOf_zero]; exact evMany_sound hS hc hns (fun j hlt hj => finM_spec hlt hj) (fun _ _ h => (by cases h)) 4 _ _ _ _ _ (fun c a w hq => by cases hq.1) h (closed_zero _) _ _ hrel hr.draw (fun p hp => (hr.blk p (hsub p hp)).1) fun a' L' b' W' hk hb' hr' => ⟨rfl, _, _, hk, hb', hr'⟩)
  ·obtain ⟨js, L1, hsub, h⟩ := minusT_spec h
   obtain ⟨mask, h⟩ := h
   dsimp only at h
   rw [forceL_eq, forceM_eq] at h
   exact wp_region_X hP (by rw [listedOf_zero]; exact evMany_sound hS hc hns (fun j hlt hj => finM_spec hlt hj) backOf_sub 4 _ _ _ _ _ (fun c a w hq => by cases hq.1) h (closed_zero _) _ _ hrel hr.draw (fun p hp => (hr.blk p (hsub p (dropM_sub hp))).1) fun a' L' b' W' hk hb' hr' => ⟨rfl, _, _, hk, hb', hr'⟩)
theorem inCall_sound {f : FuncId → Code → PieceE α} (hf : ∀ fn x, SoundE P w0 keep K x (f fn x)) : SoundC P w0 keep K (inCall P f) := by
 intro g args L c h W hr
 unfold inCall at h
 rw [nth_eq, Array.getElem?_toList] at h
 split at h
 ·exact h.elim
 ·rename_i fn hfn
  split at h
  ·exact h.elim
  ·rename_i x hb
   refine calls_of_wp hfn hb (wp_mono (hf g x _ _ _ h _ W (RelF.init args fn.ntmps) hr) ?_)
   rintro x a2 W2 ⟨-, g2, L2, h, hrel2, hr2⟩
   have key : (resT P g2.get L2 fn.results.toList fun l => c (oneV l) L2).all K → bodyPost P fn (fun en W' => ∃ v L', en = .returned v ∧ Rep w0 keep L' W' ∧ (c v L').all K) .ret a2 W2 := fun h => by
    obtain ⟨l, hk, hrun⟩ := resT_spec (fun p hp => (hr2.blk p hp).1) h
    have hrun := resF_run (fn := fn) (hrun W2 (fun p hp => (hr2.blk p hp).1))
    rw [← resF_eq hrel2] at hrun
    exact ⟨hrel2.defers, _, hrun, _, L2, rfl, hr2, hk⟩
   cases x with
   | normal => exact key h
   | ret => exact key h
   | _ => exact h.elim
theorem evCallC_sound (hS : S.holds P) {f : FuncId → Code → PieceE α} (hf : ∀ fn x, SoundE P w0 keep K x (f fn x)) : SoundC P w0 keep K (evCallC P S f) := by
 intro g args L c h W hr
 unfold evCallC at h
 split at h
 ·rename_i k ks hcl
  obtain ⟨j, h⟩ := h
  dsimp only at h
  split at h
  ·rename_i k' hj
   rw [nth_eq] at hj
   split at h
   ·rename_i hcf _
    have := metBy_sound (hS.cl g k' (by rw [hcl]; exact List.mem_of_getElem? hj) args L) h hr
    rw [hcf] at this
    exact this
   ·exact h.elim
  ·exact inCall_sound hf _ _ _ _ h W hr
 ·exact inCall_sound hf _ _ _ _ h W hr
theorem evLoopC_sound (hS : S.holds P) {f : PieceE α} {x : Code} (hf : SoundE P w0 keep K x f) {fn : FuncId} {n : Nat} {a : F} {L : List Blk} {c : Exit → F → List Blk → T α} (h : (evLoopC S f fn n x a L c).all K) {b : Act} {W : World} (hrel : RelF a b) (hr : Rep w0 keep L W) : (Code.loop x).wp P (Post w0 keep K c) b W := by
 unfold evLoopC at h
 split at h
 ·rename_i k ks hlp
  obtain ⟨j, h⟩ := h
  dsimp only at h
  split at h
  ·rename_i k' hj
   rw [nth_eq] at hj
   exact loopBy_sound (hS.lp fn k' (by rw [hlp]; exact List.mem_of_getElem? hj) a L) h hrel hr
  ·exact wp_loop_rounds n (evLoop_sound hf n _ _ h b W hrel hr)
 ·exact wp_loop_rounds n (evLoop_sound hf n _ _ h b W hrel hr)
theorem evCall_sound (hS : S.holds P) {f : FuncId → Code → PieceE α} (hf : ∀ fn x, SoundE P w0 keep K x (f fn x)) : SoundC P w0 keep K (evCall P S f) := by
 intro g args L c h W hr
 unfold evCall at h
 split at h
 ·rename_i k ks hcl
  obtain ⟨j, h⟩ := h
  dsimp only at h
  split at h
  ·rename_i k' hj
   rw [nth_eq] at hj
   split at h
   ·rename_i hcf _
    have := metU_sound (hS.cu g k' (by rw [hcl]; exact List.mem_of_getElem? hj) args L) h hr
    rw [hcf] at this
    exact this
   ·exact h.elim
  ·exact evCallC_sound hS hf _ _ _ _ h W hr
 ·exact evCallC_sound hS hf _ _ _ _ h W hr
theorem ev_succ (n : Nat) (fn : FuncId) (x : Code) (a : F) (L : List Blk) (c : Exit → F → List Blk → T α) : ev P S (n + 1) fn x a L c = evBody P S (ev P S n) n fn x a L c := rfl
theorem ev_sounds (hS : S.holds P) (hP : P.follows .mixedOrders = true) : ∀ (n : Nat) (w0 : World) (keep : Nat → Prop) (fn : FuncId) (x : Code), SoundE P w0 keep K x (ev P S n fn x)
 | 0, w0, keep, fn, x, a, L, c, h, _, _, _, _ => h.elim
 | n + 1, w0, keep, fn, x, a, L, c, h, b, W, hrel, hr => by
   have ih0 : ∀ fn x, SoundE P w0 keep K x (ev P S n fn x) := ev_sounds hS hP n w0 keep
   have ih := ih0 fn
   have hcs : ∀ w0 keep, SoundC P w0 keep K (evCall P S (ev P S n)) := fun w0 keep => evCall_sound hS (ev_sounds hS hP n w0 keep)
   have hc : SoundC P w0 keep K (evCall P S (ev P S n)) := hcs w0 keep
   rw [ev_succ] at h
   unfold evBody at h
   split at h
   ·exact wp_skip ⟨rfl, _, _, h, hrel, hr⟩
   ·exact wp_label ⟨rfl, _, _, h, hrel, hr⟩
   ·exact wp_region (evOps_sound hS hc _ h hrel (Inv.none _) hr fun a' L' b' W' hk hb' hr' => ⟨rfl, _, _, hk, hb', hr'⟩)
   ·rename_i id ops
    exact anyF_sound hS hP hcs id ops _ _ _ h b W hrel hr
   ·refine wp_seq (wp_mono (ih _ _ _ _ h b W hrel hr) ?_)
    rintro x a2 W2 ⟨hx, g2, L2, h, hrel2, hr2⟩
    cases x with
    | normal => exact ih _ _ _ _ h a2 W2 hrel2 hr2
    | _ => exact ⟨hx, _, _, h, hrel2, hr2⟩
   ·split at h
    ·rename_i s
     split at h
     ·rename_i t hb
      have hb' : b.eval (.tmp s) = .bool t := by rw [← hrel.eval]; exact hb
      cases t with
      | true => exact wp_cond_true hb' (ih _ _ _ _ (h.1 rfl) b W (hrel.same hb) hr)
      | false => exact wp_cond_false hb' (ih _ _ _ _ (h.2 rfl) b W (hrel.same hb) hr)
     ·exact h.elim
    ·split at h
     ·rename_i t hb
      rw [hrel.eval] at hb
      cases t with
      | true => exact wp_cond_true hb (ih _ _ _ _ (h.1 rfl) b W hrel hr)
      | false => exact wp_cond_false hb (ih _ _ _ _ (h.2 rfl) b W hrel hr)
     ·exact h.elim
   ·rename_i id x
    refine wp_block (wp_mono (ih _ _ _ _ h b W hrel hr) ?_)
    rintro x a2 W2 ⟨hx, g2, L2, h, hrel2, hr2⟩
    cases x with
    | exit id' =>
      simp only at h
      split at h
      ·rename_i hid
       have hid := Nat.eq_of_beq_eq_true hid
       simp only [Exit.inBlock, hid, if_true]
       exact ⟨rfl, _, _, h, hrel2, hr2⟩
      ·rename_i hid
       have hid : ¬ id' = id := fun he => by rw [he, Nat.beq_refl] at hid; cases hid
       simp only [Exit.inBlock, hid, if_false]
       exact ⟨rfl, _, _, h, hrel2, hr2⟩
    | normal => exact ⟨hx, _, _, h, hrel2, hr2⟩
    | ret => exact ⟨hx, _, _, h, hrel2, hr2⟩
    | _ => simp [calm] at hx
   ·split at h
    ·rename_i k ks hlp
     obtain ⟨j, h⟩ := h
     dsimp only at h
     split at h
     ·rename_i k' hj
      rw [nth_eq] at hj
      exact loopU_sound (hS.lu fn k' (by rw [hlp]; exact List.mem_of_getElem? hj) a L) h hrel hr
     ·exact evLoopC_sound hS (ih _) h hrel hr
    ·exact evLoopC_sound hS (ih _) h hrel hr
   ·exact wp_exit ⟨rfl, _, _, h, hrel, hr⟩
   ·exact wp_ret ⟨rfl, _, _, h, hrel, hr⟩
   ·exact h.elim
theorem ev_sound (hS : S.holds P) (hP : P.follows .mixedOrders = true) (n : Nat) (fn : FuncId) (x : Code) : SoundE P w0 keep K x (ev P S n fn x) := ev_sounds hS hP n w0 keep fn x
end Go.Proofs.YtlpcnaeknbmjdaaGreat.Sy
namespace Go.Proofs.YtlpcnaeknbmjdaaGreat.Sy
open Go Go.RowKit
open Ev (calm)
variable {P : Program} {S : Ctx}
def inT (P : Program) (S : Ctx) (n : Nat) (f : FuncId) (args : Array Value) (L : List Blk) (kf : Blk → Bool) : T (Value × List Blk) := inCall P (ev P S n) f args L fun v L' => .ret (v, L'.filter kf)
def noB (_ : Blk) : Bool := false
def rowB (b : Blk) : Bool := match b.ct with
 | .row .. => true
 | _ => false
def rowT (t : TypeId) (b : Blk) : Bool := match b.ct with
 | .row .. => true
 | .obj (.cells _ t' _) => Nat.beq t t'
 | _ => false
def pieceT (P : Program) (S : Ctx) (n : Nat) (fn : FuncId) (c : Code) (m : Nat) (l : List (Nat × Value)) (xs : List Value) (L : List Blk) (ks : List Nat) : T (Exit × Nat × List Value × List Blk) :=
 ev P S n fn c ⟨m, l ++ argsW 0 xs⟩ L fun x a L' => .ret (x, a.n, ks.map a.get, L')
structure Ran {α : Type} (t : T α) (o : O) (R : (Nat → Let) → Res α) : Prop where
 res : ∀ ns, (t.run o ns).map (·.res) = some (R ns)
 one : ∀ ns, (t.run o ns).map (·.l) = (t.run o ns).map (·.r)
theorem Ran.all {α : Type} {t : T α} {o : O} {R : (Nat → Let) → Res α} (h : Ran t o R) {K : α → Prop} (hK : ∀ ns, (R ns).holds K) : t.all K := by
 refine all_of_run t o fun ns => ?_
 have h1 := h.res ns
 have h2 := h.one ns
 cases hx : t.run o ns with
 | none => rw [hx] at h1; cases h1
 | some x =>
   rw [hx] at h1 h2
   simp only [Option.map_some, Option.some.injEq] at h1 h2
   exact ⟨x, rfl, h2, by rw [h1]; exact hK ns⟩
theorem calls_of (hS : S.holds P) (hP : P.follows .mixedOrders = true) {n : Nat} {f : FuncId} {args : Array Value} {L0 : List Blk} {o : O} {R : (Nat → Let) → Res (Value × List Blk)} {kf : Blk → Bool} (h : Ran (inT P S n f args L0 kf) o R)
  {w0 W : World} {keep : Nat → Prop} (hr : Rep w0 keep L0 W) {Q : Ending → World → Prop} (hQ : ∀ ns, (R ns).holds fun y => ∀ W', Rep w0 keep y.2 W' → Q (.returned y.1) W') : Calls P f args W Q := by
 have hall := h.all hQ
 unfold inT at hall
 refine (inCall_sound (ev_sound hS hP n) _ _ _ _ hall W hr).mono ?_
 rintro en W' ⟨v', L', rfl, hr', hk⟩
 exact hk W' (hr'.sub List.filter_sublist)
theorem zip_get (f : F) : ∀ ks : List Nat, (ks.zip (ks.map f.get)).map (fun p => f.get p.1) = (ks.zip (ks.map f.get)).map (·.2)
 | [] => rfl
 | k :: ks => by simp only [List.map_cons, List.zip_cons_cons]; rw [zip_get f ks]
theorem wp_of (hS : S.holds P) (hP : P.follows .mixedOrders = true) {n : Nat} {fn : FuncId} {c : Code} {m : Nat} {l : List (Nat × Value)} {a : Act} {L : List Blk} {ks : List Nat} {o : O} {R : (Nat → Let) → Res (Exit × Nat × List Value × List Blk)}
  (h : Ran (pieceT P S n fn c m l a.tmps.toList L ks) o R) {w0 W : World} {keep : Nat → Prop} (hk : Known m l a) (hr : Rep w0 keep L W)
  {Q : Exit → Act → World → Prop} (hQ : ∀ ns, (R ns).holds fun y => ∀ a' W', calm y.1 = true → Known y.2.1 (ks.zip y.2.2.1) a' → Rep w0 keep y.2.2.2 W' → Q y.1 a' W') : c.wp P Q a W := by
 have hall := h.all hQ
 unfold pieceT at hall
 refine wp_mono (ev_sound hS hP n fn c _ _ _ hall a W hk.rel hr) ?_
 rintro x2 a2 W2 ⟨hx, g, L2, hk2, hf, hr'⟩
 exact hk2 a2 W2 hx (Known.of hf _ (zip_get _ _)) hr'
def Res.asks {α : Type} : Res α → Option (List Prop)
 | .leaf _ => some []
 | .need p r => match r.asks with
   | some l => some (p :: l)
   | none => none
 | .hyp _ r => r.asks
 | .both x y => match x.asks, y.asks with
   | some l, some m => some (l ++ m)
   | _, _ => none
 | .br _ _ _ => none
theorem Res.asks_holds {α : Type} : ∀ {r : Res α} {l : List Prop}, r.asks = some l → (∀ p ∈ l, p) → r.holds fun _ => True
 | .leaf _, _, _, _ => trivial
 | .need p r, l, h, hl => by
   simp only [Res.asks] at h
   split at h
   ·rename_i m hm
    injection h with h
    subst h
    exact ⟨hl p List.mem_cons_self, Res.asks_holds hm fun q hq => hl q (List.mem_cons_of_mem _ hq)⟩
   ·cases h
 | .hyp _ r, l, h, hl => fun _ => Res.asks_holds (r := r) h hl
 | .both x y, l, h, hl => by
   simp only [Res.asks] at h
   split at h
   ·rename_i m n hm hn
    injection h with h
    subst h
    exact ⟨Res.asks_holds hm fun q hq => hl q (List.mem_append_left _ hq), Res.asks_holds hn fun q hq => hl q (List.mem_append_right _ hq)⟩
   ·cases h
 | .br _ _ _, _, h, _ => by cases h
def blks (c : MemC) : List Blk := c.rd.map (fun p => ⟨p.1, p.2, false⟩) ++ (c.use.map ownOf ++ c.rb.map (fun p => ⟨p.1, p.2, false⟩))
def keepOf (c : MemC) (k : Nat) : Prop := ∀ p ∈ c.use, p.1 ≠ k
theorem rep_of_pre {c : MemC} {W : World} (h : c.pre W) : Rep W (keepOf c) (blks c) W := by
 have hf : ∀ l : List (Nat × Cont), (l.map fun p => (⟨p.1, p.2, false⟩ : Blk)).Pairwise Far := fun l => by
  rw [List.pairwise_map]
  exact List.pairwise_of_forall fun a b h => by cases h
 refine ⟨rfl, rfl, rfl, Nat.le_refl _, fun _ _ _ => rfl, fun p hp => ?_, ?_⟩
 ·rcases List.mem_append.1 hp with hp | hp
  ·obtain ⟨q, hq, rfl⟩ := List.mem_map.1 hp
   exact ⟨h.rd q hq, fun h => by cases h⟩
  rcases List.mem_append.1 hp with hp | hp
  ·obtain ⟨q, hq, rfl⟩ := List.mem_map.1 hp
   exact ⟨h.use q hq, fun _ _ hk => hk q hq rfl⟩
  ·obtain ⟨q, hq, rfl⟩ := List.mem_map.1 hp
   exact ⟨h.rb q hq, fun h => by cases h⟩
 ·unfold blks
  rw [List.pairwise_append, List.pairwise_append]
  refine ⟨hf _, ⟨?_, hf _, fun a ha b hb => ?_⟩, fun a ha b hb => ?_⟩
  ·rw [List.pairwise_map]
   have := h.nodup
   rw [List.nodup_iff_pairwise_ne, List.pairwise_map] at this
   exact this.imp (S := fun a b => Far (ownOf a) (ownOf b)) fun h _ => h
  ·obtain ⟨p, hp, rfl⟩ := List.mem_map.1 ha
   obtain ⟨q, hq, rfl⟩ := List.mem_map.1 hb
   exact fun _ he => h.apartB q hq p hp he.symm
  ·obtain ⟨p, hp, rfl⟩ := List.mem_map.1 ha
   rcases List.mem_append.1 hb with hb | hb
   ·obtain ⟨q, hq, rfl⟩ := List.mem_map.1 hb
    exact fun _ => h.apart p hp q hq
   ·obtain ⟨q, hq, rfl⟩ := List.mem_map.1 hb
    exact fun ho => by cases ho
def pickL (L : List Blk) (pk : List Nat) : List Blk := pk.filterMap fun i => L[i]?
theorem Rep.pick {w0 W : World} {keep : Nat → Prop} {L : List Blk} (h : Rep w0 keep L W) : ∀ {pk : List Nat}, pk.Nodup → Rep w0 keep (pickL L pk) W := by
 intro pk hpk
 refine ⟨h.os, h.tape, h.output, h.size, h.old, fun p hp => ?_, ?_⟩
 ·obtain ⟨i, -, hi⟩ := List.mem_filterMap.1 hp
  exact h.blk p (List.mem_of_getElem? hi)
 ·unfold pickL
  induction pk with
  | nil => exact List.Pairwise.nil
  | cons i pk ih =>
    rw [List.nodup_cons] at hpk
    rw [List.filterMap_cons]
    split
    ·exact ih hpk.2
    ·rename_i p hp
     rw [List.pairwise_cons]
     refine ⟨fun q hq => ?_, ih hpk.2⟩
     obtain ⟨j, hj, hjq⟩ := List.mem_filterMap.1 hq
     exact far_ne h.far hp hjq (fun e => hpk.1 (e ▸ hj))
def fitB (b : Blk) (p : Nat × Cont) : Prop := b.nm = p.1 ∧ b.own = true ∧ (b.ct = p.2 ∨ p.2.useView b.ct = p.2 ∨ p.2.view b.ct = p.2)
def fitsB : List Blk → List (Nat × Cont) → Prop
 | [], [] => True
 | b :: l, p :: r => fitB b p ∧ fitsB l r
 | _, _ => False
theorem Rep.fits {w0 W : World} {keep : Nat → Prop} : ∀ {l : List Blk} {r : List (Nat × Cont)}, fitsB l r → Rep w0 keep l W → Rep w0 keep (r.map ownOf) W
 | [], [], _, h => h
 | [], _ :: _, h, _ => h.elim
 | _ :: _, [], h, _ => h.elim
 | b :: l, p :: r, ⟨⟨h1, h2, h3⟩, h4⟩, h => by
   have ih := Rep.fits h4 (h.sub (List.sublist_cons_self b l))
   have hnm : r.map (·.1) = l.map (·.nm) := by
    clear ih h h1 h2 h3
    revert r
    induction l with
    | nil => intro r h; cases r with
      | nil => rfl
      | cons _ _ => exact h.elim
    | cons x l ihl => intro r h; cases r with
      | nil => exact h.elim
      | cons y r => simp only [List.map_cons, ihl r h.2, h.1.1]
   have hb := h.blk b List.mem_cons_self
   have hsat : p.2.sat W.heap[b.nm]? := by
    rcases h3 with h3 | h3 | h3
    ·rw [← h3]; exact hb.1
    ·rw [← h3]; exact Cont.sat_useView hb.1
    ·rw [← h3]; exact Cont.sat_view hb.1
   refine ⟨h.os, h.tape, h.output, h.size, h.old, fun q hq => ?_, ?_⟩
   ·rw [List.map_cons] at hq
    rcases List.mem_cons.1 hq with rfl | hq
    ·show p.2.sat W.heap[p.1]? ∧ _
     rw [← h1]
     refine ⟨hsat, fun _ hlt => ?_⟩
     have : ownOf p = ⟨p.1, p.2, true⟩ := rfl
     simp only [ownOf] at hlt ⊢
     rw [← h1] at hlt ⊢
     exact hb.2 h2 hlt
    ·exact ih.blk q hq
   ·rw [List.map_cons, List.pairwise_cons]
    refine ⟨fun q hq => ?_, ih.far⟩
    obtain ⟨x, hx, rfl⟩ := List.mem_map.1 hq
    have hx1 : x.1 ∈ l.map (·.nm) := by rw [← hnm]; exact List.mem_map.2 ⟨x, hx, rfl⟩
    obtain ⟨b', hb', he⟩ := List.mem_map.1 hx1
    have hf := (List.pairwise_cons.1 h.far).1 b' hb' (by rw [h2]; rfl)
    intro _
    show p.1 ≠ x.1
    rw [← h1, ← he]
    exact hf
theorem post_of_ent {c : MemC} {o : OutM} {W W' : World} {ns : List Let} (hp : Rep W (keepOf c) ((o.nw ns ++ o.nb ns).map ownOf) W') (hn : ns.length = c.m) (hh : o.hyp ns) : c.post o W W' ns := by
 have hall : ∀ p ∈ o.nw ns ++ o.nb ns, (W.heap.size ≤ p.1 ∨ ∃ q ∈ c.use, q.1 = p.1) ∧ p.2.sat W'.heap[p.1]? := fun p hpm => by
  have hb := hp.blk _ (List.mem_map.2 ⟨p, hpm, rfl⟩)
  refine ⟨?_, hb.1⟩
  rcases Nat.lt_or_ge p.1 W.heap.size with hlt | hge
  ·have := hb.2 rfl hlt
   unfold keepOf at this
   simp only [ownOf, ne_eq] at this
   refine .inr (Classical.byContradiction fun hno => this fun q hq he => hno ⟨q, hq, he⟩)
  ·exact .inl hge
 have hf := hp.far
 rw [List.pairwise_map] at hf
 have hnd : ((o.nw ns ++ o.nb ns).map (·.1)).Nodup := by
  rw [List.nodup_iff_pairwise_ne, List.pairwise_map]
  exact hf.imp fun h => h rfl
 rw [List.map_append, List.nodup_append] at hnd
 exact ⟨hn, hh, hp.os, hp.tape, hp.output, hp.size, fun k hk hno => hp.old k hk hno, fun p hpm => hall p (List.mem_append_left _ hpm), hnd.1, fun p hpm => hall p (List.mem_append_right _ hpm), hnd.2.1, fun p hpm q hq => hnd.2.2 _ (List.mem_map.2 ⟨p, hpm, rfl⟩) _ (List.mem_map.2 ⟨q, hq, rfl⟩)⟩
theorem post_of_rep {c : MemC} {o : OutM} {W W' : World} {L : List Blk} {ns : List Let} (hr : Rep W (keepOf c) L W') (hn : ns.length = c.m) (hh : o.hyp ns) (pk : List Nat) (hpk : pk.Nodup) (hL : fitsB (pickL L pk) (o.nw ns ++ o.nb ns)) : c.post o W W' ns :=
 post_of_ent ((hr.pick hpk).fits hL) hn hh
def leafC (c : CallC) (y : Value × List Blk) : Prop :=
 ∃ o ∈ c.outs, ∃ ns : List Let, ns.length = c.mem.m ∧ y.1 = o.2 ns ∧ (∃ pk : List Nat, pk.Nodup ∧ fitsB (pickL y.2 pk) (o.1.nw ns ++ o.1.nb ns)) ∧ o.1.hyp ns
theorem meets_of (hS : S.holds P) (hP : P.follows .mixedOrders = true) {n : Nat} {c : CallC} {o : O} {R : (Nat → Let) → Res (Value × List Blk)} {kf : Blk → Bool} (h : Ran (inT P S n c.f c.args (blks c.mem) kf) o R)
  (hQ : c.ok → ∀ ns, (R ns).holds (leafC c)) : Meets P c := by
 intro hok W hpre
 refine calls_of hS hP h (rep_of_pre hpre) fun ns => Res.holds_mono (fun y hy W' hr => ?_) _ (hQ hok ns)
 obtain ⟨o, ho, ns, h1, h2, ⟨pk, h3, h4⟩, h5⟩ := hy
 exact ⟨o, ho, ns, by rw [h2], post_of_rep hr h1 h5 pk h3 h4⟩
def leafL {σ : Type} (c : LoopC) (ks : List Nat) (slots : σ → List (Nat × Value)) (mem : σ → List Blk) (ok : σ → Prop) (μ : σ → Nat) (s : σ) (y : Exit × Nat × List Value × List Blk) : Prop :=
 y.2.1 = c.n ∧ ((y.1 = .normal ∧ ∃ s', ok s' ∧ μ s' < μ s ∧ ks.zip y.2.2.1 = slots s' ∧ ∃ pk : List Nat, pk.Nodup ∧ pickL y.2.2.2 pk = mem s') ∨
  (y.1 ≠ .normal ∧ ∃ o ∈ c.outs, y.1 = o.2.1 ∧ ∃ ns : List Let, ns.length = c.mem.m ∧ (∃ q : List Nat, o.2.2 ns = q.filterMap fun i => (ks.zip y.2.2.1)[i]?) ∧ (∃ pk : List Nat, pk.Nodup ∧ fitsB (pickL y.2.2.2 pk) (o.1.nw ns ++ o.1.nb ns)) ∧ o.1.hyp ns))
theorem Known.sub {n : Nat} {l l' : List (Nat × Value)} {a : Act} (h : Known n l a) (hs : ∀ p ∈ l', p ∈ l) : Known n l' a := ⟨h.defers, h.size, fun p hp => h.get p (hs p hp)⟩
theorem loop_ofS {σ : Type} {S : σ → Ctx} (hS : ∀ s, (S s).holds P) (hP : P.follows .mixedOrders = true) {n : Nat} {fn : FuncId} {body : Code} {c : LoopC} (hc : c.c = .loop body) (ks : List Nat) (slots : σ → List (Nat × Value)) (mem : σ → List Blk) (ok : σ → Prop) (μ : σ → Nat)
  (s0 : σ) (h0 : c.ok → ok s0) (hs0 : ∀ p ∈ slots s0, p ∈ c.sl) (pk0 : List Nat) (hpk0 : pk0.Nodup) (hm0 : pickL (blks c.mem) pk0 = mem s0)
  {o : σ → O} {R : σ → List Value → (Nat → Let) → Res (Exit × Nat × List Value × List Blk)} (h : ∀ s xs, ok s → Ran (pieceT P (S s) n fn body c.n (slots s) xs (mem s) ks) (o s) (R s xs))
  (hQ : c.ok → ∀ s xs, ok s → ∀ ns, (R s xs ns).holds (leafL c ks slots mem ok μ s)) : MeetsL P c := by
 intro hok a W hk hpre
 rw [hc]
 have key : ∀ m s a W', ok s → μ s < m → Known c.n (slots s) a → Rep W (keepOf c.mem) (mem s) W' →
   Code.rounds P body (fun x a' W' => ∃ o ∈ c.outs, x = o.2.1 ∧ calm x = true ∧ ∃ ns, Known c.n (o.2.2 ns) a' ∧ c.mem.post o.1 W W' ns) m a W' := by
  intro m
  induction m with
  | zero => intro s a W' _ hlt; omega
  | succ m ih =>
    intro s a W' hs hlt hK hR
    rw [rounds_succ]
    refine wp_of (hS s) hP (h s a.tmps.toList hs) hK hR fun ns => Res.holds_mono (fun y hy a' W2 hx hK' hR' => ?_) _ (hQ hok s a.tmps.toList hs ns)
    obtain ⟨hn, hy⟩ := hy
    rcases hy with ⟨hx1, s', hs', hμ, hz, pk, hpk, hm⟩ | ⟨hx1, o, ho, he, ns', g1, ⟨q, g2⟩, ⟨pk, g3, g4⟩, g5⟩
    ·rw [hx1]
     rw [hn, hz] at hK'
     have hR2 := hR'.pick hpk
     rw [hm] at hR2
     exact ih s' a' W2 hs' (by omega) hK' hR2
    ·have hfin : ∃ o ∈ c.outs, y.1 = o.2.1 ∧ calm y.1 = true ∧ ∃ ns, Known c.n (o.2.2 ns) a' ∧ c.mem.post o.1 W W2 ns := by
      refine ⟨o, ho, he, hx, ns', ?_, post_of_rep hR' g1 g5 pk g3 g4⟩
      rw [hn] at hK'
      refine Known.sub hK' fun p hp => ?_
      rw [g2] at hp
      obtain ⟨i, -, hi⟩ := List.mem_filterMap.1 hp
      exact List.mem_of_getElem? hi
     cases hy1 : y.1 with
     | normal => exact absurd hy1 hx1
     | _ => rw [hy1] at hfin; exact hfin
 refine wp_loop_rounds (μ s0 + 1) (key _ s0 a W (h0 hok) (by omega) (Known.sub hk hs0) ?_)
 have := (rep_of_pre hpre).pick hpk0
 rw [hm0] at this
 exact this
theorem loop_of (hS : S.holds P) (hP : P.follows .mixedOrders = true) {n : Nat} {fn : FuncId} {body : Code} {c : LoopC} {σ : Type} (hc : c.c = .loop body) (ks : List Nat) (slots : σ → List (Nat × Value)) (mem : σ → List Blk) (ok : σ → Prop) (μ : σ → Nat)
  (s0 : σ) (h0 : c.ok → ok s0) (hs0 : ∀ p ∈ slots s0, p ∈ c.sl) (pk0 : List Nat) (hpk0 : pk0.Nodup) (hm0 : pickL (blks c.mem) pk0 = mem s0)
  {o : σ → O} {R : σ → List Value → (Nat → Let) → Res (Exit × Nat × List Value × List Blk)} (h : ∀ s xs, ok s → Ran (pieceT P S n fn body c.n (slots s) xs (mem s) ks) (o s) (R s xs))
  (hQ : c.ok → ∀ s xs, ok s → ∀ ns, (R s xs ns).holds (leafL c ks slots mem ok μ s)) : MeetsL P c :=
 loop_ofS (S := fun _ => S) (fun _ => hS) hP hc ks slots mem ok μ s0 h0 hs0 pk0 hpk0 hm0 h hQ
def Ent (L L' : List Blk) : Prop := ∀ (w0 : World) (keep : Nat → Prop) (W : World), Rep w0 keep L W → Rep w0 keep L' W
theorem Ent.refl (L : List Blk) : Ent L L := fun _ _ _ h => h
theorem Ent.trans {A B C : List Blk} (h : Ent A B) (h' : Ent B C) : Ent A C := fun w k W hr => h' w k W (h w k W hr)
theorem Ent.perm {A B : List Blk} (h : A.Perm B) : Ent A B := fun _ _ _ hr => hr.perm h
theorem Ent.sub {A B : List Blk} (h : List.Sublist B A) : Ent A B := fun _ _ _ hr => hr.sub h
def inB (P : Program) (S : Ctx) (n : Nat) (f : FuncId) (args : Array Value) (L : List Blk) : T (Value × List Blk) := inCall P (ev P S n) f args L fun v L' => .ret (v, L')
def leafB (c : CallC) (y : Value × List Blk) : Prop :=
 ∃ o ∈ c.outs, ∃ ns : List Let, ns.length = c.mem.m ∧ y.1 = o.2 ns ∧ Ent y.2 ((o.1.nw ns ++ o.1.nb ns).map ownOf) ∧ o.1.hyp ns
theorem meets_ofB (hS : S.holds P) (hP : P.follows .mixedOrders = true) {n : Nat} {c : CallC} {o : O} {R : (Nat → Let) → Res (Value × List Blk)} {L : List Blk} (hL : Ent (blks c.mem) L) (h : Ran (inB P S n c.f c.args L) o R)
  (hQ : c.ok → ∀ ns, (R ns).holds (leafB c)) : Meets P c := by
 intro hok W hpre
 have hall := h.all (hQ hok)
 unfold inB at hall
 refine (inCall_sound (ev_sound hS hP n) _ _ _ _ hall W (hL _ _ _ (rep_of_pre hpre))).mono ?_
 rintro en W' ⟨v', L', rfl, hr', o, ho, ns, h1, h2, h3, h4⟩
 exact ⟨o, ho, ns, congrArg Ending.returned h2, post_of_ent (h3 _ _ _ hr') h1 h4⟩
def inY (P : Program) (S : Ctx) (n : Nat) (f : FuncId) (args : Array Value) (L : List Blk) (k : Nat) : T (Value × List Blk) := inCall P (ev P S n) f args L fun v L' => .or (.tail (L'.map (·.nm))) fun d => match Nat.ble k d with
 | true => .ret (v, L'.take k ++ L'.drop d)
 | false => .fail
theorem meets_ofY (hS : S.holds P) (hP : P.follows .mixedOrders = true) {n k : Nat} {c : CallC} {o : O} {R : (Nat → Let) → Res (Value × List Blk)} {L : List Blk} (hL : Ent (blks c.mem) L) (h : Ran (inY P S n c.f c.args L k) o R)
  (hQ : c.ok → ∀ ns, (R ns).holds (leafB c)) : Meets P c := by
 intro hok W hpre
 have hall := h.all (hQ hok)
 unfold inY at hall
 refine (inCall_sound (ev_sound hS hP n) _ _ _ _ hall W (hL _ _ _ (rep_of_pre hpre))).mono ?_
 rintro en W' ⟨v', L', rfl, hr', d, hd⟩
 dsimp only at hd
 split at hd
 ·rename_i hk
  have hk := Nat.le_of_ble_eq_true hk
  obtain ⟨o, ho, ns, h1, h2, h3, h4⟩ := hd
  refine ⟨o, ho, ns, congrArg Ending.returned h2, post_of_ent (h3 _ _ _ (hr'.sub ?_)) h1 h4⟩
  have : L' = L'.take k ++ L'.drop k := (List.take_append_drop k L').symm
  conv => rhs; rw [this]
  refine List.Sublist.append (List.Sublist.refl _) ?_
  have e : L'.drop d = (L'.drop k).drop (d - k) := by rw [List.drop_drop]; congr 1; omega
  rw [e]
  exact List.drop_sublist _ _
 ·exact hd.elim
def leafLB {σ : Type} (c : LoopC) (ks : List Nat) (slots : σ → List (Nat × Value)) (mem : σ → List Blk) (ok : σ → Prop) (μ : σ → Nat) (s : σ) (y : Exit × Nat × List Value × List Blk) : Prop :=
 y.2.1 = c.n ∧ ((y.1 = .normal ∧ ∃ s', ok s' ∧ μ s' < μ s ∧ ks.zip y.2.2.1 = slots s' ∧ Ent y.2.2.2 (mem s')) ∨
  (y.1 ≠ .normal ∧ ∃ o ∈ c.outs, y.1 = o.2.1 ∧ ∃ ns : List Let, ns.length = c.mem.m ∧ (∃ q : List Nat, o.2.2 ns = q.filterMap fun i => (ks.zip y.2.2.1)[i]?) ∧ Ent y.2.2.2 ((o.1.nw ns ++ o.1.nb ns).map ownOf) ∧ o.1.hyp ns))
theorem loop_ofB {σ : Type} {S : σ → Ctx} (hS : ∀ s, (S s).holds P) (hP : P.follows .mixedOrders = true) {n : Nat} {fn : FuncId} {body : Code} {c : LoopC} (hc : c.c = .loop body) (ks : List Nat) (slots : σ → List (Nat × Value)) (mem : σ → List Blk) (ok : σ → Prop) (μ : σ → Nat)
  (s0 : σ) (h0 : c.ok → ok s0) (hs0 : ∀ p ∈ slots s0, p ∈ c.sl) (hm0 : Ent (blks c.mem) (mem s0))
  {o : σ → O} {R : σ → (Nat → Value) → (Nat → Let) → Res (Exit × Nat × List Value × List Blk)} (h : ∀ s f, ok s → Ran (pieceT P (S s) n fn body c.n (slots s) ((List.range c.n).map f) (mem s) ks) (o s) (R s f))
  (hQ : c.ok → ∀ s f, ok s → ∀ ns, (R s f ns).holds (leafLB c ks slots mem ok μ s)) : MeetsL P c := by
 intro hok a W hk hpre
 rw [hc]
 have hrm : ∀ (xs : List Value) (n : Nat), xs.length = n → (List.range n).map (fun j => xs.getD j undef) = xs := fun xs n h => by
  apply List.ext_getElem?
  intro i
  rw [List.getElem?_map]
  by_cases hi : i < n
  ·rw [List.getElem?_range hi, List.getElem?_eq_getElem (by omega)]
   simp [List.getD_eq_getElem?_getD, List.getElem?_eq_getElem (show i < xs.length by omega)]
  ·rw [List.getElem?_eq_none (by simpa using Nat.le_of_not_lt hi), List.getElem?_eq_none (by omega)]
   rfl
 have key : ∀ m s a W', ok s → μ s < m → Known c.n (slots s) a → Rep W (keepOf c.mem) (mem s) W' →
   Code.rounds P body (fun x a' W' => ∃ o ∈ c.outs, x = o.2.1 ∧ calm x = true ∧ ∃ ns, Known c.n (o.2.2 ns) a' ∧ c.mem.post o.1 W W' ns) m a W' := by
  intro m
  induction m with
  | zero => intro s a W' _ hlt; omega
  | succ m ih =>
    intro s a W' hs hlt hK hR
    rw [rounds_succ]
    have hran := h s (fun j => a.tmps.toList.getD j undef) hs
    rw [hrm a.tmps.toList c.n (by rw [Array.length_toList]; exact hK.size)] at hran
    refine wp_of (hS s) hP hran hK hR fun ns => Res.holds_mono (fun y hy a' W2 hx hK' hR' => ?_) _ (hQ hok s (fun j => a.tmps.toList.getD j undef) hs ns)
    obtain ⟨hn, hy⟩ := hy
    rcases hy with ⟨hx1, s', hs', hμ, hz, hm⟩ | ⟨hx1, o, ho, he, ns', g1, ⟨q, g2⟩, g3, g5⟩
    ·rw [hx1]
     rw [hn, hz] at hK'
     exact ih s' a' W2 hs' (by omega) hK' (hm _ _ _ hR')
    ·have hfin : ∃ o ∈ c.outs, y.1 = o.2.1 ∧ calm y.1 = true ∧ ∃ ns, Known c.n (o.2.2 ns) a' ∧ c.mem.post o.1 W W2 ns := by
      refine ⟨o, ho, he, hx, ns', ?_, post_of_ent (g3 _ _ _ hR') g1 g5⟩
      rw [hn] at hK'
      refine Known.sub hK' fun p hp => ?_
      rw [g2] at hp
      obtain ⟨i, -, hi⟩ := List.mem_filterMap.1 hp
      exact List.mem_of_getElem? hi
     cases hy1 : y.1 with
     | normal => exact absurd hy1 hx1
     | _ => rw [hy1] at hfin; exact hfin
 exact wp_loop_rounds (μ s0 + 1) (key _ s0 a W (h0 hok) (by omega) (Known.sub hk hs0) (hm0 _ _ _ (rep_of_pre hpre)))
end Go.Proofs.YtlpcnaeknbmjdaaGreat.Sy
namespace Go.Proofs.YtlpcnaeknbmjdaaGreat.Sy
open Go Go.RowKit
variable {P : Program}
def pickF {β : Type} (f : Nat) : List (Nat × β) → List β
 | [] => []
 | p :: r => match Nat.beq p.1 f with
   | true => p.2 :: pickF f r
   | false => pickF f r
theorem pickF_mem {β : Type} {f : Nat} {x : β} : ∀ {l : List (Nat × β)}, x ∈ pickF f l → ∃ p ∈ l, p.2 = x
 | [], h => by cases h
 | p :: r, h => by
   unfold pickF at h
   split at h
   ·rcases List.mem_cons.1 h with rfl | h
    ·exact ⟨p, List.mem_cons_self, rfl⟩
    ·obtain ⟨q, hq, e⟩ := pickF_mem h
     exact ⟨q, List.mem_cons_of_mem _ hq, e⟩
   ·obtain ⟨q, hq, e⟩ := pickF_mem h
    exact ⟨q, List.mem_cons_of_mem _ hq, e⟩
def mkS (cl : List (FuncId × (Array Value → List Blk → CallC))) (lp : List (FuncId × (F → List Blk → LoopC))) (op : List (FuncId × Nat × (F → List Blk → OpK))) : Ctx :=
 ⟨fun f => pickF f cl, fun f => pickF f lp, fun _ _ => [], fun f n => pickF n (pickF f op), fun _ => [], fun _ => []⟩
theorem mkS_holds {cl : List (FuncId × (Array Value → List Blk → CallC))} {lp : List (FuncId × (F → List Blk → LoopC))} {op : List (FuncId × Nat × (F → List Blk → OpK))}
  (h1 : ∀ p ∈ cl, ∀ a L, Meets P (p.2 a L)) (h2 : ∀ p ∈ lp, ∀ a L, MeetsL P (p.2 a L)) (h3 : ∀ p ∈ op, ∀ a L, (p.2.2 a L).meets P) : (mkS cl lp op).holds P := by
 refine ⟨fun f c hc a L => ?_, fun f c hc a L => ?_, fun f n c hc => (by cases hc), fun f n c hc a L => ?_, fun f c hc => (by cases hc), fun f c hc => (by cases hc)⟩
 ·obtain ⟨p, hp, rfl⟩ := pickF_mem hc
  exact h1 p hp a L
 ·obtain ⟨p, hp, rfl⟩ := pickF_mem hc
  exact h2 p hp a L
 ·obtain ⟨p, hp, rfl⟩ := pickF_mem hc
  obtain ⟨q, hq, rfl⟩ := pickF_mem hp
  exact h3 q hq a L
def mkU (S : Ctx) (cu : List (FuncId × (Array Value → List Blk → CallU))) (lu : List (FuncId × (F → List Blk → LoopU))) : Ctx :=
 ⟨S.cl, S.lp, S.rg, S.op, fun f => pickF f cu, fun f => pickF f lu⟩
theorem mkU_holds {S : Ctx} (hS : S.holds P) {cu : List (FuncId × (Array Value → List Blk → CallU))} {lu : List (FuncId × (F → List Blk → LoopU))}
  (h1 : ∀ p ∈ cu, ∀ a L, Meets P (p.2 a L).c) (h2 : ∀ p ∈ lu, ∀ a L, MeetsL P (p.2 a L).c) : (mkU S cu lu).holds P := by
 refine ⟨hS.cl, hS.lp, hS.rg, hS.op, fun f c hc a L => ?_, fun f c hc a L => ?_⟩
 ·obtain ⟨p, hp, rfl⟩ := pickF_mem hc
  exact h1 p hp a L
 ·obtain ⟨p, hp, rfl⟩ := pickF_mem hc
  exact h2 p hp a L
def S0 : Ctx := mkS [] [] []
theorem S0_holds : S0.holds P := mkS_holds (fun _ h => (by cases h)) (fun _ h => (by cases h)) (fun _ h => (by cases h))
def argI (a : Array Value) (i : Nat) : Int := match nth a.toList i with
 | some (.int _ n) => n
 | _ => 0
def rowO (e size n : Nat) (xs : List Value) (v : Value → Value) : OutM × (List Let → Value) :=
 (⟨fun ns => n ≤ num ns 1, fun ns => [(num ns 0, .row e size n (num ns 1) xs)], fun _ => []⟩, fun ns => v (.slice (some ⟨num ns 0, 0, none⟩) n (num ns 1)))
theorem rowO_leaf {c : CallC} {e size n : Nat} {xs : List Value} {v : Value → Value} (ho : rowO e size n xs v ∈ c.outs) (hm : c.mem.m = 2) {g cap : Nat} {y : Value × List Blk} (i : Nat) {b : Blk} (hv : y.1 = v (.slice (some ⟨g, 0, none⟩) n cap)) (hb : y.2[i]? = some b) (hf : fitB b (g, .row e size n cap xs)) (hc : n ≤ cap) : leafC c y := by
 refine ⟨_, ho, [⟨g, 0, false, undef, []⟩, ⟨cap, 0, false, undef, []⟩], hm.symm, hv, ⟨[i], by simp, ?_⟩, hc⟩
 have : pickL y.2 [i] = [b] := by simp [pickL, hb]
 rw [this]
 exact ⟨hf, trivial⟩
theorem rowO_leaf' {c : CallC} {e size n n' : Nat} {xs xs' : List Value} {v : Value → Value} (ho : rowO e size n xs v ∈ c.outs) (hm : c.mem.m = 2) {g cap : Nat} {y : Value × List Blk} (i : Nat) (hv : y.1 = v (.slice (some ⟨g, 0, none⟩) n' cap)) (hb : y.2[i]? = some ⟨g, .row e size n' cap xs', true⟩) (hn : n' = n) (hx : xs' = xs) (hc : n' ≤ cap) : leafC c y := by
 subst hn hx
 exact rowO_leaf ho hm i hv hb ⟨rfl, rfl, .inl rfl⟩ hc
def plainO (v : Value) : OutM × (List Let → Value) := (⟨fun _ => True, fun _ => [], fun _ => []⟩, fun _ => v)
theorem plainO_leaf {c : CallC} {v : Value} (ho : plainO v ∈ c.outs) (hm : c.mem.m = 0) {y : Value × List Blk} (hv : y.1 = v) : leafC c y :=
 ⟨_, ho, [], hm.symm, hv, ⟨[], List.nodup_nil, trivial⟩, trivial⟩
def ptrN (v : Value) : Nat := match v with
 | .slice (some ⟨b, _, _⟩) _ _ => b
 | .pointer (some ⟨b, _, _⟩) => b
 | _ => 0
def capN (v : Value) : Nat := match v with
 | .slice _ _ c => c
 | _ => 0
def argV (a : Array Value) (i : Nat) : Value := match nth a.toList i with
 | some v => v
 | _ => undef
theorem b_and (b c : Bool) : ((bif b then c else false) = true) = (b = true ∧ c = true) := by cases b <;> cases c <;> simp
theorem b_or (b c : Bool) : ((bif b then true else c) = true) = (b = true ∨ c = true) := by cases b <;> cases c <;> simp
theorem b_not (b : Bool) : ((!b) = true) = ¬ (b = true) := by cases b <;> simp
theorem b_f (b : Bool) : (b = false) = ¬ (b = true) := by cases b <;> simp
theorem b_and' (b c : Bool) : ((b && c) = true) = (b = true ∧ c = true) := by cases b <;> cases c <;> simp
theorem b_or' (b c : Bool) : ((b || c) = true) = (b = true ∨ c = true) := by cases b <;> cases c <;> simp
theorem b_tt : (true = true) = True := by simp
theorem b_ft : (false = true) = False := by simp
theorem q_lt (a b : Int) : (Ex.ltQ a b = true) = (a < b) := by rw [Ex.ltQ_eq]; simp
theorem q_le (a b : Int) : (Ex.leQ a b = true) = (a ≤ b) := by rw [Ex.leQ_eq]; simp
theorem q_eq (a b : Int) : (Ex.eqQ a b = true) = (a = b) := by rw [Ex.eqQ_eq]; simp
theorem leafL_next {σ : Type} {c : LoopC} {ks : List Nat} {slots : σ → List (Nat × Value)} {mem : σ → List Blk} {ok : σ → Prop} {μ : σ → Nat} {s : σ} {n : Nat} {vs : List Value} {L : List Blk}
  (s' : σ) (hn : n = c.n) (hok : ok s') (hμ : μ s' < μ s) (hz : ks.zip vs = slots s') (pk : List Nat) (hpk : pk.Nodup) (hp : pickL L pk = mem s') : leafL c ks slots mem ok μ s (.normal, n, vs, L) :=
 ⟨hn, .inl ⟨rfl, s', hok, hμ, hz, pk, hpk, hp⟩⟩
theorem leafL_end {σ : Type} {c : LoopC} {ks : List Nat} {slots : σ → List (Nat × Value)} {mem : σ → List Blk} {ok : σ → Prop} {μ : σ → Nat} {s : σ} {x : Exit} {n : Nat} {vs : List Value} {L : List Blk}
  (i : Nat) {o : OutM × Exit × (List Let → List (Nat × Value))} (ho : c.outs[i]? = some o) (hx : x = o.2.1) (hne : x ≠ .normal) (hn : n = c.n) (ns : List Let) (hm : ns.length = c.mem.m) (q : List Nat) (hq : o.2.2 ns = q.filterMap fun i => (ks.zip vs)[i]?)
  (pk : List Nat) (hpk : pk.Nodup) (hf : fitsB (pickL L pk) (o.1.nw ns ++ o.1.nb ns)) (hh : o.1.hyp ns) : leafL c ks slots mem ok μ s (x, n, vs, L) :=
 ⟨hn, .inr ⟨hne, o, List.mem_of_getElem? ho, hx, ns, hm, ⟨q, hq⟩, ⟨pk, hpk, hf⟩, hh⟩⟩
theorem inc_q (k : Nat) (h : k < 9223372036854775807) : Ex.wrapQ .i64 (Ex.addQ (k : Int) 1) = ((k + 1 : Nat) : Int) := by
 rw [Ex.wrapQ_eq, Ex.addQ_eq]
 simp [IntKind.wrap, IntKind.signed, IntKind.bits]
 omega
def loopsOf : Code → List Code
 | .loop c => c :: loopsOf c
 | .seq a b => loopsOf a ++ loopsOf b
 | .block _ c | .scope c => loopsOf c
 | .cond _ a b => loopsOf a ++ loopsOf b
 | _ => []
def loopBody (f : Func) (k : Nat) : Code := match f.body with
 | some c => (loopsOf c).getD k .skip
 | none => .skip
def plainC (f : FuncId) (args : Array Value) (v : Value) : CallC := ⟨f, args, True, ⟨[], [], 0, []⟩, [plainO v]⟩
end Go.Proofs.YtlpcnaeknbmjdaaGreat.Sy
namespace Go.Proofs.YtlpcnaeknbmjdaaGreat
open Go
theorem mixed : Tryz.prog.follows .mixedOrders = true := by kernel_rfl
end Go.Proofs.YtlpcnaeknbmjdaaGreat
namespace Go.Proofs.YtlpcnaeknbmjdaaGreat.Lw
open Sy.O (fork nil steps)
open Sy.Res (need hyp br leaf both)
open Go Go.RowKit
open Go.Proofs.YtlpcnaeknbmjdaaGreat.Sy (Let Blk)
structure I where
 op : Int
 rd : Int
 rn : Int
 rm : Int
 imm : Int
 cond : Int
 deriving DecidableEq
def I.cells (i : I) : List Value := [.int .i64 i.op, .int .i64 i.rd, .int .i64 i.rn, .int .i64 i.rm, .int .i64 i.imm, .int .i64 i.cond]
def insCells (l : List I) : List Value := l.flatMap I.cells
def movk (r x : Int) (i : Int) : List I := if x = 0 then [] else [⟨2, r, 0, 0, x, i⟩]
def numL (r v : Int) : List I := ⟨1, r, 0, 0, v % 65536, 0⟩ :: (movk r (v / 65536 % 65536) 1 ++ (movk r (v / 4294967296 % 65536) 2 ++ movk r (v / 281474976710656 % 65536) 3))
def goodU (v : Int) : Prop := 0 ≤ v ∧ v < 18446744073709551616
abbrev tI : TypeId := 49
def numC (r v : Int) : Sy.CallC := ⟨159, #[.int .i64 r, .int .u64 v], goodU v, ⟨[], [], 2, []⟩, [Sy.rowO tI 6 (numL r v).length (insCells (numL r v)) id]⟩
def rnum0 (r v : Int) : Sy.CallC := ⟨138, #[.slice none 0 0, .int .i64 r, .int .u64 v], goodU v, ⟨[], [], 2, []⟩, [Sy.rowO tI 6 (numL r v).length (insCells (numL r v)) id]⟩
def rnumA (g n cap : Nat) (xs : List Value) (r v : Int) : Sy.CallC := ⟨138, #[.slice (some ⟨g, 0, none⟩) n cap, .int .i64 r, .int .u64 v], goodU v ∧ n ≤ 1000000, ⟨[], [(g, .row tI 6 n cap xs)], 2, []⟩,
 [Sy.rowO tI 6 (n + (numL r v).length) (xs ++ insCells (numL r v)) id]⟩
def rnum0_o : Sy.O := (steps [0, 0, 0, 0, 0, 0, 0, 0, 0, 0, 0, 0] (fork (steps [0, 0, 0, 1, 0, 0, 0, 0, 0, 0, 0, 0, 0, 0, 0] (fork (steps [0, 0, 0, 1, 0, 0, 0, 0, 0, 0, 0, 0, 0, 0, 0] (fork (steps [0, 0, 0, 1, 0, 0, 0, 0, 0, 0, 0, 0, 0, 0, 0] nil) (steps [0] nil))) (steps [0] (fork (steps [0, 0, 0, 1, 0, 0, 0, 0, 0, 0, 0, 0, 0, 0, 0] nil) (steps [0] nil))))) (steps [0] (fork (steps [0, 0, 0, 1, 0, 0, 0, 0, 0, 0, 0, 0, 0, 0, 0] (fork (steps [0, 0, 0, 1, 0, 0, 0, 0, 0, 0, 0, 0, 0, 0, 0] nil) (steps [0] nil))) (steps [0] (fork (steps [0, 0, 0, 1, 0, 0, 0, 0, 0, 0, 0, 0, 0, 0, 0] nil) (steps [0] nil)))))))
noncomputable def rnum0_R (r v : Int) (ns : Nat → Sy.Let) : Sy.Res (Value × List Blk) :=
 let z0 := nat_lit 65536
 let z1 := Ex.wrapQ .u64 (Ex.quoQ v z0)
 let z2 := ns 5
 let z3 := Nat.le 2 z2.n
 let z4 := Ex.wrapQ .u64 (Ex.quoQ z1 z0)
 let z5 := !Ex.eqQ (Ex.remQ z4 z0) 0
 let z6 := ns 8
 let z7 := Nat.le 3 z6.n
 let z8 := Ex.remQ (Ex.wrapQ .u64 (Ex.quoQ z4 z0)) z0
 let z9 := !Ex.eqQ z8 0
 let z10 := Ex.wrapQ .i64 (Ex.remQ v z0)
 let z11 := Ex.wrapQ .i64 (Ex.remQ z1 z0)
 let z12 := Ex.wrapQ .i64 (Ex.remQ z4 z0)
 let z13 := Ex.wrapQ .i64 z8
 let z14 := Sy.Cont.obj (Obj.cells (Array.mk [.int .i64 2, .int .i64 r, .int .i64 0, .int .i64 0, .int .i64 z13, .int .i64 3]) 49)
 let z15 := Sy.Cont.obj (Obj.cells (Array.mk [.int .i64 2, .int .i64 r, .int .i64 0, .int .i64 0, .int .i64 z12, .int .i64 2]) 49)
 let z16 := ns 3
 let z17 := Sy.Cont.obj (Obj.cells (Array.mk [.int .i64 2, .int .i64 r, .int .i64 0, .int .i64 0, .int .i64 z11, .int .i64 1]) 49)
 let z18 := ns 0
 let z19 := [Value.int .i64 1, Value.int .i64 r, Value.int .i64 0, Value.int .i64 0, Value.int .i64 z10, Value.int .i64 0]
 let z20 := Sy.Cont.obj (Obj.cells (Array.mk z19) 49)
 let z21 := some (Addr.mk (ns 7).n 0 none)
 let z22 := some (Addr.mk (ns 4).n 0 none)
 hyp (Nat.le 1 (ns 2).n) (br (!Ex.eqQ (Ex.remQ z1 z0) 0) (hyp z3 (br z5 (hyp z7 (br z9 (hyp (Nat.le 4 (ns 11).n) (leaf (Value.slice (some (Addr.mk (ns 10).n 0 none)) 4 (ns 11).n, [Blk.mk (ns 10).n (Sy.Cont.row 49 6 4 (ns 11).n [Value.int .i64 1, Value.int .i64 r, Value.int .i64 0, Value.int .i64 0, Value.int .i64 z10, Value.int .i64 0, Value.int .i64 2, Value.int .i64 r, Value.int .i64 0, Value.int .i64 0, Value.int .i64 z11, Value.int .i64 1, Value.int .i64 2, Value.int .i64 r, Value.int .i64 0, Value.int .i64 0, Value.int .i64 z12, Value.int .i64 2, Value.int .i64 2, Value.int .i64 r, Value.int .i64 0, Value.int .i64 0, Value.int .i64 z13, Value.int .i64 3]) true, Blk.mk (ns 9).n z14 true, Blk.mk (ns 6).n z15 true, Blk.mk z16.n z17 true, Blk.mk z18.n z20 true]))) (leaf (Value.slice z21 3 z6.n, [Blk.mk (ns 7).n (Sy.Cont.row 49 6 3 z6.n [Value.int .i64 1, Value.int .i64 r, Value.int .i64 0, Value.int .i64 0, Value.int .i64 z10, Value.int .i64 0, Value.int .i64 2, Value.int .i64 r, Value.int .i64 0, Value.int .i64 0, Value.int .i64 z11, Value.int .i64 1, Value.int .i64 2, Value.int .i64 r, Value.int .i64 0, Value.int .i64 0, Value.int .i64 z12, Value.int .i64 2]) true, Blk.mk (ns 6).n z15 true, Blk.mk z16.n z17 true, Blk.mk z18.n z20 true])))) (br z9 (hyp z7 (leaf (Value.slice z21 3 z6.n, [Blk.mk (ns 7).n (Sy.Cont.row 49 6 3 z6.n [Value.int .i64 1, Value.int .i64 r, Value.int .i64 0, Value.int .i64 0, Value.int .i64 z10, Value.int .i64 0, Value.int .i64 2, Value.int .i64 r,
 Value.int .i64 0, Value.int .i64 0, Value.int .i64 z11, Value.int .i64 1, Value.int .i64 2, Value.int .i64 r, Value.int .i64 0, Value.int .i64 0, Value.int .i64 z13, Value.int .i64 3]) true, Blk.mk (ns 6).n z14 true, Blk.mk z16.n z17 true, Blk.mk z18.n z20 true]))) (leaf (Value.slice z22 2 z2.n, [Blk.mk (ns 4).n (Sy.Cont.row 49 6 2 z2.n [Value.int .i64 1, Value.int .i64 r, Value.int .i64 0, Value.int .i64 0, Value.int .i64 z10, Value.int .i64 0, Value.int .i64 2, Value.int .i64 r, Value.int .i64 0, Value.int .i64 0, Value.int .i64 z11, Value.int .i64 1]) true, Blk.mk z16.n z17 true, Blk.mk z18.n z20 true]))))) (br z5 (hyp z3 (br z9 (hyp z7 (leaf (Value.slice z21 3 z6.n, [Blk.mk (ns 7).n (Sy.Cont.row 49 6 3 z6.n [Value.int .i64 1, Value.int .i64 r, Value.int .i64 0, Value.int .i64 0, Value.int .i64 z10, Value.int .i64 0, Value.int .i64 2, Value.int .i64 r, Value.int .i64 0, Value.int .i64 0, Value.int .i64 z12, Value.int .i64 2, Value.int .i64 2, Value.int .i64 r, Value.int .i64 0, Value.int .i64 0, Value.int .i64 z13, Value.int .i64 3]) true, Blk.mk (ns 6).n z14 true, Blk.mk z16.n z15 true, Blk.mk z18.n z20 true]))) (leaf (Value.slice z22 2 z2.n, [Blk.mk (ns 4).n (Sy.Cont.row 49 6 2 z2.n [Value.int .i64 1, Value.int .i64 r, Value.int .i64 0, Value.int .i64 0, Value.int .i64 z10, Value.int .i64 0, Value.int .i64 2, Value.int .i64 r, Value.int .i64 0, Value.int .i64 0, Value.int .i64 z12, Value.int .i64 2]) true, Blk.mk z16.n z15 true, Blk.mk z18.n z20 true])))) (br z9 (hyp z3
 (leaf (Value.slice z22 2 z2.n, [Blk.mk (ns 4).n (Sy.Cont.row 49 6 2 z2.n [Value.int .i64 1, Value.int .i64 r, Value.int .i64 0, Value.int .i64 0, Value.int .i64 z10, Value.int .i64 0, Value.int .i64 2, Value.int .i64 r, Value.int .i64 0, Value.int .i64 0, Value.int .i64 z13, Value.int .i64 3]) true, Blk.mk z16.n z14 true, Blk.mk z18.n z20 true]))) (leaf (Value.slice (some (Addr.mk (ns 1).n 0 none)) 1 (ns 2).n, [Blk.mk (ns 1).n (Sy.Cont.row 49 6 1 (ns 2).n z19) true, Blk.mk z18.n z20 true])))))
theorem rnum0_run (r v : Int) : Sy.Ran (Sy.inT Tryz.prog Sy.S0 100 138 #[.slice none 0 0, .int .i64 r, .int .u64 v] [] (Sy.rowT tI)) rnum0_o (rnum0_R r v) := ⟨fun _ => by kernel_rfl, fun _ => by kernel_rfl⟩
def rnumA_o : Sy.O := (steps [0, 0, 0, 1, 0, 1, 1, 0, 0, 0, 0, 0, 0, 0, 0] (fork (steps [0, 0, 0, 1, 0, 1, 1, 0, 0, 0, 0, 0, 0, 0, 0] (fork (steps [0, 0, 0, 1, 0, 1, 1, 0, 0, 0, 0, 0, 0, 0, 0] (fork (steps [0, 0, 0, 1, 0, 1, 1, 0, 0, 0, 0, 0, 0, 0, 0] nil) (steps [0] nil))) (steps [0] (fork (steps [0, 0, 0, 1, 0, 1, 1, 0, 0, 0, 0, 0, 0, 0, 0] nil) (steps [0] nil))))) (steps [0] (fork (steps [0, 0, 0, 1, 0, 1, 1, 0, 0, 0, 0, 0, 0, 0, 0] (fork (steps [0, 0, 0, 1, 0, 1, 1, 0, 0, 0, 0, 0, 0, 0, 0] nil) (steps [0] nil))) (steps [0] (fork (steps [0, 0, 0, 1, 0, 1, 1, 0, 0, 0, 0, 0, 0, 0, 0] nil) (steps [0] nil)))))))
noncomputable def rnumA_R (g n cap : Nat) (xs : List Value) (r v : Int) (ns : Nat → Sy.Let) : Sy.Res (Value × List Blk) :=
 let z0 := n + 1
 let z1 := nat_lit 65536
 let z2 := Ex.wrapQ .u64 (Ex.quoQ v z1)
 let z3 := n + 1 + (1 : Nat) ≤ 9223372036854775807
 let z4 := n + 1 + 1
 let z5 := z4 * (48 : Nat) ≤ 140737488355328
 let z6 := ns 5
 let z7 := Nat.le z4 z6.n
 let z8 := Ex.wrapQ .u64 (Ex.quoQ z2 z1)
 let z9 := !Ex.eqQ (Ex.remQ z8 z1) 0
 let z10 := n + 1 + 1 + (1 : Nat) ≤ 9223372036854775807
 let z11 := n + 1 + 1 + 1
 let z12 := z11 * (48 : Nat) ≤ 140737488355328
 let z13 := ns 8
 let z14 := Nat.le z11 z13.n
 let z15 := Ex.remQ (Ex.wrapQ .u64 (Ex.quoQ z8 z1)) z1
 let z16 := !Ex.eqQ z15 0
 let z17 := n + 1 + 1 + 1 + 1
 let z18 := [Value.int .i64 1, Value.int .i64 r, Value.int .i64 0, Value.int .i64 0, Value.int .i64 (Ex.wrapQ .i64 (Ex.remQ v z1)), Value.int .i64 0]
 let z19 := List.append xs z18
 let z20 := [Value.int .i64 2, Value.int .i64 r, Value.int .i64 0, Value.int .i64 0, Value.int .i64 (Ex.wrapQ .i64 (Ex.remQ z2 z1)), Value.int .i64 1]
 let z21 := List.append z19 z20
 let z22 := [Value.int .i64 2, Value.int .i64 r, Value.int .i64 0, Value.int .i64 0, Value.int .i64 (Ex.wrapQ .i64 (Ex.remQ z8 z1)), Value.int .i64 2]
 let z23 := List.append z21 z22
 let z24 := [Value.int .i64 2, Value.int .i64 r, Value.int .i64 0, Value.int .i64 0, Value.int .i64 (Ex.wrapQ .i64 z15), Value.int .i64 3]
 let z25 := Sy.Cont.obj (Obj.cells (Array.mk z24) 49)
 let z26 := Sy.Cont.obj (Obj.cells (Array.mk z22) 49)
 let z27 := ns 3
 let z28 := Sy.Cont.obj (Obj.cells (Array.mk z20) 49)
 let z29 := ns 0
 let z30 := Sy.Cont.obj (Obj.cells (Array.mk z18) 49)
 let z31 := some (Addr.mk (ns 7).n 0 none)
 let z32 := some (Addr.mk (ns 4).n 0 none)
 let z33 := List.append z19 z22
 need (n + (1 : Nat) ≤ 9223372036854775807) (need (z0 * (48 : Nat) ≤ 140737488355328) (hyp (Nat.le z0 (ns 2).n) (br (!Ex.eqQ (Ex.remQ z2 z1) 0) (need z3 (need z5 (hyp z7 (br z9 (need z10 (need z12 (hyp z14 (br z16 (need (n + 1 + 1 + 1 + (1 : Nat) ≤ 9223372036854775807) (need (z17 * (48 : Nat) ≤ 140737488355328) (hyp (Nat.le z17 (ns 11).n) (leaf (Value.slice (some (Addr.mk (ns 10).n 0 none)) z17 (ns 11).n, [Blk.mk (ns 10).n (Sy.Cont.row 49 6 z17 (ns 11).n (List.append z23 z24)) true, Blk.mk (ns 9).n z25 true, Blk.mk (ns 6).n z26 true, Blk.mk z27.n z28 true, Blk.mk z29.n z30 true]))))) (leaf (Value.slice z31 z11 z13.n, [Blk.mk (ns 7).n (Sy.Cont.row 49 6 z11 z13.n z23) true, Blk.mk (ns 6).n z26 true, Blk.mk z27.n z28 true, Blk.mk z29.n z30 true])))))) (br z16 (need z10 (need z12 (hyp z14 (leaf (Value.slice z31 z11 z13.n, [Blk.mk (ns 7).n (Sy.Cont.row 49 6 z11 z13.n (List.append z21 z24)) true, Blk.mk (ns 6).n z25 true, Blk.mk z27.n z28 true, Blk.mk z29.n z30 true]))))) (leaf (Value.slice z32 z4 z6.n, [Blk.mk (ns 4).n (Sy.Cont.row 49 6 z4 z6.n z21) true, Blk.mk z27.n z28 true, Blk.mk z29.n z30 true]))))))) (br z9 (need z3 (need z5 (hyp z7 (br z16 (need z10 (need z12 (hyp z14 (leaf (Value.slice z31 z11 z13.n, [Blk.mk (ns 7).n (Sy.Cont.row 49 6 z11 z13.n (List.append z33 z24)) true, Blk.mk (ns 6).n z25 true, Blk.mk z27.n z26 true, Blk.mk z29.n z30 true]))))) (leaf (Value.slice z32 z4 z6.n, [Blk.mk (ns 4).n (Sy.Cont.row 49 6 z4 z6.n z33) true, Blk.mk z27.n z26 true, Blk.mk z29.n z30
 true])))))) (br z16 (need z3 (need z5 (hyp z7 (leaf (Value.slice z32 z4 z6.n, [Blk.mk (ns 4).n (Sy.Cont.row 49 6 z4 z6.n (List.append z19 z24)) true, Blk.mk z27.n z25 true, Blk.mk z29.n z30 true]))))) (leaf (Value.slice (some (Addr.mk (ns 1).n 0 none)) z0 (ns 2).n, [Blk.mk (ns 1).n (Sy.Cont.row 49 6 z0 (ns 2).n z19) true, Blk.mk z29.n z30 true])))))))
theorem rnumA_run (g n cap : Nat) (xs : List Value) (r v : Int) : Sy.Ran (Sy.inT Tryz.prog Sy.S0 100 138 #[.slice (some ⟨g, 0, none⟩) n cap, .int .i64 r, .int .u64 v] [⟨g, .row tI 6 n cap xs, true⟩] (Sy.rowT tI)) rnumA_o (rnumA_R g n cap xs r v) := ⟨fun _ => by kernel_rfl, fun _ => by kernel_rfl⟩
def num_o : Sy.O := (steps [0, 0] (fork (steps [0, 0, 0, 1, 0, 0, 0, 0, 0, 0, 0, 0, 0, 0, 0, 0] (fork (steps [0, 0, 0, 1, 0, 0, 0, 0, 0, 0, 0, 0, 0, 0, 0, 0] (fork (steps [0, 0, 0, 1, 0, 0, 0, 0, 0, 0, 0, 0, 0, 0, 0] nil) (steps [0] nil))) (steps [0, 0] (fork (steps [0, 0, 0, 1, 0, 0, 0, 0, 0, 0, 0, 0, 0, 0, 0] nil) (steps [0] nil))))) (steps [0, 0] (fork (steps [0, 0, 0, 1, 0, 0, 0, 0, 0, 0, 0, 0, 0, 0, 0, 0] (fork (steps [0, 0, 0, 1, 0, 0, 0, 0, 0, 0, 0, 0, 0, 0, 0] nil) (steps [0] nil))) (steps [0, 0] (fork (steps [0, 0, 0, 1, 0, 0, 0, 0, 0, 0, 0, 0, 0, 0, 0] nil) (steps [0] nil)))))))
noncomputable def num_R (r v : Int) (ns : Nat → Sy.Let) : Sy.Res (Value × List Blk) :=
 let z0 := Ex.andQ .u64 (Ex.shrQ .u64 v 16) 65535
 let z1 := ns 3
 let z2 := Nat.le 2 z1.n
 let z3 := Ex.andQ .u64 (Ex.shrQ .u64 v 32) 65535
 let z4 := !Ex.eqQ z3 0
 let z5 := ns 6
 let z6 := Nat.le 3 z5.n
 let z7 := Ex.andQ .u64 (Ex.shrQ .u64 v 48) 65535
 let z8 := !Ex.eqQ z7 0
 let z9 := Ex.wrapQ .i64 (Ex.andQ .u64 v 65535)
 let z10 := Ex.wrapQ .i64 z0
 let z11 := Ex.wrapQ .i64 z3
 let z12 := Ex.wrapQ .i64 z7
 let z13 := Sy.Cont.obj (Obj.cells (Array.mk [.int .i64 2, .int .i64 r, .int .i64 0, .int .i64 0, .int .i64 z12, .int .i64 3]) 49)
 let z14 := Sy.Cont.obj (Obj.cells (Array.mk [.int .i64 2, .int .i64 r, .int .i64 0, .int .i64 0, .int .i64 z11, .int .i64 2]) 49)
 let z15 := ns 1
 let z16 := Sy.Cont.obj (Obj.cells (Array.mk [.int .i64 2, .int .i64 r, .int .i64 0, .int .i64 0, .int .i64 z10, .int .i64 1]) 49)
 let z17 := some (Addr.mk (ns 5).n 0 none)
 let z18 := some (Addr.mk (ns 2).n 0 none)
 br (!Ex.eqQ z0 0) (hyp z2 (br z4 (hyp z6 (br z8 (hyp (Nat.le 4 (ns 9).n) (leaf (Value.slice (some (Addr.mk (ns 8).n 0 none)) 4 (ns 9).n, [Blk.mk (ns 8).n (Sy.Cont.row 49 6 4 (ns 9).n [Value.int .i64 1, Value.int .i64 r, Value.int .i64 0, Value.int .i64 0, Value.int .i64 z9, Value.int .i64 0, Value.int .i64 2, Value.int .i64 r, Value.int .i64 0, Value.int .i64 0, Value.int .i64 z10, Value.int .i64 1, Value.int .i64 2, Value.int .i64 r, Value.int .i64 0, Value.int .i64 0, Value.int .i64 z11, Value.int .i64 2, Value.int .i64 2, Value.int .i64 r, Value.int .i64 0, Value.int .i64 0, Value.int .i64 z12, Value.int .i64 3]) true, Blk.mk (ns 7).n z13 true, Blk.mk (ns 4).n z14 true, Blk.mk z15.n z16 true]))) (leaf (Value.slice z17 3 z5.n, [Blk.mk (ns 5).n (Sy.Cont.row 49 6 3 z5.n [Value.int .i64 1, Value.int .i64 r, Value.int .i64 0, Value.int .i64 0, Value.int .i64 z9, Value.int .i64 0, Value.int .i64 2, Value.int .i64 r, Value.int .i64 0, Value.int .i64 0, Value.int .i64 z10, Value.int .i64 1, Value.int .i64 2, Value.int .i64 r, Value.int .i64 0, Value.int .i64 0, Value.int .i64 z11, Value.int .i64 2]) true, Blk.mk (ns 4).n z14 true, Blk.mk z15.n z16 true])))) (br z8 (hyp z6 (leaf (Value.slice z17 3 z5.n, [Blk.mk (ns 5).n (Sy.Cont.row 49 6 3 z5.n [Value.int .i64 1, Value.int .i64 r, Value.int .i64 0, Value.int .i64 0, Value.int .i64 z9, Value.int .i64 0, Value.int .i64 2, Value.int .i64 r, Value.int .i64 0, Value.int .i64 0, Value.int .i64 z10, Value.int .i64 1, Value.int .i64 2,
 Value.int .i64 r, Value.int .i64 0, Value.int .i64 0, Value.int .i64 z12, Value.int .i64 3]) true, Blk.mk (ns 4).n z13 true, Blk.mk z15.n z16 true]))) (leaf (Value.slice z18 2 z1.n, [Blk.mk (ns 2).n (Sy.Cont.row 49 6 2 z1.n [Value.int .i64 1, Value.int .i64 r, Value.int .i64 0, Value.int .i64 0, Value.int .i64 z9, Value.int .i64 0, Value.int .i64 2, Value.int .i64 r, Value.int .i64 0, Value.int .i64 0, Value.int .i64 z10, Value.int .i64 1]) true, Blk.mk z15.n z16 true]))))) (br z4 (hyp z2 (br z8 (hyp z6 (leaf (Value.slice z17 3 z5.n, [Blk.mk (ns 5).n (Sy.Cont.row 49 6 3 z5.n [Value.int .i64 1, Value.int .i64 r, Value.int .i64 0, Value.int .i64 0, Value.int .i64 z9, Value.int .i64 0, Value.int .i64 2, Value.int .i64 r, Value.int .i64 0, Value.int .i64 0, Value.int .i64 z11, Value.int .i64 2, Value.int .i64 2, Value.int .i64 r, Value.int .i64 0, Value.int .i64 0, Value.int .i64 z12, Value.int .i64 3]) true, Blk.mk (ns 4).n z13 true, Blk.mk z15.n z14 true]))) (leaf (Value.slice z18 2 z1.n, [Blk.mk (ns 2).n (Sy.Cont.row 49 6 2 z1.n [Value.int .i64 1, Value.int .i64 r, Value.int .i64 0, Value.int .i64 0, Value.int .i64 z9, Value.int .i64 0, Value.int .i64 2, Value.int .i64 r, Value.int .i64 0, Value.int .i64 0, Value.int .i64 z11, Value.int .i64 2]) true, Blk.mk z15.n z14 true])))) (br z8 (hyp z2 (leaf (Value.slice z18 2 z1.n, [Blk.mk (ns 2).n (Sy.Cont.row 49 6 2 z1.n [Value.int .i64 1, Value.int .i64 r, Value.int .i64 0, Value.int .i64 0, Value.int .i64 z9, Value.int .i64 0,
 Value.int .i64 2, Value.int .i64 r, Value.int .i64 0, Value.int .i64 0, Value.int .i64 z12, Value.int .i64 3]) true, Blk.mk z15.n z13 true]))) (leaf (Value.slice (some (Addr.mk (ns 0).n 0 none)) 1 1, [Blk.mk (ns 0).n (.obj (.cells (Array.mk [.int .i64 1, .int .i64 r, .int .i64 0, .int .i64 0, .int .i64 z9, .int .i64 0]) 49)) true]))))
theorem num_run (r v : Int) : Sy.Ran (Sy.inT Tryz.prog Sy.S0 100 159 #[.int .i64 r, .int .u64 v] [] (Sy.rowT tI)) num_o (num_R r v) := ⟨fun _ => by kernel_rfl, fun _ => by kernel_rfl⟩
theorem and16 {v : Int} (h : goodU v) : Ex.wrapQ .i64 (Ex.andQ .u64 v 65535) = v % 65536 := by
 unfold goodU at h
 obtain ⟨n, rfl⟩ : ∃ n : Nat, v = n := ⟨v.toNat, by omega⟩
 rw [Ex.andQ_eq, Ex.wrapQ_eq]
 have : ((BitVec.ofInt 64 (n : Int) &&& BitVec.ofInt 64 65535).toNat : Int) = (n : Int) % 65536 := by
  have e : (BitVec.ofInt 64 (n : Int) &&& BitVec.ofInt 64 65535).toNat = n % 65536 := by
   have h1 : (BitVec.ofInt 64 (n : Int)).toNat = n := by
    rw [BitVec.toNat_ofInt]; omega
   rw [BitVec.toNat_and, h1]
   exact Nat.and_two_pow_sub_one_eq_mod n 16
  rw [e]; omega
 show IntKind.i64.wrap (IntKind.u64.wrap ((BitVec.ofInt 64 (n : Int) &&& BitVec.ofInt 64 65535).toNat : Int)) = _
 rw [this]
 simp [IntKind.wrap, IntKind.signed, IntKind.bits]
 omega
theorem shand {v : Int} (h : goodU v) (k : Nat) (hk : k < 64) : Ex.andQ .u64 (Ex.shrQ .u64 v k) 65535 = v / (2 ^ k : Nat) % 65536 := by
 unfold goodU at h
 obtain ⟨n, rfl⟩ : ∃ n : Nat, v = n := ⟨v.toNat, by omega⟩
 have hs : Ex.shrQ .u64 (n : Int) k = ((n / 2 ^ k : Nat) : Int) := by
  rw [Ex.shrQ_eq]
  have : min k IntKind.u64.bits = k := by simp [IntKind.bits]; omega
  rw [this]
  have : ((2 : Int) ^ k) = ((2 ^ k : Nat) : Int) := by simp
  rw [this]
  exact (Int.ofNat_fdiv n (2 ^ k)).symm
 rw [hs, Ex.andQ_eq]
 have hm : n / 2 ^ k < 18446744073709551616 := Nat.lt_of_le_of_lt (Nat.div_le_self _ _) (by omega)
 generalize hj : n / 2 ^ k = m at *
 have e : (BitVec.ofInt 64 (m : Int) &&& BitVec.ofInt 64 65535).toNat = m % 65536 := by
  have h1 : (BitVec.ofInt 64 (m : Int)).toNat = m := by
   rw [BitVec.toNat_ofInt]; omega
  rw [BitVec.toNat_and, h1]
  exact Nat.and_two_pow_sub_one_eq_mod m 16
 show IntKind.u64.wrap ((BitVec.ofInt 64 (m : Int) &&& BitVec.ofInt 64 65535).toNat : Int) = _
 rw [e]
 have : (n : Int) / ((2 ^ k : Nat) : Int) = (m : Int) := by rw [← hj]; simp
 rw [this]
 simp [IntKind.wrap, IntKind.signed, IntKind.bits]
 omega
theorem wrap16 (x : Int) : Ex.wrapQ .i64 (x % 65536) = x % 65536 := by
 rw [Ex.wrapQ_eq]
 simp [IntKind.wrap, IntKind.signed, IntKind.bits]
 omega
theorem tst_t (x : Int) : ((!Ex.eqQ x 0) = true) = ¬ (x = 0) := by rw [Ex.eqQ_eq]; simp
theorem tst_f (x : Int) : ((!Ex.eqQ x 0) = false) = (x = 0) := by rw [Ex.eqQ_eq]; simp
theorem quo16 {v : Int} (h : goodU v) : Ex.wrapQ .u64 (Ex.quoQ v 65536) = v / 65536 := by
 unfold goodU at h
 obtain ⟨n, rfl⟩ : ∃ n : Nat, v = n := ⟨v.toNat, by omega⟩
 rw [Ex.wrapQ_eq, Ex.quoQ_eq]
 show IntKind.u64.wrap (((n / 65536 : Nat) : Int)) = _
 simp [IntKind.wrap, IntKind.signed, IntKind.bits]
 omega
theorem rem16 {v : Int} (h : goodU v) : Ex.remQ v 65536 = v % 65536 := by
 unfold goodU at h
 obtain ⟨n, rfl⟩ : ∃ n : Nat, v = n := ⟨v.toNat, by omega⟩
 rw [Ex.remQ_eq]
 show ((n % 65536 : Nat) : Int) = _
 omega
theorem good_quo {v : Int} (h : goodU v) : goodU (v / 65536) := by unfold goodU at *; omega
theorem rnum_eqs {v : Int} (h : goodU v) : Ex.remQ v 65536 = v % 65536 ∧ Ex.wrapQ .u64 (Ex.quoQ v 65536) = v / 65536 ∧ Ex.remQ (v / 65536) 65536 = v / 65536 % 65536 ∧ Ex.wrapQ .u64 (Ex.quoQ (v / 65536) 65536) = v / 4294967296 ∧ Ex.remQ (v / 4294967296) 65536 = v / 4294967296 % 65536 ∧
  Ex.wrapQ .u64 (Ex.quoQ (v / 4294967296) 65536) = v / 281474976710656 ∧ Ex.remQ (v / 281474976710656) 65536 = v / 281474976710656 % 65536 := by
 have e1 : v / 65536 / 65536 = v / 4294967296 := by omega
 have e2 : v / 4294967296 / 65536 = v / 281474976710656 := by omega
 have g1 := good_quo h
 have g2 := good_quo g1
 rw [e1] at g2
 have g3 := good_quo g2
 rw [e2] at g3
 exact ⟨rem16 h, quo16 h, rem16 g1, by rw [quo16 g1, e1], rem16 g2, by rw [quo16 g2, e2], rem16 g3⟩
theorem rnum0_met (r v : Int) : Sy.Meets Tryz.prog (rnum0 r v) := by
 refine Sy.meets_of Sy.S0_holds mixed (rnum0_run r v) fun hok ns => ?_
 obtain ⟨h1, h2, h3, h4, h5, h6, h7⟩ := rnum_eqs (show goodU v from hok)
 simp only [rnum0_R, Sy.Res.holds, Int.ofNat_eq_natCast, h1, h2, h3, h4, h5, h6, h7, wrap16, tst_t, tst_f]
 unfold rnum0 numL movk
 refine fun hc0 => ⟨fun c1 hc1 => ⟨fun c2 hc2 => ⟨fun c3 hc3 => ?_, fun c3 => ?_⟩, fun c2 => ⟨fun c3 hc3 => ?_, fun c3 => ?_⟩⟩, fun c1 => ⟨fun c2 hc2 => ⟨fun c3 hc3 => ?_, fun c3 => ?_⟩, fun c2 => ⟨fun c3 hc3 => ?_, fun c3 => ?_⟩⟩⟩
 all_goals
  simp only [c1, c2, c3, if_true, if_false]
  exact Sy.rowO_leaf' (List.mem_singleton_self _) rfl 0 rfl rfl rfl rfl (by assumption)
theorem rnumA_met (g n cap : Nat) (xs : List Value) (r v : Int) : Sy.Meets Tryz.prog (rnumA g n cap xs r v) := by
 refine Sy.meets_of Sy.S0_holds mixed (rnumA_run g n cap xs r v) fun hok ns => ?_
 obtain ⟨hok, hn⟩ := hok
 obtain ⟨h1, h2, h3, h4, h5, h6, h7⟩ := rnum_eqs (show goodU v from hok)
 simp only [rnumA_R, Sy.Res.holds, Int.ofNat_eq_natCast, h1, h2, h3, h4, h5, h6, h7, wrap16, tst_t, tst_f]
 unfold rnumA numL movk
 refine ⟨by omega, by omega, fun hc0 => ⟨fun c1 => ⟨by omega, by omega, fun hc1 => ⟨fun c2 => ⟨by omega, by omega, fun hc2 => ⟨fun c3 => ⟨by omega, by omega, fun hc3 => ?_⟩, fun c3 => ?_⟩⟩, fun c2 => ⟨fun c3 => ⟨by omega, by omega, fun hc3 => ?_⟩, fun c3 => ?_⟩⟩⟩,
  fun c1 => ⟨fun c2 => ⟨by omega, by omega, fun hc2 => ⟨fun c3 => ⟨by omega, by omega, fun hc3 => ?_⟩, fun c3 => ?_⟩⟩, fun c2 => ⟨fun c3 => ⟨by omega, by omega, fun hc3 => ?_⟩, fun c3 => ?_⟩⟩⟩⟩
 all_goals
  simp only [c1, c2, c3, if_true, if_false]
  exact Sy.rowO_leaf' (List.mem_singleton_self _) rfl 0 rfl rfl (by simp) (by simp [insCells, I.cells]) (by assumption)
theorem numC_met (r v : Int) : Sy.Meets Tryz.prog (numC r v) := by
 refine Sy.meets_of Sy.S0_holds mixed (num_run r v) fun hok ns => ?_
 have h1 : Ex.andQ .u64 (Ex.shrQ .u64 v 16) 65535 = v / 65536 % 65536 := shand hok 16 (by omega)
 have h2 : Ex.andQ .u64 (Ex.shrQ .u64 v 32) 65535 = v / 4294967296 % 65536 := shand hok 32 (by omega)
 have h3 : Ex.andQ .u64 (Ex.shrQ .u64 v 48) 65535 = v / 281474976710656 % 65536 := shand hok 48 (by omega)
 have h0 := and16 (show goodU v from hok)
 simp only [num_R, Sy.Res.holds, Int.ofNat_eq_natCast, h0, h1, h2, h3, wrap16, tst_t, tst_f]
 unfold numC numL movk
 refine ⟨fun c1 hc1 => ⟨fun c2 hc2 => ⟨fun c3 hc3 => ?_, fun c3 => ?_⟩, fun c2 => ⟨fun c3 hc3 => ?_, fun c3 => ?_⟩⟩, fun c1 => ⟨fun c2 hc2 => ⟨fun c3 hc3 => ?_, fun c3 => ?_⟩, fun c2 => ⟨fun c3 hc3 => ?_, fun c3 => ?_⟩⟩⟩
 all_goals
  simp only [c1, c2, c3, if_true, if_false]
  refine Sy.rowO_leaf (List.mem_singleton_self _) rfl 0 rfl rfl ⟨rfl, rfl, ?_⟩ (by first | assumption | exact Nat.le_refl _)
  first | exact .inl rfl | exact .inr (.inl rfl)
open Go Go.RowKit
open Go.Proofs.YtlpcnaeknbmjdaaGreat.Sy (Let Blk)
abbrev fSame : FuncId := 15
def bodyS : Code := Sy.loopBody Tryz.f15 0
def slS (ga gb ca cb n m k : Nat) : List (Nat × Value) := [(0, .slice (some ⟨ga, 0, none⟩) n ca), (1, .slice (some ⟨gb, 0, none⟩) m cb), (4, .bool false), (5, .int .i64 k)]
def memS (ga gb : Nat) (xs ys : List Value) : List Blk := [⟨ga, .seg 0 xs, false⟩, ⟨gb, .seg 0 ys, false⟩]
def sameC (ga gb ca cb : Nat) (A B : List I) : Sy.CallC :=
 ⟨fSame, #[.slice (some ⟨ga, 0, none⟩) A.length ca, .slice (some ⟨gb, 0, none⟩) B.length cb], A.length ≤ 1000000000, ⟨[(ga, .seg 0 (insCells A)), (gb, .seg 0 (insCells B))], [], 0, []⟩, [Sy.plainO (.bool (decide (A = B)))]⟩
def loopS (ga gb ca cb : Nat) (A B : List I) : Sy.LoopC :=
 ⟨.loop bodyS, 26, slS ga gb ca cb A.length B.length 0, A.length = B.length ∧ A.length ≤ 1000000000, ⟨[(ga, .seg 0 (insCells A)), (gb, .seg 0 (insCells B))], [], 0, []⟩,
  [(⟨fun _ => A = B, fun _ => [], fun _ => []⟩, .exit 0, fun _ => []), (⟨fun _ => A ≠ B, fun _ => [], fun _ => []⟩, .ret, fun _ => [(4, .bool false)])]⟩
def ctxS (ga gb ca cb : Nat) (A B : List I) : Sy.Ctx := Sy.mkS [] [(fSame, fun _ _ => loopS ga gb ca cb A B)] []
def same_o : Sy.O := (steps [0, 0] (fork nil (steps [0, 0, 0, 0, 0, 0] (fork (steps [0, 0] nil) (steps [0, 0] nil)))))
noncomputable def same_R (ga gb ca cb : Nat) (A B : List I) (ns : Nat → Sy.Let) : Sy.Res (Value × List Blk) :=
 let z0 := leaf (Value.bool false, [])
 br (!Ex.eqQ (Int.ofNat (List.length A)) (Int.ofNat (List.length B))) z0 (need (List.length A = List.length B ∧ List.length A ≤ 1000000000) (both (hyp (A = B) (leaf (Value.bool true, []))) (hyp (A = B → False) z0)))
theorem same_run (ga gb ca cb : Nat) (A B : List I) : Sy.Ran (Sy.inT Tryz.prog (ctxS ga gb ca cb A B) 50 fSame (sameC ga gb ca cb A B).args (Sy.blks (sameC ga gb ca cb A B).mem) Sy.noB) same_o (same_R ga gb ca cb A B) := ⟨fun _ => by kernel_rfl, fun _ => by kernel_rfl⟩
def sameB_o : Sy.O := (steps [0] (fork (steps [1, 0, 0, 0, 1, 0, 1, 2, 0, 1, 3, 0, 0, 1, 1, 1, 1, 1, 1, 1, 1, 4, 5, 6, 0, 1, 7, 0, 1, 1, 1, 1, 1, 1, 1, 1, 1, 8] (fork nil nil)) nil))
noncomputable def sameB_R (ga gb ca cb n m k : Nat) (xs ys rest : List Value) (ns : Nat → Sy.Let) : Sy.Res (Exit × Nat × List Value × List Blk) :=
 let z0 := Sy.Cont.seg 0 xs
 let z1 := 0 + Int.toNat (↑k : Int) * 6
 let z2 := 0 + Int.toNat (↑k : Int) * 6 + 1
 let z3 := 0 + Int.toNat (↑k : Int) * 6 + 1 + 1
 let z4 := 0 + Int.toNat (↑k : Int) * 6 + 1 + 1 + 1
 let z5 := 0 + Int.toNat (↑k : Int) * 6 + 1 + 1 + 1 + 1
 let z6 := 0 + Int.toNat (↑k : Int) * 6 + 1 + 1 + 1 + 1 + 1
 let z7 := Sy.Cont.seg 0 ys
 let z8 := some (Addr.mk ga 0 none)
 let z9 := some (Addr.mk gb 0 none)
 let z10 := [Value.slice z8 n ca, Value.slice z9 m cb, Value.bool false, Value.int .i64 (↑k : Int)]
 br (Ex.ltQ (↑k : Int) (Int.ofNat n)) (need (0 ≤ (↑k : Int) ∧ (↑k : Int) < (↑n : Int)) (need (∃ (i : Int), Sy.Cont.at z0 z1 = some (Value.int .i64 i)) (hyp (Sy.Cont.at z0 z1 = some (Value.int .i64 (ns 0).i)) (need (∃ (i : Int), Sy.Cont.at z0 z2 = some (Value.int .i64 i)) (hyp (Sy.Cont.at z0 z2 = some (Value.int .i64 (ns 1).i)) (need (∃ (i : Int), Sy.Cont.at z0 z3 = some (Value.int .i64 i)) (hyp (Sy.Cont.at z0 z3 = some (Value.int .i64 (ns 2).i)) (need (∃ (i : Int), Sy.Cont.at z0 z4 = some (Value.int .i64 i)) (hyp (Sy.Cont.at z0 z4 = some (Value.int .i64 (ns 3).i)) (need (∃ (i : Int), Sy.Cont.at z0 z5 = some (Value.int .i64 i)) (hyp (Sy.Cont.at z0 z5 = some (Value.int .i64 (ns 4).i)) (need (∃ (i : Int), Sy.Cont.at z0 z6 = some (Value.int .i64 i)) (hyp (Sy.Cont.at z0 z6 = some (Value.int .i64 (ns 5).i)) (need (0 ≤ (↑k : Int) ∧ (↑k : Int) < (↑m : Int)) (need (∃ (i : Int), Sy.Cont.at z7 z1 = some (Value.int .i64 i)) (hyp (Sy.Cont.at z7 z1 = some (Value.int .i64 (ns 6).i)) (need (∃ (i : Int), Sy.Cont.at z7 z2 = some (Value.int .i64 i)) (hyp (Sy.Cont.at z7 z2 = some (Value.int .i64 (ns 7).i)) (need (∃ (i : Int), Sy.Cont.at z7 z3 = some (Value.int .i64 i)) (hyp (Sy.Cont.at z7 z3 = some (Value.int .i64 (ns 8).i)) (need (∃ (i : Int), Sy.Cont.at z7 z4 = some (Value.int .i64 i)) (hyp (Sy.Cont.at z7 z4 = some (Value.int .i64 (ns 9).i)) (need (∃ (i : Int), Sy.Cont.at z7 z5 = some (Value.int .i64 i)) (hyp (Sy.Cont.at z7 z5 = some (Value.int .i64 (ns 10).i)) (need (∃ (i : Int), Sy.Cont.at z7
 z6 = some (Value.int .i64 i)) (hyp (Sy.Cont.at z7 z6 = some (Value.int .i64 (ns 11).i)) (br (!(Ex.eqQ (ns 0).i (ns 6).i && (Ex.eqQ (ns 1).i (ns 7).i && (Ex.eqQ (ns 2).i (ns 8).i && (Ex.eqQ (ns 3).i (ns 9).i && (Ex.eqQ (ns 4).i (ns 10).i && (Ex.eqQ (ns 5).i (ns 11).i && true))))))) (leaf (Exit.ret, 26, z10, memS ga gb xs ys)) (leaf (Exit.normal, 26, [Value.slice z8 n ca, Value.slice z9 m cb, Value.bool false, Value.int .i64 (Ex.wrapQ .i64 (Ex.addQ (↑k : Int) 1))], memS ga gb xs ys))))))))))))))))))))))))))))) (leaf (Exit.exit 0, 26, z10, memS ga gb xs ys))
theorem sameB_run (ga gb ca cb n m k : Nat) (xs ys : List Value) (rest : List Value) : Sy.Ran (Sy.pieceT Tryz.prog Sy.S0 50 fSame bodyS 26 (slS ga gb ca cb n m k) rest (memS ga gb xs ys) [0, 1, 4, 5]) sameB_o (sameB_R ga gb ca cb n m k xs ys rest) := ⟨fun _ => by kernel_rfl, fun _ => by kernel_rfl⟩
theorem cells_at {α : Type} (f : α → List Value) (sz : Nat) (hf : ∀ x, (f x).length = sz) : ∀ {l : List α} {k : Nat} {x : α}, l[k]? = some x → ∀ j u, (f x)[j]? = some u → (l.flatMap f)[k * sz + j]? = some u
 | [], k, x, h, _, _, _ => by simp at h
 | y :: l, k, x, h, j, u, hu => by
   have hj : j < sz := by rw [← hf x]; exact (List.getElem?_eq_some_iff.1 hu).1
   rw [List.flatMap_cons]
   cases k with
   | zero =>
     simp only [List.getElem?_cons_zero, Option.some.injEq] at h
     subst h
     rw [List.getElem?_append_left (by rw [hf]; omega), Nat.zero_mul, Nat.zero_add]
     exact hu
   | succ k =>
     rw [List.getElem?_append_right (by rw [hf, Nat.succ_mul]; omega), hf]
     have := cells_at f sz hf (l := l) (k := k) (by simpa using h) j u hu
     rw [show (k + 1) * sz + j - sz = k * sz + j by rw [Nat.succ_mul]; omega]
     exact this
theorem seg_at {α : Type} (f : α → List Value) (sz : Nat) (hf : ∀ x, (f x).length = sz) {l : List α} {k : Nat} {x : α} (h : l[k]? = some x) (o j : Nat) {u : Value} (hu : (f x)[j]? = some u) : (Sy.Cont.seg o (l.flatMap f)).at (o + k * sz + j) = some u := by
 simp only [Sy.Cont.at]
 rw [if_pos (by omega), show o + k * sz + j - o = k * sz + j by omega]
 exact cells_at f sz hf h j u hu
theorem ins_at {l : List I} {k : Nat} {x : I} (h : l[k]? = some x) (o : Nat) :
  (Sy.Cont.seg o (insCells l)).at (o + Int.toNat (k : Int) * 6) = some (.int .i64 x.op) ∧ (Sy.Cont.seg o (insCells l)).at (o + Int.toNat (k : Int) * 6 + 1) = some (.int .i64 x.rd) ∧ (Sy.Cont.seg o (insCells l)).at (o + Int.toNat (k : Int) * 6 + 1 + 1) = some (.int .i64 x.rn) ∧
  (Sy.Cont.seg o (insCells l)).at (o + Int.toNat (k : Int) * 6 + 1 + 1 + 1) = some (.int .i64 x.rm) ∧ (Sy.Cont.seg o (insCells l)).at (o + Int.toNat (k : Int) * 6 + 1 + 1 + 1 + 1) = some (.int .i64 x.imm) ∧ (Sy.Cont.seg o (insCells l)).at (o + Int.toNat (k : Int) * 6 + 1 + 1 + 1 + 1 + 1) = some (.int .i64 x.cond) := by
 have hh := fun j u hu => seg_at I.cells 6 (fun _ => rfl) h o j (u := u) hu
 simp only [Int.toNat_natCast]
 exact ⟨hh 0 _ rfl, hh 1 _ rfl, hh 2 _ rfl, hh 3 _ rfl, hh 4 _ rfl, hh 5 _ rfl⟩
theorem some_int (k : IntKind) (a b : Int) : ((some (Value.int k a) : Option Value) = some (Value.int k b)) = (a = b) := by simp
theorem lt_t (a b : Int) : (Ex.ltQ a b = true) = (a < b) := by rw [Ex.ltQ_eq]; simp
theorem lt_f (a b : Int) : (Ex.ltQ a b = false) = ¬ (a < b) := by rw [Ex.ltQ_eq]; simp
theorem inc_i (k : Nat) (h : k < 1000000001) : Ex.wrapQ .i64 (Ex.addQ (k : Int) 1) = ((k + 1 : Nat) : Int) := by
 rw [Ex.wrapQ_eq, Ex.addQ_eq]
 simp [IntKind.wrap, IntKind.signed, IntKind.bits]
 omega
theorem I.ext_iff' (x y : I) : x = y ↔ x.op = y.op ∧ x.rd = y.rd ∧ x.rn = y.rn ∧ x.rm = y.rm ∧ x.imm = y.imm ∧ x.cond = y.cond := by
 cases x; cases y; simp
theorem loopS_met (ga gb ca cb : Nat) (A B : List I) : Sy.MeetsL Tryz.prog (loopS ga gb ca cb A B) := by
 refine Sy.loop_of (n := 50) (fn := fSame) Sy.S0_holds mixed (body := bodyS) rfl [0, 1, 4, 5] (fun k : Nat => slS ga gb ca cb A.length B.length k) (fun _ => memS ga gb (insCells A) (insCells B)) (fun k => k ≤ A.length ∧ A.length = B.length ∧ A.length ≤ 1000000000 ∧ A.take k = B.take k) (fun k => A.length - k)
  0 (fun h => ⟨Nat.zero_le _, h.1, h.2, rfl⟩) (fun p hp => hp) [0, 1] (by decide) rfl (o := fun _ => sameB_o) (R := fun k xs => sameB_R ga gb ca cb A.length B.length k (insCells A) (insCells B) xs) (fun k xs _ => sameB_run ga gb ca cb A.length B.length k (insCells A) (insCells B) xs) ?_
 rintro - k rest ⟨hk, hl, hm, ht⟩ ns
 simp only [sameB_R, Sy.Res.holds, Int.ofNat_eq_natCast, lt_t, lt_f]
 refine ⟨fun hlt => ?_, fun hge => ?_⟩
 ·have hlt : k < A.length := by omega
  have ea : A[k]? = some A[k] := List.getElem?_eq_getElem hlt
  have eb : B[k]? = some B[k] := List.getElem?_eq_getElem (by omega)
  obtain ⟨a0, a1, a2, a3, a4, a5⟩ := ins_at ea 0
  obtain ⟨b0, b1, b2, b3, b4, b5⟩ := ins_at eb 0
  simp only [a0, a1, a2, a3, a4, a5, b0, b1, b2, b3, b4, b5, some_int, exists_eq', true_and]
  refine ⟨by omega, fun h0 h1 h2 h3 h4 h5 => ⟨by omega, fun h6 h7 h8 h9 h10 h11 => ?_⟩⟩
  simp only [← h0, ← h1, ← h2, ← h3, ← h4, ← h5, ← h6, ← h7, ← h8, ← h9, ← h10, ← h11, Ex.eqQ_eq]
  refine ⟨fun hne => ⟨rfl, .inr ⟨by simp, _, List.mem_cons_of_mem _ (List.mem_singleton_self _), rfl, [], rfl, ⟨[2], rfl⟩, ⟨[], List.nodup_nil, trivial⟩, fun he => ?_⟩⟩, fun heq => ⟨rfl, .inl ⟨rfl, k + 1, ⟨by omega, hl, hm, ?_⟩, (by show A.length - (k + 1) < A.length - k; omega), ?_, [0, 1], by decide, rfl⟩⟩⟩
  ·subst he
   simp at hne
  ·have : A[k] = B[k] := (I.ext_iff' _ _).2 (by simpa using heq)
   rw [List.take_succ_eq_append_getElem hlt, List.take_succ_eq_append_getElem (by omega), ht, this]
  ·rw [inc_i k (by omega)]; rfl
 ·refine ⟨rfl, .inr ⟨by simp, _, List.mem_cons_self, rfl, [], rfl, ⟨[], rfl⟩, ⟨[], List.nodup_nil, trivial⟩, ?_⟩⟩
  have : k = A.length := by omega
  subst this
  rw [List.take_length, hl, List.take_length] at ht
  exact ht
theorem ctxS_holds (ga gb ca cb : Nat) (A B : List I) : (ctxS ga gb ca cb A B).holds Tryz.prog := Sy.mkS_holds (fun _ h => (by cases h)) (fun p hp a L => by
 rcases List.mem_singleton.1 hp with rfl
 exact loopS_met ga gb ca cb A B) (fun _ h => (by cases h))
theorem ne_t (a b : Int) : ((!Ex.eqQ a b) = true) = ¬ (a = b) := by rw [Ex.eqQ_eq]; simp
theorem ne_f (a b : Int) : ((!Ex.eqQ a b) = false) = (a = b) := by rw [Ex.eqQ_eq]; simp
theorem sameC_met (ga gb ca cb : Nat) (A B : List I) : Sy.Meets Tryz.prog (sameC ga gb ca cb A B) := by
 refine Sy.meets_of (ctxS_holds ga gb ca cb A B) mixed (same_run ga gb ca cb A B) fun hok ns => ?_
 simp only [same_R, Sy.Res.holds, Int.ofNat_eq_natCast, ne_t, ne_f]
 refine ⟨fun hne => Sy.plainO_leaf (List.mem_singleton_self _) rfl ?_, fun he => ⟨⟨by omega, hok⟩, fun h => Sy.plainO_leaf (List.mem_singleton_self _) rfl ?_, fun h => Sy.plainO_leaf (List.mem_singleton_self _) rfl ?_⟩⟩
 ·rw [decide_eq_false (fun h => hne (by rw [h]))]
 ·rw [decide_eq_true h]
 ·rw [decide_eq_false h]
open Go Go.RowKit
open Go.Proofs.YtlpcnaeknbmjdaaGreat.Sy (Let Blk)
structure Nd where
 op : Int
 val : Int
 a : Int
 b : Int
 deriving DecidableEq
def Nd.cells (n : Nd) : List Value := [.int .i64 n.op, .int .u64 n.val, .int .i64 n.a, .int .i64 n.b]
def ndCells (l : List Nd) : List Value := l.flatMap Nd.cells
def nodeOk (loc : Int) (i : Nat) (n : Nd) : Prop :=
 (n.op = 1 ∧ n.a = 0 ∧ n.b = 0) ∨ (n.op = 2 ∧ n.a = 0 ∧ n.b = 0 ∧ n.val < loc) ∨ (3 ≤ n.op ∧ n.op ≤ 5 ∧ n.val = 0 ∧ 0 ≤ n.a ∧ n.a < i ∧ n.b = 0) ∨
 (6 ≤ n.op ∧ n.op ≤ 19 ∧ n.val = 0 ∧ 0 ≤ n.a ∧ n.a < i ∧ 0 ≤ n.b ∧ n.b < i)
def Nd.refs (n : Nd) : List Nat := if n.op < 3 then [] else if n.op < 6 then [n.a.toNat] else [n.a.toNat, n.b.toNat]
def refs (l : List Nd) : List Nat := l.flatMap Nd.refs
def nodesOk (loc : Int) (l : List Nd) : Prop := ∀ i n, l[i]? = some n → nodeOk loc i n
def onceOk (l : List Nd) : Prop := ∀ j, j < l.length → (refs l).count j = if j + 1 < l.length then 1 else 0
def isExpr (loc : Int) (l : List Nd) : Prop := nodesOk loc l ∧ 0 < l.length ∧ l.length ≤ 65536 ∧ onceOk l
def tru (p : Prop) : Bool := @decide p (Classical.propDecidable p)
abbrev fCE : FuncId := 98
def bodyCE : Code := Sy.loopBody Tryz.f98 0
def slCE (g o c n k : Nat) (loc : Int) : List (Nat × Value) := [(0, .slice (some ⟨g, o, none⟩) n c), (1, .int .i64 loc), (4, .bool false), (9, .slice (some ⟨g, o, none⟩) n c), (10, .int .i64 n), (11, .int .i64 k)]
def ceB_o : Sy.O := (fork (steps [0, 1, 0, 0, 1, 1, 1, 1, 1, 1, 0, 0, 0, 1, 0, 0, 0, 1, 0, 0, 0, 2, 3, 4, 1, 5, 0, 0, 0, 6, 7, 8, 9, 10, 0, 0, 0, 11, 12, 13, 1, 14, 0, 0, 0, 15, 16, 17, 18, 19, 0, 0, 0] (fork (steps [1, 0, 0, 0, 1, 0, 0, 0, 2, 1, 3, 4, 0, 0, 0, 5, 1, 6, 7, 1] (fork nil nil)) (steps [0, 0, 0] (fork (steps [1, 0, 0, 0, 0, 1, 0, 0, 0, 2, 1, 3, 4, 1, 5, 0, 0, 0, 6, 7, 8, 9, 10, 11, 0, 0, 0, 12, 1, 13, 14, 1] (fork nil nil)) (steps [0, 0, 0, 1, 0, 0, 0] (fork (steps [0, 0, 0, 1, 0, 0, 0, 1] (fork nil nil)) (steps [1, 0, 0, 0, 1, 0, 0, 0, 1, 0, 0, 0, 1] (fork nil nil)))))))) nil)
noncomputable def ceB_R (g o c n k : Nat) (loc : Int) (xs rest : List Value) (ns : Nat → Sy.Let) : Sy.Res (Exit × Nat × List Value × List Blk) :=
 let z0 := Sy.Cont.seg o xs
 let z1 := o + Int.toNat (↑k : Int) * 4
 let z2 := ns 0
 let z3 := o + Int.toNat (↑k : Int) * 4 + 1
 let z4 := o + Int.toNat (↑k : Int) * 4 + 1 + 1
 let z5 := ns 2
 let z6 := o + Int.toNat (↑k : Int) * 4 + 1 + 1 + 1
 let z7 := ns 3
 let z8 := some (Addr.mk g o none)
 let z9 := [Value.slice z8 n c, Value.int .i64 loc, Value.bool false, Value.slice z8 n c, Value.int .i64 (↑n : Int), Value.int .i64 (↑k : Int)]
 let z10 := [Blk.mk (ns 4).n (.obj (.cells (Array.mk [.int .i64 z2.i, .int .u64 (ns 1).i, .int .i64 z5.i, .int .i64 z7.i]) 127)) true, Blk.mk g z0 false]
 let z11 := leaf (Exit.ret, 113, z9, z10)
 let z12 := leaf (Exit.normal, 113, [Value.slice z8 n c, Value.int .i64 loc, Value.bool false, Value.slice z8 n c, Value.int .i64 (↑n : Int), Value.int .i64 (Ex.wrapQ .i64 (Ex.addQ (↑k : Int) 1))], z10)
 br (Ex.ltQ (↑k : Int) (↑n : Int)) (need (0 ≤ (↑k : Int) ∧ (↑k : Int) < (↑n : Int)) (need (∃ (i : Int), Sy.Cont.at z0 z1 = some (Value.int .i64 i)) (hyp (Sy.Cont.at z0 z1 = some (Value.int .i64 z2.i)) (need (∃ (i : Int), Sy.Cont.at z0 z3 = some (Value.int .u64 i)) (hyp (Sy.Cont.at z0 z3 = some (Value.int .u64 (ns 1).i)) (need (∃ (i : Int), Sy.Cont.at z0 z4 = some (Value.int .i64 i)) (hyp (Sy.Cont.at z0 z4 = some (Value.int .i64 z5.i)) (need (∃ (i : Int), Sy.Cont.at z0 z6 = some (Value.int .i64 i)) (hyp (Sy.Cont.at z0 z6 = some (Value.int .i64 z7.i)) (br (Ex.eqQ z2.i 1) (br (bif !Ex.eqQ z5.i 0 then true else !Ex.eqQ z7.i 0) z11 z12) (br (Ex.eqQ z2.i 2) (br (bif !bif Ex.eqQ z5.i 0 then Ex.ltQ (ns 1).i (Ex.wrapQ .u64 loc) else false then true else !Ex.eqQ z7.i 0) z11 z12) (br (bif Ex.leQ 3 z2.i then Ex.leQ z2.i 5 else false) (br (bif !bif Ex.leQ 0 z5.i then Ex.ltQ z5.i (↑k : Int) else false then true else !bif Ex.eqQ z7.i 0 then Ex.eqQ (ns 1).i 0 else false) z11 z12) (br (bif !bif Ex.leQ 0 z5.i then Ex.ltQ z5.i (↑k : Int) else false then true else !bif bif bif bif Ex.leQ 0 z7.i then Ex.ltQ z7.i (↑k : Int) else false then Ex.leQ 6 z2.i else false then Ex.leQ z2.i 19 else false then Ex.eqQ (ns 1).i 0 else false) z11 z12))))))))))))) (leaf (Exit.exit 0, 113, z9, [Blk.mk g z0 false]))
theorem ceB_run (g o c n k : Nat) (loc : Int) (xs : List Value) (rest : List Value) : Sy.Ran (Sy.pieceT Tryz.prog Sy.S0 50 fCE bodyCE 113 (slCE g o c n k loc) rest [⟨g, .seg o xs, false⟩] [0, 1, 4, 9, 10, 11]) ceB_o (ceB_R g o c n k loc xs rest) := ⟨fun _ => by kernel_rfl, fun _ => by kernel_rfl⟩
theorem nd_at {l : List Nd} {k : Nat} {x : Nd} (h : l[k]? = some x) (o : Nat) :
  (Sy.Cont.seg o (ndCells l)).at (o + Int.toNat (k : Int) * 4) = some (.int .i64 x.op) ∧ (Sy.Cont.seg o (ndCells l)).at (o + Int.toNat (k : Int) * 4 + 1) = some (.int .u64 x.val) ∧
  (Sy.Cont.seg o (ndCells l)).at (o + Int.toNat (k : Int) * 4 + 1 + 1) = some (.int .i64 x.a) ∧ (Sy.Cont.seg o (ndCells l)).at (o + Int.toNat (k : Int) * 4 + 1 + 1 + 1) = some (.int .i64 x.b) := by
 have hh := fun j u hu => seg_at Nd.cells 4 (fun _ => rfl) h o j (u := u) hu
 simp only [Int.toNat_natCast]
 exact ⟨hh 0 _ rfl, hh 1 _ rfl, hh 2 _ rfl, hh 3 _ rfl⟩
theorem wrapU {x : Int} (h0 : 0 ≤ x) (h1 : x < 18446744073709551616) : Ex.wrapQ .u64 x = x := by
 rw [Ex.wrapQ_eq]
 simp [IntKind.wrap, IntKind.signed, IntKind.bits]
 omega
theorem some_bool (a b : Bool) : ((some (Value.bool a) : Option Value) = some (Value.bool b)) = (a = b) := by simp
def loopCE (g o c : Nat) (l : List Nd) (loc : Int) : Sy.LoopC :=
 ⟨.loop bodyCE, 113, slCE g o c l.length 0 loc, 0 ≤ loc ∧ loc ≤ 1000 ∧ l.length ≤ 4398046511104, ⟨[(g, .seg o (ndCells l))], [], 0, []⟩,
  [(⟨fun _ => nodesOk loc l, fun _ => [], fun _ => []⟩, .exit 0, fun _ => [(0, .slice (some ⟨g, o, none⟩) l.length c), (1, .int .i64 loc), (4, .bool false)]), (⟨fun _ => ¬ nodesOk loc l, fun _ => [], fun _ => []⟩, .ret, fun _ => [(4, .bool false)])]⟩
theorem loopCE_met (g o c : Nat) (l : List Nd) (loc : Int) : Sy.MeetsL Tryz.prog (loopCE g o c l loc) := by
 refine Sy.loop_of (n := 50) (fn := fCE) Sy.S0_holds mixed (body := bodyCE) rfl [0, 1, 4, 9, 10, 11] (fun k : Nat => slCE g o c l.length k loc) (fun _ => [⟨g, .seg o (ndCells l), false⟩])
  (fun k => k ≤ l.length ∧ 0 ≤ loc ∧ loc ≤ 1000 ∧ l.length ≤ 4398046511104 ∧ ∀ i n, i < k → l[i]? = some n → nodeOk loc i n) (fun k => l.length - k)
  0 (fun h => ⟨Nat.zero_le _, h.1, h.2.1, h.2.2, fun i n hi => absurd hi (Nat.not_lt_zero i)⟩) (fun p hp => hp) [0] (by decide) rfl (o := fun _ => ceB_o) (R := fun k xs => ceB_R g o c l.length k loc (ndCells l) xs) (fun k xs _ => ceB_run g o c l.length k loc (ndCells l) xs) ?_
 rintro - k rest ⟨hk, hl0, hl1, hm, hall⟩ ns
 have hw : Ex.wrapQ .u64 loc = loc := wrapU hl0 (by omega)
 simp only [ceB_R, Sy.Res.holds, Int.ofNat_eq_natCast, Sy.b_and, Sy.b_or, Sy.b_not, Sy.b_f, Sy.b_and', Sy.b_or', Sy.q_lt, Sy.q_le, Sy.q_eq, Sy.b_tt, Sy.b_ft, not_true_eq_false, not_false_eq_true, hw]
 refine ⟨fun hlt => ?_, fun hge => ?_⟩
 ·have hlt : k < l.length := by omega
  have ea : l[k]? = some l[k] := List.getElem?_eq_getElem hlt
  obtain ⟨a0, a1, a2, a3⟩ := nd_at ea o
  simp only [a0, a1, a2, a3, some_int, some_bool, exists_eq', true_and]
  generalize l[k] = x at *
  refine ⟨by omega, fun h0 h1 h2 h3 => ?_⟩
  simp only [← h0, ← h1, ← h2, ← h3]
  have bad : ¬ nodeOk loc k x → ¬ nodesOk loc l := fun h h' => h (h' k x ea)
  have good : nodeOk loc k x → k + 1 ≤ l.length ∧ 0 ≤ loc ∧ loc ≤ 1000 ∧ l.length ≤ 4398046511104 ∧ ∀ i n, i < k + 1 → l[i]? = some n → nodeOk loc i n := fun h => ⟨by omega, hl0, hl1, hm, fun i n hi hn => by
   rcases Nat.lt_succ_iff_lt_or_eq.1 hi with hi | rfl
   ·exact hall i n hi hn
   ·rw [ea] at hn
    injection hn with hn
    rw [← hn]; exact h⟩
  have inc := Sy.inc_q k (by omega)
  refine ⟨fun c1 => ⟨fun r => ?_, fun r => ?_⟩, fun c1 => ⟨fun c2 => ⟨fun r => ?_, fun r => ?_⟩, fun c2 => ⟨fun c3 => ⟨fun r => ?_, fun r => ?_⟩, fun c3 => ⟨fun r => ?_, fun r => ?_⟩⟩⟩⟩
  all_goals first
   | exact Sy.leafL_end 1 rfl rfl (by simp) rfl [] rfl [2] rfl [] List.nodup_nil trivial (bad (by unfold nodeOk; omega))
   | exact Sy.leafL_next (k + 1) rfl (good (by unfold nodeOk; omega)) (by show l.length - (k + 1) < l.length - k; omega) (by rw [inc]; rfl) [1] (by decide) rfl
 ·refine Sy.leafL_end 0 rfl rfl (by simp) rfl [] rfl [0, 1, 2] rfl [] List.nodup_nil trivial fun i n hn => hall i n ?_ hn
  have := (List.getElem?_eq_some_iff.1 hn).1
  omega
open Go Go.RowKit
open Go.Proofs.YtlpcnaeknbmjdaaGreat.Sy (Let Blk)
abbrev fON : FuncId := 129
abbrev tInt : TypeId := 3
def bodyO1 : Code := Sy.loopBody Tryz.f129 0
def bodyO2 : Code := Sy.loopBody Tryz.f129 1
def cntV (n : Nat) (R : List Nat) : List Value := (List.range n).map fun j => Value.int .i64 ((R.count j : Nat) : Int)
def slO1 (g o c gu n k : Nat) : List (Nat × Value) := [(0, .slice (some ⟨g, o, none⟩) n c), (2, .bool false), (3, .slice (some ⟨gu, 0, none⟩) n n), (11, .slice (some ⟨g, o, none⟩) n c), (12, .int .i64 n), (13, .int .i64 k)]
def slO2 (g o c gu n k : Nat) : List (Nat × Value) := [(0, .slice (some ⟨g, o, none⟩) n c), (2, .bool false), (38, .slice (some ⟨gu, 0, none⟩) n n), (39, .int .i64 n), (40, .int .i64 k)]
def o1_o : Sy.O := (fork (steps [0, 1, 0, 0, 1, 1, 1, 1, 1, 1, 0, 0, 0, 0, 0, 0] (fork (steps [0, 0, 0, 0, 1, 0, 2, 1, 1, 1, 0, 1, 2, 0, 1, 0, 0, 0] (fork (steps [0, 0, 0, 0, 1, 0, 2, 1, 1, 1, 0, 1, 2, 0, 1] nil) nil)) (steps [0, 0, 0] (fork (steps [0, 0, 0, 0, 1, 0, 2, 1, 1, 1, 0, 1, 2, 0, 1] nil) nil)))) nil)
noncomputable def o1_R (g o c gu n k : Nat) (xs us rest : List Value) (ns : Nat → Sy.Let) : Sy.Res (Exit × Nat × List Value × List Blk) :=
 let z0 := Sy.Cont.seg o xs
 let z1 := o + Int.toNat (↑k : Int) * 4
 let z2 := o + Int.toNat (↑k : Int) * 4 + 1
 let z3 := o + Int.toNat (↑k : Int) * 4 + 1 + 1
 let z4 := ns 2
 let z5 := o + Int.toNat (↑k : Int) * 4 + 1 + 1 + 1
 let z6 := ns 3
 let z7 := 0 ≤ z4.i ∧ z4.i < (↑n : Int)
 let z8 := Sy.Cont.row 3 1 n n us
 let z9 := 0 + Int.toNat z4.i * 1
 let z10 := Value.int .i64 (ns 5).i
 let z11 := Ex.leQ 6 (ns 0).i
 let z12 := 0 ≤ z6.i ∧ z6.i < (↑n : Int)
 let z13 := Value.int .i64 (Ex.wrapQ .i64 (Ex.addQ (ns 5).i 1))
 let z14 := List.set us z9 z13
 let z15 := Sy.Cont.row 3 1 n n z14
 let z16 := 0 + Int.toNat z6.i * 1
 let z17 := some (Addr.mk g o none)
 let z18 := some (Addr.mk gu 0 none)
 let z19 := [Value.slice z17 n c, Value.bool false, Value.slice z18 n n, Value.slice z17 n c, Value.int .i64 (↑n : Int), Value.int .i64 (Ex.wrapQ .i64 (Ex.addQ (↑k : Int) 1))]
 let z20 := Sy.Cont.obj (Obj.cells (Array.mk [.int .i64 (ns 0).i, .int .u64 (ns 1).i, .int .i64 z4.i, .int .i64 z6.i]) 127)
 br (Ex.ltQ (↑k : Int) (↑n : Int)) (need (0 ≤ (↑k : Int) ∧ (↑k : Int) < (↑n : Int)) (need (∃ (i : Int), Sy.Cont.at z0 z1 = some (Value.int .i64 i)) (hyp (Sy.Cont.at z0 z1 = some (Value.int .i64 (ns 0).i)) (need (∃ (i : Int), Sy.Cont.at z0 z2 = some (Value.int .u64 i)) (hyp (Sy.Cont.at z0 z2 = some (Value.int .u64 (ns 1).i)) (need (∃ (i : Int), Sy.Cont.at z0 z3 = some (Value.int .i64 i)) (hyp (Sy.Cont.at z0 z3 = some (Value.int .i64 z4.i)) (need (∃ (i : Int), Sy.Cont.at z0 z5 = some (Value.int .i64 i)) (hyp (Sy.Cont.at z0 z5 = some (Value.int .i64 z6.i)) (br (Ex.leQ 3 (ns 0).i) (need z7 (need (∃ (i : Int), Sy.Cont.at z8 z9 = some (Value.int .i64 i)) (hyp (Sy.Cont.at z8 z9 = some z10) (need z7 (need (0 + Int.toNat z4.i * 1 < List.length us) (br z11 (need z12 (need (∃ (i : Int), Sy.Cont.at z15 z16 = some (Value.int .i64 i)) (hyp (Sy.Cont.at z15 z16 = some (Value.int .i64 (ns 6).i)) (need z12 (need (0 + Int.toNat z6.i * 1 < List.length z14) (leaf (Exit.normal, 58, z19, [Blk.mk (ns 4).n z20 true, Blk.mk g z0 false, Blk.mk gu (Sy.Cont.row 3 1 n n (List.set z14 z16 (Value.int .i64 (Ex.wrapQ .i64 (Ex.addQ (ns 6).i 1))))) true]))))))) (leaf (Exit.normal, 58, z19, [Blk.mk (ns 4).n z20 true, Blk.mk g z0 false, Blk.mk gu z15 true])))))))) (br z11 (need z12 (need (∃ (i : Int), Sy.Cont.at z8 z16 = some (Value.int .i64 i)) (hyp (Sy.Cont.at z8 z16 = some z10) (need z12 (need (0 + Int.toNat z6.i * 1 < List.length us) (leaf (Exit.normal, 58, z19, [Blk.mk (ns 4).n z20 true, Blk.mk g z0 false,
 Blk.mk gu (Sy.Cont.row 3 1 n n (List.set us z16 z13)) true]))))))) (leaf (Exit.normal, 58, z19, [Blk.mk (ns 4).n z20 true, Blk.mk g z0 false, Blk.mk gu z8 true]))))))))))))) (leaf (Exit.exit 0, 58, [Value.slice z17 n c, Value.bool false, Value.slice z18 n n, Value.slice z17 n c, Value.int .i64 (↑n : Int), Value.int .i64 (↑k : Int)], [Blk.mk g z0 false, Blk.mk gu z8 true]))
theorem o1_run (g o c gu n k : Nat) (xs us : List Value) (rest : List Value) : Sy.Ran (Sy.pieceT Tryz.prog Sy.S0 50 fON bodyO1 58 (slO1 g o c gu n k) rest [⟨g, .seg o xs, false⟩, ⟨gu, .row tInt 1 n n us, true⟩] [0, 2, 3, 11, 12, 13]) o1_o (o1_R g o c gu n k xs us rest) := ⟨fun _ => by kernel_rfl, fun _ => by kernel_rfl⟩
def o2_o : Sy.O := (fork (steps [0, 1, 0, 0, 1, 1, 1, 0, 1] (fork nil nil)) nil)
noncomputable def o2_R (g o c gu n k : Nat) (us rest : List Value) (ns : Nat → Sy.Let) : Sy.Res (Exit × Nat × List Value × List Blk) :=
 let z0 := Sy.Cont.row 3 1 n n us
 let z1 := 0 + Int.toNat (↑k : Int) * 1
 let z2 := some (Addr.mk g o none)
 let z3 := some (Addr.mk gu 0 none)
 let z4 := [Value.slice z2 n c, Value.bool false, Value.slice z3 n n, Value.int .i64 (↑n : Int), Value.int .i64 (↑k : Int)]
 let z5 := [Blk.mk gu z0 true]
 br (Ex.ltQ (↑k : Int) (↑n : Int)) (need (0 ≤ (↑k : Int) ∧ (↑k : Int) < (↑n : Int)) (need (∃ (i : Int), Sy.Cont.at z0 z1 = some (Value.int .i64 i)) (hyp (Sy.Cont.at z0 z1 = some (Value.int .i64 (ns 0).i)) (br (bif !Ex.eqQ (ns 0).i 1 == Ex.ltQ (↑k : Int) (Ex.wrapQ .i64 (Ex.subQ' (Int.ofNat n) 1)) then true else Ex.ltQ 1 (ns 0).i) (leaf (Exit.ret, 58, z4, z5)) (leaf (Exit.normal, 58, [Value.slice z2 n c, Value.bool false, Value.slice z3 n n, Value.int .i64 (↑n : Int), Value.int .i64 (Ex.wrapQ .i64 (Ex.addQ (↑k : Int) 1))], z5)))))) (leaf (Exit.exit 2, 58, z4, z5))
theorem o2_run (g o c gu n k : Nat) (us : List Value) (rest : List Value) : Sy.Ran (Sy.pieceT Tryz.prog Sy.S0 50 fON bodyO2 58 (slO2 g o c gu n k) rest [⟨gu, .row tInt 1 n n us, true⟩] [0, 2, 38, 39, 40]) o2_o (o2_R g o c gu n k us rest) := ⟨fun _ => by kernel_rfl, fun _ => by kernel_rfl⟩
theorem cntV_length (n : Nat) (R : List Nat) : (cntV n R).length = n := by simp [cntV]
theorem cntV_nil (n : Nat) : cntV n [] = List.replicate n (.int .i64 0) := by
 apply List.ext_getElem
 ·simp [cntV]
 ·intro i h1 h2
  simp [cntV]
theorem cntV_get {n a : Nat} (R : List Nat) (h : a < n) : (cntV n R)[a]? = some (.int .i64 ((R.count a : Nat) : Int)) := by simp [cntV, h]
theorem cntV_at {n a : Nat} (R : List Nat) (h : a < n) (e : TypeId) (s m c : Nat) : (Sy.Cont.row e s m c (cntV n R)).at (0 + a * 1) = some (.int .i64 ((R.count a : Nat) : Int)) := by
 rw [Nat.zero_add, Nat.mul_one]
 exact cntV_get R h
theorem cntV_set {n a : Nat} (R : List Nat) (h : a < n) (hR : R.length < 9223372036854775807) : (cntV n R).set (0 + a * 1) (.int .i64 (Ex.wrapQ .i64 (Ex.addQ ((R.count a : Nat) : Int) 1))) = cntV n (R ++ [a]) := by
 have hc := List.count_le_length (a := a) (l := R)
 rw [Nat.zero_add, Nat.mul_one, Sy.inc_q _ (by omega)]
 apply List.ext_getElem?
 intro j
 rw [List.getElem?_set]
 by_cases hj : j < n
 ·rw [cntV_get _ hj, cntV_length]
  split
  ·rename_i e
   subst e
   rw [cntV_get _ hj]
   simp
  ·rename_i e
   rw [cntV_get _ hj]
   simp [e]
 ·rw [List.getElem?_eq_none (by rw [cntV_length]; omega), List.getElem?_eq_none (by rw [cntV_length]; omega)]
  split
  ·omega
  ·rfl
theorem refs_length (l : List Nd) : (refs l).length ≤ 2 * l.length := by
 induction l with
 | nil => simp [refs]
 | cons x l ih =>
   have h1 : x.refs.length ≤ 2 := by unfold Nd.refs; split <;> (try split) <;> simp
   have h2 : refs (x :: l) = x.refs ++ refs l := by simp [refs]
   rw [h2, List.length_append, List.length_cons]
   omega
theorem refs_take {l : List Nd} {k : Nat} {x : Nd} (h : l[k]? = some x) : refs (l.take (k + 1)) = refs (l.take k) ++ x.refs := by
 obtain ⟨hk, he⟩ := List.getElem?_eq_some_iff.1 h
 rw [List.take_succ_eq_append_getElem hk, he]
 simp [refs]
theorem ok_a {loc : Int} {i : Nat} {n : Nd} (h : nodeOk loc i n) (h3 : 3 ≤ n.op) : 0 ≤ n.a ∧ n.a < i := by unfold nodeOk at h; omega
theorem ok_b {loc : Int} {i : Nat} {n : Nd} (h : nodeOk loc i n) (h6 : 6 ≤ n.op) : 0 ≤ n.b ∧ n.b < i := by unfold nodeOk at h; omega
def loopO1 (g o c gu : Nat) (l : List Nd) (loc : Int) : Sy.LoopC :=
 ⟨.loop bodyO1, 58, slO1 g o c gu l.length 0, l.length ≤ 4398046511104 ∧ nodesOk loc l, ⟨[(g, .seg o (ndCells l))], [(gu, .row tInt 1 l.length l.length (List.replicate l.length (.int .i64 0)))], 0, []⟩,
  [(⟨fun _ => True, fun _ => [(gu, .row tInt 1 l.length l.length (cntV l.length (refs l)))], fun _ => []⟩, .exit 0, fun _ => [(0, .slice (some ⟨g, o, none⟩) l.length c), (2, .bool false), (3, .slice (some ⟨gu, 0, none⟩) l.length l.length)])]⟩
theorem loopO1_met (g o c gu : Nat) (l : List Nd) (loc : Int) : Sy.MeetsL Tryz.prog (loopO1 g o c gu l loc) := by
 refine Sy.loop_of (n := 50) (fn := fON) Sy.S0_holds mixed (body := bodyO1) rfl [0, 2, 3, 11, 12, 13] (fun k : Nat => slO1 g o c gu l.length k) (fun k => [⟨g, .seg o (ndCells l), false⟩, ⟨gu, .row tInt 1 l.length l.length (cntV l.length (refs (l.take k))), true⟩])
  (fun k => k ≤ l.length ∧ l.length ≤ 4398046511104 ∧ nodesOk loc l) (fun k => l.length - k)
  0 (fun h => ⟨Nat.zero_le _, h⟩) (fun p hp => hp) [0, 1] (by decide) (by rw [List.take_zero, show refs [] = [] from rfl, cntV_nil]; rfl) (o := fun _ => o1_o) (R := fun k xs => o1_R g o c gu l.length k (ndCells l) (cntV l.length (refs (l.take k))) xs) (fun k xs _ => o1_run g o c gu l.length k (ndCells l) (cntV l.length (refs (l.take k))) xs) ?_
 rintro - k rest ⟨hk, hm, hok⟩ ns
 simp only [o1_R, Sy.Res.holds, Int.ofNat_eq_natCast, Sy.b_and, Sy.b_or, Sy.b_not, Sy.b_f, Sy.b_and', Sy.b_or', Sy.q_lt, Sy.q_le, Sy.q_eq, Sy.b_tt, Sy.b_ft, not_true_eq_false, not_false_eq_true]
 refine ⟨fun hlt => ?_, fun hge => ?_⟩
 ·have hlt : k < l.length := by omega
  have ea : l[k]? = some l[k] := List.getElem?_eq_getElem hlt
  obtain ⟨a0, a1, a2, a3⟩ := nd_at ea o
  simp only [a0, a1, a2, a3, some_int, some_bool, exists_eq', true_and]
  generalize l[k] = x at *
  refine ⟨by omega, fun h0 h1 h2 h3 => ?_⟩
  simp only [← h0, ← h2, ← h3]
  have hx := hok k x ea
  have hr := refs_take ea
  have hrl := refs_length (l.take k)
  have htl : (l.take k).length = k := by rw [List.length_take]; omega
  have fin : ∀ B R, R = refs (l.take (k + 1)) → Sy.leafL (loopO1 g o c gu l loc) [0, 2, 3, 11, 12, 13] (fun k : Nat => slO1 g o c gu l.length k) (fun k => [⟨g, .seg o (ndCells l), false⟩, ⟨gu, .row tInt 1 l.length l.length (cntV l.length (refs (l.take k))), true⟩])
    (fun k => k ≤ l.length ∧ l.length ≤ 4398046511104 ∧ nodesOk loc l) (fun k => l.length - k) k (Exit.normal, 58, [.slice (some ⟨g, o, none⟩) l.length c, .bool false, .slice (some ⟨gu, 0, none⟩) l.length l.length, .slice (some ⟨g, o, none⟩) l.length c, .int .i64 l.length, .int .i64 (Ex.wrapQ IntKind.i64 (Ex.addQ (↑k : Int) 1))],
     [B, ⟨g, .seg o (ndCells l), false⟩, ⟨gu, .row tInt 1 l.length l.length (cntV l.length R), true⟩]) := fun B R hR => by
   subst hR
   exact Sy.leafL_next (k + 1) rfl ⟨by omega, hm, hok⟩ (by show l.length - (k + 1) < l.length - k; omega) (by rw [Sy.inc_q k (by omega)]; rfl) [1, 2] (by decide) rfl
  refine ⟨fun c3 => ?_, fun c3 => ⟨fun c6 => absurd c6 (by omega), fun c6 => fin _ _ ?_⟩⟩
  ·have ha := ok_a hx c3
   have la : x.a.toNat < l.length := by omega
   simp only [cntV_at _ la, cntV_length, some_int, some_bool, exists_eq', true_and]
   refine ⟨by omega, fun h5 => ⟨by omega, by omega, ?_⟩⟩
   simp only [← h5, cntV_set _ la (show (refs (l.take k)).length < _ by omega)]
   refine ⟨fun c6 => ?_, fun c6 => fin _ _ ?_⟩
   ·have hb := ok_b hx c6
    have lb : x.b.toNat < l.length := by omega
    simp only [cntV_at _ lb, cntV_length, some_int, some_bool, exists_eq', true_and]
    refine ⟨by omega, fun h6 => ⟨by omega, by omega, ?_⟩⟩
    simp only [← h6, cntV_set _ lb (show (refs (l.take k) ++ [x.a.toNat]).length < _ by rw [List.length_append, List.length_singleton]; omega)]
    refine fin _ _ ?_
    rw [hr, List.append_assoc]
    unfold Nd.refs
    rw [if_neg (by omega), if_neg (by omega)]
    rfl
   ·rw [hr]
    unfold Nd.refs
    rw [if_neg (by omega), if_pos (by omega)]
  ·rw [hr]
   unfold Nd.refs
   rw [if_pos (by omega), List.append_nil]
 ·have hkl : k = l.length := by omega
  subst hkl
  rw [List.take_length]
  exact Sy.leafL_end 0 rfl rfl (by simp) rfl [] rfl [0, 1, 2] rfl [1] (by decide) ⟨⟨rfl, rfl, .inl rfl⟩, trivial⟩ trivial
def loopO2 (g o c gu : Nat) (l : List Nd) : Sy.LoopC :=
 ⟨.loop bodyO2, 58, slO2 g o c gu l.length 0, l.length ≤ 4398046511104, ⟨[], [(gu, .row tInt 1 l.length l.length (cntV l.length (refs l)))], 0, []⟩,
  [(⟨fun _ => onceOk l, fun _ => [], fun _ => []⟩, .exit 2, fun _ => []), (⟨fun _ => ¬ onceOk l, fun _ => [], fun _ => []⟩, .ret, fun _ => [(2, .bool false)])]⟩
theorem beq_t (a b : Bool) : ((a == b) = true) = ((a = true) ↔ (b = true)) := by cases a <;> cases b <;> simp
theorem dec_q (n : Nat) (h0 : 0 < n) (h : n < 9223372036854775807) : Ex.wrapQ .i64 (Ex.subQ' (n : Int) 1) = ((n - 1 : Nat) : Int) := by
 rw [Ex.wrapQ_eq, Ex.subQ_eq]
 simp [IntKind.wrap, IntKind.signed, IntKind.bits]
 omega
theorem loopO2_met (g o c gu : Nat) (l : List Nd) : Sy.MeetsL Tryz.prog (loopO2 g o c gu l) := by
 refine Sy.loop_of (n := 50) (fn := fON) Sy.S0_holds mixed (body := bodyO2) rfl [0, 2, 38, 39, 40] (fun k : Nat => slO2 g o c gu l.length k) (fun k => [⟨gu, .row tInt 1 l.length l.length (cntV l.length (refs l)), true⟩])
  (fun k => k ≤ l.length ∧ l.length ≤ 4398046511104 ∧ ∀ j, j < k → (refs l).count j = if j + 1 < l.length then 1 else 0) (fun k => l.length - k)
  0 (fun h => ⟨Nat.zero_le _, h, fun j hj => absurd hj (Nat.not_lt_zero j)⟩) (fun p hp => hp) [0] (by decide) rfl (o := fun _ => o2_o) (R := fun k xs => o2_R g o c gu l.length k (cntV l.length (refs l)) xs) (fun k xs _ => o2_run g o c gu l.length k (cntV l.length (refs l)) xs) ?_
 rintro - k rest ⟨hk, hm, hall⟩ ns
 simp only [o2_R, Sy.Res.holds, Int.ofNat_eq_natCast, Sy.b_and, Sy.b_or, Sy.b_not, Sy.b_f, Sy.b_and', Sy.b_or', Sy.q_lt, Sy.q_le, Sy.q_eq, Sy.b_tt, Sy.b_ft, not_true_eq_false, not_false_eq_true, beq_t]
 refine ⟨fun hlt => ?_, fun hge => ?_⟩
 ·have hlt : k < l.length := by omega
  simp only [Int.toNat_natCast, cntV_at _ hlt, some_int, some_bool, exists_eq', true_and]
  refine ⟨by omega, fun h0 => ?_⟩
  simp only [← h0, dec_q l.length (by omega) (by omega)]
  refine ⟨fun r => ?_, fun r => ?_⟩
  ·refine Sy.leafL_end 1 rfl rfl (by simp) rfl [] rfl [1] rfl [] List.nodup_nil trivial fun h => ?_
   have := h k hlt
   split at this <;> omega
  ·refine Sy.leafL_next (k + 1) rfl ⟨by omega, hm, fun j hj => ?_⟩ (by show l.length - (k + 1) < l.length - k; omega) (by rw [Sy.inc_q k (by omega)]; rfl) [0] (by decide) rfl
   rcases Nat.lt_succ_iff_lt_or_eq.1 hj with hj | rfl
   ·exact hall j hj
   ·split <;> omega
 ·exact Sy.leafL_end 0 rfl rfl (by simp) rfl [] rfl [] rfl [] List.nodup_nil trivial fun j hj => hall j (by omega)
open Go Go.RowKit
open Go.Proofs.YtlpcnaeknbmjdaaGreat.Sy (Let Blk)
def onceC (g o c : Nat) (l : List Nd) (loc : Int) : Sy.CallC := ⟨fON, #[.slice (some ⟨g, o, none⟩) l.length c], nodesOk loc l ∧ l.length ≤ 4398046511104, ⟨[(g, .seg o (ndCells l))], [], 0, []⟩, [Sy.plainO (.bool (tru (onceOk l)))]⟩
def ctxO (g o c : Nat) (l : List Nd) (loc : Int) : Sy.Ctx := Sy.mkS [] [(fON, fun a _ => loopO1 g o c (Sy.ptrN (a.get 3)) l loc), (fON, fun a _ => loopO2 g o c (Sy.ptrN (a.get 38)) l)] []
def once_o : Sy.O := (steps [0, 1, 1, 0, 0, 1, 0, 0, 0, 0, 0, 0, 0, 1, 0, 0, 0] (fork (steps [0, 0] nil) (steps [0, 0] nil)))
noncomputable def once_R (g o c : Nat) (l : List Nd) (loc : Int) (ns : Nat → Sy.Let) : Sy.Res (Value × List Blk) :=
 let z0 := List.length l
 need (0 ≤ Int.ofNat z0 ∧ Int.toNat (Int.ofNat z0) * (8 : Nat) ≤ 281474976710656 ∧ Int.toNat (Int.ofNat z0) ≤ 9223372036854775807) (need (List.length l ≤ 4398046511104 ∧ nodesOk loc l) (hyp True (need (Nat.le z0 4398046511104) (both (hyp (∀ (j : Nat), j < List.length l → List.countP.go (fun (x : Nat) => x == j) (refs l) 0 = if j + 1 < List.length l then 1 else 0) (leaf (Value.bool true, []))) (hyp (onceOk l → False) (leaf (Value.bool false, [])))))))
theorem once_run (g o c : Nat) (l : List Nd) (loc : Int) : Sy.Ran (Sy.inT Tryz.prog (ctxO g o c l loc) 50 fON (onceC g o c l loc).args (Sy.blks (onceC g o c l loc).mem) Sy.noB) once_o (once_R g o c l loc) := ⟨fun _ => by kernel_rfl, fun _ => by kernel_rfl⟩
theorem ctxO_holds (g o c : Nat) (l : List Nd) (loc : Int) : (ctxO g o c l loc).holds Tryz.prog := Sy.mkS_holds (fun _ h => (by cases h)) (fun p hp a L => by
 rcases List.mem_cons.1 hp with rfl | hp
 ·exact loopO1_met _ _ _ _ _ _
 rcases List.mem_singleton.1 hp with rfl
 exact loopO2_met _ _ _ _ _) (fun _ h => (by cases h))
theorem tru_pos {p : Prop} (h : p) : tru p = true := by unfold tru; exact @decide_eq_true p (Classical.propDecidable p) h
theorem tru_neg {p : Prop} (h : ¬ p) : tru p = false := by unfold tru; exact @decide_eq_false p (Classical.propDecidable p) h
theorem tru_t (p : Prop) : (tru p = true) = p := propext ⟨fun h => Classical.byContradiction fun hn => (by rw [tru_neg hn] at h; cases h), tru_pos⟩
theorem onceC_met (g o c : Nat) (l : List Nd) (loc : Int) : Sy.Meets Tryz.prog (onceC g o c l loc) := by
 refine Sy.meets_of (ctxO_holds g o c l loc) mixed (once_run g o c l loc) fun hok ns => ?_
 obtain ⟨h1, h2⟩ : nodesOk loc l ∧ l.length ≤ 4398046511104 := hok
 simp only [once_R, Sy.Res.holds]
 refine ⟨⟨Int.natCast_nonneg _, ?_, ?_⟩, ⟨h2, h1⟩, fun _ => ⟨h2, fun h => Sy.plainO_leaf (List.mem_singleton_self _) rfl (by rw [tru_pos (show onceOk l from h)]), fun h => Sy.plainO_leaf (List.mem_singleton_self _) rfl (by rw [tru_neg (show ¬ onceOk l from h)])⟩⟩
 ·show l.length * 8 ≤ _
  omega
 ·show l.length ≤ _
  omega
def ceC (g o c : Nat) (l : List Nd) (loc : Int) : Sy.CallC := ⟨fCE, #[.slice (some ⟨g, o, none⟩) l.length c, .int .i64 loc], 0 ≤ loc ∧ loc ≤ 1000 ∧ l.length ≤ 4398046511104, ⟨[(g, .seg o (ndCells l))], [], 0, []⟩, [Sy.plainO (.bool (tru (isExpr loc l)))]⟩
def ctxCE (g o c : Nat) (l : List Nd) (loc : Int) : Sy.Ctx := Sy.mkS [(fON, fun _ _ => onceC g o c l loc)] [(fCE, fun _ _ => loopCE g o c l loc)] []
def ce_o : Sy.O := (steps [0, 0, 0, 0, 0] (fork (steps [0, 0, 0, 1, 0] (fork (steps [0, 0, 0, 0, 0, 0, 0] nil) (steps [0] nil))) (steps [0, 0] nil)))
noncomputable def ce_R (g o c : Nat) (l : List Nd) (loc : Int) (ns : Nat → Sy.Let) : Sy.Res (Value × List Blk) :=
 let z0 := Int.ofNat (List.length l)
 let z1 := leaf (Value.bool false, [])
 need (0 ≤ loc ∧ loc ≤ 1000 ∧ List.length l ≤ 4398046511104) (both (hyp (∀ (i : Nat) (n : Nd), l[i]? = some n → nodeOk loc i n) (br (bif Ex.ltQ 0 z0 then Ex.leQ z0 65536 else false) (need (nodesOk loc l ∧ List.length l ≤ 4398046511104) (hyp True (leaf (Value.bool (bif true then tru (onceOk l) else false), [])))) z1)) (hyp (nodesOk loc l → False) z1))
theorem ce_run (g o c : Nat) (l : List Nd) (loc : Int) : Sy.Ran (Sy.inT Tryz.prog (ctxCE g o c l loc) 50 fCE (ceC g o c l loc).args (Sy.blks (ceC g o c l loc).mem) Sy.noB) ce_o (ce_R g o c l loc) := ⟨fun _ => by kernel_rfl, fun _ => by kernel_rfl⟩
theorem ceC_met (g o c : Nat) (l : List Nd) (loc : Int) : Sy.Meets Tryz.prog (ceC g o c l loc) := by
 have HS : (ctxCE g o c l loc).holds Tryz.prog := Sy.mkS_holds (fun p hp a L => by
  rcases List.mem_singleton.1 hp with rfl
  exact onceC_met _ _ _ _ _) (fun p hp a L => by
  rcases List.mem_singleton.1 hp with rfl
  exact loopCE_met _ _ _ _ _) (fun _ h => (by cases h))
 refine Sy.meets_of HS mixed (ce_run g o c l loc) fun hok ns => ?_
 obtain ⟨h0, h1, h2⟩ : 0 ≤ loc ∧ loc ≤ 1000 ∧ l.length ≤ 4398046511104 := hok
 simp only [ce_R, Sy.Res.holds, Int.ofNat_eq_natCast, Sy.b_and, Sy.b_or, Sy.b_not, Sy.b_f, Sy.b_and', Sy.b_or', Sy.q_lt, Sy.q_le, Sy.q_eq, Sy.b_tt, Sy.b_ft, not_true_eq_false, not_false_eq_true]
 refine ⟨⟨h0, h1, h2⟩, fun hn => ⟨fun hl => ⟨⟨hn, h2⟩, fun _ => Sy.plainO_leaf (List.mem_singleton_self _) rfl ?_⟩, fun hl => Sy.plainO_leaf (List.mem_singleton_self _) rfl ?_⟩, fun hn => Sy.plainO_leaf (List.mem_singleton_self _) rfl ?_⟩
 ·show Value.bool (tru (onceOk l)) = _
  by_cases ho : onceOk l
  ·rw [tru_pos ho, tru_pos ⟨hn, by omega, by omega, ho⟩]
  ·rw [tru_neg ho, tru_neg fun h => ho h.2.2.2]
 ·rw [tru_neg fun h => hl (by have := h.2.1; have := h.2.2.1; omega)]
 ·rw [tru_neg fun h => hn h.1]
open Go Go.RowKit
open Go.Proofs.YtlpcnaeknbmjdaaGreat.Sy (Let Blk)
abbrev fMay : FuncId := 158
def mayC (g o c : Nat) (l : List Nd) : Sy.CallC := ⟨fMay, #[.slice (some ⟨g, o, none⟩) l.length c], 0 < l.length ∧ l.length ≤ 4398046511104, ⟨[(g, .seg o (ndCells l))], [], 0, []⟩, [Sy.plainO (.bool (tru (isExpr 24 l)))]⟩
def ctxM (g o c : Nat) (l : List Nd) : Sy.Ctx := Sy.mkS [(fCE, fun _ _ => ceC g o c l 24)] [] []
def may_o : Sy.O := (steps [0, 0, 0, 0, 0, 0, 0, 0, 0, 0, 0, 0, 0, 0, 0, 0, 0, 0, 0, 0, 0, 0, 0, 0, 0, 0, 0, 0, 0, 0, 0, 0, 0, 1, 0, 0, 0, 0, 0, 0, 0, 0, 0, 0, 0, 0, 0, 0, 0, 0, 0, 0, 0, 0, 0, 0, 0, 0, 0, 0] (steps [0, 0, 0, 0, 0, 0, 0, 0, 0, 0, 0, 3, 0, 0, 0, 0, 0, 0, 0, 0, 2, 0, 0, 1, 0, 0, 2, 0, 0, 0, 0, 0, 0, 2, 0, 0, 0, 0, 0, 0, 2, 0, 0, 0, 0, 2, 0, 0, 0, 0, 0, 0, 0, 0, 0, 0, 0, 2, 0, 0] (steps [0, 0, 0, 0, 0, 0, 0, 0, 0, 0, 0, 0, 0, 0, 0, 0, 0, 0, 0, 0, 0, 0, 0, 0, 0, 4, 0, 0, 0, 0, 0, 0, 0, 0, 0, 0, 0, 0, 0, 0, 0, 0, 0, 0, 0, 0, 4, 0, 0, 0, 0, 0, 0, 4, 0, 0, 0, 0, 0, 0] (steps [0, 4, 0, 0, 0, 0, 0, 0, 0, 0, 0, 0, 4, 0, 0] (fork (steps [0, 0] nil) (steps [0, 0, 0, 0, 4, 0, 0, 0, 0, 0, 0, 0, 0, 0, 4, 0, 0, 0, 0, 2, 0, 0, 0, 10, 0, 0, 0, 0, 0] (fork (steps [0, 0] nil) (steps [0, 1, 0, 0, 0, 0, 0, 0, 0, 0, 0, 1, 0, 0, 0, 0, 0, 0, 0, 0, 1, 0, 0, 0, 0, 0, 0, 5, 0, 0, 0, 0, 0, 0, 0] nil))))))))
noncomputable def may_R (g o c : Nat) (l : List Nd) (ns : Nat → Sy.Let) : Sy.Res (Value × List Blk) :=
 let z0 := leaf (Value.bool false, [])
 br (!true == Ex.ltQ 0 (Int.ofNat (List.length l))) z0 (need ((0 : Int) ≤ 24 ∧ (24 : Int) ≤ 1000 ∧ List.length l ≤ 4398046511104) (hyp True (br (bif true then !tru (isExpr 24 l) else false) z0 (leaf (Value.bool true, [])))))
theorem may_run (g o c : Nat) (l : List Nd) : Sy.Ran (Sy.inT Tryz.prog (ctxM g o c l) 60 fMay (mayC g o c l).args (Sy.blks (mayC g o c l).mem) Sy.noB) may_o (may_R g o c l) := ⟨fun _ => by kernel_rfl, fun _ => by kernel_rfl⟩
theorem mayC_met (g o c : Nat) (l : List Nd) : Sy.Meets Tryz.prog (mayC g o c l) := by
 have HS : (ctxM g o c l).holds Tryz.prog := Sy.mkS_holds (fun p hp a L => by
  rcases List.mem_singleton.1 hp with rfl
  exact ceC_met _ _ _ _ _) (fun _ h => (by cases h)) (fun _ h => (by cases h))
 refine Sy.meets_of HS mixed (may_run g o c l) fun hok ns => ?_
 obtain ⟨h0, h1⟩ : 0 < l.length ∧ l.length ≤ 4398046511104 := hok
 simp only [may_R, Sy.Res.holds, Int.ofNat_eq_natCast, Sy.b_and, Sy.b_or, Sy.b_not, Sy.b_f, Sy.b_and', Sy.b_or', Sy.q_lt, Sy.q_le, Sy.q_eq, Sy.b_tt, Sy.b_ft, not_true_eq_false, not_false_eq_true, beq_t, tru_t]
 refine ⟨fun h => absurd ⟨fun _ => by omega, fun _ => trivial⟩ h, fun h => ⟨⟨by omega, by omega, h1⟩, fun _ => ⟨fun hn => Sy.plainO_leaf (List.mem_singleton_self _) rfl ?_, fun hn => Sy.plainO_leaf (List.mem_singleton_self _) rfl ?_⟩⟩⟩
 ·rw [tru_neg hn.2]
 ·rw [tru_pos (Classical.byContradiction fun he => hn ⟨trivial, he⟩)]
inductive E where
 | num (v : Int)
 | loc (v : Int)
 | un (op : Int) (x : E)
 | bin (op : Int) (x y : E)
def tr (l : List Nd) (i : Nat) : E := match l[i]? with
 | none => .num 0
 | some n => if n.op ≤ 1 then .num n.val else if n.op = 2 then .loc n.val else if n.op ≤ 5 then (if _h : n.a.toNat < i then .un n.op (tr l n.a.toNat) else .num 0)
   else if _h : n.a.toNat < i ∧ n.b.toNat < i then .bin n.op (tr l n.a.toNat) (tr l n.b.toNat) else .num 0
termination_by i
theorem tr_num {l : List Nd} {i : Nat} {n : Nd} (h : l[i]? = some n) (h1 : n.op ≤ 1) : tr l i = .num n.val := by
 rw [tr]; simp only [h, if_pos h1]
theorem tr_loc {l : List Nd} {i : Nat} {n : Nd} (h : l[i]? = some n) (h1 : n.op = 2) : tr l i = .loc n.val := by
 rw [tr]; simp only [h]; rw [if_neg (by omega), if_pos h1]
theorem tr_un {l : List Nd} {i : Nat} {n : Nd} (h : l[i]? = some n) (h1 : 3 ≤ n.op) (h2 : n.op ≤ 5) (ha : n.a.toNat < i) : tr l i = .un n.op (tr l n.a.toNat) := by
 rw [tr]; simp only [h]; rw [if_neg (by omega), if_neg (by omega), if_pos h2, dif_pos ha]
theorem tr_bin {l : List Nd} {i : Nat} {n : Nd} (h : l[i]? = some n) (h1 : 6 ≤ n.op) (ha : n.a.toNat < i) (hb : n.b.toNat < i) : tr l i = .bin n.op (tr l n.a.toNat) (tr l n.b.toNat) := by
 rw [tr]; simp only [h]; rw [if_neg (by omega), if_neg (by omega), if_neg (by omega), dif_pos ⟨ha, hb⟩]
def E.needs : E → Nat
 | .num _ => 1
 | .loc _ => 1
 | .un _ x => x.needs
 | .bin _ x y => max x.needs (y.needs + 1)
def E.size : E → Nat
 | .num _ => 1
 | .loc _ => 1
 | .un _ x => x.size + 1
 | .bin _ x y => x.size + y.size + 1
theorem E.needs_le (x : E) : x.needs ≤ x.size := by
 induction x with
 | num _ => exact Nat.le_refl _
 | loc _ => exact Nat.le_refl _
 | un _ x ih => simp only [needs, size]; omega
 | bin _ x y ihx ihy => simp only [needs, size]; omega
open Go Go.RowKit
def binOp (op : Int) : Int := if op = 6 then 9 else if op = 7 then 3 else if op = 8 then 4 else if op = 9 then 10 else if op = 10 then 11 else if op = 11 then 5 else if op = 12 then 7 else if op = 13 then 6 else 0
def binCond (op : Int) : Int := if op = 14 then 0 else if op = 15 then 1 else if op = 16 then 3 else if op = 17 then 9 else if op = 18 then 8 else 2
def unL (op t : Int) : List I := if op = 3 then [⟨4, t, 31, t, 0, 0⟩] else if op = 4 then [⟨8, t, 31, t, 0, 0⟩] else [⟨16, 0, t, 31, 0, 0⟩, ⟨17, t, 0, 0, 0, 0⟩]
def binL (op t : Int) : List I := if binOp op = 0 then [⟨16, 0, t, t + 1, 0, 0⟩, ⟨17, t, 0, 0, 0, binCond op⟩] else [⟨binOp op, t, t, t + 1, 0, 0⟩]
def lay : E → Int → List I
 | .num v, t => numL t v
 | .loc v, t => [⟨6, t, 31, v, 0, 0⟩]
 | .un op x, t => lay x t ++ unL op t
 | .bin op x y, t => lay x t ++ (lay y (t + 1) ++ binL op t)
theorem numL_pos (r v : Int) : 0 < (numL r v).length := by unfold numL; simp
theorem numL_le (r v : Int) : (numL r v).length ≤ 4 := by
 unfold numL movk
 split <;> split <;> split <;> simp
theorem lay_pos : ∀ (x : E) (t : Int), 0 < (lay x t).length
 | .num v, t => numL_pos t v
 | .loc v, t => by simp [lay]
 | .un op x, t => by have := lay_pos x t; simp only [lay, List.length_append]; omega
 | .bin op x y, t => by have := lay_pos x t; simp only [lay, List.length_append]; omega
theorem unL_le (op t : Int) : (unL op t).length ≤ 2 := by unfold unL; split <;> (try split) <;> simp
theorem unL_pos (op t : Int) : 0 < (unL op t).length := by unfold unL; split <;> (try split) <;> simp
theorem binL_le (op t : Int) : (binL op t).length ≤ 2 := by unfold binL; split <;> simp
theorem lay_le : ∀ (x : E) (t : Int), (lay x t).length ≤ 4 * x.size
 | .num v, t => by have := numL_le t v; simp only [lay, E.size]; omega
 | .loc v, t => by simp [lay, E.size]
 | .un op x, t => by have := lay_le x t; have := unL_le op t; simp only [lay, List.length_append, E.size]; omega
 | .bin op x y, t => by have := lay_le x t; have := lay_le y (t + 1); have := binL_le op t; simp only [lay, List.length_append, E.size]; omega
theorem E.needs_pos : ∀ x : E, 0 < x.needs
 | .num _ => by simp [needs]
 | .loc _ => by simp [needs]
 | .un _ x => x.needs_pos
 | .bin _ x y => by have := x.needs_pos; simp only [needs]; omega
def szSum (l : List Nd) (R : List Nat) : Nat → Nat
 | 0 => 0
 | n + 1 => szSum l R n + (if n ∈ R then 0 else (tr l n).size)
theorem szSum_congr {l : List Nd} {R R' : List Nat} : ∀ {n : Nat}, (∀ j, j < n → (j ∈ R ↔ j ∈ R')) → szSum l R n = szSum l R' n
 | 0, _ => rfl
 | n + 1, h => by
   have h1 := h n (by omega)
   have ih := szSum_congr (l := l) (n := n) fun j hj => h j (by omega)
   simp only [szSum, ih]
   by_cases hn : n ∈ R
   ·rw [if_pos hn, if_pos (h1.1 hn)]
   ·rw [if_neg hn, if_neg fun h => hn (h1.2 h)]
theorem szSum_add {l : List Nd} {R : List Nat} {a : Nat} (hR : a ∉ R) : ∀ {n : Nat}, a < n → szSum l R n = szSum l (R ++ [a]) n + (tr l a).size
 | 0, h => absurd h (Nat.not_lt_zero a)
 | n + 1, h => by
   simp only [szSum]
   rcases Nat.lt_succ_iff_lt_or_eq.1 h with hlt | rfl
   ·rw [szSum_add hR hlt]
    have : (n ∈ R ++ [a]) ↔ n ∈ R := by
     rw [List.mem_append, List.mem_singleton]
     exact ⟨fun h => h.elim id fun h => absurd h (by omega), .inl⟩
    by_cases hn : n ∈ R
    ·rw [if_pos hn, if_pos (this.2 hn)]; omega
    ·rw [if_neg hn, if_neg fun h => hn (this.1 h)]; omega
   ·rw [if_neg hR, if_pos (by simp)]
    rw [szSum_congr (R' := R ++ [a]) fun j hj => by
     rw [List.mem_append, List.mem_singleton]
     exact ⟨.inl, fun h => h.elim id fun h => absurd h (by omega)⟩]
    omega
theorem refs_lt {loc : Int} {l : List Nd} (hok : nodesOk loc l) {n : Nat} (hn : n ≤ l.length) {j : Nat} (hj : j ∈ refs (l.take n)) : j < n := by
 unfold refs at hj
 obtain ⟨x, hx, hj⟩ := List.mem_flatMap.1 hj
 obtain ⟨m, hm, he⟩ := List.mem_iff_getElem.1 hx
 have hml : m < n := by rw [List.length_take] at hm; omega
 have hx' : l[m]? = some x := by
  rw [List.getElem_take] at he
  rw [← he]
  exact List.getElem?_eq_getElem (by omega)
 have h1 := hok m x hx'
 unfold Nd.refs at hj
 split at hj
 ·cases hj
 ·split at hj
  ·have := ok_a h1 (by omega)
   rcases List.mem_singleton.1 hj with rfl
   omega
  ·have := ok_a h1 (by omega)
   have := ok_b h1 (by omega)
   rcases List.mem_cons.1 hj with rfl | hj
   ·omega
   ·rcases List.mem_singleton.1 hj with rfl
    omega
theorem szSum_is {loc : Int} {l : List Nd} (hok : nodesOk loc l) (hd : (refs l).Nodup) : ∀ n, n ≤ l.length → szSum l (refs (l.take n)) n = n
 | 0, _ => rfl
 | n + 1, h => by
   have ih := szSum_is hok hd n (by omega)
   have ea : l[n]? = some l[n] := List.getElem?_eq_getElem (by omega)
   have hr := refs_take ea
   have hself : n ∉ refs (l.take (n + 1)) := fun hm => by
    rw [hr] at hm
    rcases List.mem_append.1 hm with hm | hm
    ·have := refs_lt hok (by omega) hm; omega
    ·have h1 := hok n _ ea
     unfold Nd.refs at hm
     split at hm
     ·cases hm
     ·split at hm
      ·have := ok_a h1 (by omega)
       have := List.mem_singleton.1 hm
       omega
      ·have := ok_a h1 (by omega)
       have := ok_b h1 (by omega)
       rcases List.mem_cons.1 hm with hm | hm
       ·omega
       ·have := List.mem_singleton.1 hm
        omega
   have hnd : (refs (l.take (n + 1))).Nodup := by
    have : refs l = refs (l.take (n + 1)) ++ refs (l.drop (n + 1)) := by
     unfold refs
     rw [← List.flatMap_append, List.take_append_drop]
    rw [this] at hd
    exact (List.nodup_append.1 hd).1
   simp only [szSum, if_neg hself]
   rw [hr] at hnd ⊢
   have h1 := hok n _ ea
   generalize l[n] = x at *
   have hdis := (List.nodup_append.1 hnd).2
   unfold Nd.refs at *
   split at hnd
   ·rename_i h3
    rw [if_pos h3, List.append_nil, ih]
    by_cases h2 : x.op ≤ 1
    ·rw [tr_num ea h2]; rfl
    ·rw [tr_loc ea (by omega)]; rfl
   ·rename_i h3
    split at hnd
    ·rename_i h6
     have ha := ok_a h1 (by omega)
     have h7 : x.a.toNat ∉ refs (l.take n) := fun hm => by
      rw [if_neg h3, if_pos h6] at hdis
      exact hdis.2 _ hm _ (List.mem_singleton_self _) rfl
     rw [if_neg h3, if_pos h6]
     have := szSum_add (l := l) h7 (n := n) (by omega)
     rw [tr_un ea (by omega) (by omega) (by omega)]
     simp only [E.size]
     omega
    ·rename_i h6
     have ha := ok_a h1 (by omega)
     have hb := ok_b h1 (by omega)
     rw [if_neg h3, if_neg h6] at hdis
     have h7 : x.a.toNat ∉ refs (l.take n) := fun hm => hdis.2 _ hm _ List.mem_cons_self rfl
     have h8 : x.b.toNat ∉ refs (l.take n) ++ [x.a.toNat] := fun hm => by
      rcases List.mem_append.1 hm with hm | hm
      ·exact hdis.2 _ hm _ (List.mem_cons_of_mem _ (List.mem_singleton_self _)) rfl
      ·have := List.mem_singleton.1 hm
       have h9 := hdis.1
       rw [this] at h9
       simp at h9
     rw [if_neg h3, if_neg h6]
     have e1 := szSum_add (l := l) h7 (n := n) (by omega)
     have e2 := szSum_add (l := l) h8 (n := n) (by omega)
     rw [show refs (l.take n) ++ [x.a.toNat] ++ [x.b.toNat] = refs (l.take n) ++ [x.a.toNat, x.b.toNat] by simp] at e2
     rw [tr_bin ea (by omega) (by omega) (by omega)]
     simp only [E.size]
     omega
theorem refs_nodup {loc : Int} {l : List Nd} (hok : nodesOk loc l) (ho : onceOk l) : (refs l).Nodup := by
 rw [List.nodup_iff_count]
 intro j
 rcases Nat.lt_or_ge j l.length with h | h
 ·rw [ho j h]; split <;> omega
 ·have : j ∉ refs l := fun hm => by
   have := refs_lt hok (Nat.le_refl _) (j := j) (by rw [List.take_length]; exact hm)
   omega
  rw [List.count_eq_zero.2 this]; omega
theorem tr_small {loc : Int} {l : List Nd} (h : isExpr loc l) {i : Nat} (hi : i < l.length) : (tr l i).size ≤ i + 1 := by
 have hs := szSum_is h.1 (refs_nodup h.1 h.2.2.2) (i + 1) (by omega)
 simp only [szSum] at hs
 split at hs
 ·rename_i hm
  exfalso
  have ea : l[i]? = some l[i] := List.getElem?_eq_getElem hi
  have h1 := h.1 i _ ea
  rw [refs_take ea] at hm
  rcases List.mem_append.1 hm with hm | hm
  ·have := refs_lt h.1 (by omega) hm; omega
  ·unfold Nd.refs at hm
   split at hm
   ·cases hm
   ·split at hm
    ·have := ok_a h1 (by omega)
     have := List.mem_singleton.1 hm
     omega
    ·have := ok_a h1 (by omega)
     have := ok_b h1 (by omega)
     rcases List.mem_cons.1 hm with hm | hm
     ·omega
     ·have := List.mem_singleton.1 hm
      omega
 ·omega
open Sy.O (fork nil)
open Go Go.RowKit
open Go.Proofs.YtlpcnaeknbmjdaaGreat.Sy (Let Blk)
abbrev fBin : FuncId := 165
abbrev fPlain : FuncId := 163
abbrev fCond : FuncId := 164
def binCd (op : Int) : Int := if binOp op = 0 then binCond op else 0
def binC (op : Int) : Sy.CallC := ⟨fBin, #[.int .i64 op], 6 ≤ op ∧ op ≤ 19, ⟨[], [], 0, []⟩, [Sy.plainO (.tuple #[.int .i64 (binOp op), .int .i64 (binCd op)])]⟩
def plC (op : Int) : Sy.CallC := ⟨fPlain, #[.int .i64 op], True, ⟨[], [], 0, []⟩, [Sy.plainO (.int .i64 (binOp op))]⟩
def cdC (op : Int) : Sy.CallC := ⟨fCond, #[.int .i64 op], True, ⟨[], [], 0, []⟩, [Sy.plainO (.int .i64 (binCond op))]⟩
def bin_o : Sy.O := (fork nil (fork nil (fork nil (fork nil (fork nil (fork nil (fork nil (fork nil (fork nil (fork nil (fork nil (fork nil (fork nil nil)))))))))))))
noncomputable def bin_R (op : Int) (ns : Nat → Sy.Let) : Sy.Res (Value × List Blk) :=
 br (Ex.eqQ op 6) (leaf (Value.tuple (Array.mk [.int .i64 9, .int .i64 0]), [])) (br (Ex.eqQ op 7) (leaf (Value.tuple (Array.mk [.int .i64 3, .int .i64 0]), [])) (br (Ex.eqQ op 8) (leaf (Value.tuple (Array.mk [.int .i64 4, .int .i64 0]), [])) (br (Ex.eqQ op 9) (leaf (Value.tuple (Array.mk [.int .i64 10, .int .i64 0]), [])) (br (Ex.eqQ op 10) (leaf (Value.tuple (Array.mk [.int .i64 11, .int .i64 0]), [])) (br (Ex.eqQ op 11) (leaf (Value.tuple (Array.mk [.int .i64 5, .int .i64 0]), [])) (br (Ex.eqQ op 12) (leaf (Value.tuple (Array.mk [.int .i64 7, .int .i64 0]), [])) (br (Ex.eqQ op 13) (leaf (Value.tuple (Array.mk [.int .i64 6, .int .i64 0]), [])) (br (Ex.eqQ op 14) (leaf (Value.tuple (Array.mk [.int .i64 0, .int .i64 0]), [])) (br (Ex.eqQ op 15) (leaf (Value.tuple (Array.mk [.int .i64 0, .int .i64 1]), [])) (br (Ex.eqQ op 16) (leaf (Value.tuple (Array.mk [.int .i64 0, .int .i64 3]), [])) (br (Ex.eqQ op 17) (leaf (Value.tuple (Array.mk [.int .i64 0, .int .i64 9]), [])) (br (Ex.eqQ op 18) (leaf (Value.tuple (Array.mk [.int .i64 0, .int .i64 8]), [])) (leaf (Value.tuple (Array.mk [.int .i64 0, .int .i64 2]), []))))))))))))))
theorem bin_run (op : Int) : Sy.Ran (Sy.inT Tryz.prog Sy.S0 60 fBin (binC op).args [] Sy.noB) bin_o (bin_R op) := ⟨fun _ => by kernel_rfl, fun _ => by kernel_rfl⟩
def pl_o : Sy.O := (fork nil (fork nil (fork nil (fork nil (fork nil (fork nil (fork nil (fork nil nil))))))))
noncomputable def pl_R (op : Int) (ns : Nat → Sy.Let) : Sy.Res (Value × List Blk) :=
 br (Ex.eqQ op 6) (leaf (Value.int .i64 9, [])) (br (Ex.eqQ op 7) (leaf (Value.int .i64 3, [])) (br (Ex.eqQ op 8) (leaf (Value.int .i64 4, [])) (br (Ex.eqQ op 9) (leaf (Value.int .i64 10, [])) (br (Ex.eqQ op 10) (leaf (Value.int .i64 11, [])) (br (Ex.eqQ op 11) (leaf (Value.int .i64 5, [])) (br (Ex.eqQ op 12) (leaf (Value.int .i64 7, [])) (br (Ex.eqQ op 13) (leaf (Value.int .i64 6, [])) (leaf (Value.int .i64 0, [])))))))))
theorem pl_run (op : Int) : Sy.Ran (Sy.inT Tryz.prog Sy.S0 60 fPlain (plC op).args [] Sy.noB) pl_o (pl_R op) := ⟨fun _ => by kernel_rfl, fun _ => by kernel_rfl⟩
def cd_o : Sy.O := (fork nil (fork nil (fork nil (fork nil (fork nil nil)))))
noncomputable def cd_R (op : Int) (ns : Nat → Sy.Let) : Sy.Res (Value × List Blk) :=
 br (Ex.eqQ op 14) (leaf (Value.int .i64 0, [])) (br (Ex.eqQ op 15) (leaf (Value.int .i64 1, [])) (br (Ex.eqQ op 16) (leaf (Value.int .i64 3, [])) (br (Ex.eqQ op 17) (leaf (Value.int .i64 9, [])) (br (Ex.eqQ op 18) (leaf (Value.int .i64 8, [])) (leaf (Value.int .i64 2, []))))))
theorem cd_run (op : Int) : Sy.Ran (Sy.inT Tryz.prog Sy.S0 60 fCond (cdC op).args [] Sy.noB) cd_o (cd_R op) := ⟨fun _ => by kernel_rfl, fun _ => by kernel_rfl⟩
theorem binC_met (op : Int) : Sy.Meets Tryz.prog (binC op) := by
 refine Sy.meets_of Sy.S0_holds mixed (bin_run op) fun hok ns => ?_
 obtain ⟨h0, h1⟩ : 6 ≤ op ∧ op ≤ 19 := hok
 simp only [bin_R, Sy.Res.holds, Int.ofNat_eq_natCast, Sy.b_and, Sy.b_or, Sy.b_not, Sy.b_f, Sy.b_and', Sy.b_or', Sy.q_lt, Sy.q_le, Sy.q_eq, Sy.b_tt, Sy.b_ft, not_true_eq_false, not_false_eq_true]
 repeat' refine And.intro (fun h => ?_) (fun h => ?_)
 all_goals first
  | (subst h; exact Sy.plainO_leaf (List.mem_singleton_self _) rfl rfl)
  | (obtain rfl : op = 19 := by omega
     exact Sy.plainO_leaf (List.mem_singleton_self _) rfl rfl)
theorem plC_met (op : Int) : Sy.Meets Tryz.prog (plC op) := by
 refine Sy.meets_of Sy.S0_holds mixed (pl_run op) fun hok ns => ?_
 simp only [pl_R, Sy.Res.holds, Int.ofNat_eq_natCast, Sy.b_and, Sy.b_or, Sy.b_not, Sy.b_f, Sy.b_and', Sy.b_or', Sy.q_lt, Sy.q_le, Sy.q_eq, Sy.b_tt, Sy.b_ft, not_true_eq_false, not_false_eq_true]
 repeat' refine And.intro (fun h => ?_) (fun h => ?_)
 all_goals first
  | (subst h; exact Sy.plainO_leaf (List.mem_singleton_self _) rfl rfl)
  | exact Sy.plainO_leaf (List.mem_singleton_self _) rfl (by show _ = Value.int .i64 (binOp op); unfold binOp; simp only [*, if_false])
theorem cdC_met (op : Int) : Sy.Meets Tryz.prog (cdC op) := by
 refine Sy.meets_of Sy.S0_holds mixed (cd_run op) fun hok ns => ?_
 simp only [cd_R, Sy.Res.holds, Int.ofNat_eq_natCast, Sy.b_and, Sy.b_or, Sy.b_not, Sy.b_f, Sy.b_and', Sy.b_or', Sy.q_lt, Sy.q_le, Sy.q_eq, Sy.b_tt, Sy.b_ft, not_true_eq_false, not_false_eq_true]
 repeat' refine And.intro (fun h => ?_) (fun h => ?_)
 all_goals first
  | (subst h; exact Sy.plainO_leaf (List.mem_singleton_self _) rfl rfl)
  | exact Sy.plainO_leaf (List.mem_singleton_self _) rfl (by show _ = Value.int .i64 (binCond op); unfold binCond; simp only [*, if_false])
open Go Go.RowKit
open Go.Proofs.YtlpcnaeknbmjdaaGreat.Sy (Let Blk)
theorem max_q (x y : Nat) (h : y < 9223372036854775807) : (bif Ex.ltQ (x : Int) (Ex.wrapQ .i64 (Ex.addQ (y : Int) 1)) then Ex.wrapQ .i64 (Ex.addQ (y : Int) 1) else (x : Int)) = ((max x (y + 1) : Nat) : Int) := by
 rw [Sy.inc_q y h, Ex.ltQ_eq]
 by_cases hlt : (x : Int) < ((y + 1 : Nat) : Int)
 ·rw [decide_eq_true hlt]; simp only [cond_true]; omega
 ·rw [decide_eq_false hlt]; simp only [cond_false]; omega
abbrev fNeeds : FuncId := 160
def needsC (g o c : Nat) (l : List Nd) (loc : Int) (i0 : Nat) (i : Int) : Sy.CallC :=
 ⟨fNeeds, #[.slice (some ⟨g, o, none⟩) l.length c, .int .i64 i], isExpr loc l ∧ 0 ≤ i ∧ i < l.length ∧ i < i0, ⟨[(g, .seg o (ndCells l))], [], 0, []⟩, [Sy.plainO (.int .i64 ((tr l i.toNat).needs : Int))]⟩
def ctxNd (g o c : Nat) (l : List Nd) (loc : Int) (i0 : Nat) : Sy.Ctx := Sy.mkS [(fNeeds, fun a _ => needsC g o c l loc i0 (Sy.argI a 1))] [] []
def nd_o : Sy.O := (steps [0, 1, 0, 0, 1, 1, 1, 1, 1, 1, 0, 0, 0, 0, 0, 0] (fork nil (steps [0, 0, 0] (fork (steps [0, 0, 0, 0, 1, 0, 0, 0, 0] nil) (steps [1, 0, 0, 0, 1, 2, 0, 0, 0, 4, 5, 6, 0, 0, 0, 13, 0, 1, 0, 0, 0, 0, 1, 0, 1, 13, 0, 0, 0, 0, 0, 0, 1, 0, 1, 8, 9, 10] nil)))))
noncomputable def nd_R (g o c : Nat) (l : List Nd) (loc i : Int) (i0 : Nat) (ns : Nat → Sy.Let) : Sy.Res (Value × List Blk) :=
 let z0 := Sy.Cont.seg o (ndCells l)
 let z1 := o + Int.toNat i * 4
 let z2 := o + Int.toNat i * 4 + 1
 let z3 := o + Int.toNat i * 4 + 1 + 1
 let z4 := o + Int.toNat i * 4 + 1 + 1 + 1
 let z5 := isExpr loc l ∧ 0 ≤ (ns 2).i ∧ (ns 2).i < (↑(List.length l) : Int) ∧ (ns 2).i < (↑i0 : Int)
 let z6 := Ex.addQ (↑(E.needs (tr l (Int.toNat (ns 3).i))) : Int) 1
 need (0 ≤ i ∧ i < (↑(List.length l) : Int)) (need (∃ (i_1 : Int), Sy.Cont.at z0 z1 = some (Value.int .i64 i_1)) (hyp (Sy.Cont.at z0 z1 = some (Value.int .i64 (ns 0).i)) (need (∃ (i_1 : Int), Sy.Cont.at z0 z2 = some (Value.int .u64 i_1)) (hyp (Sy.Cont.at z0 z2 = some (Value.int .u64 (ns 1).i)) (need (∃ (i_1 : Int), Sy.Cont.at z0 z3 = some (Value.int .i64 i_1)) (hyp (Sy.Cont.at z0 z3 = some (Value.int .i64 (ns 2).i)) (need (∃ (i_1 : Int), Sy.Cont.at z0 z4 = some (Value.int .i64 i_1)) (hyp (Sy.Cont.at z0 z4 = some (Value.int .i64 (ns 3).i)) (br (Ex.leQ (ns 0).i 2) (leaf (Value.int .i64 1, [])) (br (Ex.leQ (ns 0).i 5) (need z5 (hyp True (leaf (Value.int .i64 (↑(E.needs (tr l (Int.toNat (ns 2).i))) : Int), [])))) (need z5 (hyp True (need (isExpr loc l ∧ 0 ≤ (ns 3).i ∧ (ns 3).i < (↑(List.length l) : Int) ∧ (ns 3).i < (↑i0 : Int)) (hyp True (leaf (Value.int .i64 (bif Ex.ltQ (↑(E.needs (tr l (Int.toNat (ns 2).i))) : Int) (Ex.wrapQ .i64 z6) then Ex.wrapQ .i64 z6 else (↑(E.needs (tr l (Int.toNat (ns 2).i))) : Int)), []))))))))))))))))
theorem nd_run (g o c : Nat) (l : List Nd) (loc i : Int) (i0 : Nat) : Sy.Ran (Sy.inT Tryz.prog (ctxNd g o c l loc i0) 60 fNeeds (needsC g o c l loc i0 i).args (Sy.blks (needsC g o c l loc i0 i).mem) Sy.noB) nd_o (nd_R g o c l loc i i0) := ⟨fun _ => by kernel_rfl, fun _ => by kernel_rfl⟩
theorem nd_atI {l : List Nd} {i : Int} {x : Nd} (h : l[i.toNat]? = some x) (o : Nat) :
  (Sy.Cont.seg o (ndCells l)).at (o + Int.toNat i * 4) = some (.int .i64 x.op) ∧ (Sy.Cont.seg o (ndCells l)).at (o + Int.toNat i * 4 + 1) = some (.int .u64 x.val) ∧
  (Sy.Cont.seg o (ndCells l)).at (o + Int.toNat i * 4 + 1 + 1) = some (.int .i64 x.a) ∧ (Sy.Cont.seg o (ndCells l)).at (o + Int.toNat i * 4 + 1 + 1 + 1) = some (.int .i64 x.b) := by
 have := nd_at h o
 simpa only [Int.toNat_natCast] using this
theorem needsC_step (g o c : Nat) (l : List Nd) (loc : Int) (i0 : Nat) (ih : ∀ i, Sy.Meets Tryz.prog (needsC g o c l loc i0 i)) (i : Int) : Sy.Meets Tryz.prog (needsC g o c l loc (i0 + 1) i) := by
 have HS : (ctxNd g o c l loc i0).holds Tryz.prog := Sy.mkS_holds (fun p hp a L => by
  rcases List.mem_singleton.1 hp with rfl
  exact ih _) (fun _ h => (by cases h)) (fun _ h => (by cases h))
 refine Sy.meets_of HS mixed (nd_run g o c l loc i i0) fun hok ns => ?_
 obtain ⟨hE, h0, h1, h2⟩ : isExpr loc l ∧ 0 ≤ i ∧ i < l.length ∧ i < ((i0 + 1 : Nat) : Int) := hok
 have hok := hE.1
 simp only [nd_R, Sy.Res.holds, Int.ofNat_eq_natCast, Sy.b_and, Sy.b_or, Sy.b_not, Sy.b_f, Sy.b_and', Sy.b_or', Sy.q_lt, Sy.q_le, Sy.q_eq, Sy.b_tt, Sy.b_ft, not_true_eq_false, not_false_eq_true]
 have hlt : i.toNat < l.length := by omega
 have ea : l[i.toNat]? = some l[i.toNat] := List.getElem?_eq_getElem hlt
 obtain ⟨a0, a1, a2, a3⟩ := nd_atI ea o
 simp only [a0, a1, a2, a3, some_int, some_bool, exists_eq', true_and]
 generalize l[i.toNat] = x at *
 refine ⟨⟨h0, h1⟩, fun e0 e1 e2 e3 => ?_⟩
 simp only [← e0, ← e2, ← e3]
 have hx := hok _ x ea
 refine ⟨fun c2 => ?_, fun c2 => ⟨fun c5 => ⟨⟨hE, ?_⟩, fun _ => ?_⟩, fun c5 => ?_⟩⟩
 ·refine Sy.plainO_leaf (List.mem_singleton_self _) rfl ?_
  by_cases h : x.op ≤ 1
  ·rw [tr_num ea h]; rfl
  ·rw [tr_loc ea (by omega)]; rfl
 ·have := ok_a hx (by omega)
  omega
 ·have := ok_a hx (by omega)
  refine Sy.plainO_leaf (List.mem_singleton_self _) rfl ?_
  rw [tr_un ea (by omega) (by omega) (by omega)]; rfl
 ·have ha := ok_a hx (by omega)
  have hb := ok_b hx (by omega)
  refine ⟨⟨hE, by omega⟩, fun _ => ⟨⟨hE, by omega⟩, fun _ => Sy.plainO_leaf (List.mem_singleton_self _) rfl ?_⟩⟩
  have hs := tr_small hE (i := x.b.toNat) (by omega)
  have hn := (tr l x.b.toNat).needs_le
  have hl := hE.2.2.1
  rw [max_q _ _ (by omega), tr_bin ea (by omega) (by omega) (by omega)]; rfl
theorem needsC_met (g o c : Nat) (l : List Nd) (loc : Int) : ∀ (i0 : Nat) (i : Int), Sy.Meets Tryz.prog (needsC g o c l loc i0 i)
 | 0, i => fun hok => absurd hok.2.2.2 (by have := hok.2.1; omega)
 | i0 + 1, i => needsC_step g o c l loc i0 (fun j => needsC_met g o c l loc i0 j) i
open Go Go.RowKit
open Go.Proofs.YtlpcnaeknbmjdaaGreat.Sy (Let Blk)
abbrev fExpr : FuncId := 157
def goodN (l : List Nd) : Prop := ∀ n ∈ l, goodU n.val
def exprC (g o c : Nat) (l : List Nd) (i0 : Nat) (i k : Int) : Sy.CallC :=
 ⟨fExpr, #[.slice (some ⟨g, o, none⟩) l.length c, .int .i64 i, .int .i64 k], (isExpr 24 l ∧ goodN l) ∧ 0 ≤ i ∧ i < l.length ∧ i < i0 ∧ 0 ≤ k ∧ k + (tr l i.toNat).needs ≤ 5,
  ⟨[(g, .seg o (ndCells l))], [], 2, []⟩, [Sy.rowO tI 6 (lay (tr l i.toNat) (24 + k)).length (insCells (lay (tr l i.toNat) (24 + k))) id]⟩
def ctxX (g o c : Nat) (l : List Nd) (i0 : Nat) : Sy.Ctx := Sy.mkS [(fExpr, fun a _ => exprC g o c l i0 (Sy.argI a 1) (Sy.argI a 2)), (159, fun a _ => numC (Sy.argI a 0) (Sy.argI a 1)), (fBin, fun a _ => binC (Sy.argI a 0))] [] []
def ex_o : Sy.O := (steps [0, 1, 0, 0, 1, 1, 1, 1, 1, 1, 0, 0, 0, 0, 0, 0] (fork (steps [0, 0, 0, 0, 0, 0, 0] nil) (fork (steps [0, 0, 0] nil) (fork (steps [0, 0, 0, 0, 1, 0, 0, 0, 0, 0, 0, 0, 0, 0, 0, 0, 0, 2, 1, 1, 1, 1, 2, 0, 0, 0, 0, 0, 0, 0, 0, 2, 0, 0, 3, 0, 0, 0, 1, 1, 3, 0, 0, 0, 0, 0, 0, 0] nil) (fork (steps [0, 0, 0, 0, 1, 0, 0, 0, 0, 0, 0, 0, 0, 0, 0, 0, 0, 2, 1, 1, 1, 1, 2, 0, 0, 0, 0, 0, 0, 0, 0, 2, 0, 0, 3, 0, 0, 0, 1, 1, 3, 0, 0, 0, 0, 0, 0, 0] nil) (fork (steps [0, 0, 0, 0, 1, 0, 0, 0, 0, 0, 0, 0, 0, 0, 0, 0, 0, 3, 1, 1, 1, 1, 3, 0, 0, 0, 0, 0, 0, 0, 0, 2, 0, 0, 4, 0, 0, 0, 1, 1, 4, 0, 0, 0, 0, 0, 0, 0, 0, 0, 0, 3, 0, 0, 4, 0, 0, 0, 1, 1] (steps [4, 0, 0, 0, 0, 0, 0, 0] nil)) (steps [1, 0, 0, 0, 1, 2, 0, 0, 0, 3, 5, 6, 7, 0, 0, 0, 8, 9, 16, 0, 1, 0, 0, 0, 0, 1, 0, 2, 16, 0, 1, 0, 0, 0, 0, 1, 0, 3, 16, 1, 0, 4, 16, 0, 0, 0, 0, 0, 0, 0, 0, 3, 1, 1, 1, 1, 3, 0, 0, 0] (steps [0, 0, 0, 0, 0, 2, 0, 0, 3, 1, 0, 1, 1, 1, 3, 0, 0, 0, 0, 0, 0, 0, 1, 0, 5, 13, 0, 5, 0, 0, 0, 0, 0] (fork (steps [0, 0, 0, 0, 0, 0, 0, 0, 3, 1, 1, 1, 1, 3, 0, 0, 0, 0, 0, 0, 0, 0, 2, 0, 0, 4, 0, 0, 0, 1, 1, 4, 0, 0, 0, 0, 0, 0, 0, 0, 0, 0, 3, 0, 0, 4, 0, 0, 0, 1, 1, 4, 0, 0, 0, 0, 0, 0, 0] nil) (steps [0, 0, 0, 0, 0, 0, 0, 0, 2, 1, 1, 1, 1, 2, 0, 0, 0, 0, 0, 0, 0, 0, 2, 0, 0, 3, 0, 0, 0, 1, 1, 3, 0, 0, 0, 0, 0, 0, 0] nil))))))))))
noncomputable def ex_R (g o c : Nat) (l : List Nd) (i k : Int) (i0 : Nat) (ns : Nat → Sy.Let) : Sy.Res (Value × List Blk) :=
 let z0 := Sy.Cont.seg o (ndCells l)
 let z1 := o + Int.toNat i * 4
 let z2 := ns 0
 let z3 := o + Int.toNat i * 4 + 1
 let z4 := o + Int.toNat i * 4 + 1 + 1
 let z5 := ns 2
 let z6 := o + Int.toNat i * 4 + 1 + 1 + 1
 let z7 := ns 3
 let z8 := Ex.wrapQ .i64 (Ex.addQ 24 k)
 let z9 := List.length (numL z8 (ns 1).i)
 let z10 := ns 6
 let z11 := ns 5
 let z12 := some (Addr.mk z11.n 0 none)
 let z13 := isExpr 24 l ∧ goodN l
 let z14 := tr l (Int.toNat z5.i)
 let z15 := z13 ∧ 0 ≤ z5.i ∧ z5.i < (↑(List.length l) : Int) ∧ z5.i < (↑i0 : Int) ∧ 0 ≤ k ∧ k + (↑(E.needs z14) : Int) ≤ 5
 let z16 := 24 + k
 let z17 := lay z14 z16
 let z18 := Nat.le (List.length z17) z10.n
 let z19 := ((0 : Nat) = 0 ∧ List.length (insCells z17) = List.length z17 * 6 ∧ ∀ (u : Value), u ∈ insCells z17 → Value.oneCell' u = true)
 let z20 := 1 ≤ List.length z17
 let z21 := 0 + List.length z17 ≤ 9223372036854775807
 let z22 := 0 + List.length z17
 let z23 := z22 * (48 : Nat) ≤ 140737488355328
 let z24 := Nat.le z22 (ns 10).n
 let z25 := 0 + List.length z17 + (1 : Nat) ≤ 9223372036854775807
 let z26 := 0 + List.length z17 + 1
 let z27 := z26 * (48 : Nat) ≤ 140737488355328
 let z28 := ns 12
 let z29 := some (Addr.mk (ns 11).n 0 none)
 let z30 := [] ++ insCells z17
 let z31 := [Value.int .i64 4, Value.int .i64 z8, Value.int .i64 31, Value.int .i64 z8, Value.int .i64 0, Value.int .i64 0]
 let z32 := Sy.Cont.row 49 6 (List.length z17) z10.n (insCells z17)
 let z33 := [Value.int .i64 8, Value.int .i64 z8, Value.int .i64 31, Value.int .i64 z8, Value.int .i64 0, Value.int .i64 0]
 let z34 := Nat.le z22 (ns 11).n
 let z35 := 0 + List.length z17 + 1 + 1
 let z36 := [Value.int .i64 16, Value.int .i64 0, Value.int .i64 z8, Value.int .i64 31, Value.int .i64 0, Value.int .i64 0]
 let z37 := [Value.int .i64 17, Value.int .i64 z8, Value.int .i64 0, Value.int .i64 0, Value.int .i64 0, Value.int .i64 0]
 let z38 := Ex.addQ k 1
 let z39 := tr l (Int.toNat z7.i)
 let z40 := 24 + Ex.wrapQ .i64 z38
 let z41 := lay z39 z40
 let z42 := insCells z41
 let z43 := 0 + List.length z17 + List.length z41
 let z44 := ((0 : Nat) = 0 ∧ List.length (List.append z30 z42) = z43 * 6 ∧ ∀ (u : Value), u ∈ List.append z30 z42 → Value.oneCell' u = true)
 let z45 := (1 : Nat) ≤ 0 + List.length z17 + List.length z41
 let z46 := 0 + z43 ≤ 9223372036854775807
 let z47 := 0 + z43
 let z48 := z47 * (48 : Nat) ≤ 140737488355328
 let z49 := 0 + z43 + (1 : Nat) ≤ 9223372036854775807
 let z50 := 0 + z43 + 1
 let z51 := z50 * (48 : Nat) ≤ 140737488355328
 let z52 := lay (tr l (Int.toNat (Let.i z5))) z16
 let z53 := lay (tr l (Int.toNat (Let.i z7))) z40
 let z54 := 0 + List.length z52 + List.length z53
 let z55 := lay (tr l (Int.toNat (Let.i (ns 2)))) z16
 let z56 := lay (tr l (Int.toNat (Let.i (ns 3)))) z40
 let z57 := 0 + List.length z55 + List.length z56
 let z58 := 0 + z57 + 1 + 1
 let z59 := [] ++ insCells z55
 let z60 := List.append z59 (insCells z56)
 let z61 := Ex.wrapQ .i64 (Ex.addQ z8 1)
 let z62 := [Value.int .i64 16, Value.int .i64 0, Value.int .i64 z8, Value.int .i64 z61, Value.int .i64 0, Value.int .i64 0]
 let z63 := [Value.int .i64 17, Value.int .i64 z8, Value.int .i64 0, Value.int .i64 0, Value.int .i64 0, Value.int .i64 (binCd (Let.i (ns 0)))]
 need (0 ≤ i ∧ i < (↑(List.length l) : Int)) (need (∃ (i_1 : Int), Sy.Cont.at z0 z1 = some (Value.int .i64 i_1)) (hyp (Sy.Cont.at z0 z1 = some (Value.int .i64 z2.i)) (need (∃ (i_1 : Int), Sy.Cont.at z0 z3 = some (Value.int .u64 i_1)) (hyp (Sy.Cont.at z0 z3 = some (Value.int .u64 (ns 1).i)) (need (∃ (i_1 : Int), Sy.Cont.at z0 z4 = some (Value.int .i64 i_1)) (hyp (Sy.Cont.at z0 z4 = some (Value.int .i64 z5.i)) (need (∃ (i_1 : Int), Sy.Cont.at z0 z6 = some (Value.int .i64 i_1)) (hyp (Sy.Cont.at z0 z6 = some (Value.int .i64 z7.i)) (br (Ex.eqQ z2.i 1) (need (0 ≤ (ns 1).i ∧ (ns 1).i < 18446744073709551616) (hyp (Nat.le z9 z10.n) (leaf (Value.slice z12 z9 z10.n, [Blk.mk z11.n (Sy.Cont.row 49 6 z9 z10.n (insCells (numL z8 (ns 1).i))) true])))) (br (Ex.eqQ z2.i 2) (leaf (Value.slice z12 1 1, [Blk.mk z11.n (Sy.Cont.obj (Obj.cells (Array.mk [.int .i64 6, .int .i64 z8, .int .i64 31, .int .i64 (Ex.wrapQ .i64 (ns 1).i), .int .i64 0, .int .i64 0]) 49)) true])) (br (Ex.eqQ z2.i 3) (need z15 (hyp z18 (need z19 (need z20 (need z21 (need z23 (hyp z24 (need z25 (need z27 (hyp (Nat.le z26 z28.n) (leaf (Value.slice z29 z26 z28.n, [Blk.mk (ns 11).n (Sy.Cont.row 49 6 z26 z28.n (List.append z30 z31)) true, Blk.mk (ns 7).n (.obj (.cells (Array.mk z31) 49)) true, Blk.mk z11.n z32 true])))))))))))) (br (Ex.eqQ z2.i 4) (need z15 (hyp z18 (need z19 (need z20 (need z21 (need z23 (hyp z24 (need z25 (need z27 (hyp (Nat.le z26 z28.n) (leaf (Value.slice z29 z26 z28.n, [Blk.mk (ns 11).n (Sy.Cont.row 49 6 z26
 z28.n (List.append z30 z33)) true, Blk.mk (ns 7).n (.obj (.cells (Array.mk z33) 49)) true, Blk.mk z11.n z32 true])))))))))))) (br (Ex.eqQ z2.i 5) (need z15 (hyp z18 (need z19 (need z20 (need z21 (need z23 (hyp z34 (need z25 (need z27 (hyp (Nat.le z26 (ns 13).n) (need (0 + List.length z17 + 1 + (1 : Nat) ≤ 9223372036854775807) (need (z35 * (48 : Nat) ≤ 140737488355328) (hyp (Nat.le z35 (ns 15).n) (leaf (Value.slice (some (Addr.mk (ns 14).n 0 none)) z35 (ns 15).n, [Blk.mk (ns 14).n (Sy.Cont.row 49 6 z35 (ns 15).n (List.append (List.append z30 z36) z37)) true, Blk.mk (ns 8).n (.obj (.cells (Array.mk z37) 49)) true, Blk.mk (ns 7).n (.obj (.cells (Array.mk z36) 49)) true, Blk.mk z11.n z32 true]))))))))))))))) (need z15 (hyp z18 (need (z13 ∧ 0 ≤ z7.i ∧ z7.i < (↑(List.length l) : Int) ∧ z7.i < (↑i0 : Int) ∧ 0 ≤ Ex.wrapQ .i64 z38 ∧ Ex.wrapQ .i64 z38 + (↑(E.needs z39) : Int) ≤ 5) (hyp (Nat.le (List.length z41) (ns 8).n) (need z19 (need z20 (need z21 (need z23 (hyp z34 (need ((0 : Nat) = 0 ∧ List.length z42 = List.length z41 * 6 ∧ ∀ (u : Value), u ∈ insCells z41 → Value.oneCell' u = true) (need (1 ≤ List.length z41) (need (0 + List.length z17 + List.length z41 ≤ 9223372036854775807) (need (z43 * (48 : Nat) ≤ 140737488355328) (hyp (Nat.le z43 (ns 13).n) (need (6 ≤ z2.i ∧ z2.i ≤ 19) (hyp True (br (Ex.eqQ (binOp z2.i) 0) (need z44 (need z45 (need z46 (need z48 (hyp (Nat.le z47 (ns 18).n) (need z49 (need z51 (hyp (Nat.le z50 (ns 20).n) (need (0 + z54 + 1 + (1 : Nat) ≤ 9223372036854775807)
 (need (z58 * (48 : Nat) ≤ 140737488355328) (hyp (Nat.le z58 (ns 22).n) (leaf (Value.slice (some (Addr.mk (ns 21).n 0 none)) z58 (ns 22).n, [Blk.mk (ns 21).n (Sy.Cont.row 49 6 z58 (ns 22).n (List.append (List.append z60 z62) z63)) true, Blk.mk (ns 15).n (.obj (.cells (Array.mk z63) 49)) true, Blk.mk (ns 14).n (.obj (.cells (Array.mk z62) 49)) true, Blk.mk z28.n (Sy.Cont.row 49 6 z57 (ns 13).n z60) true, Blk.mk (ns 7).n (Sy.Cont.row 49 6 (List.length z56) (ns 8).n (insCells z56)) true, Blk.mk z11.n (Sy.Cont.row 49 6 (List.length z55) z10.n (insCells z55)) true]))))))))))))) (need z44 (need z45 (need z46 (need z48 (hyp (Nat.le z47 (ns 17).n) (need z49 (need z51 (hyp (Nat.le z50 (ns 19).n) (leaf (Value.slice (some (Addr.mk (ns 18).n 0 none)) (0 + z54 + 1) (ns 19).n, [Blk.mk (ns 18).n (Sy.Cont.row 49 6 (0 + z57 + 1) (ns 19).n (List.append (List.append z59 (insCells z53)) [Value.int .i64 (binOp z2.i), Value.int .i64 z8, Value.int .i64 z8, Value.int .i64 z61, Value.int .i64 0, Value.int .i64 0])) true, Blk.mk (ns 14).n (.obj (.cells (Array.mk [.int .i64 (binOp (Let.i z2)), .int .i64 z8, .int .i64 z8, .int .i64 z61, .int .i64 0, .int .i64 0]) 49)) true, Blk.mk z28.n (Sy.Cont.row 49 6 z54 (ns 13).n (List.append ([] ++ insCells z52) (insCells z53))) true, Blk.mk (ns 7).n (Sy.Cont.row 49 6 (List.length z41) (ns 8).n z42) true, Blk.mk z11.n z32 true]))))))))))))))))))))))))))))))))))))))))
theorem ex_run (g o c : Nat) (l : List Nd) (i k : Int) (i0 : Nat) : Sy.Ran (Sy.inT Tryz.prog (ctxX g o c l i0) 60 fExpr (exprC g o c l i0 i k).args (Sy.blks (exprC g o c l i0 i k).mem) (Sy.rowT tI)) ex_o (ex_R g o c l i k i0) := ⟨fun _ => by kernel_rfl, fun _ => by kernel_rfl⟩
theorem ctxX_holds (g o c : Nat) (l : List Nd) (i0 : Nat) (ih : ∀ i k, Sy.Meets Tryz.prog (exprC g o c l i0 i k)) : (ctxX g o c l i0).holds Tryz.prog := Sy.mkS_holds (fun p hp a L => by
 rcases List.mem_cons.1 hp with rfl | hp
 ·exact ih _ _
 rcases List.mem_cons.1 hp with rfl | hp
 ·exact numC_met _ _
 rcases List.mem_singleton.1 hp with rfl
 exact binC_met _) (fun _ h => (by cases h)) (fun _ h => (by cases h))
theorem insC_len (l : List I) : (insCells l).length = l.length * 6 := by
 induction l with
 | nil => rfl
 | cons x l ih => unfold insCells at *; rw [List.flatMap_cons, List.length_append, ih, List.length_cons]; show 6 + _ = _; omega
theorem insC_app (a b : List I) : insCells (a ++ b) = insCells a ++ insCells b := by simp [insCells]
theorem insC_one (l : List I) : ∀ u ∈ insCells l, u.oneCell' = true := by
 intro u hu
 unfold insCells at hu
 obtain ⟨x, -, hx⟩ := List.mem_flatMap.1 hu
 simp only [I.cells, List.mem_cons, List.not_mem_nil, or_false] at hx
 rcases hx with rfl | rfl | rfl | rfl | rfl | rfl <;> rfl
theorem insC_len2 (a b : List I) : (insCells a ++ insCells b).length = (a.length + b.length) * 6 := by rw [← insC_app, insC_len, List.length_append]
theorem insC_one2 (a b : List I) : ∀ u ∈ insCells a ++ insCells b, u.oneCell' = true := by rw [← insC_app]; exact insC_one _
theorem add_small {a b : Int} (h0 : 0 ≤ a + b) (h1 : a + b < 1000000) : Ex.wrapQ .i64 (Ex.addQ a b) = a + b := by
 rw [Ex.wrapQ_eq, Ex.addQ_eq]
 simp [IntKind.wrap, IntKind.signed, IntKind.bits]
 omega
theorem wrap_small {a : Int} (h0 : 0 ≤ a) (h1 : a < 1000000) : Ex.wrapQ .i64 a = a := by
 rw [Ex.wrapQ_eq]
 simp [IntKind.wrap, IntKind.signed, IntKind.bits]
 omega
theorem lay_fits {l : List Nd} (h : isExpr 24 l) {i : Nat} (hi : i < l.length) (t : Int) : 0 < (lay (tr l i) t).length ∧ (lay (tr l i) t).length ≤ 262144 := by
 have h1 := lay_le (tr l i) t
 have h2 := tr_small h hi
 have h3 := h.2.2.1
 exact ⟨lay_pos _ _, by omega⟩
theorem exprC_step (g o c : Nat) (l : List Nd) (i0 : Nat) (ih : ∀ i k, Sy.Meets Tryz.prog (exprC g o c l i0 i k)) (i k : Int) : Sy.Meets Tryz.prog (exprC g o c l (i0 + 1) i k) := by
 refine Sy.meets_of (ctxX_holds g o c l i0 ih) mixed (ex_run g o c l i k i0) fun hok ns => ?_
 obtain ⟨⟨hE, hG⟩, h0, h1, h2, h3, h4⟩ : (isExpr 24 l ∧ goodN l) ∧ 0 ≤ i ∧ i < l.length ∧ i < ((i0 + 1 : Nat) : Int) ∧ 0 ≤ k ∧ k + (tr l i.toNat).needs ≤ 5 := hok
 have hok := hE.1
 simp only [ex_R, Sy.Res.holds, Int.ofNat_eq_natCast, Sy.b_and, Sy.b_or, Sy.b_not, Sy.b_f, Sy.b_and', Sy.b_or', Sy.q_lt, Sy.q_le, Sy.q_eq, Sy.b_tt, Sy.b_ft, not_true_eq_false, not_false_eq_true]
 have hlt : i.toNat < l.length := by omega
 have ea : l[i.toNat]? = some l[i.toNat] := List.getElem?_eq_getElem hlt
 obtain ⟨a0, a1, a2, a3⟩ := nd_atI ea o
 simp only [a0, a1, a2, a3, some_int, some_bool, exists_eq', true_and]
 have hxv : goodU l[i.toNat].val := hG _ (List.getElem_mem hlt)
 generalize l[i.toNat] = x at *
 refine ⟨⟨h0, h1⟩, fun e0 e1 e2 e3 => ?_⟩
 have hnp := (tr l i.toNat).needs_pos
 have w24 : Ex.wrapQ .i64 (Ex.addQ 24 k) = 24 + k := add_small (by omega) (by omega)
 have w25 : Ex.wrapQ .i64 (Ex.addQ (24 + k) 1) = 24 + k + 1 := add_small (by omega) (by omega)
 have wk : Ex.wrapQ .i64 (Ex.addQ k 1) = k + 1 := add_small (by omega) (by omega)
 have w26 : 24 + (k + 1) = 24 + k + 1 := by omega
 simp only [← e0, ← e1, ← e2, ← e3, w24, w25, wk, w26, List.nil_append]
 have hx := hok _ x ea
 have un : 3 ≤ x.op → x.op ≤ 5 → 0 ≤ x.a ∧ x.a < i ∧ tr l i.toNat = .un x.op (tr l x.a.toNat) := fun u1 u2 => by
  have ha := ok_a hx u1
  exact ⟨ha.1, by omega, tr_un ea u1 u2 (by omega)⟩
 refine ⟨fun c1 => ⟨hxv, fun hc => Sy.rowO_leaf' (List.mem_singleton_self _) rfl 0 rfl rfl ?_ ?_ hc⟩, fun c1 => ⟨fun c2 => Sy.rowO_leaf (List.mem_singleton_self _) rfl 0 ?_ rfl ⟨rfl, rfl, ?_⟩ (by rw [tr_loc ea c2]; exact Nat.le_refl _),
  fun c2 => ⟨fun c3 => ?_, fun c3 => ⟨fun c4 => ?_, fun c4 => ⟨fun c5 => ?_, fun c5 => ?_⟩⟩⟩⟩⟩
 ·rw [tr_num ea (by omega)]; rfl
 ·rw [tr_num ea (by omega)]; rfl
 ·rw [tr_loc ea c2]; rfl
 ·rw [tr_loc ea c2]
  have hv : Ex.wrapQ .i64 x.val = x.val := by
   unfold nodeOk at hx
   unfold goodU at hxv
   exact wrap_small hxv.1 (by omega)
  rw [hv]
  exact .inr (.inl rfl)
 ·obtain ⟨ha0, ha1, eT⟩ := un (by omega) (by omega)
  have hf := lay_fits hE (i := x.a.toNat) (by omega) (24 + k)
  rw [eT, E.needs] at h4
  refine ⟨⟨⟨hE, hG⟩, ha0, by omega, by omega, h3, h4⟩, fun hc0 => ⟨⟨insC_len _, insC_one _⟩, by omega, by omega, by omega, fun hc1 => ⟨by omega, by omega, fun hc2 => Sy.rowO_leaf' (List.mem_singleton_self _) rfl 0 rfl rfl ?_ ?_ hc2⟩⟩⟩
  ·rw [eT]; simp [lay, unL, c3]
  ·rw [eT]; simp [lay, unL, insCells, I.cells, c3]
 ·obtain ⟨ha0, ha1, eT⟩ := un (by omega) (by omega)
  have hf := lay_fits hE (i := x.a.toNat) (by omega) (24 + k)
  rw [eT, E.needs] at h4
  refine ⟨⟨⟨hE, hG⟩, ha0, by omega, by omega, h3, h4⟩, fun hc0 => ⟨⟨insC_len _, insC_one _⟩, by omega, by omega, by omega, fun hc1 => ⟨by omega, by omega, fun hc2 => Sy.rowO_leaf' (List.mem_singleton_self _) rfl 0 rfl rfl ?_ ?_ hc2⟩⟩⟩
  ·rw [eT]; simp [lay, unL, c4]
  ·rw [eT]; simp [lay, unL, insCells, I.cells, c4]
 ·obtain ⟨ha0, ha1, eT⟩ := un (by omega) (by omega)
  have hf := lay_fits hE (i := x.a.toNat) (by omega) (24 + k)
  rw [eT, E.needs] at h4
  refine ⟨⟨⟨hE, hG⟩, ha0, by omega, by omega, h3, h4⟩, fun hc0 => ⟨⟨insC_len _, insC_one _⟩, by omega, by omega, by omega, fun hc1 => ⟨by omega, by omega, fun hc2 => ⟨by omega, by omega, fun hc3 => Sy.rowO_leaf' (List.mem_singleton_self _) rfl 0 rfl rfl ?_ ?_ hc3⟩⟩⟩⟩
  ·rw [eT]; simp [lay, unL, c5]
  ·rw [eT]; simp [lay, unL, insCells, I.cells, c5]
 ·have h6 : 6 ≤ x.op := by unfold nodeOk at hx; omega
  have h19 : x.op ≤ 19 := by unfold nodeOk at hx; omega
  have ha := ok_a hx (by omega)
  have hb := ok_b hx h6
  have eT : tr l i.toNat = .bin x.op (tr l x.a.toNat) (tr l x.b.toNat) := tr_bin ea h6 (by omega) (by omega)
  have hf := lay_fits hE (i := x.a.toNat) (by omega) (24 + k)
  have hf2 := lay_fits hE (i := x.b.toNat) (by omega) (24 + k + 1)
  rw [eT, E.needs] at h4
  refine ⟨⟨⟨hE, hG⟩, ha.1, by omega, by omega, h3, by omega⟩, fun hc0 => ⟨⟨⟨hE, hG⟩, hb.1, by omega, by omega, by omega, by omega⟩, fun hc1 => ⟨⟨insC_len _, insC_one _⟩, by omega, by omega, by omega, fun hc2 => ⟨⟨insC_len _, insC_one _⟩, by omega, by omega, by omega, fun hc3 =>
   ⟨⟨h6, h19⟩, fun _ => ⟨fun hz => ⟨⟨by erw [insC_len2]; omega, insC_one2 _ _⟩, by omega, by omega, by omega, fun hc4 => ⟨by omega, by omega, fun hc5 => ⟨by omega, by omega, fun hc6 => Sy.rowO_leaf' (List.mem_singleton_self _) rfl 0 rfl rfl ?_ ?_ hc6⟩⟩⟩,
    fun hz => ⟨⟨by erw [insC_len2]; omega, insC_one2 _ _⟩, by omega, by omega, by omega, fun hc4 => ⟨by omega, by omega, fun hc5 => Sy.rowO_leaf' (List.mem_singleton_self _) rfl 0 rfl rfl ?_ ?_ hc5⟩⟩⟩⟩⟩⟩⟩⟩
  ·rw [eT]; simp only [lay, binL, if_pos hz, List.length_append, List.length_cons, List.length_nil]; omega
  ·rw [eT]; simp [lay, binL, if_pos hz, insCells, I.cells, binCd]
  ·rw [eT]; simp only [lay, binL, if_neg hz, List.length_append, List.length_cons, List.length_nil]; omega
  ·rw [eT]; simp [lay, binL, if_neg hz, insCells, I.cells]
theorem exprC_met (g o c : Nat) (l : List Nd) : ∀ (i0 : Nat) (i k : Int), Sy.Meets Tryz.prog (exprC g o c l i0 i k)
 | 0, i, k => fun hok => absurd hok.2.2.2.1 (by have := hok.2.1; omega)
 | i0 + 1, i, k => exprC_step g o c l i0 (fun j k => exprC_met g o c l i0 j k) i k
open Go Go.RowKit
open Go.Proofs.YtlpcnaeknbmjdaaGreat.Sy (Let Blk)
abbrev fRX : FuncId := 40
abbrev tBool : TypeId := 4
def bodyZ1 : Code := Sy.loopBody Tryz.f40 0
def bodyZ2 : Code := Sy.loopBody Tryz.f40 1
def usedV (n : Nat) (R : List Nat) : List Value := (List.range n).map fun j => Value.bool (decide (j ∈ R))
def slZ1 (g o c gu n k : Nat) (loc : Int) : List (Nat × Value) := [(0, .slice (some ⟨g, o, none⟩) n c), (1, .int .i64 loc), (4, .bool false), (5, .slice (some ⟨gu, 0, none⟩) n n), (6, .int .i64 k)]
def slZ2 (g o c gu n k : Nat) : List (Nat × Value) := [(0, .slice (some ⟨g, o, none⟩) n c), (4, .bool false), (5, .slice (some ⟨gu, 0, none⟩) n n), (8, .int .i64 k)]
def z1_o : Sy.O := (steps [0] (fork (steps [0, 1, 0, 0, 1, 1, 1, 1, 1, 1, 0, 0, 0, 0, 0, 0, 1, 0, 0, 0] (fork (steps [0, 0, 0] (fork (steps [0, 0, 0, 0, 0, 0, 0, 0] nil) (steps [0, 0, 0, 0, 0] (fork (steps [0, 0, 0, 0, 0] nil) (steps [0, 0, 0, 0, 0, 0] (fork (steps [0, 0, 0, 0, 0, 0, 0, 0] (fork nil nil)) (steps [0, 0, 0, 0, 0, 0] nil))))))) (steps [0, 0, 0, 1, 0, 0, 0, 1, 0, 0, 0, 1, 0, 0, 0, 1, 0, 0, 0] (fork (steps [0, 0, 0, 0, 0] nil) (steps [0, 0, 0, 0, 0, 0, 0, 1, 0, 0, 2, 1, 1, 1] (fork nil (steps [0, 0, 0, 0, 1, 2, 0, 1, 0, 0, 0] (fork (steps [0, 0, 0] (fork nil nil)) (steps [0, 0, 0, 1, 0, 0, 0] (fork (steps [0, 0, 0, 0, 0] nil) (steps [0, 0, 0, 0, 0, 0, 0, 1, 0, 0, 2, 1, 1, 1] (fork nil (steps [0, 0, 0, 0, 1, 2, 0, 1] nil))))))))))))) nil))
noncomputable def z1_R (g o c gu n k : Nat) (loc : Int) (xs us rest : List Value) (ns : Nat → Sy.Let) : Sy.Res (Exit × Nat × List Value × List Blk) :=
 let z0 := Sy.Cont.seg o xs
 let z1 := o + Int.toNat (↑k : Int) * 4
 let z2 := ns 0
 let z3 := o + Int.toNat (↑k : Int) * 4 + 1
 let z4 := o + Int.toNat (↑k : Int) * 4 + 1 + 1
 let z5 := ns 2
 let z6 := o + Int.toNat (↑k : Int) * 4 + 1 + 1 + 1
 let z7 := ns 3
 let z8 := some (Addr.mk g o none)
 let z9 := some (Addr.mk gu 0 none)
 let z10 := [Value.slice z8 n c, Value.int .i64 loc, Value.bool false, Value.slice z9 n n, Value.int .i64 (↑k : Int)]
 let z11 := Sy.Cont.obj (Obj.cells (Array.mk [.int .i64 z2.i, .int .u64 (ns 1).i, .int .i64 z5.i, .int .i64 z7.i]) 127)
 let z12 := Sy.Cont.row 4 1 n n us
 let z13 := [Blk.mk (ns 4).n z11 true, Blk.mk g z0 false, Blk.mk gu z12 true]
 let z14 := leaf (Exit.ret, 131, z10, z13)
 let z15 := [Value.slice z8 n c, Value.int .i64 loc, Value.bool false, Value.slice z9 n n, Value.int .i64 (Ex.wrapQ .i64 (Ex.addQ (↑k : Int) 1))]
 let z16 := leaf (Exit.normal, 131, z15, z13)
 let z17 := 0 ≤ z5.i ∧ z5.i < (↑n : Int)
 let z18 := 0 + Int.toNat z5.i * 1
 let z19 := List.set us z18 (Value.bool true)
 let z20 := Sy.Cont.row 4 1 n n z19
 let z21 := [Blk.mk (ns 4).n z11 true, Blk.mk g z0 false, Blk.mk gu z20 true]
 let z22 := leaf (Exit.ret, 131, z10, z21)
 let z23 := 0 ≤ z7.i ∧ z7.i < (↑n : Int)
 let z24 := 0 + Int.toNat z7.i * 1
 br (Ex.ltQ (↑k : Int) (Int.ofNat n)) (need (0 ≤ (↑k : Int) ∧ (↑k : Int) < (↑n : Int)) (need (∃ (i : Int), Sy.Cont.at z0 z1 = some (Value.int .i64 i)) (hyp (Sy.Cont.at z0 z1 = some (Value.int .i64 z2.i)) (need (∃ (i : Int), Sy.Cont.at z0 z3 = some (Value.int .u64 i)) (hyp (Sy.Cont.at z0 z3 = some (Value.int .u64 (ns 1).i)) (need (∃ (i : Int), Sy.Cont.at z0 z4 = some (Value.int .i64 i)) (hyp (Sy.Cont.at z0 z4 = some (Value.int .i64 z5.i)) (need (∃ (i : Int), Sy.Cont.at z0 z6 = some (Value.int .i64 i)) (hyp (Sy.Cont.at z0 z6 = some (Value.int .i64 z7.i)) (br (bif Ex.eqQ z2.i 1 then true else Ex.eqQ z2.i 2) (br (!Ex.eqQ z5.i 0) z14 (br (bif false then true else !Ex.eqQ z7.i 0) z14 (br (Ex.eqQ z2.i 2) (br (bif false then true else bif true then Ex.leQ (Ex.wrapQ .u64 loc) (ns 1).i else false) z14 z16) z16))) (br (bif bif bif bif Ex.ltQ z2.i 1 then true else Ex.ltQ 19 z2.i then true else !Ex.eqQ (ns 1).i 0 then true else Ex.ltQ z5.i 0 then true else Ex.leQ (↑k : Int) z5.i) z14 (need z17 (need (∃ (b : Bool), Sy.Cont.at z12 z18 = some (Value.bool b)) (hyp (Sy.Cont.at z12 z18 = some (Value.bool (ns 5).b)) (br (bif false then true else (ns 5).b) z14 (need z17 (need (0 + Int.toNat z5.i * 1 < List.length us) (br (Ex.leQ z2.i 5) (br (!Ex.eqQ z7.i 0) z22 (leaf (Exit.normal, 131, z15, z21))) (br (bif Ex.ltQ z7.i 0 then true else Ex.leQ (↑k : Int) z7.i) z22 (need z23 (need (∃ (b : Bool), Sy.Cont.at z20 z24 = some (Value.bool b)) (hyp (Sy.Cont.at z20 z24 = some (Value.bool (ns 6).b)) (br (bif
 false then true else (ns 6).b) z22 (need z23 (need (0 + Int.toNat z7.i * 1 < List.length z19) (leaf (Exit.normal, 131, z15, [Blk.mk (ns 4).n z11 true, Blk.mk g z0 false, Blk.mk gu (Sy.Cont.row 4 1 n n (List.set z19 z24 (Value.bool true))) true]))))))))))))))))))))))))))) (leaf (Exit.exit 0, 131, z10, [Blk.mk g z0 false, Blk.mk gu z12 true]))
theorem z1_run (g o c gu n k : Nat) (loc : Int) (xs us : List Value) (rest : List Value) : Sy.Ran (Sy.pieceT Tryz.prog Sy.S0 50 fRX bodyZ1 131 (slZ1 g o c gu n k loc) rest [⟨g, .seg o xs, false⟩, ⟨gu, .row tBool 1 n n us, true⟩] [0, 1, 4, 5, 6]) z1_o (z1_R g o c gu n k loc xs us rest) := ⟨fun _ => by kernel_rfl, fun _ => by kernel_rfl⟩
def z2_o : Sy.O := (steps [0] (fork (steps [0, 1, 0, 0, 1, 1, 1] (fork nil nil)) nil))
noncomputable def z2_R (g o c gu n k : Nat) (us rest : List Value) (ns : Nat → Sy.Let) : Sy.Res (Exit × Nat × List Value × List Blk) :=
 let z0 := Sy.Cont.row 4 1 n n us
 let z1 := 0 + Int.toNat (↑k : Int) * 1
 let z2 := some (Addr.mk g o none)
 let z3 := some (Addr.mk gu 0 none)
 let z4 := [Value.slice z2 n c, Value.bool false, Value.slice z3 n n, Value.int .i64 (↑k : Int)]
 let z5 := [Blk.mk gu z0 true]
 br (Ex.ltQ (↑k : Int) (Ex.wrapQ .i64 (Ex.subQ' (Int.ofNat n) 1))) (need (0 ≤ (↑k : Int) ∧ (↑k : Int) < (↑n : Int)) (need (∃ (b : Bool), Sy.Cont.at z0 z1 = some (Value.bool b)) (hyp (Sy.Cont.at z0 z1 = some (Value.bool (ns 0).b)) (br (!(ns 0).b) (leaf (Exit.ret, 131, z4, z5)) (leaf (Exit.normal, 131, [Value.slice z2 n c, Value.bool false, Value.slice z3 n n, Value.int .i64 (Ex.wrapQ .i64 (Ex.addQ (↑k : Int) 1))], z5)))))) (leaf (Exit.exit 2, 131, z4, z5))
theorem z2_run (g o c gu n k : Nat) (us : List Value) (rest : List Value) : Sy.Ran (Sy.pieceT Tryz.prog Sy.S0 50 fRX bodyZ2 131 (slZ2 g o c gu n k) rest [⟨gu, .row tBool 1 n n us, true⟩] [0, 4, 5, 8]) z2_o (z2_R g o c gu n k us rest) := ⟨fun _ => by kernel_rfl, fun _ => by kernel_rfl⟩
theorem usedV_length (n : Nat) (R : List Nat) : (usedV n R).length = n := by simp [usedV]
theorem usedV_nil (n : Nat) : usedV n [] = List.replicate n (.bool false) := by
 apply List.ext_getElem
 ·simp [usedV]
 ·intro i h1 h2
  simp [usedV]
theorem usedV_get {n a : Nat} (R : List Nat) (h : a < n) : (usedV n R)[a]? = some (.bool (decide (a ∈ R))) := by simp [usedV, h]
theorem usedV_at {n a : Nat} (R : List Nat) (h : a < n) (e : TypeId) (s m c : Nat) : (Sy.Cont.row e s m c (usedV n R)).at (0 + a * 1) = some (.bool (decide (a ∈ R))) := by
 rw [Nat.zero_add, Nat.mul_one]
 exact usedV_get R h
theorem usedV_set {n a : Nat} (R : List Nat) (h : a < n) : (usedV n R).set (0 + a * 1) (.bool true) = usedV n (R ++ [a]) := by
 rw [Nat.zero_add, Nat.mul_one]
 apply List.ext_getElem?
 intro j
 rw [List.getElem?_set]
 by_cases hj : j < n
 ·rw [usedV_get _ hj, usedV_length]
  split
  ·rename_i e
   subst e
   rw [usedV_get _ hj]
   simp
  ·rename_i e
   rw [usedV_get _ hj]
   have : (j ∈ R ++ [a]) ↔ j ∈ R := by
    rw [List.mem_append, List.mem_singleton]
    exact ⟨fun h => h.elim id fun h => absurd h.symm e, .inl⟩
   simp only [this]
 ·rw [List.getElem?_eq_none (by rw [usedV_length]; omega), List.getElem?_eq_none (by rw [usedV_length]; omega)]
  split
  ·omega
  ·rfl
def treeOk (loc : Int) (l : List Nd) : Prop := nodesOk loc l ∧ (refs l).Nodup
theorem refs_pre {l : List Nd} (h : (refs l).Nodup) (k : Nat) : (refs (l.take k)).Nodup := by
 have : refs l = refs (l.take k) ++ refs (l.drop k) := by
  unfold refs
  rw [← List.flatMap_append, List.take_append_drop]
 rw [this] at h
 exact (List.nodup_append.1 h).1
def loopZ1 (g o c gu : Nat) (l : List Nd) (loc : Int) : Sy.LoopC :=
 ⟨.loop bodyZ1, 131, slZ1 g o c gu l.length 0 loc, (0 ≤ loc ∧ loc ≤ 1000 ∧ goodN l) ∧ l.length ≤ 65536, ⟨[(g, .seg o (ndCells l))], [(gu, .row tBool 1 l.length l.length (List.replicate l.length (.bool false)))], 0, []⟩,
  [(⟨fun _ => treeOk loc l, fun _ => [(gu, .row tBool 1 l.length l.length (usedV l.length (refs l)))], fun _ => []⟩, .exit 0, fun _ => [(0, .slice (some ⟨g, o, none⟩) l.length c), (4, .bool false), (5, .slice (some ⟨gu, 0, none⟩) l.length l.length)]),
   (⟨fun _ => ¬ treeOk loc l, fun _ => [], fun _ => []⟩, .ret, fun _ => [(4, .bool false)])]⟩
theorem loopZ1_met (g o c gu : Nat) (l : List Nd) (loc : Int) : Sy.MeetsL Tryz.prog (loopZ1 g o c gu l loc) := by
 refine Sy.loop_of (n := 50) (fn := fRX) Sy.S0_holds mixed (body := bodyZ1) rfl [0, 1, 4, 5, 6] (fun k : Nat => slZ1 g o c gu l.length k loc) (fun k => [⟨g, .seg o (ndCells l), false⟩, ⟨gu, .row tBool 1 l.length l.length (usedV l.length (refs (l.take k))), true⟩])
  (fun k => k ≤ l.length ∧ (∀ i n, i < k → l[i]? = some n → nodeOk loc i n) ∧ (refs (l.take k)).Nodup) (fun k => l.length - k)
  0 (fun h => ⟨Nat.zero_le _, fun i n hi => absurd hi (Nat.not_lt_zero i), List.nodup_nil⟩) (fun p hp => hp) [0, 1] (by decide) (by rw [List.take_zero, show refs [] = [] from rfl, usedV_nil]; rfl) (o := fun _ => z1_o) (R := fun k xs => z1_R g o c gu l.length k loc (ndCells l) (usedV l.length (refs (l.take k))) xs) (fun k xs _ => z1_run g o c gu l.length k loc (ndCells l) (usedV l.length (refs (l.take k))) xs) ?_
 rintro ⟨⟨hl0, hl1, hG⟩, hm⟩ k rest ⟨hk, hall, hnd⟩ ns
 have hw : Ex.wrapQ .u64 loc = loc := wrapU hl0 (by omega)
 simp only [z1_R, Sy.Res.holds, Int.ofNat_eq_natCast, Sy.b_and, Sy.b_or, Sy.b_not, Sy.b_f, Sy.b_and', Sy.b_or', Sy.q_lt, Sy.q_le, Sy.q_eq, Sy.b_tt, Sy.b_ft, not_true_eq_false, not_false_eq_true, hw, false_or]
 refine ⟨fun hlt => ?_, fun hge => ?_⟩
 ·have hlt : k < l.length := by omega
  have ea : l[k]? = some l[k] := List.getElem?_eq_getElem hlt
  have hxv : goodU l[k].val := hG _ (List.getElem_mem hlt)
  obtain ⟨a0, a1, a2, a3⟩ := nd_at ea o
  simp only [a0, a1, a2, a3, some_int, some_bool, exists_eq', true_and]
  generalize l[k] = x at *
  refine ⟨by omega, fun h0 h1 h2 h3 => ?_⟩
  simp only [← h0, ← h1, ← h2, ← h3]
  have hr := refs_take ea
  have bad : ¬ nodeOk loc k x → ¬ treeOk loc l := fun h h' => h (h'.1 k x ea)
  have dup : ∀ {R : List Nat}, R = refs (l.take k) ++ x.refs → ¬ R.Nodup → ¬ treeOk loc l := fun h hn h' => hn (by rw [h, ← hr]; exact refs_pre h'.2 _)
  have good : nodeOk loc k x → (refs (l.take k) ++ x.refs).Nodup → k + 1 ≤ l.length ∧ (∀ i n, i < k + 1 → l[i]? = some n → nodeOk loc i n) ∧ (refs (l.take (k + 1))).Nodup := fun h hn2 => ⟨by omega, fun i n hi hn => by
   rcases Nat.lt_succ_iff_lt_or_eq.1 hi with hi | rfl
   ·exact hall i n hi hn
   ·rw [ea] at hn
    injection hn with hn
    rw [← hn]; exact h, by rw [hr]; exact hn2⟩
  have inc := Sy.inc_q k (by omega)
  have fin : ∀ B R, R = refs (l.take k) ++ x.refs → nodeOk loc k x → R.Nodup → Sy.leafL (loopZ1 g o c gu l loc) [0, 1, 4, 5, 6] (fun k : Nat => slZ1 g o c gu l.length k loc) (fun k => [⟨g, .seg o (ndCells l), false⟩, ⟨gu, .row tBool 1 l.length l.length (usedV l.length (refs (l.take k))), true⟩])
    (fun k => k ≤ l.length ∧ (∀ i n, i < k → l[i]? = some n → nodeOk loc i n) ∧ (refs (l.take k)).Nodup) (fun k => l.length - k) k (Exit.normal, 131, [.slice (some ⟨g, o, none⟩) l.length c, .int .i64 loc, .bool false, .slice (some ⟨gu, 0, none⟩) l.length l.length, .int .i64 (Ex.wrapQ IntKind.i64 (Ex.addQ (↑k : Int) 1))],
     [B, ⟨g, .seg o (ndCells l), false⟩, ⟨gu, .row tBool 1 l.length l.length (usedV l.length R), true⟩]) := fun B R hR hx hn => by
   rw [hR, ← hr]
   exact Sy.leafL_next (k + 1) rfl (good hx (hR ▸ hn)) (by show l.length - (k + 1) < l.length - k; omega) (by rw [inc]; rfl) [1, 2] (by decide) rfl
  have out : ∀ L, ¬ treeOk loc l → Sy.leafL (loopZ1 g o c gu l loc) [0, 1, 4, 5, 6] (fun k : Nat => slZ1 g o c gu l.length k loc) (fun k => [⟨g, .seg o (ndCells l), false⟩, ⟨gu, .row tBool 1 l.length l.length (usedV l.length (refs (l.take k))), true⟩])
    (fun k => k ≤ l.length ∧ (∀ i n, i < k → l[i]? = some n → nodeOk loc i n) ∧ (refs (l.take k)).Nodup) (fun k => l.length - k) k (Exit.ret, 131, [.slice (some ⟨g, o, none⟩) l.length c, .int .i64 loc, .bool false, .slice (some ⟨gu, 0, none⟩) l.length l.length, .int .i64 (↑k : Int)], L) := fun L h =>
   Sy.leafL_end 1 rfl rfl (by simp) rfl [] rfl [2] rfl [] List.nodup_nil trivial h
  unfold goodU at hxv
  refine ⟨fun c1 => ⟨fun r => out _ (bad (by unfold nodeOk; omega)), fun r => ⟨fun r' => out _ (bad (by unfold nodeOk; omega)), fun r' => ⟨fun c2 => ⟨fun r2 => out _ (bad (by unfold nodeOk; omega)), fun r2 => fin _ _ ?_ ?_ hnd⟩, fun c2 => fin _ _ ?_ ?_ hnd⟩⟩⟩,
   fun c1 => ⟨fun r => out _ (bad (by unfold nodeOk; omega)), fun r => ?_⟩⟩
  ·unfold Nd.refs; rw [if_pos (by omega), List.append_nil]
  ·unfold nodeOk; omega
  ·unfold Nd.refs; rw [if_pos (by omega), List.append_nil]
  ·unfold nodeOk; omega
  ·have la : x.a.toNat < l.length := by omega
   have ha3 : 3 ≤ x.op := by omega
   simp only [usedV_at _ la, usedV_length, some_int, some_bool, exists_eq', true_and]
   refine ⟨by omega, fun h5 => ?_⟩
   rw [← h5]
   simp only [decide_eq_true_eq, usedV_set _ la]
   have ra : ∀ r, x.refs = x.a.toNat :: r → x.a.toNat ∈ refs (l.take k) → ¬ treeOk loc l := fun r hr' hm => dup rfl fun hn => (List.nodup_append.1 hn).2.2 _ hm _ (by rw [hr']; exact List.mem_cons_self) rfl
   have rx : ∃ r, x.refs = x.a.toNat :: r := by
    unfold Nd.refs
    rw [if_neg (by omega)]
    split
    ·exact ⟨_, rfl⟩
    ·exact ⟨_, rfl⟩
   obtain ⟨r0, hr0⟩ := rx
   refine ⟨fun hu => out _ (ra r0 hr0 hu), fun hu => ⟨by omega, by omega, ?_⟩⟩
   have hnd1 : (refs (l.take k) ++ [x.a.toNat]).Nodup := List.nodup_append.2 ⟨hnd, by simp, fun a ha b hb => by rw [List.mem_singleton.1 hb]; exact fun e => hu (e ▸ ha)⟩
   refine ⟨fun c5 => ⟨fun r2 => out _ (bad (by unfold nodeOk; omega)), fun r2 => fin _ _ ?_ (by unfold nodeOk; omega) hnd1⟩, fun c5 => ⟨fun r2 => out _ (bad (by unfold nodeOk; omega)), fun r2 => ?_⟩⟩
   ·unfold Nd.refs; rw [if_neg (by omega), if_pos (by omega)]
   ·have lb : x.b.toNat < l.length := by omega
    have er : refs (l.take k) ++ [x.a.toNat] ++ [x.b.toNat] = refs (l.take k) ++ x.refs := by
     rw [List.append_assoc]
     unfold Nd.refs; rw [if_neg (by omega), if_neg (by omega)]; rfl
    simp only [usedV_at _ lb, usedV_length, some_int, some_bool, exists_eq', true_and]
    refine ⟨by omega, fun h6 => ?_⟩
    rw [← h6]
    simp only [decide_eq_true_eq, usedV_set _ lb]
    refine ⟨fun hu2 => out _ (dup er fun hn => (List.nodup_append.1 hn).2.2 _ hu2 _ (List.mem_singleton_self _) rfl), fun hu2 => ⟨by omega, by omega, fin _ _ er (by unfold nodeOk; omega) ?_⟩⟩
    exact List.nodup_append.2 ⟨hnd1, by simp, fun a ha b hb => by rw [List.mem_singleton.1 hb]; exact fun e => hu2 (e ▸ ha)⟩
 ·have hkl : k = l.length := by omega
  subst hkl
  rw [List.take_length] at *
  refine Sy.leafL_end 0 rfl rfl (by simp) rfl [] rfl [0, 2, 3] rfl [1] (by decide) ⟨⟨rfl, rfl, .inl rfl⟩, trivial⟩ ⟨fun i n hn => hall i n ?_ hn, hnd⟩
  exact (List.getElem?_eq_some_iff.1 hn).1
def loopZ2 (g o c gu : Nat) (l : List Nd) (loc : Int) : Sy.LoopC :=
 ⟨.loop bodyZ2, 131, slZ2 g o c gu l.length 0, (0 < l.length ∧ treeOk loc l) ∧ l.length ≤ 65536, ⟨[], [(gu, .row tBool 1 l.length l.length (usedV l.length (refs l)))], 0, []⟩,
  [(⟨fun _ => onceOk l, fun _ => [], fun _ => []⟩, .exit 2, fun _ => []), (⟨fun _ => ¬ onceOk l, fun _ => [], fun _ => []⟩, .ret, fun _ => [(4, .bool false)])]⟩
theorem loopZ2_met (g o c gu : Nat) (l : List Nd) (loc : Int) : Sy.MeetsL Tryz.prog (loopZ2 g o c gu l loc) := by
 refine Sy.loop_of (n := 50) (fn := fRX) Sy.S0_holds mixed (body := bodyZ2) rfl [0, 4, 5, 8] (fun k : Nat => slZ2 g o c gu l.length k) (fun k => [⟨gu, .row tBool 1 l.length l.length (usedV l.length (refs l)), true⟩])
  (fun k => k < l.length ∧ ∀ j, j < k → j ∈ refs l) (fun k => l.length - k)
  0 (fun h => ⟨h.1.1, fun j hj => absurd hj (Nat.not_lt_zero j)⟩) (fun p hp => hp) [0] (by decide) rfl (o := fun _ => z2_o) (R := fun k xs => z2_R g o c gu l.length k (usedV l.length (refs l)) xs) (fun k xs _ => z2_run g o c gu l.length k (usedV l.length (refs l)) xs) ?_
 rintro ⟨⟨hpos, hT⟩, hm⟩ k rest ⟨hk, hall⟩ ns
 simp only [z2_R, Sy.Res.holds, Int.ofNat_eq_natCast, Sy.b_and, Sy.b_or, Sy.b_not, Sy.b_f, Sy.b_and', Sy.b_or', Sy.q_lt, Sy.q_le, Sy.q_eq, Sy.b_tt, Sy.b_ft, not_true_eq_false, not_false_eq_true, dec_q l.length hpos (by omega), Int.toNat_natCast, usedV_at _ hk, some_int, some_bool, exists_eq', true_and]
 have h1 := List.nodup_iff_count.1 hT.2
 refine ⟨fun hlt => ⟨by omega, fun h0 => ?_⟩, fun hge => ?_⟩
 ·rw [← h0]
  simp only [decide_eq_true_eq]
  refine ⟨fun r => ?_, fun r => ?_⟩
  ·refine Sy.leafL_end 1 rfl rfl (by simp) rfl [] rfl [1] rfl [] List.nodup_nil trivial fun h => r ?_
   have := h k hk
   rw [if_pos (by omega)] at this
   exact List.count_pos_iff.1 (by omega)
  ·refine Sy.leafL_next (k + 1) rfl ⟨by omega, fun j hj => ?_⟩ (by show l.length - (k + 1) < l.length - k; omega) (by rw [Sy.inc_q k (by omega)]; rfl) [0] (by decide) rfl
   rcases Nat.lt_succ_iff_lt_or_eq.1 hj with hj | rfl
   ·exact hall j hj
   ·exact Classical.byContradiction r
 ·refine Sy.leafL_end 0 rfl rfl (by simp) rfl [] rfl [] rfl [] List.nodup_nil trivial fun j hj => ?_
  have h2 := h1 j
  split
  ·have := List.count_pos_iff.2 (hall j (by omega))
   omega
  ·rename_i hlast
   refine List.count_eq_zero.2 fun hm' => ?_
   unfold refs at hm'
   obtain ⟨x, hx, hj'⟩ := List.mem_flatMap.1 hm'
   obtain ⟨m, hm2, he⟩ := List.mem_iff_getElem.1 hx
   have := refs_lt hT.1 (Nat.le_refl _) (j := j) (by rw [List.take_length]; unfold refs; exact hm')
   have h3 := hT.1 m x (by rw [← he]; exact List.getElem?_eq_getElem hm2)
   unfold Nd.refs at hj'
   split at hj'
   ·cases hj'
   ·split at hj'
    ·have := ok_a h3 (by omega)
     have := List.mem_singleton.1 hj'
     omega
    ·have := ok_a h3 (by omega)
     have := ok_b h3 (by omega)
     rcases List.mem_cons.1 hj' with hj' | hj'
     ·omega
     ·have := List.mem_singleton.1 hj'
      omega
open Go Go.RowKit
open Go.Proofs.YtlpcnaeknbmjdaaGreat.Sy (Let Blk)
def rxC (g o c : Nat) (l : List Nd) (loc : Int) : Sy.CallC := ⟨fRX, #[.slice (some ⟨g, o, none⟩) l.length c, .int .i64 loc], (0 ≤ loc ∧ loc ≤ 1000 ∧ goodN l) ∧ 0 < l.length, ⟨[(g, .seg o (ndCells l))], [], 0, []⟩, [Sy.plainO (.bool (tru (isExpr loc l)))]⟩
def ctxRX (g o c : Nat) (l : List Nd) (loc : Int) : Sy.Ctx := Sy.mkS [] [(fRX, fun a _ => loopZ1 g o c (Sy.ptrN (a.get 5)) l loc), (fRX, fun a _ => loopZ2 g o c (Sy.ptrN (a.get 5)) l loc)] []
def rx_o : Sy.O := (steps [0, 1, 0] (fork nil (steps [0, 1, 1, 0, 1, 0, 0, 0, 0] (fork (steps [0, 0, 1, 0, 0, 0] (fork (steps [0, 0] nil) (steps [0, 0] nil))) (steps [0, 0] nil)))))
noncomputable def rx_R (g o c : Nat) (l : List Nd) (loc : Int) (ns : Nat → Sy.Let) : Sy.Res (Value × List Blk) :=
 let z0 := Int.ofNat (List.length l)
 let z1 := leaf (Value.bool false, [])
 br (bif Ex.eqQ z0 0 then true else Ex.ltQ 65536 z0) z1 (need (0 ≤ Int.ofNat (List.length l) ∧ Int.toNat z0 * (1 : Nat) ≤ 281474976710656 ∧ Int.toNat z0 ≤ 9223372036854775807) (need ((0 ≤ loc ∧ loc ≤ 1000 ∧ goodN l) ∧ List.length l ≤ 65536) (both (hyp (nodesOk loc l ∧ List.Pairwise (fun (x1 x2 : Nat) => x1 ≠ x2) (refs l)) (need ((0 < List.length l ∧ treeOk loc l) ∧ List.length l ≤ 65536) (both (hyp (∀ (j : Nat), j < List.length l → List.countP.go (fun (x : Nat) => x == j) (refs l) 0 = if j + 1 < List.length l then 1 else 0) (leaf (Value.bool true, []))) (hyp (onceOk l → False) z1)))) (hyp (treeOk loc l → False) z1))))
theorem rx_run (g o c : Nat) (l : List Nd) (loc : Int) : Sy.Ran (Sy.inT Tryz.prog (ctxRX g o c l loc) 50 fRX (rxC g o c l loc).args (Sy.blks (rxC g o c l loc).mem) Sy.noB) rx_o (rx_R g o c l loc) := ⟨fun _ => by kernel_rfl, fun _ => by kernel_rfl⟩
theorem ctxRX_holds (g o c : Nat) (l : List Nd) (loc : Int) : (ctxRX g o c l loc).holds Tryz.prog := Sy.mkS_holds (fun _ h => (by cases h)) (fun p hp a L => by
 rcases List.mem_cons.1 hp with rfl | hp
 ·exact loopZ1_met _ _ _ _ _ _
 rcases List.mem_singleton.1 hp with rfl
 exact loopZ2_met _ _ _ _ _ _) (fun _ h => (by cases h))
theorem rxC_met (g o c : Nat) (l : List Nd) (loc : Int) : Sy.Meets Tryz.prog (rxC g o c l loc) := by
 refine Sy.meets_of (ctxRX_holds g o c l loc) mixed (rx_run g o c l loc) fun hok ns => ?_
 obtain ⟨h1, h2⟩ : (0 ≤ loc ∧ loc ≤ 1000 ∧ goodN l) ∧ 0 < l.length := hok
 simp only [rx_R, Sy.Res.holds, Int.ofNat_eq_natCast, Sy.b_and, Sy.b_or, Sy.b_not, Sy.b_f, Sy.b_and', Sy.b_or', Sy.q_lt, Sy.q_le, Sy.q_eq, Sy.b_tt, Sy.b_ft, not_true_eq_false, not_false_eq_true]
 refine ⟨fun h => Sy.plainO_leaf (List.mem_singleton_self _) rfl ?_, fun h => ⟨⟨Int.natCast_nonneg _, ?_, ?_⟩, ⟨h1, by omega⟩, fun hT => ⟨⟨⟨h2, hT⟩, by omega⟩, fun ho => Sy.plainO_leaf (List.mem_singleton_self _) rfl ?_, fun ho => Sy.plainO_leaf (List.mem_singleton_self _) rfl ?_⟩, fun hT => Sy.plainO_leaf (List.mem_singleton_self _) rfl ?_⟩⟩
 ·rw [tru_neg fun he => by have := he.2.2.1; omega]
 ·show l.length * 1 ≤ _
  omega
 ·show l.length ≤ _
  omega
 ·rw [tru_pos (p := isExpr loc l) ⟨hT.1, h2, by omega, ho⟩]
 ·rw [tru_neg fun he => ho he.2.2.2]
 ·rw [tru_neg fun he => hT ⟨he.1, refs_nodup he.1 he.2.2.2⟩]
abbrev fRN : FuncId := 139
def bodyV : Code := Sy.loopBody Tryz.f139 0
def needV (l : List Nd) (k : Nat) : List Value := (List.range l.length).map fun j => Value.int .i64 (if j < k then ((tr l j).needs : Int) else 0)
def slV (g o c gu n k : Nat) : List (Nat × Value) := [(0, .slice (some ⟨g, o, none⟩) n c), (2, .int .i64 0), (3, .slice (some ⟨gu, 0, none⟩) n n), (4, .int .i64 k)]
def v1_o : Sy.O := (steps [0] (fork (steps [0, 1, 0, 0, 1, 1, 1, 1, 1, 1, 0, 0, 0, 0, 1, 2, 0, 1, 0, 0, 0] (fork (steps [0, 0, 0, 0, 1, 0, 2, 1, 1, 1, 0, 1, 2, 0, 1, 1, 0, 0, 0, 2, 0, 1, 0, 0, 0, 2, 3, 4] (fork (steps [5, 0, 6, 0, 0, 0, 0, 7, 0, 0, 1, 8, 0, 0, 1, 1, 1, 1, 9, 0, 10, 0, 11, 0, 12, 0, 0, 1, 13, 0, 0, 1, 1, 1, 1, 14, 0, 15] (fork (steps [0, 0, 0, 0, 1, 0, 2, 1, 1, 1, 0, 1, 2, 0, 1] nil) nil)) (steps [5, 0, 6, 0, 7, 0, 8, 0, 9, 0, 10, 0, 11, 0, 12, 0, 13, 0, 14, 0, 15, 0] nil))) (steps [1, 0, 0, 0, 2, 0, 1, 0, 0, 0, 2, 3, 4] (fork (steps [5, 0, 6, 0, 0, 0, 0, 7, 0, 0, 1, 8, 0, 0, 1, 1, 1, 1, 9, 0, 10, 0, 11, 0, 12, 0, 0, 1, 13, 0, 0, 1, 1, 1, 1, 14, 0, 15] (fork (steps [0, 0, 0, 0, 1, 0, 2, 1, 1, 1, 0, 1, 2, 0, 1] nil) nil)) (steps [5, 0, 6, 0, 7, 0, 8, 0, 9, 0, 10, 0, 11, 0, 12, 0, 13, 0, 14, 0, 15, 0] nil))))) nil))
noncomputable def v1_R (g o c gu n k : Nat) (xs us rest : List Value) (ns : Nat → Sy.Let) : Sy.Res (Exit × Nat × List Value × List Blk) :=
 let z0 := 0 ≤ (↑k : Int) ∧ (↑k : Int) < (↑n : Int)
 let z1 := Sy.Cont.seg o xs
 let z2 := o + Int.toNat (↑k : Int) * 4
 let z3 := o + Int.toNat (↑k : Int) * 4 + 1
 let z4 := o + Int.toNat (↑k : Int) * 4 + 1 + 1
 let z5 := o + Int.toNat (↑k : Int) * 4 + 1 + 1 + 1
 let z6 := 0 + Int.toNat (↑k : Int) * 1
 let z7 := List.set us z6 (Value.int .i64 1)
 let z8 := Sy.Cont.row 3 1 n n z7
 let z9 := 0 + Int.toNat (ns 2).i * 1
 let z10 := Value.int .i64 (ns 5).i
 let z11 := 0 + Int.toNat (↑k : Int) * 1 < List.length z7
 let z12 := Ex.leQ 6 (ns 0).i
 let z13 := 0 ≤ (ns 3).i ∧ (ns 3).i < (↑n : Int)
 let z14 := List.set z7 z6 z10
 let z15 := Sy.Cont.row 3 1 n n z14
 let z16 := 0 + Int.toNat (ns 3).i * 1
 let z17 := (∃ (i : Int), Sy.Cont.at z15 z16 = some (Value.int .i64 i))
 let z18 := Value.int .i64 (ns 6).i
 let z19 := Value.int .i64 (ns 7).i
 let z20 := some (Addr.mk g o none)
 let z21 := some (Addr.mk gu 0 none)
 let z22 := [Value.slice z20 n c, Value.int .i64 0, Value.slice z21 n n, Value.int .i64 (Ex.wrapQ .i64 (Ex.addQ (↑k : Int) 1))]
 let z23 := Sy.Cont.obj (Obj.cells (Array.mk [.int .i64 (ns 0).i, .int .u64 (ns 1).i, .int .i64 (ns 2).i, .int .i64 (ns 3).i]) 127)
 let z24 := leaf (Exit.normal, 64, z22, [Blk.mk (ns 4).n z23 true, Blk.mk g z1 false, Blk.mk gu z15 true])
 let z25 := (∃ (i : Int), Sy.Cont.at z8 z16 = some (Value.int .i64 i))
 let z26 := leaf (Exit.normal, 64, z22, [Blk.mk (ns 4).n z23 true, Blk.mk g z1 false, Blk.mk gu z8 true])
 br (Ex.ltQ (↑k : Int) (Int.ofNat n)) (need z0 (need (∃ (i : Int), Sy.Cont.at z1 z2 = some (Value.int .i64 i)) (hyp (Sy.Cont.at z1 z2 = some (Value.int .i64 (ns 0).i)) (need (∃ (i : Int), Sy.Cont.at z1 z3 = some (Value.int .u64 i)) (hyp (Sy.Cont.at z1 z3 = some (Value.int .u64 (ns 1).i)) (need (∃ (i : Int), Sy.Cont.at z1 z4 = some (Value.int .i64 i)) (hyp (Sy.Cont.at z1 z4 = some (Value.int .i64 (ns 2).i)) (need (∃ (i : Int), Sy.Cont.at z1 z5 = some (Value.int .i64 i)) (hyp (Sy.Cont.at z1 z5 = some (Value.int .i64 (ns 3).i)) (need z0 (need (0 + Int.toNat (↑k : Int) * 1 < List.length us) (br (Ex.leQ 3 (ns 0).i) (need (0 ≤ (ns 2).i ∧ (ns 2).i < (↑n : Int)) (need (∃ (i : Int), Sy.Cont.at z8 z9 = some (Value.int .i64 i)) (hyp (Sy.Cont.at z8 z9 = some z10) (need z0 (need z11 (br z12 (need z13 (need z17 (hyp (Sy.Cont.at z15 z16 = some z18) (need z0 (need (∃ (i : Int), Sy.Cont.at z15 z6 = some (Value.int .i64 i)) (hyp (Sy.Cont.at z15 z6 = some z19) (br (bif true then Ex.ltQ (ns 7).i (Ex.wrapQ .i64 (Ex.addQ (ns 6).i 1)) else false) (need z13 (need z17 (hyp (Sy.Cont.at z15 z16 = some (Value.int .i64 (ns 8).i)) (need z0 (need (0 + Int.toNat (↑k : Int) * 1 < List.length z14) (leaf (Exit.normal, 64, z22, [Blk.mk (ns 4).n z23 true, Blk.mk g z1 false, Blk.mk gu (Sy.Cont.row 3 1 n n (List.set z14 z6 (Value.int .i64 (Ex.wrapQ .i64 (Ex.addQ (ns 8).i 1))))) true]))))))) z24))))))) z24)))))) (br z12 (need z13 (need z25 (hyp (Sy.Cont.at z8 z16 = some z10) (need z0 (need (∃ (i : Int), Sy.Cont.at
 z8 z6 = some (Value.int .i64 i)) (hyp (Sy.Cont.at z8 z6 = some z18) (br (bif true then Ex.ltQ (ns 6).i (Ex.wrapQ .i64 (Ex.addQ (ns 5).i 1)) else false) (need z13 (need z25 (hyp (Sy.Cont.at z8 z16 = some z19) (need z0 (need z11 (leaf (Exit.normal, 64, z22, [Blk.mk (ns 4).n z23 true, Blk.mk g z1 false, Blk.mk gu (Sy.Cont.row 3 1 n n (List.set z7 z6 (Value.int .i64 (Ex.wrapQ .i64 (Ex.addQ (ns 7).i 1))))) true]))))))) z26))))))) z26))))))))))))) (leaf (Exit.exit 0, 64, [Value.slice z20 n c, Value.int .i64 0, Value.slice z21 n n, Value.int .i64 (↑k : Int)], [Blk.mk g z1 false, Blk.mk gu (Sy.Cont.row 3 1 n n us) true]))
theorem v1_run (g o c gu n k : Nat) (xs us : List Value) (rest : List Value) : Sy.Ran (Sy.pieceT Tryz.prog Sy.S0 50 fRN bodyV 64 (slV g o c gu n k) rest [⟨g, .seg o xs, false⟩, ⟨gu, .row tInt 1 n n us, true⟩] [0, 2, 3, 4]) v1_o (v1_R g o c gu n k xs us rest) := ⟨fun _ => by kernel_rfl, fun _ => by kernel_rfl⟩
theorem needV_length (l : List Nd) (k : Nat) : (needV l k).length = l.length := by simp [needV]
theorem needV_zero (l : List Nd) : needV l 0 = List.replicate l.length (.int .i64 0) := by
 apply List.ext_getElem
 ·simp [needV]
 ·intro i h1 h2
  simp [needV]
theorem needV_get {l : List Nd} {k a : Nat} (h : a < l.length) : (needV l k)[a]? = some (.int .i64 (if a < k then ((tr l a).needs : Int) else 0)) := by simp [needV, h]
theorem needV_at {l : List Nd} {k a : Nat} (hk : k ≤ l.length) (h : a < k) (v : Value) (e : TypeId) (s m c : Nat) : (Sy.Cont.row e s m c ((needV l k).set (0 + k * 1) v)).at (0 + a * 1) = some (.int .i64 (tr l a).needs) := by
 show ((needV l k).set (0 + k * 1) v)[0 + a * 1]? = _
 rw [Nat.zero_add, Nat.mul_one, Nat.zero_add, Nat.mul_one, List.getElem?_set, if_neg (by omega), needV_get (by omega), if_pos h]
theorem needV_self {l : List Nd} {k : Nat} (h : k < l.length) (v : Value) (e : TypeId) (s m c : Nat) : (Sy.Cont.row e s m c ((needV l k).set (0 + k * 1) v)).at (0 + k * 1) = some v := by
 show ((needV l k).set (0 + k * 1) v)[0 + k * 1]? = _
 rw [Nat.zero_add, Nat.mul_one, List.getElem?_set, if_pos rfl, needV_length, if_pos h]
theorem needV_set {l : List Nd} {k : Nat} (h : k < l.length) : (needV l k).set (0 + k * 1) (.int .i64 (tr l k).needs) = needV l (k + 1) := by
 rw [Nat.zero_add, Nat.mul_one]
 apply List.ext_getElem?
 intro j
 rw [List.getElem?_set]
 by_cases hj : j < l.length
 ·rw [needV_get hj, needV_length]
  split
  ·rename_i e
   subst e
   rw [needV_get hj, if_pos (by omega)]
  ·rename_i e
   rw [needV_get hj]
   by_cases hjk : j < k
   ·rw [if_pos hjk, if_pos (by omega)]
   ·rw [if_neg hjk, if_neg (by omega)]
 ·rw [List.getElem?_eq_none (by rw [needV_length]; omega), List.getElem?_eq_none (by rw [needV_length]; omega)]
  split
  ·omega
  ·rfl
theorem setN_length (l : List Nd) (k : Nat) (j : Nat) (v : Value) : ((needV l k).set j v).length = l.length := by rw [List.length_set, needV_length]
def loopV (g o c gu : Nat) (l : List Nd) : Sy.LoopC :=
 ⟨.loop bodyV, 64, slV g o c gu l.length 0, isExpr 24 l, ⟨[(g, .seg o (ndCells l))], [(gu, .row tInt 1 l.length l.length (List.replicate l.length (.int .i64 0)))], 0, []⟩,
  [(⟨fun _ => True, fun _ => [(gu, .row tInt 1 l.length l.length (needV l l.length))], fun _ => []⟩, .exit 0, fun _ => [(0, .slice (some ⟨g, o, none⟩) l.length c), (2, .int .i64 0), (3, .slice (some ⟨gu, 0, none⟩) l.length l.length)])]⟩
theorem loopV_met (g o c gu : Nat) (l : List Nd) : Sy.MeetsL Tryz.prog (loopV g o c gu l) := by
 refine Sy.loop_of (n := 50) (fn := fRN) Sy.S0_holds mixed (body := bodyV) rfl [0, 2, 3, 4] (fun k : Nat => slV g o c gu l.length k) (fun k => [⟨g, .seg o (ndCells l), false⟩, ⟨gu, .row tInt 1 l.length l.length (needV l k), true⟩])
  (fun k => k ≤ l.length) (fun k => l.length - k)
  0 (fun h => Nat.zero_le _) (fun p hp => hp) [0, 1] (by decide) (by rw [needV_zero]; rfl) (o := fun _ => v1_o) (R := fun k xs => v1_R g o c gu l.length k (ndCells l) (needV l k) xs) (fun k xs _ => v1_run g o c gu l.length k (ndCells l) (needV l k) xs) ?_
 rintro hE k rest hk ns
 have hok := hE.1
 have hm := hE.2.2.1
 simp only [v1_R, Sy.Res.holds, Int.ofNat_eq_natCast, Sy.b_and, Sy.b_or, Sy.b_not, Sy.b_f, Sy.b_and', Sy.b_or', Sy.q_lt, Sy.q_le, Sy.q_eq, Sy.b_tt, Sy.b_ft, not_true_eq_false, not_false_eq_true, List.set_set, Int.toNat_natCast, setN_length, needV_length]
 refine ⟨fun hlt => ?_, fun hge => ?_⟩
 ·have hlt : k < l.length := by omega
  have ea : l[k]? = some l[k] := List.getElem?_eq_getElem hlt
  obtain ⟨a0, a1, a2, a3⟩ := nd_at ea o
  rw [Int.toNat_natCast] at a0 a1 a2 a3
  simp only [a0, a1, a2, a3, some_int, some_bool, exists_eq', true_and]
  generalize l[k] = x at *
  refine ⟨by omega, fun h0 h1 h2 h3 => ⟨by omega, by omega, ?_⟩⟩
  simp only [← h0, ← h1, ← h2, ← h3]
  have hx := hok k x ea
  have inc := Sy.inc_q k (by omega)
  have fin : ∀ B v, v = ((tr l k).needs : Int) → Sy.leafL (loopV g o c gu l) [0, 2, 3, 4] (fun k : Nat => slV g o c gu l.length k) (fun k => [⟨g, .seg o (ndCells l), false⟩, ⟨gu, .row tInt 1 l.length l.length (needV l k), true⟩])
    (fun k => k ≤ l.length) (fun k => l.length - k) k (Exit.normal, 64, [.slice (some ⟨g, o, none⟩) l.length c, .int .i64 0, .slice (some ⟨gu, 0, none⟩) l.length l.length, .int .i64 (Ex.wrapQ IntKind.i64 (Ex.addQ (↑k : Int) 1))],
     [B, ⟨g, .seg o (ndCells l), false⟩, ⟨gu, .row tInt 1 l.length l.length ((needV l k).set (0 + k * 1) (.int .i64 v)), true⟩]) := fun B v hv => by
   rw [hv, needV_set hlt]
   exact Sy.leafL_next (k + 1) rfl (show k + 1 ≤ l.length by omega) (by show l.length - (k + 1) < l.length - k; omega) (by rw [inc]; rfl) [1, 2] (by decide) rfl
  refine ⟨fun c3 => ?_, fun c3 => ⟨fun c6 => absurd c6 (by omega), fun _ => fin _ _ ?_⟩⟩
  ·have ha := ok_a hx c3
   simp only [needV_at hk (show x.a.toNat < k by omega), needV_self hlt, some_int, some_bool, exists_eq', true_and]
   refine ⟨by omega, fun h5 => ⟨by omega, by omega, ?_⟩⟩
   rw [← h5]
   refine ⟨fun c6 => ?_, fun c6 => fin _ _ ?_⟩
   ·have hb := ok_b hx c6
    simp only [needV_at hk (show x.b.toNat < k by omega), some_int, some_bool, exists_eq', true_and]
    have hbs := tr_small hE (i := x.b.toNat) (by omega)
    have hbn := (tr l x.b.toNat).needs_le
    refine ⟨by omega, fun h6 => ⟨by omega, fun h7 => ?_⟩⟩
    have hq := Sy.inc_q (tr l x.b.toNat).needs (by omega)
    rw [← h6, ← h7, hq]
    refine ⟨fun hc => ⟨by omega, fun h8 => ⟨by omega, by omega, ?_⟩⟩, fun hc => fin _ _ ?_⟩
    ·rw [← h8, hq]
     refine fin _ _ ?_
     rw [tr_bin ea c6 (by omega) (by omega)]
     simp only [E.needs]
     omega
    ·rw [tr_bin ea c6 (by omega) (by omega)]
     simp only [E.needs]
     omega
   ·rw [tr_un ea c3 (by omega) (by omega)]; rfl
  ·by_cases h1 : x.op ≤ 1
   ·rw [tr_num ea h1]; rfl
   ·rw [tr_loc ea (by omega)]; rfl
 ·have hkl : k = l.length := by omega
  subst hkl
  exact Sy.leafL_end 0 rfl rfl (by simp) rfl [] rfl [0, 1, 2] rfl [1] (by decide) ⟨⟨rfl, rfl, .inl rfl⟩, trivial⟩ trivial
end Go.Proofs.YtlpcnaeknbmjdaaGreat.Lw
end
