/-
  Symbolic runs: they tell what comes; Symbolic runs: how they are used (and what follows it).
-/
import Derived.Test.YtlpcnaeknbmjdaaGreatQa
import Derived.Test.YtlpcnaeknbmjdaaGreatProg
import Derived.KernelRfl

noncomputable section
set_option linter.unusedVariables false
set_option linter.unusedSimpArgs false
namespace Go.Proofs.YtlpcnaeknbmjdaaGreat.Sy
open Go Go.RowKit
open Ev (one cell_of frozen_of calm)
variable {P : Program} {S : Ctx}
variable {w0 : World} {keep : Nat → Prop} {α : Type} {K : α → Prop}
def Post (w0 : World) (keep : Nat → Prop) (K : α → Prop) (c : Exit → F → List Blk → T α) : Exit → Act → World → Prop :=
 fun x a W => calm x = true ∧ ∃ g L, (c x g L).all K ∧ RelF g a ∧ Rep w0 keep L W
def SoundC (P : Program) (w0 : World) (keep : Nat → Prop) (K : α → Prop) (call : CallE α) : Prop := ∀ f args L c, (call f args L c).all K → ∀ W, Rep w0 keep L W → Calls P f args W fun en W' => ∃ v L', en = .returned v ∧ Rep w0 keep L' W' ∧ (c v L').all K
def SoundE (P : Program) (w0 : World) (keep : Nat → Prop) (K : α → Prop) (x : Code) (f : PieceE α) : Prop := ∀ g L c, (f g L c).all K → ∀ a W, RelF g a → Rep w0 keep L W → x.wp P (Post w0 keep K c) a W
theorem askN_all : ∀ (n : Nat) (k : List Let → T α), (askN n k).all K → ∀ ns : List Let, ns.length = n → (k ns).all K
 | 0, k, h, ns, hn => by
   obtain rfl := List.eq_nil_of_length_eq_zero hn
   exact h
 | n + 1, k, h, [], hn => by cases hn
 | n + 1, k, h, x :: r, hn => askN_all n _ (h x) r (by simpa using hn)
theorem eraseIdx_perm {α : Type} : ∀ (l : List α) (j : Nat) (a : α), l[j]? = some a → l.Perm (a :: l.eraseIdx j)
 | [], j, a, h => by cases h
 | x :: l, 0, a, h => by
   simp only [List.getElem?_cons_zero, Option.some.injEq] at h
   subst h
   exact List.Perm.refl _
 | x :: l, j + 1, a, h => by
   have := eraseIdx_perm l j a (by simpa using h)
   exact (this.cons x).trans (List.Perm.swap a x _)
theorem takeAll_sound {W : World} (ow : Bool) : ∀ (l : List (Nat × Cont)) (L : List Blk) (k : List Blk → List Blk → T α), (takeAll ow l L k).all K → There L W →
  ∃ L' U, (k L' U).all K ∧ (∀ p ∈ l, p.2.sat W.heap[p.1]?) ∧ U.map (·.nm) = l.map (·.1) ∧ (∀ b ∈ U, ow = true → b.own = true) ∧ L.Perm (U ++ L')
 | [], L, k, h, _ => ⟨L, [], h, fun _ hp => (by cases hp), rfl, fun _ hp => (by cases hp), List.Perm.refl _⟩
 | p :: r, L, k, h, ht => by
   simp only [takeAll] at h
   obtain ⟨b, j, hj, h1, h⟩ := pickT_spec h
   split at h
   ·rename_i how
    obtain ⟨h2, h⟩ := h
    have h := forceT_spec h
    have hsub : List.Sublist (L.eraseIdx j) L := List.eraseIdx_sublist _ _
    obtain ⟨L2, U, h3, h4, h6, h7, h8⟩ := takeAll_sound ow r (L.eraseIdx j) _ h (fun q hq => ht q (hsub.subset hq))
    refine ⟨L2, b :: U, h3, fun q hq => ?_, by simp [h6, h1], fun q hq how2 => ?_, ?_⟩
    ·rcases List.mem_cons.1 hq with rfl | hq
     ·rw [h1, tok_cont h2]
      have h0 := ht _ (List.mem_of_getElem? hj)
      cases ow with
      | true => exact Cont.sat_useView h0
      | false => exact Cont.sat_view h0
     ·exact h4 q hq
    ·rcases List.mem_cons.1 hq with rfl | hq
     ·rw [how2] at how; simpa using how
     ·exact h7 q hq how2
    ·exact (eraseIdx_perm L j b hj).trans (h8.cons b)
   ·exact h.elim
theorem rbT_spec {l : List (Nat × Cont)} {L : List Blk} {k : T α} (h : (rbT l L k).all K) : GotL L l ∧ k.all K := by
 unfold rbT at h
 rcases two_spec h with h | h
 ·split at h
  ·exact ⟨fun _ hp => (by cases hp), h⟩
  ·exact h.elim
 ·obtain ⟨d, h1, h⟩ := h
  exact ⟨fun p hp => by
   obtain ⟨q, hq, h2⟩ := h1 p hp
   exact ⟨q, List.mem_of_mem_drop hq, h2⟩, h⟩
theorem Rep.perm {L L' : List Blk} {W : World} (hp : L.Perm L') (h : Rep w0 keep L W) : Rep w0 keep L' W :=
 ⟨h.os, h.tape, h.output, h.size, h.old, fun p hm => h.blk p (hp.mem_iff.2 hm), (hp.pairwise_iff (fun h => Far.symm h)).1 h.far⟩
theorem mem_core {c : MemC} {L U rest : List Blk} {W : World} (hr : Rep w0 keep L W) (hperm : L.Perm (U ++ rest)) (hU : U.map (·.nm) = c.use.map (·.1)) (hUo : ∀ b ∈ U, b.own = true) (huse : ∀ p ∈ c.use, p.2.sat W.heap[p.1]?)
  (hrd : ∀ p ∈ c.rd, p.2.sat W.heap[p.1]? ∧ ∃ b ∈ rest, b.nm = p.1) (hgot : GotL rest c.rb) :
  c.pre W ∧ ∀ o : OutM, ∀ ns W', c.post o W W' ns → Rep w0 keep ((o.nw ns).map ownOf ++ (rest ++ (o.nb ns).map ownOf)) W' := by
 have hfar : (U ++ rest).Pairwise Far := (hperm.pairwise_iff (fun h => Far.symm h)).1 hr.far
 have hmem : ∀ q ∈ rest, q ∈ L := fun q hq => hperm.mem_iff.2 (Sy.mR _ hq)
 have hUe : ∀ b ∈ U, b ∈ L ∧ b.own = true := fun b hb => ⟨hperm.mem_iff.2 (Sy.mL _ hb), hUo b hb⟩
 rw [List.pairwise_append] at hfar
 obtain ⟨hfU, hfR, hfUR⟩ := hfar
 have hndU : (U.map (·.nm)).Nodup := by
  rw [List.nodup_iff_pairwise_ne, List.pairwise_map]
  exact hfU.imp_of_mem fun ha _ hab => hab (by rw [(hUe _ ha).2]; rfl)
 have hap : ∀ p ∈ c.rd, ∀ q ∈ c.use, p.1 ≠ q.1 := fun p hp q hq he => by
  obtain ⟨b1, hb1, e1⟩ := (hrd p hp).2
  have h2 : q.1 ∈ U.map (·.nm) := by rw [hU]; exact List.mem_map.2 ⟨q, hq, rfl⟩
  obtain ⟨b2, hb2, e2⟩ := List.mem_map.1 h2
  exact hfUR b2 hb2 b1 hb1 (by rw [(hUe _ hb2).2]; rfl) (by rw [e2, e1, he])
 have hrb : ∀ p ∈ c.rb, p.2.sat W.heap[p.1]? := fun p hp => by
  obtain ⟨q, hq, h1, h2⟩ := hgot p hp
  rw [← h1]
  exact h2 _ (hr.blk q (hmem q hq)).1
 have hapB : ∀ p ∈ c.rb, ∀ q ∈ c.use, p.1 ≠ q.1 := fun p hp q hq he => by
  obtain ⟨x, hx, h1, -⟩ := hgot p hp
  have h2 : q.1 ∈ U.map (·.nm) := by rw [hU]; exact List.mem_map.2 ⟨q, hq, rfl⟩
  obtain ⟨b2, hb2, e2⟩ := List.mem_map.1 h2
  exact hfUR b2 hb2 x hx (by rw [(hUe _ hb2).2]; rfl) (by rw [e2, h1, he])
 refine ⟨⟨fun p hp => (hrd p hp).1, huse, by rw [← hU]; exact hndU, hap, hrb, hapB⟩, ?_⟩
 rintro o ns W' ⟨hns, hhyp, o1, o2, o3, hsz, hkeep, hnw0, hnwd0, hnb, hnbd, hnab⟩
 obtain ⟨new, hnew⟩ : ∃ new, new = o.nw ns ++ o.nb ns := ⟨_, rfl⟩
 have hnw : ∀ p ∈ new, (W.heap.size ≤ p.1 ∨ ∃ q ∈ c.use, q.1 = p.1) ∧ p.2.sat W'.heap[p.1]? := fun p hp => by
  rw [hnew] at hp
  exact (List.mem_append.1 hp).elim (hnw0 p) (hnb p)
 have hnwd : (new.map (·.1)).Nodup := by
  rw [hnew, List.map_append, List.nodup_append]
  refine ⟨hnwd0, hnbd, fun a ha b hb => ?_⟩
  obtain ⟨x, hx, rfl⟩ := List.mem_map.1 ha
  obtain ⟨y, hy, rfl⟩ := List.mem_map.1 hb
  exact hnab x hx y hy
 have hp3 : (new.map ownOf ++ rest).Perm ((o.nw ns).map ownOf ++ (rest ++ (o.nb ns).map ownOf)) := by
  rw [hnew, List.map_append, List.append_assoc]
  exact List.Perm.append_left _ List.perm_append_comm
 have hnuse : ∀ p ∈ c.use, ∃ b ∈ U, b.nm = p.1 := fun p hp => by
  have : p.1 ∈ U.map (·.nm) := by rw [hU]; exact List.mem_map.2 ⟨p, hp, rfl⟩
  obtain ⟨b, hb, he⟩ := List.mem_map.1 this
  exact ⟨b, hb, he⟩
 have hrest : ∀ q ∈ rest, ∀ p ∈ c.use, p.1 ≠ q.nm := fun q hq p hp he => by
  obtain ⟨b, hb, hbe⟩ := hnuse p hp
  exact hfUR b hb q hq (by rw [(hUe _ hb).2]; rfl) (by rw [hbe, he])
 have hnk : ∀ p ∈ c.use, p.1 < w0.heap.size → ¬ keep p.1 := fun p hp hlt => by
  obtain ⟨b, hb, hbe⟩ := hnuse p hp
  rw [← hbe] at hlt ⊢
  exact (hr.blk b (hUe b hb).1).2 (hUe b hb).2 hlt
 refine Rep.perm hp3 ⟨o1.trans hr.os, o2.trans hr.tape, o3.trans hr.output, Nat.le_trans hr.size hsz, fun k hk hkp => ?_, fun p hp => ?_, ?_⟩
 ·rw [hkeep k (Nat.lt_of_lt_of_le hk hr.size) (fun p hp he => by subst he; exact hnk p hp hk hkp)]
  exact hr.old k hk hkp
 ·simp only [List.mem_append, List.mem_map] at hp
  rcases hp with ⟨q, hq, rfl⟩ | hp
  ·refine ⟨(hnw q hq).2, fun _ hlt => ?_⟩
   have hlt' : q.1 < w0.heap.size := hlt
   show ¬ keep q.1
   rcases (hnw q hq).1 with h1 | ⟨p, hp, he⟩
   ·have := hr.size
    omega
   ·rw [← he] at hlt' ⊢
    exact hnk p hp hlt'
  ·have hpe := hmem p hp
   obtain ⟨h1, h2⟩ := hr.blk p hpe
   exact ⟨by rw [hkeep p.nm (hr.lt hpe) (hrest p hp)]; exact h1, h2⟩
 ·have hlt : ∀ b ∈ L, b.nm < W.heap.size := fun b hb => hr.lt hb
  rw [List.pairwise_append]
  refine ⟨?_, hfR, fun a ha b hb _ he => ?_⟩
  ·rw [List.pairwise_map]
   rw [List.nodup_iff_pairwise_ne, List.pairwise_map] at hnwd
   exact hnwd.imp (S := fun a b => Far (ownOf a) (ownOf b)) fun h _ => h
  ·obtain ⟨q, hq, rfl⟩ := List.mem_map.1 ha
   have he' : q.1 = b.nm := he
   rcases (hnw q hq).1 with h1 | ⟨p, hp, hpe⟩
   ·have h2 := hlt b (hmem b hb)
    omega
   ·exact hrest b hb p hp (hpe.trans he')
theorem memBy_sound {β : Type} {c : MemC} {L : List Blk} {outs : List (OutM × β)} {k : β → List Let → List Blk → T α} (h : (memBy c L outs k).all K) {W : World} (hr : Rep w0 keep L W) :
  c.pre W ∧ ∀ o ∈ outs, ∀ ns W', c.post o.1 W W' ns → ∃ L', Rep w0 keep L' W' ∧ (k o.2 ns L').all K := by
 obtain ⟨L1, U1, h, hrd, hU1, -, hp1⟩ := takeAll_sound (W := W) _ _ _ _ h (fun p hp => (hr.blk p hp).1)
 obtain ⟨L2, U, h, huse, hU, hUo, hp2⟩ := takeAll_sound (W := W) _ _ _ _ h (fun p hp => (hr.blk p (hp1.mem_iff.2 (Sy.mR _ hp))).1)
 have hperm : L.Perm (U ++ (U1 ++ L2)) := by
  refine hp1.trans ((hp2.append_left U1).trans ?_)
  rw [← List.append_assoc, ← List.append_assoc]
  exact List.perm_append_comm.append_right _
 obtain ⟨hgot, h⟩ := rbT_spec h
 obtain ⟨hpre, hpost⟩ := mem_core hr hperm hU (fun b hb => hUo b hb rfl) huse (fun p hp => ⟨hrd p hp, by
  have h1 : p.1 ∈ U1.map (·.nm) := by rw [hU1]; exact List.mem_map.2 ⟨p, hp, rfl⟩
  obtain ⟨b1, hb1, e1⟩ := List.mem_map.1 h1
  exact ⟨b1, Sy.mL _ hb1, e1⟩⟩) hgot
 refine ⟨hpre, fun o ho ns W' hp => ⟨_, hpost o.1 ns W' hp, ?_⟩⟩
 rcases two_spec (askN_all _ _ (outsT_all h o ho) ns hp.len hp.hyp) with hK | hK
 ·split at hK
  ·rename_i hb
   have hK := forceT_spec hK
   rw [hb, List.map_nil, List.append_nil]
   exact hK
  ·exact hK.elim
 ·exact forceT_spec hK
theorem memU_sound {β : Type} {rd : List (Nat × Cont)} {m : Nat} {rb u1 ub : List (Nat × Cont)} {rest L : List Blk} {outs : List (OutM × β)} {k : β → List Let → List Blk → T α} (h : (memU rd m rb u1 ub rest L outs k).all K) {W : World} (hr : Rep w0 keep L W) :
  (⟨rd, u1 ++ ub, m, rb⟩ : MemC).pre W ∧ ∀ o ∈ outs, ∀ ns W', (⟨rd, u1 ++ ub, m, rb⟩ : MemC).post o.1 W W' ns → ∃ L', Rep w0 keep L' W' ∧ (k o.2 ns L').all K := by
 obtain ⟨L1, U1, h, hrd, hU1, -, hp1⟩ := takeAll_sound (W := W) _ _ _ _ h (fun p hp => (hr.blk p hp).1)
 obtain ⟨L2, U, h, huse, hU, hUo, hp2⟩ := takeAll_sound (W := W) _ _ _ _ h (fun p hp => (hr.blk p (hp1.mem_iff.2 (Sy.mR _ hp))).1)
 obtain ⟨d, hd, h⟩ := h
 obtain ⟨hgot, h⟩ := rbT_spec h
 have hL2 : L2.Perm (ub.map ownOf ++ (L2.take d ++ rest)) := by
  have h1 : L2.Perm (L2.take d ++ (ub.map ownOf ++ rest)) := by
   conv => lhs; rw [← List.take_append_drop d L2]
   exact hd.append_left _
  refine h1.trans ?_
  rw [← List.append_assoc, ← List.append_assoc]
  exact List.perm_append_comm.append_right _
 have hperm : L.Perm ((U ++ ub.map ownOf) ++ (U1 ++ (L2.take d ++ rest))) := by
  refine hp1.trans ((hp2.append_left U1).trans ?_)
  refine ((hL2.append_left U).append_left U1).trans ?_
  rw [← List.append_assoc U, ← List.append_assoc U1, ← List.append_assoc (U ++ ub.map ownOf)]
  exact List.perm_append_comm.append_right _
 obtain ⟨hpre, hpost⟩ := mem_core (c := ⟨rd, u1 ++ ub, m, rb⟩) hr hperm (by rw [List.map_append, List.map_append, hU, List.map_map]; rfl) (fun b hb => by
   rcases List.mem_append.1 hb with hb | hb
   ·exact hUo b hb rfl
   ·obtain ⟨q, -, rfl⟩ := List.mem_map.1 hb
    rfl) (fun p hp => by
   rcases List.mem_append.1 hp with hp | hp
   ·exact huse p hp
   ·exact (hr.blk (ownOf p) (hperm.mem_iff.2 (Sy.mL _ (Sy.mR _ (List.mem_map.2 ⟨p, hp, rfl⟩))))).1) (fun p hp => ⟨hrd p hp, by
  have h1 : p.1 ∈ U1.map (·.nm) := by rw [hU1]; exact List.mem_map.2 ⟨p, hp, rfl⟩
  obtain ⟨b1, hb1, e1⟩ := List.mem_map.1 h1
  exact ⟨b1, Sy.mL _ hb1, e1⟩⟩) hgot
 refine ⟨hpre, fun o ho ns W' hp => ⟨_, hpost o.1 ns W' hp, ?_⟩⟩
 exact forceT_spec (askN_all _ _ (outsT_all h o ho) ns hp.len hp.hyp)
theorem opaV_spec {a : F} {o : Oper} {k : Value → T α} (h : (opaV P a o k).all K) : ∃ v, (∀ W, (execOp a.eval o).run P W = .ok (.value v) W) ∧ (k v).all K := by
 unfold opaV at h
 split at h
 ·rename_i t x y ho
  split at h
  ·rename_i el hu
   split at h
   ·rename_i inf hi
    split at h
    ·rename_i kk i hy
     obtain ⟨⟨⟨n, c, hx⟩, h1, h2⟩, h⟩ := h
     refine ⟨_, fun W => ?_, h⟩
     have hl : lenS (a.eval x) = n := by rw [hx]; rfl
     rw [hl] at h2
     have hs : symQ P a.eval o = some (Ex.leQ 0 i && Ex.ltQ i (n : Int), 0 ≤ i ∧ i < (n : Int), .pointer (some ⟨ptrS (a.eval x), offS (a.eval x) + i.toNat * inf.size, none⟩)) := by
      unfold symQ
      rw [ho]
      simp only [hy]
      rw [hx]
      simp only [hu, hi]
      rfl
     exact symQ_run hs (.inr ⟨h1, h2⟩) W
    ·exact h.elim
   ·exact h.elim
  ·exact h.elim
 ·rename_i c ho
  split at h
  ·rename_i hc
   split at h
   ·rename_i x t ha ht
    split at h
    ·rename_i el hu
     obtain ⟨⟨p, n, cc, hx⟩, h⟩ := h
     refine ⟨_, fun W => ?_, h⟩
     have hl : lenOf P a.eval o = some (.int .i64 (Int.ofNat (lenS (a.eval x)))) := by
      unfold lenOf
      simp only [ho, hc, ha, ht]
      rw [hx]
      simp only [hu]
      rfl
     exact lenOf_run hl W
    ·exact h.elim
   ·exact h.elim
  ·exact h.elim
 ·exact h.elim
theorem evOp_sound (hS : S.holds P) {fn : FuncId} {call : CallE α} (hs : SoundC P w0 keep K call) {o : Oper} {a : F} {L : List Blk} {c : F → List Blk → T α} (h : (evOp P S fn call o a L c).all K)
  {b : Act} {W : World} (hf : RelF a b) (hr : Rep w0 keep L W) : ∃ x W1, (execOp b.eval o).run P W = .ok x W1 ∧
   ((∃ v L', x = .value v ∧ (c (a.put o.dst v) L').all K ∧ Rep w0 keep L' W1) ∨ (∃ L', x = .skip ∧ (c (a.put o.dst undef) L').all K ∧ Rep w0 keep L' W1) ∨
     ∃ f args, x = .enter f args ∧ Calls P f args W1 fun en W2 => ∃ v L', en = .returned v ∧ Rep w0 keep L' W2 ∧ (c (a.put o.dst v) L').all K) := by
 have byC : ∀ k : OpC, OpMeets P (execOp a.eval o) k → (opBy k o a L c).all K → ∃ x W1, (execOp b.eval o).run P W = .ok x W1 ∧
   ((∃ v L', x = .value v ∧ (c (a.put o.dst v) L').all K ∧ Rep w0 keep L' W1) ∨ (∃ L', x = .skip ∧ (c (a.put o.dst undef) L').all K ∧ Rep w0 keep L' W1) ∨
     ∃ f args, x = .enter f args ∧ Calls P f args W1 fun en W2 => ∃ v L', en = .returned v ∧ Rep w0 keep L' W2 ∧ (c (a.put o.dst v) L').all K) := fun k hm h => by
  rw [hf.eval] at hm
  obtain ⟨hpre, h⟩ := memBy_sound h hr
  obtain ⟨o1, ho1, ns, W1, hrun, hpost⟩ := hm W hpre
  obtain ⟨L1, hr1, h⟩ := h o1 ho1 ns W1 hpost
  refine ⟨_, _, hrun, ?_⟩
  cases hv : o1.2 ns with
  | some v =>
    rw [hv] at h
    exact .inl ⟨v, L1, rfl, h, hr1⟩
  | none =>
    rw [hv] at h
    exact .inr (.inl ⟨L1, rfl, h, hr1⟩)
 have gen : (genOp P call o a L c).all K → ∃ x W1, (execOp b.eval o).run P W = .ok x W1 ∧
   ((∃ v L', x = .value v ∧ (c (a.put o.dst v) L').all K ∧ Rep w0 keep L' W1) ∨ (∃ L', x = .skip ∧ (c (a.put o.dst undef) L').all K ∧ Rep w0 keep L' W1) ∨
     ∃ f args, x = .enter f args ∧ Calls P f args W1 fun en W2 => ∃ v L', en = .returned v ∧ Rep w0 keep L' W2 ∧ (c (a.put o.dst v) L').all K) := fun h => by
  unfold genOp at h
  rw [hf.eval] at h
  obtain ⟨x, L1, W1, hrun, hr1, h⟩ := lrun_sound P _ _ _ W _ h hr
  refine ⟨x, W1, hrun, ?_⟩
  unfold stepO at h
  cases x with
  | value v => exact .inl ⟨v, L1, rfl, h, hr1⟩
  | skip => exact .inr (.inl ⟨L1, rfl, h, hr1⟩)
  | enter f args =>
    exact .inr (.inr ⟨f, args, rfl, (hs _ _ _ _ h W1 hr1).mono fun en W2 ⟨v, L2, he, hR, h⟩ => ⟨v, L2, he, hR, h⟩⟩)
  | _ => exact h.elim
 have dop0 : (doOp0 P call o a L c).all K → ∃ x W1, (execOp b.eval o).run P W = .ok x W1 ∧
   ((∃ v L', x = .value v ∧ (c (a.put o.dst v) L').all K ∧ Rep w0 keep L' W1) ∨ (∃ L', x = .skip ∧ (c (a.put o.dst undef) L').all K ∧ Rep w0 keep L' W1) ∨
     ∃ f args, x = .enter f args ∧ Calls P f args W1 fun en W2 => ∃ v L', en = .returned v ∧ Rep w0 keep L' W2 ∧ (c (a.put o.dst v) L').all K) := fun h => by
  unfold doOp0 at h
  have hd := doing_spec (P := P) (ρ := b.eval) (fun g => rfl) o
  rw [hf.eval] at h
  split at h
  ·rename_i v hv
   rw [hv] at hd
   exact ⟨_, _, hd W, .inl ⟨v, L, rfl, h, hr⟩⟩
  ·rename_i bb p v hv
   rw [hv] at hd
   obtain ⟨h1, h⟩ := reqP_spec h
   exact ⟨_, _, hd h1 W, .inl ⟨v, L, rfl, h, hr⟩⟩
  ·rename_i t bb off hv
   rw [hv] at hd
   obtain ⟨v, hk, hrun⟩ := loadN_spec (fun p hp => (hr.blk p hp).1) h
   exact ⟨_, _, by rw [loadOf_run hd]; exact hrun W (fun p hp => (hr.blk p hp).1), .inl ⟨v, L, rfl, hk, hr⟩⟩
  ·rename_i bb off v hv
   rw [hv] at hd
   obtain ⟨p, j, hj, hb, h⟩ := pickT_spec h
   obtain ⟨hone, h⟩ := reqP_spec h
   have hone : one v = true := hone.elim id id
   obtain ⟨L1, u, hcell, hfz, hset, h⟩ := putT_sound h hj hb hr
   refine ⟨.skip, W.setCell ⟨bb, off, none⟩ v, ?_, .inr (.inl ⟨L1, rfl, h, hset⟩)⟩
   rw [storeOf_run hd]
   have : (Go.store ⟨bb, off, none⟩ v).run P W = .ok () (W.setCell ⟨bb, off, none⟩ v) := by
    cases v <;> first | (simp [one] at hone; done) | simp [Go.store, Sem.run, hcell, hfz]
   rw [this]
  ·rename_i n bb off C hv
   rw [hv] at hd
   obtain ⟨t, hd⟩ := hd
   rcases altT_spec h with h | h
   ·have hoff : off = 0 ∧ (pickT L bb fun p j => match p with
      | ⟨nm, .obj (.cells old ty (lo, hi)), true⟩ => match Nat.beq lo 0 && Nat.beq hi 0 with
        | true => reqP (Nat.beq old.size C.size && (Nat.beq n C.size && C.all (·.oneCell'))) (old.size = C.size ∧ n = C.size ∧ C.all (·.oneCell') = true) (setK L j ⟨nm, .obj (.cells C ty (0, 0)), true⟩ fun L' => c (a.put o.dst undef) L')
        | false => .fail
      | _ => .fail).all K := by
     cases hbo : Nat.beq off 0 with
     | false => rw [hbo] at h; exact h.elim
     | true => rw [hbo] at h; exact ⟨Nat.eq_of_beq_eq_true hbo, h⟩
    obtain ⟨hoff, h⟩ := hoff
    subst hoff
    obtain ⟨p, j, hj, hb, h⟩ := pickT_spec h
    split at h
    ·rename_i nm old ty lo hi
     split at h
     ·rename_i hz
      simp only [Bool.and_eq_true, Nat.beq_eq] at hz
      obtain ⟨rfl, rfl⟩ := hz
      obtain ⟨hreq, h⟩ := reqP_spec h
      have hreq : old.size = C.size ∧ n = C.size ∧ C.all (·.oneCell') = true := hreq.elim (fun h => by simpa only [Bool.and_eq_true, Nat.beq_eq] using h) id
      have hat : W.heap[nm]? = some (.cells old ty (0, 0)) := hr.at hj
      have hb : bb = nm := hb
      subst hb
      refine ⟨.skip, W.setRow bb C, wholeOf_run hd hreq.1 hreq.2.1 hreq.2.2 hat, .inr (.inl ⟨_, rfl, (setK_spec h).2, ?_⟩)⟩
      exact hr.set hj rfl _ rfl rfl rfl (by simp) (fun k hk => setRow_other W bb k C hk) (setRow_heap W bb old C ty (0, 0) hat)
     ·exact h.elim
    ·exact h.elim
   ·exact gen h
  ·rename_i t v x hv
   rw [hv] at hd
   rcases altT_spec h with h | h
   ·obtain ⟨k, hm, h⟩ := appT_spec (ty := o.type) h
    refine byC k (fun W hW => ?_) h
    rw [hf.eval, appOf_run hd]
    exact hm W hW
   ·exact gen h
  ·rename_i f args hv
   rw [hv] at hd
   exact ⟨_, _, hd W, .inr (.inr ⟨f, args, rfl, (hs _ _ _ _ h W hr).mono fun en W2 ⟨v, L2, he, hR, h⟩ => ⟨v, L2, he, hR, h⟩⟩)⟩
  ·rename_i e z bytes n lv cv hv
   rw [hv] at hd
   rcases altT_spec h with h | ⟨h1, h⟩
   ·exact gen h
   ·obtain ⟨hreq, h⟩ := reqP_spec h
    have hreq : 0 ≤ n ∧ n.toNat * bytes ≤ 281474976710656 ∧ n.toNat ≤ maxLen := hreq.elim (fun h => by simpa only [Bool.and_eq_true, Ex.leQ_eq, decide_eq_true_eq, Nat.ble_eq] using h) id
    obtain ⟨C, hC, hrun⟩ := makeOf_run hd (tok_val h1) hreq.1 hreq.2.1 hreq.2.2 W
    refine ⟨_, _, hrun, .inl ⟨_, _, rfl, h ⟨W.heap.size, 0, false, undef, []⟩, ?_⟩⟩
    have hsz : C.size = n.toNat := by rw [← Array.length_toList, hC]; simp
    have hp := hr.push (.cells C e (0, 0))
    refine ⟨hp.os, hp.tape, hp.output, hp.size, hp.old, fun p hpm => ?_, ?_⟩
    ·rcases List.mem_cons.1 hpm with rfl | hpm
     ·obtain ⟨h2, h3⟩ := hp.blk _ Sy.mH
      exact ⟨⟨C, h2, by simp, Nat.le_refl _, hreq.2.2, by simp [hsz], by simp [hC]⟩, h3⟩
     ·exact hp.blk p (Sy.mC _ hpm)
    ·have hf := hp.far
     rw [List.pairwise_cons] at hf ⊢
     exact ⟨fun q hq ho => hf.1 q hq ho, hf.2⟩
  ·rename_i s hv
   rw [hv] at hd
   obtain ⟨e, hd⟩ := hd
   rw [forceL_eq] at h
   exact byC _ (by rw [hf.eval]; exact bytesOf_met hd) h
  ·rename_i neg b1 o1 b2 o2 hv
   rw [hv] at hd
   obtain ⟨r, h, hrun⟩ := peqT_spec (P := P) h hr
   exact ⟨_, _, peqOf_run hd hrun, .inl ⟨_, L, rfl, h, hr⟩⟩
  ·rename_i bb off old new hv
   rw [hv] at hd
   obtain ⟨p, j, hj, hb, h⟩ := pickT_spec h
   split at h
   ·exact h.elim
   ·rename_i hpl
    split at h
    ·rename_i cur hcur
     obtain ⟨r, h, hrun⟩ := samePT_spec (P := P) h hr
     obtain ⟨cc, tt, hat⟩ := plainCt_spec hpl (hr.at hj)
     have hcell : W.cell? ⟨bb, off, none⟩ = some (.pointer cur) := cell_at (a := ⟨bb, off, none⟩) hb (hr.at hj) rfl hcur
     have hx := casOf_run (P := P) (W := W) (fun g => rfl) hd (by rw [hb]; exact hat) hcell hrun
     cases r with
     | true =>
       obtain ⟨L1, u, -, -, hset, h⟩ := putT_sound (h.1 rfl) hj hb hr
       exact ⟨_, _, hx, .inl ⟨_, L1, rfl, h, hset⟩⟩
     | false => exact ⟨_, _, hx, .inl ⟨_, L, rfl, h.2 rfl, hr⟩⟩
    ·exact h.elim
  ·exact gen h
 have dop : (doOp P call o a L c).all K → ∃ x W1, (execOp b.eval o).run P W = .ok x W1 ∧
   ((∃ v L', x = .value v ∧ (c (a.put o.dst v) L').all K ∧ Rep w0 keep L' W1) ∨ (∃ L', x = .skip ∧ (c (a.put o.dst undef) L').all K ∧ Rep w0 keep L' W1) ∨
     ∃ f args, x = .enter f args ∧ Calls P f args W1 fun en W2 => ∃ v L', en = .returned v ∧ Rep w0 keep L' W2 ∧ (c (a.put o.dst v) L').all K) := fun h => by
  unfold doOp at h
  split at h
  ·rcases two_spec h with h | h
   ·exact dop0 h
   ·obtain ⟨v, hrun, hk⟩ := opaV_spec h
    rw [hf.eval] at hrun
    exact ⟨_, _, hrun W, .inl ⟨v, L, rfl, hk, hr⟩⟩
  ·exact dop0 h
 unfold evOp at h
 split at h
 ·rename_i k ks hop
  obtain ⟨j, h⟩ := h
  dsimp only at h
  split at h
  ·rename_i k' hj
   obtain ⟨h1, h2, h⟩ := h
   rw [nth_eq] at hj
   have hm := hS.op fn (keyOf o) k' (by rw [hop]; exact List.mem_of_getElem? hj) a L h2
   rw [← tok_sem h1] at hm
   exact byC _ hm h
  ·exact dop h
 ·exact dop h
theorem evAt_sound (hS : S.holds P) {fn : FuncId} {call : CallE α} (hs : SoundC P w0 keep K call) {ops : Array Oper} {i : Nat} {a : F} {L : List Blk} {c : F → List Blk → T α} (h : (evAt P S fn call ops i a L c).all K)
  {b : Act} {W : World} (hf : RelF a b) (hr : Rep w0 keep L W) {Q : Exit → Act → World → Prop} {K' : Act → World → Prop} (hK : ∀ a' L' b' W', (c a' L').all K → RelF a' b' → Rep w0 keep L' W' → K' b' W') : wpOp P ops Q i K' b W := by
 unfold evAt at h
 rw [nth_eq, Array.getElem?_toList] at h
 unfold wpOp
 split at h
 ·rename_i h0
  simp only [h0]
  exact hK _ _ _ _ h hf hr
 ·rename_i o h0
  simp only [h0]
  obtain ⟨a', hf', h⟩ := guardT_spec hf h
  rcases h with ⟨hw, h⟩ | ⟨hw, h⟩
  ·rw [if_pos hw]
   left
   unfold Oper.wp
   obtain ⟨x, W1, hrun, hx⟩ := evOp_sound hS hs h hf' hr
   rw [hrun]
   rcases hx with ⟨v, L', rfl, hk, hr'⟩ | ⟨L', rfl, hk, hr'⟩ | ⟨f, args, rfl, hc⟩
   ·exact hK _ _ _ _ hk (hf'.put _ _) hr'
   ·exact hK _ _ _ _ hk (hf'.put _ _) hr'
   ·refine hc.mono fun en W2 ⟨v, L2, he, hR, h⟩ => ?_
    subst he
    exact hK _ _ _ _ h (hf'.put _ _) hR
  ·rw [hw]
   exact hK _ _ _ _ h (hf'.put _ _) hr
theorem heldV_of {a : F} {L0 : List Blk} {o : Oper} {k : Value → T α} (h : (heldV0 P a L0 o k).all K) : (heldV P a L0 o k).all K := by
 unfold heldV
 split
 ·exact ⟨0, h⟩
 ·exact h
theorem doOp_of {call : CallE α} {a : F} {L : List Blk} {o : Oper} {c : F → List Blk → T α} (h : (doOp0 P call o a L c).all K) : (doOp P call o a L c).all K := by
 unfold doOp
 split
 ·exact ⟨0, h⟩
 ·exact h
theorem heldV0_sound {a : F} {L0 : List Blk} {o : Oper} {k : Value → T α} {W0 : World} (h0 : There L0 W0) (h : (heldV0 P a L0 o k).all K) : ∃ v, (∀ W, There L0 W → (execOp a.eval o).run P W = .ok (.value v) W) ∧ (k v).all K := by
 unfold heldV0 at h
 have hd := doing_spec (P := P) (ρ := a.eval) (fun g => rfl) o
 split at h
 ·rename_i v hv
  rw [hv] at hd
  exact ⟨v, fun W _ => hd W, h⟩
 ·rename_i t bb off hv
  rw [hv] at hd
  obtain ⟨v, hk, hrun⟩ := loadN_spec h0 h
  exact ⟨v, fun W hS => by rw [loadOf_run hd]; exact hrun W hS, hk⟩
 ·rename_i bb p v hv
  rw [hv] at hd
  obtain ⟨h1, h⟩ := reqP_spec h
  exact ⟨_, fun W _ => hd h1 W, h⟩
 ·obtain ⟨x, hx, hrun⟩ := lread_sound P _ _ _ h
  cases x with
  | value v => exact ⟨v, hrun, hx⟩
  | _ => exact hx.elim
 ·exact h.elim
theorem heldV_sound {a : F} {L0 : List Blk} {o : Oper} {k : Value → T α} {W0 : World} (h0 : There L0 W0) (h : (heldV P a L0 o k).all K) : ∃ v, (∀ W, There L0 W → (execOp a.eval o).run P W = .ok (.value v) W) ∧ (k v).all K := by
 unfold heldV at h
 split at h
 ·rcases two_spec h with h | h
  ·exact heldV0_sound h0 h
  ·obtain ⟨v, h1, h2⟩ := opaV_spec h
   exact ⟨v, fun W _ => h1 W, h2⟩
 ·exact heldV0_sound h0 h
theorem valB_held {a : F} {L0 : List Blk} {o : Oper} {k : Value → T α} (h : ((valB P o : VB α).run a L0 k (heldV P a L0 o k)).all K) : (heldV P a L0 o k).all K := by
 rcases valB_spec h with h | h | h | h
 ·exact h
 ·obtain ⟨v, h1, h2⟩ := h
  refine heldV_of ?_
  unfold heldV0
  rw [h1]
  exact h2
 ·obtain ⟨t, b, off, h1, h2⟩ := h
  refine heldV_of ?_
  unfold heldV0
  rw [h1]
  exact h2
 ·obtain ⟨b, p, v, h1, h2⟩ := h
  refine heldV_of ?_
  unfold heldV0
  rw [h1]
  exact h2
theorem valB_do {call : CallE α} {a : F} {L : List Blk} {o : Oper} {c : F → List Blk → T α} (h : ((valB P o : VB α).run a L (fun v => c (a.put o.dst v) L) (doOp P call o a L c)).all K) : (doOp P call o a L c).all K := by
 rcases valB_spec h with h | h | h | h
 ·exact h
 ·obtain ⟨v, h1, h2⟩ := h
  refine doOp_of ?_
  unfold doOp0
  rw [h1]
  exact h2
 ·obtain ⟨t, b, off, h1, h2⟩ := h
  refine doOp_of ?_
  unfold doOp0
  rw [h1]
  exact h2
 ·obtain ⟨b, p, v, h1, h2⟩ := h
  refine doOp_of ?_
  unfold doOp0
  rw [h1]
  exact h2
theorem heldG_sound {ops : Array Oper} {L0 : List Blk} {g : Option G} {a : F} {o : Oper} {k : Option G → F → T α} {b : Act} {W0 : World} (h0 : There L0 W0) (hf : RelF a b) (hi : Inv g b) (h : (heldG P ops L0 g a o k).all K) :
  ∃ g' a' v, YieldsIf P ops (There L0) o v b ∧ RelF a' (b.put o.dst v) ∧ Inv g' (b.put o.dst v) ∧ (k g' a').all K := by
 unfold heldG at h
 have key := guardOf_key (ops := ops) (o := o) hf
 split at h
 ·rename_i hg
  rw [hg] at key
  simp only at key
  have plain : ∀ f : Value → T α, (heldV P a L0 o f).all K → ∃ v, YieldsIf P ops (There L0) o v b ∧ (f v).all K := fun f h => by
   obtain ⟨v, h1, h2⟩ := heldV_sound h0 h
   rw [hf.eval] at h1
   exact ⟨v, .inl ⟨key, fun W hS => h1 W hS⟩, h2⟩
  split at h
  ·obtain ⟨v, h1, h2⟩ := plain _ (valB_held h)
   exact ⟨_, _, v, h1, hf.put _ _, Inv.none _, h2⟩
  ·rename_i g
   split at h
   ·rename_i c x y ho
    split at h
    ·rename_i bb hc
     obtain ⟨h1, h⟩ := h
     have h1 : bb = g.b := by injection (tok_val h1)
     split at h
     ·rename_i v hv
      have hv := mergeV_spec hv
      rw [hf.eval] at hc
      refine ⟨_, _, v, .inl ⟨key, fun W _ => ?_⟩, hf.put _ _, Inv.none _, h⟩
      rw [pick_run ho hc W]
      have e : v = if bb = true then b.eval x else b.eval y := by
       rw [hv]
       cases hb : bb with
       | true =>
         simp only [if_true]
         cases hw : g.want with
         | true =>
           have := hi g rfl (by rw [← h1, hb, hw])
           simp only [this.eval]
         | false => simp only [hf.eval]
       | false =>
         simp only [Bool.false_eq_true, if_false]
         cases hw : g.want with
         | true => simp only [hf.eval]
         | false =>
           have := hi g rfl (by rw [← h1, hb, hw])
           simp only [this.eval]
      rw [← e]
     ·exact h.elim
    ·exact h.elim
   ·obtain ⟨v, h1, h2⟩ := plain _ h
    refine ⟨_, _, v, h1, hf.put _ _, fun x hx hb => ?_, h2⟩
    injection hx with hx
    subst hx
    exact (hi g rfl hb).put _ _
 ·rename_i hg
  rw [hg] at key
  exact ⟨_, _, undef, .inr ⟨key, rfl⟩, hf.put _ _, Inv.none _, h⟩
 ·rename_i t c want hg
  rw [hg] at key
  obtain ⟨k1, k2⟩ := key
  have sel : ∀ (v : Value) (a1 : F), (c = want → RelF a1 b) → (∀ W, There L0 W → (execOp a1.eval o).run P W = .ok (.value v) W) → YieldsIf P ops (There L0) o (selV (hit c want) v undef) b ∧ (c = want → selV (hit c want) v undef = v) := fun v a1 h1 h2 => by
   by_cases hcw : c = want
   ·have hh : hit c want = true := by subst hcw; cases c <;> rfl
    rw [hh]
    have h3 := h1 hcw
    refine ⟨.inl ⟨by rw [k1, hcw]; simp, fun W hS => ?_⟩, fun _ => rfl⟩
    rw [← h3.eval]
    exact h2 W hS
   ·have hh : hit c want = false := by cases c <;> cases want <;> simp_all [hit]
    rw [hh]
    exact ⟨.inr ⟨by rw [k1]; cases c <;> cases want <;> simp_all, rfl⟩, fun h => absurd h hcw⟩
  split at h
  ·obtain ⟨v, h1, h2⟩ := heldV_sound h0 h
   have ha : c = want → RelF (a.put (some t) (.bool want)) b := fun hcw => hf.same (by rw [k2, hcw])
   obtain ⟨s1, s2⟩ := sel v _ ha h1
   refine ⟨_, _, _, s1, hf.put _ _, fun x hx hb => ?_, h2⟩
   injection hx with hx
   subst hx
   rw [s2 hb]
   exact (ha hb).put _ _
  ·rename_i g
   obtain ⟨e1, e2, h⟩ := h
   have e1 : c = g.b := by injection (tok_val e1)
   have e2 : want = g.want := by injection (tok_val e2)
   obtain ⟨v, h1, h2⟩ := heldV_sound h0 h
   have ha : c = want → RelF g.a b := fun hcw => hi g rfl (by rw [← e1, ← e2, hcw])
   obtain ⟨s1, s2⟩ := sel v _ ha h1
   refine ⟨_, _, _, s1, hf.put _ _, fun x hx hb => ?_, h2⟩
   injection hx with hx
   subst hx
   have hcw : c = want := by rw [e1, e2]; exact hb
   rw [s2 hcw]
   exact (ha hcw).put _ _
theorem evAtG_sound (hS : S.holds P) {fn : FuncId} {call : CallE α} (hs : SoundC P w0 keep K call) {ops : Array Oper} {i : Nat} {g : Option G} {a : F} {L : List Blk} {c : Option G → F → List Blk → T α} (h : (evAtG P S fn call ops i g a L c).all K)
  {b : Act} {W : World} (hf : RelF a b) (hi : Inv g b) (hr : Rep w0 keep L W) {Q : Exit → Act → World → Prop} {K' : Act → World → Prop} (hK : ∀ g' a' L' b' W', (c g' a' L').all K → RelF a' b' → Inv g' b' → Rep w0 keep L' W' → K' b' W') : wpOp P ops Q i K' b W := by
 have plain : (evAt P S fn call ops i a L (c none)).all K → wpOp P ops Q i K' b W := fun h => evAt_sound hS hs h hf hr fun a' L' b' W' hk hf' hr' => hK none a' L' b' W' hk hf' (Inv.none _) hr'
 unfold evAtG at h
 split at h
 ·exact plain h
 ·rename_i o ho
  rw [nth_eq, Array.getElem?_toList] at ho
  have group : (heldG P ops L g a o fun g' a' => c g' a' L).all K → wpOp P ops Q i K' b W := fun h => by
   obtain ⟨g', a', v, h1, h2, h3, h4⟩ := heldG_sound (fun p hp => (hr.blk p hp).1) hf hi h
   exact h1.wpOp ho (fun p hp => (hr.blk p hp).1) (hK _ _ _ _ _ h4 h2 h3 hr)
  split at h
  ·split at h
   ·split at h
    ·exact (litT_spec h).elim plain group
    ·exact group h
   ·exact plain h
  ·split at h
   ·exact group h
   ·exact plain h
  ·exact plain h
theorem evOps_sound (hS : S.holds P) {fn : FuncId} {call : CallE α} (hs : SoundC P w0 keep K call) {ops : Array Oper} {Q : Exit → Act → World → Prop} {c : F → List Blk → T α} : ∀ (l : List Nat) {g : Option G} {a : F} {L : List Blk}, (evOps P S fn call ops c l g a L).all K →
  ∀ {b : Act} {W : World}, RelF a b → Inv g b → Rep w0 keep L W → (∀ a' L' b' W', (c a' L').all K → RelF a' b' → Rep w0 keep L' W' → Q .normal b' W') → wpOps P ops Q l b W
 | [], g, a, L, h, b, W, hf, _, hr, hQ => hQ _ _ _ _ h hf hr
 | i :: rest, g, a, L, h, b, W, hf, hi, hr, hQ => by
   rw [wpOps_cons]
   exact evAtG_sound hS hs (c := evOps P S fn call ops c rest) h hf hi hr (fun g' a' L' b' W' hk hf' hi' hr' => evOps_sound hS hs rest hk hf' hi' hr' hQ)
theorem backAll_sound : ∀ (L0 : List Blk) {L : List Blk} {k : List Blk → T α}, (backAll L0 L k).all K → ∃ l, (∀ b ∈ l, b ∈ L) ∧ (k l).all K
 | [], L, k, h => ⟨[], fun _ h => (by cases h), h⟩
 | p :: ps, L, k, h => by
   simp only [backAll] at h
   obtain ⟨b, j, hj, -, h⟩ := pickT_spec h
   obtain ⟨l, h1, h2⟩ := backAll_sound ps h
   refine ⟨b :: l, fun x hx => ?_, h2⟩
   rcases List.mem_cons.1 hx with rfl | hx
   ·exact List.mem_of_getElem? hj
   ·exact h1 x hx
theorem backTT_sound {L0 L1 : List Blk} {k : T α} (h : (backTT L0 L1 k).all K) : (∀ b ∈ L0, b ∈ L1) ∧ k.all K := by
 obtain ⟨d, d1, h1, h⟩ := h
 obtain ⟨l, h2, h3, h⟩ := backAll_sound _ h
 refine ⟨fun b hb => ?_, h⟩
 rw [← List.take_append_drop d L0] at hb
 rcases List.mem_append.1 hb with hb | hb
 ·rw [tok_blks h3] at hb
  exact h2 b hb
 ·rw [tok_blks h1] at hb
  exact List.mem_of_mem_drop hb
theorem heldT_sound {ops : Array Oper} {m : Nat} {g : Option G} {a : F} {L0 : List Blk} {b : Act} {W0 : World} (h0 : There L0 W0) (hrel : RelF a b) (hi : Inv g b) {i : Nat} {k : Option G → F → T α} (h : (heldT P ops m g a L0 i k).all K) :
  ∃ g' a' o v, ops[i]? = some o ∧ i ∈ readyM ops m ∧ Region.free .any ops (listedOf ops.size m) i = true ∧ YieldsIf P ops (There L0) o v b ∧ RelF a' (b.put o.dst v) ∧ Inv g' (b.put o.dst v) ∧ (k g' a').all K := by
 unfold heldT at h
 split at h
 ·exact h.elim
 rename_i hrd
 have hrd := isReady_spec hrd
 split at h
 ·exact h.elim
 rename_i hf
 split at h
 ·exact h.elim
 rename_i o ho
 have hf := freeM_spec ho hf
 have group : (heldG P ops L0 g a o k).all K → ∃ g' a' o v, ops[i]? = some o ∧ i ∈ readyM ops m ∧ Region.free .any ops (listedOf ops.size m) i = true ∧ YieldsIf P ops (There L0) o v b ∧ RelF a' (b.put o.dst v) ∧ Inv g' (b.put o.dst v) ∧ (k g' a').all K := fun h => by
  obtain ⟨g', a', v, h1, h2, h3, h4⟩ := heldG_sound h0 hrel hi h
  exact ⟨g', a', o, v, ho, hrd, hf, h1, h2, h3, h4⟩
 have fork : (guardT a ops o (fun a => heldV P a L0 o fun v => k none (a.put o.dst v)) (fun a => k none (a.put o.dst undef))).all K → ∃ g' a' o v, ops[i]? = some o ∧ i ∈ readyM ops m ∧ Region.free .any ops (listedOf ops.size m) i = true ∧ YieldsIf P ops (There L0) o v b ∧ RelF a' (b.put o.dst v) ∧ Inv g' (b.put o.dst v) ∧ (k g' a').all K := fun h => by
  obtain ⟨a', hrel', h⟩ := guardT_spec hrel h
  rcases h with ⟨hw, h⟩ | ⟨hw, h⟩
  ·obtain ⟨v, h1, h2⟩ := heldV_sound h0 h
   rw [hrel'.eval] at h1
   exact ⟨_, _, o, v, ho, hrd, hf, .inl ⟨hw, fun W hS => h1 W hS⟩, hrel'.put _ _, Inv.none _, h2⟩
  ·exact ⟨_, _, o, undef, ho, hrd, hf, .inr ⟨hw, rfl⟩, hrel'.put _ _, Inv.none _, h⟩
 split at h
 ·split at h
  ·split at h
   ·exact (litT_spec h).elim fork group
   ·exact group h
  ·exact fork h
 ·exact group h
theorem firstSimple_spec {P : Program} {ops : Array Oper} {m : Nat} {a : F} {b : Act} (hf : RelF a b) : ∀ (rs : List Nat) {i : Nat} {o : Oper} {s : Shape}, firstSimple P ops m a rs = some (i, o, s) →
  i ∈ readyM ops m ∧ ops[i]? = some o ∧ plainOp o = true ∧ FreeAt ops (listedOf ops.size m) i o ∧ ((Region.wanted o (yielded ops b.tmps) = false ∧ s = .act [] undef) ∨ (Region.wanted o (yielded ops b.tmps) = true ∧ shapeOf P (stoOp o) (execOp b.eval o) = some s))
 | [], _, _, _, h => by cases h
 | i :: rest, i', o', s', h => by
   have more : firstSimple P ops m a rest = some (i', o', s') → i' ∈ readyM ops m ∧ ops[i']? = some o' ∧ plainOp o' = true ∧ FreeAt ops (listedOf ops.size m) i' o' ∧ ((Region.wanted o' (yielded ops b.tmps) = false ∧ s' = .act [] undef) ∨ (Region.wanted o' (yielded ops b.tmps) = true ∧ shapeOf P (stoOp o') (execOp b.eval o') = some s')) := fun h => by
    exact firstSimple_spec hf rest h
   unfold firstSimple at h
   split at h
   ·cases h
   ·rename_i o ho
    split at h
    ·exact more h
    ·rename_i hfr
     simp only [Bool.and_eq_true] at hfr
     obtain ⟨hrd, hpl, hfr⟩ := hfr
     have hfr := freeM_spec ho hfr
     have hrd := isReady_spec hrd
     split at h
     ·rename_i hw
      injection h with h
      simp only [Prod.mk.injEq] at h
      obtain ⟨rfl, rfl, rfl⟩ := h
      exact ⟨hrd, ho, hpl, Region.free_spec ho hfr, .inl ⟨by rw [← hf.yielded]; exact hw, rfl⟩⟩
     ·rename_i hw
      split at h
      ·rename_i s hs
       injection h with h
       simp only [Prod.mk.injEq] at h
       obtain ⟨rfl, rfl, rfl⟩ := h
       exact ⟨hrd, ho, hpl, Region.free_spec ho hfr, .inr ⟨by rw [← hf.yielded]; exact hw, by rw [← hf.eval]; exact hs⟩⟩
      ·exact more h
def blkOf (p : Nat × Obj) : Blk := ⟨p.1, .obj p.2, true⟩
def look : List (Nat × Obj) → News
 | [], _ => none
 | (n, o) :: M, k => if k = n then some o else look M k
theorem look_none {M : List (Nat × Obj)} {k : Nat} : look M k = none ↔ k ∉ M.map (·.1) := by
 induction M with
 | nil => simp [look]
 | cons p M ih =>
   simp only [look, List.map_cons, List.mem_cons, not_or]
   split
   ·rename_i h; simp [h]
   ·rename_i h; rw [ih]; exact ⟨fun h1 => ⟨h, h1⟩, fun h1 => h1.2⟩
theorem look_at : ∀ {M : List (Nat × Obj)} {j n : Nat} {o : Obj}, (M.map (·.1)).Nodup → M[j]? = some (n, o) → look M n = some o
 | [], j, n, o, _, h => by cases h
 | p :: M, 0, n, o, _, h => by
   simp only [List.getElem?_cons_zero, Option.some.injEq] at h
   subst h
   simp [look]
 | p :: M, j + 1, n, o, hd, h => by
   rw [List.map_cons, List.nodup_cons] at hd
   have h' : M[j]? = some (n, o) := by simpa using h
   have hm : n ∈ M.map (·.1) := List.mem_map.2 ⟨(n, o), List.mem_of_getElem? h', rfl⟩
   have hne : n ≠ p.1 := fun he => hd.1 (he ▸ hm)
   simp only [look, if_neg hne]
   exact look_at hd.2 h'
theorem look_set : ∀ {M : List (Nat × Obj)} {j n : Nat} {o o' : Obj}, (M.map (·.1)).Nodup → M[j]? = some (n, o) → look (M.set j (n, o')) = putN (look M) n o'
 | [], j, n, o, o', _, h => by cases h
 | p :: M, 0, n, o, o', _, h => by
   simp only [List.getElem?_cons_zero, Option.some.injEq] at h
   subst h
   funext k
   simp only [List.set_cons_zero, look, putN]
   split <;> rfl
 | p :: M, j + 1, n, o, o', hd, h => by
   rw [List.map_cons, List.nodup_cons] at hd
   have h' : M[j]? = some (n, o) := by simpa using h
   have hm : n ∈ M.map (·.1) := List.mem_map.2 ⟨(n, o), List.mem_of_getElem? h', rfl⟩
   have hne : n ≠ p.1 := fun he => hd.1 (he ▸ hm)
   funext k
   simp only [List.set_cons_succ, look, putN]
   rw [look_set hd.2 h']
   simp only [putN]
   by_cases h1 : k = p.1
   ·simp [h1, Ne.symm hne]
   ·by_cases h2 : k = n <;> simp [h1, h2, hne]
theorem map_set_fst : ∀ {M : List (Nat × Obj)} {j n : Nat} {o o' : Obj}, M[j]? = some (n, o) → (M.set j (n, o')).map (·.1) = M.map (·.1)
 | [], j, n, o, o', h => by cases h
 | p :: M, 0, n, o, o', h => by
   simp only [List.getElem?_cons_zero, Option.some.injEq] at h
   subst h
   rfl
 | p :: M, j + 1, n, o, o', h => by
   simp only [List.set_cons_succ, List.map_cons]
   rw [map_set_fst (by simpa using h)]
theorem layN_sound {L0 : List Blk} : ∀ (l : List (Addr × Value)) {M : List (Nat × Obj)} {L : List Blk} {k : List Blk → T α}, (layN M.length l L k).all K → L = M.map blkOf ++ L0 → (M.map (·.1)).Nodup →
  ∃ M' L', stos (look M) l = some (look M') ∧ L' = M'.map blkOf ++ L0 ∧ M'.length = M.length ∧ (M'.map (·.1)).Nodup ∧ (k L').all K
 | [], M, L, k, h, hL, hd => ⟨M, L, rfl, hL, rfl, hd, h⟩
 | p :: r, M, L, k, h, hL, hd => by
   simp only [layN] at h
   obtain ⟨b, j, hj, hb, h⟩ := pickT_spec h
   split at h
   ·rename_i n c t lo hi ow
    split at h
    ·rename_i hlt hs ho
     split at h
     ·rename_i u hu hf
      have h := forceT_spec h
      have hb : p.1.block = n := hb
      have hjm : j < M.length := by simpa using hlt
      rw [hL, List.getElem?_append_left (by simpa using hjm), List.getElem?_map] at hj
      obtain ⟨q, hq, hqe⟩ := Option.map_eq_some_iff.1 hj
      obtain ⟨qn, qo⟩ := q
      simp only [blkOf, Blk.mk.injEq, Cont.obj.injEq] at hqe
      obtain ⟨rfl, rfl, -⟩ := hqe
      have hlook := look_at hd hq
      have h1 := sto1_of (N := look M) (p := p) (by rw [hb]; exact hlook) hs ho hu hf
      rw [hb, ← look_set hd hq] at h1
      have hset : (M.set j (qn, .cells (c.setIfInBounds p.1.off p.2) t (lo, hi))).length = M.length := by simp
      rw [← hset] at h
      obtain ⟨M', L', g1, g2, g3, g4, g5⟩ := layN_sound r (M := M.set j (qn, .cells (c.setIfInBounds p.1.off p.2) t (lo, hi))) h (by
       rw [hL, List.set_append_left _ _ (by simpa using hjm), List.map_set]
       rfl) (by rw [map_set_fst hq]; exact hd)
      refine ⟨M', L', ?_, g2, by rw [g3, hset], g4, g5⟩
      simp only [stos, h1]
      exact g1
     ·exact h.elim
    ·exact h.elim
   ·exact h.elim
theorem evRest_can {ops : Array Oper} {fin : RestE α} {Fin : Nat → Array Bool → Act → News → Prop} {L0 : List Blk} (hFin : ∀ k l a L b M, (fin k l a L).all K → RelF a b → L = M.map blkOf ++ L0 → (M.map (·.1)).Nodup → Fin k (listedOf ops.size l) b (look M)) : ∀ (n : Nat) {td : List Nat} {m : Nat} {a : F} {L : List Blk} {b : Act} {M : List (Nat × Obj)}, (evRest P ops fin n td M.length m a L).all K →
  RelF a b → L = M.map blkOf ++ L0 → (M.map (·.1)).Nodup → CanK P ops Fin n (listedOf ops.size m) b (look M)
 | 0, td, m, a, L, b, M, h, hf, hL, hd => by
   simp only [evRest] at h
   split at h
   ·rename_i hrd
    exact ⟨allPlain_spec hrd, hFin _ _ _ _ _ _ h hf hL hd⟩
   ·exact h.elim
 | n + 1, td, m, a, L, b, M, h, hf, hL, hd => by
   simp only [evRest] at h
   split at h
   ·rename_i hrd
    exact .inl ⟨allPlain_spec hrd, hFin _ _ _ _ _ _ h hf hL hd⟩
   ·split at h
    ·rename_i i o l v hs
     obtain ⟨h1, h2, hp, h3, h4⟩ := firstSimple_spec hf _ hs
     obtain ⟨M', L', g1, g2, g3, g4, g5⟩ := layN_sound l h hL hd
     rw [← g3] at g5
     refine .inr ⟨i, o, .act l v, h2, hp, by rw [readyM_eq]; exact h1, h3, ?_, look M', g1, by rw [listedOf_set]; exact evRest_can hFin n g5 (hf.put _ _) g2 g4⟩
     rcases h4 with ⟨hw, he⟩ | ⟨hw, he⟩
     ·injection he with he1 he2; exact .inr ⟨hw, he1, he2⟩
     ·obtain ⟨q1, nx, q2, q3⟩ := shapeOf_act he
      exact .inl ⟨hw, q1, nx, q2, q3⟩
    ·rename_i i o c k hs
     obtain ⟨h1, h2, hp, h3, h4⟩ := firstSimple_spec hf _ hs
     rcases h4 with ⟨hw, he⟩ | ⟨hw, he⟩
     ·cases he
     have hv : ∀ b, ∃ v, pureOf P (k b) = some v ∧ (evRest P ops fin n (dropOne i td) (M.length + 1) (m ||| 1 <<< i) (a.put o.dst v) (⟨b, .obj c, true⟩ :: L)).all K := fun b => by
      have hm := h ⟨b, 0, false, undef, []⟩
      dsimp only at hm
      split at hm
      ·rename_i v hp
       exact ⟨v, hp, hm⟩
      ·exact hm.elim
     refine .inr ⟨i, o, .new c (fun m => (pureOf P (k m)).getD undef), h2, hp, by rw [readyM_eq]; exact h1, h3, ⟨hw, k, shapeOf_new he, fun b => ?_⟩, fun b hm => ?_⟩
     ·obtain ⟨v, hp, -⟩ := hv b
      simp only [hp, Option.getD_some]
     ·obtain ⟨v, hp, hmm⟩ := hv b
      simp only [hp, Option.getD_some]
      rw [listedOf_set]
      have := evRest_can hFin n (M := (b, c) :: M) hmm (hf.put _ _) (by rw [hL]; rfl) (by rw [List.map_cons, List.nodup_cons]; exact ⟨look_none.1 hm, hd⟩)
      exact this
    ·exact h.elim
theorem Rep.grown {w1 W : World} {L L' : List Blk} {M : List (Nat × Obj)} (hr : Rep w0 keep L w1) (hg : Grown w1 (look M) W) (hd : (M.map (·.1)).Nodup) (hL : L' = M.map blkOf ++ L) : Rep w0 keep L' W := by
 have hlt : ∀ p ∈ L, p.nm < w1.heap.size := fun p hp => by
  obtain ⟨o, ho⟩ := Cont.some_of (hr.blk p hp).1
  exact (Array.getElem?_eq_some_iff.1 ho).1
 have hblk : ∀ q ∈ M, w1.heap.size ≤ q.1 ∧ W.heap[q.1]? = some q.2 := fun q hq => by
  obtain ⟨j, hj⟩ := List.mem_iff_getElem?.1 hq
  exact hg.blk _ _ (look_at hd hj)
 refine ⟨hg.os.trans hr.os, hg.tape.trans hr.tape, hg.output.trans hr.output, Nat.le_trans hr.size hg.size, fun k hk hkeep => (hg.old k (Nat.lt_of_lt_of_le hk hr.size)).trans (hr.old k hk hkeep), fun p hp => ?_, ?_⟩
 ·rw [hL] at hp
  rcases List.mem_append.1 hp with hp | hp
  ·obtain ⟨q, hq, rfl⟩ := List.mem_map.1 hp
   obtain ⟨h1, h2⟩ := hblk q hq
   refine ⟨h2, fun _ h3 => ?_⟩
   have := hr.size
   simp only [blkOf] at h3
   omega
  ·refine ⟨?_, (hr.blk p hp).2⟩
   rw [hg.old _ (hlt p hp)]
   exact (hr.blk p hp).1
 ·rw [hL, List.pairwise_append]
  refine ⟨?_, hr.far, fun p hp q hq => ?_⟩
  ·rw [List.pairwise_map]
   have := hd
   rw [List.Nodup, List.pairwise_map] at this
   refine this.imp fun {x y} hne => ?_
   exact fun _ => hne
  ·obtain ⟨p', hp', rfl⟩ := List.mem_map.1 hp
   have h1 := (hblk p' hp').1
   have h2 := hlt q hq
   exact fun _ => by simp only [blkOf]; omega
theorem waitM_spec {ops : Array Oper} {f i : Nat} (hi : i < ops.size) (h : (waitM ops f).testBit i = true) : ∃ of, ops[f]? = some of ∧ ∃ e ∈ of.after, Region.binds .any e = true ∧ e.on = i := by
 unfold waitM at h
 split at h
 ·rename_i of ho
  simp only [orAll_testBit] at h
  obtain ⟨e, he, hk⟩ := h
  split at hk
  ·rename_i hb
   injection hk with hk
   exact ⟨of, ho, e, by simpa using he, hb, hk⟩
  ·cases hk
 ·rw [testBit_one_shift, decide_eq_true_eq] at h
  omega
theorem waitM_of {ops : Array Oper} {f : Nat} {of : Oper} (ho : ops[f]? = some of) {e : Edge} (he : e ∈ of.after) (hb : Region.binds .any e = true) : (waitM ops f).testBit e.on = true := by
 unfold waitM
 rw [ho]
 simp only [orAll_testBit]
 exact ⟨e, by simpa using he, by rw [hb]⟩
theorem orWaits_spec {ops : Array Oper} {acc i : Nat} : ∀ {l : List Nat}, (orWaits ops acc l).testBit i = true → acc.testBit i = true ∨ ∃ j, acc.testBit j = true ∧ (waitM ops j).testBit i = true
 | [], h => .inl h
 | j :: r, h => by
   unfold orWaits at h
   rw [tb_eq] at h
   split at h
   ·rename_i hj
    change ((waitM ops j) ||| (orWaits ops acc r)).testBit i = true at h
    rw [Nat.testBit_or, Bool.or_eq_true] at h
    rcases h with h | h
    ·exact .inr ⟨j, hj, h⟩
    ·exact orWaits_spec h
   ·exact orWaits_spec h
theorem closM_spec {ops : Array Oper} {f : Nat} : ∀ (n : Nat) {acc : Nat}, (∀ i, i < ops.size → acc.testBit i = true → Waits ops i f) → ∀ i, i < ops.size → (closM ops n acc).testBit i = true → Waits ops i f
 | 0, _, h => h
 | n + 1, acc, h => by
   unfold closM
   split
   ·exact h
   ·refine closM_spec n fun i hlt hi => ?_
    rcases orWaits_spec hi with hi | ⟨j, hj, hi⟩
    ·exact h i hlt hi
    ·obtain ⟨oj, ho, e, he, hb, hon⟩ := waitM_spec hlt hi
     exact Waits.trans (.direct ho he hb hon) (h j (Array.getElem?_eq_some_iff.1 ho).1 hj)
theorem finM_spec {ops : Array Oper} {i : Nat} (hlt : i < ops.size) : ∀ {fs : List Nat}, (finM ops fs).testBit i = true → ∀ f ∈ fs, Waits ops i f
 | [], _ => fun _ h => by cases h
 | g :: r, h => by
   change ((closW ops g) &&& (finM ops r)).testBit i = true at h
   rw [Nat.testBit_and, Bool.and_eq_true] at h
   intro f hf
   rcases List.mem_cons.1 hf with rfl | hf
   ·refine closM_spec _ (fun i hlt hi => ?_) i hlt h.1
    obtain ⟨oj, ho, e, he, hb, hon⟩ := waitM_spec hlt hi
    exact .direct ho he hb hon
   ·exact finM_spec hlt h.2 f hf
theorem closed_zero (ops : Array Oper) : ClosedL ops (listedOf ops.size 0) := fun j oj hj hl => by
 rw [listedOf_getD] at hl
 split at hl <;> simp at hl
theorem closedM_spec {ops : Array Oper} {m : Nat} (h : closedM ops m = true) : ClosedL ops (listedOf ops.size m) := fun j oj hj hl e he hb => by
 rw [listedOf_getD] at hl ⊢
 split at hl
 ·rename_i hlt
  simp only [closedM, List.all_eq_true, List.mem_range, tb_eq] at h
  have h1 := h j hlt
  rw [hl] at h1
  simp only [Bool.not_true, Bool.false_or, Bool.and_eq_true] at h1
  have hw := waitM_of hj he hb
  have h2 := subM_spec.1 h1.2 _ hw
  have h3 : waitM ops j < 1 <<< ops.size := by
   have := h1.1
   rwa [Nat.blt_eq] at this
  rw [if_pos]
  ·exact h2
  ·refine Nat.lt_of_not_le fun hle => ?_
   rw [Nat.testBit_lt_two_pow (Nat.lt_of_lt_of_le h3 (by rw [Nat.one_shiftLeft]; exact Nat.pow_le_pow_right (by omega) hle))] at hw
   cases hw
 ·cases hl
def RestS (P : Program) (w0 : World) (keep : Nat → Prop) (K : α → Prop) (ops : Array Oper) (fs : List Nat) (L0 : List Blk) (c : F → List Blk → T α) (rest : RestE α) : Prop :=
 ∀ (n m : Nat) (a : F) (L : List Blk) (Q : Exit → Act → World → Prop), (∀ c a w, ¬ Q (.panic c) a w) → (rest n m a L).all K → ClosedL ops (listedOf ops.size m) → ∀ (b : Act) (W : World), RelF a b → Rep w0 keep L W → There L0 W →
  (∀ a' L' b' W', (c a' L').all K → RelF a' b' → Rep w0 keep L' W' → Q .normal b' W') → wpAnyX P ops Q (There L0) (fun j => j ∈ fs) n (listedOf ops.size m) b W
theorem evRest_sound {ops : Array Oper} {fs : List Nat} (hns : Region.noSelect ops = true) {L0 : List Blk} {c : F → List Blk → T α} {fin : RestE α} (hf0 : RestS P w0 keep K ops fs L0 c fin) (m : Nat) (hord : ordered ops (listedOf ops.size m) = true) (hch : chained ops (listedOf ops.size m) = true) (n : Nat) (td : List Nat) (a : F) (L : List Blk) (Q : Exit → Act → World → Prop) (hQ0 : ∀ c a w, ¬ Q (.panic c) a w) (h : (evRest P ops (fun n m a L => match closedM ops m with
  | true => fin n m a L
  | false => .fail) n td 0 m a L).all K) (b : Act) (W : World) (hf : RelF a b) (hr : Rep w0 keep L W) (hS : There L0 W)
  (hQ : ∀ a' L' b' W', (c a' L').all K → RelF a' b' → Rep w0 keep L' W' → Q .normal b' W') : wpAnyX P ops Q (There L0) (fun j => j ∈ fs) n (listedOf ops.size m) b W := by
 have hthere : ∀ N W', Grown W N W' → There L0 W' := fun N W' hg p hp => by
  have h1 := hS p hp
  obtain ⟨o, ho⟩ := Cont.some_of h1
  rw [hg.old _ (Array.getElem?_eq_some_iff.1 ho).1]
  exact h1
 refine canK_any hns (w1 := W) (N := look []) hthere n (ordered_spec hord) (chained_spec hch) (evRest_can (L0 := L) (M := []) (fun k l a' L' b' M hk hf' hL hd W' hg => ?_) n h hf rfl List.nodup_nil) ⟨rfl, rfl, rfl, Nat.le_refl _, fun _ _ => rfl, fun _ _ hp => (by cases hp)⟩
 split at hk
 ·rename_i hcm
  exact hf0 k l a' L' Q hQ0 hk (closedM_spec hcm) b' W' hf' (hr.grown hg hd hL) (hthere _ W' hg) hQ
 ·exact hk.elim
theorem evFin_sound (hSS : S.holds P) {fn : FuncId} {call : CallE α} (hs : SoundC P w0 keep K call) {ops : Array Oper} {fs : List Nat} {L0 : List Blk} {c : F → List Blk → T α} :
  ∀ (n : Nat) (m : Nat) (a : F) (L : List Blk) (Q : Exit → Act → World → Prop), (evFin P S fn call ops fs c n m a L).all K →
  ∀ (b : Act) (W : World), RelF a b → Rep w0 keep L W → (∀ a' L' b' W', (c a' L').all K → RelF a' b' → Rep w0 keep L' W' → Q .normal b' W') → wpAnyX P ops Q (There L0) (fun j => j ∈ fs) n (listedOf ops.size m) b W
 | 0, m, a, L, Q, h, b, W, hf, hr, hQ => by
   simp only [evFin] at h
   split at h
   ·rename_i hrd
    exact wpAnyX_done (by rw [readyM_eq]; exact hrd) (hQ _ _ _ _ h hf hr) 0
   ·exact h.elim
 | n + 1, m, a, L, Q, h, b, W, hf, hr, hQ => by
   simp only [evFin] at h
   split at h
   ·rename_i hrd
    exact wpAnyX_done (by rw [readyM_eq]; exact hrd) (hQ _ _ _ _ h hf hr) (n + 1)
   ·rename_i i r hrd
    refine wpAnyX_all (rs := i :: r) (by rw [readyM_eq]; exact hrd) (by simp) fun k hk => ?_
    have h := outsT_all h k hk
    split at h
    ·rename_i hkf
     refine evAt_sound hSS hs h hf hr (fun a' L' b' W' hk hf' hr' => ?_)
     exact ⟨.inl (by simpa using hkf), by rw [listedOf_set]; exact evFin_sound hSS hs n _ _ _ Q hk _ _ hf' hr' hQ⟩
    ·exact h.elim
theorem rep_hide {L : List Blk} {W : World} {H : Nat → Prop} (hr : Rep w0 keep L W) (hown : ∀ p ∈ L, p.own = true → ¬ H p.nm) : Rep W (fun k => (k < w0.heap.size ∧ keep k) ∨ H k) L W :=
 ⟨rfl, rfl, rfl, Nat.le_refl _, fun _ _ _ => rfl, fun p hp => ⟨(hr.blk p hp).1, fun ho _ hk => hk.elim (fun h => (hr.blk p hp).2 ho h.1 h.2) (hown p hp ho)⟩, hr.far⟩
theorem rep_show {L L' : List Blk} {W W' : World} {H : Nat → Prop} (hr : Rep w0 keep L W) (hH : ∀ k, H k → k < W.heap.size) (h : Rep W (fun k => (k < w0.heap.size ∧ keep k) ∨ H k) L' W') :
  Rep w0 keep L' W' ∧ (∀ k, H k → W'.heap[k]? = W.heap[k]?) ∧ (∀ p ∈ L', p.own = true → ¬ H p.nm) ∧ W.heap.size ≤ W'.heap.size := by
 refine ⟨⟨h.os.trans hr.os, h.tape.trans hr.tape, h.output.trans hr.output, Nat.le_trans hr.size h.size, fun k hk hkp => (h.old k (Nat.lt_of_lt_of_le hk hr.size) (.inl ⟨hk, hkp⟩)).trans (hr.old k hk hkp), fun p hp => ⟨(h.blk p hp).1, fun ho hlt hkp => (h.blk p hp).2 ho (Nat.lt_of_lt_of_le hlt hr.size) (.inl ⟨hlt, hkp⟩)⟩, h.far⟩, fun k hk => h.old k (hH k hk) (.inr hk), fun p hp ho hk => (h.blk p hp).2 ho (hH _ hk) (.inr hk), h.size⟩
theorem RelF.over {f : F} {a : Act} {d : Nat} {v u : Value} (h : RelF (f.put (some d) v) a) : RelF (f.put (some d) u) (a.put (some d) u) := by
 have h2 := h.put (some d) u
 obtain ⟨n, w⟩ := f
 have e : ∀ w : List (Nat × Value), F.put ⟨n, w⟩ (some d) u = match Nat.blt d n with
   | true => ⟨n, (d, u) :: w⟩
   | false => ⟨n, w⟩ := fun _ => rfl
 have e2 : F.put ⟨n, w⟩ (some d) v = match Nat.blt d n with
   | true => ⟨n, (d, v) :: w⟩
   | false => ⟨n, w⟩ := rfl
 rw [e2] at h2
 rw [e w]
 split at h2
 ·rename_i hb
  have e3 : F.put ⟨n, (d, v) :: w⟩ (some d) u = ⟨n, (d, u) :: (d, v) :: w⟩ := by rw [e, hb]
  rw [e3] at h2
  refine ⟨h2.defers, h2.size, fun t => ?_⟩
  rw [h2.get t]
  show getW ((d, u) :: (d, v) :: w) t = getW ((d, u) :: w) t
  rw [getW_cons, getW_cons, getW_cons]
  split <;> rfl
 ·rename_i hb
  have e3 : F.put ⟨n, w⟩ (some d) u = ⟨n, w⟩ := by rw [e, hb]
  rw [e3] at h2
  exact h2
theorem oldT_spec {Ls : List Blk} {k : T α} : ∀ {L : List Blk}, (oldT Ls L k).all K → (∀ p ∈ L, p.own = false → ∃ q ∈ Ls, q.nm = p.nm) ∧ k.all K
 | [], h => ⟨fun _ h => (by cases h), h⟩
 | p :: r, h => by
   unfold oldT at h
   split at h
   ·rename_i ho
    obtain ⟨h1, h2⟩ := oldT_spec h
    refine ⟨fun q hq hno => ?_, h2⟩
    rcases List.mem_cons.1 hq with rfl | hq
    ·rw [ho] at hno; cases hno
    ·exact h1 q hq hno
   ·obtain ⟨b, j, hj, hb, h⟩ := pickT_spec h
    obtain ⟨h1, h2⟩ := oldT_spec h
    refine ⟨fun q hq hno => ?_, h2⟩
    rcases List.mem_cons.1 hq with rfl | hq
    ·exact ⟨b, List.mem_of_getElem? hj, hb.symm⟩
    ·exact h1 q hq hno
theorem oldTT_spec {Ls L : List Blk} {k : T α} (h : (oldTT Ls L k).all K) : (∀ p ∈ L, p.own = false → ∃ q ∈ Ls, q.nm = p.nm) ∧ k.all K := by
 rcases two_spec h with h | h
 ·exact oldT_spec h
 ·obtain ⟨d, d1, h1, h⟩ := h
  obtain ⟨h2, h⟩ := oldT_spec h
  refine ⟨fun p hp hno => ?_, h⟩
  rw [← List.take_append_drop d L] at hp
  rcases List.mem_append.1 hp with hp | hp
  ·exact h2 p hp hno
  ·rw [tok_blks h1] at hp
   exact ⟨p, List.mem_of_mem_drop hp, rfl⟩
theorem eqN_spec : ∀ {l r : List Nat}, eqN l r = true → l = r
 | [], [], _ => rfl
 | [], _ :: _, h => by cases h
 | _ :: _, [], h => by cases h
 | a :: l, b :: r, h => by
   unfold eqN at h
   split at h
   ·rename_i hb
    rw [Nat.eq_of_beq_eq_true hb, eqN_spec h]
   ·cases h
theorem mem_dropOne {i k : Nat} (hne : k ≠ i) : ∀ {l : List Nat}, k ∈ l → k ∈ dropOne i l
 | [], h => by cases h
 | j :: r, h => by
   unfold dropOne
   split
   ·rename_i hb
    have hb := Nat.eq_of_beq_eq_true hb
    rcases List.mem_cons.1 h with rfl | h
    ·exact absurd hb.symm hne
    ·exact h
   ·rcases List.mem_cons.1 h with rfl | h
    ·exact Sy.mH
    ·exact Sy.mC _ (mem_dropOne hne h)
theorem dropOne_sub {i k : Nat} : ∀ {l : List Nat}, k ∈ dropOne i l → k ∈ l
 | [], h => by cases h
 | j :: r, h => by
   unfold dropOne at h
   split at h
   ·exact Sy.mC _ h
   ·rcases List.mem_cons.1 h with rfl | h
    ·exact Sy.mH
    ·exact Sy.mC _ (dropOne_sub h)
def allocS (t : TypeId) : Sem Next := (((((Sem.program fun p => Sem.pure p).bind fun p => match p.info? t with
 | some i => (Sem.pure i : Sem TypeInfo)
 | none => stuck "no such type").bind fun i => match i.zero with
 | some v => (Sem.pure v : Sem Value)
 | none => unsupported (.resourceLimit "a value of more than 2^22 cells")).bind fun z => (((Sem.new (.cells z.cells t) fun r => Sem.pure r).bind fun r => Sem.pure (⟨r, 0, none⟩ : Addr)).bind fun ad => Sem.pure (Value.pointer (some ad)))).bind fun v => Sem.pure (Next.value v))
theorem alloc_wp {ops : Array Oper} {i d t : Nat} {z : Array Value} (h : allocOf P ops i = some (d, t, z)) {b : Act} {W : World} {Q : Exit → Act → World → Prop} {K' : Act → World → Prop}
  (hK : K' (b.put (some d) (.pointer (some ⟨W.heap.size, 0, none⟩))) { W with heap := W.heap.push (.cells z t (0, 0)) }) : wpOp P ops Q i K' b W := by
 unfold allocOf at h
 split at h
 ·rename_i o ho
  split at h
  ·rename_i d' t' hg hd hop
   split at h
   ·rename_i inf hi
    split at h
    ·rename_i zz hz
     injection h with h
     simp only [Prod.mk.injEq] at h
     obtain ⟨rfl, rfl, rfl⟩ := h
     have hw : Region.wanted o (yielded ops b.tmps) = true := by unfold Region.wanted; simp only [hg]
     have ex : execOp b.eval o = allocS t' := by
      unfold execOp
      rw [hop]
      rfl
     have hrun : (execOp b.eval o).run P W = .ok (.value (.pointer (some ⟨W.heap.size, 0, none⟩))) { W with heap := W.heap.push (.cells zz.cells t' (0, 0)) } := by
      rw [ex]
      show ((((match P.info? t' with
       | some i => (Sem.pure i : Sem TypeInfo)
       | none => stuck "no such type").bind fun i => match i.zero with
       | some v => (Sem.pure v : Sem Value)
       | none => unsupported (.resourceLimit "a value of more than 2^22 cells")).bind fun z => (((Sem.new (.cells z.cells t') fun r => Sem.pure r).bind fun r => Sem.pure (⟨r, 0, none⟩ : Addr)).bind fun ad => Sem.pure (Value.pointer (some ad)))).bind fun v => Sem.pure (Next.value v)).run P W = _
      rw [hi]
      show (((match inf.zero with
       | some v => (Sem.pure v : Sem Value)
       | none => unsupported (.resourceLimit "a value of more than 2^22 cells")).bind fun z => (((Sem.new (.cells z.cells t') fun r => Sem.pure r).bind fun r => Sem.pure (⟨r, 0, none⟩ : Addr)).bind fun ad => Sem.pure (Value.pointer (some ad)))).bind fun v => Sem.pure (Next.value v)).run P W = _
      rw [hz]
      rfl
     unfold wpOp
     simp only [ho, hw, if_true]
     left
     unfold Oper.wp
     rw [hrun]
     show K' (b.put o.dst _) _
     rw [hd]
     exact hK
    ·cases h
   ·cases h
  ·cases h
 ·cases h
structure Fl (w0 : World) (keep : Nat → Prop) (x : Obj) (d : Nat) (Ls L0 : List Blk) (st : Option Nat) (a : F) (L : List Blk) (b : Act) (W : World) : Prop where
 rel : ∃ v, RelF (a.put (some d) v) b ∧ ∀ nb, st = some nb → v = .pointer (some ⟨nb, 0, none⟩)
 rep : Rep w0 keep L W
 there : There L0 W
 old : ∀ q ∈ Ls, q.nm < W.heap.size ∧ st ≠ some q.nm
 hid : ∀ nb, st = some nb → W.heap[nb]? = some x ∧ w0.heap.size ≤ nb
 own : ∀ p ∈ L, p.own = true → st ≠ some p.nm
section fl
variable {x : Obj} {d : Nat} {Ls L0 : List Blk} {a : F} {L : List Blk} {b : Act} {W : World}
theorem Fl.hide {st : Option Nat} (h : Fl w0 keep x d Ls L0 st a L b W) : Rep W (fun k => (k < w0.heap.size ∧ keep k) ∨ st = some k) L W := rep_hide (H := fun k => st = some k) h.rep h.own
theorem Fl.show {st : Option Nat} (h : Fl w0 keep x d Ls L0 st a L b W) {a' : F} {L' : List Blk} {b' : Act} {W' : World} (hr : Rep W (fun k => (k < w0.heap.size ∧ keep k) ∨ st = some k) L' W') {v : Value} (hf : RelF a' b') (hv : a'.get d = v) (hp : ∀ nb, st = some nb → v = .pointer (some ⟨nb, 0, none⟩)) (ht : There L0 W') : Fl w0 keep x d Ls L0 st a' L' b' W' := by
 have hH : ∀ k, st = some k → k < W.heap.size := fun k hk => (Array.getElem?_eq_some_iff.1 (h.hid k hk).1).1
 obtain ⟨g1, g2, g3, g4⟩ := rep_show (H := fun k => st = some k) h.rep hH hr
 exact ⟨⟨v, hf.same hv, hp⟩, g1, ht, fun q hq => ⟨Nat.lt_of_lt_of_le (h.old q hq).1 g4, (h.old q hq).2⟩, fun nb hnb => ⟨(g2 nb hnb).trans (h.hid nb hnb).1, (h.hid nb hnb).2⟩, g3⟩
theorem Fl.still {st : Option Nat} (h : Fl w0 keep x d Ls L0 st a L b W) {a' : F} {b' : Act} {v : Value} (hf : RelF a' b') (hv : a'.get d = v) (hp : ∀ nb, st = some nb → v = .pointer (some ⟨nb, 0, none⟩)) : Fl w0 keep x d Ls L0 st a' L b' W :=
 ⟨⟨v, hf.same hv, hp⟩, h.rep, h.there, h.old, h.hid, h.own⟩
theorem Fl.done (h : Fl w0 keep x d Ls L0 none a L b W) : Fl w0 keep x d Ls L0 (some W.heap.size) a L (b.put (some d) (.pointer (some ⟨W.heap.size, 0, none⟩))) { W with heap := W.heap.push x } := by
 obtain ⟨v, hv, -⟩ := h.rel
 have hp := h.rep.push x
 have hp' : Rep w0 keep L { W with heap := W.heap.push x } := hp.sub (List.sublist_cons_self _ _)
 refine ⟨⟨_, hv.over, fun nb hnb => by injection hnb with hnb; rw [hnb]⟩, hp', fun p hpm => ?_, fun q hq => ?_, fun nb hnb => ?_, fun p hpm _ he => ?_⟩
 ·have h1 := h.there p hpm
  obtain ⟨o, ho⟩ := Cont.some_of h1
  have hlt := (Array.getElem?_eq_some_iff.1 ho).1
  show p.ct.sat (W.heap.push x)[p.nm]?
  rw [Array.getElem?_push, if_neg (by omega)]
  exact h1
 ·have := (h.old q hq).1
  refine ⟨?_, fun he => ?_⟩
  ·show q.nm < (W.heap.push x).size
   rw [Array.size_push]
   omega
  ·injection he with he
   omega
 ·injection hnb with hnb
  subst hnb
  refine ⟨?_, h.rep.size⟩
  show (W.heap.push x)[W.heap.size]? = some x
  rw [Array.getElem?_push, if_pos rfl]
 ·injection he with he
  have := h.rep.lt hpm
  omega
theorem Fl.told {nb : Nat} (h : Fl w0 keep x d Ls L0 (some nb) a L b W) (hold : ∀ p ∈ L, p.own = false → ∃ q ∈ Ls, q.nm = p.nm) : RelF (a.put (some d) (.pointer (some ⟨nb, 0, none⟩))) b ∧ Rep w0 keep (⟨nb, .obj x, true⟩ :: L) W := by
 obtain ⟨v, hv, hp⟩ := h.rel
 rw [hp nb rfl] at hv
 obtain ⟨h1, h2⟩ := h.hid nb rfl
 refine ⟨hv, h.rep.os, h.rep.tape, h.rep.output, h.rep.size, h.rep.old, fun p hpm => ?_, ?_⟩
 ·rcases List.mem_cons.1 hpm with rfl | hpm
  ·refine ⟨h1, fun _ hlt => ?_⟩
   simp only at hlt
   omega
  ·exact h.rep.blk p hpm
 ·rw [List.pairwise_cons]
  refine ⟨fun q hq _ he => ?_, h.rep.far⟩
  have he : nb = q.nm := he
  cases ho : q.own with
  | true => exact h.own q hq ho (by rw [he])
  | false =>
    obtain ⟨p, hp1, hp2⟩ := hold q hq ho
    exact (h.old p hp1).2 (by rw [hp2, he])
end fl
theorem or_swap (m i j : Nat) : m ||| 1 <<< i ||| 1 <<< j = m ||| 1 <<< j ||| 1 <<< i := by
 refine Nat.eq_of_testBit_eq fun k => ?_
 simp only [Nat.testBit_or]
 cases m.testBit k <;> cases (1 <<< i).testBit k <;> cases (1 <<< j).testBit k <;> rfl
theorem evFl_sound (hSS : S.holds P) {fn : FuncId} {call : CallE α} (hs : ∀ w0 keep, SoundC P w0 keep K call) {ops : Array Oper} (hns : Region.noSelect ops = true) {fs : List Nat} {fw : Nat} (hfw : ∀ j, j < ops.size → fw.testBit j = true → ∀ f ∈ fs, Waits ops j f) {L0 : List Blk} {bk : List Blk → List Blk} (hbk : ∀ L p, p ∈ bk L → p ∈ L)
  {c : F → List Blk → T α} {i d t : Nat} {z : Array Value} (hal : allocOf P ops i = some (d, t, z)) {Ls : List Blk} {fin : RestE α} (hfin : RestS P w0 keep K ops fs L0 c fin) :
  ∀ (n : Nat) (m : Nat) (a : F) (L : List Blk) (Q : Exit → Act → World → Prop), (∀ c a w, ¬ Q (.panic c) a w) → (evFl P S fn call ops fw L0 bk i d (.cells z t (0, 0)) Ls fin n m a L).all K → ClosedL ops (listedOf ops.size m) → i ∈ readyM ops m →
  (∀ a' L' b' W', (c a' L').all K → RelF a' b' → Rep w0 keep L' W' → Q .normal b' W') →
   (∀ nb b W, Fl w0 keep (.cells z t (0, 0)) d Ls L0 (some nb) a L b W → wpAnyX P ops Q (There L0) (fun j => j ∈ fs) (n - 1) (listedOf ops.size (m ||| 1 <<< i)) b W) ∧
   (∀ b W, Fl w0 keep (.cells z t (0, 0)) d Ls L0 none a L b W → wpAnyX P ops Q (There L0) (fun j => j ∈ fs) n (listedOf ops.size m) b W)
 | 0, m, a, L, Q, hQ0, h, _, _, _ => h.elim
 | n + 1, m, a, L, Q, hQ0, h, hcl, hir, hQ => by
   simp only [evFl, tb_eq] at h
   obtain ⟨j, h⟩ := h
   dsimp only at h
   have hil : ClosedL ops (listedOf ops.size (m ||| 1 <<< i)) := by rw [← listedOf_set]; exact hcl.set (by rw [readyM_eq]; exact hir)
   have next : ∀ {k : Nat}, k ∈ readyM ops m → k ≠ i → ClosedL ops (listedOf ops.size (m ||| 1 <<< k)) ∧ i ∈ readyM ops (m ||| 1 <<< k) := fun {k} hk hne => by
    refine ⟨by rw [← listedOf_set]; exact hcl.set (by rw [readyM_eq]; exact hk), ?_⟩
    rw [← readyM_eq, ← listedOf_set]
    exact ready_mono (by rw [readyM_eq]; exact hir) (Ne.symm hne)
   split at h
   ·
    split at h
    ·exact h.elim
    ·rename_i hji
     simp only [Bool.or_eq_false_iff] at hji
     obtain ⟨hji, hn0⟩ := hji
     have hji : j ≠ i := fun he => by rw [he, Nat.beq_refl] at hji; cases hji
     obtain ⟨n', rfl⟩ : ∃ n', n = n' + 1 := by
      cases n with
      | zero => simp at hn0
      | succ n' => exact ⟨n', rfl⟩
     have both : ∀ (st : Option Nat) (b : Act) (W : World), Fl w0 keep (.cells z t (0, 0)) d Ls L0 st a L b W → ∃ o v, ops[j]? = some o ∧ j ∈ readyM ops m ∧ Region.free .any ops (listedOf ops.size m) j = true ∧ (YieldsIf P ops (There []) o v b ∨ (YieldsIf P ops (There L0) o v b ∧ ∀ f of, f ∈ fs → ops[f]? = some of → Waits ops j f)) ∧ ∃ a', Fl w0 keep (.cells z t (0, 0)) d Ls L0 st a' L (b.put o.dst v) W ∧ (evFl P S fn call ops fw L0 bk i d (.cells z t (0, 0)) Ls fin (n' + 1) (m ||| 1 <<< j) a' L).all K := fun st b W hF => by
      obtain ⟨v, hv, hp⟩ := hF.rel
      have h := h ⟨0, 0, false, v, []⟩
      dsimp only at h
      split at h
      ·obtain ⟨g', a', o, v', ho, hmem, hfr, hy, hf', hi', he, h⟩ := heldT_sound (W0 := W) (fun _ hp => (by cases hp)) hv (Inv.none b) h
       exact ⟨o, v', ho, hmem, hfr, .inl hy, a', hF.still hf' (tok_val he) hp, h⟩
      ·rename_i hfb
       obtain ⟨g', a', o, v', ho, hmem, hfr, hy, hf', hi', he, h⟩ := heldT_sound hF.there hv (Inv.none b) h
       exact ⟨o, v', ho, hmem, hfr, .inr ⟨hy, fun f of hf hof => hfw _ (Array.getElem?_eq_some_iff.1 ho).1 hfb f hf⟩, a', hF.still hf' (tok_val he) hp, h⟩
     constructor
     ·intro nb b W hF
      obtain ⟨o, v, ho, hmem, hfr, hy, a', hF', h⟩ := both _ b W hF
      have ih := (evFl_sound hSS hs hns hfw hbk hal hfin (n' + 1) (m ||| 1 <<< j) a' L Q hQ0 h (next hmem hji).1 (next hmem hji).2 hQ).1 nb _ _ hF'
      have hfr' := Region.free_spec ho hfr
      have hr' : j ∈ Region.ready .any ops (listedOf ops.size (m ||| 1 <<< i)) := by
       rw [← listedOf_set]
       exact ready_mono (by rw [readyM_eq]; exact hmem) hji
      have hfr2 : ∀ k ok, ops[k]? = some ok → k ≠ j → (listedOf ops.size (m ||| 1 <<< i)).getD k true = false → (∀ e ∈ ok.after, Region.binds .any e = true → e.on ≠ j) → o.apart ops ok = true := fun k ok hk hkj hun hno => by
       rw [← listedOf_set] at hun
       exact hfr' k ok hk hkj (getD_set_of hun) hno
      rcases hy with hy | ⟨hy, hw⟩
      ·refine wpAnyX_firstP ho (Region.noSelect_spec hns) (fun c b w hq => (hQ0 c _ w hq).elim) n' _ _ _ hfr2 hr' (hy.imp (fun h => ⟨h.1, fun W _ => h.2 W fun _ hp => (by cases hp)⟩) id) ?_
       rw [listedOf_set, or_swap]
       exact ih
      ·refine wpAnyX_first ho (Region.noSelect_spec hns) (fun c b w hq => (hQ0 c _ w hq).elim) hw n' _ _ _ hil hfr2 hr' hy hF.there ?_
       rw [listedOf_set, or_swap]
       exact ih
     ·intro b W hF
      obtain ⟨o, v, ho, hmem, hfr, hy, a', hF', h⟩ := both _ b W hF
      have ih := (evFl_sound hSS hs hns hfw hbk hal hfin (n' + 1) (m ||| 1 <<< j) a' L Q hQ0 h (next hmem hji).1 (next hmem hji).2 hQ).2 _ _ hF'
      rw [← listedOf_set] at ih
      rcases hy with hy | ⟨hy, hw⟩
      ·exact wpAnyX_takeP ho hns hfr (by rw [readyM_eq]; simpa using hmem) (fun c b w hq => (hQ0 c _ w hq).elim) (hy.imp (fun h => ⟨h.1, fun W _ => h.2 W fun _ hp => (by cases hp)⟩) id) ih
      ·exact wpAnyX_take ho hns hfr (by rw [readyM_eq]; simpa using hmem) (fun c b w hq => (hQ0 c _ w hq).elim) hw hcl hy hF.there ih
   ·split at h
    ·
     split at h
     ·rename_i k hrd
      split at h
      ·rename_i hki
       have hki := Nat.eq_of_beq_eq_true hki
       subst hki
       obtain ⟨hold, h⟩ := oldTT_spec h
       have B : ∀ nb b W, Fl w0 keep (.cells z t (0, 0)) d Ls L0 (some nb) a L b W → wpAnyX P ops Q (There L0) (fun j => j ∈ fs) n (listedOf ops.size (m ||| 1 <<< k)) b W := fun nb b W hF => by
        obtain ⟨g1, g2⟩ := hF.told hold
        exact hfin n _ _ _ Q hQ0 (h ⟨nb, 0, false, undef, []⟩) hil b W g1 g2 hF.there hQ
       refine ⟨B, fun b W hF => wpAnyX_all (rs := [k]) (by rw [readyM_eq]; exact hrd) (by simp) fun k' hk' => ?_⟩
       rcases List.mem_singleton.1 hk' with rfl
       have hD := hF.done
       refine alloc_wp hal ⟨.inr fun _ => hD.there, ?_⟩
       rw [listedOf_set]
       exact B _ _ _ hD
      ·exact h.elim
     ·exact h.elim
    ·
     split at h
     ·exact h.elim
     ·rename_i hc
      simp only [Bool.or_eq_false_iff, Bool.not_eq_false'] at hc
      obtain ⟨hn0, heq⟩ := hc
      have heq := eqN_spec heq
      obtain ⟨n', rfl⟩ : ∃ n', n = n' + 1 := by
       cases n with
       | zero => simp at hn0
       | succ n' => exact ⟨n', rfl⟩
      have step : ∀ (st : Option Nat) (k : Nat) (b : Act) (W : World), k ∈ dropOne i (readyM ops m) → Fl w0 keep (.cells z t (0, 0)) d Ls L0 st a L b W → wpOp P ops Q k (fun b' W' => There L0 W' ∧ ∃ a' L', Fl w0 keep (.cells z t (0, 0)) d Ls L0 st a' L' b' W' ∧ (evFl P S fn call ops fw L0 bk i d (.cells z t (0, 0)) Ls fin (n' + 1) (m ||| 1 <<< k) a' L').all K) b W := fun st k b W hk hF => by
       obtain ⟨v, hv, hp⟩ := hF.rel
       have h := outsT_all h k hk ⟨0, 0, false, v, []⟩
       refine evAt_sound hSS (hs W _) h hv hF.hide (fun a' L' b' W' hk hf' hr' => ?_)
       obtain ⟨he, hk⟩ := hk
       rw [forceL_eq] at hk
       rcases two_spec hk with hk | hk
       ·obtain ⟨h1, h2⟩ := hk
        have h1 : There L0 W' := by
         rw [tok_blks h1]
         exact fun p hp => (hr'.blk p (hbk _ p hp)).1
        exact ⟨h1, a', L', hF.show hr' hf' (tok_val he) hp h1, h2⟩
       ·have hk : (∀ b ∈ L0, b ∈ L') ∧ (evFl P S fn call ops fw L0 bk i d (.cells z t (0, 0)) Ls fin (n' + 1) (m ||| 1 <<< k) a' L').all K := by
         rcases two_spec hk with hk | hk
         ·obtain ⟨l, hm, h1, h2⟩ := backAll_sound _ hk
          exact ⟨fun b hb => by rw [tok_blks h1] at hb; exact hm b hb, h2⟩
         ·exact backTT_sound hk
        obtain ⟨hm, h2⟩ := hk
        have h1 : There L0 W' := fun p hp => (hr'.blk p (hm p hp)).1
        exact ⟨h1, a', L', hF.show hr' hf' (tok_val he) hp h1, h2⟩
      have B : ∀ nb b W, Fl w0 keep (.cells z t (0, 0)) d Ls L0 (some nb) a L b W → wpAnyX P ops Q (There L0) (fun j => j ∈ fs) (n' + 1) (listedOf ops.size (m ||| 1 <<< i)) b W := fun nb b W hF => by
       by_cases hne : dropOne i (readyM ops m) = []
       ·rw [hne] at h
        exact h.elim
       refine wpAnyX_all (rs := dropOne i (readyM ops m)) (by rw [readyM_eq]; exact heq) hne fun k hk => ?_
       have hk2 : k ∈ Region.ready .any ops (listedOf ops.size (m ||| 1 <<< i)) := by rw [readyM_eq, heq]; exact hk
       have hki : k ≠ i := fun he => by
        have h1 := (mem_ready.1 hk2).1
        rw [he, ← listedOf_set] at h1
        have hlt : i < (listedOf ops.size m).size := by
         have := getD_of_ready (by rw [readyM_eq]; exact hir : i ∈ Region.ready .any ops (listedOf ops.size m))
         rcases Nat.lt_or_ge i (listedOf ops.size m).size with h' | h'
         ·exact h'
         ·rw [Array.getD_eq_getD_getElem?, Array.getElem?_eq_none h'] at this; cases this
        simp [hlt] at h1
       refine wpOp_mono (fun b' W' ⟨h1, a', L', hF', h2⟩ => ⟨.inr fun _ => h1, ?_⟩) (step _ k b W hk hF)
       have hkm := dropOne_sub hk
       rw [listedOf_set, or_swap]
       exact (evFl_sound hSS hs hns hfw hbk hal hfin (n' + 1) (m ||| 1 <<< k) a' L' Q hQ0 h2 (next hkm hki).1 (next hkm hki).2 hQ).1 nb b' W' hF'
      refine ⟨B, fun b W hF => ?_⟩
      refine wpAnyX_all (rs := readyM ops m) (readyM_eq _ _) (fun he => by rw [he] at hir; cases hir) fun k hk => ?_
      by_cases hki : k = i
      ·subst hki
       have hD := hF.done
       refine alloc_wp hal ⟨.inr fun _ => hD.there, ?_⟩
       rw [listedOf_set]
       exact B _ _ _ hD
      ·refine wpOp_mono (fun b' W' ⟨h1, a', L', hF', h2⟩ => ⟨.inr fun _ => h1, ?_⟩) (step _ k b W (mem_dropOne hki hk) hF)
       rw [listedOf_set]
       exact (evFl_sound hSS hs hns hfw hbk hal hfin (n' + 1) (m ||| 1 <<< k) a' L' Q hQ0 h2 (next hk hki).1 (next hk hki).2 hQ).2 b' W' hF'
theorem evFloat_sound (hSS : S.holds P) {fn : FuncId} {call : CallE α} (hs : ∀ w0 keep, SoundC P w0 keep K call) {ops : Array Oper} (hns : Region.noSelect ops = true) {fs : List Nat} {fw : Nat} (hfw : ∀ j, j < ops.size → fw.testBit j = true → ∀ f ∈ fs, Waits ops j f) {L0 : List Blk} {bk : List Blk → List Blk} (hbk : ∀ L p, p ∈ bk L → p ∈ L)
  {c : F → List Blk → T α} {fin : RestE α} (hfin : RestS P w0 keep K ops fs L0 c fin) : RestS P w0 keep K ops fs L0 c (evFloat P S fn call ops fw L0 bk fin) := by
 intro n m a L Q hQ0 h hcl b W hf hr hS hQ
 unfold evFloat at h
 split at h
 ·exact h.elim
 rename_i i _
 split at h
 ·exact h.elim
 rename_i hrd
 split at h
 ·exact h.elim
 rename_i d t z hal
 exact (evFl_sound hSS hs hns hfw hbk hal hfin n m a L Q hQ0 h hcl (isReady_spec hrd) hQ).2 b W ⟨⟨a.get d, hf.same rfl, fun _ h => (by cases h)⟩, hr, hS, fun q hq => ⟨hr.lt hq, fun h => (by cases h)⟩, fun _ h => (by cases h), fun _ _ _ h => (by cases h)⟩
theorem evAny_sound (hSS : S.holds P) {fn : FuncId} {call : CallE α} (hs : SoundC P w0 keep K call) {ops : Array Oper} (hns : Region.noSelect ops = true) {fs : List Nat} {fw : Nat} (hfw : ∀ j, j < ops.size → fw.testBit j = true → ∀ f ∈ fs, Waits ops j f) {L0 : List Blk} {bk : List Blk → List Blk} (hbk : ∀ L p, p ∈ bk L → p ∈ L) {can : Nat → Bool} {rest flt : RestE α} {c : F → List Blk → T α} (hflt : RestS P w0 keep K ops fs L0 c flt)
  (hrest : ∀ (m : Nat), can m = true → ∀ (n : Nat) (a : F) (L : List Blk) (Q : Exit → Act → World → Prop), (∀ c a w, ¬ Q (.panic c) a w) → (rest n m a L).all K → ClosedL ops (listedOf ops.size m) → ∀ (b : Act) (W : World), RelF a b → Rep w0 keep L W → There L0 W →
   (∀ a' L' b' W', (c a' L').all K → RelF a' b' → Rep w0 keep L' W' → Q .normal b' W') → wpAnyX P ops Q (There L0) (fun j => j ∈ fs) n (listedOf ops.size m) b W) :
  ∀ (n : Nat) (m : Nat) (g : Option G) (a : F) (L : List Blk) (Q : Exit → Act → World → Prop), (∀ c a w, ¬ Q (.panic c) a w) → (evAny P S fn call ops fs fw L0 bk can rest flt c n m g a L).all K → ClosedL ops (listedOf ops.size m) →
  ∀ (b : Act) (W : World), RelF a b → Inv g b → Rep w0 keep L W → There L0 W → (∀ a' L' b' W', (c a' L').all K → RelF a' b' → Rep w0 keep L' W' → Q .normal b' W') → wpAnyX P ops Q (There L0) (fun j => j ∈ fs) n (listedOf ops.size m) b W
 | 0, m, g, a, L, Q, hQ0, h, _, b, W, hf, _, hr, hS, hQ => by
   simp only [evAny] at h
   split at h
   ·rename_i hrd
    exact wpAnyX_done (by rw [readyM_eq]; exact hrd) (hQ _ _ _ _ h hf hr) 0
   ·exact h.elim
 | n + 1, m, g, a, L, Q, hQ0, h, hcl, b, W, hf, hi, hr, hS, hQ => by
   simp only [evAny, tb_eq] at h
   obtain ⟨j, h⟩ := h
   dsimp only at h
   split at h
   ·split at h
    ·obtain ⟨g', a', o, v, ho, hmem, hfr, hy, hf', hi', h⟩ := heldT_sound (W0 := W) (fun _ hp => (by cases hp)) hf hi h
     exact wpAnyX_takeP ho hns hfr (by rw [readyM_eq]; simpa using hmem) (fun c b w hq => (hQ0 c _ w hq).elim) (hy.imp (fun h => ⟨h.1, fun W _ => h.2 W fun _ hp => (by cases hp)⟩) id) (by rw [listedOf_set]; exact evAny_sound hSS hs hns hfw hbk hflt hrest n _ _ _ _ Q hQ0 h (by rw [← listedOf_set]; exact hcl.set (by rw [readyM_eq]; exact hmem)) _ _ hf' hi' hr hS hQ)
    rename_i hfb
    obtain ⟨g', a', o, v, ho, hmem, hfr, hy, hf', hi', h⟩ := heldT_sound hS hf hi h
    exact wpAnyX_take ho hns hfr (by rw [readyM_eq]; simpa using hmem) (fun c b w hq => (hQ0 c _ w hq).elim) (fun f of hf hof => hfw _ (Array.getElem?_eq_some_iff.1 ho).1 hfb f hf) hcl hy hS (by rw [listedOf_set]; exact evAny_sound hSS hs hns hfw hbk hflt hrest n _ _ _ _ Q hQ0 h (by rw [← listedOf_set]; exact hcl.set (by rw [readyM_eq]; exact hmem)) _ _ hf' hi' hr hS hQ)
   ·split at h
    ·split at h
     ·rename_i hrd
      exact wpAnyX_done (by rw [readyM_eq]; exact hrd) (hQ _ _ _ _ h hf hr) (n + 1)
     ·exact h.elim
    ·split at h
     ·split at h
      ·rename_i hcan
       exact hrest _ hcan _ _ _ Q hQ0 h hcl _ _ hf hr hS hQ
      ·exact h.elim
     split at h
     ·exact hflt _ _ _ _ Q hQ0 h hcl _ _ hf hr hS hQ
     ·by_cases hne : readyM ops m = []
      ·rw [hne] at h
       exact h.elim
      refine wpAnyX_all (readyM_eq _ _) hne fun k hk0 => ?_
      have h := outsT_all h k hk0
      refine evAt_sound hSS hs h hf hr (fun a' L' b' W' hk hf' hr' => ?_)
      split at hk
      ·rename_i hlast
       unfold lastM at hlast
       rw [Bool.and_eq_true] at hlast
       obtain ⟨hl1, hl2⟩ := hlast
       refine ⟨.inl (by simpa using hl1), ?_⟩
       rw [listedOf_set]
       refine wpAnyX_done ?_ (hQ _ _ _ _ hk hf' hr') n
       rw [readyM_eq]
       split at hl2
       ·rename_i h0
        exact h0
       ·cases hl2
      split at hk
      ·rename_i hrf
       unfold restFin at hrf
       rw [Bool.and_eq_true] at hrf
       exact ⟨.inl (by simpa using hrf.1), by rw [listedOf_set]; exact evFin_sound hSS hs n _ _ _ Q hk _ _ hf' hr' hQ⟩
      rw [forceL_eq] at hk
      have hk := two_spec hk
      rcases hk with hk | hk
      ·obtain ⟨h1, h2⟩ := hk
       have h1 : There L0 W' := by
        rw [tok_blks h1]
        exact fun p hp => (hr'.blk p (hbk _ p hp)).1
       exact ⟨.inr fun _ => h1, by rw [listedOf_set]; exact evAny_sound hSS hs hns hfw hbk hflt hrest n _ _ _ _ Q hQ0 h2 (by rw [← listedOf_set]; exact hcl.set (by rw [readyM_eq]; exact hk0)) _ _ hf' (Inv.none _) hr' h1 hQ⟩
      ·have hk : (∀ b ∈ L0, b ∈ L') ∧ (evAny P S fn call ops fs fw L0 bk can rest flt c n (m ||| 1 <<< k) none a' L').all K := by
        rcases two_spec hk with hk | hk
        ·obtain ⟨l, hm, h1, h2⟩ := backAll_sound _ hk
         exact ⟨fun b hb => by rw [tok_blks h1] at hb; exact hm b hb, h2⟩
        ·exact backTT_sound hk
       obtain ⟨hm, h2⟩ := hk
       have h1 : There L0 W' := fun p hp => (hr'.blk p (hm p hp)).1
       exact ⟨.inr fun _ => h1, by rw [listedOf_set]; exact evAny_sound hSS hs hns hfw hbk hflt hrest n _ _ _ _ Q hQ0 h2 (by rw [← listedOf_set]; exact hcl.set (by rw [readyM_eq]; exact hk0)) _ _ hf' (Inv.none _) hr' h1 hQ⟩
theorem evMany_sound (hSS : S.holds P) {fn : FuncId} {call : CallE α} (hs : ∀ w0 keep, SoundC P w0 keep K call) {ops : Array Oper} (hns : Region.noSelect ops = true) {fs : List Nat} {fw : Nat} (hfw : ∀ j, j < ops.size → fw.testBit j = true → ∀ f ∈ fs, Waits ops j f) {L0 : List Blk} {bk : List Blk → List Blk} (hbk : ∀ L p, p ∈ bk L → p ∈ L) {c : F → List Blk → T α} : ∀ m, RestS P w0 keep K ops fs L0 c (evMany P S fn call ops fs fw L0 bk c m)
 | 0 => fun n m a L Q h0 h1 hc b W h2 h3 h4 h5 => evAny_sound hSS (hs _ _) hns hfw hbk (flt := fun _ _ _ _ => .fail) (fun _ _ _ _ _ _ h => False.elim h) (fun _ h => (by cases h)) n m none a L Q h0 h1 hc b W h2 (Inv.none _) h3 h4 h5
 | r + 1 => fun n m a L Q h0 h1 hc b0 W0 g2 g3 g4 g5 => evAny_sound hSS (hs _ _) hns hfw hbk (evFloat_sound hSS hs hns hfw hbk (evMany_sound hSS hs hns hfw hbk r)) (fun m h n a L Q h0 h1 hc' b W h2 h3 h4 h5 => by
   simp only [Bool.and_eq_true] at h
   exact evRest_sound hns (evMany_sound hSS hs hns hfw hbk r) m h.1 h.2 n _ a L Q h0 h1 b W h2 h3 h4 h5) n m none a L Q h0 h1 hc b0 W0 g2 (Inv.none _) g3 g4 g5
theorem evLoop_sound {x : Code} {f : PieceE α} (hf : SoundE P w0 keep K x f) {c : Exit → F → List Blk → T α} : ∀ (m : Nat) (a : F) (L : List Blk), (evLoop f c m a L).all K →
  ∀ b W, RelF a b → Rep w0 keep L W → Code.rounds P x (Post w0 keep K c) m b W
 | 0, a, L, h, b, W, _, _ => h.elim
 | m + 1, a, L, h, b, W, hrel, hr => by
   rw [rounds_succ]
   change (forceL (compactW 0 a.w) _).all K at h
   rw [forceL_eq] at h
   refine wp_mono (hf _ _ _ h b W (RelF.shorten hrel) hr) ?_
   rintro x a2 W2 ⟨hx, g, L2, h, hrel2, hr2⟩
   cases x with
   | normal => exact evLoop_sound hf m _ _ h a2 W2 hrel2 hr2
   | _ => exact ⟨hx, g, L2, h, hrel2, hr2⟩
theorem metBy_sound {k : CallC} (hc : Meets P k) {args : Array Value} {L : List Blk} {c : Value → List Blk → T α} (h : (metBy k args L c).all K) {W : World} (hr : Rep w0 keep L W) : Calls P k.f args W fun en W' => ∃ v L', en = .returned v ∧ Rep w0 keep L' W' ∧ (c v L').all K := by
 obtain ⟨ha, hok, h⟩ := h
 have hargs : args = k.args := by
  have := tok_val ha
  injection this
 subst hargs
 obtain ⟨hpre, h⟩ := memBy_sound h hr
 refine (hc hok W hpre).mono ?_
 rintro en W' ⟨o, ho, ns, rfl, hpost⟩
 obtain ⟨L', hr', hk⟩ := h o ho ns W' hpost
 exact ⟨o.2 ns, L', rfl, hr', hk⟩
theorem loopBy_sound {k : LoopC} (hc : MeetsL P k) {x : Code} {a : F} {L : List Blk} {c : Exit → F → List Blk → T α} (h : (loopBy k x a L c).all K) {b : Act} {W : World} (hf : RelF a b) (hr : Rep w0 keep L W) : x.wp P (Post w0 keep K c) b W := by
 obtain ⟨h1, h2, h3, hok, h⟩ := h
 obtain rfl := tok_code h1
 have hn := tok_nat h2
 have hsl : (k.sl.map fun p => a.get p.1).toArray = (k.sl.map (·.2)).toArray := by
  have := tok_val h3
  injection this
 have hsl := congrArg Array.toList hsl
 have hk : Known k.n k.sl b := by
  rw [← hn]
  exact Known.of hf k.sl (by simpa using hsl)
 obtain ⟨hpre, h⟩ := memBy_sound h hr
 refine wp_mono (hc hok b W hk hpre) ?_
 rintro x' a' W' ⟨o, ho, rfl, hx, ns, hk', hpost⟩
 obtain ⟨L', hr', hk⟩ := h o ho ns W' hpost
 exact ⟨hx, _, _, hk ⟨0, 0, false, undef, a'.tmps.toList⟩, hk'.rel, hr'⟩
theorem metU_sound {k : CallU} (hc : Meets P k.c) {args : Array Value} {L : List Blk} {c : Value → List Blk → T α} (h : (metU k args L c).all K) {W : World} (hr : Rep w0 keep L W) : Calls P k.f args W fun en W' => ∃ v L', en = .returned v ∧ Rep w0 keep L' W' ∧ (c v L').all K := by
 obtain ⟨ha, hok, h⟩ := h
 have hargs : args = k.args := by
  have := tok_val ha
  injection this
 subst hargs
 obtain ⟨hpre, h⟩ := memU_sound h hr
 refine (hc hok W hpre).mono ?_
 rintro en W' ⟨o, ho, ns, rfl, hpost⟩
 obtain ⟨L', hr', hk⟩ := h o ho ns W' hpost
 exact ⟨o.2 ns, L', rfl, hr', hk⟩
theorem loopU_sound {k : LoopU} (hc : MeetsL P k.c) {x : Code} {a : F} {L : List Blk} {c : Exit → F → List Blk → T α} (h : (loopU k x a L c).all K) {b : Act} {W : World} (hf : RelF a b) (hr : Rep w0 keep L W) : x.wp P (Post w0 keep K c) b W := by
 obtain ⟨h1, h2, h3, hok, h⟩ := h
 obtain rfl := tok_code h1
 have hn := tok_nat h2
 have hsl : (k.sl.map fun p => a.get p.1).toArray = (k.sl.map (·.2)).toArray := by
  have := tok_val h3
  injection this
 have hsl := congrArg Array.toList hsl
 have hk : Known k.n k.sl b := by
  rw [← hn]
  exact Known.of hf k.sl (by simpa using hsl)
 obtain ⟨hpre, h⟩ := memU_sound h hr
 refine wp_mono (hc hok b W hk hpre) ?_
 rintro x' a' W' ⟨o, ho, rfl, hx, ns, hk', hpost⟩
 obtain ⟨L', hr', hk⟩ := h o ho ns W' hpost
 exact ⟨hx, _, _, hk ⟨0, 0, false, undef, a'.tmps.toList⟩, hk'.rel, hr'⟩
theorem anyF_sound (hS : S.holds P) (hP : P.follows .mixedOrders = true) {fn : FuncId} {call : CallE α} (hc : ∀ w0 keep, SoundC P w0 keep K call) (id : Nat) (ops : Array Oper) : SoundE P w0 keep K (.region id ops true) (anyF P S fn id ops call) := by
 intro a L c h b W hrel hr
 unfold anyF at h
 split at h
 ·rename_i k ks hrg
  obtain ⟨j, h⟩ := h
  dsimp only at h
  split at h
  ·rename_i k' hj
   rw [nth_eq] at hj
   exact loopBy_sound (hS.rg fn id k' (by rw [hrg]; exact List.mem_of_getElem? hj) a L) h hrel hr
  ·exact h.elim
 split at h
 ·exact h.elim
 ·rename_i hns
  obtain ⟨j, h⟩ := h
  dsimp only at h
  split at h
  ·obtain ⟨R, hsub, h⟩ := noteX_spec h
   rw [forceM_eq] at h
   exact wp_region_X hP (by rw [listedOf_zero]; exact evMany_sound hS hc hns (fun j hlt hj => finM_spec hlt hj) (fun _ _ h => (by cases h)) 4 _ _ _ _ _ (fun c a w hq => by cases hq.1) h (closed_zero _) _ _ hrel hr.draw (fun p hp => (hr.blk p (hsub p hp)).1) fun a' L' b' W' hk hb' hr' => ⟨rfl, _, _, hk, hb', hr'⟩)
  ·obtain ⟨d, h⟩ := h
   dsimp only at h
   rw [forceL_eq, forceM_eq] at h
   exact wp_region_X hP (by rw [listedOf_zero]; exact evMany_sound hS hc hns (fun j hlt hj => finM_spec hlt hj) (fun _ _ h => (by cases h)) 4 _ _ _ _ _ (fun c a w hq => by cases hq.1) h (closed_zero _) _ _ hrel hr.draw (fun p hp => (hr.blk p (List.mem_of_mem_take (objsOf_sub hp))).1) fun a' L' b' W' hk hb' hr' => ⟨rfl, _, _, hk, hb', hr'⟩)
  ·rw [forceM_eq] at h
   exact wp_region_X hP (by rw [listedOf_zero]; exact evMany_sound hS hc hns (fun j hlt hj => finM_spec hlt hj) (fun _ _ h => (by cases h)) 4 _ _ _ _ _ (fun c a w hq => by cases hq.1) h (closed_zero _) _ _ hrel hr.draw (fun p hp => (hr.blk p hp).1) fun a' L' b' W' hk hb' hr' => ⟨rfl, _, _, hk, hb', hr'⟩)
  split at h
  ·exact h.elim
  split at h
  ·obtain ⟨R, hsub, h⟩ := noteT_spec h
   rw [forceM_eq] at h
   exact wp_region_X hP (by rw [listedOf_zero]; exact evMany_sound hS hc hns (fun j hlt hj => finM_spec hlt hj) (fun _ _ h => (by cases h)) 4 _ _ _ _ _ (fun c a w hq => by cases hq.1) h (closed_zero _) _ _ hrel hr.draw (fun p hp => (hr.blk p (hsub p hp)).1) fun a' L' b' W' hk hb' hr' => ⟨rfl, _, _, hk, hb', hr'⟩)
  ·obtain ⟨js, L1, hsub, h⟩ := minusT_spec h
   obtain ⟨mask, h⟩ := h
   dsimp only at h
   rw [forceL_eq, forceM_eq] at h
   exact wp_region_X hP (by rw [listedOf_zero]; exact evMany_sound hS hc hns (fun j hlt hj => finM_spec hlt hj) backOf_sub 4 _ _ _ _ _ (fun c a w hq => by cases hq.1) h (closed_zero _) _ _ hrel hr.draw (fun p hp => (hr.blk p (hsub p (dropM_sub hp))).1) fun a' L' b' W' hk hb' hr' => ⟨rfl, _, _, hk, hb', hr'⟩)
theorem inCall_sound {f : FuncId → Code → PieceE α} (hf : ∀ fn x, SoundE P w0 keep K x (f fn x)) : SoundC P w0 keep K (inCall P f) := by
 intro g args L c h W hr
 unfold inCall at h
 rw [nth_eq, Array.getElem?_toList] at h
 split at h
 ·exact h.elim
 ·rename_i fn hfn
  split at h
  ·exact h.elim
  ·rename_i x hb
   refine calls_of_wp hfn hb (wp_mono (hf g x _ _ _ h _ W (RelF.init args fn.ntmps) hr) ?_)
   rintro x a2 W2 ⟨-, g2, L2, h, hrel2, hr2⟩
   have key : (resT P g2.get L2 fn.results.toList fun l => c (oneV l) L2).all K → bodyPost P fn (fun en W' => ∃ v L', en = .returned v ∧ Rep w0 keep L' W' ∧ (c v L').all K) .ret a2 W2 := fun h => by
    obtain ⟨l, hk, hrun⟩ := resT_spec (fun p hp => (hr2.blk p hp).1) h
    have hrun := resF_run (fn := fn) (hrun W2 (fun p hp => (hr2.blk p hp).1))
    rw [← resF_eq hrel2] at hrun
    exact ⟨hrel2.defers, _, hrun, _, L2, rfl, hr2, hk⟩
   cases x with
   | normal => exact key h
   | ret => exact key h
   | _ => exact h.elim
theorem evCallC_sound (hS : S.holds P) {f : FuncId → Code → PieceE α} (hf : ∀ fn x, SoundE P w0 keep K x (f fn x)) : SoundC P w0 keep K (evCallC P S f) := by
 intro g args L c h W hr
 unfold evCallC at h
 split at h
 ·rename_i k ks hcl
  obtain ⟨j, h⟩ := h
  dsimp only at h
  split at h
  ·rename_i k' hj
   rw [nth_eq] at hj
   split at h
   ·rename_i hcf _
    have := metBy_sound (hS.cl g k' (by rw [hcl]; exact List.mem_of_getElem? hj) args L) h hr
    rw [hcf] at this
    exact this
   ·exact h.elim
  ·exact inCall_sound hf _ _ _ _ h W hr
 ·exact inCall_sound hf _ _ _ _ h W hr
theorem evLoopC_sound (hS : S.holds P) {f : PieceE α} {x : Code} (hf : SoundE P w0 keep K x f) {fn : FuncId} {n : Nat} {a : F} {L : List Blk} {c : Exit → F → List Blk → T α} (h : (evLoopC S f fn n x a L c).all K) {b : Act} {W : World} (hrel : RelF a b) (hr : Rep w0 keep L W) : (Code.loop x).wp P (Post w0 keep K c) b W := by
 unfold evLoopC at h
 split at h
 ·rename_i k ks hlp
  obtain ⟨j, h⟩ := h
  dsimp only at h
  split at h
  ·rename_i k' hj
   rw [nth_eq] at hj
   exact loopBy_sound (hS.lp fn k' (by rw [hlp]; exact List.mem_of_getElem? hj) a L) h hrel hr
  ·exact wp_loop_rounds n (evLoop_sound hf n _ _ h b W hrel hr)
 ·exact wp_loop_rounds n (evLoop_sound hf n _ _ h b W hrel hr)
theorem evCall_sound (hS : S.holds P) {f : FuncId → Code → PieceE α} (hf : ∀ fn x, SoundE P w0 keep K x (f fn x)) : SoundC P w0 keep K (evCall P S f) := by
 intro g args L c h W hr
 unfold evCall at h
 split at h
 ·rename_i k ks hcl
  obtain ⟨j, h⟩ := h
  dsimp only at h
  split at h
  ·rename_i k' hj
   rw [nth_eq] at hj
   split at h
   ·rename_i hcf _
    have := metU_sound (hS.cu g k' (by rw [hcl]; exact List.mem_of_getElem? hj) args L) h hr
    rw [hcf] at this
    exact this
   ·exact h.elim
  ·exact evCallC_sound hS hf _ _ _ _ h W hr
 ·exact evCallC_sound hS hf _ _ _ _ h W hr
theorem ev_succ (n : Nat) (fn : FuncId) (x : Code) (a : F) (L : List Blk) (c : Exit → F → List Blk → T α) : ev P S (n + 1) fn x a L c = evBody P S (ev P S n) n fn x a L c := rfl
theorem ev_sounds (hS : S.holds P) (hP : P.follows .mixedOrders = true) : ∀ (n : Nat) (w0 : World) (keep : Nat → Prop) (fn : FuncId) (x : Code), SoundE P w0 keep K x (ev P S n fn x)
 | 0, w0, keep, fn, x, a, L, c, h, _, _, _, _ => h.elim
 | n + 1, w0, keep, fn, x, a, L, c, h, b, W, hrel, hr => by
   have ih0 : ∀ fn x, SoundE P w0 keep K x (ev P S n fn x) := ev_sounds hS hP n w0 keep
   have ih := ih0 fn
   have hcs : ∀ w0 keep, SoundC P w0 keep K (evCall P S (ev P S n)) := fun w0 keep => evCall_sound hS (ev_sounds hS hP n w0 keep)
   have hc : SoundC P w0 keep K (evCall P S (ev P S n)) := hcs w0 keep
   rw [ev_succ] at h
   unfold evBody at h
   split at h
   ·exact wp_skip ⟨rfl, _, _, h, hrel, hr⟩
   ·exact wp_label ⟨rfl, _, _, h, hrel, hr⟩
   ·exact wp_region (evOps_sound hS hc _ h hrel (Inv.none _) hr fun a' L' b' W' hk hb' hr' => ⟨rfl, _, _, hk, hb', hr'⟩)
   ·rename_i id ops
    exact anyF_sound hS hP hcs id ops _ _ _ h b W hrel hr
   ·refine wp_seq (wp_mono (ih _ _ _ _ h b W hrel hr) ?_)
    rintro x a2 W2 ⟨hx, g2, L2, h, hrel2, hr2⟩
    cases x with
    | normal => exact ih _ _ _ _ h a2 W2 hrel2 hr2
    | _ => exact ⟨hx, _, _, h, hrel2, hr2⟩
   ·split at h
    ·rename_i s
     split at h
     ·rename_i t hb
      have hb' : b.eval (.tmp s) = .bool t := by rw [← hrel.eval]; exact hb
      cases t with
      | true => exact wp_cond_true hb' (ih _ _ _ _ (h.1 rfl) b W (hrel.same hb) hr)
      | false => exact wp_cond_false hb' (ih _ _ _ _ (h.2 rfl) b W (hrel.same hb) hr)
     ·exact h.elim
    ·split at h
     ·rename_i t hb
      rw [hrel.eval] at hb
      cases t with
      | true => exact wp_cond_true hb (ih _ _ _ _ (h.1 rfl) b W hrel hr)
      | false => exact wp_cond_false hb (ih _ _ _ _ (h.2 rfl) b W hrel hr)
     ·exact h.elim
   ·rename_i id x
    refine wp_block (wp_mono (ih _ _ _ _ h b W hrel hr) ?_)
    rintro x a2 W2 ⟨hx, g2, L2, h, hrel2, hr2⟩
    cases x with
    | exit id' =>
      simp only at h
      split at h
      ·rename_i hid
       have hid := Nat.eq_of_beq_eq_true hid
       simp only [Exit.inBlock, hid, if_true]
       exact ⟨rfl, _, _, h, hrel2, hr2⟩
      ·rename_i hid
       have hid : ¬ id' = id := fun he => by rw [he, Nat.beq_refl] at hid; cases hid
       simp only [Exit.inBlock, hid, if_false]
       exact ⟨rfl, _, _, h, hrel2, hr2⟩
    | normal => exact ⟨hx, _, _, h, hrel2, hr2⟩
    | ret => exact ⟨hx, _, _, h, hrel2, hr2⟩
    | _ => simp [calm] at hx
   ·split at h
    ·rename_i k ks hlp
     obtain ⟨j, h⟩ := h
     dsimp only at h
     split at h
     ·rename_i k' hj
      rw [nth_eq] at hj
      exact loopU_sound (hS.lu fn k' (by rw [hlp]; exact List.mem_of_getElem? hj) a L) h hrel hr
     ·exact evLoopC_sound hS (ih _) h hrel hr
    ·exact evLoopC_sound hS (ih _) h hrel hr
   ·exact wp_exit ⟨rfl, _, _, h, hrel, hr⟩
   ·exact wp_ret ⟨rfl, _, _, h, hrel, hr⟩
   ·exact h.elim
theorem ev_sound (hS : S.holds P) (hP : P.follows .mixedOrders = true) (n : Nat) (fn : FuncId) (x : Code) : SoundE P w0 keep K x (ev P S n fn x) := ev_sounds hS hP n w0 keep fn x
end Go.Proofs.YtlpcnaeknbmjdaaGreat.Sy
namespace Go.Proofs.YtlpcnaeknbmjdaaGreat.Sy
open Go Go.RowKit
open Ev (calm)
variable {P : Program} {S : Ctx}
def inT (P : Program) (S : Ctx) (n : Nat) (f : FuncId) (args : Array Value) (L : List Blk) (kf : Blk → Bool) : T (Value × List Blk) := inCall P (ev P S n) f args L fun v L' => .ret (v, L'.filter kf)
def noB (_ : Blk) : Bool := false
def rowB (b : Blk) : Bool := match b.ct with
 | .row .. => true
 | _ => false
def rowT (t : TypeId) (b : Blk) : Bool := match b.ct with
 | .row .. => true
 | .obj (.cells _ t' _) => Nat.beq t t'
 | _ => false
def pieceT (P : Program) (S : Ctx) (n : Nat) (fn : FuncId) (c : Code) (m : Nat) (l : List (Nat × Value)) (xs : List Value) (L : List Blk) (ks : List Nat) : T (Exit × Nat × List Value × List Blk) :=
 ev P S n fn c ⟨m, l ++ argsW 0 xs⟩ L fun x a L' => .ret (x, a.n, ks.map a.get, L')
structure Ran {α : Type} (t : T α) (o : O) (R : (Nat → Let) → Res α) : Prop where
 res : ∀ ns, (t.run o ns).map (·.res) = some (R ns)
 one : ∀ ns, (t.run o ns).map (·.l) = (t.run o ns).map (·.r)
theorem Ran.all {α : Type} {t : T α} {o : O} {R : (Nat → Let) → Res α} (h : Ran t o R) {K : α → Prop} (hK : ∀ ns, (R ns).holds K) : t.all K := by
 refine all_of_run t o fun ns => ?_
 have h1 := h.res ns
 have h2 := h.one ns
 cases hx : t.run o ns with
 | none => rw [hx] at h1; cases h1
 | some x =>
   rw [hx] at h1 h2
   simp only [Option.map_some, Option.some.injEq] at h1 h2
   exact ⟨x, rfl, h2, by rw [h1]; exact hK ns⟩
theorem calls_of (hS : S.holds P) (hP : P.follows .mixedOrders = true) {n : Nat} {f : FuncId} {args : Array Value} {L0 : List Blk} {o : O} {R : (Nat → Let) → Res (Value × List Blk)} {kf : Blk → Bool} (h : Ran (inT P S n f args L0 kf) o R)
  {w0 W : World} {keep : Nat → Prop} (hr : Rep w0 keep L0 W) {Q : Ending → World → Prop} (hQ : ∀ ns, (R ns).holds fun y => ∀ W', Rep w0 keep y.2 W' → Q (.returned y.1) W') : Calls P f args W Q := by
 have hall := h.all hQ
 unfold inT at hall
 refine (inCall_sound (ev_sound hS hP n) _ _ _ _ hall W hr).mono ?_
 rintro en W' ⟨v', L', rfl, hr', hk⟩
 exact hk W' (hr'.sub List.filter_sublist)
theorem zip_get (f : F) : ∀ ks : List Nat, (ks.zip (ks.map f.get)).map (fun p => f.get p.1) = (ks.zip (ks.map f.get)).map (·.2)
 | [] => rfl
 | k :: ks => by simp only [List.map_cons, List.zip_cons_cons]; rw [zip_get f ks]
theorem wp_of (hS : S.holds P) (hP : P.follows .mixedOrders = true) {n : Nat} {fn : FuncId} {c : Code} {m : Nat} {l : List (Nat × Value)} {a : Act} {L : List Blk} {ks : List Nat} {o : O} {R : (Nat → Let) → Res (Exit × Nat × List Value × List Blk)}
  (h : Ran (pieceT P S n fn c m l a.tmps.toList L ks) o R) {w0 W : World} {keep : Nat → Prop} (hk : Known m l a) (hr : Rep w0 keep L W)
  {Q : Exit → Act → World → Prop} (hQ : ∀ ns, (R ns).holds fun y => ∀ a' W', calm y.1 = true → Known y.2.1 (ks.zip y.2.2.1) a' → Rep w0 keep y.2.2.2 W' → Q y.1 a' W') : c.wp P Q a W := by
 have hall := h.all hQ
 unfold pieceT at hall
 refine wp_mono (ev_sound hS hP n fn c _ _ _ hall a W hk.rel hr) ?_
 rintro x2 a2 W2 ⟨hx, g, L2, hk2, hf, hr'⟩
 exact hk2 a2 W2 hx (Known.of hf _ (zip_get _ _)) hr'
def Res.asks {α : Type} : Res α → Option (List Prop)
 | .leaf _ => some []
 | .need p r => match r.asks with
   | some l => some (p :: l)
   | none => none
 | .hyp _ r => r.asks
 | .both x y => match x.asks, y.asks with
   | some l, some m => some (l ++ m)
   | _, _ => none
 | .br _ _ _ => none
theorem Res.asks_holds {α : Type} : ∀ {r : Res α} {l : List Prop}, r.asks = some l → (∀ p ∈ l, p) → r.holds fun _ => True
 | .leaf _, _, _, _ => trivial
 | .need p r, l, h, hl => by
   simp only [Res.asks] at h
   split at h
   ·rename_i m hm
    injection h with h
    subst h
    exact ⟨hl p Sy.mH, Res.asks_holds hm fun q hq => hl q (Sy.mC _ hq)⟩
   ·cases h
 | .hyp _ r, l, h, hl => fun _ => Res.asks_holds (r := r) h hl
 | .both x y, l, h, hl => by
   simp only [Res.asks] at h
   split at h
   ·rename_i m n hm hn
    injection h with h
    subst h
    exact ⟨Res.asks_holds hm fun q hq => hl q (Sy.mL _ hq), Res.asks_holds hn fun q hq => hl q (Sy.mR _ hq)⟩
   ·cases h
 | .br _ _ _, _, h, _ => by cases h
def blks (c : MemC) : List Blk := c.rd.map (fun p => ⟨p.1, p.2, false⟩) ++ (c.use.map ownOf ++ c.rb.map (fun p => ⟨p.1, p.2, false⟩))
def keepOf (c : MemC) (k : Nat) : Prop := ∀ p ∈ c.use, p.1 ≠ k
theorem rep_of_pre {c : MemC} {W : World} (h : c.pre W) : Rep W (keepOf c) (blks c) W := by
 have hf : ∀ l : List (Nat × Cont), (l.map fun p => (⟨p.1, p.2, false⟩ : Blk)).Pairwise Far := fun l => by
  rw [List.pairwise_map]
  exact List.pairwise_of_forall fun a b h => by cases h
 refine ⟨rfl, rfl, rfl, Nat.le_refl _, fun _ _ _ => rfl, fun p hp => ?_, ?_⟩
 ·rcases List.mem_append.1 hp with hp | hp
  ·obtain ⟨q, hq, rfl⟩ := List.mem_map.1 hp
   exact ⟨h.rd q hq, fun h => by cases h⟩
  rcases List.mem_append.1 hp with hp | hp
  ·obtain ⟨q, hq, rfl⟩ := List.mem_map.1 hp
   exact ⟨h.use q hq, fun _ _ hk => hk q hq rfl⟩
  ·obtain ⟨q, hq, rfl⟩ := List.mem_map.1 hp
   exact ⟨h.rb q hq, fun h => by cases h⟩
 ·unfold blks
  rw [List.pairwise_append, List.pairwise_append]
  refine ⟨hf _, ⟨?_, hf _, fun a ha b hb => ?_⟩, fun a ha b hb => ?_⟩
  ·rw [List.pairwise_map]
   have := h.nodup
   rw [List.nodup_iff_pairwise_ne, List.pairwise_map] at this
   exact this.imp (S := fun a b => Far (ownOf a) (ownOf b)) fun h _ => h
  ·obtain ⟨p, hp, rfl⟩ := List.mem_map.1 ha
   obtain ⟨q, hq, rfl⟩ := List.mem_map.1 hb
   exact fun _ he => h.apartB q hq p hp he.symm
  ·obtain ⟨p, hp, rfl⟩ := List.mem_map.1 ha
   rcases List.mem_append.1 hb with hb | hb
   ·obtain ⟨q, hq, rfl⟩ := List.mem_map.1 hb
    exact fun _ => h.apart p hp q hq
   ·obtain ⟨q, hq, rfl⟩ := List.mem_map.1 hb
    exact fun ho => by cases ho
def pickL (L : List Blk) (pk : List Nat) : List Blk := pk.filterMap fun i => L[i]?
theorem Rep.pick {w0 W : World} {keep : Nat → Prop} {L : List Blk} (h : Rep w0 keep L W) : ∀ {pk : List Nat}, pk.Nodup → Rep w0 keep (pickL L pk) W := by
 intro pk hpk
 refine ⟨h.os, h.tape, h.output, h.size, h.old, fun p hp => ?_, ?_⟩
 ·obtain ⟨i, -, hi⟩ := List.mem_filterMap.1 hp
  exact h.blk p (List.mem_of_getElem? hi)
 ·unfold pickL
  induction pk with
  | nil => exact List.Pairwise.nil
  | cons i pk ih =>
    rw [List.nodup_cons] at hpk
    rw [List.filterMap_cons]
    split
    ·exact ih hpk.2
    ·rename_i p hp
     rw [List.pairwise_cons]
     refine ⟨fun q hq => ?_, ih hpk.2⟩
     obtain ⟨j, hj, hjq⟩ := List.mem_filterMap.1 hq
     exact far_ne h.far hp hjq (fun e => hpk.1 (e ▸ hj))
def fitB (b : Blk) (p : Nat × Cont) : Prop := b.nm = p.1 ∧ b.own = true ∧ (b.ct = p.2 ∨ p.2.useView b.ct = p.2 ∨ p.2.view b.ct = p.2)
def fitsB : List Blk → List (Nat × Cont) → Prop
 | [], [] => True
 | b :: l, p :: r => fitB b p ∧ fitsB l r
 | _, _ => False
theorem Rep.fits {w0 W : World} {keep : Nat → Prop} : ∀ {l : List Blk} {r : List (Nat × Cont)}, fitsB l r → Rep w0 keep l W → Rep w0 keep (r.map ownOf) W
 | [], [], _, h => h
 | [], _ :: _, h, _ => h.elim
 | _ :: _, [], h, _ => h.elim
 | b :: l, p :: r, ⟨⟨h1, h2, h3⟩, h4⟩, h => by
   have ih := Rep.fits h4 (h.sub (List.sublist_cons_self b l))
   have hnm : r.map (·.1) = l.map (·.nm) := by
    clear ih h h1 h2 h3
    revert r
    induction l with
    | nil => intro r h; cases r with
      | nil => rfl
      | cons _ _ => exact h.elim
    | cons x l ihl => intro r h; cases r with
      | nil => exact h.elim
      | cons y r => simp only [List.map_cons, ihl r h.2, h.1.1]
   have hb := h.blk b Sy.mH
   have hsat : p.2.sat W.heap[b.nm]? := by
    rcases h3 with h3 | h3 | h3
    ·rw [← h3]; exact hb.1
    ·rw [← h3]; exact Cont.sat_useView hb.1
    ·rw [← h3]; exact Cont.sat_view hb.1
   refine ⟨h.os, h.tape, h.output, h.size, h.old, fun q hq => ?_, ?_⟩
   ·rw [List.map_cons] at hq
    rcases List.mem_cons.1 hq with rfl | hq
    ·show p.2.sat W.heap[p.1]? ∧ _
     rw [← h1]
     refine ⟨hsat, fun _ hlt => ?_⟩
     have : ownOf p = ⟨p.1, p.2, true⟩ := rfl
     simp only [ownOf] at hlt ⊢
     rw [← h1] at hlt ⊢
     exact hb.2 h2 hlt
    ·exact ih.blk q hq
   ·rw [List.map_cons, List.pairwise_cons]
    refine ⟨fun q hq => ?_, ih.far⟩
    obtain ⟨x, hx, rfl⟩ := List.mem_map.1 hq
    have hx1 : x.1 ∈ l.map (·.nm) := by rw [← hnm]; exact List.mem_map.2 ⟨x, hx, rfl⟩
    obtain ⟨b', hb', he⟩ := List.mem_map.1 hx1
    have hf := (List.pairwise_cons.1 h.far).1 b' hb' (by rw [h2]; rfl)
    intro _
    show p.1 ≠ x.1
    rw [← h1, ← he]
    exact hf
theorem post_of_ent {c : MemC} {o : OutM} {W W' : World} {ns : List Let} (hp : Rep W (keepOf c) ((o.nw ns ++ o.nb ns).map ownOf) W') (hn : ns.length = c.m) (hh : o.hyp ns) : c.post o W W' ns := by
 have hall : ∀ p ∈ o.nw ns ++ o.nb ns, (W.heap.size ≤ p.1 ∨ ∃ q ∈ c.use, q.1 = p.1) ∧ p.2.sat W'.heap[p.1]? := fun p hpm => by
  have hb := hp.blk _ (List.mem_map.2 ⟨p, hpm, rfl⟩)
  refine ⟨?_, hb.1⟩
  rcases Nat.lt_or_ge p.1 W.heap.size with hlt | hge
  ·have := hb.2 rfl hlt
   unfold keepOf at this
   simp only [ownOf, ne_eq] at this
   refine .inr (Classical.byContradiction fun hno => this fun q hq he => hno ⟨q, hq, he⟩)
  ·exact .inl hge
 have hf := hp.far
 rw [List.pairwise_map] at hf
 have hnd : ((o.nw ns ++ o.nb ns).map (·.1)).Nodup := by
  rw [List.nodup_iff_pairwise_ne, List.pairwise_map]
  exact hf.imp fun h => h rfl
 rw [List.map_append, List.nodup_append] at hnd
 exact ⟨hn, hh, hp.os, hp.tape, hp.output, hp.size, fun k hk hno => hp.old k hk hno, fun p hpm => hall p (Sy.mL _ hpm), hnd.1, fun p hpm => hall p (Sy.mR _ hpm), hnd.2.1, fun p hpm q hq => hnd.2.2 _ (List.mem_map.2 ⟨p, hpm, rfl⟩) _ (List.mem_map.2 ⟨q, hq, rfl⟩)⟩
theorem post_of_rep {c : MemC} {o : OutM} {W W' : World} {L : List Blk} {ns : List Let} (hr : Rep W (keepOf c) L W') (hn : ns.length = c.m) (hh : o.hyp ns) (pk : List Nat) (hpk : pk.Nodup) (hL : fitsB (pickL L pk) (o.nw ns ++ o.nb ns)) : c.post o W W' ns :=
 post_of_ent ((hr.pick hpk).fits hL) hn hh
def leafC (c : CallC) (y : Value × List Blk) : Prop :=
 ∃ o ∈ c.outs, ∃ ns : List Let, ns.length = c.mem.m ∧ y.1 = o.2 ns ∧ (∃ pk : List Nat, pk.Nodup ∧ fitsB (pickL y.2 pk) (o.1.nw ns ++ o.1.nb ns)) ∧ o.1.hyp ns
theorem meets_of (hS : S.holds P) (hP : P.follows .mixedOrders = true) {n : Nat} {c : CallC} {o : O} {R : (Nat → Let) → Res (Value × List Blk)} {kf : Blk → Bool} (h : Ran (inT P S n c.f c.args (blks c.mem) kf) o R)
  (hQ : c.ok → ∀ ns, (R ns).holds (leafC c)) : Meets P c := by
 intro hok W hpre
 refine calls_of hS hP h (rep_of_pre hpre) fun ns => Res.holds_mono (fun y hy W' hr => ?_) _ (hQ hok ns)
 obtain ⟨o, ho, ns, h1, h2, ⟨pk, h3, h4⟩, h5⟩ := hy
 exact ⟨o, ho, ns, by rw [h2], post_of_rep hr h1 h5 pk h3 h4⟩
def leafL {σ : Type} (c : LoopC) (ks : List Nat) (slots : σ → List (Nat × Value)) (mem : σ → List Blk) (ok : σ → Prop) (μ : σ → Nat) (s : σ) (y : Exit × Nat × List Value × List Blk) : Prop :=
 y.2.1 = c.n ∧ ((y.1 = .normal ∧ ∃ s', ok s' ∧ μ s' < μ s ∧ ks.zip y.2.2.1 = slots s' ∧ ∃ pk : List Nat, pk.Nodup ∧ pickL y.2.2.2 pk = mem s') ∨
  (y.1 ≠ .normal ∧ ∃ o ∈ c.outs, y.1 = o.2.1 ∧ ∃ ns : List Let, ns.length = c.mem.m ∧ (∃ q : List Nat, o.2.2 ns = q.filterMap fun i => (ks.zip y.2.2.1)[i]?) ∧ (∃ pk : List Nat, pk.Nodup ∧ fitsB (pickL y.2.2.2 pk) (o.1.nw ns ++ o.1.nb ns)) ∧ o.1.hyp ns))
theorem Known.sub {n : Nat} {l l' : List (Nat × Value)} {a : Act} (h : Known n l a) (hs : ∀ p ∈ l', p ∈ l) : Known n l' a := ⟨h.defers, h.size, fun p hp => h.get p (hs p hp)⟩
theorem loop_ofS {σ : Type} {S : σ → Ctx} (hS : ∀ s, (S s).holds P) (hP : P.follows .mixedOrders = true) {n : Nat} {fn : FuncId} {body : Code} {c : LoopC} (hc : c.c = .loop body) (ks : List Nat) (slots : σ → List (Nat × Value)) (mem : σ → List Blk) (ok : σ → Prop) (μ : σ → Nat)
  (s0 : σ) (h0 : c.ok → ok s0) (hs0 : ∀ p ∈ slots s0, p ∈ c.sl) (pk0 : List Nat) (hpk0 : pk0.Nodup) (hm0 : pickL (blks c.mem) pk0 = mem s0)
  {o : σ → O} {R : σ → List Value → (Nat → Let) → Res (Exit × Nat × List Value × List Blk)} (h : ∀ s xs, ok s → Ran (pieceT P (S s) n fn body c.n (slots s) xs (mem s) ks) (o s) (R s xs))
  (hQ : c.ok → ∀ s xs, ok s → ∀ ns, (R s xs ns).holds (leafL c ks slots mem ok μ s)) : MeetsL P c := by
 intro hok a W hk hpre
 rw [hc]
 have key : ∀ m s a W', ok s → μ s < m → Known c.n (slots s) a → Rep W (keepOf c.mem) (mem s) W' →
   Code.rounds P body (fun x a' W' => ∃ o ∈ c.outs, x = o.2.1 ∧ calm x = true ∧ ∃ ns, Known c.n (o.2.2 ns) a' ∧ c.mem.post o.1 W W' ns) m a W' := by
  intro m
  induction m with
  | zero => intro s a W' _ hlt; omega
  | succ m ih =>
    intro s a W' hs hlt hK hR
    rw [rounds_succ]
    refine wp_of (hS s) hP (h s a.tmps.toList hs) hK hR fun ns => Res.holds_mono (fun y hy a' W2 hx hK' hR' => ?_) _ (hQ hok s a.tmps.toList hs ns)
    obtain ⟨hn, hy⟩ := hy
    rcases hy with ⟨hx1, s', hs', hμ, hz, pk, hpk, hm⟩ | ⟨hx1, o, ho, he, ns', g1, ⟨q, g2⟩, ⟨pk, g3, g4⟩, g5⟩
    ·rw [hx1]
     rw [hn, hz] at hK'
     have hR2 := hR'.pick hpk
     rw [hm] at hR2
     exact ih s' a' W2 hs' (by omega) hK' hR2
    ·have hfin : ∃ o ∈ c.outs, y.1 = o.2.1 ∧ calm y.1 = true ∧ ∃ ns, Known c.n (o.2.2 ns) a' ∧ c.mem.post o.1 W W2 ns := by
      refine ⟨o, ho, he, hx, ns', ?_, post_of_rep hR' g1 g5 pk g3 g4⟩
      rw [hn] at hK'
      refine Known.sub hK' fun p hp => ?_
      rw [g2] at hp
      obtain ⟨i, -, hi⟩ := List.mem_filterMap.1 hp
      exact List.mem_of_getElem? hi
     cases hy1 : y.1 with
     | normal => exact absurd hy1 hx1
     | _ => rw [hy1] at hfin; exact hfin
 refine wp_loop_rounds (μ s0 + 1) (key _ s0 a W (h0 hok) (by omega) (Known.sub hk hs0) ?_)
 have := (rep_of_pre hpre).pick hpk0
 rw [hm0] at this
 exact this
theorem loop_of (hS : S.holds P) (hP : P.follows .mixedOrders = true) {n : Nat} {fn : FuncId} {body : Code} {c : LoopC} {σ : Type} (hc : c.c = .loop body) (ks : List Nat) (slots : σ → List (Nat × Value)) (mem : σ → List Blk) (ok : σ → Prop) (μ : σ → Nat)
  (s0 : σ) (h0 : c.ok → ok s0) (hs0 : ∀ p ∈ slots s0, p ∈ c.sl) (pk0 : List Nat) (hpk0 : pk0.Nodup) (hm0 : pickL (blks c.mem) pk0 = mem s0)
  {o : σ → O} {R : σ → List Value → (Nat → Let) → Res (Exit × Nat × List Value × List Blk)} (h : ∀ s xs, ok s → Ran (pieceT P S n fn body c.n (slots s) xs (mem s) ks) (o s) (R s xs))
  (hQ : c.ok → ∀ s xs, ok s → ∀ ns, (R s xs ns).holds (leafL c ks slots mem ok μ s)) : MeetsL P c :=
 loop_ofS (S := fun _ => S) (fun _ => hS) hP hc ks slots mem ok μ s0 h0 hs0 pk0 hpk0 hm0 h hQ
def Ent (L L' : List Blk) : Prop := ∀ (w0 : World) (keep : Nat → Prop) (W : World), Rep w0 keep L W → Rep w0 keep L' W
theorem Ent.refl (L : List Blk) : Ent L L := fun _ _ _ h => h
theorem Ent.trans {A B C : List Blk} (h : Ent A B) (h' : Ent B C) : Ent A C := fun w k W hr => h' w k W (h w k W hr)
theorem Ent.perm {A B : List Blk} (h : A.Perm B) : Ent A B := fun _ _ _ hr => hr.perm h
theorem Ent.sub {A B : List Blk} (h : List.Sublist B A) : Ent A B := fun _ _ _ hr => hr.sub h
def inB (P : Program) (S : Ctx) (n : Nat) (f : FuncId) (args : Array Value) (L : List Blk) : T (Value × List Blk) := inCall P (ev P S n) f args L fun v L' => .ret (v, L')
def leafB (c : CallC) (y : Value × List Blk) : Prop :=
 ∃ o ∈ c.outs, ∃ ns : List Let, ns.length = c.mem.m ∧ y.1 = o.2 ns ∧ Ent y.2 ((o.1.nw ns ++ o.1.nb ns).map ownOf) ∧ o.1.hyp ns
theorem meets_ofB (hS : S.holds P) (hP : P.follows .mixedOrders = true) {n : Nat} {c : CallC} {o : O} {R : (Nat → Let) → Res (Value × List Blk)} {L : List Blk} (hL : Ent (blks c.mem) L) (h : Ran (inB P S n c.f c.args L) o R)
  (hQ : c.ok → ∀ ns, (R ns).holds (leafB c)) : Meets P c := by
 intro hok W hpre
 have hall := h.all (hQ hok)
 unfold inB at hall
 refine (inCall_sound (ev_sound hS hP n) _ _ _ _ hall W (hL _ _ _ (rep_of_pre hpre))).mono ?_
 rintro en W' ⟨v', L', rfl, hr', o, ho, ns, h1, h2, h3, h4⟩
 exact ⟨o, ho, ns, congrArg Ending.returned h2, post_of_ent (h3 _ _ _ hr') h1 h4⟩
def inY (P : Program) (S : Ctx) (n : Nat) (f : FuncId) (args : Array Value) (L : List Blk) (k : Nat) : T (Value × List Blk) := inCall P (ev P S n) f args L fun v L' => .or (.tail (L'.map (·.nm))) fun d => match Nat.ble k d with
 | true => .ret (v, L'.take k ++ L'.drop d)
 | false => .fail
theorem meets_ofY (hS : S.holds P) (hP : P.follows .mixedOrders = true) {n k : Nat} {c : CallC} {o : O} {R : (Nat → Let) → Res (Value × List Blk)} {L : List Blk} (hL : Ent (blks c.mem) L) (h : Ran (inY P S n c.f c.args L k) o R)
  (hQ : c.ok → ∀ ns, (R ns).holds (leafB c)) : Meets P c := by
 intro hok W hpre
 have hall := h.all (hQ hok)
 unfold inY at hall
 refine (inCall_sound (ev_sound hS hP n) _ _ _ _ hall W (hL _ _ _ (rep_of_pre hpre))).mono ?_
 rintro en W' ⟨v', L', rfl, hr', d, hd⟩
 dsimp only at hd
 split at hd
 ·rename_i hk
  have hk := Nat.le_of_ble_eq_true hk
  obtain ⟨o, ho, ns, h1, h2, h3, h4⟩ := hd
  refine ⟨o, ho, ns, congrArg Ending.returned h2, post_of_ent (h3 _ _ _ (hr'.sub ?_)) h1 h4⟩
  have : L' = L'.take k ++ L'.drop k := (List.take_append_drop k L').symm
  conv => rhs; rw [this]
  refine List.Sublist.append (List.Sublist.refl _) ?_
  have e : L'.drop d = (L'.drop k).drop (d - k) := by rw [List.drop_drop]; congr 1; omega
  rw [e]
  exact List.drop_sublist _ _
 ·exact hd.elim
def leafLB {σ : Type} (c : LoopC) (ks : List Nat) (slots : σ → List (Nat × Value)) (mem : σ → List Blk) (ok : σ → Prop) (μ : σ → Nat) (s : σ) (y : Exit × Nat × List Value × List Blk) : Prop :=
 y.2.1 = c.n ∧ ((y.1 = .normal ∧ ∃ s', ok s' ∧ μ s' < μ s ∧ ks.zip y.2.2.1 = slots s' ∧ Ent y.2.2.2 (mem s')) ∨
  (y.1 ≠ .normal ∧ ∃ o ∈ c.outs, y.1 = o.2.1 ∧ ∃ ns : List Let, ns.length = c.mem.m ∧ (∃ q : List Nat, o.2.2 ns = q.filterMap fun i => (ks.zip y.2.2.1)[i]?) ∧ Ent y.2.2.2 ((o.1.nw ns ++ o.1.nb ns).map ownOf) ∧ o.1.hyp ns))
theorem loop_ofB {σ : Type} {S : σ → Ctx} (hS : ∀ s, (S s).holds P) (hP : P.follows .mixedOrders = true) {n : Nat} {fn : FuncId} {body : Code} {c : LoopC} (hc : c.c = .loop body) (ks : List Nat) (slots : σ → List (Nat × Value)) (mem : σ → List Blk) (ok : σ → Prop) (μ : σ → Nat)
  (s0 : σ) (h0 : c.ok → ok s0) (hs0 : ∀ p ∈ slots s0, p ∈ c.sl) (hm0 : Ent (blks c.mem) (mem s0))
  {o : σ → O} {R : σ → (Nat → Value) → (Nat → Let) → Res (Exit × Nat × List Value × List Blk)} (h : ∀ s f, ok s → Ran (pieceT P (S s) n fn body c.n (slots s) ((List.range c.n).map f) (mem s) ks) (o s) (R s f))
  (hQ : c.ok → ∀ s f, ok s → ∀ ns, (R s f ns).holds (leafLB c ks slots mem ok μ s)) : MeetsL P c := by
 intro hok a W hk hpre
 rw [hc]
 have hrm : ∀ (xs : List Value) (n : Nat), xs.length = n → (List.range n).map (fun j => xs.getD j undef) = xs := fun xs n h => by
  apply List.ext_getElem?
  intro i
  rw [List.getElem?_map]
  by_cases hi : i < n
  ·rw [List.getElem?_range hi, List.getElem?_eq_getElem (by omega)]
   simp [List.getD_eq_getElem?_getD, List.getElem?_eq_getElem (show i < xs.length by omega)]
  ·rw [List.getElem?_eq_none (by simpa using Nat.le_of_not_lt hi), List.getElem?_eq_none (by omega)]
   rfl
 have key : ∀ m s a W', ok s → μ s < m → Known c.n (slots s) a → Rep W (keepOf c.mem) (mem s) W' →
   Code.rounds P body (fun x a' W' => ∃ o ∈ c.outs, x = o.2.1 ∧ calm x = true ∧ ∃ ns, Known c.n (o.2.2 ns) a' ∧ c.mem.post o.1 W W' ns) m a W' := by
  intro m
  induction m with
  | zero => intro s a W' _ hlt; omega
  | succ m ih =>
    intro s a W' hs hlt hK hR
    rw [rounds_succ]
    have hran := h s (fun j => a.tmps.toList.getD j undef) hs
    rw [hrm a.tmps.toList c.n (by rw [Array.length_toList]; exact hK.size)] at hran
    refine wp_of (hS s) hP hran hK hR fun ns => Res.holds_mono (fun y hy a' W2 hx hK' hR' => ?_) _ (hQ hok s (fun j => a.tmps.toList.getD j undef) hs ns)
    obtain ⟨hn, hy⟩ := hy
    rcases hy with ⟨hx1, s', hs', hμ, hz, hm⟩ | ⟨hx1, o, ho, he, ns', g1, ⟨q, g2⟩, g3, g5⟩
    ·rw [hx1]
     rw [hn, hz] at hK'
     exact ih s' a' W2 hs' (by omega) hK' (hm _ _ _ hR')
    ·have hfin : ∃ o ∈ c.outs, y.1 = o.2.1 ∧ calm y.1 = true ∧ ∃ ns, Known c.n (o.2.2 ns) a' ∧ c.mem.post o.1 W W2 ns := by
      refine ⟨o, ho, he, hx, ns', ?_, post_of_ent (g3 _ _ _ hR') g1 g5⟩
      rw [hn] at hK'
      refine Known.sub hK' fun p hp => ?_
      rw [g2] at hp
      obtain ⟨i, -, hi⟩ := List.mem_filterMap.1 hp
      exact List.mem_of_getElem? hi
     cases hy1 : y.1 with
     | normal => exact absurd hy1 hx1
     | _ => rw [hy1] at hfin; exact hfin
 exact wp_loop_rounds (μ s0 + 1) (key _ s0 a W (h0 hok) (by omega) (Known.sub hk hs0) (hm0 _ _ _ (rep_of_pre hpre)))
end Go.Proofs.YtlpcnaeknbmjdaaGreat.Sy
namespace Go.Proofs.YtlpcnaeknbmjdaaGreat.Sy
open Go Go.RowKit
variable {P : Program}
def pickF {β : Type} (f : Nat) : List (Nat × β) → List β
 | [] => []
 | p :: r => match Nat.beq p.1 f with
   | true => p.2 :: pickF f r
   | false => pickF f r
theorem pickF_mem {β : Type} {f : Nat} {x : β} : ∀ {l : List (Nat × β)}, x ∈ pickF f l → ∃ p ∈ l, p.2 = x
 | [], h => by cases h
 | p :: r, h => by
   unfold pickF at h
   split at h
   ·rcases List.mem_cons.1 h with rfl | h
    ·exact ⟨p, Sy.mH, rfl⟩
    ·obtain ⟨q, hq, e⟩ := pickF_mem h
     exact ⟨q, Sy.mC _ hq, e⟩
   ·obtain ⟨q, hq, e⟩ := pickF_mem h
    exact ⟨q, Sy.mC _ hq, e⟩
def mkS (cl : List (FuncId × (Array Value → List Blk → CallC))) (lp : List (FuncId × (F → List Blk → LoopC))) (op : List (FuncId × Nat × (F → List Blk → OpK))) : Ctx :=
 ⟨fun f => pickF f cl, fun f => pickF f lp, fun _ _ => [], fun f n => pickF n (pickF f op), fun _ => [], fun _ => []⟩
theorem mkS_holds {cl : List (FuncId × (Array Value → List Blk → CallC))} {lp : List (FuncId × (F → List Blk → LoopC))} {op : List (FuncId × Nat × (F → List Blk → OpK))}
  (h1 : ∀ p ∈ cl, ∀ a L, Meets P (p.2 a L)) (h2 : ∀ p ∈ lp, ∀ a L, MeetsL P (p.2 a L)) (h3 : ∀ p ∈ op, ∀ a L, (p.2.2 a L).meets P) : (mkS cl lp op).holds P := by
 refine ⟨fun f c hc a L => ?_, fun f c hc a L => ?_, fun f n c hc => (by cases hc), fun f n c hc a L => ?_, fun f c hc => (by cases hc), fun f c hc => (by cases hc)⟩
 ·obtain ⟨p, hp, rfl⟩ := pickF_mem hc
  exact h1 p hp a L
 ·obtain ⟨p, hp, rfl⟩ := pickF_mem hc
  exact h2 p hp a L
 ·obtain ⟨p, hp, rfl⟩ := pickF_mem hc
  obtain ⟨q, hq, rfl⟩ := pickF_mem hp
  exact h3 q hq a L
def mkU (S : Ctx) (cu : List (FuncId × (Array Value → List Blk → CallU))) (lu : List (FuncId × (F → List Blk → LoopU))) : Ctx :=
 ⟨S.cl, S.lp, S.rg, S.op, fun f => pickF f cu, fun f => pickF f lu⟩
theorem mkU_holds {S : Ctx} (hS : S.holds P) {cu : List (FuncId × (Array Value → List Blk → CallU))} {lu : List (FuncId × (F → List Blk → LoopU))}
  (h1 : ∀ p ∈ cu, ∀ a L, Meets P (p.2 a L).c) (h2 : ∀ p ∈ lu, ∀ a L, MeetsL P (p.2 a L).c) : (mkU S cu lu).holds P := by
 refine ⟨hS.cl, hS.lp, hS.rg, hS.op, fun f c hc a L => ?_, fun f c hc a L => ?_⟩
 ·obtain ⟨p, hp, rfl⟩ := pickF_mem hc
  exact h1 p hp a L
 ·obtain ⟨p, hp, rfl⟩ := pickF_mem hc
  exact h2 p hp a L
def S0 : Ctx := mkS [] [] []
theorem S0_holds : S0.holds P := mkS_holds (fun _ h => (by cases h)) (fun _ h => (by cases h)) (fun _ h => (by cases h))
def argI (a : Array Value) (i : Nat) : Int := match nth a.toList i with
 | some (.int _ n) => n
 | _ => 0
def rowO (e size n : Nat) (xs : List Value) (v : Value → Value) : OutM × (List Let → Value) :=
 (⟨fun ns => n ≤ num ns 1, fun ns => [(num ns 0, .row e size n (num ns 1) xs)], fun _ => []⟩, fun ns => v (.slice (some ⟨num ns 0, 0, none⟩) n (num ns 1)))
theorem rowO_leaf {c : CallC} {e size n : Nat} {xs : List Value} {v : Value → Value} (ho : rowO e size n xs v ∈ c.outs) (hm : c.mem.m = 2) {g cap : Nat} {y : Value × List Blk} (i : Nat) {b : Blk} (hv : y.1 = v (.slice (some ⟨g, 0, none⟩) n cap)) (hb : y.2[i]? = some b) (hf : fitB b (g, .row e size n cap xs)) (hc : n ≤ cap) : leafC c y := by
 refine ⟨_, ho, [⟨g, 0, false, undef, []⟩, ⟨cap, 0, false, undef, []⟩], hm.symm, hv, ⟨[i], by simp, ?_⟩, hc⟩
 have : pickL y.2 [i] = [b] := by simp [pickL, hb]
 rw [this]
 exact ⟨hf, trivial⟩
theorem rowO_leaf' {c : CallC} {e size n n' : Nat} {xs xs' : List Value} {v : Value → Value} (ho : rowO e size n xs v ∈ c.outs) (hm : c.mem.m = 2) {g cap : Nat} {y : Value × List Blk} (i : Nat) (hv : y.1 = v (.slice (some ⟨g, 0, none⟩) n' cap)) (hb : y.2[i]? = some ⟨g, .row e size n' cap xs', true⟩) (hn : n' = n) (hx : xs' = xs) (hc : n' ≤ cap) : leafC c y := by
 subst hn hx
 exact rowO_leaf ho hm i hv hb ⟨rfl, rfl, .inl rfl⟩ hc
def plainO (v : Value) : OutM × (List Let → Value) := (⟨fun _ => True, fun _ => [], fun _ => []⟩, fun _ => v)
theorem plainO_leaf {c : CallC} {v : Value} (ho : plainO v ∈ c.outs) (hm : c.mem.m = 0) {y : Value × List Blk} (hv : y.1 = v) : leafC c y :=
 ⟨_, ho, [], hm.symm, hv, ⟨[], List.nodup_nil, trivial⟩, trivial⟩
def ptrN (v : Value) : Nat := match v with
 | .slice (some ⟨b, _, _⟩) _ _ => b
 | .pointer (some ⟨b, _, _⟩) => b
 | _ => 0
def capN (v : Value) : Nat := match v with
 | .slice _ _ c => c
 | _ => 0
def argV (a : Array Value) (i : Nat) : Value := match nth a.toList i with
 | some v => v
 | _ => undef
theorem b_and (b c : Bool) : ((bif b then c else false) = true) = (b = true ∧ c = true) := by cases b <;> cases c <;> simp
theorem b_or (b c : Bool) : ((bif b then true else c) = true) = (b = true ∨ c = true) := by cases b <;> cases c <;> simp
theorem b_not (b : Bool) : ((!b) = true) = ¬ (b = true) := by cases b <;> simp
theorem b_f (b : Bool) : (b = false) = ¬ (b = true) := by cases b <;> simp
theorem b_and' (b c : Bool) : ((b && c) = true) = (b = true ∧ c = true) := by cases b <;> cases c <;> simp
theorem b_or' (b c : Bool) : ((b || c) = true) = (b = true ∨ c = true) := by cases b <;> cases c <;> simp
theorem b_tt : (true = true) = True := by simp
theorem b_ft : (false = true) = False := by simp
theorem q_lt (a b : Int) : (Ex.ltQ a b = true) = (a < b) := by rw [Ex.ltQ_eq]; simp
theorem q_le (a b : Int) : (Ex.leQ a b = true) = (a ≤ b) := by rw [Ex.leQ_eq]; simp
theorem q_eq (a b : Int) : (Ex.eqQ a b = true) = (a = b) := by rw [Ex.eqQ_eq]; simp
theorem leafL_next {σ : Type} {c : LoopC} {ks : List Nat} {slots : σ → List (Nat × Value)} {mem : σ → List Blk} {ok : σ → Prop} {μ : σ → Nat} {s : σ} {n : Nat} {vs : List Value} {L : List Blk}
  (s' : σ) (hn : n = c.n) (hok : ok s') (hμ : μ s' < μ s) (hz : ks.zip vs = slots s') (pk : List Nat) (hpk : pk.Nodup) (hp : pickL L pk = mem s') : leafL c ks slots mem ok μ s (.normal, n, vs, L) :=
 ⟨hn, .inl ⟨rfl, s', hok, hμ, hz, pk, hpk, hp⟩⟩
theorem leafL_end {σ : Type} {c : LoopC} {ks : List Nat} {slots : σ → List (Nat × Value)} {mem : σ → List Blk} {ok : σ → Prop} {μ : σ → Nat} {s : σ} {x : Exit} {n : Nat} {vs : List Value} {L : List Blk}
  (i : Nat) {o : OutM × Exit × (List Let → List (Nat × Value))} (ho : c.outs[i]? = some o) (hx : x = o.2.1) (hne : x ≠ .normal) (hn : n = c.n) (ns : List Let) (hm : ns.length = c.mem.m) (q : List Nat) (hq : o.2.2 ns = q.filterMap fun i => (ks.zip vs)[i]?)
  (pk : List Nat) (hpk : pk.Nodup) (hf : fitsB (pickL L pk) (o.1.nw ns ++ o.1.nb ns)) (hh : o.1.hyp ns) : leafL c ks slots mem ok μ s (x, n, vs, L) :=
 ⟨hn, .inr ⟨hne, o, List.mem_of_getElem? ho, hx, ns, hm, ⟨q, hq⟩, ⟨pk, hpk, hf⟩, hh⟩⟩
theorem inc_q (k : Nat) (h : k < 9223372036854775807) : Ex.wrapQ .i64 (Ex.addQ (k : Int) 1) = ((k + 1 : Nat) : Int) := by
 rw [Ex.wrapQ_eq, Ex.addQ_eq]
 simp [IntKind.wrap, IntKind.signed, IntKind.bits]
 omega
def loopsOf : Code → List Code
 | .loop c => c :: loopsOf c
 | .seq a b => loopsOf a ++ loopsOf b
 | .block _ c | .scope c => loopsOf c
 | .cond _ a b => loopsOf a ++ loopsOf b
 | _ => []
def loopBody (f : Func) (k : Nat) : Code := match f.body with
 | some c => (loopsOf c).getD k .skip
 | none => .skip
def plainC (f : FuncId) (args : Array Value) (v : Value) : CallC := ⟨f, args, True, ⟨[], [], 0, []⟩, [plainO v]⟩
end Go.Proofs.YtlpcnaeknbmjdaaGreat.Sy
namespace Go.Proofs.YtlpcnaeknbmjdaaGreat.Sy
open Go Go.RowKit
open Ev (calm one)
variable {α : Type}
abbrev OpF (α : Type) := Option G → F → List Blk → (Option G → F → List Blk → T α) → T α
structure OpB (α : Type) where
 f : CallE α → OpF α
def OpB.run (b : OpB α) : CallE α → OpF α := @OpB.rec α (fun _ => CallE α → OpF α) (fun f => f) b
structure CodeB (α : Type) where
 f : CallE α → Nat → PieceE α
def CodeB.run (b : CodeB α) : CallE α → Nat → PieceE α := @CodeB.rec α (fun _ => CallE α → Nat → PieceE α) (fun f => f) b
section ops
variable (P : Program) (S : Ctx) (fn : FuncId) (ops : Array Oper)
def genB (i : Nat) : OpB α := ⟨fun call g a L c => evAtG P S fn call ops i g a L c⟩
def elseF (o : Oper) (call : CallE α) (a : F) (L : List Blk) (c : Option G → F → List Blk → T α) : T α := doOp P call o a L (c none)
def argsE (a : F) : List Operand → List Value
 | [] => []
 | x :: r => a.eval x :: argsE a r
def callB (d : Option Nat) (f : FuncId) (args : List Operand) : OpB α := ⟨fun call _ a L c => call f (Array.mk (argsE a args)) L fun v L' => c none (a.put d v) L'⟩
def valOpB (o : Oper) (d : Nat) : OpB α := ⟨fun call _ a L c => (valB P o).run a L (fun v => c none (a.put (some d) v) L) (elseF P o call a L c)⟩
def storeK (L : List Blk) (b off : Nat) (u : Value) (a : F) (c : Option G → F → List Blk → T α) : T α := pickT L b fun p j => reqP (one u) (one u = true) (putT L p j ⟨b, off, none⟩ u fun L' => c none (a.put none undef) L')
def storeF (o : Oper) (call : CallE α) (v u : Value) (a : F) (L : List Blk) (c : Option G → F → List Blk → T α) : T α := match v with
 | .pointer (some ⟨b, off, none⟩) => match u with
   | .agg _ => elseF P o call a L c
   | .tuple _ => elseF P o call a L c
   | u => storeK L b off u a c
 | _ => elseF P o call a L c
def storeB (o : Oper) (x v : Operand) : OpB α := ⟨fun call _ a L c => storeF P o call (a.eval x) (a.eval v) a L c⟩
def allocB (d t : Nat) (z : Value) : OpB α := ⟨fun _ _ a L c => .ask fun x => c none (a.put (some d) (.pointer (some ⟨x.n, 0, none⟩))) (⟨x.n, .obj (.cells z.cells t (0, 0)), true⟩ :: L)⟩
def zeroP (t : TypeId) : Option Value := match P.info? t with
 | some i => i.zero
 | none => none
def namedP (f : FuncId) : Bool := match P.funcs[f]? with
 | some fn => match fn.body with
   | some _ => match fn.name == "runtime.NumGoroutine" with
     | true => false
     | false => true
   | none => false
 | none => false
def doB (o : Oper) : OpB α := ⟨fun call _ a L c => doOp P call o a L (c none)⟩
def freeB (o : Oper) : OpB α := match o.dst with
 | none => match o.op with
   | .store t x v => match sizeP P t with
     | some n => match Nat.beq n 1 with
       | true => storeB P o x v
       | false => doB P o
     | none => doB P o
   | .call c => match c.callee with
     | .value (.func f) => match namedP P f with
       | true => callB none f c.args.toList
       | false => doB P o
     | _ => doB P o
   | _ => doB P o
 | some d => match o.op with
   | .alloc t => match zeroP P t with
     | some z => allocB d t z
     | none => doB P o
   | .call c => match c.callee with
     | .value (.func f) => match namedP P f with
       | true => callB (some d) f c.args.toList
       | false => doB P o
     | .builtin .len => valOpB P o d
     | _ => doB P o
   | _ => valOpB P o d
def yesF (d : Option Nat) (c : Option G → F → List Blk → T α) (a : F) (L : List Blk) : T α := c none (a.put d undef) L
def condB (o : Oper) (t : Nat) (want : Bool) (b : Bool) (call : CallE α) (a : F) (L : List Blk) (c : Option G → F → List Blk → T α) : T α := match want with
 | true => .cond b ((freeB P o).run call none (a.put (some t) (.bool true)) L c) (yesF o.dst c (a.put (some t) (.bool false)) L)
 | false => .cond b (yesF o.dst c (a.put (some t) (.bool true)) L) ((freeB P o).run call none (a.put (some t) (.bool false)) L c)
def guardF (i : Nat) (o : Oper) (t : Nat) (want gr : Bool) (call : CallE α) (g : Option G) (a : F) (L : List Blk) (c : Option G → F → List Blk → T α) : T α := match g with
 | some _ => evAtG P S fn call ops i g a L c
 | none => match a.get t with
   | .bool b => match gr with
     | true => litT b (condB P o t want b call a L c) (heldG P ops L none a o fun g' a' => c g' a' L)
     | false => condB P o t want b call a L c
   | _ => evAtG P S fn call ops i g a L c
def dstAt (j : Nat) : Option Nat := match ops[j]? with
 | some oj => oj.dst
 | none => none
def guardB (i : Nat) (o : Oper) (j : Nat) (want : Bool) : OpB α := match dstAt ops j with
 | some t => match groupOk ops o with
   | true => ⟨fun call g a L c => guardF P S fn ops i o t want true call g a L c⟩
   | false => ⟨fun call g a L c => guardF P S fn ops i o t want false call g a L c⟩
 | none => genB P S fn ops i
def isPick (o : Oper) : Bool := match o.op with
 | .pick .. => true
 | _ => false
def opB (i : Nat) (o : Oper) : OpB α := match S.op fn (keyOf o) with
 | _ :: _ => genB P S fn ops i
 | [] => match isPick o with
   | true => genB P S fn ops i
   | false => match o.guard with
     | none => freeB P o
     | some (j, want) => guardB P S fn ops i o j want
def opsB (l : List Oper) : Nat → List (OpB α) := @List.rec Oper (fun _ => Nat → List (OpB α)) (fun _ => []) (fun o _ ih i => opB P S fn ops i o :: ih (Nat.add i 1)) l
end ops
def runB (call : CallE α) (c : F → List Blk → T α) (l : List (OpB α)) : Option G → F → List Blk → T α :=
 @List.rec (OpB α) (fun _ => Option G → F → List Blk → T α) (fun _ a L => c a L) (fun b _ ih g a L => b.run call g a L ih) l
def Fits (P : Program) (S : Ctx) (fn : FuncId) (ops : Array Oper) (i : Nat) (b : OpB α) : Prop :=
 ∀ (call : CallE α) (g : Option G) (a : F) (L : List Blk) (c : Option G → F → List Blk → T α) (K : α → Prop), (b.run call g a L c).all K → (evAtG P S fn call ops i g a L c).all K
section
variable {P : Program} {S : Ctx} {fn : FuncId} {ops : Array Oper} {i : Nat} {o : Oper}
theorem fits_gen : Fits P S fn ops i (genB P S fn ops i : OpB α) := fun _ _ _ _ _ _ h => h
structure Plain (S : Ctx) (fn : FuncId) (ops : Array Oper) (i : Nat) (o : Oper) : Prop where
 at_ : ops[i]? = some o
 guard : o.guard = none
 op : S.op fn (keyOf o) = []
 pick : ∀ x y z, o.op ≠ .pick x y z
theorem Plain.eq (h : Plain S fn ops i o) (call : CallE α) (g : Option G) (a : F) (L : List Blk) (c : Option G → F → List Blk → T α) : evAtG P S fn call ops i g a L c = doOp P call o a L (c none) := by
 have hn : nth ops.toList i = some o := by rw [nth_eq, Array.getElem?_toList]; exact h.at_
 have hg : guardOf a ops o = .free := by unfold guardOf; rw [h.guard]
 have e1 : evAt P S fn call ops i a L (c none) = doOp P call o a L (c none) := by
  unfold evAt
  simp only [hn]
  unfold guardT
  simp only [hg]
  unfold evOp
  simp only [h.op]
 unfold evAtG
 simp only [hn, hg]
 rw [← e1]
 cases g with
 | none => rfl
 | some g =>
   cases ho : o.op <;> first | rfl | exact absurd ho (h.pick _ _ _)
def FitsD (P : Program) (o : Oper) (b : OpB α) : Prop :=
 ∀ (call : CallE α) (g : Option G) (a : F) (L : List Blk) (c : Option G → F → List Blk → T α) (K : α → Prop), (b.run call g a L c).all K → (doOp P call o a L (c none)).all K
theorem fits_of (h : Plain S fn ops i o) {b : OpB α} (hb : FitsD P o b) : Fits P S fn ops i b :=
 fun call g a L c K hx => by rw [h.eq]; exact hb call g a L c K hx
theorem fits_val {d : Nat} (hd : o.dst = some d) : FitsD P o (valOpB P o d : OpB α) := fun call g a L c K hx => by
 refine valB_do ?_
 rw [hd]
 exact hx
theorem argsE_eq (a : F) : ∀ l : List Operand, argsE a l = l.map a.eval
 | [] => rfl
 | x :: r => by simp only [argsE, List.map_cons, argsE_eq a r]
theorem fits_call {d : Option Nat} {f : FuncId} {cl : Call} (hd : o.dst = d) (ho : o.op = .call cl) (hc : cl.callee = .value (.func f)) (hf : namedP P f = true) : FitsD P o (callB d f cl.args.toList : OpB α) := fun call g a L c K hx => by
 have e : doing P a.eval o = .call f (cl.args.map a.eval) := by
  have : callOf P a.eval o = some (f, cl.args.map a.eval) := by
   unfold namedP at hf
   unfold callOf
   simp only [ho, hc]
   split at hf
   ·rename_i fn' hfn
    simp only [hfn]
    split at hf
    ·rename_i b hb
     simp only [hb]
     split at hf
     ·cases hf
     ·rename_i hn
      simp only [hn]
    ·cases hf
   ·cases hf
  unfold doing
  simp only [ho, this]
 refine doOp_of ?_
 unfold doOp0
 rw [e, hd]
 have ea : cl.args.map a.eval = Array.mk (argsE a cl.args.toList) := by
  rw [argsE_eq]
  apply Array.ext'
  simp
 simp only [ea]
 exact hx
theorem fits_store {t : TypeId} {x v : Operand} (hd : o.dst = none) (ho : o.op = .store t x v) (hs : sizeP P t = some 1) : FitsD P o (storeB P o x v : OpB α) := fun call g a L c K hx => by
 change (storeF P o call (a.eval x) (a.eval v) a L c).all K at hx
 unfold storeF at hx
 split at hx
 ·rename_i b off hv
  have key : ∀ u : Value, a.eval v = u → (∀ l, u ≠ .agg l) → (∀ l, u ≠ .tuple l) → (storeK L b off u a c).all K → (doOp P call o a L (c none)).all K := fun u hu h1 h2 hx => by
   have e : doing P a.eval o = .store b off u := by
    have : storeOf P a.eval o = some (b, off, u) := by
     unfold storeOf
     simp only [ho, hv, hu]
     cases u <;> first | exact absurd rfl (h1 _) | exact absurd rfl (h2 _) | (simp only [hs]; try rfl)
    unfold doing
    simp only [ho, this]
   refine doOp_of ?_
   unfold doOp0
   rw [e, hd]
   exact hx
  split at hx
  ·exact hx
  ·exact hx
  ·rename_i u h1 h2
   exact key _ rfl (fun l hl => h1 l hl) (fun l hl => h2 l hl) hx
 ·exact hx
theorem fits_alloc {d t : Nat} {z : Value} (hd : o.dst = some d) (ho : o.op = .alloc t) (hz : zeroP P t = some z) : FitsD P o (allocB d t z : OpB α) := fun call g a L c K hx => by
 have e : doing P a.eval o = .gen := by
  unfold doing
  simp only [ho]
 refine doOp_of ?_
 unfold doOp0
 rw [e]
 unfold zeroP at hz
 split at hz
 ·rename_i inf hi
  have ex : execOp a.eval o = allocS t := by
   unfold execOp
   rw [ho]
   rfl
  unfold genOp
  rw [ex]
  show (lrun P (((((match P.info? t with
    | some i => (Sem.pure i : Sem TypeInfo)
    | none => stuck "no such type").bind fun i => match i.zero with
    | some v => (Sem.pure v : Sem Value)
    | none => unsupported (.resourceLimit "a value of more than 2^22 cells")).bind fun z => (((Sem.new (.cells z.cells t) fun r => Sem.pure r).bind fun r => Sem.pure (⟨r, 0, none⟩ : Addr)).bind fun ad => Sem.pure (Value.pointer (some ad)))).bind fun v => Sem.pure (Next.value v))) (zerosOf P o) L (stepO call o a (c none))).all K
  rw [hi]
  show (lrun P ((((match inf.zero with
    | some v => (Sem.pure v : Sem Value)
    | none => unsupported (.resourceLimit "a value of more than 2^22 cells")).bind fun z => (((Sem.new (.cells z.cells t) fun r => Sem.pure r).bind fun r => Sem.pure (⟨r, 0, none⟩ : Addr)).bind fun ad => Sem.pure (Value.pointer (some ad)))).bind fun v => Sem.pure (Next.value v))) (zerosOf P o) L (stepO call o a (c none))).all K
  rw [hz]
  intro x
  have hx := hx x
  show (c none (a.put o.dst _) _).all K
  rw [hd]
  exact hx
 ·cases hz
theorem fits_do : FitsD P o (doB P o : OpB α) := fun _ _ _ _ _ _ h => h
theorem fits_free : FitsD P o (freeB P o : OpB α) := by
 unfold freeB
 split
 ·rename_i hd
  split
  ·rename_i t x v ho
   split
   ·rename_i n hn
    split
    ·rename_i h1
     have h1 := Nat.eq_of_beq_eq_true h1
     subst h1
     exact fits_store hd ho hn
    ·exact fits_do
   ·exact fits_do
  ·rename_i cl ho
   split
   ·rename_i f hc
    split
    ·rename_i hf
     exact fits_call hd ho hc hf
    ·exact fits_do
   ·exact fits_do
  ·exact fits_do
 ·rename_i d hd
  split
  ·rename_i t ho
   split
   ·rename_i z hz
    exact fits_alloc hd ho hz
   ·exact fits_do
  ·rename_i cl ho
   split
   ·rename_i f hc
    split
    ·rename_i hf
     exact fits_call hd ho hc hf
    ·exact fits_do
   ·exact fits_val hd
   ·exact fits_do
  ·exact fits_val hd
theorem fits_guard (h : ops[i]? = some o) {j : Nat} {want : Bool} (hg : o.guard = some (j, want)) (hop : S.op fn (keyOf o) = []) : Fits P S fn ops i (guardB P S fn ops i o j want : OpB α) := by
 have hn : nth ops.toList i = some o := by rw [nth_eq, Array.getElem?_toList]; exact h
 unfold guardB
 split
 ·rename_i t ht
  have hgo : ∀ (a : F) (b : Bool), a.get t = .bool b → guardOf a ops o = .test t b want := fun a b hb => by
   unfold dstAt at ht
   split at ht
   ·rename_i oj hj
    have hj' : nth ops.toList j = some oj := by rw [nth_eq, Array.getElem?_toList]; exact hj
    unfold guardOf
    simp only [hg, hj', ht, hb]
   ·cases ht
  have main : ∀ (gr : Bool), groupOk ops o = gr → Fits P S fn ops i (⟨fun call g a L c => guardF P S fn ops i o t want gr call g a L c⟩ : OpB α) := fun gr hgr call g a L c K hx => by
   change (guardF P S fn ops i o t want gr call g a L c).all K at hx
   unfold guardF at hx
   split at hx
   ·exact hx
   ·split at hx
    ·rename_i b hb
     have e := hgo a b hb
     have cnd : (condB P o t want b call a L c).all K → (evAt P S fn call ops i a L (c none)).all K := fun hx => by
      unfold evAt
      simp only [hn]
      unfold guardT
      simp only [e]
      unfold condB at hx
      have ev0 : ∀ a : F, evOp P S fn call o a L (c none) = doOp P call o a L (c none) := fun a => by
       unfold evOp
       simp only [hop]
      cases want with
      | true => exact ⟨fun hb => by rw [ev0]; exact fits_free call none _ L c K (hx.1 hb), fun hb => hx.2 hb⟩
      | false => exact ⟨fun hb => hx.1 hb, fun hb => by rw [ev0]; exact fits_free call none _ L c K (hx.2 hb)⟩
     unfold evAtG
     simp only [hn, e, hgr]
     split at hx
     ·rcases litT_spec hx with hx | hx
      ·exact ⟨0, cnd hx⟩
      ·exact ⟨1, hx⟩
     ·exact cnd hx
    ·exact hx
  split
  ·rename_i hgr
   exact main true hgr
  ·rename_i hgr
   exact main false hgr
 ·exact fits_gen
theorem fits_op (h : ops[i]? = some o) : Fits P S fn ops i (opB P S fn ops i o : OpB α) := by
 unfold opB
 split
 ·exact fits_gen
 ·rename_i hop
  split
  ·exact fits_gen
  ·rename_i hp
   have hpk : ∀ x y z, o.op ≠ .pick x y z := fun x y z he => by
    unfold isPick at hp
    rw [he] at hp
    cases hp
   split
   ·rename_i hg
    exact fits_of ⟨h, hg, hop, hpk⟩ fits_free
   ·rename_i j want hg
    exact fits_guard h hg hop
end
section code
variable (P : Program) (S : Ctx) (fn : FuncId)
def seqF (y : PieceE α) (c : Exit → F → List Blk → T α) (r : Exit) (a : F) (L : List Blk) : T α := match r with
 | .normal => y a L c
 | r => c r a L
def condF (b : Operand) (x y : PieceE α) (a : F) (L : List Blk) (c : Exit → F → List Blk → T α) : T α := match b with
 | .tmp s => match a.get s with
   | .bool t => .cond t (x (a.put (some s) (.bool true)) L c) (y (a.put (some s) (.bool false)) L c)
   | _ => .fail
 | b => match a.eval b with
   | .bool t => .cond t (x a L c) (y a L c)
   | _ => .fail
def blockF (id : Nat) (c : Exit → F → List Blk → T α) (r : Exit) (a : F) (L : List Blk) : T α := match r with
 | .exit id' => match Nat.beq id' id with
   | true => c .normal a L
   | false => c (.exit id') a L
 | r => c r a L
def againF (ih : F → List Blk → T α) (c : Exit → F → List Blk → T α) (x : Exit) (a : F) (L : List Blk) : T α := match x with
 | .normal => ih a L
 | x => c x a L
def roundsF (f : PieceE α) (c : Exit → F → List Blk → T α) (m : Nat) : F → List Blk → T α :=
 @Nat.rec (fun _ => F → List Blk → T α) (fun _ _ => .fail) (fun k ih a L => match Nat.beq (Nat.mod k 4) 0 with
  | true => forceL (compactW 0 a.w) fun w => f ⟨a.n, w⟩ L fun x a1 L1 => againF ih c x a1 L1
  | false => f a L fun x a1 L1 => againF ih c x a1 L1) m
def loopF (x : Code) (f : PieceE α) (n : Nat) (a : F) (L : List Blk) (c : Exit → F → List Blk → T α) : T α := match S.lp fn with
 | k :: ks => .or (.num ((k :: ks).length + 1)) fun j => match nth (k :: ks) j with
   | some k => loopBy (k a L) (.loop x) a L c
   | none => roundsF f c n a L
 | [] => roundsF f c n a L
def codeB (x : Code) : CodeB α := @Code.rec (fun _ => CodeB α)
 ⟨fun _ _ a L c => c .normal a L⟩
 (fun id ops d => match d with
  | false => ⟨fun call _ a L c => runB call (fun a' L' => c .normal a' L') (opsB P S fn ops ops.toList 0) none a L⟩
  | true => ⟨fun call _ a L c => anyF P S fn id ops call a L c⟩)
 (fun _ _ ihx ihy => ⟨fun call n a L c => ihx.run call n a L fun r a1 L1 => seqF (ihy.run call n) c r a1 L1⟩)
 (fun b _ _ ihx ihy => ⟨fun call n a L c => condF b (ihx.run call n) (ihy.run call n) a L c⟩)
 (fun id _ ih => ⟨fun call n a L c => ih.run call n a L fun r a1 L1 => blockF id c r a1 L1⟩)
 (fun x ih => ⟨fun call n a L c => loopF S fn x (ih.run call n) n a L c⟩)
 (fun _ _ _ _ _ _ => ⟨fun _ _ _ _ _ => .fail⟩)
 (fun id => ⟨fun _ _ a L c => c (.exit id) a L⟩)
 (fun _ _ => ⟨fun _ _ _ _ _ => .fail⟩)
 (fun _ => ⟨fun _ _ a L c => c .normal a L⟩)
 (fun _ => ⟨fun _ _ _ _ _ => .fail⟩)
 ⟨fun _ _ a L c => c .ret a L⟩
 (fun _ => ⟨fun _ _ _ _ _ => .fail⟩)
 x
structure FnB (α : Type) where
 f : CallE α → Nat → Array Value → List Blk → (Value → List Blk → T α) → T α
def FnB.run (b : FnB α) : CallE α → Nat → Array Value → List Blk → (Value → List Blk → T α) → T α := @FnB.rec α (fun _ => CallE α → Nat → Array Value → List Blk → (Value → List Blk → T α) → T α) (fun f => f) b
def retF (rs : List ResultVar) (c : Value → List Blk → T α) (x : Exit) (a : F) (L : List Blk) : T α := match x with
 | .normal => resT P a.get L rs fun l => c (oneV l) L
 | .ret => resT P a.get L rs fun l => c (oneV l) L
 | _ => .fail
def fnB (f : FuncId) : FnB α := match nth P.funcs.toList f with
 | none => ⟨fun _ _ _ _ _ => .fail⟩
 | some fc => match fc.body with
   | none => ⟨fun _ _ _ _ _ => .fail⟩
   | some b => ⟨fun call n args L c => (codeB P S f b).run call n (F.init args fc.ntmps) L fun x a L' => retF P fc.results.toList c x a L'⟩
def fnC (f : FuncId) : FnB α := match S.cl f with
 | k :: ks => ⟨fun call n args L c => .or (.num ((k :: ks).length + 1)) fun j => match nth (k :: ks) j with
   | some k => match Nat.decEq (k args L).f f with
     | .isTrue _ => metBy (k args L) args L c
     | .isFalse _ => .fail
   | none => (fnB P S f).run call n args L c⟩
 | [] => fnB P S f
end code
section sound
variable {P : Program} {S : Ctx} {w0 : World} {keep : Nat → Prop} {K : α → Prop}
theorem runB_sound (hS : S.holds P) {fn : FuncId} {call : CallE α} (hs : SoundC P w0 keep K call) {ops : Array Oper} {Q : Exit → Act → World → Prop} {c : F → List Blk → T α} (hQ : ∀ a' L' b' W', (c a' L').all K → RelF a' b' → Rep w0 keep L' W' → Q .normal b' W') :
  ∀ (l : List Oper) (i : Nat), (∀ j o, l[j]? = some o → ops[i + j]? = some o) → i + l.length = ops.size → ∀ {g : Option G} {a : F} {L : List Blk}, (runB call c (opsB P S fn ops l i) g a L).all K →
  ∀ {b : Act} {W : World}, RelF a b → Inv g b → Rep w0 keep L W → wpOps P ops Q (List.range' i l.length) b W
 | [], i, _, _, g, a, L, h, b, W, hf, _, hr => hQ _ _ _ _ h hf hr
 | o :: l, i, hl, hn, g, a, L, h, b, W, hf, hi, hr => by
   have h0 := hl 0 o rfl
   rw [List.length_cons, List.range'_succ, wpOps_cons]
   have h : ((opB P S fn ops i o).run call g a L (runB call c (opsB P S fn ops l (i + 1)))).all K := h
   refine evAtG_sound hS hs (c := runB call c (opsB P S fn ops l (i + 1))) (fits_op (by simpa using h0) call g a L _ K h) hf hi hr fun g' a' L' b' W' hk hf' hi' hr' => ?_
   exact runB_sound hS hs hQ l (i + 1) (fun j u hu => by
    have := hl (j + 1) u (by simpa using hu)
    rw [← this]
    congr 1
    omega) (by rw [List.length_cons] at hn; omega) hk hf' hi' hr'
theorem roundsF_sound {x : Code} {f : PieceE α} (hf : SoundE P w0 keep K x f) {c : Exit → F → List Blk → T α} : ∀ (m : Nat) (a : F) (L : List Blk), (roundsF f c m a L).all K →
  ∀ b W, RelF a b → Rep w0 keep L W → Code.rounds P x (Post w0 keep K c) m b W
 | 0, a, L, h, b, W, _, _ => h.elim
 | m + 1, a, L, h, b, W, hrel, hr => by
   rw [rounds_succ]
   have hg : ∃ a', RelF a' b ∧ (f a' L fun x a1 L1 => againF (roundsF f c m) c x a1 L1).all K := by
    change (match Nat.beq (Nat.mod m 4) 0 with
     | true => forceL (compactW 0 a.w) fun w => f ⟨a.n, w⟩ L fun x a1 L1 => againF (roundsF f c m) c x a1 L1
     | false => f a L fun x a1 L1 => againF (roundsF f c m) c x a1 L1).all K at h
    split at h
    ·rw [forceL_eq] at h
     exact ⟨_, RelF.shorten hrel, h⟩
    ·exact ⟨_, hrel, h⟩
   obtain ⟨a', hrel', h⟩ := hg
   refine wp_mono (hf _ _ _ h b W hrel' hr) ?_
   rintro x a2 W2 ⟨hx, g, L2, h, hrel2, hr2⟩
   cases x with
   | normal => exact roundsF_sound hf m _ _ h a2 W2 hrel2 hr2
   | _ => exact ⟨hx, g, L2, h, hrel2, hr2⟩
theorem codeB_sound (hS : S.holds P) (hP : P.follows .mixedOrders = true) (fn : FuncId) {call : CallE α} (hss : ∀ w0 keep, SoundC P w0 keep K call) (n : Nat) : ∀ x : Code, SoundE P w0 keep K x ((codeB P S fn x).run call n) := by
 have hs : SoundC P w0 keep K call := hss w0 keep
 intro x
 induction x with
 | skip => intro a L c h b W hrel hr; exact wp_skip ⟨rfl, _, _, h, hrel, hr⟩
 | region id ops d =>
   cases d with
   | false =>
     intro a L c h b W hrel hr
     have h : (runB call (fun a' L' => c .normal a' L') (opsB P S fn ops ops.toList 0) none a L).all K := h
     refine wp_region ?_
     have := runB_sound hS hs (Q := Post w0 keep K c) (c := fun a' L' => c .normal a' L') (fun a' L' b' W' hk hb' hr' => ⟨rfl, _, _, hk, hb', hr'⟩) ops.toList 0 (fun j o ho => by rw [Nat.zero_add]; simpa using ho) (by simp) h hrel (Inv.none _) hr
     rw [Array.length_toList, ← List.range_eq_range'] at this
     exact this
   | true =>
     intro a L c h b W hrel hr
     exact anyF_sound hS hP hss id ops _ _ _ h b W hrel hr
 | seq x y ihx ihy =>
   intro a L c h b W hrel hr
   refine wp_seq (wp_mono (ihx _ _ _ h b W hrel hr) ?_)
   rintro x a2 W2 ⟨hx, g2, L2, h, hrel2, hr2⟩
   cases x with
   | normal => exact ihy _ _ _ h a2 W2 hrel2 hr2
   | _ => exact ⟨hx, _, _, h, hrel2, hr2⟩
 | cond c x y ihx ihy =>
   intro a L k h b W hrel hr
   change (condF c ((codeB P S fn x).run call n) ((codeB P S fn y).run call n) a L k).all K at h
   unfold condF at h
   split at h
   ·rename_i s
    split at h
    ·rename_i t hb
     have hb' : b.eval (.tmp s) = .bool t := by rw [← hrel.eval]; exact hb
     cases t with
     | true => exact wp_cond_true hb' (ihx _ _ _ (h.1 rfl) b W (hrel.same hb) hr)
     | false => exact wp_cond_false hb' (ihy _ _ _ (h.2 rfl) b W (hrel.same hb) hr)
    ·exact h.elim
   ·split at h
    ·rename_i t hb
     rw [hrel.eval] at hb
     cases t with
     | true => exact wp_cond_true hb (ihx _ _ _ (h.1 rfl) b W hrel hr)
     | false => exact wp_cond_false hb (ihy _ _ _ (h.2 rfl) b W hrel hr)
    ·exact h.elim
 | block id x ih =>
   intro a L c h b W hrel hr
   refine wp_block (wp_mono (ih _ _ _ h b W hrel hr) ?_)
   rintro x a2 W2 ⟨hx, g2, L2, h, hrel2, hr2⟩
   cases x with
   | exit id' =>
     simp only [blockF] at h
     split at h
     ·rename_i hid
      have hid := Nat.eq_of_beq_eq_true hid
      simp only [Exit.inBlock, hid, if_true]
      exact ⟨rfl, _, _, h, hrel2, hr2⟩
     ·rename_i hid
      have hid : ¬ id' = id := fun he => by rw [he, Nat.beq_refl] at hid; cases hid
      simp only [Exit.inBlock, hid, if_false]
      exact ⟨rfl, _, _, h, hrel2, hr2⟩
   | normal => exact ⟨hx, _, _, h, hrel2, hr2⟩
   | ret => exact ⟨hx, _, _, h, hrel2, hr2⟩
   | _ => simp [calm] at hx
 | loop x ih =>
   intro a L c h b W hrel hr
   change (loopF S fn x ((codeB P S fn x).run call n) n a L c).all K at h
   unfold loopF at h
   split at h
   ·rename_i k ks hlp
    obtain ⟨j, h⟩ := h
    dsimp only at h
    split at h
    ·rename_i k' hj
     rw [nth_eq] at hj
     exact loopBy_sound (hS.lp fn k' (by rw [hlp]; exact List.mem_of_getElem? hj) a L) h hrel hr
    ·exact wp_loop_rounds n (roundsF_sound ih n _ _ h b W hrel hr)
   ·exact wp_loop_rounds n (roundsF_sound ih n _ _ h b W hrel hr)
 | exit id => intro a L c h b W hrel hr; exact wp_exit ⟨rfl, _, _, h, hrel, hr⟩
 | label l => intro a L c h b W hrel hr; exact wp_label ⟨rfl, _, _, h, hrel, hr⟩
 | ret => intro a L c h b W hrel hr; exact wp_ret ⟨rfl, _, _, h, hrel, hr⟩
 | rangeFunc f ps x y _ _ => intro a L c h; exact h.elim
 | scope x _ => intro a L c h; exact h.elim
 | goto l => intro a L c h; exact h.elim
 | refuse s => intro a L c h; exact h.elim
theorem fnB_sound (hS : S.holds P) (hP : P.follows .mixedOrders = true) {call : CallE α} (hs : ∀ w0 keep, SoundC P w0 keep K call) (n : Nat) {f : FuncId} {args : Array Value} {L : List Blk} {c : Value → List Blk → T α} (h : ((fnB P S f).run call n args L c).all K) (W : World) (hr : Rep w0 keep L W) :
  Calls P f args W fun en W' => ∃ v L', en = .returned v ∧ Rep w0 keep L' W' ∧ (c v L').all K := by
 unfold fnB at h
 rw [nth_eq, Array.getElem?_toList] at h
 split at h
 ·exact h.elim
 ·rename_i fc hfn
  split at h
  ·exact h.elim
  ·rename_i x hb
   refine calls_of_wp hfn hb (wp_mono (codeB_sound hS hP f hs n x _ _ _ h _ W (RelF.init args fc.ntmps) hr) ?_)
   rintro x a2 W2 ⟨-, g2, L2, h, hrel2, hr2⟩
   have key : (resT P g2.get L2 fc.results.toList fun l => c (oneV l) L2).all K → bodyPost P fc (fun en W' => ∃ v L', en = .returned v ∧ Rep w0 keep L' W' ∧ (c v L').all K) .ret a2 W2 := fun h => by
    obtain ⟨l, hk, hrun⟩ := resT_spec (fun p hp => (hr2.blk p hp).1) h
    have hrun := resF_run (fn := fc) (hrun W2 (fun p hp => (hr2.blk p hp).1))
    rw [← resF_eq hrel2] at hrun
    exact ⟨hrel2.defers, _, hrun, _, L2, rfl, hr2, hk⟩
   cases x with
   | normal => exact key h
   | ret => exact key h
   | _ => exact h.elim
end sound
section
variable {P : Program} {S : Ctx}
end
end Go.Proofs.YtlpcnaeknbmjdaaGreat.Sy
namespace Go.Proofs.YtlpcnaeknbmjdaaGreat.Sy
open Go Go.RowKit
variable {α : Type}
def vnm (n : Nat) : Value → List Nat → List Nat := @Nat.rec (fun _ => Value → List Nat → List Nat) (fun _ acc => acc) (fun _ ih v acc => match v with
 | .pointer (some a) => a.block :: acc
 | .slice (some a) _ _ => a.block :: acc
 | .map (some r) => r :: acc
 | .chan (some r) => r :: acc
 | .agg c => c.toList.foldr ih acc
 | .tuple c => c.toList.foldr ih acc
 | .func _ f c => c.toList.foldr ih (f.toList.foldr ih acc)
 | .iface _ v => ih v acc
 | _ => acc) n
def contNm (ct : Cont) (acc : List Nat) : List Nat := match ct with
 | .obj (.cells c _ _) => c.toList.foldr (vnm 6) acc
 | .obj (.map es _) => es.toList.foldr (fun e acc => vnm 6 e.key (vnm 6 e.val acc)) acc
 | .obj (.mapIter (some r) _ _ _) => r :: acc
 | .obj _ => acc
 | .row _ size _ _ xs => match xs with
   | .int _ _ :: _ => match Nat.beq size 1 with
     | true => acc
     | false => xs.foldr (vnm 6) acc
   | _ => xs.foldr (vnm 6) acc
 | .seg _ xs => xs.foldr (vnm 6) acc
def memN (b : Nat) (l : List Nat) : Bool := @List.rec Nat (fun _ => Bool) false (fun x _ ih => match Nat.beq x b with
 | true => true
 | false => ih) l
def findC (b : Nat) (L : List Blk) (acc : List Nat) : List Nat := @List.rec Blk (fun _ => List Nat) acc (fun p _ ih => match Nat.beq p.nm b with
 | true => contNm p.ct acc
 | false => ih) L
def reachN (t : Nat) (L : List Blk) (n : Nat) : List Nat → List Nat → List Nat := @Nat.rec (fun _ => List Nat → List Nat → List Nat) (fun _ vis => vis) (fun _ ih work vis => match work with
 | [] => vis
 | b :: r => match Nat.ble t b with
   | false => ih r vis
   | true => match memN b vis with
     | true => ih r vis
     | false => ih (findC b L r) (b :: vis)) n
def topN (L : List Blk) : Nat := @List.rec Blk (fun _ => Nat) 0 (fun p _ ih => match Nat.ble ih p.nm with
 | true => Nat.succ p.nm
 | false => ih) L
def maskE (t : Nat) (vis : List Nat) (L : List Blk) : Nat := @List.rec Blk (fun _ => Nat) 1 (fun p _ m => match Nat.ble t p.nm with
 | false => match Nat.beq m 1 with
   | true => 1
   | false => Nat.add (Nat.mul 2 m) 1
 | true => match memN p.nm vis with
   | true => match Nat.beq m 1 with
     | true => 1
     | false => Nat.add (Nat.mul 2 m) 1
   | false => Nat.mul 2 m) L
def maskOf (L : List Blk) (v : Value) (L' : List Blk) : Nat := match topN L with
 | t => maskE t (reachN t L' 100000 (vnm 6 v []) []) L'
def maskK (L : List Blk) : Nat → (List Blk → T α) → T α := @List.rec Blk (fun _ => Nat → (List Blk → T α) → T α) (fun _ k => k []) (fun x r ih m k => match Nat.ble m 1 with
 | true => k (x :: r)
 | false => match Nat.beq (Nat.mod m 2) 1 with
   | true => ih (Nat.div m 2) fun l => k (x :: l)
   | false => ih (Nat.div m 2) k) L
theorem maskK_spec {K : α → Prop} : ∀ (L : List Blk) (m : Nat) (k : List Blk → T α), (maskK L m k).all K → ∃ L', List.Sublist L' L ∧ (k L').all K
 | [], m, k, h => ⟨[], List.Sublist.refl _, h⟩
 | x :: r, m, k, h => by
   change (match Nat.ble m 1 with
    | true => k (x :: r)
    | false => match Nat.beq (Nat.mod m 2) 1 with
      | true => maskK r (Nat.div m 2) fun l => k (x :: l)
      | false => maskK r (Nat.div m 2) k : T α).all K at h
   split at h
   ·exact ⟨_, List.Sublist.refl _, h⟩
   ·split at h
    ·obtain ⟨L', h1, h2⟩ := maskK_spec r _ _ h
     exact ⟨_, h1.cons_cons x, h2⟩
    ·obtain ⟨L', h1, h2⟩ := maskK_spec r _ _ h
     exact ⟨_, h1.cons x, h2⟩
def dropT (L : List Blk) (c : Value → List Blk → T α) (v : Value) (L' : List Blk) : T α := .or (.drop (maskOf L v L')) fun m => maskK L' m fun L2 => c v L2
theorem dropT_spec {K : α → Prop} {L : List Blk} {c : Value → List Blk → T α} {v : Value} {L' : List Blk} (h : (dropT L c v L').all K) : ∃ L2, List.Sublist L2 L' ∧ (c v L2).all K := by
 obtain ⟨m, h⟩ := h
 exact maskK_spec _ _ _ h
def oldNm (t : Nat) (L : List Blk) (acc : List Nat) : List Nat := @List.rec Blk (fun _ => List Nat) acc (fun p _ ih => match Nat.ble t p.nm with
 | true => ih
 | false => contNm p.ct ih) L
def maskO (L : List Blk) (v : Value) (L' : List Blk) : Nat := match topN L with
 | t => maskE t (reachN t L' 100000 (oldNm t L' (vnm 6 v [])) []) L'
def dropO (L : List Blk) (c : Value → List Blk → T α) (v : Value) (L' : List Blk) : T α := .or (.drop (maskO L v L')) fun m => maskK L' m fun L2 => c v L2
theorem dropO_spec {K : α → Prop} {L : List Blk} {c : Value → List Blk → T α} {v : Value} {L' : List Blk} (h : (dropO L c v L').all K) : ∃ L2, List.Sublist L2 L' ∧ (c v L2).all K := by
 obtain ⟨m, h⟩ := h
 exact maskK_spec _ _ _ h
structure MC where
 f : FuncId
 i : Nat
 k : Array Value → Cont → CallC
def findM (f : FuncId) (l : List MC) : Option MC := @List.rec MC (fun _ => Option MC) none (fun x _ ih => match Nat.beq x.f f with
 | true => some x
 | false => ih) l
theorem findM_spec {f : FuncId} {x : MC} : ∀ {l : List MC}, findM f l = some x → x ∈ l ∧ x.f = f
 | [], h => by cases h
 | y :: l, h => by
   change (match Nat.beq y.f f with
    | true => some y
    | false => findM f l) = some x at h
   split at h
   ·rename_i hb
    injection h with h
    subst h
    exact ⟨Sy.mH, Nat.eq_of_beq_eq_true hb⟩
   ·obtain ⟨h1, h2⟩ := findM_spec h
    exact ⟨Sy.mC _ h1, h2⟩
structure How where
 dr : FuncId → Bool
 st : FuncId → Bool
 mc : List MC
structure How.holds (P : Program) (H : How) : Prop where
 mc : ∀ x ∈ H.mc, ∀ a ct, Meets P (x.k a ct)
section
variable (P : Program) (S : Ctx) (dr : How)
def argM (a : Array Value) (i : Nat) : Nat := match nth a.toList i with
 | some (.slice (some ⟨b, _, _⟩) _ _) => b
 | some (.pointer (some ⟨b, _, _⟩)) => b
 | some (.agg c) => match c.toList with
   | .slice (some ⟨b, _, _⟩) _ _ :: _ => b
   | _ => 0
 | _ => 0
def mcT (x : MC) (f : FuncId) (args : Array Value) (L : List Blk) (c : Value → List Blk → T α) : T α := pickT L (argM args x.i) fun p _ => match x.k args p.ct with
 | k => match Nat.decEq k.f f with
   | .isTrue _ => metBy k args L c
   | .isFalse _ => .fail
def plainJ (ih : CallE α) (n : Nat) : CallE α := fun f args L c => match dr.dr f with
 | true => (fnC P S f).run ih n args L (dropT L c)
 | false => match dr.st f with
   | true => (fnC P S f).run ih n args L (dropO L c)
   | false => (fnC P S f).run ih n args L c
def callJ (n : Nat) : CallE α := @Nat.rec (fun _ => CallE α) (fun _ _ _ _ => .fail) (fun n ih f args L c => match findM f dr.mc with
 | some x => altT (mcT x f args L c) (plainJ P S dr ih n f args L c)
 | none => plainJ P S dr ih n f args L c) n
def shutJ (n : Nat) (f : FuncId) (args : Array Value) (L : List Blk) (v : Value) : T Unit := (fnB P S f).run (callJ P S dr n) n args L fun v' _ => .same (.val v') (.val v) (.ret ())
end
section sound
variable {P : Program} {S : Ctx} {dr : How} {w0 : World} {keep : Nat → Prop} {K : α → Prop}
theorem fnC_sound (hS : S.holds P) (hP : P.follows .mixedOrders = true) {call : CallE α} (hs : ∀ w0 keep, SoundC P w0 keep K call) (n : Nat) {f : FuncId} {args : Array Value} {L : List Blk} {c : Value → List Blk → T α} (h : ((fnC P S f).run call n args L c).all K) (W : World) (hr : Rep w0 keep L W) :
  Calls P f args W fun en W' => ∃ v L', en = .returned v ∧ Rep w0 keep L' W' ∧ (c v L').all K := by
 unfold fnC at h
 split at h
 ·rename_i k ks hcl
  obtain ⟨j, h⟩ := h
  dsimp only at h
  split at h
  ·rename_i k' hj
   rw [nth_eq] at hj
   split at h
   ·rename_i hcf _
    have := metBy_sound (hS.cl f k' (by rw [hcl]; exact List.mem_of_getElem? hj) args L) h hr
    rw [hcf] at this
    exact this
   ·exact h.elim
  ·exact fnB_sound hS hP hs n h W hr
 ·exact fnB_sound hS hP hs n h W hr
theorem mcT_sound (hd : dr.holds P) {x : MC} (hx : x ∈ dr.mc) {f : FuncId} {args : Array Value} {L : List Blk} {c : Value → List Blk → T α} (h : (mcT x f args L c).all K) (W : World) (hr : Rep w0 keep L W) :
  Calls P f args W fun en W' => ∃ v L', en = .returned v ∧ Rep w0 keep L' W' ∧ (c v L').all K := by
 obtain ⟨p, j, hj, hb, h⟩ := pickT_spec h
 dsimp only at h
 split at h
 ·rename_i hcf _
  have := metBy_sound (hd.mc x hx args p.ct) h hr
  rw [hcf] at this
  exact this
 ·exact h.elim
theorem callJ_sound (hS : S.holds P) (hd : dr.holds P) (hP : P.follows .mixedOrders = true) : ∀ (n : Nat) (w0 : World) (keep : Nat → Prop), SoundC P w0 keep K (callJ P S dr n)
 | 0, w0, keep => fun f args L c h => h.elim
 | n + 1, w0, keep => fun f args L c h W hr => by
   have ih : ∀ w0 keep, SoundC P w0 keep K (callJ P S dr n) := callJ_sound hS hd hP n
   have plain : (plainJ P S dr (callJ P S dr n) n f args L c).all K → Calls P f args W fun en W' => ∃ v L', en = .returned v ∧ Rep w0 keep L' W' ∧ (c v L').all K := fun h => by
    unfold plainJ at h
    split at h
    ·refine (fnC_sound hS hP ih n h W hr).mono ?_
     rintro en W' ⟨v, L', rfl, hr', h⟩
     obtain ⟨L2, h1, h2⟩ := dropT_spec h
     exact ⟨v, L2, rfl, hr'.sub h1, h2⟩
    split at h
    ·refine (fnC_sound hS hP ih n h W hr).mono ?_
     rintro en W' ⟨v, L', rfl, hr', h⟩
     obtain ⟨L2, h1, h2⟩ := dropO_spec h
     exact ⟨v, L2, rfl, hr'.sub h1, h2⟩
    ·exact fnC_sound hS hP ih n h W hr
   change (match findM f dr.mc with
    | some x => altT (mcT x f args L c) (plainJ P S dr (callJ P S dr n) n f args L c)
    | none => plainJ P S dr (callJ P S dr n) n f args L c : T α).all K at h
   split at h
   ·rename_i x hx
    rcases altT_spec h with h | h
    ·exact mcT_sound hd (findM_spec hx).1 h W hr
    ·exact plain h
   ·exact plain h
def shutC' (f : FuncId) (args : Array Value) (rd : List (Nat × Cont)) (ok : Prop) (v : Value) : CallC := ⟨f, args, ok, ⟨rd, [], 0, []⟩, [plainO v]⟩
theorem meets_shutJ' (hS : S.holds P) (hd : dr.holds P) (hP : P.follows .mixedOrders = true) {n : Nat} {f : FuncId} {args : Array Value} {rd : List (Nat × Cont)} {v : Value} {o : O}
  (h : ∀ ns, ((shutJ P S dr n f args (blks ⟨rd, [], 0, []⟩) v).run o ns).map (fun x => (x.res.asks, x.l)) = ((shutJ P S dr n f args (blks ⟨rd, [], 0, []⟩) v).run o ns).map (fun x => (x.res.asks.map fun l => l.map fun _ => True, x.r))) (h0 : ∀ ns, ((shutJ P S dr n f args (blks ⟨rd, [], 0, []⟩) v).run o ns).map (fun x => x.res.asks.isSome) = some true) :
  Meets P (shutC' f args rd True v) := by
 intro hok W hpre
 have hall : (shutJ P S dr n f args (blks ⟨rd, [], 0, []⟩) v).all fun _ => True := by
  refine all_of_run _ o fun ns => ?_
  have h := h ns
  have h0 := h0 ns
  cases hx : (shutJ P S dr n f args (blks ⟨rd, [], 0, []⟩) v).run o ns with
  | none => rw [hx] at h0; cases h0
  | some x =>
    rw [hx] at h h0
    simp only [Option.map_some, Option.some.injEq, Prod.mk.injEq] at h h0
    cases ha : x.res.asks with
    | none => rw [ha] at h0; cases h0
    | some l =>
      rw [ha] at h
      refine ⟨x, rfl, h.2, Res.asks_holds ha fun p hp => ?_⟩
      have h1 := h.1
      simp only [Option.map_some, Option.some.injEq] at h1
      rw [h1] at hp
      obtain ⟨q, -, rfl⟩ := List.mem_map.1 hp
      trivial
 refine (fnB_sound hS hP (callJ_sound hS hd hP n) n hall W (rep_of_pre hpre)).mono ?_
 rintro en W' ⟨v', L', rfl, hr', hk⟩
 have hv : v' = v := tok_val hk.1
 subst hv
 refine ⟨_, Sy.mS _, [], rfl, ?_⟩
 exact post_of_rep hr' rfl trivial [] List.nodup_nil trivial
end sound
end Go.Proofs.YtlpcnaeknbmjdaaGreat.Sy
namespace Go.Proofs.YtlpcnaeknbmjdaaGreat.Sy
open Go Go.RowKit
def O.pack (k n : Nat) (o : O) : O := @Nat.rec (fun _ => Nat → O) (fun _ => o) (fun _ ih n => .step (Nat.mod n 32) (ih (Nat.div n 32))) k n
def O.bz (k n : Nat) (o : O) : O := @Nat.rec (fun _ => Nat → Nat → O) (fun _ _ => o) (fun _ ih d n => @Nat.rec (fun _ => O) (ih (Nat.succ d) (Nat.div n 2)) (fun _ _ => .step d (ih 0 (Nat.div n 2))) (Nat.mod n 2)) k 0 n
def capOf (c : Cont) : Nat := match c with
 | .row _ _ _ cap _ => cap
 | _ => 0
def letN (k : Nat) (ns : List Let) : Nat := match nth ns k with
 | some x => x.n
 | none => 0
def letsOf : List Blk → List Let
 | [] => []
 | b :: r => ⟨b.nm, 0, false, undef, []⟩ :: ⟨capOf b.ct, 0, false, undef, []⟩ :: letsOf r
theorem letsOf_length : ∀ l : List Blk, (letsOf l).length = 2 * l.length
 | [] => rfl
 | b :: r => by simp only [letsOf, List.length_cons, letsOf_length r]; omega
def sameAll : List Blk → List (Nat × Cont) → T Unit
 | [], [] => .ret ()
 | ⟨nm, ct, true⟩ :: l, (n, c) :: r => .same (.nat nm) (.nat n) (.same (.cont ct) (.cont c) (sameAll l r))
 | _, _ => .fail
theorem sameAll_spec {K : Unit → Prop} : ∀ (l : List Blk) (r : List (Nat × Cont)), (sameAll l r).all K → fitsB l r
 | [], [], _ => trivial
 | [], _ :: _, h => h.elim
 | _ :: _, [], h => by
   unfold sameAll at h
   split at h <;> first | contradiction | exact h.elim
 | ⟨nm, ct, false⟩ :: l, (n, c) :: r, h => h.elim
 | ⟨nm, ct, true⟩ :: l, (n, c) :: r, h => by
   obtain ⟨h1, h2, h3⟩ := h
   injection h1 with h1
   have h2 := tok_cont h2
   subst h1 h2
   exact ⟨⟨rfl, rfl, .inl rfl⟩, sameAll_spec l r h3⟩
def endG (ps : List Nat) (k : Nat) (v : List Let → Value) (nw : List Let → List (Nat × Cont)) (v' : Value) (L' : List Blk) : T Unit := match pickL L' ps with
 | bl => .same (.nat bl.length) (.nat k) (.same (.val v') (.val (v (letsOf bl))) (sameAll bl (nw (letsOf bl))))
def graphC (f : FuncId) (args : Array Value) (rd : List (Nat × Cont)) (k : Nat) (v : List Let → Value) (nw : List Let → List (Nat × Cont)) : CallC := ⟨f, args, True, ⟨rd, [], 2 * k, []⟩, [(⟨fun _ => True, nw, fun _ => []⟩, v)]⟩
section
variable (P : Program) (S : Ctx) (dr : How)
def graphJ (n : Nat) (f : FuncId) (args : Array Value) (L : List Blk) (ps : List Nat) (k : Nat) (v : List Let → Value) (nw : List Let → List (Nat × Cont)) : T Unit := (fnB P S f).run (callJ P S dr n) n args L (endG ps k v nw)
end
section
variable {P : Program} {S : Ctx} {dr : How}
theorem meets_graphJ (hS : S.holds P) (hd : dr.holds P) (hP : P.follows .mixedOrders = true) {n : Nat} {f : FuncId} {args : Array Value} {rd : List (Nat × Cont)} (ps : List Nat) (hps : ps.Nodup) {k : Nat} {v : List Let → Value} {nw : List Let → List (Nat × Cont)} {o : O}
  (h : ∀ ns, ((graphJ P S dr n f args (blks ⟨rd, [], 0, []⟩) ps k v nw).run o ns).map (fun x => (x.res.asks, x.l)) = ((graphJ P S dr n f args (blks ⟨rd, [], 0, []⟩) ps k v nw).run o ns).map (fun x => (x.res.asks.map fun l => l.map fun _ => True, x.r))) (h0 : ∀ ns, ((graphJ P S dr n f args (blks ⟨rd, [], 0, []⟩) ps k v nw).run o ns).map (fun x => x.res.asks.isSome) = some true) :
  Meets P (graphC f args rd k v nw) := by
 intro hok W hpre
 have hall : (graphJ P S dr n f args (blks ⟨rd, [], 0, []⟩) ps k v nw).all fun _ => True := by
  refine all_of_run _ o fun ns => ?_
  have h := h ns
  have h0 := h0 ns
  cases hx : (graphJ P S dr n f args (blks ⟨rd, [], 0, []⟩) ps k v nw).run o ns with
  | none => rw [hx] at h0; cases h0
  | some x =>
    rw [hx] at h h0
    simp only [Option.map_some, Option.some.injEq, Prod.mk.injEq] at h h0
    cases ha : x.res.asks with
    | none => rw [ha] at h0; cases h0
    | some l =>
      rw [ha] at h
      refine ⟨x, rfl, h.2, Res.asks_holds ha fun p hp => ?_⟩
      have h1 := h.1
      simp only [Option.map_some, Option.some.injEq] at h1
      rw [h1] at hp
      obtain ⟨q, -, rfl⟩ := List.mem_map.1 hp
      trivial
 refine (fnB_sound hS hP (callJ_sound hS hd hP n) n hall W (rep_of_pre (c := ⟨rd, [], 2 * k, []⟩) ⟨hpre.rd, hpre.use, hpre.nodup, hpre.apart, hpre.rb, hpre.apartB⟩)).mono ?_
 rintro en W' ⟨v', L, rfl, hr', hk⟩
 obtain ⟨h1, h2, h3⟩ := hk
 injection h1 with h1
 have h2 := tok_val h2
 refine ⟨_, Sy.mS _, letsOf (pickL L ps), congrArg Ending.returned h2, ?_⟩
 exact post_of_rep hr' (by rw [letsOf_length, h1]; rfl) trivial ps hps (by
  show fitsB _ (nw _ ++ [])
  rw [List.append_nil]
  exact sameAll_spec _ _ h3)
end
end Go.Proofs.YtlpcnaeknbmjdaaGreat.Sy
namespace Go.Proofs.YtlpcnaeknbmjdaaGreat
open Go
theorem mixed : Tryz.prog.follows .mixedOrders = true := by kernel_rfl
open Sy.O (bz fork nil pack step steps)
open Sy.Res (need hyp br leaf both)
open Go Go.RowKit
open Sy (Let Blk)
structure NodeD where
 op : Int
 val : Int
 a : Int
 b : Int
def rdOf (B : List (Nat × Sy.Cont)) : List Blk := B.map fun p => ⟨p.1, p.2, false⟩
abbrev fOnce : FuncId := 129
def bodyO1 : Code := Sy.loopBody Tryz.f129 0
def bodyO2 : Code := Sy.loopBody Tryz.f129 1
def slO (v : Value) (g n cap i : Nat) : List (Nat × Value) := [(0, v), (2, .bool false), (3, .slice (some ⟨g, 0, none⟩) n cap), (11, v), (12, .int .i64 (Int.ofNat n)), (13, .int .i64 (Int.ofNat i))]
def intsV (l : List Int) : List Value := l.map fun i => Value.int .i64 i
def on1_o : Sy.O := (fork (bz 12 0xfea (fork (bz 26 0x3dad56f (fork (bz 23 0x5ad56f nil) nil)) (bz 3 0x7 (fork (bz 23 0x5ad56f nil) nil)))) nil)
noncomputable def on1_R (v : Value) (g n cap i : Nat) (xs : List Value) (f : Nat → Value) (B : List (Nat × Sy.Cont)) (ns : Nat → Sy.Let) : Sy.Res (Exit × Nat × List Value × List Blk) :=
 let z0 := Sy.ptrS v
 let z1 := rdOf B
 let z2 := ns 2
 let z3 := ns 3
 let z4 := 0 + Int.toNat z2.i * 1
 let z5 := Value.int .i64 (ns 5).i
 let z6 := Ex.leQ 6 (ns 0).i
 let z7 := Value.int .i64 (Ex.wrapQ .i64 (Ex.addQ (ns 5).i 1))
 let z8 := List.set xs z4 z7
 let z9 := 0 + Int.toNat z3.i * 1
 let z10 := some (Addr.mk g 0 none)
 let z11 := Sy.Cont.obj (Obj.cells (Array.mk [.int .i64 (ns 0).i, .int .u64 (ns 1).i, .int .i64 z2.i, .int .i64 z3.i]) 127)
 br (Ex.ltQ (Int.ofNat i) (Int.ofNat n)) (need ((∃ (n : Nat), ∃ (c : Nat), v = Value.slice (some (Addr.mk z0 (Sy.offS v) none)) n c) ∧ 0 ≤ Int.ofNat i ∧ Int.ofNat i < (↑(Sy.lenS v) : Int)) (need (∃ (i_1 : Int), Sy.HasL z1 z0 (Sy.offS v + Int.toNat (Int.ofNat i) * 4) (Value.int .i64 i_1)) (hyp (∀ (u : Value), Sy.HasL z1 z0 (Sy.offS v + Int.toNat (Int.ofNat i) * 4) u → u = Value.int .i64 (ns 0).i) (need (∃ (i_1 : Int), Sy.HasL z1 z0 (Sy.offS v + Int.toNat (Int.ofNat i) * 4 + 1) (Value.int .u64 i_1)) (hyp (∀ (u : Value), Sy.HasL z1 z0 (Sy.offS v + Int.toNat (Int.ofNat i) * 4 + 1) u → u = Value.int .u64 (ns 1).i) (need (∃ (i_1 : Int), Sy.HasL z1 z0 (Sy.offS v + Int.toNat (Int.ofNat i) * 4 + 1 + 1) (Value.int .i64 i_1)) (hyp (∀ (u : Value), Sy.HasL z1 z0 (Sy.offS v + Int.toNat (Int.ofNat i) * 4 + 1 + 1) u → u = Value.int .i64 z2.i) (need (∃ (i_1 : Int), Sy.HasL z1 z0 (Sy.offS v + Int.toNat (Int.ofNat i) * 4 + 1 + 1 + 1) (Value.int .i64 i_1)) (hyp (∀ (u : Value), Sy.HasL z1 z0 (Sy.offS v + Int.toNat (Int.ofNat i) * 4 + 1 + 1 + 1) u → u = Value.int .i64 z3.i) (br (Ex.leQ 3 (ns 0).i) (need (0 ≤ z2.i ∧ z2.i < (↑n : Int)) (need (∃ (i : Int), Sy.Cont.at (Sy.Cont.row 3 1 n cap xs) z4 = some (Value.int .i64 i)) (hyp (Sy.Cont.at (Sy.Cont.row 3 1 n cap xs) z4 = some z5) (need (0 ≤ z2.i ∧ z2.i < (↑n : Int)) (need (0 + Int.toNat z2.i * 1 < List.length xs) (br z6 (need (0 ≤ z3.i ∧ z3.i < (↑n : Int)) (need (∃ (i : Int), Sy.Cont.at (Sy.Cont.row 3 1 n cap z8) z9 = some (Value.int .i64 i)) (hyp
 (Sy.Cont.at (Sy.Cont.row 3 1 n cap z8) z9 = some (Value.int .i64 (ns 6).i)) (need (0 ≤ z3.i ∧ z3.i < (↑n : Int)) (need (0 + Int.toNat z3.i * 1 < List.length z8) (leaf (Exit.normal, 58, [v, Value.bool false, Value.slice z10 n cap, v, Value.int .i64 (Int.ofNat n), Value.int .i64 (Ex.wrapQ .i64 (Ex.addQ (Int.ofNat i) 1))], Blk.mk (ns 4).n z11 true :: Blk.mk g (Sy.Cont.row 3 1 n cap (List.set z8 z9 (Value.int .i64 (Ex.wrapQ .i64 (Ex.addQ (ns 6).i 1))))) true :: rdOf B))))))) (leaf (Exit.normal, 58, [v, Value.bool false, Value.slice z10 n cap, v, Value.int .i64 (Int.ofNat n), Value.int .i64 (Ex.wrapQ .i64 (Ex.addQ (Int.ofNat i) 1))], Blk.mk (ns 4).n z11 true :: Blk.mk g (Sy.Cont.row 3 1 n cap z8) true :: rdOf B)))))))) (br z6 (need (0 ≤ z3.i ∧ z3.i < (↑n : Int)) (need (∃ (i : Int), Sy.Cont.at (Sy.Cont.row 3 1 n cap xs) z9 = some (Value.int .i64 i)) (hyp (Sy.Cont.at (Sy.Cont.row 3 1 n cap xs) z9 = some z5) (need (0 ≤ z3.i ∧ z3.i < (↑n : Int)) (need (0 + Int.toNat z3.i * 1 < List.length xs) (leaf (Exit.normal, 58, [v, Value.bool false, Value.slice z10 n cap, v, Value.int .i64 (Int.ofNat n), Value.int .i64 (Ex.wrapQ .i64 (Ex.addQ (Int.ofNat i) 1))], Blk.mk (ns 4).n z11 true :: Blk.mk g (Sy.Cont.row 3 1 n cap (List.set xs z9 z7)) true :: rdOf B))))))) (leaf (Exit.normal, 58, [v, Value.bool false, Value.slice z10 n cap, v, Value.int .i64 (Int.ofNat n), Value.int .i64 (Ex.wrapQ .i64 (Ex.addQ (Int.ofNat i) 1))], Blk.mk (ns 4).n z11 true :: Blk.mk g (Sy.Cont.row 3 1 n cap xs) true :: rdOf
 B))))))))))))) (leaf (Exit.exit 0, 58, [v, Value.bool false, Value.slice z10 n cap, v, Value.int .i64 (Int.ofNat n), Value.int .i64 (Int.ofNat i)], Blk.mk g (Sy.Cont.row 3 1 n cap xs) true :: rdOf B))
theorem on1_run (v : Value) (g n cap i : Nat) (xs : List Value) (f : Nat → Value) (B : List (Nat × Sy.Cont)) : Sy.Ran (Sy.pieceT Tryz.prog Sy.S0 50 fOnce bodyO1 58 (slO v g n cap i) ((List.range 58).map f) (⟨g, .row 3 1 n cap xs, true⟩ :: rdOf B) [0, 2, 3, 11, 12, 13]) on1_o (on1_R v g n cap i xs f B) := ⟨fun _ => by kernel_rfl, fun _ => by kernel_rfl⟩
def slO2 (v : Value) (g n cap i : Nat) : List (Nat × Value) := [(0, v), (2, .bool false), (3, .slice (some ⟨g, 0, none⟩) n cap), (38, .slice (some ⟨g, 0, none⟩) n cap), (39, .int .i64 (Int.ofNat n)), (40, .int .i64 (Int.ofNat i))]
def on2_o : Sy.O := (fork (bz 15 0x555d (fork nil nil)) nil)
noncomputable def on2_R (v : Value) (g n cap i : Nat) (xs : List Value) (f : Nat → Value) (B : List (Nat × Sy.Cont)) (ns : Nat → Sy.Let) : Sy.Res (Exit × Nat × List Value × List Blk) :=
 let z0 := Int.ofNat i
 let z1 := 0 + Int.toNat z0 * 1
 let z2 := some (Addr.mk g 0 none)
 br (Ex.ltQ z0 (Int.ofNat n)) (need (0 ≤ Int.ofNat i ∧ Int.ofNat i < (↑n : Int)) (need (∃ (i_1 : Int), Sy.Cont.at (Sy.Cont.row 3 1 n cap xs) z1 = some (Value.int .i64 i_1)) (hyp (Sy.Cont.at (Sy.Cont.row 3 1 n cap xs) z1 = some (Value.int .i64 (ns 0).i)) (need (∃ (p : Option Addr), ∃ (n : Nat), ∃ (c : Nat), v = Value.slice p n c) (br (bif !Ex.eqQ (ns 0).i 1 == Ex.ltQ z0 (Ex.wrapQ .i64 (Ex.subQ' (Int.ofNat (Sy.lenS v)) 1)) then true else Ex.ltQ 1 (ns 0).i) (leaf (Exit.ret, 58, [v, Value.bool false, Value.slice z2 n cap, Value.slice z2 n cap, Value.int .i64 (Int.ofNat n), Value.int .i64 z0], Blk.mk g (Sy.Cont.row 3 1 n cap xs) true :: rdOf B)) (leaf (Exit.normal, 58, [v, Value.bool false, Value.slice z2 n cap, Value.slice z2 n cap, Value.int .i64 (Int.ofNat n), Value.int .i64 (Ex.wrapQ .i64 (Ex.addQ z0 1))], Blk.mk g (Sy.Cont.row 3 1 n cap xs) true :: rdOf B))))))) (leaf (Exit.exit 2, 58, [v, Value.bool false, Value.slice z2 n cap, Value.slice z2 n cap, Value.int .i64 (Int.ofNat n), Value.int .i64 z0], Blk.mk g (Sy.Cont.row 3 1 n cap xs) true :: rdOf B))
theorem on2_run (v : Value) (g n cap i : Nat) (xs : List Value) (f : Nat → Value) (B : List (Nat × Sy.Cont)) : Sy.Ran (Sy.pieceT Tryz.prog Sy.S0 50 fOnce bodyO2 58 (slO2 v g n cap i) ((List.range 58).map f) (⟨g, .row 3 1 n cap xs, true⟩ :: rdOf B) [0, 2, 3, 38, 39, 40]) on2_o (on2_R v g n cap i xs f B) := ⟨fun _ => by kernel_rfl, fun _ => by kernel_rfl⟩
open Go Go.RowKit
open Sy (Let Blk HasL)
structure NodesR (B : List (Nat × Sy.Cont)) (v : Value) (l : List NodeD) : Prop where
 sl : ∃ p n c, v = .slice p n c
 len : Sy.lenS v = l.length
 at_ : l ≠ [] → ∃ n c, v = .slice (some ⟨Sy.ptrS v, Sy.offS v, none⟩) n c
 op : ∀ i n, l[i]? = some n → HasL (rdOf B) (Sy.ptrS v) (Sy.offS v + i * 4) (.int .i64 n.op)
 val : ∀ i n, l[i]? = some n → HasL (rdOf B) (Sy.ptrS v) (Sy.offS v + i * 4 + 1) (.int .u64 n.val)
 a : ∀ i n, l[i]? = some n → HasL (rdOf B) (Sy.ptrS v) (Sy.offS v + i * 4 + 1 + 1) (.int .i64 n.a)
 b : ∀ i n, l[i]? = some n → HasL (rdOf B) (Sy.ptrS v) (Sy.offS v + i * 4 + 1 + 1 + 1) (.int .i64 n.b)
def bump (u : List Int) (i : Int) : List Int := u.set i.toNat (u.getD i.toNat 0 + 1)
def usedS (u : List Int) (n : NodeD) : List Int := bif Ex.leQ 6 n.op then bump (bif Ex.leQ 3 n.op then bump u n.a else u) n.b else bif Ex.leQ 3 n.op then bump u n.a else u
def usedL (l : List NodeD) (u : List Int) : List Int := l.foldl usedS u
def OperO (m : Nat) (n : NodeD) : Prop := (3 ≤ n.op → 0 ≤ n.a ∧ n.a < m) ∧ (6 ≤ n.op → 0 ≤ n.b ∧ n.b < m)
def BdU (m k : Nat) (u : List Int) : Prop := u.length = m ∧ ∀ x ∈ u, 0 ≤ x ∧ x ≤ 2 * k
theorem bump_bd {m : Nat} {k : Int} {u : List Int} {i : Int} (h : u.length = m ∧ ∀ x ∈ u, 0 ≤ x ∧ x ≤ k) (hi : 0 ≤ i ∧ i < m) : (bump u i).length = m ∧ ∀ x ∈ bump u i, 0 ≤ x ∧ x ≤ k + 1 := by
 unfold bump
 refine ⟨by simp [h.1], fun x hx => ?_⟩
 rcases List.mem_or_eq_of_mem_set hx with hx | rfl
 ·have := h.2 x hx
  omega
 ·have hlt : i.toNat < u.length := by rw [h.1]; omega
  have := h.2 (u.getD i.toNat 0) (by rw [List.getD_eq_getElem?_getD, List.getElem?_eq_getElem hlt]; exact List.getElem_mem hlt)
  omega
theorem row_ints {t n cap : Nat} {u : List Int} {i : Nat} (h : i < u.length) : (Sy.Cont.row t 1 n cap (intsV u)).at (0 + i * 1) = some (.int .i64 (u.getD i 0)) := by
 simp [Sy.Cont.at, intsV, h, List.getD_eq_getElem?_getD]
theorem ints_set {u : List Int} {i : Int} (h : 0 ≤ u.getD i.toNat 0 ∧ u.getD i.toNat 0 < 1000000) {x : Int} (hx : x = u.getD i.toNat 0) : (intsV u).set (0 + i.toNat * 1) (.int .i64 (Ex.wrapQ .i64 (Ex.addQ x 1))) = intsV (bump u i) := by
 subst hx
 have e : ∀ y : Int, 0 ≤ y ∧ y < 1000000 → Ex.wrapQ .i64 (Ex.addQ y 1) = y + 1 := fun y hy => by
  rw [Ex.wrapQ_eq, Ex.addQ_eq]
  simp [IntKind.wrap, IntKind.signed, IntKind.bits]
  omega
 rw [e _ h]
 unfold intsV bump
 rw [List.map_set]
 congr 1
 omega
theorem w_succ {k : Nat} (h : k < 4611686018427387904) : Ex.wrapQ .i64 (Ex.addQ (Int.ofNat k) 1) = Int.ofNat (k + 1) := by
 rw [Ex.wrapQ_eq, Ex.addQ_eq]
 simp [IntKind.wrap, IntKind.signed, IntKind.bits]
 omega
theorem getD_bd {m k : Nat} {u : List Int} (h : BdU m k u) {i : Nat} (hi : i < m) : 0 ≤ u.getD i 0 ∧ u.getD i 0 ≤ 2 * k := by
 have hlt : i < u.length := by rw [h.1]; exact hi
 exact h.2 _ (by rw [List.getD_eq_getElem?_getD, List.getElem?_eq_getElem hlt]; exact List.getElem_mem hlt)
theorem usedS_bd {m k : Nat} {u : List Int} {n : NodeD} (h : BdU m k u) (hn : OperO m n) : BdU m (k + 1) (usedS u n) := by
 have h0 : u.length = m ∧ ∀ x ∈ u, 0 ≤ x ∧ x ≤ (2 * k : Nat) := ⟨h.1, fun x hx => by have := h.2 x hx; omega⟩
 have up : ∀ (w : List Int) (c : Int), (w.length = m ∧ ∀ x ∈ w, 0 ≤ x ∧ x ≤ c) → c ≤ 2 * (k + 1 : Nat) → BdU m (k + 1) w := fun w c h1 h2 => ⟨h1.1, fun x hx => by have := h1.2 x hx; omega⟩
 unfold usedS
 rw [Ex.leQ_eq, Ex.leQ_eq]
 by_cases h3 : 3 ≤ n.op
 ·have b1 := bump_bd h0 (hn.1 h3)
  by_cases h6 : 6 ≤ n.op
  ·simp only [h3, h6, decide_true, cond_true]
   exact up _ _ (bump_bd b1 (hn.2 h6)) (by omega)
  ·simp only [h3, h6, decide_true, decide_false, cond_true, cond_false]
   exact up _ _ b1 (by omega)
 ·have h6 : ¬ 6 ≤ n.op := by omega
  simp only [h3, h6, decide_false, cond_false]
  exact up _ _ h0 (by omega)
def OkO (B : List (Nat × Sy.Cont)) (v : Value) (l : List NodeD) : Prop := NodesR B v l ∧ l.length ≤ 65536 ∧ ∀ n ∈ l, OperO l.length n
def loop1C (B : List (Nat × Sy.Cont)) (v : Value) (l : List NodeD) (g cap : Nat) : Sy.LoopC :=
 ⟨.loop bodyO1, 58, slO v g l.length cap 0, OkO B v l, ⟨[], [(g, .row 3 1 l.length cap (intsV (List.replicate l.length 0)))], 0, B⟩,
  [(⟨fun _ => True, fun _ => [(g, .row 3 1 l.length cap (intsV (usedL l (List.replicate l.length 0))))], fun _ => []⟩, .exit 0, fun _ => [(0, v), (2, .bool false), (3, .slice (some ⟨g, 0, none⟩) l.length cap)])]⟩
theorem usedL_step {l : List NodeD} {k : Nat} {n : NodeD} (h : l[k]? = some n) (u : List Int) : usedL (l.take (k + 1)) u = usedS (usedL (l.take k) u) n := by
 unfold usedL
 rw [List.take_add_one, h]
 simp
theorem usedL_bd {l : List NodeD} {m : Nat} {u : List Int} (hn : ∀ n ∈ l, OperO m n) (hu : BdU m 0 u) : ∀ k, k ≤ l.length → BdU m k (usedL (l.take k) u)
 | 0, _ => by simpa [usedL] using hu
 | k + 1, h => by
   have hk : l[k]? = some l[k] := List.getElem?_eq_getElem (by omega)
   rw [usedL_step hk]
   exact usedS_bd (usedL_bd hn hu k (by omega)) (hn _ (List.getElem_mem _))
theorem ent_tail {x y : Blk} {L : List Blk} : Sy.Ent (x :: y :: L) (y :: L) := Sy.Ent.sub (List.sublist_cons_self _ _)
theorem loop1C_met (B : List (Nat × Sy.Cont)) (v : Value) (l : List NodeD) (g cap : Nat) : Sy.MeetsL Tryz.prog (loop1C B v l g cap) := by
 refine Sy.loop_ofB (S := fun _ : Nat => Sy.S0) (n := 50) (fn := fOnce) (fun _ => Sy.S0_holds) mixed (body := bodyO1) rfl [0, 2, 3, 11, 12, 13] (fun k : Nat => slO v g l.length cap k)
  (fun k => ⟨g, .row 3 1 l.length cap (intsV (usedL (l.take k) (List.replicate l.length 0))), true⟩ :: rdOf B) (fun k => k ≤ l.length ∧ OkO B v l) (fun k => l.length - k)
  0 (fun h => ⟨Nat.zero_le _, h⟩) (fun p hp => hp) (by simp only [List.take_zero]; exact Sy.Ent.refl _) (o := fun _ => on1_o) (R := fun k f => on1_R v g l.length cap k _ f B) (fun k f _ => on1_run v g l.length cap k _ f B) ?_
 rintro - k f ⟨hk, hR, hlen, hop⟩ ns
 have hb := usedL_bd (u := List.replicate l.length 0) hop ⟨by simp, fun x hx => by rw [List.eq_of_mem_replicate hx]; simp⟩ k hk
 have hnext : ∀ n, l[k]? = some n → usedL (l.take (k + 1)) (List.replicate l.length 0) = usedS (usedL (l.take k) (List.replicate l.length 0)) n := fun n h => usedL_step h _
 generalize hu : usedL (l.take k) (List.replicate l.length 0) = u at *
 simp only [on1_R, Sy.Res.holds]
 refine ⟨fun hlt => ?_, fun hge => ?_⟩
 ·have hlt : k < l.length := by rw [Ex.ltQ_eq] at hlt; simpa using hlt
  obtain ⟨n, hn⟩ : ∃ n, l[k]? = some n := ⟨_, List.getElem?_eq_getElem hlt⟩
  have hO := hop n (List.mem_of_getElem? hn)
  have next : ∀ (w : List Int) (x : Blk), w = usedS u n → Sy.leafLB (loop1C B v l g cap) [0, 2, 3, 11, 12, 13] (fun k : Nat => slO v g l.length cap k) (fun k => ⟨g, .row 3 1 l.length cap (intsV (usedL (l.take k) (List.replicate l.length 0))), true⟩ :: rdOf B) (fun k => k ≤ l.length ∧ OkO B v l) (fun k => l.length - k) k
    (.normal, 58, [v, .bool false, .slice (some ⟨g, 0, none⟩) l.length cap, v, .int .i64 (Int.ofNat l.length), .int .i64 (Ex.wrapQ .i64 (Ex.addQ (Int.ofNat k) 1))], x :: ⟨g, .row 3 1 l.length cap (intsV w), true⟩ :: rdOf B) := fun w x hw => by
   refine ⟨rfl, .inl ⟨rfl, k + 1, ⟨by omega, hR, hlen, hop⟩, by show l.length - (k + 1) < l.length - k; omega, ?_, ?_⟩⟩
   ·rw [w_succ (by omega)]
    rfl
   ·show Sy.Ent _ (⟨g, .row 3 1 l.length cap (intsV (usedL (l.take (k + 1)) (List.replicate l.length 0))), true⟩ :: rdOf B)
    rw [hnext n hn, hw]
    exact ent_tail
  refine ⟨⟨hR.at_ (fun h => by rw [h] at hlt; simp at hlt), by simp, by rw [hR.len]; simpa using hlt⟩, ⟨n.op, hR.op k n hn⟩, fun e0 => ⟨⟨n.val, hR.val k n hn⟩, fun _ => ⟨⟨n.a, hR.a k n hn⟩, fun e2 => ⟨⟨n.b, hR.b k n hn⟩, fun e3 => ?_⟩⟩⟩⟩
  have e0 := e0 _ (hR.op k n hn)
  have e2 := e2 _ (hR.a k n hn)
  have e3 := e3 _ (hR.b k n hn)
  simp only [Value.int.injEq, true_and] at e0 e2 e3
  rw [← e0, ← e2, ← e3]
  have inr : ∀ (w : List Int) (c : Nat), BdU l.length c w → c ≤ 65540 → ∀ i : Int, 0 ≤ i ∧ i < (l.length : Int) → i.toNat < w.length ∧ 0 ≤ w.getD i.toNat 0 ∧ w.getD i.toNat 0 < 1000000 := fun w c hw hc i hi => by
   have := getD_bd hw (i := i.toNat) (by omega)
   refine ⟨by rw [hw.1]; omega, this.1, by omega⟩
  have hb1 : 3 ≤ n.op → BdU l.length (k + 1) (bump u n.a) := fun h3 => by
   have := bump_bd (m := l.length) (k := 2 * k) ⟨hb.1, fun x hx => hb.2 x hx⟩ (hO.1 h3)
   exact ⟨this.1, fun x hx => by have := this.2 x hx; omega⟩
  refine ⟨fun h3 => ?_, fun h3 => ?_⟩
  ·have h3' : 3 ≤ n.op := by rw [Ex.leQ_eq] at h3; simpa using h3
   obtain ⟨r1, r2⟩ := inr u k hb (by omega) n.a (hO.1 h3')
   refine ⟨hO.1 h3', ⟨_, row_ints r1⟩, fun e5 => ⟨hO.1 h3', by simp [intsV]; omega, fun h6 => ?_, fun h6 => ?_⟩⟩
   ·have h6' : 6 ≤ n.op := by rw [Ex.leQ_eq] at h6; simpa using h6
    rw [row_ints r1] at e5
    simp only [Option.some.injEq, Value.int.injEq, true_and] at e5
    rw [ints_set r2 e5.symm]
    obtain ⟨q1, q2⟩ := inr (bump u n.a) (k + 1) (hb1 h3') (by omega) n.b (hO.2 h6')
    refine ⟨hO.2 h6', ⟨_, row_ints q1⟩, fun e6 => ⟨hO.2 h6', by simp [intsV] at q1 ⊢; omega, ?_⟩⟩
    rw [row_ints q1] at e6
    simp only [Option.some.injEq, Value.int.injEq, true_and] at e6
    rw [ints_set q2 e6.symm]
    exact next _ _ (by unfold usedS; rw [h3, h6]; rfl)
   ·rw [row_ints r1] at e5
    simp only [Option.some.injEq, Value.int.injEq, true_and] at e5
    rw [ints_set r2 e5.symm]
    exact next _ _ (by unfold usedS; rw [h3, h6]; rfl)
  ·refine ⟨fun h6 => ?_, fun h6 => next _ _ (by unfold usedS; rw [h3, h6]; rfl)⟩
   rw [Ex.leQ_eq] at h3 h6
   simp at h3 h6
   omega
 ·have hge : k = l.length := by rw [Ex.ltQ_eq] at hge; simp at hge; omega
  subst hge
  refine ⟨rfl, .inr ⟨by simp, _, Sy.mS _, rfl, [], rfl, ⟨[0, 1, 2], rfl⟩, ?_, trivial⟩⟩
  have : u = usedL l (List.replicate l.length 0) := by rw [← hu, List.take_length]
  rw [this]
  exact Sy.Ent.sub (List.Sublist.cons_cons _ (List.nil_sublist _))
def loop1D (B : List (Nat × Sy.Cont)) (v : Value) (l : List NodeD) (g cap : Nat) : Sy.LoopC :=
 ⟨.loop bodyO1, 58, slO v g (Sy.lenS v) cap 0, OkO B v l, ⟨[], [(g, .row 3 1 (Sy.lenS v) cap (List.replicate (Sy.lenS v) (.int .i64 0)))], 0, B⟩,
  [(⟨fun _ => True, fun _ => [(g, .row 3 1 (Sy.lenS v) cap (intsV (usedL l (List.replicate l.length 0))))], fun _ => []⟩, .exit 0, fun _ => [(0, v), (2, .bool false), (3, .slice (some ⟨g, 0, none⟩) (Sy.lenS v) cap)])]⟩
theorem loop1D_met (B : List (Nat × Sy.Cont)) (v : Value) (l : List NodeD) (g cap : Nat) : Sy.MeetsL Tryz.prog (loop1D B v l g cap) := fun hok => by
 have e : Sy.lenS v = l.length := hok.1.len
 have h := loop1C_met B v l g cap hok
 unfold loop1D
 rw [e]
 have hz : intsV (List.replicate l.length 0) = List.replicate l.length (.int .i64 0) := by simp [intsV]
 unfold loop1C at h
 rw [hz] at h
 exact h
def passB (m i : Nat) (x : Int) : Bool := bif !(Ex.eqQ x 1 == Ex.ltQ (Int.ofNat i) ((m : Int) - 1)) then true else Ex.ltQ 1 x
def failsU (m : Nat) (u : List Int) : Prop := ∃ i x, u[i]? = some x ∧ passB m i x = true
theorem sub_one {m : Nat} (h : m ≤ 65536) : Ex.wrapQ .i64 (Ex.subQ' (Int.ofNat m) 1) = (m : Int) - 1 := by
 rw [Ex.wrapQ_eq, Ex.subQ_eq]
 simp [IntKind.wrap, IntKind.signed, IntKind.bits]
 omega
def loop2C (B : List (Nat × Sy.Cont)) (v : Value) (l : List NodeD) (u : List Int) (g cap : Nat) : Sy.LoopC :=
 ⟨.loop bodyO2, 58, slO2 v g l.length cap 0, OkO B v l ∧ u.length = l.length, ⟨[], [(g, .row 3 1 l.length cap (intsV u))], 0, B⟩,
  [(⟨fun _ => failsU l.length u, fun _ => [], fun _ => []⟩, .ret, fun _ => [(2, .bool false)]),
   (⟨fun _ => ¬ failsU l.length u, fun _ => [], fun _ => []⟩, .exit 2, fun _ => [])]⟩
theorem loop2C_met (B : List (Nat × Sy.Cont)) (v : Value) (l : List NodeD) (u : List Int) (g cap : Nat) : Sy.MeetsL Tryz.prog (loop2C B v l u g cap) := by
 refine Sy.loop_ofB (S := fun _ : Nat => Sy.S0) (n := 50) (fn := fOnce) (fun _ => Sy.S0_holds) mixed (body := bodyO2) rfl [0, 2, 3, 38, 39, 40] (fun k : Nat => slO2 v g l.length cap k)
  (fun _ => ⟨g, .row 3 1 l.length cap (intsV u), true⟩ :: rdOf B) (fun k => k ≤ l.length ∧ (OkO B v l ∧ u.length = l.length) ∧ ∀ i x, i < k → u[i]? = some x → passB l.length i x = false) (fun k => l.length - k)
  0 (fun h => ⟨Nat.zero_le _, h, fun i x hi => by omega⟩) (fun p hp => hp) (Sy.Ent.refl _) (o := fun _ => on2_o) (R := fun k f => on2_R v g l.length cap k _ f B) (fun k f _ => on2_run v g l.length cap k _ f B) ?_
 rintro - k f ⟨hk, ⟨⟨hR, hlen, hop⟩, hul⟩, hinv⟩ ns
 simp only [on2_R, Sy.Res.holds]
 refine ⟨fun hlt => ?_, fun hge => ?_⟩
 ·have hlt : k < l.length := by rw [Ex.ltQ_eq] at hlt; simpa using hlt
  have hku : k < u.length := by omega
  refine ⟨⟨by simp, by simpa using hlt⟩, ⟨_, row_ints hku⟩, fun e0 => ⟨hR.sl, ?_⟩⟩
  rw [show Int.toNat (Int.ofNat k) = k from rfl, row_ints hku] at e0
  simp only [Option.some.injEq, Value.int.injEq, true_and] at e0
  have hx : u[k]? = some (u.getD k 0) := by rw [List.getD_eq_getElem?_getD, List.getElem?_eq_getElem hku]; rfl
  rw [hR.len, sub_one hlen, ← e0]
  refine ⟨fun h => ?_, fun h => ?_⟩
  ·exact ⟨rfl, .inr ⟨by simp, _, Sy.mH, rfl, [], rfl, ⟨[1], rfl⟩, Sy.Ent.sub (List.nil_sublist _), k, _, hx, h⟩⟩
  ·refine ⟨rfl, .inl ⟨rfl, k + 1, ⟨by omega, ⟨⟨hR, hlen, hop⟩, hul⟩, fun i x hi hxi => ?_⟩, by show l.length - (k + 1) < l.length - k; omega, ?_, Sy.Ent.refl _⟩⟩
   ·by_cases he : i = k
    ·subst he
     rw [hx] at hxi
     injection hxi with hxi
     rw [← hxi]
     exact h
    ·exact hinv i x (by omega) hxi
   ·rw [w_succ (by omega)]
    rfl
 ·have hge : k = l.length := by rw [Ex.ltQ_eq] at hge; simp at hge; omega
  subst hge
  refine ⟨rfl, .inr ⟨by simp, _, Sy.mC _ (Sy.mS _), rfl, [], rfl, ⟨[], rfl⟩, Sy.Ent.sub (List.nil_sublist _), ?_⟩⟩
  rintro ⟨i, x, hx, hp⟩
  have hi : i < u.length := (List.getElem?_eq_some_iff.1 hx).1
  rw [hinv i x (by omega) hx] at hp
  cases hp
def loop2D (B : List (Nat × Sy.Cont)) (v : Value) (l : List NodeD) (u : List Int) (g cap : Nat) : Sy.LoopC :=
 ⟨.loop bodyO2, 58, slO2 v g (Sy.lenS v) cap 0, OkO B v l ∧ u.length = l.length, ⟨[], [(g, .row 3 1 (Sy.lenS v) cap (intsV u))], 0, B⟩,
  [(⟨fun _ => failsU l.length u, fun _ => [], fun _ => []⟩, .ret, fun _ => [(2, .bool false)]),
   (⟨fun _ => ¬ failsU l.length u, fun _ => [], fun _ => []⟩, .exit 2, fun _ => [])]⟩
theorem loop2D_met (B : List (Nat × Sy.Cont)) (v : Value) (l : List NodeD) (u : List Int) (g cap : Nat) : Sy.MeetsL Tryz.prog (loop2D B v l u g cap) := fun hok => by
 have e : Sy.lenS v = l.length := hok.1.1.len
 have h := loop2C_met B v l u g cap hok
 unfold loop2D
 rw [e]
 exact h
def failsB (m : Nat) : List Int → Nat → Bool
 | [], _ => false
 | x :: r, i => passB m i x || failsB m r (i + 1)
theorem failsB_iff (m : Nat) : ∀ (u : List Int) (i : Nat), failsB m u i = true ↔ ∃ j x, u[j]? = some x ∧ passB m (i + j) x = true
 | [], i => by simp [failsB]
 | y :: r, i => by
   have ih := failsB_iff m r (i + 1)
   simp only [failsB, Bool.or_eq_true, ih]
   constructor
   ·rintro (h | ⟨j, x, h1, h2⟩)
    ·exact ⟨0, y, rfl, h⟩
    ·exact ⟨j + 1, x, by simpa using h1, by rw [show i + (j + 1) = i + 1 + j by omega]; exact h2⟩
   ·rintro ⟨j, x, h1, h2⟩
    cases j with
    | zero =>
      simp only [List.getElem?_cons_zero, Option.some.injEq] at h1
      subst h1
      exact .inl h2
    | succ j => exact .inr ⟨j, x, by simpa using h1, by rw [show i + 1 + j = i + (j + 1) by omega]; exact h2⟩
theorem failsU_iff (m : Nat) (u : List Int) : failsU m u ↔ failsB m u 0 = true := by
 rw [failsB_iff]
 simp [failsU]
def onceF (l : List NodeD) : Bool := !(failsB l.length (usedL l (List.replicate l.length 0)) 0)
def onceC (B : List (Nat × Sy.Cont)) (v : Value) (l : List NodeD) : Sy.CallC := ⟨fOnce, #[v], OkO B v l, ⟨[], [], 0, B⟩, [Sy.plainO (.bool (onceF l))]⟩
def ctxO (B : List (Nat × Sy.Cont)) (v : Value) (l : List NodeD) : Sy.Ctx := Sy.mkS [] [(fOnce, fun a _ => loop1D B v l (Sy.ptrN (a.get 3)) (Sy.capN (a.get 3))), (fOnce, fun a _ => loop2D B v l (usedL l (List.replicate l.length 0)) (Sy.ptrN (a.get 3)) (Sy.capN (a.get 3)))] []
theorem ctxO_holds (B : List (Nat × Sy.Cont)) (v : Value) (l : List NodeD) : (ctxO B v l).holds Tryz.prog := Sy.mkS_holds (fun _ h => (by cases h)) (fun p hp a L => by
 rcases List.mem_cons.1 hp with rfl | hp
 ·exact loop1D_met _ _ _ _ _
 rcases List.mem_singleton.1 hp with rfl
 exact loop2D_met _ _ _ _ _ _) (fun _ h => (by cases h))
open Go Go.RowKit
open Sy (Let Blk HasL)
def onc_o : Sy.O := (bz 27 0x6b6ebaa (fork (steps [0, 1] nil) (steps [0, 1] nil)))
noncomputable def onc_R (B : List (Nat × Sy.Cont)) (v : Value) (l : List NodeD) (ns : Nat → Sy.Let) : Sy.Res (Value × List Blk) :=
 let z0 := (∃ (p : Option Addr), ∃ (n : Nat), ∃ (c : Nat), v = Value.slice p n c)
 let z1 := Sy.lenS v
 let z2 := Int.ofNat z1
 let z3 := List.length l
 let z4 := usedL l (List.replicate z3 0)
 let z5 := [] ++ List.eraseIdx (Blk.mk (ns 0).n (Sy.Cont.row 3 1 z1 (Int.toNat z2) (intsV z4)) true :: ([] ++ rdOf B)) (nat_lit 0)
 need z0 (need (0 ≤ Int.ofNat z1 ∧ Int.toNat z2 * (8 : Nat) ≤ 281474976710656 ∧ Int.toNat z2 ≤ 9223372036854775807) (need z0 (need (NodesR B v l ∧ List.length l ≤ 65536 ∧ ∀ (n : NodeD), n ∈ l → OperO z3 n) (need (Sy.GotL ([] ++ rdOf B) B) (hyp True (need (OkO B v l ∧ List.length z4 = List.length l) (need (Sy.GotL z5 B) (both (hyp (∃ (i : Nat), ∃ (x : Int), z4[i]? = some x ∧ passB z3 i x = true) (leaf (Value.bool false, [] ++ z5))) (hyp (failsU z3 z4 → False) (leaf (Value.bool true, [] ++ z5)))))))))))
theorem onc_run (B : List (Nat × Sy.Cont)) (v : Value) (l : List NodeD) : Sy.Ran (Sy.inB Tryz.prog (ctxO B v l) 50 fOnce #[v] (rdOf B)) onc_o (onc_R B v l) := ⟨fun _ => by kernel_rfl, fun _ => by kernel_rfl⟩
theorem gotL_of {L : List Blk} {B : List (Nat × Sy.Cont)} (h : ∀ p ∈ rdOf B, p ∈ L) : Sy.GotL L B := fun p hp => ⟨⟨p.1, p.2, false⟩, h _ (List.mem_map.2 ⟨p, hp, rfl⟩), rfl, fun _ h => h⟩
theorem plainB_leaf {c : Sy.CallC} {v : Value} (ho : Sy.plainO v ∈ c.outs) (hm : c.mem.m = 0) {y : Value × List Blk} (hv : y.1 = v) : Sy.leafB c y :=
 ⟨_, ho, [], hm.symm, hv, Sy.Ent.sub (List.nil_sublist _), trivial⟩
theorem usedL_len (l : List NodeD) (u : List Int) : (usedL l u).length = u.length := by
 unfold usedL
 induction l generalizing u with
 | nil => rfl
 | cons n l ih =>
   rw [List.foldl_cons, ih]
   unfold usedS bump
   cases Ex.leQ 6 n.op <;> cases Ex.leQ 3 n.op <;> simp
theorem onceC_met (B : List (Nat × Sy.Cont)) (v : Value) (l : List NodeD) : Sy.Meets Tryz.prog (onceC B v l) := by
 refine Sy.meets_ofB (ctxO_holds B v l) mixed (L := rdOf B) (Sy.Ent.refl _) (onc_run B v l) fun hok ns => ?_
 obtain ⟨hR, hlen, hop⟩ := hok
 have hul : (usedL l (List.replicate l.length 0)).length = l.length := by rw [usedL_len]; simp
 simp only [onc_R, Sy.Res.holds]
 have e : Int.toNat (Int.ofNat (Sy.lenS v)) = l.length := by rw [hR.len]; rfl
 refine ⟨hR.sl, ⟨by simp, by rw [e]; omega, by rw [e]; omega⟩, hR.sl, ⟨hR, hlen, hop⟩, gotL_of (fun p hp => by simpa using hp), fun _ => ⟨⟨⟨hR, hlen, hop⟩, hul⟩, gotL_of (fun p hp => by simp [hp]), fun h => ?_, fun h => ?_⟩⟩
 ·refine plainB_leaf (Sy.mS _) rfl ?_
  have : failsB l.length (usedL l (List.replicate l.length 0)) 0 = true := (failsU_iff _ _).1 h
  unfold onceF
  rw [this]
  rfl
 ·refine plainB_leaf (Sy.mS _) rfl ?_
  have : failsB l.length (usedL l (List.replicate l.length 0)) 0 = false := by
   cases hb : failsB l.length (usedL l (List.replicate l.length 0)) 0 with
   | false => rfl
   | true => exact absurd ((failsU_iff _ _).2 hb) h
  unfold onceF
  rw [this]
  rfl
open Go Go.RowKit
open Sy (Let Blk HasL)
abbrev fExpr : FuncId := 98
def bodyX : Code := Sy.loopBody Tryz.f98 0
def slX (v : Value) (loc : Int) (i : Nat) : List (Nat × Value) := [(0, v), (1, .int .i64 loc), (4, .bool false), (9, v), (10, .int .i64 (Int.ofNat (Sy.lenS v))), (11, .int .i64 (Int.ofNat i))]
def ex1_o : Sy.O := (fork (pack 46 0x4e5183c000382d62c0002928398000142418800004000040000021 (fork (bz 52 0xa0205078453de (fork nil nil)) (bz 3 0x7 (fork (bz 142 0x280010005000f00100200804040f0508a7be (fork nil nil)) (bz 8 0xf7 (fork (bz 10 0x2f7 (fork nil nil)) (bz 17 0x17bde (fork nil nil)))))))) nil)
noncomputable def ex1_R (v : Value) (loc : Int) (i : Nat) (f : Nat → Value) (B : List (Nat × Sy.Cont)) (ns : Nat → Sy.Let) : Sy.Res (Exit × Nat × List Value × List Blk) :=
 let z0 := Int.ofNat i
 let z1 := Int.ofNat (Sy.lenS v)
 let z2 := Sy.ptrS v
 let z3 := rdOf B
 let z4 := Sy.offS v + Int.toNat z0 * 4
 let z5 := ns 0
 let z6 := Sy.offS v + Int.toNat z0 * 4 + 1
 let z7 := Sy.offS v + Int.toNat z0 * 4 + 1 + 1
 let z8 := ns 2
 let z9 := Sy.offS v + Int.toNat z0 * 4 + 1 + 1 + 1
 let z10 := ns 3
 let z11 := [v, Value.int .i64 loc, Value.bool false, v, Value.int .i64 z1, Value.int .i64 z0]
 let z12 := Sy.Cont.obj (Obj.cells (Array.mk [.int .i64 z5.i, .int .u64 (ns 1).i, .int .i64 z8.i, .int .i64 z10.i]) 127)
 let z13 := leaf (Exit.ret, 113, z11, Blk.mk (ns 4).n z12 true :: rdOf B)
 let z14 := leaf (Exit.normal, 113, [v, Value.int .i64 loc, Value.bool false, v, Value.int .i64 z1, Value.int .i64 (Ex.wrapQ .i64 (Ex.addQ z0 1))], Blk.mk (ns 4).n z12 true :: rdOf B)
 br (Ex.ltQ z0 z1) (need ((∃ (n : Nat), ∃ (c : Nat), v = Value.slice (some (Addr.mk z2 (Sy.offS v) none)) n c) ∧ 0 ≤ Int.ofNat i ∧ Int.ofNat i < (↑(Sy.lenS v) : Int)) (need (∃ (i_1 : Int), HasL z3 z2 z4 (Value.int .i64 i_1)) (hyp (∀ (u : Value), HasL z3 z2 z4 u → u = Value.int .i64 z5.i) (need (∃ (i_1 : Int), HasL z3 z2 z6 (Value.int .u64 i_1)) (hyp (∀ (u : Value), HasL z3 z2 z6 u → u = Value.int .u64 (ns 1).i) (need (∃ (i_1 : Int), HasL z3 z2 z7 (Value.int .i64 i_1)) (hyp (∀ (u : Value), HasL z3 z2 z7 u → u = Value.int .i64 z8.i) (need (∃ (i_1 : Int), HasL z3 z2 z9 (Value.int .i64 i_1)) (hyp (∀ (u : Value), HasL z3 z2 z9 u → u = Value.int .i64 z10.i) (br (Ex.eqQ z5.i 1) (br (bif !Ex.eqQ z8.i 0 then true else !Ex.eqQ z10.i 0) z13 z14) (br (Ex.eqQ z5.i 2) (br (bif !bif Ex.eqQ z8.i 0 then Ex.ltQ (ns 1).i (Ex.wrapQ .u64 loc) else false then true else !Ex.eqQ z10.i 0) z13 z14) (br (bif Ex.leQ 3 z5.i then Ex.leQ z5.i 5 else false) (br (bif !bif Ex.leQ 0 z8.i then Ex.ltQ z8.i z0 else false then true else !bif Ex.eqQ z10.i 0 then Ex.eqQ (ns 1).i 0 else false) z13 z14) (br (bif !bif Ex.leQ 0 z8.i then Ex.ltQ z8.i z0 else false then true else !bif bif bif bif Ex.leQ 0 z10.i then Ex.ltQ z10.i z0 else false then Ex.leQ 6 z5.i else false then Ex.leQ z5.i 19 else false then Ex.eqQ (ns 1).i 0 else false) z13 z14))))))))))))) (leaf (Exit.exit 0, 113, z11, rdOf B))
theorem ex1_run (v : Value) (loc : Int) (i : Nat) (f : Nat → Value) (B : List (Nat × Sy.Cont)) : Sy.Ran (Sy.pieceT Tryz.prog Sy.S0 50 fExpr bodyX 113 (slX v loc i) ((List.range 113).map f) (rdOf B) [0, 1, 4, 9, 10, 11]) ex1_o (ex1_R v loc i f B) := ⟨fun _ => by kernel_rfl, fun _ => by kernel_rfl⟩
def badX (loc : Int) (i : Nat) (n : NodeD) : Bool := bif Ex.eqQ n.op 1 then (bif !Ex.eqQ n.a 0 then true else !Ex.eqQ n.b 0)
 else bif Ex.eqQ n.op 2 then (bif !bif Ex.eqQ n.a 0 then Ex.ltQ n.val (Ex.wrapQ .u64 loc) else false then true else !Ex.eqQ n.b 0)
 else bif (bif Ex.leQ 3 n.op then Ex.leQ n.op 5 else false) then (bif !bif Ex.leQ 0 n.a then Ex.ltQ n.a (Int.ofNat i) else false then true else !bif Ex.eqQ n.b 0 then Ex.eqQ n.val 0 else false)
 else (bif !bif Ex.leQ 0 n.a then Ex.ltQ n.a (Int.ofNat i) else false then true
  else !bif bif bif bif Ex.leQ 0 n.b then Ex.ltQ n.b (Int.ofNat i) else false then Ex.leQ 6 n.op else false then Ex.leQ n.op 19 else false then Ex.eqQ n.val 0 else false)
def OkX (B : List (Nat × Sy.Cont)) (v : Value) (l : List NodeD) : Prop := NodesR B v l ∧ l.length < 4398046511104
def anyBad (loc : Int) (l : List NodeD) : Prop := ∃ i n, l[i]? = some n ∧ badX loc i n = true
def loopXC (B : List (Nat × Sy.Cont)) (v : Value) (l : List NodeD) (loc : Int) : Sy.LoopC :=
 ⟨.loop bodyX, 113, slX v loc 0, OkX B v l, ⟨[], [], 0, B⟩,
  [(⟨fun _ => anyBad loc l, fun _ => [], fun _ => []⟩, .ret, fun _ => [(4, .bool false)]),
   (⟨fun _ => ¬ anyBad loc l, fun _ => [], fun _ => []⟩, .exit 0, fun _ => [(0, v), (1, .int .i64 loc)])]⟩
theorem loopXC_met (B : List (Nat × Sy.Cont)) (v : Value) (l : List NodeD) (loc : Int) : Sy.MeetsL Tryz.prog (loopXC B v l loc) := by
 refine Sy.loop_ofB (S := fun _ : Nat => Sy.S0) (n := 50) (fn := fExpr) (fun _ => Sy.S0_holds) mixed (body := bodyX) rfl [0, 1, 4, 9, 10, 11] (fun k : Nat => slX v loc k)
  (fun _ => rdOf B) (fun k => k ≤ l.length ∧ OkX B v l ∧ ∀ i n, i < k → l[i]? = some n → badX loc i n = false) (fun k => l.length - k)
  0 (fun h => ⟨Nat.zero_le _, h, fun i x hi => by omega⟩) (fun p hp => hp) (Sy.Ent.refl _) (o := fun _ => ex1_o) (R := fun k f => ex1_R v loc k f B) (fun k f _ => ex1_run v loc k f B) ?_
 rintro - k f ⟨hk, ⟨hR, hlen⟩, hinv⟩ ns
 simp only [ex1_R, Sy.Res.holds]
 refine ⟨fun hlt => ?_, fun hge => ?_⟩
 ·have hlt : k < l.length := by rw [Ex.ltQ_eq, hR.len] at hlt; simpa using hlt
  obtain ⟨n, hn⟩ : ∃ n, l[k]? = some n := ⟨_, List.getElem?_eq_getElem hlt⟩
  have next : ∀ (x : Blk), badX loc k n = false → Sy.leafLB (loopXC B v l loc) [0, 1, 4, 9, 10, 11] (fun k : Nat => slX v loc k) (fun _ => rdOf B) (fun k => k ≤ l.length ∧ OkX B v l ∧ ∀ i n, i < k → l[i]? = some n → badX loc i n = false) (fun k => l.length - k) k
    (.normal, 113, [v, .int .i64 loc, .bool false, v, .int .i64 (Int.ofNat (Sy.lenS v)), .int .i64 (Ex.wrapQ .i64 (Ex.addQ (Int.ofNat k) 1))], x :: rdOf B) := fun x hb => by
   refine ⟨rfl, .inl ⟨rfl, k + 1, ⟨by omega, ⟨hR, hlen⟩, fun i m hi hm => ?_⟩, by show l.length - (k + 1) < l.length - k; omega, ?_, Sy.Ent.sub (List.sublist_cons_self _ _)⟩⟩
   ·by_cases he : i = k
    ·subst he
     rw [hn] at hm
     injection hm with hm
     rw [← hm]
     exact hb
    ·exact hinv i m (by omega) hm
   ·rw [w_succ (by omega)]
    rfl
  have stop : ∀ (x : Blk), badX loc k n = true → Sy.leafLB (loopXC B v l loc) [0, 1, 4, 9, 10, 11] (fun k : Nat => slX v loc k) (fun _ => rdOf B) (fun k => k ≤ l.length ∧ OkX B v l ∧ ∀ i n, i < k → l[i]? = some n → badX loc i n = false) (fun k => l.length - k) k
    (.ret, 113, [v, .int .i64 loc, .bool false, v, .int .i64 (Int.ofNat (Sy.lenS v)), .int .i64 (Int.ofNat k)], x :: rdOf B) := fun x hb =>
   ⟨rfl, .inr ⟨by simp, _, Sy.mH, rfl, [], rfl, ⟨[2], rfl⟩, Sy.Ent.sub (List.nil_sublist _), k, n, hn, hb⟩⟩
  refine ⟨⟨hR.at_ (fun h => by rw [h] at hlt; simp at hlt), by simp, by rw [hR.len]; simpa using hlt⟩, ⟨n.op, hR.op k n hn⟩, fun e0 => ⟨⟨n.val, hR.val k n hn⟩, fun e1 => ⟨⟨n.a, hR.a k n hn⟩, fun e2 => ⟨⟨n.b, hR.b k n hn⟩, fun e3 => ?_⟩⟩⟩⟩
  have e0 := e0 _ (hR.op k n hn)
  have e1 := e1 _ (hR.val k n hn)
  have e2 := e2 _ (hR.a k n hn)
  have e3 := e3 _ (hR.b k n hn)
  simp only [Value.int.injEq, true_and] at e0 e1 e2 e3
  rw [← e0, ← e1, ← e2, ← e3]
  refine ⟨fun h1 => ⟨fun hb => stop _ ?_, fun hb => next _ ?_⟩, fun h1 => ⟨fun h2 => ⟨fun hb => stop _ ?_, fun hb => next _ ?_⟩, fun h2 => ⟨fun h3 => ⟨fun hb => stop _ ?_, fun hb => next _ ?_⟩, fun h3 => ⟨fun hb => stop _ ?_, fun hb => next _ ?_⟩⟩⟩⟩
  ·unfold badX; rw [h1]; exact hb
  ·unfold badX; rw [h1]; exact hb
  ·unfold badX; rw [h1, h2]; exact hb
  ·unfold badX; rw [h1, h2]; exact hb
  ·unfold badX; rw [h1, h2, h3]; exact hb
  ·unfold badX; rw [h1, h2, h3]; exact hb
  ·unfold badX; rw [h1, h2, h3]; exact hb
  ·unfold badX; rw [h1, h2, h3]; exact hb
 ·have hge : k = l.length := by rw [Ex.ltQ_eq, hR.len] at hge; simp at hge; omega
  subst hge
  refine ⟨rfl, .inr ⟨by simp, _, Sy.mC _ (Sy.mS _), rfl, [], rfl, ⟨[0, 1], rfl⟩, Sy.Ent.sub (List.nil_sublist _), ?_⟩⟩
  rintro ⟨i, x, hx, hp⟩
  rw [hinv i x (List.getElem?_eq_some_iff.1 hx).1 hx] at hp
  cases hp
def ctxX (B : List (Nat × Sy.Cont)) (v : Value) (l : List NodeD) (loc : Int) : Sy.Ctx := Sy.mkS [(fOnce, fun _ _ => onceC B v l)] [(fExpr, fun _ _ => loopXC B v l loc)] []
theorem ctxX_holds (B : List (Nat × Sy.Cont)) (v : Value) (l : List NodeD) (loc : Int) : (ctxX B v l loc).holds Tryz.prog := Sy.mkS_holds (fun p hp a L => by
 rcases List.mem_singleton.1 hp with rfl
 exact onceC_met _ _ _) (fun p hp a L => by
 rcases List.mem_singleton.1 hp with rfl
 exact loopXC_met _ _ _ _) (fun _ h => (by cases h))
open Go Go.RowKit
open Sy (Let Blk HasL)
def exq_o : Sy.O := (bz 6 0x36 (fork (steps [0, 1] nil) (bz 9 0x155 (fork (bz 8 0xbb nil) (steps [0] nil)))))
noncomputable def exq_R (B : List (Nat × Sy.Cont)) (v : Value) (l : List NodeD) (loc : Int) (ns : Nat → Sy.Let) : Sy.Res (Value × List Blk) :=
 let z0 := (∃ (p : Option Addr), ∃ (n : Nat), ∃ (c : Nat), v = Value.slice p n c)
 let z1 := [] ++ rdOf B
 let z2 := leaf (Value.bool false, [] ++ z1)
 let z3 := Int.ofNat (Sy.lenS v)
 need z0 (need (NodesR B v l ∧ List.length l < 4398046511104) (need (Sy.GotL z1 B) (both (hyp (∃ (i : Nat), ∃ (n : NodeD), l[i]? = some n ∧ badX loc i n = true) z2) (hyp (anyBad loc l → False) (need z0 (need z0 (br (bif Ex.ltQ 0 z3 then Ex.leQ z3 65536 else false) (need (NodesR B v l ∧ List.length l ≤ 65536 ∧ ∀ (n : NodeD), n ∈ l → OperO (List.length l) n) (need (Sy.GotL ([] ++ ([] ++ z1)) B) (hyp True (leaf (Value.bool (bif true then onceF l else false), [] ++ ([] ++ ([] ++ z1))))))) z2)))))))
theorem exq_run (B : List (Nat × Sy.Cont)) (v : Value) (l : List NodeD) (loc : Int) : Sy.Ran (Sy.inB Tryz.prog (ctxX B v l loc) 50 fExpr #[v, .int .i64 loc] (rdOf B)) exq_o (exq_R B v l loc) := ⟨fun _ => by kernel_rfl, fun _ => by kernel_rfl⟩
def anyBadB (loc : Int) : List NodeD → Nat → Bool
 | [], _ => false
 | n :: r, i => badX loc i n || anyBadB loc r (i + 1)
theorem anyBadB_iff (loc : Int) : ∀ (u : List NodeD) (i : Nat), anyBadB loc u i = true ↔ ∃ j x, u[j]? = some x ∧ badX loc (i + j) x = true
 | [], i => by simp [anyBadB]
 | y :: r, i => by
   have ih := anyBadB_iff loc r (i + 1)
   simp only [anyBadB, Bool.or_eq_true, ih]
   constructor
   ·rintro (h | ⟨j, x, h1, h2⟩)
    ·exact ⟨0, y, rfl, h⟩
    ·exact ⟨j + 1, x, by simpa using h1, by rw [show i + (j + 1) = i + 1 + j by omega]; exact h2⟩
   ·rintro ⟨j, x, h1, h2⟩
    cases j with
    | zero =>
      simp only [List.getElem?_cons_zero, Option.some.injEq] at h1
      subst h1
      exact .inl h2
    | succ j => exact .inr ⟨j, x, by simpa using h1, by rw [show i + 1 + j = i + (j + 1) by omega]; exact h2⟩
theorem anyBad_iff (loc : Int) (l : List NodeD) : anyBad loc l ↔ anyBadB loc l 0 = true := by
 rw [anyBadB_iff]
 simp [anyBad]
def exprF (loc : Int) (l : List NodeD) : Bool := !(anyBadB loc l 0) && (decide (0 < l.length) && (decide (l.length ≤ 65536) && onceF l))
theorem oper_of {loc : Int} {l : List NodeD} (h : ¬ anyBad loc l) : ∀ n ∈ l, OperO l.length n := fun n hn => by
 obtain ⟨i, hi⟩ := List.mem_iff_getElem?.1 hn
 have hlt : i < l.length := (List.getElem?_eq_some_iff.1 hi).1
 have hb : badX loc i n = false := by
  cases hb : badX loc i n with
  | false => rfl
  | true => exact absurd ⟨i, n, hi, hb⟩ h
 unfold badX at hb
 simp only [Ex.eqQ_eq, Ex.leQ_eq, Ex.ltQ_eq] at hb
 constructor
 ·intro h3
  by_cases h1 : n.op = 1
  ·omega
  by_cases h2 : n.op = 2
  ·omega
  by_cases h5 : n.op ≤ 5
  ·simp [h1, h2, h3, h5] at hb
   omega
  ·simp [h1, h2, h3, h5] at hb
   omega
 ·intro h6
  have h1 : n.op ≠ 1 := by omega
  have h2 : n.op ≠ 2 := by omega
  have h5 : ¬ n.op ≤ 5 := by omega
  simp [h1, h2, h5] at hb
  omega
def exprC (B : List (Nat × Sy.Cont)) (v : Value) (l : List NodeD) (loc : Int) : Sy.CallC := ⟨fExpr, #[v, .int .i64 loc], OkX B v l, ⟨[], [], 0, B⟩, [Sy.plainO (.bool (exprF loc l))]⟩
theorem exprC_met (B : List (Nat × Sy.Cont)) (v : Value) (l : List NodeD) (loc : Int) : Sy.Meets Tryz.prog (exprC B v l loc) := by
 refine Sy.meets_ofB (ctxX_holds B v l loc) mixed (L := rdOf B) (Sy.Ent.refl _) (exq_run B v l loc) fun hok ns => ?_
 obtain ⟨hR, hlen⟩ := hok
 have leaf : ∀ (b : Bool) (L : List Blk), b = exprF loc l → Sy.leafB (exprC B v l loc) (.bool b, L) := fun b L h => plainB_leaf (Sy.mS _) rfl (by rw [h])
 simp only [exq_R, Sy.Res.holds]
 refine ⟨hR.sl, ⟨hR, hlen⟩, gotL_of (fun p hp => by simpa using hp), fun h => leaf _ _ ?_, fun h => ⟨hR.sl, hR.sl, fun hb => ⟨⟨hR, ?_, oper_of h⟩, gotL_of (fun p hp => by simp [hp]), fun _ => leaf _ _ ?_⟩, fun hb => leaf _ _ ?_⟩⟩
 ·have : anyBadB loc l 0 = true := (anyBad_iff _ _).1 h
  simp [exprF, this]
 ·rw [hR.len, Ex.ltQ_eq, Ex.leQ_eq] at hb
  by_cases h0 : 0 < l.length
  ·simp [h0] at hb
   omega
  ·simp [h0] at hb
 ·have h1 : anyBadB loc l 0 = false := by
   cases h1 : anyBadB loc l 0 with
   | false => rfl
   | true => exact absurd ((anyBad_iff _ _).2 h1) h
  rw [hR.len, Ex.ltQ_eq, Ex.leQ_eq] at hb
  by_cases h0 : 0 < l.length
  ·have hl : l.length ≤ 65536 := by
    simp [h0] at hb
    omega
   simp [exprF, h1, h0, hl]
  ·simp [h0] at hb
 ·have h1 : anyBadB loc l 0 = false := by
   cases h1 : anyBadB loc l 0 with
   | false => rfl
   | true => exact absurd ((anyBad_iff _ _).2 h1) h
  rw [hR.len, Ex.ltQ_eq, Ex.leQ_eq] at hb
  by_cases h0 : 0 < l.length
  ·have hl : ¬ l.length ≤ 65536 := by
    intro hl
    simp [h0] at hb
    omega
   simp [exprF, hl]
  ·simp [exprF, h0]
open Go Go.RowKit
open Sy (Let Blk HasL)
structure ActD where
 op : Int
 dst : Int
 base : Int
 size : Int
 ix : List NodeD
 e : List NodeD
 f : List NodeD
 mode : Int
 to : Int
 line : Int
 col : Int
def actV (a : ActD) (iv ev fv : Value) : Value := .agg #[.int .i64 a.op, .int .i64 a.dst, .int .i64 a.base, .int .i64 a.size, iv, ev, fv, .int .i64 a.mode, .int .i64 a.to, .int .i64 a.line, .int .i64 a.col]
def progV (cells : Int) (tv : Value) : Value := .agg #[.int .i64 cells, tv]
def thrV (locals : Int) (av : Value) : Value := .agg #[.int .i64 locals, av]
abbrev fMay : FuncId := 95
abbrev fPlace : FuncId := 97
abbrev fAct : FuncId := 58
def ctxP (B : List (Nat × Sy.Cont)) (v : Value) (l : List NodeD) (loc : Int) : Sy.Ctx := Sy.mkS [(fExpr, fun _ _ => exprC B v l loc)] [] []
theorem ctxP_holds (B : List (Nat × Sy.Cont)) (v : Value) (l : List NodeD) (loc : Int) : (ctxP B v l loc).holds Tryz.prog := Sy.mkS_holds (fun p hp a L => by
 rcases List.mem_singleton.1 hp with rfl
 exact exprC_met _ _ _ _) (fun _ h => (by cases h)) (fun _ h => (by cases h))
def may_o : Sy.O := (fork (steps [1, 1] nil) (fork (steps [1, 1] nil) (fork (steps [0, 1] nil) (fork (steps [0, 1] nil) (fork (steps [1] nil) (fork (steps [1] nil) nil))))))
noncomputable def may_R (op mode : Int) (ns : Nat → Sy.Let) : Sy.Res (Value × List Blk) :=
 let z0 := leaf (Value.bool (bif Ex.leQ 1 mode then Ex.leQ mode 5 else false), [])
 br (Ex.eqQ op 2) (leaf (Value.bool (bif bif Ex.eqQ mode 1 then true else Ex.eqQ mode 2 then true else Ex.eqQ mode 5), [])) (br (Ex.eqQ op 3) (leaf (Value.bool (bif bif Ex.eqQ mode 1 then true else Ex.eqQ mode 3 then true else Ex.eqQ mode 5), [])) (br (Ex.eqQ op 4) z0 (br (Ex.eqQ op 5) z0 (br (Ex.eqQ op 6) z0 (br (Ex.eqQ op 7) (leaf (Value.bool (bif Ex.leQ 2 mode then Ex.leQ mode 5 else false), [])) (leaf (Value.bool (Ex.eqQ mode 0), [])))))))
theorem may_run (op mode : Int) : Sy.Ran (Sy.inB Tryz.prog Sy.S0 50 fMay #[.int .i64 op, .int .i64 mode] []) may_o (may_R op mode) := ⟨fun _ => by kernel_rfl, fun _ => by kernel_rfl⟩
def plc_o : Sy.O := (bz 39 0x6fdb6ddb6d (fork nil (bz 4 0xd (fork (bz 9 0x1bb (fork (bz 4 0xf nil) (bz 7 0x7b (fork (bz 17 0x1b2fb nil) (bz 4 0xf nil))))) (bz 11 0x7bf (fork (bz 17 0x1b2fb nil) (bz 4 0xf nil)))))))
noncomputable def plc_R (B : List (Nat × Sy.Cont)) (op dst base size mode to line col : Int) (iv ev fv tv : Value) (ix : List NodeD) (cells loc : Int) (ns : Nat → Sy.Let) : Sy.Res (Value × List Blk) :=
 let z0 := Sy.Cont.obj (Obj.cells (Array.mk [.int .i64 cells, tv]) 24)
 let z1 := Sy.Cont.obj (Obj.cells (Array.mk [.int .i64 op, .int .i64 dst, .int .i64 base, .int .i64 size, iv, ev, fv, .int .i64 mode, .int .i64 to, .int .i64 line, .int .i64 col]) 46)
 let z2 := leaf (Value.bool false, Blk.mk (ns 1).n z0 true :: Blk.mk (ns 0).n z1 true :: rdOf B)
 let z3 := br (Ex.ltQ 0 size) (need (NodesR B iv ix ∧ List.length ix < 4398046511104) (need (Sy.GotL (rdOf B) B) (hyp True (leaf (Value.bool (bif false then true else bif true then exprF loc ix else false), Blk.mk (ns 1).n z0 true :: Blk.mk (ns 0).n z1 true :: rdOf B))))) z2
 br (bif bif bif bif Ex.ltQ size 0 then true else Ex.ltQ 1024 size then true else !Ex.eqQ (Ex.andQ .i64 size (Ex.wrapQ .i64 (Ex.subQ' size 1))) 0 then true else Ex.ltQ base 0 then true else Ex.ltQ (Ex.wrapQ .i64 (Ex.subQ' cells (bif Ex.ltQ 1 size then size else 1))) base) z2 (br (Ex.eqQ size 0) (need (∃ (p : Option Addr), ∃ (n : Nat), ∃ (c : Nat), iv = Value.slice p n c) (br (bif true then Ex.eqQ (Int.ofNat (Sy.lenS iv)) 0 else false) (leaf (Value.bool true, Blk.mk (ns 1).n z0 true :: Blk.mk (ns 0).n z1 true :: rdOf B)) z3)) z3)
theorem plc_run (B : List (Nat × Sy.Cont)) (op dst base size mode to line col : Int) (iv ev fv tv : Value) (ix : List NodeD) (cells loc : Int) : Sy.Ran (Sy.inB Tryz.prog (ctxP B iv ix loc) 50 fPlace #[.agg #[.int .i64 op, .int .i64 dst, .int .i64 base, .int .i64 size, iv, ev, fv, .int .i64 mode, .int .i64 to, .int .i64 line, .int .i64 col], progV cells tv, .int .i64 loc] (rdOf B)) plc_o (plc_R B op dst base size mode to line col iv ev fv tv ix cells loc) := ⟨fun _ => by kernel_rfl, fun _ => by kernel_rfl⟩
def mayF (op mode : Int) : Bool := bif Ex.eqQ op 2 then (bif bif Ex.eqQ mode 1 then true else Ex.eqQ mode 2 then true else Ex.eqQ mode 5)
 else bif Ex.eqQ op 3 then (bif bif Ex.eqQ mode 1 then true else Ex.eqQ mode 3 then true else Ex.eqQ mode 5)
 else bif Ex.eqQ op 4 then (bif Ex.leQ 1 mode then Ex.leQ mode 5 else false)
 else bif Ex.eqQ op 5 then (bif Ex.leQ 1 mode then Ex.leQ mode 5 else false)
 else bif Ex.eqQ op 6 then (bif Ex.leQ 1 mode then Ex.leQ mode 5 else false)
 else bif Ex.eqQ op 7 then (bif Ex.leQ 2 mode then Ex.leQ mode 5 else false)
 else Ex.eqQ mode 0
def mayC (op mode : Int) : Sy.CallC := ⟨fMay, #[.int .i64 op, .int .i64 mode], True, ⟨[], [], 0, []⟩, [Sy.plainO (.bool (mayF op mode))]⟩
theorem mayC_met (op mode : Int) : Sy.Meets Tryz.prog (mayC op mode) := by
 refine Sy.meets_ofB Sy.S0_holds mixed (L := []) (Sy.Ent.refl _) (may_run op mode) fun _ ns => ?_
 simp only [may_R, Sy.Res.holds]
 have leaf : ∀ b, b = mayF op mode → Sy.leafB (mayC op mode) (.bool b, []) := fun b h => plainB_leaf (Sy.mS _) rfl (by rw [h])
 unfold mayF at leaf
 refine ⟨fun h1 => leaf _ ?_, fun h1 => ⟨fun h2 => leaf _ ?_, fun h2 => ⟨fun h3 => leaf _ ?_, fun h3 => ⟨fun h4 => leaf _ ?_, fun h4 => ⟨fun h5 => leaf _ ?_, fun h5 => ⟨fun h6 => leaf _ ?_, fun h6 => leaf _ ?_⟩⟩⟩⟩⟩⟩
 all_goals simp_all
def placeF (size base cells loc : Int) (ix : List NodeD) : Bool := bif (bif bif bif bif Ex.ltQ size 0 then true else Ex.ltQ 1024 size then true
 else !Ex.eqQ (Ex.andQ .i64 size (Ex.wrapQ .i64 (Ex.subQ' size 1))) 0 then true else Ex.ltQ base 0 then true
 else Ex.ltQ (Ex.wrapQ .i64 (Ex.subQ' cells (bif Ex.ltQ 1 size then size else 1))) base) then false
 else bif Ex.eqQ size 0 then decide (ix.length = 0) else exprF loc ix
def placeC (B : List (Nat × Sy.Cont)) (op dst base size mode to line col : Int) (iv ev fv tv : Value) (ix : List NodeD) (cells loc : Int) : Sy.CallC :=
 ⟨fPlace, #[.agg #[.int .i64 op, .int .i64 dst, .int .i64 base, .int .i64 size, iv, ev, fv, .int .i64 mode, .int .i64 to, .int .i64 line, .int .i64 col], progV cells tv, .int .i64 loc], OkX B iv ix, ⟨[], [], 0, B⟩, [Sy.plainO (.bool (placeF size base cells loc ix))]⟩
theorem placeC_met (B : List (Nat × Sy.Cont)) (op dst base size mode to line col : Int) (iv ev fv tv : Value) (ix : List NodeD) (cells loc : Int) : Sy.Meets Tryz.prog (placeC B op dst base size mode to line col iv ev fv tv ix cells loc) := by
 refine Sy.meets_ofB (ctxP_holds B iv ix loc) mixed (L := rdOf B) (Sy.Ent.refl _) (plc_run B op dst base size mode to line col iv ev fv tv ix cells loc) fun hok ns => ?_
 obtain ⟨hR, hlen⟩ := hok
 simp only [plc_R, Sy.Res.holds]
 have leaf : ∀ b L, b = placeF size base cells loc ix → Sy.leafB (placeC B op dst base size mode to line col iv ev fv tv ix cells loc) (.bool b, L) := fun b L h => plainB_leaf (Sy.mS _) rfl (by rw [h])
 have got : Sy.GotL (rdOf B) B := gotL_of fun p hp => hp
 have hl : Ex.eqQ (Int.ofNat (Sy.lenS iv)) 0 = decide (ix.length = 0) := by
  rw [hR.len, Ex.eqQ_eq]
  by_cases h : ix.length = 0 <;> simp [h]
 rw [hl]
 refine ⟨fun h1 => leaf _ _ ?_, fun h1 => ⟨fun h2 => ⟨hR.sl, fun h3 => leaf _ _ ?_, fun h3 => ⟨fun h4 => ?_, fun h4 => leaf _ _ ?_⟩⟩, fun h2 => ⟨fun h4 => ⟨⟨hR, hlen⟩, got, fun _ => leaf _ _ ?_⟩, fun h4 => ?_⟩⟩⟩
 ·unfold placeF
  rw [h1]
  rfl
 ·unfold placeF
  rw [h1, h2]
  simpa using h3.symm
 ·exfalso
  rw [Ex.eqQ_eq] at h2
  rw [Ex.ltQ_eq] at h4
  simp at h2 h4
  omega
 ·unfold placeF
  rw [h1, h2]
  simpa using h3.symm
 ·unfold placeF
  rw [h1, h2]
  rfl
 ·exfalso
  rw [Ex.eqQ_eq] at h2
  rw [Ex.ltQ_eq] at h4
  have h5 : Ex.ltQ size 0 = false := by
   cases h5 : Ex.ltQ size 0 with
   | false => rfl
   | true => rw [h5] at h1; simp at h1
  rw [Ex.ltQ_eq] at h5
  simp at h2 h4 h5
  omega
open Go Go.RowKit
open Sy (Let Blk HasL)
abbrev fParts : FuncId := 96
def pt1_o : Sy.O := (bz 6 0x3f nil)
noncomputable def pt1_R  (ns : Nat → Sy.Let) : Sy.Res (Value × List Blk) :=
 let z0 := Array.mk [Value.bool true, Value.bool false, Value.bool true, Value.bool false, Value.bool false]
 leaf (Value.agg z0, [Blk.mk (ns 0).n (.obj (.cells z0 176)) true])
theorem pt1_run  : Sy.Ran (Sy.inB Tryz.prog Sy.S0 50 fParts #[.int .i64 1] []) pt1_o (pt1_R ) := ⟨fun _ => by kernel_rfl, fun _ => by kernel_rfl⟩
def pt2_o : Sy.O := (bz 6 0x3f nil)
noncomputable def pt2_R  (ns : Nat → Sy.Let) : Sy.Res (Value × List Blk) :=
 let z0 := Array.mk [Value.bool true, Value.bool true, Value.bool false, Value.bool false, Value.bool false]
 leaf (Value.agg z0, [Blk.mk (ns 0).n (.obj (.cells z0 176)) true])
theorem pt2_run  : Sy.Ran (Sy.inB Tryz.prog Sy.S0 50 fParts #[.int .i64 2] []) pt2_o (pt2_R ) := ⟨fun _ => by kernel_rfl, fun _ => by kernel_rfl⟩
def pt3_o : Sy.O := (bz 6 0x3f nil)
noncomputable def pt3_R  (ns : Nat → Sy.Let) : Sy.Res (Value × List Blk) :=
 let z0 := Array.mk [Value.bool false, Value.bool true, Value.bool true, Value.bool false, Value.bool false]
 leaf (Value.agg z0, [Blk.mk (ns 0).n (.obj (.cells z0 176)) true])
theorem pt3_run  : Sy.Ran (Sy.inB Tryz.prog Sy.S0 50 fParts #[.int .i64 3] []) pt3_o (pt3_R ) := ⟨fun _ => by kernel_rfl, fun _ => by kernel_rfl⟩
def pt4_o : Sy.O := (bz 6 0x3f nil)
noncomputable def pt4_R  (ns : Nat → Sy.Let) : Sy.Res (Value × List Blk) :=
 let z0 := Array.mk [Value.bool true, Value.bool true, Value.bool true, Value.bool false, Value.bool false]
 leaf (Value.agg z0, [Blk.mk (ns 0).n (.obj (.cells z0 176)) true])
theorem pt4_run  : Sy.Ran (Sy.inB Tryz.prog Sy.S0 50 fParts #[.int .i64 4] []) pt4_o (pt4_R ) := ⟨fun _ => by kernel_rfl, fun _ => by kernel_rfl⟩
def pt5_o : Sy.O := (bz 6 0x3f nil)
noncomputable def pt5_R  (ns : Nat → Sy.Let) : Sy.Res (Value × List Blk) :=
 let z0 := Array.mk [Value.bool true, Value.bool true, Value.bool true, Value.bool false, Value.bool false]
 leaf (Value.agg z0, [Blk.mk (ns 0).n (.obj (.cells z0 176)) true])
theorem pt5_run  : Sy.Ran (Sy.inB Tryz.prog Sy.S0 50 fParts #[.int .i64 5] []) pt5_o (pt5_R ) := ⟨fun _ => by kernel_rfl, fun _ => by kernel_rfl⟩
def pt6_o : Sy.O := (bz 6 0x3f nil)
noncomputable def pt6_R  (ns : Nat → Sy.Let) : Sy.Res (Value × List Blk) :=
 let z0 := Array.mk [Value.bool true, Value.bool true, Value.bool true, Value.bool true, Value.bool false]
 leaf (Value.agg z0, [Blk.mk (ns 0).n (.obj (.cells z0 176)) true])
theorem pt6_run  : Sy.Ran (Sy.inB Tryz.prog Sy.S0 50 fParts #[.int .i64 6] []) pt6_o (pt6_R ) := ⟨fun _ => by kernel_rfl, fun _ => by kernel_rfl⟩
def pt7_o : Sy.O := (bz 6 0x3f nil)
noncomputable def pt7_R  (ns : Nat → Sy.Let) : Sy.Res (Value × List Blk) :=
 let z0 := Array.mk [Value.bool false, Value.bool false, Value.bool false, Value.bool false, Value.bool false]
 leaf (Value.agg z0, [Blk.mk (ns 0).n (.obj (.cells z0 176)) true])
theorem pt7_run  : Sy.Ran (Sy.inB Tryz.prog Sy.S0 50 fParts #[.int .i64 7] []) pt7_o (pt7_R ) := ⟨fun _ => by kernel_rfl, fun _ => by kernel_rfl⟩
def pt8_o : Sy.O := (bz 6 0x3f nil)
noncomputable def pt8_R  (ns : Nat → Sy.Let) : Sy.Res (Value × List Blk) :=
 let z0 := Array.mk [Value.bool false, Value.bool false, Value.bool true, Value.bool false, Value.bool false]
 leaf (Value.agg z0, [Blk.mk (ns 0).n (.obj (.cells z0 176)) true])
theorem pt8_run  : Sy.Ran (Sy.inB Tryz.prog Sy.S0 50 fParts #[.int .i64 8] []) pt8_o (pt8_R ) := ⟨fun _ => by kernel_rfl, fun _ => by kernel_rfl⟩
def pt9_o : Sy.O := (bz 6 0x3f nil)
noncomputable def pt9_R  (ns : Nat → Sy.Let) : Sy.Res (Value × List Blk) :=
 let z0 := Array.mk [Value.bool false, Value.bool false, Value.bool false, Value.bool false, Value.bool true]
 leaf (Value.agg z0, [Blk.mk (ns 0).n (.obj (.cells z0 176)) true])
theorem pt9_run  : Sy.Ran (Sy.inB Tryz.prog Sy.S0 50 fParts #[.int .i64 9] []) pt9_o (pt9_R ) := ⟨fun _ => by kernel_rfl, fun _ => by kernel_rfl⟩
def pt10_o : Sy.O := (bz 6 0x3f nil)
noncomputable def pt10_R  (ns : Nat → Sy.Let) : Sy.Res (Value × List Blk) :=
 let z0 := Array.mk [Value.bool false, Value.bool false, Value.bool true, Value.bool false, Value.bool true]
 leaf (Value.agg z0, [Blk.mk (ns 0).n (.obj (.cells z0 176)) true])
theorem pt10_run  : Sy.Ran (Sy.inB Tryz.prog Sy.S0 50 fParts #[.int .i64 10] []) pt10_o (pt10_R ) := ⟨fun _ => by kernel_rfl, fun _ => by kernel_rfl⟩
def hasDst (op : Int) : Bool := decide (op = 1 ∨ op = 2 ∨ op = 4 ∨ op = 5 ∨ op = 6)
def hasPlace (op : Int) : Bool := decide (2 ≤ op ∧ op ≤ 6)
def hasE (op : Int) : Bool := decide (op ≠ 2 ∧ op ≠ 7 ∧ op ≠ 9)
def hasF (op : Int) : Bool := decide (op = 6)
def hasTo (op : Int) : Bool := decide (op = 9 ∨ op = 10)
def partsV (op : Int) : Value := .agg #[.bool (hasDst op), .bool (hasPlace op), .bool (hasE op), .bool (hasF op), .bool (hasTo op)]
def partsC (op : Int) : Sy.CallC := ⟨fParts, #[.int .i64 op], 1 ≤ op ∧ op ≤ 10, ⟨[], [], 0, []⟩, [Sy.plainO (partsV op)]⟩
theorem partsC_met (op : Int) : Sy.Meets Tryz.prog (partsC op) := fun hok => by
 have h : op = 1 ∨ op = 2 ∨ op = 3 ∨ op = 4 ∨ op = 5 ∨ op = 6 ∨ op = 7 ∨ op = 8 ∨ op = 9 ∨ op = 10 := by
  have := hok.1
  have := hok.2
  omega
 rcases h with rfl | rfl | rfl | rfl | rfl | rfl | rfl | rfl | rfl | rfl
 ·exact Sy.meets_ofB Sy.S0_holds mixed (c := partsC 1) (L := []) (Sy.Ent.refl _) pt1_run (fun _ ns => by
   simp only [pt1_R, Sy.Res.holds]
   first | exact plainB_leaf (Sy.mS _) rfl rfl | exact fun _ => plainB_leaf (Sy.mS _) rfl rfl) hok
 ·exact Sy.meets_ofB Sy.S0_holds mixed (c := partsC 2) (L := []) (Sy.Ent.refl _) pt2_run (fun _ ns => by
   simp only [pt2_R, Sy.Res.holds]
   first | exact plainB_leaf (Sy.mS _) rfl rfl | exact fun _ => plainB_leaf (Sy.mS _) rfl rfl) hok
 ·exact Sy.meets_ofB Sy.S0_holds mixed (c := partsC 3) (L := []) (Sy.Ent.refl _) pt3_run (fun _ ns => by
   simp only [pt3_R, Sy.Res.holds]
   first | exact plainB_leaf (Sy.mS _) rfl rfl | exact fun _ => plainB_leaf (Sy.mS _) rfl rfl) hok
 ·exact Sy.meets_ofB Sy.S0_holds mixed (c := partsC 4) (L := []) (Sy.Ent.refl _) pt4_run (fun _ ns => by
   simp only [pt4_R, Sy.Res.holds]
   first | exact plainB_leaf (Sy.mS _) rfl rfl | exact fun _ => plainB_leaf (Sy.mS _) rfl rfl) hok
 ·exact Sy.meets_ofB Sy.S0_holds mixed (c := partsC 5) (L := []) (Sy.Ent.refl _) pt5_run (fun _ ns => by
   simp only [pt5_R, Sy.Res.holds]
   first | exact plainB_leaf (Sy.mS _) rfl rfl | exact fun _ => plainB_leaf (Sy.mS _) rfl rfl) hok
 ·exact Sy.meets_ofB Sy.S0_holds mixed (c := partsC 6) (L := []) (Sy.Ent.refl _) pt6_run (fun _ ns => by
   simp only [pt6_R, Sy.Res.holds]
   first | exact plainB_leaf (Sy.mS _) rfl rfl | exact fun _ => plainB_leaf (Sy.mS _) rfl rfl) hok
 ·exact Sy.meets_ofB Sy.S0_holds mixed (c := partsC 7) (L := []) (Sy.Ent.refl _) pt7_run (fun _ ns => by
   simp only [pt7_R, Sy.Res.holds]
   first | exact plainB_leaf (Sy.mS _) rfl rfl | exact fun _ => plainB_leaf (Sy.mS _) rfl rfl) hok
 ·exact Sy.meets_ofB Sy.S0_holds mixed (c := partsC 8) (L := []) (Sy.Ent.refl _) pt8_run (fun _ ns => by
   simp only [pt8_R, Sy.Res.holds]
   first | exact plainB_leaf (Sy.mS _) rfl rfl | exact fun _ => plainB_leaf (Sy.mS _) rfl rfl) hok
 ·exact Sy.meets_ofB Sy.S0_holds mixed (c := partsC 9) (L := []) (Sy.Ent.refl _) pt9_run (fun _ ns => by
   simp only [pt9_R, Sy.Res.holds]
   first | exact plainB_leaf (Sy.mS _) rfl rfl | exact fun _ => plainB_leaf (Sy.mS _) rfl rfl) hok
 ·exact Sy.meets_ofB Sy.S0_holds mixed (c := partsC 10) (L := []) (Sy.Ent.refl _) pt10_run (fun _ ns => by
   simp only [pt10_R, Sy.Res.holds]
   first | exact plainB_leaf (Sy.mS _) rfl rfl | exact fun _ => plainB_leaf (Sy.mS _) rfl rfl) hok
def ctxW (B : List (Nat × Sy.Cont)) (op dst base size mode to line col : Int) (iv ev fv tv : Value) (ix e f : List NodeD) (cells loc : Int) : Sy.Ctx := Sy.mkS [(fMay, fun _ _ => mayC op mode), (fParts, fun _ _ => partsC op), (fPlace, fun _ _ => placeC B op dst base size mode to line col iv ev fv tv ix cells loc), (fExpr, fun _ _ => exprC B ev e loc), (fExpr, fun _ _ => exprC B fv f loc)] [] []
theorem ctxW_holds (B : List (Nat × Sy.Cont)) (op dst base size mode to line col : Int) (iv ev fv tv : Value) (ix e f : List NodeD) (cells loc : Int) : (ctxW B op dst base size mode to line col iv ev fv tv ix e f cells loc).holds Tryz.prog := Sy.mkS_holds (fun p hp a L => by
 simp only [List.mem_cons, List.not_mem_nil, or_false] at hp
 rcases hp with rfl | rfl | rfl | rfl | rfl
 ·exact mayC_met _ _
 ·exact partsC_met _
 ·exact placeC_met _ _ _ _ _ _ _ _ _ _ _ _ _ _ _ _
 ·exact exprC_met _ _ _ _
 ·exact exprC_met _ _ _ _) (fun _ h => (by cases h)) (fun _ h => (by cases h))
def partsX (op : Int) : Sy.CallC := ⟨fParts, #[.int .i64 op], False, ⟨[], [], 0, []⟩, [Sy.plainO (.agg #[.bool false, .bool false, .bool false, .bool false, .bool false])]⟩
def ctxV (op mode : Int) : Sy.Ctx := Sy.mkS [(fMay, fun _ _ => mayC op mode), (fParts, fun _ _ => partsX op)] [] []
theorem ctxV_holds (op mode : Int) : (ctxV op mode).holds Tryz.prog := Sy.mkS_holds (fun p hp a L => by
 simp only [List.mem_cons, List.not_mem_nil, or_false] at hp
 rcases hp with rfl | rfl
 ·exact mayC_met _ _
 ·exact fun h => h.elim) (fun _ h => (by cases h)) (fun _ h => (by cases h))
open Go Go.RowKit
open Sy (Let Blk HasL)
def wac1_o : Sy.O := (bz 37 0x1bf3e7f3f9 (fork nil (bz 26 0x3c7fef9 (fork (bz 7 0x7f nil) (bz 15 0x7be3 (fork (steps [0] nil) (bz 33 0x1e3ffffff (fork (pack 10 0x0 nil) (bz 10 0x3e3 (fork (bz 5 0x1f nil) (bz 12 0xee3 (fork nil (bz 11 0x58f (fork (steps [0] nil) (bz 11 0x58f (fork (steps [0] nil) (bz 30 0x3617be3f (fork (steps [0] nil) (bz 34 0x3c7ffffff (fork nil nil))))))))))))))))))))
noncomputable def wac1_R (B : List (Nat × Sy.Cont)) (dst base size mode to line col : Int) (iv ev fv tv av : Value) (ix e f : List NodeD) (cells loc : Int) (ns : Nat → Sy.Let) : Sy.Res (Value × List Blk) :=
 let z0 := Sy.Cont.obj (Obj.cells (Array.mk [.int .i64 loc, av]) 40)
 let z1 := Sy.Cont.obj (Obj.cells (Array.mk [.int .i64 cells, tv]) 24)
 let z2 := Sy.Cont.obj (Obj.cells (Array.mk [.int .i64 1, .int .i64 dst, .int .i64 base, .int .i64 size, iv, ev, fv, .int .i64 mode, .int .i64 to, .int .i64 line, .int .i64 col]) 46)
 let z3 := Sy.Cont.obj (Obj.cells (Array.mk [.bool true, .bool false, .bool true, .bool false, .bool false]) 176)
 let z4 := leaf (Value.bool false, Blk.mk (ns 3).n z3 true :: Blk.mk (ns 2).n z0 true :: Blk.mk (ns 1).n z1 true :: Blk.mk (ns 0).n z2 true :: rdOf B)
 need True (hyp True (br (bif false then true else !mayF 1 mode) (leaf (Value.bool false, Blk.mk (ns 2).n z0 true :: Blk.mk (ns 1).n z1 true :: Blk.mk (ns 0).n z2 true :: rdOf B)) (need ((1 : Int) ≤ 1 ∧ (1 : Int) ≤ 10) (hyp True (br (Ex.ltQ dst 0) z4 (br (bif true then bif false then true else Ex.leQ loc dst else false) z4 (br (!Ex.eqQ base 0) z4 (br (bif false then true else !Ex.eqQ size 0) z4 (need (∃ (p : Option Addr), ∃ (n : Nat), ∃ (c : Nat), iv = Value.slice p n c) (br (bif true then bif false then true else Ex.ltQ 0 (Int.ofNat (Sy.lenS iv)) else false) z4 (need (∃ (p : Option Addr), ∃ (n : Nat), ∃ (c : Nat), ev = Value.slice p n c) (br (!true == Ex.ltQ 0 (Int.ofNat (Sy.lenS ev))) z4 (need (∃ (p : Option Addr), ∃ (n : Nat), ∃ (c : Nat), fv = Value.slice p n c) (br (!false == Ex.ltQ 0 (Int.ofNat (Sy.lenS fv))) z4 (need (NodesR B ev e ∧ List.length e < 4398046511104) (need (Sy.GotL (rdOf B) B) (hyp True (br (bif true then !exprF loc e else false) z4 (br (bif true then !Ex.eqQ to 0 else false) z4 (leaf (Value.bool true, Blk.mk (ns 3).n z3 true :: Blk.mk (ns 2).n z0 true :: Blk.mk (ns 1).n z1 true :: Blk.mk (ns 0).n z2 true :: rdOf B)))))))))))))))))))))
theorem wac1_run (B : List (Nat × Sy.Cont)) (dst base size mode to line col : Int) (iv ev fv tv av : Value) (ix e f : List NodeD) (cells loc : Int) : Sy.Ran (Sy.inB Tryz.prog (ctxW B (1) dst base size mode to line col iv ev fv tv ix e f cells loc) 50 fAct #[.agg #[.int .i64 (1), .int .i64 dst, .int .i64 base, .int .i64 size, iv, ev, fv, .int .i64 mode, .int .i64 to, .int .i64 line, .int .i64 col], progV cells tv, thrV loc av] (rdOf B)) wac1_o (wac1_R B dst base size mode to line col iv ev fv tv av ix e f cells loc) := ⟨fun _ => by kernel_rfl, fun _ => by kernel_rfl⟩
def wac2_o : Sy.O := (bz 37 0x1bf3e7f3f9 (fork nil (bz 26 0x3c7fef9 (fork (bz 7 0x7f nil) (bz 15 0x7be3 (fork (steps [0] nil) (bz 45 0x1b0bdf3c7fff (fork (steps [0] nil) (bz 22 0x2c7fff (fork (steps [0] nil) (bz 11 0x58f (fork (steps [0] nil) (bz 44 0xf1fffffffff (fork nil nil))))))))))))))
noncomputable def wac2_R (B : List (Nat × Sy.Cont)) (dst base size mode to line col : Int) (iv ev fv tv av : Value) (ix e f : List NodeD) (cells loc : Int) (ns : Nat → Sy.Let) : Sy.Res (Value × List Blk) :=
 let z0 := Sy.Cont.obj (Obj.cells (Array.mk [.int .i64 loc, av]) 40)
 let z1 := Sy.Cont.obj (Obj.cells (Array.mk [.int .i64 cells, tv]) 24)
 let z2 := Sy.Cont.obj (Obj.cells (Array.mk [.int .i64 2, .int .i64 dst, .int .i64 base, .int .i64 size, iv, ev, fv, .int .i64 mode, .int .i64 to, .int .i64 line, .int .i64 col]) 46)
 let z3 := Sy.Cont.obj (Obj.cells (Array.mk [.bool true, .bool true, .bool false, .bool false, .bool false]) 176)
 let z4 := leaf (Value.bool false, Blk.mk (ns 3).n z3 true :: Blk.mk (ns 2).n z0 true :: Blk.mk (ns 1).n z1 true :: Blk.mk (ns 0).n z2 true :: rdOf B)
 need True (hyp True (br (bif false then true else !mayF 2 mode) (leaf (Value.bool false, Blk.mk (ns 2).n z0 true :: Blk.mk (ns 1).n z1 true :: Blk.mk (ns 0).n z2 true :: rdOf B)) (need ((1 : Int) ≤ 2 ∧ (2 : Int) ≤ 10) (hyp True (br (Ex.ltQ dst 0) z4 (br (bif true then bif false then true else Ex.leQ loc dst else false) z4 (need (NodesR B iv ix ∧ List.length ix < 4398046511104) (need (Sy.GotL (rdOf B) B) (hyp True (br (bif true then !placeF size base cells loc ix else false) z4 (need (∃ (p : Option Addr), ∃ (n : Nat), ∃ (c : Nat), ev = Value.slice p n c) (br (!false == Ex.ltQ 0 (Int.ofNat (Sy.lenS ev))) z4 (need (∃ (p : Option Addr), ∃ (n : Nat), ∃ (c : Nat), fv = Value.slice p n c) (br (!false == Ex.ltQ 0 (Int.ofNat (Sy.lenS fv))) z4 (br (bif true then !Ex.eqQ to 0 else false) z4 (leaf (Value.bool true, Blk.mk (ns 3).n z3 true :: Blk.mk (ns 2).n z0 true :: Blk.mk (ns 1).n z1 true :: Blk.mk (ns 0).n z2 true :: rdOf B)))))))))))))))))
theorem wac2_run (B : List (Nat × Sy.Cont)) (dst base size mode to line col : Int) (iv ev fv tv av : Value) (ix e f : List NodeD) (cells loc : Int) : Sy.Ran (Sy.inB Tryz.prog (ctxW B (2) dst base size mode to line col iv ev fv tv ix e f cells loc) 50 fAct #[.agg #[.int .i64 (2), .int .i64 dst, .int .i64 base, .int .i64 size, iv, ev, fv, .int .i64 mode, .int .i64 to, .int .i64 line, .int .i64 col], progV cells tv, thrV loc av] (rdOf B)) wac2_o (wac2_R B dst base size mode to line col iv ev fv tv av ix e f cells loc) := ⟨fun _ => by kernel_rfl, fun _ => by kernel_rfl⟩
def wac3_o : Sy.O := (bz 37 0x1bf3e7f3f9 (fork nil (bz 37 0x1e3ffffef9 (fork nil (bz 35 0x6c2f7cf1f (fork (steps [0] nil) (bz 22 0x2c7fff (fork (steps [0] nil) (bz 11 0x58f (fork (steps [0] nil) (bz 30 0x3617be3f (fork (steps [0] nil) (bz 34 0x3c7ffffff (fork nil nil))))))))))))))
noncomputable def wac3_R (B : List (Nat × Sy.Cont)) (dst base size mode to line col : Int) (iv ev fv tv av : Value) (ix e f : List NodeD) (cells loc : Int) (ns : Nat → Sy.Let) : Sy.Res (Value × List Blk) :=
 let z0 := Sy.Cont.obj (Obj.cells (Array.mk [.int .i64 loc, av]) 40)
 let z1 := Sy.Cont.obj (Obj.cells (Array.mk [.int .i64 cells, tv]) 24)
 let z2 := Sy.Cont.obj (Obj.cells (Array.mk [.int .i64 3, .int .i64 dst, .int .i64 base, .int .i64 size, iv, ev, fv, .int .i64 mode, .int .i64 to, .int .i64 line, .int .i64 col]) 46)
 let z3 := Sy.Cont.obj (Obj.cells (Array.mk [.bool false, .bool true, .bool true, .bool false, .bool false]) 176)
 let z4 := leaf (Value.bool false, Blk.mk (ns 3).n z3 true :: Blk.mk (ns 2).n z0 true :: Blk.mk (ns 1).n z1 true :: Blk.mk (ns 0).n z2 true :: rdOf B)
 let z5 := Sy.GotL (rdOf B) B
 need True (hyp True (br (bif false then true else !mayF 3 mode) (leaf (Value.bool false, Blk.mk (ns 2).n z0 true :: Blk.mk (ns 1).n z1 true :: Blk.mk (ns 0).n z2 true :: rdOf B)) (need ((1 : Int) ≤ 3 ∧ (3 : Int) ≤ 10) (hyp True (br (bif true then !Ex.eqQ dst 0 else false) z4 (need (NodesR B iv ix ∧ List.length ix < 4398046511104) (need z5 (hyp True (br (bif true then !placeF size base cells loc ix else false) z4 (need (∃ (p : Option Addr), ∃ (n : Nat), ∃ (c : Nat), ev = Value.slice p n c) (br (!true == Ex.ltQ 0 (Int.ofNat (Sy.lenS ev))) z4 (need (∃ (p : Option Addr), ∃ (n : Nat), ∃ (c : Nat), fv = Value.slice p n c) (br (!false == Ex.ltQ 0 (Int.ofNat (Sy.lenS fv))) z4 (need (NodesR B ev e ∧ List.length e < 4398046511104) (need z5 (hyp True (br (bif true then !exprF loc e else false) z4 (br (bif true then !Ex.eqQ to 0 else false) z4 (leaf (Value.bool true, Blk.mk (ns 3).n z3 true :: Blk.mk (ns 2).n z0 true :: Blk.mk (ns 1).n z1 true :: Blk.mk (ns 0).n z2 true :: rdOf B))))))))))))))))))))
theorem wac3_run (B : List (Nat × Sy.Cont)) (dst base size mode to line col : Int) (iv ev fv tv av : Value) (ix e f : List NodeD) (cells loc : Int) : Sy.Ran (Sy.inB Tryz.prog (ctxW B (3) dst base size mode to line col iv ev fv tv ix e f cells loc) 50 fAct #[.agg #[.int .i64 (3), .int .i64 dst, .int .i64 base, .int .i64 size, iv, ev, fv, .int .i64 mode, .int .i64 to, .int .i64 line, .int .i64 col], progV cells tv, thrV loc av] (rdOf B)) wac3_o (wac3_R B dst base size mode to line col iv ev fv tv av ix e f cells loc) := ⟨fun _ => by kernel_rfl, fun _ => by kernel_rfl⟩
def wac4_o : Sy.O := (bz 37 0x1bf3e7f3f9 (fork nil (bz 26 0x3c7fef9 (fork (bz 7 0x7f nil) (bz 15 0x7be3 (fork (steps [0] nil) (bz 45 0x1b0bdf3c7fff (fork (steps [0] nil) (bz 22 0x2c7fff (fork (steps [0] nil) (bz 11 0x58f (fork (steps [0] nil) (bz 30 0x3617be3f (fork (steps [0] nil) (bz 34 0x3c7ffffff (fork nil nil))))))))))))))))
noncomputable def wac4_R (B : List (Nat × Sy.Cont)) (dst base size mode to line col : Int) (iv ev fv tv av : Value) (ix e f : List NodeD) (cells loc : Int) (ns : Nat → Sy.Let) : Sy.Res (Value × List Blk) :=
 let z0 := Sy.Cont.obj (Obj.cells (Array.mk [.int .i64 loc, av]) 40)
 let z1 := Sy.Cont.obj (Obj.cells (Array.mk [.int .i64 cells, tv]) 24)
 let z2 := Sy.Cont.obj (Obj.cells (Array.mk [.int .i64 4, .int .i64 dst, .int .i64 base, .int .i64 size, iv, ev, fv, .int .i64 mode, .int .i64 to, .int .i64 line, .int .i64 col]) 46)
 let z3 := Sy.Cont.obj (Obj.cells (Array.mk [.bool true, .bool true, .bool true, .bool false, .bool false]) 176)
 let z4 := leaf (Value.bool false, Blk.mk (ns 3).n z3 true :: Blk.mk (ns 2).n z0 true :: Blk.mk (ns 1).n z1 true :: Blk.mk (ns 0).n z2 true :: rdOf B)
 let z5 := Sy.GotL (rdOf B) B
 need True (hyp True (br (bif false then true else !mayF 4 mode) (leaf (Value.bool false, Blk.mk (ns 2).n z0 true :: Blk.mk (ns 1).n z1 true :: Blk.mk (ns 0).n z2 true :: rdOf B)) (need ((1 : Int) ≤ 4 ∧ (4 : Int) ≤ 10) (hyp True (br (Ex.ltQ dst 0) z4 (br (bif true then bif false then true else Ex.leQ loc dst else false) z4 (need (NodesR B iv ix ∧ List.length ix < 4398046511104) (need z5 (hyp True (br (bif true then !placeF size base cells loc ix else false) z4 (need (∃ (p : Option Addr), ∃ (n : Nat), ∃ (c : Nat), ev = Value.slice p n c) (br (!true == Ex.ltQ 0 (Int.ofNat (Sy.lenS ev))) z4 (need (∃ (p : Option Addr), ∃ (n : Nat), ∃ (c : Nat), fv = Value.slice p n c) (br (!false == Ex.ltQ 0 (Int.ofNat (Sy.lenS fv))) z4 (need (NodesR B ev e ∧ List.length e < 4398046511104) (need z5 (hyp True (br (bif true then !exprF loc e else false) z4 (br (bif true then !Ex.eqQ to 0 else false) z4 (leaf (Value.bool true, Blk.mk (ns 3).n z3 true :: Blk.mk (ns 2).n z0 true :: Blk.mk (ns 1).n z1 true :: Blk.mk (ns 0).n z2 true :: rdOf B)))))))))))))))))))))
theorem wac4_run (B : List (Nat × Sy.Cont)) (dst base size mode to line col : Int) (iv ev fv tv av : Value) (ix e f : List NodeD) (cells loc : Int) : Sy.Ran (Sy.inB Tryz.prog (ctxW B (4) dst base size mode to line col iv ev fv tv ix e f cells loc) 50 fAct #[.agg #[.int .i64 (4), .int .i64 dst, .int .i64 base, .int .i64 size, iv, ev, fv, .int .i64 mode, .int .i64 to, .int .i64 line, .int .i64 col], progV cells tv, thrV loc av] (rdOf B)) wac4_o (wac4_R B dst base size mode to line col iv ev fv tv av ix e f cells loc) := ⟨fun _ => by kernel_rfl, fun _ => by kernel_rfl⟩
def wac5_o : Sy.O := (bz 37 0x1bf3e7f3f9 (fork nil (bz 26 0x3c7fef9 (fork (bz 7 0x7f nil) (bz 15 0x7be3 (fork (steps [0] nil) (bz 45 0x1b0bdf3c7fff (fork (steps [0] nil) (bz 22 0x2c7fff (fork (steps [0] nil) (bz 11 0x58f (fork (steps [0] nil) (bz 30 0x3617be3f (fork (steps [0] nil) (bz 34 0x3c7ffffff (fork nil nil))))))))))))))))
noncomputable def wac5_R (B : List (Nat × Sy.Cont)) (dst base size mode to line col : Int) (iv ev fv tv av : Value) (ix e f : List NodeD) (cells loc : Int) (ns : Nat → Sy.Let) : Sy.Res (Value × List Blk) :=
 let z0 := Sy.Cont.obj (Obj.cells (Array.mk [.int .i64 loc, av]) 40)
 let z1 := Sy.Cont.obj (Obj.cells (Array.mk [.int .i64 cells, tv]) 24)
 let z2 := Sy.Cont.obj (Obj.cells (Array.mk [.int .i64 5, .int .i64 dst, .int .i64 base, .int .i64 size, iv, ev, fv, .int .i64 mode, .int .i64 to, .int .i64 line, .int .i64 col]) 46)
 let z3 := Sy.Cont.obj (Obj.cells (Array.mk [.bool true, .bool true, .bool true, .bool false, .bool false]) 176)
 let z4 := leaf (Value.bool false, Blk.mk (ns 3).n z3 true :: Blk.mk (ns 2).n z0 true :: Blk.mk (ns 1).n z1 true :: Blk.mk (ns 0).n z2 true :: rdOf B)
 let z5 := Sy.GotL (rdOf B) B
 need True (hyp True (br (bif false then true else !mayF 5 mode) (leaf (Value.bool false, Blk.mk (ns 2).n z0 true :: Blk.mk (ns 1).n z1 true :: Blk.mk (ns 0).n z2 true :: rdOf B)) (need ((1 : Int) ≤ 5 ∧ (5 : Int) ≤ 10) (hyp True (br (Ex.ltQ dst 0) z4 (br (bif true then bif false then true else Ex.leQ loc dst else false) z4 (need (NodesR B iv ix ∧ List.length ix < 4398046511104) (need z5 (hyp True (br (bif true then !placeF size base cells loc ix else false) z4 (need (∃ (p : Option Addr), ∃ (n : Nat), ∃ (c : Nat), ev = Value.slice p n c) (br (!true == Ex.ltQ 0 (Int.ofNat (Sy.lenS ev))) z4 (need (∃ (p : Option Addr), ∃ (n : Nat), ∃ (c : Nat), fv = Value.slice p n c) (br (!false == Ex.ltQ 0 (Int.ofNat (Sy.lenS fv))) z4 (need (NodesR B ev e ∧ List.length e < 4398046511104) (need z5 (hyp True (br (bif true then !exprF loc e else false) z4 (br (bif true then !Ex.eqQ to 0 else false) z4 (leaf (Value.bool true, Blk.mk (ns 3).n z3 true :: Blk.mk (ns 2).n z0 true :: Blk.mk (ns 1).n z1 true :: Blk.mk (ns 0).n z2 true :: rdOf B)))))))))))))))))))))
theorem wac5_run (B : List (Nat × Sy.Cont)) (dst base size mode to line col : Int) (iv ev fv tv av : Value) (ix e f : List NodeD) (cells loc : Int) : Sy.Ran (Sy.inB Tryz.prog (ctxW B (5) dst base size mode to line col iv ev fv tv ix e f cells loc) 50 fAct #[.agg #[.int .i64 (5), .int .i64 dst, .int .i64 base, .int .i64 size, iv, ev, fv, .int .i64 mode, .int .i64 to, .int .i64 line, .int .i64 col], progV cells tv, thrV loc av] (rdOf B)) wac5_o (wac5_R B dst base size mode to line col iv ev fv tv av ix e f cells loc) := ⟨fun _ => by kernel_rfl, fun _ => by kernel_rfl⟩
def wac6_o : Sy.O := (bz 37 0x1bf3e7f3f9 (fork nil (bz 26 0x3c7fef9 (fork (bz 7 0x7f nil) (bz 15 0x7be3 (fork (steps [0] nil) (bz 45 0x1b0bdf3c7fff (fork (steps [0] nil) (bz 22 0x2c7fff (fork (steps [0] nil) (bz 11 0x58f (fork (steps [0] nil) (bz 30 0x3617be3f (fork (steps [0] nil) (bz 31 0x6c2bbe3f (fork nil (bz 24 0xf1ffff (fork nil nil))))))))))))))))))
noncomputable def wac6_R (B : List (Nat × Sy.Cont)) (dst base size mode to line col : Int) (iv ev fv tv av : Value) (ix e f : List NodeD) (cells loc : Int) (ns : Nat → Sy.Let) : Sy.Res (Value × List Blk) :=
 let z0 := Sy.Cont.obj (Obj.cells (Array.mk [.int .i64 loc, av]) 40)
 let z1 := Sy.Cont.obj (Obj.cells (Array.mk [.int .i64 cells, tv]) 24)
 let z2 := Sy.Cont.obj (Obj.cells (Array.mk [.int .i64 6, .int .i64 dst, .int .i64 base, .int .i64 size, iv, ev, fv, .int .i64 mode, .int .i64 to, .int .i64 line, .int .i64 col]) 46)
 let z3 := Sy.Cont.obj (Obj.cells (Array.mk [.bool true, .bool true, .bool true, .bool true, .bool false]) 176)
 let z4 := leaf (Value.bool false, Blk.mk (ns 3).n z3 true :: Blk.mk (ns 2).n z0 true :: Blk.mk (ns 1).n z1 true :: Blk.mk (ns 0).n z2 true :: rdOf B)
 let z5 := Sy.GotL (rdOf B) B
 need True (hyp True (br (bif false then true else !mayF 6 mode) (leaf (Value.bool false, Blk.mk (ns 2).n z0 true :: Blk.mk (ns 1).n z1 true :: Blk.mk (ns 0).n z2 true :: rdOf B)) (need ((1 : Int) ≤ 6 ∧ (6 : Int) ≤ 10) (hyp True (br (Ex.ltQ dst 0) z4 (br (bif true then bif false then true else Ex.leQ loc dst else false) z4 (need (NodesR B iv ix ∧ List.length ix < 4398046511104) (need z5 (hyp True (br (bif true then !placeF size base cells loc ix else false) z4 (need (∃ (p : Option Addr), ∃ (n : Nat), ∃ (c : Nat), ev = Value.slice p n c) (br (!true == Ex.ltQ 0 (Int.ofNat (Sy.lenS ev))) z4 (need (∃ (p : Option Addr), ∃ (n : Nat), ∃ (c : Nat), fv = Value.slice p n c) (br (!true == Ex.ltQ 0 (Int.ofNat (Sy.lenS fv))) z4 (need (NodesR B ev e ∧ List.length e < 4398046511104) (need z5 (hyp True (br (bif true then !exprF loc e else false) z4 (need (NodesR B fv f ∧ List.length f < 4398046511104) (need z5 (hyp True (br (bif true then !exprF loc f else false) z4 (br (bif true then !Ex.eqQ to 0 else false) z4 (leaf (Value.bool true, Blk.mk (ns 3).n z3 true :: Blk.mk (ns 2).n z0 true :: Blk.mk (ns 1).n z1 true :: Blk.mk (ns 0).n z2 true :: rdOf B)))))))))))))))))))))))))
theorem wac6_run (B : List (Nat × Sy.Cont)) (dst base size mode to line col : Int) (iv ev fv tv av : Value) (ix e f : List NodeD) (cells loc : Int) : Sy.Ran (Sy.inB Tryz.prog (ctxW B (6) dst base size mode to line col iv ev fv tv ix e f cells loc) 50 fAct #[.agg #[.int .i64 (6), .int .i64 dst, .int .i64 base, .int .i64 size, iv, ev, fv, .int .i64 mode, .int .i64 to, .int .i64 line, .int .i64 col], progV cells tv, thrV loc av] (rdOf B)) wac6_o (wac6_R B dst base size mode to line col iv ev fv tv av ix e f cells loc) := ⟨fun _ => by kernel_rfl, fun _ => by kernel_rfl⟩
def wac7_o : Sy.O := (bz 37 0x1bf3e7f3f9 (fork nil (bz 37 0x1e3ffffef9 (fork nil (bz 23 0x78ffff (fork (pack 10 0x0 nil) (bz 10 0x3e3 (fork (bz 5 0x1f nil) (bz 12 0xee3 (fork nil (bz 11 0x58f (fork (steps [0] nil) (bz 11 0x58f (fork (steps [0] nil) (bz 44 0xf1fffffffff (fork nil nil))))))))))))))))
noncomputable def wac7_R (B : List (Nat × Sy.Cont)) (dst base size mode to line col : Int) (iv ev fv tv av : Value) (ix e f : List NodeD) (cells loc : Int) (ns : Nat → Sy.Let) : Sy.Res (Value × List Blk) :=
 let z0 := Sy.Cont.obj (Obj.cells (Array.mk [.int .i64 loc, av]) 40)
 let z1 := Sy.Cont.obj (Obj.cells (Array.mk [.int .i64 cells, tv]) 24)
 let z2 := Sy.Cont.obj (Obj.cells (Array.mk [.int .i64 7, .int .i64 dst, .int .i64 base, .int .i64 size, iv, ev, fv, .int .i64 mode, .int .i64 to, .int .i64 line, .int .i64 col]) 46)
 let z3 := Sy.Cont.obj (Obj.cells (Array.mk [.bool false, .bool false, .bool false, .bool false, .bool false]) 176)
 let z4 := leaf (Value.bool false, Blk.mk (ns 3).n z3 true :: Blk.mk (ns 2).n z0 true :: Blk.mk (ns 1).n z1 true :: Blk.mk (ns 0).n z2 true :: rdOf B)
 need True (hyp True (br (bif false then true else !mayF 7 mode) (leaf (Value.bool false, Blk.mk (ns 2).n z0 true :: Blk.mk (ns 1).n z1 true :: Blk.mk (ns 0).n z2 true :: rdOf B)) (need ((1 : Int) ≤ 7 ∧ (7 : Int) ≤ 10) (hyp True (br (bif true then !Ex.eqQ dst 0 else false) z4 (br (!Ex.eqQ base 0) z4 (br (bif false then true else !Ex.eqQ size 0) z4 (need (∃ (p : Option Addr), ∃ (n : Nat), ∃ (c : Nat), iv = Value.slice p n c) (br (bif true then bif false then true else Ex.ltQ 0 (Int.ofNat (Sy.lenS iv)) else false) z4 (need (∃ (p : Option Addr), ∃ (n : Nat), ∃ (c : Nat), ev = Value.slice p n c) (br (!false == Ex.ltQ 0 (Int.ofNat (Sy.lenS ev))) z4 (need (∃ (p : Option Addr), ∃ (n : Nat), ∃ (c : Nat), fv = Value.slice p n c) (br (!false == Ex.ltQ 0 (Int.ofNat (Sy.lenS fv))) z4 (br (bif true then !Ex.eqQ to 0 else false) z4 (leaf (Value.bool true, Blk.mk (ns 3).n z3 true :: Blk.mk (ns 2).n z0 true :: Blk.mk (ns 1).n z1 true :: Blk.mk (ns 0).n z2 true :: rdOf B))))))))))))))))
theorem wac7_run (B : List (Nat × Sy.Cont)) (dst base size mode to line col : Int) (iv ev fv tv av : Value) (ix e f : List NodeD) (cells loc : Int) : Sy.Ran (Sy.inB Tryz.prog (ctxW B (7) dst base size mode to line col iv ev fv tv ix e f cells loc) 50 fAct #[.agg #[.int .i64 (7), .int .i64 dst, .int .i64 base, .int .i64 size, iv, ev, fv, .int .i64 mode, .int .i64 to, .int .i64 line, .int .i64 col], progV cells tv, thrV loc av] (rdOf B)) wac7_o (wac7_R B dst base size mode to line col iv ev fv tv av ix e f cells loc) := ⟨fun _ => by kernel_rfl, fun _ => by kernel_rfl⟩
def wac8_o : Sy.O := (bz 37 0x1bf3e7f3f9 (fork nil (bz 37 0x1e3ffffef9 (fork nil (bz 23 0x78ffff (fork (pack 10 0x0 nil) (bz 10 0x3e3 (fork (bz 5 0x1f nil) (bz 12 0xee3 (fork nil (bz 11 0x58f (fork (steps [0] nil) (bz 11 0x58f (fork (steps [0] nil) (bz 30 0x3617be3f (fork (steps [0] nil) (bz 34 0x3c7ffffff (fork nil nil))))))))))))))))))
noncomputable def wac8_R (B : List (Nat × Sy.Cont)) (dst base size mode to line col : Int) (iv ev fv tv av : Value) (ix e f : List NodeD) (cells loc : Int) (ns : Nat → Sy.Let) : Sy.Res (Value × List Blk) :=
 let z0 := Sy.Cont.obj (Obj.cells (Array.mk [.int .i64 loc, av]) 40)
 let z1 := Sy.Cont.obj (Obj.cells (Array.mk [.int .i64 cells, tv]) 24)
 let z2 := Sy.Cont.obj (Obj.cells (Array.mk [.int .i64 8, .int .i64 dst, .int .i64 base, .int .i64 size, iv, ev, fv, .int .i64 mode, .int .i64 to, .int .i64 line, .int .i64 col]) 46)
 let z3 := Sy.Cont.obj (Obj.cells (Array.mk [.bool false, .bool false, .bool true, .bool false, .bool false]) 176)
 let z4 := leaf (Value.bool false, Blk.mk (ns 3).n z3 true :: Blk.mk (ns 2).n z0 true :: Blk.mk (ns 1).n z1 true :: Blk.mk (ns 0).n z2 true :: rdOf B)
 need True (hyp True (br (bif false then true else !mayF 8 mode) (leaf (Value.bool false, Blk.mk (ns 2).n z0 true :: Blk.mk (ns 1).n z1 true :: Blk.mk (ns 0).n z2 true :: rdOf B)) (need ((1 : Int) ≤ 8 ∧ (8 : Int) ≤ 10) (hyp True (br (bif true then !Ex.eqQ dst 0 else false) z4 (br (!Ex.eqQ base 0) z4 (br (bif false then true else !Ex.eqQ size 0) z4 (need (∃ (p : Option Addr), ∃ (n : Nat), ∃ (c : Nat), iv = Value.slice p n c) (br (bif true then bif false then true else Ex.ltQ 0 (Int.ofNat (Sy.lenS iv)) else false) z4 (need (∃ (p : Option Addr), ∃ (n : Nat), ∃ (c : Nat), ev = Value.slice p n c) (br (!true == Ex.ltQ 0 (Int.ofNat (Sy.lenS ev))) z4 (need (∃ (p : Option Addr), ∃ (n : Nat), ∃ (c : Nat), fv = Value.slice p n c) (br (!false == Ex.ltQ 0 (Int.ofNat (Sy.lenS fv))) z4 (need (NodesR B ev e ∧ List.length e < 4398046511104) (need (Sy.GotL (rdOf B) B) (hyp True (br (bif true then !exprF loc e else false) z4 (br (bif true then !Ex.eqQ to 0 else false) z4 (leaf (Value.bool true, Blk.mk (ns 3).n z3 true :: Blk.mk (ns 2).n z0 true :: Blk.mk (ns 1).n z1 true :: Blk.mk (ns 0).n z2 true :: rdOf B))))))))))))))))))))
theorem wac8_run (B : List (Nat × Sy.Cont)) (dst base size mode to line col : Int) (iv ev fv tv av : Value) (ix e f : List NodeD) (cells loc : Int) : Sy.Ran (Sy.inB Tryz.prog (ctxW B (8) dst base size mode to line col iv ev fv tv ix e f cells loc) 50 fAct #[.agg #[.int .i64 (8), .int .i64 dst, .int .i64 base, .int .i64 size, iv, ev, fv, .int .i64 mode, .int .i64 to, .int .i64 line, .int .i64 col], progV cells tv, thrV loc av] (rdOf B)) wac8_o (wac8_R B dst base size mode to line col iv ev fv tv av ix e f cells loc) := ⟨fun _ => by kernel_rfl, fun _ => by kernel_rfl⟩
def wac9_o : Sy.O := (bz 37 0x1bf3e7f3f9 (fork nil (bz 37 0x1e3ffffef9 (fork nil (bz 23 0x78ffff (fork (pack 10 0x0 nil) (bz 10 0x3e3 (fork (bz 5 0x1f nil) (bz 12 0xee3 (fork nil (bz 11 0x58f (fork (steps [0] nil) (bz 11 0x58f (fork (steps [0] nil) (bz 33 0x1e3ffffff (fork (bz 8 0xff nil) (bz 18 0x3bbe3 (fork (steps [0] nil) (pack 10 0x0 nil)))))))))))))))))))
noncomputable def wac9_R (B : List (Nat × Sy.Cont)) (dst base size mode to line col : Int) (iv ev fv tv av : Value) (ix e f : List NodeD) (cells loc : Int) (ns : Nat → Sy.Let) : Sy.Res (Value × List Blk) :=
 let z0 := Sy.Cont.obj (Obj.cells (Array.mk [.int .i64 loc, av]) 40)
 let z1 := Sy.Cont.obj (Obj.cells (Array.mk [.int .i64 cells, tv]) 24)
 let z2 := Sy.Cont.obj (Obj.cells (Array.mk [.int .i64 9, .int .i64 dst, .int .i64 base, .int .i64 size, iv, ev, fv, .int .i64 mode, .int .i64 to, .int .i64 line, .int .i64 col]) 46)
 let z3 := Sy.Cont.obj (Obj.cells (Array.mk [.bool false, .bool false, .bool false, .bool false, .bool true]) 176)
 let z4 := leaf (Value.bool false, Blk.mk (ns 3).n z3 true :: Blk.mk (ns 2).n z0 true :: Blk.mk (ns 1).n z1 true :: Blk.mk (ns 0).n z2 true :: rdOf B)
 need True (hyp True (br (bif false then true else !mayF 9 mode) (leaf (Value.bool false, Blk.mk (ns 2).n z0 true :: Blk.mk (ns 1).n z1 true :: Blk.mk (ns 0).n z2 true :: rdOf B)) (need ((1 : Int) ≤ 9 ∧ (9 : Int) ≤ 10) (hyp True (br (bif true then !Ex.eqQ dst 0 else false) z4 (br (!Ex.eqQ base 0) z4 (br (bif false then true else !Ex.eqQ size 0) z4 (need (∃ (p : Option Addr), ∃ (n : Nat), ∃ (c : Nat), iv = Value.slice p n c) (br (bif true then bif false then true else Ex.ltQ 0 (Int.ofNat (Sy.lenS iv)) else false) z4 (need (∃ (p : Option Addr), ∃ (n : Nat), ∃ (c : Nat), ev = Value.slice p n c) (br (!false == Ex.ltQ 0 (Int.ofNat (Sy.lenS ev))) z4 (need (∃ (p : Option Addr), ∃ (n : Nat), ∃ (c : Nat), fv = Value.slice p n c) (br (!false == Ex.ltQ 0 (Int.ofNat (Sy.lenS fv))) z4 (br (Ex.ltQ to 0) z4 (need (∃ (p : Option Addr), ∃ (n : Nat), ∃ (c : Nat), av = Value.slice p n c) (br (bif true then bif false then true else Ex.ltQ (Int.ofNat (Sy.lenS av)) to else false) z4 (leaf (Value.bool true, Blk.mk (ns 3).n z3 true :: Blk.mk (ns 2).n z0 true :: Blk.mk (ns 1).n z1 true :: Blk.mk (ns 0).n z2 true :: rdOf B))))))))))))))))))
theorem wac9_run (B : List (Nat × Sy.Cont)) (dst base size mode to line col : Int) (iv ev fv tv av : Value) (ix e f : List NodeD) (cells loc : Int) : Sy.Ran (Sy.inB Tryz.prog (ctxW B (9) dst base size mode to line col iv ev fv tv ix e f cells loc) 50 fAct #[.agg #[.int .i64 (9), .int .i64 dst, .int .i64 base, .int .i64 size, iv, ev, fv, .int .i64 mode, .int .i64 to, .int .i64 line, .int .i64 col], progV cells tv, thrV loc av] (rdOf B)) wac9_o (wac9_R B dst base size mode to line col iv ev fv tv av ix e f cells loc) := ⟨fun _ => by kernel_rfl, fun _ => by kernel_rfl⟩
def wac10_o : Sy.O := (bz 37 0x1bf3e7f3f9 (fork nil (bz 37 0x1e3ffffef9 (fork nil (bz 23 0x78ffff (fork (pack 10 0x0 nil) (bz 10 0x3e3 (fork (bz 5 0x1f nil) (bz 12 0xee3 (fork nil (bz 11 0x58f (fork (steps [0] nil) (bz 11 0x58f (fork (steps [0] nil) (bz 30 0x3617be3f (fork (steps [0] nil) (bz 23 0x78ffff (fork (bz 8 0xff nil) (bz 18 0x3bbe3 (fork (steps [0] nil) (pack 10 0x0 nil)))))))))))))))))))))
noncomputable def wac10_R (B : List (Nat × Sy.Cont)) (dst base size mode to line col : Int) (iv ev fv tv av : Value) (ix e f : List NodeD) (cells loc : Int) (ns : Nat → Sy.Let) : Sy.Res (Value × List Blk) :=
 let z0 := Sy.Cont.obj (Obj.cells (Array.mk [.int .i64 loc, av]) 40)
 let z1 := Sy.Cont.obj (Obj.cells (Array.mk [.int .i64 cells, tv]) 24)
 let z2 := Sy.Cont.obj (Obj.cells (Array.mk [.int .i64 10, .int .i64 dst, .int .i64 base, .int .i64 size, iv, ev, fv, .int .i64 mode, .int .i64 to, .int .i64 line, .int .i64 col]) 46)
 let z3 := Sy.Cont.obj (Obj.cells (Array.mk [.bool false, .bool false, .bool true, .bool false, .bool true]) 176)
 let z4 := leaf (Value.bool false, Blk.mk (ns 3).n z3 true :: Blk.mk (ns 2).n z0 true :: Blk.mk (ns 1).n z1 true :: Blk.mk (ns 0).n z2 true :: rdOf B)
 need True (hyp True (br (bif false then true else !mayF 10 mode) (leaf (Value.bool false, Blk.mk (ns 2).n z0 true :: Blk.mk (ns 1).n z1 true :: Blk.mk (ns 0).n z2 true :: rdOf B)) (need ((1 : Int) ≤ 10 ∧ (10 : Int) ≤ 10) (hyp True (br (bif true then !Ex.eqQ dst 0 else false) z4 (br (!Ex.eqQ base 0) z4 (br (bif false then true else !Ex.eqQ size 0) z4 (need (∃ (p : Option Addr), ∃ (n : Nat), ∃ (c : Nat), iv = Value.slice p n c) (br (bif true then bif false then true else Ex.ltQ 0 (Int.ofNat (Sy.lenS iv)) else false) z4 (need (∃ (p : Option Addr), ∃ (n : Nat), ∃ (c : Nat), ev = Value.slice p n c) (br (!true == Ex.ltQ 0 (Int.ofNat (Sy.lenS ev))) z4 (need (∃ (p : Option Addr), ∃ (n : Nat), ∃ (c : Nat), fv = Value.slice p n c) (br (!false == Ex.ltQ 0 (Int.ofNat (Sy.lenS fv))) z4 (need (NodesR B ev e ∧ List.length e < 4398046511104) (need (Sy.GotL (rdOf B) B) (hyp True (br (bif true then !exprF loc e else false) z4 (br (Ex.ltQ to 0) z4 (need (∃ (p : Option Addr), ∃ (n : Nat), ∃ (c : Nat), av = Value.slice p n c) (br (bif true then bif false then true else Ex.ltQ (Int.ofNat (Sy.lenS av)) to else false) z4 (leaf (Value.bool true, Blk.mk (ns 3).n z3 true :: Blk.mk (ns 2).n z0 true :: Blk.mk (ns 1).n z1 true :: Blk.mk (ns 0).n z2 true :: rdOf B))))))))))))))))))))))
theorem wac10_run (B : List (Nat × Sy.Cont)) (dst base size mode to line col : Int) (iv ev fv tv av : Value) (ix e f : List NodeD) (cells loc : Int) : Sy.Ran (Sy.inB Tryz.prog (ctxW B (10) dst base size mode to line col iv ev fv tv ix e f cells loc) 50 fAct #[.agg #[.int .i64 (10), .int .i64 dst, .int .i64 base, .int .i64 size, iv, ev, fv, .int .i64 mode, .int .i64 to, .int .i64 line, .int .i64 col], progV cells tv, thrV loc av] (rdOf B)) wac10_o (wac10_R B dst base size mode to line col iv ev fv tv av ix e f cells loc) := ⟨fun _ => by kernel_rfl, fun _ => by kernel_rfl⟩
def wac0_o : Sy.O := (bz 12 0xcd9 (fork (bz 6 0x3f nil) (bz 20 0xdf9f3 (fork nil (bz 37 0x1e3ffffef9 (fork nil (bz 23 0x78ffff (fork (pack 10 0x0 nil) (bz 10 0x3e3 (fork (bz 5 0x1f nil) (bz 12 0xee3 (fork nil (bz 11 0x58f (fork (steps [0] nil) (bz 11 0x58f (fork (steps [0] nil) (bz 44 0xf1fffffffff (fork nil nil))))))))))))))))))
noncomputable def wac0_R (B : List (Nat × Sy.Cont)) (op dst base size mode to line col : Int) (iv ev fv tv av : Value) (cells loc : Int) (ns : Nat → Sy.Let) : Sy.Res (Value × List Blk) :=
 let z0 := Sy.Cont.obj (Obj.cells (Array.mk [.int .i64 loc, av]) 40)
 let z1 := Sy.Cont.obj (Obj.cells (Array.mk [.int .i64 cells, tv]) 24)
 let z2 := Sy.Cont.obj (Obj.cells (Array.mk [.int .i64 op, .int .i64 dst, .int .i64 base, .int .i64 size, iv, ev, fv, .int .i64 mode, .int .i64 to, .int .i64 line, .int .i64 col]) 46)
 let z3 := leaf (Value.bool false, Blk.mk (ns 2).n z0 true :: Blk.mk (ns 1).n z1 true :: Blk.mk (ns 0).n z2 true :: rdOf B)
 let z4 := Sy.Cont.obj (Obj.cells (Array.mk [.bool false, .bool false, .bool false, .bool false, .bool false]) 176)
 let z5 := leaf (Value.bool false, Blk.mk (ns 3).n z4 true :: Blk.mk (ns 2).n z0 true :: Blk.mk (ns 1).n z1 true :: Blk.mk (ns 0).n z2 true :: rdOf B)
 br (bif Ex.ltQ op 1 then true else Ex.ltQ 10 op) z3 (need True (hyp True (br (bif false then true else !mayF op mode) z3 (need False (hyp True (br (bif true then !Ex.eqQ dst 0 else false) z5 (br (!Ex.eqQ base 0) z5 (br (bif false then true else !Ex.eqQ size 0) z5 (need (∃ (p : Option Addr), ∃ (n : Nat), ∃ (c : Nat), iv = Value.slice p n c) (br (bif true then bif false then true else Ex.ltQ 0 (Int.ofNat (Sy.lenS iv)) else false) z5 (need (∃ (p : Option Addr), ∃ (n : Nat), ∃ (c : Nat), ev = Value.slice p n c) (br (!false == Ex.ltQ 0 (Int.ofNat (Sy.lenS ev))) z5 (need (∃ (p : Option Addr), ∃ (n : Nat), ∃ (c : Nat), fv = Value.slice p n c) (br (!false == Ex.ltQ 0 (Int.ofNat (Sy.lenS fv))) z5 (br (bif true then !Ex.eqQ to 0 else false) z5 (leaf (Value.bool true, Blk.mk (ns 3).n z4 true :: Blk.mk (ns 2).n z0 true :: Blk.mk (ns 1).n z1 true :: Blk.mk (ns 0).n z2 true :: rdOf B)))))))))))))))))
theorem wac0_run (B : List (Nat × Sy.Cont)) (op dst base size mode to line col : Int) (iv ev fv tv av : Value) (cells loc : Int) : Sy.Ran (Sy.inB Tryz.prog (ctxV op mode) 50 fAct #[.agg #[.int .i64 op, .int .i64 dst, .int .i64 base, .int .i64 size, iv, ev, fv, .int .i64 mode, .int .i64 to, .int .i64 line, .int .i64 col], progV cells tv, thrV loc av] (rdOf B)) wac0_o (wac0_R B op dst base size mode to line col iv ev fv tv av cells loc) := ⟨fun _ => by kernel_rfl, fun _ => by kernel_rfl⟩
def actF (cells loc : Int) (na : Nat) (a : ActD) : Bool :=
 decide (1 ≤ a.op ∧ a.op ≤ 10) && (mayF a.op a.mode && ((bif hasDst a.op then Ex.leQ 0 a.dst && Ex.ltQ a.dst loc else Ex.eqQ a.dst 0) &&
 ((bif hasPlace a.op then placeF a.size a.base cells loc a.ix else Ex.eqQ a.base 0 && (Ex.eqQ a.size 0 && decide (a.ix.length = 0))) &&
 ((hasE a.op == decide (0 < a.e.length)) && ((hasF a.op == decide (0 < a.f.length)) && ((bif hasE a.op then exprF loc a.e else true) && ((bif hasF a.op then exprF loc a.f else true) &&
 (bif hasTo a.op then Ex.leQ 0 a.to && Ex.leQ a.to (na : Int) else Ex.eqQ a.to 0))))))))
structure OkW (B : List (Nat × Sy.Cont)) (iv ev fv av : Value) (a : ActD) (na : Nat) : Prop where
 i : OkX B iv a.ix
 e : OkX B ev a.e
 f : OkX B fv a.f
 a : ∃ p n c, av = .slice p n c
 na : Sy.lenS av = na
def actC (B : List (Nat × Sy.Cont)) (a : ActD) (iv ev fv tv av : Value) (cells loc : Int) (na : Nat) : Sy.CallC :=
 ⟨fAct, #[actV a iv ev fv, progV cells tv, thrV loc av], OkW B iv ev fv av a na, ⟨[], [], 0, B⟩, [Sy.plainO (.bool (actF cells loc na a))]⟩
theorem pos_len (n : Nat) : Ex.ltQ 0 (Int.ofNat n) = decide (0 < n) := by
 rw [Ex.ltQ_eq]
 by_cases h : 0 < n <;> simp [h]
theorem far_to (n : Nat) (t : Int) : Ex.ltQ (Int.ofNat n) t = !Ex.leQ t (n : Int) := by
 rw [Ex.ltQ_eq, Ex.leQ_eq]
 by_cases h : (n : Int) < t
 ·have : ¬ t ≤ (n : Int) := by omega
  simp [h, this]
 ·have : t ≤ (n : Int) := by omega
  simp [h, this]
theorem neg_to (t : Int) : Ex.ltQ t 0 = !Ex.leQ 0 t := by
 rw [Ex.ltQ_eq, Ex.leQ_eq]
 by_cases h : t < 0
 ·have : ¬ 0 ≤ t := by omega
  simp [h, this]
 ·have : 0 ≤ t := by omega
  simp [h, this]
theorem ge_to (l d : Int) : Ex.leQ l d = !Ex.ltQ d l := by
 rw [Ex.ltQ_eq, Ex.leQ_eq]
 by_cases h : d < l
 ·have : ¬ l ≤ d := by omega
  simp [h, this]
 ·have : l ≤ d := by omega
  simp [h, this]
theorem act1_met (B : List (Nat × Sy.Cont)) (a : ActD) (iv ev fv tv av : Value) (cells loc : Int) (na : Nat) (hk : a.op = 1) : Sy.Meets Tryz.prog (actC B a iv ev fv tv av cells loc na) := by
 obtain ⟨op, dst, base, size, ix, e, f, mode, to, line, col⟩ := a
 simp only at hk
 subst hk
 refine Sy.meets_ofB (ctxW_holds B 1 dst base size mode to line col iv ev fv tv ix e f cells loc) mixed (L := rdOf B) (Sy.Ent.refl _) (wac1_run B dst base size mode to line col iv ev fv tv av ix e f cells loc) fun hok ns => ?_
 obtain ⟨⟨hI, hil⟩, ⟨hE, hel⟩, ⟨hF, hfl⟩, hA, hna⟩ := hok
 simp only at hI hE hF hil hel hfl
 have leaf : ∀ b L, b = actF cells loc na ⟨1, dst, base, size, ix, e, f, mode, to, line, col⟩ → Sy.leafB (actC B ⟨1, dst, base, size, ix, e, f, mode, to, line, col⟩ iv ev fv tv av cells loc na) (.bool b, L) := fun b L h => plainB_leaf (Sy.mS _) rfl (by rw [h])
 have h1 : hasDst 1 = true := rfl
 have h2 : hasPlace 1 = false := rfl
 have h3 : hasE 1 = true := rfl
 have h4 : hasF 1 = false := rfl
 have h5 : hasTo 1 = false := rfl
 simp only [actF, h1, h2, h3, h4, h5] at leaf
 simp only [wac1_R, Sy.Res.holds, hI.len, hE.len, hF.len, hna, pos_len, far_to, neg_to, ge_to loc dst]
 repeat' (first | exact gotL_of (fun p hp => by simp [hp]) | apply And.intro | intro _)
 all_goals first
  | exact trivial
  | exact hI.sl
  | exact hE.sl
  | exact hF.sl
  | exact hA
  | exact hI
  | exact hE
  | exact hF
  | exact hil
  | exact hel
  | exact hfl
  | decide
  | skip
 all_goals
  refine leaf _ _ ?_
  simp_all <;> (intros; simp_all)
theorem act2_met (B : List (Nat × Sy.Cont)) (a : ActD) (iv ev fv tv av : Value) (cells loc : Int) (na : Nat) (hk : a.op = 2) : Sy.Meets Tryz.prog (actC B a iv ev fv tv av cells loc na) := by
 obtain ⟨op, dst, base, size, ix, e, f, mode, to, line, col⟩ := a
 simp only at hk
 subst hk
 refine Sy.meets_ofB (ctxW_holds B 2 dst base size mode to line col iv ev fv tv ix e f cells loc) mixed (L := rdOf B) (Sy.Ent.refl _) (wac2_run B dst base size mode to line col iv ev fv tv av ix e f cells loc) fun hok ns => ?_
 obtain ⟨⟨hI, hil⟩, ⟨hE, hel⟩, ⟨hF, hfl⟩, hA, hna⟩ := hok
 simp only at hI hE hF hil hel hfl
 have leaf : ∀ b L, b = actF cells loc na ⟨2, dst, base, size, ix, e, f, mode, to, line, col⟩ → Sy.leafB (actC B ⟨2, dst, base, size, ix, e, f, mode, to, line, col⟩ iv ev fv tv av cells loc na) (.bool b, L) := fun b L h => plainB_leaf (Sy.mS _) rfl (by rw [h])
 have h1 : hasDst 2 = true := rfl
 have h2 : hasPlace 2 = true := rfl
 have h3 : hasE 2 = false := rfl
 have h4 : hasF 2 = false := rfl
 have h5 : hasTo 2 = false := rfl
 simp only [actF, h1, h2, h3, h4, h5] at leaf
 simp only [wac2_R, Sy.Res.holds, hI.len, hE.len, hF.len, hna, pos_len, far_to, neg_to, ge_to loc dst]
 repeat' (first | exact gotL_of (fun p hp => by simp [hp]) | apply And.intro | intro _)
 all_goals first
  | exact trivial
  | exact hI.sl
  | exact hE.sl
  | exact hF.sl
  | exact hA
  | exact hI
  | exact hE
  | exact hF
  | exact hil
  | exact hel
  | exact hfl
  | decide
  | skip
 all_goals
  refine leaf _ _ ?_
  simp_all <;> (intros; simp_all)
theorem act3_met (B : List (Nat × Sy.Cont)) (a : ActD) (iv ev fv tv av : Value) (cells loc : Int) (na : Nat) (hk : a.op = 3) : Sy.Meets Tryz.prog (actC B a iv ev fv tv av cells loc na) := by
 obtain ⟨op, dst, base, size, ix, e, f, mode, to, line, col⟩ := a
 simp only at hk
 subst hk
 refine Sy.meets_ofB (ctxW_holds B 3 dst base size mode to line col iv ev fv tv ix e f cells loc) mixed (L := rdOf B) (Sy.Ent.refl _) (wac3_run B dst base size mode to line col iv ev fv tv av ix e f cells loc) fun hok ns => ?_
 obtain ⟨⟨hI, hil⟩, ⟨hE, hel⟩, ⟨hF, hfl⟩, hA, hna⟩ := hok
 simp only at hI hE hF hil hel hfl
 have leaf : ∀ b L, b = actF cells loc na ⟨3, dst, base, size, ix, e, f, mode, to, line, col⟩ → Sy.leafB (actC B ⟨3, dst, base, size, ix, e, f, mode, to, line, col⟩ iv ev fv tv av cells loc na) (.bool b, L) := fun b L h => plainB_leaf (Sy.mS _) rfl (by rw [h])
 have h1 : hasDst 3 = false := rfl
 have h2 : hasPlace 3 = true := rfl
 have h3 : hasE 3 = true := rfl
 have h4 : hasF 3 = false := rfl
 have h5 : hasTo 3 = false := rfl
 simp only [actF, h1, h2, h3, h4, h5] at leaf
 simp only [wac3_R, Sy.Res.holds, hI.len, hE.len, hF.len, hna, pos_len, far_to, neg_to, ge_to loc dst]
 repeat' (first | exact gotL_of (fun p hp => by simp [hp]) | apply And.intro | intro _)
 all_goals first
  | exact trivial
  | exact hI.sl
  | exact hE.sl
  | exact hF.sl
  | exact hA
  | exact hI
  | exact hE
  | exact hF
  | exact hil
  | exact hel
  | exact hfl
  | decide
  | skip
 all_goals
  refine leaf _ _ ?_
  simp_all <;> (intros; simp_all)
theorem act4_met (B : List (Nat × Sy.Cont)) (a : ActD) (iv ev fv tv av : Value) (cells loc : Int) (na : Nat) (hk : a.op = 4) : Sy.Meets Tryz.prog (actC B a iv ev fv tv av cells loc na) := by
 obtain ⟨op, dst, base, size, ix, e, f, mode, to, line, col⟩ := a
 simp only at hk
 subst hk
 refine Sy.meets_ofB (ctxW_holds B 4 dst base size mode to line col iv ev fv tv ix e f cells loc) mixed (L := rdOf B) (Sy.Ent.refl _) (wac4_run B dst base size mode to line col iv ev fv tv av ix e f cells loc) fun hok ns => ?_
 obtain ⟨⟨hI, hil⟩, ⟨hE, hel⟩, ⟨hF, hfl⟩, hA, hna⟩ := hok
 simp only at hI hE hF hil hel hfl
 have leaf : ∀ b L, b = actF cells loc na ⟨4, dst, base, size, ix, e, f, mode, to, line, col⟩ → Sy.leafB (actC B ⟨4, dst, base, size, ix, e, f, mode, to, line, col⟩ iv ev fv tv av cells loc na) (.bool b, L) := fun b L h => plainB_leaf (Sy.mS _) rfl (by rw [h])
 have h1 : hasDst 4 = true := rfl
 have h2 : hasPlace 4 = true := rfl
 have h3 : hasE 4 = true := rfl
 have h4 : hasF 4 = false := rfl
 have h5 : hasTo 4 = false := rfl
 simp only [actF, h1, h2, h3, h4, h5] at leaf
 simp only [wac4_R, Sy.Res.holds, hI.len, hE.len, hF.len, hna, pos_len, far_to, neg_to, ge_to loc dst]
 repeat' (first | exact gotL_of (fun p hp => by simp [hp]) | apply And.intro | intro _)
 all_goals first
  | exact trivial
  | exact hI.sl
  | exact hE.sl
  | exact hF.sl
  | exact hA
  | exact hI
  | exact hE
  | exact hF
  | exact hil
  | exact hel
  | exact hfl
  | decide
  | skip
 all_goals
  refine leaf _ _ ?_
  simp_all <;> (intros; simp_all)
theorem act5_met (B : List (Nat × Sy.Cont)) (a : ActD) (iv ev fv tv av : Value) (cells loc : Int) (na : Nat) (hk : a.op = 5) : Sy.Meets Tryz.prog (actC B a iv ev fv tv av cells loc na) := by
 obtain ⟨op, dst, base, size, ix, e, f, mode, to, line, col⟩ := a
 simp only at hk
 subst hk
 refine Sy.meets_ofB (ctxW_holds B 5 dst base size mode to line col iv ev fv tv ix e f cells loc) mixed (L := rdOf B) (Sy.Ent.refl _) (wac5_run B dst base size mode to line col iv ev fv tv av ix e f cells loc) fun hok ns => ?_
 obtain ⟨⟨hI, hil⟩, ⟨hE, hel⟩, ⟨hF, hfl⟩, hA, hna⟩ := hok
 simp only at hI hE hF hil hel hfl
 have leaf : ∀ b L, b = actF cells loc na ⟨5, dst, base, size, ix, e, f, mode, to, line, col⟩ → Sy.leafB (actC B ⟨5, dst, base, size, ix, e, f, mode, to, line, col⟩ iv ev fv tv av cells loc na) (.bool b, L) := fun b L h => plainB_leaf (Sy.mS _) rfl (by rw [h])
 have h1 : hasDst 5 = true := rfl
 have h2 : hasPlace 5 = true := rfl
 have h3 : hasE 5 = true := rfl
 have h4 : hasF 5 = false := rfl
 have h5 : hasTo 5 = false := rfl
 simp only [actF, h1, h2, h3, h4, h5] at leaf
 simp only [wac5_R, Sy.Res.holds, hI.len, hE.len, hF.len, hna, pos_len, far_to, neg_to, ge_to loc dst]
 repeat' (first | exact gotL_of (fun p hp => by simp [hp]) | apply And.intro | intro _)
 all_goals first
  | exact trivial
  | exact hI.sl
  | exact hE.sl
  | exact hF.sl
  | exact hA
  | exact hI
  | exact hE
  | exact hF
  | exact hil
  | exact hel
  | exact hfl
  | decide
  | skip
 all_goals
  refine leaf _ _ ?_
  simp_all <;> (intros; simp_all)
theorem act6_met (B : List (Nat × Sy.Cont)) (a : ActD) (iv ev fv tv av : Value) (cells loc : Int) (na : Nat) (hk : a.op = 6) : Sy.Meets Tryz.prog (actC B a iv ev fv tv av cells loc na) := by
 obtain ⟨op, dst, base, size, ix, e, f, mode, to, line, col⟩ := a
 simp only at hk
 subst hk
 refine Sy.meets_ofB (ctxW_holds B 6 dst base size mode to line col iv ev fv tv ix e f cells loc) mixed (L := rdOf B) (Sy.Ent.refl _) (wac6_run B dst base size mode to line col iv ev fv tv av ix e f cells loc) fun hok ns => ?_
 obtain ⟨⟨hI, hil⟩, ⟨hE, hel⟩, ⟨hF, hfl⟩, hA, hna⟩ := hok
 simp only at hI hE hF hil hel hfl
 have leaf : ∀ b L, b = actF cells loc na ⟨6, dst, base, size, ix, e, f, mode, to, line, col⟩ → Sy.leafB (actC B ⟨6, dst, base, size, ix, e, f, mode, to, line, col⟩ iv ev fv tv av cells loc na) (.bool b, L) := fun b L h => plainB_leaf (Sy.mS _) rfl (by rw [h])
 have h1 : hasDst 6 = true := rfl
 have h2 : hasPlace 6 = true := rfl
 have h3 : hasE 6 = true := rfl
 have h4 : hasF 6 = true := rfl
 have h5 : hasTo 6 = false := rfl
 simp only [actF, h1, h2, h3, h4, h5] at leaf
 simp only [wac6_R, Sy.Res.holds, hI.len, hE.len, hF.len, hna, pos_len, far_to, neg_to, ge_to loc dst]
 repeat' (first | exact gotL_of (fun p hp => by simp [hp]) | apply And.intro | intro _)
 all_goals first
  | exact trivial
  | exact hI.sl
  | exact hE.sl
  | exact hF.sl
  | exact hA
  | exact hI
  | exact hE
  | exact hF
  | exact hil
  | exact hel
  | exact hfl
  | decide
  | skip
 all_goals
  refine leaf _ _ ?_
  simp_all <;> (intros; simp_all)
theorem act7_met (B : List (Nat × Sy.Cont)) (a : ActD) (iv ev fv tv av : Value) (cells loc : Int) (na : Nat) (hk : a.op = 7) : Sy.Meets Tryz.prog (actC B a iv ev fv tv av cells loc na) := by
 obtain ⟨op, dst, base, size, ix, e, f, mode, to, line, col⟩ := a
 simp only at hk
 subst hk
 refine Sy.meets_ofB (ctxW_holds B 7 dst base size mode to line col iv ev fv tv ix e f cells loc) mixed (L := rdOf B) (Sy.Ent.refl _) (wac7_run B dst base size mode to line col iv ev fv tv av ix e f cells loc) fun hok ns => ?_
 obtain ⟨⟨hI, hil⟩, ⟨hE, hel⟩, ⟨hF, hfl⟩, hA, hna⟩ := hok
 simp only at hI hE hF hil hel hfl
 have leaf : ∀ b L, b = actF cells loc na ⟨7, dst, base, size, ix, e, f, mode, to, line, col⟩ → Sy.leafB (actC B ⟨7, dst, base, size, ix, e, f, mode, to, line, col⟩ iv ev fv tv av cells loc na) (.bool b, L) := fun b L h => plainB_leaf (Sy.mS _) rfl (by rw [h])
 have h1 : hasDst 7 = false := rfl
 have h2 : hasPlace 7 = false := rfl
 have h3 : hasE 7 = false := rfl
 have h4 : hasF 7 = false := rfl
 have h5 : hasTo 7 = false := rfl
 simp only [actF, h1, h2, h3, h4, h5] at leaf
 simp only [wac7_R, Sy.Res.holds, hI.len, hE.len, hF.len, hna, pos_len, far_to, neg_to, ge_to loc dst]
 repeat' (first | exact gotL_of (fun p hp => by simp [hp]) | apply And.intro | intro _)
 all_goals first
  | exact trivial
  | exact hI.sl
  | exact hE.sl
  | exact hF.sl
  | exact hA
  | exact hI
  | exact hE
  | exact hF
  | exact hil
  | exact hel
  | exact hfl
  | decide
  | skip
 all_goals
  refine leaf _ _ ?_
  simp_all <;> (intros; simp_all)
theorem act8_met (B : List (Nat × Sy.Cont)) (a : ActD) (iv ev fv tv av : Value) (cells loc : Int) (na : Nat) (hk : a.op = 8) : Sy.Meets Tryz.prog (actC B a iv ev fv tv av cells loc na) := by
 obtain ⟨op, dst, base, size, ix, e, f, mode, to, line, col⟩ := a
 simp only at hk
 subst hk
 refine Sy.meets_ofB (ctxW_holds B 8 dst base size mode to line col iv ev fv tv ix e f cells loc) mixed (L := rdOf B) (Sy.Ent.refl _) (wac8_run B dst base size mode to line col iv ev fv tv av ix e f cells loc) fun hok ns => ?_
 obtain ⟨⟨hI, hil⟩, ⟨hE, hel⟩, ⟨hF, hfl⟩, hA, hna⟩ := hok
 simp only at hI hE hF hil hel hfl
 have leaf : ∀ b L, b = actF cells loc na ⟨8, dst, base, size, ix, e, f, mode, to, line, col⟩ → Sy.leafB (actC B ⟨8, dst, base, size, ix, e, f, mode, to, line, col⟩ iv ev fv tv av cells loc na) (.bool b, L) := fun b L h => plainB_leaf (Sy.mS _) rfl (by rw [h])
 have h1 : hasDst 8 = false := rfl
 have h2 : hasPlace 8 = false := rfl
 have h3 : hasE 8 = true := rfl
 have h4 : hasF 8 = false := rfl
 have h5 : hasTo 8 = false := rfl
 simp only [actF, h1, h2, h3, h4, h5] at leaf
 simp only [wac8_R, Sy.Res.holds, hI.len, hE.len, hF.len, hna, pos_len, far_to, neg_to, ge_to loc dst]
 repeat' (first | exact gotL_of (fun p hp => by simp [hp]) | apply And.intro | intro _)
 all_goals first
  | exact trivial
  | exact hI.sl
  | exact hE.sl
  | exact hF.sl
  | exact hA
  | exact hI
  | exact hE
  | exact hF
  | exact hil
  | exact hel
  | exact hfl
  | decide
  | skip
 all_goals
  refine leaf _ _ ?_
  simp_all <;> (intros; simp_all)
theorem act9_met (B : List (Nat × Sy.Cont)) (a : ActD) (iv ev fv tv av : Value) (cells loc : Int) (na : Nat) (hk : a.op = 9) : Sy.Meets Tryz.prog (actC B a iv ev fv tv av cells loc na) := by
 obtain ⟨op, dst, base, size, ix, e, f, mode, to, line, col⟩ := a
 simp only at hk
 subst hk
 refine Sy.meets_ofB (ctxW_holds B 9 dst base size mode to line col iv ev fv tv ix e f cells loc) mixed (L := rdOf B) (Sy.Ent.refl _) (wac9_run B dst base size mode to line col iv ev fv tv av ix e f cells loc) fun hok ns => ?_
 obtain ⟨⟨hI, hil⟩, ⟨hE, hel⟩, ⟨hF, hfl⟩, hA, hna⟩ := hok
 simp only at hI hE hF hil hel hfl
 have leaf : ∀ b L, b = actF cells loc na ⟨9, dst, base, size, ix, e, f, mode, to, line, col⟩ → Sy.leafB (actC B ⟨9, dst, base, size, ix, e, f, mode, to, line, col⟩ iv ev fv tv av cells loc na) (.bool b, L) := fun b L h => plainB_leaf (Sy.mS _) rfl (by rw [h])
 have h1 : hasDst 9 = false := rfl
 have h2 : hasPlace 9 = false := rfl
 have h3 : hasE 9 = false := rfl
 have h4 : hasF 9 = false := rfl
 have h5 : hasTo 9 = true := rfl
 simp only [actF, h1, h2, h3, h4, h5] at leaf
 simp only [wac9_R, Sy.Res.holds, hI.len, hE.len, hF.len, hna, pos_len, far_to, neg_to, ge_to loc dst]
 repeat' (first | exact gotL_of (fun p hp => by simp [hp]) | apply And.intro | intro _)
 all_goals first
  | exact trivial
  | exact hI.sl
  | exact hE.sl
  | exact hF.sl
  | exact hA
  | exact hI
  | exact hE
  | exact hF
  | exact hil
  | exact hel
  | exact hfl
  | decide
  | skip
 all_goals
  refine leaf _ _ ?_
  simp_all <;> (intros; simp_all)
theorem act10_met (B : List (Nat × Sy.Cont)) (a : ActD) (iv ev fv tv av : Value) (cells loc : Int) (na : Nat) (hk : a.op = 10) : Sy.Meets Tryz.prog (actC B a iv ev fv tv av cells loc na) := by
 obtain ⟨op, dst, base, size, ix, e, f, mode, to, line, col⟩ := a
 simp only at hk
 subst hk
 refine Sy.meets_ofB (ctxW_holds B 10 dst base size mode to line col iv ev fv tv ix e f cells loc) mixed (L := rdOf B) (Sy.Ent.refl _) (wac10_run B dst base size mode to line col iv ev fv tv av ix e f cells loc) fun hok ns => ?_
 obtain ⟨⟨hI, hil⟩, ⟨hE, hel⟩, ⟨hF, hfl⟩, hA, hna⟩ := hok
 simp only at hI hE hF hil hel hfl
 have leaf : ∀ b L, b = actF cells loc na ⟨10, dst, base, size, ix, e, f, mode, to, line, col⟩ → Sy.leafB (actC B ⟨10, dst, base, size, ix, e, f, mode, to, line, col⟩ iv ev fv tv av cells loc na) (.bool b, L) := fun b L h => plainB_leaf (Sy.mS _) rfl (by rw [h])
 have h1 : hasDst 10 = false := rfl
 have h2 : hasPlace 10 = false := rfl
 have h3 : hasE 10 = true := rfl
 have h4 : hasF 10 = false := rfl
 have h5 : hasTo 10 = true := rfl
 simp only [actF, h1, h2, h3, h4, h5] at leaf
 simp only [wac10_R, Sy.Res.holds, hI.len, hE.len, hF.len, hna, pos_len, far_to, neg_to, ge_to loc dst]
 repeat' (first | exact gotL_of (fun p hp => by simp [hp]) | apply And.intro | intro _)
 all_goals first
  | exact trivial
  | exact hI.sl
  | exact hE.sl
  | exact hF.sl
  | exact hA
  | exact hI
  | exact hE
  | exact hF
  | exact hil
  | exact hel
  | exact hfl
  | decide
  | skip
 all_goals
  refine leaf _ _ ?_
  simp_all <;> (intros; simp_all)
theorem act0_met (B : List (Nat × Sy.Cont)) (a : ActD) (iv ev fv tv av : Value) (cells loc : Int) (na : Nat) (hk : ¬ (1 ≤ a.op ∧ a.op ≤ 10)) : Sy.Meets Tryz.prog (actC B a iv ev fv tv av cells loc na) := by
 obtain ⟨op, dst, base, size, ix, e, f, mode, to, line, col⟩ := a
 simp only at hk
 refine Sy.meets_ofB (ctxV_holds op mode) mixed (L := rdOf B) (Sy.Ent.refl _) (wac0_run B op dst base size mode to line col iv ev fv tv av cells loc) fun hok ns => ?_
 have leaf : ∀ L, Sy.leafB (actC B ⟨op, dst, base, size, ix, e, f, mode, to, line, col⟩ iv ev fv tv av cells loc na) (.bool false, L) := fun L => plainB_leaf (Sy.mS _) rfl (by simp [actF, hk])
 simp only [wac0_R, Sy.Res.holds]
 refine ⟨fun _ => leaf _, fun h => ?_⟩
 exfalso
 rw [Ex.ltQ_eq, Ex.ltQ_eq] at h
 simp at h
 omega
theorem actC_met (B : List (Nat × Sy.Cont)) (a : ActD) (iv ev fv tv av : Value) (cells loc : Int) (na : Nat) : Sy.Meets Tryz.prog (actC B a iv ev fv tv av cells loc na) := by
 by_cases hk : 1 ≤ a.op ∧ a.op ≤ 10
 ·have h : a.op = 1 ∨ a.op = 2 ∨ a.op = 3 ∨ a.op = 4 ∨ a.op = 5 ∨ a.op = 6 ∨ a.op = 7 ∨ a.op = 8 ∨ a.op = 9 ∨ a.op = 10 := by omega
  rcases h with h | h | h | h | h | h | h | h | h | h
  ·exact act1_met _ _ _ _ _ _ _ _ _ _ h
  ·exact act2_met _ _ _ _ _ _ _ _ _ _ h
  ·exact act3_met _ _ _ _ _ _ _ _ _ _ h
  ·exact act4_met _ _ _ _ _ _ _ _ _ _ h
  ·exact act5_met _ _ _ _ _ _ _ _ _ _ h
  ·exact act6_met _ _ _ _ _ _ _ _ _ _ h
  ·exact act7_met _ _ _ _ _ _ _ _ _ _ h
  ·exact act8_met _ _ _ _ _ _ _ _ _ _ h
  ·exact act9_met _ _ _ _ _ _ _ _ _ _ h
  ·exact act10_met _ _ _ _ _ _ _ _ _ _ h
 ·exact act0_met _ _ _ _ _ _ _ _ _ _ hk
end Go.Proofs.YtlpcnaeknbmjdaaGreat
end
