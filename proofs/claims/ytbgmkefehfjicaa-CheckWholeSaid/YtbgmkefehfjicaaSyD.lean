/-
  Symbolic runs: they tell what comes.
-/
import Derived.Test.YtbgmkefehfjicaaSyC
namespace Go.Proofs.Ytbgmkefehfjicaa.Sy
open Go Go.RowKit
open Ev (one cell_of frozen_of calm)

variable {P : Program} {S : Ctx}
variable {w0 : World} {keep : Nat → Prop} {α : Type} {K : α → Prop}

/-- So it ends, and so it goes on. -/
def Post (w0 : World) (keep : Nat → Prop) (K : α → Prop) (c : Exit → F → List Blk → T α) : Exit → Act → World → Prop :=
  fun x a W => calm x = true ∧ ∃ g L, (c x g L).all K ∧ RelF g a ∧ Rep w0 keep L W

def SoundC (P : Program) (w0 : World) (keep : Nat → Prop) (K : α → Prop) (call : CallE α) : Prop := ∀ f args L c, (call f args L c).all K → ∀ W, Rep w0 keep L W → Calls P f args W fun en W' => ∃ v L', en = .returned v ∧ Rep w0 keep L' W' ∧ (c v L').all K
def SoundE (P : Program) (w0 : World) (keep : Nat → Prop) (K : α → Prop) (x : Code) (f : PieceE α) : Prop := ∀ g L c, (f g L c).all K → ∀ a W, RelF g a → Rep w0 keep L W → x.wp P (Post w0 keep K c) a W

theorem askN_all : ∀ (n : Nat) (k : List Let → T α), (askN n k).all K → ∀ ns : List Let, ns.length = n → (k ns).all K
  | 0, k, h, ns, hn => by
    obtain rfl := List.eq_nil_of_length_eq_zero hn
    exact h
  | n + 1, k, h, [], hn => by cases hn
  | n + 1, k, h, x :: r, hn => askN_all n _ (h x) r (by simpa using hn)

theorem eraseIdx_perm {α : Type} : ∀ (l : List α) (j : Nat) (a : α), l[j]? = some a → l.Perm (a :: l.eraseIdx j)
  | [], j, a, h => by cases h
  | x :: l, 0, a, h => by
    simp only [List.getElem?_cons_zero, Option.some.injEq] at h
    subst h
    exact List.Perm.refl _
  | x :: l, j + 1, a, h => by
    have := eraseIdx_perm l j a (by simpa using h)
    exact (this.cons x).trans (List.Perm.swap a x _)

theorem takeAll_sound {W : World} (ow : Bool) : ∀ (l : List (Nat × Cont)) (L : List Blk) (k : List Blk → List Blk → T α), (takeAll ow l L k).all K → There L W →
    ∃ L' U, (k L' U).all K ∧ (∀ p ∈ l, p.2.sat W.heap[p.1]?) ∧ U.map (·.nm) = l.map (·.1) ∧ (∀ b ∈ U, ow = true → b.own = true) ∧ L.Perm (U ++ L')
  | [], L, k, h, _ => ⟨L, [], h, fun _ hp => (by cases hp), rfl, fun _ hp => (by cases hp), List.Perm.refl _⟩
  | p :: r, L, k, h, ht => by
    simp only [takeAll] at h
    obtain ⟨b, j, hj, h1, h⟩ := pickT_spec h
    split at h
    · rename_i how
      obtain ⟨h2, h⟩ := h
      have h := forceT_spec h
      have hsub : List.Sublist (L.eraseIdx j) L := List.eraseIdx_sublist _ _
      obtain ⟨L2, U, h3, h4, h6, h7, h8⟩ := takeAll_sound ow r (L.eraseIdx j) _ h (fun q hq => ht q (hsub.subset hq))
      refine ⟨L2, b :: U, h3, fun q hq => ?_, by simp [h6, h1], fun q hq how2 => ?_, ?_⟩
      · rcases List.mem_cons.1 hq with rfl | hq
        · rw [h1, tok_cont h2]
          have h0 := ht _ (List.mem_of_getElem? hj)
          cases ow with
          | true => exact Cont.sat_useView h0
          | false => exact Cont.sat_view h0
        · exact h4 q hq
      · rcases List.mem_cons.1 hq with rfl | hq
        · rw [how2] at how; simpa using how
        · exact h7 q hq how2
      · exact (eraseIdx_perm L j b hj).trans (h8.cons b)
    · exact h.elim

theorem rbT_spec {l : List (Nat × Cont)} {L : List Blk} {k : T α} (h : (rbT l L k).all K) : GotL L l ∧ k.all K := by
  unfold rbT at h
  rcases two_spec h with h | h
  · split at h
    · exact ⟨fun _ hp => (by cases hp), h⟩
    · exact h.elim
  · obtain ⟨d, h1, h⟩ := h
    exact ⟨fun p hp => by
      obtain ⟨q, hq, h2⟩ := h1 p hp
      exact ⟨q, List.mem_of_mem_drop hq, h2⟩, h⟩

theorem Rep.perm {L L' : List Blk} {W : World} (hp : L.Perm L') (h : Rep w0 keep L W) : Rep w0 keep L' W :=
  ⟨h.os, h.tape, h.output, h.size, h.old, fun p hm => h.blk p (hp.mem_iff.2 hm), (hp.pairwise_iff (fun h => Far.symm h)).1 h.far⟩

theorem memBy_sound {β : Type} {c : MemC} {L : List Blk} {outs : List (OutM × β)} {k : β → List Let → List Blk → T α} (h : (memBy c L outs k).all K) {W : World} (hr : Rep w0 keep L W) :
    c.pre W ∧ ∀ o ∈ outs, ∀ ns W', c.post o.1 W W' ns → ∃ L', Rep w0 keep L' W' ∧ (k o.2 ns L').all K := by
  obtain ⟨L1, U1, h, hrd, hU1, -, hp1⟩ := takeAll_sound (W := W) _ _ _ _ h (fun p hp => (hr.blk p hp).1)
  obtain ⟨L2, U, h, huse, hU, hUo, hp2⟩ := takeAll_sound (W := W) _ _ _ _ h (fun p hp => (hr.blk p (hp1.mem_iff.2 (List.mem_append_right _ hp))).1)
  have hperm : L.Perm (U ++ (U1 ++ L2)) := by
    refine hp1.trans ((hp2.append_left U1).trans ?_)
    rw [← List.append_assoc, ← List.append_assoc]
    exact List.perm_append_comm.append_right _
  have hfar : (U ++ (U1 ++ L2)).Pairwise Far := (hperm.pairwise_iff (fun h => Far.symm h)).1 hr.far
  have hmem : ∀ q ∈ U1 ++ L2, q ∈ L := fun q hq => hperm.mem_iff.2 (List.mem_append_right _ hq)
  have hUe : ∀ b ∈ U, b ∈ L ∧ b.own = true := fun b hb => ⟨hperm.mem_iff.2 (List.mem_append_left _ hb), hUo b hb rfl⟩
  rw [List.pairwise_append] at hfar
  obtain ⟨hfU, hfR, hfUR⟩ := hfar
  have hndU : (U.map (·.nm)).Nodup := by
    rw [List.nodup_iff_pairwise_ne, List.pairwise_map]
    exact hfU.imp_of_mem fun ha _ hab => hab (by rw [(hUe _ ha).2]; rfl)
  have hap : ∀ p ∈ c.rd, ∀ q ∈ c.use, p.1 ≠ q.1 := fun p hp q hq he => by
    have h1 : p.1 ∈ U1.map (·.nm) := by rw [hU1]; exact List.mem_map.2 ⟨p, hp, rfl⟩
    have h2 : q.1 ∈ U.map (·.nm) := by rw [hU]; exact List.mem_map.2 ⟨q, hq, rfl⟩
    obtain ⟨b1, hb1, e1⟩ := List.mem_map.1 h1
    obtain ⟨b2, hb2, e2⟩ := List.mem_map.1 h2
    exact hfUR b2 hb2 b1 (List.mem_append_left _ hb1) (by rw [(hUe _ hb2).2]; rfl) (by rw [e2, e1, he])
  obtain ⟨hgot, h⟩ := rbT_spec h
  have hrb : ∀ p ∈ c.rb, p.2.sat W.heap[p.1]? := fun p hp => by
    obtain ⟨q, hq, h1, h2⟩ := hgot p hp
    rw [← h1]
    exact h2 _ (hr.blk q (hmem q hq)).1
  have hapB : ∀ p ∈ c.rb, ∀ q ∈ c.use, p.1 ≠ q.1 := fun p hp q hq he => by
    obtain ⟨x, hx, h1, -⟩ := hgot p hp
    have h2 : q.1 ∈ U.map (·.nm) := by rw [hU]; exact List.mem_map.2 ⟨q, hq, rfl⟩
    obtain ⟨b2, hb2, e2⟩ := List.mem_map.1 h2
    exact hfUR b2 hb2 x hx (by rw [(hUe _ hb2).2]; rfl) (by rw [e2, h1, he])
  generalize U1 ++ L2 = rest at *
  refine ⟨⟨hrd, huse, by rw [← hU]; exact hndU, hap, hrb, hapB⟩, ?_⟩
  rintro o ho ns W' ⟨hns, hhyp, o1, o2, o3, hsz, hkeep, hnw0, hnwd0, hnb, hnbd, hnab⟩
  have hK : (k o.2 ns ((o.1.nw ns).map ownOf ++ (rest ++ (o.1.nb ns).map ownOf))).all K := by
    rcases two_spec (askN_all _ _ (outsT_all h o ho) ns hns hhyp) with hK | hK
    · split at hK
      · rename_i hb
        have hK := forceT_spec hK
        rw [hb, List.map_nil, List.append_nil]
        exact hK
      · exact hK.elim
    · exact forceT_spec hK
  obtain ⟨new, hnew⟩ : ∃ new, new = o.1.nw ns ++ o.1.nb ns := ⟨_, rfl⟩
  have hnw : ∀ p ∈ new, (W.heap.size ≤ p.1 ∨ ∃ q ∈ c.use, q.1 = p.1) ∧ p.2.sat W'.heap[p.1]? := fun p hp => by
    rw [hnew] at hp
    exact (List.mem_append.1 hp).elim (hnw0 p) (hnb p)
  have hnwd : (new.map (·.1)).Nodup := by
    rw [hnew, List.map_append, List.nodup_append]
    refine ⟨hnwd0, hnbd, fun a ha b hb => ?_⟩
    obtain ⟨x, hx, rfl⟩ := List.mem_map.1 ha
    obtain ⟨y, hy, rfl⟩ := List.mem_map.1 hb
    exact hnab x hx y hy
  have hp3 : (new.map ownOf ++ rest).Perm ((o.1.nw ns).map ownOf ++ (rest ++ (o.1.nb ns).map ownOf)) := by
    rw [hnew, List.map_append, List.append_assoc]
    exact List.Perm.append_left _ List.perm_append_comm
  have hnuse : ∀ p ∈ c.use, ∃ b ∈ U, b.nm = p.1 := fun p hp => by
    have : p.1 ∈ U.map (·.nm) := by rw [hU]; exact List.mem_map.2 ⟨p, hp, rfl⟩
    obtain ⟨b, hb, he⟩ := List.mem_map.1 this
    exact ⟨b, hb, he⟩
  have hrest : ∀ q ∈ rest, ∀ p ∈ c.use, p.1 ≠ q.nm := fun q hq p hp he => by
    obtain ⟨b, hb, hbe⟩ := hnuse p hp
    exact hfUR b hb q hq (by rw [(hUe _ hb).2]; rfl) (by rw [hbe, he])
  have hnk : ∀ p ∈ c.use, p.1 < w0.heap.size → ¬ keep p.1 := fun p hp hlt => by
    obtain ⟨b, hb, hbe⟩ := hnuse p hp
    rw [← hbe] at hlt ⊢
    exact (hr.blk b (hUe b hb).1).2 (hUe b hb).2 hlt
  refine ⟨_, Rep.perm hp3 ⟨o1.trans hr.os, o2.trans hr.tape, o3.trans hr.output, Nat.le_trans hr.size hsz, fun k hk hkp => ?_, fun p hp => ?_, ?_⟩, hK⟩
  · rw [hkeep k (Nat.lt_of_lt_of_le hk hr.size) (fun p hp he => by subst he; exact hnk p hp hk hkp)]
    exact hr.old k hk hkp
  · simp only [List.mem_append, List.mem_map] at hp
    rcases hp with ⟨q, hq, rfl⟩ | hp
    · refine ⟨(hnw q hq).2, fun _ hlt => ?_⟩
      have hlt' : q.1 < w0.heap.size := hlt
      show ¬ keep q.1
      rcases (hnw q hq).1 with h1 | ⟨p, hp, he⟩
      · have := hr.size
        omega
      · rw [← he] at hlt' ⊢
        exact hnk p hp hlt'
    · have hpe := hmem p hp
      obtain ⟨h1, h2⟩ := hr.blk p hpe
      exact ⟨by rw [hkeep p.nm (hr.lt hpe) (hrest p hp)]; exact h1, h2⟩
  · have hlt : ∀ b ∈ L, b.nm < W.heap.size := fun b hb => hr.lt hb
    rw [List.pairwise_append]
    refine ⟨?_, hfR, fun a ha b hb _ he => ?_⟩
    · rw [List.pairwise_map]
      rw [List.nodup_iff_pairwise_ne, List.pairwise_map] at hnwd
      exact hnwd.imp (S := fun a b => Far (ownOf a) (ownOf b)) fun h _ => h
    · obtain ⟨q, hq, rfl⟩ := List.mem_map.1 ha
      have he' : q.1 = b.nm := he
      rcases (hnw q hq).1 with h1 | ⟨p, hp, hpe⟩
      · have h2 := hlt b (hmem b hb)
        omega
      · exact hrest b hb p hp (hpe.trans he')

theorem opaV_spec {a : F} {o : Oper} {k : Value → T α} (h : (opaV P a o k).all K) : ∃ v, (∀ W, (execOp a.eval o).run P W = .ok (.value v) W) ∧ (k v).all K := by
  unfold opaV at h
  split at h
  · rename_i t x y ho
    split at h
    · rename_i el hu
      split at h
      · rename_i inf hi
        split at h
        · rename_i kk i hy
          obtain ⟨⟨⟨n, c, hx⟩, h1, h2⟩, h⟩ := h
          refine ⟨_, fun W => ?_, h⟩
          have hl : lenS (a.eval x) = n := by rw [hx]; rfl
          rw [hl] at h2
          have hs : symQ P a.eval o = some (Ex.leQ 0 i && Ex.ltQ i (n : Int), 0 ≤ i ∧ i < (n : Int), .pointer (some ⟨ptrS (a.eval x), offS (a.eval x) + i.toNat * inf.size, none⟩)) := by
            unfold symQ
            rw [ho]
            simp only [hy]
            rw [hx]
            simp only [hu, hi]
            rfl
          exact symQ_run hs (.inr ⟨h1, h2⟩) W
        · exact h.elim
      · exact h.elim
    · exact h.elim
  · rename_i c ho
    split at h
    · rename_i hc
      split at h
      · rename_i x t ha ht
        split at h
        · rename_i el hu
          obtain ⟨⟨p, n, cc, hx⟩, h⟩ := h
          refine ⟨_, fun W => ?_, h⟩
          have hl : lenOf P a.eval o = some (.int .i64 (Int.ofNat (lenS (a.eval x)))) := by
            unfold lenOf
            simp only [ho, hc, ha, ht]
            rw [hx]
            simp only [hu]
            rfl
          exact lenOf_run hl W
        · exact h.elim
      · exact h.elim
    · exact h.elim
  · exact h.elim

theorem evOp_sound (hS : S.holds P) {fn : FuncId} {call : CallE α} (hs : SoundC P w0 keep K call) {o : Oper} {a : F} {L : List Blk} {c : F → List Blk → T α} (h : (evOp P S fn call o a L c).all K)
    {b : Act} {W : World} (hf : RelF a b) (hr : Rep w0 keep L W) : ∃ x W1, (execOp b.eval o).run P W = .ok x W1 ∧
      ((∃ v L', x = .value v ∧ (c (a.put o.dst v) L').all K ∧ Rep w0 keep L' W1) ∨ (∃ L', x = .skip ∧ (c (a.put o.dst undef) L').all K ∧ Rep w0 keep L' W1) ∨
        ∃ f args, x = .enter f args ∧ Calls P f args W1 fun en W2 => ∃ v L', en = .returned v ∧ Rep w0 keep L' W2 ∧ (c (a.put o.dst v) L').all K) := by
  have byC : ∀ k : OpC, OpMeets P (execOp a.eval o) k → (opBy k o a L c).all K → ∃ x W1, (execOp b.eval o).run P W = .ok x W1 ∧
      ((∃ v L', x = .value v ∧ (c (a.put o.dst v) L').all K ∧ Rep w0 keep L' W1) ∨ (∃ L', x = .skip ∧ (c (a.put o.dst undef) L').all K ∧ Rep w0 keep L' W1) ∨
        ∃ f args, x = .enter f args ∧ Calls P f args W1 fun en W2 => ∃ v L', en = .returned v ∧ Rep w0 keep L' W2 ∧ (c (a.put o.dst v) L').all K) := fun k hm h => by
    rw [hf.eval] at hm
    obtain ⟨hpre, h⟩ := memBy_sound h hr
    obtain ⟨o1, ho1, ns, W1, hrun, hpost⟩ := hm W hpre
    obtain ⟨L1, hr1, h⟩ := h o1 ho1 ns W1 hpost
    refine ⟨_, _, hrun, ?_⟩
    cases hv : o1.2 ns with
    | some v =>
      rw [hv] at h
      exact .inl ⟨v, L1, rfl, h, hr1⟩
    | none =>
      rw [hv] at h
      exact .inr (.inl ⟨L1, rfl, h, hr1⟩)
  have gen : (genOp P call o a L c).all K → ∃ x W1, (execOp b.eval o).run P W = .ok x W1 ∧
      ((∃ v L', x = .value v ∧ (c (a.put o.dst v) L').all K ∧ Rep w0 keep L' W1) ∨ (∃ L', x = .skip ∧ (c (a.put o.dst undef) L').all K ∧ Rep w0 keep L' W1) ∨
        ∃ f args, x = .enter f args ∧ Calls P f args W1 fun en W2 => ∃ v L', en = .returned v ∧ Rep w0 keep L' W2 ∧ (c (a.put o.dst v) L').all K) := fun h => by
    unfold genOp at h
    rw [hf.eval] at h
    obtain ⟨x, L1, W1, hrun, hr1, h⟩ := lrun_sound P _ _ _ W _ h hr
    refine ⟨x, W1, hrun, ?_⟩
    unfold stepO at h
    cases x with
    | value v => exact .inl ⟨v, L1, rfl, h, hr1⟩
    | skip => exact .inr (.inl ⟨L1, rfl, h, hr1⟩)
    | enter f args =>
      exact .inr (.inr ⟨f, args, rfl, (hs _ _ _ _ h W1 hr1).mono fun en W2 ⟨v, L2, he, hR, h⟩ => ⟨v, L2, he, hR, h⟩⟩)
    | _ => exact h.elim
  have dop0 : (doOp0 P call o a L c).all K → ∃ x W1, (execOp b.eval o).run P W = .ok x W1 ∧
      ((∃ v L', x = .value v ∧ (c (a.put o.dst v) L').all K ∧ Rep w0 keep L' W1) ∨ (∃ L', x = .skip ∧ (c (a.put o.dst undef) L').all K ∧ Rep w0 keep L' W1) ∨
        ∃ f args, x = .enter f args ∧ Calls P f args W1 fun en W2 => ∃ v L', en = .returned v ∧ Rep w0 keep L' W2 ∧ (c (a.put o.dst v) L').all K) := fun h => by
    unfold doOp0 at h
    have hd := doing_spec (P := P) (ρ := b.eval) (fun g => rfl) o
    rw [hf.eval] at h
    split at h
    · rename_i v hv
      rw [hv] at hd
      exact ⟨_, _, hd W, .inl ⟨v, L, rfl, h, hr⟩⟩
    · rename_i bb p v hv
      rw [hv] at hd
      obtain ⟨h1, h⟩ := reqP_spec h
      exact ⟨_, _, hd h1 W, .inl ⟨v, L, rfl, h, hr⟩⟩
    · rename_i t bb off hv
      rw [hv] at hd
      obtain ⟨v, hk, hrun⟩ := loadN_spec (fun p hp => (hr.blk p hp).1) h
      exact ⟨_, _, by rw [loadOf_run hd]; exact hrun W (fun p hp => (hr.blk p hp).1), .inl ⟨v, L, rfl, hk, hr⟩⟩
    · rename_i bb off v hv
      rw [hv] at hd
      obtain ⟨p, j, hj, hb, h⟩ := pickT_spec h
      obtain ⟨hone, h⟩ := reqP_spec h
      have hone : one v = true := hone.elim id id
      obtain ⟨L1, u, hcell, hfz, hset, h⟩ := putT_sound h hj hb hr
      refine ⟨.skip, W.setCell ⟨bb, off, none⟩ v, ?_, .inr (.inl ⟨L1, rfl, h, hset⟩)⟩
      rw [storeOf_run hd]
      have : (Go.store ⟨bb, off, none⟩ v).run P W = .ok () (W.setCell ⟨bb, off, none⟩ v) := by
        cases v <;> first | (simp [one] at hone; done) | simp [Go.store, Sem.run, hcell, hfz]
      rw [this]
    · rename_i n bb off C hv
      rw [hv] at hd
      obtain ⟨t, hd⟩ := hd
      rcases altT_spec h with h | h
      · have hoff : off = 0 ∧ (pickT L bb fun p j => match p with
            | ⟨nm, .obj (.cells old ty (lo, hi)), true⟩ => match Nat.beq lo 0 && Nat.beq hi 0 with
              | true => reqP (Nat.beq old.size C.size && (Nat.beq n C.size && C.all (·.oneCell'))) (old.size = C.size ∧ n = C.size ∧ C.all (·.oneCell') = true) (setK L j ⟨nm, .obj (.cells C ty (0, 0)), true⟩ fun L' => c (a.put o.dst undef) L')
              | false => .fail
            | _ => .fail).all K := by
          cases hbo : Nat.beq off 0 with
          | false => rw [hbo] at h; exact h.elim
          | true => rw [hbo] at h; exact ⟨Nat.eq_of_beq_eq_true hbo, h⟩
        obtain ⟨hoff, h⟩ := hoff
        subst hoff
        obtain ⟨p, j, hj, hb, h⟩ := pickT_spec h
        split at h
        · rename_i nm old ty lo hi
          split at h
          · rename_i hz
            simp only [Bool.and_eq_true, Nat.beq_eq] at hz
            obtain ⟨rfl, rfl⟩ := hz
            obtain ⟨hreq, h⟩ := reqP_spec h
            have hreq : old.size = C.size ∧ n = C.size ∧ C.all (·.oneCell') = true := hreq.elim (fun h => by simpa only [Bool.and_eq_true, Nat.beq_eq] using h) id
            have hat : W.heap[nm]? = some (.cells old ty (0, 0)) := hr.at hj
            have hb : bb = nm := hb
            subst hb
            refine ⟨.skip, W.setRow bb C, wholeOf_run hd hreq.1 hreq.2.1 hreq.2.2 hat, .inr (.inl ⟨_, rfl, (setK_spec h).2, ?_⟩)⟩
            exact hr.set hj rfl _ rfl rfl rfl (by simp) (fun k hk => setRow_other W bb k C hk) (setRow_heap W bb old C ty (0, 0) hat)
          · exact h.elim
        · exact h.elim
      · exact gen h
    · rename_i t v x hv
      rw [hv] at hd
      rcases altT_spec h with h | h
      · obtain ⟨k, hm, h⟩ := appT_spec (ty := o.type) h
        refine byC k (fun W hW => ?_) h
        rw [hf.eval, appOf_run hd]
        exact hm W hW
      · exact gen h
    · rename_i f args hv
      rw [hv] at hd
      exact ⟨_, _, hd W, .inr (.inr ⟨f, args, rfl, (hs _ _ _ _ h W hr).mono fun en W2 ⟨v, L2, he, hR, h⟩ => ⟨v, L2, he, hR, h⟩⟩)⟩
    · rename_i e z bytes n lv cv hv
      rw [hv] at hd
      rcases altT_spec h with h | ⟨h1, h⟩
      · exact gen h
      · obtain ⟨hreq, h⟩ := reqP_spec h
        have hreq : 0 ≤ n ∧ n.toNat * bytes ≤ 281474976710656 ∧ n.toNat ≤ maxLen := hreq.elim (fun h => by simpa only [Bool.and_eq_true, Ex.leQ_eq, decide_eq_true_eq, Nat.ble_eq] using h) id
        obtain ⟨C, hC, hrun⟩ := makeOf_run hd (tok_val h1) hreq.1 hreq.2.1 hreq.2.2 W
        refine ⟨_, _, hrun, .inl ⟨_, _, rfl, h ⟨W.heap.size, 0, false, undef, []⟩, ?_⟩⟩
        have hsz : C.size = n.toNat := by rw [← Array.length_toList, hC]; simp
        have hp := hr.push (.cells C e (0, 0))
        refine ⟨hp.os, hp.tape, hp.output, hp.size, hp.old, fun p hpm => ?_, ?_⟩
        · rcases List.mem_cons.1 hpm with rfl | hpm
          · obtain ⟨h2, h3⟩ := hp.blk _ List.mem_cons_self
            exact ⟨⟨C, h2, by simp, Nat.le_refl _, hreq.2.2, by simp [hsz], by simp [hC]⟩, h3⟩
          · exact hp.blk p (List.mem_cons_of_mem _ hpm)
        · have hf := hp.far
          rw [List.pairwise_cons] at hf ⊢
          exact ⟨fun q hq ho => hf.1 q hq ho, hf.2⟩
    · rename_i s hv
      rw [hv] at hd
      obtain ⟨e, hd⟩ := hd
      rw [forceL_eq] at h
      exact byC _ (by rw [hf.eval]; exact bytesOf_met hd) h
    · rename_i neg b1 o1 b2 o2 hv
      rw [hv] at hd
      obtain ⟨r, h, hrun⟩ := peqT_spec (P := P) h hr
      exact ⟨_, _, peqOf_run hd hrun, .inl ⟨_, L, rfl, h, hr⟩⟩
    · rename_i bb off old new hv
      rw [hv] at hd
      obtain ⟨p, j, hj, hb, h⟩ := pickT_spec h
      split at h
      · exact h.elim
      · rename_i hpl
        split at h
        · rename_i cur hcur
          obtain ⟨r, h, hrun⟩ := samePT_spec (P := P) h hr
          obtain ⟨cc, tt, hat⟩ := plainCt_spec hpl (hr.at hj)
          have hcell : W.cell? ⟨bb, off, none⟩ = some (.pointer cur) := cell_at (a := ⟨bb, off, none⟩) hb (hr.at hj) rfl hcur
          have hx := casOf_run (P := P) (W := W) (fun g => rfl) hd (by rw [hb]; exact hat) hcell hrun
          cases r with
          | true =>
            obtain ⟨L1, u, -, -, hset, h⟩ := putT_sound (h.1 rfl) hj hb hr
            exact ⟨_, _, hx, .inl ⟨_, L1, rfl, h, hset⟩⟩
          | false => exact ⟨_, _, hx, .inl ⟨_, L, rfl, h.2 rfl, hr⟩⟩
        · exact h.elim
    · exact gen h
  have dop : (doOp P call o a L c).all K → ∃ x W1, (execOp b.eval o).run P W = .ok x W1 ∧
      ((∃ v L', x = .value v ∧ (c (a.put o.dst v) L').all K ∧ Rep w0 keep L' W1) ∨ (∃ L', x = .skip ∧ (c (a.put o.dst undef) L').all K ∧ Rep w0 keep L' W1) ∨
        ∃ f args, x = .enter f args ∧ Calls P f args W1 fun en W2 => ∃ v L', en = .returned v ∧ Rep w0 keep L' W2 ∧ (c (a.put o.dst v) L').all K) := fun h => by
    unfold doOp at h
    split at h
    · rcases two_spec h with h | h
      · exact dop0 h
      · obtain ⟨v, hrun, hk⟩ := opaV_spec h
        rw [hf.eval] at hrun
        exact ⟨_, _, hrun W, .inl ⟨v, L, rfl, hk, hr⟩⟩
    · exact dop0 h
  unfold evOp at h
  split at h
  · rename_i k ks hop
    obtain ⟨j, h⟩ := h
    dsimp only at h
    split at h
    · rename_i k' hj
      obtain ⟨h1, h2, h⟩ := h
      rw [nth_eq] at hj
      have hm := hS.op fn (keyOf o) k' (by rw [hop]; exact List.mem_of_getElem? hj) a L h2
      rw [← tok_sem h1] at hm
      exact byC _ hm h
    · exact dop h
  · exact dop h

theorem evAt_sound (hS : S.holds P) {fn : FuncId} {call : CallE α} (hs : SoundC P w0 keep K call) {ops : Array Oper} {i : Nat} {a : F} {L : List Blk} {c : F → List Blk → T α} (h : (evAt P S fn call ops i a L c).all K)
    {b : Act} {W : World} (hf : RelF a b) (hr : Rep w0 keep L W) {Q : Exit → Act → World → Prop} {K' : Act → World → Prop} (hK : ∀ a' L' b' W', (c a' L').all K → RelF a' b' → Rep w0 keep L' W' → K' b' W') : wpOp P ops Q i K' b W := by
  unfold evAt at h
  rw [nth_eq, Array.getElem?_toList] at h
  unfold wpOp
  split at h
  · rename_i h0
    simp only [h0]
    exact hK _ _ _ _ h hf hr
  · rename_i o h0
    simp only [h0]
    obtain ⟨a', hf', h⟩ := guardT_spec hf h
    rcases h with ⟨hw, h⟩ | ⟨hw, h⟩
    · rw [if_pos hw]
      left
      unfold Oper.wp
      obtain ⟨x, W1, hrun, hx⟩ := evOp_sound hS hs h hf' hr
      rw [hrun]
      rcases hx with ⟨v, L', rfl, hk, hr'⟩ | ⟨L', rfl, hk, hr'⟩ | ⟨f, args, rfl, hc⟩
      · exact hK _ _ _ _ hk (hf'.put _ _) hr'
      · exact hK _ _ _ _ hk (hf'.put _ _) hr'
      · refine hc.mono fun en W2 ⟨v, L2, he, hR, h⟩ => ?_
        subst he
        exact hK _ _ _ _ h (hf'.put _ _) hR
    · rw [hw]
      exact hK _ _ _ _ h (hf'.put _ _) hr

theorem heldV_of {a : F} {L0 : List Blk} {o : Oper} {k : Value → T α} (h : (heldV0 P a L0 o k).all K) : (heldV P a L0 o k).all K := by
  unfold heldV
  split
  · exact ⟨0, h⟩
  · exact h

theorem doOp_of {call : CallE α} {a : F} {L : List Blk} {o : Oper} {c : F → List Blk → T α} (h : (doOp0 P call o a L c).all K) : (doOp P call o a L c).all K := by
  unfold doOp
  split
  · exact ⟨0, h⟩
  · exact h

theorem heldV0_sound {a : F} {L0 : List Blk} {o : Oper} {k : Value → T α} {W0 : World} (h0 : There L0 W0) (h : (heldV0 P a L0 o k).all K) : ∃ v, (∀ W, There L0 W → (execOp a.eval o).run P W = .ok (.value v) W) ∧ (k v).all K := by
  unfold heldV0 at h
  have hd := doing_spec (P := P) (ρ := a.eval) (fun g => rfl) o
  split at h
  · rename_i v hv
    rw [hv] at hd
    exact ⟨v, fun W _ => hd W, h⟩
  · rename_i t bb off hv
    rw [hv] at hd
    obtain ⟨v, hk, hrun⟩ := loadN_spec h0 h
    exact ⟨v, fun W hS => by rw [loadOf_run hd]; exact hrun W hS, hk⟩
  · rename_i bb p v hv
    rw [hv] at hd
    obtain ⟨h1, h⟩ := reqP_spec h
    exact ⟨_, fun W _ => hd h1 W, h⟩
  · obtain ⟨x, hx, hrun⟩ := lread_sound P _ _ _ h
    cases x with
    | value v => exact ⟨v, hrun, hx⟩
    | _ => exact hx.elim
  · exact h.elim

theorem heldV_sound {a : F} {L0 : List Blk} {o : Oper} {k : Value → T α} {W0 : World} (h0 : There L0 W0) (h : (heldV P a L0 o k).all K) : ∃ v, (∀ W, There L0 W → (execOp a.eval o).run P W = .ok (.value v) W) ∧ (k v).all K := by
  unfold heldV at h
  split at h
  · rcases two_spec h with h | h
    · exact heldV0_sound h0 h
    · obtain ⟨v, h1, h2⟩ := opaV_spec h
      exact ⟨v, fun W _ => h1 W, h2⟩
  · exact heldV0_sound h0 h

theorem valB_held {a : F} {L0 : List Blk} {o : Oper} {k : Value → T α} (h : ((valB P o : VB α).run a L0 k (heldV P a L0 o k)).all K) : (heldV P a L0 o k).all K := by
  rcases valB_spec h with h | h | h | h
  · exact h
  · obtain ⟨v, h1, h2⟩ := h
    refine heldV_of ?_
    unfold heldV0
    rw [h1]
    exact h2
  · obtain ⟨t, b, off, h1, h2⟩ := h
    refine heldV_of ?_
    unfold heldV0
    rw [h1]
    exact h2
  · obtain ⟨b, p, v, h1, h2⟩ := h
    refine heldV_of ?_
    unfold heldV0
    rw [h1]
    exact h2

theorem valB_do {call : CallE α} {a : F} {L : List Blk} {o : Oper} {c : F → List Blk → T α} (h : ((valB P o : VB α).run a L (fun v => c (a.put o.dst v) L) (doOp P call o a L c)).all K) : (doOp P call o a L c).all K := by
  rcases valB_spec h with h | h | h | h
  · exact h
  · obtain ⟨v, h1, h2⟩ := h
    refine doOp_of ?_
    unfold doOp0
    rw [h1]
    exact h2
  · obtain ⟨t, b, off, h1, h2⟩ := h
    refine doOp_of ?_
    unfold doOp0
    rw [h1]
    exact h2
  · obtain ⟨b, p, v, h1, h2⟩ := h
    refine doOp_of ?_
    unfold doOp0
    rw [h1]
    exact h2

theorem heldG_sound {ops : Array Oper} {L0 : List Blk} {g : Option G} {a : F} {o : Oper} {k : Option G → F → T α} {b : Act} {W0 : World} (h0 : There L0 W0) (hf : RelF a b) (hi : Inv g b) (h : (heldG P ops L0 g a o k).all K) :
    ∃ g' a' v, YieldsIf P ops (There L0) o v b ∧ RelF a' (b.put o.dst v) ∧ Inv g' (b.put o.dst v) ∧ (k g' a').all K := by
  unfold heldG at h
  have key := guardOf_key (ops := ops) (o := o) hf
  split at h
  · rename_i hg
    rw [hg] at key
    simp only at key
    have plain : ∀ f : Value → T α, (heldV P a L0 o f).all K → ∃ v, YieldsIf P ops (There L0) o v b ∧ (f v).all K := fun f h => by
      obtain ⟨v, h1, h2⟩ := heldV_sound h0 h
      rw [hf.eval] at h1
      exact ⟨v, .inl ⟨key, fun W hS => h1 W hS⟩, h2⟩
    split at h
    · obtain ⟨v, h1, h2⟩ := plain _ (valB_held h)
      exact ⟨_, _, v, h1, hf.put _ _, Inv.none _, h2⟩
    · rename_i g
      split at h
      · rename_i c x y ho
        split at h
        · rename_i bb hc
          obtain ⟨h1, h⟩ := h
          have h1 : bb = g.b := by injection (tok_val h1)
          split at h
          · rename_i v hv
            have hv := mergeV_spec hv
            rw [hf.eval] at hc
            refine ⟨_, _, v, .inl ⟨key, fun W _ => ?_⟩, hf.put _ _, Inv.none _, h⟩
            rw [pick_run ho hc W]
            have e : v = if bb = true then b.eval x else b.eval y := by
              rw [hv]
              cases hb : bb with
              | true =>
                simp only [if_true]
                cases hw : g.want with
                | true =>
                  have := hi g rfl (by rw [← h1, hb, hw])
                  simp only [this.eval]
                | false => simp only [hf.eval]
              | false =>
                simp only [Bool.false_eq_true, if_false]
                cases hw : g.want with
                | true => simp only [hf.eval]
                | false =>
                  have := hi g rfl (by rw [← h1, hb, hw])
                  simp only [this.eval]
            rw [← e]
          · exact h.elim
        · exact h.elim
      · obtain ⟨v, h1, h2⟩ := plain _ h
        refine ⟨_, _, v, h1, hf.put _ _, fun x hx hb => ?_, h2⟩
        injection hx with hx
        subst hx
        exact (hi g rfl hb).put _ _
  · rename_i hg
    rw [hg] at key
    exact ⟨_, _, undef, .inr ⟨key, rfl⟩, hf.put _ _, Inv.none _, h⟩
  · rename_i t c want hg
    rw [hg] at key
    obtain ⟨k1, k2⟩ := key
    have sel : ∀ (v : Value) (a1 : F), (c = want → RelF a1 b) → (∀ W, There L0 W → (execOp a1.eval o).run P W = .ok (.value v) W) → YieldsIf P ops (There L0) o (selV (hit c want) v undef) b ∧ (c = want → selV (hit c want) v undef = v) := fun v a1 h1 h2 => by
      by_cases hcw : c = want
      · have hh : hit c want = true := by subst hcw; cases c <;> rfl
        rw [hh]
        have h3 := h1 hcw
        refine ⟨.inl ⟨by rw [k1, hcw]; simp, fun W hS => ?_⟩, fun _ => rfl⟩
        rw [← h3.eval]
        exact h2 W hS
      · have hh : hit c want = false := by cases c <;> cases want <;> simp_all [hit]
        rw [hh]
        exact ⟨.inr ⟨by rw [k1]; cases c <;> cases want <;> simp_all, rfl⟩, fun h => absurd h hcw⟩
    split at h
    · obtain ⟨v, h1, h2⟩ := heldV_sound h0 h
      have ha : c = want → RelF (a.put (some t) (.bool want)) b := fun hcw => hf.same (by rw [k2, hcw])
      obtain ⟨s1, s2⟩ := sel v _ ha h1
      refine ⟨_, _, _, s1, hf.put _ _, fun x hx hb => ?_, h2⟩
      injection hx with hx
      subst hx
      rw [s2 hb]
      exact (ha hb).put _ _
    · rename_i g
      obtain ⟨e1, e2, h⟩ := h
      have e1 : c = g.b := by injection (tok_val e1)
      have e2 : want = g.want := by injection (tok_val e2)
      obtain ⟨v, h1, h2⟩ := heldV_sound h0 h
      have ha : c = want → RelF g.a b := fun hcw => hi g rfl (by rw [← e1, ← e2, hcw])
      obtain ⟨s1, s2⟩ := sel v _ ha h1
      refine ⟨_, _, _, s1, hf.put _ _, fun x hx hb => ?_, h2⟩
      injection hx with hx
      subst hx
      have hcw : c = want := by rw [e1, e2]; exact hb
      rw [s2 hcw]
      exact (ha hcw).put _ _

theorem evAtG_sound (hS : S.holds P) {fn : FuncId} {call : CallE α} (hs : SoundC P w0 keep K call) {ops : Array Oper} {i : Nat} {g : Option G} {a : F} {L : List Blk} {c : Option G → F → List Blk → T α} (h : (evAtG P S fn call ops i g a L c).all K)
    {b : Act} {W : World} (hf : RelF a b) (hi : Inv g b) (hr : Rep w0 keep L W) {Q : Exit → Act → World → Prop} {K' : Act → World → Prop} (hK : ∀ g' a' L' b' W', (c g' a' L').all K → RelF a' b' → Inv g' b' → Rep w0 keep L' W' → K' b' W') : wpOp P ops Q i K' b W := by
  have plain : (evAt P S fn call ops i a L (c none)).all K → wpOp P ops Q i K' b W := fun h => evAt_sound hS hs h hf hr fun a' L' b' W' hk hf' hr' => hK none a' L' b' W' hk hf' (Inv.none _) hr'
  unfold evAtG at h
  split at h
  · exact plain h
  · rename_i o ho
    rw [nth_eq, Array.getElem?_toList] at ho
    have group : (heldG P ops L g a o fun g' a' => c g' a' L).all K → wpOp P ops Q i K' b W := fun h => by
      obtain ⟨g', a', v, h1, h2, h3, h4⟩ := heldG_sound (fun p hp => (hr.blk p hp).1) hf hi h
      exact h1.wpOp ho (fun p hp => (hr.blk p hp).1) (hK _ _ _ _ _ h4 h2 h3 hr)
    split at h
    · split at h
      · split at h
        · exact (litT_spec h).elim plain group
        · exact group h
      · exact plain h
    · split at h
      · exact group h
      · exact plain h
    · exact plain h

theorem evOps_sound (hS : S.holds P) {fn : FuncId} {call : CallE α} (hs : SoundC P w0 keep K call) {ops : Array Oper} {Q : Exit → Act → World → Prop} {c : F → List Blk → T α} : ∀ (l : List Nat) {g : Option G} {a : F} {L : List Blk}, (evOps P S fn call ops c l g a L).all K →
    ∀ {b : Act} {W : World}, RelF a b → Inv g b → Rep w0 keep L W → (∀ a' L' b' W', (c a' L').all K → RelF a' b' → Rep w0 keep L' W' → Q .normal b' W') → wpOps P ops Q l b W
  | [], g, a, L, h, b, W, hf, _, hr, hQ => hQ _ _ _ _ h hf hr
  | i :: rest, g, a, L, h, b, W, hf, hi, hr, hQ => by
    rw [wpOps_cons]
    exact evAtG_sound hS hs (c := evOps P S fn call ops c rest) h hf hi hr (fun g' a' L' b' W' hk hf' hi' hr' => evOps_sound hS hs rest hk hf' hi' hr' hQ)

theorem backAll_sound : ∀ (L0 : List Blk) {L : List Blk} {k : List Blk → T α}, (backAll L0 L k).all K → ∃ l, (∀ b ∈ l, b ∈ L) ∧ (k l).all K
  | [], L, k, h => ⟨[], fun _ h => (by cases h), h⟩
  | p :: ps, L, k, h => by
    simp only [backAll] at h
    obtain ⟨b, j, hj, -, h⟩ := pickT_spec h
    obtain ⟨l, h1, h2⟩ := backAll_sound ps h
    refine ⟨b :: l, fun x hx => ?_, h2⟩
    rcases List.mem_cons.1 hx with rfl | hx
    · exact List.mem_of_getElem? hj
    · exact h1 x hx

theorem backTT_sound {L0 L1 : List Blk} {k : T α} (h : (backTT L0 L1 k).all K) : (∀ b ∈ L0, b ∈ L1) ∧ k.all K := by
  obtain ⟨d, d1, h1, h⟩ := h
  obtain ⟨l, h2, h3, h⟩ := backAll_sound _ h
  refine ⟨fun b hb => ?_, h⟩
  rw [← List.take_append_drop d L0] at hb
  rcases List.mem_append.1 hb with hb | hb
  · rw [tok_blks h3] at hb
    exact h2 b hb
  · rw [tok_blks h1] at hb
    exact List.mem_of_mem_drop hb

theorem heldT_sound {ops : Array Oper} {m : Nat} {g : Option G} {a : F} {L0 : List Blk} {b : Act} {W0 : World} (h0 : There L0 W0) (hrel : RelF a b) (hi : Inv g b) {i : Nat} {k : Option G → F → T α} (h : (heldT P ops m g a L0 i k).all K) :
    ∃ g' a' o v, ops[i]? = some o ∧ i ∈ readyM ops m ∧ Region.free .any ops (listedOf ops.size m) i = true ∧ YieldsIf P ops (There L0) o v b ∧ RelF a' (b.put o.dst v) ∧ Inv g' (b.put o.dst v) ∧ (k g' a').all K := by
  unfold heldT at h
  split at h
  · exact h.elim
  rename_i hrd
  have hrd := isReady_spec hrd
  split at h
  · exact h.elim
  rename_i hf
  split at h
  · exact h.elim
  rename_i o ho
  have hf := freeM_spec ho hf
  have group : (heldG P ops L0 g a o k).all K → ∃ g' a' o v, ops[i]? = some o ∧ i ∈ readyM ops m ∧ Region.free .any ops (listedOf ops.size m) i = true ∧ YieldsIf P ops (There L0) o v b ∧ RelF a' (b.put o.dst v) ∧ Inv g' (b.put o.dst v) ∧ (k g' a').all K := fun h => by
    obtain ⟨g', a', v, h1, h2, h3, h4⟩ := heldG_sound h0 hrel hi h
    exact ⟨g', a', o, v, ho, hrd, hf, h1, h2, h3, h4⟩
  have fork : (guardT a ops o (fun a => heldV P a L0 o fun v => k none (a.put o.dst v)) (fun a => k none (a.put o.dst undef))).all K → ∃ g' a' o v, ops[i]? = some o ∧ i ∈ readyM ops m ∧ Region.free .any ops (listedOf ops.size m) i = true ∧ YieldsIf P ops (There L0) o v b ∧ RelF a' (b.put o.dst v) ∧ Inv g' (b.put o.dst v) ∧ (k g' a').all K := fun h => by
    obtain ⟨a', hrel', h⟩ := guardT_spec hrel h
    rcases h with ⟨hw, h⟩ | ⟨hw, h⟩
    · obtain ⟨v, h1, h2⟩ := heldV_sound h0 h
      rw [hrel'.eval] at h1
      exact ⟨_, _, o, v, ho, hrd, hf, .inl ⟨hw, fun W hS => h1 W hS⟩, hrel'.put _ _, Inv.none _, h2⟩
    · exact ⟨_, _, o, undef, ho, hrd, hf, .inr ⟨hw, rfl⟩, hrel'.put _ _, Inv.none _, h⟩
  split at h
  · split at h
    · split at h
      · exact (litT_spec h).elim fork group
      · exact group h
    · exact fork h
  · exact group h

theorem firstSimple_spec {P : Program} {ops : Array Oper} {m : Nat} {a : F} {b : Act} (hf : RelF a b) : ∀ (rs : List Nat) {i : Nat} {o : Oper} {s : Shape}, firstSimple P ops m a rs = some (i, o, s) →
    i ∈ readyM ops m ∧ ops[i]? = some o ∧ plainOp o = true ∧ FreeAt ops (listedOf ops.size m) i o ∧ ((Region.wanted o (yielded ops b.tmps) = false ∧ s = .act [] undef) ∨ (Region.wanted o (yielded ops b.tmps) = true ∧ shapeOf P (stoOp o) (execOp b.eval o) = some s))
  | [], _, _, _, h => by cases h
  | i :: rest, i', o', s', h => by
    have more : firstSimple P ops m a rest = some (i', o', s') → i' ∈ readyM ops m ∧ ops[i']? = some o' ∧ plainOp o' = true ∧ FreeAt ops (listedOf ops.size m) i' o' ∧ ((Region.wanted o' (yielded ops b.tmps) = false ∧ s' = .act [] undef) ∨ (Region.wanted o' (yielded ops b.tmps) = true ∧ shapeOf P (stoOp o') (execOp b.eval o') = some s')) := fun h => by
      exact firstSimple_spec hf rest h
    unfold firstSimple at h
    split at h
    · cases h
    · rename_i o ho
      split at h
      · exact more h
      · rename_i hfr
        simp only [Bool.and_eq_true] at hfr
        obtain ⟨hrd, hpl, hfr⟩ := hfr
        have hfr := freeM_spec ho hfr
        have hrd := isReady_spec hrd
        split at h
        · rename_i hw
          injection h with h
          simp only [Prod.mk.injEq] at h
          obtain ⟨rfl, rfl, rfl⟩ := h
          exact ⟨hrd, ho, hpl, Region.free_spec ho hfr, .inl ⟨by rw [← hf.yielded]; exact hw, rfl⟩⟩
        · rename_i hw
          split at h
          · rename_i s hs
            injection h with h
            simp only [Prod.mk.injEq] at h
            obtain ⟨rfl, rfl, rfl⟩ := h
            exact ⟨hrd, ho, hpl, Region.free_spec ho hfr, .inr ⟨by rw [← hf.yielded]; exact hw, by rw [← hf.eval]; exact hs⟩⟩
          · exact more h

def blkOf (p : Nat × Obj) : Blk := ⟨p.1, .obj p.2, true⟩

def look : List (Nat × Obj) → News
  | [], _ => none
  | (n, o) :: M, k => if k = n then some o else look M k

theorem look_none {M : List (Nat × Obj)} {k : Nat} : look M k = none ↔ k ∉ M.map (·.1) := by
  induction M with
  | nil => simp [look]
  | cons p M ih =>
    simp only [look, List.map_cons, List.mem_cons, not_or]
    split
    · rename_i h; simp [h]
    · rename_i h; rw [ih]; exact ⟨fun h1 => ⟨h, h1⟩, fun h1 => h1.2⟩

theorem look_at : ∀ {M : List (Nat × Obj)} {j n : Nat} {o : Obj}, (M.map (·.1)).Nodup → M[j]? = some (n, o) → look M n = some o
  | [], j, n, o, _, h => by cases h
  | p :: M, 0, n, o, _, h => by
    simp only [List.getElem?_cons_zero, Option.some.injEq] at h
    subst h
    simp [look]
  | p :: M, j + 1, n, o, hd, h => by
    rw [List.map_cons, List.nodup_cons] at hd
    have h' : M[j]? = some (n, o) := by simpa using h
    have hm : n ∈ M.map (·.1) := List.mem_map.2 ⟨(n, o), List.mem_of_getElem? h', rfl⟩
    have hne : n ≠ p.1 := fun he => hd.1 (he ▸ hm)
    simp only [look, if_neg hne]
    exact look_at hd.2 h'

theorem look_set : ∀ {M : List (Nat × Obj)} {j n : Nat} {o o' : Obj}, (M.map (·.1)).Nodup → M[j]? = some (n, o) → look (M.set j (n, o')) = putN (look M) n o'
  | [], j, n, o, o', _, h => by cases h
  | p :: M, 0, n, o, o', _, h => by
    simp only [List.getElem?_cons_zero, Option.some.injEq] at h
    subst h
    funext k
    simp only [List.set_cons_zero, look, putN]
    split <;> rfl
  | p :: M, j + 1, n, o, o', hd, h => by
    rw [List.map_cons, List.nodup_cons] at hd
    have h' : M[j]? = some (n, o) := by simpa using h
    have hm : n ∈ M.map (·.1) := List.mem_map.2 ⟨(n, o), List.mem_of_getElem? h', rfl⟩
    have hne : n ≠ p.1 := fun he => hd.1 (he ▸ hm)
    funext k
    simp only [List.set_cons_succ, look, putN]
    rw [look_set hd.2 h']
    simp only [putN]
    by_cases h1 : k = p.1
    · simp [h1, Ne.symm hne]
    · by_cases h2 : k = n <;> simp [h1, h2, hne]

theorem map_set_fst : ∀ {M : List (Nat × Obj)} {j n : Nat} {o o' : Obj}, M[j]? = some (n, o) → (M.set j (n, o')).map (·.1) = M.map (·.1)
  | [], j, n, o, o', h => by cases h
  | p :: M, 0, n, o, o', h => by
    simp only [List.getElem?_cons_zero, Option.some.injEq] at h
    subst h
    rfl
  | p :: M, j + 1, n, o, o', h => by
    simp only [List.set_cons_succ, List.map_cons]
    rw [map_set_fst (by simpa using h)]

theorem layN_sound {L0 : List Blk} : ∀ (l : List (Addr × Value)) {M : List (Nat × Obj)} {L : List Blk} {k : List Blk → T α}, (layN M.length l L k).all K → L = M.map blkOf ++ L0 → (M.map (·.1)).Nodup →
    ∃ M' L', stos (look M) l = some (look M') ∧ L' = M'.map blkOf ++ L0 ∧ M'.length = M.length ∧ (M'.map (·.1)).Nodup ∧ (k L').all K
  | [], M, L, k, h, hL, hd => ⟨M, L, rfl, hL, rfl, hd, h⟩
  | p :: r, M, L, k, h, hL, hd => by
    simp only [layN] at h
    obtain ⟨b, j, hj, hb, h⟩ := pickT_spec h
    split at h
    · rename_i n c t lo hi ow
      split at h
      · rename_i hlt hs ho
        split at h
        · rename_i u hu hf
          have h := forceT_spec h
          have hb : p.1.block = n := hb
          have hjm : j < M.length := by simpa using hlt
          rw [hL, List.getElem?_append_left (by simpa using hjm), List.getElem?_map] at hj
          obtain ⟨q, hq, hqe⟩ := Option.map_eq_some_iff.1 hj
          obtain ⟨qn, qo⟩ := q
          simp only [blkOf, Blk.mk.injEq, Cont.obj.injEq] at hqe
          obtain ⟨rfl, rfl, -⟩ := hqe
          have hlook := look_at hd hq
          have h1 := sto1_of (N := look M) (p := p) (by rw [hb]; exact hlook) hs ho hu hf
          rw [hb, ← look_set hd hq] at h1
          have hset : (M.set j (qn, .cells (c.setIfInBounds p.1.off p.2) t (lo, hi))).length = M.length := by simp
          rw [← hset] at h
          obtain ⟨M', L', g1, g2, g3, g4, g5⟩ := layN_sound r (M := M.set j (qn, .cells (c.setIfInBounds p.1.off p.2) t (lo, hi))) h (by
            rw [hL, List.set_append_left _ _ (by simpa using hjm), List.map_set]
            rfl) (by rw [map_set_fst hq]; exact hd)
          refine ⟨M', L', ?_, g2, by rw [g3, hset], g4, g5⟩
          simp only [stos, h1]
          exact g1
        · exact h.elim
      · exact h.elim
    · exact h.elim

theorem evRest_can {ops : Array Oper} {fin : RestE α} {Fin : Nat → Array Bool → Act → News → Prop} {L0 : List Blk} (hFin : ∀ k l a L b M, (fin k l a L).all K → RelF a b → L = M.map blkOf ++ L0 → (M.map (·.1)).Nodup → Fin k (listedOf ops.size l) b (look M)) : ∀ (n : Nat) {td : List Nat} {m : Nat} {a : F} {L : List Blk} {b : Act} {M : List (Nat × Obj)}, (evRest P ops fin n td M.length m a L).all K →
    RelF a b → L = M.map blkOf ++ L0 → (M.map (·.1)).Nodup → CanK P ops Fin n (listedOf ops.size m) b (look M)
  | 0, td, m, a, L, b, M, h, hf, hL, hd => by
    simp only [evRest] at h
    split at h
    · rename_i hrd
      exact ⟨allPlain_spec hrd, hFin _ _ _ _ _ _ h hf hL hd⟩
    · exact h.elim
  | n + 1, td, m, a, L, b, M, h, hf, hL, hd => by
    simp only [evRest] at h
    split at h
    · rename_i hrd
      exact .inl ⟨allPlain_spec hrd, hFin _ _ _ _ _ _ h hf hL hd⟩
    · split at h
      · rename_i i o l v hs
        obtain ⟨h1, h2, hp, h3, h4⟩ := firstSimple_spec hf _ hs
        obtain ⟨M', L', g1, g2, g3, g4, g5⟩ := layN_sound l h hL hd
        rw [← g3] at g5
        refine .inr ⟨i, o, .act l v, h2, hp, by rw [readyM_eq]; exact h1, h3, ?_, look M', g1, by rw [listedOf_set]; exact evRest_can hFin n g5 (hf.put _ _) g2 g4⟩
        rcases h4 with ⟨hw, he⟩ | ⟨hw, he⟩
        · injection he with he1 he2; exact .inr ⟨hw, he1, he2⟩
        · obtain ⟨q1, nx, q2, q3⟩ := shapeOf_act he
          exact .inl ⟨hw, q1, nx, q2, q3⟩
      · rename_i i o c k hs
        obtain ⟨h1, h2, hp, h3, h4⟩ := firstSimple_spec hf _ hs
        rcases h4 with ⟨hw, he⟩ | ⟨hw, he⟩
        · cases he
        have hv : ∀ b, ∃ v, pureOf P (k b) = some v ∧ (evRest P ops fin n (dropOne i td) (M.length + 1) (m ||| 1 <<< i) (a.put o.dst v) (⟨b, .obj c, true⟩ :: L)).all K := fun b => by
          have hm := h ⟨b, 0, false, undef, []⟩
          dsimp only at hm
          split at hm
          · rename_i v hp
            exact ⟨v, hp, hm⟩
          · exact hm.elim
        refine .inr ⟨i, o, .new c (fun m => (pureOf P (k m)).getD undef), h2, hp, by rw [readyM_eq]; exact h1, h3, ⟨hw, k, shapeOf_new he, fun b => ?_⟩, fun b hm => ?_⟩
        · obtain ⟨v, hp, -⟩ := hv b
          simp only [hp, Option.getD_some]
        · obtain ⟨v, hp, hmm⟩ := hv b
          simp only [hp, Option.getD_some]
          rw [listedOf_set]
          have := evRest_can hFin n (M := (b, c) :: M) hmm (hf.put _ _) (by rw [hL]; rfl) (by rw [List.map_cons, List.nodup_cons]; exact ⟨look_none.1 hm, hd⟩)
          exact this
      · exact h.elim

theorem Rep.grown {w1 W : World} {L L' : List Blk} {M : List (Nat × Obj)} (hr : Rep w0 keep L w1) (hg : Grown w1 (look M) W) (hd : (M.map (·.1)).Nodup) (hL : L' = M.map blkOf ++ L) : Rep w0 keep L' W := by
  have hlt : ∀ p ∈ L, p.nm < w1.heap.size := fun p hp => by
    obtain ⟨o, ho⟩ := Cont.some_of (hr.blk p hp).1
    exact (Array.getElem?_eq_some_iff.1 ho).1
  have hblk : ∀ q ∈ M, w1.heap.size ≤ q.1 ∧ W.heap[q.1]? = some q.2 := fun q hq => by
    obtain ⟨j, hj⟩ := List.mem_iff_getElem?.1 hq
    exact hg.blk _ _ (look_at hd hj)
  refine ⟨hg.os.trans hr.os, hg.tape.trans hr.tape, hg.output.trans hr.output, Nat.le_trans hr.size hg.size, fun k hk hkeep => (hg.old k (Nat.lt_of_lt_of_le hk hr.size)).trans (hr.old k hk hkeep), fun p hp => ?_, ?_⟩
  · rw [hL] at hp
    rcases List.mem_append.1 hp with hp | hp
    · obtain ⟨q, hq, rfl⟩ := List.mem_map.1 hp
      obtain ⟨h1, h2⟩ := hblk q hq
      refine ⟨h2, fun _ h3 => ?_⟩
      have := hr.size
      simp only [blkOf] at h3
      omega
    · refine ⟨?_, (hr.blk p hp).2⟩
      rw [hg.old _ (hlt p hp)]
      exact (hr.blk p hp).1
  · rw [hL, List.pairwise_append]
    refine ⟨?_, hr.far, fun p hp q hq => ?_⟩
    · rw [List.pairwise_map]
      have := hd
      rw [List.Nodup, List.pairwise_map] at this
      refine this.imp fun {x y} hne => ?_
      exact fun _ => hne
    · obtain ⟨p', hp', rfl⟩ := List.mem_map.1 hp
      have h1 := (hblk p' hp').1
      have h2 := hlt q hq
      exact fun _ => by simp only [blkOf]; omega

theorem waitM_spec {ops : Array Oper} {f i : Nat} (hi : i < ops.size) (h : (waitM ops f).testBit i = true) : ∃ of, ops[f]? = some of ∧ ∃ e ∈ of.after, Region.binds .any e = true ∧ e.on = i := by
  unfold waitM at h
  split at h
  · rename_i of ho
    simp only [orAll_testBit] at h
    obtain ⟨e, he, hk⟩ := h
    split at hk
    · rename_i hb
      injection hk with hk
      exact ⟨of, ho, e, by simpa using he, hb, hk⟩
    · cases hk
  · rw [testBit_one_shift, decide_eq_true_eq] at h
    omega

theorem waitM_of {ops : Array Oper} {f : Nat} {of : Oper} (ho : ops[f]? = some of) {e : Edge} (he : e ∈ of.after) (hb : Region.binds .any e = true) : (waitM ops f).testBit e.on = true := by
  unfold waitM
  rw [ho]
  simp only [orAll_testBit]
  exact ⟨e, by simpa using he, by rw [hb]⟩

theorem orWaits_spec {ops : Array Oper} {acc i : Nat} : ∀ {l : List Nat}, (orWaits ops acc l).testBit i = true → acc.testBit i = true ∨ ∃ j, acc.testBit j = true ∧ (waitM ops j).testBit i = true
  | [], h => .inl h
  | j :: r, h => by
    unfold orWaits at h
    rw [tb_eq] at h
    split at h
    · rename_i hj
      change ((waitM ops j) ||| (orWaits ops acc r)).testBit i = true at h
      rw [Nat.testBit_or, Bool.or_eq_true] at h
      rcases h with h | h
      · exact .inr ⟨j, hj, h⟩
      · exact orWaits_spec h
    · exact orWaits_spec h

theorem closM_spec {ops : Array Oper} {f : Nat} : ∀ (n : Nat) {acc : Nat}, (∀ i, i < ops.size → acc.testBit i = true → Waits ops i f) → ∀ i, i < ops.size → (closM ops n acc).testBit i = true → Waits ops i f
  | 0, _, h => h
  | n + 1, acc, h => by
    unfold closM
    split
    · exact h
    · refine closM_spec n fun i hlt hi => ?_
      rcases orWaits_spec hi with hi | ⟨j, hj, hi⟩
      · exact h i hlt hi
      · obtain ⟨oj, ho, e, he, hb, hon⟩ := waitM_spec hlt hi
        exact Waits.trans (.direct ho he hb hon) (h j (Array.getElem?_eq_some_iff.1 ho).1 hj)

theorem finM_spec {ops : Array Oper} {i : Nat} (hlt : i < ops.size) : ∀ {fs : List Nat}, (finM ops fs).testBit i = true → ∀ f ∈ fs, Waits ops i f
  | [], _ => fun _ h => by cases h
  | g :: r, h => by
    change ((closW ops g) &&& (finM ops r)).testBit i = true at h
    rw [Nat.testBit_and, Bool.and_eq_true] at h
    intro f hf
    rcases List.mem_cons.1 hf with rfl | hf
    · refine closM_spec _ (fun i hlt hi => ?_) i hlt h.1
      obtain ⟨oj, ho, e, he, hb, hon⟩ := waitM_spec hlt hi
      exact .direct ho he hb hon
    · exact finM_spec hlt h.2 f hf

theorem closed_zero (ops : Array Oper) : ClosedL ops (listedOf ops.size 0) := fun j oj hj hl => by
  rw [listedOf_getD] at hl
  split at hl <;> simp at hl

theorem closedM_spec {ops : Array Oper} {m : Nat} (h : closedM ops m = true) : ClosedL ops (listedOf ops.size m) := fun j oj hj hl e he hb => by
  rw [listedOf_getD] at hl ⊢
  split at hl
  · rename_i hlt
    simp only [closedM, List.all_eq_true, List.mem_range, tb_eq] at h
    have h1 := h j hlt
    rw [hl] at h1
    simp only [Bool.not_true, Bool.false_or, Bool.and_eq_true] at h1
    have hw := waitM_of hj he hb
    have h2 := subM_spec.1 h1.2 _ hw
    have h3 : waitM ops j < 1 <<< ops.size := by
      have := h1.1
      rwa [Nat.blt_eq] at this
    rw [if_pos]
    · exact h2
    · refine Nat.lt_of_not_le fun hle => ?_
      rw [Nat.testBit_lt_two_pow (Nat.lt_of_lt_of_le h3 (by rw [Nat.one_shiftLeft]; exact Nat.pow_le_pow_right (by omega) hle))] at hw
      cases hw
  · cases hl

/-- The rest of a region, rightly. -/
def RestS (P : Program) (w0 : World) (keep : Nat → Prop) (K : α → Prop) (ops : Array Oper) (fs : List Nat) (L0 : List Blk) (c : F → List Blk → T α) (rest : RestE α) : Prop :=
  ∀ (n m : Nat) (a : F) (L : List Blk) (Q : Exit → Act → World → Prop), (∀ c a w, ¬ Q (.panic c) a w) → (rest n m a L).all K → ClosedL ops (listedOf ops.size m) → ∀ (b : Act) (W : World), RelF a b → Rep w0 keep L W → There L0 W →
    (∀ a' L' b' W', (c a' L').all K → RelF a' b' → Rep w0 keep L' W' → Q .normal b' W') → wpAnyX P ops Q (There L0) (fun j => j ∈ fs) n (listedOf ops.size m) b W

theorem evRest_sound {ops : Array Oper} {fs : List Nat} (hns : Region.noSelect ops = true) {L0 : List Blk} {c : F → List Blk → T α} {fin : RestE α} (hf0 : RestS P w0 keep K ops fs L0 c fin) (m : Nat) (hord : ordered ops (listedOf ops.size m) = true) (hch : chained ops (listedOf ops.size m) = true) (n : Nat) (td : List Nat) (a : F) (L : List Blk) (Q : Exit → Act → World → Prop) (hQ0 : ∀ c a w, ¬ Q (.panic c) a w) (h : (evRest P ops (fun n m a L => match closedM ops m with
    | true => fin n m a L
    | false => .fail) n td 0 m a L).all K) (b : Act) (W : World) (hf : RelF a b) (hr : Rep w0 keep L W) (hS : There L0 W)
    (hQ : ∀ a' L' b' W', (c a' L').all K → RelF a' b' → Rep w0 keep L' W' → Q .normal b' W') : wpAnyX P ops Q (There L0) (fun j => j ∈ fs) n (listedOf ops.size m) b W := by
  have hthere : ∀ N W', Grown W N W' → There L0 W' := fun N W' hg p hp => by
    have h1 := hS p hp
    obtain ⟨o, ho⟩ := Cont.some_of h1
    rw [hg.old _ (Array.getElem?_eq_some_iff.1 ho).1]
    exact h1
  refine canK_any hns (w1 := W) (N := look []) hthere n (ordered_spec hord) (chained_spec hch) (evRest_can (L0 := L) (M := []) (fun k l a' L' b' M hk hf' hL hd W' hg => ?_) n h hf rfl List.nodup_nil) ⟨rfl, rfl, rfl, Nat.le_refl _, fun _ _ => rfl, fun _ _ hp => (by cases hp)⟩
  split at hk
  · rename_i hcm
    exact hf0 k l a' L' Q hQ0 hk (closedM_spec hcm) b' W' hf' (hr.grown hg hd hL) (hthere _ W' hg) hQ
  · exact hk.elim

theorem evFin_sound (hSS : S.holds P) {fn : FuncId} {call : CallE α} (hs : SoundC P w0 keep K call) {ops : Array Oper} {fs : List Nat} {L0 : List Blk} {c : F → List Blk → T α} :
    ∀ (n : Nat) (m : Nat) (a : F) (L : List Blk) (Q : Exit → Act → World → Prop), (evFin P S fn call ops fs c n m a L).all K →
    ∀ (b : Act) (W : World), RelF a b → Rep w0 keep L W → (∀ a' L' b' W', (c a' L').all K → RelF a' b' → Rep w0 keep L' W' → Q .normal b' W') → wpAnyX P ops Q (There L0) (fun j => j ∈ fs) n (listedOf ops.size m) b W
  | 0, m, a, L, Q, h, b, W, hf, hr, hQ => by
    simp only [evFin] at h
    split at h
    · rename_i hrd
      exact wpAnyX_done (by rw [readyM_eq]; exact hrd) (hQ _ _ _ _ h hf hr) 0
    · exact h.elim
  | n + 1, m, a, L, Q, h, b, W, hf, hr, hQ => by
    simp only [evFin] at h
    split at h
    · rename_i hrd
      exact wpAnyX_done (by rw [readyM_eq]; exact hrd) (hQ _ _ _ _ h hf hr) (n + 1)
    · rename_i i r hrd
      refine wpAnyX_all (rs := i :: r) (by rw [readyM_eq]; exact hrd) (by simp) fun k hk => ?_
      have h := outsT_all h k hk
      split at h
      · rename_i hkf
        refine evAt_sound hSS hs h hf hr (fun a' L' b' W' hk hf' hr' => ?_)
        exact ⟨.inl (by simpa using hkf), by rw [listedOf_set]; exact evFin_sound hSS hs n _ _ _ Q hk _ _ hf' hr' hQ⟩
      · exact h.elim

/-! ### An alloc that floats -/

theorem rep_hide {L : List Blk} {W : World} {H : Nat → Prop} (hr : Rep w0 keep L W) (hown : ∀ p ∈ L, p.own = true → ¬ H p.nm) : Rep W (fun k => (k < w0.heap.size ∧ keep k) ∨ H k) L W :=
  ⟨rfl, rfl, rfl, Nat.le_refl _, fun _ _ _ => rfl, fun p hp => ⟨(hr.blk p hp).1, fun ho _ hk => hk.elim (fun h => (hr.blk p hp).2 ho h.1 h.2) (hown p hp ho)⟩, hr.far⟩

theorem rep_show {L L' : List Blk} {W W' : World} {H : Nat → Prop} (hr : Rep w0 keep L W) (hH : ∀ k, H k → k < W.heap.size) (h : Rep W (fun k => (k < w0.heap.size ∧ keep k) ∨ H k) L' W') :
    Rep w0 keep L' W' ∧ (∀ k, H k → W'.heap[k]? = W.heap[k]?) ∧ (∀ p ∈ L', p.own = true → ¬ H p.nm) ∧ W.heap.size ≤ W'.heap.size := by
  refine ⟨⟨h.os.trans hr.os, h.tape.trans hr.tape, h.output.trans hr.output, Nat.le_trans hr.size h.size, fun k hk hkp => (h.old k (Nat.lt_of_lt_of_le hk hr.size) (.inl ⟨hk, hkp⟩)).trans (hr.old k hk hkp), fun p hp => ⟨(h.blk p hp).1, fun ho hlt hkp => (h.blk p hp).2 ho (Nat.lt_of_lt_of_le hlt hr.size) (.inl ⟨hlt, hkp⟩)⟩, h.far⟩, fun k hk => h.old k (hH k hk) (.inr hk), fun p hp ho hk => (h.blk p hp).2 ho (hH _ hk) (.inr hk), h.size⟩

theorem RelF.over {f : F} {a : Act} {d : Nat} {v u : Value} (h : RelF (f.put (some d) v) a) : RelF (f.put (some d) u) (a.put (some d) u) := by
  have h2 := h.put (some d) u
  obtain ⟨n, w⟩ := f
  have e : ∀ w : List (Nat × Value), F.put ⟨n, w⟩ (some d) u = match Nat.blt d n with
      | true => ⟨n, (d, u) :: w⟩
      | false => ⟨n, w⟩ := fun _ => rfl
  have e2 : F.put ⟨n, w⟩ (some d) v = match Nat.blt d n with
      | true => ⟨n, (d, v) :: w⟩
      | false => ⟨n, w⟩ := rfl
  rw [e2] at h2
  rw [e w]
  split at h2
  · rename_i hb
    have e3 : F.put ⟨n, (d, v) :: w⟩ (some d) u = ⟨n, (d, u) :: (d, v) :: w⟩ := by rw [e, hb]
    rw [e3] at h2
    refine ⟨h2.defers, h2.size, fun t => ?_⟩
    rw [h2.get t]
    show getW ((d, u) :: (d, v) :: w) t = getW ((d, u) :: w) t
    rw [getW_cons, getW_cons, getW_cons]
    split <;> rfl
  · rename_i hb
    have e3 : F.put ⟨n, w⟩ (some d) u = ⟨n, w⟩ := by rw [e, hb]
    rw [e3] at h2
    exact h2

theorem oldT_spec {Ls : List Blk} {k : T α} : ∀ {L : List Blk}, (oldT Ls L k).all K → (∀ p ∈ L, p.own = false → ∃ q ∈ Ls, q.nm = p.nm) ∧ k.all K
  | [], h => ⟨fun _ h => (by cases h), h⟩
  | p :: r, h => by
    unfold oldT at h
    split at h
    · rename_i ho
      obtain ⟨h1, h2⟩ := oldT_spec h
      refine ⟨fun q hq hno => ?_, h2⟩
      rcases List.mem_cons.1 hq with rfl | hq
      · rw [ho] at hno; cases hno
      · exact h1 q hq hno
    · obtain ⟨b, j, hj, hb, h⟩ := pickT_spec h
      obtain ⟨h1, h2⟩ := oldT_spec h
      refine ⟨fun q hq hno => ?_, h2⟩
      rcases List.mem_cons.1 hq with rfl | hq
      · exact ⟨b, List.mem_of_getElem? hj, hb.symm⟩
      · exact h1 q hq hno

theorem oldTT_spec {Ls L : List Blk} {k : T α} (h : (oldTT Ls L k).all K) : (∀ p ∈ L, p.own = false → ∃ q ∈ Ls, q.nm = p.nm) ∧ k.all K := by
  rcases two_spec h with h | h
  · exact oldT_spec h
  · obtain ⟨d, d1, h1, h⟩ := h
    obtain ⟨h2, h⟩ := oldT_spec h
    refine ⟨fun p hp hno => ?_, h⟩
    rw [← List.take_append_drop d L] at hp
    rcases List.mem_append.1 hp with hp | hp
    · exact h2 p hp hno
    · rw [tok_blks h1] at hp
      exact ⟨p, List.mem_of_mem_drop hp, rfl⟩

theorem eqN_spec : ∀ {l r : List Nat}, eqN l r = true → l = r
  | [], [], _ => rfl
  | [], _ :: _, h => by cases h
  | _ :: _, [], h => by cases h
  | a :: l, b :: r, h => by
    unfold eqN at h
    split at h
    · rename_i hb
      rw [Nat.eq_of_beq_eq_true hb, eqN_spec h]
    · cases h

theorem mem_dropOne {i k : Nat} (hne : k ≠ i) : ∀ {l : List Nat}, k ∈ l → k ∈ dropOne i l
  | [], h => by cases h
  | j :: r, h => by
    unfold dropOne
    split
    · rename_i hb
      have hb := Nat.eq_of_beq_eq_true hb
      rcases List.mem_cons.1 h with rfl | h
      · exact absurd hb.symm hne
      · exact h
    · rcases List.mem_cons.1 h with rfl | h
      · exact List.mem_cons_self
      · exact List.mem_cons_of_mem _ (mem_dropOne hne h)

theorem dropOne_sub {i k : Nat} : ∀ {l : List Nat}, k ∈ dropOne i l → k ∈ l
  | [], h => by cases h
  | j :: r, h => by
    unfold dropOne at h
    split at h
    · exact List.mem_cons_of_mem _ h
    · rcases List.mem_cons.1 h with rfl | h
      · exact List.mem_cons_self
      · exact List.mem_cons_of_mem _ (dropOne_sub h)

/-- What an alloc does, spelt out. -/
def allocS (t : TypeId) : Sem Next := (((((Sem.program fun p => Sem.pure p).bind fun p => match p.info? t with
  | some i => (Sem.pure i : Sem TypeInfo)
  | none => stuck "no such type").bind fun i => match i.zero with
  | some v => (Sem.pure v : Sem Value)
  | none => unsupported (.resourceLimit "a value of more than 2^22 cells")).bind fun z => (((Sem.new (.cells z.cells t) fun r => Sem.pure r).bind fun r => Sem.pure (⟨r, 0, none⟩ : Addr)).bind fun ad => Sem.pure (Value.pointer (some ad)))).bind fun v => Sem.pure (Next.value v))

theorem alloc_wp {ops : Array Oper} {i d t : Nat} {z : Array Value} (h : allocOf P ops i = some (d, t, z)) {b : Act} {W : World} {Q : Exit → Act → World → Prop} {K' : Act → World → Prop}
    (hK : K' (b.put (some d) (.pointer (some ⟨W.heap.size, 0, none⟩))) { W with heap := W.heap.push (.cells z t (0, 0)) }) : wpOp P ops Q i K' b W := by
  unfold allocOf at h
  split at h
  · rename_i o ho
    split at h
    · rename_i d' t' hg hd hop
      split at h
      · rename_i inf hi
        split at h
        · rename_i zz hz
          injection h with h
          simp only [Prod.mk.injEq] at h
          obtain ⟨rfl, rfl, rfl⟩ := h
          have hw : Region.wanted o (yielded ops b.tmps) = true := by unfold Region.wanted; simp only [hg]
          have ex : execOp b.eval o = allocS t' := by
            unfold execOp
            rw [hop]
            rfl
          have hrun : (execOp b.eval o).run P W = .ok (.value (.pointer (some ⟨W.heap.size, 0, none⟩))) { W with heap := W.heap.push (.cells zz.cells t' (0, 0)) } := by
            rw [ex]
            show ((((match P.info? t' with
              | some i => (Sem.pure i : Sem TypeInfo)
              | none => stuck "no such type").bind fun i => match i.zero with
              | some v => (Sem.pure v : Sem Value)
              | none => unsupported (.resourceLimit "a value of more than 2^22 cells")).bind fun z => (((Sem.new (.cells z.cells t') fun r => Sem.pure r).bind fun r => Sem.pure (⟨r, 0, none⟩ : Addr)).bind fun ad => Sem.pure (Value.pointer (some ad)))).bind fun v => Sem.pure (Next.value v)).run P W = _
            rw [hi]
            show (((match inf.zero with
              | some v => (Sem.pure v : Sem Value)
              | none => unsupported (.resourceLimit "a value of more than 2^22 cells")).bind fun z => (((Sem.new (.cells z.cells t') fun r => Sem.pure r).bind fun r => Sem.pure (⟨r, 0, none⟩ : Addr)).bind fun ad => Sem.pure (Value.pointer (some ad)))).bind fun v => Sem.pure (Next.value v)).run P W = _
            rw [hz]
            rfl
          unfold wpOp
          simp only [ho, hw, if_true]
          left
          unfold Oper.wp
          rw [hrun]
          show K' (b.put o.dst _) _
          rw [hd]
          exact hK
        · cases h
      · cases h
    · cases h
  · cases h

/-- The alloc is not done yet (none), or it is, and nobody knows. -/
structure Fl (w0 : World) (keep : Nat → Prop) (x : Obj) (d : Nat) (Ls L0 : List Blk) (st : Option Nat) (a : F) (L : List Blk) (b : Act) (W : World) : Prop where
  rel : ∃ v, RelF (a.put (some d) v) b ∧ ∀ nb, st = some nb → v = .pointer (some ⟨nb, 0, none⟩)
  rep : Rep w0 keep L W
  there : There L0 W
  old : ∀ q ∈ Ls, q.nm < W.heap.size ∧ st ≠ some q.nm
  hid : ∀ nb, st = some nb → W.heap[nb]? = some x ∧ w0.heap.size ≤ nb
  own : ∀ p ∈ L, p.own = true → st ≠ some p.nm

section fl
variable {x : Obj} {d : Nat} {Ls L0 : List Blk} {a : F} {L : List Blk} {b : Act} {W : World}

theorem Fl.hide {st : Option Nat} (h : Fl w0 keep x d Ls L0 st a L b W) : Rep W (fun k => (k < w0.heap.size ∧ keep k) ∨ st = some k) L W := rep_hide (H := fun k => st = some k) h.rep h.own

theorem Fl.show {st : Option Nat} (h : Fl w0 keep x d Ls L0 st a L b W) {a' : F} {L' : List Blk} {b' : Act} {W' : World} (hr : Rep W (fun k => (k < w0.heap.size ∧ keep k) ∨ st = some k) L' W') {v : Value} (hf : RelF a' b') (hv : a'.get d = v) (hp : ∀ nb, st = some nb → v = .pointer (some ⟨nb, 0, none⟩)) (ht : There L0 W') : Fl w0 keep x d Ls L0 st a' L' b' W' := by
  have hH : ∀ k, st = some k → k < W.heap.size := fun k hk => (Array.getElem?_eq_some_iff.1 (h.hid k hk).1).1
  obtain ⟨g1, g2, g3, g4⟩ := rep_show (H := fun k => st = some k) h.rep hH hr
  exact ⟨⟨v, hf.same hv, hp⟩, g1, ht, fun q hq => ⟨Nat.lt_of_lt_of_le (h.old q hq).1 g4, (h.old q hq).2⟩, fun nb hnb => ⟨(g2 nb hnb).trans (h.hid nb hnb).1, (h.hid nb hnb).2⟩, g3⟩

/-- A step that leaves the world as it is. -/
theorem Fl.still {st : Option Nat} (h : Fl w0 keep x d Ls L0 st a L b W) {a' : F} {b' : Act} {v : Value} (hf : RelF a' b') (hv : a'.get d = v) (hp : ∀ nb, st = some nb → v = .pointer (some ⟨nb, 0, none⟩)) : Fl w0 keep x d Ls L0 st a' L b' W :=
  ⟨⟨v, hf.same hv, hp⟩, h.rep, h.there, h.old, h.hid, h.own⟩

/-- It is done now. -/
theorem Fl.done (h : Fl w0 keep x d Ls L0 none a L b W) : Fl w0 keep x d Ls L0 (some W.heap.size) a L (b.put (some d) (.pointer (some ⟨W.heap.size, 0, none⟩))) { W with heap := W.heap.push x } := by
  obtain ⟨v, hv, -⟩ := h.rel
  have hp := h.rep.push x
  have hp' : Rep w0 keep L { W with heap := W.heap.push x } := hp.sub (List.sublist_cons_self _ _)
  refine ⟨⟨_, hv.over, fun nb hnb => by injection hnb with hnb; rw [hnb]⟩, hp', fun p hpm => ?_, fun q hq => ?_, fun nb hnb => ?_, fun p hpm _ he => ?_⟩
  · have h1 := h.there p hpm
    obtain ⟨o, ho⟩ := Cont.some_of h1
    have hlt := (Array.getElem?_eq_some_iff.1 ho).1
    show p.ct.sat (W.heap.push x)[p.nm]?
    rw [Array.getElem?_push, if_neg (by omega)]
    exact h1
  · have := (h.old q hq).1
    refine ⟨?_, fun he => ?_⟩
    · show q.nm < (W.heap.push x).size
      rw [Array.size_push]
      omega
    · injection he with he
      omega
  · injection hnb with hnb
    subst hnb
    refine ⟨?_, h.rep.size⟩
    show (W.heap.push x)[W.heap.size]? = some x
    rw [Array.getElem?_push, if_pos rfl]
  · injection he with he
    have := h.rep.lt hpm
    omega

/-- It is told. -/
theorem Fl.told {nb : Nat} (h : Fl w0 keep x d Ls L0 (some nb) a L b W) (hold : ∀ p ∈ L, p.own = false → ∃ q ∈ Ls, q.nm = p.nm) : RelF (a.put (some d) (.pointer (some ⟨nb, 0, none⟩))) b ∧ Rep w0 keep (⟨nb, .obj x, true⟩ :: L) W := by
  obtain ⟨v, hv, hp⟩ := h.rel
  rw [hp nb rfl] at hv
  obtain ⟨h1, h2⟩ := h.hid nb rfl
  refine ⟨hv, h.rep.os, h.rep.tape, h.rep.output, h.rep.size, h.rep.old, fun p hpm => ?_, ?_⟩
  · rcases List.mem_cons.1 hpm with rfl | hpm
    · refine ⟨h1, fun _ hlt => ?_⟩
      simp only at hlt
      omega
    · exact h.rep.blk p hpm
  · rw [List.pairwise_cons]
    refine ⟨fun q hq _ he => ?_, h.rep.far⟩
    have he : nb = q.nm := he
    cases ho : q.own with
    | true => exact h.own q hq ho (by rw [he])
    | false =>
      obtain ⟨p, hp1, hp2⟩ := hold q hq ho
      exact (h.old p hp1).2 (by rw [hp2, he])
end fl

theorem or_swap (m i j : Nat) : m ||| 1 <<< i ||| 1 <<< j = m ||| 1 <<< j ||| 1 <<< i := by
  refine Nat.eq_of_testBit_eq fun k => ?_
  simp only [Nat.testBit_or]
  cases m.testBit k <;> cases (1 <<< i).testBit k <;> cases (1 <<< j).testBit k <;> rfl

theorem evFl_sound (hSS : S.holds P) {fn : FuncId} {call : CallE α} (hs : ∀ w0 keep, SoundC P w0 keep K call) {ops : Array Oper} (hns : Region.noSelect ops = true) {fs : List Nat} {fw : Nat} (hfw : ∀ j, j < ops.size → fw.testBit j = true → ∀ f ∈ fs, Waits ops j f) {L0 : List Blk} {bk : List Blk → List Blk} (hbk : ∀ L p, p ∈ bk L → p ∈ L)
    {c : F → List Blk → T α} {i d t : Nat} {z : Array Value} (hal : allocOf P ops i = some (d, t, z)) {Ls : List Blk} {fin : RestE α} (hfin : RestS P w0 keep K ops fs L0 c fin) :
    ∀ (n : Nat) (m : Nat) (a : F) (L : List Blk) (Q : Exit → Act → World → Prop), (∀ c a w, ¬ Q (.panic c) a w) → (evFl P S fn call ops fw L0 bk i d (.cells z t (0, 0)) Ls fin n m a L).all K → ClosedL ops (listedOf ops.size m) → i ∈ readyM ops m →
    (∀ a' L' b' W', (c a' L').all K → RelF a' b' → Rep w0 keep L' W' → Q .normal b' W') →
      (∀ nb b W, Fl w0 keep (.cells z t (0, 0)) d Ls L0 (some nb) a L b W → wpAnyX P ops Q (There L0) (fun j => j ∈ fs) (n - 1) (listedOf ops.size (m ||| 1 <<< i)) b W) ∧
      (∀ b W, Fl w0 keep (.cells z t (0, 0)) d Ls L0 none a L b W → wpAnyX P ops Q (There L0) (fun j => j ∈ fs) n (listedOf ops.size m) b W)
  | 0, m, a, L, Q, hQ0, h, _, _, _ => h.elim
  | n + 1, m, a, L, Q, hQ0, h, hcl, hir, hQ => by
    simp only [evFl, tb_eq] at h
    obtain ⟨j, h⟩ := h
    dsimp only at h
    have hil : ClosedL ops (listedOf ops.size (m ||| 1 <<< i)) := by rw [← listedOf_set]; exact hcl.set (by rw [readyM_eq]; exact hir)
    have next : ∀ {k : Nat}, k ∈ readyM ops m → k ≠ i → ClosedL ops (listedOf ops.size (m ||| 1 <<< k)) ∧ i ∈ readyM ops (m ||| 1 <<< k) := fun {k} hk hne => by
      refine ⟨by rw [← listedOf_set]; exact hcl.set (by rw [readyM_eq]; exact hk), ?_⟩
      rw [← readyM_eq, ← listedOf_set]
      exact ready_mono (by rw [readyM_eq]; exact hir) (Ne.symm hne)
    split at h
    · -- at once
      split at h
      · exact h.elim
      · rename_i hji
        simp only [Bool.or_eq_false_iff] at hji
        obtain ⟨hji, hn0⟩ := hji
        have hji : j ≠ i := fun he => by rw [he, Nat.beq_refl] at hji; cases hji
        obtain ⟨n', rfl⟩ : ∃ n', n = n' + 1 := by
          cases n with
          | zero => simp at hn0
          | succ n' => exact ⟨n', rfl⟩
        have both : ∀ (st : Option Nat) (b : Act) (W : World), Fl w0 keep (.cells z t (0, 0)) d Ls L0 st a L b W → ∃ o v, ops[j]? = some o ∧ j ∈ readyM ops m ∧ Region.free .any ops (listedOf ops.size m) j = true ∧ (YieldsIf P ops (There []) o v b ∨ (YieldsIf P ops (There L0) o v b ∧ ∀ f of, f ∈ fs → ops[f]? = some of → Waits ops j f)) ∧ ∃ a', Fl w0 keep (.cells z t (0, 0)) d Ls L0 st a' L (b.put o.dst v) W ∧ (evFl P S fn call ops fw L0 bk i d (.cells z t (0, 0)) Ls fin (n' + 1) (m ||| 1 <<< j) a' L).all K := fun st b W hF => by
          obtain ⟨v, hv, hp⟩ := hF.rel
          have h := h ⟨0, 0, false, v, []⟩
          dsimp only at h
          split at h
          · obtain ⟨g', a', o, v', ho, hmem, hfr, hy, hf', hi', he, h⟩ := heldT_sound (W0 := W) (fun _ hp => (by cases hp)) hv (Inv.none b) h
            exact ⟨o, v', ho, hmem, hfr, .inl hy, a', hF.still hf' (tok_val he) hp, h⟩
          · rename_i hfb
            obtain ⟨g', a', o, v', ho, hmem, hfr, hy, hf', hi', he, h⟩ := heldT_sound hF.there hv (Inv.none b) h
            exact ⟨o, v', ho, hmem, hfr, .inr ⟨hy, fun f of hf hof => hfw _ (Array.getElem?_eq_some_iff.1 ho).1 hfb f hf⟩, a', hF.still hf' (tok_val he) hp, h⟩
        constructor
        · intro nb b W hF
          obtain ⟨o, v, ho, hmem, hfr, hy, a', hF', h⟩ := both _ b W hF
          have ih := (evFl_sound hSS hs hns hfw hbk hal hfin (n' + 1) (m ||| 1 <<< j) a' L Q hQ0 h (next hmem hji).1 (next hmem hji).2 hQ).1 nb _ _ hF'
          have hfr' := Region.free_spec ho hfr
          have hr' : j ∈ Region.ready .any ops (listedOf ops.size (m ||| 1 <<< i)) := by
            rw [← listedOf_set]
            exact ready_mono (by rw [readyM_eq]; exact hmem) hji
          have hfr2 : ∀ k ok, ops[k]? = some ok → k ≠ j → (listedOf ops.size (m ||| 1 <<< i)).getD k true = false → (∀ e ∈ ok.after, Region.binds .any e = true → e.on ≠ j) → o.apart ops ok = true := fun k ok hk hkj hun hno => by
            rw [← listedOf_set] at hun
            exact hfr' k ok hk hkj (getD_set_of hun) hno
          rcases hy with hy | ⟨hy, hw⟩
          · refine wpAnyX_firstP ho (Region.noSelect_spec hns) (fun c b w hq => (hQ0 c _ w hq).elim) n' _ _ _ hfr2 hr' (hy.imp (fun h => ⟨h.1, fun W _ => h.2 W fun _ hp => (by cases hp)⟩) id) ?_
            rw [listedOf_set, or_swap]
            exact ih
          · refine wpAnyX_first ho (Region.noSelect_spec hns) (fun c b w hq => (hQ0 c _ w hq).elim) hw n' _ _ _ hil hfr2 hr' hy hF.there ?_
            rw [listedOf_set, or_swap]
            exact ih
        · intro b W hF
          obtain ⟨o, v, ho, hmem, hfr, hy, a', hF', h⟩ := both _ b W hF
          have ih := (evFl_sound hSS hs hns hfw hbk hal hfin (n' + 1) (m ||| 1 <<< j) a' L Q hQ0 h (next hmem hji).1 (next hmem hji).2 hQ).2 _ _ hF'
          rw [← listedOf_set] at ih
          rcases hy with hy | ⟨hy, hw⟩
          · exact wpAnyX_takeP ho hns hfr (by rw [readyM_eq]; simpa using hmem) (fun c b w hq => (hQ0 c _ w hq).elim) (hy.imp (fun h => ⟨h.1, fun W _ => h.2 W fun _ hp => (by cases hp)⟩) id) ih
          · exact wpAnyX_take ho hns hfr (by rw [readyM_eq]; simpa using hmem) (fun c b w hq => (hQ0 c _ w hq).elim) hw hcl hy hF.there ih
    · split at h
      · -- the end
        split at h
        · rename_i k hrd
          split at h
          · rename_i hki
            have hki := Nat.eq_of_beq_eq_true hki
            subst hki
            obtain ⟨hold, h⟩ := oldTT_spec h
            have B : ∀ nb b W, Fl w0 keep (.cells z t (0, 0)) d Ls L0 (some nb) a L b W → wpAnyX P ops Q (There L0) (fun j => j ∈ fs) n (listedOf ops.size (m ||| 1 <<< k)) b W := fun nb b W hF => by
              obtain ⟨g1, g2⟩ := hF.told hold
              exact hfin n _ _ _ Q hQ0 (h ⟨nb, 0, false, undef, []⟩) hil b W g1 g2 hF.there hQ
            refine ⟨B, fun b W hF => wpAnyX_all (rs := [k]) (by rw [readyM_eq]; exact hrd) (by simp) fun k' hk' => ?_⟩
            rcases List.mem_singleton.1 hk' with rfl
            have hD := hF.done
            refine alloc_wp hal ⟨.inr fun _ => hD.there, ?_⟩
            rw [listedOf_set]
            exact B _ _ _ hD
          · exact h.elim
        · exact h.elim
      · -- each of the others
        split at h
        · exact h.elim
        · rename_i hc
          simp only [Bool.or_eq_false_iff, Bool.not_eq_false'] at hc
          obtain ⟨hn0, heq⟩ := hc
          have heq := eqN_spec heq
          obtain ⟨n', rfl⟩ : ∃ n', n = n' + 1 := by
            cases n with
            | zero => simp at hn0
            | succ n' => exact ⟨n', rfl⟩
          have step : ∀ (st : Option Nat) (k : Nat) (b : Act) (W : World), k ∈ dropOne i (readyM ops m) → Fl w0 keep (.cells z t (0, 0)) d Ls L0 st a L b W → wpOp P ops Q k (fun b' W' => There L0 W' ∧ ∃ a' L', Fl w0 keep (.cells z t (0, 0)) d Ls L0 st a' L' b' W' ∧ (evFl P S fn call ops fw L0 bk i d (.cells z t (0, 0)) Ls fin (n' + 1) (m ||| 1 <<< k) a' L').all K) b W := fun st k b W hk hF => by
            obtain ⟨v, hv, hp⟩ := hF.rel
            have h := outsT_all h k hk ⟨0, 0, false, v, []⟩
            refine evAt_sound hSS (hs W _) h hv hF.hide (fun a' L' b' W' hk hf' hr' => ?_)
            obtain ⟨he, hk⟩ := hk
            rw [forceL_eq] at hk
            rcases two_spec hk with hk | hk
            · obtain ⟨h1, h2⟩ := hk
              have h1 : There L0 W' := by
                rw [tok_blks h1]
                exact fun p hp => (hr'.blk p (hbk _ p hp)).1
              exact ⟨h1, a', L', hF.show hr' hf' (tok_val he) hp h1, h2⟩
            · have hk : (∀ b ∈ L0, b ∈ L') ∧ (evFl P S fn call ops fw L0 bk i d (.cells z t (0, 0)) Ls fin (n' + 1) (m ||| 1 <<< k) a' L').all K := by
                rcases two_spec hk with hk | hk
                · obtain ⟨l, hm, h1, h2⟩ := backAll_sound _ hk
                  exact ⟨fun b hb => by rw [tok_blks h1] at hb; exact hm b hb, h2⟩
                · exact backTT_sound hk
              obtain ⟨hm, h2⟩ := hk
              have h1 : There L0 W' := fun p hp => (hr'.blk p (hm p hp)).1
              exact ⟨h1, a', L', hF.show hr' hf' (tok_val he) hp h1, h2⟩
          have B : ∀ nb b W, Fl w0 keep (.cells z t (0, 0)) d Ls L0 (some nb) a L b W → wpAnyX P ops Q (There L0) (fun j => j ∈ fs) (n' + 1) (listedOf ops.size (m ||| 1 <<< i)) b W := fun nb b W hF => by
            by_cases hne : dropOne i (readyM ops m) = []
            · rw [hne] at h
              exact h.elim
            refine wpAnyX_all (rs := dropOne i (readyM ops m)) (by rw [readyM_eq]; exact heq) hne fun k hk => ?_
            have hk2 : k ∈ Region.ready .any ops (listedOf ops.size (m ||| 1 <<< i)) := by rw [readyM_eq, heq]; exact hk
            have hki : k ≠ i := fun he => by
              have h1 := (mem_ready.1 hk2).1
              rw [he, ← listedOf_set] at h1
              have hlt : i < (listedOf ops.size m).size := by
                have := getD_of_ready (by rw [readyM_eq]; exact hir : i ∈ Region.ready .any ops (listedOf ops.size m))
                rcases Nat.lt_or_ge i (listedOf ops.size m).size with h' | h'
                · exact h'
                · rw [Array.getD_eq_getD_getElem?, Array.getElem?_eq_none h'] at this; cases this
              simp [hlt] at h1
            refine wpOp_mono (fun b' W' ⟨h1, a', L', hF', h2⟩ => ⟨.inr fun _ => h1, ?_⟩) (step _ k b W hk hF)
            have hkm := dropOne_sub hk
            rw [listedOf_set, or_swap]
            exact (evFl_sound hSS hs hns hfw hbk hal hfin (n' + 1) (m ||| 1 <<< k) a' L' Q hQ0 h2 (next hkm hki).1 (next hkm hki).2 hQ).1 nb b' W' hF'
          refine ⟨B, fun b W hF => ?_⟩
          refine wpAnyX_all (rs := readyM ops m) (readyM_eq _ _) (fun he => by rw [he] at hir; cases hir) fun k hk => ?_
          by_cases hki : k = i
          · subst hki
            have hD := hF.done
            refine alloc_wp hal ⟨.inr fun _ => hD.there, ?_⟩
            rw [listedOf_set]
            exact B _ _ _ hD
          · refine wpOp_mono (fun b' W' ⟨h1, a', L', hF', h2⟩ => ⟨.inr fun _ => h1, ?_⟩) (step _ k b W (mem_dropOne hki hk) hF)
            rw [listedOf_set]
            exact (evFl_sound hSS hs hns hfw hbk hal hfin (n' + 1) (m ||| 1 <<< k) a' L' Q hQ0 h2 (next hk hki).1 (next hk hki).2 hQ).2 b' W' hF'

theorem evFloat_sound (hSS : S.holds P) {fn : FuncId} {call : CallE α} (hs : ∀ w0 keep, SoundC P w0 keep K call) {ops : Array Oper} (hns : Region.noSelect ops = true) {fs : List Nat} {fw : Nat} (hfw : ∀ j, j < ops.size → fw.testBit j = true → ∀ f ∈ fs, Waits ops j f) {L0 : List Blk} {bk : List Blk → List Blk} (hbk : ∀ L p, p ∈ bk L → p ∈ L)
    {c : F → List Blk → T α} {fin : RestE α} (hfin : RestS P w0 keep K ops fs L0 c fin) : RestS P w0 keep K ops fs L0 c (evFloat P S fn call ops fw L0 bk fin) := by
  intro n m a L Q hQ0 h hcl b W hf hr hS hQ
  unfold evFloat at h
  split at h
  · exact h.elim
  rename_i i _
  split at h
  · exact h.elim
  rename_i hrd
  split at h
  · exact h.elim
  rename_i d t z hal
  exact (evFl_sound hSS hs hns hfw hbk hal hfin n m a L Q hQ0 h hcl (isReady_spec hrd) hQ).2 b W ⟨⟨a.get d, hf.same rfl, fun _ h => (by cases h)⟩, hr, hS, fun q hq => ⟨hr.lt hq, fun h => (by cases h)⟩, fun _ h => (by cases h), fun _ _ _ h => (by cases h)⟩

theorem evAny_sound (hSS : S.holds P) {fn : FuncId} {call : CallE α} (hs : SoundC P w0 keep K call) {ops : Array Oper} (hns : Region.noSelect ops = true) {fs : List Nat} {fw : Nat} (hfw : ∀ j, j < ops.size → fw.testBit j = true → ∀ f ∈ fs, Waits ops j f) {L0 : List Blk} {bk : List Blk → List Blk} (hbk : ∀ L p, p ∈ bk L → p ∈ L) {can : Nat → Bool} {rest flt : RestE α} {c : F → List Blk → T α} (hflt : RestS P w0 keep K ops fs L0 c flt)
    (hrest : ∀ (m : Nat), can m = true → ∀ (n : Nat) (a : F) (L : List Blk) (Q : Exit → Act → World → Prop), (∀ c a w, ¬ Q (.panic c) a w) → (rest n m a L).all K → ClosedL ops (listedOf ops.size m) → ∀ (b : Act) (W : World), RelF a b → Rep w0 keep L W → There L0 W →
      (∀ a' L' b' W', (c a' L').all K → RelF a' b' → Rep w0 keep L' W' → Q .normal b' W') → wpAnyX P ops Q (There L0) (fun j => j ∈ fs) n (listedOf ops.size m) b W) :
    ∀ (n : Nat) (m : Nat) (g : Option G) (a : F) (L : List Blk) (Q : Exit → Act → World → Prop), (∀ c a w, ¬ Q (.panic c) a w) → (evAny P S fn call ops fs fw L0 bk can rest flt c n m g a L).all K → ClosedL ops (listedOf ops.size m) →
    ∀ (b : Act) (W : World), RelF a b → Inv g b → Rep w0 keep L W → There L0 W → (∀ a' L' b' W', (c a' L').all K → RelF a' b' → Rep w0 keep L' W' → Q .normal b' W') → wpAnyX P ops Q (There L0) (fun j => j ∈ fs) n (listedOf ops.size m) b W
  | 0, m, g, a, L, Q, hQ0, h, _, b, W, hf, _, hr, hS, hQ => by
    simp only [evAny] at h
    split at h
    · rename_i hrd
      exact wpAnyX_done (by rw [readyM_eq]; exact hrd) (hQ _ _ _ _ h hf hr) 0
    · exact h.elim
  | n + 1, m, g, a, L, Q, hQ0, h, hcl, b, W, hf, hi, hr, hS, hQ => by
    simp only [evAny, tb_eq] at h
    obtain ⟨j, h⟩ := h
    dsimp only at h
    split at h
    · split at h
      · obtain ⟨g', a', o, v, ho, hmem, hfr, hy, hf', hi', h⟩ := heldT_sound (W0 := W) (fun _ hp => (by cases hp)) hf hi h
        exact wpAnyX_takeP ho hns hfr (by rw [readyM_eq]; simpa using hmem) (fun c b w hq => (hQ0 c _ w hq).elim) (hy.imp (fun h => ⟨h.1, fun W _ => h.2 W fun _ hp => (by cases hp)⟩) id) (by rw [listedOf_set]; exact evAny_sound hSS hs hns hfw hbk hflt hrest n _ _ _ _ Q hQ0 h (by rw [← listedOf_set]; exact hcl.set (by rw [readyM_eq]; exact hmem)) _ _ hf' hi' hr hS hQ)
      rename_i hfb
      obtain ⟨g', a', o, v, ho, hmem, hfr, hy, hf', hi', h⟩ := heldT_sound hS hf hi h
      exact wpAnyX_take ho hns hfr (by rw [readyM_eq]; simpa using hmem) (fun c b w hq => (hQ0 c _ w hq).elim) (fun f of hf hof => hfw _ (Array.getElem?_eq_some_iff.1 ho).1 hfb f hf) hcl hy hS (by rw [listedOf_set]; exact evAny_sound hSS hs hns hfw hbk hflt hrest n _ _ _ _ Q hQ0 h (by rw [← listedOf_set]; exact hcl.set (by rw [readyM_eq]; exact hmem)) _ _ hf' hi' hr hS hQ)
    · split at h
      · split at h
        · rename_i hrd
          exact wpAnyX_done (by rw [readyM_eq]; exact hrd) (hQ _ _ _ _ h hf hr) (n + 1)
        · exact h.elim
      · split at h
        · split at h
          · rename_i hcan
            exact hrest _ hcan _ _ _ Q hQ0 h hcl _ _ hf hr hS hQ
          · exact h.elim
        split at h
        · exact hflt _ _ _ _ Q hQ0 h hcl _ _ hf hr hS hQ
        · by_cases hne : readyM ops m = []
          · rw [hne] at h
            exact h.elim
          refine wpAnyX_all (readyM_eq _ _) hne fun k hk0 => ?_
          have h := outsT_all h k hk0
          refine evAt_sound hSS hs h hf hr (fun a' L' b' W' hk hf' hr' => ?_)
          split at hk
          · rename_i hlast
            unfold lastM at hlast
            rw [Bool.and_eq_true] at hlast
            obtain ⟨hl1, hl2⟩ := hlast
            refine ⟨.inl (by simpa using hl1), ?_⟩
            rw [listedOf_set]
            refine wpAnyX_done ?_ (hQ _ _ _ _ hk hf' hr') n
            rw [readyM_eq]
            split at hl2
            · rename_i h0
              exact h0
            · cases hl2
          split at hk
          · rename_i hrf
            unfold restFin at hrf
            rw [Bool.and_eq_true] at hrf
            exact ⟨.inl (by simpa using hrf.1), by rw [listedOf_set]; exact evFin_sound hSS hs n _ _ _ Q hk _ _ hf' hr' hQ⟩
          rw [forceL_eq] at hk
          have hk := two_spec hk
          rcases hk with hk | hk
          · obtain ⟨h1, h2⟩ := hk
            have h1 : There L0 W' := by
              rw [tok_blks h1]
              exact fun p hp => (hr'.blk p (hbk _ p hp)).1
            exact ⟨.inr fun _ => h1, by rw [listedOf_set]; exact evAny_sound hSS hs hns hfw hbk hflt hrest n _ _ _ _ Q hQ0 h2 (by rw [← listedOf_set]; exact hcl.set (by rw [readyM_eq]; exact hk0)) _ _ hf' (Inv.none _) hr' h1 hQ⟩
          · have hk : (∀ b ∈ L0, b ∈ L') ∧ (evAny P S fn call ops fs fw L0 bk can rest flt c n (m ||| 1 <<< k) none a' L').all K := by
              rcases two_spec hk with hk | hk
              · obtain ⟨l, hm, h1, h2⟩ := backAll_sound _ hk
                exact ⟨fun b hb => by rw [tok_blks h1] at hb; exact hm b hb, h2⟩
              · exact backTT_sound hk
            obtain ⟨hm, h2⟩ := hk
            have h1 : There L0 W' := fun p hp => (hr'.blk p (hm p hp)).1
            exact ⟨.inr fun _ => h1, by rw [listedOf_set]; exact evAny_sound hSS hs hns hfw hbk hflt hrest n _ _ _ _ Q hQ0 h2 (by rw [← listedOf_set]; exact hcl.set (by rw [readyM_eq]; exact hk0)) _ _ hf' (Inv.none _) hr' h1 hQ⟩

theorem evMany_sound (hSS : S.holds P) {fn : FuncId} {call : CallE α} (hs : ∀ w0 keep, SoundC P w0 keep K call) {ops : Array Oper} (hns : Region.noSelect ops = true) {fs : List Nat} {fw : Nat} (hfw : ∀ j, j < ops.size → fw.testBit j = true → ∀ f ∈ fs, Waits ops j f) {L0 : List Blk} {bk : List Blk → List Blk} (hbk : ∀ L p, p ∈ bk L → p ∈ L) {c : F → List Blk → T α} : ∀ m, RestS P w0 keep K ops fs L0 c (evMany P S fn call ops fs fw L0 bk c m)
  | 0 => fun n m a L Q h0 h1 hc b W h2 h3 h4 h5 => evAny_sound hSS (hs _ _) hns hfw hbk (flt := fun _ _ _ _ => .fail) (fun _ _ _ _ _ _ h => False.elim h) (fun _ h => (by cases h)) n m none a L Q h0 h1 hc b W h2 (Inv.none _) h3 h4 h5
  | r + 1 => fun n m a L Q h0 h1 hc b0 W0 g2 g3 g4 g5 => evAny_sound hSS (hs _ _) hns hfw hbk (evFloat_sound hSS hs hns hfw hbk (evMany_sound hSS hs hns hfw hbk r)) (fun m h n a L Q h0 h1 hc' b W h2 h3 h4 h5 => by
      simp only [Bool.and_eq_true] at h
      exact evRest_sound hns (evMany_sound hSS hs hns hfw hbk r) m h.1 h.2 n _ a L Q h0 h1 b W h2 h3 h4 h5) n m none a L Q h0 h1 hc b0 W0 g2 (Inv.none _) g3 g4 g5

theorem evLoop_sound {x : Code} {f : PieceE α} (hf : SoundE P w0 keep K x f) {c : Exit → F → List Blk → T α} : ∀ (m : Nat) (a : F) (L : List Blk), (evLoop f c m a L).all K →
    ∀ b W, RelF a b → Rep w0 keep L W → Code.rounds P x (Post w0 keep K c) m b W
  | 0, a, L, h, b, W, _, _ => h.elim
  | m + 1, a, L, h, b, W, hrel, hr => by
    rw [rounds_succ]
    change (forceL (compactW 0 a.w) _).all K at h
    rw [forceL_eq] at h
    refine wp_mono (hf _ _ _ h b W (RelF.shorten hrel) hr) ?_
    rintro x a2 W2 ⟨hx, g, L2, h, hrel2, hr2⟩
    cases x with
    | normal => exact evLoop_sound hf m _ _ h a2 W2 hrel2 hr2
    | _ => exact ⟨hx, g, L2, h, hrel2, hr2⟩

theorem metBy_sound {k : CallC} (hc : Meets P k) {args : Array Value} {L : List Blk} {c : Value → List Blk → T α} (h : (metBy k args L c).all K) {W : World} (hr : Rep w0 keep L W) : Calls P k.f args W fun en W' => ∃ v L', en = .returned v ∧ Rep w0 keep L' W' ∧ (c v L').all K := by
  obtain ⟨ha, hok, h⟩ := h
  have hargs : args = k.args := by
    have := tok_val ha
    injection this
  subst hargs
  obtain ⟨hpre, h⟩ := memBy_sound h hr
  refine (hc hok W hpre).mono ?_
  rintro en W' ⟨o, ho, ns, rfl, hpost⟩
  obtain ⟨L', hr', hk⟩ := h o ho ns W' hpost
  exact ⟨o.2 ns, L', rfl, hr', hk⟩

theorem loopBy_sound {k : LoopC} (hc : MeetsL P k) {x : Code} {a : F} {L : List Blk} {c : Exit → F → List Blk → T α} (h : (loopBy k x a L c).all K) {b : Act} {W : World} (hf : RelF a b) (hr : Rep w0 keep L W) : x.wp P (Post w0 keep K c) b W := by
  obtain ⟨h1, h2, h3, hok, h⟩ := h
  obtain rfl := tok_code h1
  have hn := tok_nat h2
  have hsl : (k.sl.map fun p => a.get p.1).toArray = (k.sl.map (·.2)).toArray := by
    have := tok_val h3
    injection this
  have hsl := congrArg Array.toList hsl
  have hk : Known k.n k.sl b := by
    rw [← hn]
    exact Known.of hf k.sl (by simpa using hsl)
  obtain ⟨hpre, h⟩ := memBy_sound h hr
  refine wp_mono (hc hok b W hk hpre) ?_
  rintro x' a' W' ⟨o, ho, rfl, hx, ns, hk', hpost⟩
  obtain ⟨L', hr', hk⟩ := h o ho ns W' hpost
  exact ⟨hx, _, _, hk ⟨0, 0, false, undef, a'.tmps.toList⟩, hk'.rel, hr'⟩

theorem anyF_sound (hS : S.holds P) (hP : P.follows .mixedOrders = true) {fn : FuncId} {call : CallE α} (hc : ∀ w0 keep, SoundC P w0 keep K call) (id : Nat) (ops : Array Oper) : SoundE P w0 keep K (.region id ops true) (anyF P S fn id ops call) := by
  intro a L c h b W hrel hr
  unfold anyF at h
  split at h
  · rename_i k ks hrg
    obtain ⟨j, h⟩ := h
    dsimp only at h
    split at h
    · rename_i k' hj
      rw [nth_eq] at hj
      exact loopBy_sound (hS.rg fn id k' (by rw [hrg]; exact List.mem_of_getElem? hj) a L) h hrel hr
    · exact h.elim
  split at h
  · exact h.elim
  · rename_i hns
    obtain ⟨j, h⟩ := h
    dsimp only at h
    split at h
    · obtain ⟨R, hsub, h⟩ := noteX_spec h
      rw [forceM_eq] at h
      exact wp_region_X hP (by rw [listedOf_zero]; exact evMany_sound hS hc hns (fun j hlt hj => finM_spec hlt hj) (fun _ _ h => (by cases h)) 4 _ _ _ _ _ (fun c a w hq => by cases hq.1) h (closed_zero _) _ _ hrel hr.draw (fun p hp => (hr.blk p (hsub p hp)).1) fun a' L' b' W' hk hb' hr' => ⟨rfl, _, _, hk, hb', hr'⟩)
    split at h
    · obtain ⟨R, hsub, h⟩ := noteT_spec h
      rw [forceM_eq] at h
      exact wp_region_X hP (by rw [listedOf_zero]; exact evMany_sound hS hc hns (fun j hlt hj => finM_spec hlt hj) (fun _ _ h => (by cases h)) 4 _ _ _ _ _ (fun c a w hq => by cases hq.1) h (closed_zero _) _ _ hrel hr.draw (fun p hp => (hr.blk p (hsub p hp)).1) fun a' L' b' W' hk hb' hr' => ⟨rfl, _, _, hk, hb', hr'⟩)
    · obtain ⟨js, L1, hsub, h⟩ := minusT_spec h
      obtain ⟨mask, h⟩ := h
      dsimp only at h
      rw [forceL_eq, forceM_eq] at h
      exact wp_region_X hP (by rw [listedOf_zero]; exact evMany_sound hS hc hns (fun j hlt hj => finM_spec hlt hj) backOf_sub 4 _ _ _ _ _ (fun c a w hq => by cases hq.1) h (closed_zero _) _ _ hrel hr.draw (fun p hp => (hr.blk p (hsub p (dropM_sub hp))).1) fun a' L' b' W' hk hb' hr' => ⟨rfl, _, _, hk, hb', hr'⟩)

theorem inCall_sound {f : FuncId → Code → PieceE α} (hf : ∀ fn x, SoundE P w0 keep K x (f fn x)) : SoundC P w0 keep K (inCall P f) := by
  intro g args L c h W hr
  unfold inCall at h
  rw [nth_eq, Array.getElem?_toList] at h
  split at h
  · exact h.elim
  · rename_i fn hfn
    split at h
    · exact h.elim
    · rename_i x hb
      refine calls_of_wp hfn hb (wp_mono (hf g x _ _ _ h _ W (RelF.init args fn.ntmps) hr) ?_)
      rintro x a2 W2 ⟨-, g2, L2, h, hrel2, hr2⟩
      have key : (resT P g2.get L2 fn.results.toList fun l => c (oneV l) L2).all K → bodyPost P fn (fun en W' => ∃ v L', en = .returned v ∧ Rep w0 keep L' W' ∧ (c v L').all K) .ret a2 W2 := fun h => by
        obtain ⟨l, hk, hrun⟩ := resT_spec (fun p hp => (hr2.blk p hp).1) h
        have hrun := resF_run (fn := fn) (hrun W2 (fun p hp => (hr2.blk p hp).1))
        rw [← resF_eq hrel2] at hrun
        exact ⟨hrel2.defers, _, hrun, _, L2, rfl, hr2, hk⟩
      cases x with
      | normal => exact key h
      | ret => exact key h
      | _ => exact h.elim

theorem evCall_sound (hS : S.holds P) {f : FuncId → Code → PieceE α} (hf : ∀ fn x, SoundE P w0 keep K x (f fn x)) : SoundC P w0 keep K (evCall P S f) := by
  intro g args L c h W hr
  unfold evCall at h
  split at h
  · rename_i k ks hcl
    obtain ⟨j, h⟩ := h
    dsimp only at h
    split at h
    · rename_i k' hj
      rw [nth_eq] at hj
      split at h
      · rename_i hcf _
        have := metBy_sound (hS.cl g k' (by rw [hcl]; exact List.mem_of_getElem? hj) args L) h hr
        rw [hcf] at this
        exact this
      · exact h.elim
    · exact inCall_sound hf _ _ _ _ h W hr
  · exact inCall_sound hf _ _ _ _ h W hr

theorem ev_succ (n : Nat) (fn : FuncId) (x : Code) (a : F) (L : List Blk) (c : Exit → F → List Blk → T α) : ev P S (n + 1) fn x a L c = evBody P S (ev P S n) n fn x a L c := rfl

theorem ev_sounds (hS : S.holds P) (hP : P.follows .mixedOrders = true) : ∀ (n : Nat) (w0 : World) (keep : Nat → Prop) (fn : FuncId) (x : Code), SoundE P w0 keep K x (ev P S n fn x)
  | 0, w0, keep, fn, x, a, L, c, h, _, _, _, _ => h.elim
  | n + 1, w0, keep, fn, x, a, L, c, h, b, W, hrel, hr => by
    have ih0 : ∀ fn x, SoundE P w0 keep K x (ev P S n fn x) := ev_sounds hS hP n w0 keep
    have ih := ih0 fn
    have hcs : ∀ w0 keep, SoundC P w0 keep K (evCall P S (ev P S n)) := fun w0 keep => evCall_sound hS (ev_sounds hS hP n w0 keep)
    have hc : SoundC P w0 keep K (evCall P S (ev P S n)) := hcs w0 keep
    rw [ev_succ] at h
    unfold evBody at h
    split at h
    · exact wp_skip ⟨rfl, _, _, h, hrel, hr⟩
    · exact wp_label ⟨rfl, _, _, h, hrel, hr⟩
    · exact wp_region (evOps_sound hS hc _ h hrel (Inv.none _) hr fun a' L' b' W' hk hb' hr' => ⟨rfl, _, _, hk, hb', hr'⟩)
    · rename_i id ops
      exact anyF_sound hS hP hcs id ops _ _ _ h b W hrel hr
    · refine wp_seq (wp_mono (ih _ _ _ _ h b W hrel hr) ?_)
      rintro x a2 W2 ⟨hx, g2, L2, h, hrel2, hr2⟩
      cases x with
      | normal => exact ih _ _ _ _ h a2 W2 hrel2 hr2
      | _ => exact ⟨hx, _, _, h, hrel2, hr2⟩
    · split at h
      · rename_i s
        split at h
        · rename_i t hb
          have hb' : b.eval (.tmp s) = .bool t := by rw [← hrel.eval]; exact hb
          cases t with
          | true => exact wp_cond_true hb' (ih _ _ _ _ (h.1 rfl) b W (hrel.same hb) hr)
          | false => exact wp_cond_false hb' (ih _ _ _ _ (h.2 rfl) b W (hrel.same hb) hr)
        · exact h.elim
      · split at h
        · rename_i t hb
          rw [hrel.eval] at hb
          cases t with
          | true => exact wp_cond_true hb (ih _ _ _ _ (h.1 rfl) b W hrel hr)
          | false => exact wp_cond_false hb (ih _ _ _ _ (h.2 rfl) b W hrel hr)
        · exact h.elim
    · rename_i id x
      refine wp_block (wp_mono (ih _ _ _ _ h b W hrel hr) ?_)
      rintro x a2 W2 ⟨hx, g2, L2, h, hrel2, hr2⟩
      cases x with
      | exit id' =>
        simp only at h
        split at h
        · rename_i hid
          have hid := Nat.eq_of_beq_eq_true hid
          simp only [Exit.inBlock, hid, if_true]
          exact ⟨rfl, _, _, h, hrel2, hr2⟩
        · rename_i hid
          have hid : ¬ id' = id := fun he => by rw [he, Nat.beq_refl] at hid; cases hid
          simp only [Exit.inBlock, hid, if_false]
          exact ⟨rfl, _, _, h, hrel2, hr2⟩
      | normal => exact ⟨hx, _, _, h, hrel2, hr2⟩
      | ret => exact ⟨hx, _, _, h, hrel2, hr2⟩
      | _ => simp [calm] at hx
    · split at h
      · rename_i k ks hlp
        obtain ⟨j, h⟩ := h
        dsimp only at h
        split at h
        · rename_i k' hj
          rw [nth_eq] at hj
          exact loopBy_sound (hS.lp fn k' (by rw [hlp]; exact List.mem_of_getElem? hj) a L) h hrel hr
        · exact wp_loop_rounds n (evLoop_sound (ih _) n _ _ h b W hrel hr)
      · exact wp_loop_rounds n (evLoop_sound (ih _) n _ _ h b W hrel hr)
    · exact wp_exit ⟨rfl, _, _, h, hrel, hr⟩
    · exact wp_ret ⟨rfl, _, _, h, hrel, hr⟩
    · exact h.elim

theorem ev_sound (hS : S.holds P) (hP : P.follows .mixedOrders = true) (n : Nat) (fn : FuncId) (x : Code) : SoundE P w0 keep K x (ev P S n fn x) := ev_sounds hS hP n w0 keep fn x

end Go.Proofs.Ytbgmkefehfjicaa.Sy
