/-
  Operations that are taken by themselves: an append; what can be reckoned at once; an index.
-/
import Derived.Test.YtbgmkefehfjicaaSyP
import Derived.Deep.AppendLies
import Derived.Laws.Cells
import Derived.Laws.StructEq
import Derived.Laws.Rows
import Derived.Laws.MakeOwn
import Derived.Laws.Small
import Derived.Laws.IdiomStrings
import Derived.LaidEqlPtr
namespace Go.Proofs.Ytbgmkefehfjicaa.Sy
open Go Go.RowKit
open Ex (twoQ twoQ_run eqQ eqQ_eq wrapQ wrapQ_eq)

variable {P : Program}

def opV (s : Sem Value) : Sem Next := do pure (.value (← s))
theorem opV_run {s : Sem Value} {W W' : World} {v : Value} (h : s.run P W = .ok v W') : (opV s).run P W = .ok (.value v) W' := by
  simp [opV, h]

theorem addr_add (b o n : Nat) : (⟨b, o, none⟩ : Addr).add n = ⟨b, o + n, none⟩ := by
  unfold Addr.add
  split
  · rename_i h; subst h; rfl
  · rfl

/-- Some cells, one behind the other. -/
def lies (W : World) (s o : Nat) (xs : List Value) : Prop := ∀ j u, xs[j]? = some u → W.cell? ⟨s, o + j, none⟩ = some u

theorem lies_of {W : World} {s o : Nat} {ct : Cont} {xs : List Value} (h : ct.sat W.heap[s]?) (hx : ∀ j u, xs[j]? = some u → ct.at (o + j) = some u) : lies W s o xs := fun j u hu =>
  cell_at rfl h rfl (hx j u hu)

def appSem (t ty : TypeId) (v x : Value) : Sem Next := opV (Builtin.append_ #[t, t] ty #[v, x])

theorem row_own {W : World} {g : Nat} {e : TypeId} {size n cap : Nat} {xs : List Value} (h : (Cont.row e size n cap xs).sat W.heap[g]?) : W.ownsRow 0 e size (.slice (some ⟨g, 0, none⟩) n cap) n xs := by
  obtain ⟨cur, h1, h2, h3, h4, h5, h6⟩ := h
  exact ⟨h2, .inr ⟨g, cap, cur, rfl, Nat.zero_le _, h1, h3, h4, h5, h6⟩⟩

theorem own_row {W : World} {g : Nat} {e : TypeId} {size n cap : Nat} {xs : List Value} (h : W.ownsRow 0 e size (.slice (some ⟨g, 0, none⟩) n cap) n xs) : (Cont.row e size n cap xs).sat W.heap[g]? := by
  obtain ⟨h2, h⟩ := h
  rcases h with ⟨h, -⟩ | ⟨g', cap', cur, he, -, h1, h3, h4, h5, h6⟩
  · cases h
  · injection he with e1 e2 e3
    injection e1 with e1
    injection e1 with e1
    subst e1 e3
    exact ⟨cur, h1, h2, h3, h4, h5, h6⟩

def num (ns : List Let) (j : Nat) : Nat := (ns.getD j Let.none).n
def int (ns : List Let) (j : Nat) : Int := (ns.getD j Let.none).i

/-- append(v, x...): v is nil, or a row that is used up; the new elements lie in block s from o on. -/
def appC (rd use : List (Nat × Cont)) (e : TypeId) (size n m : Nat) (xs : List Value) : OpC :=
  ⟨⟨rd, use, 2, []⟩, [(⟨fun ns => n + m ≤ num ns 1, fun ns => [(num ns 0, .row e size (n + m) (num ns 1) xs)], fun _ => []⟩, fun ns => some (.slice (some ⟨num ns 0, 0, none⟩) (n + m) (num ns 1)))]⟩

structure Elem (P : Program) (t e : TypeId) (size bytes : Nat) : Prop where
  under : P.underlying t = some (.slice e)
  info : ∃ i z, P.info? e = some i ∧ i.zero = some z ∧ i.size = size ∧ i.bytes = bytes ∧ z.cells.size = size
  pos : 0 < size

theorem app_any {t ty e : TypeId} {size bytes : Nat} (he : Elem P t e size bytes) {rd use : List (Nat × Cont)} {v : Value} {n m c s o : Nat} {xs news : List Value}
    (hv : (v = .slice none 0 0 ∧ n = 0 ∧ use = [] ∧ xs = []) ∨ ∃ g cap, v = .slice (some ⟨g, 0, none⟩) n cap ∧ use = [(g, .row e size n cap xs)])
    (hl : news.length = m * size) (hm : 0 < m) (h1 : ∀ u ∈ news, u.oneCell' = true) (h63 : n + m ≤ maxLen) (hb : (n + m) * bytes ≤ 140737488355328)
    (hsrc : ∀ W : World, (appC rd use e size n m (xs ++ news)).mem.pre W → lies W s o news) : OpMeets P (appSem t ty v (.slice (some ⟨s, o, none⟩) m c)) (appC rd use e size n m (xs ++ news)) := by
  intro W hpre
  obtain ⟨i, z, hi, hz, hsz, hby, hzs⟩ := he.info
  have hown : W.ownsRow 0 e size v n xs := by
    rcases hv with ⟨rfl, rfl, -, rfl⟩ | ⟨g, cap, rfl, rfl⟩
    · exact ⟨by simp, .inl ⟨rfl, rfl⟩⟩
    · exact row_own (hpre.use _ (List.mem_singleton_self _))
  have hnews : ∀ j u, news[j]? = some u → W.cell? ((⟨s, o, none⟩ : Addr).add j) = some u := fun j u hu => by
    rw [addr_add]; exact hsrc W hpre j u hu
  obtain ⟨g, cap, W', hrun, how, hgr, hat, hlt⟩ := run_append_lies (P := P) W t ty 0 e i z size bytes he.under hi hz hsz hby hzs he.pos v n xs hown ⟨s, o, none⟩ m c news hl hnews h1 hm h63 hb (Nat.zero_le _) W.heap.size rfl
  have hrow := own_row how
  refine ⟨_, List.mem_singleton_self _, [⟨g, 0, false, undef, []⟩, ⟨cap, 0, false, undef, []⟩], W', opV_run hrun, rfl, ?_, hgr.os, hgr.tape, hgr.output, hgr.size, fun k hk hno => hgr.block k hk ?_, fun p hp => ?_, by simp, fun _ hp => (by cases hp), List.nodup_nil, fun _ _ _ hq => (by cases hq)⟩
  · obtain ⟨cur, -, -, h3, -⟩ := hrow
    exact h3
  · rcases hv with ⟨rfl, -, -, -⟩ | ⟨g', cap', rfl, rfl⟩
    · simp [Value.ownBlock]
    · have := hno (g', .row e size n cap' xs) (List.mem_singleton_self _)
      simp only [Value.ownBlock, ne_eq, Option.some.injEq]
      exact fun h => this h.symm
  · rcases List.mem_singleton.1 hp with rfl
    refine ⟨?_, hrow⟩
    rcases hat with h | rfl
    · rcases hv with ⟨rfl, -, -, -⟩ | ⟨g', cap', rfl, rfl⟩
      · simp [Value.ownBlock] at h
      · simp only [Value.ownBlock, Option.some.injEq] at h
        exact .inr ⟨_, List.mem_singleton_self _, h⟩
    · exact .inl (Nat.le_refl _)

/-- append(v, x...) where x lies in a block that is known. -/
theorem app_met {t ty e : TypeId} {size bytes : Nat} (he : Elem P t e size bytes) {use : List (Nat × Cont)} {v : Value} {n m c s o : Nat} {ct : Cont} {xs news : List Value}
    (hv : (v = .slice none 0 0 ∧ n = 0 ∧ use = [] ∧ xs = []) ∨ ∃ g cap, v = .slice (some ⟨g, 0, none⟩) n cap ∧ use = [(g, .row e size n cap xs)])
    (hl : news.length = m * size) (hm : 0 < m) (h1 : ∀ u ∈ news, u.oneCell' = true) (h63 : n + m ≤ maxLen) (hb : (n + m) * bytes ≤ 140737488355328)
    (hct : ∀ j u, news[j]? = some u → ct.at (o + j) = some u) : OpMeets P (appSem t ty v (.slice (some ⟨s, o, none⟩) m c)) (appC [(s, ct)] use e size n m (xs ++ news)) :=
  app_any he hv hl hm h1 h63 hb fun _ hpre => lies_of (hpre.rd _ (List.mem_singleton_self _)) hct

/-- append(v, nil...): the row as it is. -/
def nilC (g : Nat) (e : TypeId) (size n cap : Nat) (xs : List Value) : OpC :=
  ⟨⟨[], [(g, .row e size n cap xs)], 0, []⟩, [(⟨fun _ => True, fun _ => [(g, .row e size n cap xs)], fun _ => []⟩, fun _ => some (.slice (some ⟨g, 0, none⟩) n cap))]⟩

theorem run_append_none (W : World) {t ty e : TypeId} {i : TypeInfo} (ht : P.underlying t = some (.slice e)) (hi : P.info? e = some i) (a : Addr) {n cap : Nat} (c : Nat) (hn : n ≤ cap) :
    (Builtin.append_ #[t, t] ty #[.slice (some a) n cap, .slice none 0 c]).run P W = .ok (.slice (some a) n cap) W := by
  simp [Builtin.append_, run_underlying ht, sizeOf, typeInfo, hi, Builtin.lenOf, hn, Builtin.firstCells, storeCells]

theorem app_none {t ty e : TypeId} {size bytes : Nat} (he : Elem P t e size bytes) {g n cap c : Nat} {xs : List Value} : OpMeets P (appSem t ty (.slice (some ⟨g, 0, none⟩) n cap) (.slice none 0 c)) (nilC g e size n cap xs) := by
  intro W hpre
  obtain ⟨i, z, hi, -⟩ := he.info
  have hs := hpre.use _ (List.mem_singleton_self _)
  have hn : n ≤ cap := by
    obtain ⟨cur, -, -, h3, -⟩ := hs
    exact h3
  refine ⟨_, List.mem_singleton_self _, [], W, opV_run (run_append_none W he.under hi _ c hn), rfl, trivial, rfl, rfl, rfl, Nat.le_refl _, fun _ _ _ => rfl, fun p hp => ?_, by simp, fun _ hp => (by cases hp), List.nodup_nil, fun _ _ _ hq => (by cases hq)⟩
  rcases List.mem_singleton.1 hp with rfl
  exact ⟨.inr ⟨_, List.mem_singleton_self _, rfl⟩, hs⟩

/-! ### An append of what is known -/

def appOf (ρ : Operand → Value) (o : Oper) : Option (TypeId × Value × Value) :=
  match o.op with
  | .call c => match c.callee with
    | .builtin .append => match c.args.toList, c.argTypes.toList with
      | [x, y], [t, t'] => match Nat.beq t t' with
        | true => some (t, ρ x, ρ y)
        | false => none
      | _, _ => none
    | _ => none
  | _ => none

theorem appOf_run {ρ : Operand → Value} {o : Oper} {t : TypeId} {v x : Value} (h : appOf ρ o = some (t, v, x)) (W : World) : (execOp ρ o).run P W = (appSem t o.type v x).run P W := by
  unfold appOf at h
  split at h
  · rename_i c hc
    split at h
    · rename_i hb
      split at h
      · rename_i x' y' t1 t2 ha ht
        split at h
        · rename_i hn
          injection h with h
          injection h with h1 h
          injection h with h2 h3
          have hn := Nat.eq_of_beq_eq_true hn
          subst hn h1 h2 h3
          have ha' : c.args = #[x', y'] := by rw [← Array.toList_inj]; exact ha
          have ht' : c.argTypes = #[t1, t1] := by rw [← Array.toList_inj]; exact ht
          unfold execOp
          rw [hc]
          simp [resolve, hb, ha', ht', invoke, builtin, appSem, opV]
        · cases h
      · cases h
    · cases h
  · cases h

def cellsAt (ct : Cont) : Nat → Nat → Option (List Value)
  | _, 0 => some []
  | o, k + 1 => match ct.at o with
    | some v => match v.oneCell' with
      | true => match cellsAt ct (o + 1) k with
        | some l => some (v :: l)
        | none => none
      | false => none
    | none => none

theorem cellsAt_spec {ct : Cont} : ∀ {k o : Nat} {l : List Value}, cellsAt ct o k = some l → l.length = k ∧ (∀ u ∈ l, u.oneCell' = true) ∧ ∀ j u, l[j]? = some u → ct.at (o + j) = some u
  | 0, o, l, h => by injection h with h; subst h; exact ⟨rfl, fun _ h => (by cases h), fun j u h => (by simp at h)⟩
  | k + 1, o, l, h => by
    unfold cellsAt at h
    split at h
    · rename_i v hv
      split at h
      · rename_i h1
        split at h
        · rename_i l' hl
          injection h with h
          subst h
          obtain ⟨a1, a2, a3⟩ := cellsAt_spec hl
          refine ⟨by simp [a1], fun u hu => ?_, fun j u hu => ?_⟩
          · rcases List.mem_cons.1 hu with rfl | hu
            · exact h1
            · exact a2 u hu
          · cases j with
            | zero => simp only [List.getElem?_cons_zero, Option.some.injEq] at hu; subst hu; exact hv
            | succ j => rw [show o + (j + 1) = o + 1 + j by omega]; exact a3 j u (by simpa using hu)
        · cases h
      · cases h
    · cases h

section
variable {α : Type}
/-- What is laid on: its cells. -/
def newsT (ct : Cont) (o m size : Nat) (k : List Value → T α) : T α :=
  altT (match cellsAt ct o (m * size) with
    | some l => k l
    | none => .fail)
  (match ct with
    | .row _ _ _ _ xs => .need (o = 0 ∧ xs.length = m * size ∧ ∀ u ∈ xs, u.oneCell' = true) (k xs)
    | .seg off xs => .need (o = off ∧ xs.length = m * size ∧ ∀ u ∈ xs, u.oneCell' = true) (k xs)
    | _ => .fail)

theorem newsT_spec {ct : Cont} {o m size : Nat} {k : List Value → T α} {K : α → Prop} (h : (newsT ct o m size k).all K) :
    ∃ l, l.length = m * size ∧ (∀ u ∈ l, u.oneCell' = true) ∧ (∀ j u, l[j]? = some u → ct.at (o + j) = some u) ∧ (k l).all K := by
  rcases altT_spec h with h | h
  · split at h
    · rename_i l hl
      obtain ⟨a1, a2, a3⟩ := cellsAt_spec hl
      exact ⟨l, a1, a2, a3, h⟩
    · exact h.elim
  · split at h
    · obtain ⟨⟨h1, h2, h3⟩, h4⟩ := h
      subst h1
      exact ⟨_, h2, h3, fun j u hu => by simpa [Cont.at] using hu, h4⟩
    · obtain ⟨⟨h1, h2, h3⟩, h4⟩ := h
      subst h1
      refine ⟨_, h2, h3, fun j u hu => ?_, h4⟩
      simp only [Cont.at]
      rw [if_pos (by omega), show o + j - o = j by omega]
      exact hu
    · exact h.elim

/-- On what it is laid. -/
noncomputable def dstT (L : List Blk) (v : Value) (el : TypeId) (size : Nat) (k : List (Nat × Cont) → Nat → List Value → T α) : T α := match v with
  | .slice none 0 0 => k [] 0 []
  | .slice (some ⟨g, 0, none⟩) n cap => pickT L g fun b _ => match b.ct with
    | .row _ _ _ _ xs => k [(g, .row el size n cap xs)] n xs
    | .obj (.cells cs _ _) => k [(g, .row el size n cap (cs.toList.take (n * size)))] n (cs.toList.take (n * size))
    | _ => .fail
  | _ => .fail

theorem dstT_spec {L : List Blk} {v : Value} {el : TypeId} {size : Nat} {k : List (Nat × Cont) → Nat → List Value → T α} {K : α → Prop} (h : (dstT L v el size k).all K) :
    ∃ use n xs, ((v = .slice none 0 0 ∧ n = 0 ∧ use = [] ∧ xs = []) ∨ ∃ g cap, v = .slice (some ⟨g, 0, none⟩) n cap ∧ use = [(g, .row el size n cap xs)]) ∧ (k use n xs).all K := by
  unfold dstT at h
  split at h
  · exact ⟨_, _, _, .inl ⟨rfl, rfl, rfl, rfl⟩, h⟩
  · obtain ⟨p, j, hj, hb, h⟩ := pickT_spec h
    split at h
    · exact ⟨_, _, _, .inr ⟨_, _, rfl, rfl⟩, h⟩
    · exact ⟨_, _, _, .inr ⟨_, _, rfl, rfl⟩, h⟩
    · exact h.elim
  · exact h.elim

variable (P)
noncomputable def appT (L : List Blk) (t : TypeId) (v x : Value) (k : OpC → T α) : T α :=
  match P.underlying t with
  | some (.slice el) => match P.info? el with
    | some i => match i.zero with
      | some z => match x with
        | .slice (some ⟨s, o, none⟩) m _ => match Nat.beq z.cells.size i.size && Nat.ble 1 i.size with
          | true => pickT L s fun b _ => newsT b.ct o m i.size fun news => dstT L v el i.size fun use n xs =>
            reqP (Nat.ble 1 m) (1 ≤ m) <| reqP (Nat.ble (n + m) maxLen) (n + m ≤ maxLen) <| reqP (Nat.ble ((n + m) * i.bytes) 140737488355328) ((n + m) * i.bytes ≤ 140737488355328) <|
              k (appC [(s, b.ct)] use el i.size n m (xs ++ news))
          | false => .fail
        | .slice none 0 _ => match Nat.beq z.cells.size i.size && Nat.ble 1 i.size with
          | true => dstT L v el i.size fun use _ _ => match v, use with
            | .slice (some ⟨g, 0, none⟩) n cap, [(g', .row e' s' n' c' xs)] => .same (.blks [⟨g, .row el i.size n cap xs, true⟩]) (.blks [⟨g', .row e' s' n' c' xs, true⟩]) (k (nilC g el i.size n cap xs))
            | _, _ => .fail
          | false => .fail
        | _ => .fail
      | none => .fail
    | none => .fail
  | _ => .fail

variable {P}
theorem appT_spec {L : List Blk} {t ty : TypeId} {v x : Value} {k : OpC → T α} {K : α → Prop} (h : (appT P L t v x k).all K) : ∃ c, OpMeets P (appSem t ty v x) c ∧ (k c).all K := by
  unfold appT at h
  split at h
  · rename_i el hu
    split at h
    · rename_i i hi
      split at h
      · rename_i z hz
        split at h
        · rename_i s o m cc
          split at h
          · rename_i hc
            simp only [Bool.and_eq_true] at hc
            obtain ⟨c1, c2⟩ := hc
            have c1 := Nat.eq_of_beq_eq_true c1
            have c2 := Nat.le_of_ble_eq_true c2
            obtain ⟨b, j, hj, hb, h⟩ := pickT_spec h
            obtain ⟨news, a1, a2, a3, h⟩ := newsT_spec h
            obtain ⟨use, n, xs, d1, h⟩ := dstT_spec h
            obtain ⟨e1, h⟩ := reqP_spec h
            obtain ⟨e2, h⟩ := reqP_spec h
            obtain ⟨e3, h⟩ := reqP_spec h
            have e1 := e1.elim Nat.le_of_ble_eq_true id
            have e2 := e2.elim Nat.le_of_ble_eq_true id
            have e3 := e3.elim Nat.le_of_ble_eq_true id
            exact ⟨_, app_met ⟨hu, ⟨i, z, hi, hz, rfl, rfl, c1⟩, c2⟩ d1 a1 e1 a2 e2 e3 a3, h⟩
          · exact h.elim
        · split at h
          · rename_i hc
            simp only [Bool.and_eq_true] at hc
            obtain ⟨c1, c2⟩ := hc
            have c1 := Nat.eq_of_beq_eq_true c1
            have c2 := Nat.le_of_ble_eq_true c2
            obtain ⟨use, n, xs, d1, h⟩ := dstT_spec h
            split at h
            · exact ⟨_, app_none ⟨hu, ⟨i, z, hi, hz, rfl, rfl, c1⟩, c2⟩, h.2⟩
            · exact h.elim
          · exact h.elim
        · exact h.elim
      · exact h.elim
    · exact h.elim
  · exact h.elim
end

/-! ### A load -/

def litN : List Value → Nat → Option (List Value)
  | _, 0 => some []
  | [], _ + 1 => none
  | v :: r, n + 1 => match litN r n with
    | some l => some (v :: l)
    | none => none

theorem litN_spec : ∀ {l : List Value} {n : Nat} {cs : List Value}, litN l n = some cs → cs.length = n ∧ ∀ (j : Nat) (u : Value), cs[j]? = some u → l[j]? = some u
  | l, 0, cs, h => by
    cases l <;> (injection h with h; subst h; exact ⟨rfl, fun j u hu => by simp at hu⟩)
  | [], n + 1, cs, h => by cases h
  | v :: r, n + 1, cs, h => by
    unfold litN at h
    split at h
    · rename_i l hl
      injection h with h
      subst h
      obtain ⟨h1, h2⟩ := litN_spec hl
      refine ⟨by simp [h1], fun j u hu => ?_⟩
      cases j with
      | zero => simpa using hu
      | succ j => simpa using h2 j u (by simpa using hu)
    · cases h

noncomputable def tailR (l : List Value) : List Value := @List.rec Value (fun _ => List Value) [] (fun _ t _ => t) l
theorem tailR_eq (l : List Value) : tailR l = l.drop 1 := by cases l <;> rfl

noncomputable def drop16 (l : List Value) : List Value := tailR (tailR (tailR (tailR (tailR (tailR (tailR (tailR (tailR (tailR (tailR (tailR (tailR (tailR (tailR (tailR l)))))))))))))))
theorem drop16_eq (l : List Value) : drop16 l = l.drop 16 := by simp only [drop16, tailR_eq, List.drop_drop]

noncomputable def bigs (n : Nat) : List Value → List Value := @Nat.rec (fun _ => List Value → List Value) (fun l => l) (fun _ ih l => @List.rec Value (fun _ => List Value) [] (fun x r _ => ih (x :: r)) (drop16 l)) n
theorem bigs_eq : ∀ (n : Nat) (l : List Value), bigs n l = l.drop (16 * n)
  | 0, l => rfl
  | n + 1, l => by
    have h : bigs (n + 1) l = @List.rec Value (fun _ => List Value) [] (fun x r _ => bigs n (x :: r)) (drop16 l) := rfl
    have e : l.drop (16 * (n + 1)) = (l.drop 16).drop (16 * n) := by rw [List.drop_drop]; congr 1; omega
    rw [h, e, ← drop16_eq]
    cases drop16 l with
    | nil => simp
    | cons x r => exact bigs_eq n (x :: r)

noncomputable def ones (n : Nat) : List Value → List Value := @Nat.rec (fun _ => List Value → List Value) (fun l => l) (fun _ ih l => ih (tailR l)) n
theorem ones_eq : ∀ (n : Nat) (l : List Value), ones n l = l.drop n
  | 0, l => rfl
  | n + 1, l => by
    have h : ones (n + 1) l = ones n (tailR l) := rfl
    rw [h, ones_eq n, tailR_eq, List.drop_drop]
    congr 1
    omega

/-- What stands behind o cells. -/
noncomputable def dropF (o : Nat) (l : List Value) : List Value := ones (Nat.mod o 16) (bigs (Nat.div o 16) l)
theorem dropF_eq (o : Nat) (l : List Value) : dropF o l = l.drop o := by
  unfold dropF
  rw [ones_eq, bigs_eq, List.drop_drop]
  congr 1
  show 16 * (o / 16) + o % 16 = o
  omega

/-- Some cells. -/
noncomputable def cellsLit : Cont → Nat → Nat → Option (List Value)
  | .obj (.cells c _ _), o, n => litN (dropF o c.toList) n
  | .obj _, _, _ => none
  | .row _ _ _ _ xs, o, n => litN (dropF o xs) n
  | .seg b xs, o, n => match Nat.ble b o with
    | true => litN (dropF (Nat.sub o b) xs) n
    | false => none

theorem cellsLit_spec {ct : Cont} {o n : Nat} {cs : List Value} (h : cellsLit ct o n = some cs) : cs.length = n ∧ ∀ (j : Nat) (u : Value), cs[j]? = some u → ct.at (o + j) = some u := by
  cases ct with
  | obj ob =>
    cases ob with
    | cells c t f =>
      obtain ⟨h1, h2⟩ := litN_spec h
      rw [dropF_eq] at h2
      exact ⟨h1, fun j u hu => by simpa [Cont.at, List.getElem?_drop] using h2 j u hu⟩
    | _ => cases h
  | row e size m cap xs =>
    obtain ⟨h1, h2⟩ := litN_spec h
    rw [dropF_eq] at h2
    exact ⟨h1, fun j u hu => by simpa [Cont.at, List.getElem?_drop] using h2 j u hu⟩
  | seg b xs =>
    simp only [cellsLit] at h
    split at h
    · rename_i hb
      have hb := Nat.le_of_ble_eq_true hb
      obtain ⟨h1, h2⟩ := litN_spec h
      refine ⟨h1, fun j u hu => ?_⟩
      rw [dropF_eq] at h2
      have := h2 j u hu
      simp only [Cont.at]
      rw [if_pos (by omega)]
      change (xs.drop (o - b))[j]? = some u at this
      rw [List.getElem?_drop] at this
      rw [show o + j - b = o - b + j by omega]
      exact this
    · cases h

section
variable {α : Type}
def cellsT (ct : Cont) : List Value → Nat → Nat → (List Value → T α) → T α
  | _, _, 0, k => k []
  | zs, o, n + 1, k => loadT zs.head? (ct.at o) fun v => cellsT ct zs.tail (o + 1) n fun l => k (v :: l)

theorem cellsT_spec {ct : Cont} {K : α → Prop} : ∀ {n : Nat} {zs : List Value} {o : Nat} {k : List Value → T α}, (cellsT ct zs o n k).all K → ∃ cs : List Value, cs.length = n ∧ (∀ (j : Nat) (u : Value), cs[j]? = some u → ct.at (o + j) = some u) ∧ (k cs).all K
  | 0, zs, o, k, h => ⟨[], rfl, fun j u hu => by simp at hu, h⟩
  | n + 1, zs, o, k, h => by
    simp only [cellsT] at h
    obtain ⟨v, hv, h⟩ := loadT_spec h
    obtain ⟨cs, h1, h2, h3⟩ := cellsT_spec h
    refine ⟨v :: cs, by simp [h1], fun j u hu => ?_, h3⟩
    cases j with
    | zero => simp only [List.getElem?_cons_zero, Option.some.injEq] at hu; subst hu; exact hv
    | succ j => rw [show o + (j + 1) = o + 1 + j by omega]; exact h2 j u (by simpa using hu)

variable (P)
def aggOf (t : TypeId) : Option Bool := match P.underlying t with
  | some (.struct _) => some true
  | some (.array _ _) => some true
  | some _ => some false
  | none => none

def sizeP (t : TypeId) : Option Nat := match P.info? t with
  | some i => some i.size
  | none => none

def zeroCells (t : TypeId) : List Value := match P.info? t with
  | some i => match i.zero with
    | some z => z.cells.toList
    | none => []
  | none => []

def finL (g : Bool) (cs : List Value) (k : Value → T α) : T α := match g with
  | true => k (.agg cs.toArray)
  | false => match cs with
    | [v] => k v
    | _ => .fail

/-- What is known of a cell. -/
def HasL (L : List Blk) (b o : Nat) (v : Value) : Prop := ∃ q ∈ L, q.nm = b ∧ q.ct.at o = some v

/-- What such a cell holds, by its type's zero. -/
def kindH (z : Value) (Q : Value → Prop) (k : Value → T α) : T α := match z with
  | .int kd _ => .need (∃ i, Q (.int kd i)) (.ask fun x => .hyp (∀ u, Q u → u = .int kd x.i) (k (.int kd x.i)))
  | .bool _ => .need (∃ b, Q (.bool b)) (.ask fun x => .hyp (∀ u, Q u → u = .bool x.b) (k (.bool x.b)))
  | .string _ => .need (∃ s, Q (.string s)) (.ask fun x => .hyp (∀ u, Q u → u = .string (strV x.v)) (k (.string (strV x.v))))
  | _ => .need (∃ v, Q v) (.ask fun x => .hyp (∀ u, Q u → u = x.v) (k x.v))

def cellsH (L : List Blk) (b : Nat) : List Value → Nat → Nat → (List Value → T α) → T α
  | _, _, 0, k => k []
  | zs, o, n + 1, k => kindH (zs.headD undef) (HasL L b o) fun v => cellsH L b zs.tail (o + 1) n fun l => k (v :: l)

/-- A load out of what is known, however much that is. -/
noncomputable def loadH (t : TypeId) (b o : Nat) (L : List Blk) (k : Value → T α) : T α := match aggOf P t, sizeP P t with
  | some g, some (n + 1) => .or (.tail (L.map (·.nm))) fun d => cellsH (L.drop d) b (zeroCells P t) o (n + 1) fun cs => finL g cs k
  | _, _ => .fail

noncomputable def loadK (t : TypeId) (b o : Nat) (L : List Blk) (k : Value → T α) : T α := match aggOf P t, sizeP P t with
  | some g, some n => pickT L b fun p _ => altT (match cellsLit p.ct o n with
      | some cs => finL g cs k
      | none => .fail)
    (altT (match p.ct, g with
      | .obj (.cells c _ _), true => match Nat.beq o 0 with
        | true => .need (c.size = n) (k (.agg c))
        | false => .fail
      | _, _ => .fail)
      (cellsT p.ct (zeroCells P t) o n fun cs => finL g cs k))
  | _, _ => .fail

noncomputable def loadN (t : TypeId) (b o : Nat) (L : List Blk) (k : Value → T α) : T α := .or .force (two (loadK P t b o L k) (loadH P t b o L k))

/-- What is loaded, and from where. -/
def loadOf (ρ : Operand → Value) (o : Oper) : Option (TypeId × Nat × Nat) := match o.op with
  | .load t x => match ρ x with
    | .pointer (some ⟨b, off, none⟩) => some (t, b, off)
    | _ => none
  | _ => none

variable {P}
theorem loadOf_run {ρ : Operand → Value} {o : Oper} {t : TypeId} {b off : Nat} (h : loadOf ρ o = some (t, b, off)) (W : World) : (execOp ρ o).run P W = (opV (loadVar t ⟨b, off, none⟩)).run P W := by
  unfold loadOf at h
  split at h
  · rename_i t' x ho
    split at h
    · rename_i b' off' hx
      simp only [Option.some.injEq, Prod.mk.injEq] at h
      obtain ⟨rfl, rfl, rfl⟩ := h
      unfold execOp
      rw [ho]
      simp only [hx]
      rfl
    · cases h
  · cases h

theorem run_isAgg {t : TypeId} {g : Bool} (h : aggOf P t = some g) (W : World) : (isAgg t).run P W = .ok g W := by
  unfold aggOf at h
  unfold isAgg
  split at h
  · rename_i hu; injection h with h; subst h; simp [run_underlying hu]
  · rename_i hu; injection h with h; subst h; simp [run_underlying hu]
  · rename_i d h1 h2 hu
    injection h with h
    subst h
    simp only [Sem.run_bind, run_underlying hu, Result.andThen_ok]
    cases d <;> first | rfl | exact (h1 _ rfl).elim | exact (h2 _ _ rfl).elim
  · cases h

theorem sizeP_spec {t : TypeId} {n : Nat} (h : sizeP P t = some n) : ∃ i, P.info? t = some i ∧ i.size = n := by
  unfold sizeP at h
  split at h
  · rename_i i hi; injection h with h; exact ⟨i, hi, h⟩
  · cases h

theorem loadCells_run {ct : Cont} {b o : Nat} {cs : List Value} {W : World} (hs : ct.sat W.heap[b]?) (hc : ∀ (j : Nat) (u : Value), cs[j]? = some u → ct.at (o + j) = some u) : (loadCells ⟨b, o, none⟩ cs.length).run P W = .ok cs.toArray W :=
  run_loadCells_list W _ cs fun j u hu => by rw [addr_add]; exact cell_at rfl hs rfl (hc j u hu)

theorem finL_spec {t : TypeId} {g : Bool} {n : Nat} (hg : aggOf P t = some g) (hn : sizeP P t = some n) {ct : Cont} {b o : Nat} {cs : List Value} {k : Value → T α} {K : α → Prop} (hl : cs.length = n) (hc : ∀ (j : Nat) (u : Value), cs[j]? = some u → ct.at (o + j) = some u) (h : (finL g cs k).all K) :
    ∃ v, (k v).all K ∧ ∀ W : World, ct.sat W.heap[b]? → (loadVar t ⟨b, o, none⟩).run P W = .ok v W := by
  obtain ⟨i, hi, hsz⟩ := sizeP_spec hn
  unfold finL at h
  split at h
  · refine ⟨_, h, fun W hs => ?_⟩
    have hL := loadCells_run (P := P) hs hc
    rw [hl] at hL
    unfold loadVar
    simp [run_isAgg hg, sizeOf, typeInfo, hi, hsz, hL]
  · split at h
    · rename_i v
      refine ⟨v, h, fun W hs => ?_⟩
      have h0 : W.cell? ⟨b, o, none⟩ = some v := cell_at rfl hs rfl (by have := hc 0 v rfl; simpa using this)
      unfold loadVar
      simp [run_isAgg hg, h0]
    · exact h.elim

theorem loadK_spec {t : TypeId} {b o : Nat} {L : List Blk} {k : Value → T α} {K : α → Prop} (h : (loadK P t b o L k).all K) : ∃ v, (k v).all K ∧ ∀ W, There L W → (opV (loadVar t ⟨b, o, none⟩)).run P W = .ok (.value v) W := by
  unfold loadK at h
  split at h
  · rename_i g n hg hn
    obtain ⟨p, j, hj, hb, h⟩ := pickT_spec h
    have fin : (∃ v, (k v).all K ∧ ∀ W : World, p.ct.sat W.heap[b]? → (loadVar t ⟨b, o, none⟩).run P W = .ok v W) → ∃ v, (k v).all K ∧ ∀ W, There L W → (opV (loadVar t ⟨b, o, none⟩)).run P W = .ok (.value v) W := fun ⟨v, h1, h2⟩ =>
      ⟨v, h1, fun W hW => opV_run (h2 W (by rw [hb]; exact hW p (List.mem_of_getElem? hj)))⟩
    rcases altT_spec h with h | h
    · split at h
      · rename_i cs hcs
        obtain ⟨h1, h2⟩ := cellsLit_spec hcs
        exact fin (finL_spec hg hn h1 h2 h)
      · exact h.elim
    · rcases altT_spec h with h | h
      · have hwhole : ∀ (ct : Cont) (gg : Bool), ct = p.ct → gg = g → (match ct, gg with
          | .obj (.cells c _ _), true => match Nat.beq o 0 with
            | true => T.need (c.size = n) (k (.agg c))
            | false => .fail
          | _, _ => .fail : T α).all K → ∃ c t' f, p.ct = .obj (.cells c t' f) ∧ g = true ∧ o = 0 ∧ c.size = n ∧ (k (.agg c)).all K := by
          intro ct gg hct hgg hm
          split at hm
          · rename_i c t' f
            split at hm
            · rename_i ho
              exact ⟨c, t', f, hct.symm, hgg.symm, Nat.eq_of_beq_eq_true ho, hm.1, hm.2⟩
            · exact hm.elim
          · exact hm.elim
        obtain ⟨c, t', f, hct, rfl, rfl, hcs, h4⟩ := hwhole _ _ rfl rfl h
        refine fin (finL_spec (cs := c.toList) hg hn (by simpa using hcs) (fun j u hu => ?_) (by simpa [finL] using h4))
        rw [hct, Nat.zero_add]
        exact hu
      · obtain ⟨cs, h1, h2, h⟩ := cellsT_spec h
        exact fin (finL_spec hg hn h1 h2 h)
  · exact h.elim

theorem There.drop {L : List Blk} {W : World} (h : There L W) (d : Nat) : There (L.drop d) W := fun p hp => h p (List.mem_of_mem_drop hp)

theorem hasL_cell {L : List Blk} {W : World} (hW : There L W) {b o : Nat} {v : Value} (h : HasL L b o v) : ∃ c t f, W.heap[b]? = some (.cells c t f) ∧ c[o]? = some v := by
  obtain ⟨q, hq, rfl, hv⟩ := h
  exact Cont.at_spec (hW q hq) hv

theorem hasL_one {L : List Blk} {W : World} (hW : There L W) {b o : Nat} {u v : Value} (h : HasL L b o u) (h' : HasL L b o v) : u = v := by
  obtain ⟨c, t, f, h1, h2⟩ := hasL_cell hW h
  obtain ⟨c', t', f', h3, h4⟩ := hasL_cell hW h'
  rw [h1] at h3
  injection h3 with h3
  injection h3 with h3
  subst h3
  rw [h2] at h4
  injection h4

theorem kindH_spec {z : Value} {Q : Value → Prop} {k : Value → T α} {K : α → Prop} (hQ : ∀ u v, Q u → Q v → u = v) (h : (kindH z Q k).all K) : ∃ v, Q v ∧ (k v).all K := by
  unfold kindH at h
  split at h
  · obtain ⟨⟨i, hi⟩, h⟩ := h
    exact ⟨_, hi, h ⟨0, i, false, undef, []⟩ fun u hu => hQ _ _ hu hi⟩
  · obtain ⟨⟨b, hb⟩, h⟩ := h
    exact ⟨_, hb, h ⟨0, 0, b, undef, []⟩ fun u hu => hQ _ _ hu hb⟩
  · obtain ⟨⟨s, hs⟩, h⟩ := h
    exact ⟨_, hs, h ⟨0, 0, false, .string s, []⟩ fun u hu => hQ _ _ hu hs⟩
  · obtain ⟨⟨v, hv⟩, h⟩ := h
    exact ⟨_, hv, h ⟨0, 0, false, v, []⟩ fun u hu => hQ _ _ hu hv⟩

theorem cellsH_spec {L : List Blk} {W : World} (hW : There L W) {b : Nat} {K : α → Prop} : ∀ {n : Nat} {zs : List Value} {o : Nat} {k : List Value → T α}, (cellsH L b zs o n k).all K → ∃ cs : List Value, cs.length = n ∧ (∀ (j : Nat) (u : Value), cs[j]? = some u → HasL L b (o + j) u) ∧ (k cs).all K
  | 0, zs, o, k, h => ⟨[], rfl, fun j u hu => by simp at hu, h⟩
  | n + 1, zs, o, k, h => by
    simp only [cellsH] at h
    obtain ⟨v, hv, h⟩ := kindH_spec (fun _ _ h h' => hasL_one hW h h') h
    obtain ⟨cs, h1, h2, h3⟩ := cellsH_spec hW h
    refine ⟨v :: cs, by simp [h1], fun j u hu => ?_, h3⟩
    cases j with
    | zero => simp only [List.getElem?_cons_zero, Option.some.injEq] at hu; subst hu; exact hv
    | succ j => rw [show o + (j + 1) = o + 1 + j by omega]; exact h2 j u (by simpa using hu)

theorem hasL_seg {L : List Blk} {W : World} (hW : There L W) {b o : Nat} {cs : List Value} (hne : 0 < cs.length) (h : ∀ (j : Nat) (u : Value), cs[j]? = some u → HasL L b (o + j) u) : (Cont.seg o cs).sat W.heap[b]? := by
  obtain ⟨c, t, f, h1, -⟩ := hasL_cell hW (h 0 _ (List.getElem?_eq_getElem hne))
  refine ⟨c, t, f, h1, fun j u hu => ?_⟩
  obtain ⟨c', t', f', h3, h4⟩ := hasL_cell hW (h j u hu)
  rw [h1] at h3
  injection h3 with h3
  injection h3 with h3
  subst h3
  simpa using h4

theorem loadN_spec {t : TypeId} {b o : Nat} {L : List Blk} {k : Value → T α} {K : α → Prop} {W0 : World} (h0 : There L W0) (h : (loadN P t b o L k).all K) : ∃ v, (k v).all K ∧ ∀ W, There L W → (opV (loadVar t ⟨b, o, none⟩)).run P W = .ok (.value v) W := by
  unfold loadN at h
  rcases two_spec h with h | h
  · exact loadK_spec h
  unfold loadH at h
  split at h
  · rename_i g n hg hn
    obtain ⟨d, h⟩ := h
    obtain ⟨cs, h1, h2, h⟩ := cellsH_spec (h0.drop d) h
    obtain ⟨v, h3, h4⟩ := finL_spec (ct := .seg o cs) (b := b) (o := o) hg hn h1 (fun j u hu => by
      simp only [Cont.at]
      rw [if_pos (by omega), show o + j - o = j by omega]
      exact hu) h
    exact ⟨v, h3, fun W hW => opV_run (h4 W (hasL_seg (hW.drop d) (by omega) h2))⟩
  · exact h.elim
end

/-! ### Results -/

section
variable {α : Type} (P)
noncomputable def resT (g : Nat → Value) (L : List Blk) : List ResultVar → (List Value → T α) → T α
  | [], k => k []
  | .tmp t :: r, k => resT g L r fun l => k (g t :: l)
  | .cell s t :: r, k => match g s with
    | .pointer (some ⟨b, off, none⟩) => loadN P t b off L fun v => resT g L r fun l => k (v :: l)
    | _ => .fail

def resOne (g : Nat → Value) (r : ResultVar) : Sem Value := match r with
  | .tmp t => pure (g t)
  | .cell a t => do loadVar t (← asAddr (g a))

theorem resF_def (fn : Func) (g : Nat → Value) : resF fn g = (do
    let vs ← fn.results.mapM (resOne g)
    pure (if h : vs.size = 1 then vs[0] else .tuple vs)) := rfl

def oneV (l : List Value) : Value := match l with
  | [v] => v
  | l => .tuple l.toArray

variable {P}
theorem resT_spec {g : Nat → Value} {L : List Blk} {K : α → Prop} {W0 : World} (h0 : There L W0) : ∀ {rs : List ResultVar} {k : List Value → T α}, (resT P g L rs k).all K → ∃ l, (k l).all K ∧ ∀ W, There L W → (rs.mapM (resOne g)).run P W = .ok l W
  | [], k, h => ⟨[], h, fun W _ => rfl⟩
  | .tmp t :: r, k, h => by
    obtain ⟨l, h1, h2⟩ := resT_spec h0 (rs := r) h
    refine ⟨_, h1, fun W hW => ?_⟩
    simp only [List.mapM_cons, Sem.run_bind, resOne, Sem.run_pure, Result.andThen_ok]
    rw [h2 W hW]
    rfl
  | .cell s t :: r, k, h => by
    simp only [resT] at h
    split at h
    · rename_i b off hg
      obtain ⟨v, h, hrun⟩ := loadN_spec h0 h
      obtain ⟨l, h1, h2⟩ := resT_spec h0 (rs := r) h
      refine ⟨_, h1, fun W hW => ?_⟩
      have h3 : (loadVar t ⟨b, off, none⟩).run P W = .ok v W := by
        have := hrun W hW
        unfold opV at this
        rw [Sem.run_bind] at this
        cases hx : (loadVar t ⟨b, off, none⟩).run P W with
        | ok u w =>
          rw [hx] at this
          simp only [Result.andThen_ok, Sem.run_pure, Result.ok.injEq, Next.value.injEq] at this
          rw [this.1, this.2]
        | halt x w => rw [hx] at this; cases this
      simp only [List.mapM_cons, Sem.run_bind]
      have h4 : (resOne g (.cell s t)).run P W = .ok v W := by simp [resOne, hg, asAddr, h3]
      rw [h4]
      simp only [Result.andThen_ok]
      rw [h2 W hW]
      rfl
    · exact h.elim

theorem resF_run {fn : Func} {g : Nat → Value} {l : List Value} {W : World} (h : (fn.results.toList.mapM (resOne g)).run P W = .ok l W) : (resF fn g).run P W = .ok (oneV l) W := by
  rw [resF_def, Array.mapM_eq_mapM_toList]
  simp only [map_eq_pure_bind, bind_assoc, pure_bind, Sem.run_bind]
  rw [h]
  simp only [Result.andThen_ok, Sem.run_pure]
  congr 1
  unfold oneV
  split
  · rename_i hs
    obtain ⟨v, rfl⟩ : ∃ v, l = [v] := List.length_eq_one_iff.1 (by simpa using hs)
    rfl
  · rename_i hs
    split
    · rename_i v; simp at hs
    · rfl
end

/-! ### What can be reckoned at once -/

def kindOf (P : Program) (t : TypeId) : Option IntKind := match P.underlying t with
  | some (.int k) => some k
  | _ => none

theorem kindOf_spec {t : TypeId} {k : IntKind} (h : kindOf P t = some k) : P.underlying t = some (.int k) := by
  unfold kindOf at h
  split at h
  · rename_i hu
    injection h with h
    rw [hu, h]
  · cases h

def fieldQ (P : Program) (s : TypeId) (f b off : Nat) : Option Value := match P.underlying s with
  | some (.struct fs) => match fs[f]? with
    | some fl => match sizeP P fl.type with
      | some n => match Nat.beq n 0 with
        | true => none
        | false => some (.pointer (some ⟨b, Nat.add off fl.offset, none⟩))
      | none => none
    | none => none
  | _ => none

theorem fieldQ_run {s : TypeId} {f b off : Nat} {v : Value} (h : fieldQ P s f b off = some v) (W : World) : (Instr.fieldAt s (.pointer (some ⟨b, off, none⟩)) f).run P W = .ok v W := by
  unfold fieldQ at h
  split at h
  · rename_i fs hu
    split at h
    · rename_i fl hf
      split at h
      · rename_i n hn
        split at h
        · cases h
        · rename_i h0
          injection h with h
          subst h
          obtain ⟨i, hi, hs⟩ := sizeP_spec hn
          have hne : ¬ i.size = 0 := fun he => by rw [hs] at he; rw [he] at h0; cases h0
          simp [Instr.fieldAt, run_underlying hu, hf, Instr.sureAddr, fieldPlace, sizeOf, typeInfo, hi, hne, addr_add]
      · cases h
    · cases h
  · cases h

/-! ### Structs that are compared -/

def eqFieldsQ (P : Program) : List Field → List Value → List Value → Nat → Option Bool
  | [], _, _, _ => some true
  | f :: fs, .int k a :: xs, .int k' b :: ys, j => match kindOf P f.type with
    | some _ => match Nat.beq f.offset j && (Nat.beq (Ex.kIx k) (Ex.kIx k') && !(f.name == "_")) with
      | true => match eqFieldsQ P fs xs ys (j + 1) with
        | some r => some (eqQ a b && r)
        | none => none
      | false => none
    | none => none
  | _, _, _, _ => none

theorem eqFieldsQ_run {W : World} (d : Nat) (X Y : Array Value) : ∀ (fs : List Field) (xs ys : List Value) (j : Nat) (r : Bool), X.toList.drop j = xs → Y.toList.drop j = ys → eqFieldsQ P fs xs ys j = some r → (Op.eqFields (d + 1) X Y fs).run P W = .ok r W
  | [], xs, ys, j, r, _, _, h => by
    simp only [eqFieldsQ, Option.some.injEq] at h
    subst h
    rfl
  | f :: fs, xs, ys, j, r, hx, hy, h => by
    unfold eqFieldsQ at h
    split at h
    · rename_i he; cases he
    · rename_i f1 fs1 k a xs' k' b ys' he
      injection he with he1 he2
      subst he1 he2
      split at h
      · rename_i k0 hk
        split at h
        · rename_i hc
          simp only [Bool.and_eq_true, Nat.beq_eq, Bool.not_eq_true', beq_eq_false_iff_ne] at hc
          obtain ⟨h1, h2, h3⟩ := hc
          have h2 := Ex.kIx_inj h2
          subst h2
          split at h
          · rename_i r' hr
            injection h with h
            subst h
            have hX : X[f.offset]? = some (.int k a) := by
              have := congrArg (·[0]?) hx
              simp only [List.getElem?_drop, List.getElem?_cons_zero, Nat.add_zero] at this
              rw [h1]; simpa using this
            have hY : Y[f.offset]? = some (.int k b) := by
              have := congrArg (·[0]?) hy
              simp only [List.getElem?_drop, List.getElem?_cons_zero, Nat.add_zero] at this
              rw [h1]; simpa using this
            have hd : ∀ {Z : Array Value} {u : Value} {l : List Value} {n : Nat}, Z.toList.drop n = u :: l → Z.toList.drop (n + 1) = l := fun {Z u l n} hz => by
              rw [← List.drop_drop, hz]; rfl
            have ih := eqFieldsQ_run (W := W) d X Y fs xs' ys' _ r' (hd hx) (hd hy) hr
            have hu := kindOf_spec hk
            have hagg : (isAgg f.type).run P W = .ok false W := run_isAgg (by unfold aggOf; rw [hu]) W
            have pX : (part f.type X f.offset).run P W = .ok (.int k a) W := by simp [part, hagg, hX]
            have pY : (part f.type Y f.offset).run P W = .ok (.int k b) W := by simp [part, hagg, hY]
            simp only [Op.eqFields, ne_eq, h3, not_false_eq_true, if_true, Sem.run_bind, pX, pY, Result.andThen_ok, run_equalIn_int W d f.type k k0 a b hu, eqQ_eq]
            cases (a == b)
            · rfl
            · simpa using ih
          · cases h
        · cases h
      · cases h
    · cases h

def eqAggQ (P : Program) (op : BinOp) (t : TypeId) (xs ys : Array Value) : Option Value := match P.underlying t with
  | some (.struct fs) => match P.stoodInHeld t with
    | false => match P.eqGuardType P.depth t with
      | false => match eqFieldsQ P fs.toList xs.toList ys.toList 0 with
        | some r => match op with
          | .eql => some (.bool r)
          | .neq => some (.bool (!r))
          | _ => none
        | none => none
      | true => none
    | true => none
  | _ => none

theorem eqAggQ_run {op : BinOp} {t : TypeId} {x y : Operand} {xs ys : Array Value} {v : Value} (h : eqAggQ P op t xs ys = some v) (W : World) : (do eqGuard op t x y (.agg xs) (.agg ys); binOp op t (.agg xs) (.agg ys) : Sem Value).run P W = .ok v W := by
  unfold eqAggQ at h
  split at h
  · rename_i fs hu
    split at h
    · rename_i hh
      split at h
      · rename_i hg
        split at h
        · rename_i r hr
          have hf : P.fieldsOf t = fs := by simp [Program.fieldsOf, hu]
          have hu' : P.underlying t = some (.struct (P.fieldsOf t)) := by rw [hf]; exact hu
          have he := run_equalIn_struct (P := P) W 9999 t xs ys hu' hh
          rw [hf, eqFieldsQ_run (W := W) 9998 xs ys fs.toList xs.toList ys.toList 0 r rfl rfl hr] at he
          split at h
          · injection h with h
            subst h
            simp only [Sem.run_bind, run_eqGuard_agg W _ t x y xs ys hg, Result.andThen_ok, run_eql_struct, he]
          · injection h with h
            subst h
            simp only [Sem.run_bind, run_eqGuard_agg W _ t x y xs ys hg, Result.andThen_ok, run_neq_struct, he]
          · cases h
        · cases h
      · cases h
    · cases h
  · cases h

def isShift : BinOp → Bool
  | .shl => true
  | .shr => true
  | _ => false

/-- One of two values. -/
def mergeV (b : Bool) : Value → Value → Option Value
  | .bool p, .bool q => some (.bool (bif b then p else q))
  | .int k p, .int k' q => match Nat.beq (Ex.kIx k) (Ex.kIx k') with
    | true => some (.int k (bif b then p else q))
    | false => none
  | _, _ => none

theorem mergeV_spec {b : Bool} {x y v : Value} (h : mergeV b x y = some v) : v = if b = true then x else y := by
  unfold mergeV at h
  split at h
  · injection h with h; subst h; cases b <;> rfl
  · split at h
    · rename_i hk
      have hk := Ex.kIx_inj (Nat.eq_of_beq_eq_true hk)
      injection h with h
      subst h hk
      cases b <;> rfl
    · cases h
  · cases h

theorem pick_run {ρ : Operand → Value} {o : Oper} {c x y : Operand} {b : Bool} (ho : o.op = .pick c x y) (hc : ρ c = .bool b) (W : World) : (execOp ρ o).run P W = .ok (.value (if b = true then ρ x else ρ y)) W := by
  unfold execOp
  rw [ho]
  simp only [hc]
  cases b <;> rfl

/-- Are two texts one? -/
noncomputable def eqL (l : List UInt8) : List UInt8 → Bool := @List.rec UInt8 (fun _ => List UInt8 → Bool) (fun t => @List.rec UInt8 (fun _ => Bool) true (fun _ _ _ => false) t) (fun x _ ih t => @List.rec UInt8 (fun _ => Bool) false (fun y r _ => @Bool.rec (fun _ => Bool) false (ih r) (Nat.beq x.toNat y.toNat)) t) l
theorem eqL_eq : ∀ (l t : List UInt8), eqL l t = (l == t)
  | [], [] => rfl
  | [], _ :: _ => rfl
  | _ :: _, [] => rfl
  | x :: l, y :: t => by
    have h : eqL (x :: l) (y :: t) = @Bool.rec (fun _ => Bool) false (eqL l t) (Nat.beq x.toNat y.toNat) := rfl
    rw [h, eqL_eq l t]
    have e : ((x :: l) == (y :: t)) = ((x == y) && (l == t)) := rfl
    rw [e]
    by_cases hxy : x = y
    · subst hxy
      have : Nat.beq x.toNat x.toNat = true := Nat.beq_refl _
      rw [this]
      simp
    · have h1 : Nat.beq x.toNat y.toNat = false := by
        cases hb : Nat.beq x.toNat y.toNat with
        | false => rfl
        | true => exact absurd (UInt8.toNat_inj.1 (Nat.eq_of_beq_eq_true hb)) hxy
      rw [h1]
      simp [hxy]
noncomputable def eqS (a b : ByteArray) : Bool := eqL a.data.toList b.data.toList
theorem eqS_eq (a b : ByteArray) : eqS a b = (a.toList == b.toList) := by
  unfold eqS
  rw [eqL_eq, ByteArray.toList_eq, ByteArray.toList_eq]

/-- Strings compared. -/
noncomputable def strQ (op : BinOp) (x y : Value) : Option Value := match x with
  | .string a => match y with
    | .string b => match op with
      | .eql => some (.bool (eqS a b))
      | .neq => some (.bool (!(eqS a b)))
      | _ => none
    | _ => none
  | _ => none

theorem strQ_run {P : Program} {op : BinOp} {t : TypeId} {x y : Operand} {a b v : Value} (h : strQ op a b = some v) (W : World) : (do eqGuard op t x y a b; binOp op t a b : Sem Value).run P W = .ok v W := by
  unfold strQ at h
  split at h
  · split at h
    · split at h
      · injection h with h
        subst h
        rw [eqS_eq]
        rfl
      · injection h with h
        subst h
        rw [eqS_eq]
        rfl
      · cases h
    · cases h
  · cases h

noncomputable def quick (P : Program) (ρ : Operand → Value) (o : Oper) : Option Value := match o.op with
  | .pick c x y => match ρ c with
    | .bool b => mergeV b (ρ x) (ρ y)
    | _ => none
  | .move x | .assign x => some (ρ x)
  | .binOp op t x y _ => match isShift op with
    | true => none
    | false => match ρ x, ρ y with
      | .agg xs, .agg ys => eqAggQ P op t xs ys
      | .string a, .string b => strQ op (.string a) (.string b)
      | a, b => twoQ op a b
  | .convert src dst x => match kindOf P src, kindOf P dst with
    | some _, some k => match ρ x with
      | .int _ n => some (.int k (wrapQ k n))
      | _ => none
    | _, _ => none
  | .unOp op _ x => match op, ρ x with
    | .neg, .int k n => some (.int k (wrapQ k (Ex.subQ' 0 n)))
    | .xor, .int k n => some (.int k (Ex.xorQ k (match k.signed with | true => -1 | false => k.max) n))
    | .not, .bool b => some (.bool (!b))
    | _, _ => none
  | .extract t ix => match ρ t with
    | .tuple vs => nth vs.toList ix
    | _ => none
  | .fieldAddr s x f => match ρ x with
    | .pointer (some ⟨b, off, none⟩) => fieldQ P s f b off
    | _ => none
  | _ => none

theorem quick_run {ρ : Operand → Value} {o : Oper} {v : Value} (h : quick P ρ o = some v) (W : World) : (execOp ρ o).run P W = .ok (.value v) W := by
  unfold quick at h
  split at h
  · rename_i c x y hx
    split at h
    · rename_i b hc
      rw [mergeV_spec h]
      exact pick_run hx hc W
    · cases h
  · rename_i x hx
    injection h with h
    subst h
    unfold execOp
    rw [hx]
    rfl
  · rename_i x hx
    injection h with h
    subst h
    unfold execOp
    rw [hx]
    rfl
  · rename_i op t x y _ hx
    split at h
    · cases h
    split at h
    · rename_i xs ys h1 h2
      have := eqAggQ_run (x := x) (y := y) h W
      unfold execOp
      rw [hx]
      simp only [h1, h2]
      exact opV_run this
    · rename_i a b h1 h2
      have := strQ_run (P := P) (t := t) (x := x) (y := y) h W
      unfold execOp
      rw [hx]
      simp only [h1, h2]
      exact opV_run this
    · have := twoQ_run (P := P) (t := t) (x := x) (y := y) h W
      unfold execOp
      rw [hx]
      exact opV_run this
  · rename_i src dst x hx
    split at h
    · rename_i k0 k hs hd
      split at h
      · rename_i k1 n hv
        injection h with h
        subst h
        unfold execOp
        rw [hx]
        simp only [hv]
        refine opV_run ?_
        simp [convert, run_underlying (kindOf_spec hs), run_underlying (kindOf_spec hd), Conv.intToInt, wrapQ_eq]
      · cases h
    · cases h
  · rename_i op t x hx
    split at h
    · rename_i k n hv
      injection h with h
      subst h
      unfold execOp
      rw [hx]
      simp only [hv]
      refine opV_run ?_
      simp [Op.unary, Op.intArith, wrapQ_eq, Ex.subQ_eq]
    · rename_i k n hv
      injection h with h
      subst h
      unfold execOp
      rw [hx]
      simp only [hv]
      refine opV_run ?_
      cases k <;> simp [Op.unary, Op.intBits, Ex.xorQ_eq, IntKind.signed]
    · rename_i b hv
      injection h with h
      subst h
      unfold execOp
      rw [hx]
      simp only [hv]
      exact opV_run rfl
    · cases h
  · rename_i t ix hx
    split at h
    · rename_i vs hv
      rw [nth_eq, Array.getElem?_toList] at h
      unfold execOp
      rw [hx]
      simp only [hv]
      refine opV_run ?_
      simp [Instr.extract, h]
    · cases h
  · rename_i s x f hx
    split at h
    · rename_i b off hv
      unfold execOp
      rw [hx]
      simp only [hv]
      exact opV_run (fieldQ_run h W)
    · cases h
  · cases h

/-- A cell that is stored. -/
def storeOf (P : Program) (ρ : Operand → Value) (o : Oper) : Option (Nat × Nat × Value) := match o.op with
  | .store t x v => match ρ x with
    | .pointer (some ⟨b, off, none⟩) => match ρ v with
      | .agg _ => none
      | .tuple _ => none
      | u => match sizeP P t with
        | some n => match Nat.beq n 1 with
          | true => some (b, off, u)
          | false => none
        | none => none
    | _ => none
  | _ => none

theorem storeOf_run {ρ : Operand → Value} {o : Oper} {b off : Nat} {v : Value} (h : storeOf P ρ o = some (b, off, v)) (W : World) : (execOp ρ o).run P W = (match (Go.store ⟨b, off, none⟩ v).run P W with
    | .ok _ w => .ok .skip w
    | .halt h w => .halt h w) := by
  unfold storeOf at h
  split at h
  · rename_i t x vv ho
    split at h
    · rename_i b' off' hx
      have key : ∀ u, ρ vv = u → u.cells = #[u] → (match sizeP P t with
        | some n => match Nat.beq n 1 with
          | true => some (b', off', u)
          | false => none
        | none => none) = some (b, off, v) → (execOp ρ o).run P W = (match (Go.store ⟨b, off, none⟩ v).run P W with
            | .ok _ w => .ok .skip w
            | .halt h w => .halt h w) := fun u hu hc h => by
        split at h
        · rename_i n hn
          split at h
          · rename_i h1
            have h1 := Nat.eq_of_beq_eq_true h1
            subst h1
            simp only [Option.some.injEq, Prod.mk.injEq] at h
            obtain ⟨rfl, rfl, rfl⟩ := h
            obtain ⟨i, hi, hs⟩ := sizeP_spec hn
            unfold execOp
            rw [ho]
            simp only [hx, hu]
            simp only [Instr.storeAt, Instr.sureAddr, storeVar, sizeOf, typeInfo, storeCells, hc, Sem.run_bind, Sem.run_pure, run_program, hi, hs, Result.andThen_ok]
            simp only [Array.size_singleton, addr_add, Nat.add_zero]
            cases h2 : (Go.store ⟨b', off', none⟩ u).run P W <;> simp [h2, Result.andThen]
          · cases h
        · cases h
      cases hv : ρ vv <;> rw [hv] at h <;> first | (cases h; done) | exact key _ hv rfl h
    · cases h
  · cases h

/-- A whole struct that is stored. -/
def wholeOf (P : Program) (ρ : Operand → Value) (o : Oper) : Option (TypeId × Nat × Nat × Nat × Array Value) := match o.op with
  | .store t x v => match ρ x with
    | .pointer (some ⟨b, off, none⟩) => match ρ v with
      | .agg C => match sizeP P t with
        | some n => some (t, n, b, off, C)
        | none => none
      | _ => none
    | _ => none
  | _ => none

theorem wholeOf_run {ρ : Operand → Value} {o : Oper} {t n b : Nat} {C old : Array Value} {ty : TypeId} (h : wholeOf P ρ o = some (t, n, b, 0, C)) (h1 : old.size = C.size) (h2 : n = C.size) (h3 : C.all (·.oneCell') = true) {W : World} (hW : W.heap[b]? = some (.cells old ty (0, 0))) : (execOp ρ o).run P W = .ok .skip (W.setRow b C) := by
  unfold wholeOf at h
  split at h
  · rename_i t' x v ho
    split at h
    · rename_i b' off' hx
      split at h
      · rename_i C' hv
        split at h
        · rename_i n' hn
          simp only [Option.some.injEq, Prod.mk.injEq] at h
          obtain ⟨rfl, rfl, rfl, rfl, rfl⟩ := h
          obtain ⟨i, hi, hs⟩ := sizeP_spec hn
          have := run_storeVar_row (P := P) W b' ty t' old C' hW (by rw [hi]; simp [hs, h2]) h1 h3
          unfold execOp
          rw [ho]
          simp [hx, hv, Instr.storeAt, Instr.sureAddr, this]
        · cases h
      · cases h
    · cases h
  · cases h

/-- A function that is called by its name. -/
def callOf (P : Program) (ρ : Operand → Value) (o : Oper) : Option (FuncId × Array Value) := match o.op with
  | .call c => match c.callee with
    | .value (.func f) => match P.funcs[f]? with
      | some fn => match fn.body with
        | some _ => match fn.name == "runtime.NumGoroutine" with
          | true => none
          | false => some (f, c.args.map ρ)
        | none => none
      | none => none
    | _ => none
  | _ => none

/-! ### x[a:b] -/

/-- A bound that was given, and one that was not. -/
def boundQ (d : Nat) : Option Value → Option Int
  | none => some d
  | some (.int _ i) => some i
  | some _ => none

/-- Where it begins: as it was, if nothing is left behind it. -/
def offQ (c l off size : Nat) : Nat := match Nat.beq l 0 with
  | true => off
  | false => bif Nat.beq c l then off else Nat.add off (Nat.mul l size)

def cutOk (m l h : Int) : Bool := Ex.leQ 0 l && (Ex.leQ l h && Ex.leQ h m)

def sliceQ (P : Program) (t : TypeId) (x : Value) (lo hi : Option Value) : Option (Bool × Prop × Value) := match P.underlying t with
  | some .string => match x with
    | .string s => match boundQ 0 lo, boundQ s.size hi with
      | some l, some h => some (cutOk s.size l h, 0 ≤ l ∧ l ≤ h ∧ h ≤ s.size, .string (s.extract l.toNat h.toNat))
      | _, _ => none
    | _ => none
  | some (.slice e) => match x with
    | .slice a n c => match P.info? e with
      | some inf => match boundQ 0 lo, hi, boundQ n hi with
        | some l, none, some h => match a with
          | none => some (cutOk n l n, 0 ≤ l ∧ l ≤ (n : Int), .slice none (n - l.toNat) (c - l.toNat))
          | some ⟨b, off, none⟩ => some (cutOk n l n, 0 ≤ l ∧ l ≤ (n : Int), .slice (some ⟨b, offQ c l.toNat off inf.size, none⟩) (n - l.toNat) (c - l.toNat))
          | _ => none
        | some l, some _, some h => match a with
          | none => some (cutOk c l h, 0 ≤ l ∧ l ≤ h ∧ h ≤ (c : Int), .slice none (h.toNat - l.toNat) (c - l.toNat))
          | some ⟨b, off, none⟩ => some (cutOk c l h, 0 ≤ l ∧ l ≤ h ∧ h ≤ (c : Int), .slice (some ⟨b, offQ c l.toNat off inf.size, none⟩) (h.toNat - l.toNat) (c - l.toNat))
          | _ => none
        | _, _, _ => none
      | none => none
    | _ => none
  | some (.array n e) => match x with
    | .pointer (some ⟨b, off, none⟩) => match P.info? e with
      | some inf => match boundQ 0 lo, boundQ n hi with
        | some l, some h => some (cutOk n l h, 0 ≤ l ∧ l ≤ h ∧ h ≤ (n : Int), .slice (some ⟨b, offQ n l.toNat off inf.size, none⟩) (h.toNat - l.toNat) (n - l.toNat))
        | _, _ => none
      | none => none
    | _ => none
  | _ => none

theorem cutOk_spec {m l h : Int} {p : Prop} (hp : cutOk m l h = true ∨ p) (hq : p → 0 ≤ l ∧ l ≤ h ∧ h ≤ m) : 0 ≤ l ∧ l ≤ h ∧ h ≤ m :=
  hp.elim (fun h => by simpa only [cutOk, Bool.and_eq_true, Ex.leQ_eq, decide_eq_true_eq] using h) hq

theorem bound_run {v : Value} {i : Int} {y d : Nat} {code : BoundsCode} (hv : boundQ d (some v) = some i) (h0 : 0 ≤ i) (hy : i ≤ (y : Int)) (W : World) : (Instr.sliceBound v y code).run P W = .ok i.toNat W := by
  unfold boundQ at hv
  split at hv
  · rename_i he; cases he
  · rename_i k j he
    injection he with he
    subst he
    injection hv with hv
    subst hv
    simp [Instr.sliceBound, asIntOf, h0, hy]
  · cases hv

theorem bounds_run {is : Bool} {n c : Nat} {lo hi : Option Value} {l h : Int} (hl : boundQ 0 lo = some l) (hh : boundQ n hi = some h) (h0 : 0 ≤ l) (h1 : l ≤ h) (h2 : hi = none ∨ h ≤ (c : Int)) (W : World) :
    (Instr.sliceBounds is n c lo hi none).run P W = .ok (l.toNat, h.toNat, c) W := by
  unfold Instr.sliceBounds
  cases hi with
  | none =>
    simp only [boundQ, Option.some.injEq] at hh
    subst hh
    cases lo with
    | none =>
      simp only [boundQ, Option.some.injEq] at hl
      subst hl
      simp
    | some v =>
      simp only [Sem.run_bind, Sem.run_pure, Result.andThen_ok, Option.isSome_none, Bool.false_eq_true, if_false]
      rw [bound_run hl h0 h1]
      simp
  | some u =>
    have h2 : h ≤ (c : Int) := h2.resolve_left (fun h => by cases h)
    cases lo with
    | none =>
      simp only [boundQ, Option.some.injEq] at hl
      subst hl
      simp only [Sem.run_bind, Sem.run_pure, Result.andThen_ok]
      rw [bound_run hh (by omega) h2]
      simp
    | some v =>
      simp only [Sem.run_bind, Sem.run_pure, Result.andThen_ok, Option.isSome_none, Bool.false_eq_true, if_false]
      rw [bound_run hh (by omega) h2]
      simp only [Result.andThen_ok]
      rw [bound_run hl h0 (y := h.toNat) (by omega)]
      simp

theorem offQ_spec (b c l off size : Nat) : (if c = l then (⟨b, off, none⟩ : Addr) else (⟨b, off, none⟩ : Addr).add (l * size)) = ⟨b, offQ c l off size, none⟩ := by
  unfold offQ
  cases hz : Nat.beq l 0 with
  | true =>
    obtain rfl := Nat.eq_of_beq_eq_true hz
    rw [Nat.zero_mul, addr_add]
    by_cases h : c = 0 <;> simp [h]
  | false => cases hc : Nat.beq c l with
    | true => rw [if_pos (Nat.eq_of_beq_eq_true hc)]; rfl
    | false => rw [if_neg (fun h => by rw [h, Nat.beq_refl] at hc; cases hc), addr_add]; rfl

theorem sliceQ_run {t : TypeId} {x : Value} {lo hi : Option Value} {bb : Bool} {p : Prop} {v : Value} (h : sliceQ P t x lo hi = some (bb, p, v)) (hp : bb = true ∨ p) (W : World) : (Instr.sliceAt t x lo hi none).run P W = .ok v W := by
  unfold sliceQ at h
  split at h
  · rename_i hu
    split at h
    · rename_i s
      split at h
      · rename_i l h' hl hh
        simp only [Option.some.injEq, Prod.mk.injEq] at h
        obtain ⟨rfl, rfl, rfl⟩ := h
        obtain ⟨h0, h1, h2⟩ := cutOk_spec hp id
        unfold Instr.sliceAt Instr.slice
        simp only [Sem.run_bind, run_underlying hu, Result.andThen_ok, Option.isSome_none, Bool.false_eq_true, if_false, Sem.run_pure]
        rw [bounds_run hl hh h0 h1 (.inr h2)]
        rfl
      · cases h
    · cases h
  · rename_i e hu
    split at h
    · rename_i a n c
      split at h
      · rename_i inf hi'
        have key : ∀ {l h' : Int} {a' : Option Addr}, boundQ 0 lo = some l → boundQ n hi = some h' → 0 ≤ l → l ≤ h' → (hi = none ∨ h' ≤ (c : Int)) → (if c = l.toNat then a else a.map (·.add (l.toNat * inf.size))) = a' →
            (Instr.sliceAt t (.slice a n c) lo hi none).run P W = .ok (.slice a' (h'.toNat - l.toNat) (c - l.toNat)) W := fun hl hh h0 h1 h2 ha => by
          unfold Instr.sliceAt Instr.slice
          simp only [Sem.run_bind, run_underlying hu, Result.andThen_ok, Sem.run_pure]
          rw [bounds_run hl hh h0 h1 h2]
          simp [sizeOf, typeInfo, hi', ha]
        split at h
        · rename_i l h' hl hh
          have hle : h' = (n : Int) := by simp only [boundQ, Option.some.injEq] at hh; exact hh.symm
          subst hle
          split at h
          · simp only [Option.some.injEq, Prod.mk.injEq] at h
            obtain ⟨rfl, rfl, rfl⟩ := h
            obtain ⟨h0, h1, h2⟩ := cutOk_spec hp (fun h => ⟨h.1, h.2, Int.le_refl _⟩)
            exact key hl hh h0 h1 (.inl rfl) (by split <;> rfl)
          · rename_i b off
            simp only [Option.some.injEq, Prod.mk.injEq] at h
            obtain ⟨rfl, rfl, rfl⟩ := h
            obtain ⟨h0, h1, h2⟩ := cutOk_spec hp (fun h => ⟨h.1, h.2, Int.le_refl _⟩)
            refine key hl hh h0 h1 (.inl rfl) ?_
            rw [← offQ_spec]
            split <;> rfl
          · cases h
        · rename_i l u h' hl hh
          split at h
          · simp only [Option.some.injEq, Prod.mk.injEq] at h
            obtain ⟨rfl, rfl, rfl⟩ := h
            obtain ⟨h0, h1, h2⟩ := cutOk_spec hp id
            exact key hl hh h0 h1 (.inr h2) (by split <;> rfl)
          · rename_i b off
            simp only [Option.some.injEq, Prod.mk.injEq] at h
            obtain ⟨rfl, rfl, rfl⟩ := h
            obtain ⟨h0, h1, h2⟩ := cutOk_spec hp id
            refine key hl hh h0 h1 (.inr h2) ?_
            rw [← offQ_spec]
            split <;> rfl
          · cases h
        · cases h
      · cases h
    · cases h
  · rename_i n e hu
    split at h
    · rename_i b off
      split at h
      · rename_i inf hi'
        split at h
        · rename_i l h' hl hh
          simp only [Option.some.injEq, Prod.mk.injEq] at h
          obtain ⟨rfl, rfl, rfl⟩ := h
          obtain ⟨h0, h1, h2⟩ := cutOk_spec hp id
          unfold Instr.sliceAt
          simp only [Sem.run_bind, run_underlying hu, Result.andThen_ok, Sem.run_pure, Instr.sureAddr]
          rw [bounds_run hl hh h0 h1 (.inr h2)]
          simp [sizeOf, typeInfo, hi', ← offQ_spec]
        · cases h
      · cases h
    · cases h
  · cases h

/-- A string's byte. -/
noncomputable def byteQ (s : ByteArray) (i : Nat) : Int := match nth s.data.toList i with
  | some b => Int.ofNat b.toNat
  | none => 0

theorem byteQ_spec {s : ByteArray} {i : Nat} (h : i < s.size) : ∃ b, s[i]? = some b ∧ byteQ s i = (b.toNat : Int) := by
  have h1 : i < s.data.size := h
  refine ⟨s.data[i], ?_, ?_⟩
  · have : s[i]? = some s[i] := by simp [h]
    rw [this]
    rfl
  · unfold byteQ
    rw [nth_eq, Array.getElem?_toList, Array.getElem?_eq_getElem h1]
    rfl

/-- A text behind another. -/
noncomputable def catL (l t : List UInt8) : List UInt8 := @List.rec UInt8 (fun _ => List UInt8) t (fun x _ ih => x :: ih) l
theorem catL_eq : ∀ l t : List UInt8, catL l t = l ++ t
  | [], _ => rfl
  | x :: l, t => by
    show x :: catL l t = _
    rw [catL_eq l t]
    rfl
noncomputable def catS (a b : ByteArray) : ByteArray := ⟨⟨catL a.data.toList b.data.toList⟩⟩
theorem catS_eq (a b : ByteArray) : catS a b = a ++ b := by
  apply ByteArray.ext
  apply Array.ext'
  show catL _ _ = _
  rw [catL_eq]
  simp

theorem cat_run {P : Program} {t : TypeId} {x y : Operand} {a b : ByteArray} (h : a.size + b.size ≤ 1099511627776) (W : World) : (do eqGuard .add t x y (.string a) (.string b); binOp .add t (.string a) (.string b) : Sem Value).run P W = .ok (.string (catS a b)) W := by
  rw [catS_eq]
  have e : IntKind.i64.max = 9223372036854775807 := by decide +kernel
  have hn : ¬ (((a.size + b.size : Nat) : Int) > IntKind.i64.max) := by rw [e]; omega
  simp only [eqGuard, binOp, Op.stringOp]
  rw [if_neg hn]
  rfl

/-- xs[i]: the address, of any i. -/
noncomputable def symQ (P : Program) (ρ : Operand → Value) (o : Oper) : Option (Bool × Prop × Value) := match o.op with
  | .indexAddr t x ix => match ρ x, ρ ix with
    | .slice (some ⟨b, off, none⟩) n _, .int _ i => match P.underlying t with
      | some (.slice el) => match P.info? el with
        | some inf => some (Ex.leQ 0 i && Ex.ltQ i (n : Int), 0 ≤ i ∧ i < (n : Int), .pointer (some ⟨b, off + i.toNat * inf.size, none⟩))
        | none => none
      | _ => none
    | .pointer (some ⟨b, off, none⟩), .int _ i => match P.underlying t with
      | some (.array n el) => match P.info? el with
        | some inf => some (Ex.leQ 0 i && Ex.ltQ i (n : Int), 0 ≤ i ∧ i < (n : Int), .pointer (some ⟨b, off + i.toNat * inf.size, none⟩))
        | none => none
      | _ => none
    | _, _ => none
  | .binOp .shl _ x y _ => match ρ x, ρ y with
    | .int k a, .int _ n => some (Ex.leQ 0 n, 0 ≤ n, .int k (Ex.shlQ k a n.toNat))
    | _, _ => none
  | .binOp .shr _ x y _ => match ρ x, ρ y with
    | .int k a, .int _ n => some (Ex.leQ 0 n, 0 ≤ n, .int k (Ex.shrQ k a n.toNat))
    | _, _ => none
  | .binOp .add _ x y _ => match ρ x, ρ y with
    | .string a, .string b => some (Nat.ble (Nat.add a.size b.size) 1099511627776, a.size + b.size ≤ 1099511627776, .string (catS a b))
    | _, _ => none
  | .slice t x lo hi none => sliceQ P t (ρ x) (lo.map ρ) (hi.map ρ)
  | .index t x ix => match ρ x, ρ ix with
    | .string s, .int _ i => match P.underlying t with
      | some .string => some (Ex.leQ 0 i && Ex.ltQ i (s.size : Int), 0 ≤ i ∧ i < (s.size : Int), .int .u8 (byteQ s i.toNat))
      | _ => none
    | _, _ => none
  | _ => none

theorem symQ_run {ρ : Operand → Value} {o : Oper} {bb : Bool} {p : Prop} {v : Value} (h : symQ P ρ o = some (bb, p, v)) (hp : bb = true ∨ p) (W : World) : (execOp ρ o).run P W = .ok (.value v) W := by
  unfold symQ at h
  split at h
  · rename_i t x ix ho
    split at h
    · rename_i b off n c k i h1 h2
      split at h
      · rename_i el hu
        split at h
        · rename_i inf hi
          simp only [Option.some.injEq, Prod.mk.injEq] at h
          obtain ⟨rfl, rfl, rfl⟩ := h
          have hp := hp.elim (fun h => by simpa only [Bool.and_eq_true, Ex.leQ_eq, Ex.ltQ_eq, decide_eq_true_eq] using h) id
          unfold execOp
          rw [ho]
          simp only [h1, h2]
          refine opV_run ?_
          simp [Instr.indexAt, run_underlying hu, sizeOf, typeInfo, hi, asIntOf, hp, addr_add]
        · cases h
      · cases h
    · rename_i b off k i h1 h2
      split at h
      · rename_i n el hu
        split at h
        · rename_i inf hi
          simp only [Option.some.injEq, Prod.mk.injEq] at h
          obtain ⟨rfl, rfl, rfl⟩ := h
          have hp := hp.elim (fun h => by simpa only [Bool.and_eq_true, Ex.leQ_eq, Ex.ltQ_eq, decide_eq_true_eq] using h) id
          unfold execOp
          rw [ho]
          simp only [h1, h2]
          refine opV_run ?_
          simp [Instr.indexAt, run_underlying hu, sizeOf, typeInfo, hi, asIntOf, hp, addr_add, Instr.sureAddr]
        · cases h
      · cases h
    · cases h
  · rename_i t x y tt ho
    split at h
    · rename_i k a k' n h1 h2
      simp only [Option.some.injEq, Prod.mk.injEq] at h
      obtain ⟨rfl, rfl, rfl⟩ := h
      have hp : 0 ≤ n := hp.elim (fun h => by simpa only [Ex.leQ_eq, decide_eq_true_eq] using h) id
      have hn : n = ((n.toNat : Nat) : Int) := by omega
      have := Ex.shQ_run (P := P) (op := .shl) (f := Ex.shlQ) (.inl ⟨rfl, rfl⟩) (t := t) (x := x) (y := y) (a := .int k a) (b := .int k' (.ofNat n.toNat)) rfl W
      unfold execOp
      rw [ho]
      simp only [h1, h2]
      rw [hn]
      exact opV_run this
    · cases h
  · rename_i t x y tt ho
    split at h
    · rename_i k a k' n h1 h2
      simp only [Option.some.injEq, Prod.mk.injEq] at h
      obtain ⟨rfl, rfl, rfl⟩ := h
      have hp : 0 ≤ n := hp.elim (fun h => by simpa only [Ex.leQ_eq, decide_eq_true_eq] using h) id
      have hn : n = ((n.toNat : Nat) : Int) := by omega
      have := Ex.shQ_run (P := P) (op := .shr) (f := Ex.shrQ) (.inr ⟨rfl, rfl⟩) (t := t) (x := x) (y := y) (a := .int k a) (b := .int k' (.ofNat n.toNat)) rfl W
      unfold execOp
      rw [ho]
      simp only [h1, h2]
      rw [hn]
      exact opV_run this
    · cases h
  · rename_i t x y tt ho
    split at h
    · rename_i a b h1 h2
      simp only [Option.some.injEq, Prod.mk.injEq] at h
      obtain ⟨rfl, rfl, rfl⟩ := h
      have hp : a.size + b.size ≤ 1099511627776 := hp.elim (fun h => Nat.le_of_ble_eq_true h) id
      unfold execOp
      rw [ho]
      simp only [h1, h2]
      exact opV_run (cat_run hp W)
    · cases h
  · rename_i t x lo hi ho
    unfold execOp
    rw [ho]
    exact opV_run (sliceQ_run h hp W)
  · rename_i t x ix ho
    split at h
    · rename_i s k i h1 h2
      split at h
      · rename_i hu
        simp only [Option.some.injEq, Prod.mk.injEq] at h
        obtain ⟨rfl, rfl, rfl⟩ := h
        have hp := hp.elim (fun h => by simpa only [Bool.and_eq_true, Ex.leQ_eq, Ex.ltQ_eq, decide_eq_true_eq] using h) id
        obtain ⟨b, hb, he⟩ := byteQ_spec (s := s) (i := i.toNat) (by omega)
        unfold execOp
        rw [ho]
        simp only [h1, h2]
        refine opV_run ?_
        simp [Instr.index, asIntOf, run_underlying hu, hp.1, hb, he]
      · cases h
    · cases h
  · cases h

theorem callOf_run {ρ : Operand → Value} {o : Oper} {f : FuncId} {args : Array Value} (hρ : ∀ g, ρ (.func g) = .func (.func g) #[] #[]) (h : callOf P ρ o = some (f, args)) (W : World) : (execOp ρ o).run P W = .ok (.enter f args) W := by
  unfold callOf at h
  split at h
  · rename_i c ho
    split at h
    · rename_i g hc
      split at h
      · rename_i fn hfn
        split at h
        · rename_i b hb
          split at h
          · cases h
          · rename_i hname
            simp only [Option.some.injEq, Prod.mk.injEq] at h
            obtain ⟨rfl, rfl⟩ := h
            unfold execOp
            rw [ho]
            have hne : ¬ fn.name = "runtime.NumGoroutine" := by simpa using hname
            simp [resolve, hc, hρ, Deferred.ofValue, invoke, callFunc, hfn, hb, hne]
        · cases h
      · cases h
    · cases h
  · cases h

/-! ### A make -/

def isOne (v : Value) : Bool := match v with
  | .agg _ => false
  | .tuple _ => false
  | _ => true

/-- make([]T, n): its type, a cell's zero, the bytes of one, the length. -/
def makeOf (P : Program) (ρ : Operand → Value) (o : Oper) : Option (TypeId × Value × Nat × Int × Value × Value) := match o.op with
  | .makeSlice t l c => match ρ l with
    | .int k n => match P.underlying t with
      | some (.slice e) => match P.info? e with
        | some i => match i.zero with
          | some z => match Nat.beq i.size 1 && isOne z with
            | true => some (e, z, i.bytes, n, .int k n, ρ c)
            | false => none
          | none => none
        | none => none
      | _ => none
    | _ => none
  | _ => none

theorem madeCells_one {z : Value} (hz : isOne z = true) (n : Nat) : (madeCells z.cells n).toList = List.replicate n z := by
  have : z.cells = #[z] := by cases z <;> first | rfl | cases hz
  unfold madeCells
  rw [this]
  apply List.ext_getElem
  · simp
  · intro i h1 h2
    simp [Nat.mod_one]

theorem makeOf_run {ρ : Operand → Value} {o : Oper} {e : TypeId} {z : Value} {bytes : Nat} {n : Int} {lv cv : Value} (h : makeOf P ρ o = some (e, z, bytes, n, lv, cv)) (hs : lv = cv) (h0 : 0 ≤ n) (hb : n.toNat * bytes ≤ 281474976710656) (hm : n.toNat ≤ maxLen) (W : World) :
    ∃ C : Array Value, C.toList = List.replicate n.toNat z ∧ (execOp ρ o).run P W = .ok (.value (.slice (some ⟨W.heap.size, 0, none⟩) n.toNat n.toNat)) (W.alloc (.cells C e)) := by
  unfold makeOf at h
  split at h
  · rename_i t l c ho
    split at h
    · rename_i k n' hl
      split at h
      · rename_i e' hu
        split at h
        · rename_i i hi
          split at h
          · rename_i z' hz
            split at h
            · rename_i hc
              simp only [Option.some.injEq, Prod.mk.injEq] at h
              obtain ⟨rfl, rfl, rfl, rfl, rfl, rfl⟩ := h
              rw [Bool.and_eq_true, Nat.beq_eq] at hc
              refine ⟨_, madeCells_one hc.2 _, ?_⟩
              unfold execOp
              rw [ho]
              simp only [hl, ← hs]
              refine opV_run ?_
              have e1 : (n'.toNat : Int) = n' := by omega
              have hb' : (i.bytes : Int) * n' ≤ 281474976710656 := by
                have hb2 : ((i.bytes * n'.toNat : Nat) : Int) ≤ 281474976710656 := by
                  rw [Nat.mul_comm] at hb
                  generalize i.bytes * n'.toNat = q at *
                  omega
                rw [← e1, ← Int.natCast_mul]
                exact hb2
              have hm' : n' ≤ 9223372036854775807 := by
                have hm2 : maxLen = 9223372036854775807 := by rfl
                omega
              have := run_make (P := P) W t e' i z' hu hi hz k k n' n' h0 (Int.le_refl _) hb' hm'
              rw [hc.1, Nat.mul_one] at this
              exact this
            · cases h
          · cases h
        · cases h
      · cases h
    · cases h
  · cases h

/-! ### max, min -/

def mmOf (ρ : Operand → Value) (o : Oper) : Option Value := match o.op with
  | .call c => match c.callee with
    | .builtin .max => match c.args.toList with
      | [x, y] => match ρ x, ρ y with
        | .int k a, .int _ b => some (.int k (bif Ex.ltQ a b then b else a))
        | _, _ => none
      | _ => none
    | .builtin .min => match c.args.toList with
      | [x, y] => match ρ x, ρ y with
        | .int k a, .int _ b => some (.int k (bif Ex.ltQ b a then b else a))
        | _, _ => none
      | _ => none
    | _ => none
  | _ => none

theorem mmOf_run {ρ : Operand → Value} {o : Oper} {v : Value} (h : mmOf ρ o = some v) (W : World) : (execOp ρ o).run P W = .ok (.value v) W := by
  unfold mmOf at h
  split at h
  · rename_i c ho
    split at h
    · rename_i hb
      split at h
      · rename_i x y ha
        split at h
        · rename_i k a k' b h1 h2
          injection h with h
          subst h
          have ha' : c.args = #[x, y] := by rw [← Array.toList_inj]; exact ha
          unfold execOp
          rw [ho]
          simp [resolve, hb, ha', h1, h2, invoke, builtin, run_max_int2, Ex.ltQ_eq, cond_eq_ite]
        · cases h
      · cases h
    · rename_i hb
      split at h
      · rename_i x y ha
        split at h
        · rename_i k a k' b h1 h2
          injection h with h
          subst h
          have ha' : c.args = #[x, y] := by rw [← Array.toList_inj]; exact ha
          unfold execOp
          rw [ho]
          simp [resolve, hb, ha', h1, h2, invoke, builtin, run_min_int2, Ex.ltQ_eq, cond_eq_ite]
        · cases h
      · cases h
    · cases h
  · cases h

/-! ### Pointers that are compared; compare-and-swap -/

def peqOf (P : Program) (ρ : Operand → Value) (o : Oper) : Option (Bool × Nat × Nat × Nat × Nat) := match o.op with
  | .binOp op t x y _ => match op with
    | .eql => match ρ x, ρ y with
      | .pointer (some ⟨b1, o1, none⟩), .pointer (some ⟨b2, o2, none⟩) => match P.underlying t with
        | some (.pointer e) => match sizeP P e with
          | some n => match Nat.beq n 0 with
            | true => none
            | false => some (false, b1, o1, b2, o2)
          | none => none
        | _ => none
      | _, _ => none
    | .neq => match ρ x, ρ y with
      | .pointer (some ⟨b1, o1, none⟩), .pointer (some ⟨b2, o2, none⟩) => match P.underlying t with
        | some (.pointer e) => match sizeP P e with
          | some n => match Nat.beq n 0 with
            | true => none
            | false => some (true, b1, o1, b2, o2)
          | none => none
        | _ => none
      | _, _ => none
    | _ => none
  | _ => none

theorem peqOf_run {ρ : Operand → Value} {o : Oper} {neg : Bool} {b1 o1 b2 o2 : Nat} (h : peqOf P ρ o = some (neg, b1, o1, b2, o2)) {r : Bool} {W : World} (hr : (sameAddr ⟨b1, o1, none⟩ ⟨b2, o2, none⟩).run P W = .ok r W) :
    (execOp ρ o).run P W = .ok (.value (.bool (bif neg then !r else r))) W := by
  have key : ∀ {t e : TypeId} {n : Nat}, P.underlying t = some (.pointer e) → sizeP P e = some n → n ≠ 0 → ∀ d : Nat, (Op.equalIn (d + 1) t (.pointer (some ⟨b1, o1, none⟩)) (.pointer (some ⟨b2, o2, none⟩))).run P W = .ok r W := fun hu hn h0 d => by
    obtain ⟨i, hi, hs⟩ := sizeP_spec hn
    subst hs
    simp [Op.equalIn, run_underlying hu, sizeOf, typeInfo, hi, h0, hr]
  unfold peqOf at h
  split at h
  · rename_i op t x y tt ho
    split at h
    · split at h
      · rename_i h1 h2
        split at h
        · rename_i e hu
          split at h
          · rename_i n hn
            split at h
            · cases h
            · rename_i h0
              simp only [Option.some.injEq, Prod.mk.injEq] at h
              obtain ⟨rfl, rfl, rfl, rfl, rfl⟩ := h
              have h0 : n ≠ 0 := fun he => by subst he; cases h0
              have hk := key hu hn h0 9999
              unfold execOp
              rw [ho]
              simp only [h1, h2]
              refine opV_run ?_
              simp [eqGuard, binOp, Op.equal, Op.maxDepth, hk]
          · cases h
        · cases h
      · cases h
    · split at h
      · rename_i h1 h2
        split at h
        · rename_i e hu
          split at h
          · rename_i n hn
            split at h
            · cases h
            · rename_i h0
              simp only [Option.some.injEq, Prod.mk.injEq] at h
              obtain ⟨rfl, rfl, rfl, rfl, rfl⟩ := h
              have h0 : n ≠ 0 := fun he => by subst he; cases h0
              have hk := key hu hn h0 9999
              unfold execOp
              rw [ho]
              simp only [h1, h2]
              refine opV_run ?_
              simp [eqGuard, binOp, Op.equal, Op.maxDepth, hk]
          · cases h
        · cases h
      · cases h
    · cases h
  · cases h

/-- A block of plain cells. -/
def plainCt : Cont → Bool
  | .obj (.cells _ _ (lo, hi)) => Nat.beq lo 0 && Nat.beq hi 0
  | .row .. => true
  | _ => false

theorem plainCt_spec {ct : Cont} {h : Option Obj} (hp : plainCt ct = true) (hs : ct.sat h) : ∃ c t, h = some (.cells c t (0, 0)) := by
  cases ct with
  | obj o =>
    cases o with
    | cells c t f =>
      obtain ⟨lo, hi⟩ := f
      simp only [plainCt, Bool.and_eq_true, Nat.beq_eq] at hp
      obtain ⟨rfl, rfl⟩ := hp
      exact ⟨c, t, hs⟩
    | _ => cases hp
  | row e size n cap xs =>
    obtain ⟨cur, h, -⟩ := hs
    exact ⟨cur, e, h⟩
  | seg off xs => cases hp

section
variable {α : Type}
/-- Are two addresses one? -/
noncomputable def peqT (L : List Blk) (b1 o1 b2 o2 : Nat) (k : Bool → T α) : T α := .or (.pick b1 [b2, b1]) (two (.same (.nat b1) (.nat b2) (k (Nat.beq o1 o2)))
  (pickT L b1 fun p i => pickT L b2 fun q j => match Nat.beq i j with
    | true => .fail
    | false => match (p.own || q.own) && (plainCt p.ct && plainCt q.ct) with
      | true => k false
      | false => .fail))

theorem peqT_spec {L : List Blk} {b1 o1 b2 o2 : Nat} {k : Bool → T α} {K : α → Prop} (h : (peqT L b1 o1 b2 o2 k).all K) {w0 W : World} {keep : Nat → Prop} (hr : Rep w0 keep L W) :
    ∃ r, (k r).all K ∧ (sameAddr ⟨b1, o1, none⟩ ⟨b2, o2, none⟩).run P W = .ok r W := by
  obtain ⟨j, h⟩ := h
  cases j with
  | zero =>
    obtain ⟨h1, h⟩ := h
    have h1 := tok_nat h1
    subst h1
    refine ⟨_, h, ?_⟩
    simp only [sameAddr]
    by_cases ho : o1 = o2
    · subst ho
      simp
    · have : Nat.beq o1 o2 = false := by
        cases hb : Nat.beq o1 o2 with
        | false => rfl
        | true => exact absurd (Nat.eq_of_beq_eq_true hb) ho
      simp [this, ho]
  | succ j =>
    obtain ⟨p, i, hi, e1, h⟩ := pickT_spec h
    obtain ⟨q, j, hj, e2, h⟩ := pickT_spec h
    split at h
    · exact h.elim
    · rename_i hne
      have hne : i ≠ j := fun he => by subst he; rw [Nat.beq_refl] at hne; cases hne
      split at h
      · rename_i hc
        simp only [Bool.and_eq_true] at hc
        obtain ⟨h1, h2, h3⟩ := hc
        obtain ⟨c1, t1, g1⟩ := plainCt_spec h2 (hr.at hi)
        obtain ⟨c2, t2, g2⟩ := plainCt_spec h3 (hr.at hj)
        have hf := far_ne hr.far hi hj hne h1
        rw [← e1] at g1
        rw [← e2] at g2
        refine ⟨false, h, run_sameAddr_other W (fun he => hf ?_) g1 g2⟩
        rw [← e1, ← e2]
        exact congrArg Addr.block he
      · exact h.elim

/-- Two pointers. -/
noncomputable def samePT (L : List Blk) (x y : Option Addr) (k : Bool → T α) : T α := match x with
  | none => match y with
    | none => k true
    | some _ => k false
  | some a => match y with
    | none => k false
    | some b => match a, b with
      | ⟨b1, o1, none⟩, ⟨b2, o2, none⟩ => peqT L b1 o1 b2 o2 k
      | _, _ => .fail

theorem samePT_spec {L : List Blk} {x y : Option Addr} {k : Bool → T α} {K : α → Prop} (h : (samePT L x y k).all K) {w0 W : World} {keep : Nat → Prop} (hr : Rep w0 keep L W) :
    ∃ r, (k r).all K ∧ (samePointer x y).run P W = .ok r W := by
  unfold samePT at h
  split at h
  · split at h
    · exact ⟨_, h, rfl⟩
    · exact ⟨_, h, rfl⟩
  · split at h
    · exact ⟨_, h, rfl⟩
    · split at h
      · exact peqT_spec h hr
      · exact h.elim

/-- Compare-and-swap of a pointer. -/
noncomputable def casT (L : List Blk) (b o : Nat) (old new : Option Addr) (k : Bool → List Blk → T α) : T α := pickT L b fun p j => match plainCt p.ct with
  | false => .fail
  | true => match p.ct.at o with
    | some (.pointer cur) => samePT L cur old fun r => .cond r (putT L p j ⟨b, o, none⟩ (.pointer new) fun L' => k true L') (k false L)
    | _ => .fail
end

def casOf (P : Program) (ρ : Operand → Value) (o : Oper) : Option (Nat × Nat × Option Addr × Option Addr) := match o.op with
  | .call c => match c.callee with
    | .value (.func f) => match P.funcs[f]? with
      | some fn => match fn.body with
        | none => match fn.name == "sync/atomic.CompareAndSwapPointer" with
          | true => match Extern.findNext fn with
            | none => match c.args.toList with
              | [x, y, z] => match ρ x, ρ y, ρ z with
                | .pointer (some ⟨b, off, none⟩), .pointer old, .pointer new => some (b, off, old, new)
                | _, _, _ => none
              | _ => none
            | some _ => none
          | false => none
        | some _ => none
      | none => none
    | _ => none
  | _ => none

theorem find_cas {fn : Func} (h : fn.name = "sync/atomic.CompareAndSwapPointer") : Extern.find fn = some (Extern.Atomic.casT .ptr) := by
  have h1 : Extern.allGenericRows.lookup "sync/atomic.CompareAndSwapPointer" = none := by kernel_rfl
  have h2 : Extern.allTypedRows.lookup "sync/atomic.CompareAndSwapPointer" = none := by kernel_rfl
  have h3 : Extern.allRows.lookup "sync/atomic.CompareAndSwapPointer" = some (Extern.Atomic.casT .ptr) := by kernel_rfl
  unfold Extern.find
  rw [h]
  simp only [h1, h2, h3]
  rfl

theorem frozen_plain {W : World} {b o : Nat} {c : Array Value} {t : TypeId} (h : W.heap[b]? = some (.cells c t (0, 0))) : W.frozen? ⟨b, o, none⟩ = false := by
  rw [Ev.frozen_of rfl h]
  simp

/-- What a pointer's compare-and-swap does, spelt out. -/
def casPB (a : Addr) (old new : Option Addr) : Sem Value := do
  let a' ← asAddr (.pointer (some a))
  if ← Extern.Atomic.touchesFrozen a' then unsupported (.unsafePointer "a write to bytes that a string shares")
  let eq ← match Extern.Atomic.T.ptr, ← Extern.Atomic.read .ptr a', Value.pointer old with
    | _, .int _ x, .int _ y => pure (x == y)
    | .ptr, .pointer x, .pointer y => samePointer x y
    | .int _, .pointer (some _), .int _ 0 | .int _, .int _ 0, .pointer (some _) => pure false
    | .int _, .pointer (some _), _ | .int _, _, .pointer (some _) => unsupported .addressObserved
    | _, _, _ => stuck "atomic.CompareAndSwap: old is no T"
  if eq then store a' (.pointer new) .atomic
  pure (Value.bool eq)
theorem casPB_eq (a : Addr) (old new : Option Addr) : Extern.Atomic.casT .ptr #[.pointer (some a), .pointer old, .pointer new] = casPB a old new := rfl

theorem casOf_run {ρ : Operand → Value} {o : Oper} {b off : Nat} {old new : Option Addr} (hρ : ∀ g, ρ (.func g) = .func (.func g) #[] #[]) (h : casOf P ρ o = some (b, off, old, new)) {W : World} {c : Array Value} {t : TypeId} {cur : Option Addr} {r : Bool}
    (hat : W.heap[b]? = some (.cells c t (0, 0))) (hc : W.cell? ⟨b, off, none⟩ = some (.pointer cur)) (hs : (samePointer cur old).run P W = .ok r W) :
    (execOp ρ o).run P W = .ok (.value (.bool r)) (if r = true then W.setCell ⟨b, off, none⟩ (.pointer new) else W) := by
  unfold casOf at h
  split at h
  · rename_i cc ho
    split at h
    · rename_i f hcal
      split at h
      · rename_i fn hfn
        split at h
        · rename_i hb
          split at h
          · rename_i hname
            split at h
            · rename_i hnext
              split at h
              · rename_i x y z ha
                split at h
                · rename_i b' off' old' new' h1 h2 h3
                  simp only [Option.some.injEq, Prod.mk.injEq] at h
                  obtain ⟨e1, e2, e3, e4⟩ := h
                  rw [e1, e2] at h1
                  rw [e3] at h2
                  rw [e4] at h3
                  have hname : fn.name = "sync/atomic.CompareAndSwapPointer" := by simpa using hname
                  have ha' : cc.args = #[x, y, z] := by rw [← Array.toList_inj]; exact ha
                  have hfind := find_cas hname
                  have hrow : (Extern.Atomic.casT .ptr #[.pointer (some ⟨b, off, none⟩), .pointer old, .pointer new]).run P W = .ok (.bool r) (if r = true then W.setCell ⟨b, off, none⟩ (.pointer new) else W) := by
                    have hfz := frozen_plain (o := off) hat
                    have hsh : (W.shape? b).isSome = true := by simp [World.shape?, hat]
                    rw [casPB_eq]
                    cases r <;> simp [casPB, Extern.Atomic.touchesFrozen, Extern.Atomic.read, asAddr, viewAt, hsh, hc, hfz, hs, run_store P W ⟨b, off, none⟩ (.pointer new) .atomic rfl, Result.andThen]
                  have hne : ¬ fn.name = "runtime.NumGoroutine" := by rw [hname]; decide
                  unfold execOp
                  rw [ho]
                  simp [resolve, hcal, hρ, Deferred.ofValue, invoke, callFunc, hfn, hb, hne, hnext, hfind, ha', h1, h2, h3, hrow]
                · cases h
              · cases h
            · cases h
          · cases h
        · cases h
      · cases h
    · cases h
  · cases h

/-! ### A length -/

def lenOf (P : Program) (ρ : Operand → Value) (o : Oper) : Option Value := match o.op with
  | .call c => match c.callee with
    | .builtin .len => match c.args.toList with
      | [x] => match c.argTypes.toList with
        | [t] => match ρ x with
          | .string s => match P.underlying t with
            | some .string => some (.int .i64 (Int.ofNat s.size))
            | _ => none
          | .slice _ n _ => match P.underlying t with
            | some (.slice _) => some (.int .i64 (Int.ofNat n))
            | _ => none
          | _ => none
        | _ => none
      | _ => none
    | _ => none
  | _ => none

theorem lenOf_run {ρ : Operand → Value} {o : Oper} {v : Value} (h : lenOf P ρ o = some v) (W : World) : (execOp ρ o).run P W = .ok (.value v) W := by
  unfold lenOf at h
  split at h
  · rename_i c ho
    split at h
    · rename_i hb
      split at h
      · rename_i x ha
        split at h
        · rename_i t ht
          have ha' : c.args = #[x] := by rw [← Array.toList_inj]; exact ha
          have ht' : c.argTypes = #[t] := by rw [← Array.toList_inj]; exact ht
          split at h
          · rename_i s hx
            split at h
            · rename_i hu
              injection h with h
              subst h
              unfold execOp
              rw [ho]
              simp [resolve, hb, ha', ht', hx, invoke, builtin, Builtin.len_, run_underlying hu, goInt]
            · cases h
          · rename_i a n cc hx
            split at h
            · rename_i hu
              injection h with h
              subst h
              unfold execOp
              rw [ho]
              simp [resolve, hb, ha', ht', hx, invoke, builtin, Builtin.len_, run_underlying hu, goInt]
            · cases h
          · cases h
        · cases h
      · cases h
    · cases h
  · cases h

/-! ### A string's bytes -/

def bytesOf (P : Program) (ρ : Operand → Value) (o : Oper) : Option (TypeId × ByteArray) := match o.op with
  | .convert src dst x => match ρ x with
    | .string s => match P.underlying src with
      | some .string => match P.underlying dst with
        | some (.slice e) => match P.underlying e with
          | some (.int .u8) => some (e, s)
          | _ => none
        | _ => none
      | _ => none
    | _ => none
  | _ => none

def bytesV (s : ByteArray) : List Value := s.data.toList.map fun b => .int .u8 b.toNat

/-- (The room is told as what is over and the length.) -/
def bytesC (n : Nat) (l : List Value) : OpC := ⟨⟨[], [], 2, []⟩, [(⟨fun _ => True, fun ns => [(num ns 0, .seg 0 l)], fun _ => []⟩, fun ns => some (.slice (some ⟨num ns 0, 0, none⟩) n (Nat.add (num ns 1) n)))]⟩

theorem bytesOf_met {ρ : Operand → Value} {o : Oper} {e : TypeId} {s : ByteArray} (h : bytesOf P ρ o = some (e, s)) : OpMeets P (execOp ρ o) (bytesC s.size (bytesV s)) := by
  unfold bytesOf at h
  split at h
  · rename_i src dst x ho
    split at h
    · rename_i s' hx
      split at h
      · rename_i h1
        split at h
        · rename_i e' h2
          split at h
          · rename_i h3
            injection h with h
            injection h with h4 h5
            subst h4 h5
            intro W _
            have hrun := run_bytes_of_string (P := P) W src dst e' s' h1 h2 h3
            obtain ⟨d, hd⟩ : ∃ d, grownCap W s'.size 0 e' = Nat.add d s'.size := ⟨_, (Nat.sub_add_cancel (grownCap_ge W s'.size 0 e')).symm⟩
            rw [hd] at hrun
            have he : (execOp ρ o).run P W = (opV (convert src dst (.string s'))).run P W := by
              unfold execOp
              rw [ho]
              simp [hx, opV]
            refine ⟨_, List.mem_singleton_self _, [⟨W.heap.size, 0, false, undef, []⟩, ⟨d, 0, false, undef, []⟩], _, he.trans (opV_run hrun), rfl, trivial, rfl, rfl, rfl, ?_, fun k hk _ => ?_, fun p hp => ?_, by simp, fun _ hp => (by cases hp), List.nodup_nil, fun _ _ _ hq => (by cases hq)⟩
            · show W.heap.size ≤ (W.heap.push _).size
              simp
            · show (W.heap.push _)[k]? = _
              rw [Array.getElem?_push, if_neg (by omega)]
            · rcases List.mem_singleton.1 hp with rfl
              refine ⟨.inl (Nat.le_refl _), bytesRow s' (Nat.add d s'.size), e', ((bytesRow s' (Nat.add d s'.size)).size, (bytesRow s' (Nat.add d s'.size)).size + 1), ?_, fun j u hu => ?_⟩
              · show (W.heap.push _)[W.heap.size]? = _
                rw [Array.getElem?_push, if_pos rfl]
              · have hj : j < s'.data.size := by
                  have := (List.getElem?_eq_some_iff.1 hu).1
                  simpa [bytesV] using this
                rw [Nat.zero_add, Array.getElem?_toList, bytesRow_at _ _ _ hj]
                have : (bytesV s')[j]? = some (.int .u8 (s'.data[j].toNat : Int)) := by
                  simp only [bytesV, List.getElem?_map, Array.getElem?_toList, Array.getElem?_eq_getElem hj, Option.map_some]
                rw [← this]; exact hu
          · cases h
        · cases h
      · cases h
    · cases h
  · cases h

/-! ### What is to be done -/

inductive Doing where
  | val (v : Value)
  | maybe (b : Bool) (p : Prop) (v : Value)
  | load (t b off : Nat)
  | store (b off : Nat) (v : Value)
  | whole (n b off : Nat) (C : Array Value)
  | app (t : TypeId) (v x : Value)
  | call (f : FuncId) (args : Array Value)
  | make (e : TypeId) (z : Value) (bytes : Nat) (n : Int) (lv cv : Value)
  | bytes (s : ByteArray)
  | peq (neg : Bool) (b1 o1 b2 o2 : Nat)
  | cas (b off : Nat) (old new : Option Addr)
  | gen

noncomputable def doing (P : Program) (ρ : Operand → Value) (o : Oper) : Doing :=
  match o.op with
  | .move _ | .assign _ | .unOp .. | .extract .. | .pick .. | .fieldAddr .. => match quick P ρ o with
    | some v => .val v
    | none => match symQ P ρ o with
      | some r => .maybe r.1 r.2.1 r.2.2
      | none => .gen
  | .binOp .. => match quick P ρ o with
    | some v => .val v
    | none => match symQ P ρ o with
      | some r => .maybe r.1 r.2.1 r.2.2
      | none => match peqOf P ρ o with
        | some r => .peq r.1 r.2.1 r.2.2.1 r.2.2.2.1 r.2.2.2.2
        | none => .gen
  | .convert .. => match quick P ρ o with
    | some v => .val v
    | none => match bytesOf P ρ o with
      | some r => .bytes r.2
      | none => match symQ P ρ o with
        | some r => .maybe r.1 r.2.1 r.2.2
        | none => .gen
  | .load .. => match loadOf ρ o with
    | some r => .load r.1 r.2.1 r.2.2
    | none => .gen
  | .store .. => match storeOf P ρ o with
    | some r => .store r.1 r.2.1 r.2.2
    | none => match wholeOf P ρ o with
      | some r => .whole r.2.1 r.2.2.1 r.2.2.2.1 r.2.2.2.2
      | none => .gen
  | .indexAddr .. | .index .. | .slice .. => match symQ P ρ o with
    | some r => .maybe r.1 r.2.1 r.2.2
    | none => .gen
  | .call _ => match callOf P ρ o with
    | some r => .call r.1 r.2
    | none => match appOf ρ o with
      | some r => .app r.1 r.2.1 r.2.2
      | none => match mmOf ρ o with
        | some v => .val v
        | none => match lenOf P ρ o with
          | some v => .val v
          | none => match casOf P ρ o with
            | some r => .cas r.1 r.2.1 r.2.2.1 r.2.2.2
            | none => .gen
  | .makeSlice .. => match makeOf P ρ o with
    | some r => .make r.1 r.2.1 r.2.2.1 r.2.2.2.1 r.2.2.2.2.1 r.2.2.2.2.2
    | none => .gen
  | _ => .gen

/-- What doing tells is right. -/
def DoingS (P : Program) (ρ : Operand → Value) (o : Oper) : Doing → Prop
  | .val v => ∀ W, (execOp ρ o).run P W = .ok (.value v) W
  | .maybe b p v => b = true ∨ p → ∀ W, (execOp ρ o).run P W = .ok (.value v) W
  | .load t b off => loadOf ρ o = some (t, b, off)
  | .store b off v => storeOf P ρ o = some (b, off, v)
  | .whole n b off C => ∃ t, wholeOf P ρ o = some (t, n, b, off, C)
  | .app t v x => appOf ρ o = some (t, v, x)
  | .call f args => ∀ W, (execOp ρ o).run P W = .ok (.enter f args) W
  | .make e z bytes n lv cv => makeOf P ρ o = some (e, z, bytes, n, lv, cv)
  | .bytes s => ∃ e, bytesOf P ρ o = some (e, s)
  | .peq neg b1 o1 b2 o2 => peqOf P ρ o = some (neg, b1, o1, b2, o2)
  | .cas b off old new => casOf P ρ o = some (b, off, old, new)
  | .gen => True

theorem doing_spec {ρ : Operand → Value} (hρ : ∀ g, ρ (.func g) = .func (.func g) #[] #[]) (o : Oper) : DoingS P ρ o (doing P ρ o) := by
  have s : ∀ r, symQ P ρ o = some r → DoingS P ρ o (.maybe r.1 r.2.1 r.2.2) := fun r hr hp W => symQ_run hr hp W
  have q : DoingS P ρ o (match quick P ρ o with
    | some v => .val v
    | none => match symQ P ρ o with
      | some r => .maybe r.1 r.2.1 r.2.2
      | none => .gen) := by
    split
    · rename_i v hv
      exact fun W => quick_run hv W
    · split
      · rename_i r hr
        exact s r hr
      · trivial
  have s' : DoingS P ρ o (match symQ P ρ o with
      | some r => .maybe r.1 r.2.1 r.2.2
      | none => .gen) := by
    split
    · rename_i r hr
      exact s r hr
    · trivial
  unfold doing
  split
  · exact q
  · exact q
  · exact q
  · exact q
  · exact q
  · exact q
  · split
    · rename_i v hv
      exact fun W => quick_run hv W
    · split
      · rename_i r hr
        exact s r hr
      · split
        · rename_i r hr
          exact hr
        · trivial
  · split
    · rename_i v hv
      exact fun W => quick_run hv W
    · split
      · rename_i r hr
        exact ⟨_, hr⟩
      · exact s'
  · split
    · rename_i r hr
      exact hr
    · trivial
  · split
    · rename_i r hr
      exact hr
    · split
      · rename_i r hr
        exact ⟨_, hr⟩
      · trivial
  · exact s'
  · exact s'
  · exact s'
  · split
    · rename_i r hr
      exact fun W => callOf_run hρ hr W
    · split
      · rename_i r hr
        exact hr
      · split
        · rename_i v hv
          exact fun W => mmOf_run hv W
        · split
          · rename_i v hv
            exact fun W => lenOf_run hv W
          · split
            · rename_i r hr
              exact hr
            · trivial
  · split
    · rename_i r hr
      exact hr
    · trivial
  · trivial

end Go.Proofs.Ytbgmkefehfjicaa.Sy
