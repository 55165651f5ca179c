/-
  gen: a thread is laid, by contract; gen: one thread, explored (and what follows it).
-/
import Derived.Test.YtlpcnaeknbmjdaaGreatQd

noncomputable section
set_option linter.unusedVariables false
set_option linter.unusedSimpArgs false
namespace Go.Proofs.YtlpcnaeknbmjdaaGreat.Gn
open Go Go.RowKit
open Go.Proofs.YtlpcnaeknbmjdaaGreat.Sy (Let Blk HasL)
open Lw (I insCells tI)
def fillP (bs : List Int) (X : List I) (pos : List (Int × Int)) : List I := pos.foldl (fun X p => setImm X p.2.toNat (bs.getD p.1.toNat 0 - p.2)) X
theorem fillAll_pos (bs : List Int) (X : List I) (fs : List Fl) : fillAll bs X fs = fillP bs X (fs.map posOf) := by
 induction fs generalizing X with
 | nil => rfl
 | cons f r ih => exact ih _
def doneI (b : Bool) (acts : List ActD) : List I := fillP (begAll b acts) (hltL b acts) (posF b 0 acts)
theorem begF_len (b : Bool) (n : Nat) (acts : List ActD) : (begF b n acts).length = acts.length := by
 induction acts generalizing n with
 | nil => rfl
 | cons a r ih => simp [begF, ih]
theorem layL_cons (b : Bool) (a : ActD) (r : List ActD) : (layL b (a :: r)).length = (insA b a).length + (layL b r).length := by simp [layL]
theorem begF_bd (b : Bool) (n : Nat) (acts : List ActD) (i : Nat) (x : Int) (h : (begF b n acts)[i]? = some x) : (n : Int) ≤ x ∧ x ≤ (n : Int) + (layL b acts).length := by
 induction acts generalizing n i with
 | nil => simp [begF] at h
 | cons a r ih =>
   have hl := layL_cons b a r
   cases i with
   | zero =>
     simp only [begF, List.getElem?_cons_zero, Option.some.injEq, Int.ofNat_eq_natCast] at h
     omega
   | succ i =>
     simp only [begF, List.getElem?_cons_succ] at h
     have := ih _ _ h
     omega
theorem tail_pos (b : Bool) (a : ActD) (h : a.op = 9 ∨ a.op = 10) : (tailB b a).length = 1 := by
 rcases h with h | h <;> cases b <;> simp [tailB, tailL, tailI, h]
theorem posF_bd (b : Bool) (n : Nat) (acts : List ActD) (p : Int × Int) (h : p ∈ posF b n acts) : (∃ a ∈ acts, (a.op = 9 ∨ a.op = 10) ∧ p.1 = a.to) ∧ (n : Int) ≤ p.2 ∧ p.2 < (n : Int) + (layL b acts).length := by
 induction acts generalizing n with
 | nil => cases h
 | cons a r ih =>
   have hl := layL_cons b a r
   simp only [posF, List.mem_append] at h
   rcases h with h | h
   ·unfold posA at h
    split at h
    ·rename_i hop
     rcases List.mem_singleton.1 h with rfl
     have ht := tail_pos b a hop
     have : (insA b a).length = (preI a).length + (tailB b a).length := by simp [insA]
     refine ⟨⟨a, Sy.mH, hop, rfl⟩, ?_, ?_⟩
     ·simp only [Int.ofNat_eq_natCast]
      omega
     ·simp only [Int.ofNat_eq_natCast]
      omega
    ·cases h
   ·obtain ⟨⟨x, hx, h1⟩, h2, h3⟩ := ih _ h
    exact ⟨⟨x, Sy.mC _ hx, h1⟩, by omega, by omega⟩
def laidF (q : Rw) (loc : Int) (av : Value) (b : Bool) (acts : List ActD) (B : List (Nat × Sy.Cont)) : Sy.CallC :=
 ⟨fLaid, #[thrV loc av, .bool b], OkL B av acts ∧ ∀ a ∈ acts, a.op = 9 ∨ a.op = 10 → 0 ≤ a.to ∧ a.to ≤ acts.length, ⟨[], [], 1, B⟩,
  [(⟨fun _ => faultF b 0 acts ≠ none, fun _ => [], fun _ => []⟩, fun _ => .tuple #[.slice none 0 0, .agg #[.int .i64 (fltV b acts).1, .int .i64 (fltV b acts).2.1, .int .i64 (fltV b acts).2.2]]),
   (⟨fun ns => faultF b 0 acts = none ∧ q.V (lv0 ns) (doneI b acts), fun _ => [], fun ns => q.B (lv0 ns) (doneI b acts)⟩, fun ns => .tuple #[slV (lv0 ns), .agg #[.int .i64 0, .int .i64 0, .int .i64 0]])]⟩
theorem okF_of {b : Bool} {acts : List ActD} {fs : List Fl} (hT : ∀ a ∈ acts, a.op = 9 ∨ a.op = 10 → 0 ≤ a.to ∧ a.to ≤ acts.length) (hp : fs.map posOf = posF b 0 acts) (hn : (layL b acts).length ≤ 16383) (hm : fs.length ≤ 2000000) : OkF (begAll b acts) (hltL b acts) fs := by
 refine ⟨fun j f hf => ?_, fun i x hx => ?_, by simp [hltL]; omega, hm⟩
 ·have hmem : posOf f ∈ posF b 0 acts := by
   rw [← hp]
   exact List.mem_map.2 ⟨f, List.mem_of_getElem? hf, rfl⟩
  obtain ⟨⟨a, ha, hop, he⟩, h1, h2⟩ := posF_bd b 0 acts _ hmem
  have he : f.to = a.to := he
  have h1 : (0 : Int) ≤ f.at' := by simpa [posOf] using h1
  have h2 : f.at' < (layL b acts).length := by simpa [posOf] using h2
  obtain ⟨t1, t2⟩ := hT a ha hop
  refine ⟨by omega, h1, ?_, ?_⟩
  ·simp only [begAll, List.length_append, begF_len, List.length_singleton]
   omega
  ·simp only [hltL, List.length_append, List.length_singleton]
   omega
 ·unfold begAll at hx
  by_cases hi : i < (begF b 0 acts).length
  ·rw [List.getElem?_append_left hi] at hx
   have := begF_bd b 0 acts i x hx
   omega
  ·rw [List.getElem?_append_right (by omega)] at hx
   have : x = Int.ofNat (layL b acts).length := by
    rcases List.getElem?_eq_some_iff.1 hx with ⟨h, h'⟩
    simpa using h'.symm
   rw [this]
   simp only [Int.ofNat_eq_natCast]
   omega
theorem fs_len {b : Bool} {acts : List ActD} {fs : List Fl} (hp : fs.map posOf = posF b 0 acts) : fs.length ≤ (layL b acts).length := by
 have h : ∀ (l : List ActD) (n : Nat), (posF b n l).length ≤ (layL b l).length := fun l => by
  induction l with
  | nil => intro n; exact Nat.le_refl _
  | cons a r ih =>
    intro n
    have := ih (n + (insA b a).length)
    have h2 : (posA n a).length ≤ (insA b a).length := by
     unfold posA
     split
     ·rename_i hop
      have := tail_pos b a hop
      simp only [List.length_singleton, insA, List.length_append]
      omega
     ·simp
    rw [layL_cons]
    simp only [posF, List.length_append]
    omega
 have := h acts 0
 rw [← hp, List.length_map] at this
 exact this
theorem ctxLd_holds (b : Bool) (acts : List ActD) (av : Value) (B : List (Nat × Sy.Cont)) (k1 k2 : Nat) : (ctxLd rowQ fillQ b acts av B k1 k2).holds Tryz.prog := Sy.mkU_holds (Sy.mkS_holds (fun _ h => (by cases h)) (fun p hp a L => by
 rcases List.mem_singleton.1 hp with rfl
 exact laidC_met _ _ _ _ _ _ _ _) (fun p hp a L => by
 rcases List.mem_singleton.1 hp with rfl
 exact upN_met _ _ _ _ _)) (fun p hp args L => by
 rcases List.mem_singleton.1 hp with rfl
 exact putL_met _ _ _ _ _ _ _ _ _ _) (fun p hp a L => by
 rcases List.mem_singleton.1 hp with rfl
 exact fillsC_met _ _ _ _ _ _ _ _ _)
theorem laidF_met (loc : Int) (av : Value) (b : Bool) (acts : List ActD) (B : List (Nat × Sy.Cont)) : Sy.Meets Tryz.prog (laidF rowQ loc av b acts B) := by
 refine Sy.meets_ofY (k := 0) (ctxLd_holds b acts av B 5 5) mixed (L := rdOf B) (Sy.Ent.refl _) (ld0_run rowQ fillQ (rdOf B) b acts loc av B) fun hok ns => ?_
 obtain ⟨hL, hT⟩ := hok
 have hR := hL.at_
 simp only [ld0_R, Sy.Res.holds]
 refine ⟨hR.sl, hL, gotL_of (fun p hp => hp), ⟨fun h1 => ?_, fun h1 => ?_⟩⟩
 ·exact ⟨_, Sy.mH, [Let.none], rfl, rfl, Sy.Ent.sub (List.nil_sublist _), h1⟩
 ·obtain ⟨hf, hV, hW, hp, hn⟩ := h1
  have o1 : ∀ v X, (rdOf B ++ ((rowB v X ++ fillB (ns 3).n (letW [ns 4, ns 5, ns 6] 1) (fsL b acts [ns 4, ns 5, ns 6])).map Sy.ownOf)).Perm ((rowB (slV v) X).map Sy.ownOf ++ others (rdOf B ++ ((rowB v X ++ fillB (ns 3).n (letW [ns 4, ns 5, ns 6] 1) (fsL b acts [ns 4, ns 5, ns 6])).map Sy.ownOf)) ((rowB (slV v) X).map Sy.ownOf)) ∧
    (others (rdOf B ++ ((rowB v X ++ fillB (ns 3).n (letW [ns 4, ns 5, ns 6] 1) (fsL b acts [ns 4, ns 5, ns 6])).map Sy.ownOf)) ((rowB (slV v) X).map Sy.ownOf)).Perm (rdOf B ++ (fillB (ns 3).n (letW [ns 4, ns 5, ns 6] 1) (fsL b acts [ns 4, ns 5, ns 6])).map Sy.ownOf) := fun v X => by
   refine others_spec ?_
   rw [List.map_append]
   exact List.perm_append_comm_assoc _ _ _
  refine ⟨hR.sl, ⟨by rw [begF_len, hR.len], by rw [hV.len]⟩, fun _ => ⟨⟨hV, by simp, by omega⟩, ?_, fun k9 => ?_⟩⟩
  ·exact (o1 _ _).1
  ·have o2 : ∀ U : List Blk, (others (rdOf B ++ ((rowB (letW [ns 4, ns 5, ns 6] 0) (layL b acts) ++ fillB (ns 3).n (letW [ns 4, ns 5, ns 6] 1) (fsL b acts [ns 4, ns 5, ns 6])).map Sy.ownOf)) ((rowB (slV (letW [ns 4, ns 5, ns 6] 0)) (layL b acts)).map Sy.ownOf) ++ U).Perm (U ++ others (rdOf B ++ ((rowB (letW [ns 4, ns 5, ns 6] 0) (layL b acts) ++ fillB (ns 3).n (letW [ns 4, ns 5, ns 6] 1) (fsL b acts [ns 4, ns 5, ns 6])).map Sy.ownOf)) ((rowB (slV (letW [ns 4, ns 5, ns 6] 0)) (layL b acts)).map Sy.ownOf)) := fun U => List.perm_append_comm
   have p2 := others_spec (T := _ ++ (rowB (lv0 [ns 9]) (layL b acts ++ [hltI])).map Sy.ownOf) (U := (rowB (slV (lv0 [ns 9])) (layL b acts ++ [hltI])).map Sy.ownOf) (o2 ((rowB (lv0 [ns 9]) (layL b acts ++ [hltI])).map Sy.ownOf))
   have hgot : Sy.GotL (others (others (rdOf B ++ ((rowB (letW [ns 4, ns 5, ns 6] 0) (layL b acts) ++ fillB (ns 3).n (letW [ns 4, ns 5, ns 6] 1) (fsL b acts [ns 4, ns 5, ns 6])).map Sy.ownOf)) ((rowB (slV (letW [ns 4, ns 5, ns 6] 0)) (layL b acts)).map Sy.ownOf) ++ (rowB (lv0 [ns 9]) (layL b acts ++ [hltI])).map Sy.ownOf) ((rowB (slV (lv0 [ns 9])) (layL b acts ++ [hltI])).map Sy.ownOf)) (fillB (ns 3).n (slV (letW [ns 4, ns 5, ns 6] 1)) (fsL b acts [ns 4, ns 5, ns 6])) := got_self _ _ fun p hp => by
    refine ⟨Sy.ownOf p, ?_, rfl, rfl⟩
    refine p2.2.symm.subset ((o1 _ _).2.symm.subset (Sy.mR _ (List.mem_map.2 ⟨p, hp, rfl⟩)))
   have sp := fsIn_spec (pos := posF b 0 acts) ⟨hgot, hW, hp⟩
   have hm := fs_len sp.2.2
   have hd : ∀ fs : List Fl, fs.map posOf = posF b 0 acts → doneI b acts = fillAll (begAll b acts) (hltL b acts) fs := fun fs h => by rw [fillAll_pos, h]; rfl
   have hd := hd _ sp.2.2
   have hact : (layL b acts).length ≤ 2000000 := by omega
   refine ⟨⟨k9, sp.2.1, okF_of hT sp.2.2 hn (Nat.le_trans hm hact)⟩, p2.1, sp.1, fun _ => ?_⟩
   refine ⟨_, Sy.mC _ (Sy.mS _), [ns 9], rfl, rfl, ?_, hf, ?_⟩
   ·show Sy.Ent _ ((rowB (slV (lv0 [ns 9])) (doneI b acts)).map Sy.ownOf)
    rw [hd]
    exact Sy.Ent.sub (List.sublist_append_right _ _)
   ·show RowV (lv0 [ns 9]) (doneI b acts)
    rw [hd]
    exact RowV.to k9 (fillAll_len _ _ _)
open Sy.O (bz fork nil pack step steps)
open Sy.Res (need hyp br leaf both)
open Go Go.RowKit
open Go.Proofs.YtlpcnaeknbmjdaaGreat.Sy (Let Blk HasL)
open Lw (I insCells tI)
def OkT (acts : List ActD) : Prop := ∀ a ∈ acts, a.op = 9 ∨ a.op = 10 → 0 ≤ a.to ∧ a.to ≤ acts.length
def laidBy (q : Rw) (b : Bool) (acts : List ActD) (B : List (Nat × Sy.Cont)) (args : Array Value) : Sy.CallC :=
 { laidF q 0 undef b acts B with args := args, ok := ∃ loc av, args = #[thrV loc av, .bool b] ∧ OkL B av acts ∧ OkT acts }
theorem laidBy_met (b : Bool) (acts : List ActD) (B : List (Nat × Sy.Cont)) (args : Array Value) : Sy.Meets Tryz.prog (laidBy rowQ b acts B args) := by
 rintro ⟨loc, av, rfl, h⟩
 exact laidF_met loc av b acts B h
def ctxOn (q : Rw) (b : Bool) (acts : List ActD) (B : List (Nat × Sy.Cont)) (tv : Value) (l : List ThreadD) (cells : Int) : Sy.Ctx := Sy.mkS [(fWhole, fun _ _ => wholeC B tv l cells), (fLaid, fun a _ => laidBy q b acts B a)] [] []
theorem ctxOn_holds (b : Bool) (acts : List ActD) (B : List (Nat × Sy.Cont)) (tv : Value) (l : List ThreadD) (cells : Int) : (ctxOn rowQ b acts B tv l cells).holds Tryz.prog := Sy.mkS_holds (fun p hp a L => by
 rcases List.mem_cons.1 hp with rfl | hp
 ·exact wholeC_met _ _ _ _
 rcases List.mem_singleton.1 hp with rfl
 exact laidBy_met _ _ _ _) (fun _ h => (by cases h)) (fun _ h => (by cases h))
abbrev fOne : FuncId := 25
def on_o : Sy.O := (bz 22 0x3b565d (fork (bz 9 0x13f nil) (bz 18 0x2595d (fork (bz 12 0x9fd nil) (bz 13 0x13fa nil)))))
noncomputable def on_R (q : Rw) (TL : List Blk) (b : Bool) (acts : List ActD) (B : List (Nat × Sy.Cont)) (g o n c : Nat) (l : List ThreadD) (cells th : Int) (ns : Nat → Sy.Let) : Sy.Res (Value × List Blk) :=
 let z0 := o + Int.toNat th * 2
 let z1 := o + Int.toNat th * 2 + 1
 let z2 := Prod.snd (fltV b acts)
 let z3 := lv0 [ns 4]
 need (ThreadsR B (Value.slice (some ⟨g, o, none⟩) n c) l) (need (Sy.GotL TL B) (hyp True (br (bif bif !wholeF cells l then true else Ex.ltQ th 0 then true else Ex.leQ (Int.ofNat n) th) (leaf (Value.tuple (Array.mk [.slice none 0 0, Value.agg (Array.mk [.int .i64 1, .int .i64 0, .int .i64 0])]), TL)) (need (0 ≤ th ∧ th < (↑n : Int)) (need (∃ (i : Int), HasL TL g z0 (Value.int .i64 i)) (hyp (∀ (u : Value), HasL TL g z0 u → u = Value.int .i64 (ns 2).i) (need (∃ (v : Value), HasL TL g z1 v) (hyp (∀ (u : Value), HasL TL g z1 u → u = (ns 3).v) (need (∃ (loc : Int), ∃ (av : Value), Array.mk [Value.agg (Array.mk [.int .i64 (ns 2).i, (ns 3).v]), Value.bool b] = Array.mk [thrV loc av, Value.bool b] ∧ OkL B av acts ∧ OkT acts) (need (Sy.GotL TL B) (both (hyp (faultF b 0 acts = none → False) (leaf (Value.tuple (Array.mk [.slice none 0 0, Value.agg (Array.mk [.int .i64 (Prod.fst (fltV b acts)), .int .i64 (Prod.fst z2), .int .i64 (Prod.snd z2)])]), TL))) (hyp (faultF b 0 acts = none ∧ q.2 z3 (doneI b acts)) (leaf (Value.tuple (Array.mk [.slice (slP z3) (Sy.lenS z3) (slC z3), Value.agg (Array.mk [.int .i64 0, .int .i64 0, .int .i64 0])]), TL.append (List.map Sy.ownOf (q.1 z3 (doneI b acts)))))))))))))))))
theorem on_run (q : Rw) (TL : List Blk) (b : Bool) (acts : List ActD) (B : List (Nat × Sy.Cont)) (g o n c : Nat) (l : List ThreadD) (cells th : Int) : Sy.Ran (Sy.inY Tryz.prog (ctxOn q b acts B (.slice (some ⟨g, o, none⟩) n c) l cells) 50 fOne #[progV cells (.slice (some ⟨g, o, none⟩) n c), .int .i64 th, .bool b] TL 0) on_o (on_R q TL b acts B g o n c l cells th) := ⟨fun _ => by kernel_rfl, fun _ => by kernel_rfl⟩
open Lw (Nd isExpr goodN nodeOk nodesOk refs onceOk isPow geoOk zeroOk)
theorem getD_set2 {α : Type} (l : List α) (i j : Nat) (x d : α) (h : i < l.length) : (l.set i x).getD j d = if i = j then x else l.getD j d := by
 rw [List.getD_eq_getElem?_getD, List.getElem?_set]
 by_cases hij : i = j
 ·subst hij
  simp [h]
 ·simp [hij, List.getD_eq_getElem?_getD]
theorem beqI {a b : Int} (h : a = b) : (a == b) = true := by simp [h]
theorem bneI {a b : Int} (h : ¬ a = b) : (a == b) = false := beq_eq_false_iff_ne.2 h
theorem dec0 {p : Prop} [Decidable p] (h : ¬ p) : decide p = false := decide_eq_false h
theorem dec1 {p : Prop} [Decidable p] (h : p) : decide p = true := decide_eq_true h
theorem badX_ok {loc : Int} {i : Nat} {n : NodeD} (h : badX loc i n = false) (hg : Lw.goodU n.val) (h0 : 0 ≤ loc) (h1 : loc ≤ 24) : nodeOk 24 i ⟨n.op, n.val, n.a, n.b⟩ := by
 have hw : Ex.wrapQ .u64 loc = loc := Lw.wrapU h0 (by omega)
 unfold badX at h
 rw [hw] at h
 simp only [Ex.eqQ_eq, Ex.leQ_eq, Ex.ltQ_eq] at h
 unfold nodeOk
 simp only
 by_cases e1 : n.op = 1
 ·rw [beqI e1] at h
  by_cases ha : n.a = 0 <;> by_cases hb : n.b = 0 <;> simp_all
 ·rw [bneI e1] at h
  by_cases e2 : n.op = 2
  ·rw [beqI e2] at h
   by_cases ha : n.a = 0 <;> by_cases hb : n.b = 0 <;> by_cases hv : n.val < loc <;> simp_all
   omega
  ·rw [bneI e2] at h
   by_cases e3 : 3 ≤ n.op
   ·by_cases e5 : n.op ≤ 5
    ·rw [dec1 e3, dec1 e5] at h
     by_cases a0 : 0 ≤ n.a <;> by_cases ai : n.a < (i : Int) <;> by_cases hb : n.b = 0 <;> by_cases hv : n.val = 0 <;> simp_all
    ·rw [dec1 e3, dec0 e5] at h
     by_cases a0 : 0 ≤ n.a <;> by_cases ai : n.a < (i : Int) <;> by_cases b0 : 0 ≤ n.b <;> by_cases bi : n.b < (i : Int) <;> by_cases e6 : 6 ≤ n.op <;> by_cases e19 : n.op ≤ 19 <;> by_cases hv : n.val = 0 <;> simp_all
   ·have e6 : ¬ 6 ≤ n.op := by omega
    rw [dec0 e3] at h
    by_cases a0 : 0 ≤ n.a <;> by_cases ai : n.a < (i : Int) <;> by_cases b0 : 0 ≤ n.b <;> by_cases bi : n.b < (i : Int) <;> simp_all
theorem bump_get {u : List Int} {a : Int} (h0 : 0 ≤ a) (h1 : a < (u.length : Int)) (j : Nat) : (bump u a).getD j 0 = u.getD j 0 + (([a.toNat].count j : Nat) : Int) := by
 unfold bump
 rw [getD_set2 _ _ _ _ _ (by omega)]
 by_cases hj : a.toNat = j
 ·rw [if_pos hj, hj]
  simp
 ·rw [if_neg hj, List.count_singleton]
  have : (a.toNat == j) = false := beq_eq_false_iff_ne.2 hj
  simp [this]
theorem bump_len (u : List Int) (a : Int) : (bump u a).length = u.length := by simp [bump]
theorem usedS_get {m : Nat} {u : List Int} {n : NodeD} (hm : u.length = m) (ho : OperO m n) (j : Nat) : (usedS u n).getD j 0 = u.getD j 0 + (((Nd.refs ⟨n.op, n.val, n.a, n.b⟩).count j : Nat) : Int) := by
 unfold usedS Nd.refs
 simp only [Ex.leQ_eq]
 by_cases h3 : 3 ≤ n.op
 ·obtain ⟨a0, a1⟩ := ho.1 h3
  by_cases h6 : 6 ≤ n.op
  ·obtain ⟨b0, b1⟩ := ho.2 h6
   rw [dec1 h3, dec1 h6, if_neg (by omega), if_neg (by omega)]
   simp only [cond_true]
   rw [bump_get b0 (by rw [bump_len, hm]; exact b1), bump_get a0 (by rw [hm]; exact a1), show [n.a.toNat, n.b.toNat] = [n.a.toNat] ++ [n.b.toNat] from rfl, List.count_append]
   omega
  ·rw [dec1 h3, dec0 h6, if_neg (by omega), if_pos (by omega)]
   simp only [cond_true, cond_false]
   rw [bump_get a0 (by rw [hm]; exact a1)]
 ·have h6 : ¬ 6 ≤ n.op := by omega
  rw [dec0 h3, dec0 h6, if_pos (by omega)]
  simp
theorem usedS_len (u : List Int) (n : NodeD) : (usedS u n).length = u.length := by
 unfold usedS
 cases Ex.leQ 6 n.op <;> cases Ex.leQ 3 n.op <;> simp [bump_len]
theorem usedL_get {m : Nat} : ∀ {l : List NodeD} {u : List Int}, u.length = m → (∀ n ∈ l, OperO m n) → ∀ j, (usedL l u).getD j 0 = u.getD j 0 + (((refs (nds l)).count j : Nat) : Int)
 | [], u, _, _, j => by simp [usedL, nds, refs]
 | n :: l, u, hm, ho, j => by
   have ih := usedL_get (l := l) (u := usedS u n) (by rw [usedS_len, hm]) (fun x hx => ho x (Sy.mC _ hx)) j
   show (usedL l (usedS u n)).getD j 0 = _
   rw [ih, usedS_get hm (ho n Sy.mH)]
   show _ = u.getD j 0 + (((Nd.refs ⟨n.op, n.val, n.a, n.b⟩ ++ refs (nds l)).count j : Nat) : Int)
   rw [List.count_append]
   omega
theorem usedL_len : ∀ (l : List NodeD) (u : List Int), (usedL l u).length = u.length
 | [], _ => rfl
 | n :: l, u => (usedL_len l (usedS u n)).trans (usedS_len u n)
theorem once_of {l : List NodeD} (ho : ∀ n ∈ l, OperO l.length n) (h : onceF l = true) : onceOk (nds l) := by
 intro j hj
 rw [nds_len] at hj ⊢
 unfold onceF at h
 have hf : failsB l.length (usedL l (List.replicate l.length 0)) 0 = false := by simpa using h
 have hlt : j < (usedL l (List.replicate l.length 0)).length := by rw [usedL_len]; simpa using hj
 have hg := usedL_get (l := l) (u := List.replicate l.length 0) (m := l.length) (by simp) ho j
 have h0 : (List.replicate l.length (0 : Int)).getD j 0 = 0 := by simp [List.getD_eq_getElem?_getD, hj]
 rw [h0] at hg
 cases hp : passB l.length (0 + j) ((usedL l (List.replicate l.length 0)).getD j 0) with
 | true =>
   have : failsB l.length (usedL l (List.replicate l.length 0)) 0 = true := (failsB_iff _ _ _).2 ⟨j, _, by rw [List.getD_eq_getElem?_getD, List.getElem?_eq_getElem hlt]; rfl, hp⟩
   rw [hf] at this
   cases this
 | false =>
   rw [hg, Nat.zero_add] at hp
   unfold passB at hp
   simp only [Ex.eqQ_eq, Ex.ltQ_eq, Int.ofNat_eq_natCast, Int.zero_add] at hp
   by_cases hl : j + 1 < l.length
   ·rw [if_pos hl]
    by_cases e : (((refs (nds l)).count j : Nat) : Int) = 1
    ·omega
    ·rw [bneI e, dec1 (show (j : Int) < (l.length : Int) - 1 by omega)] at hp
     simp at hp
   ·rw [if_neg hl]
    by_cases e : (((refs (nds l)).count j : Nat) : Int) = 1
    ·rw [beqI e, dec0 (show ¬ (j : Int) < (l.length : Int) - 1 by omega)] at hp
     simp at hp
    ·by_cases g : (1 : Int) < (((refs (nds l)).count j : Nat) : Int)
     ·rw [dec1 g] at hp
      simp at hp
     ·omega
theorem expr_of {loc : Int} {l : List NodeD} (h : exprF loc l = true) (hg : goodN (nds l)) (h0 : 0 ≤ loc) (h1 : loc ≤ 24) : isExpr 24 (nds l) := by
 unfold exprF at h
 simp only [Bool.and_eq_true, Bool.not_eq_true', decide_eq_true_eq] at h
 obtain ⟨hb, hp, hle, ho⟩ := h
 have hb' : ¬ anyBad loc l := fun hx => by
  rw [(anyBad_iff loc l).1 hx] at hb
  cases hb
 have hN : ∀ i n, l[i]? = some n → badX loc i n = false := fun i n hn => by
  cases hx : badX loc i n with
  | true => exact absurd ⟨i, n, hn, hx⟩ hb'
  | false => rfl
 refine ⟨fun i x hx => ?_, by rw [nds_len]; exact hp, by rw [nds_len]; exact hle, once_of (oper_of hb') ho⟩
 unfold nds at hx
 rw [List.getElem?_map] at hx
 cases hn : l[i]? with
 | none => rw [hn] at hx; cases hx
 | some n =>
   rw [hn] at hx
   injection hx with hx
   subst hx
   exact badX_ok (hN i n hn) (hg _ (List.mem_map.2 ⟨n, List.mem_of_getElem? hn, rfl⟩)) h0 h1
theorem place_of {size base cells loc : Int} {ix : List NodeD} (h : placeF size base cells loc ix = true) (hg : goodN (nds ix)) (h0 : 0 ≤ loc) (h1 : loc ≤ 24) (c0 : 0 ≤ cells) (c1 : cells ≤ 4096) {k : Int} (k0 : 0 ≤ k) (k1 : k < 5) :
  (size = 0 ∧ ix = [] ∧ zeroOk base k) ∨ geoOk base size (nds ix) k := by
 unfold placeF at h
 simp only [Ex.ltQ_eq, Ex.eqQ_eq] at h
 by_cases s0 : size < 0
 ·rw [dec1 s0] at h; simp at h
 by_cases s1 : 1024 < size
 ·rw [dec0 s0, dec1 s1] at h; simp at h
 rw [dec0 s0, dec0 s1] at h
 by_cases hA : Ex.andQ .i64 size (Ex.wrapQ .i64 (Ex.subQ' size 1)) = 0
 ·rw [beqI hA] at h
  by_cases hb : base < 0
  ·rw [dec1 hb] at h; simp at h
  rw [dec0 hb] at h
  have hsub : ∀ m : Int, 1 ≤ m → m ≤ 1024 → Ex.wrapQ .i64 (Ex.subQ' cells m) = cells - m := fun m h1 h2 => by
   rw [Ex.wrapQ_eq, Ex.subQ_eq]
   simp [IntKind.wrap, IntKind.signed, IntKind.bits]
   omega
  by_cases z : size = 0
  ·subst z
   rw [dec0 (show ¬ (1 : Int) < 0 by omega)] at h
   simp only [cond_false, Bool.not_true] at h
   simp only [hsub 1 (by omega) (by omega)] at h
   by_cases hc : cells - 1 < base
   ·rw [dec1 hc] at h; simp at h
   ·rw [dec0 hc, beqI rfl] at h
    simp only [cond_false, cond_true, decide_eq_true_eq] at h
    exact .inl ⟨rfl, List.length_eq_zero_iff.1 h, ⟨by omega, by omega⟩, k0, k1⟩
  ·have hp := (Lw.pow_iff (s := size) (by omega) (by omega)).1 hA
   rw [bneI z] at h
   simp only [cond_false, Bool.not_true] at h
   by_cases s2 : 1 < size
   ·rw [dec1 s2] at h
    simp only [cond_true] at h
    simp only [hsub size (by omega) (by omega)] at h
    by_cases hc : cells - size < base
    ·rw [dec1 hc] at h; simp at h
    ·rw [dec0 hc] at h
     exact .inr ⟨⟨hp, by omega, by omega⟩, ⟨k0, k1⟩, expr_of (by simpa using h) hg h0 h1⟩
   ·have s1 : size = 1 := by omega
    subst s1
    rw [dec0 s2] at h
    simp only [cond_false] at h
    simp only [hsub 1 (by omega) (by omega)] at h
    by_cases hc : cells - 1 < base
    ·rw [dec1 hc] at h; simp at h
    ·rw [dec0 hc] at h
     exact .inr ⟨⟨hp, by omega, by omega⟩, ⟨k0, k1⟩, expr_of (by simpa using h) hg h0 h1⟩
 ·rw [bneI hA] at h
  simp at h
def goodA (a : ActD) : Prop := goodN (nds a.ix) ∧ goodN (nds a.e) ∧ goodN (nds a.f)
structure ActS (a : ActD) (na : Nat) : Prop where
 op : a.op = 1 ∨ a.op = 2 ∨ a.op = 3 ∨ a.op = 4 ∨ a.op = 5 ∨ a.op = 6 ∨ a.op = 7 ∨ a.op = 8 ∨ a.op = 9 ∨ a.op = 10
 e : a.op ≠ 2 → a.op ≠ 7 → a.op ≠ 9 → isExpr 24 (nds a.e)
 f : a.op = 6 → isExpr 24 (nds a.f)
 p : 2 ≤ a.op → a.op ≤ 6 → ∀ k : Int, 0 ≤ k → k < 5 → (a.size = 0 ∧ a.ix = [] ∧ zeroOk a.base k) ∨ geoOk a.base a.size (nds a.ix) k
 to : a.op = 9 ∨ a.op = 10 → 0 ≤ a.to ∧ a.to ≤ na
 all : 0 ≤ a.to ∧ a.to ≤ na
theorem act_of {cells loc : Int} {na : Nat} {a : ActD} (h : actF cells loc na a = true) (hg : goodA a) (h0 : 0 ≤ loc) (h1 : loc ≤ 24) (c0 : 0 ≤ cells) (c1 : cells ≤ 4096) : ActS a na := by
 obtain ⟨gi, ge, gf⟩ := hg
 unfold actF at h
 simp only [Bool.and_eq_true, decide_eq_true_eq] at h
 obtain ⟨⟨o1, o2⟩, -, -, hp, -, -, he, hf, ht⟩ := h
 refine ⟨by omega, fun e2 e7 e9 => ?_, fun e6 => ?_, fun p2 p6 k k0 k1 => ?_, fun hto => ?_, ?_⟩
 ·rw [show hasE a.op = true from dec1 ⟨e2, e7, e9⟩] at he
  exact expr_of he ge h0 h1
 ·rw [show hasF a.op = true from dec1 e6] at hf
  exact expr_of hf gf h0 h1
 ·rw [show hasPlace a.op = true from dec1 ⟨p2, p6⟩] at hp
  exact place_of hp gi h0 h1 c0 c1 k0 k1
 ·rw [show hasTo a.op = true from dec1 hto] at ht
  simp only [cond_true, Bool.and_eq_true, Ex.leQ_eq, decide_eq_true_eq] at ht
  exact ht
 ·cases hh : hasTo a.op <;> rw [hh] at ht
  ·have ht : a.to = 0 := by
    rw [cond_false, Ex.eqQ_eq] at ht
    simpa using ht
   omega
  ·simp only [cond_true, Bool.and_eq_true, Ex.leQ_eq, decide_eq_true_eq] at ht
   exact ht
theorem okAct_of {B : List (Nat × Sy.Cont)} {a : ActD} {na : Nat} {iv ev fv : Value} (h : ActS a na) (hg : goodA a) (xi : OkX B iv a.ix) (xe : OkX B ev a.e) (xf : OkX B fv a.f) : OkAct B B B a iv ev fv := by
 obtain ⟨gi, ge, gf⟩ := hg
 exact ⟨h.op, fun e2 e7 e9 => ⟨xe, h.e e2 e7 e9, ge, by omega, by omega⟩, fun e6 => ⟨xf, h.f e6, gf, by omega, by omega⟩, fun e => ⟨xi, gi, h.p (by omega) (by omega) 0 (by omega) (by omega)⟩,
  fun e => ⟨xi, gi, h.p (by omega) (by omega) 1 (by omega) (by omega)⟩, fun e => ⟨xi, gi, h.p (by omega) (by omega) 2 (by omega) (by omega)⟩⟩
theorem exprI_le {l : List NodeD} (h : isExpr 24 (nds l)) (k : Int) : (exprI l k).length ≤ 262144 := by
 unfold exprI
 split
 ·exact (Lw.lay_fits h (i := (nds l).length - 1) (by have := h.2.1; omega) (24 + k)).2
 ·simp
theorem placeI_le {b s k : Int} {l : List NodeD} (h : (s = 0 ∧ l = [] ∧ zeroOk b k) ∨ geoOk b s (nds l) k) : (placeI b s l k).length ≤ 262160 := by
 unfold placeI
 split
 ·have := Lw.numL_le 29 (65536 + 8 * b)
  omega
 ·rename_i hs
  rcases h with ⟨h, _⟩ | h
  ·exact absurd h hs
  split
  ·unfold Lw.addrL
   have h1 := (Lw.lay_fits h.2.2 (i := (nds l).length - 1) (by have := h.2.2.2.1; omega) (24 + k)).2
   have h2 := Lw.numL_le (24 + k + 1) (s - 1)
   have h3 := Lw.numL_le 29 (65536 + 8 * b)
   simp only [List.length_append, List.length_cons, List.length_nil]
   omega
  ·simp
theorem preI_le {a : ActD} {na : Nat} (h : ActS a na) : (preI a).length ≤ 1900000 := by
 unfold preI
 split
 ·rename_i e
  have := exprI_le (h.e (by omega) (by omega) (by omega)) 0
  omega
 split
 ·rename_i e
  have := placeI_le (h.p (by omega) (by omega) 0 (by omega) (by omega))
  omega
 split
 ·rename_i e
  have := exprI_le (h.e (by omega) (by omega) (by omega)) 0
  have := placeI_le (h.p (by omega) (by omega) 1 (by omega) (by omega))
  simp only [List.length_append]
  omega
 split
 ·rename_i e
  have := exprI_le (h.e (by omega) (by omega) (by omega)) 0
  have := exprI_le (h.f e) 1
  have := placeI_le (h.p (by omega) (by omega) 2 (by omega) (by omega))
  simp only [List.length_append]
  omega
 ·simp
def goodT3 (l : List ThreadD) : Prop := ∀ t ∈ l, ∀ a ∈ t.acts, goodA a
theorem whole_acts {cells : Int} {l : List ThreadD} (h : wholeF cells l = true) (hg : goodT3 l) {t : ThreadD} (ht : t ∈ l) : ∀ a ∈ t.acts, ActS a t.acts.length := by
 intro a ha
 unfold wholeF at h
 simp only [decide_eq_true_eq] at h
 have h1 : ¬ out0 cells l = true := fun x => h (.inl x)
 have h2 : ¬ badThrs cells l := fun x => h (.inr x)
 obtain ⟨i, hi⟩ := List.mem_iff_getElem?.1 ht
 obtain ⟨j, hj⟩ := List.mem_iff_getElem?.1 ha
 have h3 : ¬ out1 t = true := fun x => h2 ⟨i, t, hi, .inl x⟩
 have h4 : actF cells t.locals t.acts.length a = true := by
  cases hx : actF cells t.locals t.acts.length a with
  | true => rfl
  | false => exact absurd ⟨i, t, hi, .inr ⟨j, a, hj, hx⟩⟩ h2
 have hc : 0 ≤ cells ∧ cells ≤ 4096 := by
  unfold out0 at h1
  simp only [Ex.ltQ_eq] at h1
  by_cases c0 : cells < 0
  ·rw [dec1 c0] at h1; simp at h1
  ·by_cases c1 : 4096 < cells
   ·rw [dec0 c0, dec1 c1] at h1; simp at h1
   ·omega
 have hl : 0 ≤ t.locals ∧ t.locals ≤ 24 := by
  unfold out1 at h3
  simp only [Ex.ltQ_eq] at h3
  by_cases c0 : t.locals < 0
  ·rw [dec1 c0] at h3; simp at h3
  ·by_cases c1 : 24 < t.locals
   ·rw [dec0 c0, dec1 c1] at h3; simp at h3
   ·omega
 exact act_of h4 (hg t ht a ha) hl.1 hl.2 hc.1 hc.2
theorem okL_of {B : List (Nat × Sy.Cont)} {av : Value} {acts : List ActD} {na : Nat} (hR : ActsR B av acts) (h : ∀ a ∈ acts, ActS a na) (hg : ∀ a ∈ acts, goodA a) : OkL B av acts :=
 ⟨hR, fun i a ha iv ev fv xi xe xf => okAct_of (h a (List.mem_of_getElem? ha)) (hg a (List.mem_of_getElem? ha)) xi xe xf, fun i a ha => preI_le (h a (List.mem_of_getElem? ha))⟩
open Go Go.Joins Go.ChangeShapes Go.WideShapes Go.RowKit Go.Deep
open Go.Proofs.YtlpcnaeknbmjdaaGreat.Sy (Let Blk HasL Cont)
open Lw (goodN goodU)
section
variable {H : Type} {enc : TypeId × Value → H} {w : World} {base : Nat} {spare : Nat → Bool} {held : Bool}
theorem cell_u64 {n : Nat} {t : TypeId} {c : Value} {y : DataW H × List MemPlace} (ht : Tryz.prog.underlying t = some (.int .u64))
  (h : DataW.trod enc Tryz.prog w base spare held n t [c] = some y) : ∃ x : Int, c = .int .u64 x ∧ goodU x := by
 obtain ⟨m, e, -, hw⟩ := DataW.trod_int ht h
 injection e with e
 refine ⟨m, e, ?_⟩
 simp only [Lit.wf, IntKind.min, IntKind.max, IntKind.signed, IntKind.bits, Bool.and_eq_true, decide_eq_true_eq] at hw
 unfold goodU
 simp at hw
 omega
set_option maxRecDepth 100000 in
theorem open_nodesR {n : Nat} {c : Value} {x : DataW H × List MemPlace} (h : DataW.trod enc Tryz.prog w base spare held n 44 [c] = some x) (hw : Small Tryz.prog 44 x.1) : ∃ l, OkX (heapB w) c l ∧ goodN (nds l) := by
 obtain ⟨len, ⟨p, cap, hc⟩, hb, hat, hel⟩ := open_sl (sz := 4) Tryz.underlying44 (by kernel_rfl) (by omega) h hw
 have hB : Tryz.prog.bytesOf 127 = 32 := by kernel_rfl
 rw [hB] at hb
 obtain ⟨l, hl, hp⟩ := list_of (n := len) (p := fun i (m : NodeD) => HasL (rdOf (heapB w)) (Sy.ptrS c) (Sy.offS c + i * 4) (.int .i64 m.op) ∧ HasL (rdOf (heapB w)) (Sy.ptrS c) (Sy.offS c + i * 4 + 1) (.int .u64 m.val) ∧ HasL (rdOf (heapB w)) (Sy.ptrS c) (Sy.offS c + i * 4 + 1 + 1) (.int .i64 m.a) ∧ HasL (rdOf (heapB w)) (Sy.ptrS c) (Sy.offS c + i * 4 + 1 + 1 + 1) (.int .i64 m.b) ∧ goodU m.val) fun i hi => by
  obtain ⟨cs, n', y, hcl, hcell, htr, hsm⟩ := hel i hi
  match cs, hcl with
  | [c0, c1, c2, c3], _ =>
    obtain ⟨n2, hf⟩ := open_fl (cs := [c0, c1, c2, c3]) Tryz.underlying127 (by kernel_rfl) (by rfl) htr hsm
    obtain ⟨y0, h0, -⟩ := hf 0 _ c0 rfl rfl
    obtain ⟨y1, h1, -⟩ := hf 1 _ c1 rfl rfl
    obtain ⟨y2, h2, -⟩ := hf 2 _ c2 rfl rfl
    obtain ⟨y3, h3, -⟩ := hf 3 _ c3 rfl rfl
    obtain ⟨x0, rfl⟩ := cell_num Tryz.underlying3 h0
    obtain ⟨x1, rfl, g1⟩ := cell_u64 Tryz.underlying99 h1
    obtain ⟨x2, rfl⟩ := cell_num Tryz.underlying3 h2
    obtain ⟨x3, rfl⟩ := cell_num Tryz.underlying3 h3
    exact ⟨⟨x0, x1, x2, x3⟩, hasL_heap (hcell 0 _ rfl), hasL_heap (hcell 1 _ rfl), hasL_heap (hcell 2 _ rfl), hasL_heap (hcell 3 _ rfl), g1⟩
 refine ⟨l, ⟨⟨⟨p, len, cap, hc⟩, by rw [hc]; exact hl.symm, fun hne => ?_, fun i m hm => (hp i m hm).1, fun i m hm => (hp i m hm).2.1, fun i m hm => (hp i m hm).2.2.1, fun i m hm => (hp i m hm).2.2.2.1⟩, ?_⟩, fun x hx => ?_⟩
 ·obtain ⟨cap', he⟩ := hat (by rw [← hl]; exact List.length_pos_iff.2 hne)
  exact ⟨len, cap', he⟩
 ·rw [hl]
  unfold reachBytes at hb
  omega
 ·obtain ⟨m, hm, rfl⟩ := List.mem_map.1 hx
  obtain ⟨i, hi⟩ := List.mem_iff_getElem?.1 hm
  exact (hp i m hi).2.2.2.2
end
end Go.Proofs.YtlpcnaeknbmjdaaGreat.Gn
namespace Go.Proofs.YtlpcnaeknbmjdaaGreat.Gn
open Sy.O (bz fork nil pack step steps)
open Sy.Res (need hyp br leaf both)
open Go Go.RowKit
open Go.Proofs.YtlpcnaeknbmjdaaGreat.Sy (Let Blk HasL)
open Lw (I insCells tI)
def wholeN (B : List (Nat × Sy.Cont)) (tv : Value) (l : List ThreadD) (cells : Int) : Sy.CallC := { wholeC B tv l cells with ok := ThreadsR B tv l ∧ wholeF cells l = false, outs := [Sy.plainO (.bool false)] }
theorem wholeN_met (B : List (Nat × Sy.Cont)) (tv : Value) (l : List ThreadD) (cells : Int) : Sy.Meets Tryz.prog (wholeN B tv l cells) := by
 rintro ⟨h, hf⟩
 have := wholeC_met B tv l cells h
 rw [wholeC, hf] at this
 exact this
def ctxO0 (B : List (Nat × Sy.Cont)) (tv : Value) (l : List ThreadD) (cells : Int) : Sy.Ctx := Sy.mkS [(fWhole, fun _ _ => wholeN B tv l cells)] [] []
theorem ctxO0_holds (B : List (Nat × Sy.Cont)) (tv : Value) (l : List ThreadD) (cells : Int) : (ctxO0 B tv l cells).holds Tryz.prog := Sy.mkS_holds (fun p hp a L => by
 rcases List.mem_singleton.1 hp with rfl
 exact wholeN_met _ _ _ _) (fun _ h => (by cases h)) (fun _ h => (by cases h))
def o0_o : Sy.O := (bz 37 0x13fffff65d nil)
noncomputable def o0_R (TL : List Blk) (b : Bool) (B : List (Nat × Sy.Cont)) (tv : Value) (l : List ThreadD) (cells th : Int) (ns : Nat → Sy.Let) : Sy.Res (Value × List Blk) :=
 need (ThreadsR B tv l ∧ wholeF cells l = false) (need (Sy.GotL TL B) (hyp True (leaf (Value.tuple (Array.mk [.slice none 0 0, Value.agg (Array.mk [.int .i64 1, .int .i64 0, .int .i64 0])]), TL))))
theorem o0_run (TL : List Blk) (b : Bool) (B : List (Nat × Sy.Cont)) (tv : Value) (l : List ThreadD) (cells th : Int) : Sy.Ran (Sy.inY Tryz.prog (ctxO0 B tv l cells) 50 fOne #[progV cells tv, .int .i64 th, .bool b] TL 0) o0_o (o0_R TL b B tv l cells th) := ⟨fun _ => by kernel_rfl, fun _ => by kernel_rfl⟩
def o2_o : Sy.O := (bz 22 0x3b565d (fork (bz 9 0x13f nil) (bz 17 0x12cad (fork (bz 12 0x9fd nil) (bz 13 0x13fa nil)))))
noncomputable def o2_R (q : Rw) (TL : List Blk) (b : Bool) (acts : List ActD) (B : List (Nat × Sy.Cont)) (c : Nat) (l : List ThreadD) (cells th : Int) (ns : Nat → Sy.Let) : Sy.Res (Value × List Blk) :=
 let z0 := 0 + Int.toNat th * 2
 let z1 := 0 + Int.toNat th * 2 + 1
 let z2 := Prod.snd (fltV b acts)
 let z3 := lv0 [ns 4]
 need (ThreadsR B (Value.slice none 0 c) l) (need (Sy.GotL TL B) (hyp True (br (bif bif !wholeF cells l then true else Ex.ltQ th 0 then true else Ex.leQ 0 th) (leaf (Value.tuple (Array.mk [.slice none 0 0, Value.agg (Array.mk [.int .i64 1, .int .i64 0, .int .i64 0])]), TL)) (need ((∃ (n : Nat), ∃ (c_1 : Nat), Value.slice none 0 c = Value.slice (some ⟨0, 0, none⟩) n c_1) ∧ 0 ≤ th ∧ th < 0) (need (∃ (i : Int), HasL TL 0 z0 (Value.int .i64 i)) (hyp (∀ (u : Value), HasL TL 0 z0 u → u = Value.int .i64 (ns 2).i) (need (∃ (v : Value), HasL TL 0 z1 v) (hyp (∀ (u : Value), HasL TL 0 z1 u → u = (ns 3).v) (need (∃ (loc : Int), ∃ (av : Value), Array.mk [Value.agg (Array.mk [.int .i64 (ns 2).i, (ns 3).v]), Value.bool b] = Array.mk [thrV loc av, Value.bool b] ∧ OkL B av acts ∧ OkT acts) (need (Sy.GotL TL B) (both (hyp (faultF b 0 acts = none → False) (leaf (Value.tuple (Array.mk [.slice none 0 0, Value.agg (Array.mk [.int .i64 (Prod.fst (fltV b acts)), .int .i64 (Prod.fst z2), .int .i64 (Prod.snd z2)])]), TL))) (hyp (faultF b 0 acts = none ∧ q.2 z3 (doneI b acts)) (leaf (Value.tuple (Array.mk [.slice (slP z3) (Sy.lenS z3) (slC z3), Value.agg (Array.mk [.int .i64 0, .int .i64 0, .int .i64 0])]), TL.append (List.map Sy.ownOf (q.1 z3 (doneI b acts)))))))))))))))))
theorem o2_run (q : Rw) (TL : List Blk) (b : Bool) (acts : List ActD) (B : List (Nat × Sy.Cont)) (c : Nat) (l : List ThreadD) (cells th : Int) : Sy.Ran (Sy.inY Tryz.prog (ctxOn q b acts B (.slice none 0 c) l cells) 50 fOne #[progV cells (.slice none 0 c), .int .i64 th, .bool b] TL 0) o2_o (o2_R q TL b acts B c l cells th) := ⟨fun _ => by kernel_rfl, fun _ => by kernel_rfl⟩
def o3_o : Sy.O := (bz 22 0x3b565d (fork (bz 9 0x13f nil) (bz 17 0x12cad (fork (bz 12 0x9fd nil) (bz 13 0x13fa nil)))))
noncomputable def o3_R (q : Rw) (TL : List Blk) (b : Bool) (acts : List ActD) (B : List (Nat × Sy.Cont)) (g o c sp : Nat) (l : List ThreadD) (cells th : Int) (ns : Nat → Sy.Let) : Sy.Res (Value × List Blk) :=
 let z0 := some (Addr.mk g o (some sp))
 let z1 := Value.slice z0 0 c
 let z2 := Sy.offS z1 + Int.toNat th * 2
 let z3 := Sy.offS z1 + Int.toNat th * 2 + 1
 let z4 := Prod.snd (fltV b acts)
 let z5 := lv0 [ns 4]
 need (ThreadsR B z1 l) (need (Sy.GotL TL B) (hyp True (br (bif bif !wholeF cells l then true else Ex.ltQ th 0 then true else Ex.leQ 0 th) (leaf (Value.tuple (Array.mk [.slice none 0 0, Value.agg (Array.mk [.int .i64 1, .int .i64 0, .int .i64 0])]), TL)) (need ((∃ (n : Nat), ∃ (c_1 : Nat), Value.slice z0 0 c = Value.slice (some (Addr.mk (Sy.ptrS z1) (Sy.offS z1) none)) n c_1) ∧ 0 ≤ th ∧ th < 0) (need (∃ (i : Int), HasL TL g z2 (Value.int .i64 i)) (hyp (∀ (u : Value), HasL TL g z2 u → u = Value.int .i64 (ns 2).i) (need (∃ (v : Value), HasL TL g z3 v) (hyp (∀ (u : Value), HasL TL g z3 u → u = (ns 3).v) (need (∃ (loc : Int), ∃ (av : Value), Array.mk [Value.agg (Array.mk [.int .i64 (ns 2).i, (ns 3).v]), Value.bool b] = Array.mk [thrV loc av, Value.bool b] ∧ OkL B av acts ∧ OkT acts) (need (Sy.GotL TL B) (both (hyp (faultF b 0 acts = none → False) (leaf (Value.tuple (Array.mk [.slice none 0 0, Value.agg (Array.mk [.int .i64 (Prod.fst (fltV b acts)), .int .i64 (Prod.fst z4), .int .i64 (Prod.snd z4)])]), TL))) (hyp (faultF b 0 acts = none ∧ q.2 z5 (doneI b acts)) (leaf (Value.tuple (Array.mk [.slice (slP z5) (Sy.lenS z5) (slC z5), Value.agg (Array.mk [.int .i64 0, .int .i64 0, .int .i64 0])]), TL.append (List.map Sy.ownOf (q.1 z5 (doneI b acts)))))))))))))))))
theorem o3_run (q : Rw) (TL : List Blk) (b : Bool) (acts : List ActD) (B : List (Nat × Sy.Cont)) (g o c sp : Nat) (l : List ThreadD) (cells th : Int) : Sy.Ran (Sy.inY Tryz.prog (ctxOn q b acts B (.slice (some ⟨g, o, some sp⟩) 0 c) l cells) 50 fOne #[progV cells (.slice (some ⟨g, o, some sp⟩) 0 c), .int .i64 th, .bool b] TL 0) o3_o (o3_R q TL b acts B g o c sp l cells th) := ⟨fun _ => by kernel_rfl, fun _ => by kernel_rfl⟩
def goodT (cells : Int) (l : List ThreadD) (th : Int) : Prop := wholeF cells l = true ∧ 0 ≤ th ∧ th < (l.length : Int)
def actsOf (l : List ThreadD) (th : Int) : List ActD := (l.getD th.toNat ⟨0, []⟩).acts
structure OkOne (B : List (Nat × Sy.Cont)) (tv : Value) (l : List ThreadD) (cells : Int) : Prop where
 t : ThreadsR B tv l
 ok : wholeF cells l = true → ∀ (i : Nat) (t : ThreadD), l[i]? = some t → ∀ av, ActsR B av t.acts → OkL B av t.acts ∧ OkT t.acts
def faultVal (c l o : Int) : Value := .agg #[.int .i64 c, .int .i64 l, .int .i64 o]
def outsOne (q : Rw) (b : Bool) (l : List ThreadD) (cells th : Int) : List (Sy.OutM × (List Let → Value)) :=
 [(⟨fun _ => ¬ goodT cells l th, fun _ => [], fun _ => []⟩, fun _ => .tuple #[.slice none 0 0, faultVal 1 0 0]),
  (⟨fun _ => goodT cells l th ∧ faultF b 0 (actsOf l th) ≠ none, fun _ => [], fun _ => []⟩, fun _ => .tuple #[.slice none 0 0, faultVal (fltV b (actsOf l th)).1 (fltV b (actsOf l th)).2.1 (fltV b (actsOf l th)).2.2]),
  (⟨fun ns => goodT cells l th ∧ faultF b 0 (actsOf l th) = none ∧ q.V (lv0 ns) (doneI b (actsOf l th)), fun _ => [], fun ns => q.B (lv0 ns) (doneI b (actsOf l th))⟩, fun ns => .tuple #[slV (lv0 ns), faultVal 0 0 0])]
def oneC (q : Rw) (b : Bool) (B : List (Nat × Sy.Cont)) (tv : Value) (l : List ThreadD) (cells th : Int) : Sy.CallC :=
 ⟨fOne, #[progV cells tv, .int .i64 th, .bool b], OkOne B tv l cells, ⟨[], [], 1, B⟩, outsOne q b l cells th⟩
theorem oneC_met (b : Bool) (B : List (Nat × Sy.Cont)) (tv : Value) (l : List ThreadD) (cells th : Int) : Sy.Meets Tryz.prog (oneC rowQ b B tv l cells th) := fun hok => by
 obtain ⟨hT, hA⟩ := id hok
 have leaf1 : ∀ L : List Blk, ¬ goodT cells l th → Sy.leafB (oneC rowQ b B tv l cells th) (.tuple #[.slice none 0 0, faultVal 1 0 0], L) := fun L h => ⟨_, Sy.mH, [Let.none], rfl, rfl, Sy.Ent.sub (List.nil_sublist _), h⟩
 cases hw : wholeF cells l with
 | false =>
   refine Sy.meets_ofY (k := 0) (ctxO0_holds B tv l cells) mixed (L := rdOf B) (Sy.Ent.refl _) (o0_run (rdOf B) b B tv l cells th) (fun _ ns => ?_) hok
   have hng : ¬ goodT cells l th := fun h => by rw [h.1] at hw; cases hw
   simp only [o0_R, Sy.Res.holds]
   exact ⟨⟨hT, hw⟩, gotL_of (fun p hp => hp), fun _ => leaf1 _ hng⟩
 | true =>
   have hl : (∃ c, tv = .slice none 0 c ∧ l = []) ∨ (∃ g o c sp, tv = .slice (some ⟨g, o, some sp⟩) 0 c ∧ l = []) ∨ ∃ g o n c, tv = .slice (some ⟨g, o, none⟩) n c := by
    obtain ⟨p, n, c, hv⟩ := hT.sl
    have hn : n = l.length := by rw [← hT.len, hv]; rfl
    by_cases hne : l = []
    ·rw [hne] at hn
     have hn : n = 0 := hn
     subst hn
     match p, hv with
     | none, hv => exact .inl ⟨c, hv, hne⟩
     | some ⟨g, o, none⟩, hv => exact .inr (.inr ⟨g, o, 0, c, hv⟩)
     | some ⟨g, o, some sp⟩, hv => exact .inr (.inl ⟨g, o, c, sp, hv, hne⟩)
    ·obtain ⟨n, c, hv⟩ := hT.at_ hne
     exact .inr (.inr ⟨_, _, n, c, hv⟩)
   have hend : (bif bif !wholeF cells [] then true else Ex.ltQ th 0 then true else Ex.leQ (Int.ofNat 0) th) = false → False := fun hb => by
    cases hw0 : wholeF cells [] <;> rw [hw0] at hb
    ·cases hb
    rw [Ex.ltQ_eq, Ex.leQ_eq] at hb
    simp only [Bool.not_true, cond_false] at hb
    by_cases h : th < 0
    ·simp [h] at hb
    ·have : 0 ≤ th := by omega
     simp [h, this] at hb
   have hng0 : ¬ goodT cells [] th := fun h => by
    have := h.2
    simp at this
    omega
   rcases hl with ⟨c, rfl, rfl⟩ | ⟨g, o, c, sp, rfl, rfl⟩ | ⟨g, o, n, c, hv⟩
   ·refine Sy.meets_ofY (k := 0) (ctxOn_holds b (actsOf [] th) B (.slice none 0 c) [] cells) mixed (L := rdOf B) (Sy.Ent.refl _) (o2_run rowQ (rdOf B) b (actsOf [] th) B c [] cells th) (fun _ ns => ?_) hok
    simp only [o2_R, Sy.Res.holds]
    exact ⟨hT, gotL_of (fun p hp => hp), fun _ => ⟨fun _ => leaf1 _ hng0, fun hb => (hend hb).elim⟩⟩
   ·refine Sy.meets_ofY (k := 0) (ctxOn_holds b (actsOf [] th) B (.slice (some ⟨g, o, some sp⟩) 0 c) [] cells) mixed (L := rdOf B) (Sy.Ent.refl _) (o3_run rowQ (rdOf B) b (actsOf [] th) B g o c sp [] cells th) (fun _ ns => ?_) hok
    simp only [o3_R, Sy.Res.holds]
    exact ⟨hT, gotL_of (fun p hp => hp), fun _ => ⟨fun _ => leaf1 _ hng0, fun hb => (hend hb).elim⟩⟩
   subst hv
   refine Sy.meets_ofY (k := 0) (ctxOn_holds b (actsOf l th) B (.slice (some ⟨g, o, none⟩) n c) l cells) mixed (L := rdOf B) (Sy.Ent.refl _) (on_run rowQ (rdOf B) b (actsOf l th) B g o n c l cells th) (fun _ ns => ?_) hok
   have hn : n = l.length := hT.len
   subst hn
   simp only [on_R, Sy.Res.holds]
   refine ⟨hT, gotL_of (fun p hp => hp), fun _ => ⟨fun hb => leaf1 _ fun hg => ?_, fun hb => ?_⟩⟩
   ·rw [hw] at hb
    obtain ⟨-, g1, g2⟩ := hg
    rw [Ex.ltQ_eq, Ex.leQ_eq] at hb
    have e1 : decide (th < 0) = false := by simp; omega
    have e2 : decide (((l.length : Nat) : Int) ≤ th) = false := by simp; omega
    simp only [Bool.not_true, cond_false, Int.ofNat_eq_natCast] at hb
    rw [e1, e2] at hb
    cases hb
   ·rw [hw, Ex.ltQ_eq, Ex.leQ_eq] at hb
    simp only [Bool.not_true, cond_false, Int.ofNat_eq_natCast] at hb
    have g1 : 0 ≤ th := by
     by_cases h : th < 0
     ·simp [h] at hb
     ·omega
    have g2 : th < (l.length : Int) := by
     by_cases h : ((l.length : Nat) : Int) ≤ th
     ·have : ¬ th < 0 := by omega
      simp [h, this] at hb
     ·omega
    have hgood : goodT cells l th := ⟨hw, g1, g2⟩
    have hlt : th.toNat < l.length := by omega
    obtain ⟨t, ht⟩ : ∃ t, l[th.toNat]? = some t := ⟨_, List.getElem?_eq_getElem hlt⟩
    have hacts : actsOf l th = t.acts := by
     rw [actsOf, List.getD_eq_getElem?_getD, ht]
     rfl
    obtain ⟨av, c1, c2, c3⟩ := hT.thr _ _ ht
    obtain ⟨k1, k2⟩ := hA hw _ _ ht av c3
    have c1 : HasL (rdOf B) g (o + th.toNat * 2) (.int .i64 t.locals) := c1
    have c2 : HasL (rdOf B) g (o + th.toNat * 2 + 1) av := c2
    refine ⟨⟨g1, g2⟩, ⟨_, c1⟩, fun e1 => ⟨⟨_, c2⟩, fun e2 => ?_⟩⟩
    have e1 := e1 _ c1
    have e2 := e2 _ c2
    simp only [Value.int.injEq, true_and] at e1
    rw [← e1, ← e2]
    refine ⟨⟨t.locals, av, rfl, by rw [hacts]; exact k1, by rw [hacts]; exact k2⟩, gotL_of (fun p hp => hp), fun h1 => ?_, fun h1 => ?_⟩
    ·exact ⟨_, Sy.mC _ Sy.mH, [Let.none], rfl, rfl, Sy.Ent.sub (List.nil_sublist _), hgood, h1⟩
    ·exact ⟨_, Sy.mC _ (Sy.mC _ (Sy.mS _)), [ns 4], rfl, rfl, Sy.Ent.sub (List.sublist_append_right _ _), hgood, h1.1, h1.2⟩
open Go Go.RowKit
open Go.Proofs.YtlpcnaeknbmjdaaGreat.Sy (Let Blk HasL)
open Lw (I insCells tI)
abbrev fThread : FuncId := 10
abbrev fLseThread : FuncId := 11
def ctxTh (q : Rw) (b : Bool) (B : List (Nat × Sy.Cont)) (tv : Value) (l : List ThreadD) (cells th : Int) : Sy.Ctx := Sy.mkS [(fOne, fun _ _ => oneC q b B tv l cells th)] [] []
theorem ctxTh_holds (b : Bool) (B : List (Nat × Sy.Cont)) (tv : Value) (l : List ThreadD) (cells th : Int) : (ctxTh rowQ b B tv l cells th).holds Tryz.prog := Sy.mkS_holds (fun p hp a L => by
 rcases List.mem_singleton.1 hp with rfl
 exact oneC_met _ _ _ _ _ _) (fun _ h => (by cases h)) (fun _ h => (by cases h))
def th1_o : Sy.O := (bz 10 0x25d (fork (bz 12 0x9fd nil) (fork (bz 12 0x9fd nil) (bz 13 0x13fa nil))))
noncomputable def th1_R (q : Rw) (TL : List Blk) (B : List (Nat × Sy.Cont)) (tv : Value) (l : List ThreadD) (cells th : Int) (ns : Nat → Sy.Let) : Sy.Res (Value × List Blk) :=
 let z0 := actsOf l th
 let z1 := Prod.snd (fltV false z0)
 let z2 := lv0 [ns 2]
 need (OkOne B tv l cells) (need (Sy.GotL TL B) (both (hyp (goodT cells l th → False) (leaf (Value.tuple (Array.mk [.slice none 0 0, Value.agg (Array.mk [.int .i64 1, .int .i64 0, .int .i64 0])]), TL))) (both (hyp (goodT cells l th ∧ faultF false 0 z0 ≠ none) (leaf (Value.tuple (Array.mk [.slice none 0 0, Value.agg (Array.mk [.int .i64 (Prod.fst (fltV false z0)), .int .i64 (Prod.fst z1), .int .i64 (Prod.snd z1)])]), TL))) (hyp (goodT cells l th ∧ faultF false 0 z0 = none ∧ q.2 z2 (doneI false z0)) (leaf (Value.tuple (Array.mk [.slice (slP z2) (Sy.lenS z2) (slC z2), Value.agg (Array.mk [.int .i64 0, .int .i64 0, .int .i64 0])]), TL.append (List.map Sy.ownOf (q.1 z2 (doneI false z0)))))))))
theorem th1_run (q : Rw) (TL : List Blk) (B : List (Nat × Sy.Cont)) (tv : Value) (l : List ThreadD) (cells th : Int) : Sy.Ran (Sy.inY Tryz.prog (ctxTh q false B tv l cells th) 50 fThread #[progV cells tv, .int .i64 th] TL 0) th1_o (th1_R q TL B tv l cells th) := ⟨fun _ => by kernel_rfl, fun _ => by kernel_rfl⟩
def th2_o : Sy.O := (bz 10 0x25d (fork (bz 12 0x9fd nil) (fork (bz 12 0x9fd nil) (bz 13 0x13fa nil))))
noncomputable def th2_R (q : Rw) (TL : List Blk) (B : List (Nat × Sy.Cont)) (tv : Value) (l : List ThreadD) (cells th : Int) (ns : Nat → Sy.Let) : Sy.Res (Value × List Blk) :=
 let z0 := actsOf l th
 let z1 := Prod.snd (fltV true z0)
 let z2 := lv0 [ns 2]
 need (OkOne B tv l cells) (need (Sy.GotL TL B) (both (hyp (goodT cells l th → False) (leaf (Value.tuple (Array.mk [.slice none 0 0, Value.agg (Array.mk [.int .i64 1, .int .i64 0, .int .i64 0])]), TL))) (both (hyp (goodT cells l th ∧ faultF true 0 z0 ≠ none) (leaf (Value.tuple (Array.mk [.slice none 0 0, Value.agg (Array.mk [.int .i64 (Prod.fst (fltV true z0)), .int .i64 (Prod.fst z1), .int .i64 (Prod.snd z1)])]), TL))) (hyp (goodT cells l th ∧ faultF true 0 z0 = none ∧ q.2 z2 (doneI true z0)) (leaf (Value.tuple (Array.mk [.slice (slP z2) (Sy.lenS z2) (slC z2), Value.agg (Array.mk [.int .i64 0, .int .i64 0, .int .i64 0])]), TL.append (List.map Sy.ownOf (q.1 z2 (doneI true z0)))))))))
theorem th2_run (q : Rw) (TL : List Blk) (B : List (Nat × Sy.Cont)) (tv : Value) (l : List ThreadD) (cells th : Int) : Sy.Ran (Sy.inY Tryz.prog (ctxTh q true B tv l cells th) 50 fLseThread #[progV cells tv, .int .i64 th] TL 0) th2_o (th2_R q TL B tv l cells th) := ⟨fun _ => by kernel_rfl, fun _ => by kernel_rfl⟩
def threadC (q : Rw) (f : FuncId) (b : Bool) (B : List (Nat × Sy.Cont)) (tv : Value) (l : List ThreadD) (cells th : Int) : Sy.CallC :=
 ⟨f, #[progV cells tv, .int .i64 th], OkOne B tv l cells, ⟨[], [], 1, B⟩, outsOne q b l cells th⟩
theorem thread_met (B : List (Nat × Sy.Cont)) (tv : Value) (l : List ThreadD) (cells th : Int) : Sy.Meets Tryz.prog (threadC rowQ fThread false B tv l cells th) := by
 refine Sy.meets_ofY (k := 0) (ctxTh_holds false B tv l cells th) mixed (L := rdOf B) (Sy.Ent.refl _) (th1_run rowQ (rdOf B) B tv l cells th) fun hok ns => ?_
 simp only [th1_R, Sy.Res.holds]
 refine ⟨hok, gotL_of (fun p hp => hp), fun h => ?_, fun h => ?_, fun h => ?_⟩
 ·exact ⟨_, Sy.mH, [Let.none], rfl, rfl, Sy.Ent.sub (List.nil_sublist _), h⟩
 ·exact ⟨_, Sy.mC _ Sy.mH, [Let.none], rfl, rfl, Sy.Ent.sub (List.nil_sublist _), h⟩
 ·exact ⟨_, Sy.mC _ (Sy.mC _ (Sy.mS _)), [ns 2], rfl, rfl, Sy.Ent.sub (List.sublist_append_right _ _), h⟩
theorem lseThread_met (B : List (Nat × Sy.Cont)) (tv : Value) (l : List ThreadD) (cells th : Int) : Sy.Meets Tryz.prog (threadC rowQ fLseThread true B tv l cells th) := by
 refine Sy.meets_ofY (k := 0) (ctxTh_holds true B tv l cells th) mixed (L := rdOf B) (Sy.Ent.refl _) (th2_run rowQ (rdOf B) B tv l cells th) fun hok ns => ?_
 simp only [th2_R, Sy.Res.holds]
 refine ⟨hok, gotL_of (fun p hp => hp), fun h => ?_, fun h => ?_, fun h => ?_⟩
 ·exact ⟨_, Sy.mH, [Let.none], rfl, rfl, Sy.Ent.sub (List.nil_sublist _), h⟩
 ·exact ⟨_, Sy.mC _ Sy.mH, [Let.none], rfl, rfl, Sy.Ent.sub (List.nil_sublist _), h⟩
 ·exact ⟨_, Sy.mC _ (Sy.mC _ (Sy.mS _)), [ns 2], rfl, rfl, Sy.Ent.sub (List.sublist_append_right _ _), h⟩
open Go Go.RowKit
open Go.Proofs.YtlpcnaeknbmjdaaGreat.Sy (Let Blk HasL)
open Lw (I insCells tI)
abbrev ryV (v : Value) (e : Int) : Value := .agg #[slV v, .int .i64 e]
abbrev fRPut : FuncId := 61
def rNR_o : Sy.O := (bz 45 0x19ce3c7caa9d nil)
noncomputable def rNR_R (s m c : Nat) (e : Int) (Z : List I) (ns : Nat → Sy.Let) : Sy.Res (Value × List Blk) :=
 let z0 := 0 + m
 let z1 := Array.mk [Value.slice (some ⟨(ns 2).n, 0, none⟩) z0 (ns 3).n, Value.int .i64 e]
 let z2 := Sy.Cont.obj (Obj.cells z1 70)
 need ((0 : Nat) = 0 ∧ List.length (insCells Z) = m * 6 ∧ ∀ (u : Value), u ∈ insCells Z → Value.oneCell' u = true) (need (1 ≤ m) (need (0 + m ≤ 9223372036854775807) (need (z0 * (48 : Nat) ≤ 140737488355328) (hyp (Nat.le z0 (ns 3).n) (leaf (Value.agg z1, [Blk.mk (ns 2).n (Sy.Cont.row 49 6 z0 (ns 3).n ([] ++ insCells Z)) true, Blk.mk s (Sy.Cont.seg 0 (insCells Z)) false, Blk.mk (ns 1).n z2 true, Blk.mk (ns 0).n z2 true]))))))
theorem rNR_run (s m c : Nat) (e : Int) (Z : List I) : Sy.Ran (Sy.inB Tryz.prog Sy.S0 50 fRPut #[.agg #[.slice none 0 0, .int .i64 e], .slice (some ⟨s, 0, none⟩) m c] [⟨s, .seg 0 (insCells Z), false⟩]) rNR_o (rNR_R s m c e Z) := ⟨fun _ => by kernel_rfl, fun _ => by kernel_rfl⟩
def rRR_o : Sy.O := (bz 54 0x339c78f98aa51d nil)
noncomputable def rRR_R (s m c g n cap : Nat) (e : Int) (xs : List Value) (Z : List I) (ns : Nat → Sy.Let) : Sy.Res (Value × List Blk) :=
 let z0 := insCells Z
 let z1 := Array.mk [Value.slice (some ⟨(ns 2).n, 0, none⟩) (n + m) (ns 3).n, Value.int .i64 e]
 let z2 := Sy.Cont.obj (Obj.cells z1 70)
 need ((0 : Nat) = 0 ∧ List.length z0 = m * 6 ∧ ∀ (u : Value), u ∈ insCells Z → Value.oneCell' u = true) (need (1 ≤ m) (need (n + m ≤ 9223372036854775807) (need ((n + m) * (48 : Nat) ≤ 140737488355328) (hyp (Nat.le (n + m) (ns 3).n) (leaf (Value.agg z1, [Blk.mk (ns 2).n (Sy.Cont.row 49 6 (n + m) (ns 3).n (xs.append z0)) true, Blk.mk s (Sy.Cont.seg 0 z0) false, Blk.mk (ns 1).n z2 true, Blk.mk (ns 0).n z2 true]))))))
theorem rRR_run (s m c g n cap : Nat) (e : Int) (xs : List Value) (Z : List I) : Sy.Ran (Sy.inB Tryz.prog Sy.S0 50 fRPut #[.agg #[.slice (some ⟨g, 0, none⟩) n cap, .int .i64 e], .slice (some ⟨s, 0, none⟩) m c] [⟨g, .row tI 6 n cap xs, true⟩, ⟨s, .seg 0 (insCells Z), false⟩]) rRR_o (rRR_R s m c g n cap e xs Z) := ⟨fun _ => by kernel_rfl, fun _ => by kernel_rfl⟩
open Go Go.RowKit
open Go.Proofs.YtlpcnaeknbmjdaaGreat.Sy (Let Blk HasL)
open Lw (I insCells tI)
def ryO (q : Rw) (e : Int) (X : List I) : Sy.OutM × (List Let → Value) := rowU q X fun v => .agg #[v, .int .i64 e]
def rputC (q : Rw) (s c : Nat) (v : Value) (e : Int) (X Z : List I) : Sy.CallC :=
 ⟨fRPut, #[ryV v e, .slice (some ⟨s, 0, none⟩) Z.length c], q.V v X ∧ Z ≠ [] ∧ X.length + Z.length ≤ 2000000, ⟨[(s, .seg 0 (insCells Z))], q.B v X, 1, []⟩, [ryO q e (X ++ Z)]⟩
theorem ry_leaf {c : Sy.CallC} {e : Int} {X : List I} (ho : ryO rowQ e X ∈ c.outs) (hm : c.mem.m = 1) {g n cap : Nat} {xs : List Value} (hn : n = X.length) (hxs : xs = insCells X) (hc : n ≤ cap) (hne : X ≠ []) {r : List Blk} : Sy.leafB c (.agg #[.slice (some ⟨g, 0, none⟩) n cap, .int .i64 e], ⟨g, .row tI 6 n cap xs, true⟩ :: r) := by
 subst hn hxs
 exact ⟨_, ho, [letV (.slice (some ⟨g, 0, none⟩) X.length cap)], hm.symm, rfl, Sy.Ent.sub (.cons_cons _ (List.nil_sublist _)), rowV_some hc hne⟩
theorem rputC_met (s c : Nat) (v : Value) (e : Int) (X Z : List I) : Sy.Meets Tryz.prog (rputC rowQ s c v e X Z) := fun hok => by
 obtain ⟨hX, hZ, hb⟩ := id hok
 have hpos : 1 ≤ Z.length := List.length_pos_iff.2 hZ
 rcases hX.lit with ⟨rfl, h1, h2⟩ | ⟨g, cap, h1, h2, hc, hne⟩
 ·have hargs : (rputC rowQ s c v e [] Z).args = #[.agg #[.slice none 0 0, .int .i64 e], .slice (some ⟨s, 0, none⟩) Z.length c] := by
   show #[Value.agg #[slV v, _], _] = _
   rw [h1]
  refine Sy.meets_ofB (c := rputC rowQ s c v e [] Z) Sy.S0_holds mixed (L := [⟨s, .seg 0 (insCells Z), false⟩]) ?_ (by rw [hargs]; exact rNR_run s Z.length c e Z) (fun _ ns => ?_) hok
  ·show Sy.Ent (⟨s, .seg 0 (insCells Z), false⟩ :: ((rowB v []).map Sy.ownOf ++ [])) _
   rw [h2]
   exact Sy.Ent.refl _
  ·simp only [rNR_R, Sy.Res.holds]
   exact ⟨⟨trivial, ins_len Z, ins_one Z⟩, hpos, by omega, by omega, fun hc => ry_leaf (Sy.mS _) rfl (by simp) (by simp) hc (by simpa using hZ)⟩
 ·have hargs : (rputC rowQ s c v e X Z).args = #[.agg #[.slice (some ⟨g, 0, none⟩) X.length cap, .int .i64 e], .slice (some ⟨s, 0, none⟩) Z.length c] := by
   show #[Value.agg #[slV v, _], _] = _
   rw [h1]
  refine Sy.meets_ofB (c := rputC rowQ s c v e X Z) Sy.S0_holds mixed (L := [⟨g, .row tI 6 X.length cap (insCells X), true⟩, ⟨s, .seg 0 (insCells Z), false⟩]) ?_ (by rw [hargs]; exact rRR_run s Z.length c g X.length cap e (insCells X) Z) (fun _ ns => ?_) hok
  ·show Sy.Ent (⟨s, .seg 0 (insCells Z), false⟩ :: ((rowB v X).map Sy.ownOf ++ [])) _
   rw [h2]
   exact Sy.Ent.perm (List.Perm.swap _ _ _)
  ·simp only [rRR_R, Sy.Res.holds]
   exact ⟨⟨trivial, ins_len Z, ins_one Z⟩, hpos, by omega, by omega, fun hc => ry_leaf (Sy.mS _) rfl List.length_append.symm (ins_app X Z).symm hc (by simp [hne])⟩
open Go Go.RowKit
open Go.Proofs.YtlpcnaeknbmjdaaGreat.Sy (Let Blk HasL)
open Lw (I insCells tI)
abbrev fRExpr : FuncId := 63
abbrev fRPlace : FuncId := 62
def ctxRx (q : Rw) (B : List (Nat × Sy.Cont)) (R : List Blk) (ev : Value) (l : List NodeD) (k : Int) (v : Value) (X : List I) : Sy.Ctx := Sy.mkU Sy.S0 [(fRX7, fun _ _ => (rxU q B ev l k v X).toU [] (q.B v X) R)] []
def ctxRp (q : Rw) (B : List (Nat × Sy.Cont)) (R : List Blk) (iv : Value) (bs s : Int) (l : List NodeD) (k : Int) (v : Value) (X : List I) : Sy.Ctx := Sy.mkU Sy.S0 [(fRA7, fun _ _ => (raU q B iv bs s l k v X).toU [] (q.B v X) R)] []
def rex_o : Sy.O := (bz 23 0x6f529d (fork (bz 17 0x13fde nil) (bz 13 0x13fd nil)))
noncomputable def rex_R (q : Rw) (B : List (Nat × Sy.Cont)) (R TL : List Blk) (ev : Value) (l : List NodeD) (k : Int) (v : Value) (e : Int) (X : List I) (ns : Nat → Sy.Let) : Sy.Res (Value × List Blk) :=
 let z0 := lv0 [ns 2]
 let z1 := X.append (exprI l k)
 let z2 := List.map Sy.ownOf (q.1 z0 z1)
 need (okE B ev l k ∧ q.2 v X ∧ List.length X + List.length (exprI l k) ≤ 900000) (need (List.Perm TL ((List.map Sy.ownOf (q.1 v X)).append R)) (need (Sy.GotL R B) (hyp (q.2 z0 z1) (br (Ex.eqQ e 0) (leaf (Value.agg (Array.mk [.slice (slP z0) (Sy.lenS z0) (slC z0), .int .i64 (exprE l k)]), R.append z2)) (leaf (Value.agg (Array.mk [.slice (slP z0) (Sy.lenS z0) (slC z0), .int .i64 e]), R.append z2))))))
theorem rex_run (q : Rw) (B : List (Nat × Sy.Cont)) (R TL : List Blk) (ev : Value) (l : List NodeD) (k : Int) (v : Value) (e : Int) (X : List I) : Sy.Ran (Sy.inY Tryz.prog (ctxRx q B R ev l k v X) 50 fRExpr #[ryV v e, ev, .int .i64 k] TL 0) rex_o (rex_R q B R TL ev l k v e X) := ⟨fun _ => by kernel_rfl, fun _ => by kernel_rfl⟩
def rpl_o : Sy.O := (bz 40 0xcf28a3bbb9 (fork (bz 20 0x8ff3c nil) (bz 15 0x47f9 nil)))
noncomputable def rpl_R (q : Rw) (B : List (Nat × Sy.Cont)) (R TL : List Blk) (a : ActD) (iv ev fv : Value) (k : Int) (v : Value) (e : Int) (X : List I) (ns : Nat → Sy.Let) : Sy.Res (Value × List Blk) :=
 let z0 := ActD.size a
 let z1 := ActD.ix a
 let z2 := placeI (ActD.base a) z0 z1 k
 let z3 := lv0 [ns 3]
 let z4 := List.map Sy.ownOf (q.1 z3 (X.append z2))
 need (okP B iv (ActD.base a) z0 z1 k ∧ q.2 v X ∧ List.length X + List.length z2 ≤ 900000) (need (List.Perm TL ((List.map Sy.ownOf (q.1 v X)).append R)) (need (Sy.GotL R B) (hyp (q.2 z3 (X.append z2)) (br (Ex.eqQ e 0) (leaf (Value.agg (Array.mk [.slice (slP z3) (Sy.lenS z3) (slC z3), .int .i64 (placeE z0 z1 k)]), R.append z4)) (leaf (Value.agg (Array.mk [.slice (slP z3) (Sy.lenS z3) (slC z3), .int .i64 e]), R.append z4))))))
theorem rpl_run (q : Rw) (B : List (Nat × Sy.Cont)) (R TL : List Blk) (a : ActD) (iv ev fv : Value) (k : Int) (v : Value) (e : Int) (X : List I) : Sy.Ran (Sy.inY Tryz.prog (ctxRp q B R iv a.base a.size a.ix k v X) 50 fRPlace #[ryV v e, actV a iv ev fv, .int .i64 k] TL 0) rpl_o (rpl_R q B R TL a iv ev fv k v e X) := ⟨fun _ => by kernel_rfl, fun _ => by kernel_rfl⟩
theorem fstE_eq (e er : Int) : fstE e er = bif Ex.eqQ e 0 then er else e := by
 unfold fstE
 rw [Ex.eqQ_eq, Ex.eqQ_eq]
 have b1 : ∀ x : Int, (x == 0) = decide (x = 0) := fun x => rfl
 rw [b1, b1]
 by_cases h1 : e = 0 <;> by_cases h2 : er = 0 <;> simp [h1, h2]
def rexC (q : Rw) (B : List (Nat × Sy.Cont)) (ev : Value) (l : List NodeD) (k : Int) (v : Value) (e : Int) (X : List I) : Sy.CallC :=
 ⟨fRExpr, #[ryV v e, ev, .int .i64 k], okE B ev l k ∧ q.V v X ∧ X.length + (exprI l k).length ≤ 900000, ⟨[], q.B v X, 1, B⟩, [ryO q (fstE e (exprE l k)) (X ++ exprI l k)]⟩
def rplC (q : Rw) (B : List (Nat × Sy.Cont)) (a : ActD) (iv ev fv : Value) (k : Int) (v : Value) (e : Int) (X : List I) : Sy.CallC :=
 ⟨fRPlace, #[ryV v e, actV a iv ev fv, .int .i64 k], okP B iv a.base a.size a.ix k ∧ q.V v X ∧ X.length + (placeI a.base a.size a.ix k).length ≤ 900000, ⟨[], q.B v X, 1, B⟩, [ryO q (fstE e (placeE a.size a.ix k)) (X ++ placeI a.base a.size a.ix k)]⟩
theorem rexC_met (B : List (Nat × Sy.Cont)) (ev : Value) (l : List NodeD) (k : Int) (v : Value) (e : Int) (X : List I) : Sy.Meets Tryz.prog (rexC rowQ B ev l k v e X) := by
 have hS : (ctxRx rowQ B (rdOf B) ev l k v X).holds Tryz.prog := Sy.mkU_holds Sy.S0_holds (fun p hp a L => by
  rcases List.mem_singleton.1 hp with rfl
  exact rxU_met _ _ _ _ _ _) (fun _ h => (by cases h))
 refine Sy.meets_ofY (k := 0) hS mixed (L := (rowB v X).map Sy.ownOf ++ rdOf B) (Sy.Ent.refl _) (rex_run rowQ B (rdOf B) _ ev l k v e X) fun hok ns => ?_
 have leaf : ∀ e', fstE e (exprE l k) = e' → RowV (lv0 [ns 2]) (X ++ exprI l k) → ∀ A : List Blk, Sy.leafB (rexC rowQ B ev l k v e X) (.agg #[slV (lv0 [ns 2]), .int .i64 e'], A ++ (rowB (lv0 [ns 2]) (X ++ exprI l k)).map Sy.ownOf) := fun e' he hX A => by
  subst he
  exact ⟨_, Sy.mS _, [ns 2], rfl, rfl, Sy.Ent.sub (List.sublist_append_right _ _), hX⟩
 simp only [rex_R, Sy.Res.holds]
 refine ⟨hok, List.Perm.refl _, gotL_of (fun p hp => hp), fun hX => ⟨fun h => leaf _ ?_ hX _, fun h => leaf _ ?_ hX _⟩⟩
 ·rw [fstE_eq, h]
  rfl
 ·rw [fstE_eq, h]
  rfl
theorem rplC_met (B : List (Nat × Sy.Cont)) (a : ActD) (iv ev fv : Value) (k : Int) (v : Value) (e : Int) (X : List I) : Sy.Meets Tryz.prog (rplC rowQ B a iv ev fv k v e X) := by
 have hS : (ctxRp rowQ B (rdOf B) iv a.base a.size a.ix k v X).holds Tryz.prog := Sy.mkU_holds Sy.S0_holds (fun p hp a L => by
  rcases List.mem_singleton.1 hp with rfl
  exact raU_met _ _ _ _ _ _ _ _) (fun _ h => (by cases h))
 refine Sy.meets_ofY (k := 0) hS mixed (L := (rowB v X).map Sy.ownOf ++ rdOf B) (Sy.Ent.refl _) (rpl_run rowQ B (rdOf B) _ a iv ev fv k v e X) fun hok ns => ?_
 have leaf : ∀ (u : Value) (e' : Int), fstE e (placeE a.size a.ix k) = e' → RowV u (X ++ placeI a.base a.size a.ix k) → ∀ (n : Let), lv0 [n] = u → ∀ A : List Blk, Sy.leafB (rplC rowQ B a iv ev fv k v e X) (.agg #[slV u, .int .i64 e'], A ++ (rowB u (X ++ placeI a.base a.size a.ix k)).map Sy.ownOf) := fun u e' he hX n hn A => by
  subst he hn
  exact ⟨_, Sy.mS _, [n], rfl, rfl, Sy.Ent.sub (List.sublist_append_right _ _), hX⟩
 simp only [rpl_R, Sy.Res.holds]
 refine ⟨hok, List.Perm.refl _, gotL_of (fun p hp => hp), fun hX => ⟨fun h => leaf _ _ ?_ hX _ rfl _, fun h => leaf _ _ ?_ hX _ rfl _⟩⟩
 ·rw [fstE_eq, h]
  rfl
 ·rw [fstE_eq, h]
  rfl
open Go Go.RowKit
open Go.Proofs.YtlpcnaeknbmjdaaGreat.Sy (Let Blk HasL)
open Lw (I insCells tI)
abbrev fHalf : FuncId := 66
abbrev fTakes : FuncId := 65
abbrev fGives : FuncId := 68
abbrev fSwap : FuncId := 67
def ha_o : Sy.O := (fork (steps [0] nil) (steps [0] nil))
noncomputable def ha_R (TL : List Blk) (b : Bool) (x z : Int) (ns : Nat → Sy.Let) : Sy.Res (Value × List Blk) :=
 br b (leaf (Value.int .i64 x, TL)) (leaf (Value.int .i64 z, TL))
theorem ha_run (TL : List Blk) (b : Bool) (x z : Int) : Sy.Ran (Sy.inY Tryz.prog Sy.S0 50 fHalf #[.bool b, .int .i64 x, .int .i64 z] TL 0) ha_o (ha_R TL b x z) := ⟨fun _ => by kernel_rfl, fun _ => by kernel_rfl⟩
def ta_o : Sy.O := (bz 5 0x1a nil)
noncomputable def ta_R (TL : List Blk) (m : Int) (ns : Nat → Sy.Let) : Sy.Res (Value × List Blk) :=
 leaf (Value.bool (bif bif Ex.eqQ m 2 then true else Ex.eqQ m 4 then true else Ex.eqQ m 5), TL)
theorem ta_run (TL : List Blk) (m : Int) : Sy.Ran (Sy.inY Tryz.prog Sy.S0 50 fTakes #[.int .i64 m] TL 0) ta_o (ta_R TL m) := ⟨fun _ => by kernel_rfl, fun _ => by kernel_rfl⟩
def gi_o : Sy.O := (bz 5 0x1a nil)
noncomputable def gi_R (TL : List Blk) (m : Int) (ns : Nat → Sy.Let) : Sy.Res (Value × List Blk) :=
 leaf (Value.bool (bif bif Ex.eqQ m 3 then true else Ex.eqQ m 4 then true else Ex.eqQ m 5), TL)
theorem gi_run (TL : List Blk) (m : Int) : Sy.Ran (Sy.inY Tryz.prog Sy.S0 50 fGives #[.int .i64 m] TL 0) gi_o (gi_R TL m) := ⟨fun _ => by kernel_rfl, fun _ => by kernel_rfl⟩
def haC (b : Bool) (x z : Int) : Sy.CallC := Sy.plainC fHalf #[.bool b, .int .i64 x, .int .i64 z] (.int .i64 (bif b then x else z))
def taC (m : Int) : Sy.CallC := Sy.plainC fTakes #[.int .i64 m] (.bool (acqF m))
def giC (m : Int) : Sy.CallC := Sy.plainC fGives #[.int .i64 m] (.bool (relF m))
theorem haC_met (b : Bool) (x z : Int) : Sy.Meets Tryz.prog (haC b x z) := by
 refine Sy.meets_ofY (k := 0) Sy.S0_holds mixed (L := []) (Sy.Ent.refl _) (ha_run [] b x z) fun _ ns => ?_
 simp only [ha_R, Sy.Res.holds]
 refine ⟨fun h => plainB_leaf (v := .int .i64 (bif b then x else z)) (Sy.mS _) rfl (by rw [h]; rfl), fun h => plainB_leaf (v := .int .i64 (bif b then x else z)) (Sy.mS _) rfl (by rw [h]; rfl)⟩
theorem taC_met (m : Int) : Sy.Meets Tryz.prog (taC m) := by
 refine Sy.meets_ofY (k := 0) Sy.S0_holds mixed (L := []) (Sy.Ent.refl _) (ta_run [] m) fun _ ns => ?_
 simp only [ta_R, Sy.Res.holds]
 exact plainB_leaf (v := .bool (acqF m)) (Sy.mS _) rfl rfl
theorem giC_met (m : Int) : Sy.Meets Tryz.prog (giC m) := by
 refine Sy.meets_ofY (k := 0) Sy.S0_holds mixed (L := []) (Sy.Ent.refl _) (gi_run [] m) fun _ ns => ?_
 simp only [gi_R, Sy.Res.holds]
 exact plainB_leaf (v := .bool (relF m)) (Sy.mS _) rfl rfl
end Go.Proofs.YtlpcnaeknbmjdaaGreat.Gn
--@way 2
namespace Go.Proofs.YtlpcnaeknbmjdaaGreat.Gn
open Sy.O (bz fork nil pack step steps)
open Sy.Res (need hyp br leaf both)
open Go Go.RowKit
open Go.Proofs.YtlpcnaeknbmjdaaGreat.Sy (Let Blk HasL)
open Lw (I insCells tI)
def Sy.lyV (v : Value) : Value := match v with
 | .agg cs => Sy.argV cs 0
 | _ => undef
def Sy.lyE (v : Value) : Int := match v with
 | .agg cs => Sy.argI cs 1
 | _ => 0
def Sy.boolV (v : Value) : Bool := match v with
 | .bool b => b
 | _ => false
def Sy.rpU (q : Rw) (X0 : List I) (R : List Blk) (a : Array Value) (L : List Blk) : Sy.CallU :=
 (rputC q (Sy.ptrN (Sy.argV a 1)) (Sy.capN (Sy.argV a 1)) (Sy.lyV (Sy.argV a 0)) (Sy.lyE (Sy.argV a 0)) (X0 ++ Sy.oldI L) (Sy.headI L)).toU [] (q.B (Sy.lyV (Sy.argV a 0)) (X0 ++ Sy.oldI L)) R
def ctxH (m : Int) : Sy.Ctx := Sy.mkS [(fHalf, fun a _ => haC (Sy.boolV (Sy.argV a 0)) (Sy.argI a 1) (Sy.argI a 2)), (fTakes, fun _ _ => taC m), (fGives, fun _ _ => giC m)] [] []
theorem ctxH_holds (m : Int) : (ctxH m).holds Tryz.prog := Sy.mkS_holds (fun p hp a L => by
 rcases List.mem_cons.1 hp with rfl | hp
 ·exact haC_met _ _ _
 rcases List.mem_cons.1 hp with rfl | hp
 ·exact taC_met _
 rcases List.mem_singleton.1 hp with rfl
 exact giC_met _) (fun _ h => (by cases h)) (fun _ h => (by cases h))
def ctxSw (q : Rw) (m : Int) (X0 : List I) (R : List Blk) : Sy.Ctx := Sy.mkU (ctxH m) [(fRPut, Sy.rpU q X0 R)] []
def sw0_o : Sy.O := (bz 167 0x5f38c0044b58b800896800825d7800975e003659c4 (fork (bz 333 0x100c1c1b0178381c0d817838300082112d60b80041089680040844baf000844baf000831961c1386c2f1 nil) (bz 272 0x80c386c0bc3838360bc3860010896b0b8004225a0010225d780044baf0008332c709 nil)))
noncomputable def sw0_R (q : Rw) (R TL : List Blk) (a : ActD) (iv ev fv v : Value) (e : Int) (X : List I) (ns : Nat → Sy.Let) : Sy.Res (Value × List Blk) :=
 let z0 := Value.slice (slP v) (Sy.lenS v) (slC v)
 let z1 := X.append []
 let z2 := ActD.mode a
 let z3 := bif acqF z2 then 27 else 26
 let z4 := [I.mk z3 25 29 0 0 0]
 let z5 := lv0 [ns 4]
 let z6 := Value.slice (slP z5) (Sy.lenS z5) (slC z5)
 let z7 := X.append z4
 let z8 := [I.mk 21 25 0 0 1 0]
 let z9 := List.Perm (R.append (List.map Sy.ownOf (q.1 z5 (z1.append z4)))) ((List.map Sy.ownOf (q.1 z6 z7)).append R)
 let z10 := lv0 [ns 6]
 let z11 := Value.slice (slP z10) (Sy.lenS z10) (slC z10)
 let z12 := X.append [I.mk z3 25 29 0 0 0, I.mk 21 25 0 0 1 0]
 let z13 := bif relF z2 then 29 else 28
 let z14 := [I.mk z13 24 29 30 0 0]
 let z15 := lv0 [ns 8]
 let z16 := z12.append z14
 let z17 := Value.slice (slP z15) (Sy.lenS z15) (slC z15)
 let z18 := X.append [I.mk z3 25 29 0 0 0, I.mk 21 25 0 0 1 0, I.mk z13 24 29 30 0 0]
 let z19 := [I.mk 21 30 0 0 (-3) 0]
 let z20 := lv0 [ns 10]
 let z21 := z18.append z19
 let z22 := Value.slice (slP z20) (Sy.lenS z20) (slC z20)
 let z23 := X.append [I.mk z3 25 29 0 0 0, I.mk 21 25 0 0 1 0, I.mk z13 24 29 30 0 0, I.mk 21 30 0 0 (-3) 0]
 let z24 := [I.mk 6 (ActD.dst a) 31 25 0 0]
 let z25 := fun (p : Nat × Sy.Cont) => Blk.mk (Prod.fst p) (Prod.snd p) true
 let z26 := lv0 [ns 12]
 let z27 := z23.append z24
 let z28 := z7.append z14
 let z29 := X.append [I.mk z3 25 29 0 0 0, I.mk z13 24 29 30 0 0]
 let z30 := [I.mk 21 30 0 0 (-2) 0]
 let z31 := z29.append z30
 let z32 := X.append [I.mk z3 25 29 0 0 0, I.mk z13 24 29 30 0 0, I.mk 21 30 0 0 (-2) 0]
 let z33 := z32.append z24
 need True (hyp True (need True (hyp True (need (q.2 z0 z1 ∧ z4 ≠ [] ∧ List.length z1 + (1 : Nat) ≤ 2000000) (need (List.Perm TL ((List.map Sy.ownOf (q.1 z0 z1)).append R)) (hyp (q.2 z5 (z1.append z4)) (need True (hyp True (br (!acqF z2) (need (q.2 z6 z7 ∧ z8 ≠ [] ∧ List.length z7 + (1 : Nat) ≤ 2000000) (need z9 (hyp (q.2 z10 (z7.append z8)) (need True (hyp True (need True (hyp True (need (q.2 z11 z12 ∧ z14 ≠ [] ∧ List.length z12 + (1 : Nat) ≤ 2000000) (need (List.Perm (R.append (List.map Sy.ownOf (q.1 z10 (z7.append z8)))) ((List.map Sy.ownOf (q.1 z11 z12)).append R)) (hyp (q.2 z15 z16) (need (q.2 z17 z18 ∧ z19 ≠ [] ∧ List.length z18 + (1 : Nat) ≤ 2000000) (need (List.Perm (R.append (List.map Sy.ownOf (q.1 z15 z16))) ((List.map Sy.ownOf (q.1 z17 z18)).append R)) (hyp (q.2 z20 z21) (need (q.2 z22 z23 ∧ z24 ≠ [] ∧ List.length z23 + (1 : Nat) ≤ 2000000) (need (List.Perm (R.append (List.map z25 (q.1 z20 z21))) ((List.map z25 (q.1 z22 z23)).append R)) (hyp (q.2 z26 z27) (leaf (Value.agg (Array.mk [.slice (slP z26) (Sy.lenS z26) (slC z26), .int .i64 e]), R.append (List.map z25 (q.1 z26 z27)))))))))))))))))))) (need True (hyp True (need True (hyp True (need (q.2 z6 z7 ∧ z14 ≠ [] ∧ List.length z7 + (1 : Nat) ≤ 2000000) (need z9 (hyp (q.2 z10 z28) (need (q.2 z11 z29 ∧ z30 ≠ [] ∧ List.length z29 + (1 : Nat) ≤ 2000000) (need (List.Perm (R.append (List.map Sy.ownOf (q.1 z10 z28))) ((List.map Sy.ownOf (q.1 z11 z29)).append R)) (hyp (q.2 z15 z31) (need (q.2 z17 z32 ∧ z24 ≠ [] ∧ List.length
 z32 + (1 : Nat) ≤ 2000000) (need (List.Perm (R.append (List.map Sy.ownOf (q.1 z15 z31))) ((List.map Sy.ownOf (q.1 z17 z32)).append R)) (hyp (q.2 z20 z33) (leaf (Value.agg (Array.mk [.slice (slP z20) (Sy.lenS z20) (slC z20), .int .i64 e]), R.append (List.map Sy.ownOf (q.1 z20 z33))))))))))))))))))))))))))
theorem sw0_run (q : Rw) (R TL : List Blk) (a : ActD) (iv ev fv : Value) (v : Value) (e : Int) (X : List I) : Sy.Ran (Sy.inY Tryz.prog (ctxSw q a.mode X R) 50 fSwap #[ryV v e, actV a iv ev fv, .int .i64 24, .bool false] TL 0) sw0_o (sw0_R q R TL a iv ev fv v e X) := ⟨fun _ => by kernel_rfl, fun _ => by kernel_rfl⟩
def sw1_o : Sy.O := (bz 167 0x5f38c0044b58b800896800825d7800975e003659c4 (fork (bz 383 0x703601781c0701b01781c0c0020410896b02e001020844b400204108975e00104225d7800418658381306c178786c2f1 (pack 3 0x2406 nil)) (bz 333 0x100c1c1b0178381c0d817838300082112d60b80041089680040844baf000844baf000831961c130d85e3 nil)))
noncomputable def sw1_R (q : Rw) (R TL : List Blk) (a : ActD) (iv ev fv v : Value) (e : Int) (X : List I) (ns : Nat → Sy.Let) : Sy.Res (Value × List Blk) :=
 let z0 := Value.slice (slP v) (Sy.lenS v) (slC v)
 let z1 := X.append []
 let z2 := ActD.mode a
 let z3 := bif acqF z2 then 27 else 26
 let z4 := [I.mk z3 25 29 0 0 0]
 let z5 := lv0 [ns 4]
 let z6 := Value.slice (slP z5) (Sy.lenS z5) (slC z5)
 let z7 := X.append z4
 let z8 := [I.mk 21 25 0 0 1 0]
 let z9 := List.Perm (R.append (List.map Sy.ownOf (q.1 z5 (z1.append z4)))) ((List.map Sy.ownOf (q.1 z6 z7)).append R)
 let z10 := lv0 [ns 6]
 let z11 := Value.slice (slP z10) (Sy.lenS z10) (slC z10)
 let z12 := X.append [I.mk z3 25 29 0 0 0, I.mk 21 25 0 0 1 0]
 let z13 := [I.mk 3 26 25 24 0 0]
 let z14 := lv0 [ns 8]
 let z15 := z12.append z13
 let z16 := Value.slice (slP z14) (Sy.lenS z14) (slC z14)
 let z17 := X.append [I.mk z3 25 29 0 0 0, I.mk 21 25 0 0 1 0, I.mk 3 26 25 24 0 0]
 let z18 := bif relF z2 then 29 else 28
 let z19 := [I.mk z18 26 29 30 0 0]
 let z20 := lv0 [ns 10]
 let z21 := z17.append z19
 let z22 := Value.slice (slP z20) (Sy.lenS z20) (slC z20)
 let z23 := X.append [I.mk z3 25 29 0 0 0, I.mk 21 25 0 0 1 0, I.mk 3 26 25 24 0 0, I.mk z18 26 29 30 0 0]
 let z24 := [I.mk 21 30 0 0 (-4) 0]
 let z25 := fun (p : Nat × Sy.Cont) => Blk.mk (Prod.fst p) (Prod.snd p) true
 let z26 := lv0 [ns 12]
 let z27 := z23.append z24
 let z28 := Value.slice (slP z26) (Sy.lenS z26) (slC z26)
 let z29 := X.append [I.mk z3 25 29 0 0 0, I.mk 21 25 0 0 1 0, I.mk 3 26 25 24 0 0, I.mk z18 26 29 30 0 0, I.mk 21 30 0 0 (-4) 0]
 let z30 := [I.mk 6 (ActD.dst a) 31 25 0 0]
 let z31 := lv0 [ns 14]
 let z32 := z29.append z30
 let z33 := z7.append z13
 let z34 := X.append [I.mk z3 25 29 0 0 0, I.mk 3 26 25 24 0 0]
 let z35 := z34.append z19
 let z36 := X.append [I.mk z3 25 29 0 0 0, I.mk 3 26 25 24 0 0, I.mk z18 26 29 30 0 0]
 let z37 := [I.mk 21 30 0 0 (-3) 0]
 let z38 := z36.append z37
 let z39 := X.append [I.mk z3 25 29 0 0 0, I.mk 3 26 25 24 0 0, I.mk z18 26 29 30 0 0, I.mk 21 30 0 0 (-3) 0]
 let z40 := z39.append z30
 need True (hyp True (need True (hyp True (need (q.2 z0 z1 ∧ z4 ≠ [] ∧ List.length z1 + (1 : Nat) ≤ 2000000) (need (List.Perm TL ((List.map Sy.ownOf (q.1 z0 z1)).append R)) (hyp (q.2 z5 (z1.append z4)) (need True (hyp True (br (!acqF z2) (need (q.2 z6 z7 ∧ z8 ≠ [] ∧ List.length z7 + (1 : Nat) ≤ 2000000) (need z9 (hyp (q.2 z10 (z7.append z8)) (need (q.2 z11 z12 ∧ z13 ≠ [] ∧ List.length z12 + (1 : Nat) ≤ 2000000) (need (List.Perm (R.append (List.map Sy.ownOf (q.1 z10 (z7.append z8)))) ((List.map Sy.ownOf (q.1 z11 z12)).append R)) (hyp (q.2 z14 z15) (need True (hyp True (need True (hyp True (need (q.2 z16 z17 ∧ z19 ≠ [] ∧ List.length z17 + (1 : Nat) ≤ 2000000) (need (List.Perm (R.append (List.map Sy.ownOf (q.1 z14 z15))) ((List.map Sy.ownOf (q.1 z16 z17)).append R)) (hyp (q.2 z20 z21) (need (q.2 z22 z23 ∧ z24 ≠ [] ∧ List.length z23 + (1 : Nat) ≤ 2000000) (need (List.Perm (R.append (List.map z25 (q.1 z20 z21))) ((List.map z25 (q.1 z22 z23)).append R)) (hyp (q.2 z26 z27) (need (q.2 z28 z29 ∧ z30 ≠ [] ∧ List.length z29 + (1 : Nat) ≤ 2000000) (need (List.Perm (R.append (List.map z25 (q.1 z26 z27))) ((List.map z25 (q.1 z28 z29)).append R)) (hyp (q.2 z31 z32) (leaf (Value.agg (Array.mk [.slice (slP z31) (Sy.lenS z31) (slC z31), .int .i64 e]), R.append (List.map z25 (q.1 z31 z32))))))))))))))))))))))) (need (q.2 z6 z7 ∧ z13 ≠ [] ∧ List.length z7 + (1 : Nat) ≤ 2000000) (need z9 (hyp (q.2 z10 z33) (need True (hyp True (need True (hyp True (need (q.2 z11 z34 ∧ z19 ≠ [] ∧ List.length z34 +
 (1 : Nat) ≤ 2000000) (need (List.Perm (R.append (List.map Sy.ownOf (q.1 z10 z33))) ((List.map Sy.ownOf (q.1 z11 z34)).append R)) (hyp (q.2 z14 z35) (need (q.2 z16 z36 ∧ z37 ≠ [] ∧ List.length z36 + (1 : Nat) ≤ 2000000) (need (List.Perm (R.append (List.map Sy.ownOf (q.1 z14 z35))) ((List.map Sy.ownOf (q.1 z16 z36)).append R)) (hyp (q.2 z20 z38) (need (q.2 z22 z39 ∧ z30 ≠ [] ∧ List.length z39 + (1 : Nat) ≤ 2000000) (need (List.Perm (R.append (List.map z25 (q.1 z20 z38))) ((List.map z25 (q.1 z22 z39)).append R)) (hyp (q.2 z26 z40) (leaf (Value.agg (Array.mk [.slice (slP z26) (Sy.lenS z26) (slC z26), .int .i64 e]), R.append (List.map z25 (q.1 z26 z40)))))))))))))))))))))))))))))
theorem sw1_run (q : Rw) (R TL : List Blk) (a : ActD) (iv ev fv : Value) (v : Value) (e : Int) (X : List I) : Sy.Ran (Sy.inY Tryz.prog (ctxSw q a.mode X R) 50 fSwap #[ryV v e, actV a iv ev fv, .int .i64 26, .bool true] TL 0) sw1_o (sw1_R q R TL a iv ev fv v e X) := ⟨fun _ => by kernel_rfl, fun _ => by kernel_rfl⟩
end Go.Proofs.YtlpcnaeknbmjdaaGreat.Gn
namespace Go.Proofs.YtlpcnaeknbmjdaaGreat.Gn
open Go Go.RowKit
open Go.Proofs.YtlpcnaeknbmjdaaGreat.Sy (Let Blk HasL)
open Lw (I insCells tI)
def rswC (q : Rw) (a : ActD) (iv ev fv : Value) (st : Int) (sum : Bool) (A : List I) (v : Value) (e : Int) (X : List I) : Sy.CallC :=
 ⟨fSwap, #[ryV v e, actV a iv ev fv, .int .i64 st, .bool sum], q.V v X ∧ X.length + 6 ≤ 2000000, ⟨[], q.B v X, 1, []⟩, [ryO q e (X ++ (lpI a.mode A st ++ [⟨6, a.dst, 31, 25, 0, 0⟩]))]⟩
theorem ryE_leaf {c : Sy.CallC} {e : Int} {X Z : List I} (ho : ryO rowQ e X ∈ c.outs) (hm : c.mem.m = 1) {n : Let} (k : RowV (lv0 [n]) Z) (he : Z = X) (A : List Blk) : Sy.leafB c (.agg #[slV (lv0 [n]), .int .i64 e], A ++ (rowB (lv0 [n]) Z).map Sy.ownOf) := by
 subst he
 exact ⟨_, ho, [n], hm.symm, rfl, Sy.Ent.sub (List.sublist_append_right _ _), k⟩
theorem ctxSw_holds (m : Int) (X : List I) (R : List Blk) : (ctxSw rowQ m X R).holds Tryz.prog := Sy.mkU_holds (ctxH_holds m) (fun p hp a L => by
 rcases List.mem_singleton.1 hp with rfl
 exact rputC_met _ _ _ _ _ _) (fun _ h => (by cases h))
theorem rsw0_met (a : ActD) (iv ev fv : Value) (v : Value) (e : Int) (X : List I) : Sy.Meets Tryz.prog (rswC rowQ a iv ev fv 24 false [] v e X) := by
 refine Sy.meets_ofY (k := 0) (ctxSw_holds a.mode X []) mixed (L := (rowB v X).map Sy.ownOf ++ []) (Sy.Ent.refl _) (sw0_run rowQ [] _ a iv ev fv v e X) fun hok ns => ?_
 obtain ⟨hX, hl⟩ := id hok
 simp only [sw0_R, Sy.Res.holds]
 refine ⟨trivial, fun _ => ⟨trivial, fun _ => ⟨⟨rowV_of hX (by simp), by simp, by simp; omega⟩, by rw [List.append_nil]; exact perm_row v (X := X) (X' := X ++ []) (by simp), fun k1 => ⟨trivial, fun _ => ⟨fun hb => ⟨⟨rowV_of k1 (by simp), by simp, by simp; omega⟩, perm_next _ _ (by simp), fun k2 => ⟨trivial, fun _ => ⟨trivial, fun _ => ⟨⟨rowV_of k2 (by simp), by simp, by simp; omega⟩, perm_next _ _ (by simp), fun k3 => ⟨⟨rowV_of k3 (by simp), by simp, by simp; omega⟩, perm_next _ _ (by simp), fun k4 => ⟨⟨rowV_of k4 (by simp), by simp, by simp; omega⟩, perm_next _ _ (by simp), fun k5 => ?_⟩⟩⟩⟩⟩⟩,
  fun hb => ⟨trivial, fun _ => ⟨trivial, fun _ => ⟨⟨rowV_of k1 (by simp), by simp, by simp; omega⟩, perm_next _ _ (by simp), fun k2 => ⟨⟨rowV_of k2 (by simp), by simp, by simp; omega⟩, perm_next _ _ (by simp), fun k3 => ⟨⟨rowV_of k3 (by simp), by simp, by simp; omega⟩, perm_next _ _ (by simp), fun k4 => ?_⟩⟩⟩⟩⟩⟩⟩⟩⟩⟩
 ·have hb : acqF a.mode = false := by simpa using hb
  exact ryE_leaf (Sy.mS _) rfl k5 (by simp [lpI, nzI, ldI, stI, opL, opS, hb]) _
 ·have hb : acqF a.mode = true := by simpa using hb
  exact ryE_leaf (Sy.mS _) rfl k4 (by simp [lpI, nzI, ldI, stI, opL, opS, hb]) _
theorem rsw1_met (a : ActD) (iv ev fv : Value) (v : Value) (e : Int) (X : List I) : Sy.Meets Tryz.prog (rswC rowQ a iv ev fv 26 true [sumI] v e X) := by
 refine Sy.meets_ofY (k := 0) (ctxSw_holds a.mode X []) mixed (L := (rowB v X).map Sy.ownOf ++ []) (Sy.Ent.refl _) (sw1_run rowQ [] _ a iv ev fv v e X) fun hok ns => ?_
 obtain ⟨hX, hl⟩ := id hok
 simp only [sw1_R, Sy.Res.holds]
 refine ⟨trivial, fun _ => ⟨trivial, fun _ => ⟨⟨rowV_of hX (by simp), by simp, by simp; omega⟩, by rw [List.append_nil]; exact perm_row v (X := X) (X' := X ++ []) (by simp), fun k1 => ⟨trivial, fun _ => ⟨fun hb => ⟨⟨rowV_of k1 (by simp), by simp, by simp; omega⟩, perm_next _ _ (by simp), fun k2 => ⟨⟨rowV_of k2 (by simp), by simp, by simp; omega⟩, perm_next _ _ (by simp), fun k3 => ⟨trivial, fun _ => ⟨trivial, fun _ => ⟨⟨rowV_of k3 (by simp), by simp, by simp; omega⟩, perm_next _ _ (by simp), fun k4 => ⟨⟨rowV_of k4 (by simp), by simp, by simp; omega⟩, perm_next _ _ (by simp), fun k5 => ⟨⟨rowV_of k5 (by simp), by simp, by simp; omega⟩, perm_next _ _ (by simp), fun k6 => ?_⟩⟩⟩⟩⟩⟩⟩,
  fun hb => ⟨⟨rowV_of k1 (by simp), by simp, by simp; omega⟩, perm_next _ _ (by simp), fun k2 => ⟨trivial, fun _ => ⟨trivial, fun _ => ⟨⟨rowV_of k2 (by simp), by simp, by simp; omega⟩, perm_next _ _ (by simp), fun k3 => ⟨⟨rowV_of k3 (by simp), by simp, by simp; omega⟩, perm_next _ _ (by simp), fun k4 => ⟨⟨rowV_of k4 (by simp), by simp, by simp; omega⟩, perm_next _ _ (by simp), fun k5 => ?_⟩⟩⟩⟩⟩⟩⟩⟩⟩⟩⟩
 ·have hb : acqF a.mode = false := by simpa using hb
  exact ryE_leaf (Sy.mS _) rfl k6 (by simp [lpI, nzI, ldI, stI, opL, opS, hb]) _
 ·have hb : acqF a.mode = true := by simpa using hb
  exact ryE_leaf (Sy.mS _) rfl k5 (by simp [lpI, nzI, ldI, stI, opL, opS, hb]) _
end Go.Proofs.YtlpcnaeknbmjdaaGreat.Gn
--@way 2
namespace Go.Proofs.YtlpcnaeknbmjdaaGreat.Gn
open Sy.O (bz fork nil pack step steps)
open Sy.Res (need hyp br leaf both)
open Go Go.RowKit
open Go.Proofs.YtlpcnaeknbmjdaaGreat.Sy (Let Blk HasL)
open Lw (I insCells tI)
abbrev fRAct : FuncId := 42
def Sy.rxW (q : Rw) (B : List (Nat × Sy.Cont)) (a : ActD) (X : List I) (R : List Blk) (ar : Array Value) : Sy.CallU :=
 match Ex.eqQ (Sy.argI ar 2) 0 with
 | true => (rexC q B (Sy.argV ar 1) a.e 0 (Sy.lyV (Sy.argV ar 0)) (Sy.lyE (Sy.argV ar 0)) X).toU [] (q.B (Sy.lyV (Sy.argV ar 0)) X) R
 | false => (rexC q B (Sy.argV ar 1) a.f 1 (Sy.lyV (Sy.argV ar 0)) (Sy.lyE (Sy.argV ar 0)) (xE X a)).toU [] (q.B (Sy.lyV (Sy.argV ar 0)) (xE X a)) R
def Sy.rpW (q : Rw) (B : List (Nat × Sy.Cont)) (a : ActD) (iv ev fv : Value) (X : List I) (R : List Blk) (ar : Array Value) : Sy.CallU :=
 match Ex.eqQ (Sy.argI ar 2) 0 with
 | true => (rplC q B a iv ev fv 0 (Sy.lyV (Sy.argV ar 0)) (Sy.lyE (Sy.argV ar 0)) X).toU [] (q.B (Sy.lyV (Sy.argV ar 0)) X) R
 | false => match Ex.eqQ (Sy.argI ar 2) 1 with
   | true => (rplC q B a iv ev fv 1 (Sy.lyV (Sy.argV ar 0)) (Sy.lyE (Sy.argV ar 0)) (xE X a)).toU [] (q.B (Sy.lyV (Sy.argV ar 0)) (xE X a)) R
   | false => (rplC q B a iv ev fv 2 (Sy.lyV (Sy.argV ar 0)) (Sy.lyE (Sy.argV ar 0)) (xF X a)).toU [] (q.B (Sy.lyV (Sy.argV ar 0)) (xF X a)) R
def Sy.rsW (q : Rw) (a : ActD) (iv ev fv : Value) (XL : List I) (R : List Blk) (ar : Array Value) : Sy.CallU :=
 match Sy.boolV (Sy.argV ar 3) with
 | true => (rswC q a iv ev fv 26 true [sumI] (Sy.lyV (Sy.argV ar 0)) (Sy.lyE (Sy.argV ar 0)) XL).toU [] (q.B (Sy.lyV (Sy.argV ar 0)) XL) R
 | false => (rswC q a iv ev fv 24 false [] (Sy.lyV (Sy.argV ar 0)) (Sy.lyE (Sy.argV ar 0)) XL).toU [] (q.B (Sy.lyV (Sy.argV ar 0)) XL) R
def Sy.rpZ (q : Rw) (X : List I) (R : List Blk) (a : Array Value) (L : List Blk) : Sy.CallU :=
 (rputC q (Sy.ptrN (Sy.argV a 1)) (Sy.capN (Sy.argV a 1)) (Sy.lyV (Sy.argV a 0)) (Sy.lyE (Sy.argV a 0)) X (Sy.headI L)).toU [] (q.B (Sy.lyV (Sy.argV a 0)) X) R
def ctxRa (q : Rw) (B : List (Nat × Sy.Cont)) (a : ActD) (iv ev fv : Value) (X XP : List I) (R : List Blk) : Sy.Ctx :=
 Sy.mkU (ctxH a.mode) [(fRExpr, fun ar _ => Sy.rxW q B a X R ar), (fRPlace, fun ar _ => Sy.rpW q B a iv ev fv X R ar), (fRPut, Sy.rpU q XP R), (fSwap, fun ar _ => Sy.rsW q a iv ev fv XP R ar)] []
def ctxRb (q : Rw) (B : List (Nat × Sy.Cont)) (a : ActD) (iv ev fv : Value) (X XP : List I) (R : List Blk) : Sy.Ctx :=
 Sy.mkU (ctxH a.mode) [(fRExpr, fun ar _ => Sy.rxW q B a X R ar), (fRPut, Sy.rpZ q XP R)] []
def rSet_o : Sy.O := (bz 62 0x2001036086cb389d (fork (bz 109 0x10dd80044b58b80044b40025d451 nil) (bz 114 0x21bb000896b17000896a143000896 nil)))
noncomputable def rSet_R (q : Rw) (TL R : List Blk) (B : List (Nat × Sy.Cont)) (a : ActD) (iv ev fv v : Value) (e far : Int) (X XP : List I) (ns : Nat → Sy.Let) : Sy.Res (Value × List Blk) :=
 let z0 := Value.slice (slP v) (Sy.lenS v) (slC v)
 let z1 := exprI (ActD.e a) 0
 let z2 := okE B ev (ActD.e a) 0 ∧ q.2 z0 X ∧ List.length X + List.length z1 ≤ 900000
 let z3 := List.Perm TL ((List.map Sy.ownOf (q.1 z0 X)).append R)
 let z4 := lv0 [ns 3]
 let z5 := X.append z1
 let z6 := Value.slice (slP z4) (Sy.lenS z4) (slC z4)
 let z7 := [I.mk 6 (ActD.dst a) 31 24 0 0]
 let z8 := lv0 [ns 5]
 let z9 := hyp (q.2 z8 (XP.append z7)) (leaf (Value.agg (Array.mk [.slice (slP z8) (Sy.lenS z8) (slC z8), .int .i64 (fstE e (exprE (ActD.e a) 0))]), R.append (List.map Sy.ownOf (q.1 z8 (XP.append z7)))))
 let z10 := lv0 [ns 4]
 let z11 := Value.slice (slP z10) (Sy.lenS z10) (slC z10)
 both (need z2 (need z3 (need (Sy.GotL R B) (hyp (q.2 z4 z5) (need (q.2 z6 XP ∧ z7 ≠ [] ∧ List.length XP + (1 : Nat) ≤ 2000000) (need (List.Perm (R.append (List.map Sy.ownOf (q.1 z4 z5))) ((List.map Sy.ownOf (q.1 z6 XP)).append R)) z9)))))) (need z2 (need z3 (need (Sy.GotL R B) (hyp (q.2 z10 z5) (need (q.2 z11 XP ∧ z7 ≠ [] ∧ List.length XP + (1 : Nat) ≤ 2000000) (need (List.Perm (R.append (List.map Sy.ownOf (q.1 z10 z5))) ((List.map Sy.ownOf (q.1 z11 XP)).append R)) z9))))))
theorem rSet_run (q : Rw) (TL R : List Blk) (B : List (Nat × Sy.Cont)) (a : ActD) (iv ev fv : Value) (v : Value) (e far : Int) (X XP : List I) : Sy.Ran (Sy.inY Tryz.prog (ctxRb q B (setOp a 1) iv ev fv X XP R) 50 fRAct #[ryV v e, actV (setOp a 1) iv ev fv, .int .i64 far] TL 0) rSet_o (rSet_R q TL R B a iv ev fv v e far X XP) := ⟨fun _ => by kernel_rfl, fun _ => by kernel_rfl⟩
def rLoad_o : Sy.O := (bz 37 0x1b9a28ee7d (fork (bz 37 0x10ddb17bb9 nil) (bz 33 0x10ddb17b9 nil)))
noncomputable def rLoad_R (q : Rw) (TL R : List Blk) (B : List (Nat × Sy.Cont)) (a : ActD) (iv ev fv v : Value) (e far : Int) (X XP : List I) (ns : Nat → Sy.Let) : Sy.Res (Value × List Blk) :=
 let z0 := ActD.size a
 let z1 := ActD.ix a
 let z2 := Value.slice (slP v) (Sy.lenS v) (slC v)
 let z3 := placeI (ActD.base a) z0 z1 0
 let z4 := lv0 [ns 3]
 let z5 := Value.slice (slP z4) (Sy.lenS z4) (slC z4)
 let z6 := XP.append []
 let z7 := ActD.dst a
 let z8 := [I.mk 22 z7 29 0 0 0, I.mk 21 z7 0 0 1 0]
 let z9 := List.Perm (R.append (List.map Sy.ownOf (q.1 z4 (X.append z3)))) ((List.map Sy.ownOf (q.1 z5 z6)).append R)
 let z10 := lv0 [ns 5]
 let z11 := Array.mk [Value.slice (slP z10) (Sy.lenS z10) (slC z10), Value.int .i64 (fstE e (placeE z0 z1 0))]
 let z12 := [I.mk 24 z7 29 0 0 0]
 let z13 := z6.append z12
 need (okP B iv (ActD.base a) z0 z1 0 ∧ q.2 z2 X ∧ List.length X + List.length z3 ≤ 900000) (need (List.Perm TL ((List.map Sy.ownOf (q.1 z2 X)).append R)) (need (Sy.GotL R B) (hyp (q.2 z4 (X.append z3)) (br (Ex.eqQ (ActD.mode a) 1) (need (q.2 z5 z6 ∧ z8 ≠ [] ∧ List.length z6 + (2 : Nat) ≤ 2000000) (need z9 (hyp (q.2 z10 (z6.append z8)) (leaf (Value.agg z11, R.append (List.map Sy.ownOf (q.1 z10 (z6.append z8)))))))) (need (q.2 z5 z6 ∧ z12 ≠ [] ∧ List.length z6 + (1 : Nat) ≤ 2000000) (need z9 (hyp (q.2 z10 z13) (leaf (Value.agg z11, R.append (List.map Sy.ownOf (q.1 z10 z13)))))))))))
theorem rLoad_run (q : Rw) (TL R : List Blk) (B : List (Nat × Sy.Cont)) (a : ActD) (iv ev fv : Value) (v : Value) (e far : Int) (X XP : List I) : Sy.Ran (Sy.inY Tryz.prog (ctxRa q B (setOp a 2) iv ev fv X XP R) 50 fRAct #[ryV v e, actV (setOp a 2) iv ev fv, .int .i64 far] TL 0) rLoad_o (rLoad_R q TL R B a iv ev fv v e far X XP) := ⟨fun _ => by kernel_rfl, fun _ => by kernel_rfl⟩
def rStore_o : Sy.O := (bz 287 0x4376000112d62e000112d00008012ebc00025d45180004ba8a30000a01b010361b2ce27d nil)
noncomputable def rStore_R (q : Rw) (TL R : List Blk) (B : List (Nat × Sy.Cont)) (a : ActD) (iv ev fv v : Value) (e far : Int) (X XP : List I) (ns : Nat → Sy.Let) : Sy.Res (Value × List Blk) :=
 let z0 := Value.slice (slP v) (Sy.lenS v) (slC v)
 let z1 := exprI (ActD.e a) 0
 let z2 := lv0 [ns 3]
 let z3 := X.append z1
 let z4 := ActD.size a
 let z5 := ActD.ix a
 let z6 := Value.slice (slP z2) (Sy.lenS z2) (slC z2)
 let z7 := placeI (ActD.base a) z4 z5 1
 let z8 := lv0 [ns 4]
 let z9 := Value.slice (slP z8) (Sy.lenS z8) (slC z8)
 let z10 := XP.append []
 let z11 := [I.mk (bif Ex.eqQ (ActD.mode a) 1 then 23 else 25) 24 29 0 0 0]
 let z12 := lv0 [ns 6]
 let z13 := z10.append z11
 need (okE B ev (ActD.e a) 0 ∧ q.2 z0 X ∧ List.length X + List.length z1 ≤ 900000) (need (List.Perm TL ((List.map Sy.ownOf (q.1 z0 X)).append R)) (need (Sy.GotL R B) (hyp (q.2 z2 z3) (need (okP B iv (ActD.base a) z4 z5 1 ∧ q.2 z6 z3 ∧ List.length z3 + List.length z7 ≤ 900000) (need (List.Perm (R.append (List.map Sy.ownOf (q.1 z2 z3))) ((List.map Sy.ownOf (q.1 z6 z3)).append R)) (need (Sy.GotL R B) (hyp (q.2 z8 (z3.append z7)) (need True (hyp True (need (q.2 z9 z10 ∧ z11 ≠ [] ∧ List.length z10 + (1 : Nat) ≤ 2000000) (need (List.Perm (R.append (List.map Sy.ownOf (q.1 z8 (z3.append z7)))) ((List.map Sy.ownOf (q.1 z9 z10)).append R)) (hyp (q.2 z12 z13) (leaf (Value.agg (Array.mk [.slice (slP z12) (Sy.lenS z12) (slC z12), .int .i64 (fstE (fstE e (exprE (ActD.e a) 0)) (placeE z4 z5 1))]), R.append (List.map Sy.ownOf (q.1 z12 z13))))))))))))))))
theorem rStore_run (q : Rw) (TL R : List Blk) (B : List (Nat × Sy.Cont)) (a : ActD) (iv ev fv : Value) (v : Value) (e far : Int) (X XP : List I) : Sy.Ran (Sy.inY Tryz.prog (ctxRa q B (setOp a 3) iv ev fv X XP R) 50 fRAct #[ryV v e, actV (setOp a 3) iv ev fv, .int .i64 far] TL 0) rStore_o (rStore_R q TL R B a iv ev fv v e far X XP) := ⟨fun _ => by kernel_rfl, fun _ => by kernel_rfl⟩
def rXchg_o : Sy.O := (bz 169 0x11fc004bac60025d451800975146003606c3659c4fd nil)
noncomputable def rXchg_R (q : Rw) (TL R : List Blk) (B : List (Nat × Sy.Cont)) (a : ActD) (iv ev fv v : Value) (e far : Int) (X XP : List I) (ns : Nat → Sy.Let) : Sy.Res (Value × List Blk) :=
 let z0 := Value.slice (slP v) (Sy.lenS v) (slC v)
 let z1 := exprI (ActD.e a) 0
 let z2 := lv0 [ns 3]
 let z3 := X.append z1
 let z4 := ActD.size a
 let z5 := ActD.ix a
 let z6 := Value.slice (slP z2) (Sy.lenS z2) (slC z2)
 let z7 := placeI (ActD.base a) z4 z5 1
 let z8 := lv0 [ns 4]
 let z9 := Value.slice (slP z8) (Sy.lenS z8) (slC z8)
 let z10 := lv0 [ns 5]
 let z11 := ActD.mode a
 let z12 := nzI z11 25
 let z13 := XP.append (ldI z11 25 :: List.append ((List.append z12 []).append [stI z11 24, I.mk 21 30 0 0 (-(2 + (↑(List.length z12) : Int) + 0)) 0]) [I.mk 6 (ActD.dst a) 31 25 0 0])
 need (okE B ev (ActD.e a) 0 ∧ q.2 z0 X ∧ List.length X + List.length z1 ≤ 900000) (need (List.Perm TL ((List.map Sy.ownOf (q.1 z0 X)).append R)) (need (Sy.GotL R B) (hyp (q.2 z2 z3) (need (okP B iv (ActD.base a) z4 z5 1 ∧ q.2 z6 z3 ∧ List.length z3 + List.length z7 ≤ 900000) (need (List.Perm (R.append (List.map Sy.ownOf (q.1 z2 z3))) ((List.map Sy.ownOf (q.1 z6 z3)).append R)) (need (Sy.GotL R B) (hyp (q.2 z8 (z3.append z7)) (need (q.2 z9 XP ∧ List.length XP + (6 : Nat) ≤ 2000000) (need (List.Perm (R.append (List.map Sy.ownOf (q.1 z8 (z3.append z7)))) ((List.map Sy.ownOf (q.1 z9 XP)).append R)) (hyp (q.2 z10 z13) (leaf (Value.agg (Array.mk [.slice (slP z10) (Sy.lenS z10) (slC z10), .int .i64 (fstE (fstE e (exprE (ActD.e a) 0)) (placeE z4 z5 1))]), R.append (List.map Sy.ownOf (q.1 z10 z13))))))))))))))
theorem rXchg_run (q : Rw) (TL R : List Blk) (B : List (Nat × Sy.Cont)) (a : ActD) (iv ev fv : Value) (v : Value) (e far : Int) (X XP : List I) : Sy.Ran (Sy.inY Tryz.prog (ctxRa q B (setOp a 4) iv ev fv X XP R) 50 fRAct #[ryV v e, actV (setOp a 4) iv ev fv, .int .i64 far] TL 0) rXchg_o (rXchg_R q TL R B a iv ev fv v e far X XP) := ⟨fun _ => by kernel_rfl, fun _ => by kernel_rfl⟩
def rFadd_o : Sy.O := (bz 170 0x23f8009758c004ba8a30012ea28c006c0d86cb389fd nil)
noncomputable def rFadd_R (q : Rw) (TL R : List Blk) (B : List (Nat × Sy.Cont)) (a : ActD) (iv ev fv v : Value) (e far : Int) (X XP : List I) (ns : Nat → Sy.Let) : Sy.Res (Value × List Blk) :=
 let z0 := Value.slice (slP v) (Sy.lenS v) (slC v)
 let z1 := exprI (ActD.e a) 0
 let z2 := lv0 [ns 3]
 let z3 := X.append z1
 let z4 := ActD.size a
 let z5 := ActD.ix a
 let z6 := Value.slice (slP z2) (Sy.lenS z2) (slC z2)
 let z7 := placeI (ActD.base a) z4 z5 1
 let z8 := lv0 [ns 4]
 let z9 := Value.slice (slP z8) (Sy.lenS z8) (slC z8)
 let z10 := lv0 [ns 5]
 let z11 := ActD.mode a
 let z12 := nzI z11 25
 let z13 := XP.append (ldI z11 25 :: List.append ((List.append z12 [I.mk 3 26 25 24 0 0]).append [stI z11 26, I.mk 21 30 0 0 (-(2 + (↑(List.length z12) : Int) + 1)) 0]) [I.mk 6 (ActD.dst a) 31 25 0 0])
 need (okE B ev (ActD.e a) 0 ∧ q.2 z0 X ∧ List.length X + List.length z1 ≤ 900000) (need (List.Perm TL ((List.map Sy.ownOf (q.1 z0 X)).append R)) (need (Sy.GotL R B) (hyp (q.2 z2 z3) (need (okP B iv (ActD.base a) z4 z5 1 ∧ q.2 z6 z3 ∧ List.length z3 + List.length z7 ≤ 900000) (need (List.Perm (R.append (List.map Sy.ownOf (q.1 z2 z3))) ((List.map Sy.ownOf (q.1 z6 z3)).append R)) (need (Sy.GotL R B) (hyp (q.2 z8 (z3.append z7)) (need (q.2 z9 XP ∧ List.length XP + (6 : Nat) ≤ 2000000) (need (List.Perm (R.append (List.map Sy.ownOf (q.1 z8 (z3.append z7)))) ((List.map Sy.ownOf (q.1 z9 XP)).append R)) (hyp (q.2 z10 z13) (leaf (Value.agg (Array.mk [.slice (slP z10) (Sy.lenS z10) (slC z10), .int .i64 (fstE (fstE e (exprE (ActD.e a) 0)) (placeE z4 z5 1))]), R.append (List.map Sy.ownOf (q.1 z10 z13))))))))))))))
theorem rFadd_run (q : Rw) (TL R : List Blk) (B : List (Nat × Sy.Cont)) (a : ActD) (iv ev fv : Value) (v : Value) (e far : Int) (X XP : List I) : Sy.Ran (Sy.inY Tryz.prog (ctxRa q B (setOp a 5) iv ev fv X XP R) 50 fRAct #[ryV v e, actV (setOp a 5) iv ev fv, .int .i64 far] TL 0) rFadd_o (rFadd_R q TL R B a iv ev fv v e far X XP) := ⟨fun _ => by kernel_rfl, fun _ => by kernel_rfl⟩
def rCas_o : Sy.O := (bz 359 0x6000896b1700044b400104baf0004baf0004040d9671330009751460012ea28c0025d4518006c06c10d96713fd (bz 253 0x1067300010896b0b8000844b40004112ebc00044baf0001006601010332c7098 nil))
noncomputable def rCas_R (q : Rw) (TL R : List Blk) (B : List (Nat × Sy.Cont)) (a : ActD) (iv ev fv v : Value) (e far : Int) (X XP : List I) (ns : Nat → Sy.Let) : Sy.Res (Value × List Blk) :=
 let z0 := Value.slice (slP v) (Sy.lenS v) (slC v)
 let z1 := exprI (ActD.e a) 0
 let z2 := Sy.GotL R B
 let z3 := lv0 [ns 3]
 let z4 := X.append z1
 let z5 := Value.slice (slP z3) (Sy.lenS z3) (slC z3)
 let z6 := exprI (ActD.f a) 1
 let z7 := lv0 [ns 4]
 let z8 := z4.append z6
 let z9 := ActD.size a
 let z10 := ActD.ix a
 let z11 := Value.slice (slP z7) (Sy.lenS z7) (slC z7)
 let z12 := placeI (ActD.base a) z9 z10 2
 let z13 := lv0 [ns 5]
 let z14 := z8.append z12
 let z15 := Value.slice (slP z13) (Sy.lenS z13) (slC z13)
 let z16 := XP.append []
 let z17 := [I.mk (bif acqF (ActD.mode a) then 27 else 26) 26 29 0 0 0, I.mk 16 0 26 24 0 0, I.mk 19 0 0 0 3 1]
 let z18 := lv0 [ns 7]
 let z19 := z16.append z17
 let z20 := Value.slice (slP z18) (Sy.lenS z18) (slC z18)
 let z21 := XP.append z17
 let z22 := [I.mk (bif relF (ActD.mode a) then 29 else 28) 25 29 30 0 0, I.mk 21 30 0 0 (-4) 0, I.mk 6 (ActD.dst a) 31 26 0 0]
 let z23 := fun (p : Nat × Sy.Cont) => Blk.mk (Prod.fst p) (Prod.snd p) true
 let z24 := lv0 [ns 9]
 let z25 := z21.append z22
 need (okE B ev (ActD.e a) 0 ∧ q.2 z0 X ∧ List.length X + List.length z1 ≤ 900000) (need (List.Perm TL ((List.map Sy.ownOf (q.1 z0 X)).append R)) (need z2 (hyp (q.2 z3 z4) (need (okE B fv (ActD.f a) 1 ∧ q.2 z5 z4 ∧ List.length z4 + List.length z6 ≤ 900000) (need (List.Perm (R.append (List.map Sy.ownOf (q.1 z3 z4))) ((List.map Sy.ownOf (q.1 z5 z4)).append R)) (need z2 (hyp (q.2 z7 z8) (need (okP B iv (ActD.base a) z9 z10 2 ∧ q.2 z11 z8 ∧ List.length z8 + List.length z12 ≤ 900000) (need (List.Perm (R.append (List.map Sy.ownOf (q.1 z7 z8))) ((List.map Sy.ownOf (q.1 z11 z8)).append R)) (need z2 (hyp (q.2 z13 z14) (need True (hyp True (need True (hyp True (need (q.2 z15 z16 ∧ z17 ≠ [] ∧ List.length z16 + (3 : Nat) ≤ 2000000) (need (List.Perm (R.append (List.map Sy.ownOf (q.1 z13 z14))) ((List.map Sy.ownOf (q.1 z15 z16)).append R)) (hyp (q.2 z18 z19) (need True (hyp True (need True (hyp True (need (q.2 z20 z21 ∧ z22 ≠ [] ∧ List.length z21 + (3 : Nat) ≤ 2000000) (need (List.Perm (R.append (List.map z23 (q.1 z18 z19))) ((List.map z23 (q.1 z20 z21)).append R)) (hyp (q.2 z24 z25) (leaf (Value.agg (Array.mk [.slice (slP z24) (Sy.lenS z24) (slC z24), .int .i64 (fstE (fstE (fstE e (exprE (ActD.e a) 0)) (exprE (ActD.f a) 1)) (placeE z9 z10 2))]), R.append (List.map z23 (q.1 z24 z25)))))))))))))))))))))))))))))
theorem rCas_run (q : Rw) (TL R : List Blk) (B : List (Nat × Sy.Cont)) (a : ActD) (iv ev fv : Value) (v : Value) (e far : Int) (X XP : List I) : Sy.Ran (Sy.inY Tryz.prog (ctxRa q B (setOp a 6) iv ev fv X XP R) 50 fRAct #[ryV v e, actV (setOp a 6) iv ev fv, .int .i64 far] TL 0) rCas_o (rCas_R q TL R B a iv ev fv v e far X XP) := ⟨fun _ => by kernel_rfl, fun _ => by kernel_rfl⟩
def rFence_o : Sy.O := (bz 155 0x437600225ac5c0044b400412ebc0051b2ce27fd nil)
noncomputable def rFence_R (q : Rw) (TL R : List Blk) (B : List (Nat × Sy.Cont)) (a : ActD) (iv ev fv v : Value) (e far : Int) (X XP : List I) (ns : Nat → Sy.Let) : Sy.Res (Value × List Blk) :=
 let z0 := Value.slice (slP v) (Sy.lenS v) (slC v)
 let z1 := [I.mk (bif Ex.eqQ (ActD.mode a) 2 then 30 else 31) 0 0 0 0 0]
 let z2 := lv0 [ns 4]
 need True (hyp True (need (q.2 z0 XP ∧ z1 ≠ [] ∧ List.length XP + (1 : Nat) ≤ 2000000) (need (List.Perm TL ((List.map Sy.ownOf (q.1 z0 XP)).append R)) (hyp (q.2 z2 (XP.append z1)) (leaf (Value.agg (Array.mk [.slice (slP z2) (Sy.lenS z2) (slC z2), .int .i64 e]), R.append (List.map Sy.ownOf (q.1 z2 (XP.append z1)))))))))
theorem rFence_run (q : Rw) (TL R : List Blk) (B : List (Nat × Sy.Cont)) (a : ActD) (iv ev fv : Value) (v : Value) (e far : Int) (X XP : List I) : Sy.Ran (Sy.inY Tryz.prog (ctxRb q B (setOp a 7) iv ev fv X XP R) 50 fRAct #[ryV v e, actV (setOp a 7) iv ev fv, .int .i64 far] TL 0) rFence_o (rFence_R q TL R B a iv ev fv v e far X XP) := ⟨fun _ => by kernel_rfl, fun _ => by kernel_rfl⟩
def rPrint_o : Sy.O := (bz 58 0x21bb62e8a3b9ffd nil)
noncomputable def rPrint_R (q : Rw) (TL R : List Blk) (B : List (Nat × Sy.Cont)) (a : ActD) (iv ev fv v : Value) (e far : Int) (X XP : List I) (ns : Nat → Sy.Let) : Sy.Res (Value × List Blk) :=
 let z0 := Value.slice (slP v) (Sy.lenS v) (slC v)
 let z1 := exprI (ActD.e a) 0
 let z2 := lv0 [ns 3]
 let z3 := Value.slice (slP z2) (Sy.lenS z2) (slC z2)
 let z4 := [I.mk 33 0 0 0 24 0]
 let z5 := lv0 [ns 5]
 need (okE B ev (ActD.e a) 0 ∧ q.2 z0 X ∧ List.length X + List.length z1 ≤ 900000) (need (List.Perm TL ((List.map Sy.ownOf (q.1 z0 X)).append R)) (need (Sy.GotL R B) (hyp (q.2 z2 (X.append z1)) (need (q.2 z3 XP ∧ z4 ≠ [] ∧ List.length XP + (1 : Nat) ≤ 2000000) (need (List.Perm (R.append (List.map Sy.ownOf (q.1 z2 (X.append z1)))) ((List.map Sy.ownOf (q.1 z3 XP)).append R)) (hyp (q.2 z5 (XP.append z4)) (leaf (Value.agg (Array.mk [.slice (slP z5) (Sy.lenS z5) (slC z5), .int .i64 (fstE e (exprE (ActD.e a) 0))]), R.append (List.map Sy.ownOf (q.1 z5 (XP.append z4)))))))))))
theorem rPrint_run (q : Rw) (TL R : List Blk) (B : List (Nat × Sy.Cont)) (a : ActD) (iv ev fv : Value) (v : Value) (e far : Int) (X XP : List I) : Sy.Ran (Sy.inY Tryz.prog (ctxRb q B (setOp a 8) iv ev fv X XP R) 50 fRAct #[ryV v e, actV (setOp a 8) iv ev fv, .int .i64 far] TL 0) rPrint_o (rPrint_R q TL R B a iv ev fv v e far X XP) := ⟨fun _ => by kernel_rfl, fun _ => by kernel_rfl⟩
def rJump_o : Sy.O := (bz 42 0x21bb62f3ffd nil)
noncomputable def rJump_R (q : Rw) (TL R : List Blk) (B : List (Nat × Sy.Cont)) (a : ActD) (iv ev fv v : Value) (e far : Int) (X XP : List I) (ns : Nat → Sy.Let) : Sy.Res (Value × List Blk) :=
 let z0 := Value.slice (slP v) (Sy.lenS v) (slC v)
 let z1 := [I.mk 18 0 0 0 far 0]
 let z2 := lv0 [ns 4]
 need (q.2 z0 XP ∧ z1 ≠ [] ∧ List.length XP + (1 : Nat) ≤ 2000000) (need (List.Perm TL ((List.map Sy.ownOf (q.1 z0 XP)).append R)) (hyp (q.2 z2 (XP.append z1)) (leaf (Value.agg (Array.mk [.slice (slP z2) (Sy.lenS z2) (slC z2), .int .i64 e]), R.append (List.map Sy.ownOf (q.1 z2 (XP.append z1)))))))
theorem rJump_run (q : Rw) (TL R : List Blk) (B : List (Nat × Sy.Cont)) (a : ActD) (iv ev fv : Value) (v : Value) (e far : Int) (X XP : List I) : Sy.Ran (Sy.inY Tryz.prog (ctxRb q B (setOp a 9) iv ev fv X XP R) 50 fRAct #[ryV v e, actV (setOp a 9) iv ev fv, .int .i64 far] TL 0) rJump_o (rJump_R q TL R B a iv ev fv v e far X XP) := ⟨fun _ => by kernel_rfl, fun _ => by kernel_rfl⟩
def rZero_o : Sy.O := (bz 59 0x4376c5d14773ffd nil)
noncomputable def rZero_R (q : Rw) (TL R : List Blk) (B : List (Nat × Sy.Cont)) (a : ActD) (iv ev fv v : Value) (e far : Int) (X XP : List I) (ns : Nat → Sy.Let) : Sy.Res (Value × List Blk) :=
 let z0 := Value.slice (slP v) (Sy.lenS v) (slC v)
 let z1 := exprI (ActD.e a) 0
 let z2 := lv0 [ns 3]
 let z3 := Value.slice (slP z2) (Sy.lenS z2) (slC z2)
 let z4 := [I.mk 20 24 0 0 far 0]
 let z5 := lv0 [ns 5]
 need (okE B ev (ActD.e a) 0 ∧ q.2 z0 X ∧ List.length X + List.length z1 ≤ 900000) (need (List.Perm TL ((List.map Sy.ownOf (q.1 z0 X)).append R)) (need (Sy.GotL R B) (hyp (q.2 z2 (X.append z1)) (need (q.2 z3 XP ∧ z4 ≠ [] ∧ List.length XP + (1 : Nat) ≤ 2000000) (need (List.Perm (R.append (List.map Sy.ownOf (q.1 z2 (X.append z1)))) ((List.map Sy.ownOf (q.1 z3 XP)).append R)) (hyp (q.2 z5 (XP.append z4)) (leaf (Value.agg (Array.mk [.slice (slP z5) (Sy.lenS z5) (slC z5), .int .i64 (fstE e (exprE (ActD.e a) 0))]), R.append (List.map Sy.ownOf (q.1 z5 (XP.append z4)))))))))))
theorem rZero_run (q : Rw) (TL R : List Blk) (B : List (Nat × Sy.Cont)) (a : ActD) (iv ev fv : Value) (v : Value) (e far : Int) (X XP : List I) : Sy.Ran (Sy.inY Tryz.prog (ctxRb q B (setOp a 10) iv ev fv X XP R) 50 fRAct #[ryV v e, actV (setOp a 10) iv ev fv, .int .i64 far] TL 0) rZero_o (rZero_R q TL R B a iv ev fv v e far X XP) := ⟨fun _ => by kernel_rfl, fun _ => by kernel_rfl⟩
end Go.Proofs.YtlpcnaeknbmjdaaGreat.Gn
namespace Go.Proofs.YtlpcnaeknbmjdaaGreat.Gn
open Go Go.RowKit
open Go.Proofs.YtlpcnaeknbmjdaaGreat.Sy (Let Blk HasL)
open Lw (I insCells tI)
def tailF (a : ActD) (far : Int) : List I := if a.op = 9 then [⟨18, 0, 0, 0, far, 0⟩] else if a.op = 10 then [⟨20, 24, 0, 0, far, 0⟩] else tailI a
def ractC (q : Rw) (B : List (Nat × Sy.Cont)) (a : ActD) (iv ev fv : Value) (v : Value) (e far : Int) (X : List I) : Sy.CallC :=
 ⟨fRAct, #[ryV v e, actV a iv ev fv, .int .i64 far], OkAct B B B a iv ev fv ∧ q.V v X ∧ X.length + (preI a).length + 20 ≤ 900000, ⟨[], q.B v X, 1, B⟩, [ryO q (actE e a) (X ++ preI a ++ tailF a far)]⟩
theorem rxW_met (B : List (Nat × Sy.Cont)) (a : ActD) (X : List I) (R : List Blk) (ar : Array Value) : Sy.Meets Tryz.prog (Sy.rxW rowQ B a X R ar).c := by
 unfold Sy.rxW
 cases Ex.eqQ (Sy.argI ar 2) 0
 ·exact rexC_met _ _ _ _ _ _ _
 ·exact rexC_met _ _ _ _ _ _ _
theorem rpW_met (B : List (Nat × Sy.Cont)) (a : ActD) (iv ev fv : Value) (X : List I) (R : List Blk) (ar : Array Value) : Sy.Meets Tryz.prog (Sy.rpW rowQ B a iv ev fv X R ar).c := by
 unfold Sy.rpW
 cases Ex.eqQ (Sy.argI ar 2) 0
 ·cases Ex.eqQ (Sy.argI ar 2) 1
  ·exact rplC_met _ _ _ _ _ _ _ _ _
  ·exact rplC_met _ _ _ _ _ _ _ _ _
 ·exact rplC_met _ _ _ _ _ _ _ _ _
theorem rsW_met (a : ActD) (iv ev fv : Value) (X : List I) (R : List Blk) (ar : Array Value) : Sy.Meets Tryz.prog (Sy.rsW rowQ a iv ev fv X R ar).c := by
 unfold Sy.rsW
 cases Sy.boolV (Sy.argV ar 3)
 ·exact rsw0_met _ _ _ _ _ _ _
 ·exact rsw1_met _ _ _ _ _ _ _
theorem ctxRa_holds (B : List (Nat × Sy.Cont)) (a : ActD) (iv ev fv : Value) (X XP : List I) (R : List Blk) : (ctxRa rowQ B a iv ev fv X XP R).holds Tryz.prog := Sy.mkU_holds (ctxH_holds a.mode) (fun p hp ar L => by
 rcases List.mem_cons.1 hp with rfl | hp
 ·exact rxW_met _ _ _ _ _
 rcases List.mem_cons.1 hp with rfl | hp
 ·exact rpW_met _ _ _ _ _ _ _ _
 rcases List.mem_cons.1 hp with rfl | hp
 ·exact rputC_met _ _ _ _ _ _
 rcases List.mem_singleton.1 hp with rfl
 exact rsW_met _ _ _ _ _ _ _) (fun _ h => (by cases h))
theorem ctxRb_holds (B : List (Nat × Sy.Cont)) (a : ActD) (iv ev fv : Value) (X XP : List I) (R : List Blk) : (ctxRb rowQ B a iv ev fv X XP R).holds Tryz.prog := Sy.mkU_holds (ctxH_holds a.mode) (fun p hp ar L => by
 rcases List.mem_cons.1 hp with rfl | hp
 ·exact rxW_met _ _ _ _ _
 rcases List.mem_singleton.1 hp with rfl
 exact rputC_met _ _ _ _ _ _) (fun _ h => (by cases h))
theorem perm_f (v : Value) {X X' : List I} (B : List (Nat × Sy.Cont)) (e : X = X') : List.Perm ((rowB v X).map Sy.ownOf ++ rdOf B) (((rowB (slV v) X').map Sy.ownOf) ++ rdOf B) := by
 subst e
 exact List.Perm.refl _
theorem got_b (B : List (Nat × Sy.Cont)) : Sy.GotL (rdOf B) B := gotL_of fun _ h => h
theorem eqm (x : Int) : Ex.eqQ x 1 = true ↔ x = 1 := by rw [Ex.eqQ_eq]; simp
theorem eqn (x : Int) : Ex.eqQ x 1 = false ↔ ¬ x = 1 := by rw [Ex.eqQ_eq]; simp
theorem stm (x : Int) : (bif Ex.eqQ x 1 then (23 : Int) else 25) = if x = 1 then 23 else 25 := by
 rw [Ex.eqQ_eq]
 by_cases h : x = 1
 ·simp [h]
 ·rw [bneI h, if_neg h]; rfl
theorem stm2 (x : Int) : (bif Ex.eqQ x 2 then (30 : Int) else 31) = if x = 2 then 30 else 31 := by
 rw [Ex.eqQ_eq]
 by_cases h : x = 2
 ·simp [h]
 ·rw [bneI h, if_neg h]; rfl
variable (B : List (Nat × Sy.Cont)) (a : ActD) (iv ev fv v : Value) (e far : Int) (X : List I)
theorem rSet_met : Sy.Meets Tryz.prog (ractC rowQ B (setOp a 1) iv ev fv v e far X) := fun hok => by
 obtain ⟨hA, hX, hl⟩ := id hok
 have hp : preI (setOp a 1) = exprI a.e 0 := by simp [preI]
 rw [hp] at hl
 try simp only [List.length_append] at hl
 refine Sy.meets_ofY (k := 0) (ctxRb_holds B (setOp a 1) iv ev fv X (xE X a) (rdOf B)) mixed (L := (rowB v X).map Sy.ownOf ++ rdOf B) (Sy.Ent.refl _) (rSet_run rowQ _ (rdOf B) B a iv ev fv v e far X (xE X a)) (fun _ ns => ?_) hok
 simp only [rSet_R, Sy.Res.holds]
 have ry : ∀ {n : Let} {Z : List I} {e0 : Int} (A : List Blk), RowV (lv0 [n]) Z → Z = X ++ preI (setOp a 1) ++ tailF (setOp a 1) far → e0 = actE e (setOp a 1) → Sy.leafB (ractC rowQ B (setOp a 1) iv ev fv v e far X) (.agg #[slV (lv0 [n]), .int .i64 e0], A ++ (rowB (lv0 [n]) Z).map Sy.ownOf) := fun A hk he h0 => by
  subst h0
  exact ryE_leaf (Sy.mS _) rfl hk he A
 exact ⟨⟨⟨(hA.e (by simp) (by simp) (by simp)), hX, by omega⟩, perm_f _ _ rfl, got_b _, fun k1 => ⟨⟨rowV_of k1 (by simp [xE, xF, xP0, xP1, xP2]), by simp, by simp [xE, xF, xP0, xP1, xP2]; omega⟩, perm_next _ _ (by simp [xE, xF, xP0, xP1, xP2]), fun k2 => ry _ k2 (by simp [hp, tailF, tailI, xE, xF, xP0, xP1, xP2]) (by simp [actE])⟩⟩, ⟨⟨(hA.e (by simp) (by simp) (by simp)), hX, by omega⟩, perm_f _ _ rfl, got_b _, fun k1 => ⟨⟨rowV_of k1 (by simp [xE, xF, xP0, xP1, xP2]), by simp, by simp [xE, xF, xP0, xP1, xP2]; omega⟩, perm_next _ _ (by simp [xE, xF, xP0, xP1, xP2]), fun k2 => ry _ k2 (by simp [hp, tailF, tailI, xE, xF, xP0, xP1, xP2]) (by simp [actE])⟩⟩⟩
theorem rLoad_met : Sy.Meets Tryz.prog (ractC rowQ B (setOp a 2) iv ev fv v e far X) := fun hok => by
 obtain ⟨hA, hX, hl⟩ := id hok
 have hp : preI (setOp a 2) = placeI a.base a.size a.ix 0 := by simp [preI]
 rw [hp] at hl
 try simp only [List.length_append] at hl
 refine Sy.meets_ofY (k := 0) (ctxRa_holds B (setOp a 2) iv ev fv X (xP0 X a) (rdOf B)) mixed (L := (rowB v X).map Sy.ownOf ++ rdOf B) (Sy.Ent.refl _) (rLoad_run rowQ _ (rdOf B) B a iv ev fv v e far X (xP0 X a)) (fun _ ns => ?_) hok
 simp only [rLoad_R, Sy.Res.holds]
 have ry : ∀ {n : Let} {Z : List I} {e0 : Int} (A : List Blk), RowV (lv0 [n]) Z → Z = X ++ preI (setOp a 2) ++ tailF (setOp a 2) far → e0 = actE e (setOp a 2) → Sy.leafB (ractC rowQ B (setOp a 2) iv ev fv v e far X) (.agg #[slV (lv0 [n]), .int .i64 e0], A ++ (rowB (lv0 [n]) Z).map Sy.ownOf) := fun A hk he h0 => by
  subst h0
  exact ryE_leaf (Sy.mS _) rfl hk he A
 exact ⟨⟨hA.p0 rfl, hX, by omega⟩, perm_f _ _ rfl, got_b _, fun k1 => ⟨fun hb => ⟨⟨rowV_of k1 (by simp [xE, xF, xP0, xP1, xP2]), by simp, by simp [xE, xF, xP0, xP1, xP2]; omega⟩, perm_next _ _ (by simp [xE, xF, xP0, xP1, xP2]), fun k2 => ry _ k2 (by simp [hp, tailF, tailI, xE, xF, xP0, xP1, xP2, (eqm _).1 hb]) (by simp [actE])⟩, fun hb => ⟨⟨rowV_of k1 (by simp [xE, xF, xP0, xP1, xP2]), by simp, by simp [xE, xF, xP0, xP1, xP2]; omega⟩, perm_next _ _ (by simp [xE, xF, xP0, xP1, xP2]), fun k2 => ry _ k2 (by simp [hp, tailF, tailI, xE, xF, xP0, xP1, xP2, (eqn _).1 hb]) (by simp [actE])⟩⟩⟩
theorem rStore_met : Sy.Meets Tryz.prog (ractC rowQ B (setOp a 3) iv ev fv v e far X) := fun hok => by
 obtain ⟨hA, hX, hl⟩ := id hok
 have hp : preI (setOp a 3) = exprI a.e 0 ++ placeI a.base a.size a.ix 1 := by simp [preI]
 rw [hp] at hl
 try simp only [List.length_append] at hl
 refine Sy.meets_ofY (k := 0) (ctxRa_holds B (setOp a 3) iv ev fv X (xP1 X a) (rdOf B)) mixed (L := (rowB v X).map Sy.ownOf ++ rdOf B) (Sy.Ent.refl _) (rStore_run rowQ _ (rdOf B) B a iv ev fv v e far X (xP1 X a)) (fun _ ns => ?_) hok
 simp only [rStore_R, Sy.Res.holds]
 have ry : ∀ {n : Let} {Z : List I} {e0 : Int} (A : List Blk), RowV (lv0 [n]) Z → Z = X ++ preI (setOp a 3) ++ tailF (setOp a 3) far → e0 = actE e (setOp a 3) → Sy.leafB (ractC rowQ B (setOp a 3) iv ev fv v e far X) (.agg #[slV (lv0 [n]), .int .i64 e0], A ++ (rowB (lv0 [n]) Z).map Sy.ownOf) := fun A hk he h0 => by
  subst h0
  exact ryE_leaf (Sy.mS _) rfl hk he A
 exact ⟨⟨(hA.e (by simp) (by simp) (by simp)), hX, by omega⟩, perm_f _ _ rfl, got_b _, fun k1 => ⟨⟨hA.p1 (by simp), k1, by simp; omega⟩, perm_next _ _ rfl, got_b _, fun k2 => ⟨trivial, fun _ => ⟨⟨rowV_of k2 (by simp [xE, xF, xP0, xP1, xP2]), by simp, by simp [xE, xF, xP0, xP1, xP2]; omega⟩, perm_next _ _ (by simp [xE, xF, xP0, xP1, xP2]), fun k3 => ry _ k3 (by simp [hp, tailF, tailI, xE, xF, xP0, xP1, xP2, stm]) (by simp [actE])⟩⟩⟩⟩
theorem rXchg_met : Sy.Meets Tryz.prog (ractC rowQ B (setOp a 4) iv ev fv v e far X) := fun hok => by
 obtain ⟨hA, hX, hl⟩ := id hok
 have hp : preI (setOp a 4) = exprI a.e 0 ++ placeI a.base a.size a.ix 1 := by simp [preI]
 rw [hp] at hl
 try simp only [List.length_append] at hl
 refine Sy.meets_ofY (k := 0) (ctxRa_holds B (setOp a 4) iv ev fv X (xP1 X a) (rdOf B)) mixed (L := (rowB v X).map Sy.ownOf ++ rdOf B) (Sy.Ent.refl _) (rXchg_run rowQ _ (rdOf B) B a iv ev fv v e far X (xP1 X a)) (fun _ ns => ?_) hok
 simp only [rXchg_R, Sy.Res.holds]
 have ry : ∀ {n : Let} {Z : List I} {e0 : Int} (A : List Blk), RowV (lv0 [n]) Z → Z = X ++ preI (setOp a 4) ++ tailF (setOp a 4) far → e0 = actE e (setOp a 4) → Sy.leafB (ractC rowQ B (setOp a 4) iv ev fv v e far X) (.agg #[slV (lv0 [n]), .int .i64 e0], A ++ (rowB (lv0 [n]) Z).map Sy.ownOf) := fun A hk he h0 => by
  subst h0
  exact ryE_leaf (Sy.mS _) rfl hk he A
 exact ⟨⟨(hA.e (by simp) (by simp) (by simp)), hX, by omega⟩, perm_f _ _ rfl, got_b _, fun k1 => ⟨⟨hA.p1 (by simp), k1, by simp; omega⟩, perm_next _ _ rfl, got_b _, fun k2 => ⟨⟨rowV_of k2 (by simp [xE, xF, xP0, xP1, xP2]), by simp [xE, xF, xP0, xP1, xP2]; omega⟩, perm_next _ _ (by simp [xE, xF, xP0, xP1, xP2]), fun k3 => ry _ k3 (by simp [hp, tailF, tailI, xE, xF, xP0, xP1, xP2, lpI]) (by simp [actE])⟩⟩⟩
theorem rFadd_met : Sy.Meets Tryz.prog (ractC rowQ B (setOp a 5) iv ev fv v e far X) := fun hok => by
 obtain ⟨hA, hX, hl⟩ := id hok
 have hp : preI (setOp a 5) = exprI a.e 0 ++ placeI a.base a.size a.ix 1 := by simp [preI]
 rw [hp] at hl
 try simp only [List.length_append] at hl
 refine Sy.meets_ofY (k := 0) (ctxRa_holds B (setOp a 5) iv ev fv X (xP1 X a) (rdOf B)) mixed (L := (rowB v X).map Sy.ownOf ++ rdOf B) (Sy.Ent.refl _) (rFadd_run rowQ _ (rdOf B) B a iv ev fv v e far X (xP1 X a)) (fun _ ns => ?_) hok
 simp only [rFadd_R, Sy.Res.holds]
 have ry : ∀ {n : Let} {Z : List I} {e0 : Int} (A : List Blk), RowV (lv0 [n]) Z → Z = X ++ preI (setOp a 5) ++ tailF (setOp a 5) far → e0 = actE e (setOp a 5) → Sy.leafB (ractC rowQ B (setOp a 5) iv ev fv v e far X) (.agg #[slV (lv0 [n]), .int .i64 e0], A ++ (rowB (lv0 [n]) Z).map Sy.ownOf) := fun A hk he h0 => by
  subst h0
  exact ryE_leaf (Sy.mS _) rfl hk he A
 exact ⟨⟨(hA.e (by simp) (by simp) (by simp)), hX, by omega⟩, perm_f _ _ rfl, got_b _, fun k1 => ⟨⟨hA.p1 (by simp), k1, by simp; omega⟩, perm_next _ _ rfl, got_b _, fun k2 => ⟨⟨rowV_of k2 (by simp [xE, xF, xP0, xP1, xP2]), by simp [xE, xF, xP0, xP1, xP2]; omega⟩, perm_next _ _ (by simp [xE, xF, xP0, xP1, xP2]), fun k3 => ry _ k3 (by simp [hp, tailF, tailI, xE, xF, xP0, xP1, xP2, lpI]) (by simp [actE])⟩⟩⟩
theorem rCas_met : Sy.Meets Tryz.prog (ractC rowQ B (setOp a 6) iv ev fv v e far X) := fun hok => by
 obtain ⟨hA, hX, hl⟩ := id hok
 have hp : preI (setOp a 6) = exprI a.e 0 ++ exprI a.f 1 ++ placeI a.base a.size a.ix 2 := by simp [preI]
 rw [hp] at hl
 try simp only [List.length_append] at hl
 refine Sy.meets_ofY (k := 0) (ctxRa_holds B (setOp a 6) iv ev fv X (xP2 X a) (rdOf B)) mixed (L := (rowB v X).map Sy.ownOf ++ rdOf B) (Sy.Ent.refl _) (rCas_run rowQ _ (rdOf B) B a iv ev fv v e far X (xP2 X a)) (fun _ ns => ?_) hok
 simp only [rCas_R, Sy.Res.holds]
 have ry : ∀ {n : Let} {Z : List I} {e0 : Int} (A : List Blk), RowV (lv0 [n]) Z → Z = X ++ preI (setOp a 6) ++ tailF (setOp a 6) far → e0 = actE e (setOp a 6) → Sy.leafB (ractC rowQ B (setOp a 6) iv ev fv v e far X) (.agg #[slV (lv0 [n]), .int .i64 e0], A ++ (rowB (lv0 [n]) Z).map Sy.ownOf) := fun A hk he h0 => by
  subst h0
  exact ryE_leaf (Sy.mS _) rfl hk he A
 exact ⟨⟨(hA.e (by simp) (by simp) (by simp)), hX, by omega⟩, perm_f _ _ rfl, got_b _, fun k1 => ⟨⟨hA.f rfl, k1, by simp; omega⟩, perm_next _ _ rfl, got_b _, fun k2 => ⟨⟨hA.p2 rfl, k2, by simp; omega⟩, perm_next _ _ rfl, got_b _, fun k3 => ⟨trivial, fun _ => ⟨trivial, fun _ => ⟨⟨rowV_of k3 (by simp [xE, xF, xP0, xP1, xP2]), by simp, by simp [xE, xF, xP0, xP1, xP2]; omega⟩, perm_next _ _ (by simp [xE, xF, xP0, xP1, xP2]), fun k4 => ⟨trivial, fun _ => ⟨trivial, fun _ => ⟨⟨rowV_of k4 (by simp [xE, xF, xP0, xP1, xP2]), by simp, by simp [xE, xF, xP0, xP1, xP2]; omega⟩, perm_next _ _ (by simp [xE, xF, xP0, xP1, xP2]), fun k5 => ry _ k5 (by simp [hp, tailF, tailI, xE, xF, xP0, xP1, xP2, opL, opS]) (by simp [actE])⟩⟩⟩⟩⟩⟩⟩⟩⟩
theorem rFence_met : Sy.Meets Tryz.prog (ractC rowQ B (setOp a 7) iv ev fv v e far X) := fun hok => by
 obtain ⟨hA, hX, hl⟩ := id hok
 have hp : preI (setOp a 7) = [] := by simp [preI]
 rw [hp] at hl
 try simp only [List.length_append] at hl
 refine Sy.meets_ofY (k := 0) (ctxRb_holds B (setOp a 7) iv ev fv X X (rdOf B)) mixed (L := (rowB v X).map Sy.ownOf ++ rdOf B) (Sy.Ent.refl _) (rFence_run rowQ _ (rdOf B) B a iv ev fv v e far X X) (fun _ ns => ?_) hok
 simp only [rFence_R, Sy.Res.holds]
 have ry : ∀ {n : Let} {Z : List I} {e0 : Int} (A : List Blk), RowV (lv0 [n]) Z → Z = X ++ preI (setOp a 7) ++ tailF (setOp a 7) far → e0 = actE e (setOp a 7) → Sy.leafB (ractC rowQ B (setOp a 7) iv ev fv v e far X) (.agg #[slV (lv0 [n]), .int .i64 e0], A ++ (rowB (lv0 [n]) Z).map Sy.ownOf) := fun A hk he h0 => by
  subst h0
  exact ryE_leaf (Sy.mS _) rfl hk he A
 exact ⟨trivial, fun _ => ⟨⟨rowV_of hX (by simp), by simp, by simp; simp at hl; omega⟩, perm_f _ _ rfl, fun k1 => ry _ k1 (by simp [hp, tailF, tailI, xE, xF, xP0, xP1, xP2, stm2]) (by simp [actE])⟩⟩
theorem rPrint_met : Sy.Meets Tryz.prog (ractC rowQ B (setOp a 8) iv ev fv v e far X) := fun hok => by
 obtain ⟨hA, hX, hl⟩ := id hok
 have hp : preI (setOp a 8) = exprI a.e 0 := by simp [preI]
 rw [hp] at hl
 try simp only [List.length_append] at hl
 refine Sy.meets_ofY (k := 0) (ctxRb_holds B (setOp a 8) iv ev fv X (xE X a) (rdOf B)) mixed (L := (rowB v X).map Sy.ownOf ++ rdOf B) (Sy.Ent.refl _) (rPrint_run rowQ _ (rdOf B) B a iv ev fv v e far X (xE X a)) (fun _ ns => ?_) hok
 simp only [rPrint_R, Sy.Res.holds]
 have ry : ∀ {n : Let} {Z : List I} {e0 : Int} (A : List Blk), RowV (lv0 [n]) Z → Z = X ++ preI (setOp a 8) ++ tailF (setOp a 8) far → e0 = actE e (setOp a 8) → Sy.leafB (ractC rowQ B (setOp a 8) iv ev fv v e far X) (.agg #[slV (lv0 [n]), .int .i64 e0], A ++ (rowB (lv0 [n]) Z).map Sy.ownOf) := fun A hk he h0 => by
  subst h0
  exact ryE_leaf (Sy.mS _) rfl hk he A
 exact ⟨⟨(hA.e (by simp) (by simp) (by simp)), hX, by omega⟩, perm_f _ _ rfl, got_b _, fun k1 => ⟨⟨rowV_of k1 (by simp [xE, xF, xP0, xP1, xP2]), by simp, by simp [xE, xF, xP0, xP1, xP2]; omega⟩, perm_next _ _ (by simp [xE, xF, xP0, xP1, xP2]), fun k2 => ry _ k2 (by simp [hp, tailF, tailI, xE, xF, xP0, xP1, xP2]) (by simp [actE])⟩⟩
theorem rJump_met : Sy.Meets Tryz.prog (ractC rowQ B (setOp a 9) iv ev fv v e far X) := fun hok => by
 obtain ⟨hA, hX, hl⟩ := id hok
 have hp : preI (setOp a 9) = [] := by simp [preI]
 rw [hp] at hl
 try simp only [List.length_append] at hl
 refine Sy.meets_ofY (k := 0) (ctxRb_holds B (setOp a 9) iv ev fv X X (rdOf B)) mixed (L := (rowB v X).map Sy.ownOf ++ rdOf B) (Sy.Ent.refl _) (rJump_run rowQ _ (rdOf B) B a iv ev fv v e far X X) (fun _ ns => ?_) hok
 simp only [rJump_R, Sy.Res.holds]
 have ry : ∀ {n : Let} {Z : List I} {e0 : Int} (A : List Blk), RowV (lv0 [n]) Z → Z = X ++ preI (setOp a 9) ++ tailF (setOp a 9) far → e0 = actE e (setOp a 9) → Sy.leafB (ractC rowQ B (setOp a 9) iv ev fv v e far X) (.agg #[slV (lv0 [n]), .int .i64 e0], A ++ (rowB (lv0 [n]) Z).map Sy.ownOf) := fun A hk he h0 => by
  subst h0
  exact ryE_leaf (Sy.mS _) rfl hk he A
 exact ⟨⟨rowV_of hX (by simp), by simp, by simp; simp at hl; omega⟩, perm_f _ _ rfl, fun k1 => ry _ k1 (by simp [hp, tailF, tailI, xE, xF, xP0, xP1, xP2]) (by simp [actE])⟩
theorem rZero_met : Sy.Meets Tryz.prog (ractC rowQ B (setOp a 10) iv ev fv v e far X) := fun hok => by
 obtain ⟨hA, hX, hl⟩ := id hok
 have hp : preI (setOp a 10) = exprI a.e 0 := by simp [preI]
 rw [hp] at hl
 try simp only [List.length_append] at hl
 refine Sy.meets_ofY (k := 0) (ctxRb_holds B (setOp a 10) iv ev fv X (xE X a) (rdOf B)) mixed (L := (rowB v X).map Sy.ownOf ++ rdOf B) (Sy.Ent.refl _) (rZero_run rowQ _ (rdOf B) B a iv ev fv v e far X (xE X a)) (fun _ ns => ?_) hok
 simp only [rZero_R, Sy.Res.holds]
 have ry : ∀ {n : Let} {Z : List I} {e0 : Int} (A : List Blk), RowV (lv0 [n]) Z → Z = X ++ preI (setOp a 10) ++ tailF (setOp a 10) far → e0 = actE e (setOp a 10) → Sy.leafB (ractC rowQ B (setOp a 10) iv ev fv v e far X) (.agg #[slV (lv0 [n]), .int .i64 e0], A ++ (rowB (lv0 [n]) Z).map Sy.ownOf) := fun A hk he h0 => by
  subst h0
  exact ryE_leaf (Sy.mS _) rfl hk he A
 exact ⟨⟨(hA.e (by simp) (by simp) (by simp)), hX, by omega⟩, perm_f _ _ rfl, got_b _, fun k1 => ⟨⟨rowV_of k1 (by simp [xE, xF, xP0, xP1, xP2]), by simp, by simp [xE, xF, xP0, xP1, xP2]; omega⟩, perm_next _ _ (by simp [xE, xF, xP0, xP1, xP2]), fun k2 => ry _ k2 (by simp [hp, tailF, tailI, xE, xF, xP0, xP1, xP2]) (by simp [actE])⟩⟩
theorem ractC_met : Sy.Meets Tryz.prog (ractC rowQ B a iv ev fv v e far X) := fun hok => by
 have h := hok.1.op
 have ha : a = setOp a a.op := rfl
 rcases h with h | h | h | h | h | h | h | h | h | h
 ·rw [ha, h] at hok ⊢; exact rSet_met B a iv ev fv v e far X hok
 ·rw [ha, h] at hok ⊢; exact rLoad_met B a iv ev fv v e far X hok
 ·rw [ha, h] at hok ⊢; exact rStore_met B a iv ev fv v e far X hok
 ·rw [ha, h] at hok ⊢; exact rXchg_met B a iv ev fv v e far X hok
 ·rw [ha, h] at hok ⊢; exact rFadd_met B a iv ev fv v e far X hok
 ·rw [ha, h] at hok ⊢; exact rCas_met B a iv ev fv v e far X hok
 ·rw [ha, h] at hok ⊢; exact rFence_met B a iv ev fv v e far X hok
 ·rw [ha, h] at hok ⊢; exact rPrint_met B a iv ev fv v e far X hok
 ·rw [ha, h] at hok ⊢; exact rJump_met B a iv ev fv v e far X hok
 ·rw [ha, h] at hok ⊢; exact rZero_met B a iv ev fv v e far X hok
end Go.Proofs.YtlpcnaeknbmjdaaGreat.Gn
--@way 2
namespace Go.Proofs.YtlpcnaeknbmjdaaGreat.Gn
open Sy.O (bz fork nil pack step steps)
open Sy.Res (need hyp br leaf both)
open Go Go.RowKit
open Go.Proofs.YtlpcnaeknbmjdaaGreat.Sy (Let Blk HasL)
open Lw (I insCells tI)
abbrev fAlone : FuncId := 64
abbrev fRLse : FuncId := 41
abbrev fRLaid : FuncId := 27
def al_o : Sy.O := (bz 3 0x7 (fork (bz 3 0x7 (fork (bz 159 0x5001003af0003af00020ebc000ebc000f0103cb4 nil) (bz 159 0x5001003af0003af00020ebc000ebc000f0103cb4 nil))) (bz 3 0x7 (fork (bz 159 0x5001003af0003af00020ebc000ebc000f0103cb4 nil) (bz 159 0x5001003af0003af00020ebc000ebc000f0103cb4 nil)))))
noncomputable def al_R (TL : List Blk) (a : ActD) (iv ev fv : Value) (ns : Nat → Sy.Let) : Sy.Res (Value × List Blk) :=
 let z0 := Ex.eqQ (ActD.op a) 6
 let z1 := bif acqF (ActD.mode a) then 1 else 0
 let z2 := bif relF (ActD.mode a) then 2 else 0
 let z3 := need True (hyp True (need True (hyp True (need True (hyp True (need True (hyp True (leaf (Value.int .i64 (Ex.wrapQ .i64 (Ex.addQ (Ex.wrapQ .i64 (Ex.addQ 36 z1)) z2)), TL)))))))))
 br (Ex.eqQ (ActD.op a) 5) (br z0 z3 (need True (hyp True (need True (hyp True (need True (hyp True (need True (hyp True (leaf (Value.int .i64 (Ex.wrapQ .i64 (Ex.addQ (Ex.wrapQ .i64 (Ex.addQ 44 z1)) z2)), TL))))))))))) (br z0 z3 (need True (hyp True (need True (hyp True (need True (hyp True (need True (hyp True (leaf (Value.int .i64 (Ex.wrapQ .i64 (Ex.addQ (Ex.wrapQ .i64 (Ex.addQ 40 z1)) z2)), TL)))))))))))
theorem al_run (TL : List Blk) (a : ActD) (iv ev fv : Value) : Sy.Ran (Sy.inY Tryz.prog (ctxH a.mode) 50 fAlone #[actV a iv ev fv] TL 0) al_o (al_R TL a iv ev fv) := ⟨fun _ => by kernel_rfl, fun _ => by kernel_rfl⟩
def aloneF (a : ActD) : Int := aloneOp (if a.op = 6 then 36 else if a.op = 5 then 44 else 40) a.mode
def alC (a : ActD) (iv ev fv : Value) : Sy.CallC := Sy.plainC fAlone #[actV a iv ev fv] (.int .i64 (aloneF a))
theorem alone_add (n : Int) (h0 : 0 ≤ n) (h1 : n ≤ 100) (m : Int) : Ex.wrapQ .i64 (Ex.addQ (Ex.wrapQ .i64 (Ex.addQ n (bif acqF m then 1 else 0))) (bif relF m then 2 else 0)) = aloneOp n m := by
 unfold aloneOp
 have hA : (bif acqF m then (1 : Int) else 0) = 1 ∨ (bif acqF m then (1 : Int) else 0) = 0 := by cases acqF m <;> simp
 have hR : (bif relF m then (2 : Int) else 0) = 2 ∨ (bif relF m then (2 : Int) else 0) = 0 := by cases relF m <;> simp
 generalize (bif acqF m then (1 : Int) else 0) = x at *
 generalize (bif relF m then (2 : Int) else 0) = y at *
 rw [Ex.wrapQ_eq, Ex.addQ_eq, Ex.wrapQ_eq, Ex.addQ_eq]
 simp [IntKind.wrap, IntKind.signed, IntKind.bits]
 omega
def ctxRl (q : Rw) (B : List (Nat × Sy.Cont)) (a : ActD) (iv ev fv : Value) (far : Int) (X XP : List I) (R : List Blk) : Sy.Ctx :=
 Sy.mkU (Sy.mkS [(fTakes, fun _ _ => taC a.mode), (fAlone, fun _ _ => alC a iv ev fv)] [] []) [(fRExpr, fun ar _ => Sy.rxW q B a X R ar), (fRPlace, fun ar _ => Sy.rpW q B a iv ev fv X R ar), (fRPut, Sy.rpU q XP R), (fRAct, fun ar _ => (ractC q B a iv ev fv (Sy.lyV (Sy.argV ar 0)) (Sy.lyE (Sy.argV ar 0)) far X).toU [] (q.B (Sy.lyV (Sy.argV ar 0)) X) R)] []
def rl_o : Sy.O := (bz 10 0x36d (fork (bz 50 0x20020d846d9c4 (fork (bz 106 0x21bb00112d62e00225a0025d451 nil) (bz 111 0x437600225ac5c0044b50a1800896 nil))) (bz 4 0xd (fork (bz 239 0x5f38c0112d62e0089680225d78036ce266009751460097514600d86cb389 (fork (bz 70 0x20638d82f1c386c2f1 nil) (bz 39 0x419cd85e71 nil))) (fork (bz 238 0x2f9c600896b170044b40112ebc01b67133004ba8a3004ba8a3006c3659c4 (fork (bz 70 0x20638d82f1c386c2f1 nil) (bz 39 0x419cd85e71 nil))) (fork (bz 300 0xbe7180225ac5c0112d0044baf006d9c4cc0025d4518004ba8a3000975146001b01b043659c4 (fork (bz 70 0x20638d82f1c386c2f1 nil) (bz 39 0x419cd85e71 nil))) (bz 32 0x8fe8a3b9 nil)))))))
noncomputable def rl_R (q : Rw) (TL R : List Blk) (B : List (Nat × Sy.Cont)) (a : ActD) (iv ev fv v : Value) (e far : Int) (X XP : List I) (ns : Nat → Sy.Let) : Sy.Res (Value × List Blk) :=
 let z0 := ActD.op a
 let z1 := ActD.base a
 let z2 := ActD.size a
 let z3 := ActD.ix a
 let z4 := Value.slice (slP v) (Sy.lenS v) (slC v)
 let z5 := placeI z1 z2 z3 0
 let z6 := okP B iv z1 z2 z3 0 ∧ q.2 z4 X ∧ List.length X + List.length z5 ≤ 900000
 let z7 := List.Perm TL ((List.map Sy.ownOf (q.1 z4 X)).append R)
 let z8 := Sy.GotL R B
 let z9 := lv0 [ns 3]
 let z10 := X.append z5
 let z11 := Value.slice (slP z9) (Sy.lenS z9) (slC z9)
 let z12 := XP.append []
 let z13 := ActD.dst a
 let z14 := [I.mk 35 z13 29 0 0 0]
 let z15 := lv0 [ns 5]
 let z16 := z12.append z14
 let z17 := hyp (q.2 z15 z16) (leaf (Value.agg (Array.mk [.slice (slP z15) (Sy.lenS z15) (slC z15), .int .i64 (fstE e (placeE z2 z3 0))]), R.append (List.map Sy.ownOf (q.1 z15 z16))))
 let z18 := lv0 [ns 4]
 let z19 := Value.slice (slP z18) (Sy.lenS z18) (slC z18)
 let z20 := (List.map Sy.ownOf (q.1 z19 z12)).append R
 let z21 := exprI (ActD.e a) 0
 let z22 := okE B ev (ActD.e a) 0 ∧ q.2 z4 X ∧ List.length X + List.length z21 ≤ 900000
 let z23 := X.append z21
 let z24 := placeI z1 z2 z3 1
 let z25 := List.Perm (R.append (List.map Sy.ownOf (q.1 z9 z23))) ((List.map Sy.ownOf (q.1 z11 z23)).append R)
 let z26 := z23.append z24
 let z27 := [I.mk (aloneF a) 25 29 24 0 0]
 let z28 := lv0 [ns 6]
 let z29 := z12.append z27
 let z30 := !acqF (ActD.mode a)
 let z31 := Value.slice (slP z28) (Sy.lenS z28) (slC z28)
 let z32 := XP.append z27
 let z33 := [I.mk 21 25 0 0 1 0]
 let z34 := List.Perm (R.append (List.map Sy.ownOf (q.1 z28 z29))) ((List.map Sy.ownOf (q.1 z31 z32)).append R)
 let z35 := lv0 [ns 8]
 let z36 := z32.append z33
 let z37 := Value.slice (slP z35) (Sy.lenS z35) (slC z35)
 let z38 := XP.append [I.mk (aloneF a) 25 29 24 0 0, I.mk 21 25 0 0 1 0]
 let z39 := [I.mk 6 z13 31 25 0 0]
 let z40 := lv0 [ns 10]
 let z41 := z38.append z39
 let z42 := fstE e (exprE (ActD.e a) 0)
 let z43 := fstE z42 (placeE z2 z3 1)
 let z44 := fun (p : Nat × Sy.Cont) => Blk.mk (Prod.fst p) (Prod.snd p) true
 let z45 := z32.append z39
 let z46 := need z22 (need z7 (need z8 (hyp (q.2 z9 z23) (need (okP B iv z1 z2 z3 1 ∧ q.2 z11 z23 ∧ List.length z23 + List.length z24 ≤ 900000) (need z25 (need z8 (hyp (q.2 z18 z26) (need True (hyp True (need (q.2 z19 z12 ∧ z27 ≠ [] ∧ List.length z12 + (1 : Nat) ≤ 2000000) (need (List.Perm (R.append (List.map Sy.ownOf (q.1 z18 z26))) z20) (hyp (q.2 z28 z29) (need True (hyp True (br z30 (need (q.2 z31 z32 ∧ z33 ≠ [] ∧ List.length z32 + (1 : Nat) ≤ 2000000) (need z34 (hyp (q.2 z35 z36) (need (q.2 z37 z38 ∧ z39 ≠ [] ∧ List.length z38 + (1 : Nat) ≤ 2000000) (need (List.Perm (R.append (List.map Sy.ownOf (q.1 z35 z36))) ((List.map Sy.ownOf (q.1 z37 z38)).append R)) (hyp (q.2 z40 z41) (leaf (Value.agg (Array.mk [.slice (slP z40) (Sy.lenS z40) (slC z40), .int .i64 z43]), R.append (List.map z44 (q.1 z40 z41)))))))))) (need (q.2 z31 z32 ∧ z39 ≠ [] ∧ List.length z32 + (1 : Nat) ≤ 2000000) (need z34 (hyp (q.2 z35 z45) (leaf (Value.agg (Array.mk [.slice (slP z35) (Sy.lenS z35) (slC z35), .int .i64 z43]), R.append (List.map Sy.ownOf (q.1 z35 z45))))))))))))))))))))))
 let z47 := exprI (ActD.f a) 1
 let z48 := z23.append z47
 let z49 := placeI z1 z2 z3 2
 let z50 := z48.append z49
 let z51 := Value.slice (slP z15) (Sy.lenS z15) (slC z15)
 let z52 := lv0 [ns 7]
 let z53 := Value.slice (slP z52) (Sy.lenS z52) (slC z52)
 let z54 := [I.mk 21 24 0 0 1 0]
 let z55 := List.Perm (R.append (List.map z44 (q.1 z52 z29))) ((List.map z44 (q.1 z53 z32)).append R)
 let z56 := lv0 [ns 9]
 let z57 := z32.append z54
 let z58 := Value.slice (slP z56) (Sy.lenS z56) (slC z56)
 let z59 := XP.append [I.mk (aloneF a) 25 29 24 0 0, I.mk 21 24 0 0 1 0]
 let z60 := [I.mk 6 z13 31 24 0 0]
 let z61 := lv0 [ns 11]
 let z62 := z59.append z60
 let z63 := fstE (fstE z42 (exprE (ActD.f a) 1)) (placeE z2 z3 2)
 let z64 := z32.append z60
 let z65 := (List.append X (preI a)).append (tailF a far)
 br (bif Ex.eqQ z0 2 then Ex.eqQ (ActD.mode a) 2 else false) (both (need z6 (need z7 (need z8 (hyp (q.2 z9 z10) (need (q.2 z11 z12 ∧ z14 ≠ [] ∧ List.length z12 + (1 : Nat) ≤ 2000000) (need (List.Perm (R.append (List.map Sy.ownOf (q.1 z9 z10))) ((List.map Sy.ownOf (q.1 z11 z12)).append R)) z17)))))) (need z6 (need z7 (need z8 (hyp (q.2 z18 z10) (need (q.2 z19 z12 ∧ z14 ≠ [] ∧ List.length z12 + (1 : Nat) ≤ 2000000) (need (List.Perm (R.append (List.map Sy.ownOf (q.1 z18 z10))) z20) z17))))))) (br (Ex.eqQ z0 4) z46 (br (Ex.eqQ z0 5) z46 (br (Ex.eqQ z0 6) (need z22 (need z7 (need z8 (hyp (q.2 z9 z23) (need (okE B fv (ActD.f a) 1 ∧ q.2 z11 z23 ∧ List.length z23 + List.length z47 ≤ 900000) (need z25 (need z8 (hyp (q.2 z18 z48) (need (okP B iv z1 z2 z3 2 ∧ q.2 z19 z48 ∧ List.length z48 + List.length z49 ≤ 900000) (need (List.Perm (R.append (List.map Sy.ownOf (q.1 z18 z48))) ((List.map Sy.ownOf (q.1 z19 z48)).append R)) (need z8 (hyp (q.2 z15 z50) (need True (hyp True (need (q.2 z51 z12 ∧ z27 ≠ [] ∧ List.length z12 + (1 : Nat) ≤ 2000000) (need (List.Perm (R.append (List.map Sy.ownOf (q.1 z15 z50))) ((List.map Sy.ownOf (q.1 z51 z12)).append R)) (hyp (q.2 z52 z29) (need True (hyp True (br z30 (need (q.2 z53 z32 ∧ z54 ≠ [] ∧ List.length z32 + (1 : Nat) ≤ 2000000) (need z55 (hyp (q.2 z56 z57) (need (q.2 z58 z59 ∧ z60 ≠ [] ∧ List.length z59 + (1 : Nat) ≤ 2000000) (need (List.Perm (R.append (List.map z44 (q.1 z56 z57))) ((List.map z44 (q.1 z58 z59)).append R)) (hyp (q.2 z61 z62) (leaf
 (Value.agg (Array.mk [.slice (slP z61) (Sy.lenS z61) (slC z61), .int .i64 z63]), R.append (List.map z44 (q.1 z61 z62)))))))))) (need (q.2 z53 z32 ∧ z60 ≠ [] ∧ List.length z32 + (1 : Nat) ≤ 2000000) (need z55 (hyp (q.2 z56 z64) (leaf (Value.agg (Array.mk [.slice (slP z56) (Sy.lenS z56) (slC z56), .int .i64 z63]), R.append (List.map z44 (q.1 z56 z64))))))))))))))))))))))))))) (need (OkAct B B B a iv ev fv ∧ q.2 z4 X ∧ List.length X + List.length (preI a) + (20 : Nat) ≤ 900000) (need z7 (need z8 (hyp (q.2 z9 z65) (leaf (Value.agg (Array.mk [.slice (slP z9) (Sy.lenS z9) (slC z9), .int .i64 (actE e a)]), R.append (List.map Sy.ownOf (q.1 z9 z65)))))))))))
theorem rl_run (q : Rw) (TL R : List Blk) (B : List (Nat × Sy.Cont)) (a : ActD) (iv ev fv : Value) (v : Value) (e far : Int) (X XP : List I) : Sy.Ran (Sy.inY Tryz.prog (ctxRl q B a iv ev fv far X XP R) 50 fRLse #[ryV v e, actV a iv ev fv, .int .i64 far] TL 0) rl_o (rl_R q TL R B a iv ev fv v e far X XP) := ⟨fun _ => by kernel_rfl, fun _ => by kernel_rfl⟩
end Go.Proofs.YtlpcnaeknbmjdaaGreat.Gn
namespace Go.Proofs.YtlpcnaeknbmjdaaGreat.Gn
open Go Go.RowKit
open Go.Proofs.YtlpcnaeknbmjdaaGreat.Sy (Let Blk HasL)
open Lw (I insCells tI)
theorem alC_met (a : ActD) (iv ev fv : Value) : Sy.Meets Tryz.prog (alC a iv ev fv) := by
 refine Sy.meets_ofY (k := 0) (ctxH_holds a.mode) mixed (L := []) (Sy.Ent.refl _) (al_run [] a iv ev fv) fun _ ns => ?_
 simp only [al_R, Sy.Res.holds]
 have leaf : ∀ x : Int, x = aloneF a → Sy.leafB (alC a iv ev fv) (.int .i64 x, []) := fun x hx => plainB_leaf (v := .int .i64 (aloneF a)) (Sy.mS _) rfl (by rw [hx])
 refine ⟨fun h5 => ⟨fun h6 => ?_, fun h6 => ?_⟩, fun h5 => ⟨fun h6 => ?_, fun h6 => ?_⟩⟩
 all_goals
  refine ⟨trivial, fun _ => ⟨trivial, fun _ => ⟨trivial, fun _ => ⟨trivial, fun _ => leaf _ ?_⟩⟩⟩⟩
  rw [alone_add _ (by decide) (by decide)]
  rw [Ex.eqQ_eq] at h5 h6
  unfold aloneF
  by_cases e6 : a.op = 6
  ·simp [e6] at h6 h5 ⊢
  ·by_cases e5 : a.op = 5
   ·simp [e5] at h6 h5 ⊢
   ·simp [e5, e6] at h6 h5 ⊢
def tailLF (a : ActD) (far : Int) : List I :=
 if a.op = 2 ∧ a.mode = 2 then [⟨35, a.dst, 29, 0, 0, 0⟩]
 else if a.op = 4 then sgI 40 25 a
 else if a.op = 5 then sgI 44 25 a
 else if a.op = 6 then sgI 36 24 a
 else tailF a far
def rlseC (q : Rw) (B : List (Nat × Sy.Cont)) (a : ActD) (iv ev fv : Value) (v : Value) (e far : Int) (X : List I) : Sy.CallC :=
 ⟨fRLse, #[ryV v e, actV a iv ev fv, .int .i64 far], OkAct B B B a iv ev fv ∧ q.V v X ∧ X.length + (preI a).length + 20 ≤ 900000, ⟨[], q.B v X, 1, B⟩, [ryO q (actE e a) (X ++ preI a ++ tailLF a far)]⟩
theorem rlseC_met (B : List (Nat × Sy.Cont)) (a : ActD) (iv ev fv v : Value) (e far : Int) (X : List I) : Sy.Meets Tryz.prog (rlseC rowQ B a iv ev fv v e far X) := fun hok => by
 obtain ⟨hA, hX, hl⟩ := id hok
 have hS : (ctxRl rowQ B a iv ev fv far X (X ++ preI a) (rdOf B)).holds Tryz.prog := Sy.mkU_holds (Sy.mkS_holds (fun p hp ar L => by
  rcases List.mem_cons.1 hp with rfl | hp
  ·exact taC_met _
  rcases List.mem_singleton.1 hp with rfl
  exact alC_met _ _ _ _) (fun _ h => (by cases h)) (fun _ h => (by cases h))) (fun p hp ar L => by
  rcases List.mem_cons.1 hp with rfl | hp
  ·exact rxW_met _ _ _ _ _
  rcases List.mem_cons.1 hp with rfl | hp
  ·exact rpW_met _ _ _ _ _ _ _ _
  rcases List.mem_cons.1 hp with rfl | hp
  ·exact rputC_met _ _ _ _ _ _
  rcases List.mem_singleton.1 hp with rfl
  exact ractC_met _ _ _ _ _ _ _ _ _) (fun _ h => (by cases h))
 refine Sy.meets_ofY (k := 0) hS mixed (L := (rowB v X).map Sy.ownOf ++ rdOf B) (Sy.Ent.refl _) (rl_run rowQ _ (rdOf B) B a iv ev fv v e far X (X ++ preI a)) (fun _ ns => ?_) hok
 have ry : ∀ {n : Let} {Z : List I} {e0 : Int} (A : List Blk), RowV (lv0 [n]) Z → Z = X ++ preI a ++ tailLF a far → e0 = actE e a → Sy.leafB (rlseC rowQ B a iv ev fv v e far X) (.agg #[slV (lv0 [n]), .int .i64 e0], A ++ (rowB (lv0 [n]) Z).map Sy.ownOf) := fun A hk he h0 => by
  subst h0
  exact ryE_leaf (Sy.mS _) rfl hk he A
 have eqk : ∀ (x k : Int), Ex.eqQ x k = true ↔ x = k := fun x k => by rw [Ex.eqQ_eq]; simp
 have eqf : ∀ (x k : Int), Ex.eqQ x k = false ↔ ¬ x = k := fun x k => by rw [Ex.eqQ_eq]; simp
 simp only [rl_R, Sy.Res.holds]
 refine ⟨fun h2 => ?_, fun h2 => ⟨fun h4 => ?_, fun h4 => ⟨fun h5 => ?_, fun h5 => ⟨fun h6 => ?_, fun h6 => ?_⟩⟩⟩⟩
 ·have h2 : a.op = 2 ∧ a.mode = 2 := by
   rw [Ex.eqQ_eq, Ex.eqQ_eq] at h2
   by_cases o : a.op = 2 <;> by_cases m : a.mode = 2 <;> simp [o, m] at h2 ⊢
  have hp : preI a = placeI a.base a.size a.ix 0 := by simp [preI, h2.1]
  rw [hp] at hl
  have go : ∀ (n1 n2 : Let) (A : List Blk), RowV (lv0 [n2]) (X ++ preI a ++ [] ++ [⟨35, a.dst, 29, 0, 0, 0⟩]) → Sy.leafB (rlseC rowQ B a iv ev fv v e far X) (.agg #[slV (lv0 [n2]), .int .i64 (fstE e (placeE a.size a.ix 0))], A ++ (rowB (lv0 [n2]) (X ++ preI a ++ [] ++ [⟨35, a.dst, 29, 0, 0, 0⟩])).map Sy.ownOf) := fun n1 n2 A k2 => ry A k2 (by simp [tailLF, h2]) (by simp [actE, h2])
  exact ⟨⟨⟨hA.p0 h2.1, hX, by omega⟩, perm_f _ _ rfl, got_b _, fun k1 => ⟨⟨rowV_of k1 (by simp [hp]), by simp, by simp [hp]; omega⟩, perm_next _ _ (by simp [hp]), fun k2 => go (ns 3) _ _ k2⟩⟩, ⟨⟨hA.p0 h2.1, hX, by omega⟩, perm_f _ _ rfl, got_b _, fun k1 => ⟨⟨rowV_of k1 (by simp [hp]), by simp, by simp [hp]; omega⟩, perm_next _ _ (by simp [hp]), fun k2 => go (ns 3) _ _ k2⟩⟩⟩
 ·have h : a.op = 4 := (eqk _ _).1 h4
  have hp : preI a = exprI a.e 0 ++ placeI a.base a.size a.ix 1 := by simp [preI, h]
  have ht : tailLF a far = sgI 40 25 a := by simp [tailLF, h]
  have hal : aloneF a = aloneOp 40 a.mode := by simp [aloneF, h]
  rw [hp] at hl
  simp only [List.length_append] at hl
  refine ⟨⟨hA.e (by omega) (by omega) (by omega), hX, by omega⟩, perm_f _ _ rfl, got_b _, fun k1 => ⟨⟨hA.p1 (by omega), k1, by simp; omega⟩, perm_next _ _ rfl, got_b _, fun k2 => ⟨trivial, fun _ => ⟨⟨rowV_of k2 (by simp [hp]), by simp, by simp [hp]; omega⟩, perm_next _ _ (by simp [hp]), fun k3 => ⟨trivial, fun _ => ⟨fun hb => ⟨⟨rowV_of k3 (by simp [hp]), by simp, by simp [hp]; omega⟩, perm_next _ _ (by simp [hp]), fun k4 => ⟨⟨rowV_of k4 (by simp [hp]), by simp, by simp [hp]; omega⟩, perm_next _ _ (by simp [hp]), fun k5 => ?_⟩⟩, fun hb => ⟨⟨rowV_of k3 (by simp [hp]), by simp, by simp [hp]; omega⟩, perm_next _ _ (by simp [hp]), fun k4 => ?_⟩⟩⟩⟩⟩⟩⟩
  ·have hb : acqF a.mode = false := by simpa using hb
   exact ry _ k5 (by rw [ht]; simp [sgI, nzI, hb, hal]) (by simp [actE, h])
  ·have hb : acqF a.mode = true := by simpa using hb
   exact ry _ k4 (by rw [ht]; simp [sgI, nzI, hb, hal]) (by simp [actE, h])
 ·have h : a.op = 5 := (eqk _ _).1 h5
  have hp : preI a = exprI a.e 0 ++ placeI a.base a.size a.ix 1 := by simp [preI, h]
  have ht : tailLF a far = sgI 44 25 a := by simp [tailLF, h]
  have hal : aloneF a = aloneOp 44 a.mode := by simp [aloneF, h]
  rw [hp] at hl
  simp only [List.length_append] at hl
  refine ⟨⟨hA.e (by omega) (by omega) (by omega), hX, by omega⟩, perm_f _ _ rfl, got_b _, fun k1 => ⟨⟨hA.p1 (by omega), k1, by simp; omega⟩, perm_next _ _ rfl, got_b _, fun k2 => ⟨trivial, fun _ => ⟨⟨rowV_of k2 (by simp [hp]), by simp, by simp [hp]; omega⟩, perm_next _ _ (by simp [hp]), fun k3 => ⟨trivial, fun _ => ⟨fun hb => ⟨⟨rowV_of k3 (by simp [hp]), by simp, by simp [hp]; omega⟩, perm_next _ _ (by simp [hp]), fun k4 => ⟨⟨rowV_of k4 (by simp [hp]), by simp, by simp [hp]; omega⟩, perm_next _ _ (by simp [hp]), fun k5 => ?_⟩⟩, fun hb => ⟨⟨rowV_of k3 (by simp [hp]), by simp, by simp [hp]; omega⟩, perm_next _ _ (by simp [hp]), fun k4 => ?_⟩⟩⟩⟩⟩⟩⟩
  ·have hb : acqF a.mode = false := by simpa using hb
   exact ry _ k5 (by rw [ht]; simp [sgI, nzI, hb, hal]) (by simp [actE, h])
  ·have hb : acqF a.mode = true := by simpa using hb
   exact ry _ k4 (by rw [ht]; simp [sgI, nzI, hb, hal]) (by simp [actE, h])
 ·have h : a.op = 6 := (eqk _ _).1 h6
  have hp : preI a = exprI a.e 0 ++ exprI a.f 1 ++ placeI a.base a.size a.ix 2 := by simp [preI, h]
  have ht : tailLF a far = sgI 36 24 a := by simp [tailLF, h]
  have hal : aloneF a = aloneOp 36 a.mode := by simp [aloneF, h]
  rw [hp] at hl
  simp only [List.length_append] at hl
  refine ⟨⟨hA.e (by omega) (by omega) (by omega), hX, by omega⟩, perm_f _ _ rfl, got_b _, fun k1 => ⟨⟨hA.f h, k1, by simp; omega⟩, perm_next _ _ rfl, got_b _, fun k2 => ⟨⟨hA.p2 h, k2, by simp; omega⟩, perm_next _ _ rfl, got_b _, fun k3 => ⟨trivial, fun _ => ⟨⟨rowV_of k3 (by simp [hp]), by simp, by simp [hp]; omega⟩, perm_next _ _ (by simp [hp]), fun k4 => ⟨trivial, fun _ => ⟨fun hb => ⟨⟨rowV_of k4 (by simp [hp]), by simp, by simp [hp]; omega⟩, perm_next _ _ (by simp [hp]), fun k5 => ⟨⟨rowV_of k5 (by simp [hp]), by simp, by simp [hp]; omega⟩, perm_next _ _ (by simp [hp]), fun k6 => ?_⟩⟩, fun hb => ⟨⟨rowV_of k4 (by simp [hp]), by simp, by simp [hp]; omega⟩, perm_next _ _ (by simp [hp]), fun k5 => ?_⟩⟩⟩⟩⟩⟩⟩⟩
  ·have hb : acqF a.mode = false := by simpa using hb
   exact ry _ k6 (by rw [ht]; simp [sgI, nzI, hb, hal]) (by simp [actE, h])
  ·have hb : acqF a.mode = true := by simpa using hb
   exact ry _ k5 (by rw [ht]; simp [sgI, nzI, hb, hal]) (by simp [actE, h])
 ·have h2 : ¬ (a.op = 2 ∧ a.mode = 2) := fun ho => by
   rw [Ex.eqQ_eq, Ex.eqQ_eq, ho.1, ho.2] at h2
   cases h2
  have ht : tailLF a far = tailF a far := by
   unfold tailLF
   rw [if_neg h2, if_neg ((eqf _ _).1 h4), if_neg ((eqf _ _).1 h5), if_neg ((eqf _ _).1 h6)]
  exact ⟨⟨hA, hX, hl⟩, perm_f _ _ rfl, got_b _, fun k1 => ry _ k1 (by rw [ht]; rfl) rfl⟩
open Sy.O (bz fork nil pack step steps)
open Sy.Res (need hyp br leaf both)
open Go Go.RowKit
open Go.Proofs.YtlpcnaeknbmjdaaGreat.Sy (Let Blk HasL)
open Lw (I insCells tI)
def ctxRw (q : Rw) (B : List (Nat × Sy.Cont)) (a : ActD) (iv ev fv v : Value) (e far : Int) (X : List I) (R : List Blk) : Sy.Ctx :=
 Sy.mkU Sy.S0 [(fRAct, fun _ _ => (ractC q B a iv ev fv v e far X).toU [] (q.B v X) R), (fRLse, fun _ _ => (rlseC q B a iv ev fv v e far X).toU [] (q.B v X) R)] []
def rw_o : Sy.O := (fork (bz 32 0x8fe8a3b9 nil) (bz 32 0x8fe8a3b9 nil))
noncomputable def rw_R (q : Rw) (TL R : List Blk) (B : List (Nat × Sy.Cont)) (a : ActD) (iv ev fv v : Value) (e far : Int) (b : Bool) (X : List I) (ns : Nat → Sy.Let) : Sy.Res (Value × List Blk) :=
 let z0 := OkAct B B B a iv ev fv ∧ q.2 v X ∧ List.length X + List.length (preI a) + (20 : Nat) ≤ 900000
 let z1 := List.Perm TL ((List.map Sy.ownOf (q.1 v X)).append R)
 let z2 := lv0 [ns 3]
 let z3 := X.append (preI a)
 let z4 := z3.append (tailLF a far)
 let z5 := Array.mk [Value.slice (slP z2) (Sy.lenS z2) (slC z2), Value.int .i64 (actE e a)]
 let z6 := z3.append (tailF a far)
 br b (need z0 (need z1 (need (Sy.GotL R B) (hyp (q.2 z2 z4) (leaf (Value.agg z5, R.append (List.map Sy.ownOf (q.1 z2 z4)))))))) (need z0 (need z1 (need (Sy.GotL R B) (hyp (q.2 z2 z6) (leaf (Value.agg z5, R.append (List.map Sy.ownOf (q.1 z2 z6))))))))
theorem rw_run (q : Rw) (TL R : List Blk) (B : List (Nat × Sy.Cont)) (a : ActD) (iv ev fv : Value) (v : Value) (e far : Int) (b : Bool) (X : List I) : Sy.Ran (Sy.inY Tryz.prog (ctxRw q B a iv ev fv v e far X R) 50 fRLaid #[ryV v e, actV a iv ev fv, .int .i64 far, .bool b] TL 0) rw_o (rw_R q TL R B a iv ev fv v e far b X) := ⟨fun _ => by kernel_rfl, fun _ => by kernel_rfl⟩
def tailG (b : Bool) (a : ActD) (far : Int) : List I := match b with
 | true => tailLF a far
 | false => tailF a far
def rlaC (q : Rw) (B : List (Nat × Sy.Cont)) (a : ActD) (iv ev fv : Value) (v : Value) (e far : Int) (b : Bool) (X : List I) : Sy.CallC :=
 ⟨fRLaid, #[ryV v e, actV a iv ev fv, .int .i64 far, .bool b], OkAct B B B a iv ev fv ∧ q.V v X ∧ X.length + (preI a).length + 20 ≤ 900000, ⟨[], q.B v X, 1, B⟩, [ryO q (actE e a) (X ++ preI a ++ tailG b a far)]⟩
theorem rlaC_met (B : List (Nat × Sy.Cont)) (a : ActD) (iv ev fv v : Value) (e far : Int) (b : Bool) (X : List I) : Sy.Meets Tryz.prog (rlaC rowQ B a iv ev fv v e far b X) := fun hok => by
 obtain ⟨hA, hX, hl⟩ := id hok
 have hS : (ctxRw rowQ B a iv ev fv v e far X (rdOf B)).holds Tryz.prog := Sy.mkU_holds Sy.S0_holds (fun p hp ar L => by
  rcases List.mem_cons.1 hp with rfl | hp
  ·exact ractC_met _ _ _ _ _ _ _ _ _
  rcases List.mem_singleton.1 hp with rfl
  exact rlseC_met _ _ _ _ _ _ _ _ _) (fun _ h => (by cases h))
 refine Sy.meets_ofY (k := 0) hS mixed (L := (rowB v X).map Sy.ownOf ++ rdOf B) (Sy.Ent.refl _) (rw_run rowQ _ (rdOf B) B a iv ev fv v e far b X) (fun _ ns => ?_) hok
 simp only [rw_R, Sy.Res.holds]
 refine ⟨fun hb => ?_, fun hb => ?_⟩
 ·subst hb
  exact ⟨hok, perm_f _ _ rfl, got_b _, fun k => ryE_leaf (Sy.mS _) rfl k rfl _⟩
 ·subst hb
  exact ⟨hok, perm_f _ _ rfl, got_b _, fun k => ryE_leaf (Sy.mS _) rfl k rfl _⟩
theorem tailF_zero (a : ActD) : tailF a 0 = tailI a := by
 unfold tailF
 split
 ·rename_i h; simp [tailI, h]
 split
 ·rename_i h; simp [tailI, h]
 ·rfl
theorem tailG_zero (b : Bool) (a : ActD) : tailG b a 0 = tailB b a := by
 cases b
 ·exact tailF_zero a
 ·show tailLF a 0 = tailL a
  unfold tailLF tailL
  rw [tailF_zero]
def rlaBy (q : Rw) (B : List (Nat × Sy.Cont)) (a : ActD) (v : Value) (e far : Int) (b : Bool) (X : List I) (args : Array Value) : Sy.CallC :=
 ⟨fRLaid, args, ∃ iv ev fv, args = #[ryV v e, actV a iv ev fv, .int .i64 far, .bool b] ∧ OkAct B B B a iv ev fv ∧ q.V v X ∧ X.length + (preI a).length + 20 ≤ 900000, ⟨[], q.B v X, 1, B⟩, [ryO q (actE e a) (X ++ preI a ++ tailG b a far)]⟩
theorem rlaBy_met (B : List (Nat × Sy.Cont)) (a : ActD) (v : Value) (e far : Int) (b : Bool) (X : List I) (args : Array Value) : Sy.Meets Tryz.prog (rlaBy rowQ B a v e far b X args) := by
 rintro ⟨iv, ev, fv, rfl, h⟩
 exact rlaC_met B a iv ev fv v e far b X h
end Go.Proofs.YtlpcnaeknbmjdaaGreat.Gn
--@way 3
namespace Go.Proofs.YtlpcnaeknbmjdaaGreat.Gn
open Sy.O (bz fork nil pack step steps)
open Sy.Res (need hyp br leaf both)
open Go Go.RowKit
open Go.Proofs.YtlpcnaeknbmjdaaGreat.Sy (Let Blk HasL)
open Lw (I insCells tI)
abbrev fRThread : FuncId := 13
def bodyR1 : Code := Sy.loopBody Tryz.f13 0
def bodyR2 : Code := Sy.loopBody Tryz.f13 1
def rfaultC (c l o : Int) : Sy.Cont := .obj (.cells #[.int .i64 c, .int .i64 l, .int .i64 o] 35 (0, 0))
def thrC (loc : Int) (av : Value) : Sy.Cont := .obj (.cells #[.int .i64 loc, av] 40 (0, 0))
def rlayC (v : Value) (e : Int) : Sy.Cont := .obj (.cells #[slV v, .int .i64 e] 70 (0, 0))
def intB (n cap : Nat) (bs : List Int) : Sy.Cont := .row 3 1 n cap (intsV bs)
def slR1 (p2 p5 g cap : Nat) (b : Bool) (n : Int) (m k : Nat) : List (Nat × Value) := [(1, .bool b), (2, .pointer (some ⟨p2, 0, none⟩)), (4, .slice none 0 0), (5, .pointer (some ⟨p5, 0, none⟩)), (6, .slice (some ⟨g, 0, none⟩) m cap), (7, .int .i64 n), (8, .int .i64 (Int.ofNat k))]
def ctxR1 (q : Rw) (B : List (Nat × Sy.Cont)) (a : ActD) (b : Bool) (R : List Blk) : Sy.Ctx :=
 Sy.mkU Sy.S0 [(fRLaid, fun ar _ => (rlaBy q B a (.slice none 0 0) 0 0 b [] ar).toU [] (q.B (.slice none 0 0) []) R)] []
def r1_o : Sy.O := (bz 5 0x17 (fork (bz 65 0x17ff4286159ba5ac7 (fork (bz 213 0x186000020002000414001000a8008018c01008280815043189ec7f nil) (bz 3 0x7 (fork (pack 38 0x404dee285ac0856a00c094142730425200601880000403 nil) nil)))) nil))
noncomputable def r1_R (q : Rw) (R TL : List Blk) (B : List (Nat × Sy.Cont)) (p2 p5 g cap m : Nat) (loc : Int) (av : Value) (a : ActD) (b : Bool) (n : Int) (k : Nat) (xs : List Int) (f : Nat → Value) (ns : Nat → Sy.Let) : Sy.Res (Exit × Nat × List Value × List Blk) :=
 let z0 := Int.ofNat k
 let z1 := m + 1
 let z2 := Sy.ptrS av
 let z3 := (∃ (n : Nat), ∃ (c : Nat), av = Value.slice (some (Addr.mk z2 (Sy.offS av) none)) n c) ∧ 0 ≤ Int.ofNat k ∧ Int.ofNat k < (↑(Sy.lenS av) : Int)
 let z4 := Sy.offS av + Int.toNat z0 * 11
 let z5 := Sy.offS av + Int.toNat z0 * 11 + 1
 let z6 := Sy.offS av + Int.toNat z0 * 11 + 1 + 1
 let z7 := Sy.offS av + Int.toNat z0 * 11 + 1 + 1 + 1
 let z8 := Sy.offS av + Int.toNat z0 * 11 + 1 + 1 + 1 + 1
 let z9 := Sy.offS av + Int.toNat z0 * 11 + 1 + 1 + 1 + 1 + 1
 let z10 := Sy.offS av + Int.toNat z0 * 11 + 1 + 1 + 1 + 1 + 1 + 1
 let z11 := Sy.offS av + Int.toNat z0 * 11 + 1 + 1 + 1 + 1 + 1 + 1 + 1
 let z12 := Sy.offS av + Int.toNat z0 * 11 + 1 + 1 + 1 + 1 + 1 + 1 + 1 + 1
 let z13 := Sy.offS av + Int.toNat z0 * 11 + 1 + 1 + 1 + 1 + 1 + 1 + 1 + 1 + 1
 let z14 := Sy.offS av + Int.toNat z0 * 11 + 1 + 1 + 1 + 1 + 1 + 1 + 1 + 1 + 1 + 1
 let z15 := Array.mk [Value.slice none 0 0, Value.int .i64 0]
 let z16 := Value.slice none 0 0
 let z17 := fun (p : Nat × Sy.Cont) => Blk.mk (Prod.fst p) (Prod.snd p) true
 let z18 := lv0 [ns 14]
 let z19 := ([] ++ preI a).append (tailG b a 0)
 let z20 := actE 0 a
 let z21 := Sy.lenS z18
 let z22 := List.map z17 (q.1 z18 z19)
 let z23 := R.append z22
 let z24 := Nat.succ (Nat.succ (Nat.succ (Nat.succ (Nat.succ (Nat.succ (Nat.succ (Nat.succ (Nat.succ z4))))))))
 let z25 := (∃ (i : Int), HasL z23 z2 z24 (Value.int .i64 i))
 let z26 := (∀ (u : Value), HasL z23 z2 z24 u → u = Value.int .i64 (ns 16).i)
 let z27 := (∃ (i : Int), HasL z23 z2 (Nat.succ z24) (Value.int .i64 i))
 let z28 := (∀ (u : Value), HasL z23 z2 (Nat.succ z24) u → u = Value.int .i64 (ns 17).i)
 let z29 := some (Addr.mk p2 0 none)
 let z30 := some (Addr.mk p5 0 none)
 let z31 := some (Addr.mk (ns 1).n 0 none)
 let z32 := thrC loc av
 let z33 := Let.i (ns 16)
 let z34 := Let.i (ns 17)
 let z35 := Sy.Cont.obj (Obj.cells (Array.mk [.slice (slP z18) z21 (slC z18), .int .i64 z20]) 70)
 let z36 := rfaultC 0 0 0
 need (∃ (p : Option Addr), ∃ (n : Nat), ∃ (c : Nat), av = Value.slice p n c) (br (Ex.ltQ z0 (Int.ofNat (Sy.lenS av))) (need (m + (1 : Nat) ≤ 9223372036854775807) (need (z1 * (8 : Nat) ≤ 140737488355328) (hyp (Nat.le z1 (ns 2).n) (need z3 (need (∃ (i : Int), HasL TL z2 z4 (Value.int .i64 i)) (hyp (∀ (u : Value), HasL TL z2 z4 u → u = Value.int .i64 (ns 3).i) (need (∃ (i : Int), HasL TL z2 z5 (Value.int .i64 i)) (hyp (∀ (u : Value), HasL TL z2 z5 u → u = Value.int .i64 (ns 4).i) (need (∃ (i : Int), HasL TL z2 z6 (Value.int .i64 i)) (hyp (∀ (u : Value), HasL TL z2 z6 u → u = Value.int .i64 (ns 5).i) (need (∃ (i : Int), HasL TL z2 z7 (Value.int .i64 i)) (hyp (∀ (u : Value), HasL TL z2 z7 u → u = Value.int .i64 (ns 6).i) (need (∃ (v : Value), HasL TL z2 z8 v) (hyp (∀ (u : Value), HasL TL z2 z8 u → u = (ns 7).v) (need (∃ (v : Value), HasL TL z2 z9 v) (hyp (∀ (u : Value), HasL TL z2 z9 u → u = (ns 8).v) (need (∃ (v : Value), HasL TL z2 z10 v) (hyp (∀ (u : Value), HasL TL z2 z10 u → u = (ns 9).v) (need (∃ (i : Int), HasL TL z2 z11 (Value.int .i64 i)) (hyp (∀ (u : Value), HasL TL z2 z11 u → u = Value.int .i64 (ns 10).i) (need (∃ (i : Int), HasL TL z2 z12 (Value.int .i64 i)) (hyp (∀ (u : Value), HasL TL z2 z12 u → u = Value.int .i64 (ns 11).i) (need (∃ (i : Int), HasL TL z2 z13 (Value.int .i64 i)) (hyp (∀ (u : Value), HasL TL z2 z13 u → u = Value.int .i64 (ns 12).i) (need (∃ (i : Int), HasL TL z2 z14 (Value.int .i64 i)) (hyp (∀ (u : Value), HasL TL z2 z14 u → u = Value.int .i64 (ns
 13).i) (need (∃ (iv : Value), ∃ (ev : Value), ∃ (fv : Value), Array.mk [Value.agg z15, Value.agg (Array.mk [.int .i64 (ns 3).i, .int .i64 (ns 4).i, .int .i64 (ns 5).i, .int .i64 (ns 6).i, (ns 7).v, (ns 8).v, (ns 9).v, .int .i64 (ns 10).i, .int .i64 (ns 11).i, .int .i64 (ns 12).i, .int .i64 (ns 13).i]), Value.int .i64 0, Value.bool b] = Array.mk [Value.agg z15, actV a iv ev fv, Value.int .i64 0, Value.bool b] ∧ OkAct B B B a iv ev fv ∧ q.2 z16 [] ∧ 0 + List.length (preI a) + (20 : Nat) ≤ 900000) (need (List.Perm TL ((List.map z17 (q.1 z16 [])).append R)) (need (Sy.GotL R B) (hyp (q.2 z18 z19) (br (bif Ex.eqQ z20 0 then Ex.ltQ 16383 (Ex.wrapQ .i64 (Ex.addQ n (Int.ofNat z21))) else false) (need z3 (need z25 (hyp z26 (need z3 (need z27 (hyp z28 (leaf (Exit.ret, 104, [Value.bool b, Value.pointer z29, Value.slice none 0 0, Value.pointer z30, Value.slice z31 z1 (ns 2).n, Value.int .i64 (Ex.wrapQ .i64 (Ex.addQ n (Int.ofNat z21))), Value.int .i64 z0], Blk.mk (ns 15).n (.obj (.cells (Array.mk [.slice (slP z18) z21 (slC z18), .int .i64 31]) 70)) true :: Blk.mk (ns 1).n (Sy.Cont.row 3 1 z1 (ns 2).n ((intsV xs).append [Value.int .i64 n])) true :: Blk.mk (ns 0).n (.obj (.cells (Array.mk [.int .i64 n]) 3)) true :: Blk.mk p2 z32 false :: Blk.mk p5 (.obj (.cells (Array.mk [.int .i64 31, .int .i64 z33, .int .i64 z34]) 35)) true :: R.append z22)))))))) (br (!Ex.eqQ z20 0) (need z3 (need z25 (hyp z26 (need z3 (need z27 (hyp z28 (leaf (Exit.ret, 104, [Value.bool b, Value.pointer z29, Value.slice
 none 0 0, Value.pointer z30, Value.slice z31 z1 (ns 2).n, Value.int .i64 (Ex.wrapQ .i64 (Ex.addQ n (Int.ofNat z21))), Value.int .i64 z0], Blk.mk (ns 15).n z35 true :: Blk.mk (ns 1).n (Sy.Cont.row 3 1 z1 (ns 2).n ((intsV xs).append [Value.int .i64 n])) true :: Blk.mk (ns 0).n (.obj (.cells (Array.mk [.int .i64 n]) 3)) true :: Blk.mk p2 z32 false :: Blk.mk p5 (.obj (.cells (Array.mk [.int .i64 z20, .int .i64 z33, .int .i64 z34]) 35)) true :: R.append z22)))))))) (leaf (Exit.normal, 104, [Value.bool b, Value.pointer z29, Value.slice none 0 0, Value.pointer z30, Value.slice z31 z1 (ns 2).n, Value.int .i64 (Ex.wrapQ .i64 (Ex.addQ n (Int.ofNat z21))), Value.int .i64 (Ex.wrapQ .i64 (Ex.addQ z0 1))], Blk.mk (ns 15).n z35 true :: Blk.mk (ns 1).n (Sy.Cont.row 3 1 z1 (ns 2).n ((intsV xs).append [Value.int .i64 n])) true :: Blk.mk (ns 0).n (.obj (.cells (Array.mk [.int .i64 n]) 3)) true :: Blk.mk p2 z32 false :: Blk.mk p5 z36 true :: R.append z22)))))))))))))))))))))))))))))))))) (leaf (Exit.exit 0, 104, [Value.bool b, Value.pointer z29, Value.slice none 0 0, Value.pointer z30, Value.slice (some ⟨g, 0, none⟩) m cap, Value.int .i64 n, Value.int .i64 z0], Blk.mk p2 z32 false :: Blk.mk p5 z36 true :: Blk.mk g (intB m cap xs) true :: TL)))
theorem r1_run (q : Rw) (R TL : List Blk) (B : List (Nat × Sy.Cont)) (p2 p5 g cap m : Nat) (loc : Int) (av : Value) (a : ActD) (b : Bool) (n : Int) (k : Nat) (xs : List Int) (f : Nat → Value) : Sy.Ran (Sy.pieceT Tryz.prog (ctxR1 q B a b R) 50 fRThread bodyR1 104 (slR1 p2 p5 g cap b n m k) ((List.range 104).map f) (⟨p2, thrC loc av, false⟩ :: ⟨p5, rfaultC 0 0 0, true⟩ :: ⟨g, intB m cap xs, true⟩ :: TL) [1, 2, 4, 5, 6, 7, 8]) r1_o (r1_R q R TL B p2 p5 g cap m loc av a b n k xs f) := ⟨fun _ => by kernel_rfl, fun _ => by kernel_rfl⟩
def slR2 (p2 p5 g cap p10 : Nat) (b : Bool) (m k : Nat) : List (Nat × Value) := [(1, .bool b), (2, .pointer (some ⟨p2, 0, none⟩)), (5, .pointer (some ⟨p5, 0, none⟩)), (6, .slice (some ⟨g, 0, none⟩) m cap), (10, .pointer (some ⟨p10, 0, none⟩)), (11, .int .i64 (Int.ofNat k))]
def ctxR2 (q : Rw) (B : List (Nat × Sy.Cont)) (a : ActD) (v : Value) (far : Int) (b : Bool) (X : List I) (R : List Blk) : Sy.Ctx :=
 Sy.mkU Sy.S0 [(fRLaid, fun ar _ => (rlaBy q B a v 0 far b X ar).toU [] (q.B v X) R)] []
def r2_o : Sy.O := (bz 5 0x17 (fork (pack 64 0xc0120480ddab40842204c209460f08422038206902c5842a4800041cc40942120c000082018003 nil) nil))
noncomputable def r2_R (q : Rw) (R TL : List Blk) (B : List (Nat × Sy.Cont)) (p2 p5 p10 g cap m : Nat) (loc : Int) (av v : Value) (a : ActD) (far : Int) (b : Bool) (X : List I) (k : Nat) (xs : List Int) (f : Nat → Value) (ns : Nat → Sy.Let) : Sy.Res (Exit × Nat × List Value × List Blk) :=
 let z0 := Int.ofNat k
 let z1 := Sy.ptrS av
 let z2 := (∃ (n : Nat), ∃ (c : Nat), av = Value.slice (some (Addr.mk z1 (Sy.offS av) none)) n c) ∧ 0 ≤ Int.ofNat k ∧ Int.ofNat k < (↑(Sy.lenS av) : Int)
 let z3 := Sy.offS av + Int.toNat z0 * 11
 let z4 := Sy.offS av + Int.toNat z0 * 11 + 1
 let z5 := Sy.offS av + Int.toNat z0 * 11 + 1 + 1
 let z6 := Sy.offS av + Int.toNat z0 * 11 + 1 + 1 + 1
 let z7 := Sy.offS av + Int.toNat z0 * 11 + 1 + 1 + 1 + 1
 let z8 := Sy.offS av + Int.toNat z0 * 11 + 1 + 1 + 1 + 1 + 1
 let z9 := Sy.offS av + Int.toNat z0 * 11 + 1 + 1 + 1 + 1 + 1 + 1
 let z10 := Sy.offS av + Int.toNat z0 * 11 + 1 + 1 + 1 + 1 + 1 + 1 + 1
 let z11 := Sy.offS av + Int.toNat z0 * 11 + 1 + 1 + 1 + 1 + 1 + 1 + 1 + 1
 let z12 := Sy.offS av + Int.toNat z0 * 11 + 1 + 1 + 1 + 1 + 1 + 1 + 1 + 1 + 1
 let z13 := Sy.offS av + Int.toNat z0 * 11 + 1 + 1 + 1 + 1 + 1 + 1 + 1 + 1 + 1 + 1
 let z14 := Nat.succ (Nat.succ (Nat.succ (Nat.succ (Nat.succ (Nat.succ (Nat.succ (Nat.succ z3)))))))
 let z15 := Sy.Cont.row 3 1 m cap (intsV xs)
 let z16 := 0 + Int.toNat (ns 11).i * 1
 let z17 := Ex.addQ z0 1
 let z18 := Ex.wrapQ .i64 z17
 let z19 := 0 + Int.toNat z18 * 1
 let z20 := fun (p : Nat × Sy.Cont) => Blk.mk (Prod.fst p) (Prod.snd p) true
 let z21 := lv0 [ns 14]
 let z22 := (List.append X (preI a)).append (tailG b a far)
 let z23 := some (Addr.mk p2 0 none)
 let z24 := some (Addr.mk p5 0 none)
 let z25 := some (Addr.mk g 0 none)
 let z26 := some (Addr.mk p10 0 none)
 let z27 := rfaultC 0 0 0
 need (∃ (p : Option Addr), ∃ (n : Nat), ∃ (c : Nat), av = Value.slice p n c) (br (Ex.ltQ z0 (Int.ofNat (Sy.lenS av))) (need z2 (need (∃ (i : Int), HasL TL z1 z3 (Value.int .i64 i)) (hyp (∀ (u : Value), HasL TL z1 z3 u → u = Value.int .i64 (ns 0).i) (need (∃ (i : Int), HasL TL z1 z4 (Value.int .i64 i)) (hyp (∀ (u : Value), HasL TL z1 z4 u → u = Value.int .i64 (ns 1).i) (need (∃ (i : Int), HasL TL z1 z5 (Value.int .i64 i)) (hyp (∀ (u : Value), HasL TL z1 z5 u → u = Value.int .i64 (ns 2).i) (need (∃ (i : Int), HasL TL z1 z6 (Value.int .i64 i)) (hyp (∀ (u : Value), HasL TL z1 z6 u → u = Value.int .i64 (ns 3).i) (need (∃ (v : Value), HasL TL z1 z7 v) (hyp (∀ (u : Value), HasL TL z1 z7 u → u = (ns 4).v) (need (∃ (v : Value), HasL TL z1 z8 v) (hyp (∀ (u : Value), HasL TL z1 z8 u → u = (ns 5).v) (need (∃ (v : Value), HasL TL z1 z9 v) (hyp (∀ (u : Value), HasL TL z1 z9 u → u = (ns 6).v) (need (∃ (i : Int), HasL TL z1 z10 (Value.int .i64 i)) (hyp (∀ (u : Value), HasL TL z1 z10 u → u = Value.int .i64 (ns 7).i) (need (∃ (i : Int), HasL TL z1 z11 (Value.int .i64 i)) (hyp (∀ (u : Value), HasL TL z1 z11 u → u = Value.int .i64 (ns 8).i) (need (∃ (i : Int), HasL TL z1 z12 (Value.int .i64 i)) (hyp (∀ (u : Value), HasL TL z1 z12 u → u = Value.int .i64 (ns 9).i) (need (∃ (i : Int), HasL TL z1 z13 (Value.int .i64 i)) (hyp (∀ (u : Value), HasL TL z1 z13 u → u = Value.int .i64 (ns 10).i) (need z2 (need (∃ (i : Int), HasL TL z1 z14 (Value.int .i64 i)) (hyp (∀ (u : Value), HasL TL z1 z14 u → u =
 Value.int .i64 (ns 11).i) (need (0 ≤ (ns 11).i ∧ (ns 11).i < (↑m : Int)) (need (∃ (i : Int), Sy.Cont.at z15 z16 = some (Value.int .i64 i)) (hyp (Sy.Cont.at z15 z16 = some (Value.int .i64 (ns 12).i)) (need (0 ≤ Ex.wrapQ .i64 z17 ∧ Ex.wrapQ .i64 z17 < (↑m : Int)) (need (∃ (i : Int), Sy.Cont.at z15 z19 = some (Value.int .i64 i)) (hyp (Sy.Cont.at z15 z19 = some (Value.int .i64 (ns 13).i)) (need (∃ (iv : Value), ∃ (ev : Value), ∃ (fv : Value), Array.mk [Value.agg (Array.mk [.slice (slP v) (Sy.lenS v) (slC v), .int .i64 0]), Value.agg (Array.mk [.int .i64 (ns 0).i, .int .i64 (ns 1).i, .int .i64 (ns 2).i, .int .i64 (ns 3).i, (ns 4).v, (ns 5).v, (ns 6).v, .int .i64 (ns 7).i, .int .i64 (ns 8).i, .int .i64 (ns 9).i, .int .i64 (ns 10).i]), Value.int .i64 (Ex.wrapQ .i64 (Ex.addQ (Ex.wrapQ .i64 (Ex.subQ' (ns 12).i (ns 13).i)) 1)), Value.bool b] = Array.mk [Value.agg (Array.mk [.slice (slP v) (Sy.lenS v) (slC v), .int .i64 0]), actV a iv ev fv, Value.int .i64 far, Value.bool b] ∧ OkAct B B B a iv ev fv ∧ q.2 v X ∧ List.length X + List.length (preI a) + (20 : Nat) ≤ 900000) (need (List.Perm TL ((List.map z20 (q.1 v X)).append R)) (need (Sy.GotL R B) (hyp (q.2 z21 z22) (leaf (Exit.normal, 104, [Value.bool b, Value.pointer z23, Value.pointer z24, Value.slice z25 m cap, Value.pointer z26, Value.int .i64 z18], Blk.mk p2 (thrC loc av) false :: Blk.mk p5 z27 true :: Blk.mk g (intB m cap xs) true :: Blk.mk p10 (.obj (.cells (Array.mk [.slice (slP z21) (Sy.lenS z21) (slC z21), .int .i64 (actE 0 a)])
 70)) true :: R.append (List.map z20 (q.1 z21 z22)))))))))))))))))))))))))))))))))))))))) (leaf (Exit.exit 2, 104, [Value.bool b, Value.pointer z23, Value.pointer z24, Value.slice z25 m cap, Value.pointer z26, Value.int .i64 z0], Blk.mk p2 (thrC loc av) false :: Blk.mk p5 z27 true :: Blk.mk g (intB m cap xs) true :: Blk.mk p10 (rlayC v 0) true :: TL)))
theorem r2_run (q : Rw) (R TL : List Blk) (B : List (Nat × Sy.Cont)) (p2 p5 p10 g cap m : Nat) (loc : Int) (av v : Value) (a : ActD) (far : Int) (b : Bool) (X : List I) (k : Nat) (xs : List Int) (f : Nat → Value) : Sy.Ran (Sy.pieceT Tryz.prog (ctxR2 q B a v far b X R) 50 fRThread bodyR2 104 (slR2 p2 p5 g cap p10 b m k) ((List.range 104).map f) (⟨p2, thrC loc av, false⟩ :: ⟨p5, rfaultC 0 0 0, true⟩ :: ⟨g, intB m cap xs, true⟩ :: ⟨p10, rlayC v 0, true⟩ :: TL) [1, 2, 5, 6, 10, 11]) r2_o (r2_R q R TL B p2 p5 p10 g cap m loc av v a far b X k xs f) := ⟨fun _ => by kernel_rfl, fun _ => by kernel_rfl⟩
end Go.Proofs.YtlpcnaeknbmjdaaGreat.Gn
namespace Go.Proofs.YtlpcnaeknbmjdaaGreat.Gn
open Go Go.RowKit
open Go.Proofs.YtlpcnaeknbmjdaaGreat.Sy (Let Blk HasL)
open Lw (I insCells tI)
theorem ctxR1_holds (B : List (Nat × Sy.Cont)) (a : ActD) (b : Bool) (R : List Blk) : (ctxR1 rowQ B a b R).holds Tryz.prog := Sy.mkU_holds Sy.S0_holds (fun p hp ar L => by
 rcases List.mem_singleton.1 hp with rfl
 exact rlaBy_met _ _ _ _ _ _ _ _) (fun _ h => (by cases h))
def rl1C (p2 p5 g cap : Nat) (loc : Int) (av : Value) (b : Bool) (acts : List ActD) (B : List (Nat × Sy.Cont)) : Sy.LoopC :=
 ⟨.loop bodyR1, 104, slR1 p2 p5 g cap b 0 0 0, OkL B av acts ∧ ∀ a ∈ acts, (preI a).length ≤ 800000, ⟨[(p2, thrC loc av)], [(p5, rfaultC 0 0 0), (g, intB 0 cap [])], 2, B⟩,
  [(⟨fun _ => faultF b 0 acts ≠ none, fun _ => [(p5, rfaultC (fltV b acts).1 (fltV b acts).2.1 (fltV b acts).2.2)], fun _ => []⟩, .ret, fun _ => [(4, .slice none 0 0), (5, .pointer (some ⟨p5, 0, none⟩))]),
   (⟨fun ns => faultF b 0 acts = none ∧ acts.length ≤ Sy.num ns 1, fun ns => [(p5, rfaultC 0 0 0), (Sy.num ns 0, intB acts.length (Sy.num ns 1) (begF b 0 acts))], fun _ => []⟩, .exit 0,
    fun ns => [(1, .bool b), (2, .pointer (some ⟨p2, 0, none⟩)), (4, .slice none 0 0), (5, .pointer (some ⟨p5, 0, none⟩)), (6, .slice (some ⟨Sy.num ns 0, 0, none⟩) acts.length (Sy.num ns 1)), (7, .int .i64 (Int.ofNat (layL b acts).length))])]⟩
structure StR where
 a : ActD
 g : Nat
 cap : Nat
 n : Nat
 bs : List Int
structure OkR (b : Bool) (B : List (Nat × Sy.Cont)) (av : Value) (acts : List ActD) (s : StR) : Prop where
 L : OkL B av acts
 pre : ∀ a ∈ acts, (preI a).length ≤ 800000
 k : s.bs.length ≤ acts.length
 bs : begF b 0 acts = s.bs ++ begF b s.n (acts.drop s.bs.length)
 flt : faultF b 0 acts = faultF b s.n (acts.drop s.bs.length)
 len : (layL b acts).length = s.n + (layL b (acts.drop s.bs.length)).length
 n : s.n ≤ 16383
 cap : s.bs.length ≤ s.cap
 a : ∀ a, acts[s.bs.length]? = some a → s.a = a
def memR (p2 p5 : Nat) (loc : Int) (av : Value) (B : List (Nat × Sy.Cont)) (s : StR) : List Blk :=
 ⟨p2, thrC loc av, false⟩ :: ⟨p5, rfaultC 0 0 0, true⟩ :: ⟨s.g, intB s.bs.length s.cap s.bs, true⟩ :: rdOf B
theorem lp_few (m st : Int) (A : List I) : (lpI m A st).length ≤ 5 + A.length := by
 unfold lpI nzI
 cases acqF m <;> simp <;> omega
theorem sg_few (op old : Int) (a : ActD) : (sgI op old a).length ≤ 5 := by
 unfold sgI nzI
 cases acqF a.mode <;> simp
theorem tailI_few (a : ActD) : (tailI a).length ≤ 20 := by
 have h1 := lp_few a.mode 24 []
 have h2 := lp_few a.mode 26 [sumI]
 simp only [List.length_nil, List.length_cons] at h1 h2
 unfold tailI
 repeat' split
 all_goals simp only [List.length_cons, List.length_nil, List.length_append]
 all_goals omega
theorem tail_few (b : Bool) (a : ActD) : (tailB b a).length ≤ 20 := by
 cases b
 ·exact tailI_few a
 ·show (tailL a).length ≤ 20
  have h0 := tailI_few a
  have h1 := sg_few 40 25 a
  have h2 := sg_few 44 25 a
  have h3 := sg_few 36 24 a
  unfold tailL
  repeat' split
  ·simp
  all_goals omega
theorem intsV_app (xs : List Int) (n : Int) : intsV xs ++ [.int .i64 n] = intsV (xs ++ [n]) := by simp [intsV]
theorem rl1C_met (p2 p5 g cap : Nat) (loc : Int) (av : Value) (b : Bool) (acts : List ActD) (B : List (Nat × Sy.Cont)) : Sy.MeetsL Tryz.prog (rl1C p2 p5 g cap loc av b acts B) := by
 refine Sy.loop_ofB (σ := StR) (S := fun s => ctxR1 rowQ B s.a b (rdOf B)) (n := 50) (fn := fRThread) (fun _ => ctxR1_holds _ _ _ _) mixed (body := bodyR1) rfl [1, 2, 4, 5, 6, 7, 8] (fun s => slR1 p2 p5 s.g s.cap b (Int.ofNat s.n) s.bs.length s.bs.length)
  (fun s => memR p2 p5 loc av B s) (fun s => OkR b B av acts s) (fun s => acts.length - s.bs.length)
  ⟨acts.headD ⟨0, 0, 0, 0, [], [], [], 0, 0, 0, 0⟩, g, cap, 0, []⟩ (fun h => ⟨h.1, h.2, Nat.zero_le _, rfl, rfl, by simp, by simp, Nat.zero_le _, fun a ha => by cases acts <;> simp_all⟩) (fun p hp => hp) (Sy.Ent.refl _) (o := fun _ => r1_o)
  (R := fun s f => r1_R rowQ (rdOf B) (rdOf B) B p2 p5 s.g s.cap s.bs.length loc av s.a b (Int.ofNat s.n) s.bs.length s.bs f) (fun s f _ => r1_run rowQ (rdOf B) (rdOf B) B p2 p5 s.g s.cap s.bs.length loc av s.a b (Int.ofNat s.n) s.bs.length s.bs f) ?_
 rintro - ⟨a, g, cap, n, bs⟩ f hs ns
 obtain ⟨hL, hpr, hk, hbs, hflt, hlen, hn, hcap, ha⟩ := hs
 simp only at hk hbs hflt hlen hn hcap ha
 have hR := hL.at_
 simp only [r1_R, Sy.Res.holds]
 refine ⟨hR.sl, fun hlt => ?_, fun hge => ?_⟩
 ·have hlt : bs.length < acts.length := by rw [Ex.ltQ_eq, hR.len] at hlt; simpa using hlt
  obtain ⟨a', hg⟩ : ∃ n, acts[bs.length]? = some n := ⟨_, List.getElem?_eq_getElem hlt⟩
  obtain rfl : a = a' := ha a' hg
  obtain ⟨iv, ev, fv, hA⟩ := hR.act bs.length a hg
  have hd := drop_cons hg
  rw [hd] at hbs hflt hlen
  simp only [begF, faultF, layL_cons] at hbs hflt hlen
  have hl20 := hL.len _ _ hg
  have hmax := hR.lt
  have hpre := hpr a (List.mem_of_getElem? hg)
  have hat : (∃ n c, av = .slice (some ⟨Sy.ptrS av, Sy.offS av, none⟩) n c) ∧ 0 ≤ Int.ofNat bs.length ∧ Int.ofNat bs.length < (Sy.lenS av : Int) := ⟨hR.at_ (fun h => by rw [h] at hlt; simp at hlt), by simp, by rw [hR.len]; simpa using hlt⟩
  refine ⟨by omega, by omega, fun hc => ⟨hat, ⟨_, hA.op⟩, fun e0 => ⟨⟨_, hA.dst⟩, fun e1 => ⟨⟨_, hA.base⟩, fun e2 => ⟨⟨_, hA.size⟩, fun e3 => ⟨⟨_, hA.ivc⟩, fun e4 => ⟨⟨_, hA.evc⟩, fun e5 => ⟨⟨_, hA.fvc⟩, fun e6 => ⟨⟨_, hA.mode⟩, fun e7 => ⟨⟨_, hA.to⟩, fun e8 => ⟨⟨_, hA.line⟩, fun e9 => ⟨⟨_, hA.col⟩, fun e10 => ?_⟩⟩⟩⟩⟩⟩⟩⟩⟩⟩⟩⟩
  have e0 := e0 _ hA.op
  have e1 := e1 _ hA.dst
  have e2 := e2 _ hA.base
  have e3 := e3 _ hA.size
  have e4 := e4 _ hA.ivc
  have e5 := e5 _ hA.evc
  have e6 := e6 _ hA.fvc
  have e7 := e7 _ hA.mode
  have e8 := e8 _ hA.to
  have e9 := e9 _ hA.line
  have e10 := e10 _ hA.col
  simp only [Value.int.injEq, true_and] at e0 e1 e2 e3 e7 e8 e9 e10
  rw [← e0, ← e1, ← e2, ← e3, ← e4, ← e5, ← e6, ← e7, ← e8, ← e9, ← e10]
  refine ⟨⟨iv, ev, fv, rfl, hL.ok _ _ hg iv ev fv hA.i hA.e hA.f, rowV_nil, by show 0 + (preI a).length + 20 ≤ 900000; omega⟩, List.Perm.refl _, got_b _, fun kV => ?_⟩
  have kV : RowV (lv0 [ns 14]) ([] ++ preI a ++ tailG b a 0) := kV
  have hins : ([] ++ preI a ++ tailG b a 0).length = (insA b a).length := by rw [tailG_zero]; simp [insA]
  have hlv : Sy.lenS (lv0 [ns 14]) = (insA b a).length := by rw [RowV.len kV, hins]
  have hsmall : (insA b a).length ≤ 800100 := by have := tail_few b a; simp only [insA, List.length_append]; omega
  have hadd : Ex.wrapQ .i64 (Ex.addQ (Int.ofNat n) (Int.ofNat (Sy.lenS (lv0 [ns 14])))) = Int.ofNat (n + (insA b a).length) := by
   rw [hlv, Ex.wrapQ_eq, Ex.addQ_eq]
   simp [IntKind.wrap, IntKind.signed, IntKind.bits]
   omega
  have hz : ∀ x : Int, Ex.eqQ x 0 = true ↔ x = 0 := fun x => by rw [Ex.eqQ_eq]; simp
  have hbig : Ex.ltQ 16383 (Int.ofNat (n + (insA b a).length)) = true ↔ 16383 < n + (insA b a).length := by rw [Ex.ltQ_eq]; simp; omega
  rw [hadd]
  have upL : HasL (List.append (rdOf B) (List.map (fun p : Nat × Sy.Cont => (⟨p.1, p.2, true⟩ : Blk)) (rowB (lv0 [ns 14]) ([] ++ preI a ++ tailG b a 0)))) (Sy.ptrS av) (Sy.offS av + bs.length * 11 + 1 + 1 + 1 + 1 + 1 + 1 + 1 + 1 + 1) (.int .i64 a.line) := by
   obtain ⟨p, hp, h⟩ := hA.line
   exact ⟨p, Sy.mL _ hp, h⟩
  have upC : HasL (List.append (rdOf B) (List.map (fun p : Nat × Sy.Cont => (⟨p.1, p.2, true⟩ : Blk)) (rowB (lv0 [ns 14]) ([] ++ preI a ++ tailG b a 0)))) (Sy.ptrS av) (Sy.offS av + bs.length * 11 + 1 + 1 + 1 + 1 + 1 + 1 + 1 + 1 + 1 + 1) (.int .i64 a.col) := by
   obtain ⟨p, hp, h⟩ := hA.col
   exact ⟨p, Sy.mL _ hp, h⟩
  have retl : ∀ (x y z w : Blk) (T : List Blk) (c : Int) (sl : List Value) (l o : Int), faultF b 0 acts = some (c, a.line, a.col) → a.line = l → a.col = o → (∃ q : List Nat, [(4, .slice none 0 0), (5, .pointer (some ⟨p5, 0, none⟩))] = q.filterMap fun i => (([1, 2, 4, 5, 6, 7, 8] : List Nat).zip sl)[i]?) →
    Sy.leafLB (rl1C p2 p5 g cap loc av b acts B) [1, 2, 4, 5, 6, 7, 8] (fun s => slR1 p2 p5 s.g s.cap b (Int.ofNat s.n) s.bs.length s.bs.length) (fun s => memR p2 p5 loc av B s) (fun s => OkR b B av acts s) (fun s => acts.length - s.bs.length) ⟨a, g, cap, n, bs⟩
     (.ret, 104, sl, x :: y :: z :: w :: ⟨p5, rfaultC c l o, true⟩ :: T) := fun x y z w T c sl l o hF hl ho hq => by
   subst hl ho
   have hf : fltV b acts = (c, a.line, a.col) := by rw [fltV, hF]; rfl
   refine ⟨rfl, .inr ⟨by simp, _, Sy.mH, rfl, [Let.none, Let.none], rfl, hq, ?_, by rw [hF]; simp⟩⟩
   show Sy.Ent _ [⟨p5, rfaultC (fltV b acts).1 (fltV b acts).2.1 (fltV b acts).2.2, true⟩]
   rw [hf]
   exact Sy.Ent.sub (.cons _ (.cons _ (.cons _ (.cons _ (.cons_cons _ (List.nil_sublist _))))))
  refine ⟨fun hB => ?_, fun hB => ⟨fun hE => ?_, fun hE => ?_⟩⟩
  ·have h0 : actE 0 a = 0 := by
    cases h : Ex.eqQ (actE 0 a) 0 <;> rw [h] at hB
    ·cases hB
    ·exact (hz _).1 h
   rw [h0] at hB
   have hB := hbig.1 (by rw [show Ex.eqQ 0 0 = true from rfl] at hB; exact hB)
   rw [if_neg (by simp [h0]), if_pos hB] at hflt
   exact ⟨hat, ⟨_, upL⟩, fun k1 => ⟨hat, ⟨_, upC⟩, fun k2 => retl _ _ _ _ _ _ _ _ _ hflt (by simpa using k1 _ upL) (by simpa using k2 _ upC) ⟨[2, 3], rfl⟩⟩⟩
  ·have h0 : actE 0 a ≠ 0 := fun h => by rw [(hz _).2 h] at hE; cases hE
   rw [if_pos h0] at hflt
   exact ⟨hat, ⟨_, upL⟩, fun k1 => ⟨hat, ⟨_, upC⟩, fun k2 => retl _ _ _ _ _ _ _ _ _ hflt (by simpa using k1 _ upL) (by simpa using k2 _ upC) ⟨[2, 3], rfl⟩⟩⟩
  ·have h0 : actE 0 a = 0 := by
    cases h : Ex.eqQ (actE 0 a) 0 <;> rw [h] at hE
    ·cases hE
    ·exact (hz _).1 h
   have hB : ¬ 16383 < n + (insA b a).length := fun h => by
    rw [h0, hbig.2 h] at hB
    cases hB
   rw [if_neg (by simp [h0]), if_neg hB] at hflt
   have hbl : (bs ++ [Int.ofNat n]).length = bs.length + 1 := by simp
   refine ⟨rfl, .inl ⟨rfl, ⟨acts.getD (bs.length + 1) a, (ns 1).n, (ns 2).n, n + (insA b a).length, bs ++ [Int.ofNat n]⟩, ?_, ?_, ?_, ?_⟩⟩
   ·refine ⟨hL, hpr, by rw [hbl]; exact hlt, ?_, ?_, ?_, by show n + (insA b a).length ≤ 16383; omega, by rw [hbl]; exact hc, fun x hx => ?_⟩
    ·rw [hbl, hbs]
     simp
    ·rw [hbl, hflt]
    ·show (layL b acts).length = n + (insA b a).length + (layL b (acts.drop (bs ++ [_]).length)).length
     rw [hbl]
     omega
    ·show acts.getD (bs.length + 1) a = x
     rw [List.getD_eq_getElem?_getD]
     simp only [hbl] at hx
     rw [hx]
     rfl
   ·show acts.length - (bs ++ [_]).length < acts.length - bs.length
    rw [hbl]
    omega
   ·show _ = slR1 p2 p5 (ns 1).n (ns 2).n b (Int.ofNat (n + (insA b a).length)) (bs ++ [_]).length (bs ++ [_]).length
    rw [hbl, w_succ (by omega)]
    rfl
   ·show Sy.Ent _ (memR p2 p5 loc av B _)
    unfold memR intB
    rw [hbl, ← intsV_app]
    exact Sy.Ent.trans (Sy.Ent.sub (.cons _ (.cons_cons _ (.cons _ (.cons_cons _ (.cons_cons _ (List.sublist_append_left _ _))))))) (Sy.Ent.perm ((List.Perm.swap _ _ _).trans (.cons _ (List.Perm.swap _ _ _))))
 ·have hge : bs.length = acts.length := by rw [Ex.ltQ_eq, hR.len] at hge; simp at hge; omega
  have hd : acts.drop bs.length = [] := by rw [hge, List.drop_length]
  rw [hd] at hbs hflt hlen
  simp only [begF, faultF, List.append_nil] at hbs hflt
  have hlen : (layL b acts).length = n := by simpa [layL] using hlen
  refine ⟨rfl, .inr ⟨by simp, _, Sy.mC _ (Sy.mS _), rfl, [⟨g, 0, false, undef, []⟩, ⟨cap, 0, false, undef, []⟩], rfl, ⟨[0, 1, 2, 3, 4, 5], ?_⟩, ?_, hflt, ?_⟩⟩
  ·show [_, _, _, _, (6, Value.slice (some ⟨g, 0, none⟩) acts.length cap), (7, .int .i64 (Int.ofNat (layL b acts).length))] = _
   rw [hlen, ← hge]
   rfl
  ·show Sy.Ent _ [⟨p5, rfaultC 0 0 0, true⟩, ⟨g, intB acts.length cap (begF b 0 acts), true⟩]
   rw [hbs, ← hge]
   exact Sy.Ent.sub (.cons _ (.cons_cons _ (.cons_cons _ (List.nil_sublist _))))
  ·show acts.length ≤ cap
   omega
def farI (bs : List Int) (a : ActD) (k : Nat) : Int := bs.getD a.to.toNat 0 - bs.getD (k + 1) 0 + 1
def layR (b : Bool) (bs : List Int) : Nat → List ActD → List I
 | _, [] => []
 | k, a :: r => preI a ++ tailG b a (farI bs a k) ++ layR b bs (k + 1) r
theorem tailF_len (a : ActD) (far : Int) : (tailF a far).length = (tailI a).length := by
 rw [← tailF_zero]
 unfold tailF
 split
 ·rfl
 split <;> rfl
theorem tailG_len (b : Bool) (a : ActD) (far : Int) : (tailG b a far).length = (tailB b a).length := by
 cases b
 ·exact tailF_len a far
 ·rw [← tailG_zero]
  show (tailLF a far).length = (tailLF a 0).length
  unfold tailLF
  split
  ·rfl
  split
  ·rfl
  split
  ·rfl
  split
  ·rfl
  ·rw [tailF_len, tailF_len]
theorem layR_len (b : Bool) (bs : List Int) : ∀ (k : Nat) (acts : List ActD), (layR b bs k acts).length = (layL b acts).length
 | _, [] => rfl
 | k, a :: r => by
   have := layR_len b bs (k + 1) r
   simp only [layR, layL, insA, List.length_append, tailG_len, this]
theorem begF_len2 (b : Bool) (acts : List ActD) : (begAll b acts).length = acts.length + 1 := by simp [begAll, begF_len]
theorem begAll_bd {b : Bool} {acts : List ActD} {i : Nat} (hi : i < acts.length + 1) : 0 ≤ (begAll b acts).getD i 0 ∧ (begAll b acts).getD i 0 ≤ ((layL b acts).length : Int) := by
 rw [List.getD_eq_getElem?_getD]
 have hl := begF_len b 0 acts
 unfold begAll
 rcases Nat.lt_or_ge i acts.length with h | h
 ·rw [List.getElem?_append_left (by omega)]
  obtain ⟨x, hx⟩ : ∃ x, (begF b 0 acts)[i]? = some x := ⟨_, List.getElem?_eq_getElem (by omega)⟩
  have := begF_bd b 0 acts i x hx
  rw [hx]
  show 0 ≤ x ∧ x ≤ _
  omega
 ·rw [List.getElem?_append_right (by omega), hl, show i - acts.length = 0 by omega]
  show 0 ≤ Int.ofNat _ ∧ Int.ofNat _ ≤ _
  exact ⟨Int.natCast_nonneg _, Int.le_refl _⟩
theorem act_ok {b : Bool} : ∀ {acts : List ActD} {n : Nat}, faultF b n acts = none → ∀ a ∈ acts, actE 0 a = 0
 | [], _, _, a, h => by cases h
 | x :: r, n, hf, a, h => by
   unfold faultF at hf
   split at hf
   ·cases hf
   rename_i h0
   split at hf
   ·cases hf
   rcases List.mem_cons.1 h with rfl | h
   ·exact Classical.byContradiction fun h => h0 h
   ·exact act_ok hf a h
theorem layL_few {b : Bool} : ∀ {acts : List ActD} {n : Nat}, n ≤ 16383 → faultF b n acts = none → n + (layL b acts).length ≤ 16383
 | [], n, hn, _ => by simpa [layL] using hn
 | a :: r, n, hn, h => by
   unfold faultF at h
   split at h
   ·cases h
   split at h
   ·cases h
   ·rename_i h2
    have := layL_few (b := b) (acts := r) (by omega) h
    rw [layL_cons]
    omega
theorem ctxR2_holds (B : List (Nat × Sy.Cont)) (a : ActD) (v : Value) (far : Int) (b : Bool) (X : List I) (R : List Blk) : (ctxR2 rowQ B a v far b X R).holds Tryz.prog := Sy.mkU_holds Sy.S0_holds (fun p hp ar L => by
 rcases List.mem_singleton.1 hp with rfl
 exact rlaBy_met _ _ _ _ _ _ _ _) (fun _ h => (by cases h))
structure OkR2 (b : Bool) (B : List (Nat × Sy.Cont)) (av : Value) (acts : List ActD) : Prop where
 L : OkL B av acts
 pre : ∀ a ∈ acts, (preI a).length ≤ 800000
 to : ∀ a ∈ acts, 0 ≤ a.to ∧ a.to ≤ acts.length
 flt : faultF b 0 acts = none
def rl2C (p2 p5 g cap p10 : Nat) (loc : Int) (av : Value) (b : Bool) (acts : List ActD) (B : List (Nat × Sy.Cont)) : Sy.LoopC :=
 ⟨.loop bodyR2, 104, slR2 p2 p5 g cap p10 b (acts.length + 1) 0, OkR2 b B av acts, ⟨[(p2, thrC loc av)], [(p5, rfaultC 0 0 0), (g, .row 3 1 (acts.length + 1) cap (intsV (begF b 0 acts) ++ [.int .i64 (Int.ofNat (layL b acts).length)])), (p10, rlayC (.slice none 0 0) 0)], 2, B⟩,
  [(⟨fun _ => layR b (begAll b acts) 0 acts = [], fun _ => [(p5, rfaultC 0 0 0), (p10, rlayC (.slice none 0 0) 0)], fun _ => []⟩, .exit 2, fun _ => [(5, .pointer (some ⟨p5, 0, none⟩)), (10, .pointer (some ⟨p10, 0, none⟩))]),
   (⟨fun ns => layR b (begAll b acts) 0 acts ≠ [] ∧ (layL b acts).length ≤ Sy.num ns 1, fun ns => [(p5, rfaultC 0 0 0), (p10, .obj (.cells #[.slice (some ⟨Sy.num ns 0, 0, none⟩) (layL b acts).length (Sy.num ns 1), .int .i64 0] 70 (0, 0))), (Sy.num ns 0, .row tI 6 (layL b acts).length (Sy.num ns 1) (insCells (layR b (begAll b acts) 0 acts)))], fun _ => []⟩, .exit 2,
    fun ns => [(5, .pointer (some ⟨p5, 0, none⟩)), (10, .pointer (some ⟨p10, 0, none⟩))])]⟩
structure StR2 where
 a : ActD
 v : Value
 X : List I
 k : Nat
structure OkS2 (b : Bool) (B : List (Nat × Sy.Cont)) (av : Value) (acts : List ActD) (s : StR2) : Prop where
 O : OkR2 b B av acts
 k : s.k ≤ acts.length
 X : layR b (begAll b acts) 0 acts = s.X ++ layR b (begAll b acts) s.k (acts.drop s.k)
 V : RowV s.v s.X
 a : ∀ a, acts[s.k]? = some a → s.a = a
def memR2 (p2 p5 g cap p10 : Nat) (loc : Int) (av : Value) (b : Bool) (acts : List ActD) (B : List (Nat × Sy.Cont)) (s : StR2) : List Blk :=
 ⟨p2, thrC loc av, false⟩ :: ⟨p5, rfaultC 0 0 0, true⟩ :: ⟨g, intB (acts.length + 1) cap (begAll b acts), true⟩ :: ⟨p10, rlayC s.v 0, true⟩ :: (rdOf B ++ (rowB s.v s.X).map Sy.ownOf)
theorem rl2C_met (p2 p5 g cap p10 : Nat) (loc : Int) (av : Value) (b : Bool) (acts : List ActD) (B : List (Nat × Sy.Cont)) : Sy.MeetsL Tryz.prog (rl2C p2 p5 g cap p10 loc av b acts B) := by
 refine Sy.loop_ofB (σ := StR2) (S := fun s => ctxR2 rowQ B s.a s.v (farI (begAll b acts) s.a s.k) b s.X (rdOf B)) (n := 50) (fn := fRThread) (fun _ => ctxR2_holds _ _ _ _ _ _ _) mixed (body := bodyR2) rfl [1, 2, 5, 6, 10, 11] (fun s => slR2 p2 p5 g cap p10 b (acts.length + 1) s.k)
  (fun s => memR2 p2 p5 g cap p10 loc av b acts B s) (fun s => OkS2 b B av acts s) (fun s => acts.length - s.k)
  ⟨acts.headD ⟨0, 0, 0, 0, [], [], [], 0, 0, 0, 0⟩, .slice none 0 0, [], 0⟩ (fun h => ⟨h, Nat.zero_le _, rfl, rowV_nil, fun a ha => by cases acts <;> simp_all⟩) (fun p hp => hp) (by
   show Sy.Ent (_ :: _ :: ⟨g, .row 3 1 (acts.length + 1) cap (intsV (begF b 0 acts) ++ [.int .i64 (Int.ofNat (layL b acts).length)]), true⟩ :: _) (_ :: _ :: _ :: _ :: (rdOf B ++ []))
   rw [List.append_nil, intsV_app]
   exact Sy.Ent.refl _) (o := fun _ => r2_o)
  (R := fun s f => r2_R rowQ (rdOf B) (rdOf B ++ (rowB s.v s.X).map Sy.ownOf) B p2 p5 p10 g cap (acts.length + 1) loc av s.v s.a (farI (begAll b acts) s.a s.k) b s.X s.k (begAll b acts) f)
  (fun s f _ => r2_run rowQ (rdOf B) (rdOf B ++ (rowB s.v s.X).map Sy.ownOf) B p2 p5 p10 g cap (acts.length + 1) loc av s.v s.a (farI (begAll b acts) s.a s.k) b s.X s.k (begAll b acts) f) ?_
 rintro - ⟨a, v, X, k⟩ f hs ns
 obtain ⟨hO, hk, hX, hV, ha⟩ := hs
 simp only at hk hX hV ha
 have hL := hO.L
 have hR := hL.at_
 have hfew := layL_few (b := b) (n := 0) (by omega) hO.flt
 have hlen := layR_len b (begAll b acts) 0 acts
 have hmax := hR.lt
 simp only [r2_R, Sy.Res.holds]
 refine ⟨hR.sl, fun hlt => ?_, fun hge => ?_⟩
 ·have hlt : k < acts.length := by rw [Ex.ltQ_eq, hR.len] at hlt; simpa using hlt
  obtain ⟨a', hg⟩ : ∃ n, acts[k]? = some n := ⟨_, List.getElem?_eq_getElem hlt⟩
  obtain rfl : a = a' := ha a' hg
  have hm := List.mem_of_getElem? hg
  obtain ⟨iv, ev, fv, hA⟩ := hR.act k a hg
  rw [drop_cons hg] at hX
  simp only [layR] at hX
  have hpre := hO.pre a hm
  obtain ⟨t0, t1⟩ := hO.to a hm
  have hXl : X.length ≤ 16383 := by
   have := congrArg List.length hX
   rw [hlen] at this
   simp only [List.length_append] at this
   omega
  have hat : (∃ n c, av = .slice (some ⟨Sy.ptrS av, Sy.offS av, none⟩) n c) ∧ 0 ≤ Int.ofNat k ∧ Int.ofNat k < (Sy.lenS av : Int) := ⟨hR.at_ (fun h => by rw [h] at hlt; simp at hlt), by simp, by rw [hR.len]; simpa using hlt⟩
  have up : ∀ {x : Nat} {u : Value}, HasL (rdOf B) (Sy.ptrS av) x u → HasL (rdOf B ++ (rowB v X).map Sy.ownOf) (Sy.ptrS av) x u := fun ⟨p, hp, h⟩ => ⟨p, Sy.mL _ hp, h⟩
  refine ⟨hat, ⟨_, up hA.op⟩, fun e0 => ⟨⟨_, up hA.dst⟩, fun e1 => ⟨⟨_, up hA.base⟩, fun e2 => ⟨⟨_, up hA.size⟩, fun e3 => ⟨⟨_, up hA.ivc⟩, fun e4 => ⟨⟨_, up hA.evc⟩, fun e5 => ⟨⟨_, up hA.fvc⟩, fun e6 => ⟨⟨_, up hA.mode⟩, fun e7 => ⟨⟨_, up hA.to⟩, fun e8 => ⟨⟨_, up hA.line⟩, fun e9 => ⟨⟨_, up hA.col⟩, fun e10 => ⟨hat, ⟨_, up hA.to⟩, fun e11 => ?_⟩⟩⟩⟩⟩⟩⟩⟩⟩⟩⟩⟩
  have e0 := e0 _ (up hA.op)
  have e1 := e1 _ (up hA.dst)
  have e2 := e2 _ (up hA.base)
  have e3 := e3 _ (up hA.size)
  have e4 := e4 _ (up hA.ivc)
  have e5 := e5 _ (up hA.evc)
  have e6 := e6 _ (up hA.fvc)
  have e7 := e7 _ (up hA.mode)
  have e8 := e8 _ (up hA.to)
  have e9 := e9 _ (up hA.line)
  have e10 := e10 _ (up hA.col)
  have e11 := e11 _ (up hA.to)
  simp only [Value.int.injEq, true_and] at e0 e1 e2 e3 e7 e8 e9 e10 e11
  rw [← e0, ← e1, ← e2, ← e3, ← e4, ← e5, ← e6, ← e7, ← e8, ← e9, ← e10, ← e11]
  have hbl := begF_len2 b acts
  have hk1 : Ex.wrapQ .i64 (Ex.addQ (Int.ofNat k) 1) = Int.ofNat (k + 1) := w_succ (by omega)
  rw [hk1]
  have r1 := row_ints (t := 3) (n := acts.length + 1) (cap := cap) (u := begAll b acts) (i := a.to.toNat) (by omega)
  have r2 := row_ints (t := 3) (n := acts.length + 1) (cap := cap) (u := begAll b acts) (i := (Int.ofNat (k + 1)).toNat) (by simp; omega)
  refine ⟨⟨t0, by show a.to < ((acts.length + 1 : Nat) : Int); omega⟩, ⟨_, r1⟩, fun f1 => ⟨⟨Int.natCast_nonneg (k + 1), by show ((k + 1 : Nat) : Int) < ((acts.length + 1 : Nat) : Int); omega⟩, ⟨_, r2⟩, fun f2 => ?_⟩⟩
  have f1 := r1.symm.trans f1
  have f2 := r2.symm.trans f2
  simp only [Option.some.injEq, Value.int.injEq, true_and] at f1 f2
  rw [← f1, ← f2]
  have b1 := begAll_bd (b := b) (acts := acts) (i := a.to.toNat) (by omega)
  have b2 := begAll_bd (b := b) (acts := acts) (i := k + 1) (by omega)
  have hfar : Ex.wrapQ .i64 (Ex.addQ (Ex.wrapQ .i64 (Ex.subQ' ((begAll b acts).getD a.to.toNat 0) ((begAll b acts).getD (Int.ofNat (k + 1)).toNat 0))) 1) = farI (begAll b acts) a k := by
   show Ex.wrapQ .i64 (Ex.addQ (Ex.wrapQ .i64 (Ex.subQ' ((begAll b acts).getD a.to.toNat 0) ((begAll b acts).getD (k + 1) 0))) 1) = _
   unfold farI
   generalize (begAll b acts).getD a.to.toNat 0 = x at *
   generalize (begAll b acts).getD (k + 1) 0 = y at *
   rw [Ex.wrapQ_eq, Ex.addQ_eq, Ex.wrapQ_eq, Ex.subQ_eq]
   simp [IntKind.wrap, IntKind.signed, IntKind.bits]
   omega
  rw [hfar]
  refine ⟨⟨iv, ev, fv, rfl, hL.ok _ _ hg iv ev fv hA.i hA.e hA.f, hV, by omega⟩, List.perm_append_comm, got_b _, fun kV => ?_⟩
  have hE := act_ok hO.flt a hm
  refine ⟨rfl, .inl ⟨rfl, ⟨acts.getD (k + 1) a, lv0 [ns 14], X ++ preI a ++ tailG b a (farI (begAll b acts) a k), k + 1⟩, ⟨hO, hlt, ?_, kV, fun x hx => ?_⟩, ?_, rfl, ?_⟩⟩
  ·rw [hX]
   simp
  ·show acts.getD (k + 1) a = x
   simp only at hx
   rw [List.getD_eq_getElem?_getD, hx]
   rfl
  ·show acts.length - (k + 1) < acts.length - k
   omega
  ·rw [hE]
   exact Sy.Ent.refl _
 ·have hge : k = acts.length := by rw [Ex.ltQ_eq, hR.len] at hge; simp at hge; omega
  have hd : acts.drop k = [] := by rw [hge, List.drop_length]
  rw [hd] at hX
  simp only [layR, List.append_nil] at hX
  have hXl : X.length = (layL b acts).length := by rw [← hX, hlen]
  rcases hV.lit with ⟨hn, h1, h2⟩ | ⟨g', cap', h1, h2, hc, hne⟩
  ·refine ⟨rfl, .inr ⟨by simp, _, Sy.mH, rfl, [Let.none, Let.none], rfl, ⟨[2, 4], rfl⟩, ?_, by rw [hX]; exact hn⟩⟩
   have h1 : rlayC v 0 = rlayC (.slice none 0 0) 0 := by unfold rlayC; rw [h1]; rfl
   rw [h1]
   exact Sy.Ent.sub (.cons _ (.cons_cons _ (.cons _ (.cons_cons _ (List.nil_sublist _)))))
  ·refine ⟨rfl, .inr ⟨by simp, _, Sy.mC _ (Sy.mS _), rfl, [⟨g', 0, false, undef, []⟩, ⟨cap', 0, false, undef, []⟩], rfl, ⟨[2, 4], rfl⟩, ?_, by rw [hX]; exact hne, by rw [← hXl]; exact hc⟩⟩
   show Sy.Ent _ [⟨p5, rfaultC 0 0 0, true⟩, ⟨p10, .obj (.cells #[.slice (some ⟨g', 0, none⟩) (layL b acts).length cap', .int .i64 0] 70 (0, 0)), true⟩, ⟨g', .row tI 6 (layL b acts).length cap' (insCells (layR b (begAll b acts) 0 acts)), true⟩]
   have h1 : rlayC v 0 = .obj (.cells #[.slice (some ⟨g', 0, none⟩) X.length cap', .int .i64 0] 70 (0, 0)) := by unfold rlayC; rw [h1]
   rw [h1, h2, hX, ← hXl]
   exact Sy.Ent.sub (.cons _ (.cons_cons _ (.cons _ (.cons_cons _ (List.sublist_append_right _ _)))))
end Go.Proofs.YtlpcnaeknbmjdaaGreat.Gn
--@way 3
namespace Go.Proofs.YtlpcnaeknbmjdaaGreat.Gn
open Sy.O (bz fork nil pack step steps)
open Sy.Res (need hyp br leaf both)
open Go Go.RowKit
open Go.Proofs.YtlpcnaeknbmjdaaGreat.Sy (Let Blk HasL)
open Lw (I insCells tI)
def ctxRt (B : List (Nat × Sy.Cont)) (loc : Int) (av : Value) (b : Bool) (acts : List ActD) : Sy.Ctx :=
 Sy.mkS [] [(fRThread, fun a _ => rl1C (Sy.ptrN (a.get 2)) (Sy.ptrN (a.get 5)) (Sy.ptrN (a.get 6)) (Sy.capN (a.get 6)) loc av b acts B), (fRThread, fun a _ => rl2C (Sy.ptrN (a.get 2)) (Sy.ptrN (a.get 5)) (Sy.ptrN (a.get 6)) (Sy.capN (a.get 6)) (Sy.ptrN (a.get 10)) loc av b acts B)] []
def rt_o : Sy.O := (bz 18 0x2ad53 (fork (bz 6 0x3d nil) (bz 52 0x95aa285756b3d (fork (bz 30 0x339bbfed nil) (bz 41 0x19cdd2d63ed nil)))))
noncomputable def rt_R (B : List (Nat × Sy.Cont)) (loc : Int) (av : Value) (b : Bool) (acts : List ActD) (ns : Nat → Sy.Let) : Sy.Res (Value × List Blk) :=
 let z0 := Prod.snd (fltV b acts)
 let z1 := Array.mk [Value.int .i64 (Prod.fst (fltV b acts)), Value.int .i64 (Prod.fst z0), Value.int .i64 (Prod.snd z0)]
 let z2 := Sy.Cont.obj (Obj.cells (Array.mk [.int .i64 loc, av]) 40)
 let z3 := List.length acts + 1
 let z4 := layL b acts
 let z5 := List.length z4
 let z6 := (begF b 0 acts).append [Int.ofNat z5]
 let z7 := ns 15
 let z8 := some (Addr.mk (ns 14).n 0 none)
 let z9 := Array.mk [Value.int .i64 0, Value.int .i64 0, Value.int .i64 0]
 let z10 := [Value.int .i64 34, Value.int .i64 0, Value.int .i64 0, Value.int .i64 0, Value.int .i64 0, Value.int .i64 0]
 let z11 := Sy.Cont.obj (Obj.cells (Array.mk z10) 49)
 let z12 := Sy.Cont.obj (Obj.cells z9 35)
 let z13 := Sy.Cont.obj (Obj.cells (Array.mk [.int .i64 (Int.ofNat z5)]) 3)
 let z14 := List.length z4 + 1
 need (OkL B av acts ∧ ∀ (a : ActD), a ∈ acts → List.length (preI a) ≤ 800000) (need (Sy.GotL (rdOf B) B) (both (hyp (faultF b 0 acts = none → False) (leaf (Value.tuple (Array.mk [.slice none 0 0, Value.agg z1]), Blk.mk (ns 1).n (.obj (.cells z1 35)) true :: Blk.mk (ns 0).n z2 true :: rdOf B))) (hyp (faultF b 0 acts = none ∧ List.length acts ≤ (ns 4).n) (need (List.length acts + (1 : Nat) ≤ 9223372036854775807) (need (z3 * (8 : Nat) ≤ 140737488355328) (hyp (Nat.le z3 (ns 8).n) (need (OkR2 b B av acts) (need (Sy.GotL (List.append [] (rdOf B)) B) (both (hyp (layR b z6 0 acts = []) (hyp (Nat.le 1 z7.n) (leaf (Value.tuple (Array.mk [.slice z8 1 z7.n, Value.agg z9]), Blk.mk (ns 14).n (Sy.Cont.row 49 6 1 z7.n z10) true :: Blk.mk (ns 13).n z11 true :: Blk.mk (ns 1).n z12 true :: Blk.mk (ns 9).n (.obj (.cells (Array.mk [.slice none 0 0, .int .i64 0]) 70)) true :: Blk.mk (ns 0).n z2 true :: Blk.mk (ns 6).n z13 true :: List.append [] (rdOf B))))) (hyp (layR b z6 0 acts ≠ [] ∧ List.length z4 ≤ (ns 11).n) (need (List.length z4 + (1 : Nat) ≤ 9223372036854775807) (need (z14 * (48 : Nat) ≤ 140737488355328) (hyp (Nat.le z14 z7.n) (leaf (Value.tuple (Array.mk [.slice z8 z14 z7.n, Value.agg z9]), Blk.mk (ns 14).n (Sy.Cont.row 49 6 z14 z7.n ((insCells (layR b z6 0 acts)).append z10)) true :: Blk.mk (ns 13).n z11 true :: Blk.mk (ns 1).n z12 true :: Blk.mk (ns 9).n (.obj (.cells (Array.mk [.slice (some ⟨(ns 10).n, 0, none⟩) z5 (ns 11).n, .int .i64 0]) 70)) true :: Blk.mk (ns 0).n z2 true :: Blk.mk
 (ns 6).n z13 true :: List.append [] (rdOf B))))))))))))))))
theorem rt_run (B : List (Nat × Sy.Cont)) (loc : Int) (av : Value) (b : Bool) (acts : List ActD) : Sy.Ran (Sy.inB Tryz.prog (ctxRt B loc av b acts) 50 fRThread #[thrV loc av, .bool b] (rdOf B)) rt_o (rt_R B loc av b acts) := ⟨fun _ => by kernel_rfl, fun _ => by kernel_rfl⟩
end Go.Proofs.YtlpcnaeknbmjdaaGreat.Gn
namespace Go.Proofs.YtlpcnaeknbmjdaaGreat.Gn
open Go Go.RowKit
open Go.Proofs.YtlpcnaeknbmjdaaGreat.Sy (Let Blk HasL)
open Lw (I insCells tI)
def refI (b : Bool) (acts : List ActD) : List I := layR b (begAll b acts) 0 acts ++ [hltI]
structure OkRT (B : List (Nat × Sy.Cont)) (av : Value) (acts : List ActD) : Prop where
 L : OkL B av acts
 pre : ∀ a ∈ acts, (preI a).length ≤ 800000
 to : ∀ a ∈ acts, 0 ≤ a.to ∧ a.to ≤ acts.length
def rthC (q : Rw) (B : List (Nat × Sy.Cont)) (loc : Int) (av : Value) (b : Bool) (acts : List ActD) : Sy.CallC :=
 ⟨fRThread, #[thrV loc av, .bool b], OkRT B av acts, ⟨[], [], 1, B⟩,
  [(⟨fun _ => faultF b 0 acts ≠ none, fun _ => [], fun _ => []⟩, fun _ => .tuple #[.slice none 0 0, faultVal (fltV b acts).1 (fltV b acts).2.1 (fltV b acts).2.2]),
   (⟨fun ns => faultF b 0 acts = none ∧ q.V (lv0 ns) (refI b acts), fun _ => [], fun ns => q.B (lv0 ns) (refI b acts)⟩, fun ns => .tuple #[slV (lv0 ns), faultVal 0 0 0])]⟩
theorem rthC_met (B : List (Nat × Sy.Cont)) (loc : Int) (av : Value) (b : Bool) (acts : List ActD) : Sy.Meets Tryz.prog (rthC rowQ B loc av b acts) := by
 have hS : (ctxRt B loc av b acts).holds Tryz.prog := Sy.mkS_holds (fun _ h => (by cases h)) (fun p hp a L => by
  rcases List.mem_cons.1 hp with rfl | hp
  ·exact rl1C_met _ _ _ _ _ _ _ _ _
  rcases List.mem_singleton.1 hp with rfl
  exact rl2C_met _ _ _ _ _ _ _ _ _ _) (fun _ h => (by cases h))
 refine Sy.meets_ofB hS mixed (L := rdOf B) (Sy.Ent.refl _) (rt_run B loc av b acts) fun hok ns => ?_
 obtain ⟨hL, hpre, hto⟩ := id hok
 have hmax := hL.at_.lt
 have hlen := layR_len b (begAll b acts) 0 acts
 simp only [rt_R, Sy.Res.holds]
 refine ⟨⟨hL, hpre⟩, got_b _, fun hF => ⟨_, Sy.mH, [Let.none], rfl, rfl, Sy.Ent.sub (List.nil_sublist _), hF⟩, fun hF => ⟨by omega, by omega, fun hc => ⟨⟨hL, hpre, hto, hF.1⟩, got_b _, fun h0 => ?_, fun h0 => ?_⟩⟩⟩
 ·intro hc
  have h0 : layR b (begAll b acts) 0 acts = [] := h0
  have hZ : refI b acts = [hltI] := by rw [refI, h0]; rfl
  refine ⟨_, Sy.mC _ (Sy.mS _), [letV (.slice (some ⟨(ns 14).n, 0, none⟩) 1 (ns 15).n)], rfl, rfl, ?_, hF.1, ?_⟩
  ·show Sy.Ent _ ((rowB (.slice (some ⟨(ns 14).n, 0, none⟩) 1 (ns 15).n) (refI b acts)).map Sy.ownOf)
   rw [hZ]
   exact Sy.Ent.sub (.cons_cons _ (List.nil_sublist _))
  ·show RowV (.slice (some ⟨(ns 14).n, 0, none⟩) 1 (ns 15).n) (refI b acts)
   rw [hZ]
   exact rowV_some (X := [hltI]) hc (by simp)
 ·have hfew := layL_few (b := b) (n := 0) (by omega) hF.1
  refine ⟨by omega, by omega, fun hc => ?_⟩
  have hl : (refI b acts).length = (layL b acts).length + 1 := by
   unfold refI
   simp only [List.length_append, hlen, List.length_cons, List.length_nil]
  refine ⟨_, Sy.mC _ (Sy.mS _), [letV (.slice (some ⟨(ns 14).n, 0, none⟩) ((layL b acts).length + 1) (ns 15).n)], rfl, rfl, ?_, hF.1, ?_⟩
  ·show Sy.Ent _ ((rowB (.slice (some ⟨(ns 14).n, 0, none⟩) ((layL b acts).length + 1) (ns 15).n) (refI b acts)).map Sy.ownOf)
   have : rowB (.slice (some ⟨(ns 14).n, 0, none⟩) ((layL b acts).length + 1) (ns 15).n) (refI b acts) = [((ns 14).n, .row tI 6 ((layL b acts).length + 1) (ns 15).n (insCells (layR b (begAll b acts) 0 acts) ++ [.int .i64 34, .int .i64 0, .int .i64 0, .int .i64 0, .int .i64 0, .int .i64 0]))] := by
    show [((ns 14).n, Sy.Cont.row tI 6 (refI b acts).length (ns 15).n (insCells (refI b acts)))] = _
    rw [hl, refI, ins_app]
    rfl
   rw [this]
   exact Sy.Ent.sub (.cons_cons _ (List.nil_sublist _))
  ·show RowV (.slice (some ⟨(ns 14).n, 0, none⟩) ((layL b acts).length + 1) (ns 15).n) (refI b acts)
   rw [← hl] at hc ⊢
   exact rowV_some hc (by simp [refI])
open Lw (I)
theorem setImm_app (A C : List I) (i : I) (v : Int) : setImm (A ++ i :: C) A.length v = A ++ { i with imm := v } :: C := by
 induction A with
 | nil => rfl
 | cons x A ih =>
   show x :: setImm (A ++ i :: C) A.length v = _
   rw [ih]
   rfl
theorem fillP_app (bs : List Int) (X : List I) (p q : List (Int × Int)) : fillP bs X (p ++ q) = fillP bs (fillP bs X p) q := by
 unfold fillP
 rw [List.foldl_append]
theorem tailG_calm {b : Bool} {a : ActD} (h9 : a.op ≠ 9) (h10 : a.op ≠ 10) (far : Int) : tailG b a far = tailB b a := by
 have h : tailF a far = tailI a := by unfold tailF; rw [if_neg h9, if_neg h10]
 cases b
 ·exact h
 ·show tailLF a far = tailL a
  unfold tailLF tailL
  rw [h]
theorem tail_br {b : Bool} {a : ActD} (h : a.op = 9 ∨ a.op = 10) : ∃ i : I, tailB b a = [i] ∧ ∀ far, tailG b a far = [{ i with imm := far }] := by
 rcases h with h | h
 ·refine ⟨⟨18, 0, 0, 0, 0, 0⟩, ?_, fun far => ?_⟩
  ·cases b <;> simp [tailB, tailL, tailI, h]
  ·cases b <;> simp [tailG, tailLF, tailF, h]
 ·refine ⟨⟨20, 24, 0, 0, 0, 0⟩, ?_, fun far => ?_⟩
  ·cases b <;> simp [tailB, tailL, tailI, h]
  ·cases b <;> simp [tailG, tailLF, tailF, h]
theorem beg_head (b : Bool) (n : Nat) (r : List ActD) (t : List Int) : (begF b n r ++ [Int.ofNat (n + (layL b r).length)] ++ t).getD 0 0 = Int.ofNat n := by
 cases r with
 | nil => simp [begF, layL]
 | cons a r => rfl
theorem fill_lay (b : Bool) (bs : List Int) : ∀ (acts : List ActD) (n k : Nat) (A C : List I), A.length = n → bs.drop k = begF b n acts ++ [Int.ofNat (n + (layL b acts).length)] →
  fillP bs (A ++ (layL b acts ++ C)) (posF b n acts) = A ++ (layR b bs k acts ++ C)
 | [], n, k, A, C, _, _ => rfl
 | a :: r, n, k, A, C, hA, hb => by
   have hl := layL_cons b a r
   have hb' : bs.drop (k + 1) = begF b (n + (insA b a).length) r ++ [Int.ofNat (n + (insA b a).length + (layL b r).length)] := by
    have h1 : bs.drop (k + 1) = (bs.drop k).drop 1 := by rw [List.drop_drop]
    rw [h1, hb]
    simp only [begF, List.cons_append, List.drop_succ_cons, List.drop_zero, hl]
    rw [Nat.add_assoc]
   have hk : bs.getD (k + 1) 0 = Int.ofNat (n + (insA b a).length) := by
    have h1 : bs.getD (k + 1) 0 = (bs.drop (k + 1)).getD 0 0 := by
     rw [List.getD_eq_getElem?_getD, List.getD_eq_getElem?_getD, List.getElem?_drop]
    have h2 := beg_head b (n + (insA b a).length) r []
    rw [List.append_nil] at h2
    rw [h1, hb', h2]
   have hL : layL b (a :: r) ++ C = preI a ++ (tailB b a ++ (layL b r ++ C)) := by simp [layL, insA]
   rw [hL]
   show fillP bs _ (posA n a ++ posF b (n + (insA b a).length) r) = _
   rw [fillP_app]
   have hfirst : fillP bs (A ++ (preI a ++ (tailB b a ++ (layL b r ++ C)))) (posA n a) = (A ++ (preI a ++ tailG b a (farI bs a k))) ++ (layL b r ++ C) := by
    unfold posA
    by_cases hop : a.op = 9 ∨ a.op = 10
    ·rw [if_pos hop]
     obtain ⟨i, h1, h2⟩ := tail_br (b := b) hop
     have hins : (insA b a).length = (preI a).length + 1 := by simp [insA, h1]
     rw [h1, h2]
     show setImm (A ++ (preI a ++ (i :: (layL b r ++ C)))) (n + (preI a).length : Nat) (bs.getD a.to.toNat 0 - ((n + (preI a).length : Nat) : Int)) = _
     have hlen : n + (preI a).length = (A ++ preI a).length := by rw [List.length_append, hA]
     have hf : bs.getD a.to.toNat 0 - ((n + (preI a).length : Nat) : Int) = farI bs a k := by
      unfold farI
      rw [hk, hins]
      simp only [Int.ofNat_eq_natCast]
      omega
     rw [hf, hlen, ← List.append_assoc A, setImm_app]
     simp
    ·rw [if_neg hop]
     have h9 : a.op ≠ 9 := fun h => hop (.inl h)
     have h10 : a.op ≠ 10 := fun h => hop (.inr h)
     rw [tailG_calm h9 h10]
     simp [fillP]
   rw [hfirst, fill_lay b bs r (n + (insA b a).length) (k + 1) _ C (by simp [insA, tailG_len, hA]) hb']
   simp [layR]
theorem ref_eq (b : Bool) (acts : List ActD) : refI b acts = doneI b acts := by
 have h := fill_lay b (begAll b acts) acts 0 0 [] [hltI] rfl (by simp [begAll])
 unfold refI doneI hltL
 simpa using h.symm
open Go Go.RowKit
open Go.Proofs.YtlpcnaeknbmjdaaGreat.Sy (Let Blk)
abbrev fThr : FuncId := 16
abbrev fAwake : FuncId := 9
abbrev fOf : FuncId := 18
def stays (f : FuncId) : Bool := Nat.beq f 59 || Nat.beq f 60 || Nat.beq f 99 || Nat.beq f 100 || Nat.beq f 102 || Nat.beq f 104 || Nat.beq f 107 || Nat.beq f 130 || Nat.beq f 131 || Nat.beq f 53
def awH : Sy.How := ⟨fun f => !stays f, stays, []⟩
theorem awH_holds : awH.holds Tryz.prog := ⟨fun _ h => (by cases h)⟩
def noC : Sy.CallC := ⟨0, #[], False, ⟨[], [], 0, []⟩, []⟩
theorem noC_met : Sy.Meets Tryz.prog noC := fun h => h.elim
def bcells (bs : List Nat) : List Value := bs.map fun b => .int .u8 (Int.ofNat b)
def tg0 : ByteArray := ⟨#[116, 104, 114, 101, 97, 100, 32, 123, 32, 125]⟩
def tq0 : List Nat := [116, 104, 114, 101, 97, 100, 32, 123, 32, 119, 104, 105, 108, 101, 32, 40, 49, 41, 32, 123, 32, 125, 32, 125, 32, 116, 104, 114, 101, 97, 100, 32, 123, 32, 125]
open Go Go.RowKit
open Go.Proofs.YtlpcnaeknbmjdaaGreat.Sy (Let Blk HasL)
open Lw (I insCells tI)
def awC : Sy.CallC := Sy.shutC' fAwake #[] [] True (.bool true)
open Sy.O (bz fork nil pack step steps)
open Go Go.RowKit
open Go.Proofs.YtlpcnaeknbmjdaaGreat.Sy (Let Blk)
set_option maxRecDepth 1000000 in
noncomputable def th0_o : Sy.O := (bz 169 0x1dee00feffef700feffef701fdffdee07f7ff7b83ff (bz 194 0x370003fbffbdc001fdffdee001fdffdee003fbffbdc00feff (bz 35 0x7ff7fbffb (steps [4097] (bz 193 0x1ffffddbfffbdb401804040f0708960207fbe6ffbfeff7ff7 (bz 133 0x1fffff8ffcfffffffffc7cfffffffffdcf (bz 132 0xff3fffffffff1ff9fffffffff8ffcffff (bz 133 0x1fffff8ffcfffffffffc7fe7ffffffffe3 (bz 236 0xf008b4ffffa0009249200c03602070423cb004022fcfffff8ff3fffbfff (bz 243 0x5feffe1f3ffbfeff7ff0ff3f1ff8001002492480300d8081c108f2c01008b (bz 205 0x1fffee7fffff76fffe1eda00c02020783844b00200ff0f9bfeff (bz 248 0xfdff35a00c02020783844b0004003f801b038211e580033fbfb3fffbffffff (bz 365 0x1fcd6803008081e0e112c001000fe006c0e084796000cfeff9ad006010103c1c2258002001fc00d81c108f2c0019 (bz 364 0xad006010103c1c2258002001fc00d81c108f2c0019fdff35a00c02020783844b0004003f801b038211e580033fb (bz 339 0x40f0708960008007f0036070423cb00067f7fcd6803008081e0e112c001000fe006c0e084796000cfeff9 (bz 351 0x44b0004003f801b038211e580033fbfe6b401804040f0708960008007f0036070423cb00067f7fcd68030080 (bz 335 0x7c00d81c108f2c0019fdff35a00c02020783844b0004003f801b038211e580033fbfe6b401804040f070 (bz 355 0x40e084796000cfeff9ad006010103c1c2258002001fc00d81c108f2c0019fdff35a00c02020783844b0004003 (bz 348 0xcb00067f7fcd6803008081e0e112c001000fe006c0e084796000cfeff9ad006010103c1c2258002001fc00d (bz 348 0xfdff35a00c02020783844b0004003f801b038211e580033fbfe6b401804040f0708960008007f0036070423 (bz 365 0x1fcd6803008081e0e112c001000fe006c0e084796000cfeff9ad006010103c1c2258002001fc00d81c108f2c0019 (bz 364 0xad006010103c1c2258002001fc00d81c108f2c0019fdff35a00c02020783844b0004003f801b038211e580033fb (bz 339 0x40f0708960008007f0036070423cb00067f7fcd6803008081e0e112c001000fe006c0e084796000cfeff9 (bz 279 0x6ffbfdffc03fc7e1f7a000400900601b01038211e58002001013b77bfffb9af8030080 (bz 160 0xfb9fffffddbfff807b7c03e6ffbfeff7ff00f9ff (bz 210 0x211e5800033fbfe6bc00d81c108f2c00019fdfd9fffdfffffffff (bz 281 0x1cb000067f7fcd7801b038211e5800033fbfe6bc00d81c108f2c00019fdff35e006c0e0 (bz 341 0x16803008081e0e112c00010000fe006c0e0847960000cfeff9af0036070423cb000067f7fcd7801b038211 (bz 358 0x3c1c225800020001fc00d81c108f2c00019fdff35a00c02020783844b000040003f801b038211e5800033fbfe6 (bz 378 0x25800020001fc00d81c108f2c00019fdff35a00c02020783844b000040003f801b038211e5800033fbfe6b401804040 (bz 354 0x3c00d81c108f2c00019fdff35a00c02020783844b000040003f801b038211e5800033fbfe6b401804040f0708 (bz 373 0x1c108f2c00019fdff35a00c02020783844b000040003f801b038211e5800033fbfe6b401804040f070896000080007 (bz 378 0x25800033fbfe6b401804040f070896000080007f0036070423cb000067f7fcd6803008081e0e112c00010000fe006c0 (bz 368 0xfbfe6b401804040f070896000080007f0036070423cb000067f7fcd6803008081e0e112c00010000fe006c0e0847 (bz 389 0x1f9ad006010103c1c225800020001fc00d81c108f2c00019fdff35a00c02020783844b000040003f801b038211e5800033 (bz 387 0x5a00c02020783844b000040003f801b038211e5800033fbfe6b401804040f070896000080007f0036070423cb000067f7 (bz 345 0x1806c040e084796000080004004eddefffee6be00c02020783844b000040003f801b038211e5800033fbfe6 (bz 224 0xc000380007e7e3ffefffe001edf000f9fff8007f8fc3ef4000801200 (steps [131073] (bz 172 0x821b13d8045e1ffffe7efc3ffb87ffff9fbf0ffefff (bz 384 0xdc3fffefe7efc03ffb8f18f200000200002089bffc00000425a0000020001980008001c001b000800d80100660101c0d (bz 166 0x3f003ffbbc3fffefe7efc03ffdcfdd87fbdbdbdcfd (bz 173 0x1cfdf803ff81e0fff8e1fe1fef6ec3fdedc3fffefe7e (bz 251 0x7073f038180006e760636606df000063c63f001f39fc007f9f3cfce070fdfef (bz 49 0x1803801c01c00 (steps [2057] (bz 224 0xd00010080c0d82113d800bbff01f0f7dff0f87ff0e7f781ffff9dffd (bz 204 0xc383860089b0600d844be00089f1ffc0f2000200226fff00012 (steps [129] (bz 80 0xc0c13b0300c6cbe013cf (steps [130] (bz 157 0x160023f1c1f7fdffe1ffffffffe07ffffffff77f (bz 163 0x61c39f373ffec7540006003c00802010181b043c4 (steps [65] (bz 39 0x78037600dd nil)))))))))))))))))))))))))))))))))))))))))))))))))))))))
def th0_ps : List Nat := [1]
def th0_v (ns : List Sy.Let) : Value := Value.slice (some (Addr.mk (Sy.letN (0 : Nat) ns) (0 : Nat) none)) (1 : Nat) (Sy.letN (1 : Nat) ns)
def th0_nw (ns : List Sy.Let) : List (Nat × Sy.Cont) := [(Sy.letN 0 ns, Sy.Cont.row (49 : Nat) (6 : Nat) (1 : Nat) (Sy.letN (1 : Nat) ns)
 [Value.int IntKind.i64 (34 : Int), Value.int IntKind.i64 (0 : Int), Value.int IntKind.i64 (0 : Int),
 Value.int IntKind.i64 (0 : Int), Value.int IntKind.i64 (0 : Int), Value.int IntKind.i64 (0 : Int)])]
set_option maxRecDepth 1000000 in
theorem th0_met : Sy.Meets Tryz.prog (Sy.graphC fThr #[.string tg0] [] (List.length th0_ps) th0_v th0_nw) :=
 Sy.meets_graphJ Sy.S0_holds awH_holds mixed (n := 300) th0_ps (by decide) (o := th0_o) (fun ns => by kernel_rfl) (fun ns => by kernel_rfl)
open Go Go.RowKit
open Go.Proofs.YtlpcnaeknbmjdaaGreat.Sy (Let Blk)
def ofA0 (g c : Nat) : Array Value := #[.slice (some ⟨g, 0, none⟩) 35 (Nat.add c 35)]
set_option maxRecDepth 1000000 in
noncomputable def oq0_o : Sy.O := (bz 169 0x1fbdc01fdffdee01fdffdee03fbffbdc0feffef707f (bz 195 0x5ee0007f7ff7b8003fbffbdc003fbffbdc007f7ff7b801fdf (bz 218 0x380000feffef700003fbffbdc0001fdffdee0001fdffdee0003fbff (bz 221 0x1f7ff7b800000feffef7000003fbffbdc00001fdffdee00001fdffde (bz 264 0xffef70000000feffef70000001fdffdee0000007f7ff7b8000003fbffbdc000003 (bz 182 0x3fbffbdc00000007f7ff7b80000001fdffdee0000000fe (steps [32] (bz 27 0x7f7ff7b (steps [33] (bz 27 0x7f7ff7b (steps [34] (bz 27 0x7f7ff7b (steps [35] (bz 27 0x7f7ff7b (steps [36] (bz 27 0x7f7ff7b (steps [37] (bz 27 0x7f7ff7b (steps [38] (bz 27 0x7f7ff7b (steps [39] (bz 40 0xffeff7ff7b (steps [137438953473] (bz 193 0x1ffffddbfffbdb401804040f0708960207fbe6ffbfeff7ff7 (bz 133 0x1fffff8ffcfffffffffc7cfffffffffdcf (bz 132 0xff3fffffffff1ff9fffffffff8ffcffff (bz 133 0x1fffff8ffcfffffffffc7fe7ffffffffe3 (bz 236 0xf008b4ffffa0009249200c03602070423cb004022fcfffff8ff3fffbfff (bz 243 0x5feffe1f3ffbfeff7ff0ff3f1ff8001002492480300d8081c108f2c01008b (bz 205 0x1fffee7fffff76fffe1eda00c02020783844b00200ff0f9bfeff (bz 248 0xfdff35a00c02020783844b0004003f801b038211e580033fbfb3fffbffffff (bz 365 0x1fcd6803008081e0e112c001000fe006c0e084796000cfeff9ad006010103c1c2258002001fc00d81c108f2c0019 (bz 364 0xad006010103c1c2258002001fc00d81c108f2c0019fdff35a00c02020783844b0004003f801b038211e580033fb (bz 339 0x40f0708960008007f0036070423cb00067f7fcd6803008081e0e112c001000fe006c0e084796000cfeff9 (bz 351 0x44b0004003f801b038211e580033fbfe6b401804040f0708960008007f0036070423cb00067f7fcd68030080 (bz 335 0x7c00d81c108f2c0019fdff35a00c02020783844b0004003f801b038211e580033fbfe6b401804040f070 (bz 355 0x40e084796000cfeff9ad006010103c1c2258002001fc00d81c108f2c0019fdff35a00c02020783844b0004003 (bz 348 0xcb00067f7fcd6803008081e0e112c001000fe006c0e084796000cfeff9ad006010103c1c2258002001fc00d (bz 348 0xfdff35a00c02020783844b0004003f801b038211e580033fbfe6b401804040f0708960008007f0036070423 (bz 365 0x1fcd6803008081e0e112c001000fe006c0e084796000cfeff9ad006010103c1c2258002001fc00d81c108f2c0019 (bz 364 0xad006010103c1c2258002001fc00d81c108f2c0019fdff35a00c02020783844b0004003f801b038211e580033fb (bz 339 0x40f0708960008007f0036070423cb00067f7fcd6803008081e0e112c001000fe006c0e084796000cfeff9 (bz 279 0x6ffbfdffc03fc7e1f7a000400900601b01038211e58002001013b77bfffb9af8030080 (bz 230 0x3fddbfff807b6803008081e0e112c0008003fc03e6ffbfeff7ff00f9ff (bz 147 0x7ff003ff3fffffffff003e7ffffffffee7fff (bz 144 0xffffffffe007fe7ffffffffe007fe7ffffff (bz 147 0x7f9fffdffffffffe007fe7ffffffffe007fe7 (bz 244 0xffffffffffffffff4001249200c03602070423cb000080008017e7ffffc00 (bz 288 0xf7ff001fe7e3ff000200492480300d8081c108f2c00020002005f800080169ffffffffff (bz 244 0xfff800f6d006010103c1c225800020001fe003e6ffbfeff7ff001f3ffbfef (bz 185 0x1f0036070423cb00000cfefecfffefffffffff73ffffddb (bz 397 0x1038211e58000067f7fcd6803008081e0e112c0000200003f801b038211e58000067f7fcd6803008081e0e112c0000200003 (bz 390 0x32c000033fbfe6b401804040f0708960000100001fc00d81c108f2c000033fbfe6b401804040f0708960000100001fc00d (bz 383 0x7eff9ad006010103c1c22580000400007f0036070423cb00000cfeff9ad006010103c1c22580000400007f0036070423 (bz 407 0x7f35a00c02020783844b0000080000fe006c0e084796000019fdff35a00c02020783844b0000080000fe006c0e084796000019 (bz 406 0x2b401804040f0708960000100001fc00d81c108f2c000033fbfe6b401804040f0708960000100001fc00d81c108f2c000033fb (bz 381 0x103c1c22580000400007f0036070423cb00000cfeff9ad006010103c1c22580000400007f0036070423cb00000cfeff9 (bz 393 0x112c0000200003f801b038211e58000067f7fcd6803008081e0e112c0000200003f801b038211e58000067f7fcd68030080 (bz 363 0x7c00d81c108f2c000033fbfe6b401804040f0708960000100001fc00d81c108f2c000033fbfe6b401804040f070 (bz 397 0x1038211e58000067f7fcd6803008081e0e112c0000200003f801b038211e58000067f7fcd6803008081e0e112c0000200003 (bz 375 0x7e0003fc7e1f7a000400900601b01038211e5800004000040009dbbdfffdcd7c01804040f0708960000100001fc00d (bz 250 0x3e7fffff76fffe0003db401804040f07089600000800007f8000f9bfeffbfdf (bz 201 0x1ffffe00007fe7cffffffc0000f9f3ffffff00003ffffec0000 (bz 163 0x7ff80001fe7fff7ffffffff80001f9fffffffffe7 (bz 297 0x17fdff7fbff80000ff1f87de8001002401806c040e084796000001000001000027bbfe7f9ff (bz 264 0xbffffffffdcfffff76fffe00003db401804040f0708960000008000007f80000f9 (bz 381 0x10000001fc00d81c108f2c00000033fbfe6b401804040f07089600000010000001fc00d81c108f2c00000033fbfb3fff (bz 419 0x6c0e08479600000019fdff35a00c02020783844b00000008000000fe006c0e08479600000019fdff35a00c02020783844b0000000 (bz 440 0x8f2c00000033fbfe6b401804040f07089600000010000001fc00d81c108f2c00000033fbfe6b401804040f07089600000010000001fc00 (bz 422 0x33fbfe6b401804040f07089600000010000001fc00d81c108f2c00000033fbfe6b401804040f07089600000010000001fc00d81c10 (bz 454 0x2ff9ad006010103c1c225800000040000007f0036070423cb0000000cfeff9ad006010103c1c225800000040000007f0036070423cb0000000 (bz 455 0x66b401804040f07089600000010000001fc00d81c108f2c00000033fbfe6b401804040f07089600000010000001fc00d81c108f2c00000033f (bz 442 0x3008081e0e112c00000020000003f801b038211e5800000067f7fcd6803008081e0e112c00000020000003f801b038211e5800000067f7f (bz 430 0x3844b00000008000000fe006c0e08479600000019fdff35a00c02020783844b00000008000000fe006c0e08479600000019fdff35a00 (bz 418 0x20000003f801b038211e5800000067f7fcd6803008081e0e112c00000020000003f801b038211e5800000067f7fcd6803008081e0 (bz 419 0x6c0e08479600000019fdff35a00c02020783844b00000008000000fe006c0e08479600000019fdff35a00c02020783844b0000000 (bz 422 0x3fe000003fc7e1f7a000400900601b01038211e5800000040000004000009dbbdfffdcd7c01804040f07089600000010000001fc00 (bz 305 0x1fc000007b6803008081e0e112c00000010000000ff000001f37fdff7fbff800000f9ffdff7fb (bz 127 0x67f7f67fff7fffffffffee7fffff76ff (steps [32] (bz 86 0x200000003f801b038211e5 (steps [32] (bz 92 0xcfeff9ad006010103c1c225 (steps [32] (bz 86 0x200000003f801b038211e5 (steps [32] (bz 92 0xcfeff9ad006010103c1c225 (steps [32] (bz 86 0x200000003f801b038211e5 (steps [32] (bz 92 0xcfeff9ad006010103c1c225 (steps [32] (bz 86 0x200000003f801b038211e5 (steps [32] (bz 92 0xcfeff9ad006010103c1c225 (steps [32] (bz 86 0x200000003f801b038211e5 (steps [32] (bz 92 0xcfeff9ad006010103c1c225 (steps [32] (bz 86 0x200000003f801b038211e5 (steps [32] (bz 92 0xcfeff9ad006010103c1c225 (steps [32] (bz 86 0x200000003f801b038211e5 (steps [32] (bz 92 0xcfeff9ad006010103c1c225 (steps [32] (bz 86 0x200000003f801b038211e5 (steps [32] (bz 92 0xcfeff9ad006010103c1c225 (steps [32] (bz 86 0x200000003f801b038211e5 (steps [32] (bz 92 0xcfeff9ad006010103c1c225 (steps [32] (bz 86 0x200000003f801b038211e5 (steps [32] (bz 92 0xcfeff9ad006010103c1c225 (steps [32] (bz 86 0x200000003f801b038211e5 (steps [32] (bz 92 0xcfeff9ad006010103c1c225 (steps [32] (bz 86 0x200000003f801b038211e5 (steps [32] (bz 92 0xcfeff9ad006010103c1c225 (steps [32] (bz 86 0x200000003f801b038211e5 (steps [32] (bz 92 0xcfeff9ad006010103c1c225 (steps [32] (bz 86 0x200000003f801b038211e5 (steps [32] (bz 92 0xcfeff9ad006010103c1c225 (steps [32] (bz 86 0x200000003f801b038211e5 (steps [32] (bz 92 0xcfeff9ad006010103c1c225 (steps [32] (bz 86 0x200000003f801b038211e5 (steps [32] (bz 92 0xcfeff9ad006010103c1c225 (steps [32] (bz 86 0x200000003f801b038211e5 (steps [32] (bz 92 0xcfeff9ad006010103c1c225 (steps [32] (bz 86 0x200000003f801b038211e5 (steps [32] (bz 92 0xcfeff9ad006010103c1c225 (steps [32] (bz 86 0x200000003f801b038211e5 (steps [32] (bz 92 0xcfeff9ad006010103c1c225 (steps [32] (bz 86 0x200000003f801b038211e5 (steps [32] (bz 92 0xcfeff9ad006010103c1c225 (steps [32] (bz 86 0x200000003f801b038211e5 (steps [32] (bz 92 0xcfeff9ad006010103c1c225 (steps [32] (bz 86 0x200000003f801b038211e5 (steps [32] (bz 169 0x100000001000000276ef7fff735f006010103c1c225 (steps [32] (bz 263 0x77fdfeffe0000003e7ff7fdfeffe0000003fc7e1f7a000400900601b01038211e5 (bz 51 0x7f8000000f9bf (steps [32, 33] (bz 202 0x3fdffffffffffb9fffffddbfff8000000f6d006010103c1c225 (bz 31 0x67f7f67f (steps [36] (bz 54 0x3f801b038211e5 (steps [35, 36] (bz 92 0xcfeff9ad006010103c1c225 (steps [36] (bz 54 0x3f801b038211e5 (steps [35, 36] (bz 92 0xcfeff9ad006010103c1c225 (steps [36] (bz 54 0x3f801b038211e5 (steps [35, 36] (bz 92 0xcfeff9ad006010103c1c225 (steps [36] (bz 54 0x3f801b038211e5 (steps [35, 36] (bz 92 0xcfeff9ad006010103c1c225 (steps [36] (bz 54 0x3f801b038211e5 (steps [35, 36] (bz 92 0xcfeff9ad006010103c1c225 (steps [36] (bz 54 0x3f801b038211e5 (steps [35, 36] (bz 92 0xcfeff9ad006010103c1c225 (steps [36] (bz 54 0x3f801b038211e5 (steps [35, 36] (bz 92 0xcfeff9ad006010103c1c225 (steps [36] (bz 54 0x3f801b038211e5 (steps [35, 36] (bz 92 0xcfeff9ad006010103c1c225 (steps [36] (bz 54 0x3f801b038211e5 (steps [35, 36] (bz 92 0xcfeff9ad006010103c1c225 (steps [36] (bz 54 0x3f801b038211e5 (steps [35, 36] (bz 92 0xcfeff9ad006010103c1c225 (steps [36] (bz 54 0x3f801b038211e5 (steps [35, 36] (bz 92 0xcfeff9ad006010103c1c225 (steps [36] (bz 54 0x3f801b038211e5 (steps [35, 36] (bz 92 0xcfeff9ad006010103c1c225 (steps [36] (bz 54 0x3f801b038211e5 (steps [35, 36] (bz 92 0xcfeff9ad006010103c1c225 (steps [36] (bz 54 0x3f801b038211e5 (steps [35, 36] (bz 92 0xcfeff9ad006010103c1c225 (steps [36] (bz 54 0x3f801b038211e5 (steps [35, 36] (bz 92 0xcfeff9ad006010103c1c225 (steps [36] (bz 54 0x3f801b038211e5 (steps [35, 36] (bz 92 0xcfeff9ad006010103c1c225 (steps [36] (bz 54 0x3f801b038211e5 (steps [35, 36] (bz 92 0xcfeff9ad006010103c1c225 (steps [36] (bz 54 0x3f801b038211e5 (steps [35, 36] (bz 92 0xcfeff9ad006010103c1c225 (steps [36] (bz 54 0x3f801b038211e5 (steps [35, 36] (bz 92 0xcfeff9ad006010103c1c225 (steps [36] (bz 54 0x3f801b038211e5 (steps [35, 36] (bz 92 0xcfeff9ad006010103c1c225 (steps [36] (bz 54 0x3f801b038211e5 (steps [35, 36] (bz 92 0xcfeff9ad006010103c1c225 (steps [36] (bz 54 0x3f801b038211e5 (steps [35, 36] (bz 92 0xcfeff9ad006010103c1c225 (steps [36] (bz 54 0x3f801b038211e5 (steps [35, 36] (bz 141 0x10000000276ef7fff735f006010103c1c225 (steps [35, 36] (bz 271 0x77fdfeffe00000003e7ff7fdfeffe00000003fc7e1f7a000400900601b01038211e5 (bz 55 0x7f80000000f9bf (steps [36, 37] (bz 206 0x3fdffffffffffb9fffffddbfff80000000f6d006010103c1c225 (bz 31 0x67f7f67f (steps [40] (bz 54 0x3f801b038211e5 (steps [39, 40] (bz 92 0xcfeff9ad006010103c1c225 (steps [40] (bz 54 0x3f801b038211e5 (steps [39, 40] (bz 92 0xcfeff9ad006010103c1c225 (steps [40] (bz 54 0x3f801b038211e5 (steps [39, 40] (bz 92 0xcfeff9ad006010103c1c225 (steps [40] (bz 54 0x3f801b038211e5 (steps [39, 40] (bz 92 0xcfeff9ad006010103c1c225 (steps [40] (bz 54 0x3f801b038211e5 (steps [39, 40] (bz 92 0xcfeff9ad006010103c1c225 (steps [40] (bz 54 0x3f801b038211e5 (steps [39, 40] (bz 92 0xcfeff9ad006010103c1c225 (steps [40] (bz 54 0x3f801b038211e5 (steps [39, 40] (bz 92 0xcfeff9ad006010103c1c225 (steps [40] (bz 54 0x3f801b038211e5 (steps [39, 40] (bz 92 0xcfeff9ad006010103c1c225 (steps [40] (bz 54 0x3f801b038211e5 (steps [39, 40] (bz 92 0xcfeff9ad006010103c1c225 (steps [40] (bz 54 0x3f801b038211e5 (steps [39, 40] (bz 92 0xcfeff9ad006010103c1c225 (steps [40] (bz 54 0x3f801b038211e5 (steps [39, 40] (bz 92 0xcfeff9ad006010103c1c225 (steps [40] (bz 54 0x3f801b038211e5 (steps [39, 40] (bz 92 0xcfeff9ad006010103c1c225 (steps [40] (bz 54 0x3f801b038211e5 (steps [39, 40] (bz 92 0xcfeff9ad006010103c1c225 (steps [40] (bz 54 0x3f801b038211e5 (steps [39, 40] (bz 92 0xcfeff9ad006010103c1c225 (steps [40] (bz 54 0x3f801b038211e5 (steps [39, 40] (bz 92 0xcfeff9ad006010103c1c225 (steps [40] (bz 54 0x3f801b038211e5 (steps [39, 40] (bz 92 0xcfeff9ad006010103c1c225 (steps [40] (bz 54 0x3f801b038211e5 (steps [39, 40] (bz 92 0xcfeff9ad006010103c1c225 (steps [40] (bz 54 0x3f801b038211e5 (steps [39, 40] (bz 92 0xcfeff9ad006010103c1c225 (steps [40] (bz 54 0x3f801b038211e5 (steps [39, 40] (bz 92 0xcfeff9ad006010103c1c225 (steps [40] (bz 54 0x3f801b038211e5 (steps [39, 40] (bz 92 0xcfeff9ad006010103c1c225 (steps [40] (bz 54 0x3f801b038211e5 (steps [39, 40] (bz 92 0xcfeff9ad006010103c1c225 (steps [40] (bz 54 0x3f801b038211e5 (steps [39, 40] (bz 92 0xcfeff9ad006010103c1c225 (steps [40] (bz 54 0x3f801b038211e5 (steps [39, 40] (bz 110 0x276ef7fff735f006010103c1c225 (steps [34, 39, 40] (bz 126 0x3fc7e1f7a000400900601b01038211e5 (steps [35] (bz 48 0xf9ffdff7fbff (steps [35] (bz 49 0x1f37fdff7fbff (steps [35] (bz 7 0x7f (steps [40, 41] (bz 72 0xf6d006010103c1c225 (steps [35] (bz 96 0xf9fffffffffb9fffffddbfff (steps [37] (bz 49 0x1ff9fffffffff (steps [37] (bz 49 0x1ff9fffffffff (steps [37] (bz 49 0x1ff9fffffffff (steps [37] (bz 49 0x1ff9fffffffff (steps [37] (bz 49 0x1ff9fffffffff (steps [37] (bz 49 0x1ff9fffffffff (steps [37] (bz 61 0x1fe7fff7ffffffff (steps [37] (bz 30 0x2fcfffff (steps [37, 42, 43] (bz 123 0x5a7fffd0004924900601b01038211e5 (steps [37, 42] (bz 7 0x5f (steps [37, 42, 43] (bz 137 0x1fe7e3ff0002004924900601b01038211e5 (steps [38] (bz 48 0xf9ffdff7fbff (steps [38] (bz 49 0x1f37fdff7fbff (steps [38] (bz 7 0x7f (steps [43, 44] (bz 72 0xf6d006010103c1c225 (steps [38] (bz 133 0x19fdfd9fffdffffffffffb9fffffddbfff (steps [47] (bz 54 0x3f801b038211e5 (steps [46, 47] (bz 92 0xcfeff9ad006010103c1c225 (steps [47] (bz 54 0x3f801b038211e5 (steps [46, 47] (bz 92 0xcfeff9ad006010103c1c225 (steps [47] (bz 54 0x3f801b038211e5 (steps [46, 47] (bz 92 0xcfeff9ad006010103c1c225 (steps [47] (bz 54 0x3f801b038211e5 (steps [46, 47] (bz 92 0xcfeff9ad006010103c1c225 (steps [47] (bz 54 0x3f801b038211e5 (steps [46, 47] (bz 92 0xcfeff9ad006010103c1c225 (steps [47] (bz 54 0x3f801b038211e5 (steps [46, 47] (bz 92 0xcfeff9ad006010103c1c225 (steps [47] (bz 54 0x3f801b038211e5 (steps [46, 47] (bz 92 0xcfeff9ad006010103c1c225 (steps [47] (bz 54 0x3f801b038211e5 (steps [46, 47] (bz 92 0xcfeff9ad006010103c1c225 (steps [47] (bz 54 0x3f801b038211e5 (steps [46, 47] (bz 92 0xcfeff9ad006010103c1c225 (steps [47] (bz 54 0x3f801b038211e5 (steps [46, 47] (bz 92 0xcfeff9ad006010103c1c225 (steps [47] (bz 54 0x3f801b038211e5 (steps [46, 47] (bz 92 0xcfeff9ad006010103c1c225 (steps [47] (bz 54 0x3f801b038211e5 (steps [46, 47] (bz 92 0xcfeff9ad006010103c1c225 (steps [47] (bz 54 0x3f801b038211e5 (steps [46, 47] (bz 92 0xcfeff9ad006010103c1c225 (steps [47] (bz 54 0x3f801b038211e5 (steps [46, 47] (bz 92 0xcfeff9ad006010103c1c225 (steps [47] (bz 54 0x3f801b038211e5 (steps [46, 47] (bz 92 0xcfeff9ad006010103c1c225 (steps [47] (bz 54 0x3f801b038211e5 (steps [46, 47] (bz 92 0xcfeff9ad006010103c1c225 (steps [47] (bz 54 0x3f801b038211e5 (steps [46, 47] (bz 92 0xcfeff9ad006010103c1c225 (steps [47] (bz 54 0x3f801b038211e5 (steps [46, 47] (bz 92 0xcfeff9ad006010103c1c225 (steps [47] (bz 54 0x3f801b038211e5 (steps [46, 47] (bz 92 0xcfeff9ad006010103c1c225 (steps [47] (bz 54 0x3f801b038211e5 (steps [46, 47] (bz 92 0xcfeff9ad006010103c1c225 (steps [47] (bz 54 0x3f801b038211e5 (steps [46, 47] (bz 92 0xcfeff9ad006010103c1c225 (steps [47] (bz 54 0x3f801b038211e5 (steps [46, 47] (bz 110 0x276ef7fff735f006010103c1c225 (steps [41, 46, 47] (bz 126 0x3fc7e1f7a000400900601b01038211e5 (steps [42] (bz 48 0xf9ffdff7fbff (steps [42] (bz 49 0x1f37fdff7fbff (steps [42] (bz 12 0xf6f (steps [42] (bz 133 0x19fdfd9fffdffffffffffb9fffffddbfff (steps [51] (bz 79 0x67f7fcd7801b038211e5 (steps [51] (bz 79 0x67f7fcd7801b038211e5 (steps [51] (bz 79 0x67f7fcd7801b038211e5 (steps [51] (bz 79 0x67f7fcd7801b038211e5 (steps [51] (bz 79 0x67f7fcd7801b038211e5 (steps [51] (bz 79 0x67f7fcd7801b038211e5 (steps [51] (bz 54 0x3f801b038211e5 (steps [50, 51] (bz 92 0xcfeff9ad006010103c1c225 (steps [51] (bz 54 0x3f801b038211e5 (steps [50, 51] (bz 92 0xcfeff9ad006010103c1c225 (steps [51] (bz 54 0x3f801b038211e5 (steps [50, 51] (bz 92 0xcfeff9ad006010103c1c225 (steps [51] (bz 54 0x3f801b038211e5 (steps [50, 51] (bz 92 0xcfeff9ad006010103c1c225 (steps [51] (bz 54 0x3f801b038211e5 (steps [50, 51] (bz 92 0xcfeff9ad006010103c1c225 (steps [51] (bz 54 0x3f801b038211e5 (steps [50, 51] (bz 92 0xcfeff9ad006010103c1c225 (steps [51] (bz 54 0x3f801b038211e5 (steps [50, 51] (bz 92 0xcfeff9ad006010103c1c225 (steps [51] (bz 54 0x3f801b038211e5 (steps [50, 51] (bz 92 0xcfeff9ad006010103c1c225 (steps [51] (bz 54 0x3f801b038211e5 (steps [50, 51] (bz 92 0xcfeff9ad006010103c1c225 (steps [51] (bz 54 0x3f801b038211e5 (steps [50, 51] (bz 92 0xcfeff9ad006010103c1c225 (steps [51] (bz 54 0x3f801b038211e5 (steps [50, 51] (bz 92 0xcfeff9ad006010103c1c225 (steps [51] (bz 54 0x3f801b038211e5 (steps [50, 51] (bz 92 0xcfeff9ad006010103c1c225 (steps [51] (bz 54 0x3f801b038211e5 (steps [50, 51] (bz 92 0xcfeff9ad006010103c1c225 (steps [51] (bz 54 0x3f801b038211e5 (steps [50, 51] (bz 92 0xcfeff9ad006010103c1c225 (steps [51] (bz 54 0x3f801b038211e5 (steps [50, 51] (bz 92 0xcfeff9ad006010103c1c225 (steps [51] (bz 54 0x3f801b038211e5 (steps [50, 51] (bz 92 0xcfeff9ad006010103c1c225 (steps [51] (bz 54 0x3f801b038211e5 (steps [50, 51] (bz 110 0x276ef7fff735f006010103c1c225 (steps [45, 50, 51] (bz 126 0x3fc7e1f7a000400900601b01038211e5 (steps [46] (bz 20 0xf9fff (steps [46] (bz 12 0xf6f (steps [46] (bz 45 0x1f9f8fffbfff (steps [50] (steps [0, 0] (steps [50] (steps [0] (steps [2251799813685249] (bz 172 0x821b13d8045e1ffffe7efc3ffb87ffff9fbf0ffefff (bz 384 0xdc3fffefe7efc03ffb8f18f200000200002089bffc00000425a0000020001980008001c001b000800d80100660101c0d (bz 168 0xfff801f39de1ffffe7efc03ffdcfdd87fbdbdbdcfd (bz 188 0xe7efc001ffc387ffff9fbf0007ff0e1ffffe7efc001ffc3 (bz 173 0x1df87ffff9fbf0007ff870fffff3f7e000fff0e1ffff (bz 193 0x1bfff80001f39cfce61fef6e1ffff7f3f7e0003ffb87861fd (bz 114 0x338e6061b181b7c00000187efe187 (steps [32] (bz 182 0x338e6050d8c0dbe0000050ffcfffffffc0003e38e7e3f1 (steps [32] (bz 200 0xf3f7e00007ff701d8e030ff7b70ffffbf9fbf00003ffb9e3fd (bz 166 0x3fffdfcfdf80001ffee7eec3fdededee7eee1ffff7 (bz 227 0x40c0dbe00001101f63c6030ff7b761fef6e1ffff7f3f7e00001ffdde1 (bz 48 0xc1c0e0c0880d (steps [257] (bz 186 0x3f3f7e0003ffb81e1ffff7f3f7e000fff039f81ffff0efd (bz 100 0xc1c1c0f03038187fbdb87fffd (steps [145] (bz 371 0x4000004000330001000380036001001b00200cc020381b043627b00010020101c3ffffcfdf800ffe01e03ffe0e07f (bz 322 0x37b7b7b9fbb87fffdfcfdf8001ffdc01e00c01e0100000100001001004037c1f81e00000200200806 (bz 173 0x1fffdfcfdf80007ff7787fffdfcfdf8001ffee7eec3f (bz 222 0x27001c3f7fbf9fbf0003ff800f003e3f0f803801fe1fef6ec3fdedc3 (bz 311 0x600070001c000e0003801cfc00700180006e760636606df0000031e31f80007ce7f0000ff3e79f (steps [65929] (bz 350 0x3d8001fc00fe000007c000300010002000c003adbec00000c00e00f80602041c3896000ffc03f81ffff9dffd (bz 266 0x2fbfafbefbec00006000074fff7ffdfffc003001d78000f8030080c0ebf8000f08c (bz 138 0x3efbfffffafbefbefff5f7df7dffffafbef (bz 140 0xfff3effdffffdffbffd7d7df7df7fafafbe (bz 290 0x3e0004001800401d7f00040007804078107847b0003f803fdff01f0f7dff0f87ff0e7f781 (bz 207 0x72c000189fcbc7c7e73e776db6ddf3d00007fffb7dffe001f7de (bz 47 0x4000cc036041 (fork (bz 29 0x10002846 (fork (bz 43 0x400090437ff (fork (bz 132 0xff80088106ffef00022041a0004821aff (steps [145] (bz 399 0x7fef0001020d00010080c0d82113d80002086ffc007c03c1f07fc03c20002002086fff000108d00010080c0d82113d800089 (bz 217 0x180e01c06008106c03006c225f00002041f03ff803c10001001020d (steps [1049] (bz 98 0x3003043b00300c6cbe0010f0f nil)))))) (bz 135 0x7fc00440837ff780011020d7fc00088106 (steps [145] (bz 399 0x7fef0001020d00010080c0d82113d80002086ffc007c03c1f07fc03c20002002086fff000108d00010080c0d82113d800089 (bz 217 0x180e01c06008106c03006c225f00002041f03ff803c10001001020d (steps [1049] (bz 98 0x3003043b00300c6cbe0010f0f nil)))))))) (bz 183 0x7fc00440837f3f300022041aff80011020df7d80012086 (steps [145] (bz 399 0x7fef0001020d00010080c0d82113d80002086ffc007c03c1f07fc03c20002002086fff000108d00010080c0d82113d800089 (bz 217 0x180e01c06008106c03006c225f00002041f03ff803c10001001020d (steps [1049] (bz 98 0x3003043b00300c6cbe0010f0f nil)))))))) (bz 210 0x3fe0022041bf9f980011020d7fc00088106fff0002410d0002846 (steps [145] (bz 399 0x7fef0001020d00010080c0d82113d80002086ffc007c03c1f07fc03c20002002086fff000108d00010080c0d82113d800089 (bz 217 0x180e01c06008106c03006c225f00002041f03ff803c10001001020d (steps [1049] (bz 98 0x3003043b00300c6cbe0010f0f nil))))))))))))))))))))))))))))))))))))))))))))))))))))))))))))))))))))))))))))))))))))))))))))))))))))))))))))))))))))))))))))))))))))))))))))))))))))))))))))))))))))))))))))))))))))))))))))))))))))))))))))))))))))))))))))))))))))))))))))))))))))))))))))))))))))))))))))))))))))))))))))))))))))))))))))))))))))))))))))))))))))))))))))))))))))))))))))))))))))))))))))))))))))))))))))))))))))))))))))))))))))))))))))))))))))))))))))))))))))))))))))))))))))))))))))))))))))))))))))))))))))))))))))))))))))))))))))))))))))))))))))))))))))))))))))))))))))))))))))))))))))))))))))))))))))))))))))))))))))))))))))))))))))))))))))))))))))))))))))
def oq0_ps : List Nat := [1, 2, 3]
def oq0_v (ns : List Sy.Let) : Value := Value.tuple
 (Array.mk
 [Value.agg
 (Array.mk
 [Value.int IntKind.i64 (0 : Int),
 Value.slice (some (Addr.mk (Sy.letN (0 : Nat) ns) (0 : Nat) none)) (2 : Nat) (Sy.letN (1 : Nat) ns)]),
 Value.bool true])
def oq0_nw (ns : List Sy.Let) : List (Nat × Sy.Cont) := [(Sy.letN 0 ns, Sy.Cont.row (40 : Nat) (2 : Nat) (2 : Nat) (Sy.letN (1 : Nat) ns)
 [Value.int IntKind.i64 (0 : Int),
 Value.slice (some (Addr.mk (Sy.letN (2 : Nat) ns) (0 : Nat) none)) (2 : Nat) (Sy.letN (3 : Nat) ns),
 Value.int IntKind.i64 (0 : Int), Value.slice none (0 : Nat) (0 : Nat)]), (Sy.letN 2 ns, Sy.Cont.row (46 : Nat) (11 : Nat) (2 : Nat) (Sy.letN (3 : Nat) ns)
 [Value.int IntKind.i64 (10 : Int), Value.int IntKind.i64 (0 : Int), Value.int IntKind.i64 (0 : Int),
 Value.int IntKind.i64 (0 : Int), Value.slice none (0 : Nat) (0 : Nat),
 Value.slice (some (Addr.mk (Sy.letN (4 : Nat) ns) (0 : Nat) none)) (1 : Nat) (Sy.letN (5 : Nat) ns),
 Value.slice none (0 : Nat) (0 : Nat), Value.int IntKind.i64 (0 : Int), Value.int IntKind.i64 (2 : Int),
 Value.int IntKind.i64 (1 : Int), Value.int IntKind.i64 (10 : Int), Value.int IntKind.i64 (9 : Int),
 Value.int IntKind.i64 (0 : Int), Value.int IntKind.i64 (0 : Int), Value.int IntKind.i64 (0 : Int),
 Value.slice none (0 : Nat) (0 : Nat), Value.slice none (0 : Nat) (0 : Nat), Value.slice none (0 : Nat) (0 : Nat),
 Value.int IntKind.i64 (0 : Int), Value.int IntKind.i64 (0 : Int), Value.int IntKind.i64 (1 : Int),
 Value.int IntKind.i64 (10 : Int)]), (Sy.letN 4 ns, Sy.Cont.row (127 : Nat) (4 : Nat) (1 : Nat) (Sy.letN (5 : Nat) ns)
 [Value.int IntKind.i64 (1 : Int), Value.int IntKind.u64 (1 : Int), Value.int IntKind.i64 (0 : Int),
 Value.int IntKind.i64 (0 : Int)])]
set_option maxRecDepth 1000000 in
theorem oq0_met (g c : Nat) : Sy.Meets Tryz.prog (Sy.graphC fOf (ofA0 g c) [(g, .seg 0 (bcells tq0))] (List.length oq0_ps) oq0_v oq0_nw) :=
 Sy.meets_graphJ Sy.S0_holds awH_holds mixed (n := 300) oq0_ps (by decide) (o := oq0_o) (fun ns => by kernel_rfl) (fun ns => by kernel_rfl)
open Go Go.RowKit
open Go.Proofs.YtlpcnaeknbmjdaaGreat.Sy (Let Blk)
def ofX (args : Array Value) (ct : Sy.Cont) : Sy.CallC := match args.toList with
 | [.slice (some ⟨g, 0, none⟩) n cap] => Sy.graphC fOf (ofA0 g (Nat.sub cap n)) [(g, .seg 0 (bcells tq0))] (List.length oq0_ps) oq0_v oq0_nw
 | _ => noC
theorem ofX_met (args : Array Value) (ct : Sy.Cont) : Sy.Meets Tryz.prog (ofX args ct) := by
 unfold ofX
 split
 ·exact oq0_met _ _
 ·exact noC_met
def awZ : Sy.How := ⟨fun f => !stays f, stays, [⟨fOf, 0, ofX⟩]⟩
theorem awZ_holds : awZ.holds Tryz.prog := ⟨fun x hx a ct => by
 rcases List.mem_singleton.1 hx with rfl
 exact ofX_met a ct⟩
def ctxAw : Sy.Ctx := Sy.mkS [(fThr, fun _ _ => Sy.graphC fThr #[.string tg0] [] (List.length th0_ps) th0_v th0_nw)] [] []
theorem ctxAw_holds : ctxAw.holds Tryz.prog := Sy.mkS_holds (fun p hp a L => by
 rcases List.mem_singleton.1 hp with rfl
 exact th0_met) (fun _ h => (by cases h)) (fun _ h => (by cases h))
set_option maxRecDepth 1000000 in
noncomputable def aw_o : Sy.O := (bz 139 0x4ff807ffffffffe07ffffffff77ffffffef (bz 152 0xff1ff1fe3fffff1fffff3fcf76db6e7cfe7f3b (bz 398 0x3f808183c233d80001fe00002000040001c00038000fc000e00080040078010040380e07e0e113d80001fc000ff7c7fe3fc7 (bz 183 0x79ce3fe00fc0003fffef8fe3ffff90ff6ffffe0001ffff (bz 152 0xfc7ff1ff1fe3fffff1fffff3fcf76db6e7cfe7 (bz 139 0x7ffffffff803f80007fffdf1fc7ffffffe3 (steps [32] (bz 232 0xffffffffedb6db6ff9f692000c01e01010208789600017e003f8ff83fb (bz 146 0x3fff9fe7bb6db73e7f3f9dcff8fffffffffdf (bz 247 0x40080201c0703f07089ec0000007f000001fef8ffc7f8ffe3fe3fc7ffffe3f (bz 343 0x7ffff90ff6ffffe000000ffffff0103078467b0000001fe00002000040001c00038000fc000e0008004007 (bz 212 0xf039d82b87ffc7fd05ffffff8001fffe9ff0003f080780007e3ff (bz 258 0x38010004010080101bffc0010040d00041b089ef8000008041b807c3f07c039c7 (steps [181, 95] (bz 328 0xe03f00f80039c7f001cff6db6dbfe01f01a01008003007804040821e2580000101f80003fc0fe07f81 (bz 261 0x1c00080020080400080df00fc01e000800103400106c227be000000100041b8003 (steps [181, 95] (bz 490 0x23006c0202078330d897c0000008004020200200e7f001b800fbf3e003000400d0010010001800f002008040606c10f12c000001000400fc00fe007f801 (bz 406 0x300070007001de00004000e00080066002100318036010103c1986c4be000000400211001073ef000020007000400330010801 (steps [32769] (bz 279 0x7fffa0000e007ffffa0000e033f800033f800033f800020010040960001efeffff7fff (bz 168 0xfdf9ffffff7df0ff77777f7fe7ffffffa0000e000f (bz 144 0xbbf77f0db7e7fffffdf7e7fffffdf7e7fbf3 (bz 287 0x7f0020080603c08211e580000f7df3fbe7f7cff8010040301e04108f2c00007bef87fbbb (bz 264 0xf000808580000f6db6fbfbfffc3ffff086f9ff0020080603c08211e580000f7df3 (bz 261 0x1fbbbbbfbff3ffffffd000e01ffffe8007067f00040100c0408308960000180067 (bz 141 0x1f3fdf9ffffff7df9fefcff7e7fffffdf7c3 (bz 227 0x6fbe7f7cfef9ff0020080603c08211e5800001efbe1feeeeefddfc36d (bz 288 0x844b000003013000007db6fbfbfffc0ffbf3f086f9fdf3fe0040100c07810423cb000003 (bz 200 0xdf9fefcff7c3fdddddfdff9ffffffe80e33f80020080602041 (bz 150 0x3cfef87fbbbbbf77f0db7e7fbf3fffffefbf3f (bz 233 0x1bfffc03fefcfc21be7f7cff8010040301e04108f2c000003df7cfef9fd (bz 149 0x1fdf9fefcff7e7fbe1feeeeefeffc3777b7fff (bz 156 0xf7cfef9fdf3fbe7f7c3fdddddfbbf86dbf3fdf9 (bz 43 0x7efcfc21be7 (steps [513] (bz 240 0xc3873e6e7ffd8ea8000c0078010040203036087896000008fc7fc007fffe (steps [65] (bz 145 0x1bf3fdf0ff77777f7fe1bbbdbfffeffff7fff (bz 153 0x1fdf3fbe1feeeeefddfc36df9fefcff7e7fbf3f (bz 145 0x1800e003f87e0fd007fff086f9fdf3fbe7f7c (steps [8325] (bz 12 0xc71 (steps [39] (bz 159 0x73e7f3f9dcff8007ffffffffe007ffffffff770f (bz 153 0x17c7fe3fc7ff1ff1fe3fffff1fffff3fcf76db6 (bz 420 0xffc00003fffffc040c1e119ec00000ff00001000020000e0001c0007e00070004002003c0080201c0703f07089ec00000fe00007f (bz 182 0x2db6e7cfe7f39c7fc001f80007fffdf1fc7ffff21fedff (bz 144 0xffffff8ff1ffc7fc7f8fffffc7ffffcff3dd (bz 113 0x1ffffffffe000fe0001ffff7c7f1f (steps [32] (bz 243 0x7fffffdb6db6dff3ed24001803c02020410f12c00005f8001fc7007dff7ff (bz 146 0x3e7f9eedb6dcf9fcfe773fe3fffffffff7fff (bz 213 0x1f07089ec0000000fe0000007fbe3ff1fe3ff8ff8ff1fffff8ffff (bz 389 0x1ff90ff6ffffe0000001fffffe02060f08cf600000007f8000080001000070000e0003f00038002001001e0040100e0381 (bz 209 0x182b87ffc7fd05ffffff80003fffd3fe0000fc201e0001f8fffff (bz 280 0xe0040010040200406fff00040103400106c227be0000004020dc03e1f83e01ce3f81ce (steps [181, 95] (bz 334 0x380fc03e000e71fc0073fdb6db6ff807c0680402000c01e01010208789600000080fc00003fc0fe07f81 (bz 264 0xe000400100402000406f807e00f000400081a000836113df0000000100041b8003 (steps [181, 95] (bz 496 0x8c01b008081e0cc3625f0000000400201010010073f800dc007df9f00180020068008008000c00780100402030360878960000001000400fc00fe007f801 (bz 409 0x180038003800ef0000200070004003300108018c01b008081e0cc3625f0000000400211001073ef000020007000400330010801 (steps [32769] (bz 123 0x7bff7ffffffe3ffc7fffcf8037600dd nil)))))))))))))))))))))))))))))))))))))))))))))))))))))))))))))))))
set_option maxRecDepth 1000000 in
theorem aw_met : Sy.Meets Tryz.prog (Sy.shutC' fAwake #[] [] True (.bool true)) :=
 Sy.meets_shutJ' ctxAw_holds awZ_holds mixed (n := 300) (o := aw_o) (fun ns => by kernel_rfl) (fun ns => by kernel_rfl)
theorem okOne_of {B : List (Nat × Sy.Cont)} {tv : Value} {l : List ThreadD} (hT : ThreadsR B tv l) (hg : goodT3 l) (cells : Int) : OkOne B tv l cells :=
 ⟨hT, fun hw i t ht av hav => by
  have hm := List.mem_of_getElem? ht
  have ha := whole_acts hw hg hm
  exact ⟨okL_of hav ha (hg t hm), fun a hx ho => (ha a hx).to ho⟩⟩
end Go.Proofs.YtlpcnaeknbmjdaaGreat.Gn
namespace Go.Proofs.YtlpcnaeknbmjdaaGreat
open Sy.O (bz fork nil pack step steps)
open Sy.Res (need hyp br leaf both)
open Go Go.RowKit
open Sy (Let Blk HasL)
abbrev fRExpr : FuncId := 40
def bodyE1 : Code := Sy.loopBody Tryz.f40 0
def bodyE2 : Code := Sy.loopBody Tryz.f40 1
def slE (v : Value) (loc : Int) (g n cap i : Nat) : List (Nat × Value) := [(0, v), (1, .int .i64 loc), (4, .bool false), (5, .slice (some ⟨g, 0, none⟩) n cap), (6, .int .i64 (Int.ofNat i))]
def slE2 (v : Value) (loc : Int) (g n cap i : Nat) : List (Nat × Value) := [(0, v), (1, .int .i64 loc), (4, .bool false), (5, .slice (some ⟨g, 0, none⟩) n cap), (8, .int .i64 (Int.ofNat i))]
def en2_o : Sy.O := (steps [1] (fork (bz 11 0x55d (fork nil nil)) nil))
noncomputable def en2_R (v : Value) (loc : Int) (g n cap i : Nat) (xs : List Value) (f : Nat → Value) (B : List (Nat × Sy.Cont)) (ns : Nat → Sy.Let) : Sy.Res (Exit × Nat × List Value × List Blk) :=
 let z0 := Int.ofNat i
 let z1 := 0 + Int.toNat z0 * 1
 let z2 := some (Addr.mk g 0 none)
 need (∃ (p : Option Addr), ∃ (n : Nat), ∃ (c : Nat), v = Value.slice p n c) (br (Ex.ltQ z0 (Ex.wrapQ .i64 (Ex.subQ' (Int.ofNat (Sy.lenS v)) 1))) (need (0 ≤ Int.ofNat i ∧ Int.ofNat i < (↑n : Int)) (need (∃ (b : Bool), Sy.Cont.at (Sy.Cont.row 4 1 n cap xs) z1 = some (Value.bool b)) (hyp (Sy.Cont.at (Sy.Cont.row 4 1 n cap xs) z1 = some (Value.bool (ns 0).b)) (br (!(ns 0).b) (leaf (Exit.ret, 131, [v, Value.int .i64 loc, Value.bool false, Value.slice z2 n cap, Value.int .i64 z0], Blk.mk g (Sy.Cont.row 4 1 n cap xs) true :: rdOf B)) (leaf (Exit.normal, 131, [v, Value.int .i64 loc, Value.bool false, Value.slice z2 n cap, Value.int .i64 (Ex.wrapQ .i64 (Ex.addQ z0 1))], Blk.mk g (Sy.Cont.row 4 1 n cap xs) true :: rdOf B)))))) (leaf (Exit.exit 2, 131, [v, Value.int .i64 loc, Value.bool false, Value.slice z2 n cap, Value.int .i64 z0], Blk.mk g (Sy.Cont.row 4 1 n cap xs) true :: rdOf B)))
theorem en2_run (v : Value) (loc : Int) (g n cap i : Nat) (xs : List Value) (f : Nat → Value) (B : List (Nat × Sy.Cont)) : Sy.Ran (Sy.pieceT Tryz.prog Sy.S0 50 fRExpr bodyE2 131 (slE2 v loc g n cap i) ((List.range 131).map f) (⟨g, .row 4 1 n cap xs, true⟩ :: rdOf B) [0, 1, 4, 5, 8]) en2_o (en2_R v loc g n cap i xs f B) := ⟨fun _ => by kernel_rfl, fun _ => by kernel_rfl⟩
def en1_o : Sy.O := (steps [1] (fork (bz 17 0x1efea (fork (bz 3 0x7 (fork (bz 8 0xff nil) (bz 5 0x1f (fork (bz 5 0x1f nil) (bz 6 0x3f (fork (bz 8 0xff (fork nil nil)) (bz 6 0x3f nil))))))) (bz 23 0x7bdef7 (fork (bz 5 0x1f nil) (bz 19 0x5577f (fork nil (bz 14 0x3daf (fork (bz 3 0x7 (fork nil nil)) (bz 8 0xf7 (fork (bz 5 0x1f nil) (bz 19 0x5577f (fork nil (bz 11 0x5af nil))))))))))))) nil))
noncomputable def en1_R (v : Value) (loc : Int) (g n cap i : Nat) (xs : List Value) (f : Nat → Value) (B : List (Nat × Sy.Cont)) (ns : Nat → Sy.Let) : Sy.Res (Exit × Nat × List Value × List Blk) :=
 let z0 := Int.ofNat i
 let z1 := Sy.ptrS v
 let z2 := rdOf B
 let z3 := Sy.offS v + Int.toNat z0 * 4
 let z4 := ns 0
 let z5 := Sy.offS v + Int.toNat z0 * 4 + 1
 let z6 := Sy.offS v + Int.toNat z0 * 4 + 1 + 1
 let z7 := ns 2
 let z8 := Sy.offS v + Int.toNat z0 * 4 + 1 + 1 + 1
 let z9 := ns 3
 let z10 := some (Addr.mk g 0 none)
 let z11 := Sy.Cont.obj (Obj.cells (Array.mk [.int .i64 z4.i, .int .u64 (ns 1).i, .int .i64 z7.i, .int .i64 z9.i]) 127)
 let z12 := 0 + Int.toNat z7.i * 1
 let z13 := List.set xs z12 (Value.bool true)
 let z14 := 0 + Int.toNat z9.i * 1
 need (∃ (p : Option Addr), ∃ (n : Nat), ∃ (c : Nat), v = Value.slice p n c) (br (Ex.ltQ z0 (Int.ofNat (Sy.lenS v))) (need ((∃ (n : Nat), ∃ (c : Nat), v = Value.slice (some (Addr.mk z1 (Sy.offS v) none)) n c) ∧ 0 ≤ Int.ofNat i ∧ Int.ofNat i < (↑(Sy.lenS v) : Int)) (need (∃ (i_1 : Int), HasL z2 z1 z3 (Value.int .i64 i_1)) (hyp (∀ (u : Value), HasL z2 z1 z3 u → u = Value.int .i64 z4.i) (need (∃ (i_1 : Int), HasL z2 z1 z5 (Value.int .u64 i_1)) (hyp (∀ (u : Value), HasL z2 z1 z5 u → u = Value.int .u64 (ns 1).i) (need (∃ (i_1 : Int), HasL z2 z1 z6 (Value.int .i64 i_1)) (hyp (∀ (u : Value), HasL z2 z1 z6 u → u = Value.int .i64 z7.i) (need (∃ (i_1 : Int), HasL z2 z1 z8 (Value.int .i64 i_1)) (hyp (∀ (u : Value), HasL z2 z1 z8 u → u = Value.int .i64 z9.i) (br (bif Ex.eqQ z4.i 1 then true else Ex.eqQ z4.i 2) (br (!Ex.eqQ z7.i 0) (leaf (Exit.ret, 131, [v, Value.int .i64 loc, Value.bool false, Value.slice z10 n cap, Value.int .i64 z0], Blk.mk (ns 4).n z11 true :: Blk.mk g (Sy.Cont.row 4 1 n cap xs) true :: rdOf B)) (br (bif false then true else !Ex.eqQ z9.i 0) (leaf (Exit.ret, 131, [v, Value.int .i64 loc, Value.bool false, Value.slice z10 n cap, Value.int .i64 z0], Blk.mk (ns 4).n z11 true :: Blk.mk g (Sy.Cont.row 4 1 n cap xs) true :: rdOf B)) (br (Ex.eqQ z4.i 2) (br (bif false then true else bif true then Ex.leQ (Ex.wrapQ .u64 loc) (ns 1).i else false) (leaf (Exit.ret, 131, [v, Value.int .i64 loc, Value.bool false, Value.slice z10 n cap, Value.int .i64 z0], Blk.mk (ns 4).n z11 true ::
 Blk.mk g (Sy.Cont.row 4 1 n cap xs) true :: rdOf B)) (leaf (Exit.normal, 131, [v, Value.int .i64 loc, Value.bool false, Value.slice z10 n cap, Value.int .i64 (Ex.wrapQ .i64 (Ex.addQ z0 1))], Blk.mk (ns 4).n z11 true :: Blk.mk g (Sy.Cont.row 4 1 n cap xs) true :: rdOf B))) (leaf (Exit.normal, 131, [v, Value.int .i64 loc, Value.bool false, Value.slice z10 n cap, Value.int .i64 (Ex.wrapQ .i64 (Ex.addQ z0 1))], Blk.mk (ns 4).n z11 true :: Blk.mk g (Sy.Cont.row 4 1 n cap xs) true :: rdOf B))))) (br (bif bif bif bif Ex.ltQ z4.i 1 then true else Ex.ltQ 19 z4.i then true else !Ex.eqQ (ns 1).i 0 then true else Ex.ltQ z7.i 0 then true else Ex.leQ z0 z7.i) (leaf (Exit.ret, 131, [v, Value.int .i64 loc, Value.bool false, Value.slice z10 n cap, Value.int .i64 z0], Blk.mk (ns 4).n z11 true :: Blk.mk g (Sy.Cont.row 4 1 n cap xs) true :: rdOf B)) (need (0 ≤ z7.i ∧ z7.i < (↑n : Int)) (need (∃ (b : Bool), Sy.Cont.at (Sy.Cont.row 4 1 n cap xs) z12 = some (Value.bool b)) (hyp (Sy.Cont.at (Sy.Cont.row 4 1 n cap xs) z12 = some (Value.bool (ns 5).b)) (br (bif false then true else (ns 5).b) (leaf (Exit.ret, 131, [v, Value.int .i64 loc, Value.bool false, Value.slice z10 n cap, Value.int .i64 z0], Blk.mk (ns 4).n z11 true :: Blk.mk g (Sy.Cont.row 4 1 n cap xs) true :: rdOf B)) (need (0 ≤ z7.i ∧ z7.i < (↑n : Int)) (need (0 + Int.toNat z7.i * 1 < List.length xs) (br (Ex.leQ z4.i 5) (br (!Ex.eqQ z9.i 0) (leaf (Exit.ret, 131, [v, Value.int .i64 loc, Value.bool false, Value.slice z10 n cap, Value.int .i64
 z0], Blk.mk (ns 4).n z11 true :: Blk.mk g (Sy.Cont.row 4 1 n cap z13) true :: rdOf B)) (leaf (Exit.normal, 131, [v, Value.int .i64 loc, Value.bool false, Value.slice z10 n cap, Value.int .i64 (Ex.wrapQ .i64 (Ex.addQ z0 1))], Blk.mk (ns 4).n z11 true :: Blk.mk g (Sy.Cont.row 4 1 n cap z13) true :: rdOf B))) (br (bif Ex.ltQ z9.i 0 then true else Ex.leQ z0 z9.i) (leaf (Exit.ret, 131, [v, Value.int .i64 loc, Value.bool false, Value.slice z10 n cap, Value.int .i64 z0], Blk.mk (ns 4).n z11 true :: Blk.mk g (Sy.Cont.row 4 1 n cap z13) true :: rdOf B)) (need (0 ≤ z9.i ∧ z9.i < (↑n : Int)) (need (∃ (b : Bool), Sy.Cont.at (Sy.Cont.row 4 1 n cap z13) z14 = some (Value.bool b)) (hyp (Sy.Cont.at (Sy.Cont.row 4 1 n cap z13) z14 = some (Value.bool (ns 6).b)) (br (bif false then true else (ns 6).b) (leaf (Exit.ret, 131, [v, Value.int .i64 loc, Value.bool false, Value.slice z10 n cap, Value.int .i64 z0], Blk.mk (ns 4).n z11 true :: Blk.mk g (Sy.Cont.row 4 1 n cap z13) true :: rdOf B)) (need (0 ≤ z9.i ∧ z9.i < (↑n : Int)) (need (0 + Int.toNat z9.i * 1 < List.length z13) (leaf (Exit.normal, 131, [v, Value.int .i64 loc, Value.bool false, Value.slice z10 n cap, Value.int .i64 (Ex.wrapQ .i64 (Ex.addQ z0 1))], Blk.mk (ns 4).n z11 true :: Blk.mk g (Sy.Cont.row 4 1 n cap (List.set z13 z14 (Value.bool true))) true :: rdOf B))))))))))))))))))))))))))) (leaf (Exit.exit 0, 131, [v, Value.int .i64 loc, Value.bool false, Value.slice z10 n cap, Value.int .i64 z0], Blk.mk g (Sy.Cont.row 4 1 n cap xs) true ::
 rdOf B)))
theorem en1_run (v : Value) (loc : Int) (g n cap i : Nat) (xs : List Value) (f : Nat → Value) (B : List (Nat × Sy.Cont)) : Sy.Ran (Sy.pieceT Tryz.prog Sy.S0 50 fRExpr bodyE1 131 (slE v loc g n cap i) ((List.range 131).map f) (⟨g, .row 4 1 n cap xs, true⟩ :: rdOf B) [0, 1, 4, 5, 6]) en1_o (en1_R v loc g n cap i xs f B) := ⟨fun _ => by kernel_rfl, fun _ => by kernel_rfl⟩
open Go Go.RowKit
open Sy (Let Blk HasL)
def boolsV (l : List Bool) : List Value := l.map fun b => Value.bool b
def stepE (loc : Int) (i : Nat) (n : NodeD) (u : List Bool) : Option (List Bool) :=
 bif (bif Ex.eqQ n.op 1 then true else Ex.eqQ n.op 2) then
  (bif !Ex.eqQ n.a 0 then none else bif !Ex.eqQ n.b 0 then none
   else bif Ex.eqQ n.op 2 then (bif Ex.leQ (Ex.wrapQ .u64 loc) n.val then none else some u) else some u)
 else bif (bif bif bif bif Ex.ltQ n.op 1 then true else Ex.ltQ 19 n.op then true else !Ex.eqQ n.val 0 then true else Ex.ltQ n.a 0 then true else Ex.leQ (Int.ofNat i) n.a) then none
 else bif u.getD n.a.toNat false then none
 else bif Ex.leQ n.op 5 then (bif !Ex.eqQ n.b 0 then none else some (u.set n.a.toNat true))
 else bif (bif Ex.ltQ n.b 0 then true else Ex.leQ (Int.ofNat i) n.b) then none
 else bif (u.set n.a.toNat true).getD n.b.toNat false then none
 else some ((u.set n.a.toNat true).set n.b.toNat true)
def runE (loc : Int) : Nat → List NodeD → List Bool → Option (List Bool)
 | _, [], u => some u
 | i, n :: l, u => match stepE loc i n u with
   | none => none
   | some w => runE loc (i + 1) l w
theorem stepE_len {loc : Int} {i : Nat} {n : NodeD} {u w : List Bool} (h : stepE loc i n u = some w) : w.length = u.length := by
 have fin : ∀ {c : Bool} {x y : Option (List Bool)}, (bif c then x else y) = some w → (x = some w → w.length = u.length) → (y = some w → w.length = u.length) → w.length = u.length := fun {c x y} h h1 h2 => match c, h with
  | true, h => h1 h
  | false, h => h2 h
 have no : (none : Option (List Bool)) = some w → w.length = u.length := fun h => by cases h
 have yes : ∀ {x : List Bool}, x.length = u.length → some x = some w → w.length = u.length := fun hx h => by injection h with h; rw [← h, hx]
 exact fin h (fun h => fin h no fun h => fin h no fun h => fin h (fun h => fin h no (yes rfl)) (yes rfl)) fun h => fin h no fun h => fin h no fun h => fin h (fun h => fin h no (yes (by simp))) fun h => fin h no fun h => fin h no (yes (by simp))
theorem row_bools {t n cap : Nat} {u : List Bool} {i : Nat} (h : i < u.length) : (Sy.Cont.row t 1 n cap (boolsV u)).at (0 + i * 1) = some (.bool (u.getD i false)) := by
 simp [Sy.Cont.at, boolsV, h, List.getD_eq_getElem?_getD]
theorem bools_set {u : List Bool} {i : Nat} : (boolsV u).set (0 + i * 1) (.bool true) = boolsV (u.set i true) := by
 simp [boolsV]
def allE (loc : Int) (l : List NodeD) : Option (List Bool) := runE loc 0 l (List.replicate l.length false)
def loopE1C (B : List (Nat × Sy.Cont)) (v : Value) (loc : Int) (l : List NodeD) (g cap : Nat) : Sy.LoopC :=
 ⟨.loop bodyE1, 131, slE v loc g l.length cap 0, OkX B v l, ⟨[], [(g, .row 4 1 l.length cap (boolsV (List.replicate l.length false)))], 0, B⟩,
  [(⟨fun _ => allE loc l = none, fun _ => [], fun _ => []⟩, .ret, fun _ => [(4, .bool false)]),
   (⟨fun _ => allE loc l ≠ none, fun _ => [(g, .row 4 1 l.length cap (boolsV ((allE loc l).getD [])))], fun _ => []⟩, .exit 0, fun _ => [(0, v), (1, .int .i64 loc), (4, .bool false), (5, .slice (some ⟨g, 0, none⟩) l.length cap)])]⟩
theorem loopE1C_met (B : List (Nat × Sy.Cont)) (v : Value) (loc : Int) (l : List NodeD) (g cap : Nat) : Sy.MeetsL Tryz.prog (loopE1C B v loc l g cap) := by
 refine Sy.loop_ofB (σ := Nat × List Bool) (S := fun _ => Sy.S0) (n := 50) (fn := fRExpr) (fun _ => Sy.S0_holds) mixed (body := bodyE1) rfl [0, 1, 4, 5, 6] (fun s => slE v loc g l.length cap s.1)
  (fun s => ⟨g, .row 4 1 l.length cap (boolsV s.2), true⟩ :: rdOf B) (fun s => s.1 ≤ l.length ∧ OkX B v l ∧ s.2.length = l.length ∧ allE loc l = runE loc s.1 (l.drop s.1) s.2) (fun s => l.length - s.1)
  (0, List.replicate l.length false) (fun h => ⟨Nat.zero_le _, h, by simp, rfl⟩) (fun p hp => hp) (Sy.Ent.refl _) (o := fun _ => en1_o) (R := fun s f => en1_R v loc g l.length cap s.1 _ f B) (fun s f _ => en1_run v loc g l.length cap s.1 _ f B) ?_
 rintro - ⟨k, u⟩ f ⟨hk, ⟨hR, hlen⟩, hul, hall⟩ ns
 simp only at hk hul hall
 simp only [en1_R, Sy.Res.holds]
 refine ⟨hR.sl, fun hlt => ?_, fun hge => ?_⟩
 ·have hlt : k < l.length := by rw [Ex.ltQ_eq, hR.len] at hlt; simpa using hlt
  obtain ⟨n, hn⟩ : ∃ n, l[k]? = some n := ⟨_, List.getElem?_eq_getElem hlt⟩
  have hdrop : l.drop k = n :: l.drop (k + 1) := by
   rw [List.drop_eq_getElem_cons hlt]
   rw [List.getElem?_eq_getElem hlt] at hn
   injection hn with hn
   rw [hn]
  rw [hdrop] at hall
  have next : ∀ (w : List Bool) (x : Blk), stepE loc k n u = some w → Sy.leafLB (loopE1C B v loc l g cap) [0, 1, 4, 5, 6] (fun s => slE v loc g l.length cap s.1) (fun s => ⟨g, .row 4 1 l.length cap (boolsV s.2), true⟩ :: rdOf B) (fun s => s.1 ≤ l.length ∧ OkX B v l ∧ s.2.length = l.length ∧ allE loc l = runE loc s.1 (l.drop s.1) s.2) (fun s => l.length - s.1) (k, u)
    (.normal, 131, [v, .int .i64 loc, .bool false, .slice (some ⟨g, 0, none⟩) l.length cap, .int .i64 (Ex.wrapQ .i64 (Ex.addQ (Int.ofNat k) 1))], x :: ⟨g, .row 4 1 l.length cap (boolsV w), true⟩ :: rdOf B) := fun w x hw => by
   refine ⟨rfl, .inl ⟨rfl, (k + 1, w), ⟨by show k + 1 ≤ l.length; omega, ⟨hR, hlen⟩, by rw [← hul]; exact stepE_len hw, ?_⟩, by show l.length - (k + 1) < l.length - k; omega, ?_, ent_tail⟩⟩
   ·rw [hall]
    simp only [runE, hw]
   ·rw [w_succ (by omega)]
    rfl
  have stop : ∀ (L : List Blk), stepE loc k n u = none → Sy.leafLB (loopE1C B v loc l g cap) [0, 1, 4, 5, 6] (fun s => slE v loc g l.length cap s.1) (fun s => ⟨g, .row 4 1 l.length cap (boolsV s.2), true⟩ :: rdOf B) (fun s => s.1 ≤ l.length ∧ OkX B v l ∧ s.2.length = l.length ∧ allE loc l = runE loc s.1 (l.drop s.1) s.2) (fun s => l.length - s.1) (k, u)
    (.ret, 131, [v, .int .i64 loc, .bool false, .slice (some ⟨g, 0, none⟩) l.length cap, .int .i64 (Int.ofNat k)], L) := fun L hw => by
   refine ⟨rfl, .inr ⟨by simp, _, Sy.mH, rfl, [], rfl, ⟨[2], rfl⟩, Sy.Ent.sub (List.nil_sublist _), ?_⟩⟩
   show allE loc l = none
   rw [hall]
   simp only [runE, hw]
  refine ⟨⟨hR.at_ (fun h => by rw [h] at hlt; simp at hlt), by simp, by rw [hR.len]; simpa using hlt⟩, ⟨n.op, hR.op k n hn⟩, fun e0 => ⟨⟨n.val, hR.val k n hn⟩, fun e1 => ⟨⟨n.a, hR.a k n hn⟩, fun e2 => ⟨⟨n.b, hR.b k n hn⟩, fun e3 => ?_⟩⟩⟩⟩
  have e0 := e0 _ (hR.op k n hn)
  have e1 := e1 _ (hR.val k n hn)
  have e2 := e2 _ (hR.a k n hn)
  have e3 := e3 _ (hR.b k n hn)
  simp only [Value.int.injEq, true_and] at e0 e1 e2 e3
  rw [← e0, ← e1, ← e2, ← e3]
  have inr : ∀ {x : Int}, (bif Ex.ltQ x 0 then true else Ex.leQ (Int.ofNat k) x) = false → (0 ≤ x ∧ x < (l.length : Int)) ∧ x.toNat < u.length := fun {x} h => by
   rw [Ex.ltQ_eq, Ex.leQ_eq] at h
   by_cases h0 : x < 0
   ·simp [h0] at h
   ·simp [h0] at h
    omega
  refine ⟨fun h1 => ⟨fun h2 => stop _ ?_, fun h2 => ⟨fun h3 => stop _ ?_, fun h3 => ⟨fun h4 => ⟨fun h5 => stop _ ?_, fun h5 => next _ _ ?_⟩, fun h4 => next _ _ ?_⟩⟩⟩, fun h1 => ⟨fun h2 => stop _ ?_, fun h2 => ?_⟩⟩
  ·unfold stepE; rw [h1, h2]; rfl
  ·unfold stepE; rw [h1, h2, show (!Ex.eqQ n.b 0) = true from h3]; rfl
  ·unfold stepE; rw [h1, h2, show (!Ex.eqQ n.b 0) = false from h3, h4, show Ex.leQ (Ex.wrapQ .u64 loc) n.val = true from h5]; rfl
  ·unfold stepE; rw [h1, h2, show (!Ex.eqQ n.b 0) = false from h3, h4, show Ex.leQ (Ex.wrapQ .u64 loc) n.val = false from h5]; rfl
  ·unfold stepE; rw [h1, h2, show (!Ex.eqQ n.b 0) = false from h3, h4]; rfl
  ·unfold stepE; rw [h1, h2]; rfl
  ·have hA : (bif Ex.ltQ n.a 0 then true else Ex.leQ (Int.ofNat k) n.a) = false := by
    revert h2
    generalize (bif bif Ex.ltQ n.op 1 then true else Ex.ltQ 19 n.op then true else !Ex.eqQ n.val 0) = c
    cases c <;> simp
   obtain ⟨ha, hau⟩ := inr hA
   refine ⟨ha, ⟨_, row_bools hau⟩, fun e5 => ?_⟩
   rw [row_bools hau] at e5
   simp only [Option.some.injEq, Value.bool.injEq] at e5
   rw [← e5]
   simp only [bools_set]
   refine ⟨fun h3 => stop _ ?_, fun h3 => ⟨ha, by simp [boolsV]; omega, fun h4 => ⟨fun h5 => stop _ ?_, fun h5 => next _ _ ?_⟩, fun h4 => ⟨fun h5 => stop _ ?_, fun h5 => ?_⟩⟩⟩
   ·unfold stepE; rw [h1, h2, show u.getD n.a.toNat false = true from h3]; rfl
   ·unfold stepE; rw [h1, h2, show u.getD n.a.toNat false = false from h3, h4, h5]; rfl
   ·unfold stepE; rw [h1, h2, show u.getD n.a.toNat false = false from h3, h4, h5]; rfl
   ·unfold stepE; rw [h1, h2, show u.getD n.a.toNat false = false from h3, h4, h5]; rfl
   ·obtain ⟨hb, hbu⟩ := inr h5
    have hbw : n.b.toNat < (u.set n.a.toNat true).length := by simpa using hbu
    refine ⟨hb, ⟨_, row_bools hbw⟩, fun e6 => ?_⟩
    rw [row_bools hbw] at e6
    simp only [Option.some.injEq, Value.bool.injEq] at e6
    rw [← e6]
    refine ⟨fun h6 => stop _ ?_, fun h6 => ⟨hb, by simp [boolsV]; omega, next _ _ ?_⟩⟩
    ·unfold stepE; rw [h1, h2, show u.getD n.a.toNat false = false from h3, h4, h5, show (u.set n.a.toNat true).getD n.b.toNat false = true from h6]; rfl
    ·unfold stepE; rw [h1, h2, show u.getD n.a.toNat false = false from h3, h4, h5, show (u.set n.a.toNat true).getD n.b.toNat false = false from h6]; rfl
 ·have hge : k = l.length := by rw [Ex.ltQ_eq, hR.len] at hge; simp at hge; omega
  subst hge
  have hall : allE loc l = some u := by rw [hall]; simp [runE]
  refine ⟨rfl, .inr ⟨by simp, _, Sy.mC _ (Sy.mS _), rfl, [], rfl, ⟨[0, 1, 2, 3], rfl⟩, ?_, ?_⟩⟩
  ·show Sy.Ent _ (⟨g, .row 4 1 l.length cap (boolsV ((allE loc l).getD [])), true⟩ :: [])
   rw [hall]
   exact Sy.Ent.sub (List.Sublist.cons_cons _ (List.nil_sublist _))
  ·show allE loc l ≠ none
   rw [hall]
   simp
def lacksU (m : Nat) (u : List Bool) : Prop := ∃ i, i + 1 < m ∧ u.getD i false = false
def loopE2C (B : List (Nat × Sy.Cont)) (v : Value) (loc : Int) (l : List NodeD) (u : List Bool) (g cap : Nat) : Sy.LoopC :=
 ⟨.loop bodyE2, 131, slE2 v loc g l.length cap 0, NodesR B v l ∧ l.length ≤ 65536 ∧ u.length = l.length, ⟨[], [(g, .row 4 1 l.length cap (boolsV u))], 0, B⟩,
  [(⟨fun _ => lacksU l.length u, fun _ => [], fun _ => []⟩, .ret, fun _ => [(4, .bool false)]),
   (⟨fun _ => ¬ lacksU l.length u, fun _ => [], fun _ => []⟩, .exit 2, fun _ => [])]⟩
theorem loopE2C_met (B : List (Nat × Sy.Cont)) (v : Value) (loc : Int) (l : List NodeD) (u : List Bool) (g cap : Nat) : Sy.MeetsL Tryz.prog (loopE2C B v loc l u g cap) := by
 refine Sy.loop_ofB (S := fun _ : Nat => Sy.S0) (n := 50) (fn := fRExpr) (fun _ => Sy.S0_holds) mixed (body := bodyE2) rfl [0, 1, 4, 5, 8] (fun k : Nat => slE2 v loc g l.length cap k)
  (fun _ => ⟨g, .row 4 1 l.length cap (boolsV u), true⟩ :: rdOf B) (fun k => k ≤ l.length ∧ (NodesR B v l ∧ l.length ≤ 65536 ∧ u.length = l.length) ∧ ∀ i, i < k → i + 1 < l.length → u.getD i false = true) (fun k => l.length - k)
  0 (fun h => ⟨Nat.zero_le _, h, fun i hi => by omega⟩) (fun p hp => hp) (Sy.Ent.refl _) (o := fun _ => en2_o) (R := fun k f => en2_R v loc g l.length cap k _ f B) (fun k f _ => en2_run v loc g l.length cap k _ f B) ?_
 rintro - k f ⟨hk, ⟨hR, hlen, hul⟩, hinv⟩ ns
 simp only [en2_R, Sy.Res.holds]
 refine ⟨hR.sl, fun hlt => ?_, fun hge => ?_⟩
 ·have hlt : k + 1 < l.length := by rw [hR.len, sub_one hlen, Ex.ltQ_eq] at hlt; simp at hlt; omega
  have hku : k < u.length := by omega
  refine ⟨⟨by simp, by simp; omega⟩, ⟨_, row_bools hku⟩, fun e0 => ?_⟩
  rw [show Int.toNat (Int.ofNat k) = k from rfl, row_bools hku] at e0
  simp only [Option.some.injEq, Value.bool.injEq] at e0
  rw [← e0]
  refine ⟨fun h => ?_, fun h => ?_⟩
  ·exact ⟨rfl, .inr ⟨by simp, _, Sy.mH, rfl, [], rfl, ⟨[2], rfl⟩, Sy.Ent.sub (List.nil_sublist _), k, hlt, by simpa using h⟩⟩
  ·refine ⟨rfl, .inl ⟨rfl, k + 1, ⟨by omega, ⟨hR, hlen, hul⟩, fun i hi hxi => ?_⟩, by show l.length - (k + 1) < l.length - k; omega, ?_, Sy.Ent.refl _⟩⟩
   ·by_cases he : i = k
    ·subst he
     simpa using h
    ·exact hinv i (by omega) hxi
   ·rw [w_succ (by omega)]
    rfl
 ·have hge : l.length ≤ k + 1 := by rw [hR.len, sub_one hlen, Ex.ltQ_eq] at hge; simp at hge; omega
  refine ⟨rfl, .inr ⟨by simp, _, Sy.mC _ (Sy.mS _), rfl, [], rfl, ⟨[], rfl⟩, Sy.Ent.sub (List.nil_sublist _), ?_⟩⟩
  rintro ⟨i, hi, hp⟩
  rw [hinv i (by omega) hi] at hp
  cases hp
def loopE1D (B : List (Nat × Sy.Cont)) (v : Value) (loc : Int) (l : List NodeD) (g cap : Nat) : Sy.LoopC :=
 ⟨.loop bodyE1, 131, slE v loc g (Sy.lenS v) cap 0, OkX B v l, ⟨[], [(g, .row 4 1 (Sy.lenS v) cap (List.replicate (Sy.lenS v) (.bool false)))], 0, B⟩,
  [(⟨fun _ => allE loc l = none, fun _ => [], fun _ => []⟩, .ret, fun _ => [(4, .bool false)]),
   (⟨fun _ => allE loc l ≠ none, fun _ => [(g, .row 4 1 (Sy.lenS v) cap (boolsV ((allE loc l).getD [])))], fun _ => []⟩, .exit 0, fun _ => [(0, v), (1, .int .i64 loc), (4, .bool false), (5, .slice (some ⟨g, 0, none⟩) (Sy.lenS v) cap)])]⟩
theorem loopE1D_met (B : List (Nat × Sy.Cont)) (v : Value) (loc : Int) (l : List NodeD) (g cap : Nat) : Sy.MeetsL Tryz.prog (loopE1D B v loc l g cap) := fun hok => by
 have e : Sy.lenS v = l.length := hok.1.len
 have h := loopE1C_met B v loc l g cap hok
 unfold loopE1D
 rw [e]
 have hz : boolsV (List.replicate l.length false) = List.replicate l.length (.bool false) := by simp [boolsV]
 unfold loopE1C at h
 rw [hz] at h
 exact h
def loopE2D (B : List (Nat × Sy.Cont)) (v : Value) (loc : Int) (l : List NodeD) (u : List Bool) (g cap : Nat) : Sy.LoopC :=
 ⟨.loop bodyE2, 131, slE2 v loc g (Sy.lenS v) cap 0, NodesR B v l ∧ l.length ≤ 65536 ∧ u.length = l.length, ⟨[], [(g, .row 4 1 (Sy.lenS v) cap (boolsV u))], 0, B⟩,
  [(⟨fun _ => lacksU l.length u, fun _ => [], fun _ => []⟩, .ret, fun _ => [(4, .bool false)]),
   (⟨fun _ => ¬ lacksU l.length u, fun _ => [], fun _ => []⟩, .exit 2, fun _ => [])]⟩
theorem loopE2D_met (B : List (Nat × Sy.Cont)) (v : Value) (loc : Int) (l : List NodeD) (u : List Bool) (g cap : Nat) : Sy.MeetsL Tryz.prog (loopE2D B v loc l u g cap) := fun hok => by
 have e : Sy.lenS v = l.length := hok.1.len
 have h := loopE2C_met B v loc l u g cap hok
 unfold loopE2D
 rw [e]
 exact h
def ctxE (B : List (Nat × Sy.Cont)) (v : Value) (loc : Int) (l : List NodeD) : Sy.Ctx := Sy.mkS [] [(fRExpr, fun a _ => loopE1D B v loc l (Sy.ptrN (a.get 5)) (Sy.capN (a.get 5))), (fRExpr, fun a _ => loopE2D B v loc l ((allE loc l).getD []) (Sy.ptrN (a.get 5)) (Sy.capN (a.get 5)))] []
theorem ctxE_holds (B : List (Nat × Sy.Cont)) (v : Value) (loc : Int) (l : List NodeD) : (ctxE B v loc l).holds Tryz.prog := Sy.mkS_holds (fun _ h => (by cases h)) (fun p hp a L => by
 rcases List.mem_cons.1 hp with rfl | hp
 ·exact loopE1D_met _ _ _ _ _ _
 rcases List.mem_singleton.1 hp with rfl
 exact loopE2D_met _ _ _ _ _ _ _) (fun _ h => (by cases h))
open Go Go.RowKit
open Sy (Let Blk HasL)
def enx_o : Sy.O := (bz 6 0x2a (fork nil (bz 13 0x1aea (fork (steps [0, 1] nil) (bz 11 0x6b5 (fork (steps [0, 1] nil) (steps [0, 1] nil)))))))
noncomputable def enx_R (B : List (Nat × Sy.Cont)) (v : Value) (loc : Int) (l : List NodeD) (ns : Nat → Sy.Let) : Sy.Res (Value × List Blk) :=
 let z0 := (∃ (p : Option Addr), ∃ (n : Nat), ∃ (c : Nat), v = Value.slice p n c)
 let z1 := Sy.lenS v
 let z2 := Int.ofNat z1
 let z3 := [] ++ rdOf B
 let z4 := match allE loc l with | some x => x | none => []
 let z5 := [] ++ List.eraseIdx (Blk.mk (ns 0).n (Sy.Cont.row 4 1 z1 (Int.toNat z2) (boolsV z4)) true :: z3) (nat_lit 0)
 need z0 (need z0 (br (bif Ex.eqQ z2 0 then true else Ex.ltQ 65536 z2) (leaf (Value.bool false, rdOf B)) (need z0 (need (0 ≤ Int.ofNat z1 ∧ Int.toNat z2 * (1 : Nat) ≤ 281474976710656 ∧ Int.toNat z2 ≤ 9223372036854775807) (need (NodesR B v l ∧ List.length l < 4398046511104) (need (Sy.GotL z3 B) (both (hyp (allE loc l = none) (leaf (Value.bool false, [] ++ z3))) (hyp (allE loc l = none → False) (need (NodesR B v l ∧ List.length l ≤ 65536 ∧ List.length z4 = List.length l) (need (Sy.GotL z5 B) (both (hyp (∃ (i : Nat), i + 1 < List.length l ∧ List.getD z4 i false = false) (leaf (Value.bool false, [] ++ z5))) (hyp (lacksU (List.length l) z4 → False) (leaf (Value.bool true, [] ++ z5))))))))))))))
theorem enx_run (B : List (Nat × Sy.Cont)) (v : Value) (loc : Int) (l : List NodeD) : Sy.Ran (Sy.inB Tryz.prog (ctxE B v loc l) 50 fRExpr #[v, .int .i64 loc] (rdOf B)) enx_o (enx_R B v loc l) := ⟨fun _ => by kernel_rfl, fun _ => by kernel_rfl⟩
theorem runE_len {loc : Int} : ∀ {l : List NodeD} {i : Nat} {u w : List Bool}, runE loc i l u = some w → w.length = u.length
 | [], _, u, w, h => by injection h with h; rw [h]
 | n :: l, i, u, w, h => by
   simp only [runE] at h
   split at h
   ·cases h
   ·rename_i x hx
    rw [runE_len h, stepE_len hx]
theorem allE_len {loc : Int} {l : List NodeD} {w : List Bool} (h : allE loc l = some w) : w.length = l.length := by
 rw [runE_len h]
 simp
open Classical in

def exprR (loc : Int) (l : List NodeD) : Bool := decide (0 < l.length ∧ l.length ≤ 65536 ∧ ∃ u, allE loc l = some u ∧ ¬ lacksU l.length u)
def rexprC (B : List (Nat × Sy.Cont)) (v : Value) (l : List NodeD) (loc : Int) : Sy.CallC := ⟨fRExpr, #[v, .int .i64 loc], OkX B v l, ⟨[], [], 0, B⟩, [Sy.plainO (.bool (exprR loc l))]⟩
open Classical in
theorem rexprC_met (B : List (Nat × Sy.Cont)) (v : Value) (l : List NodeD) (loc : Int) : Sy.Meets Tryz.prog (rexprC B v l loc) := by
 refine Sy.meets_ofB (ctxE_holds B v loc l) mixed (L := rdOf B) (Sy.Ent.refl _) (enx_run B v loc l) fun hok ns => ?_
 obtain ⟨hR, hlen⟩ := hok
 have leaf : ∀ (b : Bool) (L : List Blk), b = exprR loc l → Sy.leafB (rexprC B v l loc) (.bool b, L) := fun b L h => plainB_leaf (Sy.mS _) rfl (by rw [h])
 simp only [enx_R, Sy.Res.holds]
 have e : Int.toNat (Int.ofNat (Sy.lenS v)) = l.length := by rw [hR.len]; rfl
 refine ⟨hR.sl, hR.sl, fun hb => leaf _ _ ?_, fun hb => ?_⟩
 ·refine (decide_eq_false ?_).symm
  rintro ⟨h0, h1, _⟩
  rw [hR.len, Ex.eqQ_eq, Ex.ltQ_eq] at hb
  have h2 : l ≠ [] := fun h => by rw [h] at h0; simp at h0
  simp [h2] at hb
  omega
 ·have hl : 0 < l.length ∧ l.length ≤ 65536 := by
   rw [hR.len, Ex.eqQ_eq, Ex.ltQ_eq] at hb
   cases hl : l with
   | nil => rw [hl] at hb; simp at hb
   | cons a r =>
     rw [hl] at hb
     simp at hb
     simp
     omega
  refine ⟨hR.sl, ⟨by simp, by rw [e]; omega, by rw [e]; omega⟩, ⟨hR, hlen⟩, gotL_of (fun p hp => by simpa using hp), fun h => leaf _ _ ?_, fun h => ?_⟩
  ·refine (decide_eq_false ?_).symm
   rintro ⟨_, _, u, hu, _⟩
   rw [h] at hu
   cases hu
  ·cases hu : allE loc l with
   | none => exact absurd hu h
   | some u =>
     refine ⟨⟨hR, hl.2, allE_len hu⟩, gotL_of (fun p hp => by simp [hp]), fun h => leaf _ _ ?_, fun h => leaf _ _ ?_⟩
     ·refine (decide_eq_false ?_).symm
      rintro ⟨_, _, w, hw, hn⟩
      rw [hu] at hw
      injection hw with hw
      subst hw
      exact hn h
     ·exact (decide_eq_true ⟨hl.1, hl.2, u, hu, h⟩).symm
open Go Go.RowKit
open Sy (Let Blk HasL)
abbrev fRPower : FuncId := 39
abbrev fRMay : FuncId := 36
abbrev fRsets : FuncId := 37
abbrev fRplaced : FuncId := 38
abbrev fRAct : FuncId := 26
def rmy_o : Sy.O := (fork (steps [1, 1] nil) (fork (steps [1, 1] nil) (fork (steps [0, 1] nil) (fork (steps [0, 1] nil) (fork (steps [1] nil) (fork (steps [1] nil) nil))))))
noncomputable def rmy_R (op mode : Int) (ns : Nat → Sy.Let) : Sy.Res (Value × List Blk) :=
 let z0 := leaf (Value.bool (bif Ex.leQ 1 mode then Ex.leQ mode 5 else false), [])
 br (Ex.eqQ op 2) (leaf (Value.bool (bif bif Ex.eqQ mode 1 then true else Ex.eqQ mode 2 then true else Ex.eqQ mode 5), [])) (br (Ex.eqQ op 3) (leaf (Value.bool (bif bif Ex.eqQ mode 1 then true else Ex.eqQ mode 3 then true else Ex.eqQ mode 5), [])) (br (Ex.eqQ op 4) z0 (br (Ex.eqQ op 5) z0 (br (Ex.eqQ op 6) z0 (br (Ex.eqQ op 7) (leaf (Value.bool (bif Ex.leQ 2 mode then Ex.leQ mode 5 else false), [])) (leaf (Value.bool (Ex.eqQ mode 0), [])))))))
theorem rmy_run (op mode : Int) : Sy.Ran (Sy.inB Tryz.prog Sy.S0 50 fRMay #[.int .i64 op, .int .i64 mode] []) rmy_o (rmy_R op mode) := ⟨fun _ => by kernel_rfl, fun _ => by kernel_rfl⟩
def rst_o : Sy.O := (bz 8 0xaa nil)
noncomputable def rst_R (op : Int) (ns : Nat → Sy.Let) : Sy.Res (Value × List Blk) :=
 leaf (Value.bool (bif bif bif bif Ex.eqQ op 1 then true else Ex.eqQ op 2 then true else Ex.eqQ op 4 then true else Ex.eqQ op 5 then true else Ex.eqQ op 6), [])
theorem rst_run (op : Int) : Sy.Ran (Sy.inB Tryz.prog Sy.S0 50 fRsets #[.int .i64 op] []) rst_o (rst_R op) := ⟨fun _ => by kernel_rfl, fun _ => by kernel_rfl⟩
def rpl_o : Sy.O := (bz 8 0xaa nil)
noncomputable def rpl_R (op : Int) (ns : Nat → Sy.Let) : Sy.Res (Value × List Blk) :=
 leaf (Value.bool (bif bif bif bif Ex.eqQ op 2 then true else Ex.eqQ op 3 then true else Ex.eqQ op 4 then true else Ex.eqQ op 5 then true else Ex.eqQ op 6), [])
theorem rpl_run (op : Int) : Sy.Ran (Sy.inB Tryz.prog Sy.S0 50 fRplaced #[.int .i64 op] []) rpl_o (rpl_R op) := ⟨fun _ => by kernel_rfl, fun _ => by kernel_rfl⟩
def rpw_o : Sy.O := (steps [0] (fork nil (steps [0] (fork nil (steps [0] (fork nil (steps [0] (fork nil (steps [0] (fork nil (steps [0] (fork nil (steps [0] (fork nil (steps [0] (fork nil (steps [0] (fork nil (steps [0] (fork nil (steps [0] (fork nil (steps [0] nil)))))))))))))))))))))))
noncomputable def rpw_R (n : Int) (ns : Nat → Sy.Let) : Sy.Res (Value × List Blk) :=
 let z0 := leaf (Value.bool true, [])
 br (Ex.eqQ 1 n) z0 (br (Ex.eqQ 2 n) z0 (br (Ex.eqQ 4 n) z0 (br (Ex.eqQ 8 n) z0 (br (Ex.eqQ 16 n) z0 (br (Ex.eqQ 32 n) z0 (br (Ex.eqQ 64 n) z0 (br (Ex.eqQ 128 n) z0 (br (Ex.eqQ 256 n) z0 (br (Ex.eqQ 512 n) z0 (br (Ex.eqQ 1024 n) z0 (leaf (Value.bool false, []))))))))))))
theorem rpw_run (n : Int) : Sy.Ran (Sy.inB Tryz.prog Sy.S0 50 fRPower #[.int .i64 n] []) rpw_o (rpw_R n) := ⟨fun _ => by kernel_rfl, fun _ => by kernel_rfl⟩
def rmayC (op mode : Int) : Sy.CallC := ⟨fRMay, #[.int .i64 op, .int .i64 mode], True, ⟨[], [], 0, []⟩, [Sy.plainO (.bool (mayF op mode))]⟩
theorem rmayC_met (op mode : Int) : Sy.Meets Tryz.prog (rmayC op mode) := by
 refine Sy.meets_ofB Sy.S0_holds mixed (L := []) (Sy.Ent.refl _) (rmy_run op mode) fun _ ns => ?_
 simp only [rmy_R, Sy.Res.holds]
 have leaf : ∀ b, b = mayF op mode → Sy.leafB (rmayC op mode) (.bool b, []) := fun b h => plainB_leaf (Sy.mS _) rfl (by rw [h])
 unfold mayF at leaf
 refine ⟨fun h1 => leaf _ ?_, fun h1 => ⟨fun h2 => leaf _ ?_, fun h2 => ⟨fun h3 => leaf _ ?_, fun h3 => ⟨fun h4 => leaf _ ?_, fun h4 => ⟨fun h5 => leaf _ ?_, fun h5 => ⟨fun h6 => leaf _ ?_, fun h6 => leaf _ ?_⟩⟩⟩⟩⟩⟩
 all_goals simp_all
def setsC (op : Int) : Sy.CallC := ⟨fRsets, #[.int .i64 op], True, ⟨[], [], 0, []⟩, [Sy.plainO (.bool (hasDst op))]⟩
theorem setsC_met (op : Int) : Sy.Meets Tryz.prog (setsC op) := by
 refine Sy.meets_ofB Sy.S0_holds mixed (L := []) (Sy.Ent.refl _) (rst_run op) fun _ ns => ?_
 simp only [rst_R, Sy.Res.holds]
 refine plainB_leaf (Sy.mS _) rfl ?_
 simp only [Ex.eqQ_eq, hasDst]
 by_cases h1 : op = 1 <;> by_cases h2 : op = 2 <;> by_cases h4 : op = 4 <;> by_cases h5 : op = 5 <;> by_cases h6 : op = 6 <;> simp [h1, h2, h4, h5, h6]
def placedC (op : Int) : Sy.CallC := ⟨fRplaced, #[.int .i64 op], True, ⟨[], [], 0, []⟩, [Sy.plainO (.bool (hasPlace op))]⟩
theorem placedC_met (op : Int) : Sy.Meets Tryz.prog (placedC op) := by
 refine Sy.meets_ofB Sy.S0_holds mixed (L := []) (Sy.Ent.refl _) (rpl_run op) fun _ ns => ?_
 simp only [rpl_R, Sy.Res.holds]
 refine plainB_leaf (Sy.mS _) rfl ?_
 have e : hasPlace op = decide (op = 2 ∨ op = 3 ∨ op = 4 ∨ op = 5 ∨ op = 6) := by
  unfold hasPlace
  congr 1
  exact propext ⟨fun h => by omega, fun h => by omega⟩
 simp only [Ex.eqQ_eq, e]
 by_cases h1 : op = 2 <;> by_cases h2 : op = 3 <;> by_cases h4 : op = 4 <;> by_cases h5 : op = 5 <;> by_cases h6 : op = 6 <;> simp [h1, h2, h4, h5, h6]
def powF (n : Int) : Bool := decide (n = 1 ∨ n = 2 ∨ n = 4 ∨ n = 8 ∨ n = 16 ∨ n = 32 ∨ n = 64 ∨ n = 128 ∨ n = 256 ∨ n = 512 ∨ n = 1024)
def powC (n : Int) : Sy.CallC := ⟨fRPower, #[.int .i64 n], True, ⟨[], [], 0, []⟩, [Sy.plainO (.bool (powF n))]⟩
theorem powC_met (n : Int) : Sy.Meets Tryz.prog (powC n) := by
 refine Sy.meets_ofB Sy.S0_holds mixed (L := []) (Sy.Ent.refl _) (rpw_run n) fun _ ns => ?_
 simp only [rpw_R, Sy.Res.holds]
 have leaf : ∀ b, b = powF n → Sy.leafB (powC n) (.bool b, []) := fun b h => plainB_leaf (Sy.mS _) rfl (by rw [h])
 simp only [Ex.eqQ_eq]
 repeat' (first | apply And.intro | intro _)
 all_goals
  refine leaf _ ?_
  simp only [beq_iff_eq, beq_eq_false_iff_ne, ne_eq] at *
  first
  | exact (decide_eq_true (by omega)).symm
  | exact (decide_eq_false (by omega)).symm
def ctxR (B : List (Nat × Sy.Cont)) (op size mode : Int) (iv ev fv : Value) (ix e f : List NodeD) (loc : Int) : Sy.Ctx := Sy.mkS [(fRMay, fun _ _ => rmayC op mode), (fRsets, fun _ _ => setsC op), (fRplaced, fun _ _ => placedC op), (fRPower, fun _ _ => powC size), (fRExpr, fun _ _ => rexprC B iv ix loc), (fRExpr, fun _ _ => rexprC B ev e loc), (fRExpr, fun _ _ => rexprC B fv f loc)] [] []
theorem ctxR_holds (B : List (Nat × Sy.Cont)) (op size mode : Int) (iv ev fv : Value) (ix e f : List NodeD) (loc : Int) : (ctxR B op size mode iv ev fv ix e f loc).holds Tryz.prog := Sy.mkS_holds (fun p hp a L => by
 simp only [List.mem_cons, List.not_mem_nil, or_false] at hp
 rcases hp with rfl | rfl | rfl | rfl | rfl | rfl | rfl
 ·exact rmayC_met _ _
 ·exact setsC_met _
 ·exact placedC_met _
 ·exact powC_met _
 ·exact rexprC_met _ _ _ _
 ·exact rexprC_met _ _ _ _
 ·exact rexprC_met _ _ _ _) (fun _ h => (by cases h)) (fun _ h => (by cases h))
def setsX (op : Int) : Sy.CallC := ⟨fRsets, #[.int .i64 op], False, ⟨[], [], 0, []⟩, [Sy.plainO (.bool false)]⟩
def placedX (op : Int) : Sy.CallC := ⟨fRplaced, #[.int .i64 op], False, ⟨[], [], 0, []⟩, [Sy.plainO (.bool false)]⟩
def exprX (args : Array Value) : Sy.CallC := ⟨fRExpr, args, False, ⟨[], [], 0, []⟩, [Sy.plainO (.bool false)]⟩
def ctxZ (op mode : Int) : Sy.Ctx := Sy.mkS [(fRMay, fun _ _ => rmayC op mode), (fRsets, fun _ _ => setsX op), (fRplaced, fun _ _ => placedX op), (fRExpr, fun args _ => exprX args)] [] []
theorem ctxZ_holds (op mode : Int) : (ctxZ op mode).holds Tryz.prog := Sy.mkS_holds (fun p hp a L => by
 simp only [List.mem_cons, List.not_mem_nil, or_false] at hp
 rcases hp with rfl | rfl | rfl | rfl
 ·exact rmayC_met _ _
 ·exact fun h => h.elim
 ·exact fun h => h.elim
 ·exact fun h => h.elim) (fun _ h => (by cases h)) (fun _ h => (by cases h))
end Go.Proofs.YtlpcnaeknbmjdaaGreat
end
