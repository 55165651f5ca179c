/-
  The reference: a copy of a program, the contract; contexts of the statement's run. And what follows it.
-/
import Derived.Test.YtbgmkefehfjicaaMg
import Derived.Test.YtbgmkefehfjicaaMf
import Derived.Test.YtbgmkefehfjicaaMb
import Derived.Test.YtbgmkefehfjicaaSyH
import Derived.Test.YtbgmkefehfjicaaPost
import Derived.ProofKit
import Derived.OpenShut
import Derived.HandedShaped
import Derived.Deep.Slices
import Derived.Deep.Fields

/-
  The reference: a copy of a program, the contract; contexts of the statement's run.
-/
namespace Go.Proofs.Ytbgmkefehfjicaa
open Go Go.RowKit
open Sy (Let Blk HasL)

def outC (T : List ThreadD) (cells : Int) : Sy.OutM × (List Let → Value) :=
  (⟨fun ns => ThreadsR (decB (ns.getD 0 Let.none).l) (slV (ns.getD 0 Let.none).v) T, fun _ => [], fun ns => decB (ns.getD 0 Let.none).l⟩, fun ns => progV cells (slV (ns.getD 0 Let.none).v))
/-- A copy is the same program in new memory. -/
noncomputable def copyC (B : List (Nat × Sy.Cont)) (tv : Value) (T : List ThreadD) (cells : Int) : Sy.CallC := ⟨fCopy, #[progV cells tv], ThreadsR B tv T, ⟨[], [], 1, B⟩, [outC T cells]⟩
theorem copyC_met (B : List (Nat × Sy.Cont)) (tv : Value) (T : List ThreadD) (cells : Int) : Sy.Meets Try.prog (copyC B tv T cells) := by
  refine Sy.meets_ofB (ctxCP_holds B T tv cells) mixed (L := rdOf B) (Sy.Ent.refl _) (cp_run B T tv cells) fun hok ns => ?_
  have hR : ThreadsR B tv T := hok
  simp only [cp_R, Sy.Res.holds]
  refine ⟨hR, gotL_of (fun p hp => hp), fun hT => ⟨_, List.mem_singleton_self _, [⟨0, 0, false, (ns 3).v, (ns 3).l⟩], rfl, rfl, ?_, hT⟩⟩
  refine Sy.Ent.sub ?_
  show List.Sublist ((decB (ns 3).l).map Sy.ownOf) _
  exact ((List.sublist_append_right (rdOf B) _).cons _ |>.cons _).cons _

def toB (L : List Blk) : List (Nat × Sy.Cont) := L.map fun b => (b.nm, b.ct)
theorem got_toB (L : List Blk) : Sy.GotL L (toB L) := fun p hp => by
  obtain ⟨b, hb, rfl⟩ := List.mem_map.1 hp
  exact ⟨b, hb, rfl, fun _ h => h⟩
theorem leB_toB {B : List (Nat × Sy.Cont)} {L : List Blk} (h : ∀ p ∈ B, ∃ b ∈ L, b.nm = p.1 ∧ b.ct = p.2) : LeB B (toB L) := fun x o v ⟨q, hq, hn, hv⟩ => by
  obtain ⟨p, hp, rfl⟩ := List.mem_map.1 hq
  obtain ⟨b, hb, e1, e2⟩ := h p hp
  refine ⟨⟨b.nm, b.ct, false⟩, List.mem_map.2 ⟨(b.nm, b.ct), List.mem_map.2 ⟨b, hb, rfl⟩, rfl⟩, ?_, ?_⟩
  · rw [← hn, e1]
  · show b.ct.at o = some v
    rw [e2]
    exact hv

abbrev fCW : FuncId := 4
noncomputable def Sy.sndV (args : Array Value) (i : Nat) : Value := Sy.argV (Sy.argA args i) 1
noncomputable def ctxCW (B : List (Nat × Sy.Cont)) (T : List ThreadD) (tv : Value) (cells m : Int) : Sy.Ctx := Sy.mkS [(fCopy, fun _ _ => copyC B tv T cells), (fWhole, fun args L => wholeC (toB (L.drop 3)) (Sy.sndV args 0) T cells), (fRWhole, fun args L => rwholeC (toB (L.drop 3)) (Sy.sndV args 0) T cells), (fSame, fun args L => sameC (toB (L.drop 3)) (Sy.sndV args 0) (Sy.sndV args 1) T cells), (fAwake, fun _ _ => awkC m)] [] []
theorem ctxCW_holds (B : List (Nat × Sy.Cont)) (T : List ThreadD) (tv : Value) (cells m : Int) : (ctxCW B T tv cells m).holds Try.prog := Sy.mkS_holds (fun p hp args L => by
  simp only [List.mem_cons, List.not_mem_nil, or_false] at hp
  rcases hp with rfl | rfl | rfl | rfl | rfl
  · exact copyC_met _ _ _ _
  · exact wholeC_met _ _ _ _
  · exact rwholeC_met _ _ _ _
  · exact sameC_met _ _ _ _ _
  · exact aw_met m) (fun _ h => (by cases h)) (fun _ h => (by cases h))

end Go.Proofs.Ytbgmkefehfjicaa

/-
  CheckWhole: the statement's run.
-/
namespace Go.Proofs.Ytbgmkefehfjicaa
set_option linter.unusedVariables false
set_option linter.unusedSimpArgs false
open Go Go.RowKit
open Sy (Let Blk HasL)

def cw_o : Sy.O := (Sy.O.pack 47 0x18a40800108061040200042018410004020000008000080000844100000 (Sy.O.fork (Sy.O.pack 35 0x358208021000220020a4840008403080100040038000 Sy.O.nil) (Sy.O.pack 18 0x1ac08001041490800104007 Sy.O.nil)))
noncomputable def cw_R (B : List (Nat × Sy.Cont)) (T : List ThreadD) (tv : Value) (cells : Int) (m : Int) (ns : Nat → Sy.Let) : Sy.Res (Value × List Blk) := .need (ThreadsR B tv T) (.need (Sy.GotL (rdOf B) B) (.hyp (ThreadsR (decB (Let.l (ns 1))) (.slice (slP (Let.v (ns 1))) (Sy.lenS (Let.v (ns 1))) (slC (Let.v (ns 1)))) T) (.need (ThreadsR (toB (List.append (rdOf B) (List.map (fun (p : Nat × Sy.Cont) => Blk.mk (Prod.fst p) (Prod.snd p) true) (decB (Let.l (ns 1)))))) (.slice (slP (Let.v (ns 1))) (Sy.lenS (Let.v (ns 1))) (slC (Let.v (ns 1)))) T) (.need (Sy.GotL (List.append (rdOf B) (List.map (fun (p : Nat × Sy.Cont) => Blk.mk (Prod.fst p) (Prod.snd p) true) (decB (Let.l (ns 1))))) (Sy.MemC.rb (Sy.MemC.mk [] [] (0 : Nat) (toB (List.append (rdOf B) (List.map (fun (p : Nat × Sy.Cont) => Blk.mk (Prod.fst p) (Prod.snd p) true) (decB (Let.l (ns 1))))))))) (.hyp True (.need (ThreadsR (toB (List.append (rdOf B) (List.map (fun (p : Nat × Sy.Cont) => Blk.mk (Prod.fst p) (Prod.snd p) true) (decB (Let.l (ns 1)))))) tv T) (.need (Sy.GotL (List.append (rdOf B) (List.map (fun (p : Nat × Sy.Cont) => Blk.mk (Prod.fst p) (Prod.snd p) true) (decB (Let.l (ns
 1))))) (Sy.MemC.rb (Sy.MemC.mk [] [] (0 : Nat) (toB (List.append (rdOf B) (List.map (fun (p : Nat × Sy.Cont) => Blk.mk (Prod.fst p) (Prod.snd p) true) (decB (Let.l (ns 1))))))))) (.hyp True (.br (wholeF cells T == wholeR cells T) (.need (ThreadsR (toB (List.append (rdOf B) (List.map (fun (p : Nat × Sy.Cont) => Blk.mk (Prod.fst p) (Prod.snd p) true) (decB (Let.l (ns 1)))))) (.slice (slP (Let.v (ns 1))) (Sy.lenS (Let.v (ns 1))) (slC (Let.v (ns 1)))) T ∧ ThreadsR (toB (List.append (rdOf B) (List.map (fun (p : Nat × Sy.Cont) => Blk.mk (Prod.fst p) (Prod.snd p) true) (decB (Let.l (ns 1)))))) tv T) (.need (Sy.GotL (List.append (rdOf B) (List.map (fun (p : Nat × Sy.Cont) => Blk.mk (Prod.fst p) (Prod.snd p) true) (decB (Let.l (ns 1))))) (Sy.MemC.rb (Sy.MemC.mk [] [] (0 : Nat) (toB (List.append (rdOf B) (List.map (fun (p : Nat × Sy.Cont) => Blk.mk (Prod.fst p) (Prod.snd p) true) (decB (Let.l (ns 1))))))))) (.hyp True (.need True (.hyp True (.leaf (Value.bool true, Blk.mk (0 : Nat) (.seg (0 :
 Nat) [.int .i64 m]) false :: Blk.mk (Let.n (ns 2)) (.obj (.cells (Array.mk [.int .i64 cells, .slice (slP (Let.v (ns 1))) (Sy.lenS (Let.v (ns 1))) (slC (Let.v (ns 1)))]) (27 : Nat))) true :: Blk.mk (Let.n (ns 0)) (.obj (.cells (Array.mk [.int .i64 cells, tv]) (27 : Nat))) true :: List.append (rdOf B) (List.map (fun (p : Nat × Sy.Cont) => Blk.mk (Prod.fst p) (Prod.snd p) true) (decB (Let.l (ns 1))))))))))) (.leaf (Value.bool false, Blk.mk (Let.n (ns 2)) (.obj (.cells (Array.mk [.int .i64 cells, .slice (slP (Let.v (ns 1))) (Sy.lenS (Let.v (ns 1))) (slC (Let.v (ns 1)))]) (27 : Nat))) true :: Blk.mk (Let.n (ns 0)) (.obj (.cells (Array.mk [.int .i64 cells, tv]) (27 : Nat))) true :: Blk.mk (0 : Nat) (.seg (0 : Nat) [.int .i64 m]) false :: List.append (rdOf B) (List.map (fun (p : Nat × Sy.Cont) => Blk.mk (Prod.fst p) (Prod.snd p) true) (decB (Let.l (ns 1)))))))))))))))

theorem cw_run (B : List (Nat × Sy.Cont)) (T : List ThreadD) (tv : Value) (cells m : Int) : Sy.Ran (Sy.inB Try.prog (ctxCW B T tv cells m) 50 fCW #[progV cells tv] (⟨0, .seg 0 [.int .i64 m], false⟩ :: rdOf B)) cw_o (cw_R B T tv cells m) := ⟨fun ns => by kernel_rfl, fun ns => by kernel_rfl⟩

end Go.Proofs.Ytbgmkefehfjicaa

/-
  CheckWhole: the statement's run, by contract.
-/
namespace Go.Proofs.Ytbgmkefehfjicaa
open Go Go.RowKit
open Sy (Let Blk HasL)

noncomputable def cwC (B : List (Nat × Sy.Cont)) (tv : Value) (T : List ThreadD) (cells m : Int) : Sy.CallC := ⟨fCW, #[progV cells tv], ThreadsR B tv T, ⟨[maxB m], [], 0, B⟩, [Sy.plainO (.bool true)]⟩
theorem cwC_met (B : List (Nat × Sy.Cont)) (tv : Value) (T : List ThreadD) (cells m : Int) : Sy.Meets Try.prog (cwC B tv T cells m) := by
  refine Sy.meets_ofB (ctxCW_holds B T tv cells m) mixed (L := ⟨0, .seg 0 [.int .i64 m], false⟩ :: rdOf B) (Sy.Ent.refl _) (cw_run B T tv cells m) fun hok ns => ?_
  have hR : ThreadsR B tv T := hok
  have leaf : ∀ (b : Bool) (L : List Blk), b = true → Sy.leafB (cwC B tv T cells m) (.bool b, L) := fun b L h => plainB_leaf (List.mem_singleton_self _) rfl (by rw [h])
  simp only [cw_R, Sy.Res.holds]
  refine ⟨hR, gotL_of (fun p hp => hp), fun hT => ?_⟩
  have h1 : LeB B (toB (List.append (rdOf B) ((decB (ns 1).l).map Sy.ownOf))) := leB_toB fun p hp => ⟨⟨p.1, p.2, false⟩, List.mem_append_left _ (List.mem_map.2 ⟨p, hp, rfl⟩), rfl, rfl⟩
  have h2 : LeB (decB (ns 1).l) (toB (List.append (rdOf B) ((decB (ns 1).l).map Sy.ownOf))) := leB_toB fun p hp => ⟨Sy.ownOf p, List.mem_append_right _ (List.mem_map.2 ⟨p, hp, rfl⟩), rfl, rfl⟩
  have hR' := threadsR_mono h1 hR
  have hT' := threadsR_mono h2 hT
  refine ⟨hT', got_toB _, fun _ => ⟨hR', got_toB _, fun _ => ⟨fun _ => ⟨⟨hT', hR'⟩, got_toB _, fun _ => ⟨trivial, fun _ => leaf _ _ rfl⟩⟩, fun hb => ?_⟩⟩⟩
  rw [whole_same] at hb
  simp at hb

end Go.Proofs.Ytbgmkefehfjicaa

/-
  The frame of a program that is handed in: threads, their acts, the acts' nodes, as they lie in memory.
-/
namespace Go.Proofs.Ytbgmkefehfjicaa
open Go Go.Joins Go.ChangeShapes Go.WideShapes Go.RowKit Go.Deep
open Sy (Let Blk HasL Cont)

/-- All blocks of a memory. -/
def heapB (w : World) : List (Nat × Sy.Cont) := (List.range w.heap.size).filterMap fun k => (w.heap[k]?).map fun o => (k, Sy.Cont.obj o)

theorem heapB_mem {w : World} {k : Nat} {o : Obj} (h : w.heap[k]? = some o) : (k, Sy.Cont.obj o) ∈ heapB w :=
  List.mem_filterMap.2 ⟨k, List.mem_range.2 (Array.getElem?_eq_some_iff.1 h).1, by rw [h]; rfl⟩
theorem heapB_sat {w : World} : ∀ p ∈ heapB w, p.2.sat w.heap[p.1]? := fun p hp => by
  obtain ⟨k, -, hk⟩ := List.mem_filterMap.1 hp
  cases hh : w.heap[k]? with
  | none => rw [hh] at hk; cases hk
  | some o =>
    rw [hh] at hk
    simp only [Option.map_some, Option.some.injEq] at hk
    subst hk
    exact hh

theorem hasL_heap {w : World} {b o : Nat} {v : Value} (h : w.cell? ⟨b, o, none⟩ = some v) : HasL (rdOf (heapB w)) b o v := by
  obtain ⟨-, c, t, f, hh, hc⟩ := spot_of h
  refine ⟨⟨b, .obj (.cells c t f), false⟩, List.mem_map.2 ⟨_, heapB_mem hh, rfl⟩, rfl, ?_⟩
  show c.toList[o]? = some v
  simpa using hc

section
variable {H : Type} {enc : TypeId × Value → H} {P : Program} {w : World} {base : Nat} {spare : Nat → Bool} {held : Bool}

/-- Nothing in it is greater than a memory. -/
def Small (P : Program) (t : TypeId) (d : DataW H) : Prop := ∀ x ∈ d.weights P t, x ≤ reachBytes

theorem small_all {e : TypeId} : ∀ {l : List (DataW H)} {d : DataW H}, d ∈ l → (∀ x ∈ DataW.weightsAll P e l, x ≤ reachBytes) → Small P e d
  | [], _, h, _ => by cases h
  | a :: l, d, h, hw => by
    unfold DataW.weightsAll at hw
    rcases List.mem_cons.1 h with rfl | h
    · exact fun x hx => hw x (List.mem_append_left _ hx)
    · exact small_all h fun x hx => hw x (List.mem_append_right _ hx)

theorem small_each : ∀ {ts : List TypeId} {l : List (DataW H)} {j : Nat} {t : TypeId} {d : DataW H}, ts[j]? = some t → l[j]? = some d → (∀ x ∈ DataW.weightsEach P ts l, x ≤ reachBytes) → Small P t d
  | [], _, _, _, _, h, _, _ => by simp at h
  | _ :: _, [], _, _, _, _, h, _ => by simp at h
  | t :: ts, d :: l, j, t', d', ht, hd, hw => by
    unfold DataW.weightsEach at hw
    cases j with
    | zero =>
      simp only [List.getElem?_cons_zero, Option.some.injEq] at ht hd
      subst ht hd
      exact fun x hx => hw x (List.mem_append_left _ hx)
    | succ j => exact small_each (j := j) (by simpa using ht) (by simpa using hd) fun x hx => hw x (List.mem_append_right _ hx)

/-- A slice, opened. -/
theorem open_sl {t e : TypeId} {sz n : Nat} {c : Value} {x : DataW H × List MemPlace} (ht : P.underlying t = some (.slice e)) (hC : P.cellsOf e = sz) (hsz : 0 < sz)
    (h : DataW.trod enc P w base spare held n t [c] = some x) (hw : Small P t x.1) :
    ∃ len, (∃ p cap, c = .slice p len cap) ∧ len * P.bytesOf e ≤ reachBytes ∧ (0 < len → ∃ cap, c = .slice (some ⟨Sy.ptrS c, Sy.offS c, none⟩) len cap) ∧
      ∀ i, i < len → ∃ cs n' y, cs.length = sz ∧ (∀ j u, cs[j]? = some u → w.cell? ⟨Sy.ptrS c, Sy.offS c + i * sz + j, none⟩ = some u) ∧ DataW.trod enc P w base spare held n' e cs = some y ∧ Small P e y.1 := by
  rcases Go.Deep.open_slice ht h with ⟨h0, hx⟩ | ⟨a, len, cap, m, k, D, Pl, hcs, -, hle, hcap, hm, hx, hi⟩
  · injection h0 with h0
    subst h0
    exact ⟨0, ⟨_, _, rfl⟩, by simp, fun h => absurd h (Nat.lt_irrefl _), fun i hi => absurd hi (Nat.not_lt_zero _)⟩
  · injection hcs with hcs
    subst hcs
    have hmn : len ≤ m := by rw [hm]; split <;> omega
    subst hx
    unfold Small at hw
    simp only [DataW.weights, ht] at hw
    have hb := hw _ List.mem_cons_self
    have hs : 0 < len → a.spot = none := fun hp => by
      obtain ⟨cs', hcc, -⟩ := hi 0 (by omega)
      rw [hC] at hcc
      obtain ⟨_, hcl, hat⟩ := World.cells?_some hcc
      have h1 := hat 0 hsz
      rw [List.getElem?_eq_getElem (by omega)] at h1
      have := (spot_of h1).1
      simpa [Addr.add] using this
    refine ⟨len, ⟨_, _, rfl⟩, ?_, fun hp => ⟨cap, ?_⟩, fun i hil => ?_⟩
    · have : (((List.range len).map D).length + ((List.range (m - len)).map fun j => D (len + j)).length) * P.bytesOf e ≥ len * P.bytesOf e := Nat.mul_le_mul_right _ (by simp)
      omega
    · have hs := hs hp
      obtain ⟨b, o, s⟩ := a
      simp only at hs
      subst hs
      rfl
    · obtain ⟨cs', hcc, htr⟩ := hi i (by omega)
      rw [hC] at hcc
      obtain ⟨_, hcl, hat⟩ := World.cells?_some hcc
      have hs := hs (by omega)
      obtain ⟨b, o, s⟩ := a
      simp only at hs
      subst hs
      refine ⟨cs', k, (D i, Pl i), hcl, fun j u hu => ?_, htr, small_all (l := (List.range len).map D) (List.mem_map.2 ⟨i, List.mem_range.2 hil, rfl⟩) fun x hx => hw x (List.mem_cons_of_mem _ (List.mem_append_left _ hx))⟩
      have hj : j < sz := by rw [← hcl]; exact (List.getElem?_eq_some_iff.1 hu).1
      have h5 := hat j hj
      rw [Go.Deep.add_add, hu, Sy.addr_add] at h5
      rw [Nat.add_assoc]
      exact h5

/-- A struct's field of one cell, among its cells. -/
theorem open_fl {n : Nat} {t : TypeId} {fs : Array Field} {cs : List Value} {y : DataW H × List MemPlace} (hu : P.underlying t = some (.struct fs)) (hone : oneCellFields P fs = true)
    (hl : cs.length = fs.size) (h : DataW.trod enc P w base spare held n t cs = some y) (hw : Small P t y.1) : ∃ n', ∀ (j : Nat) (f : Field) (c : Value), fs[j]? = some f → cs[j]? = some c → ∃ y, DataW.trod enc P w base spare held n' f.type [c] = some y ∧ Small P f.type y.1 := by
  obtain ⟨ys, n', -, rfl, -, hyl, hf⟩ := DataW.trod_struct hu h
  refine ⟨n', fun j f c hj hc => ?_⟩
  obtain ⟨ho, hk⟩ := hone_of hone j f hj
  have h1 := hf j f hj
  rw [ho, hk] at h1
  have hjl : j < cs.length := (List.getElem?_eq_some_iff.1 hc).1
  have he : (cs.drop j).take 1 = [c] := by
    rw [List.drop_eq_getElem_cons hjl]
    simp only [List.take_succ_cons, List.take_zero, List.cons.injEq, and_true]
    exact (List.getElem?_eq_some_iff.1 hc).2
  rw [he] at h1
  have hy : ys[j]? = some ys[j] := List.getElem?_eq_getElem (by rw [hyl, ← hl]; exact hjl)
  refine ⟨ys[j], h1.trans hy, ?_⟩
  unfold Small at hw
  simp only [DataW.weights, hu] at hw
  exact small_each (j := j) (by rw [List.getElem?_map]; simp [hj]) (by rw [List.getElem?_map, hy]; rfl) hw

/-- A number that is a cell of its own. -/
theorem cell_num {n : Nat} {t : TypeId} {k : IntKind} {c : Value} {y : DataW H × List MemPlace} (ht : P.underlying t = some (.int k))
    (h : DataW.trod enc P w base spare held n t [c] = some y) : ∃ x : Int, c = .int k x := by
  obtain ⟨m, e, -, -⟩ := DataW.trod_int ht h
  injection e with e
  exact ⟨m, e⟩

/-- A list of what each index has. -/
theorem list_of {α : Type} {n : Nat} {p : Nat → α → Prop} (h : ∀ i, i < n → ∃ x, p i x) : ∃ l : List α, l.length = n ∧ ∀ i x, l[i]? = some x → p i x := by
  induction n with
  | zero => exact ⟨[], rfl, fun i x hx => by simp at hx⟩
  | succ n ih =>
    obtain ⟨l, hl, hp⟩ := ih fun i hi => h i (by omega)
    obtain ⟨x, hx⟩ := h n (by omega)
    refine ⟨l ++ [x], by simp [hl], fun i y hy => ?_⟩
    rcases Nat.lt_or_ge i n with hi | hi
    · rw [List.getElem?_append_left (by omega)] at hy
      exact hp i y hy
    · rw [List.getElem?_append_right (by omega), hl] at hy
      have : i - n = 0 := by
        have := (List.getElem?_eq_some_iff.1 hy).1
        simp at this
        omega
      rw [this] at hy
      simp only [List.getElem?_cons_zero, Option.some.injEq] at hy
      subst hy
      obtain rfl : i = n := by omega
      exact hx
end

section
variable {H : Type} {enc : TypeId × Value → H} {w : World} {base : Nat} {spare : Nat → Bool} {held : Bool}

set_option maxRecDepth 100000 in
theorem open_nodesR {n : Nat} {c : Value} {x : DataW H × List MemPlace} (h : DataW.trod enc Try.prog w base spare held n 65 [c] = some x) (hw : Small Try.prog 65 x.1) : ∃ l, OkX (heapB w) c l := by
  obtain ⟨len, ⟨p, cap, hc⟩, hb, hat, hel⟩ := open_sl (sz := 4) Try.underlying65 (by kernel_rfl) (by omega) h hw
  have hB : Try.prog.bytesOf 114 = 32 := by kernel_rfl
  rw [hB] at hb
  obtain ⟨l, hl, hp⟩ := list_of (n := len) (p := fun i (m : NodeD) => HasL (rdOf (heapB w)) (Sy.ptrS c) (Sy.offS c + i * 4) (.int .i64 m.op) ∧ HasL (rdOf (heapB w)) (Sy.ptrS c) (Sy.offS c + i * 4 + 1) (.int .u64 m.val) ∧ HasL (rdOf (heapB w)) (Sy.ptrS c) (Sy.offS c + i * 4 + 1 + 1) (.int .i64 m.a) ∧ HasL (rdOf (heapB w)) (Sy.ptrS c) (Sy.offS c + i * 4 + 1 + 1 + 1) (.int .i64 m.b)) fun i hi => by
    obtain ⟨cs, n', y, hcl, hcell, htr, hsm⟩ := hel i hi
    match cs, hcl with
    | [c0, c1, c2, c3], _ =>
      obtain ⟨n2, hf⟩ := open_fl (cs := [c0, c1, c2, c3]) Try.underlying114 (by kernel_rfl) (by rfl) htr hsm
      obtain ⟨y0, h0, -⟩ := hf 0 _ c0 rfl rfl
      obtain ⟨y1, h1, -⟩ := hf 1 _ c1 rfl rfl
      obtain ⟨y2, h2, -⟩ := hf 2 _ c2 rfl rfl
      obtain ⟨y3, h3, -⟩ := hf 3 _ c3 rfl rfl
      obtain ⟨x0, rfl⟩ := cell_num Try.underlying3 h0
      obtain ⟨x1, rfl⟩ := cell_num Try.underlying51 h1
      obtain ⟨x2, rfl⟩ := cell_num Try.underlying3 h2
      obtain ⟨x3, rfl⟩ := cell_num Try.underlying3 h3
      exact ⟨⟨x0, x1, x2, x3⟩, hasL_heap (hcell 0 _ rfl), hasL_heap (hcell 1 _ rfl), hasL_heap (hcell 2 _ rfl), hasL_heap (hcell 3 _ rfl)⟩
  refine ⟨l, ⟨⟨p, len, cap, hc⟩, by rw [hc]; exact hl.symm, fun hne => ?_, fun i m hm => (hp i m hm).1, fun i m hm => (hp i m hm).2.1, fun i m hm => (hp i m hm).2.2.1, fun i m hm => (hp i m hm).2.2.2⟩, ?_⟩
  · obtain ⟨cap', he⟩ := hat (by rw [← hl]; exact List.length_pos_iff.2 hne)
    exact ⟨len, cap', he⟩
  · rw [hl]
    unfold reachBytes at hb
    omega

set_option maxRecDepth 100000 in
theorem open_actsR {n : Nat} {c : Value} {x : DataW H × List MemPlace} (h : DataW.trod enc Try.prog w base spare held n 35 [c] = some x) (hw : Small Try.prog 35 x.1) : ∃ l, ActsR (heapB w) c l := by
  obtain ⟨len, ⟨p, cap, hc⟩, hb, hat, hel⟩ := open_sl (sz := 11) Try.underlying35 (by kernel_rfl) (by omega) h hw
  have hB : Try.prog.bytesOf 67 = 136 := by kernel_rfl
  rw [hB] at hb
  obtain ⟨l, hl, hp⟩ := list_of (n := len) (p := fun i (a : ActD) => ∃ iv ev fv, ActAt (heapB w) (Sy.ptrS c) (Sy.offS c + i * 11) a iv ev fv) fun i hi => by
    obtain ⟨cs, n', y, hcl, hcell, htr, hsm⟩ := hel i hi
    match cs, hcl with
    | [c0, c1, c2, c3, c4, c5, c6, c7, c8, c9, c10], _ =>
      obtain ⟨n2, hf⟩ := open_fl (cs := [c0, c1, c2, c3, c4, c5, c6, c7, c8, c9, c10]) Try.underlying67 (by kernel_rfl) (by rfl) htr hsm
      obtain ⟨y0, h0, -⟩ := hf 0 _ c0 rfl rfl
      obtain ⟨y1, h1, -⟩ := hf 1 _ c1 rfl rfl
      obtain ⟨y2, h2, -⟩ := hf 2 _ c2 rfl rfl
      obtain ⟨y3, h3, -⟩ := hf 3 _ c3 rfl rfl
      obtain ⟨y4, h4, s4⟩ := hf 4 _ c4 rfl rfl
      obtain ⟨y5, h5, s5⟩ := hf 5 _ c5 rfl rfl
      obtain ⟨y6, h6, s6⟩ := hf 6 _ c6 rfl rfl
      obtain ⟨y7, h7, -⟩ := hf 7 _ c7 rfl rfl
      obtain ⟨y8, h8, -⟩ := hf 8 _ c8 rfl rfl
      obtain ⟨y9, h9, -⟩ := hf 9 _ c9 rfl rfl
      obtain ⟨y10, h10, -⟩ := hf 10 _ c10 rfl rfl
      obtain ⟨x0, rfl⟩ := cell_num Try.underlying3 h0
      obtain ⟨x1, rfl⟩ := cell_num Try.underlying3 h1
      obtain ⟨x2, rfl⟩ := cell_num Try.underlying3 h2
      obtain ⟨x3, rfl⟩ := cell_num Try.underlying3 h3
      obtain ⟨l4, r4⟩ := open_nodesR h4 s4
      obtain ⟨l5, r5⟩ := open_nodesR h5 s5
      obtain ⟨l6, r6⟩ := open_nodesR h6 s6
      obtain ⟨x7, rfl⟩ := cell_num Try.underlying3 h7
      obtain ⟨x8, rfl⟩ := cell_num Try.underlying3 h8
      obtain ⟨x9, rfl⟩ := cell_num Try.underlying3 h9
      obtain ⟨x10, rfl⟩ := cell_num Try.underlying3 h10
      exact ⟨⟨x0, x1, x2, x3, l4, l5, l6, x7, x8, x9, x10⟩, c4, c5, c6, hasL_heap (hcell 0 _ rfl), hasL_heap (hcell 1 _ rfl), hasL_heap (hcell 2 _ rfl), hasL_heap (hcell 3 _ rfl), hasL_heap (hcell 4 _ rfl), hasL_heap (hcell 5 _ rfl), hasL_heap (hcell 6 _ rfl), hasL_heap (hcell 7 _ rfl), hasL_heap (hcell 8 _ rfl), hasL_heap (hcell 9 _ rfl), hasL_heap (hcell 10 _ rfl), r4, r5, r6⟩
  refine ⟨l, ⟨p, len, cap, hc⟩, by rw [hc]; exact hl.symm, fun hne => ?_, fun i a ha => hp i a ha, ?_⟩
  · obtain ⟨cap', he⟩ := hat (by rw [← hl]; exact List.length_pos_iff.2 hne)
    exact ⟨len, cap', he⟩
  · rw [hl]
    unfold reachBytes at hb
    omega

set_option maxRecDepth 100000 in
theorem open_threadsR {n : Nat} {c : Value} {x : DataW H × List MemPlace} (h : DataW.trod enc Try.prog w base spare held n 25 [c] = some x) (hw : Small Try.prog 25 x.1) : ∃ l, ThreadsR (heapB w) c l := by
  obtain ⟨len, ⟨p, cap, hc⟩, hb, hat, hel⟩ := open_sl (sz := 2) Try.underlying25 (by kernel_rfl) (by omega) h hw
  have hB : Try.prog.bytesOf 37 = 32 := by kernel_rfl
  rw [hB] at hb
  obtain ⟨l, hl, hp⟩ := list_of (n := len) (p := fun i (t : ThreadD) => ∃ av, HasL (rdOf (heapB w)) (Sy.ptrS c) (Sy.offS c + i * 2) (.int .i64 t.locals) ∧ HasL (rdOf (heapB w)) (Sy.ptrS c) (Sy.offS c + i * 2 + 1) av ∧ ActsR (heapB w) av t.acts) fun i hi => by
    obtain ⟨cs, n', y, hcl, hcell, htr, hsm⟩ := hel i hi
    match cs, hcl with
    | [c0, c1], _ =>
      obtain ⟨n2, hf⟩ := open_fl (cs := [c0, c1]) Try.underlying37 (by kernel_rfl) (by rfl) htr hsm
      obtain ⟨y0, h0, -⟩ := hf 0 _ c0 rfl rfl
      obtain ⟨y1, h1, s1⟩ := hf 1 _ c1 rfl rfl
      obtain ⟨x0, rfl⟩ := cell_num Try.underlying3 h0
      obtain ⟨l1, r1⟩ := open_actsR h1 s1
      exact ⟨⟨x0, l1⟩, c1, hasL_heap (hcell 0 _ rfl), hasL_heap (hcell 1 _ rfl), r1⟩
  refine ⟨l, ⟨p, len, cap, hc⟩, by rw [hc]; exact hl.symm, fun hne => ?_, fun i a ha => hp i a ha, ?_⟩
  · obtain ⟨cap', he⟩ := hat (by rw [← hl]; exact List.length_pos_iff.2 hne)
    exact ⟨len, cap', he⟩
  · rw [hl]
    unfold reachBytes at hb
    omega

set_option maxRecDepth 100000 in
/-- A program that is handed in. -/
theorem open_prog {v : Value} {d : DataW H} {p : List MemPlace} (hv : ∃ c0 c1, v = .agg #[c0, c1]) (h : DataW.Trod enc Try.prog w base spare held 27 v d p) (hw : Small Try.prog 27 d) :
    ∃ cells tv l, v = progV cells tv ∧ ThreadsR (heapB w) tv l := by
  obtain ⟨c0, c1, rfl⟩ := hv
  obtain ⟨n, hn⟩ := h
  obtain ⟨n2, hf⟩ := open_fl (cs := [c0, c1]) Try.underlying27 (by kernel_rfl) (by rfl) hn hw
  obtain ⟨y0, h0, -⟩ := hf 0 _ c0 rfl rfl
  obtain ⟨y1, h1, s1⟩ := hf 1 _ c1 rfl rfl
  obtain ⟨x0, rfl⟩ := cell_num Try.underlying3 h0
  obtain ⟨l, r⟩ := open_threadsR h1 s1
  exact ⟨x0, c1, l, rfl, r⟩
end

end Go.Proofs.Ytbgmkefehfjicaa
