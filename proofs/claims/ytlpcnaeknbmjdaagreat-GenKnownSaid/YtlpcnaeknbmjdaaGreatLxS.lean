/-
  The reference's lexer: over blanks (in texts without a slash).
-/
import Derived.Test.YtlpcnaeknbmjdaaGreatLxD
import Derived.Test.YtlpcnaeknbmjdaaGreatLxK
namespace Go.Proofs.YtlpcnaeknbmjdaaGreat
set_option linter.unusedVariables false
set_option linter.unusedSimpArgs false
open Go Go.RowKit
open Sy (Let Blk)

abbrev fSkipped : FuncId := 70
noncomputable def bodySk : Code := Sy.loopBody Tryz.f70 0

/-- A contract of a function of a rune, by its argument. -/
noncomputable def ruK (C : Int → Int → Int → Int → Int → Sy.CallC) (args : Array Value) : Sy.CallC := match args.toList with
  | [.agg c] => match c.toList with
    | [.int .i64 r, .int .i64 a, .int .i64 n, .int .i64 l, .int .i64 c] => C r a n l c
    | _ => noC
  | _ => noC
theorem ruK_met {C : Int → Int → Int → Int → Int → Sy.CallC} (h : ∀ r a n l c, Sy.Meets Tryz.prog (C r a n l c)) (args : Array Value) : Sy.Meets Tryz.prog (ruK C args) := by
  unfold ruK
  split
  · split
    · exact h _ _ _ _ _
    · exact noC_met
  · exact noC_met

def slsl : ByteArray := ⟨#[47, 47]⟩
/-- The text does not begin so. -/
noncomputable def begNo (g n cap : Nat) (bs : List Nat) (s : ByteArray) (at_ : Int) : Sy.CallC :=
  ⟨fBegins, #[.slice (some ⟨g, 0, none⟩) n cap, .int .i64 at_, .string s], ∃ k : Nat, at_ = k ∧ okB n k s bs ∧ begF bs k s = false, ⟨[(g, .seg 0 (bcells bs))], [], 0⟩, [Sy.plainO (.bool false)]⟩
theorem begNo_met (g n cap : Nat) (bs : List Nat) (s : ByteArray) (at_ : Int) : Sy.Meets Tryz.prog (begNo g n cap bs s at_) := by
  rintro ⟨k, rfl, hok, hf⟩ W hpre
  have := begC_met g n cap k s bs hok W hpre
  unfold begC at this
  rw [hf] at this
  exact this

theorem flat_at {α : Type} (f : α → List Value) (sz : Nat) (hf : ∀ x, (f x).length = sz) : ∀ {l : List α} {k : Nat} {x : α}, l[k]? = some x → ∀ j u, (f x)[j]? = some u → (l.flatMap f)[k * sz + j]? = some u
  | [], k, x, h, _, _, _ => by simp at h
  | y :: l, k, x, h, j, u, hu => by
    have hj : j < sz := by rw [← hf x]; exact (List.getElem?_eq_some_iff.1 hu).1
    rw [List.flatMap_cons]
    cases k with
    | zero =>
      simp only [List.getElem?_cons_zero, Option.some.injEq] at h
      subst h
      rw [List.getElem?_append_left (by rw [hf]; omega), Nat.zero_mul, Nat.zero_add]
      exact hu
    | succ k =>
      rw [List.getElem?_append_right (by rw [hf, Nat.succ_mul]; omega), hf]
      have := flat_at f sz hf (l := l) (k := k) (by simpa using h) j u hu
      rw [show (k + 1) * sz + j - sz = k * sz + j by rw [Nat.succ_mul]; omega]
      exact this

noncomputable def ctxS (g n cb : Nat) (bs : List Nat) : Sy.Ctx := Sy.mkS [(fBlank, fun a _ => ruK blC a), (fBegins, fun a _ => begNo g n cb bs slsl (Sy.argI a 1))] [] []
theorem ctxS_holds (g n cb : Nat) (bs : List Nat) : (ctxS g n cb bs).holds Tryz.prog := Sy.mkS_holds (fun p hp a L => by
  rcases List.mem_cons.1 hp with rfl | hp
  · exact ruK_met blC_met a
  rcases List.mem_singleton.1 hp with rfl
  exact begNo_met _ _ _ _ _ _) (fun _ h => (by cases h)) (fun _ h => (by cases h))

def slK (g n cb gl m cl k : Nat) : List (Nat × Value) := [(0, .slice (some ⟨g, 0, none⟩) n cb), (1, .slice (some ⟨gl, 0, none⟩) m cl), (2, .int .i64 (Int.ofNat k)), (6, .int .i64 0)]
def memK (g gl : Nat) (bs : List Nat) (xs : List Value) : List Blk := [⟨g, .seg 0 (bcells bs), false⟩, ⟨gl, .seg 0 xs, false⟩]

def skB_o : Sy.O := (Sy.O.steps [1, 1, 1, 1, 1, 1, 1, 1, 1, 0] (Sy.O.fork Sy.O.nil (Sy.O.steps [1, 1, 1, 1, 1, 0, 0, 0] Sy.O.nil)))
noncomputable def skB_R (g : Nat) (n : Nat) (cb : Nat) (gl : Nat) (m : Nat) (cl : Nat) (k : Nat) (bs : List Nat) (xs : List Value) (rest : List Value) (ns : Nat → Sy.Let) : Sy.Res (Exit × Nat × List Value × List Blk) := Sy.Res.need ((0 : Int) ≤ Int.ofNat k ∧ Int.ofNat k < (↑m : Int))
 (Sy.Res.need
 (∃ (i : Int),
 Sy.Cont.at (Sy.Cont.seg (0 : Nat) xs) ((0 : Nat) + Int.toNat (Int.ofNat k) * (5 : Nat)) =
 some (Value.int IntKind.i64 i))
 (Sy.Res.hyp
 (Sy.Cont.at (Sy.Cont.seg (0 : Nat) xs) ((0 : Nat) + Int.toNat (Int.ofNat k) * (5 : Nat)) =
 some (Value.int IntKind.i64 (Let.i (ns (0 : Nat)))))
 (Sy.Res.need
 (∃ (i : Int),
 Sy.Cont.at (Sy.Cont.seg (0 : Nat) xs) ((0 : Nat) + Int.toNat (Int.ofNat k) * (5 : Nat) + (1 : Nat)) =
 some (Value.int IntKind.i64 i))
 (Sy.Res.hyp
 (Sy.Cont.at (Sy.Cont.seg (0 : Nat) xs) ((0 : Nat) + Int.toNat (Int.ofNat k) * (5 : Nat) + (1 : Nat)) =
 some (Value.int IntKind.i64 (Let.i (ns (1 : Nat)))))
 (Sy.Res.need
 (∃ (i : Int),
 Sy.Cont.at (Sy.Cont.seg (0 : Nat) xs)
 ((0 : Nat) + Int.toNat (Int.ofNat k) * (5 : Nat) + (1 : Nat) + (1 : Nat)) =
 some (Value.int IntKind.i64 i))
 (Sy.Res.hyp
 (Sy.Cont.at (Sy.Cont.seg (0 : Nat) xs)
 ((0 : Nat) + Int.toNat (Int.ofNat k) * (5 : Nat) + (1 : Nat) + (1 : Nat)) =
 some (Value.int IntKind.i64 (Let.i (ns (2 : Nat)))))
 (Sy.Res.need
 (∃ (i : Int),
 Sy.Cont.at (Sy.Cont.seg (0 : Nat) xs)
 ((0 : Nat) + Int.toNat (Int.ofNat k) * (5 : Nat) + (1 : Nat) + (1 : Nat) + (1 : Nat)) =
 some (Value.int IntKind.i64 i))
 (Sy.Res.hyp
 (Sy.Cont.at (Sy.Cont.seg (0 : Nat) xs)
 ((0 : Nat) + Int.toNat (Int.ofNat k) * (5 : Nat) + (1 : Nat) + (1 : Nat) + (1 : Nat)) =
 some (Value.int IntKind.i64 (Let.i (ns (3 : Nat)))))
 (Sy.Res.need
 (∃ (i : Int),
 Sy.Cont.at (Sy.Cont.seg (0 : Nat) xs)
 ((0 : Nat) + Int.toNat (Int.ofNat k) * (5 : Nat) + (1 : Nat) + (1 : Nat) + (1 : Nat) +
 (1 : Nat)) =
 some (Value.int IntKind.i64 i))
 (Sy.Res.hyp
 (Sy.Cont.at (Sy.Cont.seg (0 : Nat) xs)
 ((0 : Nat) + Int.toNat (Int.ofNat k) * (5 : Nat) + (1 : Nat) + (1 : Nat) + (1 : Nat) +
 (1 : Nat)) =
 some (Value.int IntKind.i64 (Let.i (ns (4 : Nat)))))
 (Sy.Res.need True
 (Sy.Res.hyp True
 (Sy.Res.br (blF (Let.i (ns (0 : Nat))) (Let.i (ns (2 : Nat))))
 (Sy.Res.leaf
 (Exit.normal, (53 : Nat),
 [Value.slice (some (Addr.mk g (0 : Nat) none)) n cb,
 Value.slice (some (Addr.mk gl (0 : Nat) none)) m cl,
 Value.int IntKind.i64 (Ex.wrapQ IntKind.i64 (Ex.addQ (Int.ofNat k) (1 : Int))),
 Value.int IntKind.i64 (0 : Int)],
 [Blk.mk g (Sy.Cont.seg (0 : Nat) (bcells bs)) false,
 Blk.mk gl (Sy.Cont.seg (0 : Nat) xs) false]))
 (Sy.Res.need ((0 : Int) ≤ Int.ofNat k ∧ Int.ofNat k < (↑m : Int))
 (Sy.Res.need
 (∃ (i : Int),
 Sy.Cont.at (Sy.Cont.seg (0 : Nat) xs)
 (Nat.succ ((0 : Nat) + Int.toNat (Int.ofNat k) * (5 : Nat))) =
 some (Value.int IntKind.i64 i))
 (Sy.Res.hyp
 (Sy.Cont.at (Sy.Cont.seg (0 : Nat) xs)
 (Nat.succ ((0 : Nat) + Int.toNat (Int.ofNat k) * (5 : Nat))) =
 some (Value.int IntKind.i64 (Let.i (ns (5 : Nat)))))
 (Sy.Res.need
 (∃ (k : Nat),
 Let.i (ns (5 : Nat)) = (↑k : Int) ∧ okB n k slsl bs ∧ begF bs k slsl = false)
 (Sy.Res.hyp True
 (Sy.Res.leaf
 (Exit.ret, (53 : Nat),
 [Value.slice (some (Addr.mk g (0 : Nat) none)) n cb,
 Value.slice (some (Addr.mk gl (0 : Nat) none)) m cl,
 Value.int IntKind.i64 (Int.ofNat k), Value.int IntKind.i64 (Int.ofNat k)],
 [Blk.mk g (Sy.Cont.seg (0 : Nat) (bcells bs)) false,
 Blk.mk gl (Sy.Cont.seg (0 : Nat) xs) false]))))))))))))))))))))
theorem skB_run (g n cb gl m cl k : Nat) (bs : List Nat) (xs : List Value) (rest : List Value) : Sy.Ran (Sy.pieceT Tryz.prog (ctxS g n cb bs) 50 fSkipped bodySk 53 (slK g n cb gl m cl k) rest (memK g gl bs xs) [0, 1, 2, 6]) skB_o (skB_R g n cb gl m cl k bs xs rest) := ⟨fun ns => by kernel_rfl, fun ns => by kernel_rfl⟩

/-- A text of the kind that is spoken of, and its runes. -/
structure Tx (bs : List Nat) (n : Nat) (l : List Ru) : Prop where
  hn : n = bs.length
  asc : ascii bs
  small : n < 1000000
  sl : 47 ∉ bs
  hl : l = runesF bs 0 1 1

theorem runesF_length (bs : List Nat) (a l c : Nat) : (runesF bs a l c).length = bs.length + 1 := by
  rw [runesF_eq, List.length_append, runesP_length]; rfl

theorem runesP_at : ∀ (bs : List Nat) (a l c k b : Nat), bs[k]? = some b → ∃ l' c', (runesP bs a l c)[k]? = some ⟨b, a + k, 1, l', c'⟩
  | [], a, l, c, k, b, h => by simp at h
  | x :: r, a, l, c, 0, b, h => by
    simp only [List.getElem?_cons_zero, Option.some.injEq] at h
    subst h
    exact ⟨l, c, rfl⟩
  | x :: r, a, l, c, k + 1, b, h => by
    have h : r[k]? = some b := by simpa using h
    show ∃ l' c', (@Bool.rec (fun _ => List Ru) (runesP r (a + 1) l (c + 1)) (runesP r (a + 1) (l + 1) 1) (Nat.beq x 10))[k]? = _
    have e : a + (k + 1) = a + 1 + k := by omega
    rw [e]
    cases Nat.beq x 10 with
    | false => exact runesP_at r (a + 1) l (c + 1) k b h
    | true => exact runesP_at r (a + 1) (l + 1) 1 k b h

theorem Tx.len {bs n l} (h : Tx bs n l) : l.length = n + 1 := by rw [h.hl, runesF_length, ← h.hn]

theorem Tx.get {bs n l} (h : Tx bs n l) {k : Nat} (hk : k ≤ n) : ∃ x, l[k]? = some x ∧ x.at_ = k ∧ ((k < n ∧ bs[k]? = some x.r ∧ x.n = 1) ∨ (k = n ∧ x.r = 0 ∧ x.n = 0)) := by
  rcases Nat.lt_or_ge k n with hlt | hge
  · have hkb : k < bs.length := by rw [← h.hn]; exact hlt
    have hb : bs[k]? = some bs[k] := List.getElem?_eq_getElem hkb
    obtain ⟨l', c', hx⟩ := runesP_at bs 0 1 1 k _ hb
    refine ⟨⟨bs[k], 0 + k, 1, l', c'⟩, ?_, ?_, .inl ⟨hlt, hb, rfl⟩⟩
    · rw [h.hl, runesF_eq, List.getElem?_append_left (by rw [runesP_length, ← h.hn]; exact hlt), hx]
    · exact Nat.zero_add k
  · have : k = n := by omega
    subst this
    refine ⟨⟨0, 0 + bs.length, 0, (endLC bs 1 1).1, (endLC bs 1 1).2⟩, ?_, ?_, .inr ⟨rfl, ?_, ?_⟩⟩
    · rw [h.hl, runesF_eq, List.getElem?_append_right (by rw [runesP_length, ← h.hn]; exact Nat.le_refl _), runesP_length, ← h.hn, Nat.sub_self]; rfl
    · show 0 + bs.length = k
      rw [h.hn, Nat.zero_add]
    · rfl
    · rfl

theorem ru_at {l : List Ru} {k : Nat} {x : Ru} (h : l[k]? = some x) : (Sy.Cont.seg 0 (ruCells l)).at (0 + k * 5) = some (.int .i64 (Int.ofNat x.r)) ∧ (Sy.Cont.seg 0 (ruCells l)).at (0 + k * 5 + 1) = some (.int .i64 (Int.ofNat x.at_)) ∧ (Sy.Cont.seg 0 (ruCells l)).at (0 + k * 5 + 1 + 1) = some (.int .i64 (Int.ofNat x.n)) ∧
    (Sy.Cont.seg 0 (ruCells l)).at (0 + k * 5 + 1 + 1 + 1) = some (.int .i64 (Int.ofNat x.line)) ∧ (Sy.Cont.seg 0 (ruCells l)).at (0 + k * 5 + 1 + 1 + 1 + 1) = some (.int .i64 (Int.ofNat x.col)) := by
  have hh : ∀ j u, x.cells[j]? = some u → (Sy.Cont.seg 0 (ruCells l)).at (0 + k * 5 + j) = some u := fun j u hu => by
    simp only [Sy.Cont.at]
    rw [if_pos (by omega), show 0 + k * 5 + j - 0 = k * 5 + j by omega]
    exact flat_at Ru.cells 5 (fun _ => rfl) h j u hu
  exact ⟨hh 0 _ rfl, hh 1 _ rfl, hh 2 _ rfl, hh 3 _ rfl, hh 4 _ rfl⟩

/-- How many blanks come first. -/
noncomputable def blanksF (l : List Ru) : Nat := @List.rec Ru (fun _ => Nat) 0 (fun x _ ih => @Bool.rec (fun _ => Nat) 0 (Nat.succ ih) (blF (Int.ofNat x.r) (Int.ofNat x.n))) l

theorem blanksF_cons (x : Ru) (r : List Ru) : blanksF (x :: r) = if blF (Int.ofNat x.r) (Int.ofNat x.n) = true then blanksF r + 1 else 0 := by
  show @Bool.rec (fun _ => Nat) 0 (blanksF r + 1) (blF (Int.ofNat x.r) (Int.ofNat x.n)) = _
  cases blF (Int.ofNat x.r) (Int.ofNat x.n) <;> rfl

noncomputable def loopK (g n cb gl cl k0 : Nat) (bs : List Nat) (l : List Ru) : Sy.LoopC :=
  ⟨.loop bodySk, 53, slK g n cb gl (n + 1) cl k0, Tx bs n l ∧ k0 ≤ n, ⟨[(g, .seg 0 (bcells bs)), (gl, .seg 0 (ruCells l))], [], 0⟩,
    [(⟨fun _ => True, fun _ => []⟩, .ret, fun _ => [(6, .int .i64 (Int.ofNat (k0 + blanksF (l.drop k0))))])]⟩

theorem bl_end (r : Int) : blF r (Int.ofNat 0) = false := rfl

theorem w_inc {k : Nat} (h : k < 2000000) : Ex.wrapQ .i64 (Ex.addQ (Int.ofNat k) 1) = Int.ofNat (k + 1) := Sy.inc_q k (by omega)

theorem begNo_slash {bs n l} (h : Tx bs n l) (k : Nat) : begF bs k slsl = false := by
  cases hb : begF bs k slsl with
  | false => rfl
  | true =>
    obtain ⟨b, h1, h2⟩ := (begF_iff _ _ _).1 hb 0 (by decide)
    have : b = 47 := by
      have h3 : (b : Int) = 47 := h2
      omega
    subst this
    exact (h.sl (List.mem_of_getElem? h1)).elim

theorem blanks_le {bs n l} (h : Tx bs n l) {k : Nat} (hk : k ≤ n) : k + blanksF (l.drop k) ≤ n := by
  obtain ⟨m, hm⟩ : ∃ m, m = n - k := ⟨_, rfl⟩
  induction m generalizing k with
  | zero =>
    have : k = n := by omega
    subst this
    obtain ⟨x, hx, -, h3⟩ := h.get (Nat.le_refl k)
    rcases h3 with ⟨h4, -⟩ | ⟨-, -, h5⟩
    · omega
    · have hlt : k < l.length := by rw [h.len]; omega
      have hxe : l[k] = x := by rw [List.getElem?_eq_getElem hlt] at hx; injection hx
      rw [List.drop_eq_getElem_cons hlt, hxe, blanksF_cons, if_neg (by rw [h5, bl_end]; simp)]
      omega
  | succ m ih =>
    have hlt : k < l.length := by rw [h.len]; omega
    rw [List.drop_eq_getElem_cons hlt, blanksF_cons]
    split
    · have := ih (k := k + 1) (by omega) (by omega)
      omega
    · omega

theorem loopK_met (g n cb gl cl k0 : Nat) (bs : List Nat) (l : List Ru) : Sy.MeetsL Tryz.prog (loopK g n cb gl cl k0 bs l) := by
  refine Sy.loop_of (n := 50) (fn := fSkipped) (ctxS_holds g n cb bs) mixed (body := bodySk) rfl [0, 1, 2, 6] (fun k : Nat => slK g n cb gl (n + 1) cl k) (fun _ => memK g gl bs (ruCells l)) (fun k => k ≤ n ∧ Tx bs n l ∧ k + blanksF (l.drop k) = k0 + blanksF (l.drop k0)) (fun k => n - k)
    k0 (fun h => ⟨h.2, h.1, rfl⟩) (fun p hp => hp) [0, 1] (by decide) rfl (o := fun _ => skB_o) (R := fun k xs => skB_R g n cb gl (n + 1) cl k bs (ruCells l) xs) (fun k xs _ => skB_run g n cb gl (n + 1) cl k bs (ruCells l) xs) ?_
  rintro - k rest ⟨hk, hT, he⟩ ns
  obtain ⟨x, hx, hat, hc⟩ := hT.get hk
  obtain ⟨a0, a1, a2, a3, a4⟩ := ru_at hx
  have hlt : k < l.length := by rw [hT.len]; omega
  have hxe : l[k] = x := by rw [List.getElem?_eq_getElem hlt] at hx; injection hx
  rw [List.drop_eq_getElem_cons hlt, hxe, blanksF_cons] at he
  have hsm := hT.small
  simp only [skB_R, Sy.Res.holds, show Int.toNat (Int.ofNat k) = k from rfl, Nat.succ_eq_add_one, a0, a1, a2, a3, a4, Option.some.injEq, Value.int.injEq, true_and, exists_eq', Sy.b_f]
  have hr : (0 : Int) ≤ Int.ofNat k ∧ Int.ofNat k < ((n + 1 : Nat) : Int) := ⟨Int.natCast_nonneg k, by show (k : Int) < _; omega⟩
  refine ⟨hr, fun h0 h1 h2 h3 h4 _ => ?_⟩
  rw [← h0, ← h2]
  refine ⟨fun hb => ?_, fun hb => ⟨hr, fun h5 => ⟨⟨k, ?_, ⟨hT.hn, hk, by omega, by decide⟩, by rw [begNo_slash hT k]; simp⟩, fun _ => ?_⟩⟩⟩
  · rw [if_pos hb] at he
    have hkn : k < n := by
      rcases hc with ⟨h, -⟩ | ⟨-, -, h⟩
      · exact h
      · rw [h, bl_end] at hb; simp at hb
    refine Sy.leafL_next (k + 1) rfl ⟨by omega, hT, by omega⟩ (by show n - (k + 1) < n - k; omega) ?_ [0, 1] (by decide) rfl
    rw [w_inc (by omega)]; rfl
  · rw [← h5, hat]; rfl
  · rw [if_neg hb] at he
    refine Sy.leafL_end 0 rfl rfl (by simp) rfl [] rfl [3] ?_ [] (by decide) trivial trivial
    show [(6, Value.int .i64 (Int.ofNat (k0 + blanksF (l.drop k0))))] = _
    rw [← he]
    rfl

noncomputable def skC (g n cb gl cl k : Nat) (bs : List Nat) (l : List Ru) : Sy.CallC :=
  ⟨fSkipped, #[.slice (some ⟨g, 0, none⟩) n cb, .slice (some ⟨gl, 0, none⟩) (n + 1) cl, .int .i64 (Int.ofNat k)], Tx bs n l ∧ k ≤ n, ⟨[(g, .seg 0 (bcells bs)), (gl, .seg 0 (ruCells l))], [], 0⟩, [Sy.plainO (.int .i64 (Int.ofNat (k + blanksF (l.drop k))))]⟩
noncomputable def ctxSk (g n cb gl cl k : Nat) (bs : List Nat) (l : List Ru) : Sy.Ctx := Sy.mkS [] [(fSkipped, fun _ _ => loopK g n cb gl cl k bs l)] []
theorem ctxSk_holds (g n cb gl cl k : Nat) (bs : List Nat) (l : List Ru) : (ctxSk g n cb gl cl k bs l).holds Tryz.prog := Sy.mkS_holds (fun _ h => (by cases h)) (fun p hp a L => by
  rcases List.mem_singleton.1 hp with rfl
  exact loopK_met _ _ _ _ _ _ _ _) (fun _ h => (by cases h))

def sk_o : Sy.O := (Sy.O.steps [0, 0, 0] Sy.O.nil)
noncomputable def sk_R (g : Nat) (n : Nat) (cb : Nat) (gl : Nat) (cl : Nat) (k : Nat) (bs : List Nat) (l : List Ru) (ns : Nat → Sy.Let) : Sy.Res (Value × List Blk) := Sy.Res.need (Tx bs n l ∧ k ≤ n)
 (Sy.Res.hyp True (Sy.Res.leaf (Value.int IntKind.i64 (Int.ofNat (k + blanksF (List.drop k l))), [])))
theorem sk_run (g n cb gl cl k : Nat) (bs : List Nat) (l : List Ru) : Sy.Ran (Sy.inT Tryz.prog (ctxSk g n cb gl cl k bs l) 50 fSkipped (skC g n cb gl cl k bs l).args (Sy.blks (skC g n cb gl cl k bs l).mem) Sy.noB) sk_o (sk_R g n cb gl cl k bs l) := ⟨fun ns => by kernel_rfl, fun ns => by kernel_rfl⟩

theorem skC_met (g n cb gl cl k : Nat) (bs : List Nat) (l : List Ru) : Sy.Meets Tryz.prog (skC g n cb gl cl k bs l) := by
  refine Sy.meets_of (ctxSk_holds g n cb gl cl k bs l) mixed (sk_run g n cb gl cl k bs l) fun hok ns => ?_
  simp only [sk_R, Sy.Res.holds]
  exact ⟨hok, fun _ => Sy.plainO_leaf (List.mem_singleton_self _) rfl rfl⟩

end Go.Proofs.YtlpcnaeknbmjdaaGreat
