/-
  The reference's lexer: a text made into runes (of texts whose bytes are below 128).
-/
import Derived.Test.YtlpcnaeknbmjdaaGreatLxB
namespace Go.Proofs.YtlpcnaeknbmjdaaGreat
set_option linter.unusedVariables false
set_option linter.unusedSimpArgs false
open Go Go.RowKit
open Sy (Let Blk)

abbrev fRune0 : FuncId := 110
abbrev fRunes : FuncId := 69
abbrev tRune : TypeId := 144

/-- A rune. -/
structure Ru where
  r : Nat
  at_ : Nat
  n : Nat
  line : Nat
  col : Nat

def Ru.cells (x : Ru) : List Value := [.int .i64 (Int.ofNat x.r), .int .i64 (Int.ofNat x.at_), .int .i64 (Int.ofNat x.n), .int .i64 (Int.ofNat x.line), .int .i64 (Int.ofNat x.col)]
def ruCells (l : List Ru) : List Value := l.flatMap Ru.cells

/-- The runes of bytes. -/
noncomputable def runesF : List Nat → Nat → Nat → Nat → List Ru := fun bs => @List.rec Nat (fun _ => Nat → Nat → Nat → List Ru) (fun a l c => [⟨0, a, 0, l, c⟩])
  (fun b _ ih a l c => ⟨b, a, 1, l, c⟩ :: @Bool.rec (fun _ => List Ru) (ih (Nat.succ a) l (Nat.succ c)) (ih (Nat.succ a) (Nat.succ l) 1) (Nat.beq b 10)) bs

def ascii (bs : List Nat) : Prop := ∀ b ∈ bs, b < 128

def rune0C (g n cap i b : Nat) (bs : List Nat) : Sy.CallC :=
  ⟨fRune0, #[.slice (some ⟨g, 0, none⟩) n cap, .int .i64 (Int.ofNat i)], n = bs.length ∧ bs[i]? = some b ∧ b < 128, ⟨[(g, .seg 0 (bcells bs))], [], 0⟩, [Sy.plainO (.tuple #[.int .i64 (Int.ofNat b), .int .i64 1])]⟩

/-- It is below 128. -/
def OkA (v : Value) : Prop := ∃ n : Int, v = .int .u8 n ∧ n < 128
noncomputable def ltS (v : Value) : Sem Next := Sy.opV (do eqGuard .lss 5 (.tmp 16) (.const (.int .u8 128)) v (.int .u8 128); binOp .lss 5 v (.int .u8 128))
noncomputable def ltK (a : Sy.F) (_ : List Sy.Blk) : Sy.OpK := ⟨ltS (a.get 16), OkA (a.get 16), ⟨⟨[], [], 0⟩, [(⟨fun _ => True, fun _ => []⟩, fun _ => some (.bool true))]⟩⟩
theorem ltK_meets (a : Sy.F) (L : List Sy.Blk) : (ltK a L).meets Tryz.prog := by
  rintro ⟨n, hv, hk⟩ W _
  refine ⟨_, List.mem_singleton_self _, [], W, ?_, rfl, trivial, rfl, rfl, rfl, Nat.le_refl _, fun _ _ _ => rfl, fun p hp => (by cases hp), List.nodup_nil⟩
  show (ltS (a.get 16)).run Tryz.prog W = .ok (.value (.bool true)) W
  rw [hv]
  refine Sy.opV_run ?_
  simp [eqGuard, binOp, Op.intCmp, hk]

noncomputable def ctxA : Sy.Ctx := Sy.mkS [] [] [(fRune0, 17, fun a L => ltK a L)]
theorem ctxA_holds : ctxA.holds Tryz.prog := Sy.mkS_holds (fun _ h => (by cases h)) (fun _ h => (by cases h)) (fun p hp a L => by
  rcases List.mem_singleton.1 hp with rfl
  exact ltK_meets a L)

def ru0_o : Sy.O := (Sy.O.steps [1, 0, 1, 1, 1, 0, 0] Sy.O.nil)
noncomputable def ru0_R (g : Nat) (n : Nat) (cap : Nat) (i : Nat) (b : Nat) (bs : List Nat) (ns : Nat → Sy.Let) : Sy.Res (Value × List Blk) := Sy.Res.need ((0 : Int) ≤ Int.ofNat i ∧ Int.ofNat i < (↑n : Int))
 (Sy.Res.need
 (∃ (i_1 : Int),
 Sy.Cont.at (Sy.Cont.seg (0 : Nat) (bcells bs)) ((0 : Nat) + Int.toNat (Int.ofNat i) * (1 : Nat)) =
 some (Value.int IntKind.u8 i_1))
 (Sy.Res.hyp
 (Sy.Cont.at (Sy.Cont.seg (0 : Nat) (bcells bs)) ((0 : Nat) + Int.toNat (Int.ofNat i) * (1 : Nat)) =
 some (Value.int IntKind.u8 (Let.i (ns (0 : Nat)))))
 (Sy.Res.need (∃ (n : Int), Value.int IntKind.u8 (Let.i (ns (0 : Nat))) = Value.int IntKind.u8 n ∧ n < (128 : Int))
 (Sy.Res.hyp True
 (Sy.Res.leaf
 (Value.tuple
 (Array.mk
 [Value.int IntKind.i64 (Ex.wrapQ IntKind.i64 (Let.i (ns (0 : Nat)))),
 Value.int IntKind.i64 (1 : Int)]),
 []))))))
theorem ru0_run (g n cap i b : Nat) (bs : List Nat) : Sy.Ran (Sy.inT Tryz.prog ctxA 50 fRune0 (rune0C g n cap i b bs).args (Sy.blks (rune0C g n cap i b bs).mem) Sy.noB) ru0_o (ru0_R g n cap i b bs) := ⟨fun ns => by kernel_rfl, fun ns => by kernel_rfl⟩

theorem rune0C_met (g n cap i b : Nat) (bs : List Nat) : Sy.Meets Tryz.prog (rune0C g n cap i b bs) := by
  refine Sy.meets_of ctxA_holds mixed (ru0_run g n cap i b bs) fun hok ns => ?_
  obtain ⟨hn, hb, h8⟩ := (show n = bs.length ∧ bs[i]? = some b ∧ b < 128 from hok)
  have hlt := (List.getElem?_eq_some_iff.1 hb).1
  simp only [ru0_R, Sy.Res.holds]
  rw [show Int.toNat (Int.ofNat i) = i from rfl, bcells_at hb]
  refine ⟨⟨Int.natCast_nonneg i, by show (i : Int) < (n : Int); omega⟩, ⟨_, rfl⟩, fun h1 => ⟨?_, ?_⟩⟩
  all_goals simp only [Option.some.injEq, Value.int.injEq, true_and] at h1
  · exact ⟨_, rfl, by rw [← h1]; show (b : Int) < 128; omega⟩
  · intro _
    refine Sy.plainO_leaf (List.mem_singleton_self _) rfl ?_
    have : Ex.wrapQ .i64 (Let.i (ns 0)) = (b : Int) := by
      rw [← h1, Ex.wrapQ_eq]
      show IntKind.i64.wrap (b : Int) = _
      simp [IntKind.wrap, IntKind.signed, IntKind.bits]
      omega
    rw [this]
    rfl

/-- Where the bytes end. -/
noncomputable def endLC : List Nat → Nat → Nat → Nat × Nat := fun bs => @List.rec Nat (fun _ => Nat → Nat → Nat × Nat) (fun l c => (l, c)) (fun b _ ih l c => @Bool.rec (fun _ => Nat × Nat) (ih l (Nat.succ c)) (ih (Nat.succ l) 1) (Nat.beq b 10)) bs
/-- The runes without the last. -/
noncomputable def runesP : List Nat → Nat → Nat → Nat → List Ru := fun bs => @List.rec Nat (fun _ => Nat → Nat → Nat → List Ru) (fun _ _ _ => [])
  (fun b _ ih a l c => ⟨b, a, 1, l, c⟩ :: @Bool.rec (fun _ => List Ru) (ih (Nat.succ a) l (Nat.succ c)) (ih (Nat.succ a) (Nat.succ l) 1) (Nat.beq b 10)) bs

theorem runesF_eq : ∀ (bs : List Nat) (a l c : Nat), runesF bs a l c = runesP bs a l c ++ [⟨0, a + bs.length, 0, (endLC bs l c).1, (endLC bs l c).2⟩]
  | [], a, l, c => rfl
  | b :: r, a, l, c => by
    show ⟨b, a, 1, l, c⟩ :: @Bool.rec (fun _ => List Ru) (runesF r (a + 1) l (c + 1)) (runesF r (a + 1) (l + 1) 1) (Nat.beq b 10) = (⟨b, a, 1, l, c⟩ :: @Bool.rec (fun _ => List Ru) (runesP r (a + 1) l (c + 1)) (runesP r (a + 1) (l + 1) 1) (Nat.beq b 10)) ++
      [⟨0, a + (r.length + 1), 0, (@Bool.rec (fun _ => Nat × Nat) (endLC r l (c + 1)) (endLC r (l + 1) 1) (Nat.beq b 10)).1, (@Bool.rec (fun _ => Nat × Nat) (endLC r l (c + 1)) (endLC r (l + 1) 1) (Nat.beq b 10)).2⟩]
    cases Nat.beq b 10 with
    | false => simp only [runesF_eq r, List.cons_append]; rw [show a + 1 + r.length = a + (r.length + 1) by omega]
    | true => simp only [runesF_eq r, List.cons_append]; rw [show a + 1 + r.length = a + (r.length + 1) by omega]

theorem runesP_length : ∀ (bs : List Nat) (a l c : Nat), (runesP bs a l c).length = bs.length
  | [], _, _, _ => rfl
  | b :: r, a, l, c => by
    show (⟨b, a, 1, l, c⟩ :: @Bool.rec (fun _ => List Ru) (runesP r (a + 1) l (c + 1)) (runesP r (a + 1) (l + 1) 1) (Nat.beq b 10)).length = r.length + 1
    cases Nat.beq b 10 <;> simp [runesP_length r]

/-- The loop's state. -/
structure Rs where
  gl : Nat
  cap : Nat
  i : Nat
  l : Nat
  c : Nat
  pre : List Ru

noncomputable def bodyR : Code := Sy.loopBody Tryz.f69 0
def slR (g n cb : Nat) (gl i cap l c : Nat) : List (Nat × Value) := [(0, .slice (some ⟨g, 0, none⟩) n cb), (3, .slice (some ⟨gl, 0, none⟩) i cap), (4, .int .i64 l), (5, .int .i64 c), (6, .int .i64 i)]
noncomputable def memR (g : Nat) (bs : List Nat) (gl i cap : Nat) (xs : List Value) : List Blk := [⟨g, .seg 0 (bcells bs), false⟩, ⟨gl, .row tRune 5 i cap xs, true⟩]

noncomputable def runesC (g n cb : Nat) (bs : List Nat) : Sy.CallC :=
  ⟨fRunes, #[.slice (some ⟨g, 0, none⟩) n cb], n = bs.length ∧ ascii bs ∧ n < 1000000, ⟨[(g, .seg 0 (bcells bs))], [], 2⟩, [Sy.rowO tRune 5 (n + 1) (ruCells (runesF bs 0 1 1)) id]⟩

noncomputable def loopR (g n cb : Nat) (bs : List Nat) (gl cap : Nat) : Sy.LoopC :=
  ⟨.loop bodyR, 46, slR g n cb gl 0 cap 1 1, n = bs.length ∧ ascii bs ∧ n < 1000000, ⟨[(g, .seg 0 (bcells bs))], [(gl, .row tRune 5 0 cap [])], 2⟩,
    [(⟨fun ns => n ≤ Sy.num ns 1, fun ns => [(Sy.num ns 0, .row tRune 5 n (Sy.num ns 1) (ruCells (runesP bs 0 1 1)))]⟩, .exit 0, fun ns => slR g n cb (Sy.num ns 0) n (Sy.num ns 1) (endLC bs 1 1).1 (endLC bs 1 1).2)]⟩

noncomputable def ctxR0 (g n cb : Nat) (bs : List Nat) (i b : Nat) : Sy.Ctx := Sy.mkS [(fRune0, fun _ _ => rune0C g n cb i b bs)] [] []
def rnB_o : Sy.O := (Sy.O.fork (Sy.O.steps [0, 0, 0, 0, 0, 2, 0, 1, 1, 0, 1] (Sy.O.fork Sy.O.nil Sy.O.nil)) Sy.O.nil)
noncomputable def rnB_R (g : Nat) (n : Nat) (cb : Nat) (bs : List Nat) (gl : Nat) (i : Nat) (cap : Nat) (l : Nat) (c : Nat) (b : Nat) (xs : List Value) (rest : List Value) (ns : Nat → Sy.Let) : Sy.Res (Exit × Nat × List Value × List Blk) := Sy.Res.br (Ex.ltQ (↑i : Int) (Int.ofNat n))
 (Sy.Res.need (n = List.length bs ∧ bs[i]? = some b ∧ b < (128 : Nat))
 (Sy.Res.hyp True
 (Sy.Res.need (i + (1 : Nat) ≤ (9223372036854775807 : Nat))
 (Sy.Res.need ((i + (1 : Nat)) * (40 : Nat) ≤ (140737488355328 : Nat))
 (Sy.Res.hyp (Nat.le (i + (1 : Nat)) (Let.n (ns (2 : Nat))))
 (Sy.Res.br (Ex.eqQ (Int.ofNat b) (10 : Int))
 (Sy.Res.leaf
 (Exit.normal, (46 : Nat),
 [Value.slice (some (Addr.mk g (0 : Nat) none)) n cb,
 Value.slice (some (Addr.mk (Let.n (ns (1 : Nat))) (0 : Nat) none)) (i + (1 : Nat))
 (Let.n (ns (2 : Nat))),
 Value.int IntKind.i64 (Ex.wrapQ IntKind.i64 (Ex.addQ (↑l : Int) (1 : Int))),
 Value.int IntKind.i64 (1 : Int),
 Value.int IntKind.i64 (Ex.wrapQ IntKind.i64 (Ex.addQ (↑i : Int) (1 : Int)))],
 [Blk.mk (Let.n (ns (1 : Nat)))
 (Sy.Cont.row (144 : Nat) (5 : Nat) (i + (1 : Nat)) (Let.n (ns (2 : Nat)))
 (xs ++
 [Value.int IntKind.i64 (Int.ofNat b), Value.int IntKind.i64 (↑i : Int),
 Value.int IntKind.i64 (1 : Int), Value.int IntKind.i64 (↑l : Int),
 Value.int IntKind.i64 (↑c : Int)]))
 true,
 Blk.mk (Let.n (ns (0 : Nat)))
 (Sy.Cont.obj
 (Obj.cells
 (Array.mk
 [Value.int IntKind.i64 (Int.ofNat b), Value.int IntKind.i64 (↑i : Int),
 Value.int IntKind.i64 (1 : Int), Value.int IntKind.i64 (↑l : Int),
 Value.int IntKind.i64 (↑c : Int)])
 (144 : Nat)))
 true,
 Blk.mk g (Sy.Cont.seg (0 : Nat) (bcells bs)) false]))
 (Sy.Res.leaf
 (Exit.normal, (46 : Nat),
 [Value.slice (some (Addr.mk g (0 : Nat) none)) n cb,
 Value.slice (some (Addr.mk (Let.n (ns (1 : Nat))) (0 : Nat) none)) (i + (1 : Nat))
 (Let.n (ns (2 : Nat))),
 Value.int IntKind.i64 (↑l : Int),
 Value.int IntKind.i64 (Ex.wrapQ IntKind.i64 (Ex.addQ (↑c : Int) (1 : Int))),
 Value.int IntKind.i64 (Ex.wrapQ IntKind.i64 (Ex.addQ (↑i : Int) (1 : Int)))],
 [Blk.mk (Let.n (ns (1 : Nat)))
 (Sy.Cont.row (144 : Nat) (5 : Nat) (i + (1 : Nat)) (Let.n (ns (2 : Nat)))
 (xs ++
 [Value.int IntKind.i64 (Int.ofNat b), Value.int IntKind.i64 (↑i : Int),
 Value.int IntKind.i64 (1 : Int), Value.int IntKind.i64 (↑l : Int),
 Value.int IntKind.i64 (↑c : Int)]))
 true,
 Blk.mk (Let.n (ns (0 : Nat)))
 (Sy.Cont.obj
 (Obj.cells
 (Array.mk
 [Value.int IntKind.i64 (Int.ofNat b), Value.int IntKind.i64 (↑i : Int),
 Value.int IntKind.i64 (1 : Int), Value.int IntKind.i64 (↑l : Int),
 Value.int IntKind.i64 (↑c : Int)])
 (144 : Nat)))
 true,
 Blk.mk g (Sy.Cont.seg (0 : Nat) (bcells bs)) false]))))))))
 (Sy.Res.leaf
 (Exit.exit (0 : Nat), (46 : Nat),
 [Value.slice (some (Addr.mk g (0 : Nat) none)) n cb, Value.slice (some (Addr.mk gl (0 : Nat) none)) i cap,
 Value.int IntKind.i64 (↑l : Int), Value.int IntKind.i64 (↑c : Int), Value.int IntKind.i64 (↑i : Int)],
 memR g bs gl i cap xs))
theorem rnB_run (g n cb : Nat) (bs : List Nat) (gl i cap l c b : Nat) (xs : List Value) (rest : List Value) : Sy.Ran (Sy.pieceT Tryz.prog (ctxR0 g n cb bs i b) 50 fRunes bodyR 46 (slR g n cb gl i cap l c) rest (memR g bs gl i cap xs) [0, 3, 4, 5, 6]) rnB_o (rnB_R g n cb bs gl i cap l c b xs rest) := ⟨fun ns => by kernel_rfl, fun ns => by kernel_rfl⟩
noncomputable def ctxR1 (g n cb : Nat) (bs : List Nat) : Sy.Ctx := Sy.mkS [] [(fRunes, fun a _ => loopR g n cb bs (Sy.ptrN (a.get 3)) (Sy.capN (a.get 3)))] []
def rn_o : Sy.O := (Sy.O.steps [0, 1, 0, 0, 0, 0, 1, 0, 1, 1, 0, 0] Sy.O.nil)
noncomputable def rn_R (g : Nat) (n : Nat) (cb : Nat) (bs : List Nat) (ns : Nat → Sy.Let) : Sy.Res (Value × List Blk) := Sy.Res.need (n = List.length bs ∧ ascii bs ∧ n < (1000000 : Nat))
 (Sy.Res.hyp (Nat.le n (Let.n (ns (2 : Nat))))
 (Sy.Res.need (n + (1 : Nat) ≤ (9223372036854775807 : Nat))
 (Sy.Res.need ((n + (1 : Nat)) * (40 : Nat) ≤ (140737488355328 : Nat))
 (Sy.Res.hyp (Nat.le (n + (1 : Nat)) (Let.n (ns (6 : Nat))))
 (Sy.Res.leaf
 (Value.slice (some (Addr.mk (Let.n (ns (5 : Nat))) (0 : Nat) none)) (n + (1 : Nat)) (Let.n (ns (6 : Nat))),
 [Blk.mk (Let.n (ns (5 : Nat)))
 (Sy.Cont.row (144 : Nat) (5 : Nat) (n + (1 : Nat)) (Let.n (ns (6 : Nat)))
 (ruCells (runesP bs (0 : Nat) (1 : Nat) (1 : Nat)) ++
 [Value.int IntKind.i64 (0 : Int), Value.int IntKind.i64 (Int.ofNat n),
 Value.int IntKind.i64 (0 : Int),
 Value.int IntKind.i64 (↑(Prod.fst (endLC bs (1 : Nat) (1 : Nat))) : Int),
 Value.int IntKind.i64 (↑(Prod.snd (endLC bs (1 : Nat) (1 : Nat))) : Int)]))
 true,
 Blk.mk (Let.n (ns (4 : Nat)))
 (Sy.Cont.obj
 (Obj.cells
 (Array.mk
 [Value.int IntKind.i64 (0 : Int), Value.int IntKind.i64 (Int.ofNat n),
 Value.int IntKind.i64 (0 : Int),
 Value.int IntKind.i64 (↑(Prod.fst (endLC bs (1 : Nat) (1 : Nat))) : Int),
 Value.int IntKind.i64 (↑(Prod.snd (endLC bs (1 : Nat) (1 : Nat))) : Int)])
 (144 : Nat)))
 true]))))))
theorem rn_run (g n cb : Nat) (bs : List Nat) : Sy.Ran (Sy.inT Tryz.prog (ctxR1 g n cb bs) 50 fRunes (runesC g n cb bs).args (Sy.blks (runesC g n cb bs).mem) (Sy.rowT tRune)) rn_o (rn_R g n cb bs) := ⟨fun ns => by kernel_rfl, fun ns => by kernel_rfl⟩

theorem ctxR0_holds (g n cb : Nat) (bs : List Nat) (i b : Nat) : (ctxR0 g n cb bs i b).holds Tryz.prog := Sy.mkS_holds (fun p hp a L => by
  rcases List.mem_singleton.1 hp with rfl
  exact rune0C_met _ _ _ _ _ _) (fun _ h => (by cases h)) (fun _ h => (by cases h))

def okR (n : Nat) (bs : List Nat) (s : Rs) : Prop := s.i ≤ n ∧ n = bs.length ∧ ascii bs ∧ n < 1000000 ∧ runesP bs 0 1 1 = s.pre ++ runesP (bs.drop s.i) s.i s.l s.c ∧ s.pre.length = s.i ∧ endLC bs 1 1 = endLC (bs.drop s.i) s.l s.c ∧ s.l ≤ s.i + 1 ∧ s.c ≤ s.i + 1 ∧ s.i ≤ s.cap

theorem runesP_cons (b : Nat) (r : List Nat) (a l c : Nat) : runesP (b :: r) a l c = ⟨b, a, 1, l, c⟩ :: @Bool.rec (fun _ => List Ru) (runesP r (a + 1) l (c + 1)) (runesP r (a + 1) (l + 1) 1) (Nat.beq b 10) := rfl
theorem endLC_cons (b : Nat) (r : List Nat) (l c : Nat) : endLC (b :: r) l c = @Bool.rec (fun _ => Nat × Nat) (endLC r l (c + 1)) (endLC r (l + 1) 1) (Nat.beq b 10) := rfl

theorem ruCells_snoc (l : List Ru) (x : Ru) : ruCells (l ++ [x]) = ruCells l ++ x.cells := by simp [ruCells]

theorem loopR_met (g n cb : Nat) (bs : List Nat) (gl cap : Nat) : Sy.MeetsL Tryz.prog (loopR g n cb bs gl cap) := by
  refine Sy.loop_ofS (n := 50) (fn := fRunes) (S := fun s : Rs => ctxR0 g n cb bs s.i ((bs[s.i]?).getD 0)) (fun s => ctxR0_holds _ _ _ _ _ _) mixed (body := bodyR) rfl [0, 3, 4, 5, 6] (fun s => slR g n cb s.gl s.i s.cap s.l s.c) (fun s => memR g bs s.gl s.i s.cap (ruCells s.pre)) (okR n bs) (fun s => n - s.i)
    ⟨gl, cap, 0, 1, 1, []⟩ (fun h => ⟨Nat.zero_le _, h.1, h.2.1, h.2.2, rfl, rfl, rfl, Nat.le_refl _, Nat.le_refl _, Nat.zero_le _⟩) (fun p hp => hp) [0, 1] (by decide) rfl
    (o := fun _ => rnB_o) (R := fun s xs => rnB_R g n cb bs s.gl s.i s.cap s.l s.c ((bs[s.i]?).getD 0) (ruCells s.pre) xs) (fun s xs _ => rnB_run g n cb bs s.gl s.i s.cap s.l s.c ((bs[s.i]?).getD 0) (ruCells s.pre) xs) ?_
  rintro - ⟨gl, cap, i, l, c, pre⟩ rest hs ns
  have hs' := hs
  obtain ⟨hi, hn, ha, hm, hp, hpl, he, hl, hc, hcap⟩ : i ≤ n ∧ n = bs.length ∧ ascii bs ∧ n < 1000000 ∧ runesP bs 0 1 1 = pre ++ runesP (bs.drop i) i l c ∧ pre.length = i ∧ endLC bs 1 1 = endLC (bs.drop i) l c ∧ l ≤ i + 1 ∧ c ≤ i + 1 ∧ i ≤ cap := hs
  simp only [rnB_R, Sy.Res.holds, Sy.q_lt, Sy.q_eq, Sy.b_f]
  refine ⟨fun hlt => ?_, fun hge => ?_⟩
  · have hlt : i < bs.length := by
      have : (i : Int) < (n : Int) := hlt
      omega
    have hb : bs[i]? = some bs[i] := List.getElem?_eq_getElem hlt
    have hb8 : bs[i] < 128 := ha _ (List.getElem_mem hlt)
    have hd : bs.drop i = bs[i] :: bs.drop (i + 1) := List.drop_eq_getElem_cons hlt
    generalize bs[i] = b at *
    rw [hb, Option.getD_some]
    rw [hd, runesP_cons] at hp
    rw [hd, endLC_cons] at he
    refine ⟨⟨hn, rfl, hb8⟩, fun _ => ⟨by omega, by omega, fun hcap' => ⟨fun h10 => ?_, fun h10 => ?_⟩⟩⟩
    · have h10 : b = 10 := by
        have : (b : Int) = 10 := h10
        omega
      subst h10
      refine Sy.leafL_next ⟨Let.n (ns 1), Let.n (ns 2), i + 1, l + 1, 1, pre ++ [⟨10, i, 1, l, c⟩]⟩ rfl ⟨by show i + 1 ≤ n; omega, hn, ha, hm, ?_, by simp [hpl], he, by show l + 1 ≤ i + 1 + 1; omega, by show 1 ≤ i + 1 + 1; omega, hcap'⟩ (by show n - (i + 1) < n - i; omega) ?_ [2, 0] (by decide) ?_
      · rw [hp, List.append_assoc]; rfl
      · rw [Sy.inc_q i (by omega), Sy.inc_q l (by omega)]; rfl
      · rw [ruCells_snoc]; rfl
    · have h10 : Nat.beq b 10 = false := by
        cases hx : Nat.beq b 10 with
        | false => rfl
        | true => exact (h10 (by rw [Nat.eq_of_beq_eq_true hx]; rfl)).elim
      rw [h10] at hp he
      refine Sy.leafL_next ⟨Let.n (ns 1), Let.n (ns 2), i + 1, l, c + 1, pre ++ [⟨b, i, 1, l, c⟩]⟩ rfl ⟨by show i + 1 ≤ n; omega, hn, ha, hm, ?_, by simp [hpl], he, by show l ≤ i + 1 + 1; omega, by show c + 1 ≤ i + 1 + 1; omega, hcap'⟩ (by show n - (i + 1) < n - i; omega) ?_ [2, 0] (by decide) ?_
      · rw [hp, List.append_assoc]; rfl
      · rw [Sy.inc_q i (by omega), Sy.inc_q c (by omega)]; rfl
      · rw [ruCells_snoc]; rfl
  · have hin : i = n := by
      have : ¬ ((i : Int) < (n : Int)) := hge
      omega
    subst hin
    have hdn : bs.drop i = [] := by rw [hn]; simp
    rw [hdn] at hp he
    have hp : runesP bs 0 1 1 = pre := by rw [hp]; exact List.append_nil _
    have he : endLC bs 1 1 = (l, c) := he
    refine Sy.leafL_end 0 rfl rfl (by simp) rfl [⟨gl, 0, false, undef, []⟩, ⟨cap, 0, false, undef, []⟩] rfl [0, 1, 2, 3, 4] ?_ [1] (by decide) ?_ hcap
    · show slR g i cb gl i cap (endLC bs 1 1).1 (endLC bs 1 1).2 = _
      rw [he]
      rfl
    · refine ⟨⟨rfl, rfl, .inl ?_⟩, trivial⟩
      show Sy.Cont.row tRune 5 i cap (ruCells pre) = .row tRune 5 i cap (ruCells (runesP bs 0 1 1))
      rw [hp]

theorem ctxR1_holds (g n cb : Nat) (bs : List Nat) : (ctxR1 g n cb bs).holds Tryz.prog := Sy.mkS_holds (fun _ h => (by cases h)) (fun p hp a L => by
  rcases List.mem_singleton.1 hp with rfl
  exact loopR_met _ _ _ _ _ _) (fun _ h => (by cases h))

theorem runesC_met (g n cb : Nat) (bs : List Nat) : Sy.Meets Tryz.prog (runesC g n cb bs) := by
  refine Sy.meets_of (ctxR1_holds g n cb bs) mixed (rn_run g n cb bs) fun hok ns => ?_
  have hok' : n = bs.length ∧ ascii bs ∧ n < 1000000 := hok
  obtain ⟨hn, ha, hm⟩ := hok'
  simp only [rn_R, Sy.Res.holds]
  refine ⟨⟨hn, ha, hm⟩, fun _ => ⟨by omega, by omega, fun hcap => ?_⟩⟩
  refine Sy.rowO_leaf' (List.mem_singleton_self _) rfl 0 rfl rfl rfl ?_ hcap
  rw [runesF_eq, ruCells_snoc]
  show _ = _ ++ [Value.int .i64 (Int.ofNat 0), .int .i64 (Int.ofNat (0 + bs.length)), .int .i64 (Int.ofNat 0), _, _]
  rw [Nat.zero_add, ← hn]
  rfl

end Go.Proofs.YtlpcnaeknbmjdaaGreat
