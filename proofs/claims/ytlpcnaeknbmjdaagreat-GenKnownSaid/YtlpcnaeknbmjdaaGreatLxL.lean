/-
  The reference's lexer: the call (of texts without a slash, whose tokens are all right).
-/
import Derived.Test.YtlpcnaeknbmjdaaGreatLxG
import Derived.Test.YtlpcnaeknbmjdaaGreatSyL
namespace Go.Proofs.YtlpcnaeknbmjdaaGreat
set_option linter.unusedVariables false
set_option linter.unusedSimpArgs false
open Go Go.RowKit
open Sy (Let Blk)

noncomputable def bodyLx : Code := Sy.loopBody Tryz.f43 0

noncomputable def numM (l : List Ru) (k : Nat) : Nat := ((numF (l.drop k) 0).getD (0, 0)).1
noncomputable def numV (l : List Ru) (k : Nat) : Nat := ((numF (l.drop k) 0).getD (0, 0)).2
noncomputable def nuK (n gl cl : Nat) (bs : List Nat) (l : List Ru) (k : Nat) : Sy.CallC := nuC n gl cl k bs l (numM l k) (numV l k)
def Sy.intN (v : Value) : Nat := match v with
  | .int _ i => i.toNat
  | _ => 0

/-- The rune among the blocks. -/
noncomputable def Sy.runeB (L : List Blk) : Nat → Int := @List.rec Blk (fun _ => Nat → Int) (fun _ => 0) (fun b _ ih j => match b.ct with
  | .obj (.cells c _ _) => match c.toList with
    | [.int .i64 r, .int .i64 a, .int .i64 n, .int .i64 l, .int .i64 c] => match j with
      | 0 => r
      | 1 => a
      | 2 => n
      | 3 => l
      | _ => c
    | _ => ih j
  | _ => ih j) L

noncomputable def ctxL (g n cb gl cl : Nat) (bs : List Nat) (l : List Ru) : Sy.Ctx := Sy.mkS
  [(70, fun a _ => skC g n cb gl cl (Sy.argI a 2).toNat bs l), (fDigit, fun a _ => ruK dgC a), (fLetter, fun a _ => ruK ltC a), (fNumber, fun a _ => nuK n gl cl bs l (Sy.argI a 1).toNat), (fBegins, fun a _ => begI g n cb (Sy.argI a 1) (argS a 2) bs), (fIsWord, fun a _ => iwC (argS a 0))]
  [(fLex, fun a _ => loopNm n gl cl (Sy.intN (a.get 6)) bs l (a.get 0) (a.get 2) (a.get 3) (a.get 5) (a.get 7) (a.get 8)), (fLex, fun a L => loopG g n cb (a.get 2) (a.get 3) (a.get 4) (a.get 5) (Sy.intN (a.get 6)) (Sy.ptrN (a.get 7)) (Sy.ptrN (a.get 8)) (Sy.ptrN (a.get 12)) (Sy.capN (a.get 12)) bs (Sy.runeB L 0) (Sy.runeB L 1) (Sy.runeB L 2) (Sy.runeB L 3) (Sy.runeB L 4))]
  [(fLex, 86, fun a _ => cvK g bs (a.get 85)), (fLex, 131, fun a _ => cvK g bs (a.get 130))]

def slL (g n cb p3 gl cl go m co k : Nat) : List (Nat × Value) := [(0, .slice (some ⟨g, 0, none⟩) n cb), (2, .slice none 0 0), (3, .pointer (some ⟨p3, 0, none⟩)), (4, .slice (some ⟨gl, 0, none⟩) (n + 1) cl), (5, .slice (some ⟨go, 0, none⟩) m co), (6, .int .i64 (Int.ofNat k))]
noncomputable def memL (g p3 gl go m co : Nat) (bs : List Nat) (l : List Ru) (xs : List Value) : List Blk := [⟨g, .seg 0 (bcells bs), false⟩, ⟨p3, .obj (.cells #[.int .i64 0, .int .i64 0, .int .i64 0] 35 (0, 0)), true⟩, ⟨gl, .seg 0 (ruCells l), false⟩, ⟨go, .row tTok 5 m co xs, true⟩]

def lxB_o : Sy.O := (Sy.O.steps [0, 0, 1, 1, 1, 1, 1, 1, 1, 1, 1, 1, 0, 0, 0, 0, 0, 0, 0, 0, 0, 0, 1, 0] (Sy.O.fork (Sy.O.steps [0, 0, 0, 0, 0, 0, 0, 0, 6, 0, 1, 1, 0, 5, 0, 6, 0] Sy.O.nil) (Sy.O.steps [1, 0, 0] (Sy.O.fork (Sy.O.steps [0, 3, 0, 0, 0, 0, 0, 0, 2, 0, 0, 2, 0, 0, 1, 3, 1, 0, 1, 2, 0, 0, 3, 4, 5, 1, 6, 7, 1, 1, 1, 1, 8, 1, 14, 0, 4, 1, 4, 2, 10, 14, 3, 0, 0, 1, 4, 2, 3, 0, 0, 0, 0, 7, 0, 1, 1, 0, 6] Sy.O.nil) (Sy.O.steps [1, 0, 0] (Sy.O.fork (Sy.O.steps [0, 3, 1, 0, 0, 1, 2, 0, 0, 1, 2, 0, 0, 3, 4, 5, 1, 6, 7, 1, 1, 1, 1, 8, 1, 13, 0, 3, 1, 3, 1, 13, 0, 1, 3, 1] (Sy.O.fork (Sy.O.steps [2, 0, 0, 1, 3, 1, 0, 1, 2, 0, 0, 3, 4, 5, 1, 6, 7, 1, 1, 1, 1, 8, 1, 14, 0, 0, 1, 3, 1, 10, 14, 2, 0, 0, 1, 3, 1, 2, 0, 0, 0, 0, 6, 0, 1, 1, 0, 5] Sy.O.nil) (Sy.O.steps [1, 3, 1, 0, 1, 2, 0, 0, 3, 4, 5, 1, 6, 7, 1, 1, 1, 1, 8, 1, 14, 0, 0, 1, 3, 1, 10, 14, 2, 0, 0, 1, 3, 1, 2, 0, 0, 0, 0, 6, 0, 1, 1, 0, 5] Sy.O.nil))) (Sy.O.steps [1, 3, 2, 0, 0, 0, 0, 0, 1, 2, 4, 0, 1, 2, 0, 0, 3, 4, 5, 1, 6, 7, 1, 1, 1, 1, 8, 1, 14, 0, 1, 1, 2, 4, 10, 14, 1, 0, 0, 1, 2, 4, 1, 0, 0, 0, 0, 7, 0, 1, 1, 0, 6] Sy.O.nil)))))))
noncomputable def lxB_R (g : Nat) (n : Nat) (cb : Nat) (p3 : Nat) (gl : Nat) (cl : Nat) (go : Nat) (m : Nat) (co : Nat) (k : Nat) (bs : List Nat) (l : List Ru) (xs : List Value) (rest : List Value) (ns : Nat → Sy.Let) : Sy.Res (Exit × Nat × List Value × List Blk) := Sy.Res.need (Tx bs n l ∧ Int.toNat (Int.ofNat k) ≤ n)
 (Sy.Res.hyp True
 (Sy.Res.need
 ((0 : Int) ≤ Int.ofNat (Int.toNat (Int.ofNat k) + blanksF (List.drop (Int.toNat (Int.ofNat k)) l)) ∧
 Int.ofNat (Int.toNat (Int.ofNat k) + blanksF (List.drop (Int.toNat (Int.ofNat k)) l)) <
 (↑(n + (1 : Nat)) : Int))
 (Sy.Res.need
 (∃ (i : Int),
 Sy.Cont.at (Sy.Cont.seg (0 : Nat) (ruCells l))
 ((0 : Nat) +
 Int.toNat (Int.ofNat (Int.toNat (Int.ofNat k) + blanksF (List.drop (Int.toNat (Int.ofNat k)) l))) *
 (5 : Nat)) =
 some (Value.int IntKind.i64 i))
 (Sy.Res.hyp
 (Sy.Cont.at (Sy.Cont.seg (0 : Nat) (ruCells l))
 ((0 : Nat) +
 Int.toNat (Int.ofNat (Int.toNat (Int.ofNat k) + blanksF (List.drop (Int.toNat (Int.ofNat k)) l))) *
 (5 : Nat)) =
 some (Value.int IntKind.i64 (Let.i (ns (0 : Nat)))))
 (Sy.Res.need
 (∃ (i : Int),
 Sy.Cont.at (Sy.Cont.seg (0 : Nat) (ruCells l))
 ((0 : Nat) +
 Int.toNat
 (Int.ofNat (Int.toNat (Int.ofNat k) + blanksF (List.drop (Int.toNat (Int.ofNat k)) l))) *
 (5 : Nat) +
 (1 : Nat)) =
 some (Value.int IntKind.i64 i))
 (Sy.Res.hyp
 (Sy.Cont.at (Sy.Cont.seg (0 : Nat) (ruCells l))
 ((0 : Nat) +
 Int.toNat
 (Int.ofNat (Int.toNat (Int.ofNat k) + blanksF (List.drop (Int.toNat (Int.ofNat k)) l))) *
 (5 : Nat) +
 (1 : Nat)) =
 some (Value.int IntKind.i64 (Let.i (ns (1 : Nat)))))
 (Sy.Res.need
 (∃ (i : Int),
 Sy.Cont.at (Sy.Cont.seg (0 : Nat) (ruCells l))
 ((0 : Nat) +
 Int.toNat
 (Int.ofNat
 (Int.toNat (Int.ofNat k) + blanksF (List.drop (Int.toNat (Int.ofNat k)) l))) *
 (5 : Nat) +
 (1 : Nat) +
 (1 : Nat)) =
 some (Value.int IntKind.i64 i))
 (Sy.Res.hyp
 (Sy.Cont.at (Sy.Cont.seg (0 : Nat) (ruCells l))
 ((0 : Nat) +
 Int.toNat
 (Int.ofNat
 (Int.toNat (Int.ofNat k) + blanksF (List.drop (Int.toNat (Int.ofNat k)) l))) *
 (5 : Nat) +
 (1 : Nat) +
 (1 : Nat)) =
 some (Value.int IntKind.i64 (Let.i (ns (2 : Nat)))))
 (Sy.Res.need
 (∃ (i : Int),
 Sy.Cont.at (Sy.Cont.seg (0 : Nat) (ruCells l))
 ((0 : Nat) +
 Int.toNat
 (Int.ofNat
 (Int.toNat (Int.ofNat k) + blanksF (List.drop (Int.toNat (Int.ofNat k)) l))) *
 (5 : Nat) +
 (1 : Nat) +
 (1 : Nat) +
 (1 : Nat)) =
 some (Value.int IntKind.i64 i))
 (Sy.Res.hyp
 (Sy.Cont.at (Sy.Cont.seg (0 : Nat) (ruCells l))
 ((0 : Nat) +
 Int.toNat
 (Int.ofNat
 (Int.toNat (Int.ofNat k) + blanksF (List.drop (Int.toNat (Int.ofNat k)) l))) *
 (5 : Nat) +
 (1 : Nat) +
 (1 : Nat) +
 (1 : Nat)) =
 some (Value.int IntKind.i64 (Let.i (ns (3 : Nat)))))
 (Sy.Res.need
 (∃ (i : Int),
 Sy.Cont.at (Sy.Cont.seg (0 : Nat) (ruCells l))
 ((0 : Nat) +
 Int.toNat
 (Int.ofNat
 (Int.toNat (Int.ofNat k) +
 blanksF (List.drop (Int.toNat (Int.ofNat k)) l))) *
 (5 : Nat) +
 (1 : Nat) +
 (1 : Nat) +
 (1 : Nat) +
 (1 : Nat)) =
 some (Value.int IntKind.i64 i))
 (Sy.Res.hyp
 (Sy.Cont.at (Sy.Cont.seg (0 : Nat) (ruCells l))
 ((0 : Nat) +
 Int.toNat
 (Int.ofNat
 (Int.toNat (Int.ofNat k) +
 blanksF (List.drop (Int.toNat (Int.ofNat k)) l))) *
 (5 : Nat) +
 (1 : Nat) +
 (1 : Nat) +
 (1 : Nat) +
 (1 : Nat)) =
 some (Value.int IntKind.i64 (Let.i (ns (4 : Nat)))))
 (Sy.Res.br (Ex.eqQ (Let.i (ns (2 : Nat))) (0 : Int))
 (Sy.Res.need (m + (1 : Nat) ≤ (9223372036854775807 : Nat))
 (Sy.Res.need ((m + (1 : Nat)) * (48 : Nat) ≤ (140737488355328 : Nat))
 (Sy.Res.hyp (Nat.le (m + (1 : Nat)) (Let.n (ns (9 : Nat))))
 (Sy.Res.leaf
 (Exit.ret, (137 : Nat),
 [Value.slice (some (Addr.mk g (0 : Nat) none)) n cb,
 Value.slice (some (Addr.mk (Let.n (ns (8 : Nat))) (0 : Nat) none))
 (m + (1 : Nat)) (Let.n (ns (9 : Nat))),
 Value.pointer (some (Addr.mk p3 (0 : Nat) none)),
 Value.slice (some (Addr.mk gl (0 : Nat) none)) (n + (1 : Nat)) cl,
 Value.slice (some (Addr.mk go (0 : Nat) none)) m co,
 Value.int IntKind.i64
 (Int.ofNat
 (Int.toNat (Int.ofNat k) +
 blanksF (List.drop (Int.toNat (Int.ofNat k)) l)))],
 [Blk.mk (Let.n (ns (8 : Nat)))
 (Sy.Cont.row (101 : Nat) (5 : Nat) (m + (1 : Nat)) (Let.n (ns (9 : Nat)))
 (xs ++
 [Value.int IntKind.i64 (5 : Int),
 Value.string (ByteArray.mk (Array.mk [])),
 Value.int IntKind.u64 (0 : Int),
 Value.int IntKind.i64 (Let.i (ns (3 : Nat))),
 Value.int IntKind.i64 (Let.i (ns (4 : Nat)))]))
 true,
 Blk.mk (Let.n (ns (7 : Nat)))
 (Sy.Cont.obj
 (Obj.cells
 (Array.mk
 [Value.int IntKind.i64 (5 : Int),
 Value.string (ByteArray.mk (Array.mk [])),
 Value.int IntKind.u64 (0 : Int),
 Value.int IntKind.i64 (Let.i (ns (3 : Nat))),
 Value.int IntKind.i64 (Let.i (ns (4 : Nat)))])
 (101 : Nat)))
 true,
 Blk.mk (Let.n (ns (6 : Nat)))
 (Sy.Cont.obj
 (Obj.cells
 (Array.mk
 [Value.int IntKind.i64 (5 : Int),
 Value.string (ByteArray.mk (Array.mk [])),
 Value.int IntKind.u64 (0 : Int),
 Value.int IntKind.i64 (Let.i (ns (3 : Nat))),
 Value.int IntKind.i64 (Let.i (ns (4 : Nat)))])
 (101 : Nat)))
 true,
 Blk.mk (Let.n (ns (5 : Nat)))
 (Sy.Cont.obj
 (Obj.cells
 (Array.mk
 [Value.int IntKind.i64 (Let.i (ns (0 : Nat))),
 Value.int IntKind.i64 (Let.i (ns (1 : Nat))),
 Value.int IntKind.i64 (Let.i (ns (2 : Nat))),
 Value.int IntKind.i64 (Let.i (ns (3 : Nat))),
 Value.int IntKind.i64 (Let.i (ns (4 : Nat)))])
 (144 : Nat)))
 true,
 Blk.mk g (Sy.Cont.seg (0 : Nat) (bcells bs)) false,
 Blk.mk gl (Sy.Cont.seg (0 : Nat) (ruCells l)) false,
 Blk.mk p3
 (Sy.Cont.obj
 (Obj.cells
 (Array.mk
 [Value.int IntKind.i64 (0 : Int), Value.int IntKind.i64 (0 : Int),
 Value.int IntKind.i64 (0 : Int)])
 (35 : Nat)))
 true])))))
 (Sy.Res.need True
 (Sy.Res.hyp True
 (Sy.Res.br (dgF (Let.i (ns (0 : Nat))) (Let.i (ns (2 : Nat))))
 (Sy.Res.need
 (Tx bs n l ∧
 Int.toNat
 (Int.ofNat
 (Int.toNat (Int.ofNat k) +
 blanksF (List.drop (Int.toNat (Int.ofNat k)) l))) <
 n ∧
 (∀ (x y : Ru),
 l[Int.toNat
 (Int.ofNat
 (Int.toNat (Int.ofNat k) +
 blanksF (List.drop (Int.toNat (Int.ofNat k)) l)))]? =
 some x →
 l[Int.toNat
 (Int.ofNat
 (Int.toNat (Int.ofNat k) +
 blanksF (List.drop (Int.toNat (Int.ofNat k)) l))) +
 (1 : Nat)]? =
 some y →
 ¬(Ru.r x = (48 : Nat) ∧
 (0 : Nat) < Ru.n y ∧
 (Ru.r y = (120 : Nat) ∨ Ru.r y = (88 : Nat)))) ∧
 numF
 (List.drop
 (Int.toNat
 (Int.ofNat
 (Int.toNat (Int.ofNat k) +
 blanksF (List.drop (Int.toNat (Int.ofNat k)) l))))
 l)
 (0 : Nat) =
 some
 (numM l
 (Int.toNat
 (Int.ofNat
 (Int.toNat (Int.ofNat k) +
 blanksF (List.drop (Int.toNat (Int.ofNat k)) l)))),
 numV l
 (Int.toNat
 (Int.ofNat
 (Int.toNat (Int.ofNat k) +
 blanksF (List.drop (Int.toNat (Int.ofNat k)) l))))) ∧
 ∀ (x : Ru),
 l[Int.toNat
 (Int.ofNat
 (Int.toNat (Int.ofNat k) +
 blanksF (List.drop (Int.toNat (Int.ofNat k)) l))) +
 numM l
 (Int.toNat
 (Int.ofNat
 (Int.toNat (Int.ofNat k) +
 blanksF (List.drop (Int.toNat (Int.ofNat k)) l))))]? =
 some x →
 ltF (Int.ofNat (Ru.r x)) (Int.ofNat (Ru.n x)) = false ∧
 dgF (Int.ofNat (Ru.r x)) (Int.ofNat (Ru.n x)) = false)
 (Sy.Res.hyp True
 (Sy.Res.need
 ((0 : Int) ≤
 Int.ofNat
 (Int.toNat
 (Int.ofNat
 (Int.toNat (Int.ofNat k) +
 blanksF (List.drop (Int.toNat (Int.ofNat k)) l))) +
 numM l
 (Int.toNat
 (Int.ofNat
 (Int.toNat (Int.ofNat k) +
 blanksF (List.drop (Int.toNat (Int.ofNat k)) l))))) ∧
 Int.ofNat
 (Int.toNat
 (Int.ofNat
 (Int.toNat (Int.ofNat k) +
 blanksF (List.drop (Int.toNat (Int.ofNat k)) l))) +
 numM l
 (Int.toNat
 (Int.ofNat
 (Int.toNat (Int.ofNat k) +
 blanksF (List.drop (Int.toNat (Int.ofNat k)) l))))) <
 (↑(n + (1 : Nat)) : Int))
 (Sy.Res.need
 (∃ (i : Int),
 Sy.Cont.at (Sy.Cont.seg (0 : Nat) (ruCells l))
 (Nat.succ
 ((0 : Nat) +
 Int.toNat
 (Int.ofNat
 (Int.toNat
 (Int.ofNat
 (Int.toNat (Int.ofNat k) +
 blanksF (List.drop (Int.toNat (Int.ofNat k)) l))) +
 numM l
 (Int.toNat
 (Int.ofNat
 (Int.toNat (Int.ofNat k) +
 blanksF
 (List.drop (Int.toNat (Int.ofNat k)) l)))))) *
 (5 : Nat))) =
 some (Value.int IntKind.i64 i))
 (Sy.Res.hyp
 (Sy.Cont.at (Sy.Cont.seg (0 : Nat) (ruCells l))
 (Nat.succ
 ((0 : Nat) +
 Int.toNat
 (Int.ofNat
 (Int.toNat
 (Int.ofNat
 (Int.toNat (Int.ofNat k) +
 blanksF (List.drop (Int.toNat (Int.ofNat k)) l))) +
 numM l
 (Int.toNat
 (Int.ofNat
 (Int.toNat (Int.ofNat k) +
 blanksF
 (List.drop (Int.toNat (Int.ofNat k)) l)))))) *
 (5 : Nat))) =
 some (Value.int IntKind.i64 (Let.i (ns (8 : Nat)))))
 (Sy.Res.need
 ((0 : Int) ≤ Let.i (ns (1 : Nat)) ∧
 Let.i (ns (1 : Nat)) ≤ Let.i (ns (8 : Nat)) ∧
 Let.i (ns (8 : Nat)) ≤ (↑cb : Int))
 (Sy.Res.need
 (ascii bs ∧
 ∃ (x : Nat),
 ∃ (m : Nat),
 ∃ (c : Nat),
 Value.slice
 (some
 (Addr.mk g
 (Sy.offQ cb (Int.toNat (Let.i (ns (1 : Nat))))
 (0 : Nat) (1 : Nat))
 none))
 (Int.toNat (Let.i (ns (8 : Nat))) -
 Int.toNat (Let.i (ns (1 : Nat))))
 (cb - Int.toNat (Let.i (ns (1 : Nat)))) =
 Value.slice (some (Addr.mk g x none)) m c ∧
 x + m ≤ List.length bs)
 (Sy.Res.hyp True
 (Sy.Res.need (m + (1 : Nat) ≤ (9223372036854775807 : Nat))
 (Sy.Res.need
 ((m + (1 : Nat)) * (48 : Nat) ≤ (140737488355328 : Nat))
 (Sy.Res.hyp (Nat.le (m + (1 : Nat)) (Let.n (ns (11 : Nat))))
 (Sy.Res.leaf
 (Exit.normal, (137 : Nat),
 [Value.slice (some (Addr.mk g (0 : Nat) none)) n cb,
 Value.slice none (0 : Nat) (0 : Nat),
 Value.pointer (some (Addr.mk p3 (0 : Nat) none)),
 Value.slice (some (Addr.mk gl (0 : Nat) none))
 (n + (1 : Nat)) cl,
 Value.slice
 (some (Addr.mk (Let.n (ns (10 : Nat))) (0 : Nat) none))
 (m + (1 : Nat)) (Let.n (ns (11 : Nat))),
 Value.int IntKind.i64
 (Int.ofNat
 (Int.toNat
 (Int.ofNat
 (Int.toNat (Int.ofNat k) +
 blanksF
 (List.drop (Int.toNat (Int.ofNat k)) l))) +
 numM l
 (Int.toNat
 (Int.ofNat
 (Int.toNat (Int.ofNat k) +
 blanksF
 (List.drop (Int.toNat (Int.ofNat k))
 l))))))],
 [Blk.mk (Let.n (ns (10 : Nat)))
 (Sy.Cont.row (101 : Nat) (5 : Nat) (m + (1 : Nat))
 (Let.n (ns (11 : Nat)))
 (xs ++
 [Value.int IntKind.i64 (2 : Int),
 Value.string
 (txt bs
 (Sy.offQ cb (Int.toNat (Let.i (ns (1 : Nat))))
 (0 : Nat) (1 : Nat))
 (Int.toNat (Let.i (ns (8 : Nat))) -
 Int.toNat (Let.i (ns (1 : Nat))))),
 Value.int IntKind.u64
 (Int.ofNat
 (numV l
 (Int.toNat
 (Int.ofNat
 (Int.toNat (Int.ofNat k) +
 blanksF
 (List.drop (Int.toNat (Int.ofNat k))
 l)))))),
 Value.int IntKind.i64 (Let.i (ns (3 : Nat))),
 Value.int IntKind.i64 (Let.i (ns (4 : Nat)))]))
 true,
 Blk.mk (Let.n (ns (9 : Nat)))
 (Sy.Cont.obj
 (Obj.cells
 (Array.mk
 [Value.int IntKind.i64 (2 : Int),
 Value.string
 (txt bs
 (Sy.offQ cb
 (Int.toNat (Let.i (ns (1 : Nat))))
 (0 : Nat) (1 : Nat))
 (Int.toNat (Let.i (ns (8 : Nat))) -
 Int.toNat (Let.i (ns (1 : Nat))))),
 Value.int IntKind.u64
 (Int.ofNat
 (numV l
 (Int.toNat
 (Int.ofNat
 (Int.toNat (Int.ofNat k) +
 blanksF
 (List.drop
 (Int.toNat (Int.ofNat k))
 l)))))),
 Value.int IntKind.i64 (Let.i (ns (3 : Nat))),
 Value.int IntKind.i64 (Let.i (ns (4 : Nat)))])
 (101 : Nat)))
 true,
 Blk.mk g (Sy.Cont.seg (0 : Nat) (bcells bs)) false,
 Blk.mk (Let.n (ns (7 : Nat)))
 (Sy.Cont.obj
 (Obj.cells
 (Array.mk
 [Value.int IntKind.i64 (0 : Int),
 Value.int IntKind.i64 (0 : Int),
 Value.int IntKind.i64 (0 : Int)])
 (35 : Nat)))
 true,
 Blk.mk gl (Sy.Cont.seg (0 : Nat) (ruCells l)) false,
 Blk.mk (Let.n (ns (6 : Nat)))
 (Sy.Cont.obj
 (Obj.cells
 (Array.mk
 [Value.int IntKind.i64 (2 : Int),
 Value.string
 (txt bs
 (Sy.offQ cb
 (Int.toNat (Let.i (ns (1 : Nat))))
 (0 : Nat) (1 : Nat))
 (Int.toNat (Let.i (ns (8 : Nat))) -
 Int.toNat (Let.i (ns (1 : Nat))))),
 Value.int IntKind.u64
 (Int.ofNat
 (numV l
 (Int.toNat
 (Int.ofNat
 (Int.toNat (Int.ofNat k) +
 blanksF
 (List.drop
 (Int.toNat (Int.ofNat k))
 l)))))),
 Value.int IntKind.i64 (Let.i (ns (3 : Nat))),
 Value.int IntKind.i64 (Let.i (ns (4 : Nat)))])
 (101 : Nat)))
 true,
 Blk.mk (Let.n (ns (5 : Nat)))
 (Sy.Cont.obj
 (Obj.cells
 (Array.mk
 [Value.int IntKind.i64 (Let.i (ns (0 : Nat))),
 Value.int IntKind.i64 (Let.i (ns (1 : Nat))),
 Value.int IntKind.i64 (Let.i (ns (2 : Nat))),
 Value.int IntKind.i64 (Let.i (ns (3 : Nat))),
 Value.int IntKind.i64 (Let.i (ns (4 : Nat)))])
 (144 : Nat)))
 true,
 Blk.mk p3
 (Sy.Cont.obj
 (Obj.cells
 (Array.mk
 [Value.int IntKind.i64 (0 : Int),
 Value.int IntKind.i64 (0 : Int),
 Value.int IntKind.i64 (0 : Int)])
 (35 : Nat)))
 true])))))))))))))
 (Sy.Res.need True
 (Sy.Res.hyp True
 (Sy.Res.br (ltF (Let.i (ns (0 : Nat))) (Let.i (ns (2 : Nat))))
 (Sy.Res.need
 (Tx bs n l ∧
 Int.toNat
 (Int.ofNat
 (Int.toNat (Int.ofNat k) +
 blanksF (List.drop (Int.toNat (Int.ofNat k)) l))) ≤
 n)
 (Sy.Res.hyp True
 (Sy.Res.need
 ((0 : Int) ≤
 Int.ofNat
 (Int.toNat
 (Int.ofNat
 (Int.toNat (Int.ofNat k) +
 blanksF (List.drop (Int.toNat (Int.ofNat k)) l))) +
 nameF
 (List.drop
 (Int.toNat
 (Int.ofNat
 (Int.toNat (Int.ofNat k) +
 blanksF (List.drop (Int.toNat (Int.ofNat k)) l))))
 l)) ∧
 Int.ofNat
 (Int.toNat
 (Int.ofNat
 (Int.toNat (Int.ofNat k) +
 blanksF (List.drop (Int.toNat (Int.ofNat k)) l))) +
 nameF
 (List.drop
 (Int.toNat
 (Int.ofNat
 (Int.toNat (Int.ofNat k) +
 blanksF (List.drop (Int.toNat (Int.ofNat k)) l))))
 l)) <
 (↑(n + (1 : Nat)) : Int))
 (Sy.Res.need
 (∃ (i : Int),
 Sy.Cont.at (Sy.Cont.seg (0 : Nat) (ruCells l))
 (Nat.succ
 ((0 : Nat) +
 Int.toNat
 (Int.ofNat
 (Int.toNat
 (Int.ofNat
 (Int.toNat (Int.ofNat k) +
 blanksF
 (List.drop (Int.toNat (Int.ofNat k)) l))) +
 nameF
 (List.drop
 (Int.toNat
 (Int.ofNat
 (Int.toNat (Int.ofNat k) +
 blanksF
 (List.drop (Int.toNat (Int.ofNat k)) l))))
 l))) *
 (5 : Nat))) =
 some (Value.int IntKind.i64 i))
 (Sy.Res.hyp
 (Sy.Cont.at (Sy.Cont.seg (0 : Nat) (ruCells l))
 (Nat.succ
 ((0 : Nat) +
 Int.toNat
 (Int.ofNat
 (Int.toNat
 (Int.ofNat
 (Int.toNat (Int.ofNat k) +
 blanksF
 (List.drop (Int.toNat (Int.ofNat k)) l))) +
 nameF
 (List.drop
 (Int.toNat
 (Int.ofNat
 (Int.toNat (Int.ofNat k) +
 blanksF
 (List.drop (Int.toNat (Int.ofNat k)) l))))
 l))) *
 (5 : Nat))) =
 some (Value.int IntKind.i64 (Let.i (ns (8 : Nat)))))
 (Sy.Res.need
 ((0 : Int) ≤ Let.i (ns (1 : Nat)) ∧
 Let.i (ns (1 : Nat)) ≤ Let.i (ns (8 : Nat)) ∧
 Let.i (ns (8 : Nat)) ≤ (↑cb : Int))
 (Sy.Res.need
 (ascii bs ∧
 ∃ (x : Nat),
 ∃ (m : Nat),
 ∃ (c : Nat),
 Value.slice
 (some
 (Addr.mk g
 (Sy.offQ cb (Int.toNat (Let.i (ns (1 : Nat))))
 (0 : Nat) (1 : Nat))
 none))
 (Int.toNat (Let.i (ns (8 : Nat))) -
 Int.toNat (Let.i (ns (1 : Nat))))
 (cb - Int.toNat (Let.i (ns (1 : Nat)))) =
 Value.slice (some (Addr.mk g x none)) m c ∧
 x + m ≤ List.length bs)
 (Sy.Res.hyp True
 (Sy.Res.need True
 (Sy.Res.hyp True
 (Sy.Res.br
 (isWordF
 (argS
 (Array.mk
 [Value.string
 (txt bs
 (Sy.offQ cb (Int.toNat (Let.i (ns (1 : Nat))))
 (0 : Nat) (1 : Nat))
 (Int.toNat (Let.i (ns (8 : Nat))) -
 Int.toNat (Let.i (ns (1 : Nat)))))])
 (0 : Nat)))
 (Sy.Res.need
 ((0 : Int) ≤
 Int.ofNat
 (Int.toNat
 (Int.ofNat
 (Int.toNat (Int.ofNat k) +
 blanksF
 (List.drop (Int.toNat (Int.ofNat k))
 l))) +
 nameF
 (List.drop
 (Int.toNat
 (Int.ofNat
 (Int.toNat (Int.ofNat k) +
 blanksF
 (List.drop (Int.toNat (Int.ofNat k))
 l))))
 l)) ∧
 Int.ofNat
 (Int.toNat
 (Int.ofNat
 (Int.toNat (Int.ofNat k) +
 blanksF
 (List.drop (Int.toNat (Int.ofNat k))
 l))) +
 nameF
 (List.drop
 (Int.toNat
 (Int.ofNat
 (Int.toNat (Int.ofNat k) +
 blanksF
 (List.drop (Int.toNat (Int.ofNat k))
 l))))
 l)) <
 (↑(n + (1 : Nat)) : Int))
 (Sy.Res.need
 (∃ (i : Int),
 Sy.Cont.at (Sy.Cont.seg (0 : Nat) (ruCells l))
 (Nat.succ
 ((0 : Nat) +
 Int.toNat
 (Int.ofNat
 (Int.toNat
 (Int.ofNat
 (Int.toNat (Int.ofNat k) +
 blanksF
 (List.drop
 (Int.toNat (Int.ofNat k))
 l))) +
 nameF
 (List.drop
 (Int.toNat
 (Int.ofNat
 (Int.toNat (Int.ofNat k) +
 blanksF
 (List.drop
 (Int.toNat
 (Int.ofNat k))
 l))))
 l))) *
 (5 : Nat))) =
 some (Value.int IntKind.i64 i))
 (Sy.Res.hyp
 (Sy.Cont.at (Sy.Cont.seg (0 : Nat) (ruCells l))
 (Nat.succ
 ((0 : Nat) +
 Int.toNat
 (Int.ofNat
 (Int.toNat
 (Int.ofNat
 (Int.toNat (Int.ofNat k) +
 blanksF
 (List.drop
 (Int.toNat (Int.ofNat k))
 l))) +
 nameF
 (List.drop
 (Int.toNat
 (Int.ofNat
 (Int.toNat (Int.ofNat k) +
 blanksF
 (List.drop
 (Int.toNat
 (Int.ofNat k))
 l))))
 l))) *
 (5 : Nat))) =
 some
 (Value.int IntKind.i64 (Let.i (ns (9 : Nat)))))
 (Sy.Res.need
 ((0 : Int) ≤ Let.i (ns (1 : Nat)) ∧
 Let.i (ns (1 : Nat)) ≤ Let.i (ns (9 : Nat)) ∧
 Let.i (ns (9 : Nat)) ≤ (↑cb : Int))
 (Sy.Res.need
 (ascii bs ∧
 ∃ (x : Nat),
 ∃ (m : Nat),
 ∃ (c : Nat),
 Value.slice
 (some
 (Addr.mk g
 (Sy.offQ cb
 (Int.toNat
 (Let.i (ns (1 : Nat))))
 (0 : Nat) (1 : Nat))
 none))
 (Int.toNat
 (Let.i (ns (9 : Nat))) -
 Int.toNat
 (Let.i (ns (1 : Nat))))
 (cb -
 Int.toNat
 (Let.i (ns (1 : Nat)))) =
 Value.slice
 (some (Addr.mk g x none)) m c ∧
 x + m ≤ List.length bs)
 (Sy.Res.hyp True
 (Sy.Res.need
 (m + (1 : Nat) ≤
 (9223372036854775807 : Nat))
 (Sy.Res.need
 ((m + (1 : Nat)) * (48 : Nat) ≤
 (140737488355328 : Nat))
 (Sy.Res.hyp
 (Nat.le (m + (1 : Nat))
 (Let.n (ns (12 : Nat))))
 (Sy.Res.leaf
 (Exit.normal, (137 : Nat),
 [Value.slice
 (some
 (Addr.mk g (0 : Nat) none))
 n cb,
 Value.slice none (0 : Nat)
 (0 : Nat),
 Value.pointer
 (some
 (Addr.mk p3 (0 : Nat) none)),
 Value.slice
 (some
 (Addr.mk gl (0 : Nat) none))
 (n + (1 : Nat)) cl,
 Value.slice
 (some
 (Addr.mk
 (Let.n (ns (11 : Nat)))
 (0 : Nat) none))
 (m + (1 : Nat))
 (Let.n (ns (12 : Nat))),
 Value.int IntKind.i64
 (Int.ofNat
 (Int.toNat
 (Int.ofNat
 (Int.toNat
 (Int.ofNat k) +
 blanksF
 (List.drop
 (Int.toNat
 (Int.ofNat k))
 l))) +
 nameF
 (List.drop
 (Int.toNat
 (Int.ofNat
 (Int.toNat
 (Int.ofNat k) +
 blanksF
 (List.drop
 (Int.toNat
 (Int.ofNat
 k))
 l))))
 l)))],
 [Blk.mk (Let.n (ns (11 : Nat)))
 (Sy.Cont.row (101 : Nat)
 (5 : Nat) (m + (1 : Nat))
 (Let.n (ns (12 : Nat)))
 (xs ++
 [Value.int IntKind.i64
 (3 : Int),
 Value.string
 (txt bs
 (Sy.offQ cb
 (Int.toNat
 (Let.i
 (ns (1 : Nat))))
 (0 : Nat) (1 : Nat))
 (Int.toNat
 (Let.i
 (ns
 (9 : Nat))) -
 Int.toNat
 (Let.i
 (ns
 (1 : Nat))))),
 Value.int IntKind.u64
 (0 : Int),
 Value.int IntKind.i64
 (Let.i (ns (3 : Nat))),
 Value.int IntKind.i64
 (Let.i
 (ns (4 : Nat)))]))
 true,
 Blk.mk (Let.n (ns (10 : Nat)))
 (Sy.Cont.obj
 (Obj.cells
 (Array.mk
 [Value.int IntKind.i64
 (3 : Int),
 Value.string
 (txt bs
 (Sy.offQ cb
 (Int.toNat
 (Let.i
 (ns
 (1 : Nat))))
 (0 : Nat)
 (1 : Nat))
 (Int.toNat
 (Let.i
 (ns
 (9 :
 Nat))) -
 Int.toNat
 (Let.i
 (ns
 (1 :
 Nat))))),
 Value.int IntKind.u64
 (0 : Int),
 Value.int IntKind.i64
 (Let.i
 (ns (3 : Nat))),
 Value.int IntKind.i64
 (Let.i
 (ns (4 : Nat)))])
 (101 : Nat)))
 true,
 Blk.mk g
 (Sy.Cont.seg (0 : Nat)
 (bcells bs))
 false,
 Blk.mk gl
 (Sy.Cont.seg (0 : Nat)
 (ruCells l))
 false,
 Blk.mk (Let.n (ns (6 : Nat)))
 (Sy.Cont.obj
 (Obj.cells
 (Array.mk
 [Value.int IntKind.i64
 (3 : Int),
 Value.string
 (txt bs
 (Sy.offQ cb
 (Int.toNat
 (Let.i
 (ns
 (1 : Nat))))
 (0 : Nat)
 (1 : Nat))
 (Int.toNat
 (Let.i
 (ns
 (9 :
 Nat))) -
 Int.toNat
 (Let.i
 (ns
 (1 :
 Nat))))),
 Value.int IntKind.u64
 (0 : Int),
 Value.int IntKind.i64
 (Let.i
 (ns (3 : Nat))),
 Value.int IntKind.i64
 (Let.i
 (ns (4 : Nat)))])
 (101 : Nat)))
 true,
 Blk.mk (Let.n (ns (5 : Nat)))
 (Sy.Cont.obj
 (Obj.cells
 (Array.mk
 [Value.int IntKind.i64
 (Let.i
 (ns (0 : Nat))),
 Value.int IntKind.i64
 (Let.i
 (ns (1 : Nat))),
 Value.int IntKind.i64
 (Let.i
 (ns (2 : Nat))),
 Value.int IntKind.i64
 (Let.i
 (ns (3 : Nat))),
 Value.int IntKind.i64
 (Let.i
 (ns (4 : Nat)))])
 (144 : Nat)))
 true,
 Blk.mk p3
 (Sy.Cont.obj
 (Obj.cells
 (Array.mk
 [Value.int IntKind.i64
 (0 : Int),
 Value.int IntKind.i64
 (0 : Int),
 Value.int IntKind.i64
 (0 : Int)])
 (35 : Nat)))
 true])))))))))))
 (Sy.Res.need
 ((0 : Int) ≤
 Int.ofNat
 (Int.toNat
 (Int.ofNat
 (Int.toNat (Int.ofNat k) +
 blanksF
 (List.drop (Int.toNat (Int.ofNat k))
 l))) +
 nameF
 (List.drop
 (Int.toNat
 (Int.ofNat
 (Int.toNat (Int.ofNat k) +
 blanksF
 (List.drop (Int.toNat (Int.ofNat k))
 l))))
 l)) ∧
 Int.ofNat
 (Int.toNat
 (Int.ofNat
 (Int.toNat (Int.ofNat k) +
 blanksF
 (List.drop (Int.toNat (Int.ofNat k))
 l))) +
 nameF
 (List.drop
 (Int.toNat
 (Int.ofNat
 (Int.toNat (Int.ofNat k) +
 blanksF
 (List.drop (Int.toNat (Int.ofNat k))
 l))))
 l)) <
 (↑(n + (1 : Nat)) : Int))
 (Sy.Res.need
 (∃ (i : Int),
 Sy.Cont.at (Sy.Cont.seg (0 : Nat) (ruCells l))
 (Nat.succ
 ((0 : Nat) +
 Int.toNat
 (Int.ofNat
 (Int.toNat
 (Int.ofNat
 (Int.toNat (Int.ofNat k) +
 blanksF
 (List.drop
 (Int.toNat (Int.ofNat k))
 l))) +
 nameF
 (List.drop
 (Int.toNat
 (Int.ofNat
 (Int.toNat (Int.ofNat k) +
 blanksF
 (List.drop
 (Int.toNat
 (Int.ofNat k))
 l))))
 l))) *
 (5 : Nat))) =
 some (Value.int IntKind.i64 i))
 (Sy.Res.hyp
 (Sy.Cont.at (Sy.Cont.seg (0 : Nat) (ruCells l))
 (Nat.succ
 ((0 : Nat) +
 Int.toNat
 (Int.ofNat
 (Int.toNat
 (Int.ofNat
 (Int.toNat (Int.ofNat k) +
 blanksF
 (List.drop
 (Int.toNat (Int.ofNat k))
 l))) +
 nameF
 (List.drop
 (Int.toNat
 (Int.ofNat
 (Int.toNat (Int.ofNat k) +
 blanksF
 (List.drop
 (Int.toNat
 (Int.ofNat k))
 l))))
 l))) *
 (5 : Nat))) =
 some
 (Value.int IntKind.i64 (Let.i (ns (9 : Nat)))))
 (Sy.Res.need
 ((0 : Int) ≤ Let.i (ns (1 : Nat)) ∧
 Let.i (ns (1 : Nat)) ≤ Let.i (ns (9 : Nat)) ∧
 Let.i (ns (9 : Nat)) ≤ (↑cb : Int))
 (Sy.Res.need
 (ascii bs ∧
 ∃ (x : Nat),
 ∃ (m : Nat),
 ∃ (c : Nat),
 Value.slice
 (some
 (Addr.mk g
 (Sy.offQ cb
 (Int.toNat
 (Let.i (ns (1 : Nat))))
 (0 : Nat) (1 : Nat))
 none))
 (Int.toNat
 (Let.i (ns (9 : Nat))) -
 Int.toNat
 (Let.i (ns (1 : Nat))))
 (cb -
 Int.toNat
 (Let.i (ns (1 : Nat)))) =
 Value.slice
 (some (Addr.mk g x none)) m c ∧
 x + m ≤ List.length bs)
 (Sy.Res.hyp True
 (Sy.Res.need
 (m + (1 : Nat) ≤
 (9223372036854775807 : Nat))
 (Sy.Res.need
 ((m + (1 : Nat)) * (48 : Nat) ≤
 (140737488355328 : Nat))
 (Sy.Res.hyp
 (Nat.le (m + (1 : Nat))
 (Let.n (ns (12 : Nat))))
 (Sy.Res.leaf
 (Exit.normal, (137 : Nat),
 [Value.slice
 (some
 (Addr.mk g (0 : Nat) none))
 n cb,
 Value.slice none (0 : Nat)
 (0 : Nat),
 Value.pointer
 (some
 (Addr.mk p3 (0 : Nat) none)),
 Value.slice
 (some
 (Addr.mk gl (0 : Nat) none))
 (n + (1 : Nat)) cl,
 Value.slice
 (some
 (Addr.mk
 (Let.n (ns (11 : Nat)))
 (0 : Nat) none))
 (m + (1 : Nat))
 (Let.n (ns (12 : Nat))),
 Value.int IntKind.i64
 (Int.ofNat
 (Int.toNat
 (Int.ofNat
 (Int.toNat
 (Int.ofNat k) +
 blanksF
 (List.drop
 (Int.toNat
 (Int.ofNat k))
 l))) +
 nameF
 (List.drop
 (Int.toNat
 (Int.ofNat
 (Int.toNat
 (Int.ofNat k) +
 blanksF
 (List.drop
 (Int.toNat
 (Int.ofNat
 k))
 l))))
 l)))],
 [Blk.mk (Let.n (ns (11 : Nat)))
 (Sy.Cont.row (101 : Nat)
 (5 : Nat) (m + (1 : Nat))
 (Let.n (ns (12 : Nat)))
 (xs ++
 [Value.int IntKind.i64
 (1 : Int),
 Value.string
 (txt bs
 (Sy.offQ cb
 (Int.toNat
 (Let.i
 (ns (1 : Nat))))
 (0 : Nat) (1 : Nat))
 (Int.toNat
 (Let.i
 (ns
 (9 : Nat))) -
 Int.toNat
 (Let.i
 (ns
 (1 : Nat))))),
 Value.int IntKind.u64
 (0 : Int),
 Value.int IntKind.i64
 (Let.i (ns (3 : Nat))),
 Value.int IntKind.i64
 (Let.i
 (ns (4 : Nat)))]))
 true,
 Blk.mk (Let.n (ns (10 : Nat)))
 (Sy.Cont.obj
 (Obj.cells
 (Array.mk
 [Value.int IntKind.i64
 (1 : Int),
 Value.string
 (txt bs
 (Sy.offQ cb
 (Int.toNat
 (Let.i
 (ns
 (1 : Nat))))
 (0 : Nat)
 (1 : Nat))
 (Int.toNat
 (Let.i
 (ns
 (9 :
 Nat))) -
 Int.toNat
 (Let.i
 (ns
 (1 :
 Nat))))),
 Value.int IntKind.u64
 (0 : Int),
 Value.int IntKind.i64
 (Let.i
 (ns (3 : Nat))),
 Value.int IntKind.i64
 (Let.i
 (ns (4 : Nat)))])
 (101 : Nat)))
 true,
 Blk.mk g
 (Sy.Cont.seg (0 : Nat)
 (bcells bs))
 false,
 Blk.mk gl
 (Sy.Cont.seg (0 : Nat)
 (ruCells l))
 false,
 Blk.mk (Let.n (ns (6 : Nat)))
 (Sy.Cont.obj
 (Obj.cells
 (Array.mk
 [Value.int IntKind.i64
 (1 : Int),
 Value.string
 (txt bs
 (Sy.offQ cb
 (Int.toNat
 (Let.i
 (ns
 (1 : Nat))))
 (0 : Nat)
 (1 : Nat))
 (Int.toNat
 (Let.i
 (ns
 (9 :
 Nat))) -
 Int.toNat
 (Let.i
 (ns
 (1 :
 Nat))))),
 Value.int IntKind.u64
 (0 : Int),
 Value.int IntKind.i64
 (Let.i
 (ns (3 : Nat))),
 Value.int IntKind.i64
 (Let.i
 (ns (4 : Nat)))])
 (101 : Nat)))
 true,
 Blk.mk (Let.n (ns (5 : Nat)))
 (Sy.Cont.obj
 (Obj.cells
 (Array.mk
 [Value.int IntKind.i64
 (Let.i
 (ns (0 : Nat))),
 Value.int IntKind.i64
 (Let.i
 (ns (1 : Nat))),
 Value.int IntKind.i64
 (Let.i
 (ns (2 : Nat))),
 Value.int IntKind.i64
 (Let.i
 (ns (3 : Nat))),
 Value.int IntKind.i64
 (Let.i
 (ns (4 : Nat)))])
 (144 : Nat)))
 true,
 Blk.mk p3
 (Sy.Cont.obj
 (Obj.cells
 (Array.mk
 [Value.int IntKind.i64
 (0 : Int),
 Value.int IntKind.i64
 (0 : Int),
 Value.int IntKind.i64
 (0 : Int)])
 (35 : Nat)))
 true]))))))))))))))))))))))
 (Sy.Res.need
 (Let.i (ns (1 : Nat)) =
 (↑(Int.toNat
 (Int.ofNat
 (Int.toNat (Int.ofNat k) +
 blanksF (List.drop (Int.toNat (Int.ofNat k)) l)))) :
 Int) ∧
 n = List.length bs ∧
 Int.toNat
 (Int.ofNat
 (Int.toNat (Int.ofNat k) +
 blanksF (List.drop (Int.toNat (Int.ofNat k)) l))) ≤
 n ∧
 n < (1000000 : Nat) ∧
 sgM bs
 (Int.toNat
 (Int.ofNat
 (Int.toNat (Int.ofNat k) +
 blanksF (List.drop (Int.toNat (Int.ofNat k)) l)))) ≠
 (0 : Nat))
 (Sy.Res.hyp True
 (Sy.Res.need
 ((0 : Int) ≤
 Int.ofNat
 (Int.toNat
 (Int.ofNat
 (Int.toNat (Int.ofNat k) +
 blanksF (List.drop (Int.toNat (Int.ofNat k)) l))) +
 sgM bs
 (Int.toNat
 (Int.ofNat
 (Int.toNat (Int.ofNat k) +
 blanksF (List.drop (Int.toNat (Int.ofNat k)) l))))) ∧
 Int.ofNat
 (Int.toNat
 (Int.ofNat
 (Int.toNat (Int.ofNat k) +
 blanksF (List.drop (Int.toNat (Int.ofNat k)) l))) +
 sgM bs
 (Int.toNat
 (Int.ofNat
 (Int.toNat (Int.ofNat k) +
 blanksF (List.drop (Int.toNat (Int.ofNat k)) l))))) <
 (↑(n + (1 : Nat)) : Int))
 (Sy.Res.need
 (∃ (i : Int),
 Sy.Cont.at (Sy.Cont.seg (0 : Nat) (ruCells l))
 (Nat.succ
 ((0 : Nat) +
 Int.toNat
 (Int.ofNat
 (Int.toNat
 (Int.ofNat
 (Int.toNat (Int.ofNat k) +
 blanksF
 (List.drop (Int.toNat (Int.ofNat k)) l))) +
 sgM bs
 (Int.toNat
 (Int.ofNat
 (Int.toNat (Int.ofNat k) +
 blanksF
 (List.drop (Int.toNat (Int.ofNat k))
 l)))))) *
 (5 : Nat))) =
 some (Value.int IntKind.i64 i))
 (Sy.Res.hyp
 (Sy.Cont.at (Sy.Cont.seg (0 : Nat) (ruCells l))
 (Nat.succ
 ((0 : Nat) +
 Int.toNat
 (Int.ofNat
 (Int.toNat
 (Int.ofNat
 (Int.toNat (Int.ofNat k) +
 blanksF
 (List.drop (Int.toNat (Int.ofNat k)) l))) +
 sgM bs
 (Int.toNat
 (Int.ofNat
 (Int.toNat (Int.ofNat k) +
 blanksF
 (List.drop (Int.toNat (Int.ofNat k))
 l)))))) *
 (5 : Nat))) =
 some (Value.int IntKind.i64 (Let.i (ns (9 : Nat)))))
 (Sy.Res.need
 ((0 : Int) ≤ Let.i (ns (1 : Nat)) ∧
 Let.i (ns (1 : Nat)) ≤ Let.i (ns (9 : Nat)) ∧
 Let.i (ns (9 : Nat)) ≤ (↑cb : Int))
 (Sy.Res.need
 (ascii bs ∧
 ∃ (x : Nat),
 ∃ (m : Nat),
 ∃ (c : Nat),
 Value.slice
 (some
 (Addr.mk g
 (Sy.offQ cb (Int.toNat (Let.i (ns (1 : Nat))))
 (0 : Nat) (1 : Nat))
 none))
 (Int.toNat (Let.i (ns (9 : Nat))) -
 Int.toNat (Let.i (ns (1 : Nat))))
 (cb - Int.toNat (Let.i (ns (1 : Nat)))) =
 Value.slice (some (Addr.mk g x none)) m c ∧
 x + m ≤ List.length bs)
 (Sy.Res.hyp True
 (Sy.Res.need (m + (1 : Nat) ≤ (9223372036854775807 : Nat))
 (Sy.Res.need
 ((m + (1 : Nat)) * (48 : Nat) ≤ (140737488355328 : Nat))
 (Sy.Res.hyp (Nat.le (m + (1 : Nat)) (Let.n (ns (12 : Nat))))
 (Sy.Res.leaf
 (Exit.normal, (137 : Nat),
 [Value.slice (some (Addr.mk g (0 : Nat) none)) n cb,
 Value.slice none (0 : Nat) (0 : Nat),
 Value.pointer (some (Addr.mk p3 (0 : Nat) none)),
 Value.slice (some (Addr.mk gl (0 : Nat) none))
 (n + (1 : Nat)) cl,
 Value.slice
 (some
 (Addr.mk (Let.n (ns (11 : Nat))) (0 : Nat)
 none))
 (m + (1 : Nat)) (Let.n (ns (12 : Nat))),
 Value.int IntKind.i64
 (Int.ofNat
 (Int.toNat
 (Int.ofNat
 (Int.toNat (Int.ofNat k) +
 blanksF
 (List.drop (Int.toNat (Int.ofNat k))
 l))) +
 sgM bs
 (Int.toNat
 (Int.ofNat
 (Int.toNat (Int.ofNat k) +
 blanksF
 (List.drop (Int.toNat (Int.ofNat k))
 l))))))],
 [Blk.mk (Let.n (ns (11 : Nat)))
 (Sy.Cont.row (101 : Nat) (5 : Nat) (m + (1 : Nat))
 (Let.n (ns (12 : Nat)))
 (xs ++
 [Value.int IntKind.i64 (4 : Int),
 Value.string
 (txt bs
 (Sy.offQ cb
 (Int.toNat (Let.i (ns (1 : Nat))))
 (0 : Nat) (1 : Nat))
 (Int.toNat (Let.i (ns (9 : Nat))) -
 Int.toNat (Let.i (ns (1 : Nat))))),
 Value.int IntKind.u64 (0 : Int),
 Value.int IntKind.i64
 (Let.i (ns (3 : Nat))),
 Value.int IntKind.i64
 (Let.i (ns (4 : Nat)))]))
 true,
 Blk.mk (Let.n (ns (10 : Nat)))
 (Sy.Cont.obj
 (Obj.cells
 (Array.mk
 [Value.int IntKind.i64 (4 : Int),
 Value.string
 (txt bs
 (Sy.offQ cb
 (Int.toNat (Let.i (ns (1 : Nat))))
 (0 : Nat) (1 : Nat))
 (Int.toNat (Let.i (ns (9 : Nat))) -
 Int.toNat (Let.i (ns (1 : Nat))))),
 Value.int IntKind.u64 (0 : Int),
 Value.int IntKind.i64
 (Let.i (ns (3 : Nat))),
 Value.int IntKind.i64
 (Let.i (ns (4 : Nat)))])
 (101 : Nat)))
 true,
 Blk.mk g (Sy.Cont.seg (0 : Nat) (bcells bs)) false,
 Blk.mk (Let.n (ns (6 : Nat)))
 (Sy.Cont.obj
 (Obj.cells
 (Array.mk
 [Value.int IntKind.i64 (4 : Int),
 Value.string
 (txt bs
 (Sy.offQ cb
 (Int.toNat (Let.i (ns (1 : Nat))))
 (0 : Nat) (1 : Nat))
 (Int.toNat (Let.i (ns (9 : Nat))) -
 Int.toNat (Let.i (ns (1 : Nat))))),
 Value.int IntKind.u64 (0 : Int),
 Value.int IntKind.i64
 (Let.i (ns (3 : Nat))),
 Value.int IntKind.i64
 (Let.i (ns (4 : Nat)))])
 (101 : Nat)))
 true,
 Blk.mk (Let.n (ns (5 : Nat)))
 (Sy.Cont.obj
 (Obj.cells
 (Array.mk
 [Value.int IntKind.i64
 (Let.i (ns (0 : Nat))),
 Value.int IntKind.i64
 (Let.i (ns (1 : Nat))),
 Value.int IntKind.i64
 (Let.i (ns (2 : Nat))),
 Value.int IntKind.i64
 (Let.i (ns (3 : Nat))),
 Value.int IntKind.i64
 (Let.i (ns (4 : Nat)))])
 (144 : Nat)))
 true,
 Blk.mk (Let.n (ns (7 : Nat)))
 (Sy.Cont.obj
 (Obj.cells
 (Array.mk
 [Value.string
 (ByteArray.mk
 (Array.mk
 [(60 : UInt8), (60 : UInt8)])),
 Value.string
 (ByteArray.mk
 (Array.mk
 [(62 : UInt8), (62 : UInt8)])),
 Value.string
 (ByteArray.mk
 (Array.mk
 [(61 : UInt8), (61 : UInt8)])),
 Value.string
 (ByteArray.mk
 (Array.mk
 [(33 : UInt8), (61 : UInt8)])),
 Value.string
 (ByteArray.mk
 (Array.mk
 [(60 : UInt8), (61 : UInt8)])),
 Value.string
 (ByteArray.mk
 (Array.mk
 [(62 : UInt8), (61 : UInt8)])),
 Value.string
 (ByteArray.mk
 (Array.mk [(43 : UInt8)])),
 Value.string
 (ByteArray.mk
 (Array.mk [(45 : UInt8)])),
 Value.string
 (ByteArray.mk
 (Array.mk [(42 : UInt8)])),
 Value.string
 (ByteArray.mk
 (Array.mk [(38 : UInt8)])),
 Value.string
 (ByteArray.mk
 (Array.mk [(94 : UInt8)])),
 Value.string
 (ByteArray.mk
 (Array.mk [(124 : UInt8)])),
 Value.string
 (ByteArray.mk
 (Array.mk [(126 : UInt8)])),
 Value.string
 (ByteArray.mk
 (Array.mk [(33 : UInt8)])),
 Value.string
 (ByteArray.mk
 (Array.mk [(60 : UInt8)])),
 Value.string
 (ByteArray.mk
 (Array.mk [(62 : UInt8)])),
 Value.string
 (ByteArray.mk
 (Array.mk [(61 : UInt8)])),
 Value.string
 (ByteArray.mk
 (Array.mk [(40 : UInt8)])),
 Value.string
 (ByteArray.mk
 (Array.mk [(41 : UInt8)])),
 Value.string
 (ByteArray.mk
 (Array.mk [(91 : UInt8)])),
 Value.string
 (ByteArray.mk
 (Array.mk [(93 : UInt8)])),
 Value.string
 (ByteArray.mk
 (Array.mk [(123 : UInt8)])),
 Value.string
 (ByteArray.mk
 (Array.mk [(125 : UInt8)])),
 Value.string
 (ByteArray.mk
 (Array.mk [(44 : UInt8)])),
 Value.string
 (ByteArray.mk
 (Array.mk [(59 : UInt8)]))])
 (9 : Nat)))
 true,
 Blk.mk gl (Sy.Cont.seg (0 : Nat) (ruCells l)) false,
 Blk.mk p3
 (Sy.Cont.obj
 (Obj.cells
 (Array.mk
 [Value.int IntKind.i64 (0 : Int),
 Value.int IntKind.i64 (0 : Int),
 Value.int IntKind.i64 (0 : Int)])
 (35 : Nat)))
 true]))))))))))))))))))))))))))))))))
theorem lxB_run (g n cb p3 gl cl go m co k : Nat) (bs : List Nat) (l : List Ru) (xs : List Value) (rest : List Value) : Sy.Ran (Sy.pieceT Tryz.prog (ctxL g n cb gl cl bs l) 60 fLex bodyLx 137 (slL g n cb p3 gl cl go m co k) rest (memL g p3 gl go m co bs l xs) [0, 2, 3, 4, 5, 6]) lxB_o (lxB_R g n cb p3 gl cl go m co k bs l xs rest) := ⟨fun ns => by kernel_rfl, fun ns => by kernel_rfl⟩

/-- A token. -/
structure Tok where
  kind : Nat
  text : List UInt8
  val : Nat
  line : Nat
  col : Nat

def Tok.cells (t : Tok) : List Value := [.int .i64 (Int.ofNat t.kind), .string ⟨⟨t.text⟩⟩, .int .u64 (Int.ofNat t.val), .int .i64 (Int.ofNat t.line), .int .i64 (Int.ofNat t.col)]
def tokCells (l : List Tok) : List Value := l.flatMap Tok.cells

noncomputable def hexF (x : Ru) (r : List Ru) : Bool := match r with
  | [] => false
  | y :: _ => match Nat.beq x.r 48 with
    | true => match Nat.ble 1 y.n with
      | true => match Nat.beq y.r 120 with
        | true => true
        | false => Nat.beq y.r 88
      | false => false
    | false => false

/-- The token that comes first: its kind, its length, its value. -/
noncomputable def tokF (bt : List Nat) (rs : List Ru) : Option (Nat × Nat × Nat) := match rs with
  | [] => none
  | x :: r => match dgF (Int.ofNat x.r) (Int.ofNat x.n) with
    | true => match hexF x r with
      | true => none
      | false => match numF (x :: r) 0 with
        | none => none
        | some (m, v) => match (x :: r).drop m with
          | [] => none
          | y :: _ => match ltF (Int.ofNat y.r) (Int.ofNat y.n) with
            | true => none
            | false => match dgF (Int.ofNat y.r) (Int.ofNat y.n) with
              | true => none
              | false => some (2, m, v)
    | false => match ltF (Int.ofNat x.r) (Int.ofNat x.n) with
      | true => match isWordF ⟨⟨(bt.take (nameF (x :: r))).map UInt8.ofNat⟩⟩ with
        | true => some (3, nameF (x :: r), 0)
        | false => some (1, nameF (x :: r), 0)
      | false => match sgF bt sgs with
        | 0 => none
        | m + 1 => some (4, m + 1, 0)

/-- The tokens of bytes and their runes. -/
noncomputable def lexS (fuel : Nat) : List Nat → List Ru → Option (List Tok) := @Nat.rec (fun _ => List Nat → List Ru → Option (List Tok)) (fun _ _ => none) (fun _ ih bt rs => match rs.drop (blanksF rs) with
  | [] => none
  | x :: r => match Nat.beq x.n 0 with
    | true => some [⟨5, [], 0, x.line, x.col⟩]
    | false => match tokF (bt.drop (blanksF rs)) (x :: r) with
      | none => none
      | some (kd, m, v) => match ih ((bt.drop (blanksF rs)).drop m) ((x :: r).drop m) with
        | none => none
        | some l => some (⟨kd, ((bt.drop (blanksF rs)).take m).map UInt8.ofNat, v, x.line, x.col⟩ :: l)) fuel

/-- The loop's state. -/
structure Ls where
  go : Nat
  co : Nat
  k : Nat
  fuel : Nat
  pre : List Tok

theorem ctxL_holds (g n cb gl cl : Nat) (bs : List Nat) (l : List Ru) : (ctxL g n cb gl cl bs l).holds Tryz.prog := Sy.mkS_holds (fun p hp a L => by
  rcases List.mem_cons.1 hp with rfl | hp
  · exact skC_met _ _ _ _ _ _ _ _
  rcases List.mem_cons.1 hp with rfl | hp
  · exact ruK_met dgC_met a
  rcases List.mem_cons.1 hp with rfl | hp
  · exact ruK_met ltC_met a
  rcases List.mem_cons.1 hp with rfl | hp
  · exact nuC_met _ _ _ _ _ _ _ _
  rcases List.mem_cons.1 hp with rfl | hp
  · exact begI_met _ _ _ _ _ _
  rcases List.mem_singleton.1 hp with rfl
  exact iwC_met _) (fun p hp a L => by
  rcases List.mem_cons.1 hp with rfl | hp
  · exact loopNm_met _ _ _ _ _ _ _ _ _ _ _ _
  rcases List.mem_singleton.1 hp with rfl
  exact loopG_met _ _ _ _ _ _ _ _ _ _ _ _ _ _ _ _ _ _) (fun p hp a L => by
  rcases List.mem_cons.1 hp with rfl | hp
  · exact cvK_meets _ _ _
  rcases List.mem_singleton.1 hp with rfl
  exact cvK_meets _ _ _)

noncomputable def loopL (g n cb p3 gl cl go co : Nat) (bs : List Nat) (l : List Ru) (ts : List Tok) : Sy.LoopC :=
  ⟨.loop bodyLx, 137, slL g n cb p3 gl cl go 0 co 0, Tx bs n l ∧ n ≤ cb ∧ lexS (n + 2) bs l = some ts, ⟨[(g, .seg 0 (bcells bs)), (gl, .seg 0 (ruCells l))], [(p3, .obj (.cells #[.int .i64 0, .int .i64 0, .int .i64 0] 35 (0, 0))), (go, .row tTok 5 0 co [])], 2⟩,
    [(⟨fun ns => ts.length ≤ Sy.num ns 1, fun ns => [(Sy.num ns 0, .row tTok 5 ts.length (Sy.num ns 1) (tokCells ts)), (p3, .obj (.cells #[.int .i64 0, .int .i64 0, .int .i64 0] 35 (0, 0)))]⟩, .ret, fun ns => [(2, .slice (some ⟨Sy.num ns 0, 0, none⟩) ts.length (Sy.num ns 1)), (3, .pointer (some ⟨p3, 0, none⟩))])]⟩

theorem lexS_succ (fuel : Nat) (bt : List Nat) (rs : List Ru) : lexS (fuel + 1) bt rs = match rs.drop (blanksF rs) with
  | [] => none
  | x :: r => match Nat.beq x.n 0 with
    | true => some [⟨5, [], 0, x.line, x.col⟩]
    | false => match tokF (bt.drop (blanksF rs)) (x :: r) with
      | none => none
      | some (kd, m, v) => match lexS fuel ((bt.drop (blanksF rs)).drop m) ((x :: r).drop m) with
        | none => none
        | some l => some (⟨kd, ((bt.drop (blanksF rs)).take m).map UInt8.ofNat, v, x.line, x.col⟩ :: l) := by kernel_rfl

def okL (n cb : Nat) (bs : List Nat) (l : List Ru) (ts : List Tok) (s : Ls) : Prop := s.k ≤ n ∧ Tx bs n l ∧ n ≤ cb ∧ s.pre.length ≤ s.k ∧ s.pre.length ≤ s.co ∧ ∃ rest, lexS s.fuel (bs.drop s.k) (l.drop s.k) = some rest ∧ ts = s.pre ++ rest

theorem begL_len {t : List UInt8} {l : List Nat} (h : begL l t = true) : t.length ≤ l.length := by
  rcases Nat.lt_or_ge l.length t.length with hlt | hge
  · have := (begL_iff t l).1 h l.length hlt
    rw [List.getElem?_eq_none (Nat.le_refl _)] at this
    cases this
  · exact hge

theorem sg_len (bt : List Nat) : sgF bt sgs ≤ bt.length := by
  generalize sgs = ss
  induction ss with
  | nil => exact Nat.zero_le _
  | cons s ss ih =>
    rw [sgF_cons]
    split
    · rename_i h
      exact begL_len h
    · exact ih

theorem tokCells_snoc (l : List Tok) (t : Tok) : tokCells (l ++ [t]) = tokCells l ++ t.cells := by simp [tokCells]

theorem loopL_met (g n cb p3 gl cl g0 c0 : Nat) (bs : List Nat) (l : List Ru) (ts : List Tok) : Sy.MeetsL Tryz.prog (loopL g n cb p3 gl cl g0 c0 bs l ts) := by
  refine Sy.loop_of (n := 60) (fn := fLex) (ctxL_holds g n cb gl cl bs l) mixed (body := bodyLx) rfl [0, 2, 3, 4, 5, 6] (fun s : Ls => slL g n cb p3 gl cl s.go s.pre.length s.co s.k) (fun s => memL g p3 gl s.go s.pre.length s.co bs l (tokCells s.pre)) (okL n cb bs l ts) (fun s => n - s.k)
    ⟨g0, c0, 0, n + 2, []⟩ (fun h => ⟨Nat.zero_le _, h.1, h.2.1, Nat.zero_le _, Nat.zero_le _, ts, h.2.2, rfl⟩) (fun p hp => hp) [0, 2, 1, 3] (by decide) rfl
    (o := fun _ => lxB_o) (R := fun s xs => lxB_R g n cb p3 gl cl s.go s.pre.length s.co s.k bs l (tokCells s.pre) xs) (fun s xs _ => lxB_run g n cb p3 gl cl s.go s.pre.length s.co s.k bs l (tokCells s.pre) xs) ?_
  rintro - ⟨go, co, k, fuel, pre⟩ xs ⟨hk, hT, hcb, hpk, hpc, rest, hlex, hts⟩ ns
  have hk : k ≤ n := hk
  have hpk : pre.length ≤ k := hpk
  have hpc : pre.length ≤ co := hpc
  have hlex : lexS fuel (bs.drop k) (l.drop k) = some rest := hlex
  have hts : ts = pre ++ rest := hts
  have hsm := hT.small
  cases fuel with
  | zero => cases hlex
  | succ fuel =>
  rw [lexS_succ] at hlex
  have hb := blanks_le hT hk
  generalize hk1 : k + blanksF (l.drop k) = k1 at *
  rw [List.drop_drop, List.drop_drop, hk1] at hlex
  obtain ⟨x, hx, hat, hc⟩ := hT.get hb
  obtain ⟨a0, a1, a2, a3, a4⟩ := ru_at hx
  have hlt : k1 < l.length := by rw [hT.len]; omega
  have hxe : l[k1] = x := by rw [List.getElem?_eq_getElem hlt] at hx; injection hx
  have hd : l.drop k1 = x :: l.drop (k1 + 1) := by rw [List.drop_eq_getElem_cons hlt, hxe]
  rw [hd] at hlex
  simp only at hlex
  have hr1 : (0 : Int) ≤ Int.ofNat k1 ∧ Int.ofNat k1 < ((n + 1 : Nat) : Int) := ⟨Int.natCast_nonneg k1, lt_nat (by omega)⟩
  simp only [lxB_R, Sy.Res.holds, show Int.toNat (Int.ofNat k) = k from rfl, hk1, show Int.toNat (Int.ofNat k1) = k1 from rfl, a0, a1, a2, a3, a4, Option.some.injEq, Value.int.injEq, true_and, exists_eq', Sy.b_f]
  have hstep : ∀ kd m v : Nat, Nat.beq x.n 0 = false → tokF (bs.drop k1) (x :: l.drop (k1 + 1)) = some (kd, m, v) → ∃ rest', lexS fuel (bs.drop (k1 + m)) (l.drop (k1 + m)) = some rest' ∧ rest = ⟨kd, ((bs.drop k1).take m).map UInt8.ofNat, v, x.line, x.col⟩ :: rest' := fun kd m v hz ht => by
    rw [hz, ht] at hlex
    simp only at hlex
    rw [← hd, List.drop_drop, List.drop_drop] at hlex
    cases hq : lexS fuel (bs.drop (k1 + m)) (l.drop (k1 + m)) with
    | none => rw [hq] at hlex; cases hlex
    | some l' =>
      rw [hq] at hlex
      simp only [Option.some.injEq] at hlex
      exact ⟨l', rfl, hlex.symm⟩
  have hsome : Nat.beq x.n 0 = false → ∃ kd m v, tokF (bs.drop k1) (x :: l.drop (k1 + 1)) = some (kd, m, v) := fun hz => by
    rw [hz] at hlex
    cases ht : tokF (bs.drop k1) (x :: l.drop (k1 + 1)) with
    | none => rw [ht] at hlex; cases hlex
    | some q => exact ⟨q.1, q.2.1, q.2.2, rfl⟩
  have next : ∀ (kd m v gn cn : Nat) (tx : ByteArray), Nat.beq x.n 0 = false → tokF (bs.drop k1) (x :: l.drop (k1 + 1)) = some (kd, m, v) → 1 ≤ m → k1 + m ≤ n → (pre.length + 1).le cn → tx = ⟨⟨((bs.drop k1).take m).map UInt8.ofNat⟩⟩ → ∀ (L : List Blk) (pk : List Nat), pk.Nodup →
      Sy.pickL L pk = [⟨g, .seg 0 (bcells bs), false⟩, ⟨p3, .obj (.cells #[.int .i64 0, .int .i64 0, .int .i64 0] 35 (0, 0)), true⟩, ⟨gl, .seg 0 (ruCells l), false⟩, ⟨gn, .row tTok 5 (pre.length + 1) cn (tokCells pre ++ [.int .i64 (Int.ofNat kd), .string tx, .int .u64 (Int.ofNat v), .int .i64 (Int.ofNat x.line), .int .i64 (Int.ofNat x.col)]), true⟩] →
      Sy.leafL (loopL g n cb p3 gl cl g0 c0 bs l ts) [0, 2, 3, 4, 5, 6] (fun s : Ls => slL g n cb p3 gl cl s.go s.pre.length s.co s.k) (fun s => memL g p3 gl s.go s.pre.length s.co bs l (tokCells s.pre)) (okL n cb bs l ts) (fun s => n - s.k) ⟨go, co, k, fuel + 1, pre⟩
        (.normal, 137, [.slice (some ⟨g, 0, none⟩) n cb, .slice none 0 0, .pointer (some ⟨p3, 0, none⟩), .slice (some ⟨gl, 0, none⟩) (n + 1) cl, .slice (some ⟨gn, 0, none⟩) (pre.length + 1) cn, .int .i64 (Int.ofNat (k1 + m))], L) := fun kd m v gn cn tx hz ht hm1 hmn hcn htx L pk hpk' hL => by
    obtain ⟨rest', hr1', hr2'⟩ := hstep kd m v hz ht
    have hkk : k ≤ k1 := by omega
    have hlen : (pre ++ [(⟨kd, ((bs.drop k1).take m).map UInt8.ofNat, v, x.line, x.col⟩ : Tok)]).length = pre.length + 1 := by simp
    refine Sy.leafL_next ⟨gn, cn, k1 + m, fuel, pre ++ [⟨kd, ((bs.drop k1).take m).map UInt8.ofNat, v, x.line, x.col⟩]⟩ rfl ⟨hmn, hT, hcb, ?_, ?_, rest', hr1', ?_⟩ (by show n - (k1 + m) < n - k; omega) ?_ pk hpk' ?_
    · show (pre ++ [_]).length ≤ k1 + m
      rw [hlen]
      omega
    · show (pre ++ [_]).length ≤ cn
      rw [hlen]
      exact hcn
    · show ts = (pre ++ [_]) ++ rest'
      rw [hts, hr2', List.append_assoc]
      rfl
    · show _ = slL g n cb p3 gl cl gn (pre ++ [_]).length cn (k1 + m)
      rw [hlen]
      rfl
    · rw [hL]
      show _ = memL g p3 gl gn (pre ++ [_]).length cn bs l (tokCells (pre ++ [_]))
      rw [hlen, tokCells_snoc, htx]
      rfl
  have hoff : ∀ m : Nat, 1 ≤ m → k1 + m ≤ n → Sy.offQ cb (Int.toNat (Int.ofNat k1)) 0 1 = k1 := fun m h1 h2 => by
    unfold Sy.offQ
    show (match Nat.beq k1 0 with
      | true => 0
      | false => bif Nat.beq cb k1 then 0 else Nat.add 0 (Nat.mul k1 1)) = k1
    cases hz : Nat.beq k1 0 with
    | true => exact (Nat.eq_of_beq_eq_true hz).symm
    | false =>
      have : Nat.beq cb k1 = false := by
        cases hq : Nat.beq cb k1 with
        | false => rfl
        | true => have := Nat.eq_of_beq_eq_true hq; omega
      rw [this]
      show 0 + k1 * 1 = k1
      omega
  have hsub : ∀ m : Nat, Int.toNat (Int.ofNat (k1 + m)) - Int.toNat (Int.ofNat k1) = m := fun m => by
    show k1 + m - k1 = m
    omega
  have htxt : ∀ m : Nat, 1 ≤ m → k1 + m ≤ n → txt bs (Sy.offQ cb (Int.toNat (Int.ofNat k1)) 0 1) (Int.toNat (Int.ofNat (k1 + m)) - Int.toNat (Int.ofNat k1)) = ⟨⟨((bs.drop k1).take m).map UInt8.ofNat⟩⟩ := fun m h1 h2 => by
    rw [hoff m h1 h2, hsub]
    rfl
  have hcut : ∀ m : Nat, 1 ≤ m → k1 + m ≤ n → ascii bs ∧ ∃ x m' c, Value.slice (some ⟨g, Sy.offQ cb (Int.toNat (Int.ofNat k1)) 0 1, none⟩) (Int.toNat (Int.ofNat (k1 + m)) - Int.toNat (Int.ofNat k1)) (cb - Int.toNat (Int.ofNat k1)) = .slice (some ⟨g, x, none⟩) m' c ∧ x + m' ≤ bs.length := fun m h1 h2 => by
    refine ⟨hT.asc, _, _, _, rfl, ?_⟩
    rw [hoff m h1 h2, hsub, ← hT.hn]
    exact h2
  have hbd : ∀ m : Nat, k1 + m ≤ n → (0 : Int) ≤ Int.ofNat k1 ∧ Int.ofNat k1 ≤ Int.ofNat (k1 + m) ∧ Int.ofNat (k1 + m) ≤ (cb : Int) := fun m h => ⟨Int.natCast_nonneg _, Int.ofNat_le.2 (by omega), Int.ofNat_le.2 (by omega)⟩
  have hrm : ∀ m : Nat, k1 + m ≤ n → (0 : Int) ≤ Int.ofNat (k1 + m) ∧ Int.ofNat (k1 + m) < ((n + 1 : Nat) : Int) := fun m h => ⟨Int.natCast_nonneg _, lt_nat (by omega)⟩
  have hatm : ∀ m : Nat, k1 + m ≤ n → (Sy.Cont.seg 0 (ruCells l)).at (0 + (Int.ofNat (k1 + m)).toNat * 5).succ = some (.int .i64 (Int.ofNat (k1 + m))) := fun m h => by
    obtain ⟨y, hy, hya, -⟩ := hT.get h
    have := (ru_at hy).2.1
    rw [hya] at this
    exact this
  refine ⟨⟨hT, hk⟩, fun _ => ⟨hr1, fun h0 h1 h2 h3 h4 => ?_⟩⟩
  rw [← h0, ← h1, ← h2, ← h3, ← h4, hat]
  have hzero : Ex.eqQ (Int.ofNat x.n) 0 = Nat.beq x.n 0 := by
    rw [Ex.eqQ_eq]
    cases hz : Nat.beq x.n 0 with
    | true =>
      have := Nat.eq_of_beq_eq_true hz
      rw [this]; rfl
    | false =>
      have : x.n ≠ 0 := fun h => by rw [h] at hz; cases hz
      simp only [beq_eq_false_iff_ne, ne_eq]
      intro h
      have h : (x.n : Int) = 0 := h
      omega
  rw [hzero]
  refine ⟨fun hz => ⟨by omega, by omega, fun hcn => ?_⟩, fun hz _ => ⟨fun hdg => ?_, fun hdg _ => ⟨fun hlt' => ?_, fun hlt' => ?_⟩⟩⟩
  · rw [hz] at hlex
    simp only [Option.some.injEq] at hlex
    have htl : ts.length = pre.length + 1 := by rw [hts, ← hlex]; simp
    have htc : tokCells ts = tokCells pre ++ [.int .i64 5, .string ⟨#[]⟩, .int .u64 0, .int .i64 (Int.ofNat x.line), .int .i64 (Int.ofNat x.col)] := by
      rw [hts, ← hlex, tokCells_snoc]
      rfl
    refine Sy.leafL_end 0 rfl rfl (by simp) rfl [⟨Let.n (ns 8), 0, false, undef, []⟩, ⟨Let.n (ns 9), 0, false, undef, []⟩] rfl [1, 2] ?_ [0, 6] (by decide) ⟨⟨rfl, rfl, .inl ?_⟩, ⟨rfl, rfl, .inl rfl⟩, trivial⟩ ?_
    · show [(2, Value.slice (some ⟨Let.n (ns 8), 0, none⟩) ts.length (Let.n (ns 9))), (3, Value.pointer (some ⟨p3, 0, none⟩))] = _
      rw [htl]
      rfl
    · show Sy.Cont.row _ _ _ _ _ = Sy.Cont.row tTok 5 ts.length (Let.n (ns 9)) (tokCells ts)
      rw [htl, htc]
    · show ts.length ≤ Let.n (ns 9)
      rw [htl]
      exact hcn
  · have hz' : Nat.beq x.n 0 = false := Bool.eq_false_iff.2 hz
    obtain ⟨kd, m, v, ht⟩ := hsome hz'
    have ht0 := ht
    unfold tokF at ht0
    simp only [hdg] at ht0
    split at ht0
    · cases ht0
    rename_i hhex
    split at ht0
    · cases ht0
    rename_i m' v' hnum
    split at ht0
    · cases ht0
    rename_i y ys hdr
    split at ht0
    · cases ht0
    rename_i hly
    split at ht0
    · cases ht0
    rename_i hdy
    simp only [Option.some.injEq, Prod.mk.injEq] at ht0
    obtain ⟨rfl, rfl, rfl⟩ := ht0
    have hnum' : numF (l.drop k1) 0 = some (m', v') := by rw [hd]; exact hnum
    have eM : numM l k1 = m' := by unfold numM; rw [hnum']; rfl
    have eV : numV l k1 = v' := by unfold numV; rw [hnum']; rfl
    have hm1 : 1 ≤ m' := by
      rw [numF_cons, hdg] at hnum
      simp only at hnum
      split at hnum
      · split at hnum
        · simp only [Option.some.injEq, Prod.mk.injEq] at hnum
          omega
        · cases hnum
      · cases hnum
    have hmn : k1 + m' ≤ n := by
      have := numF_lt _ _ _ _ hnum'
      rw [List.length_drop, hT.len] at this
      omega
    rw [eM, eV]
    refine ⟨⟨hT, by omega, fun x2 y2 hx2 hy2 hh => ?_, hnum', fun y2 hy2 => ?_⟩, fun _ => ⟨hrm _ hmn, ⟨_, hatm _ hmn⟩, fun h8 => ?_⟩⟩
    · rw [hx] at hx2
      injection hx2 with hx2
      subst hx2
      have hlt2 : k1 + 1 < l.length := (List.getElem?_eq_some_iff.1 hy2).1
      rw [List.drop_eq_getElem_cons hlt2, (List.getElem?_eq_some_iff.1 hy2).2] at hhex
      obtain ⟨e1, e2, e3⟩ := hh
      unfold hexF at hhex
      have f1 : Nat.beq x.r 48 = true := by rw [e1]; rfl
      have f2 : Nat.ble 1 y2.n = true := by rw [Nat.ble_eq]; exact e2
      simp only [f1, f2] at hhex
      rcases e3 with e3 | e3
      · rw [e3] at hhex; cases hhex
      · rw [e3] at hhex; cases hhex
    · have hdr' : (l.drop (k1 + m')) = y :: ys := by rw [← List.drop_drop, hd]; exact hdr
      have hlt2 : k1 + m' < l.length := (List.getElem?_eq_some_iff.1 hy2).1
      rw [List.drop_eq_getElem_cons hlt2, (List.getElem?_eq_some_iff.1 hy2).2] at hdr'
      injection hdr' with e1 e2
      subst e1
      rw [hly, hdy]
      simp
    · rw [hatm _ hmn] at h8
      simp only [Option.some.injEq, Value.int.injEq, true_and] at h8
      rw [← h8]
      exact ⟨hbd _ hmn, hcut _ hm1 hmn, fun _ => ⟨by omega, by omega, fun hcn => next 2 m' v' _ _ _ hz' ht hm1 hmn hcn (htxt _ hm1 hmn) _ [2, 7, 4, 0] (by decide) rfl⟩⟩
  · have hz' : Nat.beq x.n 0 = false := Bool.eq_false_iff.2 hz
    have hdg' : dgF (Int.ofNat x.r) (Int.ofNat x.n) = false := by simpa using hdg
    obtain ⟨kd, m, v, ht⟩ := hsome hz'
    have hm1 : 1 ≤ nameF (l.drop k1) := by
      rw [hd, nameF_cons, if_pos (.inl hlt')]
      omega
    have hmn : k1 + nameF (l.drop k1) ≤ n := name_le hT hb
    have key : ∀ b : Bool, isWordF ⟨⟨((bs.drop k1).take (nameF (l.drop k1))).map UInt8.ofNat⟩⟩ = b → tokF (bs.drop k1) (x :: l.drop (k1 + 1)) = some (bif b then 3 else 1, nameF (l.drop k1), 0) := fun b hb => by
      unfold tokF
      simp only [hdg', hlt']
      rw [← hd]
      rw [hb]
      cases b <;> rfl
    refine ⟨⟨hT, hb⟩, fun _ => ⟨hrm _ hmn, ⟨_, hatm _ hmn⟩, fun h8 => ?_⟩⟩
    rw [hatm _ hmn] at h8
    simp only [Option.some.injEq, Value.int.injEq, true_and] at h8
    rw [← h8]
    refine ⟨hbd _ hmn, hcut _ hm1 hmn, fun _ _ => ?_⟩
    have earg : argS #[.string (txt bs (Sy.offQ cb (Int.toNat (Int.ofNat k1)) 0 1) (Int.toNat (Int.ofNat (k1 + nameF (l.drop k1))) - Int.toNat (Int.ofNat k1)))] 0 = ⟨⟨((bs.drop k1).take (nameF (l.drop k1))).map UInt8.ofNat⟩⟩ := by
      rw [htxt _ hm1 hmn]; rfl
    rw [earg]
    refine ⟨fun hw => ⟨hrm _ hmn, ⟨_, hatm _ hmn⟩, fun h9 => ?_⟩, fun hw => ⟨hrm _ hmn, ⟨_, hatm _ hmn⟩, fun h9 => ?_⟩⟩
    · rw [hatm _ hmn] at h9
      simp only [Option.some.injEq, Value.int.injEq, true_and] at h9
      rw [← h9]
      exact ⟨hbd _ hmn, hcut _ hm1 hmn, fun _ => ⟨by omega, by omega, fun hcn => next 3 _ 0 _ _ _ hz' (key true hw) hm1 hmn hcn (htxt _ hm1 hmn) _ [2, 6, 3, 0] (by decide) rfl⟩⟩
    · rw [hatm _ hmn] at h9
      simp only [Option.some.injEq, Value.int.injEq, true_and] at h9
      rw [← h9]
      have hw : isWordF ⟨⟨((bs.drop k1).take (nameF (l.drop k1))).map UInt8.ofNat⟩⟩ = false := by simpa using hw
      exact ⟨hbd _ hmn, hcut _ hm1 hmn, fun _ => ⟨by omega, by omega, fun hcn => next 1 _ 0 _ _ _ hz' (key false hw) hm1 hmn hcn (htxt _ hm1 hmn) _ [2, 6, 3, 0] (by decide) rfl⟩⟩
  · have hz' : Nat.beq x.n 0 = false := Bool.eq_false_iff.2 hz
    have hdg' : dgF (Int.ofNat x.r) (Int.ofNat x.n) = false := by simpa using hdg
    have hlt2 : ltF (Int.ofNat x.r) (Int.ofNat x.n) = false := by simpa using hlt'
    obtain ⟨kd, m, v, ht⟩ := hsome hz'
    have ht0 := ht
    unfold tokF at ht0
    simp only [hdg', hlt2] at ht0
    split at ht0
    · cases ht0
    rename_i m' hsg
    simp only [Option.some.injEq, Prod.mk.injEq] at ht0
    obtain ⟨rfl, rfl, rfl⟩ := ht0
    have eS : sgM bs k1 = m' + 1 := hsg
    have hmn : k1 + (m' + 1) ≤ n := by
      have := sg_len (bs.drop k1)
      rw [show sgF (bs.drop k1) sgs = m' + 1 from hsg, List.length_drop] at this
      have := hT.hn
      omega
    rw [eS]
    refine ⟨⟨rfl, hT.hn, hb, hsm, by omega⟩, fun _ => ⟨hrm _ hmn, ⟨_, hatm _ hmn⟩, fun h9 => ?_⟩⟩
    rw [hatm _ hmn] at h9
    simp only [Option.some.injEq, Value.int.injEq, true_and] at h9
    rw [← h9]
    exact ⟨hbd _ hmn, hcut _ (by omega) hmn, fun _ => ⟨by omega, by omega, fun hcn => next 4 (m' + 1) 0 _ _ _ hz' ht (by omega) hmn hcn (htxt _ (by omega) hmn) _ [2, 7, 6, 0] (by decide) rfl⟩⟩

end Go.Proofs.YtlpcnaeknbmjdaaGreat
