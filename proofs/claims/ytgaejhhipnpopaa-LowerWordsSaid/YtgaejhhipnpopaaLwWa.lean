/-
  LowerWords: Encode and Decode by contract; the loop, explored.
-/
import Derived.Test.YtgaejhhipnpopaaLwAs
import Derived.Test.YtgaejhhipnpopaaCdC
namespace Go.Proofs.Ytgaejhhipnpopaa
set_option linter.unusedVariables false
set_option linter.unusedSimpArgs false
open Go Go.RowKit
open Sy (Let Blk)

abbrev fEnc : FuncId := 26
abbrev fDec : FuncId := 27
abbrev fWords : FuncId := 8
def I.cd (i : I) : Cd.I := ⟨i.op, i.rd, i.rn, i.rm, i.imm, i.cond⟩
theorem I.cd_inj {i j : I} (h : i.cd = j.cd) : i = j := by
  cases i
  cases j
  simp only [I.cd, Cd.I.mk.injEq] at h
  simp only [I.mk.injEq]
  exact h
def fitS (i : I) : Prop := Cd.fitsI i.cd = true
theorem word_ex (i : I) : ∃ w : Int, w = (Cd.wordI i.cd : Nat) := ⟨_, rfl⟩
noncomputable def wordS (i : I) : Int := (word_ex i).choose
theorem wordS_eq (i : I) : wordS i = (Cd.wordI i.cd : Nat) := (word_ex i).choose_spec
theorem back_ex (w : Int) : ∃ i : I, ∀ j, fitS j → wordS j = w → j = i := by
  by_cases h : ∃ j, fitS j ∧ wordS j = w
  · obtain ⟨j, hj, hw⟩ := h
    refine ⟨j, fun j' h1 h2 => I.cd_inj (Cd.word_inj _ _ h1 hj ?_)⟩
    rw [← hw, wordS_eq, wordS_eq] at h2
    omega
  · exact ⟨⟨0, 0, 0, 0, 0, 0⟩, fun j h1 h2 => absurd ⟨j, h1, h2⟩ h⟩
noncomputable def decS (w : Int) : I := (back_ex w).choose
theorem decS_word {i : I} (h : fitS i) : decS (wordS i) = i := ((back_ex (wordS i)).choose_spec i h rfl).symm

def Sy.insV (C : Array Value) : I := match C.toList with
  | [a, b, c, d, e, f] => ⟨Sy.intV a, Sy.intV b, Sy.intV c, Sy.intV d, Sy.intV e, Sy.intV f⟩
  | _ => ⟨0, 0, 0, 0, 0, 0⟩
noncomputable def encS (i : I) : Sy.CallC := ⟨fEnc, #[.agg (Array.mk i.cells)], fitS i, ⟨[], [], 0⟩, [Sy.plainO (.tuple #[.int .u32 (wordS i), .int .i64 0])]⟩
noncomputable def decC (w : Int) : Sy.CallC := ⟨fDec, #[.int .u32 w], ∃ i, fitS i ∧ wordS i = w, ⟨[], [], 0⟩, [Sy.plainO (.tuple #[.agg (Array.mk (decS w).cells), .int .i64 0])]⟩

theorem plain_met {f : FuncId} {args : Array Value} {ok : Prop} {v : Value} (h : ok → ∀ W : World, Calls Try.prog f args W fun e W' => e = .returned v ∧ Below W.heap.size W W') : Sy.Meets Try.prog ⟨f, args, ok, ⟨[], [], 0⟩, [Sy.plainO v]⟩ := fun hok W _ =>
  (h hok W).mono fun e W' ⟨he, hb⟩ => ⟨_, List.mem_singleton_self _, [], he, ⟨rfl, trivial, hb.os, hb.tape, hb.output, hb.size, fun k hk _ => hb.block k hk, fun p hp => (by cases hp), List.nodup_nil⟩⟩

theorem fitS_fit {i : I} (h : fitS i) : i.cd.fit := by
  obtain ⟨k, ho, h1, hk, hf, -⟩ := Cd.fits_op i.cd h
  exact Cd.fits_fit _ _ (Cd.row_nice k hk).toGood hf
theorem encS_met (i : I) : Sy.Meets Try.prog (encS i) := plain_met fun h W => by
  have h' : fitS i := h
  refine (Cd.enc_call i.cd (fitS_fit h') W).mono fun e W' ⟨he, hb⟩ => ⟨?_, hb⟩
  rw [he, Cd.enc_fit i.cd h', wordS_eq]
theorem decC_met (w : Int) : Sy.Meets Try.prog (decC w) := plain_met fun h W => by
  obtain ⟨i, hi, rfl⟩ := h
  rw [decS_word hi, wordS_eq]
  refine (Cd.cdec_any (Cd.wordI i.cd) (Cd.wordI_lt i.cd) W).mono fun e W' hx => ⟨?_, hx.2⟩
  rw [hx.1, Cd.cdec_word i.cd hi]
  rfl

noncomputable def bodyWd : Code := Sy.loopBody Try.f8 0
noncomputable def ctxWd : Sy.Ctx := Sy.mkS [(fEnc, fun a _ => encS (Sy.insV (Sy.argA a 0))), (fDec, fun a _ => decC (Sy.argI a 0))] [] []
theorem ctxWd_holds : ctxWd.holds Try.prog := Sy.mkS_holds (fun p hp a L => by
  rcases List.mem_cons.1 hp with rfl | hp
  · exact encS_met _
  rcases List.mem_singleton.1 hp with rfl
  exact decC_met _) (fun _ h => (by cases h)) (fun _ h => (by cases h))
def slWd (ga n ca k : Nat) : List (Nat × Value) := [(10, .bool false), (17, .slice (some ⟨ga, 0, none⟩) n ca), (18, .int .i64 k)]
def wl_o : Sy.O := (Sy.O.fork (Sy.O.steps [1, 0, 1, 1, 1, 1, 1, 1, 1, 1, 0, 0, 0, 0, 0, 0, 0, 1, 2, 3, 0, 0, 4, 0, 0, 5, 6, 7, 0, 0, 0, 8, 0, 9, 0, 10, 0, 1, 11, 0, 1, 1, 1, 1, 1, 1, 1, 1, 1, 12, 0, 13] (Sy.O.fork Sy.O.nil Sy.O.nil)) Sy.O.nil)
noncomputable def wl_R (ga : Nat) (n : Nat) (ca : Nat) (k : Nat) (xs : List Value) (rest : List Value) (ns : Nat → Sy.Let) : Sy.Res (Exit × Nat × List Value × List Blk) := Sy.Res.br (Ex.ltQ (↑k : Int) (↑n : Int))
 (Sy.Res.need ((0 : Int) ≤ (↑k : Int) ∧ (↑k : Int) < (↑n : Int))
 (Sy.Res.need
 (∃ (i : Int),
 Sy.Cont.at (Sy.Cont.seg (0 : Nat) xs) ((0 : Nat) + Int.toNat (↑k : Int) * (6 : Nat)) =
 some (Value.int IntKind.i64 i))
 (Sy.Res.hyp
 (Sy.Cont.at (Sy.Cont.seg (0 : Nat) xs) ((0 : Nat) + Int.toNat (↑k : Int) * (6 : Nat)) =
 some (Value.int IntKind.i64 (Let.i (ns (0 : Nat)))))
 (Sy.Res.need
 (∃ (i : Int),
 Sy.Cont.at (Sy.Cont.seg (0 : Nat) xs) ((0 : Nat) + Int.toNat (↑k : Int) * (6 : Nat) + (1 : Nat)) =
 some (Value.int IntKind.i64 i))
 (Sy.Res.hyp
 (Sy.Cont.at (Sy.Cont.seg (0 : Nat) xs) ((0 : Nat) + Int.toNat (↑k : Int) * (6 : Nat) + (1 : Nat)) =
 some (Value.int IntKind.i64 (Let.i (ns (1 : Nat)))))
 (Sy.Res.need
 (∃ (i : Int),
 Sy.Cont.at (Sy.Cont.seg (0 : Nat) xs)
 ((0 : Nat) + Int.toNat (↑k : Int) * (6 : Nat) + (1 : Nat) + (1 : Nat)) =
 some (Value.int IntKind.i64 i))
 (Sy.Res.hyp
 (Sy.Cont.at (Sy.Cont.seg (0 : Nat) xs)
 ((0 : Nat) + Int.toNat (↑k : Int) * (6 : Nat) + (1 : Nat) + (1 : Nat)) =
 some (Value.int IntKind.i64 (Let.i (ns (2 : Nat)))))
 (Sy.Res.need
 (∃ (i : Int),
 Sy.Cont.at (Sy.Cont.seg (0 : Nat) xs)
 ((0 : Nat) + Int.toNat (↑k : Int) * (6 : Nat) + (1 : Nat) + (1 : Nat) + (1 : Nat)) =
 some (Value.int IntKind.i64 i))
 (Sy.Res.hyp
 (Sy.Cont.at (Sy.Cont.seg (0 : Nat) xs)
 ((0 : Nat) + Int.toNat (↑k : Int) * (6 : Nat) + (1 : Nat) + (1 : Nat) + (1 : Nat)) =
 some (Value.int IntKind.i64 (Let.i (ns (3 : Nat)))))
 (Sy.Res.need
 (∃ (i : Int),
 Sy.Cont.at (Sy.Cont.seg (0 : Nat) xs)
 ((0 : Nat) + Int.toNat (↑k : Int) * (6 : Nat) + (1 : Nat) + (1 : Nat) + (1 : Nat) +
 (1 : Nat)) =
 some (Value.int IntKind.i64 i))
 (Sy.Res.hyp
 (Sy.Cont.at (Sy.Cont.seg (0 : Nat) xs)
 ((0 : Nat) + Int.toNat (↑k : Int) * (6 : Nat) + (1 : Nat) + (1 : Nat) + (1 : Nat) +
 (1 : Nat)) =
 some (Value.int IntKind.i64 (Let.i (ns (4 : Nat)))))
 (Sy.Res.need
 (∃ (i : Int),
 Sy.Cont.at (Sy.Cont.seg (0 : Nat) xs)
 ((0 : Nat) + Int.toNat (↑k : Int) * (6 : Nat) + (1 : Nat) + (1 : Nat) + (1 : Nat) +
 (1 : Nat) +
 (1 : Nat)) =
 some (Value.int IntKind.i64 i))
 (Sy.Res.hyp
 (Sy.Cont.at (Sy.Cont.seg (0 : Nat) xs)
 ((0 : Nat) + Int.toNat (↑k : Int) * (6 : Nat) + (1 : Nat) + (1 : Nat) + (1 : Nat) +
 (1 : Nat) +
 (1 : Nat)) =
 some (Value.int IntKind.i64 (Let.i (ns (5 : Nat)))))
 (Sy.Res.need
 (Cd.fitsI
 (I.cd
 (I.mk (Let.i (ns (0 : Nat))) (Let.i (ns (1 : Nat))) (Let.i (ns (2 : Nat)))
 (Let.i (ns (3 : Nat))) (Let.i (ns (4 : Nat))) (Let.i (ns (5 : Nat))))) =
 true)
 (Sy.Res.hyp True
 (Sy.Res.need
 (∃ (i : I),
 fitS i ∧
 wordS i =
 wordS
 (I.mk (Let.i (ns (0 : Nat))) (Let.i (ns (1 : Nat))) (Let.i (ns (2 : Nat)))
 (Let.i (ns (3 : Nat))) (Let.i (ns (4 : Nat))) (Let.i (ns (5 : Nat)))))
 (Sy.Res.hyp True
 (Sy.Res.need ((0 : Int) ≤ (↑k : Int) ∧ (↑k : Int) < (↑n : Int))
 (Sy.Res.need
 (∃ (i : Int),
 Sy.Cont.at (Sy.Cont.seg (0 : Nat) xs)
 ((0 : Nat) + Int.toNat (↑k : Int) * (6 : Nat)) =
 some (Value.int IntKind.i64 i))
 (Sy.Res.hyp
 (Sy.Cont.at (Sy.Cont.seg (0 : Nat) xs)
 ((0 : Nat) + Int.toNat (↑k : Int) * (6 : Nat)) =
 some (Value.int IntKind.i64 (Let.i (ns (7 : Nat)))))
 (Sy.Res.need
 (∃ (i : Int),
 Sy.Cont.at (Sy.Cont.seg (0 : Nat) xs)
 ((0 : Nat) + Int.toNat (↑k : Int) * (6 : Nat) + (1 : Nat)) =
 some (Value.int IntKind.i64 i))
 (Sy.Res.hyp
 (Sy.Cont.at (Sy.Cont.seg (0 : Nat) xs)
 ((0 : Nat) + Int.toNat (↑k : Int) * (6 : Nat) + (1 : Nat)) =
 some (Value.int IntKind.i64 (Let.i (ns (8 : Nat)))))
 (Sy.Res.need
 (∃ (i : Int),
 Sy.Cont.at (Sy.Cont.seg (0 : Nat) xs)
 ((0 : Nat) + Int.toNat (↑k : Int) * (6 : Nat) + (1 : Nat) +
 (1 : Nat)) =
 some (Value.int IntKind.i64 i))
 (Sy.Res.hyp
 (Sy.Cont.at (Sy.Cont.seg (0 : Nat) xs)
 ((0 : Nat) + Int.toNat (↑k : Int) * (6 : Nat) + (1 : Nat) +
 (1 : Nat)) =
 some (Value.int IntKind.i64 (Let.i (ns (9 : Nat)))))
 (Sy.Res.need
 (∃ (i : Int),
 Sy.Cont.at (Sy.Cont.seg (0 : Nat) xs)
 ((0 : Nat) + Int.toNat (↑k : Int) * (6 : Nat) + (1 : Nat) +
 (1 : Nat) +
 (1 : Nat)) =
 some (Value.int IntKind.i64 i))
 (Sy.Res.hyp
 (Sy.Cont.at (Sy.Cont.seg (0 : Nat) xs)
 ((0 : Nat) + Int.toNat (↑k : Int) * (6 : Nat) + (1 : Nat) +
 (1 : Nat) +
 (1 : Nat)) =
 some (Value.int IntKind.i64 (Let.i (ns (10 : Nat)))))
 (Sy.Res.need
 (∃ (i : Int),
 Sy.Cont.at (Sy.Cont.seg (0 : Nat) xs)
 ((0 : Nat) + Int.toNat (↑k : Int) * (6 : Nat) +
 (1 : Nat) +
 (1 : Nat) +
 (1 : Nat) +
 (1 : Nat)) =
 some (Value.int IntKind.i64 i))
 (Sy.Res.hyp
 (Sy.Cont.at (Sy.Cont.seg (0 : Nat) xs)
 ((0 : Nat) + Int.toNat (↑k : Int) * (6 : Nat) +
 (1 : Nat) +
 (1 : Nat) +
 (1 : Nat) +
 (1 : Nat)) =
 some (Value.int IntKind.i64 (Let.i (ns (11 : Nat)))))
 (Sy.Res.need
 (∃ (i : Int),
 Sy.Cont.at (Sy.Cont.seg (0 : Nat) xs)
 ((0 : Nat) + Int.toNat (↑k : Int) * (6 : Nat) +
 (1 : Nat) +
 (1 : Nat) +
 (1 : Nat) +
 (1 : Nat) +
 (1 : Nat)) =
 some (Value.int IntKind.i64 i))
 (Sy.Res.hyp
 (Sy.Cont.at (Sy.Cont.seg (0 : Nat) xs)
 ((0 : Nat) + Int.toNat (↑k : Int) * (6 : Nat) +
 (1 : Nat) +
 (1 : Nat) +
 (1 : Nat) +
 (1 : Nat) +
 (1 : Nat)) =
 some (Value.int IntKind.i64 (Let.i (ns (12 : Nat)))))
 (Sy.Res.br
 (bif false then true
 else
 !(Ex.eqQ
 (I.op
 (decS
 (wordS
 (I.mk (Let.i (ns (0 : Nat)))
 (Let.i (ns (1 : Nat)))
 (Let.i (ns (2 : Nat)))
 (Let.i (ns (3 : Nat)))
 (Let.i (ns (4 : Nat)))
 (Let.i (ns (5 : Nat)))))))
 (Let.i (ns (7 : Nat))) &&
 (Ex.eqQ
 (I.rd
 (decS
 (wordS
 (I.mk (Let.i (ns (0 : Nat)))
 (Let.i (ns (1 : Nat)))
 (Let.i (ns (2 : Nat)))
 (Let.i (ns (3 : Nat)))
 (Let.i (ns (4 : Nat)))
 (Let.i (ns (5 : Nat)))))))
 (Let.i (ns (8 : Nat))) &&
 (Ex.eqQ
 (I.rn
 (decS
 (wordS
 (I.mk (Let.i (ns (0 : Nat)))
 (Let.i (ns (1 : Nat)))
 (Let.i (ns (2 : Nat)))
 (Let.i (ns (3 : Nat)))
 (Let.i (ns (4 : Nat)))
 (Let.i (ns (5 : Nat)))))))
 (Let.i (ns (9 : Nat))) &&
 (Ex.eqQ
 (I.rm
 (decS
 (wordS
 (I.mk (Let.i (ns (0 : Nat)))
 (Let.i (ns (1 : Nat)))
 (Let.i (ns (2 : Nat)))
 (Let.i (ns (3 : Nat)))
 (Let.i (ns (4 : Nat)))
 (Let.i (ns (5 : Nat)))))))
 (Let.i (ns (10 : Nat))) &&
 (Ex.eqQ
 (I.imm
 (decS
 (wordS
 (I.mk (Let.i (ns (0 : Nat)))
 (Let.i (ns (1 : Nat)))
 (Let.i (ns (2 : Nat)))
 (Let.i (ns (3 : Nat)))
 (Let.i (ns (4 : Nat)))
 (Let.i (ns (5 : Nat)))))))
 (Let.i (ns (11 : Nat))) &&
 (Ex.eqQ
 (I.cond
 (decS
 (wordS
 (I.mk (Let.i (ns (0 : Nat)))
 (Let.i (ns (1 : Nat)))
 (Let.i (ns (2 : Nat)))
 (Let.i (ns (3 : Nat)))
 (Let.i (ns (4 : Nat)))
 (Let.i (ns (5 : Nat)))))))
 (Let.i (ns (12 : Nat))) &&
 true)))))))
 (Sy.Res.leaf
 (Exit.ret, (106 : Nat),
 [Value.bool false,
 Value.slice (some (Addr.mk ga (0 : Nat) none)) n
 ca,
 Value.int IntKind.i64 (↑k : Int)],
 [Blk.mk (Let.n (ns (6 : Nat)))
 (Sy.Cont.obj
 (Obj.cells
 (Array.mk
 (I.cells
 (decS
 (wordS
 (I.mk (Let.i (ns (0 : Nat)))
 (Let.i (ns (1 : Nat)))
 (Let.i (ns (2 : Nat)))
 (Let.i (ns (3 : Nat)))
 (Let.i (ns (4 : Nat)))
 (Let.i (ns (5 : Nat))))))))
 (29 : Nat)))
 true,
 Blk.mk ga (Sy.Cont.seg (0 : Nat) xs) false]))
 (Sy.Res.leaf
 (Exit.normal, (106 : Nat),
 [Value.bool false,
 Value.slice (some (Addr.mk ga (0 : Nat) none)) n
 ca,
 Value.int IntKind.i64
 (Ex.wrapQ IntKind.i64
 (Ex.addQ (↑k : Int) (1 : Int)))],
 [Blk.mk (Let.n (ns (6 : Nat)))
 (Sy.Cont.obj
 (Obj.cells
 (Array.mk
 (I.cells
 (decS
 (wordS
 (I.mk (Let.i (ns (0 : Nat)))
 (Let.i (ns (1 : Nat)))
 (Let.i (ns (2 : Nat)))
 (Let.i (ns (3 : Nat)))
 (Let.i (ns (4 : Nat)))
 (Let.i (ns (5 : Nat))))))))
 (29 : Nat)))
 true,
 Blk.mk ga (Sy.Cont.seg (0 : Nat) xs)
 false])))))))))))))))))))))))))))))))))
 (Sy.Res.leaf
 (Exit.exit (0 : Nat), (106 : Nat),
 [Value.bool false, Value.slice (some (Addr.mk ga (0 : Nat) none)) n ca, Value.int IntKind.i64 (↑k : Int)],
 [Blk.mk ga (Sy.Cont.seg (0 : Nat) xs) false]))
theorem wl_run (ga n ca k : Nat) (xs : List Value) (rest : List Value) : Sy.Ran (Sy.pieceT Try.prog ctxWd 60 fWords bodyWd 106 (slWd ga n ca k) rest [⟨ga, .seg 0 xs, false⟩] [10, 17, 18]) wl_o (wl_R ga n ca k xs rest) := ⟨fun ns => by kernel_rfl, fun ns => by kernel_rfl⟩

end Go.Proofs.Ytgaejhhipnpopaa
