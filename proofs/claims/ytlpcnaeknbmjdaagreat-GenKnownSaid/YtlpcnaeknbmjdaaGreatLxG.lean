/-
  The reference's lexer: signs.
-/
import Derived.Test.YtlpcnaeknbmjdaaGreatLxM
namespace Go.Proofs.YtlpcnaeknbmjdaaGreat
set_option linter.unusedVariables false
set_option linter.unusedSimpArgs false
open Go Go.RowKit
open Sy (Let Blk)

noncomputable def bodySg : Code := Sy.loopBody Tryz.f43 2
abbrev tTok : TypeId := 101

/-- The signs. -/
def sgs : List (List UInt8) := [[60, 60], [62, 62], [61, 61], [33, 61], [60, 61], [62, 61], [43], [45], [42], [38], [94], [124], [126], [33], [60], [62], [61], [40], [41], [91], [93], [123], [125], [44], [59]]
def sgn (i : Nat) : ByteArray := ⟨⟨sgs.getD i []⟩⟩
def sgCells : List Value := sgs.map fun s => .string ⟨⟨s⟩⟩
/-- The length of the first that comes; 0: none. -/
noncomputable def sgF (bt : List Nat) : List (List UInt8) → Nat := fun l => @List.rec (List UInt8) (fun _ => Nat) 0 (fun s _ ih => @Bool.rec (fun _ => Nat) ih s.length (begL bt s)) l

def tokObj (kd : Int) (ln cl : Int) : Sy.Cont := .obj (.cells #[.int .i64 kd, .string ⟨#[]⟩, .int .u64 0, .int .i64 ln, .int .i64 cl] tTok (0, 0))
def ruObj (r a n ln cl : Int) : List Value := [.int .i64 r, .int .i64 a, .int .i64 n, .int .i64 ln, .int .i64 cl]
noncomputable def slSg (g n cb : Nat) (v2 v3 v4 v5 : Value) (k pr pt gs cs i : Nat) : List (Nat × Value) := [(0, .slice (some ⟨g, 0, none⟩) n cb), (2, v2), (3, v3), (4, v4), (5, v5), (6, .int .i64 (Int.ofNat k)), (7, .pointer (some ⟨pr, 0, none⟩)), (8, .pointer (some ⟨pt, 0, none⟩)), (12, .slice (some ⟨gs, 0, none⟩) 25 cs), (13, .int .i64 (Int.ofNat i))]
noncomputable def memSg (g pr pt gs : Nat) (bs : List Nat) (r a rn ln cl kd : Int) : List Blk := [⟨g, .seg 0 (bcells bs), false⟩, ⟨pr, .seg 0 (ruObj r a rn ln cl), false⟩, ⟨gs, .seg 0 sgCells, false⟩, ⟨pt, tokObj kd ln cl, true⟩]

/-- At an integer. -/
noncomputable def begI (g n cap : Nat) (at_ : Int) (s : ByteArray) (bs : List Nat) : Sy.CallC :=
  ⟨fBegins, #[.slice (some ⟨g, 0, none⟩) n cap, .int .i64 at_, .string s], ∃ k : Nat, at_ = k ∧ okB n k s bs, ⟨[(g, .seg 0 (bcells bs))], [], 0⟩, [Sy.plainO (.bool (begF bs at_.toNat s))]⟩
theorem begI_met (g n cap : Nat) (at_ : Int) (s : ByteArray) (bs : List Nat) : Sy.Meets Tryz.prog (begI g n cap at_ s bs) := by
  rintro ⟨k, rfl, hok⟩ W hpre
  exact begC_met g n cap k s bs hok W hpre
noncomputable def argS (a : Array Value) (i : Nat) : ByteArray := match Sy.argV a i with
  | .string s => s
  | _ => ByteArray.empty

noncomputable def ctxSg (g n cb : Nat) (bs : List Nat) : Sy.Ctx := Sy.mkS [(fBegins, fun a _ => begI g n cb (Sy.argI a 1) (argS a 2) bs)] [] []
theorem ctxSg_holds (g n cb : Nat) (bs : List Nat) : (ctxSg g n cb bs).holds Tryz.prog := Sy.mkS_holds (fun p hp a L => by
  rcases List.mem_singleton.1 hp with rfl
  exact begI_met _ _ _ _ _ _) (fun _ h => (by cases h)) (fun _ h => (by cases h))

def sgA_o : Sy.O := (Sy.O.steps [1, 3, 0] (Sy.O.fork (Sy.O.steps [1, 1, 2, 0, 1, 2, 0, 0, 3, 4, 5, 1, 6, 1, 1, 1, 1, 10, 0, 0, 1, 1, 2] (Sy.O.fork (Sy.O.steps [3, 0, 0, 1, 2, 1, 1, 1] Sy.O.nil) Sy.O.nil)) Sy.O.nil))
noncomputable def sgA_R (g : Nat) (n : Nat) (cb : Nat) (v2 : Value) (v3 : Value) (v4 : Value) (v5 : Value) (k : Nat) (pr : Nat) (pt : Nat) (gs : Nat) (cs : Nat) (i : Nat) (bs : List Nat) (r : Int) (a : Int) (rn : Int) (ln : Int) (cl : Int) (rest : List Value) (ns : Nat → Sy.Let) : Sy.Res (Exit × Nat × List Value × List Blk) := Sy.Res.br (bif Ex.ltQ (Int.ofNat i) (25 : Int) then true else false)
 (Sy.Res.need ((0 : Int) ≤ Int.ofNat i ∧ Int.ofNat i < (25 : Int))
 (Sy.Res.need
 (∃ (s : ByteArray),
 Sy.Cont.at (Sy.Cont.seg (0 : Nat) sgCells) ((0 : Nat) + Int.toNat (Int.ofNat i) * (1 : Nat)) =
 some (Value.string s))
 (Sy.Res.hyp
 (Sy.Cont.at (Sy.Cont.seg (0 : Nat) sgCells) ((0 : Nat) + Int.toNat (Int.ofNat i) * (1 : Nat)) =
 some (Value.string (Sy.strV (Let.v (ns (0 : Nat))))))
 (Sy.Res.need
 (∃ (k : Nat),
 a = (↑k : Int) ∧
 okB n k
 (argS
 (Array.mk
 [Value.slice (some (Addr.mk g (0 : Nat) none)) n cb, Value.int IntKind.i64 a,
 Value.string (Sy.strV (Let.v (ns (0 : Nat))))])
 (2 : Nat))
 bs)
 (Sy.Res.hyp True
 (Sy.Res.br
 (begF bs (Int.toNat a)
 (argS
 (Array.mk
 [Value.slice (some (Addr.mk g (0 : Nat) none)) n cb, Value.int IntKind.i64 a,
 Value.string (Sy.strV (Let.v (ns (0 : Nat))))])
 (2 : Nat)))
 (Sy.Res.need ((0 : Int) ≤ Int.ofNat i ∧ Int.ofNat i < (25 : Int))
 (Sy.Res.need
 (∃ (s : ByteArray),
 Sy.Cont.at (Sy.Cont.seg (0 : Nat) sgCells) ((0 : Nat) + Int.toNat (Int.ofNat i) * (1 : Nat)) =
 some (Value.string s))
 (Sy.Res.hyp
 (Sy.Cont.at (Sy.Cont.seg (0 : Nat) sgCells) ((0 : Nat) + Int.toNat (Int.ofNat i) * (1 : Nat)) =
 some (Value.string (Sy.strV (Let.v (ns (1 : Nat))))))
 (Sy.Res.leaf
 (Exit.normal, (137 : Nat),
 [Value.slice (some (Addr.mk g (0 : Nat) none)) n cb, v2, v3, v4, v5,
 Value.int IntKind.i64
 (Ex.wrapQ IntKind.i64
 (Ex.addQ (Int.ofNat k) (Int.ofNat (ByteArray.size (Sy.strV (Let.v (ns (1 : Nat)))))))),
 Value.pointer (some (Addr.mk pr (0 : Nat) none)),
 Value.pointer (some (Addr.mk pt (0 : Nat) none)),
 Value.slice (some (Addr.mk gs (0 : Nat) none)) (25 : Nat) cs,
 Value.int IntKind.i64 (Ex.wrapQ IntKind.i64 (Ex.addQ (Int.ofNat i) (1 : Int)))],
 [Blk.mk g (Sy.Cont.seg (0 : Nat) (bcells bs)) false,
 Blk.mk pr (Sy.Cont.seg (0 : Nat) (ruObj r a rn ln cl)) false,
 Blk.mk gs (Sy.Cont.seg (0 : Nat) sgCells) false,
 Blk.mk pt
 (Sy.Cont.obj
 (Obj.cells
 (Array.mk
 [Value.int IntKind.i64 (4 : Int), Value.string (ByteArray.mk (Array.mk [])),
 Value.int IntKind.u64 (0 : Int), Value.int IntKind.i64 ln,
 Value.int IntKind.i64 cl])
 (101 : Nat)))
 true])))))
 (Sy.Res.leaf
 (Exit.normal, (137 : Nat),
 [Value.slice (some (Addr.mk g (0 : Nat) none)) n cb, v2, v3, v4, v5,
 Value.int IntKind.i64 (Int.ofNat k), Value.pointer (some (Addr.mk pr (0 : Nat) none)),
 Value.pointer (some (Addr.mk pt (0 : Nat) none)),
 Value.slice (some (Addr.mk gs (0 : Nat) none)) (25 : Nat) cs,
 Value.int IntKind.i64 (Ex.wrapQ IntKind.i64 (Ex.addQ (Int.ofNat i) (1 : Int)))],
 [Blk.mk g (Sy.Cont.seg (0 : Nat) (bcells bs)) false,
 Blk.mk pr (Sy.Cont.seg (0 : Nat) (ruObj r a rn ln cl)) false,
 Blk.mk gs (Sy.Cont.seg (0 : Nat) sgCells) false, Blk.mk pt (tokObj (0 : Int) ln cl) true]))))))))
 (Sy.Res.leaf
 (Exit.exit (4 : Nat), (137 : Nat),
 [Value.slice (some (Addr.mk g (0 : Nat) none)) n cb, v2, v3, v4, v5, Value.int IntKind.i64 (Int.ofNat k),
 Value.pointer (some (Addr.mk pr (0 : Nat) none)), Value.pointer (some (Addr.mk pt (0 : Nat) none)),
 Value.slice (some (Addr.mk gs (0 : Nat) none)) (25 : Nat) cs, Value.int IntKind.i64 (Int.ofNat i)],
 memSg g pr pt gs bs r a rn ln cl (0 : Int)))
theorem sgA_run (g n cb : Nat) (v2 v3 v4 v5 : Value) (k pr pt gs cs i : Nat) (bs : List Nat) (r a rn ln cl : Int) (rest : List Value) : Sy.Ran (Sy.pieceT Tryz.prog (ctxSg g n cb bs) 50 fLex bodySg 137 (slSg g n cb v2 v3 v4 v5 k pr pt gs cs i) rest (memSg g pr pt gs bs r a rn ln cl 0) [0, 2, 3, 4, 5, 6, 7, 8, 12, 13]) sgA_o (sgA_R g n cb v2 v3 v4 v5 k pr pt gs cs i bs r a rn ln cl rest) := ⟨fun ns => by kernel_rfl, fun ns => by kernel_rfl⟩
def sgB_o : Sy.O := (Sy.O.steps [1, 3, 0] (Sy.O.fork (Sy.O.steps [1, 1, 2, 0, 1, 2, 0, 0, 3, 4, 5, 1, 6, 1, 1, 1, 1, 10, 0, 0, 1, 1, 2] (Sy.O.fork (Sy.O.steps [3, 0, 0, 1, 2, 1, 1, 1] Sy.O.nil) Sy.O.nil)) Sy.O.nil))
noncomputable def sgB_R (g : Nat) (n : Nat) (cb : Nat) (v2 : Value) (v3 : Value) (v4 : Value) (v5 : Value) (k : Nat) (pr : Nat) (pt : Nat) (gs : Nat) (cs : Nat) (i : Nat) (bs : List Nat) (r : Int) (a : Int) (rn : Int) (ln : Int) (cl : Int) (rest : List Value) (ns : Nat → Sy.Let) : Sy.Res (Exit × Nat × List Value × List Blk) := Sy.Res.br (bif Ex.ltQ (Int.ofNat i) (25 : Int) then false else false)
 (Sy.Res.need ((0 : Int) ≤ Int.ofNat i ∧ Int.ofNat i < (25 : Int))
 (Sy.Res.need
 (∃ (s : ByteArray),
 Sy.Cont.at (Sy.Cont.seg (0 : Nat) sgCells) ((0 : Nat) + Int.toNat (Int.ofNat i) * (1 : Nat)) =
 some (Value.string s))
 (Sy.Res.hyp
 (Sy.Cont.at (Sy.Cont.seg (0 : Nat) sgCells) ((0 : Nat) + Int.toNat (Int.ofNat i) * (1 : Nat)) =
 some (Value.string (Sy.strV (Let.v (ns (0 : Nat))))))
 (Sy.Res.need
 (∃ (k : Nat),
 a = (↑k : Int) ∧
 okB n k
 (argS
 (Array.mk
 [Value.slice (some (Addr.mk g (0 : Nat) none)) n cb, Value.int IntKind.i64 a,
 Value.string (Sy.strV (Let.v (ns (0 : Nat))))])
 (2 : Nat))
 bs)
 (Sy.Res.hyp True
 (Sy.Res.br
 (begF bs (Int.toNat a)
 (argS
 (Array.mk
 [Value.slice (some (Addr.mk g (0 : Nat) none)) n cb, Value.int IntKind.i64 a,
 Value.string (Sy.strV (Let.v (ns (0 : Nat))))])
 (2 : Nat)))
 (Sy.Res.need ((0 : Int) ≤ Int.ofNat i ∧ Int.ofNat i < (25 : Int))
 (Sy.Res.need
 (∃ (s : ByteArray),
 Sy.Cont.at (Sy.Cont.seg (0 : Nat) sgCells) ((0 : Nat) + Int.toNat (Int.ofNat i) * (1 : Nat)) =
 some (Value.string s))
 (Sy.Res.hyp
 (Sy.Cont.at (Sy.Cont.seg (0 : Nat) sgCells) ((0 : Nat) + Int.toNat (Int.ofNat i) * (1 : Nat)) =
 some (Value.string (Sy.strV (Let.v (ns (1 : Nat))))))
 (Sy.Res.leaf
 (Exit.normal, (137 : Nat),
 [Value.slice (some (Addr.mk g (0 : Nat) none)) n cb, v2, v3, v4, v5,
 Value.int IntKind.i64
 (Ex.wrapQ IntKind.i64
 (Ex.addQ (Int.ofNat k) (Int.ofNat (ByteArray.size (Sy.strV (Let.v (ns (1 : Nat)))))))),
 Value.pointer (some (Addr.mk pr (0 : Nat) none)),
 Value.pointer (some (Addr.mk pt (0 : Nat) none)),
 Value.slice (some (Addr.mk gs (0 : Nat) none)) (25 : Nat) cs,
 Value.int IntKind.i64 (Ex.wrapQ IntKind.i64 (Ex.addQ (Int.ofNat i) (1 : Int)))],
 [Blk.mk g (Sy.Cont.seg (0 : Nat) (bcells bs)) false,
 Blk.mk pr (Sy.Cont.seg (0 : Nat) (ruObj r a rn ln cl)) false,
 Blk.mk gs (Sy.Cont.seg (0 : Nat) sgCells) false,
 Blk.mk pt
 (Sy.Cont.obj
 (Obj.cells
 (Array.mk
 [Value.int IntKind.i64 (4 : Int), Value.string (ByteArray.mk (Array.mk [])),
 Value.int IntKind.u64 (0 : Int), Value.int IntKind.i64 ln,
 Value.int IntKind.i64 cl])
 (101 : Nat)))
 true])))))
 (Sy.Res.leaf
 (Exit.normal, (137 : Nat),
 [Value.slice (some (Addr.mk g (0 : Nat) none)) n cb, v2, v3, v4, v5,
 Value.int IntKind.i64 (Int.ofNat k), Value.pointer (some (Addr.mk pr (0 : Nat) none)),
 Value.pointer (some (Addr.mk pt (0 : Nat) none)),
 Value.slice (some (Addr.mk gs (0 : Nat) none)) (25 : Nat) cs,
 Value.int IntKind.i64 (Ex.wrapQ IntKind.i64 (Ex.addQ (Int.ofNat i) (1 : Int)))],
 [Blk.mk g (Sy.Cont.seg (0 : Nat) (bcells bs)) false,
 Blk.mk pr (Sy.Cont.seg (0 : Nat) (ruObj r a rn ln cl)) false,
 Blk.mk gs (Sy.Cont.seg (0 : Nat) sgCells) false, Blk.mk pt (tokObj (4 : Int) ln cl) true]))))))))
 (Sy.Res.leaf
 (Exit.exit (4 : Nat), (137 : Nat),
 [Value.slice (some (Addr.mk g (0 : Nat) none)) n cb, v2, v3, v4, v5, Value.int IntKind.i64 (Int.ofNat k),
 Value.pointer (some (Addr.mk pr (0 : Nat) none)), Value.pointer (some (Addr.mk pt (0 : Nat) none)),
 Value.slice (some (Addr.mk gs (0 : Nat) none)) (25 : Nat) cs, Value.int IntKind.i64 (Int.ofNat i)],
 memSg g pr pt gs bs r a rn ln cl (4 : Int)))
theorem sgB_run (g n cb : Nat) (v2 v3 v4 v5 : Value) (k pr pt gs cs i : Nat) (bs : List Nat) (r a rn ln cl : Int) (rest : List Value) : Sy.Ran (Sy.pieceT Tryz.prog (ctxSg g n cb bs) 50 fLex bodySg 137 (slSg g n cb v2 v3 v4 v5 k pr pt gs cs i) rest (memSg g pr pt gs bs r a rn ln cl 4) [0, 2, 3, 4, 5, 6, 7, 8, 12, 13]) sgB_o (sgB_R g n cb v2 v3 v4 v5 k pr pt gs cs i bs r a rn ln cl rest) := ⟨fun ns => by kernel_rfl, fun ns => by kernel_rfl⟩

/-- The loop's state. -/
structure Gs where
  i : Nat
  fd : Bool

noncomputable def sgM (bs : List Nat) (k0 : Nat) : Nat := sgF (bs.drop k0) sgs

noncomputable def loopG (g n cb : Nat) (v2 v3 v4 v5 : Value) (k0 pr pt gs cs : Nat) (bs : List Nat) (r a rn ln cl : Int) : Sy.LoopC :=
  ⟨.loop bodySg, 137, slSg g n cb v2 v3 v4 v5 k0 pr pt gs cs 0, a = (k0 : Int) ∧ n = bs.length ∧ k0 ≤ n ∧ n < 1000000 ∧ sgM bs k0 ≠ 0, ⟨[(g, .seg 0 (bcells bs)), (pr, .seg 0 (ruObj r a rn ln cl)), (gs, .seg 0 sgCells)], [(pt, tokObj 0 ln cl)], 0⟩,
    [(⟨fun _ => True, fun _ => [(pt, tokObj 4 ln cl)]⟩, .exit 4, fun _ => [(0, .slice (some ⟨g, 0, none⟩) n cb), (2, v2), (3, v3), (4, v4), (5, v5), (6, .int .i64 (Int.ofNat (k0 + sgM bs k0))), (7, .pointer (some ⟨pr, 0, none⟩)), (8, .pointer (some ⟨pt, 0, none⟩))])]⟩

theorem sgF_cons (bt : List Nat) (s : List UInt8) (l : List (List UInt8)) : sgF bt (s :: l) = if begL bt s = true then s.length else sgF bt l := by
  show @Bool.rec (fun _ => Nat) (sgF bt l) s.length (begL bt s) = _
  cases begL bt s <;> rfl

theorem sg_at {i : Nat} (h : i < 25) : ∃ s, sgs[i]? = some s ∧ (Sy.Cont.seg 0 sgCells).at (0 + Int.toNat (Int.ofNat i) * 1) = some (.string ⟨⟨s⟩⟩) ∧ s.length ≤ 2 ∧ s.length ≠ 0 := by
  have hl : i < sgs.length := h
  refine ⟨sgs[i], List.getElem?_eq_getElem hl, ?_, ?_⟩
  · show (if 0 ≤ 0 + i * 1 then sgCells[0 + i * 1 - 0]? else none) = _
    rw [if_pos (Nat.zero_le _), Nat.sub_zero, Nat.zero_add, Nat.mul_one]
    unfold sgCells
    rw [List.getElem?_map, List.getElem?_eq_getElem hl]
    rfl
  · have : ∀ s ∈ sgs, s.length ≤ 2 ∧ s.length ≠ 0 := by decide
    exact this _ (List.getElem_mem hl)

theorem loopG_met (g n cb : Nat) (v2 v3 v4 v5 : Value) (k0 pr pt gs cs : Nat) (bs : List Nat) (r a rn ln cl : Int) : Sy.MeetsL Tryz.prog (loopG g n cb v2 v3 v4 v5 k0 pr pt gs cs bs r a rn ln cl) := by
  refine Sy.loop_of (n := 50) (fn := fLex) (ctxSg_holds g n cb bs) mixed (body := bodySg) rfl [0, 2, 3, 4, 5, 6, 7, 8, 12, 13] (fun s : Gs => slSg g n cb v2 v3 v4 v5 (bif s.fd then k0 + sgM bs k0 else k0) pr pt gs cs s.i) (fun s => memSg g pr pt gs bs r a rn ln cl (bif s.fd then 4 else 0))
    (fun s => s.i ≤ 25 ∧ a = (k0 : Int) ∧ n = bs.length ∧ k0 ≤ n ∧ n < 1000000 ∧ (s.fd = false → sgF (bs.drop k0) (sgs.drop s.i) = sgM bs k0 ∧ sgM bs k0 ≠ 0)) (fun s => 25 - s.i + (bif s.fd then 0 else 1))
    ⟨0, false⟩ (fun h => ⟨Nat.zero_le _, h.1, h.2.1, h.2.2.1, h.2.2.2.1, fun _ => ⟨rfl, h.2.2.2.2⟩⟩) (fun p hp => hp) [0, 1, 2, 3] (by decide) rfl
    (o := fun s => bif s.fd then sgB_o else sgA_o) (R := fun s xs => bif s.fd then sgB_R g n cb v2 v3 v4 v5 (k0 + sgM bs k0) pr pt gs cs s.i bs r a rn ln cl xs else sgA_R g n cb v2 v3 v4 v5 k0 pr pt gs cs s.i bs r a rn ln cl xs)
    (fun s xs _ => by
      obtain ⟨i, fd⟩ := s
      cases fd
      · exact sgA_run g n cb v2 v3 v4 v5 k0 pr pt gs cs i bs r a rn ln cl xs
      · exact sgB_run g n cb v2 v3 v4 v5 (k0 + sgM bs k0) pr pt gs cs i bs r a rn ln cl xs) ?_
  rintro - ⟨i, fd⟩ rest ⟨hi, ha, hn, hk, hm, hs⟩ ns
  have hi : i ≤ 25 := hi
  cases fd with
  | true =>
    simp only [cond_true, sgB_R, Sy.Res.holds]
    refine ⟨fun h => ?_, fun _ => ?_⟩
    · cases hb : Ex.ltQ (Int.ofNat i) 25 <;> rw [hb] at h <;> cases h
    · exact Sy.leafL_end 0 rfl rfl (by simp) rfl [] rfl [0, 1, 2, 3, 4, 5, 6, 7] rfl [3] (by decide) ⟨⟨rfl, rfl, .inl rfl⟩, trivial⟩ trivial
  | false =>
    obtain ⟨hs, h0⟩ := hs rfl
    have hs : sgF (bs.drop k0) (sgs.drop i) = sgM bs k0 := hs
    simp only [cond_false, sgA_R, Sy.Res.holds]
    refine ⟨fun hlt => ?_, fun hge => ?_⟩
    · have hlt : i < 25 := by
        have h1 : Ex.ltQ (Int.ofNat i) 25 = true := by
          cases hb : Ex.ltQ (Int.ofNat i) 25 with
          | true => rfl
          | false => rw [hb] at hlt; cases hlt
        rw [Sy.q_lt] at h1
        have h1 : (i : Int) < 25 := h1
        omega
      obtain ⟨s, hs1, hs2, hs3, hs4⟩ := sg_at hlt
      have hd : sgs.drop i = s :: sgs.drop (i + 1) := by
        have hl : i < sgs.length := hlt
        rw [List.drop_eq_getElem_cons hl]
        rw [List.getElem?_eq_getElem hl] at hs1
        injection hs1 with hs1
        rw [hs1]
      rw [hd, sgF_cons] at hs
      rw [hs2]
      have hr : (0 : Int) ≤ Int.ofNat i ∧ Int.ofNat i < 25 := ⟨Int.natCast_nonneg i, by show (i : Int) < 25; omega⟩
      have hsz : (⟨⟨s⟩⟩ : ByteArray).size = s.length := rfl
      refine ⟨hr, ⟨_, rfl⟩, fun h1 => ?_⟩
      simp only [Option.some.injEq, Value.string.injEq] at h1
      have ea : argS #[.slice (some ⟨g, 0, none⟩) n cb, .int .i64 a, .string (Sy.strV (Let.v (ns 0)))] 2 = ⟨⟨s⟩⟩ := by
        rw [← h1]; rfl
      rw [ea]
      have eb : begF bs (Int.toNat a) ⟨⟨s⟩⟩ = begL (bs.drop k0) s := by
        rw [ha]; rfl
      rw [eb]
      refine ⟨⟨k0, ha, hn, hk, by omega, by rw [hsz]; omega⟩, fun _ => ⟨fun hb => ⟨hr, ⟨_, rfl⟩, fun h2 => ?_⟩, fun hb => ?_⟩⟩
      · simp only [Option.some.injEq, Value.string.injEq] at h2
        rw [if_pos hb] at hs
        refine Sy.leafL_next ⟨i + 1, true⟩ rfl ⟨by show i + 1 ≤ 25; omega, ha, hn, hk, hm, fun h => (by cases h)⟩ (by show 25 - (i + 1) + 0 < 25 - i + 1; omega) ?_ [0, 1, 2, 3] (by decide) rfl
        rw [← h2, hsz, w_inc (by omega)]
        have : Ex.wrapQ .i64 (Ex.addQ (Int.ofNat k0) (Int.ofNat s.length)) = Int.ofNat (k0 + sgM bs k0) := by
          have h3 : Ex.wrapQ .i64 (Ex.addQ (Int.ofNat k0) ((s.length : Nat) : Int)) = ((k0 + s.length : Nat) : Int) := w_add (by omega)
          rw [← hs]; exact h3
        rw [this]
        rfl
      · rw [if_neg (by rw [hb]; simp)] at hs
        refine Sy.leafL_next ⟨i + 1, false⟩ rfl ⟨by show i + 1 ≤ 25; omega, ha, hn, hk, hm, fun _ => ⟨hs, h0⟩⟩ (by show 25 - (i + 1) + 1 < 25 - i + 1; omega) ?_ [0, 1, 2, 3] (by decide) rfl
        rw [w_inc (by omega)]
        rfl
    · have : i = 25 := by
        have h1 : Ex.ltQ (Int.ofNat i) 25 = false := by
          cases hb : Ex.ltQ (Int.ofNat i) 25 with
          | false => rfl
          | true => rw [hb] at hge; cases hge
        rw [Sy.b_f, Sy.q_lt] at h1
        have h1 : ¬ ((i : Int) < 25) := h1
        omega
      subst this
      exact (h0 (by rw [← hs]; rfl)).elim

end Go.Proofs.YtlpcnaeknbmjdaaGreat
