/-
  The program's look at an act: modes, places; The program's look at an act: contracts of modes and places; The program's look at an act: what an act has; The program's look at an act: contexts; The program's look at an act: the runs, by its number; The program's look at an act: the contract; The prog
-/
import Derived.Test.YtlpcnaeknbmjdaaGreatPc

namespace Go.Proofs.YtlpcnaeknbmjdaaGreat
set_option linter.unusedVariables false
set_option linter.unusedSimpArgs false
open Go Go.RowKit
open Sy (Let Blk HasL)
structure ActD where
  op : Int
  dst : Int
  base : Int
  size : Int
  ix : List NodeD
  e : List NodeD
  f : List NodeD
  mode : Int
  to : Int
  line : Int
  col : Int
def actV (a : ActD) (iv ev fv : Value) : Value := .agg #[.int .i64 a.op, .int .i64 a.dst, .int .i64 a.base, .int .i64 a.size, iv, ev, fv, .int .i64 a.mode, .int .i64 a.to, .int .i64 a.line, .int .i64 a.col]
def progV (cells : Int) (tv : Value) : Value := .agg #[.int .i64 cells, tv]
def thrV (locals : Int) (av : Value) : Value := .agg #[.int .i64 locals, av]
abbrev fMay : FuncId := 95
abbrev fPlace : FuncId := 97
abbrev fAct : FuncId := 58
noncomputable def ctxP (B : List (Nat × Sy.Cont)) (v : Value) (l : List NodeD) (loc : Int) : Sy.Ctx := Sy.mkS [(fExpr, fun _ _ => exprC B v l loc)] [] []
theorem ctxP_holds (B : List (Nat × Sy.Cont)) (v : Value) (l : List NodeD) (loc : Int) : (ctxP B v l loc).holds Tryz.prog := Sy.mkS_holds (fun p hp a L => by
  rcases List.mem_singleton.1 hp with rfl
  exact exprC_met _ _ _ _) (fun _ h => (by cases h)) (fun _ h => (by cases h))
def may_o : Sy.O := (Sy.O.fork (Sy.O.steps [1, 1] Sy.O.nil) (Sy.O.fork (Sy.O.steps [1, 1] Sy.O.nil) (Sy.O.fork (Sy.O.steps [0, 1] Sy.O.nil) (Sy.O.fork (Sy.O.steps [0, 1] Sy.O.nil) (Sy.O.fork (Sy.O.steps [1] Sy.O.nil) (Sy.O.fork (Sy.O.steps [1] Sy.O.nil) Sy.O.nil))))))
noncomputable def may_R (op : Int) (mode : Int) (ns : Nat → Sy.Let) : Sy.Res (Value × List Blk) :=
 Sy.Res.br (Ex.eqQ op (2 : Int)) (Sy.Res.leaf (Value.bool (bif bif Ex.eqQ mode (1 : Int) then true else Ex.eqQ mode (2 : Int) then true else Ex.eqQ mode (5 : Int)), [])) (Sy.Res.br (Ex.eqQ op (3 : Int)) (Sy.Res.leaf (Value.bool (bif bif Ex.eqQ mode (1 : Int) then true else Ex.eqQ mode (3 : Int) then true else Ex.eqQ mode (5 : Int)), [])) (Sy.Res.br (Ex.eqQ op (4 : Int)) (Sy.Res.leaf (Value.bool (bif Ex.leQ (1 : Int) mode then Ex.leQ mode (5 : Int) else false), [])) (Sy.Res.br (Ex.eqQ op (5 : Int)) (Sy.Res.leaf (Value.bool (bif Ex.leQ (1 : Int) mode then Ex.leQ mode (5 : Int) else false), [])) (Sy.Res.br (Ex.eqQ op (6 : Int)) (Sy.Res.leaf (Value.bool (bif Ex.leQ (1 : Int) mode then Ex.leQ mode (5 : Int) else false), [])) (Sy.Res.br (Ex.eqQ op (7 : Int)) (Sy.Res.leaf (Value.bool (bif Ex.leQ (2 : Int) mode then Ex.leQ mode (5 : Int) else false), [])) (Sy.Res.leaf (Value.bool (Ex.eqQ mode (0 : Int)), [])))))))
theorem may_run (op mode : Int) : Sy.Ran (Sy.inB Tryz.prog Sy.S0 50 fMay #[.int .i64 op, .int .i64 mode] []) may_o (may_R op mode) := ⟨fun ns => by kernel_rfl, fun ns => by kernel_rfl⟩
def plc_o : Sy.O := (Sy.O.pack 28 0x400000010040100401000200802008020 (Sy.O.fork Sy.O.nil (Sy.O.pack 3 0x20 (Sy.O.fork (Sy.O.pack 7 0x2000400 (Sy.O.fork (Sy.O.pack 4 0x0 Sy.O.nil) (Sy.O.pack 6 0x400 (Sy.O.fork (Sy.O.pack 12 0x4020800000400 Sy.O.nil) (Sy.O.pack 4 0x0 Sy.O.nil))))) (Sy.O.pack 10 0x40000000 (Sy.O.fork (Sy.O.pack 12 0x4020800000400 Sy.O.nil) (Sy.O.pack 4 0x0 Sy.O.nil)))))))
noncomputable def plc_R (B : List (Nat × Sy.Cont)) (op : Int) (dst : Int) (base : Int) (size : Int) (mode : Int) (to : Int) (line : Int) (col : Int) (iv : Value) (ev : Value) (fv : Value) (tv : Value) (ix : List NodeD) (cells : Int) (loc : Int) (ns : Nat → Sy.Let) : Sy.Res (Value × List Blk) :=
 let z0 := (Sy.Cont.obj (Obj.cells (Array.mk [Value.int IntKind.i64 cells, tv]) (24 : Nat)))
 let z1 := (Sy.Cont.obj (Obj.cells (Array.mk [Value.int IntKind.i64 op, Value.int IntKind.i64 dst, Value.int IntKind.i64 base, Value.int IntKind.i64 size, iv, ev, fv, Value.int IntKind.i64 mode, Value.int IntKind.i64 to, Value.int IntKind.i64 line, Value.int IntKind.i64 col]) (46 : Nat)))
 Sy.Res.br (bif bif bif bif Ex.ltQ size (0 : Int) then true else Ex.ltQ (1024 : Int) size then true else !Ex.eqQ (Ex.andQ IntKind.i64 size (Ex.wrapQ IntKind.i64 (Ex.subQ' size (1 : Int)))) (0 : Int) then true else Ex.ltQ base (0 : Int) then true else Ex.ltQ (Ex.wrapQ IntKind.i64 (Ex.subQ' cells (bif Ex.ltQ (1 : Int) size then size else (1 : Int)))) base) (Sy.Res.leaf (Value.bool false, Blk.mk (Let.n (ns 1)) z0 true :: Blk.mk (Let.n (ns 0)) z1 true :: rdOf B)) (Sy.Res.br (Ex.eqQ size (0 : Int)) (Sy.Res.need (∃ (p : Option Addr), ∃ (n : Nat), ∃ (c : Nat), iv = Value.slice p n c) (Sy.Res.br (bif true then Ex.eqQ (Int.ofNat (Sy.lenS iv)) (0 : Int) else false) (Sy.Res.leaf (Value.bool true, Blk.mk (Let.n (ns 1)) z0 true :: Blk.mk (Let.n (ns 0)) z1 true :: rdOf B)) (Sy.Res.br (Ex.ltQ (0 : Int) size) (Sy.Res.need (NodesR B iv ix ∧ List.length ix < (4398046511104 : Nat)) (Sy.Res.need (Sy.GotL (rdOf B) B) (Sy.Res.hyp True (Sy.Res.leaf (Value.bool (bif false then true else bif true then exprF loc ix else false), Blk.mk (Let.n (ns 1)) z0 true :: Blk.mk (Let.n (ns 0)) z1 true :: rdOf B))))) (Sy.Res.leaf (Value.bool false, Blk.mk (Let.n (ns 1)) z0 true :: Blk.mk (Let.n (ns 0)) z1 true :: rdOf B))))) (Sy.Res.br (Ex.ltQ (0 : Int) size) (Sy.Res.need (NodesR B iv ix ∧ List.length ix < (4398046511104 : Nat)) (Sy.Res.need (Sy.GotL (rdOf B) B) (Sy.Res.hyp True (Sy.Res.leaf (Value.bool (bif false then true else bif true then exprF loc ix else false), Blk.mk (Let.n (ns 1)) z0 true :: Blk.mk (Let.n
 (ns 0)) z1 true :: rdOf B))))) (Sy.Res.leaf (Value.bool false, Blk.mk (Let.n (ns 1)) z0 true :: Blk.mk (Let.n (ns 0)) z1 true :: rdOf B))))
theorem plc_run (B : List (Nat × Sy.Cont)) (op dst base size mode to line col : Int) (iv ev fv tv : Value) (ix : List NodeD) (cells loc : Int) : Sy.Ran (Sy.inB Tryz.prog (ctxP B iv ix loc) 50 fPlace #[.agg #[.int .i64 op, .int .i64 dst, .int .i64 base, .int .i64 size, iv, ev, fv, .int .i64 mode, .int .i64 to, .int .i64 line, .int .i64 col], progV cells tv, .int .i64 loc] (rdOf B)) plc_o (plc_R B op dst base size mode to line col iv ev fv tv ix cells loc) := ⟨fun ns => by kernel_rfl, fun ns => by kernel_rfl⟩
end Go.Proofs.YtlpcnaeknbmjdaaGreat

namespace Go.Proofs.YtlpcnaeknbmjdaaGreat
open Go Go.RowKit
open Sy (Let Blk HasL)
noncomputable def mayF (op mode : Int) : Bool := bif Ex.eqQ op 2 then (bif bif Ex.eqQ mode 1 then true else Ex.eqQ mode 2 then true else Ex.eqQ mode 5)
  else bif Ex.eqQ op 3 then (bif bif Ex.eqQ mode 1 then true else Ex.eqQ mode 3 then true else Ex.eqQ mode 5)
  else bif Ex.eqQ op 4 then (bif Ex.leQ 1 mode then Ex.leQ mode 5 else false)
  else bif Ex.eqQ op 5 then (bif Ex.leQ 1 mode then Ex.leQ mode 5 else false)
  else bif Ex.eqQ op 6 then (bif Ex.leQ 1 mode then Ex.leQ mode 5 else false)
  else bif Ex.eqQ op 7 then (bif Ex.leQ 2 mode then Ex.leQ mode 5 else false)
  else Ex.eqQ mode 0
noncomputable def mayC (op mode : Int) : Sy.CallC := ⟨fMay, #[.int .i64 op, .int .i64 mode], True, ⟨[], [], 0, []⟩, [Sy.plainO (.bool (mayF op mode))]⟩
theorem mayC_met (op mode : Int) : Sy.Meets Tryz.prog (mayC op mode) := by
  refine Sy.meets_ofB Sy.S0_holds mixed (L := []) (Sy.Ent.refl _) (may_run op mode) fun _ ns => ?_
  simp only [may_R, Sy.Res.holds]
  have leaf : ∀ b, b = mayF op mode → Sy.leafB (mayC op mode) (.bool b, []) := fun b h => plainB_leaf (List.mem_singleton_self _) rfl (by rw [h])
  unfold mayF at leaf
  refine ⟨fun h1 => leaf _ ?_, fun h1 => ⟨fun h2 => leaf _ ?_, fun h2 => ⟨fun h3 => leaf _ ?_, fun h3 => ⟨fun h4 => leaf _ ?_, fun h4 => ⟨fun h5 => leaf _ ?_, fun h5 => ⟨fun h6 => leaf _ ?_, fun h6 => leaf _ ?_⟩⟩⟩⟩⟩⟩
  all_goals simp_all
noncomputable def placeF (size base cells loc : Int) (ix : List NodeD) : Bool := bif (bif bif bif bif Ex.ltQ size 0 then true else Ex.ltQ 1024 size then true
  else !Ex.eqQ (Ex.andQ .i64 size (Ex.wrapQ .i64 (Ex.subQ' size 1))) 0 then true else Ex.ltQ base 0 then true
  else Ex.ltQ (Ex.wrapQ .i64 (Ex.subQ' cells (bif Ex.ltQ 1 size then size else 1))) base) then false
  else bif Ex.eqQ size 0 then decide (ix.length = 0) else exprF loc ix
noncomputable def placeC (B : List (Nat × Sy.Cont)) (op dst base size mode to line col : Int) (iv ev fv tv : Value) (ix : List NodeD) (cells loc : Int) : Sy.CallC :=
  ⟨fPlace, #[.agg #[.int .i64 op, .int .i64 dst, .int .i64 base, .int .i64 size, iv, ev, fv, .int .i64 mode, .int .i64 to, .int .i64 line, .int .i64 col], progV cells tv, .int .i64 loc], OkX B iv ix, ⟨[], [], 0, B⟩, [Sy.plainO (.bool (placeF size base cells loc ix))]⟩
theorem placeC_met (B : List (Nat × Sy.Cont)) (op dst base size mode to line col : Int) (iv ev fv tv : Value) (ix : List NodeD) (cells loc : Int) : Sy.Meets Tryz.prog (placeC B op dst base size mode to line col iv ev fv tv ix cells loc) := by
  refine Sy.meets_ofB (ctxP_holds B iv ix loc) mixed (L := rdOf B) (Sy.Ent.refl _) (plc_run B op dst base size mode to line col iv ev fv tv ix cells loc) fun hok ns => ?_
  obtain ⟨hR, hlen⟩ := hok
  simp only [plc_R, Sy.Res.holds]
  have leaf : ∀ b L, b = placeF size base cells loc ix → Sy.leafB (placeC B op dst base size mode to line col iv ev fv tv ix cells loc) (.bool b, L) := fun b L h => plainB_leaf (List.mem_singleton_self _) rfl (by rw [h])
  have got : Sy.GotL (rdOf B) B := gotL_of fun p hp => hp
  have hl : Ex.eqQ (Int.ofNat (Sy.lenS iv)) 0 = decide (ix.length = 0) := by
    rw [hR.len, Ex.eqQ_eq]
    by_cases h : ix.length = 0 <;> simp [h]
  rw [hl]
  refine ⟨fun h1 => leaf _ _ ?_, fun h1 => ⟨fun h2 => ⟨hR.sl, fun h3 => leaf _ _ ?_, fun h3 => ⟨fun h4 => ?_, fun h4 => leaf _ _ ?_⟩⟩, fun h2 => ⟨fun h4 => ⟨⟨hR, hlen⟩, got, fun _ => leaf _ _ ?_⟩, fun h4 => ?_⟩⟩⟩
  · unfold placeF
    rw [h1]
    rfl
  · unfold placeF
    rw [h1, h2]
    simpa using h3.symm
  · exfalso
    rw [Ex.eqQ_eq] at h2
    rw [Ex.ltQ_eq] at h4
    simp at h2 h4
    omega
  · unfold placeF
    rw [h1, h2]
    simpa using h3.symm
  · unfold placeF
    rw [h1, h2]
    rfl
  · exfalso
    rw [Ex.eqQ_eq] at h2
    rw [Ex.ltQ_eq] at h4
    have h5 : Ex.ltQ size 0 = false := by
      cases h5 : Ex.ltQ size 0 with
      | false => rfl
      | true => rw [h5] at h1; simp at h1
    rw [Ex.ltQ_eq] at h5
    simp at h2 h4 h5
    omega
end Go.Proofs.YtlpcnaeknbmjdaaGreat

namespace Go.Proofs.YtlpcnaeknbmjdaaGreat
set_option linter.unusedVariables false
set_option linter.unusedSimpArgs false
open Go Go.RowKit
open Sy (Let Blk HasL)
abbrev fParts : FuncId := 96
def pt1_o : Sy.O := (Sy.O.pack 6 0x0 Sy.O.nil)
noncomputable def pt1_R  (ns : Nat → Sy.Let) : Sy.Res (Value × List Blk) :=
 let z0 := (Array.mk [Value.bool true, Value.bool false, Value.bool true, Value.bool false, Value.bool false])
 Sy.Res.leaf (Value.agg z0, [Blk.mk (Let.n (ns 0)) (Sy.Cont.obj (Obj.cells z0 (176 : Nat))) true])
theorem pt1_run  : Sy.Ran (Sy.inB Tryz.prog Sy.S0 50 fParts #[.int .i64 1] []) pt1_o (pt1_R ) := ⟨fun ns => by kernel_rfl, fun ns => by kernel_rfl⟩
def pt2_o : Sy.O := (Sy.O.pack 6 0x0 Sy.O.nil)
noncomputable def pt2_R  (ns : Nat → Sy.Let) : Sy.Res (Value × List Blk) :=
 let z0 := (Array.mk [Value.bool true, Value.bool true, Value.bool false, Value.bool false, Value.bool false])
 Sy.Res.leaf (Value.agg z0, [Blk.mk (Let.n (ns 0)) (Sy.Cont.obj (Obj.cells z0 (176 : Nat))) true])
theorem pt2_run  : Sy.Ran (Sy.inB Tryz.prog Sy.S0 50 fParts #[.int .i64 2] []) pt2_o (pt2_R ) := ⟨fun ns => by kernel_rfl, fun ns => by kernel_rfl⟩
def pt3_o : Sy.O := (Sy.O.pack 6 0x0 Sy.O.nil)
noncomputable def pt3_R  (ns : Nat → Sy.Let) : Sy.Res (Value × List Blk) :=
 let z0 := (Array.mk [Value.bool false, Value.bool true, Value.bool true, Value.bool false, Value.bool false])
 Sy.Res.leaf (Value.agg z0, [Blk.mk (Let.n (ns 0)) (Sy.Cont.obj (Obj.cells z0 (176 : Nat))) true])
theorem pt3_run  : Sy.Ran (Sy.inB Tryz.prog Sy.S0 50 fParts #[.int .i64 3] []) pt3_o (pt3_R ) := ⟨fun ns => by kernel_rfl, fun ns => by kernel_rfl⟩
def pt4_o : Sy.O := (Sy.O.pack 6 0x0 Sy.O.nil)
noncomputable def pt4_R  (ns : Nat → Sy.Let) : Sy.Res (Value × List Blk) :=
 let z0 := (Array.mk [Value.bool true, Value.bool true, Value.bool true, Value.bool false, Value.bool false])
 Sy.Res.leaf (Value.agg z0, [Blk.mk (Let.n (ns 0)) (Sy.Cont.obj (Obj.cells z0 (176 : Nat))) true])
theorem pt4_run  : Sy.Ran (Sy.inB Tryz.prog Sy.S0 50 fParts #[.int .i64 4] []) pt4_o (pt4_R ) := ⟨fun ns => by kernel_rfl, fun ns => by kernel_rfl⟩
def pt5_o : Sy.O := (Sy.O.pack 6 0x0 Sy.O.nil)
noncomputable def pt5_R  (ns : Nat → Sy.Let) : Sy.Res (Value × List Blk) :=
 let z0 := (Array.mk [Value.bool true, Value.bool true, Value.bool true, Value.bool false, Value.bool false])
 Sy.Res.leaf (Value.agg z0, [Blk.mk (Let.n (ns 0)) (Sy.Cont.obj (Obj.cells z0 (176 : Nat))) true])
theorem pt5_run  : Sy.Ran (Sy.inB Tryz.prog Sy.S0 50 fParts #[.int .i64 5] []) pt5_o (pt5_R ) := ⟨fun ns => by kernel_rfl, fun ns => by kernel_rfl⟩
def pt6_o : Sy.O := (Sy.O.pack 6 0x0 Sy.O.nil)
noncomputable def pt6_R  (ns : Nat → Sy.Let) : Sy.Res (Value × List Blk) :=
 let z0 := (Array.mk [Value.bool true, Value.bool true, Value.bool true, Value.bool true, Value.bool false])
 Sy.Res.leaf (Value.agg z0, [Blk.mk (Let.n (ns 0)) (Sy.Cont.obj (Obj.cells z0 (176 : Nat))) true])
theorem pt6_run  : Sy.Ran (Sy.inB Tryz.prog Sy.S0 50 fParts #[.int .i64 6] []) pt6_o (pt6_R ) := ⟨fun ns => by kernel_rfl, fun ns => by kernel_rfl⟩
def pt7_o : Sy.O := (Sy.O.pack 6 0x0 Sy.O.nil)
noncomputable def pt7_R  (ns : Nat → Sy.Let) : Sy.Res (Value × List Blk) :=
 let z0 := (Array.mk [Value.bool false, Value.bool false, Value.bool false, Value.bool false, Value.bool false])
 Sy.Res.leaf (Value.agg z0, [Blk.mk (Let.n (ns 0)) (Sy.Cont.obj (Obj.cells z0 (176 : Nat))) true])
theorem pt7_run  : Sy.Ran (Sy.inB Tryz.prog Sy.S0 50 fParts #[.int .i64 7] []) pt7_o (pt7_R ) := ⟨fun ns => by kernel_rfl, fun ns => by kernel_rfl⟩
def pt8_o : Sy.O := (Sy.O.pack 6 0x0 Sy.O.nil)
noncomputable def pt8_R  (ns : Nat → Sy.Let) : Sy.Res (Value × List Blk) :=
 let z0 := (Array.mk [Value.bool false, Value.bool false, Value.bool true, Value.bool false, Value.bool false])
 Sy.Res.leaf (Value.agg z0, [Blk.mk (Let.n (ns 0)) (Sy.Cont.obj (Obj.cells z0 (176 : Nat))) true])
theorem pt8_run  : Sy.Ran (Sy.inB Tryz.prog Sy.S0 50 fParts #[.int .i64 8] []) pt8_o (pt8_R ) := ⟨fun ns => by kernel_rfl, fun ns => by kernel_rfl⟩
def pt9_o : Sy.O := (Sy.O.pack 6 0x0 Sy.O.nil)
noncomputable def pt9_R  (ns : Nat → Sy.Let) : Sy.Res (Value × List Blk) :=
 let z0 := (Array.mk [Value.bool false, Value.bool false, Value.bool false, Value.bool false, Value.bool true])
 Sy.Res.leaf (Value.agg z0, [Blk.mk (Let.n (ns 0)) (Sy.Cont.obj (Obj.cells z0 (176 : Nat))) true])
theorem pt9_run  : Sy.Ran (Sy.inB Tryz.prog Sy.S0 50 fParts #[.int .i64 9] []) pt9_o (pt9_R ) := ⟨fun ns => by kernel_rfl, fun ns => by kernel_rfl⟩
def pt10_o : Sy.O := (Sy.O.pack 6 0x0 Sy.O.nil)
noncomputable def pt10_R  (ns : Nat → Sy.Let) : Sy.Res (Value × List Blk) :=
 let z0 := (Array.mk [Value.bool false, Value.bool false, Value.bool true, Value.bool false, Value.bool true])
 Sy.Res.leaf (Value.agg z0, [Blk.mk (Let.n (ns 0)) (Sy.Cont.obj (Obj.cells z0 (176 : Nat))) true])
theorem pt10_run  : Sy.Ran (Sy.inB Tryz.prog Sy.S0 50 fParts #[.int .i64 10] []) pt10_o (pt10_R ) := ⟨fun ns => by kernel_rfl, fun ns => by kernel_rfl⟩
def hasDst (op : Int) : Bool := decide (op = 1 ∨ op = 2 ∨ op = 4 ∨ op = 5 ∨ op = 6)
def hasPlace (op : Int) : Bool := decide (2 ≤ op ∧ op ≤ 6)
def hasE (op : Int) : Bool := decide (op ≠ 2 ∧ op ≠ 7 ∧ op ≠ 9)
def hasF (op : Int) : Bool := decide (op = 6)
def hasTo (op : Int) : Bool := decide (op = 9 ∨ op = 10)
def partsV (op : Int) : Value := .agg #[.bool (hasDst op), .bool (hasPlace op), .bool (hasE op), .bool (hasF op), .bool (hasTo op)]
def partsC (op : Int) : Sy.CallC := ⟨fParts, #[.int .i64 op], 1 ≤ op ∧ op ≤ 10, ⟨[], [], 0, []⟩, [Sy.plainO (partsV op)]⟩
theorem partsC_met (op : Int) : Sy.Meets Tryz.prog (partsC op) := fun hok => by
  have h : op = 1 ∨ op = 2 ∨ op = 3 ∨ op = 4 ∨ op = 5 ∨ op = 6 ∨ op = 7 ∨ op = 8 ∨ op = 9 ∨ op = 10 := by
    have := hok.1
    have := hok.2
    omega
  rcases h with rfl | rfl | rfl | rfl | rfl | rfl | rfl | rfl | rfl | rfl
  · exact Sy.meets_ofB Sy.S0_holds mixed (c := partsC 1) (L := []) (Sy.Ent.refl _) pt1_run (fun _ ns => by
      simp only [pt1_R, Sy.Res.holds]
      first | exact plainB_leaf (List.mem_singleton_self _) rfl rfl | exact fun _ => plainB_leaf (List.mem_singleton_self _) rfl rfl) hok
  · exact Sy.meets_ofB Sy.S0_holds mixed (c := partsC 2) (L := []) (Sy.Ent.refl _) pt2_run (fun _ ns => by
      simp only [pt2_R, Sy.Res.holds]
      first | exact plainB_leaf (List.mem_singleton_self _) rfl rfl | exact fun _ => plainB_leaf (List.mem_singleton_self _) rfl rfl) hok
  · exact Sy.meets_ofB Sy.S0_holds mixed (c := partsC 3) (L := []) (Sy.Ent.refl _) pt3_run (fun _ ns => by
      simp only [pt3_R, Sy.Res.holds]
      first | exact plainB_leaf (List.mem_singleton_self _) rfl rfl | exact fun _ => plainB_leaf (List.mem_singleton_self _) rfl rfl) hok
  · exact Sy.meets_ofB Sy.S0_holds mixed (c := partsC 4) (L := []) (Sy.Ent.refl _) pt4_run (fun _ ns => by
      simp only [pt4_R, Sy.Res.holds]
      first | exact plainB_leaf (List.mem_singleton_self _) rfl rfl | exact fun _ => plainB_leaf (List.mem_singleton_self _) rfl rfl) hok
  · exact Sy.meets_ofB Sy.S0_holds mixed (c := partsC 5) (L := []) (Sy.Ent.refl _) pt5_run (fun _ ns => by
      simp only [pt5_R, Sy.Res.holds]
      first | exact plainB_leaf (List.mem_singleton_self _) rfl rfl | exact fun _ => plainB_leaf (List.mem_singleton_self _) rfl rfl) hok
  · exact Sy.meets_ofB Sy.S0_holds mixed (c := partsC 6) (L := []) (Sy.Ent.refl _) pt6_run (fun _ ns => by
      simp only [pt6_R, Sy.Res.holds]
      first | exact plainB_leaf (List.mem_singleton_self _) rfl rfl | exact fun _ => plainB_leaf (List.mem_singleton_self _) rfl rfl) hok
  · exact Sy.meets_ofB Sy.S0_holds mixed (c := partsC 7) (L := []) (Sy.Ent.refl _) pt7_run (fun _ ns => by
      simp only [pt7_R, Sy.Res.holds]
      first | exact plainB_leaf (List.mem_singleton_self _) rfl rfl | exact fun _ => plainB_leaf (List.mem_singleton_self _) rfl rfl) hok
  · exact Sy.meets_ofB Sy.S0_holds mixed (c := partsC 8) (L := []) (Sy.Ent.refl _) pt8_run (fun _ ns => by
      simp only [pt8_R, Sy.Res.holds]
      first | exact plainB_leaf (List.mem_singleton_self _) rfl rfl | exact fun _ => plainB_leaf (List.mem_singleton_self _) rfl rfl) hok
  · exact Sy.meets_ofB Sy.S0_holds mixed (c := partsC 9) (L := []) (Sy.Ent.refl _) pt9_run (fun _ ns => by
      simp only [pt9_R, Sy.Res.holds]
      first | exact plainB_leaf (List.mem_singleton_self _) rfl rfl | exact fun _ => plainB_leaf (List.mem_singleton_self _) rfl rfl) hok
  · exact Sy.meets_ofB Sy.S0_holds mixed (c := partsC 10) (L := []) (Sy.Ent.refl _) pt10_run (fun _ ns => by
      simp only [pt10_R, Sy.Res.holds]
      first | exact plainB_leaf (List.mem_singleton_self _) rfl rfl | exact fun _ => plainB_leaf (List.mem_singleton_self _) rfl rfl) hok
end Go.Proofs.YtlpcnaeknbmjdaaGreat

namespace Go.Proofs.YtlpcnaeknbmjdaaGreat
open Go Go.RowKit
open Sy (Let Blk HasL)
noncomputable def ctxW (B : List (Nat × Sy.Cont)) (op dst base size mode to line col : Int) (iv ev fv tv : Value) (ix e f : List NodeD) (cells loc : Int) : Sy.Ctx := Sy.mkS [(fMay, fun _ _ => mayC op mode), (fParts, fun _ _ => partsC op), (fPlace, fun _ _ => placeC B op dst base size mode to line col iv ev fv tv ix cells loc), (fExpr, fun _ _ => exprC B ev e loc), (fExpr, fun _ _ => exprC B fv f loc)] [] []
theorem ctxW_holds (B : List (Nat × Sy.Cont)) (op dst base size mode to line col : Int) (iv ev fv tv : Value) (ix e f : List NodeD) (cells loc : Int) : (ctxW B op dst base size mode to line col iv ev fv tv ix e f cells loc).holds Tryz.prog := Sy.mkS_holds (fun p hp a L => by
  simp only [List.mem_cons, List.not_mem_nil, or_false] at hp
  rcases hp with rfl | rfl | rfl | rfl | rfl
  · exact mayC_met _ _
  · exact partsC_met _
  · exact placeC_met _ _ _ _ _ _ _ _ _ _ _ _ _ _ _ _
  · exact exprC_met _ _ _ _
  · exact exprC_met _ _ _ _) (fun _ h => (by cases h)) (fun _ h => (by cases h))
def partsX (op : Int) : Sy.CallC := ⟨fParts, #[.int .i64 op], False, ⟨[], [], 0, []⟩, [Sy.plainO (.agg #[.bool false, .bool false, .bool false, .bool false, .bool false])]⟩
noncomputable def ctxV (op mode : Int) : Sy.Ctx := Sy.mkS [(fMay, fun _ _ => mayC op mode), (fParts, fun _ _ => partsX op)] [] []
theorem ctxV_holds (op mode : Int) : (ctxV op mode).holds Tryz.prog := Sy.mkS_holds (fun p hp a L => by
  simp only [List.mem_cons, List.not_mem_nil, or_false] at hp
  rcases hp with rfl | rfl
  · exact mayC_met _ _
  · exact fun h => h.elim) (fun _ h => (by cases h)) (fun _ h => (by cases h))
end Go.Proofs.YtlpcnaeknbmjdaaGreat

namespace Go.Proofs.YtlpcnaeknbmjdaaGreat
set_option linter.unusedVariables false
set_option linter.unusedSimpArgs false
open Go Go.RowKit
open Sy (Let Blk HasL)
def wac1_o : Sy.O := (Sy.O.pack 28 0x400000020000010000000020000000040 (Sy.O.fork Sy.O.nil (Sy.O.pack 20 0x300000000000040000040 (Sy.O.fork (Sy.O.pack 7 0x0 Sy.O.nil) (Sy.O.pack 11 0x800000c00 (Sy.O.fork (Sy.O.steps [0] Sy.O.nil) (Sy.O.pack 30 0xc00000000000000000000000000000000 (Sy.O.fork (Sy.O.pack 10 0x0 Sy.O.nil) (Sy.O.pack 7 0xc00 (Sy.O.fork (Sy.O.pack 5 0x0 Sy.O.nil) (Sy.O.pack 8 0x2000c00 (Sy.O.fork Sy.O.nil (Sy.O.pack 7 0x40300000 (Sy.O.fork (Sy.O.steps [0] Sy.O.nil) (Sy.O.pack 7 0x40300000 (Sy.O.fork (Sy.O.steps [0] Sy.O.nil) (Sy.O.pack 20 0x404080000800000c0000000 (Sy.O.fork (Sy.O.steps [0] Sy.O.nil) (Sy.O.pack 31 0x18000000000000000000000000000000000 (Sy.O.fork Sy.O.nil Sy.O.nil))))))))))))))))))))
noncomputable def wac1_R (B : List (Nat × Sy.Cont)) (dst : Int) (base : Int) (size : Int) (mode : Int) (to : Int) (line : Int) (col : Int) (iv : Value) (ev : Value) (fv : Value) (tv : Value) (av : Value) (ix : List NodeD) (e : List NodeD) (f : List NodeD) (cells : Int) (loc : Int) (ns : Nat → Sy.Let) : Sy.Res (Value × List Blk) :=
 let z0 := (Sy.Cont.obj (Obj.cells (Array.mk [Value.int IntKind.i64 loc, av]) (40 : Nat)))
 let z1 := (Sy.Cont.obj (Obj.cells (Array.mk [Value.int IntKind.i64 cells, tv]) (24 : Nat)))
 let z2 := (Sy.Cont.obj (Obj.cells (Array.mk [Value.int IntKind.i64 (1 : Int), Value.int IntKind.i64 dst, Value.int IntKind.i64 base, Value.int IntKind.i64 size, iv, ev, fv, Value.int IntKind.i64 mode, Value.int IntKind.i64 to, Value.int IntKind.i64 line, Value.int IntKind.i64 col]) (46 : Nat)))
 let z3 := (Sy.Cont.obj (Obj.cells (Array.mk [Value.bool true, Value.bool false, Value.bool true, Value.bool false, Value.bool false]) (176 : Nat)))
 Sy.Res.need True (Sy.Res.hyp True (Sy.Res.br (bif false then true else !mayF (1 : Int) mode) (Sy.Res.leaf (Value.bool false, Blk.mk (Let.n (ns 2)) z0 true :: Blk.mk (Let.n (ns 1)) z1 true :: Blk.mk (Let.n (ns 0)) z2 true :: rdOf B)) (Sy.Res.need ((1 : Int) ≤ (1 : Int) ∧ (1 : Int) ≤ (10 : Int)) (Sy.Res.hyp True (Sy.Res.br (Ex.ltQ dst (0 : Int)) (Sy.Res.leaf (Value.bool false, Blk.mk (Let.n (ns 3)) z3 true :: Blk.mk (Let.n (ns 2)) z0 true :: Blk.mk (Let.n (ns 1)) z1 true :: Blk.mk (Let.n (ns 0)) z2 true :: rdOf B)) (Sy.Res.br (bif true then bif false then true else Ex.leQ loc dst else false) (Sy.Res.leaf (Value.bool false, Blk.mk (Let.n (ns 3)) z3 true :: Blk.mk (Let.n (ns 2)) z0 true :: Blk.mk (Let.n (ns 1)) z1 true :: Blk.mk (Let.n (ns 0)) z2 true :: rdOf B)) (Sy.Res.br (!Ex.eqQ base (0 : Int)) (Sy.Res.leaf (Value.bool false, Blk.mk (Let.n (ns 3)) z3 true :: Blk.mk (Let.n (ns 2)) z0 true :: Blk.mk (Let.n (ns 1)) z1 true :: Blk.mk (Let.n (ns 0)) z2 true :: rdOf B)) (Sy.Res.br (bif false then true else !Ex.eqQ size (0 : Int)) (Sy.Res.leaf (Value.bool false, Blk.mk (Let.n (ns 3)) z3 true :: Blk.mk (Let.n (ns 2)) z0 true :: Blk.mk (Let.n (ns 1)) z1 true :: Blk.mk (Let.n (ns 0)) z2 true :: rdOf B)) (Sy.Res.need (∃ (p : Option Addr), ∃ (n : Nat), ∃ (c : Nat), iv = Value.slice p n c) (Sy.Res.br (bif true then bif false then true else Ex.ltQ (0 : Int) (Int.ofNat (Sy.lenS iv)) else false) (Sy.Res.leaf (Value.bool false, Blk.mk (Let.n (ns 3)) z3 true :: Blk.mk (Let.n (ns 2)) z0 true ::
 Blk.mk (Let.n (ns 1)) z1 true :: Blk.mk (Let.n (ns 0)) z2 true :: rdOf B)) (Sy.Res.need (∃ (p : Option Addr), ∃ (n : Nat), ∃ (c : Nat), ev = Value.slice p n c) (Sy.Res.br (!true == Ex.ltQ (0 : Int) (Int.ofNat (Sy.lenS ev))) (Sy.Res.leaf (Value.bool false, Blk.mk (Let.n (ns 3)) z3 true :: Blk.mk (Let.n (ns 2)) z0 true :: Blk.mk (Let.n (ns 1)) z1 true :: Blk.mk (Let.n (ns 0)) z2 true :: rdOf B)) (Sy.Res.need (∃ (p : Option Addr), ∃ (n : Nat), ∃ (c : Nat), fv = Value.slice p n c) (Sy.Res.br (!false == Ex.ltQ (0 : Int) (Int.ofNat (Sy.lenS fv))) (Sy.Res.leaf (Value.bool false, Blk.mk (Let.n (ns 3)) z3 true :: Blk.mk (Let.n (ns 2)) z0 true :: Blk.mk (Let.n (ns 1)) z1 true :: Blk.mk (Let.n (ns 0)) z2 true :: rdOf B)) (Sy.Res.need (NodesR B ev e ∧ List.length e < (4398046511104 : Nat)) (Sy.Res.need (Sy.GotL (rdOf B) B) (Sy.Res.hyp True (Sy.Res.br (bif true then !exprF loc e else false) (Sy.Res.leaf (Value.bool false, Blk.mk (Let.n (ns 3)) z3 true :: Blk.mk (Let.n (ns 2)) z0 true :: Blk.mk (Let.n (ns 1)) z1 true :: Blk.mk (Let.n (ns 0)) z2 true :: rdOf B)) (Sy.Res.br (bif true then !Ex.eqQ to (0 : Int) else false) (Sy.Res.leaf (Value.bool false, Blk.mk (Let.n (ns 3)) z3 true :: Blk.mk (Let.n (ns 2)) z0 true :: Blk.mk (Let.n (ns 1)) z1 true :: Blk.mk (Let.n (ns 0)) z2 true :: rdOf B)) (Sy.Res.leaf (Value.bool true, Blk.mk (Let.n (ns 3)) z3 true :: Blk.mk (Let.n (ns 2)) z0 true :: Blk.mk (Let.n (ns 1)) z1 true :: Blk.mk (Let.n (ns 0)) z2 true :: rdOf B)))))))))))))))))))))
theorem wac1_run (B : List (Nat × Sy.Cont)) (dst base size mode to line col : Int) (iv ev fv tv av : Value) (ix e f : List NodeD) (cells loc : Int) : Sy.Ran (Sy.inB Tryz.prog (ctxW B (1) dst base size mode to line col iv ev fv tv ix e f cells loc) 50 fAct #[.agg #[.int .i64 (1), .int .i64 dst, .int .i64 base, .int .i64 size, iv, ev, fv, .int .i64 mode, .int .i64 to, .int .i64 line, .int .i64 col], progV cells tv, thrV loc av] (rdOf B)) wac1_o (wac1_R B dst base size mode to line col iv ev fv tv av ix e f cells loc) := ⟨fun ns => by kernel_rfl, fun ns => by kernel_rfl⟩
def wac2_o : Sy.O := (Sy.O.pack 28 0x400000020000010000000020000000040 (Sy.O.fork Sy.O.nil (Sy.O.pack 20 0x300000000000040000040 (Sy.O.fork (Sy.O.pack 7 0x0 Sy.O.nil) (Sy.O.pack 11 0x800000c00 (Sy.O.fork (Sy.O.steps [0] Sy.O.nil) (Sy.O.pack 33 0x808100001000001000018000000000000000000 (Sy.O.fork (Sy.O.steps [0] Sy.O.nil) (Sy.O.pack 18 0x2018000000000000000000 (Sy.O.fork (Sy.O.steps [0] Sy.O.nil) (Sy.O.pack 7 0x40300000 (Sy.O.fork (Sy.O.steps [0] Sy.O.nil) (Sy.O.pack 41 0x60000000000000000000000000000000000000000000000 (Sy.O.fork Sy.O.nil Sy.O.nil))))))))))))))
noncomputable def wac2_R (B : List (Nat × Sy.Cont)) (dst : Int) (base : Int) (size : Int) (mode : Int) (to : Int) (line : Int) (col : Int) (iv : Value) (ev : Value) (fv : Value) (tv : Value) (av : Value) (ix : List NodeD) (e : List NodeD) (f : List NodeD) (cells : Int) (loc : Int) (ns : Nat → Sy.Let) : Sy.Res (Value × List Blk) :=
 let z0 := (Sy.Cont.obj (Obj.cells (Array.mk [Value.int IntKind.i64 loc, av]) (40 : Nat)))
 let z1 := (Sy.Cont.obj (Obj.cells (Array.mk [Value.int IntKind.i64 cells, tv]) (24 : Nat)))
 let z2 := (Sy.Cont.obj (Obj.cells (Array.mk [Value.int IntKind.i64 (2 : Int), Value.int IntKind.i64 dst, Value.int IntKind.i64 base, Value.int IntKind.i64 size, iv, ev, fv, Value.int IntKind.i64 mode, Value.int IntKind.i64 to, Value.int IntKind.i64 line, Value.int IntKind.i64 col]) (46 : Nat)))
 let z3 := (Sy.Cont.obj (Obj.cells (Array.mk [Value.bool true, Value.bool true, Value.bool false, Value.bool false, Value.bool false]) (176 : Nat)))
 Sy.Res.need True (Sy.Res.hyp True (Sy.Res.br (bif false then true else !mayF (2 : Int) mode) (Sy.Res.leaf (Value.bool false, Blk.mk (Let.n (ns 2)) z0 true :: Blk.mk (Let.n (ns 1)) z1 true :: Blk.mk (Let.n (ns 0)) z2 true :: rdOf B)) (Sy.Res.need ((1 : Int) ≤ (2 : Int) ∧ (2 : Int) ≤ (10 : Int)) (Sy.Res.hyp True (Sy.Res.br (Ex.ltQ dst (0 : Int)) (Sy.Res.leaf (Value.bool false, Blk.mk (Let.n (ns 3)) z3 true :: Blk.mk (Let.n (ns 2)) z0 true :: Blk.mk (Let.n (ns 1)) z1 true :: Blk.mk (Let.n (ns 0)) z2 true :: rdOf B)) (Sy.Res.br (bif true then bif false then true else Ex.leQ loc dst else false) (Sy.Res.leaf (Value.bool false, Blk.mk (Let.n (ns 3)) z3 true :: Blk.mk (Let.n (ns 2)) z0 true :: Blk.mk (Let.n (ns 1)) z1 true :: Blk.mk (Let.n (ns 0)) z2 true :: rdOf B)) (Sy.Res.need (NodesR B iv ix ∧ List.length ix < (4398046511104 : Nat)) (Sy.Res.need (Sy.GotL (rdOf B) B) (Sy.Res.hyp True (Sy.Res.br (bif true then !placeF size base cells loc ix else false) (Sy.Res.leaf (Value.bool false, Blk.mk (Let.n (ns 3)) z3 true :: Blk.mk (Let.n (ns 2)) z0 true :: Blk.mk (Let.n (ns 1)) z1 true :: Blk.mk (Let.n (ns 0)) z2 true :: rdOf B)) (Sy.Res.need (∃ (p : Option Addr), ∃ (n : Nat), ∃ (c : Nat), ev = Value.slice p n c) (Sy.Res.br (!false == Ex.ltQ (0 : Int) (Int.ofNat (Sy.lenS ev))) (Sy.Res.leaf (Value.bool false, Blk.mk (Let.n (ns 3)) z3 true :: Blk.mk (Let.n (ns 2)) z0 true :: Blk.mk (Let.n (ns 1)) z1 true :: Blk.mk (Let.n (ns 0)) z2 true :: rdOf B)) (Sy.Res.need (∃ (p : Option Addr), ∃ (n :
 Nat), ∃ (c : Nat), fv = Value.slice p n c) (Sy.Res.br (!false == Ex.ltQ (0 : Int) (Int.ofNat (Sy.lenS fv))) (Sy.Res.leaf (Value.bool false, Blk.mk (Let.n (ns 3)) z3 true :: Blk.mk (Let.n (ns 2)) z0 true :: Blk.mk (Let.n (ns 1)) z1 true :: Blk.mk (Let.n (ns 0)) z2 true :: rdOf B)) (Sy.Res.br (bif true then !Ex.eqQ to (0 : Int) else false) (Sy.Res.leaf (Value.bool false, Blk.mk (Let.n (ns 3)) z3 true :: Blk.mk (Let.n (ns 2)) z0 true :: Blk.mk (Let.n (ns 1)) z1 true :: Blk.mk (Let.n (ns 0)) z2 true :: rdOf B)) (Sy.Res.leaf (Value.bool true, Blk.mk (Let.n (ns 3)) z3 true :: Blk.mk (Let.n (ns 2)) z0 true :: Blk.mk (Let.n (ns 1)) z1 true :: Blk.mk (Let.n (ns 0)) z2 true :: rdOf B)))))))))))))))))
theorem wac2_run (B : List (Nat × Sy.Cont)) (dst base size mode to line col : Int) (iv ev fv tv av : Value) (ix e f : List NodeD) (cells loc : Int) : Sy.Ran (Sy.inB Tryz.prog (ctxW B (2) dst base size mode to line col iv ev fv tv ix e f cells loc) 50 fAct #[.agg #[.int .i64 (2), .int .i64 dst, .int .i64 base, .int .i64 size, iv, ev, fv, .int .i64 mode, .int .i64 to, .int .i64 line, .int .i64 col], progV cells tv, thrV loc av] (rdOf B)) wac2_o (wac2_R B dst base size mode to line col iv ev fv tv av ix e f cells loc) := ⟨fun ns => by kernel_rfl, fun ns => by kernel_rfl⟩
def wac3_o : Sy.O := (Sy.O.pack 28 0x400000020000010000000020000000040 (Sy.O.fork Sy.O.nil (Sy.O.pack 31 0x18000000000000000000000000040000040 (Sy.O.fork Sy.O.nil (Sy.O.pack 23 0x202040000400000400006000000 (Sy.O.fork (Sy.O.steps [0] Sy.O.nil) (Sy.O.pack 18 0x2018000000000000000000 (Sy.O.fork (Sy.O.steps [0] Sy.O.nil) (Sy.O.pack 7 0x40300000 (Sy.O.fork (Sy.O.steps [0] Sy.O.nil) (Sy.O.pack 20 0x404080000800000c0000000 (Sy.O.fork (Sy.O.steps [0] Sy.O.nil) (Sy.O.pack 31 0x18000000000000000000000000000000000 (Sy.O.fork Sy.O.nil Sy.O.nil))))))))))))))
noncomputable def wac3_R (B : List (Nat × Sy.Cont)) (dst : Int) (base : Int) (size : Int) (mode : Int) (to : Int) (line : Int) (col : Int) (iv : Value) (ev : Value) (fv : Value) (tv : Value) (av : Value) (ix : List NodeD) (e : List NodeD) (f : List NodeD) (cells : Int) (loc : Int) (ns : Nat → Sy.Let) : Sy.Res (Value × List Blk) :=
 let z0 := (Sy.Cont.obj (Obj.cells (Array.mk [Value.int IntKind.i64 loc, av]) (40 : Nat)))
 let z1 := (Sy.Cont.obj (Obj.cells (Array.mk [Value.int IntKind.i64 cells, tv]) (24 : Nat)))
 let z2 := (Sy.Cont.obj (Obj.cells (Array.mk [Value.int IntKind.i64 (3 : Int), Value.int IntKind.i64 dst, Value.int IntKind.i64 base, Value.int IntKind.i64 size, iv, ev, fv, Value.int IntKind.i64 mode, Value.int IntKind.i64 to, Value.int IntKind.i64 line, Value.int IntKind.i64 col]) (46 : Nat)))
 let z3 := (Sy.Cont.obj (Obj.cells (Array.mk [Value.bool false, Value.bool true, Value.bool true, Value.bool false, Value.bool false]) (176 : Nat)))
 let z4 := (Sy.GotL (rdOf B) B)
 Sy.Res.need True (Sy.Res.hyp True (Sy.Res.br (bif false then true else !mayF (3 : Int) mode) (Sy.Res.leaf (Value.bool false, Blk.mk (Let.n (ns 2)) z0 true :: Blk.mk (Let.n (ns 1)) z1 true :: Blk.mk (Let.n (ns 0)) z2 true :: rdOf B)) (Sy.Res.need ((1 : Int) ≤ (3 : Int) ∧ (3 : Int) ≤ (10 : Int)) (Sy.Res.hyp True (Sy.Res.br (bif true then !Ex.eqQ dst (0 : Int) else false) (Sy.Res.leaf (Value.bool false, Blk.mk (Let.n (ns 3)) z3 true :: Blk.mk (Let.n (ns 2)) z0 true :: Blk.mk (Let.n (ns 1)) z1 true :: Blk.mk (Let.n (ns 0)) z2 true :: rdOf B)) (Sy.Res.need (NodesR B iv ix ∧ List.length ix < (4398046511104 : Nat)) (Sy.Res.need z4 (Sy.Res.hyp True (Sy.Res.br (bif true then !placeF size base cells loc ix else false) (Sy.Res.leaf (Value.bool false, Blk.mk (Let.n (ns 3)) z3 true :: Blk.mk (Let.n (ns 2)) z0 true :: Blk.mk (Let.n (ns 1)) z1 true :: Blk.mk (Let.n (ns 0)) z2 true :: rdOf B)) (Sy.Res.need (∃ (p : Option Addr), ∃ (n : Nat), ∃ (c : Nat), ev = Value.slice p n c) (Sy.Res.br (!true == Ex.ltQ (0 : Int) (Int.ofNat (Sy.lenS ev))) (Sy.Res.leaf (Value.bool false, Blk.mk (Let.n (ns 3)) z3 true :: Blk.mk (Let.n (ns 2)) z0 true :: Blk.mk (Let.n (ns 1)) z1 true :: Blk.mk (Let.n (ns 0)) z2 true :: rdOf B)) (Sy.Res.need (∃ (p : Option Addr), ∃ (n : Nat), ∃ (c : Nat), fv = Value.slice p n c) (Sy.Res.br (!false == Ex.ltQ (0 : Int) (Int.ofNat (Sy.lenS fv))) (Sy.Res.leaf (Value.bool false, Blk.mk (Let.n (ns 3)) z3 true :: Blk.mk (Let.n (ns 2)) z0 true :: Blk.mk (Let.n (ns 1)) z1 true :: Blk.mk
 (Let.n (ns 0)) z2 true :: rdOf B)) (Sy.Res.need (NodesR B ev e ∧ List.length e < (4398046511104 : Nat)) (Sy.Res.need z4 (Sy.Res.hyp True (Sy.Res.br (bif true then !exprF loc e else false) (Sy.Res.leaf (Value.bool false, Blk.mk (Let.n (ns 3)) z3 true :: Blk.mk (Let.n (ns 2)) z0 true :: Blk.mk (Let.n (ns 1)) z1 true :: Blk.mk (Let.n (ns 0)) z2 true :: rdOf B)) (Sy.Res.br (bif true then !Ex.eqQ to (0 : Int) else false) (Sy.Res.leaf (Value.bool false, Blk.mk (Let.n (ns 3)) z3 true :: Blk.mk (Let.n (ns 2)) z0 true :: Blk.mk (Let.n (ns 1)) z1 true :: Blk.mk (Let.n (ns 0)) z2 true :: rdOf B)) (Sy.Res.leaf (Value.bool true, Blk.mk (Let.n (ns 3)) z3 true :: Blk.mk (Let.n (ns 2)) z0 true :: Blk.mk (Let.n (ns 1)) z1 true :: Blk.mk (Let.n (ns 0)) z2 true :: rdOf B))))))))))))))))))))
theorem wac3_run (B : List (Nat × Sy.Cont)) (dst base size mode to line col : Int) (iv ev fv tv av : Value) (ix e f : List NodeD) (cells loc : Int) : Sy.Ran (Sy.inB Tryz.prog (ctxW B (3) dst base size mode to line col iv ev fv tv ix e f cells loc) 50 fAct #[.agg #[.int .i64 (3), .int .i64 dst, .int .i64 base, .int .i64 size, iv, ev, fv, .int .i64 mode, .int .i64 to, .int .i64 line, .int .i64 col], progV cells tv, thrV loc av] (rdOf B)) wac3_o (wac3_R B dst base size mode to line col iv ev fv tv av ix e f cells loc) := ⟨fun ns => by kernel_rfl, fun ns => by kernel_rfl⟩
def wac4_o : Sy.O := (Sy.O.pack 28 0x400000020000010000000020000000040 (Sy.O.fork Sy.O.nil (Sy.O.pack 20 0x300000000000040000040 (Sy.O.fork (Sy.O.pack 7 0x0 Sy.O.nil) (Sy.O.pack 11 0x800000c00 (Sy.O.fork (Sy.O.steps [0] Sy.O.nil) (Sy.O.pack 33 0x808100001000001000018000000000000000000 (Sy.O.fork (Sy.O.steps [0] Sy.O.nil) (Sy.O.pack 18 0x2018000000000000000000 (Sy.O.fork (Sy.O.steps [0] Sy.O.nil) (Sy.O.pack 7 0x40300000 (Sy.O.fork (Sy.O.steps [0] Sy.O.nil) (Sy.O.pack 20 0x404080000800000c0000000 (Sy.O.fork (Sy.O.steps [0] Sy.O.nil) (Sy.O.pack 31 0x18000000000000000000000000000000000 (Sy.O.fork Sy.O.nil Sy.O.nil))))))))))))))))
noncomputable def wac4_R (B : List (Nat × Sy.Cont)) (dst : Int) (base : Int) (size : Int) (mode : Int) (to : Int) (line : Int) (col : Int) (iv : Value) (ev : Value) (fv : Value) (tv : Value) (av : Value) (ix : List NodeD) (e : List NodeD) (f : List NodeD) (cells : Int) (loc : Int) (ns : Nat → Sy.Let) : Sy.Res (Value × List Blk) :=
 let z0 := (Sy.Cont.obj (Obj.cells (Array.mk [Value.int IntKind.i64 loc, av]) (40 : Nat)))
 let z1 := (Sy.Cont.obj (Obj.cells (Array.mk [Value.int IntKind.i64 cells, tv]) (24 : Nat)))
 let z2 := (Sy.Cont.obj (Obj.cells (Array.mk [Value.int IntKind.i64 (4 : Int), Value.int IntKind.i64 dst, Value.int IntKind.i64 base, Value.int IntKind.i64 size, iv, ev, fv, Value.int IntKind.i64 mode, Value.int IntKind.i64 to, Value.int IntKind.i64 line, Value.int IntKind.i64 col]) (46 : Nat)))
 let z3 := (Sy.Cont.obj (Obj.cells (Array.mk [Value.bool true, Value.bool true, Value.bool true, Value.bool false, Value.bool false]) (176 : Nat)))
 let z4 := (Sy.GotL (rdOf B) B)
 Sy.Res.need True (Sy.Res.hyp True (Sy.Res.br (bif false then true else !mayF (4 : Int) mode) (Sy.Res.leaf (Value.bool false, Blk.mk (Let.n (ns 2)) z0 true :: Blk.mk (Let.n (ns 1)) z1 true :: Blk.mk (Let.n (ns 0)) z2 true :: rdOf B)) (Sy.Res.need ((1 : Int) ≤ (4 : Int) ∧ (4 : Int) ≤ (10 : Int)) (Sy.Res.hyp True (Sy.Res.br (Ex.ltQ dst (0 : Int)) (Sy.Res.leaf (Value.bool false, Blk.mk (Let.n (ns 3)) z3 true :: Blk.mk (Let.n (ns 2)) z0 true :: Blk.mk (Let.n (ns 1)) z1 true :: Blk.mk (Let.n (ns 0)) z2 true :: rdOf B)) (Sy.Res.br (bif true then bif false then true else Ex.leQ loc dst else false) (Sy.Res.leaf (Value.bool false, Blk.mk (Let.n (ns 3)) z3 true :: Blk.mk (Let.n (ns 2)) z0 true :: Blk.mk (Let.n (ns 1)) z1 true :: Blk.mk (Let.n (ns 0)) z2 true :: rdOf B)) (Sy.Res.need (NodesR B iv ix ∧ List.length ix < (4398046511104 : Nat)) (Sy.Res.need z4 (Sy.Res.hyp True (Sy.Res.br (bif true then !placeF size base cells loc ix else false) (Sy.Res.leaf (Value.bool false, Blk.mk (Let.n (ns 3)) z3 true :: Blk.mk (Let.n (ns 2)) z0 true :: Blk.mk (Let.n (ns 1)) z1 true :: Blk.mk (Let.n (ns 0)) z2 true :: rdOf B)) (Sy.Res.need (∃ (p : Option Addr), ∃ (n : Nat), ∃ (c : Nat), ev = Value.slice p n c) (Sy.Res.br (!true == Ex.ltQ (0 : Int) (Int.ofNat (Sy.lenS ev))) (Sy.Res.leaf (Value.bool false, Blk.mk (Let.n (ns 3)) z3 true :: Blk.mk (Let.n (ns 2)) z0 true :: Blk.mk (Let.n (ns 1)) z1 true :: Blk.mk (Let.n (ns 0)) z2 true :: rdOf B)) (Sy.Res.need (∃ (p : Option Addr), ∃ (n : Nat), ∃ (c : Nat),
 fv = Value.slice p n c) (Sy.Res.br (!false == Ex.ltQ (0 : Int) (Int.ofNat (Sy.lenS fv))) (Sy.Res.leaf (Value.bool false, Blk.mk (Let.n (ns 3)) z3 true :: Blk.mk (Let.n (ns 2)) z0 true :: Blk.mk (Let.n (ns 1)) z1 true :: Blk.mk (Let.n (ns 0)) z2 true :: rdOf B)) (Sy.Res.need (NodesR B ev e ∧ List.length e < (4398046511104 : Nat)) (Sy.Res.need z4 (Sy.Res.hyp True (Sy.Res.br (bif true then !exprF loc e else false) (Sy.Res.leaf (Value.bool false, Blk.mk (Let.n (ns 3)) z3 true :: Blk.mk (Let.n (ns 2)) z0 true :: Blk.mk (Let.n (ns 1)) z1 true :: Blk.mk (Let.n (ns 0)) z2 true :: rdOf B)) (Sy.Res.br (bif true then !Ex.eqQ to (0 : Int) else false) (Sy.Res.leaf (Value.bool false, Blk.mk (Let.n (ns 3)) z3 true :: Blk.mk (Let.n (ns 2)) z0 true :: Blk.mk (Let.n (ns 1)) z1 true :: Blk.mk (Let.n (ns 0)) z2 true :: rdOf B)) (Sy.Res.leaf (Value.bool true, Blk.mk (Let.n (ns 3)) z3 true :: Blk.mk (Let.n (ns 2)) z0 true :: Blk.mk (Let.n (ns 1)) z1 true :: Blk.mk (Let.n (ns 0)) z2 true :: rdOf B)))))))))))))))))))))
theorem wac4_run (B : List (Nat × Sy.Cont)) (dst base size mode to line col : Int) (iv ev fv tv av : Value) (ix e f : List NodeD) (cells loc : Int) : Sy.Ran (Sy.inB Tryz.prog (ctxW B (4) dst base size mode to line col iv ev fv tv ix e f cells loc) 50 fAct #[.agg #[.int .i64 (4), .int .i64 dst, .int .i64 base, .int .i64 size, iv, ev, fv, .int .i64 mode, .int .i64 to, .int .i64 line, .int .i64 col], progV cells tv, thrV loc av] (rdOf B)) wac4_o (wac4_R B dst base size mode to line col iv ev fv tv av ix e f cells loc) := ⟨fun ns => by kernel_rfl, fun ns => by kernel_rfl⟩
def wac5_o : Sy.O := (Sy.O.pack 28 0x400000020000010000000020000000040 (Sy.O.fork Sy.O.nil (Sy.O.pack 20 0x300000000000040000040 (Sy.O.fork (Sy.O.pack 7 0x0 Sy.O.nil) (Sy.O.pack 11 0x800000c00 (Sy.O.fork (Sy.O.steps [0] Sy.O.nil) (Sy.O.pack 33 0x808100001000001000018000000000000000000 (Sy.O.fork (Sy.O.steps [0] Sy.O.nil) (Sy.O.pack 18 0x2018000000000000000000 (Sy.O.fork (Sy.O.steps [0] Sy.O.nil) (Sy.O.pack 7 0x40300000 (Sy.O.fork (Sy.O.steps [0] Sy.O.nil) (Sy.O.pack 20 0x404080000800000c0000000 (Sy.O.fork (Sy.O.steps [0] Sy.O.nil) (Sy.O.pack 31 0x18000000000000000000000000000000000 (Sy.O.fork Sy.O.nil Sy.O.nil))))))))))))))))
noncomputable def wac5_R (B : List (Nat × Sy.Cont)) (dst : Int) (base : Int) (size : Int) (mode : Int) (to : Int) (line : Int) (col : Int) (iv : Value) (ev : Value) (fv : Value) (tv : Value) (av : Value) (ix : List NodeD) (e : List NodeD) (f : List NodeD) (cells : Int) (loc : Int) (ns : Nat → Sy.Let) : Sy.Res (Value × List Blk) :=
 let z0 := (Sy.Cont.obj (Obj.cells (Array.mk [Value.int IntKind.i64 loc, av]) (40 : Nat)))
 let z1 := (Sy.Cont.obj (Obj.cells (Array.mk [Value.int IntKind.i64 cells, tv]) (24 : Nat)))
 let z2 := (Sy.Cont.obj (Obj.cells (Array.mk [Value.int IntKind.i64 (5 : Int), Value.int IntKind.i64 dst, Value.int IntKind.i64 base, Value.int IntKind.i64 size, iv, ev, fv, Value.int IntKind.i64 mode, Value.int IntKind.i64 to, Value.int IntKind.i64 line, Value.int IntKind.i64 col]) (46 : Nat)))
 let z3 := (Sy.Cont.obj (Obj.cells (Array.mk [Value.bool true, Value.bool true, Value.bool true, Value.bool false, Value.bool false]) (176 : Nat)))
 let z4 := (Sy.GotL (rdOf B) B)
 Sy.Res.need True (Sy.Res.hyp True (Sy.Res.br (bif false then true else !mayF (5 : Int) mode) (Sy.Res.leaf (Value.bool false, Blk.mk (Let.n (ns 2)) z0 true :: Blk.mk (Let.n (ns 1)) z1 true :: Blk.mk (Let.n (ns 0)) z2 true :: rdOf B)) (Sy.Res.need ((1 : Int) ≤ (5 : Int) ∧ (5 : Int) ≤ (10 : Int)) (Sy.Res.hyp True (Sy.Res.br (Ex.ltQ dst (0 : Int)) (Sy.Res.leaf (Value.bool false, Blk.mk (Let.n (ns 3)) z3 true :: Blk.mk (Let.n (ns 2)) z0 true :: Blk.mk (Let.n (ns 1)) z1 true :: Blk.mk (Let.n (ns 0)) z2 true :: rdOf B)) (Sy.Res.br (bif true then bif false then true else Ex.leQ loc dst else false) (Sy.Res.leaf (Value.bool false, Blk.mk (Let.n (ns 3)) z3 true :: Blk.mk (Let.n (ns 2)) z0 true :: Blk.mk (Let.n (ns 1)) z1 true :: Blk.mk (Let.n (ns 0)) z2 true :: rdOf B)) (Sy.Res.need (NodesR B iv ix ∧ List.length ix < (4398046511104 : Nat)) (Sy.Res.need z4 (Sy.Res.hyp True (Sy.Res.br (bif true then !placeF size base cells loc ix else false) (Sy.Res.leaf (Value.bool false, Blk.mk (Let.n (ns 3)) z3 true :: Blk.mk (Let.n (ns 2)) z0 true :: Blk.mk (Let.n (ns 1)) z1 true :: Blk.mk (Let.n (ns 0)) z2 true :: rdOf B)) (Sy.Res.need (∃ (p : Option Addr), ∃ (n : Nat), ∃ (c : Nat), ev = Value.slice p n c) (Sy.Res.br (!true == Ex.ltQ (0 : Int) (Int.ofNat (Sy.lenS ev))) (Sy.Res.leaf (Value.bool false, Blk.mk (Let.n (ns 3)) z3 true :: Blk.mk (Let.n (ns 2)) z0 true :: Blk.mk (Let.n (ns 1)) z1 true :: Blk.mk (Let.n (ns 0)) z2 true :: rdOf B)) (Sy.Res.need (∃ (p : Option Addr), ∃ (n : Nat), ∃ (c : Nat),
 fv = Value.slice p n c) (Sy.Res.br (!false == Ex.ltQ (0 : Int) (Int.ofNat (Sy.lenS fv))) (Sy.Res.leaf (Value.bool false, Blk.mk (Let.n (ns 3)) z3 true :: Blk.mk (Let.n (ns 2)) z0 true :: Blk.mk (Let.n (ns 1)) z1 true :: Blk.mk (Let.n (ns 0)) z2 true :: rdOf B)) (Sy.Res.need (NodesR B ev e ∧ List.length e < (4398046511104 : Nat)) (Sy.Res.need z4 (Sy.Res.hyp True (Sy.Res.br (bif true then !exprF loc e else false) (Sy.Res.leaf (Value.bool false, Blk.mk (Let.n (ns 3)) z3 true :: Blk.mk (Let.n (ns 2)) z0 true :: Blk.mk (Let.n (ns 1)) z1 true :: Blk.mk (Let.n (ns 0)) z2 true :: rdOf B)) (Sy.Res.br (bif true then !Ex.eqQ to (0 : Int) else false) (Sy.Res.leaf (Value.bool false, Blk.mk (Let.n (ns 3)) z3 true :: Blk.mk (Let.n (ns 2)) z0 true :: Blk.mk (Let.n (ns 1)) z1 true :: Blk.mk (Let.n (ns 0)) z2 true :: rdOf B)) (Sy.Res.leaf (Value.bool true, Blk.mk (Let.n (ns 3)) z3 true :: Blk.mk (Let.n (ns 2)) z0 true :: Blk.mk (Let.n (ns 1)) z1 true :: Blk.mk (Let.n (ns 0)) z2 true :: rdOf B)))))))))))))))))))))
theorem wac5_run (B : List (Nat × Sy.Cont)) (dst base size mode to line col : Int) (iv ev fv tv av : Value) (ix e f : List NodeD) (cells loc : Int) : Sy.Ran (Sy.inB Tryz.prog (ctxW B (5) dst base size mode to line col iv ev fv tv ix e f cells loc) 50 fAct #[.agg #[.int .i64 (5), .int .i64 dst, .int .i64 base, .int .i64 size, iv, ev, fv, .int .i64 mode, .int .i64 to, .int .i64 line, .int .i64 col], progV cells tv, thrV loc av] (rdOf B)) wac5_o (wac5_R B dst base size mode to line col iv ev fv tv av ix e f cells loc) := ⟨fun ns => by kernel_rfl, fun ns => by kernel_rfl⟩
def wac6_o : Sy.O := (Sy.O.pack 28 0x400000020000010000000020000000040 (Sy.O.fork Sy.O.nil (Sy.O.pack 20 0x300000000000040000040 (Sy.O.fork (Sy.O.pack 7 0x0 Sy.O.nil) (Sy.O.pack 11 0x800000c00 (Sy.O.fork (Sy.O.steps [0] Sy.O.nil) (Sy.O.pack 33 0x808100001000001000018000000000000000000 (Sy.O.fork (Sy.O.steps [0] Sy.O.nil) (Sy.O.pack 18 0x2018000000000000000000 (Sy.O.fork (Sy.O.steps [0] Sy.O.nil) (Sy.O.pack 7 0x40300000 (Sy.O.fork (Sy.O.steps [0] Sy.O.nil) (Sy.O.pack 20 0x404080000800000c0000000 (Sy.O.fork (Sy.O.steps [0] Sy.O.nil) (Sy.O.pack 20 0x404084000800000c0000000 (Sy.O.fork Sy.O.nil (Sy.O.pack 21 0x6000000000000000000000 (Sy.O.fork Sy.O.nil Sy.O.nil))))))))))))))))))
noncomputable def wac6_R (B : List (Nat × Sy.Cont)) (dst : Int) (base : Int) (size : Int) (mode : Int) (to : Int) (line : Int) (col : Int) (iv : Value) (ev : Value) (fv : Value) (tv : Value) (av : Value) (ix : List NodeD) (e : List NodeD) (f : List NodeD) (cells : Int) (loc : Int) (ns : Nat → Sy.Let) : Sy.Res (Value × List Blk) :=
 let z0 := (Sy.Cont.obj (Obj.cells (Array.mk [Value.int IntKind.i64 loc, av]) (40 : Nat)))
 let z1 := (Sy.Cont.obj (Obj.cells (Array.mk [Value.int IntKind.i64 cells, tv]) (24 : Nat)))
 let z2 := (Sy.Cont.obj (Obj.cells (Array.mk [Value.int IntKind.i64 (6 : Int), Value.int IntKind.i64 dst, Value.int IntKind.i64 base, Value.int IntKind.i64 size, iv, ev, fv, Value.int IntKind.i64 mode, Value.int IntKind.i64 to, Value.int IntKind.i64 line, Value.int IntKind.i64 col]) (46 : Nat)))
 let z3 := (Sy.Cont.obj (Obj.cells (Array.mk [Value.bool true, Value.bool true, Value.bool true, Value.bool true, Value.bool false]) (176 : Nat)))
 let z4 := (Sy.GotL (rdOf B) B)
 Sy.Res.need True (Sy.Res.hyp True (Sy.Res.br (bif false then true else !mayF (6 : Int) mode) (Sy.Res.leaf (Value.bool false, Blk.mk (Let.n (ns 2)) z0 true :: Blk.mk (Let.n (ns 1)) z1 true :: Blk.mk (Let.n (ns 0)) z2 true :: rdOf B)) (Sy.Res.need ((1 : Int) ≤ (6 : Int) ∧ (6 : Int) ≤ (10 : Int)) (Sy.Res.hyp True (Sy.Res.br (Ex.ltQ dst (0 : Int)) (Sy.Res.leaf (Value.bool false, Blk.mk (Let.n (ns 3)) z3 true :: Blk.mk (Let.n (ns 2)) z0 true :: Blk.mk (Let.n (ns 1)) z1 true :: Blk.mk (Let.n (ns 0)) z2 true :: rdOf B)) (Sy.Res.br (bif true then bif false then true else Ex.leQ loc dst else false) (Sy.Res.leaf (Value.bool false, Blk.mk (Let.n (ns 3)) z3 true :: Blk.mk (Let.n (ns 2)) z0 true :: Blk.mk (Let.n (ns 1)) z1 true :: Blk.mk (Let.n (ns 0)) z2 true :: rdOf B)) (Sy.Res.need (NodesR B iv ix ∧ List.length ix < (4398046511104 : Nat)) (Sy.Res.need z4 (Sy.Res.hyp True (Sy.Res.br (bif true then !placeF size base cells loc ix else false) (Sy.Res.leaf (Value.bool false, Blk.mk (Let.n (ns 3)) z3 true :: Blk.mk (Let.n (ns 2)) z0 true :: Blk.mk (Let.n (ns 1)) z1 true :: Blk.mk (Let.n (ns 0)) z2 true :: rdOf B)) (Sy.Res.need (∃ (p : Option Addr), ∃ (n : Nat), ∃ (c : Nat), ev = Value.slice p n c) (Sy.Res.br (!true == Ex.ltQ (0 : Int) (Int.ofNat (Sy.lenS ev))) (Sy.Res.leaf (Value.bool false, Blk.mk (Let.n (ns 3)) z3 true :: Blk.mk (Let.n (ns 2)) z0 true :: Blk.mk (Let.n (ns 1)) z1 true :: Blk.mk (Let.n (ns 0)) z2 true :: rdOf B)) (Sy.Res.need (∃ (p : Option Addr), ∃ (n : Nat), ∃ (c : Nat),
 fv = Value.slice p n c) (Sy.Res.br (!true == Ex.ltQ (0 : Int) (Int.ofNat (Sy.lenS fv))) (Sy.Res.leaf (Value.bool false, Blk.mk (Let.n (ns 3)) z3 true :: Blk.mk (Let.n (ns 2)) z0 true :: Blk.mk (Let.n (ns 1)) z1 true :: Blk.mk (Let.n (ns 0)) z2 true :: rdOf B)) (Sy.Res.need (NodesR B ev e ∧ List.length e < (4398046511104 : Nat)) (Sy.Res.need z4 (Sy.Res.hyp True (Sy.Res.br (bif true then !exprF loc e else false) (Sy.Res.leaf (Value.bool false, Blk.mk (Let.n (ns 3)) z3 true :: Blk.mk (Let.n (ns 2)) z0 true :: Blk.mk (Let.n (ns 1)) z1 true :: Blk.mk (Let.n (ns 0)) z2 true :: rdOf B)) (Sy.Res.need (NodesR B fv f ∧ List.length f < (4398046511104 : Nat)) (Sy.Res.need z4 (Sy.Res.hyp True (Sy.Res.br (bif true then !exprF loc f else false) (Sy.Res.leaf (Value.bool false, Blk.mk (Let.n (ns 3)) z3 true :: Blk.mk (Let.n (ns 2)) z0 true :: Blk.mk (Let.n (ns 1)) z1 true :: Blk.mk (Let.n (ns 0)) z2 true :: rdOf B)) (Sy.Res.br (bif true then !Ex.eqQ to (0 : Int) else false) (Sy.Res.leaf (Value.bool false, Blk.mk (Let.n (ns 3)) z3 true :: Blk.mk (Let.n (ns 2)) z0 true :: Blk.mk (Let.n (ns 1)) z1 true :: Blk.mk (Let.n (ns 0)) z2 true :: rdOf B)) (Sy.Res.leaf (Value.bool true, Blk.mk (Let.n (ns 3)) z3 true :: Blk.mk (Let.n (ns 2)) z0 true :: Blk.mk (Let.n (ns 1)) z1 true :: Blk.mk (Let.n (ns 0)) z2 true :: rdOf B)))))))))))))))))))))))))
theorem wac6_run (B : List (Nat × Sy.Cont)) (dst base size mode to line col : Int) (iv ev fv tv av : Value) (ix e f : List NodeD) (cells loc : Int) : Sy.Ran (Sy.inB Tryz.prog (ctxW B (6) dst base size mode to line col iv ev fv tv ix e f cells loc) 50 fAct #[.agg #[.int .i64 (6), .int .i64 dst, .int .i64 base, .int .i64 size, iv, ev, fv, .int .i64 mode, .int .i64 to, .int .i64 line, .int .i64 col], progV cells tv, thrV loc av] (rdOf B)) wac6_o (wac6_R B dst base size mode to line col iv ev fv tv av ix e f cells loc) := ⟨fun ns => by kernel_rfl, fun ns => by kernel_rfl⟩
def wac7_o : Sy.O := (Sy.O.pack 28 0x400000020000010000000020000000040 (Sy.O.fork Sy.O.nil (Sy.O.pack 31 0x18000000000000000000000000040000040 (Sy.O.fork Sy.O.nil (Sy.O.pack 20 0x300000000000000000000 (Sy.O.fork (Sy.O.pack 10 0x0 Sy.O.nil) (Sy.O.pack 7 0xc00 (Sy.O.fork (Sy.O.pack 5 0x0 Sy.O.nil) (Sy.O.pack 8 0x2000c00 (Sy.O.fork Sy.O.nil (Sy.O.pack 7 0x40300000 (Sy.O.fork (Sy.O.steps [0] Sy.O.nil) (Sy.O.pack 7 0x40300000 (Sy.O.fork (Sy.O.steps [0] Sy.O.nil) (Sy.O.pack 41 0x60000000000000000000000000000000000000000000000 (Sy.O.fork Sy.O.nil Sy.O.nil))))))))))))))))
noncomputable def wac7_R (B : List (Nat × Sy.Cont)) (dst : Int) (base : Int) (size : Int) (mode : Int) (to : Int) (line : Int) (col : Int) (iv : Value) (ev : Value) (fv : Value) (tv : Value) (av : Value) (ix : List NodeD) (e : List NodeD) (f : List NodeD) (cells : Int) (loc : Int) (ns : Nat → Sy.Let) : Sy.Res (Value × List Blk) :=
 let z0 := (Sy.Cont.obj (Obj.cells (Array.mk [Value.int IntKind.i64 loc, av]) (40 : Nat)))
 let z1 := (Sy.Cont.obj (Obj.cells (Array.mk [Value.int IntKind.i64 cells, tv]) (24 : Nat)))
 let z2 := (Sy.Cont.obj (Obj.cells (Array.mk [Value.int IntKind.i64 (7 : Int), Value.int IntKind.i64 dst, Value.int IntKind.i64 base, Value.int IntKind.i64 size, iv, ev, fv, Value.int IntKind.i64 mode, Value.int IntKind.i64 to, Value.int IntKind.i64 line, Value.int IntKind.i64 col]) (46 : Nat)))
 let z3 := (Sy.Cont.obj (Obj.cells (Array.mk [Value.bool false, Value.bool false, Value.bool false, Value.bool false, Value.bool false]) (176 : Nat)))
 Sy.Res.need True (Sy.Res.hyp True (Sy.Res.br (bif false then true else !mayF (7 : Int) mode) (Sy.Res.leaf (Value.bool false, Blk.mk (Let.n (ns 2)) z0 true :: Blk.mk (Let.n (ns 1)) z1 true :: Blk.mk (Let.n (ns 0)) z2 true :: rdOf B)) (Sy.Res.need ((1 : Int) ≤ (7 : Int) ∧ (7 : Int) ≤ (10 : Int)) (Sy.Res.hyp True (Sy.Res.br (bif true then !Ex.eqQ dst (0 : Int) else false) (Sy.Res.leaf (Value.bool false, Blk.mk (Let.n (ns 3)) z3 true :: Blk.mk (Let.n (ns 2)) z0 true :: Blk.mk (Let.n (ns 1)) z1 true :: Blk.mk (Let.n (ns 0)) z2 true :: rdOf B)) (Sy.Res.br (!Ex.eqQ base (0 : Int)) (Sy.Res.leaf (Value.bool false, Blk.mk (Let.n (ns 3)) z3 true :: Blk.mk (Let.n (ns 2)) z0 true :: Blk.mk (Let.n (ns 1)) z1 true :: Blk.mk (Let.n (ns 0)) z2 true :: rdOf B)) (Sy.Res.br (bif false then true else !Ex.eqQ size (0 : Int)) (Sy.Res.leaf (Value.bool false, Blk.mk (Let.n (ns 3)) z3 true :: Blk.mk (Let.n (ns 2)) z0 true :: Blk.mk (Let.n (ns 1)) z1 true :: Blk.mk (Let.n (ns 0)) z2 true :: rdOf B)) (Sy.Res.need (∃ (p : Option Addr), ∃ (n : Nat), ∃ (c : Nat), iv = Value.slice p n c) (Sy.Res.br (bif true then bif false then true else Ex.ltQ (0 : Int) (Int.ofNat (Sy.lenS iv)) else false) (Sy.Res.leaf (Value.bool false, Blk.mk (Let.n (ns 3)) z3 true :: Blk.mk (Let.n (ns 2)) z0 true :: Blk.mk (Let.n (ns 1)) z1 true :: Blk.mk (Let.n (ns 0)) z2 true :: rdOf B)) (Sy.Res.need (∃ (p : Option Addr), ∃ (n : Nat), ∃ (c : Nat), ev = Value.slice p n c) (Sy.Res.br (!false == Ex.ltQ (0 : Int) (Int.ofNat (Sy.lenS ev)))
 (Sy.Res.leaf (Value.bool false, Blk.mk (Let.n (ns 3)) z3 true :: Blk.mk (Let.n (ns 2)) z0 true :: Blk.mk (Let.n (ns 1)) z1 true :: Blk.mk (Let.n (ns 0)) z2 true :: rdOf B)) (Sy.Res.need (∃ (p : Option Addr), ∃ (n : Nat), ∃ (c : Nat), fv = Value.slice p n c) (Sy.Res.br (!false == Ex.ltQ (0 : Int) (Int.ofNat (Sy.lenS fv))) (Sy.Res.leaf (Value.bool false, Blk.mk (Let.n (ns 3)) z3 true :: Blk.mk (Let.n (ns 2)) z0 true :: Blk.mk (Let.n (ns 1)) z1 true :: Blk.mk (Let.n (ns 0)) z2 true :: rdOf B)) (Sy.Res.br (bif true then !Ex.eqQ to (0 : Int) else false) (Sy.Res.leaf (Value.bool false, Blk.mk (Let.n (ns 3)) z3 true :: Blk.mk (Let.n (ns 2)) z0 true :: Blk.mk (Let.n (ns 1)) z1 true :: Blk.mk (Let.n (ns 0)) z2 true :: rdOf B)) (Sy.Res.leaf (Value.bool true, Blk.mk (Let.n (ns 3)) z3 true :: Blk.mk (Let.n (ns 2)) z0 true :: Blk.mk (Let.n (ns 1)) z1 true :: Blk.mk (Let.n (ns 0)) z2 true :: rdOf B))))))))))))))))
theorem wac7_run (B : List (Nat × Sy.Cont)) (dst base size mode to line col : Int) (iv ev fv tv av : Value) (ix e f : List NodeD) (cells loc : Int) : Sy.Ran (Sy.inB Tryz.prog (ctxW B (7) dst base size mode to line col iv ev fv tv ix e f cells loc) 50 fAct #[.agg #[.int .i64 (7), .int .i64 dst, .int .i64 base, .int .i64 size, iv, ev, fv, .int .i64 mode, .int .i64 to, .int .i64 line, .int .i64 col], progV cells tv, thrV loc av] (rdOf B)) wac7_o (wac7_R B dst base size mode to line col iv ev fv tv av ix e f cells loc) := ⟨fun ns => by kernel_rfl, fun ns => by kernel_rfl⟩
def wac8_o : Sy.O := (Sy.O.pack 28 0x400000020000010000000020000000040 (Sy.O.fork Sy.O.nil (Sy.O.pack 31 0x18000000000000000000000000040000040 (Sy.O.fork Sy.O.nil (Sy.O.pack 20 0x300000000000000000000 (Sy.O.fork (Sy.O.pack 10 0x0 Sy.O.nil) (Sy.O.pack 7 0xc00 (Sy.O.fork (Sy.O.pack 5 0x0 Sy.O.nil) (Sy.O.pack 8 0x2000c00 (Sy.O.fork Sy.O.nil (Sy.O.pack 7 0x40300000 (Sy.O.fork (Sy.O.steps [0] Sy.O.nil) (Sy.O.pack 7 0x40300000 (Sy.O.fork (Sy.O.steps [0] Sy.O.nil) (Sy.O.pack 20 0x404080000800000c0000000 (Sy.O.fork (Sy.O.steps [0] Sy.O.nil) (Sy.O.pack 31 0x18000000000000000000000000000000000 (Sy.O.fork Sy.O.nil Sy.O.nil))))))))))))))))))
noncomputable def wac8_R (B : List (Nat × Sy.Cont)) (dst : Int) (base : Int) (size : Int) (mode : Int) (to : Int) (line : Int) (col : Int) (iv : Value) (ev : Value) (fv : Value) (tv : Value) (av : Value) (ix : List NodeD) (e : List NodeD) (f : List NodeD) (cells : Int) (loc : Int) (ns : Nat → Sy.Let) : Sy.Res (Value × List Blk) :=
 let z0 := (Sy.Cont.obj (Obj.cells (Array.mk [Value.int IntKind.i64 loc, av]) (40 : Nat)))
 let z1 := (Sy.Cont.obj (Obj.cells (Array.mk [Value.int IntKind.i64 cells, tv]) (24 : Nat)))
 let z2 := (Sy.Cont.obj (Obj.cells (Array.mk [Value.int IntKind.i64 (8 : Int), Value.int IntKind.i64 dst, Value.int IntKind.i64 base, Value.int IntKind.i64 size, iv, ev, fv, Value.int IntKind.i64 mode, Value.int IntKind.i64 to, Value.int IntKind.i64 line, Value.int IntKind.i64 col]) (46 : Nat)))
 let z3 := (Sy.Cont.obj (Obj.cells (Array.mk [Value.bool false, Value.bool false, Value.bool true, Value.bool false, Value.bool false]) (176 : Nat)))
 Sy.Res.need True (Sy.Res.hyp True (Sy.Res.br (bif false then true else !mayF (8 : Int) mode) (Sy.Res.leaf (Value.bool false, Blk.mk (Let.n (ns 2)) z0 true :: Blk.mk (Let.n (ns 1)) z1 true :: Blk.mk (Let.n (ns 0)) z2 true :: rdOf B)) (Sy.Res.need ((1 : Int) ≤ (8 : Int) ∧ (8 : Int) ≤ (10 : Int)) (Sy.Res.hyp True (Sy.Res.br (bif true then !Ex.eqQ dst (0 : Int) else false) (Sy.Res.leaf (Value.bool false, Blk.mk (Let.n (ns 3)) z3 true :: Blk.mk (Let.n (ns 2)) z0 true :: Blk.mk (Let.n (ns 1)) z1 true :: Blk.mk (Let.n (ns 0)) z2 true :: rdOf B)) (Sy.Res.br (!Ex.eqQ base (0 : Int)) (Sy.Res.leaf (Value.bool false, Blk.mk (Let.n (ns 3)) z3 true :: Blk.mk (Let.n (ns 2)) z0 true :: Blk.mk (Let.n (ns 1)) z1 true :: Blk.mk (Let.n (ns 0)) z2 true :: rdOf B)) (Sy.Res.br (bif false then true else !Ex.eqQ size (0 : Int)) (Sy.Res.leaf (Value.bool false, Blk.mk (Let.n (ns 3)) z3 true :: Blk.mk (Let.n (ns 2)) z0 true :: Blk.mk (Let.n (ns 1)) z1 true :: Blk.mk (Let.n (ns 0)) z2 true :: rdOf B)) (Sy.Res.need (∃ (p : Option Addr), ∃ (n : Nat), ∃ (c : Nat), iv = Value.slice p n c) (Sy.Res.br (bif true then bif false then true else Ex.ltQ (0 : Int) (Int.ofNat (Sy.lenS iv)) else false) (Sy.Res.leaf (Value.bool false, Blk.mk (Let.n (ns 3)) z3 true :: Blk.mk (Let.n (ns 2)) z0 true :: Blk.mk (Let.n (ns 1)) z1 true :: Blk.mk (Let.n (ns 0)) z2 true :: rdOf B)) (Sy.Res.need (∃ (p : Option Addr), ∃ (n : Nat), ∃ (c : Nat), ev = Value.slice p n c) (Sy.Res.br (!true == Ex.ltQ (0 : Int) (Int.ofNat (Sy.lenS ev)))
 (Sy.Res.leaf (Value.bool false, Blk.mk (Let.n (ns 3)) z3 true :: Blk.mk (Let.n (ns 2)) z0 true :: Blk.mk (Let.n (ns 1)) z1 true :: Blk.mk (Let.n (ns 0)) z2 true :: rdOf B)) (Sy.Res.need (∃ (p : Option Addr), ∃ (n : Nat), ∃ (c : Nat), fv = Value.slice p n c) (Sy.Res.br (!false == Ex.ltQ (0 : Int) (Int.ofNat (Sy.lenS fv))) (Sy.Res.leaf (Value.bool false, Blk.mk (Let.n (ns 3)) z3 true :: Blk.mk (Let.n (ns 2)) z0 true :: Blk.mk (Let.n (ns 1)) z1 true :: Blk.mk (Let.n (ns 0)) z2 true :: rdOf B)) (Sy.Res.need (NodesR B ev e ∧ List.length e < (4398046511104 : Nat)) (Sy.Res.need (Sy.GotL (rdOf B) B) (Sy.Res.hyp True (Sy.Res.br (bif true then !exprF loc e else false) (Sy.Res.leaf (Value.bool false, Blk.mk (Let.n (ns 3)) z3 true :: Blk.mk (Let.n (ns 2)) z0 true :: Blk.mk (Let.n (ns 1)) z1 true :: Blk.mk (Let.n (ns 0)) z2 true :: rdOf B)) (Sy.Res.br (bif true then !Ex.eqQ to (0 : Int) else false) (Sy.Res.leaf (Value.bool false, Blk.mk (Let.n (ns 3)) z3 true :: Blk.mk (Let.n (ns 2)) z0 true :: Blk.mk (Let.n (ns 1)) z1 true :: Blk.mk (Let.n (ns 0)) z2 true :: rdOf B)) (Sy.Res.leaf (Value.bool true, Blk.mk (Let.n (ns 3)) z3 true :: Blk.mk (Let.n (ns 2)) z0 true :: Blk.mk (Let.n (ns 1)) z1 true :: Blk.mk (Let.n (ns 0)) z2 true :: rdOf B))))))))))))))))))))
theorem wac8_run (B : List (Nat × Sy.Cont)) (dst base size mode to line col : Int) (iv ev fv tv av : Value) (ix e f : List NodeD) (cells loc : Int) : Sy.Ran (Sy.inB Tryz.prog (ctxW B (8) dst base size mode to line col iv ev fv tv ix e f cells loc) 50 fAct #[.agg #[.int .i64 (8), .int .i64 dst, .int .i64 base, .int .i64 size, iv, ev, fv, .int .i64 mode, .int .i64 to, .int .i64 line, .int .i64 col], progV cells tv, thrV loc av] (rdOf B)) wac8_o (wac8_R B dst base size mode to line col iv ev fv tv av ix e f cells loc) := ⟨fun ns => by kernel_rfl, fun ns => by kernel_rfl⟩
def wac9_o : Sy.O := (Sy.O.pack 28 0x400000020000010000000020000000040 (Sy.O.fork Sy.O.nil (Sy.O.pack 31 0x18000000000000000000000000040000040 (Sy.O.fork Sy.O.nil (Sy.O.pack 20 0x300000000000000000000 (Sy.O.fork (Sy.O.pack 10 0x0 Sy.O.nil) (Sy.O.pack 7 0xc00 (Sy.O.fork (Sy.O.pack 5 0x0 Sy.O.nil) (Sy.O.pack 8 0x2000c00 (Sy.O.fork Sy.O.nil (Sy.O.pack 7 0x40300000 (Sy.O.fork (Sy.O.steps [0] Sy.O.nil) (Sy.O.pack 7 0x40300000 (Sy.O.fork (Sy.O.steps [0] Sy.O.nil) (Sy.O.pack 30 0xc00000000000000000000000000000000 (Sy.O.fork (Sy.O.pack 8 0x0 Sy.O.nil) (Sy.O.pack 13 0x4000800000c00 (Sy.O.fork (Sy.O.steps [0] Sy.O.nil) (Sy.O.pack 10 0x0 Sy.O.nil)))))))))))))))))))
noncomputable def wac9_R (B : List (Nat × Sy.Cont)) (dst : Int) (base : Int) (size : Int) (mode : Int) (to : Int) (line : Int) (col : Int) (iv : Value) (ev : Value) (fv : Value) (tv : Value) (av : Value) (ix : List NodeD) (e : List NodeD) (f : List NodeD) (cells : Int) (loc : Int) (ns : Nat → Sy.Let) : Sy.Res (Value × List Blk) :=
 let z0 := (Sy.Cont.obj (Obj.cells (Array.mk [Value.int IntKind.i64 loc, av]) (40 : Nat)))
 let z1 := (Sy.Cont.obj (Obj.cells (Array.mk [Value.int IntKind.i64 cells, tv]) (24 : Nat)))
 let z2 := (Sy.Cont.obj (Obj.cells (Array.mk [Value.int IntKind.i64 (9 : Int), Value.int IntKind.i64 dst, Value.int IntKind.i64 base, Value.int IntKind.i64 size, iv, ev, fv, Value.int IntKind.i64 mode, Value.int IntKind.i64 to, Value.int IntKind.i64 line, Value.int IntKind.i64 col]) (46 : Nat)))
 let z3 := (Sy.Cont.obj (Obj.cells (Array.mk [Value.bool false, Value.bool false, Value.bool false, Value.bool false, Value.bool true]) (176 : Nat)))
 Sy.Res.need True (Sy.Res.hyp True (Sy.Res.br (bif false then true else !mayF (9 : Int) mode) (Sy.Res.leaf (Value.bool false, Blk.mk (Let.n (ns 2)) z0 true :: Blk.mk (Let.n (ns 1)) z1 true :: Blk.mk (Let.n (ns 0)) z2 true :: rdOf B)) (Sy.Res.need ((1 : Int) ≤ (9 : Int) ∧ (9 : Int) ≤ (10 : Int)) (Sy.Res.hyp True (Sy.Res.br (bif true then !Ex.eqQ dst (0 : Int) else false) (Sy.Res.leaf (Value.bool false, Blk.mk (Let.n (ns 3)) z3 true :: Blk.mk (Let.n (ns 2)) z0 true :: Blk.mk (Let.n (ns 1)) z1 true :: Blk.mk (Let.n (ns 0)) z2 true :: rdOf B)) (Sy.Res.br (!Ex.eqQ base (0 : Int)) (Sy.Res.leaf (Value.bool false, Blk.mk (Let.n (ns 3)) z3 true :: Blk.mk (Let.n (ns 2)) z0 true :: Blk.mk (Let.n (ns 1)) z1 true :: Blk.mk (Let.n (ns 0)) z2 true :: rdOf B)) (Sy.Res.br (bif false then true else !Ex.eqQ size (0 : Int)) (Sy.Res.leaf (Value.bool false, Blk.mk (Let.n (ns 3)) z3 true :: Blk.mk (Let.n (ns 2)) z0 true :: Blk.mk (Let.n (ns 1)) z1 true :: Blk.mk (Let.n (ns 0)) z2 true :: rdOf B)) (Sy.Res.need (∃ (p : Option Addr), ∃ (n : Nat), ∃ (c : Nat), iv = Value.slice p n c) (Sy.Res.br (bif true then bif false then true else Ex.ltQ (0 : Int) (Int.ofNat (Sy.lenS iv)) else false) (Sy.Res.leaf (Value.bool false, Blk.mk (Let.n (ns 3)) z3 true :: Blk.mk (Let.n (ns 2)) z0 true :: Blk.mk (Let.n (ns 1)) z1 true :: Blk.mk (Let.n (ns 0)) z2 true :: rdOf B)) (Sy.Res.need (∃ (p : Option Addr), ∃ (n : Nat), ∃ (c : Nat), ev = Value.slice p n c) (Sy.Res.br (!false == Ex.ltQ (0 : Int) (Int.ofNat (Sy.lenS ev)))
 (Sy.Res.leaf (Value.bool false, Blk.mk (Let.n (ns 3)) z3 true :: Blk.mk (Let.n (ns 2)) z0 true :: Blk.mk (Let.n (ns 1)) z1 true :: Blk.mk (Let.n (ns 0)) z2 true :: rdOf B)) (Sy.Res.need (∃ (p : Option Addr), ∃ (n : Nat), ∃ (c : Nat), fv = Value.slice p n c) (Sy.Res.br (!false == Ex.ltQ (0 : Int) (Int.ofNat (Sy.lenS fv))) (Sy.Res.leaf (Value.bool false, Blk.mk (Let.n (ns 3)) z3 true :: Blk.mk (Let.n (ns 2)) z0 true :: Blk.mk (Let.n (ns 1)) z1 true :: Blk.mk (Let.n (ns 0)) z2 true :: rdOf B)) (Sy.Res.br (Ex.ltQ to (0 : Int)) (Sy.Res.leaf (Value.bool false, Blk.mk (Let.n (ns 3)) z3 true :: Blk.mk (Let.n (ns 2)) z0 true :: Blk.mk (Let.n (ns 1)) z1 true :: Blk.mk (Let.n (ns 0)) z2 true :: rdOf B)) (Sy.Res.need (∃ (p : Option Addr), ∃ (n : Nat), ∃ (c : Nat), av = Value.slice p n c) (Sy.Res.br (bif true then bif false then true else Ex.ltQ (Int.ofNat (Sy.lenS av)) to else false) (Sy.Res.leaf (Value.bool false, Blk.mk (Let.n (ns 3)) z3 true :: Blk.mk (Let.n (ns 2)) z0 true :: Blk.mk (Let.n (ns 1)) z1 true :: Blk.mk (Let.n (ns 0)) z2 true :: rdOf B)) (Sy.Res.leaf (Value.bool true, Blk.mk (Let.n (ns 3)) z3 true :: Blk.mk (Let.n (ns 2)) z0 true :: Blk.mk (Let.n (ns 1)) z1 true :: Blk.mk (Let.n (ns 0)) z2 true :: rdOf B))))))))))))))))))
theorem wac9_run (B : List (Nat × Sy.Cont)) (dst base size mode to line col : Int) (iv ev fv tv av : Value) (ix e f : List NodeD) (cells loc : Int) : Sy.Ran (Sy.inB Tryz.prog (ctxW B (9) dst base size mode to line col iv ev fv tv ix e f cells loc) 50 fAct #[.agg #[.int .i64 (9), .int .i64 dst, .int .i64 base, .int .i64 size, iv, ev, fv, .int .i64 mode, .int .i64 to, .int .i64 line, .int .i64 col], progV cells tv, thrV loc av] (rdOf B)) wac9_o (wac9_R B dst base size mode to line col iv ev fv tv av ix e f cells loc) := ⟨fun ns => by kernel_rfl, fun ns => by kernel_rfl⟩
def wac10_o : Sy.O := (Sy.O.pack 28 0x400000020000010000000020000000040 (Sy.O.fork Sy.O.nil (Sy.O.pack 31 0x18000000000000000000000000040000040 (Sy.O.fork Sy.O.nil (Sy.O.pack 20 0x300000000000000000000 (Sy.O.fork (Sy.O.pack 10 0x0 Sy.O.nil) (Sy.O.pack 7 0xc00 (Sy.O.fork (Sy.O.pack 5 0x0 Sy.O.nil) (Sy.O.pack 8 0x2000c00 (Sy.O.fork Sy.O.nil (Sy.O.pack 7 0x40300000 (Sy.O.fork (Sy.O.steps [0] Sy.O.nil) (Sy.O.pack 7 0x40300000 (Sy.O.fork (Sy.O.steps [0] Sy.O.nil) (Sy.O.pack 20 0x404080000800000c0000000 (Sy.O.fork (Sy.O.steps [0] Sy.O.nil) (Sy.O.pack 20 0x300000000000000000000 (Sy.O.fork (Sy.O.pack 8 0x0 Sy.O.nil) (Sy.O.pack 13 0x4000800000c00 (Sy.O.fork (Sy.O.steps [0] Sy.O.nil) (Sy.O.pack 10 0x0 Sy.O.nil)))))))))))))))))))))
noncomputable def wac10_R (B : List (Nat × Sy.Cont)) (dst : Int) (base : Int) (size : Int) (mode : Int) (to : Int) (line : Int) (col : Int) (iv : Value) (ev : Value) (fv : Value) (tv : Value) (av : Value) (ix : List NodeD) (e : List NodeD) (f : List NodeD) (cells : Int) (loc : Int) (ns : Nat → Sy.Let) : Sy.Res (Value × List Blk) :=
 let z0 := (Sy.Cont.obj (Obj.cells (Array.mk [Value.int IntKind.i64 loc, av]) (40 : Nat)))
 let z1 := (Sy.Cont.obj (Obj.cells (Array.mk [Value.int IntKind.i64 cells, tv]) (24 : Nat)))
 let z2 := (Sy.Cont.obj (Obj.cells (Array.mk [Value.int IntKind.i64 (10 : Int), Value.int IntKind.i64 dst, Value.int IntKind.i64 base, Value.int IntKind.i64 size, iv, ev, fv, Value.int IntKind.i64 mode, Value.int IntKind.i64 to, Value.int IntKind.i64 line, Value.int IntKind.i64 col]) (46 : Nat)))
 let z3 := (Sy.Cont.obj (Obj.cells (Array.mk [Value.bool false, Value.bool false, Value.bool true, Value.bool false, Value.bool true]) (176 : Nat)))
 Sy.Res.need True (Sy.Res.hyp True (Sy.Res.br (bif false then true else !mayF (10 : Int) mode) (Sy.Res.leaf (Value.bool false, Blk.mk (Let.n (ns 2)) z0 true :: Blk.mk (Let.n (ns 1)) z1 true :: Blk.mk (Let.n (ns 0)) z2 true :: rdOf B)) (Sy.Res.need ((1 : Int) ≤ (10 : Int) ∧ (10 : Int) ≤ (10 : Int)) (Sy.Res.hyp True (Sy.Res.br (bif true then !Ex.eqQ dst (0 : Int) else false) (Sy.Res.leaf (Value.bool false, Blk.mk (Let.n (ns 3)) z3 true :: Blk.mk (Let.n (ns 2)) z0 true :: Blk.mk (Let.n (ns 1)) z1 true :: Blk.mk (Let.n (ns 0)) z2 true :: rdOf B)) (Sy.Res.br (!Ex.eqQ base (0 : Int)) (Sy.Res.leaf (Value.bool false, Blk.mk (Let.n (ns 3)) z3 true :: Blk.mk (Let.n (ns 2)) z0 true :: Blk.mk (Let.n (ns 1)) z1 true :: Blk.mk (Let.n (ns 0)) z2 true :: rdOf B)) (Sy.Res.br (bif false then true else !Ex.eqQ size (0 : Int)) (Sy.Res.leaf (Value.bool false, Blk.mk (Let.n (ns 3)) z3 true :: Blk.mk (Let.n (ns 2)) z0 true :: Blk.mk (Let.n (ns 1)) z1 true :: Blk.mk (Let.n (ns 0)) z2 true :: rdOf B)) (Sy.Res.need (∃ (p : Option Addr), ∃ (n : Nat), ∃ (c : Nat), iv = Value.slice p n c) (Sy.Res.br (bif true then bif false then true else Ex.ltQ (0 : Int) (Int.ofNat (Sy.lenS iv)) else false) (Sy.Res.leaf (Value.bool false, Blk.mk (Let.n (ns 3)) z3 true :: Blk.mk (Let.n (ns 2)) z0 true :: Blk.mk (Let.n (ns 1)) z1 true :: Blk.mk (Let.n (ns 0)) z2 true :: rdOf B)) (Sy.Res.need (∃ (p : Option Addr), ∃ (n : Nat), ∃ (c : Nat), ev = Value.slice p n c) (Sy.Res.br (!true == Ex.ltQ (0 : Int) (Int.ofNat (Sy.lenS
 ev))) (Sy.Res.leaf (Value.bool false, Blk.mk (Let.n (ns 3)) z3 true :: Blk.mk (Let.n (ns 2)) z0 true :: Blk.mk (Let.n (ns 1)) z1 true :: Blk.mk (Let.n (ns 0)) z2 true :: rdOf B)) (Sy.Res.need (∃ (p : Option Addr), ∃ (n : Nat), ∃ (c : Nat), fv = Value.slice p n c) (Sy.Res.br (!false == Ex.ltQ (0 : Int) (Int.ofNat (Sy.lenS fv))) (Sy.Res.leaf (Value.bool false, Blk.mk (Let.n (ns 3)) z3 true :: Blk.mk (Let.n (ns 2)) z0 true :: Blk.mk (Let.n (ns 1)) z1 true :: Blk.mk (Let.n (ns 0)) z2 true :: rdOf B)) (Sy.Res.need (NodesR B ev e ∧ List.length e < (4398046511104 : Nat)) (Sy.Res.need (Sy.GotL (rdOf B) B) (Sy.Res.hyp True (Sy.Res.br (bif true then !exprF loc e else false) (Sy.Res.leaf (Value.bool false, Blk.mk (Let.n (ns 3)) z3 true :: Blk.mk (Let.n (ns 2)) z0 true :: Blk.mk (Let.n (ns 1)) z1 true :: Blk.mk (Let.n (ns 0)) z2 true :: rdOf B)) (Sy.Res.br (Ex.ltQ to (0 : Int)) (Sy.Res.leaf (Value.bool false, Blk.mk (Let.n (ns 3)) z3 true :: Blk.mk (Let.n (ns 2)) z0 true :: Blk.mk (Let.n (ns 1)) z1 true :: Blk.mk (Let.n (ns 0)) z2 true :: rdOf B)) (Sy.Res.need (∃ (p : Option Addr), ∃ (n : Nat), ∃ (c : Nat), av = Value.slice p n c) (Sy.Res.br (bif true then bif false then true else Ex.ltQ (Int.ofNat (Sy.lenS av)) to else false) (Sy.Res.leaf (Value.bool false, Blk.mk (Let.n (ns 3)) z3 true :: Blk.mk (Let.n (ns 2)) z0 true :: Blk.mk (Let.n (ns 1)) z1 true :: Blk.mk (Let.n (ns 0)) z2 true :: rdOf B)) (Sy.Res.leaf (Value.bool true, Blk.mk (Let.n (ns 3)) z3 true :: Blk.mk (Let.n (ns 2)) z0 true
 :: Blk.mk (Let.n (ns 1)) z1 true :: Blk.mk (Let.n (ns 0)) z2 true :: rdOf B))))))))))))))))))))))
theorem wac10_run (B : List (Nat × Sy.Cont)) (dst base size mode to line col : Int) (iv ev fv tv av : Value) (ix e f : List NodeD) (cells loc : Int) : Sy.Ran (Sy.inB Tryz.prog (ctxW B (10) dst base size mode to line col iv ev fv tv ix e f cells loc) 50 fAct #[.agg #[.int .i64 (10), .int .i64 dst, .int .i64 base, .int .i64 size, iv, ev, fv, .int .i64 mode, .int .i64 to, .int .i64 line, .int .i64 col], progV cells tv, thrV loc av] (rdOf B)) wac10_o (wac10_R B dst base size mode to line col iv ev fv tv av ix e f cells loc) := ⟨fun ns => by kernel_rfl, fun ns => by kernel_rfl⟩
def wac0_o : Sy.O := (Sy.O.pack 7 0x4008040 (Sy.O.fork (Sy.O.pack 6 0x0 Sy.O.nil) (Sy.O.pack 15 0x20000001000000800 (Sy.O.fork Sy.O.nil (Sy.O.pack 31 0x18000000000000000000000000040000040 (Sy.O.fork Sy.O.nil (Sy.O.pack 20 0x300000000000000000000 (Sy.O.fork (Sy.O.pack 10 0x0 Sy.O.nil) (Sy.O.pack 7 0xc00 (Sy.O.fork (Sy.O.pack 5 0x0 Sy.O.nil) (Sy.O.pack 8 0x2000c00 (Sy.O.fork Sy.O.nil (Sy.O.pack 7 0x40300000 (Sy.O.fork (Sy.O.steps [0] Sy.O.nil) (Sy.O.pack 7 0x40300000 (Sy.O.fork (Sy.O.steps [0] Sy.O.nil) (Sy.O.pack 41 0x60000000000000000000000000000000000000000000000 (Sy.O.fork Sy.O.nil Sy.O.nil))))))))))))))))))
noncomputable def wac0_R (B : List (Nat × Sy.Cont)) (op : Int) (dst : Int) (base : Int) (size : Int) (mode : Int) (to : Int) (line : Int) (col : Int) (iv : Value) (ev : Value) (fv : Value) (tv : Value) (av : Value) (cells : Int) (loc : Int) (ns : Nat → Sy.Let) : Sy.Res (Value × List Blk) :=
 let z0 := (Sy.Cont.obj (Obj.cells (Array.mk [Value.int IntKind.i64 loc, av]) (40 : Nat)))
 let z1 := (Sy.Cont.obj (Obj.cells (Array.mk [Value.int IntKind.i64 cells, tv]) (24 : Nat)))
 let z2 := (Sy.Cont.obj (Obj.cells (Array.mk [Value.int IntKind.i64 op, Value.int IntKind.i64 dst, Value.int IntKind.i64 base, Value.int IntKind.i64 size, iv, ev, fv, Value.int IntKind.i64 mode, Value.int IntKind.i64 to, Value.int IntKind.i64 line, Value.int IntKind.i64 col]) (46 : Nat)))
 let z3 := (Sy.Cont.obj (Obj.cells (Array.mk [Value.bool false, Value.bool false, Value.bool false, Value.bool false, Value.bool false]) (176 : Nat)))
 Sy.Res.br (bif Ex.ltQ op (1 : Int) then true else Ex.ltQ (10 : Int) op) (Sy.Res.leaf (Value.bool false, Blk.mk (Let.n (ns 2)) z0 true :: Blk.mk (Let.n (ns 1)) z1 true :: Blk.mk (Let.n (ns 0)) z2 true :: rdOf B)) (Sy.Res.need True (Sy.Res.hyp True (Sy.Res.br (bif false then true else !mayF op mode) (Sy.Res.leaf (Value.bool false, Blk.mk (Let.n (ns 2)) z0 true :: Blk.mk (Let.n (ns 1)) z1 true :: Blk.mk (Let.n (ns 0)) z2 true :: rdOf B)) (Sy.Res.need False (Sy.Res.hyp True (Sy.Res.br (bif true then !Ex.eqQ dst (0 : Int) else false) (Sy.Res.leaf (Value.bool false, Blk.mk (Let.n (ns 3)) z3 true :: Blk.mk (Let.n (ns 2)) z0 true :: Blk.mk (Let.n (ns 1)) z1 true :: Blk.mk (Let.n (ns 0)) z2 true :: rdOf B)) (Sy.Res.br (!Ex.eqQ base (0 : Int)) (Sy.Res.leaf (Value.bool false, Blk.mk (Let.n (ns 3)) z3 true :: Blk.mk (Let.n (ns 2)) z0 true :: Blk.mk (Let.n (ns 1)) z1 true :: Blk.mk (Let.n (ns 0)) z2 true :: rdOf B)) (Sy.Res.br (bif false then true else !Ex.eqQ size (0 : Int)) (Sy.Res.leaf (Value.bool false, Blk.mk (Let.n (ns 3)) z3 true :: Blk.mk (Let.n (ns 2)) z0 true :: Blk.mk (Let.n (ns 1)) z1 true :: Blk.mk (Let.n (ns 0)) z2 true :: rdOf B)) (Sy.Res.need (∃ (p : Option Addr), ∃ (n : Nat), ∃ (c : Nat), iv = Value.slice p n c) (Sy.Res.br (bif true then bif false then true else Ex.ltQ (0 : Int) (Int.ofNat (Sy.lenS iv)) else false) (Sy.Res.leaf (Value.bool false, Blk.mk (Let.n (ns 3)) z3 true :: Blk.mk (Let.n (ns 2)) z0 true :: Blk.mk (Let.n (ns 1)) z1 true :: Blk.mk (Let.n (ns 0)) z2
 true :: rdOf B)) (Sy.Res.need (∃ (p : Option Addr), ∃ (n : Nat), ∃ (c : Nat), ev = Value.slice p n c) (Sy.Res.br (!false == Ex.ltQ (0 : Int) (Int.ofNat (Sy.lenS ev))) (Sy.Res.leaf (Value.bool false, Blk.mk (Let.n (ns 3)) z3 true :: Blk.mk (Let.n (ns 2)) z0 true :: Blk.mk (Let.n (ns 1)) z1 true :: Blk.mk (Let.n (ns 0)) z2 true :: rdOf B)) (Sy.Res.need (∃ (p : Option Addr), ∃ (n : Nat), ∃ (c : Nat), fv = Value.slice p n c) (Sy.Res.br (!false == Ex.ltQ (0 : Int) (Int.ofNat (Sy.lenS fv))) (Sy.Res.leaf (Value.bool false, Blk.mk (Let.n (ns 3)) z3 true :: Blk.mk (Let.n (ns 2)) z0 true :: Blk.mk (Let.n (ns 1)) z1 true :: Blk.mk (Let.n (ns 0)) z2 true :: rdOf B)) (Sy.Res.br (bif true then !Ex.eqQ to (0 : Int) else false) (Sy.Res.leaf (Value.bool false, Blk.mk (Let.n (ns 3)) z3 true :: Blk.mk (Let.n (ns 2)) z0 true :: Blk.mk (Let.n (ns 1)) z1 true :: Blk.mk (Let.n (ns 0)) z2 true :: rdOf B)) (Sy.Res.leaf (Value.bool true, Blk.mk (Let.n (ns 3)) z3 true :: Blk.mk (Let.n (ns 2)) z0 true :: Blk.mk (Let.n (ns 1)) z1 true :: Blk.mk (Let.n (ns 0)) z2 true :: rdOf B)))))))))))))))))
theorem wac0_run (B : List (Nat × Sy.Cont)) (op dst base size mode to line col : Int) (iv ev fv tv av : Value) (cells loc : Int) : Sy.Ran (Sy.inB Tryz.prog (ctxV op mode) 50 fAct #[.agg #[.int .i64 op, .int .i64 dst, .int .i64 base, .int .i64 size, iv, ev, fv, .int .i64 mode, .int .i64 to, .int .i64 line, .int .i64 col], progV cells tv, thrV loc av] (rdOf B)) wac0_o (wac0_R B op dst base size mode to line col iv ev fv tv av cells loc) := ⟨fun ns => by kernel_rfl, fun ns => by kernel_rfl⟩
end Go.Proofs.YtlpcnaeknbmjdaaGreat

namespace Go.Proofs.YtlpcnaeknbmjdaaGreat
open Go Go.RowKit
open Sy (Let Blk HasL)
noncomputable def actF (cells loc : Int) (na : Nat) (a : ActD) : Bool :=
  decide (1 ≤ a.op ∧ a.op ≤ 10) && (mayF a.op a.mode && ((bif hasDst a.op then Ex.leQ 0 a.dst && Ex.ltQ a.dst loc else Ex.eqQ a.dst 0) &&
  ((bif hasPlace a.op then placeF a.size a.base cells loc a.ix else Ex.eqQ a.base 0 && (Ex.eqQ a.size 0 && decide (a.ix.length = 0))) &&
  ((hasE a.op == decide (0 < a.e.length)) && ((hasF a.op == decide (0 < a.f.length)) && ((bif hasE a.op then exprF loc a.e else true) && ((bif hasF a.op then exprF loc a.f else true) &&
  (bif hasTo a.op then Ex.leQ 0 a.to && Ex.leQ a.to (na : Int) else Ex.eqQ a.to 0))))))))
structure OkW (B : List (Nat × Sy.Cont)) (iv ev fv av : Value) (a : ActD) (na : Nat) : Prop where
  i : OkX B iv a.ix
  e : OkX B ev a.e
  f : OkX B fv a.f
  a : ∃ p n c, av = .slice p n c
  na : Sy.lenS av = na
noncomputable def actC (B : List (Nat × Sy.Cont)) (a : ActD) (iv ev fv tv av : Value) (cells loc : Int) (na : Nat) : Sy.CallC :=
  ⟨fAct, #[actV a iv ev fv, progV cells tv, thrV loc av], OkW B iv ev fv av a na, ⟨[], [], 0, B⟩, [Sy.plainO (.bool (actF cells loc na a))]⟩
theorem pos_len (n : Nat) : Ex.ltQ 0 (Int.ofNat n) = decide (0 < n) := by
  rw [Ex.ltQ_eq]
  by_cases h : 0 < n <;> simp [h]
theorem far_to (n : Nat) (t : Int) : Ex.ltQ (Int.ofNat n) t = !Ex.leQ t (n : Int) := by
  rw [Ex.ltQ_eq, Ex.leQ_eq]
  by_cases h : (n : Int) < t
  · have : ¬ t ≤ (n : Int) := by omega
    simp [h, this]
  · have : t ≤ (n : Int) := by omega
    simp [h, this]
theorem neg_to (t : Int) : Ex.ltQ t 0 = !Ex.leQ 0 t := by
  rw [Ex.ltQ_eq, Ex.leQ_eq]
  by_cases h : t < 0
  · have : ¬ 0 ≤ t := by omega
    simp [h, this]
  · have : 0 ≤ t := by omega
    simp [h, this]
theorem ge_to (l d : Int) : Ex.leQ l d = !Ex.ltQ d l := by
  rw [Ex.ltQ_eq, Ex.leQ_eq]
  by_cases h : d < l
  · have : ¬ l ≤ d := by omega
    simp [h, this]
  · have : l ≤ d := by omega
    simp [h, this]
theorem act1_met (B : List (Nat × Sy.Cont)) (a : ActD) (iv ev fv tv av : Value) (cells loc : Int) (na : Nat) (hk : a.op = 1) : Sy.Meets Tryz.prog (actC B a iv ev fv tv av cells loc na) := by
  obtain ⟨op, dst, base, size, ix, e, f, mode, to, line, col⟩ := a
  simp only at hk
  subst hk
  refine Sy.meets_ofB (ctxW_holds B 1 dst base size mode to line col iv ev fv tv ix e f cells loc) mixed (L := rdOf B) (Sy.Ent.refl _) (wac1_run B dst base size mode to line col iv ev fv tv av ix e f cells loc) fun hok ns => ?_
  obtain ⟨⟨hI, hil⟩, ⟨hE, hel⟩, ⟨hF, hfl⟩, hA, hna⟩ := hok
  simp only at hI hE hF hil hel hfl
  have leaf : ∀ b L, b = actF cells loc na ⟨1, dst, base, size, ix, e, f, mode, to, line, col⟩ → Sy.leafB (actC B ⟨1, dst, base, size, ix, e, f, mode, to, line, col⟩ iv ev fv tv av cells loc na) (.bool b, L) := fun b L h => plainB_leaf (List.mem_singleton_self _) rfl (by rw [h])
  have h1 : hasDst 1 = true := rfl
  have h2 : hasPlace 1 = false := rfl
  have h3 : hasE 1 = true := rfl
  have h4 : hasF 1 = false := rfl
  have h5 : hasTo 1 = false := rfl
  simp only [actF, h1, h2, h3, h4, h5] at leaf
  simp only [wac1_R, Sy.Res.holds, hI.len, hE.len, hF.len, hna, pos_len, far_to, neg_to, ge_to loc dst]
  repeat' (first | exact gotL_of (fun p hp => by simp [hp]) | apply And.intro | intro _)
  all_goals first
    | exact trivial
    | exact hI.sl
    | exact hE.sl
    | exact hF.sl
    | exact hA
    | exact hI
    | exact hE
    | exact hF
    | exact hil
    | exact hel
    | exact hfl
    | decide
    | skip
  all_goals
    refine leaf _ _ ?_
    simp_all <;> (intros; simp_all)
theorem act2_met (B : List (Nat × Sy.Cont)) (a : ActD) (iv ev fv tv av : Value) (cells loc : Int) (na : Nat) (hk : a.op = 2) : Sy.Meets Tryz.prog (actC B a iv ev fv tv av cells loc na) := by
  obtain ⟨op, dst, base, size, ix, e, f, mode, to, line, col⟩ := a
  simp only at hk
  subst hk
  refine Sy.meets_ofB (ctxW_holds B 2 dst base size mode to line col iv ev fv tv ix e f cells loc) mixed (L := rdOf B) (Sy.Ent.refl _) (wac2_run B dst base size mode to line col iv ev fv tv av ix e f cells loc) fun hok ns => ?_
  obtain ⟨⟨hI, hil⟩, ⟨hE, hel⟩, ⟨hF, hfl⟩, hA, hna⟩ := hok
  simp only at hI hE hF hil hel hfl
  have leaf : ∀ b L, b = actF cells loc na ⟨2, dst, base, size, ix, e, f, mode, to, line, col⟩ → Sy.leafB (actC B ⟨2, dst, base, size, ix, e, f, mode, to, line, col⟩ iv ev fv tv av cells loc na) (.bool b, L) := fun b L h => plainB_leaf (List.mem_singleton_self _) rfl (by rw [h])
  have h1 : hasDst 2 = true := rfl
  have h2 : hasPlace 2 = true := rfl
  have h3 : hasE 2 = false := rfl
  have h4 : hasF 2 = false := rfl
  have h5 : hasTo 2 = false := rfl
  simp only [actF, h1, h2, h3, h4, h5] at leaf
  simp only [wac2_R, Sy.Res.holds, hI.len, hE.len, hF.len, hna, pos_len, far_to, neg_to, ge_to loc dst]
  repeat' (first | exact gotL_of (fun p hp => by simp [hp]) | apply And.intro | intro _)
  all_goals first
    | exact trivial
    | exact hI.sl
    | exact hE.sl
    | exact hF.sl
    | exact hA
    | exact hI
    | exact hE
    | exact hF
    | exact hil
    | exact hel
    | exact hfl
    | decide
    | skip
  all_goals
    refine leaf _ _ ?_
    simp_all <;> (intros; simp_all)
theorem act3_met (B : List (Nat × Sy.Cont)) (a : ActD) (iv ev fv tv av : Value) (cells loc : Int) (na : Nat) (hk : a.op = 3) : Sy.Meets Tryz.prog (actC B a iv ev fv tv av cells loc na) := by
  obtain ⟨op, dst, base, size, ix, e, f, mode, to, line, col⟩ := a
  simp only at hk
  subst hk
  refine Sy.meets_ofB (ctxW_holds B 3 dst base size mode to line col iv ev fv tv ix e f cells loc) mixed (L := rdOf B) (Sy.Ent.refl _) (wac3_run B dst base size mode to line col iv ev fv tv av ix e f cells loc) fun hok ns => ?_
  obtain ⟨⟨hI, hil⟩, ⟨hE, hel⟩, ⟨hF, hfl⟩, hA, hna⟩ := hok
  simp only at hI hE hF hil hel hfl
  have leaf : ∀ b L, b = actF cells loc na ⟨3, dst, base, size, ix, e, f, mode, to, line, col⟩ → Sy.leafB (actC B ⟨3, dst, base, size, ix, e, f, mode, to, line, col⟩ iv ev fv tv av cells loc na) (.bool b, L) := fun b L h => plainB_leaf (List.mem_singleton_self _) rfl (by rw [h])
  have h1 : hasDst 3 = false := rfl
  have h2 : hasPlace 3 = true := rfl
  have h3 : hasE 3 = true := rfl
  have h4 : hasF 3 = false := rfl
  have h5 : hasTo 3 = false := rfl
  simp only [actF, h1, h2, h3, h4, h5] at leaf
  simp only [wac3_R, Sy.Res.holds, hI.len, hE.len, hF.len, hna, pos_len, far_to, neg_to, ge_to loc dst]
  repeat' (first | exact gotL_of (fun p hp => by simp [hp]) | apply And.intro | intro _)
  all_goals first
    | exact trivial
    | exact hI.sl
    | exact hE.sl
    | exact hF.sl
    | exact hA
    | exact hI
    | exact hE
    | exact hF
    | exact hil
    | exact hel
    | exact hfl
    | decide
    | skip
  all_goals
    refine leaf _ _ ?_
    simp_all <;> (intros; simp_all)
theorem act4_met (B : List (Nat × Sy.Cont)) (a : ActD) (iv ev fv tv av : Value) (cells loc : Int) (na : Nat) (hk : a.op = 4) : Sy.Meets Tryz.prog (actC B a iv ev fv tv av cells loc na) := by
  obtain ⟨op, dst, base, size, ix, e, f, mode, to, line, col⟩ := a
  simp only at hk
  subst hk
  refine Sy.meets_ofB (ctxW_holds B 4 dst base size mode to line col iv ev fv tv ix e f cells loc) mixed (L := rdOf B) (Sy.Ent.refl _) (wac4_run B dst base size mode to line col iv ev fv tv av ix e f cells loc) fun hok ns => ?_
  obtain ⟨⟨hI, hil⟩, ⟨hE, hel⟩, ⟨hF, hfl⟩, hA, hna⟩ := hok
  simp only at hI hE hF hil hel hfl
  have leaf : ∀ b L, b = actF cells loc na ⟨4, dst, base, size, ix, e, f, mode, to, line, col⟩ → Sy.leafB (actC B ⟨4, dst, base, size, ix, e, f, mode, to, line, col⟩ iv ev fv tv av cells loc na) (.bool b, L) := fun b L h => plainB_leaf (List.mem_singleton_self _) rfl (by rw [h])
  have h1 : hasDst 4 = true := rfl
  have h2 : hasPlace 4 = true := rfl
  have h3 : hasE 4 = true := rfl
  have h4 : hasF 4 = false := rfl
  have h5 : hasTo 4 = false := rfl
  simp only [actF, h1, h2, h3, h4, h5] at leaf
  simp only [wac4_R, Sy.Res.holds, hI.len, hE.len, hF.len, hna, pos_len, far_to, neg_to, ge_to loc dst]
  repeat' (first | exact gotL_of (fun p hp => by simp [hp]) | apply And.intro | intro _)
  all_goals first
    | exact trivial
    | exact hI.sl
    | exact hE.sl
    | exact hF.sl
    | exact hA
    | exact hI
    | exact hE
    | exact hF
    | exact hil
    | exact hel
    | exact hfl
    | decide
    | skip
  all_goals
    refine leaf _ _ ?_
    simp_all <;> (intros; simp_all)
theorem act5_met (B : List (Nat × Sy.Cont)) (a : ActD) (iv ev fv tv av : Value) (cells loc : Int) (na : Nat) (hk : a.op = 5) : Sy.Meets Tryz.prog (actC B a iv ev fv tv av cells loc na) := by
  obtain ⟨op, dst, base, size, ix, e, f, mode, to, line, col⟩ := a
  simp only at hk
  subst hk
  refine Sy.meets_ofB (ctxW_holds B 5 dst base size mode to line col iv ev fv tv ix e f cells loc) mixed (L := rdOf B) (Sy.Ent.refl _) (wac5_run B dst base size mode to line col iv ev fv tv av ix e f cells loc) fun hok ns => ?_
  obtain ⟨⟨hI, hil⟩, ⟨hE, hel⟩, ⟨hF, hfl⟩, hA, hna⟩ := hok
  simp only at hI hE hF hil hel hfl
  have leaf : ∀ b L, b = actF cells loc na ⟨5, dst, base, size, ix, e, f, mode, to, line, col⟩ → Sy.leafB (actC B ⟨5, dst, base, size, ix, e, f, mode, to, line, col⟩ iv ev fv tv av cells loc na) (.bool b, L) := fun b L h => plainB_leaf (List.mem_singleton_self _) rfl (by rw [h])
  have h1 : hasDst 5 = true := rfl
  have h2 : hasPlace 5 = true := rfl
  have h3 : hasE 5 = true := rfl
  have h4 : hasF 5 = false := rfl
  have h5 : hasTo 5 = false := rfl
  simp only [actF, h1, h2, h3, h4, h5] at leaf
  simp only [wac5_R, Sy.Res.holds, hI.len, hE.len, hF.len, hna, pos_len, far_to, neg_to, ge_to loc dst]
  repeat' (first | exact gotL_of (fun p hp => by simp [hp]) | apply And.intro | intro _)
  all_goals first
    | exact trivial
    | exact hI.sl
    | exact hE.sl
    | exact hF.sl
    | exact hA
    | exact hI
    | exact hE
    | exact hF
    | exact hil
    | exact hel
    | exact hfl
    | decide
    | skip
  all_goals
    refine leaf _ _ ?_
    simp_all <;> (intros; simp_all)
theorem act6_met (B : List (Nat × Sy.Cont)) (a : ActD) (iv ev fv tv av : Value) (cells loc : Int) (na : Nat) (hk : a.op = 6) : Sy.Meets Tryz.prog (actC B a iv ev fv tv av cells loc na) := by
  obtain ⟨op, dst, base, size, ix, e, f, mode, to, line, col⟩ := a
  simp only at hk
  subst hk
  refine Sy.meets_ofB (ctxW_holds B 6 dst base size mode to line col iv ev fv tv ix e f cells loc) mixed (L := rdOf B) (Sy.Ent.refl _) (wac6_run B dst base size mode to line col iv ev fv tv av ix e f cells loc) fun hok ns => ?_
  obtain ⟨⟨hI, hil⟩, ⟨hE, hel⟩, ⟨hF, hfl⟩, hA, hna⟩ := hok
  simp only at hI hE hF hil hel hfl
  have leaf : ∀ b L, b = actF cells loc na ⟨6, dst, base, size, ix, e, f, mode, to, line, col⟩ → Sy.leafB (actC B ⟨6, dst, base, size, ix, e, f, mode, to, line, col⟩ iv ev fv tv av cells loc na) (.bool b, L) := fun b L h => plainB_leaf (List.mem_singleton_self _) rfl (by rw [h])
  have h1 : hasDst 6 = true := rfl
  have h2 : hasPlace 6 = true := rfl
  have h3 : hasE 6 = true := rfl
  have h4 : hasF 6 = true := rfl
  have h5 : hasTo 6 = false := rfl
  simp only [actF, h1, h2, h3, h4, h5] at leaf
  simp only [wac6_R, Sy.Res.holds, hI.len, hE.len, hF.len, hna, pos_len, far_to, neg_to, ge_to loc dst]
  repeat' (first | exact gotL_of (fun p hp => by simp [hp]) | apply And.intro | intro _)
  all_goals first
    | exact trivial
    | exact hI.sl
    | exact hE.sl
    | exact hF.sl
    | exact hA
    | exact hI
    | exact hE
    | exact hF
    | exact hil
    | exact hel
    | exact hfl
    | decide
    | skip
  all_goals
    refine leaf _ _ ?_
    simp_all <;> (intros; simp_all)
theorem act7_met (B : List (Nat × Sy.Cont)) (a : ActD) (iv ev fv tv av : Value) (cells loc : Int) (na : Nat) (hk : a.op = 7) : Sy.Meets Tryz.prog (actC B a iv ev fv tv av cells loc na) := by
  obtain ⟨op, dst, base, size, ix, e, f, mode, to, line, col⟩ := a
  simp only at hk
  subst hk
  refine Sy.meets_ofB (ctxW_holds B 7 dst base size mode to line col iv ev fv tv ix e f cells loc) mixed (L := rdOf B) (Sy.Ent.refl _) (wac7_run B dst base size mode to line col iv ev fv tv av ix e f cells loc) fun hok ns => ?_
  obtain ⟨⟨hI, hil⟩, ⟨hE, hel⟩, ⟨hF, hfl⟩, hA, hna⟩ := hok
  simp only at hI hE hF hil hel hfl
  have leaf : ∀ b L, b = actF cells loc na ⟨7, dst, base, size, ix, e, f, mode, to, line, col⟩ → Sy.leafB (actC B ⟨7, dst, base, size, ix, e, f, mode, to, line, col⟩ iv ev fv tv av cells loc na) (.bool b, L) := fun b L h => plainB_leaf (List.mem_singleton_self _) rfl (by rw [h])
  have h1 : hasDst 7 = false := rfl
  have h2 : hasPlace 7 = false := rfl
  have h3 : hasE 7 = false := rfl
  have h4 : hasF 7 = false := rfl
  have h5 : hasTo 7 = false := rfl
  simp only [actF, h1, h2, h3, h4, h5] at leaf
  simp only [wac7_R, Sy.Res.holds, hI.len, hE.len, hF.len, hna, pos_len, far_to, neg_to, ge_to loc dst]
  repeat' (first | exact gotL_of (fun p hp => by simp [hp]) | apply And.intro | intro _)
  all_goals first
    | exact trivial
    | exact hI.sl
    | exact hE.sl
    | exact hF.sl
    | exact hA
    | exact hI
    | exact hE
    | exact hF
    | exact hil
    | exact hel
    | exact hfl
    | decide
    | skip
  all_goals
    refine leaf _ _ ?_
    simp_all <;> (intros; simp_all)
theorem act8_met (B : List (Nat × Sy.Cont)) (a : ActD) (iv ev fv tv av : Value) (cells loc : Int) (na : Nat) (hk : a.op = 8) : Sy.Meets Tryz.prog (actC B a iv ev fv tv av cells loc na) := by
  obtain ⟨op, dst, base, size, ix, e, f, mode, to, line, col⟩ := a
  simp only at hk
  subst hk
  refine Sy.meets_ofB (ctxW_holds B 8 dst base size mode to line col iv ev fv tv ix e f cells loc) mixed (L := rdOf B) (Sy.Ent.refl _) (wac8_run B dst base size mode to line col iv ev fv tv av ix e f cells loc) fun hok ns => ?_
  obtain ⟨⟨hI, hil⟩, ⟨hE, hel⟩, ⟨hF, hfl⟩, hA, hna⟩ := hok
  simp only at hI hE hF hil hel hfl
  have leaf : ∀ b L, b = actF cells loc na ⟨8, dst, base, size, ix, e, f, mode, to, line, col⟩ → Sy.leafB (actC B ⟨8, dst, base, size, ix, e, f, mode, to, line, col⟩ iv ev fv tv av cells loc na) (.bool b, L) := fun b L h => plainB_leaf (List.mem_singleton_self _) rfl (by rw [h])
  have h1 : hasDst 8 = false := rfl
  have h2 : hasPlace 8 = false := rfl
  have h3 : hasE 8 = true := rfl
  have h4 : hasF 8 = false := rfl
  have h5 : hasTo 8 = false := rfl
  simp only [actF, h1, h2, h3, h4, h5] at leaf
  simp only [wac8_R, Sy.Res.holds, hI.len, hE.len, hF.len, hna, pos_len, far_to, neg_to, ge_to loc dst]
  repeat' (first | exact gotL_of (fun p hp => by simp [hp]) | apply And.intro | intro _)
  all_goals first
    | exact trivial
    | exact hI.sl
    | exact hE.sl
    | exact hF.sl
    | exact hA
    | exact hI
    | exact hE
    | exact hF
    | exact hil
    | exact hel
    | exact hfl
    | decide
    | skip
  all_goals
    refine leaf _ _ ?_
    simp_all <;> (intros; simp_all)
theorem act9_met (B : List (Nat × Sy.Cont)) (a : ActD) (iv ev fv tv av : Value) (cells loc : Int) (na : Nat) (hk : a.op = 9) : Sy.Meets Tryz.prog (actC B a iv ev fv tv av cells loc na) := by
  obtain ⟨op, dst, base, size, ix, e, f, mode, to, line, col⟩ := a
  simp only at hk
  subst hk
  refine Sy.meets_ofB (ctxW_holds B 9 dst base size mode to line col iv ev fv tv ix e f cells loc) mixed (L := rdOf B) (Sy.Ent.refl _) (wac9_run B dst base size mode to line col iv ev fv tv av ix e f cells loc) fun hok ns => ?_
  obtain ⟨⟨hI, hil⟩, ⟨hE, hel⟩, ⟨hF, hfl⟩, hA, hna⟩ := hok
  simp only at hI hE hF hil hel hfl
  have leaf : ∀ b L, b = actF cells loc na ⟨9, dst, base, size, ix, e, f, mode, to, line, col⟩ → Sy.leafB (actC B ⟨9, dst, base, size, ix, e, f, mode, to, line, col⟩ iv ev fv tv av cells loc na) (.bool b, L) := fun b L h => plainB_leaf (List.mem_singleton_self _) rfl (by rw [h])
  have h1 : hasDst 9 = false := rfl
  have h2 : hasPlace 9 = false := rfl
  have h3 : hasE 9 = false := rfl
  have h4 : hasF 9 = false := rfl
  have h5 : hasTo 9 = true := rfl
  simp only [actF, h1, h2, h3, h4, h5] at leaf
  simp only [wac9_R, Sy.Res.holds, hI.len, hE.len, hF.len, hna, pos_len, far_to, neg_to, ge_to loc dst]
  repeat' (first | exact gotL_of (fun p hp => by simp [hp]) | apply And.intro | intro _)
  all_goals first
    | exact trivial
    | exact hI.sl
    | exact hE.sl
    | exact hF.sl
    | exact hA
    | exact hI
    | exact hE
    | exact hF
    | exact hil
    | exact hel
    | exact hfl
    | decide
    | skip
  all_goals
    refine leaf _ _ ?_
    simp_all <;> (intros; simp_all)
theorem act10_met (B : List (Nat × Sy.Cont)) (a : ActD) (iv ev fv tv av : Value) (cells loc : Int) (na : Nat) (hk : a.op = 10) : Sy.Meets Tryz.prog (actC B a iv ev fv tv av cells loc na) := by
  obtain ⟨op, dst, base, size, ix, e, f, mode, to, line, col⟩ := a
  simp only at hk
  subst hk
  refine Sy.meets_ofB (ctxW_holds B 10 dst base size mode to line col iv ev fv tv ix e f cells loc) mixed (L := rdOf B) (Sy.Ent.refl _) (wac10_run B dst base size mode to line col iv ev fv tv av ix e f cells loc) fun hok ns => ?_
  obtain ⟨⟨hI, hil⟩, ⟨hE, hel⟩, ⟨hF, hfl⟩, hA, hna⟩ := hok
  simp only at hI hE hF hil hel hfl
  have leaf : ∀ b L, b = actF cells loc na ⟨10, dst, base, size, ix, e, f, mode, to, line, col⟩ → Sy.leafB (actC B ⟨10, dst, base, size, ix, e, f, mode, to, line, col⟩ iv ev fv tv av cells loc na) (.bool b, L) := fun b L h => plainB_leaf (List.mem_singleton_self _) rfl (by rw [h])
  have h1 : hasDst 10 = false := rfl
  have h2 : hasPlace 10 = false := rfl
  have h3 : hasE 10 = true := rfl
  have h4 : hasF 10 = false := rfl
  have h5 : hasTo 10 = true := rfl
  simp only [actF, h1, h2, h3, h4, h5] at leaf
  simp only [wac10_R, Sy.Res.holds, hI.len, hE.len, hF.len, hna, pos_len, far_to, neg_to, ge_to loc dst]
  repeat' (first | exact gotL_of (fun p hp => by simp [hp]) | apply And.intro | intro _)
  all_goals first
    | exact trivial
    | exact hI.sl
    | exact hE.sl
    | exact hF.sl
    | exact hA
    | exact hI
    | exact hE
    | exact hF
    | exact hil
    | exact hel
    | exact hfl
    | decide
    | skip
  all_goals
    refine leaf _ _ ?_
    simp_all <;> (intros; simp_all)
theorem act0_met (B : List (Nat × Sy.Cont)) (a : ActD) (iv ev fv tv av : Value) (cells loc : Int) (na : Nat) (hk : ¬ (1 ≤ a.op ∧ a.op ≤ 10)) : Sy.Meets Tryz.prog (actC B a iv ev fv tv av cells loc na) := by
  obtain ⟨op, dst, base, size, ix, e, f, mode, to, line, col⟩ := a
  simp only at hk
  refine Sy.meets_ofB (ctxV_holds op mode) mixed (L := rdOf B) (Sy.Ent.refl _) (wac0_run B op dst base size mode to line col iv ev fv tv av cells loc) fun hok ns => ?_
  have leaf : ∀ L, Sy.leafB (actC B ⟨op, dst, base, size, ix, e, f, mode, to, line, col⟩ iv ev fv tv av cells loc na) (.bool false, L) := fun L => plainB_leaf (List.mem_singleton_self _) rfl (by simp [actF, hk])
  simp only [wac0_R, Sy.Res.holds]
  refine ⟨fun _ => leaf _, fun h => ?_⟩
  exfalso
  rw [Ex.ltQ_eq, Ex.ltQ_eq] at h
  simp at h
  omega
theorem actC_met (B : List (Nat × Sy.Cont)) (a : ActD) (iv ev fv tv av : Value) (cells loc : Int) (na : Nat) : Sy.Meets Tryz.prog (actC B a iv ev fv tv av cells loc na) := by
  by_cases hk : 1 ≤ a.op ∧ a.op ≤ 10
  · have h : a.op = 1 ∨ a.op = 2 ∨ a.op = 3 ∨ a.op = 4 ∨ a.op = 5 ∨ a.op = 6 ∨ a.op = 7 ∨ a.op = 8 ∨ a.op = 9 ∨ a.op = 10 := by omega
    rcases h with h | h | h | h | h | h | h | h | h | h
    · exact act1_met _ _ _ _ _ _ _ _ _ _ h
    · exact act2_met _ _ _ _ _ _ _ _ _ _ h
    · exact act3_met _ _ _ _ _ _ _ _ _ _ h
    · exact act4_met _ _ _ _ _ _ _ _ _ _ h
    · exact act5_met _ _ _ _ _ _ _ _ _ _ h
    · exact act6_met _ _ _ _ _ _ _ _ _ _ h
    · exact act7_met _ _ _ _ _ _ _ _ _ _ h
    · exact act8_met _ _ _ _ _ _ _ _ _ _ h
    · exact act9_met _ _ _ _ _ _ _ _ _ _ h
    · exact act10_met _ _ _ _ _ _ _ _ _ _ h
  · exact act0_met _ _ _ _ _ _ _ _ _ _ hk
end Go.Proofs.YtlpcnaeknbmjdaaGreat

namespace Go.Proofs.YtlpcnaeknbmjdaaGreat
set_option linter.unusedVariables false
set_option linter.unusedSimpArgs false
open Go Go.RowKit
open Sy (Let Blk HasL)
abbrev fWhole : FuncId := 34
noncomputable def bodyT : Code := Sy.loopBody Tryz.f34 0
noncomputable def bodyA : Code := Sy.loopBody Tryz.f34 1
structure ActAt (B : List (Nat × Sy.Cont)) (b o : Nat) (a : ActD) (iv ev fv : Value) : Prop where
  op : HasL (rdOf B) b o (.int .i64 a.op)
  dst : HasL (rdOf B) b (o + 1) (.int .i64 a.dst)
  base : HasL (rdOf B) b (o + 1 + 1) (.int .i64 a.base)
  size : HasL (rdOf B) b (o + 1 + 1 + 1) (.int .i64 a.size)
  ivc : HasL (rdOf B) b (o + 1 + 1 + 1 + 1) iv
  evc : HasL (rdOf B) b (o + 1 + 1 + 1 + 1 + 1) ev
  fvc : HasL (rdOf B) b (o + 1 + 1 + 1 + 1 + 1 + 1) fv
  mode : HasL (rdOf B) b (o + 1 + 1 + 1 + 1 + 1 + 1 + 1) (.int .i64 a.mode)
  to : HasL (rdOf B) b (o + 1 + 1 + 1 + 1 + 1 + 1 + 1 + 1) (.int .i64 a.to)
  line : HasL (rdOf B) b (o + 1 + 1 + 1 + 1 + 1 + 1 + 1 + 1 + 1) (.int .i64 a.line)
  col : HasL (rdOf B) b (o + 1 + 1 + 1 + 1 + 1 + 1 + 1 + 1 + 1 + 1) (.int .i64 a.col)
  i : OkX B iv a.ix
  e : OkX B ev a.e
  f : OkX B fv a.f
structure ActsR (B : List (Nat × Sy.Cont)) (v : Value) (l : List ActD) : Prop where
  sl : ∃ p n c, v = .slice p n c
  len : Sy.lenS v = l.length
  at_ : l ≠ [] → ∃ n c, v = .slice (some ⟨Sy.ptrS v, Sy.offS v, none⟩) n c
  act : ∀ i a, l[i]? = some a → ∃ iv ev fv, ActAt B (Sy.ptrS v) (Sy.offS v + i * 11) a iv ev fv
  lt : l.length < 1034834473200
noncomputable def actBy (B : List (Nat × Sy.Cont)) (a : ActD) (cells loc : Int) (na : Nat) (args : Array Value) : Sy.CallC :=
  ⟨fAct, args, ∃ iv ev fv tv av, args = #[actV a iv ev fv, progV cells tv, thrV loc av] ∧ OkW B iv ev fv av a na, ⟨[], [], 0, B⟩, [Sy.plainO (.bool (actF cells loc na a))]⟩
theorem actBy_met (B : List (Nat × Sy.Cont)) (a : ActD) (cells loc : Int) (na : Nat) (args : Array Value) : Sy.Meets Tryz.prog (actBy B a cells loc na args) := fun ⟨iv, ev, fv, tv, av, h, hok⟩ => by
  subst h
  exact actC_met B a iv ev fv tv av cells loc na hok
noncomputable def ctxA2 (B : List (Nat × Sy.Cont)) (a : ActD) (cells loc : Int) (na : Nat) : Sy.Ctx := Sy.mkS [(fAct, fun args _ => actBy B a cells loc na args)] [] []
theorem ctxA2_holds (B : List (Nat × Sy.Cont)) (a : ActD) (cells loc : Int) (na : Nat) : (ctxA2 B a cells loc na).holds Tryz.prog := Sy.mkS_holds (fun p hp args L => by
  rcases List.mem_singleton.1 hp with rfl
  exact actBy_met _ _ _ _ _ _) (fun _ h => (by cases h)) (fun _ h => (by cases h))
def slA2 (p1 p4 : Nat) (tv av : Value) (n i k : Nat) : List (Nat × Value) := [(1, .pointer (some ⟨p1, 0, none⟩)), (2, .bool false), (4, .pointer (some ⟨p4, 0, none⟩)), (22, tv), (23, .int .i64 (Int.ofNat n)), (24, .int .i64 (Int.ofNat i)), (43, av), (44, .int .i64 (Int.ofNat (Sy.lenS av))), (45, .int .i64 (Int.ofNat k))]
def memA2 (p1 p4 : Nat) (cells loc : Int) (tv av : Value) : List (Nat × Sy.Cont) := [(p1, .obj (.cells #[.int .i64 cells, tv] 24 (0, 0))), (p4, .obj (.cells #[.int .i64 loc, av] 40 (0, 0)))]
def wi_o : Sy.O := (Sy.O.fork (Sy.O.pack 20 0x806100040004000002000821 (Sy.O.fork Sy.O.nil Sy.O.nil)) Sy.O.nil)
noncomputable def wi_R (B : List (Nat × Sy.Cont)) (a : ActD) (p1 : Nat) (p4 : Nat) (tv : Value) (av : Value) (n : Nat) (i : Nat) (k : Nat) (cells : Int) (loc : Int) (f : Nat → Value) (ns : Nat → Sy.Let) : Sy.Res (Exit × Nat × List Value × List Blk) :=
 let z0 := (Int.ofNat k)
 let z1 := (Sy.lenS av)
 let z2 := (Int.ofNat z1)
 let z3 := (Sy.ptrS av)
 let z4 := (rdOf B)
 let z5 := (Sy.offS av + Int.toNat z0 * (11 : Nat))
 let z6 := (Sy.offS av + Int.toNat z0 * (11 : Nat) + (1 : Nat))
 let z7 := (Sy.offS av + Int.toNat z0 * (11 : Nat) + (1 : Nat) + (1 : Nat))
 let z8 := (Sy.offS av + Int.toNat z0 * (11 : Nat) + (1 : Nat) + (1 : Nat) + (1 : Nat))
 let z9 := (Sy.offS av + Int.toNat z0 * (11 : Nat) + (1 : Nat) + (1 : Nat) + (1 : Nat) + (1 : Nat))
 let z10 := (Sy.offS av + Int.toNat z0 * (11 : Nat) + (1 : Nat) + (1 : Nat) + (1 : Nat) + (1 : Nat) + (1 : Nat))
 let z11 := (Sy.offS av + Int.toNat z0 * (11 : Nat) + (1 : Nat) + (1 : Nat) + (1 : Nat) + (1 : Nat) + (1 : Nat) + (1 : Nat))
 let z12 := (Sy.offS av + Int.toNat z0 * (11 : Nat) + (1 : Nat) + (1 : Nat) + (1 : Nat) + (1 : Nat) + (1 : Nat) + (1 : Nat) + (1 : Nat))
 let z13 := (Sy.offS av + Int.toNat z0 * (11 : Nat) + (1 : Nat) + (1 : Nat) + (1 : Nat) + (1 : Nat) + (1 : Nat) + (1 : Nat) + (1 : Nat) + (1 : Nat))
 let z14 := (Sy.offS av + Int.toNat z0 * (11 : Nat) + (1 : Nat) + (1 : Nat) + (1 : Nat) + (1 : Nat) + (1 : Nat) + (1 : Nat) + (1 : Nat) + (1 : Nat) + (1 : Nat))
 let z15 := (Sy.offS av + Int.toNat z0 * (11 : Nat) + (1 : Nat) + (1 : Nat) + (1 : Nat) + (1 : Nat) + (1 : Nat) + (1 : Nat) + (1 : Nat) + (1 : Nat) + (1 : Nat) + (1 : Nat))
 let z16 := (Array.mk [Value.int IntKind.i64 cells, tv])
 let z17 := (Array.mk [Value.int IntKind.i64 loc, av])
 let z18 := (some (Addr.mk p1 (0 : Nat) none))
 let z19 := (some (Addr.mk p4 (0 : Nat) none))
 let z20 := (Sy.Cont.obj (Obj.cells z16 (24 : Nat)))
 let z21 := (Sy.Cont.obj (Obj.cells z17 (40 : Nat)))
 Sy.Res.br (Ex.ltQ z0 z2) (Sy.Res.need ((∃ (n : Nat), ∃ (c : Nat), av = Value.slice (some (Addr.mk z3 (Sy.offS av) none)) n c) ∧ (0 : Int) ≤ Int.ofNat k ∧ Int.ofNat k < (↑z1 : Int)) (Sy.Res.need (∃ (i : Int), HasL z4 z3 z5 (Value.int IntKind.i64 i)) (Sy.Res.hyp (∀ (u : Value), HasL z4 z3 z5 u → u = Value.int IntKind.i64 (Let.i (ns 0))) (Sy.Res.need (∃ (i : Int), HasL z4 z3 z6 (Value.int IntKind.i64 i)) (Sy.Res.hyp (∀ (u : Value), HasL z4 z3 z6 u → u = Value.int IntKind.i64 (Let.i (ns 1))) (Sy.Res.need (∃ (i : Int), HasL z4 z3 z7 (Value.int IntKind.i64 i)) (Sy.Res.hyp (∀ (u : Value), HasL z4 z3 z7 u → u = Value.int IntKind.i64 (Let.i (ns 2))) (Sy.Res.need (∃ (i : Int), HasL z4 z3 z8 (Value.int IntKind.i64 i)) (Sy.Res.hyp (∀ (u : Value), HasL z4 z3 z8 u → u = Value.int IntKind.i64 (Let.i (ns 3))) (Sy.Res.need (∃ (v : Value), HasL z4 z3 z9 v) (Sy.Res.hyp (∀ (u : Value), HasL z4 z3 z9 u → u = Let.v (ns 4)) (Sy.Res.need (∃ (v : Value), HasL z4 z3 z10 v) (Sy.Res.hyp (∀ (u : Value), HasL z4 z3 z10 u → u = Let.v (ns 5)) (Sy.Res.need (∃ (v : Value), HasL z4 z3 z11 v) (Sy.Res.hyp (∀ (u : Value), HasL z4 z3 z11 u → u = Let.v (ns 6)) (Sy.Res.need (∃ (i : Int), HasL z4 z3 z12 (Value.int IntKind.i64 i)) (Sy.Res.hyp (∀ (u : Value), HasL z4 z3 z12 u → u = Value.int IntKind.i64 (Let.i (ns 7))) (Sy.Res.need (∃ (i : Int), HasL z4 z3 z13 (Value.int IntKind.i64 i)) (Sy.Res.hyp (∀ (u : Value), HasL z4 z3 z13 u → u = Value.int IntKind.i64 (Let.i (ns 8))) (Sy.Res.need (∃ (i : Int), HasL z4 z3 z14
 (Value.int IntKind.i64 i)) (Sy.Res.hyp (∀ (u : Value), HasL z4 z3 z14 u → u = Value.int IntKind.i64 (Let.i (ns 9))) (Sy.Res.need (∃ (i : Int), HasL z4 z3 z15 (Value.int IntKind.i64 i)) (Sy.Res.hyp (∀ (u : Value), HasL z4 z3 z15 u → u = Value.int IntKind.i64 (Let.i (ns 10))) (Sy.Res.need ((11 : Nat) = (11 : Nat) ∧ (11 : Nat) = (11 : Nat) ∧ Array.all (Array.mk [Value.int IntKind.i64 (Let.i (ns 0)), Value.int IntKind.i64 (Let.i (ns 1)), Value.int IntKind.i64 (Let.i (ns 2)), Value.int IntKind.i64 (Let.i (ns 3)), Let.v (ns 4), Let.v (ns 5), Let.v (ns 6), Value.int IntKind.i64 (Let.i (ns 7)), Value.int IntKind.i64 (Let.i (ns 8)), Value.int IntKind.i64 (Let.i (ns 9)), Value.int IntKind.i64 (Let.i (ns 10))]) (fun (x : Value) => Value.oneCell' x) (0 : Nat) (11 : Nat) = true) (Sy.Res.need (∃ (iv : Value), ∃ (ev : Value), ∃ (fv : Value), ∃ (tv_1 : Value), ∃ (av_1 : Value), Array.mk [Value.agg (Array.mk [Value.int IntKind.i64 (Let.i (ns 0)), Value.int IntKind.i64 (Let.i (ns 1)), Value.int IntKind.i64 (Let.i (ns 2)), Value.int IntKind.i64 (Let.i (ns 3)), Let.v (ns 4), Let.v (ns 5), Let.v (ns 6), Value.int IntKind.i64 (Let.i (ns 7)), Value.int IntKind.i64 (Let.i (ns 8)), Value.int IntKind.i64 (Let.i (ns 9)), Value.int IntKind.i64 (Let.i (ns 10))]), Value.agg z16, Value.agg z17] = Array.mk [actV a iv ev fv, progV cells tv_1, thrV loc av_1] ∧ OkW B iv ev fv av_1 a z1) (Sy.Res.need (Sy.GotL z4 B) (Sy.Res.hyp True (Sy.Res.br (!actF cells loc z1 a) (Sy.Res.leaf (Exit.ret, (56 : Nat),
 [Value.pointer z18, Value.bool false, Value.pointer z19, tv, Value.int IntKind.i64 (Int.ofNat n), Value.int IntKind.i64 (Int.ofNat i), av, Value.int IntKind.i64 z2, Value.int IntKind.i64 z0], Blk.mk (Let.n (ns 11)) (Sy.Cont.obj (Obj.cells (Array.mk [Value.int IntKind.i64 (Let.i (ns 0)), Value.int IntKind.i64 (Let.i (ns 1)), Value.int IntKind.i64 (Let.i (ns 2)), Value.int IntKind.i64 (Let.i (ns 3)), Let.v (ns 4), Let.v (ns 5), Let.v (ns 6), Value.int IntKind.i64 (Let.i (ns 7)), Value.int IntKind.i64 (Let.i (ns 8)), Value.int IntKind.i64 (Let.i (ns 9)), Value.int IntKind.i64 (Let.i (ns 10))]) (46 : Nat))) true :: Blk.mk p1 z20 true :: Blk.mk p4 z21 true :: rdOf B)) (Sy.Res.leaf (Exit.normal, (56 : Nat), [Value.pointer z18, Value.bool false, Value.pointer z19, tv, Value.int IntKind.i64 (Int.ofNat n), Value.int IntKind.i64 (Int.ofNat i), av, Value.int IntKind.i64 z2, Value.int IntKind.i64 (Ex.wrapQ IntKind.i64 (Ex.addQ z0 (1 : Int)))], Blk.mk (Let.n (ns 11)) (Sy.Cont.obj (Obj.cells (Array.mk [Value.int IntKind.i64 (Let.i (ns 0)), Value.int IntKind.i64 (Let.i (ns 1)), Value.int IntKind.i64 (Let.i (ns 2)), Value.int IntKind.i64 (Let.i (ns 3)), Let.v (ns 4), Let.v (ns 5), Let.v (ns 6), Value.int IntKind.i64 (Let.i (ns 7)), Value.int IntKind.i64 (Let.i (ns 8)), Value.int IntKind.i64 (Let.i (ns 9)), Value.int IntKind.i64 (Let.i (ns 10))]) (46 : Nat))) true :: Blk.mk p1 z20 true :: Blk.mk p4 z21 true :: rdOf B)))))))))))))))))))))))))))))) (Sy.Res.leaf (Exit.exit (2 : Nat), (56 : Nat),
 [Value.pointer z18, Value.bool false, Value.pointer z19, tv, Value.int IntKind.i64 (Int.ofNat n), Value.int IntKind.i64 (Int.ofNat i), av, Value.int IntKind.i64 z2, Value.int IntKind.i64 z0], Blk.mk p1 z20 true :: Blk.mk p4 z21 true :: rdOf B))
theorem wi_run (B : List (Nat × Sy.Cont)) (a : ActD) (p1 p4 : Nat) (tv av : Value) (n i k : Nat) (cells loc : Int) (f : Nat → Value) : Sy.Ran (Sy.pieceT Tryz.prog (ctxA2 B a cells loc (Sy.lenS av)) 50 fWhole bodyA 56 (slA2 p1 p4 tv av n i k) ((List.range 56).map f) ((memA2 p1 p4 cells loc tv av).map Sy.ownOf ++ rdOf B) [1, 2, 4, 22, 23, 24, 43, 44, 45]) wi_o (wi_R B a p1 p4 tv av n i k cells loc f) := ⟨fun ns => by kernel_rfl, fun ns => by kernel_rfl⟩
end Go.Proofs.YtlpcnaeknbmjdaaGreat

namespace Go.Proofs.YtlpcnaeknbmjdaaGreat
open Go Go.RowKit
open Sy (Let Blk HasL)
def badAct (cells loc : Int) (l : List ActD) : Prop := ∃ (i : Nat) (a : ActD), l[i]? = some a ∧ actF cells loc l.length a = false
noncomputable def loopAC (B : List (Nat × Sy.Cont)) (l : List ActD) (p1 p4 : Nat) (tv av : Value) (n i : Nat) (cells loc : Int) : Sy.LoopC :=
  ⟨.loop bodyA, 56, slA2 p1 p4 tv av n i 0, ActsR B av l, ⟨[], memA2 p1 p4 cells loc tv av, 0, B⟩,
    [(⟨fun _ => badAct cells loc l, fun _ => [], fun _ => []⟩, .ret, fun _ => [(2, .bool false)]),
     (⟨fun _ => ¬ badAct cells loc l, fun _ => memA2 p1 p4 cells loc tv av, fun _ => []⟩, .exit 2, fun _ => [(1, .pointer (some ⟨p1, 0, none⟩)), (2, .bool false), (4, .pointer (some ⟨p4, 0, none⟩)), (22, tv), (23, .int .i64 (Int.ofNat n)), (24, .int .i64 (Int.ofNat i))])]⟩
theorem loopAC_met (B : List (Nat × Sy.Cont)) (l : List ActD) (p1 p4 : Nat) (tv av : Value) (n i : Nat) (cells loc : Int) : Sy.MeetsL Tryz.prog (loopAC B l p1 p4 tv av n i cells loc) := by
  refine Sy.loop_ofB (σ := Nat × ActD) (S := fun s => ctxA2 B s.2 cells loc (Sy.lenS av)) (n := 50) (fn := fWhole) (fun _ => ctxA2_holds _ _ _ _ _) mixed (body := bodyA) rfl [1, 2, 4, 22, 23, 24, 43, 44, 45] (fun s => slA2 p1 p4 tv av n i s.1)
    (fun _ => (memA2 p1 p4 cells loc tv av).map Sy.ownOf ++ rdOf B) (fun s => s.1 ≤ l.length ∧ ActsR B av l ∧ (∀ j a, j < s.1 → l[j]? = some a → actF cells loc l.length a = true) ∧ ∀ a, l[s.1]? = some a → s.2 = a) (fun s => l.length - s.1)
    (0, l.headD ⟨0, 0, 0, 0, [], [], [], 0, 0, 0, 0⟩) (fun h => ⟨Nat.zero_le _, h, fun i x hi => by simp at hi, fun a ha => by cases l <;> simp_all⟩) (fun p hp => hp) (Sy.Ent.refl _) (o := fun _ => wi_o) (R := fun s f => wi_R B s.2 p1 p4 tv av n i s.1 cells loc f) (fun s f _ => wi_run B s.2 p1 p4 tv av n i s.1 cells loc f) ?_
  rintro - ⟨k, a⟩ f ⟨hk, hR, hinv, ha⟩ ns
  simp only at hk hinv ha
  simp only [wi_R, Sy.Res.holds]
  refine ⟨fun hlt => ?_, fun hge => ?_⟩
  · have hlt : k < l.length := by rw [Ex.ltQ_eq, hR.len] at hlt; simpa using hlt
    obtain ⟨a', hn⟩ : ∃ n, l[k]? = some n := ⟨_, List.getElem?_eq_getElem hlt⟩
    obtain rfl : a = a' := ha a' hn
    obtain ⟨iv, ev, fv, hA⟩ := hR.act k a hn
    refine ⟨⟨hR.at_ (fun h => by rw [h] at hlt; simp at hlt), by simp, by rw [hR.len]; simpa using hlt⟩, ⟨_, hA.op⟩, fun e0 => ⟨⟨_, hA.dst⟩, fun e1 => ⟨⟨_, hA.base⟩, fun e2 => ⟨⟨_, hA.size⟩, fun e3 => ⟨⟨_, hA.ivc⟩, fun e4 => ⟨⟨_, hA.evc⟩, fun e5 => ⟨⟨_, hA.fvc⟩, fun e6 => ⟨⟨_, hA.mode⟩, fun e7 => ⟨⟨_, hA.to⟩, fun e8 => ⟨⟨_, hA.line⟩, fun e9 => ⟨⟨_, hA.col⟩, fun e10 => ?_⟩⟩⟩⟩⟩⟩⟩⟩⟩⟩⟩
    have e0 := e0 _ hA.op
    have e1 := e1 _ hA.dst
    have e2 := e2 _ hA.base
    have e3 := e3 _ hA.size
    have e4 := e4 _ hA.ivc
    have e5 := e5 _ hA.evc
    have e6 := e6 _ hA.fvc
    have e7 := e7 _ hA.mode
    have e8 := e8 _ hA.to
    have e9 := e9 _ hA.line
    have e10 := e10 _ hA.col
    simp only [Value.int.injEq, true_and] at e0 e1 e2 e3 e7 e8 e9 e10
    rw [← e0, ← e1, ← e2, ← e3, ← e4, ← e5, ← e6, ← e7, ← e8, ← e9, ← e10]
    refine ⟨?_, ⟨iv, ev, fv, tv, av, rfl, hA.i, hA.e, hA.f, hR.sl, rfl⟩, gotL_of (fun p hp => hp), fun _ => ⟨fun hb => ?_, fun hb => ?_⟩⟩
    · obtain ⟨_, _, _, h1⟩ := hA.i.1.sl
      obtain ⟨_, _, _, h2⟩ := hA.e.1.sl
      obtain ⟨_, _, _, h3⟩ := hA.f.1.sl
      simp [h1, h2, h3, Value.oneCell']
    · refine ⟨rfl, .inr ⟨by simp, _, List.mem_cons_self, rfl, [], rfl, ⟨[1], rfl⟩, Sy.Ent.sub (List.nil_sublist _), k, a, hn, ?_⟩⟩
      rw [hR.len] at hb
      simpa using hb
    · rw [hR.len] at hb
      refine ⟨rfl, .inl ⟨rfl, (k + 1, l.getD (k + 1) a), ⟨by show k + 1 ≤ l.length; omega, hR, fun j x hj hx => ?_, fun x hx => ?_⟩, by show l.length - (k + 1) < l.length - k; omega, ?_, Sy.Ent.sub (List.sublist_cons_self _ _)⟩⟩
      · by_cases he : j = k
        · subst he
          rw [hn] at hx
          injection hx with hx
          rw [← hx]
          simpa using hb
        · exact hinv j x (by simp only at hj; omega) hx
      · simp only at hx
        show l.getD (k + 1) a = x
        rw [List.getD_eq_getElem?_getD, hx]
        rfl
      · rw [w_succ (by have := hR.lt; omega)]
        rfl
  · have hge : k = l.length := by rw [Ex.ltQ_eq, hR.len] at hge; simp at hge; omega
    subst hge
    refine ⟨rfl, .inr ⟨by simp, _, List.mem_cons_of_mem _ (List.mem_singleton_self _), rfl, [], rfl, ⟨[0, 1, 2, 3, 4, 5], rfl⟩, ?_, ?_⟩⟩
    · exact Sy.Ent.sub (by simp only [List.append_nil]; exact List.sublist_append_left _ _)
    · rintro ⟨j, x, hx, hp⟩
      rw [hinv j x (List.getElem?_eq_some_iff.1 hx).1 hx] at hp
      cases hp
end Go.Proofs.YtlpcnaeknbmjdaaGreat

namespace Go.Proofs.YtlpcnaeknbmjdaaGreat
set_option linter.unusedVariables false
set_option linter.unusedSimpArgs false
open Go Go.RowKit
open Sy (Let Blk HasL)
structure ThreadD where
  locals : Int
  acts : List ActD
structure ThreadsR (B : List (Nat × Sy.Cont)) (v : Value) (l : List ThreadD) : Prop where
  sl : ∃ p n c, v = .slice p n c
  len : Sy.lenS v = l.length
  at_ : l ≠ [] → ∃ n c, v = .slice (some ⟨Sy.ptrS v, Sy.offS v, none⟩) n c
  thr : ∀ i t, l[i]? = some t → ∃ av, HasL (rdOf B) (Sy.ptrS v) (Sy.offS v + i * 2) (.int .i64 t.locals) ∧ HasL (rdOf B) (Sy.ptrS v) (Sy.offS v + i * 2 + 1) av ∧ ActsR B av t.acts
  lt : l.length < 4398046511104
noncomputable def Sy.locL (L : List Blk) : Int := match L with
  | ⟨_, .obj (.cells cs _ _), _⟩ :: _ => Sy.argI cs 0
  | _ => 0
noncomputable def ctxT (B : List (Nat × Sy.Cont)) (l : List ActD) (p1 : Nat) (tv : Value) (n i : Nat) (cells : Int) : Sy.Ctx := Sy.mkS [] [(fWhole, fun a L => loopAC B l p1 (Sy.ptrN (a.get 4)) tv (a.get 43) n i cells (Sy.locL L))] []
theorem ctxT_holds (B : List (Nat × Sy.Cont)) (l : List ActD) (p1 : Nat) (tv : Value) (n i : Nat) (cells : Int) : (ctxT B l p1 tv n i cells).holds Tryz.prog := Sy.mkS_holds (fun _ h => (by cases h)) (fun p hp a L => by
  rcases List.mem_singleton.1 hp with rfl
  exact loopAC_met _ _ _ _ _ _ _ _ _ _) (fun _ h => (by cases h))
def slT (p1 : Nat) (tv : Value) (n i : Nat) : List (Nat × Value) := [(1, .pointer (some ⟨p1, 0, none⟩)), (2, .bool false), (22, tv), (23, .int .i64 (Int.ofNat n)), (24, .int .i64 (Int.ofNat i))]
def memT (p1 : Nat) (cells : Int) (tv : Value) : List (Nat × Sy.Cont) := [(p1, .obj (.cells #[.int .i64 cells, tv] 24 (0, 0)))]
def wt_o : Sy.O := (Sy.O.fork (Sy.O.pack 18 0x2000020000200002000421 (Sy.O.fork Sy.O.nil (Sy.O.pack 11 0x210042008000 (Sy.O.fork (Sy.O.steps [0, 1] Sy.O.nil) (Sy.O.steps [0, 1] Sy.O.nil))))) Sy.O.nil)
noncomputable def wt_R (B : List (Nat × Sy.Cont)) (l : List ActD) (p1 : Nat) (tv : Value) (n : Nat) (i : Nat) (cells : Int) (f : Nat → Value) (ns : Nat → Sy.Let) : Sy.Res (Exit × Nat × List Value × List Blk) :=
 let z0 := (Sy.ptrS tv)
 let z1 := (some (Addr.mk p1 (0 : Nat) none))
 let z2 := (Sy.Cont.obj (Obj.cells (Array.mk [Value.int IntKind.i64 cells, tv]) (24 : Nat)))
 let z3 := ([] ++ List.eraseIdx (Blk.mk p1 z2 true :: rdOf B) (nat_lit 0))
 let z4 := (Value.tuple (Array.mk []))
 let z5 := (Sy.argsW (0 : Nat) (Let.l (ns 3)))
 Sy.Res.br (Ex.ltQ (Int.ofNat i) (Int.ofNat n)) (Sy.Res.need ((∃ (n : Nat), ∃ (c : Nat), tv = Value.slice (some (Addr.mk z0 (Sy.offS tv) none)) n c) ∧ (0 : Int) ≤ Int.ofNat i ∧ Int.ofNat i < (↑(Sy.lenS tv) : Int)) (Sy.Res.need (∃ (i_1 : Int), HasL (rdOf B) z0 (Sy.offS tv + Int.toNat (Int.ofNat i) * (2 : Nat)) (Value.int IntKind.i64 i_1)) (Sy.Res.hyp (∀ (u : Value), HasL (rdOf B) z0 (Sy.offS tv + Int.toNat (Int.ofNat i) * (2 : Nat)) u → u = Value.int IntKind.i64 (Let.i (ns 0))) (Sy.Res.need (∃ (v : Value), HasL (rdOf B) z0 (Sy.offS tv + Int.toNat (Int.ofNat i) * (2 : Nat) + (1 : Nat)) v) (Sy.Res.hyp (∀ (u : Value), HasL (rdOf B) z0 (Sy.offS tv + Int.toNat (Int.ofNat i) * (2 : Nat) + (1 : Nat)) u → u = Let.v (ns 1)) (Sy.Res.need ((2 : Nat) = (2 : Nat) ∧ (2 : Nat) = (2 : Nat) ∧ Array.all (Array.mk [Value.int IntKind.i64 (Let.i (ns 0)), Let.v (ns 1)]) (fun (x : Value) => Value.oneCell' x) (0 : Nat) (2 : Nat) = true) (Sy.Res.need (∃ (p : Option Addr), ∃ (n : Nat), ∃ (c : Nat), Let.v (ns 1) = Value.slice p n c) (Sy.Res.br (bif bif Ex.ltQ (Let.i (ns 0)) (0 : Int) then true else Ex.ltQ (24 : Int) (Let.i (ns 0)) then true else Ex.ltQ (65536 : Int) (Int.ofNat (Sy.lenS (Let.v (ns 1))))) (Sy.Res.leaf (Exit.ret, (56 : Nat), [Value.pointer z1, Value.bool false, tv, Value.int IntKind.i64 (Int.ofNat n), Value.int IntKind.i64 (Int.ofNat i)], Blk.mk (Let.n (ns 2)) (Sy.Cont.obj (Obj.cells (Array.mk [Value.int IntKind.i64 (Let.i (ns 0)), Let.v (ns 1)]) (40 : Nat))) true :: Blk.mk p1 z2 true ::
 rdOf B)) (Sy.Res.need (∃ (p : Option Addr), ∃ (n : Nat), ∃ (c : Nat), Let.v (ns 1) = Value.slice p n c) (Sy.Res.need (ActsR B (Let.v (ns 1)) l) (Sy.Res.need (Sy.GotL z3 B) (Sy.Res.both (Sy.Res.hyp (∃ (i : Nat), ∃ (a : ActD), l[i]? = some a ∧ actF cells (Let.i (ns 0)) (List.length l) a = false) (Sy.Res.leaf (Exit.ret, (56 : Nat), [List.rec z4 (fun (p : Nat × Value) (x : List (Nat × Value)) (ih : Value) => Bool.rec ih (Prod.snd p) (Nat.beq (Prod.fst p) (1 : Nat))) z5, Value.bool false, List.rec z4 (fun (p : Nat × Value) (x : List (Nat × Value)) (ih : Value) => Bool.rec ih (Prod.snd p) (Nat.beq (Prod.fst p) (22 : Nat))) z5, List.rec z4 (fun (p : Nat × Value) (x : List (Nat × Value)) (ih : Value) => Bool.rec ih (Prod.snd p) (Nat.beq (Prod.fst p) (23 : Nat))) z5, List.rec z4 (fun (p : Nat × Value) (x : List (Nat × Value)) (ih : Value) => Bool.rec ih (Prod.snd p) (Nat.beq (Prod.fst p) (24 : Nat))) z5], [] ++ z3))) (Sy.Res.hyp (badAct cells (Let.i (ns 0)) l → False) (Sy.Res.leaf (Exit.normal, (56 : Nat), [Value.pointer z1, Value.bool false, tv, Value.int IntKind.i64 (Int.ofNat n), Value.int IntKind.i64 (Ex.wrapQ IntKind.i64 (Ex.addQ (Int.ofNat i) (1 : Int)))], Blk.mk p1 z2 true :: Blk.mk (Let.n (ns 2)) (Sy.Cont.obj (Obj.cells (Array.mk [Value.int IntKind.i64 (Let.i (ns 0)), Let.v (ns 1)]) (40 : Nat))) true :: z3))))))))))))))) (Sy.Res.leaf (Exit.exit (0 : Nat), (56 : Nat), [Value.pointer z1, Value.bool false, tv, Value.int IntKind.i64 (Int.ofNat n), Value.int IntKind.i64 (Int.ofNat
 i)], Blk.mk p1 z2 true :: rdOf B))
theorem wt_run (B : List (Nat × Sy.Cont)) (l : List ActD) (p1 : Nat) (tv : Value) (n i : Nat) (cells : Int) (f : Nat → Value) : Sy.Ran (Sy.pieceT Tryz.prog (ctxT B l p1 tv n i cells) 50 fWhole bodyT 56 (slT p1 tv n i) ((List.range 56).map f) ((memT p1 cells tv).map Sy.ownOf ++ rdOf B) [1, 2, 22, 23, 24]) wt_o (wt_R B l p1 tv n i cells f) := ⟨fun ns => by kernel_rfl, fun ns => by kernel_rfl⟩
end Go.Proofs.YtlpcnaeknbmjdaaGreat

namespace Go.Proofs.YtlpcnaeknbmjdaaGreat
open Go Go.RowKit
open Sy (Let Blk HasL)
noncomputable def out1 (t : ThreadD) : Bool := bif bif Ex.ltQ t.locals 0 then true else Ex.ltQ 24 t.locals then true else Ex.ltQ 65536 (Int.ofNat t.acts.length)
def badThr (cells : Int) (t : ThreadD) : Prop := out1 t = true ∨ badAct cells t.locals t.acts
def badThrs (cells : Int) (l : List ThreadD) : Prop := ∃ (i : Nat) (t : ThreadD), l[i]? = some t ∧ badThr cells t
noncomputable def loopTC (B : List (Nat × Sy.Cont)) (l : List ThreadD) (p1 : Nat) (tv : Value) (cells : Int) : Sy.LoopC :=
  ⟨.loop bodyT, 56, slT p1 tv (Sy.lenS tv) 0, ThreadsR B tv l, ⟨[], memT p1 cells tv, 0, B⟩,
    [(⟨fun _ => badThrs cells l, fun _ => [], fun _ => []⟩, .ret, fun _ => [(2, .bool false)]),
     (⟨fun _ => ¬ badThrs cells l, fun _ => [], fun _ => []⟩, .exit 0, fun _ => [(2, .bool false)])]⟩
theorem loopTC_met (B : List (Nat × Sy.Cont)) (l : List ThreadD) (p1 : Nat) (tv : Value) (cells : Int) : Sy.MeetsL Tryz.prog (loopTC B l p1 tv cells) := by
  refine Sy.loop_ofB (σ := Nat × ThreadD) (S := fun s => ctxT B s.2.acts p1 tv (Sy.lenS tv) s.1 cells) (n := 50) (fn := fWhole) (fun _ => ctxT_holds _ _ _ _ _ _ _) mixed (body := bodyT) rfl [1, 2, 22, 23, 24] (fun s => slT p1 tv (Sy.lenS tv) s.1)
    (fun _ => (memT p1 cells tv).map Sy.ownOf ++ rdOf B) (fun s => s.1 ≤ l.length ∧ ThreadsR B tv l ∧ (∀ j t, j < s.1 → l[j]? = some t → ¬ badThr cells t) ∧ ∀ t, l[s.1]? = some t → s.2 = t) (fun s => l.length - s.1)
    (0, l.headD ⟨0, []⟩) (fun h => ⟨Nat.zero_le _, h, fun i x hi => by simp at hi, fun a ha => by cases l <;> simp_all⟩) (fun p hp => hp) (Sy.Ent.refl _) (o := fun _ => wt_o) (R := fun s f => wt_R B s.2.acts p1 tv (Sy.lenS tv) s.1 cells f) (fun s f _ => wt_run B s.2.acts p1 tv (Sy.lenS tv) s.1 cells f) ?_
  rintro - ⟨k, t⟩ f ⟨hk, hR, hinv, ha⟩ ns
  simp only at hk hinv ha
  simp only [wt_R, Sy.Res.holds]
  refine ⟨fun hlt => ?_, fun hge => ?_⟩
  · have hlt : k < l.length := by rw [Ex.ltQ_eq, hR.len] at hlt; simpa using hlt
    obtain ⟨t', hn⟩ : ∃ n, l[k]? = some n := ⟨_, List.getElem?_eq_getElem hlt⟩
    obtain rfl : t = t' := ha t' hn
    obtain ⟨av, h0, h1, hA⟩ := hR.thr k t hn
    refine ⟨⟨hR.at_ (fun h => by rw [h] at hlt; simp at hlt), by simp, by rw [hR.len]; simpa using hlt⟩, ⟨_, h0⟩, fun e0 => ⟨⟨_, h1⟩, fun e1 => ?_⟩⟩
    have e0 := e0 _ h0
    have e1 := e1 _ h1
    simp only [Value.int.injEq, true_and] at e0
    rw [← e0, ← e1]
    obtain ⟨p, n, c, hav⟩ := hA.sl
    refine ⟨?_, hA.sl, fun hb => ?_, fun hb => ⟨hA.sl, hA, gotL_of (fun p hp => hp), fun hbad => ?_, fun hgood => ?_⟩⟩
    · simp [hav, Value.oneCell']
    · refine ⟨rfl, .inr ⟨by simp, _, List.mem_cons_self, rfl, [], rfl, ⟨[1], rfl⟩, Sy.Ent.sub (List.nil_sublist _), k, t, hn, .inl ?_⟩⟩
      rw [hA.len] at hb
      exact hb
    · exact ⟨rfl, .inr ⟨by simp, _, List.mem_cons_self, rfl, [], rfl, ⟨[1], rfl⟩, Sy.Ent.sub (List.nil_sublist _), k, t, hn, .inr hbad⟩⟩
    · refine ⟨rfl, .inl ⟨rfl, (k + 1, l.getD (k + 1) t), ⟨by show k + 1 ≤ l.length; omega, hR, fun j x hj hx => ?_, fun x hx => ?_⟩, by show l.length - (k + 1) < l.length - k; omega, ?_, Sy.Ent.sub ((List.sublist_cons_self _ _).cons_cons _)⟩⟩
      · by_cases he : j = k
        · subst he
          rw [hn] at hx
          injection hx with hx
          subst hx
          rw [hA.len] at hb
          rintro (h | h)
          · exact absurd h (by unfold out1; rw [hb]; exact Bool.false_ne_true)
          · exact hgood h
        · exact hinv j x (by simp only at hj; omega) hx
      · simp only at hx
        show l.getD (k + 1) t = x
        rw [List.getD_eq_getElem?_getD, hx]
        rfl
      · rw [w_succ (by have := hR.lt; omega)]
        rfl
  · have hge : k = l.length := by rw [Ex.ltQ_eq, hR.len] at hge; simp at hge; omega
    subst hge
    refine ⟨rfl, .inr ⟨by simp, _, List.mem_cons_of_mem _ (List.mem_singleton_self _), rfl, [], rfl, ⟨[1], rfl⟩, Sy.Ent.sub (List.nil_sublist _), ?_⟩⟩
    rintro ⟨j, x, hx, hp⟩
    exact hinv j x (List.getElem?_eq_some_iff.1 hx).1 hx hp
noncomputable def ctxG (B : List (Nat × Sy.Cont)) (l : List ThreadD) (tv : Value) (cells : Int) : Sy.Ctx := Sy.mkS [] [(fWhole, fun a _ => loopTC B l (Sy.ptrN (a.get 1)) tv cells)] []
theorem ctxG_holds (B : List (Nat × Sy.Cont)) (l : List ThreadD) (tv : Value) (cells : Int) : (ctxG B l tv cells).holds Tryz.prog := Sy.mkS_holds (fun _ h => (by cases h)) (fun p hp a L => by
  rcases List.mem_singleton.1 hp with rfl
  exact loopTC_met _ _ _ _ _) (fun _ h => (by cases h))
end Go.Proofs.YtlpcnaeknbmjdaaGreat

namespace Go.Proofs.YtlpcnaeknbmjdaaGreat
set_option linter.unusedVariables false
set_option linter.unusedSimpArgs false
open Go Go.RowKit
open Sy (Let Blk HasL)
def wg_o : Sy.O := (Sy.O.pack 12 0x80000800008000 (Sy.O.fork Sy.O.nil (Sy.O.pack 9 0x840008000 (Sy.O.fork (Sy.O.steps [0, 1] Sy.O.nil) (Sy.O.steps [0, 1] Sy.O.nil)))))
noncomputable def wg_R (B : List (Nat × Sy.Cont)) (l : List ThreadD) (tv : Value) (cells : Int) (ns : Nat → Sy.Let) : Sy.Res (Value × List Blk) :=
 let z0 := ([] ++ rdOf B)
 Sy.Res.need (∃ (p : Option Addr), ∃ (n : Nat), ∃ (c : Nat), tv = Value.slice p n c) (Sy.Res.br (bif bif Ex.ltQ cells (0 : Int) then true else Ex.ltQ (4096 : Int) cells then true else Ex.ltQ (64 : Int) (Int.ofNat (Sy.lenS tv))) (Sy.Res.leaf (Value.bool false, Blk.mk (Let.n (ns 0)) (Sy.Cont.obj (Obj.cells (Array.mk [Value.int IntKind.i64 cells, tv]) (24 : Nat))) true :: rdOf B)) (Sy.Res.need (∃ (p : Option Addr), ∃ (n : Nat), ∃ (c : Nat), tv = Value.slice p n c) (Sy.Res.need (ThreadsR B tv l) (Sy.Res.need (Sy.GotL z0 B) (Sy.Res.both (Sy.Res.hyp (∃ (i : Nat), ∃ (t : ThreadD), l[i]? = some t ∧ badThr cells t) (Sy.Res.leaf (Value.bool false, [] ++ z0))) (Sy.Res.hyp (badThrs cells l → False) (Sy.Res.leaf (Value.bool true, [] ++ z0))))))))
theorem wg_run (B : List (Nat × Sy.Cont)) (l : List ThreadD) (tv : Value) (cells : Int) : Sy.Ran (Sy.inB Tryz.prog (ctxG B l tv cells) 50 fWhole #[progV cells tv] (rdOf B)) wg_o (wg_R B l tv cells) := ⟨fun ns => by kernel_rfl, fun ns => by kernel_rfl⟩
end Go.Proofs.YtlpcnaeknbmjdaaGreat

namespace Go.Proofs.YtlpcnaeknbmjdaaGreat
open Go Go.RowKit
open Sy (Let Blk HasL)
noncomputable def out0 (cells : Int) (l : List ThreadD) : Bool := bif bif Ex.ltQ cells 0 then true else Ex.ltQ 4096 cells then true else Ex.ltQ 64 (Int.ofNat l.length)
open Classical in

noncomputable def wholeF (cells : Int) (l : List ThreadD) : Bool := decide (¬ (out0 cells l = true ∨ badThrs cells l))
noncomputable def wholeC (B : List (Nat × Sy.Cont)) (tv : Value) (l : List ThreadD) (cells : Int) : Sy.CallC := ⟨fWhole, #[progV cells tv], ThreadsR B tv l, ⟨[], [], 0, B⟩, [Sy.plainO (.bool (wholeF cells l))]⟩
open Classical in
theorem wholeC_met (B : List (Nat × Sy.Cont)) (tv : Value) (l : List ThreadD) (cells : Int) : Sy.Meets Tryz.prog (wholeC B tv l cells) := by
  refine Sy.meets_ofB (ctxG_holds B l tv cells) mixed (L := rdOf B) (Sy.Ent.refl _) (wg_run B l tv cells) fun hR ns => ?_
  have leaf : ∀ (b : Bool) (L : List Blk), b = wholeF cells l → Sy.leafB (wholeC B tv l cells) (.bool b, L) := fun b L h => plainB_leaf (List.mem_singleton_self _) rfl (by rw [h])
  replace hR : ThreadsR B tv l := hR
  simp only [wg_R, Sy.Res.holds]
  refine ⟨hR.sl, fun hb => leaf _ _ ?_, fun hb => ⟨hR.sl, hR, gotL_of (fun p hp => by simpa using hp), fun h => leaf _ _ ?_, fun h => leaf _ _ ?_⟩⟩
  · rw [hR.len] at hb
    exact (decide_eq_false (fun h => h (.inl hb))).symm
  · exact (decide_eq_false (fun h' => h' (.inr h))).symm
  · rw [hR.len] at hb
    refine (decide_eq_true ?_).symm
    rintro (h' | h')
    · exact absurd h' (by unfold out0; rw [hb]; exact Bool.false_ne_true)
    · exact h h'
end Go.Proofs.YtlpcnaeknbmjdaaGreat

namespace Go.Proofs.YtlpcnaeknbmjdaaGreat
open Go Go.RowKit
open Sy (Let Blk HasL)
end Go.Proofs.YtlpcnaeknbmjdaaGreat

namespace Go.Proofs.YtlpcnaeknbmjdaaGreat
open Go Go.RowKit
open Sy (Let Blk)
def Sim : List Blk → List Blk → Prop
  | [], [] => True
  | a :: A, b :: B => (b.nm = a.nm ∧ b.own = a.own ∧ ∀ h, a.ct.sat h → b.ct.sat h) ∧ Sim A B
  | _, _ => False
theorem Sim.refl : ∀ A : List Blk, Sim A A
  | [] => trivial
  | _ :: A => ⟨⟨rfl, rfl, fun _ h => h⟩, Sim.refl A⟩
theorem Sim.mem : ∀ {A B : List Blk}, Sim A B → ∀ b ∈ B, ∃ a ∈ A, b.nm = a.nm ∧ b.own = a.own ∧ ∀ h, a.ct.sat h → b.ct.sat h
  | [], [], _, b, hb => by cases hb
  | a :: A, b :: B, ⟨h1, h2⟩, c, hc => by
    rcases List.mem_cons.1 hc with rfl | hc
    · exact ⟨a, List.mem_cons_self, h1⟩
    · obtain ⟨x, hx, h⟩ := Sim.mem h2 c hc
      exact ⟨x, List.mem_cons_of_mem _ hx, h⟩
  | [], _ :: _, h, _, _ => h.elim
  | _ :: _, [], h, _, _ => h.elim
theorem Sim.far : ∀ {A B : List Blk}, Sim A B → A.Pairwise Sy.Far → B.Pairwise Sy.Far
  | [], [], _, _ => List.Pairwise.nil
  | a :: A, b :: B, ⟨⟨h1, h2, _⟩, hs⟩, hp => by
    rw [List.pairwise_cons] at hp ⊢
    refine ⟨fun c hc ho => ?_, Sim.far hs hp.2⟩
    obtain ⟨x, hx, e1, e2, -⟩ := Sim.mem hs c hc
    rw [h1, e1]
    rw [h2, e2] at ho
    exact hp.1 x hx ho
  | [], _ :: _, h, _ => h.elim
  | _ :: _, [], h, _ => h.elim
theorem ent_sim {A B : List Blk} (h : Sim A B) : Sy.Ent A B := fun w0 keep W hr => by
  refine ⟨hr.os, hr.tape, hr.output, hr.size, hr.old, fun p hp => ?_, h.far hr.far⟩
  obtain ⟨a, ha, e1, e2, e3⟩ := h.mem p hp
  rw [e1, e2]
  exact ⟨e3 _ (hr.blk a ha).1, (hr.blk a ha).2⟩
end Go.Proofs.YtlpcnaeknbmjdaaGreat

namespace Go.Proofs.YtlpcnaeknbmjdaaGreat.Gn
set_option linter.unusedVariables false
set_option linter.unusedSimpArgs false
open Go Go.RowKit
open Go.Proofs.YtlpcnaeknbmjdaaGreat.Sy (Let Blk HasL)
open Lw (I insCells tI)
def slP (v : Value) : Option Addr := match v with
  | .slice p _ _ => p
  | _ => none
def slC (v : Value) : Nat := match v with
  | .slice _ _ c => c
  | _ => 0
abbrev slV (v : Value) : Value := .slice (slP v) (Sy.lenS v) (slC v)
def rowB (v : Value) (X : List I) : List (Nat × Sy.Cont) := match slP v with
  | some ⟨g, 0, none⟩ => [(g, .row tI 6 X.length (slC v) (insCells X))]
  | _ => []
def RowV (v : Value) (X : List I) : Prop := (X = [] ∧ slP v = none ∧ Sy.lenS v = 0 ∧ slC v = 0) ∨ (∃ g, slP v = some ⟨g, 0, none⟩ ∧ Sy.lenS v = X.length ∧ X.length ≤ slC v ∧ X ≠ [])
structure Rw where
  B : Value → List I → List (Nat × Sy.Cont)
  V : Value → List I → Prop
def rowQ : Rw := ⟨rowB, RowV⟩
abbrev tY : TypeId := 132
def layC (lv mp tv : Value) (e : Int) (b : Bool) : Sy.Cont := .obj (.cells #[lv, mp, tv, .int .i64 e, .bool b] tY (0, 0))
abbrev fPut : FuncId := 60
def pNR_o : Sy.O := (Sy.O.pack 17 0x800000210842100000 Sy.O.nil)
noncomputable def pNR_R (y : Nat) (s : Nat) (m : Nat) (c : Nat) (mp : Value) (tv : Value) (e : Int) (b : Bool) (Z : List I) (ns : Nat → Sy.Let) : Sy.Res (Value × List Blk) :=
 let z0 := ((0 : Nat) + m)
 let z1 := (Let.n (ns 1))
 Sy.Res.need ((0 : Nat) = (0 : Nat) ∧ List.length (insCells Z) = m * (6 : Nat) ∧ ∀ (u : Value), u ∈ insCells Z → Value.oneCell' u = true) (Sy.Res.need ((1 : Nat) ≤ m) (Sy.Res.need ((0 : Nat) + m ≤ (9223372036854775807 : Nat)) (Sy.Res.need (z0 * (48 : Nat) ≤ (140737488355328 : Nat)) (Sy.Res.hyp (Nat.le z0 z1) (Sy.Res.leaf (Value.tuple (Array.mk []), [Blk.mk (Let.n (ns 0)) (Sy.Cont.row (49 : Nat) (6 : Nat) z0 z1 ([] ++ insCells Z)) true, Blk.mk s (Sy.Cont.seg (0 : Nat) (insCells Z)) false, Blk.mk y (Sy.Cont.obj (Obj.cells (Array.mk [Value.slice (some (Addr.mk (Let.n (ns 0)) (0 : Nat) none)) z0 z1, mp, tv, Value.int IntKind.i64 e, Value.bool b]) (132 : Nat))) true]))))))
theorem pNR_run (y s m c : Nat) (mp tv : Value) (e : Int) (b : Bool) (Z : List I) : Sy.Ran (Sy.inB Tryz.prog Sy.S0 50 fPut #[.pointer (some ⟨y, 0, none⟩), .slice (some ⟨s, 0, none⟩) m c] [⟨y, layC (.slice none 0 0) mp tv e b, true⟩, ⟨s, .seg 0 (insCells Z), false⟩]) pNR_o (pNR_R y s m c mp tv e b Z) := ⟨fun ns => by kernel_rfl, fun ns => by kernel_rfl⟩
def pRR_o : Sy.O := (Sy.O.pack 20 0x4000001008210842200000 Sy.O.nil)
noncomputable def pRR_R (y : Nat) (s : Nat) (m : Nat) (c : Nat) (g : Nat) (n : Nat) (cap : Nat) (mp : Value) (tv : Value) (e : Int) (b : Bool) (xs : List Value) (Z : List I) (ns : Nat → Sy.Let) : Sy.Res (Value × List Blk) :=
 let z0 := (insCells Z)
 let z1 := (Let.n (ns 1))
 Sy.Res.need ((0 : Nat) = (0 : Nat) ∧ List.length z0 = m * (6 : Nat) ∧ ∀ (u : Value), u ∈ insCells Z → Value.oneCell' u = true) (Sy.Res.need ((1 : Nat) ≤ m) (Sy.Res.need (n + m ≤ (9223372036854775807 : Nat)) (Sy.Res.need ((n + m) * (48 : Nat) ≤ (140737488355328 : Nat)) (Sy.Res.hyp (Nat.le (n + m) z1) (Sy.Res.leaf (Value.tuple (Array.mk []), [Blk.mk (Let.n (ns 0)) (Sy.Cont.row (49 : Nat) (6 : Nat) (n + m) z1 (List.append xs z0)) true, Blk.mk s (Sy.Cont.seg (0 : Nat) z0) false, Blk.mk y (Sy.Cont.obj (Obj.cells (Array.mk [Value.slice (some (Addr.mk (Let.n (ns 0)) (0 : Nat) none)) (n + m) z1, mp, tv, Value.int IntKind.i64 e, Value.bool b]) (132 : Nat))) true]))))))
theorem pRR_run (y s m c g n cap : Nat) (mp tv : Value) (e : Int) (b : Bool) (xs : List Value) (Z : List I) : Sy.Ran (Sy.inB Tryz.prog Sy.S0 50 fPut #[.pointer (some ⟨y, 0, none⟩), .slice (some ⟨s, 0, none⟩) m c] [⟨y, layC (.slice (some ⟨g, 0, none⟩) n cap) mp tv e b, true⟩, ⟨g, .row tI 6 n cap xs, true⟩, ⟨s, .seg 0 (insCells Z), false⟩]) pRR_o (pRR_R y s m c g n cap mp tv e b xs Z) := ⟨fun ns => by kernel_rfl, fun ns => by kernel_rfl⟩
def pNN_o : Sy.O := (Sy.O.pack 7 0x8000 Sy.O.nil)
noncomputable def pNN_R (y : Nat) (mp : Value) (tv : Value) (e : Int) (b : Bool) (ns : Nat → Sy.Let) : Sy.Res (Value × List Blk) :=
 Sy.Res.leaf (Value.tuple (Array.mk []), [Blk.mk y (Sy.Cont.obj (Obj.cells (Array.mk [Value.slice none (0 : Nat) (0 : Nat), mp, tv, Value.int IntKind.i64 e, Value.bool b]) (132 : Nat))) true])
theorem pNN_run (y : Nat) (mp tv : Value) (e : Int) (b : Bool) : Sy.Ran (Sy.inB Tryz.prog Sy.S0 50 fPut #[.pointer (some ⟨y, 0, none⟩), .slice none 0 0] [⟨y, layC (.slice none 0 0) mp tv e b, true⟩]) pNN_o (pNN_R y mp tv e b) := ⟨fun ns => by kernel_rfl, fun ns => by kernel_rfl⟩
def pRN_o : Sy.O := (Sy.O.pack 13 0x4000002100000 Sy.O.nil)
noncomputable def pRN_R (y : Nat) (g : Nat) (n : Nat) (cap : Nat) (mp : Value) (tv : Value) (e : Int) (b : Bool) (xs : List Value) (ns : Nat → Sy.Let) : Sy.Res (Value × List Blk) :=
 Sy.Res.hyp True (Sy.Res.leaf (Value.tuple (Array.mk []), [Blk.mk g (Sy.Cont.row (49 : Nat) (6 : Nat) n cap xs) true, Blk.mk y (Sy.Cont.obj (Obj.cells (Array.mk [Value.slice (some (Addr.mk g (0 : Nat) none)) n cap, mp, tv, Value.int IntKind.i64 e, Value.bool b]) (132 : Nat))) true]))
theorem pRN_run (y g n cap : Nat) (mp tv : Value) (e : Int) (b : Bool) (xs : List Value) : Sy.Ran (Sy.inB Tryz.prog Sy.S0 50 fPut #[.pointer (some ⟨y, 0, none⟩), .slice none 0 0] [⟨y, layC (.slice (some ⟨g, 0, none⟩) n cap) mp tv e b, true⟩, ⟨g, .row tI 6 n cap xs, true⟩]) pRN_o (pRN_R y g n cap mp tv e b xs) := ⟨fun ns => by kernel_rfl, fun ns => by kernel_rfl⟩
end Go.Proofs.YtlpcnaeknbmjdaaGreat.Gn

namespace Go.Proofs.YtlpcnaeknbmjdaaGreat.Gn
open Go Go.RowKit
open Go.Proofs.YtlpcnaeknbmjdaaGreat.Sy (Let Blk HasL)
open Lw (I insCells tI)
theorem RowV.lit {v : Value} {X : List I} (h : RowV v X) : (X = [] ∧ slV v = .slice none 0 0 ∧ rowB v X = []) ∨ ∃ g cap, slV v = .slice (some ⟨g, 0, none⟩) X.length cap ∧ rowB v X = [(g, .row tI 6 X.length cap (insCells X))] ∧ X.length ≤ cap ∧ X ≠ [] := by
  rcases h with ⟨h1, h2, h3, h4⟩ | ⟨g, h2, h3, h4, h5⟩
  · refine .inl ⟨h1, ?_, ?_⟩
    · rw [slV, h2, h3, h4]
    · unfold rowB
      rw [h2]
  · refine .inr ⟨g, slC v, ?_, ?_, h4, h5⟩
    · rw [slV, h2, h3]
    · unfold rowB
      rw [h2]
      rfl
theorem rowV_nil : RowV (.slice none 0 0) [] := .inl ⟨rfl, rfl, rfl, rfl⟩
theorem rowV_some {g cap : Nat} {X : List I} (h : X.length ≤ cap) (hne : X ≠ []) : RowV (.slice (some ⟨g, 0, none⟩) X.length cap) X := .inr ⟨g, rfl, rfl, h, hne⟩
theorem ins_len (l : List I) : (insCells l).length = l.length * 6 := Lw.insC_len l
theorem ins_app (a b : List I) : insCells (a ++ b) = insCells a ++ insCells b := Lw.insC_app a b
theorem ins_one (l : List I) : ∀ u ∈ insCells l, u.oneCell' = true := Lw.insC_one l
def letV (v : Value) : Let := ⟨0, 0, false, v, []⟩
def lv0 (ns : List Let) : Value := (ns.getD 0 Let.none).v
def putO (q : Rw) (y : Nat) (mp tv : Value) (e : Int) (b : Bool) (X : List I) : Sy.OutM × (List Let → Value) :=
  (⟨fun ns => q.V (lv0 ns) X, fun ns => [(y, layC (slV (lv0 ns)) mp tv e b)], fun ns => q.B (lv0 ns) X⟩, fun _ => .tuple #[])
def putL (q : Rw) (y s c : Nat) (v mp tv : Value) (e : Int) (b : Bool) (X Z : List I) : Sy.CallC :=
  ⟨fPut, #[.pointer (some ⟨y, 0, none⟩), .slice (some ⟨s, 0, none⟩) Z.length c], q.V v X ∧ Z ≠ [] ∧ X.length + Z.length ≤ 2000000, ⟨[(s, .seg 0 (insCells Z))], (y, layC (slV v) mp tv e b) :: q.B v X, 1, []⟩, [putO q y mp tv e b (X ++ Z)]⟩
def putW (q : Rw) (y : Nat) (v w mp tv : Value) (e : Int) (b : Bool) (X Z : List I) : Sy.CallC :=
  ⟨fPut, #[.pointer (some ⟨y, 0, none⟩), slV w], q.V v X ∧ q.V w Z ∧ X.length + Z.length ≤ 2000000, ⟨[], (y, layC (slV v) mp tv e b) :: q.B v X, 1, q.B w Z⟩, [putO q y mp tv e b (X ++ Z)]⟩
theorem put_leaf {c : Sy.CallC} {y : Nat} {mp tv : Value} {e : Int} {b : Bool} {X : List I} (ho : putO rowQ y mp tv e b X ∈ c.outs) (hm : c.mem.m = 1) {g n cap : Nat} {xs : List Value} {r : Value × List Blk} (hv : r.1 = .tuple #[]) (hn : n = X.length) (hxs : xs = insCells X) (hc : n ≤ cap) (hne : X ≠ [])
    {x : List Blk} (hr : r.2 = ⟨g, .row tI 6 n cap xs, true⟩ :: (x ++ [⟨y, layC (.slice (some ⟨g, 0, none⟩) n cap) mp tv e b, true⟩])) : Sy.leafB c r := by
  subst hn hxs
  refine ⟨_, ho, [letV (.slice (some ⟨g, 0, none⟩) X.length cap)], hm.symm, hv, ?_, rowV_some hc hne⟩
  rw [hr]
  show Sy.Ent _ [⟨y, layC (.slice (some ⟨g, 0, none⟩) X.length cap) mp tv e b, true⟩, ⟨g, .row tI 6 X.length cap (insCells X), true⟩]
  refine Sy.Ent.trans (Sy.Ent.sub (B := [⟨g, .row tI 6 X.length cap (insCells X), true⟩, ⟨y, layC (.slice (some ⟨g, 0, none⟩) X.length cap) mp tv e b, true⟩]) ?_) (Sy.Ent.perm (List.Perm.swap _ _ _))
  exact List.Sublist.cons_cons _ (List.sublist_append_right _ _)
theorem putL_met (y s c : Nat) (v mp tv : Value) (e : Int) (b : Bool) (X Z : List I) : Sy.Meets Tryz.prog (putL rowQ y s c v mp tv e b X Z) := fun hok => by
  obtain ⟨hX, hZ, hb⟩ := id hok
  have hpos : 1 ≤ Z.length := List.length_pos_iff.2 hZ
  rcases hX.lit with ⟨rfl, h1, h2⟩ | ⟨g, cap, h1, h2, hc, hne⟩
  · refine Sy.meets_ofB (c := putL rowQ y s c v mp tv e b [] Z) Sy.S0_holds mixed (L := [⟨y, layC (.slice none 0 0) mp tv e b, true⟩, ⟨s, .seg 0 (insCells Z), false⟩]) ?_ (pNR_run y s Z.length c mp tv e b Z) (fun _ ns => ?_) hok
    · show Sy.Ent (⟨s, .seg 0 (insCells Z), false⟩ :: ((((y, layC (slV v) mp tv e b) :: rowB v []).map Sy.ownOf) ++ [])) _
      rw [h1, h2]
      exact Sy.Ent.perm (List.Perm.swap _ _ _)
    · simp only [pNR_R, Sy.Res.holds]
      exact ⟨⟨trivial, ins_len Z, ins_one Z⟩, hpos, by omega, by omega, fun hc => put_leaf (x := [_]) (List.mem_singleton_self _) rfl rfl (by simp) (by simp) hc (by simpa using hZ) rfl⟩
  · refine Sy.meets_ofB (c := putL rowQ y s c v mp tv e b X Z) Sy.S0_holds mixed (L := [⟨y, layC (.slice (some ⟨g, 0, none⟩) X.length cap) mp tv e b, true⟩, ⟨g, .row tI 6 X.length cap (insCells X), true⟩, ⟨s, .seg 0 (insCells Z), false⟩]) ?_ (pRR_run y s Z.length c g X.length cap mp tv e b (insCells X) Z) (fun _ ns => ?_) hok
    · show Sy.Ent (⟨s, .seg 0 (insCells Z), false⟩ :: ((((y, layC (slV v) mp tv e b) :: rowB v X).map Sy.ownOf) ++ [])) _
      rw [h1, h2]
      exact Sy.Ent.perm ((List.Perm.swap _ _ _).trans ((List.Perm.swap _ _ _).cons _))
    · simp only [pRR_R, Sy.Res.holds]
      exact ⟨⟨trivial, ins_len Z, ins_one Z⟩, hpos, by omega, by omega, fun hc => put_leaf (x := [_]) (List.mem_singleton_self _) rfl rfl List.length_append.symm (ins_app X Z).symm hc (by simp [hne]) rfl⟩
theorem ent_seg {A : List Blk} {s n cap : Nat} {Z : List I} {b : Bool} : Sy.Ent (A ++ [⟨s, .row tI 6 n cap (insCells Z), b⟩]) (A ++ [⟨s, .seg 0 (insCells Z), b⟩]) := by
  have key : ∀ A : List Blk, Sim (A ++ [⟨s, .row tI 6 n cap (insCells Z), b⟩]) (A ++ [⟨s, .seg 0 (insCells Z), b⟩]) := fun A => by
    induction A with
    | nil => exact ⟨⟨rfl, rfl, fun _ h => Sy.Cont.sat_seg h⟩, trivial⟩
    | cons a A ih => exact ⟨⟨rfl, rfl, fun _ h => h⟩, ih⟩
  exact ent_sim (key A)
theorem putW_met (y : Nat) (v w mp tv : Value) (e : Int) (b : Bool) (X Z : List I) : Sy.Meets Tryz.prog (putW rowQ y v w mp tv e b X Z) := fun hok => by
  obtain ⟨hX, hW, hb⟩ := id hok
  rcases hW.lit with ⟨rfl, k1, k2⟩ | ⟨s, c, k1, k2, hc', hZ⟩
  · have hargs : (putW rowQ y v w mp tv e b X []).args = #[.pointer (some ⟨y, 0, none⟩), .slice none 0 0] := by
      show #[_, slV w] = _
      rw [k1]
    rcases hX.lit with ⟨rfl, h1, h2⟩ | ⟨g, cap, h1, h2, hc, hne⟩
    · refine Sy.meets_ofB (c := putW rowQ y v w mp tv e b [] []) Sy.S0_holds mixed (L := [⟨y, layC (.slice none 0 0) mp tv e b, true⟩]) ?_ (by rw [hargs]; exact pNN_run y mp tv e b) (fun _ ns => ?_) hok
      · show Sy.Ent ((((y, layC (slV v) mp tv e b) :: rowB v []).map Sy.ownOf) ++ rdOf (rowB w [])) _
        rw [h1, h2, k2]
        exact Sy.Ent.refl _
      · simp only [pNN_R, Sy.Res.holds]
        exact ⟨_, List.mem_singleton_self _, [letV (.slice none 0 0)], rfl, rfl, Sy.Ent.refl _, rowV_nil⟩
    · refine Sy.meets_ofB (c := putW rowQ y v w mp tv e b X []) Sy.S0_holds mixed (L := [⟨y, layC (.slice (some ⟨g, 0, none⟩) X.length cap) mp tv e b, true⟩, ⟨g, .row tI 6 X.length cap (insCells X), true⟩]) ?_ (by rw [hargs]; exact pRN_run y g X.length cap mp tv e b (insCells X)) (fun _ ns => ?_) hok
      · show Sy.Ent ((((y, layC (slV v) mp tv e b) :: rowB v X).map Sy.ownOf) ++ rdOf (rowB w [])) _
        rw [h1, h2, k2]
        exact Sy.Ent.refl _
      · simp only [pRN_R, Sy.Res.holds]
        exact fun _ => put_leaf (x := []) (List.mem_singleton_self _) rfl rfl (by simp) (by simp) hc (by simpa using hne) rfl
  · have hpos : 1 ≤ Z.length := List.length_pos_iff.2 hZ
    have hargs : (putW rowQ y v w mp tv e b X Z).args = #[.pointer (some ⟨y, 0, none⟩), .slice (some ⟨s, 0, none⟩) Z.length c] := by
      show #[_, slV w] = _
      rw [k1]
    rcases hX.lit with ⟨rfl, h1, h2⟩ | ⟨g, cap, h1, h2, hc, hne⟩
    · refine Sy.meets_ofB (c := putW rowQ y v w mp tv e b [] Z) Sy.S0_holds mixed (L := [⟨y, layC (.slice none 0 0) mp tv e b, true⟩, ⟨s, .seg 0 (insCells Z), false⟩]) ?_ (by rw [hargs]; exact pNR_run y s Z.length c mp tv e b Z) (fun _ ns => ?_) hok
      · show Sy.Ent ((((y, layC (slV v) mp tv e b) :: rowB v []).map Sy.ownOf) ++ rdOf (rowB w Z)) _
        rw [h1, h2, k2]
        exact ent_seg (A := [_])
      · simp only [pNR_R, Sy.Res.holds]
        exact ⟨⟨trivial, ins_len Z, ins_one Z⟩, hpos, by omega, by omega, fun hc => put_leaf (x := [_]) (List.mem_singleton_self _) rfl rfl (by simp) (by simp) hc (by simpa using hZ) rfl⟩
    · refine Sy.meets_ofB (c := putW rowQ y v w mp tv e b X Z) Sy.S0_holds mixed (L := [⟨y, layC (.slice (some ⟨g, 0, none⟩) X.length cap) mp tv e b, true⟩, ⟨g, .row tI 6 X.length cap (insCells X), true⟩, ⟨s, .seg 0 (insCells Z), false⟩]) ?_ (by rw [hargs]; exact pRR_run y s Z.length c g X.length cap mp tv e b (insCells X) Z) (fun _ ns => ?_) hok
      · show Sy.Ent ((((y, layC (slV v) mp tv e b) :: rowB v X).map Sy.ownOf) ++ rdOf (rowB w Z)) _
        rw [h1, h2, k2]
        exact ent_seg (A := [_, _])
      · simp only [pRR_R, Sy.Res.holds]
        exact ⟨⟨trivial, ins_len Z, ins_one Z⟩, hpos, by omega, by omega, fun hc => put_leaf (x := [_]) (List.mem_singleton_self _) rfl rfl List.length_append.symm (ins_app X Z).symm hc (by simp [hne]) rfl⟩
end Go.Proofs.YtlpcnaeknbmjdaaGreat.Gn

namespace Go.Proofs.YtlpcnaeknbmjdaaGreat.Lw
set_option linter.unusedVariables false
set_option linter.unusedSimpArgs false
open Go Go.RowKit
open Go.Proofs.YtlpcnaeknbmjdaaGreat.Sy (Let Blk)
noncomputable def ctxE (A : Option Addr) (c : Nat) : Sy.Ctx := Sy.mkS [(159, fun a _ => numC (Sy.argI a 0) (Sy.argI a 1)), (fRNum, fun a _ => rnum0 (Sy.argI a 1) (Sy.argI a 2)),
  (fRNum, fun a L => rnumA (Sy.ptrN (Sy.argV a 0)) (Sy.lenV (Sy.argV a 0)) (Sy.capN (Sy.argV a 0)) (Sy.firstRow L) (Sy.argI a 1) (Sy.argI a 2))] [] []
theorem ctxE_holds (A : Option Addr) (c : Nat) : (ctxE A c).holds Tryz.prog := Sy.mkS_holds (fun p hp a L => by
  rcases List.mem_cons.1 hp with rfl | hp
  · exact numC_met _ _
  rcases List.mem_cons.1 hp with rfl | hp
  · exact rnum0_met _ _
  rcases List.mem_singleton.1 hp with rfl
  exact rnumA_met _ _ _ _ _ _) (fun _ h => (by cases h)) (fun _ h => (by cases h))
def aeZ_o : Sy.O := (Sy.O.steps [0, 0, 0, 0, 0, 0, 0, 0, 0] (Sy.O.fork (Sy.O.steps [0, 0, 0, 0, 0, 0, 0, 0, 0, 0, 0, 0, 0, 0, 0, 0, 0] Sy.O.nil) (Sy.O.steps [0, 0, 0, 0] (Sy.O.fork (Sy.O.steps [0, 0, 0, 0, 0, 0, 0, 0, 0, 0, 0, 0] Sy.O.nil) (Sy.O.steps [0] (Sy.O.fork (Sy.O.steps [0, 0, 0, 0, 0, 0, 0, 0, 0, 0] Sy.O.nil) (Sy.O.steps [0] (Sy.O.fork (Sy.O.steps [0, 0, 0, 0, 0, 0, 0, 0] Sy.O.nil) (Sy.O.steps [0, 0, 0, 0, 0, 0, 0, 0, 0, 0, 0, 0, 0, 0, 0, 0, 0, 0, 0, 0] Sy.O.nil)))))))))
noncomputable def aeZ_R (A : Option Addr) (c : Nat) (b : Int) (k : Int) (ns : Nat → Sy.Let) : Sy.Res (Value × List Blk) :=
 let z0 := (Ex.wrapQ IntKind.i64 (Ex.addQ (65536 : Int) (Ex.wrapQ IntKind.i64 (Ex.mulQ (8 : Int) b))))
 let z1 := (numL (29 : Int) (Ex.wrapQ IntKind.u64 z0))
 let z2 := (List.length z1)
 let z3 := (Let.n (ns 1))
 Sy.Res.br (bif false then true else Ex.ltQ b (0 : Int)) (Sy.Res.leaf (Value.tuple (Array.mk [Value.slice none (0 : Nat) (0 : Nat), Value.int IntKind.i64 (1 : Int)]), [])) (Sy.Res.br (bif false then true else Ex.ltQ (4095 : Int) b) (Sy.Res.leaf (Value.tuple (Array.mk [Value.slice none (0 : Nat) (0 : Nat), Value.int IntKind.i64 (1 : Int)]), [])) (Sy.Res.br (bif false then true else Ex.ltQ k (0 : Int)) (Sy.Res.leaf (Value.tuple (Array.mk [Value.slice none (0 : Nat) (0 : Nat), Value.int IntKind.i64 (1 : Int)]), [])) (Sy.Res.br (bif false then true else Ex.leQ (5 : Int) k) (Sy.Res.leaf (Value.tuple (Array.mk [Value.slice none (0 : Nat) (0 : Nat), Value.int IntKind.i64 (1 : Int)]), [])) (Sy.Res.need ((0 : Int) ≤ Ex.wrapQ IntKind.u64 z0 ∧ Ex.wrapQ IntKind.u64 z0 < (18446744073709551616 : Int)) (Sy.Res.hyp (Nat.le z2 z3) (Sy.Res.leaf (Value.tuple (Array.mk [Value.slice (some (Addr.mk (Let.n (ns 0)) (0 : Nat) none)) z2 z3, Value.int IntKind.i64 (0 : Int)]), [Blk.mk (Let.n (ns 0)) (Sy.Cont.row (49 : Nat) (6 : Nat) z2 z3 (insCells z1)) true])))))))
theorem aeZ_run (A : Option Addr) (c : Nat) (b k : Int) : Sy.Ran (Sy.inT Tryz.prog (ctxE A c) 60 fAd #[.int .i64 b, .int .i64 0, .slice A 0 c, .int .i64 k] [] (Sy.rowT tI)) aeZ_o (aeZ_R A c b k) := ⟨fun ns => by kernel_rfl, fun ns => by kernel_rfl⟩
end Go.Proofs.YtlpcnaeknbmjdaaGreat.Lw

namespace Go.Proofs.YtlpcnaeknbmjdaaGreat.Lw
open Go Go.RowKit
open Go.Proofs.YtlpcnaeknbmjdaaGreat.Sy (Let Blk)
def zeroOk (b k : Int) : Prop := (0 ≤ b ∧ b ≤ 4095) ∧ 0 ≤ k ∧ k < 5
noncomputable def aeOk (A : Option Addr) (c : Nat) (b k : Int) : Sy.CallC := ⟨fAd, #[.int .i64 b, .int .i64 0, .slice A 0 c, .int .i64 k], zeroOk b k, ⟨[], [], 2, []⟩, [Sy.rowO tI 6 (numL 29 (65536 + 8 * b)).length (insCells (numL 29 (65536 + 8 * b))) fun v => .tuple #[v, .int .i64 0]]⟩
theorem aeOk_met (A : Option Addr) (c : Nat) (b k : Int) : Sy.Meets Tryz.prog (aeOk A c b k) := by
  refine Sy.meets_of (ctxE_holds A c) mixed (aeZ_run A c b k) fun hok ns => ?_
  obtain ⟨⟨b0, b1⟩, k0, k1⟩ : zeroOk b k := hok
  simp only [aeZ_R, Sy.Res.holds, Int.ofNat_eq_natCast, Sy.b_and, Sy.b_or, Sy.b_not, Sy.b_f, Sy.b_and', Sy.b_or', Sy.q_lt, Sy.q_le, Sy.q_eq, Sy.b_tt, Sy.b_ft, not_true_eq_false, not_false_eq_true, some_int, some_bool, exists_eq', true_and, tru_t, false_or, place_q b0 (show b ≤ 4096 by omega)]
  exact ⟨fun h => absurd h (by omega), fun _ => ⟨fun h => absurd h (by omega), fun _ => ⟨fun h => absurd h (by omega), fun _ => ⟨fun h => absurd h (by omega), fun _ => ⟨by omega, fun hc => Sy.rowO_leaf' (List.mem_singleton_self _) rfl 0 rfl rfl rfl rfl hc⟩⟩⟩⟩⟩
end Go.Proofs.YtlpcnaeknbmjdaaGreat.Lw

namespace Go.Proofs.YtlpcnaeknbmjdaaGreat.Gn
open Go Go.RowKit
open Go.Proofs.YtlpcnaeknbmjdaaGreat.Sy (Let Blk HasL)
open Lw (I insCells tI Nd ndCells isExpr goodN lenOk outL addrL need2 geoOk tr)
def nds (l : List NodeD) : List Nd := l.map fun n => ⟨n.op, n.val, n.a, n.b⟩
theorem nds_len (l : List NodeD) : (nds l).length = l.length := by simp [nds]
theorem nodes_cellG {B : List (Nat × Sy.Cont)} {v : Value} {l : List NodeD} (h : NodesR B v l) : ∀ (j : Nat) (u : Value), (ndCells (nds l))[j]? = some u → HasL (rdOf B) (Sy.ptrS v) (Sy.offS v + j) u := fun j u hu => by
  have e : ndCells (nds l) = l.flatMap fun n => [.int .i64 n.op, .int .u64 n.val, .int .i64 n.a, .int .i64 n.b] := by
    simp [ndCells, nds, List.flatMap_map, Nd.cells]
  rw [e] at hu
  have hlen : ∀ l : List NodeD, (l.flatMap fun n => [Value.int .i64 n.op, .int .u64 n.val, .int .i64 n.a, .int .i64 n.b]).length = l.length * 4 := fun l => by
    induction l with
    | nil => rfl
    | cons x l ih => rw [List.flatMap_cons, List.length_append, ih, List.length_cons]; simp; omega
  have key : ∀ (l : List NodeD) (j : Nat), (l.flatMap fun n => [Value.int .i64 n.op, .int .u64 n.val, .int .i64 n.a, .int .i64 n.b])[j]? = some u → ∃ n, l[j / 4]? = some n ∧ [Value.int .i64 n.op, .int .u64 n.val, .int .i64 n.a, .int .i64 n.b][j % 4]? = some u := fun l => by
    induction l with
    | nil => intro j h; simp at h
    | cons x l ih =>
      intro j h
      rw [List.flatMap_cons] at h
      rcases Nat.lt_or_ge j 4 with hj | hj
      · rw [List.getElem?_append_left (by simpa using hj)] at h
        exact ⟨x, by rw [Nat.div_eq_of_lt hj]; rfl, by rw [Nat.mod_eq_of_lt hj]; exact h⟩
      · rw [List.getElem?_append_right (by simpa using hj)] at h
        obtain ⟨n, h1, h2⟩ := ih (j - 4) (by simpa using h)
        refine ⟨n, ?_, ?_⟩
        · rw [show j / 4 = (j - 4) / 4 + 1 by omega]
          simpa using h1
        · rw [show j % 4 = (j - 4) % 4 by omega]
          exact h2
  obtain ⟨n, hn, hc⟩ := key l j hu
  have hd := Nat.div_add_mod j 4
  rw [Nat.mul_comm] at hd
  have h4 : j % 4 < 4 := Nat.mod_lt _ (by omega)
  generalize hk : j % 4 = k at *
  generalize hi : j / 4 = i at *
  subst hd
  have h0 := h.op i n hn
  have h1 := h.val i n hn
  have h2 := h.a i n hn
  have h3 := h.b i n hn
  match k, h4, hc with
  | 0, _, hc => injection hc with hc; subst hc; simpa [Nat.add_assoc] using h0
  | 1, _, hc => injection hc with hc; subst hc; simpa [Nat.add_assoc] using h1
  | 2, _, hc => injection hc with hc; subst hc; simpa [Nat.add_assoc] using h2
  | 3, _, hc => injection hc with hc; subst hc; simpa [Nat.add_assoc] using h3
theorem pre_bundle {use B : List (Nat × Sy.Cont)} {m m' : Nat} {s o : Nat} {cs : List Value} {W : World} (hpos : 0 < cs.length) (hc : ∀ j u, cs[j]? = some u → HasL (rdOf B) s (o + j) u) (h : (⟨[], use, m, B⟩ : Sy.MemC).pre W) : (⟨[(s, .seg o cs)], use, m', []⟩ : Sy.MemC).pre W := by
  have hB : Sy.There (rdOf B) W := fun q hq => by
    obtain ⟨p, hp, rfl⟩ := List.mem_map.1 hq
    exact h.rb p hp
  refine ⟨fun p hp => ?_, h.use, h.nodup, fun p hp q hq => ?_, fun p hp => (by cases hp), fun p hp => (by cases hp)⟩
  · rcases List.mem_singleton.1 hp with rfl
    exact Sy.hasL_seg hB hpos hc
  · rcases List.mem_singleton.1 hp with rfl
    obtain ⟨x, hx, hn, -⟩ := hc 0 _ (List.getElem?_eq_getElem hpos)
    obtain ⟨r, hr, rfl⟩ := List.mem_map.1 hx
    intro he
    exact h.apartB r hr q hq (hn.trans he)
theorem pre_drop {use B : List (Nat × Sy.Cont)} {m m' : Nat} {W : World} (h : (⟨[], use, m, B⟩ : Sy.MemC).pre W) : (⟨[], use, m', []⟩ : Sy.MemC).pre W :=
  ⟨h.rd, h.use, h.nodup, h.apart, fun p hp => (by cases hp), fun p hp => (by cases hp)⟩
def rowU (q : Rw) (X : List I) (f : Value → Value) : Sy.OutM × (List Let → Value) := (⟨fun ns => q.V (lv0 ns) X, fun _ => [], fun ns => q.B (lv0 ns) X⟩, fun ns => f (slV (lv0 ns)))
theorem post_row {c c' : Sy.MemC} {n : Nat} {xs : List Value} {f f' : Value → Value} {X : List I} {W W' : World} {ns : List Let} (h : c.post (Sy.rowO tI 6 n xs f).1 W W' ns) (huse : c'.use = c.use) (hm : c'.m = 1) (hn : n = X.length) (hxs : xs = insCells X) (hne : X ≠ []) :
    c'.post (rowU rowQ X f').1 W W' [letV (.slice (some ⟨Sy.num ns 0, 0, none⟩) X.length (Sy.num ns 1))] := by
  subst hn hxs
  refine ⟨hm.symm, rowV_some h.hyp hne, h.os, h.tape, h.output, h.size, fun k hk hu => h.old k hk (by rw [← huse]; exact hu), fun p hp => (by cases hp), List.nodup_nil, fun p hp => ?_, ?_, fun p hp => (by cases hp)⟩
  · rw [huse]
    exact h.nw p hp
  · show ((rowB (.slice (some ⟨Sy.num ns 0, 0, none⟩) X.length (Sy.num ns 1)) X).map (·.1)).Nodup
    exact List.nodup_cons.2 ⟨by simp, List.nodup_nil⟩
theorem post_keep {c c' : Sy.MemC} {o : Sy.OutM} {f' : Value → Value} {v : Value} {X : List I} {W W' : World} {ns : List Let} (h : c.post o W W' ns) (huse : c'.use = c.use) (hm : c'.m = 1) (hX : RowV v X) (hnw : ∀ p ∈ rowB v X, p ∈ o.nw ns) :
    c'.post (rowU rowQ X f').1 W W' [letV v] := by
  refine ⟨hm.symm, hX, h.os, h.tape, h.output, h.size, fun k hk hu => h.old k hk (by rw [← huse]; exact hu), fun p hp => (by cases hp), List.nodup_nil, fun p hp => ?_, ?_, fun p hp => (by cases hp)⟩
  · rw [huse]
    exact h.nw p (hnw p hp)
  · show ((rowB v X).map (·.1)).Nodup
    rcases hX.lit with ⟨rfl, -, h2⟩ | ⟨g, cap, -, h2, -⟩
    · rw [h2]; exact List.nodup_nil
    · rw [h2]; exact List.nodup_cons.2 ⟨by simp, List.nodup_nil⟩
end Go.Proofs.YtlpcnaeknbmjdaaGreat.Gn

namespace Go.Proofs.YtlpcnaeknbmjdaaGreat.Gn
open Go Go.RowKit
open Go.Proofs.YtlpcnaeknbmjdaaGreat.Sy (Let Blk HasL)
open Lw (I insCells tI Nd ndCells isExpr goodN lenOk outL addrL need2 geoOk tr numL zeroOk)
noncomputable def exprI (l : List NodeD) (k : Int) : List I := if k + ((tr (nds l) ((nds l).length - 1)).needs : Int) ≤ 5 then outL (nds l) k else []
noncomputable def exprE (l : List NodeD) (k : Int) : Int := if k + ((tr (nds l) ((nds l).length - 1)).needs : Int) ≤ 5 then 0 else 30
def okE (B : List (Nat × Sy.Cont)) (v : Value) (l : List NodeD) (k : Int) : Prop := OkX B v l ∧ isExpr 24 (nds l) ∧ goodN (nds l) ∧ 0 ≤ k ∧ k < 5
theorem slice_lit {B : List (Nat × Sy.Cont)} {v : Value} {l : List NodeD} (h : OkX B v l) (hne : l ≠ []) : ∃ c, v = .slice (some ⟨Sy.ptrS v, Sy.offS v, none⟩) (nds l).length c := by
  obtain ⟨n, c, hv⟩ := h.1.at_ hne
  have hn : n = l.length := by have := h.1.len; rw [hv] at this; simpa [Sy.lenS] using this
  exact ⟨c, by rw [nds_len, ← hn]; exact hv⟩
theorem ne_of_expr {l : List NodeD} (h : isExpr 24 (nds l)) : l ≠ [] := fun he => by
  have := h.2.1
  rw [he] at this
  simp [nds] at this
theorem lenOk_of {B : List (Nat × Sy.Cont)} {v : Value} {l : List NodeD} (h : OkX B v l) (hne : l ≠ []) (hg : goodN (nds l)) : lenOk (nds l) :=
  ⟨⟨by rw [nds_len]; exact List.length_pos_iff.2 hne, by rw [nds_len]; have := h.2; omega⟩, hg⟩
theorem cells_pos {l : List NodeD} (hne : l ≠ []) : 0 < (ndCells (nds l)).length := by
  have : 0 < l.length := List.length_pos_iff.2 hne
  cases l with
  | nil => exact absurd rfl hne
  | cons x l => simp [nds, ndCells, Nd.cells]
theorem outL_ne (l : List Nd) (k : Int) : outL l k ≠ [] := fun h => by
  have := Lw.lay_pos (tr l (l.length - 1)) (24 + k)
  unfold outL at h
  rw [h] at this
  simp at this
abbrev fLX : FuncId := 132
noncomputable def lxC (q : Rw) (B : List (Nat × Sy.Cont)) (ev : Value) (l : List NodeD) (k : Int) : Sy.CallC := ⟨fLX, #[ev, .int .i64 k], okE B ev l k, ⟨[], [], 1, B⟩, [rowU q (exprI l k) fun s => .tuple #[s, .int .i64 (exprE l k)]]⟩
theorem lxC_met (B : List (Nat × Sy.Cont)) (ev : Value) (l : List NodeD) (k : Int) : Sy.Meets Tryz.prog (lxC rowQ B ev l k) := fun hok W hpre => by
  obtain ⟨hX, hE, hG, h0, h5⟩ := hok
  have hne := ne_of_expr hE
  obtain ⟨c, hv⟩ := slice_lit hX hne
  have hl := lenOk_of hX hne hG
  have hargs : (lxC rowQ B ev l k).args = Lw.txArgs (Sy.ptrS ev) (Sy.offS ev) c (nds l) k := by
    show #[ev, .int .i64 k] = #[.slice (some ⟨Sy.ptrS ev, Sy.offS ev, none⟩) (nds l).length c, .int .i64 k]
    rw [← hv]
  have hcell := nodes_cellG hX.1
  have hpos := cells_pos hne
  show Calls _ fLX (lxC rowQ B ev l k).args W _
  rw [hargs]
  by_cases hk : k + ((tr (nds l) ((nds l).length - 1)).needs : Int) ≤ 5
  · refine (Lw.txOk_met (Sy.ptrS ev) (Sy.offS ev) c (nds l) k ⟨hl, hE, h0, hk⟩ W (pre_bundle hpos hcell hpre)).mono ?_
    rintro e W' ⟨o, ho, ns, rfl, hpost⟩
    rcases List.mem_singleton.1 ho with rfl
    refine ⟨_, List.mem_singleton_self _, _, ?_, post_row hpost (X := exprI l k) rfl rfl (by rw [exprI, if_pos hk]) (by rw [exprI, if_pos hk]) (by rw [exprI, if_pos hk]; exact outL_ne _ _)⟩
    show _ = Ending.returned (.tuple #[.slice _ _ _, .int .i64 (exprE l k)])
    rw [exprE, if_pos hk, exprI, if_pos hk]
    rfl
  · refine (Lw.txReg_met (Sy.ptrS ev) (Sy.offS ev) c (nds l) k ⟨hl, hE, h0, h5, by omega⟩ W (pre_bundle hpos hcell hpre)).mono ?_
    rintro e W' ⟨o, ho, ns, rfl, hpost⟩
    rcases List.mem_singleton.1 ho with rfl
    refine ⟨_, List.mem_singleton_self _, [letV (.slice none 0 0)], ?_, post_keep hpost (X := exprI l k) rfl rfl (by rw [exprI, if_neg hk]; exact rowV_nil) (by rw [exprI, if_neg hk]; exact fun p hp => (by cases hp))⟩
    show _ = Ending.returned (.tuple #[.slice _ _ _, .int .i64 (exprE l k)])
    rw [exprE, if_neg hk]
    rfl
noncomputable def placeI (b s : Int) (l : List NodeD) (k : Int) : List I := if s = 0 then numL 29 (65536 + 8 * b) else if k + need2 (nds l) ≤ 5 then addrL b s (nds l) k else []
noncomputable def placeE (s : Int) (l : List NodeD) (k : Int) : Int := if s = 0 then 0 else if k + need2 (nds l) ≤ 5 then 0 else 30
def okP (B : List (Nat × Sy.Cont)) (v : Value) (b s : Int) (l : List NodeD) (k : Int) : Prop := OkX B v l ∧ goodN (nds l) ∧ ((s = 0 ∧ l = [] ∧ zeroOk b k) ∨ geoOk b s (nds l) k)
theorem addrL_ne (b s : Int) (l : List Nd) (k : Int) : addrL b s l k ≠ [] := fun h => by
  unfold addrL at h
  simp at h
theorem numL_ne (r v : Int) : numL r v ≠ [] := fun h => by
  have := Lw.numL_pos r v
  rw [h] at this
  simp at this
theorem slice_nil {B : List (Nat × Sy.Cont)} {v : Value} (h : OkX B v []) : ∃ A c, v = .slice A 0 c := by
  obtain ⟨p, n, c, hv⟩ := h.1.sl
  have hn : n = 0 := by have := h.1.len; rw [hv] at this; simpa [Sy.lenS] using this
  exact ⟨p, c, by rw [hv, hn]⟩
theorem succ_of {s : Int} (h : 1 ≤ s) : ∃ p, s = .ofNat (.succ p) := by
  obtain ⟨n, rfl⟩ : ∃ n : Nat, s = n := ⟨s.toNat, by omega⟩
  cases n with
  | zero => omega
  | succ p => exact ⟨p, rfl⟩
abbrev fLA : FuncId := 133
noncomputable def laC (q : Rw) (B : List (Nat × Sy.Cont)) (ev : Value) (b s : Int) (l : List NodeD) (k : Int) : Sy.CallC := ⟨fLA, #[.int .i64 b, .int .i64 s, ev, .int .i64 k], okP B ev b s l k, ⟨[], [], 1, B⟩, [rowU q (placeI b s l k) fun v => .tuple #[v, .int .i64 (placeE s l k)]]⟩
theorem laC_met (B : List (Nat × Sy.Cont)) (ev : Value) (b s : Int) (l : List NodeD) (k : Int) : Sy.Meets Tryz.prog (laC rowQ B ev b s l k) := fun hok W hpre => by
  obtain ⟨hX, hG, ⟨rfl, rfl, hz⟩ | hgeo⟩ := hok
  · obtain ⟨A, c, rfl⟩ := slice_nil hX
    refine (Lw.aeOk_met A c b k hz W (pre_drop hpre)).mono ?_
    rintro e W' ⟨o, ho, ns, rfl, hpost⟩
    rcases List.mem_singleton.1 ho with rfl
    refine ⟨_, List.mem_singleton_self _, _, ?_, post_row hpost (X := placeI b 0 [] k) rfl rfl (by rw [placeI, if_pos rfl]) (by rw [placeI, if_pos rfl]) (by rw [placeI, if_pos rfl]; exact numL_ne _ _)⟩
    show _ = Ending.returned (.tuple #[.slice _ _ _, .int .i64 (placeE 0 [] k)])
    rw [placeE, if_pos rfl, placeI, if_pos rfl]
    rfl
  · have hE := hgeo.2.2
    have hne := ne_of_expr hE
    obtain ⟨c, hv⟩ := slice_lit hX hne
    have hl := lenOk_of hX hne hG
    have hcell := nodes_cellG hX.1
    have hpos := cells_pos hne
    have hs := hgeo.1.1.bound
    have hs0 : ¬ s = 0 := by omega
    obtain ⟨p, hp⟩ := succ_of hs.1
    have hargs : (laC rowQ B ev b s l k).args = Lw.adArgs (Sy.ptrS ev) (Sy.offS ev) c (nds l) b (.ofNat (.succ p)) k := by
      show (#[.int .i64 b, .int .i64 s, ev, .int .i64 k] : Array Value) = #[.int .i64 b, .int .i64 (.ofNat (.succ p)), .slice (some ⟨Sy.ptrS ev, Sy.offS ev, none⟩) (nds l).length c, .int .i64 k]
      rw [← hv, hp]
    show Calls _ fLA (laC rowQ B ev b s l k).args W _
    rw [hargs]
    by_cases hk : k + need2 (nds l) ≤ 5
    · refine (Lw.adP_ok (Sy.ptrS ev) (Sy.offS ev) c (nds l) b k p ⟨hl, by rw [← hp]; exact ⟨hgeo, hk⟩⟩ W (pre_bundle hpos hcell hpre)).mono ?_
      rintro e W' ⟨o, ho, ns, rfl, hpost⟩
      rcases List.mem_singleton.1 ho with rfl
      rw [← hp] at hpost ⊢
      refine ⟨_, List.mem_singleton_self _, _, ?_, post_row hpost (X := placeI b s l k) rfl rfl (by rw [placeI, if_neg hs0, if_pos hk]) (by rw [placeI, if_neg hs0, if_pos hk]) (by rw [placeI, if_neg hs0, if_pos hk]; exact addrL_ne _ _ _ _)⟩
      show _ = Ending.returned (.tuple #[.slice _ _ _, .int .i64 (placeE s l k)])
      rw [placeE, if_neg hs0, if_pos hk, placeI, if_neg hs0, if_pos hk]
      rfl
    · refine (Lw.adP_reg (Sy.ptrS ev) (Sy.offS ev) c (nds l) b k p ⟨hl, by rw [← hp]; exact ⟨hgeo, by omega⟩⟩ W (pre_bundle hpos hcell hpre)).mono ?_
      rintro e W' ⟨o, ho, ns, rfl, hpost⟩
      rcases List.mem_singleton.1 ho with rfl
      refine ⟨_, List.mem_singleton_self _, [letV (.slice none 0 0)], ?_, post_keep hpost (X := placeI b s l k) rfl rfl (by rw [placeI, if_neg hs0, if_neg hk]; exact rowV_nil) (by rw [placeI, if_neg hs0, if_neg hk]; exact fun p hp => (by cases hp))⟩
      show _ = Ending.returned (.tuple #[.slice _ _ _, .int .i64 (placeE s l k)])
      rw [placeE, if_neg hs0, if_neg hk]
      rfl
end Go.Proofs.YtlpcnaeknbmjdaaGreat.Gn

namespace Go.Proofs.YtlpcnaeknbmjdaaGreat.Gn
set_option linter.unusedVariables false
set_option linter.unusedSimpArgs false
open Go Go.RowKit
open Go.Proofs.YtlpcnaeknbmjdaaGreat.Sy (Let Blk HasL)
open Lw (I insCells tI)
abbrev fTake : FuncId := 131
noncomputable def Sy.eOf (L : List Blk) : Int := match L with
  | ⟨_, .obj (.cells cs _ _), _⟩ :: _ => Sy.argI cs 3
  | _ => 0
noncomputable def ctxTk (q : Rw) (y : Nat) (v w mp tv : Value) (b : Bool) (X Z : List I) : Sy.Ctx := Sy.mkU Sy.S0 [(fPut, fun _ L => (putW q y v w mp tv (Sy.eOf L) b X Z).toU [(y, layC (slV v) mp tv (Sy.eOf L) b)] (q.B v X) (rdOf (q.B w Z)))] []
theorem ctxTk_holds (y : Nat) (v w mp tv : Value) (b : Bool) (X Z : List I) : (ctxTk rowQ y v w mp tv b X Z).holds Tryz.prog := Sy.mkU_holds Sy.S0_holds (fun p hp a L => by
  rcases List.mem_singleton.1 hp with rfl
  exact putW_met _ _ _ _ _ _ _ _ _) (fun _ h => (by cases h))
def tk_o : Sy.O := (Sy.O.fork (Sy.O.pack 7 0x0 (Sy.O.fork (Sy.O.pack 10 0x200802000000 Sy.O.nil) (Sy.O.pack 7 0x40100400 Sy.O.nil))) (Sy.O.pack 12 0x80200800000000 Sy.O.nil))
noncomputable def tk_R (q : Rw) (y : Nat) (v : Value) (w : Value) (mp : Value) (tv : Value) (e : Int) (er : Int) (b : Bool) (X : List I) (Z : List I) (TL : List Blk) (ns : Nat → Sy.Let) : Sy.Res (Value × List Blk) :=
 let z0 := (q.2 v X ∧ q.2 w Z ∧ List.length X + List.length Z ≤ (2000000 : Nat))
 let z1 := ([] ++ ([] ++ rdOf (q.1 w Z)))
 let z2 := (Sy.GotL z1 (q.1 w Z))
 let z3 := (lv0 [ns (0 : Nat)])
 let z4 := (q.2 z3 (List.append X Z))
 Sy.Res.br (!Ex.eqQ er (0 : Int)) (Sy.Res.br (bif true then Ex.eqQ e (0 : Int) else false) (Sy.Res.need z0 (Sy.Res.need (List.Perm TL (List.append (List.map (fun (p : Nat × Sy.Cont) => Blk.mk (Prod.fst p) (Prod.snd p) true) (q.1 v X)) (rdOf (q.1 w Z)))) (Sy.Res.need z2 (Sy.Res.hyp z4 (Sy.Res.leaf (Value.tuple (Array.mk []), Blk.mk y (Sy.Cont.obj (Obj.cells (Array.mk [Value.slice (slP z3) (Sy.lenS z3) (slC z3), mp, tv, Value.int IntKind.i64 er, Value.bool b]) (132 : Nat))) true :: List.append z1 (List.map (fun (p : Nat × Sy.Cont) => Blk.mk (Prod.fst p) (Prod.snd p) true) (q.1 z3 (List.append X Z))))))))) (Sy.Res.need z0 (Sy.Res.need (List.Perm TL (List.append (List.map (fun (p : Nat × Sy.Cont) => Blk.mk (Prod.fst p) (Prod.snd p) true) (q.1 v X)) (rdOf (q.1 w Z)))) (Sy.Res.need z2 (Sy.Res.hyp z4 (Sy.Res.leaf (Value.tuple (Array.mk []), Blk.mk y (Sy.Cont.obj (Obj.cells (Array.mk [Value.slice (slP z3) (Sy.lenS z3) (slC z3), mp, tv, Value.int IntKind.i64 e, Value.bool b]) (132 : Nat))) true :: List.append z1 (List.map (fun (p : Nat × Sy.Cont) => Blk.mk (Prod.fst p) (Prod.snd p) true) (q.1 z3 (List.append X Z)))))))))) (Sy.Res.need z0 (Sy.Res.need (List.Perm TL (List.append (List.map (fun (p : Nat × Sy.Cont) => Blk.mk (Prod.fst p) (Prod.snd p) true) (q.1 v X)) (rdOf (q.1 w Z)))) (Sy.Res.need z2 (Sy.Res.hyp z4 (Sy.Res.leaf (Value.tuple (Array.mk []), Blk.mk y (Sy.Cont.obj (Obj.cells (Array.mk [Value.slice (slP z3) (Sy.lenS z3) (slC z3), mp, tv, Value.int IntKind.i64 e, Value.bool b])
 (132 : Nat))) true :: List.append z1 (List.map (fun (p : Nat × Sy.Cont) => Blk.mk (Prod.fst p) (Prod.snd p) true) (q.1 z3 (List.append X Z)))))))))
theorem tk_run (q : Rw) (y : Nat) (v w mp tv : Value) (e er : Int) (b : Bool) (X Z : List I) (TL : List Blk) : Sy.Ran (Sy.inB Tryz.prog (ctxTk q y v w mp tv b X Z) 50 fTake #[.pointer (some ⟨y, 0, none⟩), slV w, .int .i64 er] (⟨y, layC (slV v) mp tv e b, true⟩ :: TL)) tk_o (tk_R q y v w mp tv e er b X Z TL) := ⟨fun ns => by kernel_rfl, fun ns => by kernel_rfl⟩
end Go.Proofs.YtlpcnaeknbmjdaaGreat.Gn

namespace Go.Proofs.YtlpcnaeknbmjdaaGreat.Gn
open Go Go.RowKit
open Go.Proofs.YtlpcnaeknbmjdaaGreat.Sy (Let Blk HasL)
open Lw (I insCells tI)
noncomputable def fstE (e er : Int) : Int := bif !Ex.eqQ er 0 then (bif Ex.eqQ e 0 then er else e) else e
noncomputable def takeC (q : Rw) (y : Nat) (v w mp tv : Value) (e er : Int) (b : Bool) (X Z : List I) : Sy.CallC :=
  ⟨fTake, #[.pointer (some ⟨y, 0, none⟩), slV w, .int .i64 er], q.V v X ∧ q.V w Z ∧ X.length + Z.length ≤ 2000000, ⟨[], (y, layC (slV v) mp tv e b) :: q.B v X, 1, q.B w Z⟩, [putO q y mp tv (fstE e er) b (X ++ Z)]⟩
theorem lay_leaf {c : Sy.CallC} {y : Nat} {mp tv : Value} {e : Int} {b : Bool} {X : List I} (ho : putO rowQ y mp tv e b X ∈ c.outs) (hm : c.mem.m = 1) {v : Value} {r : Value × List Blk} (hv : r.1 = .tuple #[]) (hX : RowV v X)
    (hr : Sy.Ent r.2 (⟨y, layC (slV v) mp tv e b, true⟩ :: (rowB v X).map Sy.ownOf)) : Sy.leafB c r := ⟨_, ho, [letV v], hm.symm, hv, hr, hX⟩
theorem got_self (L : List Blk) (B : List (Nat × Sy.Cont)) (h : ∀ p ∈ B, ∃ b ∈ L, b.nm = p.1 ∧ b.ct = p.2) : Sy.GotL L B := fun p hp => by
  obtain ⟨b, hb, e1, e2⟩ := h p hp
  exact ⟨b, hb, e1, fun _ hs => e2 ▸ hs⟩
theorem takeC_met (y : Nat) (v w mp tv : Value) (e er : Int) (b : Bool) (X Z : List I) : Sy.Meets Tryz.prog (takeC rowQ y v w mp tv e er b X Z) := by
  refine Sy.meets_ofB (ctxTk_holds y v w mp tv b X Z) mixed (L := ⟨y, layC (slV v) mp tv e b, true⟩ :: ((rowB v X).map Sy.ownOf ++ rdOf (rowB w Z))) (Sy.Ent.refl _) (tk_run rowQ y v w mp tv e er b X Z _) fun hok ns => ?_
  have hgot : Sy.GotL (rdOf (rowB w Z)) (rowB w Z) := gotL_of fun p hp => hp
  have leaf : ∀ e', fstE e er = e' → RowV (ns 0).v (X ++ Z) → Sy.leafB (takeC rowQ y v w mp tv e er b X Z) (.tuple #[], ⟨y, layC (slV (ns 0).v) mp tv e' b, true⟩ :: (([] ++ ([] ++ rdOf (rowB w Z))) ++ (rowB (ns 0).v (X ++ Z)).map Sy.ownOf)) := fun e' he hX => by
    subst he
    exact lay_leaf (List.mem_singleton_self _) rfl rfl hX (Sy.Ent.sub (List.Sublist.cons_cons _ (List.sublist_append_right _ _)))
  simp only [tk_R, Sy.Res.holds]
  refine ⟨fun h1 => ⟨fun h2 => ⟨hok, List.Perm.refl _, hgot, fun hX => leaf _ ?_ hX⟩, fun h2 => ⟨hok, List.Perm.refl _, hgot, fun hX => leaf _ ?_ hX⟩⟩, fun h1 => ⟨hok, List.Perm.refl _, hgot, fun hX => leaf _ ?_ hX⟩⟩
  · unfold fstE
    rw [h1]
    simp only [cond_true] at h2 ⊢
    rw [h2]
    rfl
  · unfold fstE
    rw [h1]
    simp only [cond_true] at h2 ⊢
    rw [h2]
    rfl
  · unfold fstE
    rw [h1]
    rfl
end Go.Proofs.YtlpcnaeknbmjdaaGreat.Gn

namespace Go.Proofs.YtlpcnaeknbmjdaaGreat.Gn
set_option linter.unusedVariables false
set_option linter.unusedSimpArgs false
open Go Go.RowKit
open Go.Proofs.YtlpcnaeknbmjdaaGreat.Sy (Let Blk HasL)
open Lw (I insCells tI)
abbrev fExpr : FuncId := 100
abbrev fPlace : FuncId := 102
noncomputable def ctxEx (q : Rw) (B : List (Nat × Sy.Cont)) (R : List Blk) (y : Nat) (ev : Value) (l : List NodeD) (k : Int) (v mp tv : Value) (e : Int) (b : Bool) (X : List I) : Sy.Ctx :=
  Sy.mkU (Sy.mkS [(fLX, fun _ _ => lxC q B ev l k)] [] []) [(fTake, fun a _ => (takeC q y v (Sy.argV a 1) mp tv e (Sy.argI a 2) b X (exprI l k)).toU [(y, layC (slV v) mp tv e b)] (q.B v X) (R ++ (q.B (Sy.argV a 1) (exprI l k)).map Sy.ownOf))] []
def ex_o : Sy.O := (Sy.O.pack 12 0x80200800108420 Sy.O.nil)
noncomputable def ex_R (q : Rw) (B : List (Nat × Sy.Cont)) (R : List Blk) (TL : List Blk) (y : Nat) (ev : Value) (l : List NodeD) (k : Int) (v : Value) (mp : Value) (tv : Value) (e : Int) (b : Bool) (X : List I) (ns : Nat → Sy.Let) : Sy.Res (Value × List Blk) :=
 let z0 := (lv0 [ns (0 : Nat)])
 let z1 := (exprI l k)
 let z2 := (Value.slice (slP z0) (Sy.lenS z0) (slC z0))
 let z3 := (lv0 [ns (1 : Nat)])
 Sy.Res.need (OkX B ev l ∧ Lw.isExpr (24 : Int) (nds l) ∧ Lw.goodN (nds l) ∧ (0 : Int) ≤ k ∧ k < (5 : Int)) (Sy.Res.need (Sy.GotL TL B) (Sy.Res.hyp (q.2 z0 z1) (Sy.Res.need (q.2 v X ∧ q.2 z2 z1 ∧ List.length X + List.length z1 ≤ (2000000 : Nat)) (Sy.Res.need (List.Perm (List.append TL (List.map (fun (p : Nat × Sy.Cont) => Blk.mk (Prod.fst p) (Prod.snd p) true) (q.1 z0 z1))) (List.append (List.map (fun (p : Nat × Sy.Cont) => Blk.mk (Prod.fst p) (Prod.snd p) true) (q.1 v X)) (List.append R (List.map (fun (p : Nat × Sy.Cont) => Blk.mk (Prod.fst p) (Prod.snd p) true) (q.1 z2 z1))))) (Sy.Res.need (Sy.GotL (List.append R (List.map (fun (p : Nat × Sy.Cont) => Blk.mk (Prod.fst p) (Prod.snd p) true) (q.1 z2 z1))) (q.1 z2 z1)) (Sy.Res.hyp (q.2 z3 (List.append X z1)) (Sy.Res.leaf (Value.tuple (Array.mk []), Blk.mk y (Sy.Cont.obj (Obj.cells (Array.mk [Value.slice (slP z3) (Sy.lenS z3) (slC z3), mp, tv, Value.int IntKind.i64 (fstE e (exprE l k)), Value.bool b]) (132 : Nat))) true :: List.append (List.append R (List.map (fun (p : Nat × Sy.Cont) => Blk.mk (Prod.fst p) (Prod.snd p) true) (q.1 z2 z1))) (List.map (fun (p : Nat × Sy.Cont) => Blk.mk (Prod.fst p) (Prod.snd p) true) (q.1 z3 (List.append X z1)))))))))))
theorem ex_run (q : Rw) (B : List (Nat × Sy.Cont)) (R TL : List Blk) (y : Nat) (ev : Value) (l : List NodeD) (k : Int) (v mp tv : Value) (e : Int) (b : Bool) (X : List I) : Sy.Ran (Sy.inB Tryz.prog (ctxEx q B R y ev l k v mp tv e b X) 50 fExpr #[.pointer (some ⟨y, 0, none⟩), ev, .int .i64 k] (⟨y, layC (slV v) mp tv e b, true⟩ :: TL)) ex_o (ex_R q B R TL y ev l k v mp tv e b X) := ⟨fun ns => by kernel_rfl, fun ns => by kernel_rfl⟩
noncomputable def ctxPl (q : Rw) (B : List (Nat × Sy.Cont)) (R : List Blk) (y : Nat) (iv : Value) (bs s : Int) (l : List NodeD) (k : Int) (v mp tv : Value) (e : Int) (b : Bool) (X : List I) : Sy.Ctx :=
  Sy.mkU (Sy.mkS [(fLA, fun _ _ => laC q B iv bs s l k)] [] []) [(fTake, fun a _ => (takeC q y v (Sy.argV a 1) mp tv e (Sy.argI a 2) b X (placeI bs s l k)).toU [(y, layC (slV v) mp tv e b)] (q.B v X) (R ++ (q.B (Sy.argV a 1) (placeI bs s l k)).map Sy.ownOf))] []
def pl_o : Sy.O := (Sy.O.pack 22 0x410842108021104000000000000 Sy.O.nil)
noncomputable def pl_R (q : Rw) (B : List (Nat × Sy.Cont)) (R : List Blk) (TL : List Blk) (y : Nat) (a : ActD) (iv : Value) (ev : Value) (fv : Value) (k : Int) (v : Value) (mp : Value) (tv : Value) (e : Int) (b : Bool) (X : List I) (ns : Nat → Sy.Let) : Sy.Res (Value × List Blk) :=
 let z0 := (ActD.ix a)
 let z1 := (ActD.base a)
 let z2 := (ActD.size a)
 let z3 := (lv0 [ns (1 : Nat)])
 let z4 := (placeI z1 z2 z0 k)
 let z5 := (Value.slice (slP z3) (Sy.lenS z3) (slC z3))
 let z6 := (lv0 [ns (2 : Nat)])
 Sy.Res.need (OkX B iv z0 ∧ Lw.goodN (nds z0) ∧ (ActD.size a = (0 : Int) ∧ ActD.ix a = [] ∧ Lw.zeroOk z1 k ∨ Lw.geoOk z1 z2 (nds z0) k)) (Sy.Res.need (Sy.GotL TL B) (Sy.Res.hyp (q.2 z3 z4) (Sy.Res.need (q.2 v X ∧ q.2 z5 z4 ∧ List.length X + List.length z4 ≤ (2000000 : Nat)) (Sy.Res.need (List.Perm (List.append TL (List.map (fun (p : Nat × Sy.Cont) => Blk.mk (Prod.fst p) (Prod.snd p) true) (q.1 z3 z4))) (List.append (List.map (fun (p : Nat × Sy.Cont) => Blk.mk (Prod.fst p) (Prod.snd p) true) (q.1 v X)) (List.append R (List.map (fun (p : Nat × Sy.Cont) => Blk.mk (Prod.fst p) (Prod.snd p) true) (q.1 z5 z4))))) (Sy.Res.need (Sy.GotL (List.append R (List.map (fun (p : Nat × Sy.Cont) => Blk.mk (Prod.fst p) (Prod.snd p) true) (q.1 z5 z4))) (q.1 z5 z4)) (Sy.Res.hyp (q.2 z6 (List.append X z4)) (Sy.Res.leaf (Value.tuple (Array.mk []), Blk.mk y (Sy.Cont.obj (Obj.cells (Array.mk [Value.slice (slP z6) (Sy.lenS z6) (slC z6), mp, tv, Value.int IntKind.i64 (fstE e (placeE z2 z0 k)), Value.bool b]) (132 : Nat))) true :: List.append (List.append R (List.map (fun (p : Nat × Sy.Cont) => Blk.mk (Prod.fst p) (Prod.snd p) true) (q.1 z5 z4))) (List.map (fun (p : Nat × Sy.Cont) => Blk.mk (Prod.fst p) (Prod.snd p) true) (q.1 z6 (List.append X z4)))))))))))
theorem pl_run (q : Rw) (B : List (Nat × Sy.Cont)) (R TL : List Blk) (y : Nat) (a : ActD) (iv ev fv : Value) (k : Int) (v mp tv : Value) (e : Int) (b : Bool) (X : List I) : Sy.Ran (Sy.inY Tryz.prog (ctxPl q B R y iv a.base a.size a.ix k v mp tv e b X) 50 fPlace #[.pointer (some ⟨y, 0, none⟩), actV a iv ev fv, .int .i64 k] (⟨y, layC (slV v) mp tv e b, true⟩ :: TL) 1) pl_o (pl_R q B R TL y a iv ev fv k v mp tv e b X) := ⟨fun ns => by kernel_rfl, fun ns => by kernel_rfl⟩
end Go.Proofs.YtlpcnaeknbmjdaaGreat.Gn

namespace Go.Proofs.YtlpcnaeknbmjdaaGreat.Gn
open Go Go.RowKit
open Go.Proofs.YtlpcnaeknbmjdaaGreat.Sy (Let Blk HasL)
open Lw (I insCells tI)
noncomputable def exprL (q : Rw) (B : List (Nat × Sy.Cont)) (y : Nat) (ev : Value) (l : List NodeD) (k : Int) (v mp tv : Value) (e : Int) (b : Bool) (X : List I) : Sy.CallC :=
  ⟨fExpr, #[.pointer (some ⟨y, 0, none⟩), ev, .int .i64 k], okE B ev l k ∧ q.V v X ∧ X.length + (exprI l k).length ≤ 2000000, ⟨[], (y, layC (slV v) mp tv e b) :: q.B v X, 1, B⟩, [putO q y mp tv (fstE e (exprE l k)) b (X ++ exprI l k)]⟩
noncomputable def placeL (q : Rw) (B : List (Nat × Sy.Cont)) (y : Nat) (a : ActD) (iv ev fv : Value) (k : Int) (v mp tv : Value) (e : Int) (b : Bool) (X : List I) : Sy.CallC :=
  ⟨fPlace, #[.pointer (some ⟨y, 0, none⟩), actV a iv ev fv, .int .i64 k], okP B iv a.base a.size a.ix k ∧ q.V v X ∧ X.length + (placeI a.base a.size a.ix k).length ≤ 2000000, ⟨[], (y, layC (slV v) mp tv e b) :: q.B v X, 1, B⟩, [putO q y mp tv (fstE e (placeE a.size a.ix k)) b (X ++ placeI a.base a.size a.ix k)]⟩
theorem got_last (R : List Blk) (C : List (Nat × Sy.Cont)) : Sy.GotL (R ++ C.map Sy.ownOf) C := got_self _ _ fun p hp => ⟨Sy.ownOf p, List.mem_append_right _ (List.mem_map.2 ⟨p, hp, rfl⟩), rfl, rfl⟩
theorem got_end (R : List Blk) (B : List (Nat × Sy.Cont)) : Sy.GotL (R ++ rdOf B) B := gotL_of fun _ h => List.mem_append_right _ h
theorem exprL_met (B : List (Nat × Sy.Cont)) (y : Nat) (ev : Value) (l : List NodeD) (k : Int) (v mp tv : Value) (e : Int) (b : Bool) (X : List I) : Sy.Meets Tryz.prog (exprL rowQ B y ev l k v mp tv e b X) := by
  have hS : (ctxEx rowQ B (rdOf B) y ev l k v mp tv e b X).holds Tryz.prog := Sy.mkU_holds (Sy.mkS_holds (fun p hp a L => by
    rcases List.mem_singleton.1 hp with rfl
    exact lxC_met _ _ _ _) (fun _ h => (by cases h)) (fun _ h => (by cases h))) (fun p hp a L => by
    rcases List.mem_singleton.1 hp with rfl
    exact takeC_met _ _ _ _ _ _ _ _ _ _) (fun _ h => (by cases h))
  refine Sy.meets_ofB hS mixed (L := ⟨y, layC (slV v) mp tv e b, true⟩ :: ((rowB v X).map Sy.ownOf ++ rdOf B)) (Sy.Ent.refl _) (ex_run rowQ B (rdOf B) ((rowB v X).map Sy.ownOf ++ rdOf B) y ev l k v mp tv e b X) fun hok ns => ?_
  obtain ⟨h1, h2, h3⟩ := hok
  simp only [ex_R, Sy.Res.holds]
  refine ⟨h1, got_end _ _, fun hZ => ⟨⟨h2, hZ, h3⟩, List.Perm.of_eq (List.append_assoc _ _ _), got_last _ _, fun hX => ?_⟩⟩
  exact lay_leaf (List.mem_singleton_self _) rfl rfl hX (Sy.Ent.sub (List.Sublist.cons_cons _ (List.sublist_append_right _ _)))
theorem placeL_met (B : List (Nat × Sy.Cont)) (y : Nat) (a : ActD) (iv ev fv : Value) (k : Int) (v mp tv : Value) (e : Int) (b : Bool) (X : List I) : Sy.Meets Tryz.prog (placeL rowQ B y a iv ev fv k v mp tv e b X) := by
  have hS : (ctxPl rowQ B (rdOf B) y iv a.base a.size a.ix k v mp tv e b X).holds Tryz.prog := Sy.mkU_holds (Sy.mkS_holds (fun p hp a L => by
    rcases List.mem_singleton.1 hp with rfl
    exact laC_met _ _ _ _ _ _) (fun _ h => (by cases h)) (fun _ h => (by cases h))) (fun p hp a L => by
    rcases List.mem_singleton.1 hp with rfl
    exact takeC_met _ _ _ _ _ _ _ _ _ _) (fun _ h => (by cases h))
  refine Sy.meets_ofY (k := 1) hS mixed (L := ⟨y, layC (slV v) mp tv e b, true⟩ :: ((rowB v X).map Sy.ownOf ++ rdOf B)) (Sy.Ent.refl _) (pl_run rowQ B (rdOf B) ((rowB v X).map Sy.ownOf ++ rdOf B) y a iv ev fv k v mp tv e b X) fun hok ns => ?_
  obtain ⟨h1, h2, h3⟩ := hok
  simp only [pl_R, Sy.Res.holds]
  refine ⟨h1, got_end _ _, fun hZ => ⟨⟨h2, hZ, h3⟩, List.Perm.of_eq (List.append_assoc _ _ _), got_last _ _, fun hX => ?_⟩⟩
  exact lay_leaf (List.mem_singleton_self _) rfl rfl hX (Sy.Ent.sub (List.Sublist.cons_cons _ (List.sublist_append_right _ _)))
end Go.Proofs.YtlpcnaeknbmjdaaGreat.Gn

namespace Go.Proofs.YtlpcnaeknbmjdaaGreat.Gn
set_option linter.unusedVariables false
set_option linter.unusedSimpArgs false
open Go Go.RowKit
open Go.Proofs.YtlpcnaeknbmjdaaGreat.Sy (Let Blk HasL)
open Lw (I insCells tI)
noncomputable def Sy.iV (v : Value) : Int := match v with
  | .int _ n => n
  | _ => 0
noncomputable def Sy.parse : Nat → List Value → List I := fun n => @Nat.rec (fun _ => List Value → List I) (fun _ => []) (fun _ ih l => match l with
  | a :: b :: c :: d :: e :: f :: r => ⟨Sy.iV a, Sy.iV b, Sy.iV c, Sy.iV d, Sy.iV e, Sy.iV f⟩ :: ih r
  | _ => []) n
noncomputable def Sy.appI (a b : List I) : List I := @List.rec I (fun _ => List I) b (fun x _ ih => x :: ih) a
noncomputable def Sy.newest (t : Nat) (L : List Blk) : List Value := @List.rec Blk (fun _ => List Value) [] (fun p _ ih => match p.ct with
  | .obj (.cells cs u _) => match Nat.beq t u with
    | true => cs.toList
    | false => ih
  | _ => ih) L
noncomputable def Sy.isLd (l : List I) : Bool := match l with
  | i :: _ => bif Ex.eqQ i.rn 29 then !Ex.eqQ i.rm 30 else false
  | _ => false
noncomputable def Sy.flat (L : List Blk) : List I := @List.rec Blk (fun _ => List I) [] (fun p _ ih => match p.ct with
  | .obj (.cells cs u _) => match Nat.beq tI u with
    | true => bif Sy.isLd (Sy.parse 8 cs.toList) then Sy.parse 8 cs.toList else Sy.appI ih (Sy.parse 8 cs.toList)
    | false => ih
  | _ => ih) L
noncomputable def Sy.nthV (l : List Value) (i : Nat) : Value := match Sy.nth l i with
  | some v => v
  | none => undef
noncomputable def Sy.eY (L : List Blk) : Int := Sy.iV (Sy.nthV (Sy.newest tY L) 3)
noncomputable def Sy.vY (L : List Blk) : Value := Sy.nthV (Sy.newest tY L) 0
noncomputable def acqF (m : Int) : Bool := bif (bif Ex.eqQ m 2 then true else Ex.eqQ m 4) then true else Ex.eqQ m 5
noncomputable def relF (m : Int) : Bool := bif (bif Ex.eqQ m 3 then true else Ex.eqQ m 4) then true else Ex.eqQ m 5
noncomputable def nzI (m rd : Int) : List I := bif acqF m then [] else [⟨21, rd, 0, 0, 1, 0⟩]
abbrev fLd : FuncId := 105
abbrev fSt : FuncId := 106
abbrev fMove : FuncId := 101
abbrev fAcc : FuncId := 103
abbrev fAcq : FuncId := 134
abbrev fRel : FuncId := 135
def ac_o : Sy.O := (Sy.O.steps [1, 1] Sy.O.nil)
noncomputable def ac_R (m : Int) (ns : Nat → Sy.Let) : Sy.Res (Value × List Blk) :=
 Sy.Res.leaf (Value.bool (bif bif Ex.eqQ m (2 : Int) then true else Ex.eqQ m (4 : Int) then true else Ex.eqQ m (5 : Int)), [])
theorem ac_run (m : Int) : Sy.Ran (Sy.inB Tryz.prog Sy.S0 50 fAcq #[.int .i64 m] []) ac_o (ac_R m) := ⟨fun ns => by kernel_rfl, fun ns => by kernel_rfl⟩
def re_o : Sy.O := (Sy.O.steps [1, 1] Sy.O.nil)
noncomputable def re_R (m : Int) (ns : Nat → Sy.Let) : Sy.Res (Value × List Blk) :=
 Sy.Res.leaf (Value.bool (bif bif Ex.eqQ m (3 : Int) then true else Ex.eqQ m (4 : Int) then true else Ex.eqQ m (5 : Int)), [])
theorem re_run (m : Int) : Sy.Ran (Sy.inB Tryz.prog Sy.S0 50 fRel #[.int .i64 m] []) re_o (re_R m) := ⟨fun ns => by kernel_rfl, fun ns => by kernel_rfl⟩
def mv_o : Sy.O := (Sy.O.pack 7 0x40000000 Sy.O.nil)
noncomputable def mv_R (rd : Int) (rm : Int) (TL : List Blk) (ns : Nat → Sy.Let) : Sy.Res (Value × List Blk) :=
 Sy.Res.leaf (Value.agg (Array.mk [Value.int IntKind.i64 (6 : Int), Value.int IntKind.i64 rd, Value.int IntKind.i64 (31 : Int), Value.int IntKind.i64 rm, Value.int IntKind.i64 (0 : Int), Value.int IntKind.i64 (0 : Int)]), TL)
theorem mv_run (rd rm : Int) (TL : List Blk) : Sy.Ran (Sy.inY Tryz.prog Sy.S0 50 fMove #[.int .i64 rd, .int .i64 rm] TL 0) mv_o (mv_R rd rm TL) := ⟨fun ns => by kernel_rfl, fun ns => by kernel_rfl⟩
def acs_o : Sy.O := (Sy.O.pack 7 0x40000000 Sy.O.nil)
noncomputable def acs_R (op : Int) (rd : Int) (TL : List Blk) (ns : Nat → Sy.Let) : Sy.Res (Value × List Blk) :=
 Sy.Res.leaf (Value.agg (Array.mk [Value.int IntKind.i64 op, Value.int IntKind.i64 rd, Value.int IntKind.i64 (29 : Int), Value.int IntKind.i64 (0 : Int), Value.int IntKind.i64 (0 : Int), Value.int IntKind.i64 (0 : Int)]), TL)
theorem acs_run (op rd : Int) (TL : List Blk) : Sy.Ran (Sy.inY Tryz.prog Sy.S0 50 fAcc #[.int .i64 op, .int .i64 rd] TL 0) acs_o (acs_R op rd TL) := ⟨fun ns => by kernel_rfl, fun ns => by kernel_rfl⟩
noncomputable def mvC (rd rm : Int) : Sy.CallC := Sy.plainC fMove #[.int .i64 rd, .int .i64 rm] (.agg #[.int .i64 6, .int .i64 rd, .int .i64 31, .int .i64 rm, .int .i64 0, .int .i64 0])
noncomputable def asC (op rd : Int) : Sy.CallC := Sy.plainC fAcc #[.int .i64 op, .int .i64 rd] (.agg #[.int .i64 op, .int .i64 rd, .int .i64 29, .int .i64 0, .int .i64 0, .int .i64 0])
theorem mvC_met (rd rm : Int) : Sy.Meets Tryz.prog (mvC rd rm) := by
  refine Sy.meets_ofY (k := 0) Sy.S0_holds mixed (L := []) (Sy.Ent.refl _) (mv_run rd rm []) fun _ ns => ?_
  simp only [mv_R, Sy.Res.holds]
  exact plainB_leaf (v := .agg #[.int .i64 6, .int .i64 rd, .int .i64 31, .int .i64 rm, .int .i64 0, .int .i64 0]) (List.mem_singleton_self _) rfl rfl
theorem asC_met (op rd : Int) : Sy.Meets Tryz.prog (asC op rd) := by
  refine Sy.meets_ofY (k := 0) Sy.S0_holds mixed (L := []) (Sy.Ent.refl _) (acs_run op rd []) fun _ ns => ?_
  simp only [acs_R, Sy.Res.holds]
  exact plainB_leaf (v := .agg #[.int .i64 op, .int .i64 rd, .int .i64 29, .int .i64 0, .int .i64 0, .int .i64 0]) (List.mem_singleton_self _) rfl rfl
noncomputable def acC (m : Int) : Sy.CallC := Sy.plainC fAcq #[.int .i64 m] (.bool (acqF m))
noncomputable def reC (m : Int) : Sy.CallC := Sy.plainC fRel #[.int .i64 m] (.bool (relF m))
theorem acC_met (m : Int) : Sy.Meets Tryz.prog (acC m) := by
  refine Sy.meets_ofB Sy.S0_holds mixed (L := []) (Sy.Ent.refl _) (ac_run m) fun _ ns => ?_
  simp only [ac_R, Sy.Res.holds]
  exact plainB_leaf (v := .bool (acqF m)) (List.mem_singleton_self _) rfl rfl
theorem reC_met (m : Int) : Sy.Meets Tryz.prog (reC m) := by
  refine Sy.meets_ofB Sy.S0_holds mixed (L := []) (Sy.Ent.refl _) (re_run m) fun _ ns => ?_
  simp only [re_R, Sy.Res.holds]
  exact plainB_leaf (v := .bool (relF m)) (List.mem_singleton_self _) rfl rfl
noncomputable def ctxAR (m : Int) : Sy.Ctx := Sy.mkS [(fAcq, fun _ _ => acC m), (fRel, fun _ _ => reC m)] [] []
theorem ctxAR_holds (m : Int) : (ctxAR m).holds Tryz.prog := Sy.mkS_holds (fun p hp a L => by
  rcases List.mem_cons.1 hp with rfl | hp
  · exact acC_met m
  rcases List.mem_singleton.1 hp with rfl
  exact reC_met m) (fun _ h => (by cases h)) (fun _ h => (by cases h))
def ld_o : Sy.O := (Sy.O.pack 4 0x8000 (Sy.O.fork (Sy.O.pack 13 0x2004000800000000 Sy.O.nil) (Sy.O.pack 13 0x2004000800000000 Sy.O.nil)))
noncomputable def ld_R (m : Int) (rd : Int) (TL : List Blk) (ns : Nat → Sy.Let) : Sy.Res (Value × List Blk) :=
 Sy.Res.need True (Sy.Res.hyp True (Sy.Res.br (acqF m) (Sy.Res.leaf (Value.agg (Array.mk [Value.int IntKind.i64 (27 : Int), Value.int IntKind.i64 rd, Value.int IntKind.i64 (29 : Int), Value.int IntKind.i64 (0 : Int), Value.int IntKind.i64 (0 : Int), Value.int IntKind.i64 (0 : Int)]), TL)) (Sy.Res.leaf (Value.agg (Array.mk [Value.int IntKind.i64 (26 : Int), Value.int IntKind.i64 rd, Value.int IntKind.i64 (29 : Int), Value.int IntKind.i64 (0 : Int), Value.int IntKind.i64 (0 : Int), Value.int IntKind.i64 (0 : Int)]), TL))))
theorem ld_run (m rd : Int) (TL : List Blk) : Sy.Ran (Sy.inY Tryz.prog (ctxAR m) 50 fLd #[.int .i64 m, .int .i64 rd] TL 0) ld_o (ld_R m rd TL) := ⟨fun ns => by kernel_rfl, fun ns => by kernel_rfl⟩
def st_o : Sy.O := (Sy.O.pack 13 0x1000000000000000 (Sy.O.fork (Sy.O.pack 16 0x18040008000000000000 Sy.O.nil) (Sy.O.pack 13 0x3008001000000000 Sy.O.nil)))
noncomputable def st_R (m : Int) (rd : Int) (TL : List Blk) (ns : Nat → Sy.Let) : Sy.Res (Value × List Blk) :=
 Sy.Res.need True (Sy.Res.hyp True (Sy.Res.br (relF m) (Sy.Res.leaf (Value.agg (Array.mk [Value.int IntKind.i64 (29 : Int), Value.int IntKind.i64 rd, Value.int IntKind.i64 (29 : Int), Value.int IntKind.i64 (30 : Int), Value.int IntKind.i64 (0 : Int), Value.int IntKind.i64 (0 : Int)]), TL)) (Sy.Res.leaf (Value.agg (Array.mk [Value.int IntKind.i64 (28 : Int), Value.int IntKind.i64 rd, Value.int IntKind.i64 (29 : Int), Value.int IntKind.i64 (30 : Int), Value.int IntKind.i64 (0 : Int), Value.int IntKind.i64 (0 : Int)]), TL))))
theorem st_run (m rd : Int) (TL : List Blk) : Sy.Ran (Sy.inY Tryz.prog (ctxAR m) 50 fSt #[.int .i64 m, .int .i64 rd] TL 0) st_o (st_R m rd TL) := ⟨fun ns => by kernel_rfl, fun ns => by kernel_rfl⟩
noncomputable def opL (m : Int) : Int := bif acqF m then 27 else 26
noncomputable def opS (m : Int) : Int := bif relF m then 29 else 28
noncomputable def ldI (m rd : Int) : I := ⟨opL m, rd, 29, 0, 0, 0⟩
noncomputable def stI (m rd : Int) : I := ⟨opS m, rd, 29, 30, 0, 0⟩
noncomputable def insV (o rd rn rm : Int) : Value := .agg #[.int .i64 o, .int .i64 rd, .int .i64 rn, .int .i64 rm, .int .i64 0, .int .i64 0]
noncomputable def ldC (m rd : Int) : Sy.CallC := Sy.plainC fLd #[.int .i64 m, .int .i64 rd] (.agg #[.int .i64 (opL m), .int .i64 rd, .int .i64 29, .int .i64 0, .int .i64 0, .int .i64 0])
noncomputable def stC (m rd : Int) : Sy.CallC := Sy.plainC fSt #[.int .i64 m, .int .i64 rd] (.agg #[.int .i64 (opS m), .int .i64 rd, .int .i64 29, .int .i64 30, .int .i64 0, .int .i64 0])
theorem ldC_met (m rd : Int) : Sy.Meets Tryz.prog (ldC m rd) := by
  refine Sy.meets_ofY (k := 0) (ctxAR_holds m) mixed (L := []) (Sy.Ent.refl _) (ld_run m rd []) fun _ ns => ?_
  simp only [ld_R, Sy.Res.holds]
  refine ⟨trivial, fun _ => ⟨fun h => plainB_leaf (v := insV (opL m) rd 29 0) (List.mem_singleton_self _) rfl ?_, fun h => plainB_leaf (v := insV (opL m) rd 29 0) (List.mem_singleton_self _) rfl ?_⟩⟩ <;>
  · unfold opL insV
    rw [h]
    rfl
theorem stC_met (m rd : Int) : Sy.Meets Tryz.prog (stC m rd) := by
  refine Sy.meets_ofY (k := 0) (ctxAR_holds m) mixed (L := []) (Sy.Ent.refl _) (st_run m rd []) fun _ ns => ?_
  simp only [st_R, Sy.Res.holds]
  refine ⟨trivial, fun _ => ⟨fun h => plainB_leaf (v := insV (opS m) rd 29 30) (List.mem_singleton_self _) rfl ?_, fun h => plainB_leaf (v := insV (opS m) rd 29 30) (List.mem_singleton_self _) rfl ?_⟩⟩ <;>
  · unfold opS insV
    rw [h]
    rfl
end Go.Proofs.YtlpcnaeknbmjdaaGreat.Gn

namespace Go.Proofs.YtlpcnaeknbmjdaaGreat.Gn
set_option linter.unusedVariables false
set_option linter.unusedSimpArgs false
open Go Go.RowKit
open Go.Proofs.YtlpcnaeknbmjdaaGreat.Sy (Let Blk HasL)
open Lw (I insCells tI)
noncomputable def Sy.parts (L : List Blk) (f : List I → List I → List I) : List I := match L with
  | ⟨_, .obj (.cells cs _ _), _⟩ :: r => bif Sy.isLd (Sy.parse 8 cs.toList) then f (Sy.parse 8 cs.toList) [] else f (Sy.parse 8 cs.toList) (Sy.flat r)
  | _ => []
noncomputable def Sy.isNew (L : List Blk) : Bool := match L with
  | ⟨_, .obj (.cells _ u _), _⟩ :: _ => Nat.beq tI u
  | _ => false
noncomputable def Sy.isSt (l : List I) : Bool := match l with
  | i :: _ => Ex.eqQ i.rm 30
  | _ => false
noncomputable def Sy.isEnd (l : List I) : Bool := match l with
  | i :: _ => Ex.eqQ i.rd 30
  | _ => false
noncomputable def Sy.lastI (l : List I) : List I × List I := @List.rec I (fun _ => List I × List I) ([], []) (fun x r ih => match r with
  | [] => ([], [x])
  | _ :: _ => (x :: ih.1, ih.2)) l
noncomputable def Sy.loopX (A : List I) (L : List Blk) : List I := Sy.parts L fun new old => bif Sy.isSt new then Sy.appI old A else bif Sy.isEnd new then Sy.appI (Sy.lastI old).1 (Sy.appI A (Sy.lastI old).2) else old
noncomputable def Sy.newI (L : List Blk) : List I := Sy.parts L fun new _ => new
noncomputable def putLU (q : Rw) (y s c : Nat) (v mp tv : Value) (e : Int) (b : Bool) (X Z : List I) (R : List Blk) : Sy.CallU := (putL q y s c v mp tv e b X Z).toU [(y, layC (slV v) mp tv e b)] (q.B v X) R
noncomputable def putN (q : Rw) (y : Nat) (v mp tv : Value) (e : Int) (b : Bool) (X : List I) : Sy.CallC :=
  ⟨fPut, #[.pointer (some ⟨y, 0, none⟩), .slice none 0 0], q.V v X ∧ X.length ≤ 2000000, ⟨[], (y, layC (slV v) mp tv e b) :: q.B v X, 1, []⟩, [putO q y mp tv e b X]⟩
theorem putN_met (y : Nat) (v mp tv : Value) (e : Int) (b : Bool) (X : List I) : Sy.Meets Tryz.prog (putN rowQ y v mp tv e b X) := fun hok => by
  have := putW_met y v (.slice none 0 0) mp tv e b X [] ⟨hok.1, rowV_nil, by simpa using hok.2⟩
  rw [putW, List.append_nil] at this
  exact this
noncomputable def putNU (q : Rw) (y : Nat) (v mp tv : Value) (e : Int) (b : Bool) (X : List I) (R : List Blk) : Sy.CallU := (putN q y v mp tv e b X).toU [(y, layC (slV v) mp tv e b)] (q.B v X) R
noncomputable def ctxLS (m stored : Int) : Sy.Ctx := Sy.mkS [(fLd, fun _ _ => ldC m 25), (fSt, fun _ _ => stC m stored), (fAcq, fun _ _ => acC m)] [] []
theorem ctxLS_holds (m stored : Int) : (ctxLS m stored).holds Tryz.prog := Sy.mkS_holds (fun p hp a L => by
  rcases List.mem_cons.1 hp with rfl | hp
  · exact ldC_met m 25
  rcases List.mem_cons.1 hp with rfl | hp
  · exact stC_met m stored
  rcases List.mem_singleton.1 hp with rfl
  exact acC_met m) (fun _ h => (by cases h)) (fun _ h => (by cases h))
noncomputable def putLoop (q : Rw) (y : Nat) (mp tv : Value) (b : Bool) (X0 A : List I) (a : Array Value) (L : List Blk) : Sy.CallU :=
  match Sy.isNew L with
  | true => putLU q y (Sy.ptrN (Sy.argV a 1)) (Sy.capN (Sy.argV a 1)) (Sy.vY L) mp tv (Sy.eY L) b (X0 ++ Sy.loopX A L) (Sy.newI L) []
  | false => match A with
    | [] => putNU q y (Sy.vY L) mp tv (Sy.eY L) b (X0 ++ Sy.flat L) []
    | _ :: _ => putLU q y (Sy.ptrN (Sy.argV a 1)) (Sy.capN (Sy.argV a 1)) (Sy.vY L) mp tv (Sy.eY L) b (X0 ++ Sy.flat L) A []
theorem putLoop_met (y : Nat) (mp tv : Value) (b : Bool) (X0 A : List I) (a : Array Value) (L : List Blk) : Sy.Meets Tryz.prog (putLoop rowQ y mp tv b X0 A a L).c := by
  unfold putLoop
  cases Sy.isNew L
  · cases A
    · exact putN_met _ _ _ _ _ _ _
    · exact putL_met _ _ _ _ _ _ _ _ _ _
  · exact putL_met _ _ _ _ _ _ _ _ _ _
noncomputable def ctxLp (q : Rw) (m stored : Int) (y : Nat) (mp tv : Value) (b : Bool) (X0 A : List I) : Sy.Ctx := Sy.mkU (ctxLS m stored) [(fPut, putLoop q y mp tv b X0 A)] []
abbrev fLoop : FuncId := 104
abbrev sumI : I := ⟨3, 26, 25, 24, 0, 0⟩
def l0_o : Sy.O := (Sy.O.pack 20 0x800008001004000800000000 (Sy.O.fork (Sy.O.pack 39 0x1420184010000000020104010002000020104000802100400 Sy.O.nil) (Sy.O.pack 31 0x102010401000000002008401000200002008400 Sy.O.nil)))
noncomputable def l0_R (q : Rw) (TL : List Blk) (y : Nat) (m : Int) (stored : Int) (v : Value) (mp : Value) (tv : Value) (e : Int) (b : Bool) (X : List I) (ns : Nat → Sy.Let) : Sy.Res (Value × List Blk) :=
 let z0 := (Value.slice (slP v) (Sy.lenS v) (slC v))
 let z1 := (List.append X [])
 let z2 := [I.mk (opL m) (25 : Int) (29 : Int) (0 : Int) (0 : Int) (0 : Int)]
 let z3 := (lv0 [ns (1 : Nat)])
 let z4 := (Value.slice (slP z3) (Sy.lenS z3) (slC z3))
 let z5 := (List.append X z2)
 let z6 := [I.mk (21 : Int) (25 : Int) (0 : Int) (0 : Int) (1 : Int) (0 : Int)]
 let z7 := (lv0 [ns (3 : Nat)])
 let z8 := (Value.slice (slP z7) (Sy.lenS z7) (slC z7))
 let z9 := (List.append X [I.mk (opL m) (25 : Int) (29 : Int) (0 : Int) (0 : Int) (0 : Int), I.mk (21 : Int) (25 : Int) (0 : Int) (0 : Int) (1 : Int) (0 : Int)])
 let z10 := (lv0 [ns (4 : Nat)])
 let z11 := (Value.slice (slP z10) (Sy.lenS z10) (slC z10))
 let z12 := [I.mk (opS m) stored (29 : Int) (30 : Int) (0 : Int) (0 : Int)]
 let z13 := (lv0 [ns (6 : Nat)])
 let z14 := (List.append z9 z12)
 let z15 := (Sy.lenS z13)
 let z16 := (Value.slice (slP z13) z15 (slC z13))
 let z17 := (List.append X [I.mk (opL m) (25 : Int) (29 : Int) (0 : Int) (0 : Int) (0 : Int), I.mk (21 : Int) (25 : Int) (0 : Int) (0 : Int) (1 : Int) (0 : Int), I.mk (opS m) stored (29 : Int) (30 : Int) (0 : Int) (0 : Int)])
 let z18 := (Int.ofNat (Sy.lenS v))
 let z19 := [I.mk (21 : Int) (30 : Int) (0 : Int) (0 : Int) (Ex.wrapQ IntKind.i64 (Ex.subQ' z18 (Int.ofNat z15))) (0 : Int)]
 let z20 := (lv0 [ns (8 : Nat)])
 let z21 := (List.append z17 z19)
 let z22 := (lv0 [ns (2 : Nat)])
 let z23 := (Value.slice (slP z22) (Sy.lenS z22) (slC z22))
 let z24 := (List.append z5 z12)
 let z25 := (List.append X [I.mk (opL m) (25 : Int) (29 : Int) (0 : Int) (0 : Int) (0 : Int), I.mk (opS m) stored (29 : Int) (30 : Int) (0 : Int) (0 : Int)])
 let z26 := [I.mk (21 : Int) (30 : Int) (0 : Int) (0 : Int) (Ex.wrapQ IntKind.i64 (Ex.subQ' z18 (Int.ofNat (Sy.lenS z10)))) (0 : Int)]
 let z27 := (List.append z25 z26)
 Sy.Res.need True (Sy.Res.hyp True (Sy.Res.need (q.2 z0 z1 ∧ z2 ≠ [] ∧ List.length z1 + (1 : Nat) ≤ (2000000 : Nat)) (Sy.Res.need (List.Perm TL (List.append (List.map (fun (p : Nat × Sy.Cont) => Blk.mk (Prod.fst p) (Prod.snd p) true) (q.1 z0 z1)) [])) (Sy.Res.hyp (q.2 z3 (List.append z1 z2)) (Sy.Res.need True (Sy.Res.hyp True (Sy.Res.br (!acqF m) (Sy.Res.need (q.2 z4 z5 ∧ z6 ≠ [] ∧ List.length z5 + (1 : Nat) ≤ (2000000 : Nat)) (Sy.Res.need (List.Perm (List.map (fun (p : Nat × Sy.Cont) => Blk.mk (Prod.fst p) (Prod.snd p) true) (q.1 z3 (List.append z1 z2))) (List.append (List.map (fun (p : Nat × Sy.Cont) => Blk.mk (Prod.fst p) (Prod.snd p) true) (q.1 z4 z5)) [])) (Sy.Res.hyp (q.2 z7 (List.append z5 z6)) (Sy.Res.need (q.2 z8 z9 ∧ List.length z9 ≤ (2000000 : Nat)) (Sy.Res.need (List.Perm (List.map (fun (p : Nat × Sy.Cont) => Blk.mk (Prod.fst p) (Prod.snd p) true) (q.1 z7 (List.append z5 z6))) (List.append (List.map (fun (p : Nat × Sy.Cont) => Blk.mk (Prod.fst p) (Prod.snd p) true) (q.1 z8 z9)) [])) (Sy.Res.hyp (q.2 z10 z9) (Sy.Res.need True (Sy.Res.hyp True (Sy.Res.need (q.2 z11 z9 ∧ z12 ≠ [] ∧ List.length z9 + (1 : Nat) ≤ (2000000 : Nat)) (Sy.Res.need (List.Perm (List.map (fun (p : Nat × Sy.Cont) => Blk.mk (Prod.fst p) (Prod.snd p) true) (q.1 z10 z9)) (List.append (List.map (fun (p : Nat × Sy.Cont) => Blk.mk (Prod.fst p) (Prod.snd p) true) (q.1 z11 z9)) [])) (Sy.Res.hyp (q.2 z13 z14) (Sy.Res.need (q.2 z16 z17 ∧ z19 ≠ [] ∧ List.length z17 + (1 : Nat) ≤ (2000000 : Nat))
 (Sy.Res.need (List.Perm (List.map (fun (p : Nat × Sy.Cont) => Blk.mk (Prod.fst p) (Prod.snd p) true) (q.1 z13 z14)) (List.append (List.map (fun (p : Nat × Sy.Cont) => Blk.mk (Prod.fst p) (Prod.snd p) true) (q.1 z16 z17)) [])) (Sy.Res.hyp (q.2 z20 z21) (Sy.Res.leaf (Value.tuple (Array.mk []), Blk.mk y (Sy.Cont.obj (Obj.cells (Array.mk [Value.slice (slP z20) (Sy.lenS z20) (slC z20), mp, tv, Value.int IntKind.i64 e, Value.bool b]) (132 : Nat))) true :: List.map (fun (p : Nat × Sy.Cont) => Blk.mk (Prod.fst p) (Prod.snd p) true) (q.1 z20 z21))))))))))))))))) (Sy.Res.need (q.2 z4 z5 ∧ List.length z5 ≤ (2000000 : Nat)) (Sy.Res.need (List.Perm (List.map (fun (p : Nat × Sy.Cont) => Blk.mk (Prod.fst p) (Prod.snd p) true) (q.1 z3 (List.append z1 z2))) (List.append (List.map (fun (p : Nat × Sy.Cont) => Blk.mk (Prod.fst p) (Prod.snd p) true) (q.1 z4 z5)) [])) (Sy.Res.hyp (q.2 z22 z5) (Sy.Res.need True (Sy.Res.hyp True (Sy.Res.need (q.2 z23 z5 ∧ z12 ≠ [] ∧ List.length z5 + (1 : Nat) ≤ (2000000 : Nat)) (Sy.Res.need (List.Perm (List.map (fun (p : Nat × Sy.Cont) => Blk.mk (Prod.fst p) (Prod.snd p) true) (q.1 z22 z5)) (List.append (List.map (fun (p : Nat × Sy.Cont) => Blk.mk (Prod.fst p) (Prod.snd p) true) (q.1 z23 z5)) [])) (Sy.Res.hyp (q.2 z10 z24) (Sy.Res.need (q.2 z11 z25 ∧ z26 ≠ [] ∧ List.length z25 + (1 : Nat) ≤ (2000000 : Nat)) (Sy.Res.need (List.Perm (List.map (fun (p : Nat × Sy.Cont) => Blk.mk (Prod.fst p) (Prod.snd p) true) (q.1 z10 z24)) (List.append (List.map (fun (p : Nat ×
 Sy.Cont) => Blk.mk (Prod.fst p) (Prod.snd p) true) (q.1 z11 z25)) [])) (Sy.Res.hyp (q.2 z13 z27) (Sy.Res.leaf (Value.tuple (Array.mk []), Blk.mk y (Sy.Cont.obj (Obj.cells (Array.mk [Value.slice (slP z13) z15 (slC z13), mp, tv, Value.int IntKind.i64 e, Value.bool b]) (132 : Nat))) true :: List.map (fun (p : Nat × Sy.Cont) => Blk.mk (Prod.fst p) (Prod.snd p) true) (q.1 z13 z27)))))))))))))))))))))
theorem l0_run (q : Rw) (TL : List Blk) (y : Nat) (m stored : Int) (v mp tv : Value) (e : Int) (b : Bool) (X : List I) : Sy.Ran (Sy.inY Tryz.prog (ctxLp q m stored y mp tv b X []) 50 fLoop #[.pointer (some ⟨y, 0, none⟩), .int .i64 m, .slice none 0 0, .int .i64 stored] (⟨y, layC (slV v) mp tv e b, true⟩ :: TL) 1) l0_o (l0_R q TL y m stored v mp tv e b X) := ⟨fun ns => by kernel_rfl, fun ns => by kernel_rfl⟩
def l1_o : Sy.O := (Sy.O.pack 20 0x800008021004000800000000 (Sy.O.fork (Sy.O.pack 41 0x608081004000000008061004000800008041004600804100400 Sy.O.nil) (Sy.O.pack 33 0x50806100400000000804100400080000802100440 Sy.O.nil)))
noncomputable def l1_R (q : Rw) (TL : List Blk) (y : Nat) (s : Nat) (c : Nat) (m : Int) (stored : Int) (v : Value) (mp : Value) (tv : Value) (e : Int) (b : Bool) (X : List I) (ns : Nat → Sy.Let) : Sy.Res (Value × List Blk) :=
 let z0 := (Value.slice (slP v) (Sy.lenS v) (slC v))
 let z1 := (List.append X [])
 let z2 := (opL m)
 let z3 := [I.mk z2 (25 : Int) (29 : Int) (0 : Int) (0 : Int) (0 : Int)]
 let z4 := (lv0 [ns (1 : Nat)])
 let z5 := (Value.slice (slP z4) (Sy.lenS z4) (slC z4))
 let z6 := (List.append X z3)
 let z7 := [I.mk (21 : Int) (25 : Int) (0 : Int) (0 : Int) (1 : Int) (0 : Int)]
 let z8 := (lv0 [ns (3 : Nat)])
 let z9 := (Value.slice (slP z8) (Sy.lenS z8) (slC z8))
 let z10 := (List.append X [I.mk z2 (25 : Int) (29 : Int) (0 : Int) (0 : Int) (0 : Int), I.mk (21 : Int) (25 : Int) (0 : Int) (0 : Int) (1 : Int) (0 : Int)])
 let z11 := [I.mk (3 : Int) (26 : Int) (25 : Int) (24 : Int) (0 : Int) (0 : Int)]
 let z12 := (lv0 [ns (4 : Nat)])
 let z13 := (List.append z10 z11)
 let z14 := (Value.slice (slP z12) (Sy.lenS z12) (slC z12))
 let z15 := (List.append X [I.mk z2 (25 : Int) (29 : Int) (0 : Int) (0 : Int) (0 : Int), I.mk (21 : Int) (25 : Int) (0 : Int) (0 : Int) (1 : Int) (0 : Int), I.mk (3 : Int) (26 : Int) (25 : Int) (24 : Int) (0 : Int) (0 : Int)])
 let z16 := [I.mk (opS m) stored (29 : Int) (30 : Int) (0 : Int) (0 : Int)]
 let z17 := (lv0 [ns (6 : Nat)])
 let z18 := (List.append z15 z16)
 let z19 := (Sy.lenS z17)
 let z20 := (Value.slice (slP z17) z19 (slC z17))
 let z21 := (List.append X [I.mk z2 (25 : Int) (29 : Int) (0 : Int) (0 : Int) (0 : Int), I.mk (21 : Int) (25 : Int) (0 : Int) (0 : Int) (1 : Int) (0 : Int), I.mk (3 : Int) (26 : Int) (25 : Int) (24 : Int) (0 : Int) (0 : Int), I.mk (opS m) stored (29 : Int) (30 : Int) (0 : Int) (0 : Int)])
 let z22 := (Int.ofNat (Sy.lenS v))
 let z23 := [I.mk (21 : Int) (30 : Int) (0 : Int) (0 : Int) (Ex.wrapQ IntKind.i64 (Ex.subQ' z22 (Int.ofNat z19))) (0 : Int)]
 let z24 := (lv0 [ns (8 : Nat)])
 let z25 := (List.append z21 z23)
 let z26 := (lv0 [ns (2 : Nat)])
 let z27 := (List.append z6 z11)
 let z28 := (Value.slice (slP z26) (Sy.lenS z26) (slC z26))
 let z29 := (List.append X [I.mk z2 (25 : Int) (29 : Int) (0 : Int) (0 : Int) (0 : Int), I.mk (3 : Int) (26 : Int) (25 : Int) (24 : Int) (0 : Int) (0 : Int)])
 let z30 := (List.append z29 z16)
 let z31 := (List.append X [I.mk z2 (25 : Int) (29 : Int) (0 : Int) (0 : Int) (0 : Int), I.mk (3 : Int) (26 : Int) (25 : Int) (24 : Int) (0 : Int) (0 : Int), I.mk (opS m) stored (29 : Int) (30 : Int) (0 : Int) (0 : Int)])
 let z32 := [I.mk (21 : Int) (30 : Int) (0 : Int) (0 : Int) (Ex.wrapQ IntKind.i64 (Ex.subQ' z22 (Int.ofNat (Sy.lenS z12)))) (0 : Int)]
 let z33 := (List.append z31 z32)
 Sy.Res.need True (Sy.Res.hyp True (Sy.Res.need (q.2 z0 z1 ∧ z3 ≠ [] ∧ List.length z1 + (1 : Nat) ≤ (2000000 : Nat)) (Sy.Res.need (List.Perm TL (List.append (List.map (fun (p : Nat × Sy.Cont) => Blk.mk (Prod.fst p) (Prod.snd p) true) (q.1 z0 z1)) [])) (Sy.Res.hyp (q.2 z4 (List.append z1 z3)) (Sy.Res.need True (Sy.Res.hyp True (Sy.Res.br (!acqF m) (Sy.Res.need (q.2 z5 z6 ∧ z7 ≠ [] ∧ List.length z6 + (1 : Nat) ≤ (2000000 : Nat)) (Sy.Res.need (List.Perm (List.map (fun (p : Nat × Sy.Cont) => Blk.mk (Prod.fst p) (Prod.snd p) true) (q.1 z4 (List.append z1 z3))) (List.append (List.map (fun (p : Nat × Sy.Cont) => Blk.mk (Prod.fst p) (Prod.snd p) true) (q.1 z5 z6)) [])) (Sy.Res.hyp (q.2 z8 (List.append z6 z7)) (Sy.Res.need (q.2 z9 z10 ∧ z11 ≠ [] ∧ List.length z10 + (1 : Nat) ≤ (2000000 : Nat)) (Sy.Res.need (List.Perm (List.map (fun (p : Nat × Sy.Cont) => Blk.mk (Prod.fst p) (Prod.snd p) true) (q.1 z8 (List.append z6 z7))) (List.append (List.map (fun (p : Nat × Sy.Cont) => Blk.mk (Prod.fst p) (Prod.snd p) true) (q.1 z9 z10)) [])) (Sy.Res.hyp (q.2 z12 z13) (Sy.Res.need True (Sy.Res.hyp True (Sy.Res.need (q.2 z14 z15 ∧ z16 ≠ [] ∧ List.length z15 + (1 : Nat) ≤ (2000000 : Nat)) (Sy.Res.need (List.Perm (List.map (fun (p : Nat × Sy.Cont) => Blk.mk (Prod.fst p) (Prod.snd p) true) (q.1 z12 z13)) (List.append (List.map (fun (p : Nat × Sy.Cont) => Blk.mk (Prod.fst p) (Prod.snd p) true) (q.1 z14 z15)) [])) (Sy.Res.hyp (q.2 z17 z18) (Sy.Res.need (q.2 z20 z21 ∧ z23 ≠ [] ∧ List.length z21 + (1 : Nat)
 ≤ (2000000 : Nat)) (Sy.Res.need (List.Perm (List.map (fun (p : Nat × Sy.Cont) => Blk.mk (Prod.fst p) (Prod.snd p) true) (q.1 z17 z18)) (List.append (List.map (fun (p : Nat × Sy.Cont) => Blk.mk (Prod.fst p) (Prod.snd p) true) (q.1 z20 z21)) [])) (Sy.Res.hyp (q.2 z24 z25) (Sy.Res.leaf (Value.tuple (Array.mk []), Blk.mk y (Sy.Cont.obj (Obj.cells (Array.mk [Value.slice (slP z24) (Sy.lenS z24) (slC z24), mp, tv, Value.int IntKind.i64 e, Value.bool b]) (132 : Nat))) true :: List.map (fun (p : Nat × Sy.Cont) => Blk.mk (Prod.fst p) (Prod.snd p) true) (q.1 z24 z25))))))))))))))))) (Sy.Res.need (q.2 z5 z6 ∧ z11 ≠ [] ∧ List.length z6 + (1 : Nat) ≤ (2000000 : Nat)) (Sy.Res.need (List.Perm (List.map (fun (p : Nat × Sy.Cont) => Blk.mk (Prod.fst p) (Prod.snd p) true) (q.1 z4 (List.append z1 z3))) (List.append (List.map (fun (p : Nat × Sy.Cont) => Blk.mk (Prod.fst p) (Prod.snd p) true) (q.1 z5 z6)) [])) (Sy.Res.hyp (q.2 z26 z27) (Sy.Res.need True (Sy.Res.hyp True (Sy.Res.need (q.2 z28 z29 ∧ z16 ≠ [] ∧ List.length z29 + (1 : Nat) ≤ (2000000 : Nat)) (Sy.Res.need (List.Perm (List.map (fun (p : Nat × Sy.Cont) => Blk.mk (Prod.fst p) (Prod.snd p) true) (q.1 z26 z27)) (List.append (List.map (fun (p : Nat × Sy.Cont) => Blk.mk (Prod.fst p) (Prod.snd p) true) (q.1 z28 z29)) [])) (Sy.Res.hyp (q.2 z12 z30) (Sy.Res.need (q.2 z14 z31 ∧ z32 ≠ [] ∧ List.length z31 + (1 : Nat) ≤ (2000000 : Nat)) (Sy.Res.need (List.Perm (List.map (fun (p : Nat × Sy.Cont) => Blk.mk (Prod.fst p) (Prod.snd p) true) (q.1 z12 z30))
 (List.append (List.map (fun (p : Nat × Sy.Cont) => Blk.mk (Prod.fst p) (Prod.snd p) true) (q.1 z14 z31)) [])) (Sy.Res.hyp (q.2 z17 z33) (Sy.Res.leaf (Value.tuple (Array.mk []), Blk.mk y (Sy.Cont.obj (Obj.cells (Array.mk [Value.slice (slP z17) z19 (slC z17), mp, tv, Value.int IntKind.i64 e, Value.bool b]) (132 : Nat))) true :: List.map (fun (p : Nat × Sy.Cont) => Blk.mk (Prod.fst p) (Prod.snd p) true) (q.1 z17 z33)))))))))))))))))))))
theorem l1_run (q : Rw) (TL : List Blk) (y s c : Nat) (m stored : Int) (v mp tv : Value) (e : Int) (b : Bool) (X : List I) : Sy.Ran (Sy.inY Tryz.prog (ctxLp q m stored y mp tv b X [sumI]) 50 fLoop #[.pointer (some ⟨y, 0, none⟩), .int .i64 m, .slice (some ⟨s, 0, none⟩) 1 c, .int .i64 stored] (⟨y, layC (slV v) mp tv e b, true⟩ :: ⟨s, .seg 0 (insCells [sumI]), false⟩ :: TL) 1) l1_o (l1_R q TL y s c m stored v mp tv e b X) := ⟨fun ns => by kernel_rfl, fun ns => by kernel_rfl⟩
end Go.Proofs.YtlpcnaeknbmjdaaGreat.Gn

namespace Go.Proofs.YtlpcnaeknbmjdaaGreat.Gn
open Go Go.RowKit
open Go.Proofs.YtlpcnaeknbmjdaaGreat.Sy (Let Blk HasL)
open Lw (I insCells tI)
noncomputable def lpI (m : Int) (A : List I) (st : Int) : List I := [ldI m 25] ++ nzI m 25 ++ A ++ [stI m st, ⟨21, 30, 0, 0, -(2 + (nzI m 25).length + A.length), 0⟩]
noncomputable def loopC (q : Rw) (y : Nat) (m stored : Int) (v mp tv : Value) (e : Int) (b : Bool) (X : List I) : Sy.CallC :=
  ⟨fLoop, #[.pointer (some ⟨y, 0, none⟩), .int .i64 m, .slice none 0 0, .int .i64 stored], q.V v X ∧ X.length + 6 ≤ 2000000, ⟨[], (y, layC (slV v) mp tv e b) :: q.B v X, 1, []⟩, [putO q y mp tv e b (X ++ lpI m [] stored)]⟩
noncomputable def loopS (q : Rw) (y s c : Nat) (m stored : Int) (v mp tv : Value) (e : Int) (b : Bool) (X : List I) : Sy.CallC :=
  ⟨fLoop, #[.pointer (some ⟨y, 0, none⟩), .int .i64 m, .slice (some ⟨s, 0, none⟩) 1 c, .int .i64 stored], q.V v X ∧ X.length + 6 ≤ 2000000, ⟨[(s, .seg 0 (insCells [sumI]))], (y, layC (slV v) mp tv e b) :: q.B v X, 1, []⟩, [putO q y mp tv e b (X ++ lpI m [sumI] stored)]⟩
theorem rowV_of {v : Value} {X X' : List I} (h : RowV v X) (e : X = X') : RowV (slV v) X' := e ▸ h
theorem perm_row (v : Value) {X X' : List I} (e : X = X') : List.Perm ((rowB v X).map Sy.ownOf) (((rowB (slV v) X').map Sy.ownOf) ++ []) := by
  subst e
  rw [List.append_nil]
  exact List.Perm.refl _
theorem RowV.len {v : Value} {X : List I} (h : RowV v X) : Sy.lenS v = X.length := by
  rcases h with ⟨rfl, _, h, _⟩ | ⟨_, _, h, _⟩ <;> simpa using h
theorem back_to {v w : Value} {X Z : List I} (h : RowV v X) (k : RowV w Z) (j : Nat) (hj : Z.length = X.length + j) (hX : X.length ≤ 2000000) (hs : j ≤ 100) : Ex.wrapQ .i64 (Ex.subQ' (Int.ofNat (Sy.lenS v)) (Int.ofNat (Sy.lenS w))) = -(j : Int) := by
  rw [h.len, k.len, hj, Ex.wrapQ_eq, Ex.subQ_eq]
  simp [IntKind.wrap, IntKind.signed, IntKind.bits]
  omega
theorem lay_fin {c : Sy.CallC} {y : Nat} {mp tv : Value} {e : Int} {b : Bool} {X Z : List I} {v : Value} (k : RowV v Z) (ho : putO rowQ y mp tv e b X ∈ c.outs) (hm : c.mem.m = 1) (he : Z = X) : Sy.leafB c (.tuple #[], ⟨y, layC (slV v) mp tv e b, true⟩ :: (rowB v Z).map Sy.ownOf) := by
  subst he
  exact lay_leaf ho hm rfl k (Sy.Ent.refl _)
theorem loopC_met (y : Nat) (m stored : Int) (v mp tv : Value) (e : Int) (b : Bool) (X : List I) : Sy.Meets Tryz.prog (loopC rowQ y m stored v mp tv e b X) := by
  have hS : (ctxLp rowQ m stored y mp tv b X []).holds Tryz.prog := Sy.mkU_holds (ctxLS_holds m stored) (fun p hp a L => by
    rcases List.mem_singleton.1 hp with rfl
    exact putLoop_met _ _ _ _ _ _ _ _) (fun _ h => (by cases h))
  refine Sy.meets_ofY (k := 1) hS mixed (L := ⟨y, layC (slV v) mp tv e b, true⟩ :: (rowB v X).map Sy.ownOf) ?_ (l0_run rowQ ((rowB v X).map Sy.ownOf) y m stored v mp tv e b X) fun hok ns => ?_
  · show Sy.Ent (_ ++ []) _
    rw [List.append_nil]
    exact Sy.Ent.refl _
  obtain ⟨h1, h2⟩ := hok
  simp only [l0_R, Sy.Res.holds]
  refine ⟨trivial, fun _ => ⟨⟨rowV_of h1 (by simp), by simp, by simp; omega⟩, perm_row _ (by simp), fun k1 => ⟨trivial, fun _ => ⟨fun ha => ?_, fun ha => ?_⟩⟩⟩⟩
  · refine ⟨⟨rowV_of k1 (by simp), by simp, by simp; omega⟩, perm_row _ (by simp), fun k2 => ?_⟩
    refine ⟨⟨rowV_of k2 (by simp), by simp; omega⟩, perm_row _ (by simp), fun k3 => ?_⟩
    refine ⟨trivial, fun _ => ⟨⟨rowV_of k3 (by simp), by simp, by simp; omega⟩, perm_row _ (by simp), fun k4 => ?_⟩⟩
    refine ⟨⟨rowV_of k4 (by simp), by simp, by simp; omega⟩, perm_row _ (by simp), fun k5 => ?_⟩
    refine lay_fin k5 (List.mem_singleton_self _) rfl ?_
    rw [back_to h1 k4 3 (by simp) (by omega) (by omega)]
    have hm : acqF m = false := by simpa using ha
    simp [lpI, nzI, ldI, stI, hm]
  · have hm : acqF m = true := by simpa using ha
    refine ⟨⟨rowV_of k1 (by simp), by simp; omega⟩, perm_row _ (by simp), fun k3 => ?_⟩
    refine ⟨trivial, fun _ => ⟨⟨rowV_of k3 (by simp), by simp, by simp; omega⟩, perm_row _ (by simp), fun k4 => ?_⟩⟩
    refine ⟨⟨rowV_of k4 (by simp), by simp, by simp; omega⟩, perm_row _ (by simp), fun k5 => ?_⟩
    refine lay_fin k5 (List.mem_singleton_self _) rfl ?_
    rw [back_to h1 k4 2 (by simp) (by omega) (by omega)]
    simp [lpI, nzI, ldI, stI, hm]
theorem loopS_met (y s c : Nat) (m stored : Int) (v mp tv : Value) (e : Int) (b : Bool) (X : List I) : Sy.Meets Tryz.prog (loopS rowQ y s c m stored v mp tv e b X) := by
  have hS : (ctxLp rowQ m stored y mp tv b X [sumI]).holds Tryz.prog := Sy.mkU_holds (ctxLS_holds m stored) (fun p hp a L => by
    rcases List.mem_singleton.1 hp with rfl
    exact putLoop_met _ _ _ _ _ _ _ _) (fun _ h => (by cases h))
  refine Sy.meets_ofY (k := 1) hS mixed (L := ⟨y, layC (slV v) mp tv e b, true⟩ :: ⟨s, .seg 0 (insCells [sumI]), false⟩ :: (rowB v X).map Sy.ownOf) ?_ (l1_run rowQ ((rowB v X).map Sy.ownOf) y s c m stored v mp tv e b X) fun hok ns => ?_
  · show Sy.Ent (_ :: (_ :: _ ++ [])) _
    rw [List.append_nil]
    exact Sy.Ent.perm (List.Perm.swap _ _ _)
  obtain ⟨h1, h2⟩ := hok
  simp only [l1_R, Sy.Res.holds]
  refine ⟨trivial, fun _ => ⟨⟨rowV_of h1 (by simp), by simp, by simp; omega⟩, perm_row _ (by simp), fun k1 => ⟨trivial, fun _ => ⟨fun ha => ?_, fun ha => ?_⟩⟩⟩⟩
  · refine ⟨⟨rowV_of k1 (by simp), by simp, by simp; omega⟩, perm_row _ (by simp), fun k2 => ?_⟩
    refine ⟨⟨rowV_of k2 (by simp), by simp, by simp; omega⟩, perm_row _ (by simp), fun k3 => ?_⟩
    refine ⟨trivial, fun _ => ⟨⟨rowV_of k3 (by simp), by simp, by simp; omega⟩, perm_row _ (by simp), fun k4 => ?_⟩⟩
    refine ⟨⟨rowV_of k4 (by simp), by simp, by simp; omega⟩, perm_row _ (by simp), fun k5 => ?_⟩
    refine lay_fin k5 (List.mem_singleton_self _) rfl ?_
    rw [back_to h1 k4 4 (by simp) (by omega) (by omega)]
    have hm : acqF m = false := by simpa using ha
    simp [lpI, nzI, ldI, stI, hm]
  · have hm : acqF m = true := by simpa using ha
    refine ⟨⟨rowV_of k1 (by simp), by simp, by simp; omega⟩, perm_row _ (by simp), fun k3 => ?_⟩
    refine ⟨trivial, fun _ => ⟨⟨rowV_of k3 (by simp), by simp, by simp; omega⟩, perm_row _ (by simp), fun k4 => ?_⟩⟩
    refine ⟨⟨rowV_of k4 (by simp), by simp, by simp; omega⟩, perm_row _ (by simp), fun k5 => ?_⟩
    refine lay_fin k5 (List.mem_singleton_self _) rfl ?_
    rw [back_to h1 k4 3 (by simp) (by omega) (by omega)]
    simp [lpI, nzI, ldI, stI, hm]
end Go.Proofs.YtlpcnaeknbmjdaaGreat.Gn

namespace Go.Proofs.YtlpcnaeknbmjdaaGreat.Gn
set_option linter.unusedVariables false
set_option linter.unusedSimpArgs false
open Go Go.RowKit
open Go.Proofs.YtlpcnaeknbmjdaaGreat.Sy (Let Blk HasL)
open Lw (I insCells tI)
noncomputable def acB (m : Int) (x : Bool) : Sy.CallC := { acC m with ok := acqF m = x, outs := [Sy.plainO (.bool x)] }
noncomputable def reB (m : Int) (x : Bool) : Sy.CallC := { reC m with ok := relF m = x, outs := [Sy.plainO (.bool x)] }
theorem acB_met (m : Int) (x : Bool) : Sy.Meets Tryz.prog (acB m x) := fun h => by
  have := acC_met m trivial
  simp only [acB] at h ⊢
  subst h
  exact this
theorem reB_met (m : Int) (x : Bool) : Sy.Meets Tryz.prog (reB m x) := fun h => by
  have := reC_met m trivial
  simp only [reB] at h ⊢
  subst h
  exact this
noncomputable def ctxAB (m : Int) (x r : Bool) : Sy.Ctx := Sy.mkS [(fAcq, fun _ _ => acB m x), (fRel, fun _ _ => reB m r), (fMove, fun a _ => mvC (Sy.argI a 0) (Sy.argI a 1))] [] []
theorem ctxAB_holds (m : Int) (x r : Bool) : (ctxAB m x r).holds Tryz.prog := Sy.mkS_holds (fun p hp a L => by
  rcases List.mem_cons.1 hp with rfl | hp
  · exact acB_met m x
  rcases List.mem_cons.1 hp with rfl | hp
  · exact reB_met m r
  rcases List.mem_singleton.1 hp with rfl
  exact mvC_met _ _) (fun _ h => (by cases h)) (fun _ h => (by cases h))
noncomputable def Sy.oldI (L : List Blk) : List I := Sy.parts L fun _ old => old
noncomputable def putOne (q : Rw) (y : Nat) (mp tv : Value) (b : Bool) (X0 : List I) (a : Array Value) (L : List Blk) : Sy.CallU :=
  putLU q y (Sy.ptrN (Sy.argV a 1)) (Sy.capN (Sy.argV a 1)) (Sy.vY L) mp tv (Sy.eY L) b (X0 ++ Sy.oldI L) (Sy.newI L) []
noncomputable def ctxSg (q : Rw) (m : Int) (x r : Bool) (y : Nat) (mp tv : Value) (b : Bool) (X0 : List I) : Sy.Ctx := Sy.mkU (ctxAB m x r) [(fPut, putOne q y mp tv b X0)] []
theorem ctxSg_holds (m : Int) (x r : Bool) (y : Nat) (mp tv : Value) (b : Bool) (X0 : List I) : (ctxSg rowQ m x r y mp tv b X0).holds Tryz.prog := Sy.mkU_holds (ctxAB_holds m x r) (fun p hp a L => by
  rcases List.mem_singleton.1 hp with rfl
  exact putL_met _ _ _ _ _ _ _ _ _ _) (fun _ h => (by cases h))
abbrev fSingle : FuncId := 130
def sTT_o : Sy.O := (Sy.O.pack 48 0x204020802000400000400040000040080210840000400000000040000000 Sy.O.nil)
noncomputable def sTT_R (q : Rw) (TL : List Blk) (y : Nat) (a : ActD) (iv : Value) (ev : Value) (fv : Value) (op : Int) (old : Int) (v : Value) (mp : Value) (tv : Value) (e : Int) (b : Bool) (X : List I) (ns : Nat → Sy.Let) : Sy.Res (Value × List Blk) :=
 let z0 := (acqF (ActD.mode a) = true)
 let z1 := (Value.slice (slP v) (Sy.lenS v) (slC v))
 let z2 := (List.append X [])
 let z3 := [I.mk (Ex.wrapQ IntKind.i64 (Ex.addQ (Ex.wrapQ IntKind.i64 (Ex.addQ op (1 : Int))) (2 : Int))) (25 : Int) (29 : Int) (24 : Int) (0 : Int) (0 : Int)]
 let z4 := (lv0 [ns (2 : Nat)])
 let z5 := (Value.slice (slP z4) (Sy.lenS z4) (slC z4))
 let z6 := (List.append X z3)
 let z7 := [I.mk (6 : Int) (ActD.dst a) (31 : Int) old (0 : Int) (0 : Int)]
 let z8 := (lv0 [ns (4 : Nat)])
 Sy.Res.need z0 (Sy.Res.hyp True (Sy.Res.need (relF (ActD.mode a) = true) (Sy.Res.hyp True (Sy.Res.need (q.2 z1 z2 ∧ z3 ≠ [] ∧ List.length z2 + (1 : Nat) ≤ (2000000 : Nat)) (Sy.Res.need (List.Perm TL (List.append (List.map (fun (p : Nat × Sy.Cont) => Blk.mk (Prod.fst p) (Prod.snd p) true) (q.1 z1 z2)) [])) (Sy.Res.hyp (q.2 z4 (List.append z2 z3)) (Sy.Res.need z0 (Sy.Res.hyp True (Sy.Res.need True (Sy.Res.hyp True (Sy.Res.need (q.2 z5 z6 ∧ z7 ≠ [] ∧ List.length z6 + (1 : Nat) ≤ (2000000 : Nat)) (Sy.Res.need (List.Perm (List.map (fun (p : Nat × Sy.Cont) => Blk.mk (Prod.fst p) (Prod.snd p) true) (q.1 z4 (List.append z2 z3))) (List.append (List.map (fun (p : Nat × Sy.Cont) => Blk.mk (Prod.fst p) (Prod.snd p) true) (q.1 z5 z6)) [])) (Sy.Res.hyp (q.2 z8 (List.append z6 z7)) (Sy.Res.leaf (Value.tuple (Array.mk []), Blk.mk y (Sy.Cont.obj (Obj.cells (Array.mk [Value.slice (slP z8) (Sy.lenS z8) (slC z8), mp, tv, Value.int IntKind.i64 e, Value.bool b]) (132 : Nat))) true :: List.map (fun (p : Nat × Sy.Cont) => Blk.mk (Prod.fst p) (Prod.snd p) true) (q.1 z8 (List.append z6 z7)))))))))))))))))
theorem sTT_run (q : Rw) (TL : List Blk) (y : Nat) (a : ActD) (iv ev fv : Value) (op old : Int) (v mp tv : Value) (e : Int) (b : Bool) (X : List I) : Sy.Ran (Sy.inY Tryz.prog (ctxSg q a.mode true true y mp tv b X) 50 fSingle #[.pointer (some ⟨y, 0, none⟩), actV a iv ev fv, .int .i64 op, .int .i64 24, .int .i64 25, .int .i64 old] (⟨y, layC (slV v) mp tv e b, true⟩ :: TL) 1) sTT_o (sTT_R q TL y a iv ev fv op old v mp tv e b X) := ⟨fun ns => by kernel_rfl, fun ns => by kernel_rfl⟩
def sTF_o : Sy.O := (Sy.O.pack 48 0x204020802000400000400040000040080210840000400000000040000000 Sy.O.nil)
noncomputable def sTF_R (q : Rw) (TL : List Blk) (y : Nat) (a : ActD) (iv : Value) (ev : Value) (fv : Value) (op : Int) (old : Int) (v : Value) (mp : Value) (tv : Value) (e : Int) (b : Bool) (X : List I) (ns : Nat → Sy.Let) : Sy.Res (Value × List Blk) :=
 let z0 := (acqF (ActD.mode a) = true)
 let z1 := (Value.slice (slP v) (Sy.lenS v) (slC v))
 let z2 := (List.append X [])
 let z3 := [I.mk (Ex.wrapQ IntKind.i64 (Ex.addQ op (1 : Int))) (25 : Int) (29 : Int) (24 : Int) (0 : Int) (0 : Int)]
 let z4 := (lv0 [ns (2 : Nat)])
 let z5 := (Value.slice (slP z4) (Sy.lenS z4) (slC z4))
 let z6 := (List.append X z3)
 let z7 := [I.mk (6 : Int) (ActD.dst a) (31 : Int) old (0 : Int) (0 : Int)]
 let z8 := (lv0 [ns (4 : Nat)])
 Sy.Res.need z0 (Sy.Res.hyp True (Sy.Res.need (relF (ActD.mode a) = false) (Sy.Res.hyp True (Sy.Res.need (q.2 z1 z2 ∧ z3 ≠ [] ∧ List.length z2 + (1 : Nat) ≤ (2000000 : Nat)) (Sy.Res.need (List.Perm TL (List.append (List.map (fun (p : Nat × Sy.Cont) => Blk.mk (Prod.fst p) (Prod.snd p) true) (q.1 z1 z2)) [])) (Sy.Res.hyp (q.2 z4 (List.append z2 z3)) (Sy.Res.need z0 (Sy.Res.hyp True (Sy.Res.need True (Sy.Res.hyp True (Sy.Res.need (q.2 z5 z6 ∧ z7 ≠ [] ∧ List.length z6 + (1 : Nat) ≤ (2000000 : Nat)) (Sy.Res.need (List.Perm (List.map (fun (p : Nat × Sy.Cont) => Blk.mk (Prod.fst p) (Prod.snd p) true) (q.1 z4 (List.append z2 z3))) (List.append (List.map (fun (p : Nat × Sy.Cont) => Blk.mk (Prod.fst p) (Prod.snd p) true) (q.1 z5 z6)) [])) (Sy.Res.hyp (q.2 z8 (List.append z6 z7)) (Sy.Res.leaf (Value.tuple (Array.mk []), Blk.mk y (Sy.Cont.obj (Obj.cells (Array.mk [Value.slice (slP z8) (Sy.lenS z8) (slC z8), mp, tv, Value.int IntKind.i64 e, Value.bool b]) (132 : Nat))) true :: List.map (fun (p : Nat × Sy.Cont) => Blk.mk (Prod.fst p) (Prod.snd p) true) (q.1 z8 (List.append z6 z7)))))))))))))))))
theorem sTF_run (q : Rw) (TL : List Blk) (y : Nat) (a : ActD) (iv ev fv : Value) (op old : Int) (v mp tv : Value) (e : Int) (b : Bool) (X : List I) : Sy.Ran (Sy.inY Tryz.prog (ctxSg q a.mode true false y mp tv b X) 50 fSingle #[.pointer (some ⟨y, 0, none⟩), actV a iv ev fv, .int .i64 op, .int .i64 24, .int .i64 25, .int .i64 old] (⟨y, layC (slV v) mp tv e b, true⟩ :: TL) 1) sTF_o (sTF_R q TL y a iv ev fv op old v mp tv e b X) := ⟨fun ns => by kernel_rfl, fun ns => by kernel_rfl⟩
def sFT_o : Sy.O := (Sy.O.pack 56 0x2840308020004000006008041004000040000040080210840000400000000040000000 Sy.O.nil)
noncomputable def sFT_R (q : Rw) (TL : List Blk) (y : Nat) (a : ActD) (iv : Value) (ev : Value) (fv : Value) (op : Int) (old : Int) (v : Value) (mp : Value) (tv : Value) (e : Int) (b : Bool) (X : List I) (ns : Nat → Sy.Let) : Sy.Res (Value × List Blk) :=
 let z0 := (acqF (ActD.mode a) = false)
 let z1 := (Value.slice (slP v) (Sy.lenS v) (slC v))
 let z2 := (List.append X [])
 let z3 := (Ex.wrapQ IntKind.i64 (Ex.addQ op (2 : Int)))
 let z4 := [I.mk z3 (25 : Int) (29 : Int) (24 : Int) (0 : Int) (0 : Int)]
 let z5 := (lv0 [ns (2 : Nat)])
 let z6 := (Value.slice (slP z5) (Sy.lenS z5) (slC z5))
 let z7 := (List.append X z4)
 let z8 := [I.mk (21 : Int) old (0 : Int) (0 : Int) (1 : Int) (0 : Int)]
 let z9 := (lv0 [ns (4 : Nat)])
 let z10 := (Value.slice (slP z9) (Sy.lenS z9) (slC z9))
 let z11 := (List.append X [I.mk z3 (25 : Int) (29 : Int) (24 : Int) (0 : Int) (0 : Int), I.mk (21 : Int) old (0 : Int) (0 : Int) (1 : Int) (0 : Int)])
 let z12 := [I.mk (6 : Int) (ActD.dst a) (31 : Int) old (0 : Int) (0 : Int)]
 let z13 := (lv0 [ns (6 : Nat)])
 let z14 := (List.append z11 z12)
 Sy.Res.need z0 (Sy.Res.hyp True (Sy.Res.need (relF (ActD.mode a) = true) (Sy.Res.hyp True (Sy.Res.need (q.2 z1 z2 ∧ z4 ≠ [] ∧ List.length z2 + (1 : Nat) ≤ (2000000 : Nat)) (Sy.Res.need (List.Perm TL (List.append (List.map (fun (p : Nat × Sy.Cont) => Blk.mk (Prod.fst p) (Prod.snd p) true) (q.1 z1 z2)) [])) (Sy.Res.hyp (q.2 z5 (List.append z2 z4)) (Sy.Res.need z0 (Sy.Res.hyp True (Sy.Res.need (q.2 z6 z7 ∧ z8 ≠ [] ∧ List.length z7 + (1 : Nat) ≤ (2000000 : Nat)) (Sy.Res.need (List.Perm (List.map (fun (p : Nat × Sy.Cont) => Blk.mk (Prod.fst p) (Prod.snd p) true) (q.1 z5 (List.append z2 z4))) (List.append (List.map (fun (p : Nat × Sy.Cont) => Blk.mk (Prod.fst p) (Prod.snd p) true) (q.1 z6 z7)) [])) (Sy.Res.hyp (q.2 z9 (List.append z7 z8)) (Sy.Res.need True (Sy.Res.hyp True (Sy.Res.need (q.2 z10 z11 ∧ z12 ≠ [] ∧ List.length z11 + (1 : Nat) ≤ (2000000 : Nat)) (Sy.Res.need (List.Perm (List.map (fun (p : Nat × Sy.Cont) => Blk.mk (Prod.fst p) (Prod.snd p) true) (q.1 z9 (List.append z7 z8))) (List.append (List.map (fun (p : Nat × Sy.Cont) => Blk.mk (Prod.fst p) (Prod.snd p) true) (q.1 z10 z11)) [])) (Sy.Res.hyp (q.2 z13 z14) (Sy.Res.leaf (Value.tuple (Array.mk []), Blk.mk y (Sy.Cont.obj (Obj.cells (Array.mk [Value.slice (slP z13) (Sy.lenS z13) (slC z13), mp, tv, Value.int IntKind.i64 e, Value.bool b]) (132 : Nat))) true :: List.map (fun (p : Nat × Sy.Cont) => Blk.mk (Prod.fst p) (Prod.snd p) true) (q.1 z13 z14)))))))))))))))))))
theorem sFT_run (q : Rw) (TL : List Blk) (y : Nat) (a : ActD) (iv ev fv : Value) (op old : Int) (v mp tv : Value) (e : Int) (b : Bool) (X : List I) : Sy.Ran (Sy.inY Tryz.prog (ctxSg q a.mode false true y mp tv b X) 50 fSingle #[.pointer (some ⟨y, 0, none⟩), actV a iv ev fv, .int .i64 op, .int .i64 24, .int .i64 25, .int .i64 old] (⟨y, layC (slV v) mp tv e b, true⟩ :: TL) 1) sFT_o (sFT_R q TL y a iv ev fv op old v mp tv e b X) := ⟨fun ns => by kernel_rfl, fun ns => by kernel_rfl⟩
def sFF_o : Sy.O := (Sy.O.pack 56 0x2840308020004000006008041004000040000040080210840000400000000040000000 Sy.O.nil)
noncomputable def sFF_R (q : Rw) (TL : List Blk) (y : Nat) (a : ActD) (iv : Value) (ev : Value) (fv : Value) (op : Int) (old : Int) (v : Value) (mp : Value) (tv : Value) (e : Int) (b : Bool) (X : List I) (ns : Nat → Sy.Let) : Sy.Res (Value × List Blk) :=
 let z0 := (acqF (ActD.mode a) = false)
 let z1 := (Value.slice (slP v) (Sy.lenS v) (slC v))
 let z2 := (List.append X [])
 let z3 := [I.mk op (25 : Int) (29 : Int) (24 : Int) (0 : Int) (0 : Int)]
 let z4 := (lv0 [ns (2 : Nat)])
 let z5 := (Value.slice (slP z4) (Sy.lenS z4) (slC z4))
 let z6 := (List.append X z3)
 let z7 := [I.mk (21 : Int) old (0 : Int) (0 : Int) (1 : Int) (0 : Int)]
 let z8 := (lv0 [ns (4 : Nat)])
 let z9 := (Value.slice (slP z8) (Sy.lenS z8) (slC z8))
 let z10 := (List.append X [I.mk op (25 : Int) (29 : Int) (24 : Int) (0 : Int) (0 : Int), I.mk (21 : Int) old (0 : Int) (0 : Int) (1 : Int) (0 : Int)])
 let z11 := [I.mk (6 : Int) (ActD.dst a) (31 : Int) old (0 : Int) (0 : Int)]
 let z12 := (lv0 [ns (6 : Nat)])
 let z13 := (List.append z10 z11)
 Sy.Res.need z0 (Sy.Res.hyp True (Sy.Res.need (relF (ActD.mode a) = false) (Sy.Res.hyp True (Sy.Res.need (q.2 z1 z2 ∧ z3 ≠ [] ∧ List.length z2 + (1 : Nat) ≤ (2000000 : Nat)) (Sy.Res.need (List.Perm TL (List.append (List.map (fun (p : Nat × Sy.Cont) => Blk.mk (Prod.fst p) (Prod.snd p) true) (q.1 z1 z2)) [])) (Sy.Res.hyp (q.2 z4 (List.append z2 z3)) (Sy.Res.need z0 (Sy.Res.hyp True (Sy.Res.need (q.2 z5 z6 ∧ z7 ≠ [] ∧ List.length z6 + (1 : Nat) ≤ (2000000 : Nat)) (Sy.Res.need (List.Perm (List.map (fun (p : Nat × Sy.Cont) => Blk.mk (Prod.fst p) (Prod.snd p) true) (q.1 z4 (List.append z2 z3))) (List.append (List.map (fun (p : Nat × Sy.Cont) => Blk.mk (Prod.fst p) (Prod.snd p) true) (q.1 z5 z6)) [])) (Sy.Res.hyp (q.2 z8 (List.append z6 z7)) (Sy.Res.need True (Sy.Res.hyp True (Sy.Res.need (q.2 z9 z10 ∧ z11 ≠ [] ∧ List.length z10 + (1 : Nat) ≤ (2000000 : Nat)) (Sy.Res.need (List.Perm (List.map (fun (p : Nat × Sy.Cont) => Blk.mk (Prod.fst p) (Prod.snd p) true) (q.1 z8 (List.append z6 z7))) (List.append (List.map (fun (p : Nat × Sy.Cont) => Blk.mk (Prod.fst p) (Prod.snd p) true) (q.1 z9 z10)) [])) (Sy.Res.hyp (q.2 z12 z13) (Sy.Res.leaf (Value.tuple (Array.mk []), Blk.mk y (Sy.Cont.obj (Obj.cells (Array.mk [Value.slice (slP z12) (Sy.lenS z12) (slC z12), mp, tv, Value.int IntKind.i64 e, Value.bool b]) (132 : Nat))) true :: List.map (fun (p : Nat × Sy.Cont) => Blk.mk (Prod.fst p) (Prod.snd p) true) (q.1 z12 z13)))))))))))))))))))
theorem sFF_run (q : Rw) (TL : List Blk) (y : Nat) (a : ActD) (iv ev fv : Value) (op old : Int) (v mp tv : Value) (e : Int) (b : Bool) (X : List I) : Sy.Ran (Sy.inY Tryz.prog (ctxSg q a.mode false false y mp tv b X) 50 fSingle #[.pointer (some ⟨y, 0, none⟩), actV a iv ev fv, .int .i64 op, .int .i64 24, .int .i64 25, .int .i64 old] (⟨y, layC (slV v) mp tv e b, true⟩ :: TL) 1) sFF_o (sFF_R q TL y a iv ev fv op old v mp tv e b X) := ⟨fun ns => by kernel_rfl, fun ns => by kernel_rfl⟩
end Go.Proofs.YtlpcnaeknbmjdaaGreat.Gn

namespace Go.Proofs.YtlpcnaeknbmjdaaGreat.Gn
open Go Go.RowKit
open Go.Proofs.YtlpcnaeknbmjdaaGreat.Sy (Let Blk HasL)
open Lw (I insCells tI)
noncomputable def aloneOp (op m : Int) : Int := op + (bif acqF m then 1 else 0) + (bif relF m then 2 else 0)
noncomputable def sgI (op old : Int) (a : ActD) : List I := [⟨aloneOp op a.mode, 25, 29, 24, 0, 0⟩] ++ nzI a.mode old ++ [⟨6, a.dst, 31, old, 0, 0⟩]
noncomputable def singleC (q : Rw) (y : Nat) (a : ActD) (iv ev fv : Value) (op old : Int) (v mp tv : Value) (e : Int) (b : Bool) (X : List I) : Sy.CallC :=
  ⟨fSingle, #[.pointer (some ⟨y, 0, none⟩), actV a iv ev fv, .int .i64 op, .int .i64 24, .int .i64 25, .int .i64 old], (q.V v X ∧ X.length + 6 ≤ 2000000) ∧ 0 ≤ op ∧ op ≤ 1000, ⟨[], (y, layC (slV v) mp tv e b) :: q.B v X, 1, []⟩, [putO q y mp tv e b (X ++ sgI op old a)]⟩
theorem add_small {k j : Int} (h : 0 ≤ k) (h' : k ≤ 2000) (hj : 0 ≤ j) (hj' : j ≤ 1000) : Ex.wrapQ .i64 (Ex.addQ k j) = k + j := by
  rw [Ex.wrapQ_eq, Ex.addQ_eq]
  simp [IntKind.wrap, IntKind.signed, IntKind.bits]
  omega
theorem singleC_met (y : Nat) (a : ActD) (iv ev fv : Value) (op old : Int) (v mp tv : Value) (e : Int) (b : Bool) (X : List I) : Sy.Meets Tryz.prog (singleC rowQ y a iv ev fv op old v mp tv e b X) := by
  have hE : Sy.Ent (Sy.blks (singleC rowQ y a iv ev fv op old v mp tv e b X).mem) (⟨y, layC (slV v) mp tv e b, true⟩ :: (rowB v X).map Sy.ownOf) := by
    show Sy.Ent (_ ++ []) _
    rw [List.append_nil]
    exact Sy.Ent.refl _
  cases hm : acqF a.mode <;> cases hr : relF a.mode
  · refine Sy.meets_ofY (k := 1) (ctxSg_holds a.mode false false y mp tv b X) mixed hE (sFF_run rowQ ((rowB v X).map Sy.ownOf) y a iv ev fv op old v mp tv e b X) fun hok ns => ?_
    obtain ⟨⟨h1, h2⟩, o1, o2⟩ := hok
    simp only [sFF_R, Sy.Res.holds]
    refine ⟨hm, fun _ => ⟨hr, fun _ => ⟨⟨rowV_of h1 (by simp), by simp, by simp; omega⟩, perm_row _ (by simp), fun k1 => ⟨hm, fun _ => ?_⟩⟩⟩⟩
    refine ⟨⟨rowV_of k1 (by simp), by simp, by simp; omega⟩, perm_row _ (by simp), fun k2 => ?_⟩
    refine ⟨trivial, fun _ => ⟨⟨rowV_of k2 (by simp), by simp, by simp; omega⟩, perm_row _ (by simp), fun k3 => ?_⟩⟩
    exact lay_fin k3 (List.mem_singleton_self _) rfl (by simp [sgI, nzI, aloneOp, hm, hr])
  · refine Sy.meets_ofY (k := 1) (ctxSg_holds a.mode false true y mp tv b X) mixed hE (sFT_run rowQ ((rowB v X).map Sy.ownOf) y a iv ev fv op old v mp tv e b X) fun hok ns => ?_
    obtain ⟨⟨h1, h2⟩, o1, o2⟩ := hok
    simp only [sFT_R, Sy.Res.holds]
    rw [add_small (k := op) (j := 2) o1 (by omega) (by omega) (by omega)]
    refine ⟨hm, fun _ => ⟨hr, fun _ => ⟨⟨rowV_of h1 (by simp), by simp, by simp; omega⟩, perm_row _ (by simp), fun k1 => ⟨hm, fun _ => ?_⟩⟩⟩⟩
    refine ⟨⟨rowV_of k1 (by simp), by simp, by simp; omega⟩, perm_row _ (by simp), fun k2 => ?_⟩
    refine ⟨trivial, fun _ => ⟨⟨rowV_of k2 (by simp), by simp, by simp; omega⟩, perm_row _ (by simp), fun k3 => ?_⟩⟩
    exact lay_fin k3 (List.mem_singleton_self _) rfl (by simp [sgI, nzI, aloneOp, hm, hr])
  · refine Sy.meets_ofY (k := 1) (ctxSg_holds a.mode true false y mp tv b X) mixed hE (sTF_run rowQ ((rowB v X).map Sy.ownOf) y a iv ev fv op old v mp tv e b X) fun hok ns => ?_
    obtain ⟨⟨h1, h2⟩, o1, o2⟩ := hok
    simp only [sTF_R, Sy.Res.holds]
    rw [add_small (k := op) (j := 1) o1 (by omega) (by omega) (by omega)]
    refine ⟨hm, fun _ => ⟨hr, fun _ => ⟨⟨rowV_of h1 (by simp), by simp, by simp; omega⟩, perm_row _ (by simp), fun k1 => ⟨hm, fun _ => ?_⟩⟩⟩⟩
    refine ⟨trivial, fun _ => ⟨⟨rowV_of k1 (by simp), by simp, by simp; omega⟩, perm_row _ (by simp), fun k3 => ?_⟩⟩
    exact lay_fin k3 (List.mem_singleton_self _) rfl (by simp [sgI, nzI, aloneOp, hm, hr])
  · refine Sy.meets_ofY (k := 1) (ctxSg_holds a.mode true true y mp tv b X) mixed hE (sTT_run rowQ ((rowB v X).map Sy.ownOf) y a iv ev fv op old v mp tv e b X) fun hok ns => ?_
    obtain ⟨⟨h1, h2⟩, o1, o2⟩ := hok
    simp only [sTT_R, Sy.Res.holds]
    rw [add_small (k := op) (j := 1) o1 (by omega) (by omega) (by omega), add_small (k := op + 1) (j := 2) (by omega) (by omega) (by omega) (by omega)]
    refine ⟨hm, fun _ => ⟨hr, fun _ => ⟨⟨rowV_of h1 (by simp), by simp, by simp; omega⟩, perm_row _ (by simp), fun k1 => ⟨hm, fun _ => ?_⟩⟩⟩⟩
    refine ⟨trivial, fun _ => ⟨⟨rowV_of k1 (by simp), by simp, by simp; omega⟩, perm_row _ (by simp), fun k3 => ?_⟩⟩
    exact lay_fin k3 (List.mem_singleton_self _) rfl (by simp [sgI, nzI, aloneOp, hm, hr])
end Go.Proofs.YtlpcnaeknbmjdaaGreat.Gn

namespace Go.Proofs.YtlpcnaeknbmjdaaGreat.Gn
set_option linter.unusedVariables false
set_option linter.unusedSimpArgs false
open Go Go.RowKit
open Go.Proofs.YtlpcnaeknbmjdaaGreat.Sy (Let Blk HasL)
open Lw (I insCells tI)
abbrev fBranch : FuncId := 107
abbrev fFill : FuncId := 136
abbrev tFn : TypeId := 1
noncomputable def ctxBr (q : Rw) (y : Nat) (i : I) (v mp tv : Value) (e : Int) (b : Bool) (X : List I) (R : List Blk) : Sy.Ctx :=
  Sy.mkU Sy.S0 [(fPut, fun a _ => putLU q y (Sy.ptrN (Sy.argV a 1)) (Sy.capN (Sy.argV a 1)) v mp tv e b X [i] R)] []
def br0_o : Sy.O := (Sy.O.pack 77 0x80004d4a0e629062004200040000000034c520c41005a5000041880500405000c2080812040000800180000000300040 Sy.O.nil)
noncomputable def br0_R (q : Rw) (TL : List Blk) (R : List Blk) (y : Nat) (op : Int) (rd : Int) (to : Int) (v : Value) (mp : Value) (e : Int) (b : Bool) (X : List I) (ns : Nat → Sy.Let) : Sy.Res (Value × List Blk) :=
 let z0 := [I.mk op rd (0 : Int) (0 : Int) (0 : Int) (0 : Int)]
 let z1 := (lv0 [ns (5 : Nat)])
 let z2 := (Let.n (ns 8))
 let z3 := [Value.func (Fn.func (136 : Nat)) (Array.mk []) (Array.mk [Value.pointer (some (Addr.mk (Let.n (ns 0)) (0 : Nat) none)), Value.pointer (some (Addr.mk (Let.n (ns 2)) (0 : Nat) none)), Value.pointer (some (Addr.mk (Let.n (ns 3)) (0 : Nat) none))])]
 let z4 := (Sy.Cont.obj (Obj.cells (Array.mk [Value.int IntKind.i64 op, Value.int IntKind.i64 rd, Value.int IntKind.i64 (0 : Int), Value.int IntKind.i64 (0 : Int), Value.int IntKind.i64 (0 : Int), Value.int IntKind.i64 (0 : Int)]) (49 : Nat)))
 Sy.Res.need (q.2 v X ∧ z0 ≠ [] ∧ List.length X + (1 : Nat) ≤ (2000000 : Nat)) (Sy.Res.need (List.Perm TL (List.append (List.map (fun (p : Nat × Sy.Cont) => Blk.mk (Prod.fst p) (Prod.snd p) true) (q.1 v X)) R)) (Sy.Res.hyp (q.2 z1 (List.append X z0)) (Sy.Res.hyp (Nat.le (1 : Nat) z2) (Sy.Res.leaf (Value.tuple (Array.mk []), Blk.mk (Let.n (ns 7)) (Sy.Cont.row (1 : Nat) (1 : Nat) (1 : Nat) z2 z3) true :: Blk.mk (Let.n (ns 6)) (Sy.Cont.obj (Obj.cells (Array.mk z3) (1 : Nat))) true :: Blk.mk y (Sy.Cont.obj (Obj.cells (Array.mk [Value.slice (slP z1) (Sy.lenS z1) (slC z1), mp, Value.slice (some (Addr.mk (Let.n (ns 7)) (0 : Nat) none)) (1 : Nat) z2, Value.int IntKind.i64 e, Value.bool b]) (132 : Nat))) true :: Blk.mk (Let.n (ns 4)) z4 true :: Blk.mk (Let.n (ns 3)) (Sy.Cont.obj (Obj.cells (Array.mk [Value.int IntKind.i64 (Int.ofNat (Sy.lenS v))]) (3 : Nat))) true :: Blk.mk (Let.n (ns 2)) (Sy.Cont.obj (Obj.cells (Array.mk [Value.int IntKind.i64 to]) (3 : Nat))) true :: Blk.mk (Let.n (ns 1)) z4 true :: Blk.mk (Let.n (ns 0)) (Sy.Cont.obj (Obj.cells (Array.mk [Value.pointer (some (Addr.mk y (0 : Nat) none))]) (128 : Nat))) true :: List.append R (List.map (fun (p : Nat × Sy.Cont) => Blk.mk (Prod.fst p) (Prod.snd p) true) (q.1 z1 (List.append X z0))))))))
theorem br0_run (q : Rw) (TL R : List Blk) (y : Nat) (op rd to : Int) (v mp : Value) (e : Int) (b : Bool) (X : List I) : Sy.Ran (Sy.inY Tryz.prog (ctxBr q y ⟨op, rd, 0, 0, 0, 0⟩ v mp (.slice none 0 0) e b X R) 50 fBranch #[.pointer (some ⟨y, 0, none⟩), .agg #[.int .i64 op, .int .i64 rd, .int .i64 0, .int .i64 0, .int .i64 0, .int .i64 0], .int .i64 to] (⟨y, layC (slV v) mp (.slice none 0 0) e b, true⟩ :: TL) 8) br0_o (br0_R q TL R y op rd to v mp e b X) := ⟨fun ns => by kernel_rfl, fun ns => by kernel_rfl⟩
def br1_o : Sy.O := (Sy.O.pack 80 0x400026a5073148310021000260802101c00034c520c41005a5000041880500405000e2080a12040000800180000000300040 Sy.O.nil)
noncomputable def br1_R (q : Rw) (TL : List Blk) (R : List Blk) (y : Nat) (g : Nat) (n : Nat) (cap : Nat) (fs : List Value) (op : Int) (rd : Int) (to : Int) (v : Value) (mp : Value) (e : Int) (b : Bool) (X : List I) (ns : Nat → Sy.Let) : Sy.Res (Value × List Blk) :=
 let z0 := [I.mk op rd (0 : Int) (0 : Int) (0 : Int) (0 : Int)]
 let z1 := (lv0 [ns (5 : Nat)])
 let z2 := (n + (1 : Nat))
 let z3 := (Let.n (ns 8))
 let z4 := [Value.func (Fn.func (136 : Nat)) (Array.mk []) (Array.mk [Value.pointer (some (Addr.mk (Let.n (ns 0)) (0 : Nat) none)), Value.pointer (some (Addr.mk (Let.n (ns 2)) (0 : Nat) none)), Value.pointer (some (Addr.mk (Let.n (ns 3)) (0 : Nat) none))])]
 let z5 := (Sy.Cont.obj (Obj.cells (Array.mk [Value.int IntKind.i64 op, Value.int IntKind.i64 rd, Value.int IntKind.i64 (0 : Int), Value.int IntKind.i64 (0 : Int), Value.int IntKind.i64 (0 : Int), Value.int IntKind.i64 (0 : Int)]) (49 : Nat)))
 Sy.Res.need (q.2 v X ∧ z0 ≠ [] ∧ List.length X + (1 : Nat) ≤ (2000000 : Nat)) (Sy.Res.need (List.Perm TL (List.append (List.map (fun (p : Nat × Sy.Cont) => Blk.mk (Prod.fst p) (Prod.snd p) true) (q.1 v X)) R)) (Sy.Res.hyp (q.2 z1 (List.append X z0)) (Sy.Res.need (n + (1 : Nat) ≤ (9223372036854775807 : Nat)) (Sy.Res.need (z2 * (8 : Nat) ≤ (140737488355328 : Nat)) (Sy.Res.hyp (Nat.le z2 z3) (Sy.Res.leaf (Value.tuple (Array.mk []), Blk.mk (Let.n (ns 7)) (Sy.Cont.row (1 : Nat) (1 : Nat) z2 z3 (List.append fs z4)) true :: Blk.mk (Let.n (ns 6)) (Sy.Cont.obj (Obj.cells (Array.mk z4) (1 : Nat))) true :: Blk.mk y (Sy.Cont.obj (Obj.cells (Array.mk [Value.slice (slP z1) (Sy.lenS z1) (slC z1), mp, Value.slice (some (Addr.mk (Let.n (ns 7)) (0 : Nat) none)) z2 z3, Value.int IntKind.i64 e, Value.bool b]) (132 : Nat))) true :: Blk.mk (Let.n (ns 4)) z5 true :: Blk.mk (Let.n (ns 3)) (Sy.Cont.obj (Obj.cells (Array.mk [Value.int IntKind.i64 (Int.ofNat (Sy.lenS v))]) (3 : Nat))) true :: Blk.mk (Let.n (ns 2)) (Sy.Cont.obj (Obj.cells (Array.mk [Value.int IntKind.i64 to]) (3 : Nat))) true :: Blk.mk (Let.n (ns 1)) z5 true :: Blk.mk (Let.n (ns 0)) (Sy.Cont.obj (Obj.cells (Array.mk [Value.pointer (some (Addr.mk y (0 : Nat) none))]) (128 : Nat))) true :: List.append R (List.map (fun (p : Nat × Sy.Cont) => Blk.mk (Prod.fst p) (Prod.snd p) true) (q.1 z1 (List.append X z0))))))))))
theorem br1_run (q : Rw) (TL R : List Blk) (y g n cap : Nat) (fs : List Value) (op rd to : Int) (v mp : Value) (e : Int) (b : Bool) (X : List I) : Sy.Ran (Sy.inY Tryz.prog (ctxBr q y ⟨op, rd, 0, 0, 0, 0⟩ v mp (.slice (some ⟨g, 0, none⟩) n cap) e b X R) 50 fBranch #[.pointer (some ⟨y, 0, none⟩), .agg #[.int .i64 op, .int .i64 rd, .int .i64 0, .int .i64 0, .int .i64 0, .int .i64 0], .int .i64 to] (⟨y, layC (slV v) mp (.slice (some ⟨g, 0, none⟩) n cap) e b, true⟩ :: ⟨g, .row tFn 1 n cap fs, true⟩ :: TL) 8) br1_o (br1_R q TL R y g n cap fs op rd to v mp e b X) := ⟨fun ns => by kernel_rfl, fun ns => by kernel_rfl⟩
end Go.Proofs.YtlpcnaeknbmjdaaGreat.Gn

namespace Go.Proofs.YtlpcnaeknbmjdaaGreat.Gn
open Go Go.RowKit
open Go.Proofs.YtlpcnaeknbmjdaaGreat.Sy (Let Blk HasL)
open Lw (I insCells tI)
structure Fl where
  yb : Nat
  tb : Nat
  ab : Nat
  to : Int
  at' : Int
def flV (f : Fl) : Value := .func (.func fFill) #[] #[.pointer (some ⟨f.yb, 0, none⟩), .pointer (some ⟨f.tb, 0, none⟩), .pointer (some ⟨f.ab, 0, none⟩)]
def flB (y : Nat) (f : Fl) : List (Nat × Sy.Cont) := [(f.ab, .obj (.cells #[.int .i64 f.at'] 3 (0, 0))), (f.tb, .obj (.cells #[.int .i64 f.to] 3 (0, 0))), (f.yb, .obj (.cells #[.pointer (some ⟨y, 0, none⟩)] 128 (0, 0)))]
def boxB (y : Nat) : List Fl → List (Nat × Sy.Cont)
  | [] => []
  | f :: fs => boxB y fs ++ flB y f
theorem boxB_snoc (y : Nat) (fs : List Fl) (f : Fl) : boxB y (fs ++ [f]) = flB y f ++ boxB y fs := by
  induction fs with
  | nil => simp [boxB]
  | cons g fs ih => simp [boxB, ih]
def frowB (tv : Value) (fs : List Fl) : List (Nat × Sy.Cont) := match slP tv with
  | some ⟨g, 0, none⟩ => [(g, .row tFn 1 fs.length (slC tv) (fs.map flV))]
  | _ => []
def fillB (y : Nat) (tv : Value) (fs : List Fl) : List (Nat × Sy.Cont) := frowB tv fs ++ boxB y fs
def FillV (tv : Value) (fs : List Fl) : Prop := (fs = [] ∧ slP tv = none ∧ Sy.lenS tv = 0 ∧ slC tv = 0) ∨ (∃ g, slP tv = some ⟨g, 0, none⟩ ∧ Sy.lenS tv = fs.length ∧ fs.length ≤ slC tv ∧ fs ≠ [])
theorem FillV.lit {v : Value} {X : List Fl} (h : FillV v X) : (X = [] ∧ slV v = .slice none 0 0 ∧ frowB v X = []) ∨ ∃ g cap, slV v = .slice (some ⟨g, 0, none⟩) X.length cap ∧ frowB v X = [(g, .row tFn 1 X.length cap (X.map flV))] ∧ X.length ≤ cap ∧ X ≠ [] := by
  rcases h with ⟨h1, h2, h3, h4⟩ | ⟨g, h2, h3, h4, h5⟩
  · refine .inl ⟨h1, ?_, ?_⟩
    · rw [slV, h2, h3, h4]
    · unfold frowB
      rw [h2]
  · refine .inr ⟨g, slC v, ?_, ?_, h4, h5⟩
    · rw [slV, h2, h3]
    · unfold frowB
      rw [h2]
      rfl
theorem fillV_nil : FillV (.slice none 0 0) [] := .inl ⟨rfl, rfl, rfl, rfl⟩
structure Fw where
  B : Nat → Value → List Fl → List (Nat × Sy.Cont)
  V : Value → List Fl → Prop
def fillQ : Fw := ⟨fillB, FillV⟩
def letN (ns : List Let) (i : Nat) : Nat := (ns.getD i Let.none).n
def letW (ns : List Let) (i : Nat) : Value := (ns.getD i Let.none).v
def newF (ns : List Let) (to : Int) (X : List I) : Fl := ⟨letN ns 2, letN ns 3, letN ns 4, to, Int.ofNat X.length⟩
def brO (q : Rw) (w : Fw) (y : Nat) (mp : Value) (e : Int) (b : Bool) (X : List I) (fs : List Fl) (i : I) (to : Int) : Sy.OutM × (List Let → Value) :=
  (⟨fun ns => q.V (letW ns 0) (X ++ [i]) ∧ w.V (letW ns 1) (fs ++ [newF ns to X]), fun ns => [(y, layC (slV (letW ns 0)) mp (slV (letW ns 1)) e b)], fun ns => q.B (letW ns 0) (X ++ [i]) ++ w.B y (letW ns 1) (fs ++ [newF ns to X])⟩, fun _ => .tuple #[])
noncomputable def brC (q : Rw) (w : Fw) (y : Nat) (v tv mp : Value) (e : Int) (b : Bool) (X : List I) (fs : List Fl) (op rd to : Int) : Sy.CallC :=
  ⟨fBranch, #[.pointer (some ⟨y, 0, none⟩), .agg #[.int .i64 op, .int .i64 rd, .int .i64 0, .int .i64 0, .int .i64 0, .int .i64 0], .int .i64 to], q.V v X ∧ w.V tv fs ∧ X.length + 1 ≤ 2000000 ∧ fs.length ≤ 2000000,
    ⟨[], (y, layC (slV v) mp (slV tv) e b) :: (q.B v X ++ w.B y tv fs), 5, []⟩, [brO q w y mp e b X fs ⟨op, rd, 0, 0, 0, 0⟩ to]⟩
def letO (n : Nat) : Let := ⟨n, 0, false, undef, []⟩
theorem br_leaf {c : Sy.CallC} {y : Nat} {mp : Value} {e : Int} {b : Bool} {X : List I} {fs : List Fl} {i : I} {to : Int} (ho : brO rowQ fillQ y mp e b X fs i to ∈ c.outs) (hm : c.mem.m = 5) {v v0 : Value} {g n cap yb tb ab : Nat} {xs : List Value}
    (hv0 : Sy.lenS v0 = X.length) (hX : RowV v (X ++ [i])) (hn : n = fs.length + 1) (hc : n ≤ cap) (hxs : xs = fs.map flV ++ [.func (.func fFill) #[] #[.pointer (some ⟨yb, 0, none⟩), .pointer (some ⟨tb, 0, none⟩), .pointer (some ⟨ab, 0, none⟩)]])
    {p4 p1 p6 : Blk} {BX : List Blk} (hB : BX = (rowB v (X ++ [i])).map Sy.ownOf) : Sy.leafB c (.tuple #[], ⟨g, .row tFn 1 n cap xs, true⟩ :: p6 :: ⟨y, layC (slV v) mp (.slice (some ⟨g, 0, none⟩) n cap) e b, true⟩ :: p4 :: ⟨ab, .obj (.cells #[.int .i64 (Int.ofNat (Sy.lenS v0))] 3 (0, 0)), true⟩ :: ⟨tb, .obj (.cells #[.int .i64 to] 3 (0, 0)), true⟩ :: p1 :: ⟨yb, .obj (.cells #[.pointer (some ⟨y, 0, none⟩)] 128 (0, 0)), true⟩ :: ((boxB y fs).map Sy.ownOf ++ BX)) := by
  subst hB
  have hne : fs ++ [newF [letV v, letV (.slice (some ⟨g, 0, none⟩) n cap), letO yb, letO tb, letO ab] to X] ≠ [] := by simp
  refine ⟨_, ho, [letV v, letV (.slice (some ⟨g, 0, none⟩) n cap), letO yb, letO tb, letO ab], hm.symm, rfl, ?_, hX, .inr ⟨g, rfl, ?_, ?_, hne⟩⟩
  · rw [hv0]
    have e1 : ∀ F : Fl, flV F = .func (.func fFill) #[] #[.pointer (some ⟨yb, 0, none⟩), .pointer (some ⟨tb, 0, none⟩), .pointer (some ⟨ab, 0, none⟩)] → frowB (.slice (some ⟨g, 0, none⟩) n cap) (fs ++ [F]) = [(g, .row tFn 1 n cap xs)] := fun F hF => by
      show [(g, Sy.Cont.row tFn 1 _ cap _)] = _
      rw [hxs, hn, List.map_append, List.length_append]
      show [(g, Sy.Cont.row tFn 1 _ cap (List.map flV fs ++ [flV F]))] = _
      rw [hF]
      rfl
    have key : ∀ F : Fl, flV F = .func (.func fFill) #[] #[.pointer (some ⟨yb, 0, none⟩), .pointer (some ⟨tb, 0, none⟩), .pointer (some ⟨ab, 0, none⟩)] → flB y F = [(ab, .obj (.cells #[.int .i64 (Int.ofNat X.length)] 3 (0, 0))), (tb, .obj (.cells #[.int .i64 to] 3 (0, 0))), (yb, .obj (.cells #[.pointer (some ⟨y, 0, none⟩)] 128 (0, 0)))] →
        Sy.Ent (⟨g, .row tFn 1 n cap xs, true⟩ :: p6 :: ⟨y, layC (slV v) mp (.slice (some ⟨g, 0, none⟩) n cap) e b, true⟩ :: p4 :: ⟨ab, .obj (.cells #[.int .i64 (Int.ofNat X.length)] 3 (0, 0)), true⟩ :: ⟨tb, .obj (.cells #[.int .i64 to] 3 (0, 0)), true⟩ :: p1 :: ⟨yb, .obj (.cells #[.pointer (some ⟨y, 0, none⟩)] 128 (0, 0)), true⟩ :: ((boxB y fs).map Sy.ownOf ++ (rowB v (X ++ [i])).map Sy.ownOf))
          (⟨y, layC (slV v) mp (.slice (some ⟨g, 0, none⟩) n cap) e b, true⟩ :: (rowB v (X ++ [i]) ++ (frowB (.slice (some ⟨g, 0, none⟩) n cap) (fs ++ [F]) ++ boxB y (fs ++ [F]))).map Sy.ownOf) := fun F hF hB => by
      rw [boxB_snoc, e1 F hF, hB, List.map_append, List.map_append, List.map_append]
      generalize (rowB v (X ++ [i])).map Sy.ownOf = Q
      generalize (boxB y fs).map Sy.ownOf = Z
      refine Sy.Ent.trans (Sy.Ent.sub (.cons_cons _ (.cons _ (.cons_cons _ (.cons _ (.cons_cons _ (.cons_cons _ (.cons _ (.cons_cons _ (.refl _))))))))) ) (Sy.Ent.perm ((List.Perm.swap _ _ _).trans (List.Perm.cons _ ?_)))
      exact List.perm_append_comm (l₁ := _ :: _ :: _ :: _ :: Z) (l₂ := Q)
    exact key _ rfl rfl
  · show n = (fs ++ [_]).length
    simp [hn]
  · show (fs ++ [_]).length ≤ cap
    simp only [List.length_append, List.length_singleton]
    omega
theorem brC_met (y : Nat) (v tv mp : Value) (e : Int) (b : Bool) (X : List I) (fs : List Fl) (op rd to : Int) : Sy.Meets Tryz.prog (brC rowQ fillQ y v tv mp e b X fs op rd to) := fun hok => by
  obtain ⟨hX, hF, h1, h2⟩ := id hok
  rcases hF.lit with ⟨rfl, k1, k2⟩ | ⟨g, cap, k1, k2, hc, hne⟩
  · have hS : (ctxBr rowQ y ⟨op, rd, 0, 0, 0, 0⟩ v mp (.slice none 0 0) e b X []).holds Tryz.prog := Sy.mkU_holds Sy.S0_holds (fun p hp a L => by
      rcases List.mem_singleton.1 hp with rfl
      exact putL_met _ _ _ _ _ _ _ _ _ _) (fun _ h => (by cases h))
    refine Sy.meets_ofY (k := 8) (c := brC rowQ fillQ y v tv mp e b X [] op rd to) hS mixed (L := ⟨y, layC (slV v) mp (.slice none 0 0) e b, true⟩ :: (rowB v X).map Sy.ownOf) ?_ (br0_run rowQ ((rowB v X).map Sy.ownOf) [] y op rd to v mp e b X) (fun _ ns => ?_) hok
    · show Sy.Ent (⟨y, layC (slV v) mp (slV tv) e b, true⟩ :: ((rowB v X ++ (frowB tv [] ++ [])).map Sy.ownOf ++ [])) _
      rw [k1, k2, List.append_nil, List.append_nil, List.append_nil]
      exact Sy.Ent.refl _
    · simp only [br0_R, Sy.Res.holds]
      refine ⟨⟨hX, by simp, h1⟩, List.Perm.of_eq (List.append_nil _).symm, fun m1 => ?_⟩
      refine fun hcap => br_leaf (fs := []) (List.mem_singleton_self _) rfl hX.len m1 rfl hcap rfl rfl
  · have hS : (ctxBr rowQ y ⟨op, rd, 0, 0, 0, 0⟩ v mp (.slice (some ⟨g, 0, none⟩) fs.length cap) e b X ((boxB y fs).map Sy.ownOf)).holds Tryz.prog := Sy.mkU_holds Sy.S0_holds (fun p hp a L => by
      rcases List.mem_singleton.1 hp with rfl
      exact putL_met _ _ _ _ _ _ _ _ _ _) (fun _ h => (by cases h))
    refine Sy.meets_ofY (k := 8) (c := brC rowQ fillQ y v tv mp e b X fs op rd to) hS mixed (L := ⟨y, layC (slV v) mp (.slice (some ⟨g, 0, none⟩) fs.length cap) e b, true⟩ :: ⟨g, .row tFn 1 fs.length cap (fs.map flV), true⟩ :: ((rowB v X).map Sy.ownOf ++ (boxB y fs).map Sy.ownOf)) ?_ (br1_run rowQ ((rowB v X).map Sy.ownOf ++ (boxB y fs).map Sy.ownOf) ((boxB y fs).map Sy.ownOf) y g fs.length cap (fs.map flV) op rd to v mp e b X) (fun _ ns => ?_) hok
    · show Sy.Ent (⟨y, layC (slV v) mp (slV tv) e b, true⟩ :: ((rowB v X ++ (frowB tv fs ++ boxB y fs)).map Sy.ownOf ++ [])) _
      rw [k1, k2, List.append_nil, List.map_append, List.map_append]
      refine Sy.Ent.perm (List.Perm.cons _ ?_)
      exact List.perm_middle
    · simp only [br1_R, Sy.Res.holds]
      refine ⟨⟨hX, by simp, h1⟩, List.Perm.refl _, fun m1 => ⟨by omega, by omega, fun hcap => ?_⟩⟩
      exact br_leaf (List.mem_singleton_self _) rfl hX.len m1 rfl hcap rfl rfl
end Go.Proofs.YtlpcnaeknbmjdaaGreat.Gn
