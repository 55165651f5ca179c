/-
  The program's look at an act: what an act has. And what follows it.
-/
import Derived.Test.YtbgmkefehfjicaaMc

/-
  The program's look at an act: what an act has.
-/
namespace Go.Proofs.Ytbgmkefehfjicaa
set_option linter.unusedVariables false
set_option linter.unusedSimpArgs false
open Go Go.RowKit
open Sy (Let Blk HasL)

abbrev fParts : FuncId := 41
def pt1_o : Sy.O := (Sy.O.pack 6 0x0 Sy.O.nil)
noncomputable def pt1_R  (ns : Nat → Sy.Let) : Sy.Res (Value × List Blk) := .leaf (Value.agg (Array.mk [Value.bool true, Value.bool false, Value.bool true, Value.bool false, Value.bool false]), [Blk.mk (Let.n (ns 0)) (.obj (.cells (Array.mk [Value.bool true, Value.bool false, Value.bool true, Value.bool false, Value.bool false]) (109 : Nat))) true])

theorem pt1_run  : Sy.Ran (Sy.inB Try.prog Sy.S0 50 fParts #[.int .i64 1] []) pt1_o (pt1_R ) := ⟨fun ns => by kernel_rfl, fun ns => by kernel_rfl⟩
def pt2_o : Sy.O := (Sy.O.pack 6 0x0 Sy.O.nil)
noncomputable def pt2_R  (ns : Nat → Sy.Let) : Sy.Res (Value × List Blk) := .leaf (Value.agg (Array.mk [Value.bool true, Value.bool true, Value.bool false, Value.bool false, Value.bool false]), [Blk.mk (Let.n (ns 0)) (.obj (.cells (Array.mk [Value.bool true, Value.bool true, Value.bool false, Value.bool false, Value.bool false]) (109 : Nat))) true])

theorem pt2_run  : Sy.Ran (Sy.inB Try.prog Sy.S0 50 fParts #[.int .i64 2] []) pt2_o (pt2_R ) := ⟨fun ns => by kernel_rfl, fun ns => by kernel_rfl⟩
def pt3_o : Sy.O := (Sy.O.pack 6 0x0 Sy.O.nil)
noncomputable def pt3_R  (ns : Nat → Sy.Let) : Sy.Res (Value × List Blk) := .leaf (Value.agg (Array.mk [Value.bool false, Value.bool true, Value.bool true, Value.bool false, Value.bool false]), [Blk.mk (Let.n (ns 0)) (.obj (.cells (Array.mk [Value.bool false, Value.bool true, Value.bool true, Value.bool false, Value.bool false]) (109 : Nat))) true])

theorem pt3_run  : Sy.Ran (Sy.inB Try.prog Sy.S0 50 fParts #[.int .i64 3] []) pt3_o (pt3_R ) := ⟨fun ns => by kernel_rfl, fun ns => by kernel_rfl⟩
def pt4_o : Sy.O := (Sy.O.pack 6 0x0 Sy.O.nil)
noncomputable def pt4_R  (ns : Nat → Sy.Let) : Sy.Res (Value × List Blk) := .leaf (Value.agg (Array.mk [Value.bool true, Value.bool true, Value.bool true, Value.bool false, Value.bool false]), [Blk.mk (Let.n (ns 0)) (.obj (.cells (Array.mk [Value.bool true, Value.bool true, Value.bool true, Value.bool false, Value.bool false]) (109 : Nat))) true])

theorem pt4_run  : Sy.Ran (Sy.inB Try.prog Sy.S0 50 fParts #[.int .i64 4] []) pt4_o (pt4_R ) := ⟨fun ns => by kernel_rfl, fun ns => by kernel_rfl⟩
def pt5_o : Sy.O := (Sy.O.pack 6 0x0 Sy.O.nil)
noncomputable def pt5_R  (ns : Nat → Sy.Let) : Sy.Res (Value × List Blk) := .leaf (Value.agg (Array.mk [Value.bool true, Value.bool true, Value.bool true, Value.bool false, Value.bool false]), [Blk.mk (Let.n (ns 0)) (.obj (.cells (Array.mk [Value.bool true, Value.bool true, Value.bool true, Value.bool false, Value.bool false]) (109 : Nat))) true])

theorem pt5_run  : Sy.Ran (Sy.inB Try.prog Sy.S0 50 fParts #[.int .i64 5] []) pt5_o (pt5_R ) := ⟨fun ns => by kernel_rfl, fun ns => by kernel_rfl⟩
def pt6_o : Sy.O := (Sy.O.pack 6 0x0 Sy.O.nil)
noncomputable def pt6_R  (ns : Nat → Sy.Let) : Sy.Res (Value × List Blk) := .leaf (Value.agg (Array.mk [Value.bool true, Value.bool true, Value.bool true, Value.bool true, Value.bool false]), [Blk.mk (Let.n (ns 0)) (.obj (.cells (Array.mk [Value.bool true, Value.bool true, Value.bool true, Value.bool true, Value.bool false]) (109 : Nat))) true])

theorem pt6_run  : Sy.Ran (Sy.inB Try.prog Sy.S0 50 fParts #[.int .i64 6] []) pt6_o (pt6_R ) := ⟨fun ns => by kernel_rfl, fun ns => by kernel_rfl⟩
def pt7_o : Sy.O := (Sy.O.pack 6 0x0 Sy.O.nil)
noncomputable def pt7_R  (ns : Nat → Sy.Let) : Sy.Res (Value × List Blk) := .leaf (Value.agg (Array.mk [Value.bool false, Value.bool false, Value.bool false, Value.bool false, Value.bool false]), [Blk.mk (Let.n (ns 0)) (.obj (.cells (Array.mk [Value.bool false, Value.bool false, Value.bool false, Value.bool false, Value.bool false]) (109 : Nat))) true])

theorem pt7_run  : Sy.Ran (Sy.inB Try.prog Sy.S0 50 fParts #[.int .i64 7] []) pt7_o (pt7_R ) := ⟨fun ns => by kernel_rfl, fun ns => by kernel_rfl⟩
def pt8_o : Sy.O := (Sy.O.pack 6 0x0 Sy.O.nil)
noncomputable def pt8_R  (ns : Nat → Sy.Let) : Sy.Res (Value × List Blk) := .leaf (Value.agg (Array.mk [Value.bool false, Value.bool false, Value.bool true, Value.bool false, Value.bool false]), [Blk.mk (Let.n (ns 0)) (.obj (.cells (Array.mk [Value.bool false, Value.bool false, Value.bool true, Value.bool false, Value.bool false]) (109 : Nat))) true])

theorem pt8_run  : Sy.Ran (Sy.inB Try.prog Sy.S0 50 fParts #[.int .i64 8] []) pt8_o (pt8_R ) := ⟨fun ns => by kernel_rfl, fun ns => by kernel_rfl⟩
def pt9_o : Sy.O := (Sy.O.pack 6 0x0 Sy.O.nil)
noncomputable def pt9_R  (ns : Nat → Sy.Let) : Sy.Res (Value × List Blk) := .leaf (Value.agg (Array.mk [Value.bool false, Value.bool false, Value.bool false, Value.bool false, Value.bool true]), [Blk.mk (Let.n (ns 0)) (.obj (.cells (Array.mk [Value.bool false, Value.bool false, Value.bool false, Value.bool false, Value.bool true]) (109 : Nat))) true])

theorem pt9_run  : Sy.Ran (Sy.inB Try.prog Sy.S0 50 fParts #[.int .i64 9] []) pt9_o (pt9_R ) := ⟨fun ns => by kernel_rfl, fun ns => by kernel_rfl⟩
def pt10_o : Sy.O := (Sy.O.pack 6 0x0 Sy.O.nil)
noncomputable def pt10_R  (ns : Nat → Sy.Let) : Sy.Res (Value × List Blk) := .leaf (Value.agg (Array.mk [Value.bool false, Value.bool false, Value.bool true, Value.bool false, Value.bool true]), [Blk.mk (Let.n (ns 0)) (.obj (.cells (Array.mk [Value.bool false, Value.bool false, Value.bool true, Value.bool false, Value.bool true]) (109 : Nat))) true])

theorem pt10_run  : Sy.Ran (Sy.inB Try.prog Sy.S0 50 fParts #[.int .i64 10] []) pt10_o (pt10_R ) := ⟨fun ns => by kernel_rfl, fun ns => by kernel_rfl⟩

def hasDst (op : Int) : Bool := decide (op = 1 ∨ op = 2 ∨ op = 4 ∨ op = 5 ∨ op = 6)
def hasPlace (op : Int) : Bool := decide (2 ≤ op ∧ op ≤ 6)
def hasE (op : Int) : Bool := decide (op ≠ 2 ∧ op ≠ 7 ∧ op ≠ 9)
def hasF (op : Int) : Bool := decide (op = 6)
def hasTo (op : Int) : Bool := decide (op = 9 ∨ op = 10)
def partsV (op : Int) : Value := .agg #[.bool (hasDst op), .bool (hasPlace op), .bool (hasE op), .bool (hasF op), .bool (hasTo op)]
def partsC (op : Int) : Sy.CallC := ⟨fParts, #[.int .i64 op], 1 ≤ op ∧ op ≤ 10, ⟨[], [], 0, []⟩, [Sy.plainO (partsV op)]⟩

theorem partsC_met (op : Int) : Sy.Meets Try.prog (partsC op) := fun hok => by
  have h : op = 1 ∨ op = 2 ∨ op = 3 ∨ op = 4 ∨ op = 5 ∨ op = 6 ∨ op = 7 ∨ op = 8 ∨ op = 9 ∨ op = 10 := by
    have := hok.1
    have := hok.2
    omega
  rcases h with rfl | rfl | rfl | rfl | rfl | rfl | rfl | rfl | rfl | rfl
  · exact Sy.meets_ofB Sy.S0_holds mixed (c := partsC 1) (L := []) (Sy.Ent.refl _) pt1_run (fun _ ns => by
      simp only [pt1_R, Sy.Res.holds]
      first | exact plainB_leaf (List.mem_singleton_self _) rfl rfl | exact fun _ => plainB_leaf (List.mem_singleton_self _) rfl rfl) hok
  · exact Sy.meets_ofB Sy.S0_holds mixed (c := partsC 2) (L := []) (Sy.Ent.refl _) pt2_run (fun _ ns => by
      simp only [pt2_R, Sy.Res.holds]
      first | exact plainB_leaf (List.mem_singleton_self _) rfl rfl | exact fun _ => plainB_leaf (List.mem_singleton_self _) rfl rfl) hok
  · exact Sy.meets_ofB Sy.S0_holds mixed (c := partsC 3) (L := []) (Sy.Ent.refl _) pt3_run (fun _ ns => by
      simp only [pt3_R, Sy.Res.holds]
      first | exact plainB_leaf (List.mem_singleton_self _) rfl rfl | exact fun _ => plainB_leaf (List.mem_singleton_self _) rfl rfl) hok
  · exact Sy.meets_ofB Sy.S0_holds mixed (c := partsC 4) (L := []) (Sy.Ent.refl _) pt4_run (fun _ ns => by
      simp only [pt4_R, Sy.Res.holds]
      first | exact plainB_leaf (List.mem_singleton_self _) rfl rfl | exact fun _ => plainB_leaf (List.mem_singleton_self _) rfl rfl) hok
  · exact Sy.meets_ofB Sy.S0_holds mixed (c := partsC 5) (L := []) (Sy.Ent.refl _) pt5_run (fun _ ns => by
      simp only [pt5_R, Sy.Res.holds]
      first | exact plainB_leaf (List.mem_singleton_self _) rfl rfl | exact fun _ => plainB_leaf (List.mem_singleton_self _) rfl rfl) hok
  · exact Sy.meets_ofB Sy.S0_holds mixed (c := partsC 6) (L := []) (Sy.Ent.refl _) pt6_run (fun _ ns => by
      simp only [pt6_R, Sy.Res.holds]
      first | exact plainB_leaf (List.mem_singleton_self _) rfl rfl | exact fun _ => plainB_leaf (List.mem_singleton_self _) rfl rfl) hok
  · exact Sy.meets_ofB Sy.S0_holds mixed (c := partsC 7) (L := []) (Sy.Ent.refl _) pt7_run (fun _ ns => by
      simp only [pt7_R, Sy.Res.holds]
      first | exact plainB_leaf (List.mem_singleton_self _) rfl rfl | exact fun _ => plainB_leaf (List.mem_singleton_self _) rfl rfl) hok
  · exact Sy.meets_ofB Sy.S0_holds mixed (c := partsC 8) (L := []) (Sy.Ent.refl _) pt8_run (fun _ ns => by
      simp only [pt8_R, Sy.Res.holds]
      first | exact plainB_leaf (List.mem_singleton_self _) rfl rfl | exact fun _ => plainB_leaf (List.mem_singleton_self _) rfl rfl) hok
  · exact Sy.meets_ofB Sy.S0_holds mixed (c := partsC 9) (L := []) (Sy.Ent.refl _) pt9_run (fun _ ns => by
      simp only [pt9_R, Sy.Res.holds]
      first | exact plainB_leaf (List.mem_singleton_self _) rfl rfl | exact fun _ => plainB_leaf (List.mem_singleton_self _) rfl rfl) hok
  · exact Sy.meets_ofB Sy.S0_holds mixed (c := partsC 10) (L := []) (Sy.Ent.refl _) pt10_run (fun _ ns => by
      simp only [pt10_R, Sy.Res.holds]
      first | exact plainB_leaf (List.mem_singleton_self _) rfl rfl | exact fun _ => plainB_leaf (List.mem_singleton_self _) rfl rfl) hok

end Go.Proofs.Ytbgmkefehfjicaa

/-
  The program's look at an act: contexts.
-/
namespace Go.Proofs.Ytbgmkefehfjicaa
open Go Go.RowKit
open Sy (Let Blk HasL)

noncomputable def ctxW (B : List (Nat × Sy.Cont)) (op dst base size mode to line col : Int) (iv ev fv tv : Value) (ix e f : List NodeD) (cells loc : Int) : Sy.Ctx := Sy.mkS [(fMay, fun _ _ => mayC op mode), (fParts, fun _ _ => partsC op), (fPlace, fun _ _ => placeC B op dst base size mode to line col iv ev fv tv ix cells loc), (fExpr, fun _ _ => exprC B ev e loc), (fExpr, fun _ _ => exprC B fv f loc)] [] []
theorem ctxW_holds (B : List (Nat × Sy.Cont)) (op dst base size mode to line col : Int) (iv ev fv tv : Value) (ix e f : List NodeD) (cells loc : Int) : (ctxW B op dst base size mode to line col iv ev fv tv ix e f cells loc).holds Try.prog := Sy.mkS_holds (fun p hp a L => by
  simp only [List.mem_cons, List.not_mem_nil, or_false] at hp
  rcases hp with rfl | rfl | rfl | rfl | rfl
  · exact mayC_met _ _
  · exact partsC_met _
  · exact placeC_met _ _ _ _ _ _ _ _ _ _ _ _ _ _ _ _
  · exact exprC_met _ _ _ _
  · exact exprC_met _ _ _ _) (fun _ h => (by cases h)) (fun _ h => (by cases h))

def partsX (op : Int) : Sy.CallC := ⟨fParts, #[.int .i64 op], False, ⟨[], [], 0, []⟩, [Sy.plainO (.agg #[.bool false, .bool false, .bool false, .bool false, .bool false])]⟩
noncomputable def ctxV (op mode : Int) : Sy.Ctx := Sy.mkS [(fMay, fun _ _ => mayC op mode), (fParts, fun _ _ => partsX op)] [] []
theorem ctxV_holds (op mode : Int) : (ctxV op mode).holds Try.prog := Sy.mkS_holds (fun p hp a L => by
  simp only [List.mem_cons, List.not_mem_nil, or_false] at hp
  rcases hp with rfl | rfl
  · exact mayC_met _ _
  · exact fun h => h.elim) (fun _ h => (by cases h)) (fun _ h => (by cases h))

end Go.Proofs.Ytbgmkefehfjicaa

/-
  The program's look at an act: the runs, by its number.
-/
namespace Go.Proofs.Ytbgmkefehfjicaa
set_option linter.unusedVariables false
set_option linter.unusedSimpArgs false
open Go Go.RowKit
open Sy (Let Blk HasL)

def wac1_o : Sy.O := (Sy.O.pack 28 0x400000020000010000000020000000040 (Sy.O.fork Sy.O.nil (Sy.O.pack 20 0x300000000000040000040 (Sy.O.fork (Sy.O.pack 7 0x0 Sy.O.nil) (Sy.O.pack 11 0x800000c00 (Sy.O.fork (Sy.O.steps [0] Sy.O.nil) (Sy.O.pack 30 0xc00000000000000000000000000000000 (Sy.O.fork (Sy.O.pack 10 0x0 Sy.O.nil) (Sy.O.pack 7 0xc00 (Sy.O.fork (Sy.O.pack 5 0x0 Sy.O.nil) (Sy.O.pack 8 0x2000c00 (Sy.O.fork Sy.O.nil (Sy.O.pack 7 0x40300000 (Sy.O.fork (Sy.O.steps [0] Sy.O.nil) (Sy.O.pack 7 0x40300000 (Sy.O.fork (Sy.O.steps [0] Sy.O.nil) (Sy.O.pack 20 0x404080000800000c0000000 (Sy.O.fork (Sy.O.steps [0] Sy.O.nil) (Sy.O.pack 31 0x18000000000000000000000000000000000 (Sy.O.fork Sy.O.nil Sy.O.nil))))))))))))))))))))
noncomputable def wac1_R (B : List (Nat × Sy.Cont)) (dst : Int) (base : Int) (size : Int) (mode : Int) (to : Int) (line : Int) (col : Int) (iv : Value) (ev : Value) (fv : Value) (tv : Value) (av : Value) (ix : List NodeD) (e : List NodeD) (f : List NodeD) (cells : Int) (loc : Int) (ns : Nat → Sy.Let) : Sy.Res (Value × List Blk) := .need True (.hyp True (.br (bif false then true else !mayF (1 : Int) mode) (.leaf (Value.bool false, Blk.mk (Let.n (ns 2)) (.obj (.cells (Array.mk [.int .i64 loc, av]) (37 : Nat))) true :: Blk.mk (Let.n (ns 1)) (.obj (.cells (Array.mk [.int .i64 cells, tv]) (27 : Nat))) true :: Blk.mk (Let.n (ns 0)) (.obj (.cells (Array.mk [.int .i64 (1 : Int), .int .i64 dst, .int .i64 base, .int .i64 size, iv, ev, fv, .int .i64 mode, .int .i64 to, .int .i64 line, .int .i64 col]) (67 : Nat))) true :: rdOf B)) (.need ((1 : Int) ≤ (1 : Int) ∧ (1 : Int) ≤ (10 : Int)) (.hyp True (.br (Ex.ltQ dst (0 : Int)) (.leaf (Value.bool false, Blk.mk (Let.n (ns 3)) (.obj (.cells (Array.mk [Value.bool true, Value.bool false, Value.bool true, Value.bool false, Value.bool false]) (109 : Nat))) true :: Blk.mk (Let.n (ns 2)) (.obj (.cells (Array.mk [.int .i64 loc, av]) (37 : Nat))) true :: Blk.mk (Let.n (ns 1)) (.obj (.cells (Array.mk [.int .i64 cells, tv]) (27 : Nat))) true :: Blk.mk (Let.n (ns 0)) (.obj (.cells (Array.mk
 [.int .i64 (1 : Int), .int .i64 dst, .int .i64 base, .int .i64 size, iv, ev, fv, .int .i64 mode, .int .i64 to, .int .i64 line, .int .i64 col]) (67 : Nat))) true :: rdOf B)) (.br (bif true then bif false then true else Ex.leQ loc dst else false) (.leaf (Value.bool false, Blk.mk (Let.n (ns 3)) (.obj (.cells (Array.mk [Value.bool true, Value.bool false, Value.bool true, Value.bool false, Value.bool false]) (109 : Nat))) true :: Blk.mk (Let.n (ns 2)) (.obj (.cells (Array.mk [.int .i64 loc, av]) (37 : Nat))) true :: Blk.mk (Let.n (ns 1)) (.obj (.cells (Array.mk [.int .i64 cells, tv]) (27 : Nat))) true :: Blk.mk (Let.n (ns 0)) (.obj (.cells (Array.mk [.int .i64 (1 : Int), .int .i64 dst, .int .i64 base, .int .i64 size, iv, ev, fv, .int .i64 mode, .int .i64 to, .int .i64 line, .int .i64 col]) (67 : Nat))) true :: rdOf B)) (.br (!Ex.eqQ base (0 : Int)) (.leaf (Value.bool false, Blk.mk (Let.n (ns 3)) (.obj (.cells (Array.mk [Value.bool true, Value.bool false, Value.bool true, Value.bool false,
 Value.bool false]) (109 : Nat))) true :: Blk.mk (Let.n (ns 2)) (.obj (.cells (Array.mk [.int .i64 loc, av]) (37 : Nat))) true :: Blk.mk (Let.n (ns 1)) (.obj (.cells (Array.mk [.int .i64 cells, tv]) (27 : Nat))) true :: Blk.mk (Let.n (ns 0)) (.obj (.cells (Array.mk [.int .i64 (1 : Int), .int .i64 dst, .int .i64 base, .int .i64 size, iv, ev, fv, .int .i64 mode, .int .i64 to, .int .i64 line, .int .i64 col]) (67 : Nat))) true :: rdOf B)) (.br (bif false then true else !Ex.eqQ size (0 : Int)) (.leaf (Value.bool false, Blk.mk (Let.n (ns 3)) (.obj (.cells (Array.mk [Value.bool true, Value.bool false, Value.bool true, Value.bool false, Value.bool false]) (109 : Nat))) true :: Blk.mk (Let.n (ns 2)) (.obj (.cells (Array.mk [.int .i64 loc, av]) (37 : Nat))) true :: Blk.mk (Let.n (ns 1)) (.obj (.cells (Array.mk [.int .i64 cells, tv]) (27 : Nat))) true :: Blk.mk (Let.n (ns 0)) (.obj (.cells (Array.mk [.int .i64 (1 : Int), .int .i64 dst, .int .i64 base, .int .i64 size, iv, ev, fv, .int .i64 mode,
 .int .i64 to, .int .i64 line, .int .i64 col]) (67 : Nat))) true :: rdOf B)) (.need (∃ (p : Option Addr), ∃ (n : Nat), ∃ (c : Nat), iv = Value.slice p n c) (.br (bif true then bif false then true else Ex.ltQ (0 : Int) (Int.ofNat (Sy.lenS iv)) else false) (.leaf (Value.bool false, Blk.mk (Let.n (ns 3)) (.obj (.cells (Array.mk [Value.bool true, Value.bool false, Value.bool true, Value.bool false, Value.bool false]) (109 : Nat))) true :: Blk.mk (Let.n (ns 2)) (.obj (.cells (Array.mk [.int .i64 loc, av]) (37 : Nat))) true :: Blk.mk (Let.n (ns 1)) (.obj (.cells (Array.mk [.int .i64 cells, tv]) (27 : Nat))) true :: Blk.mk (Let.n (ns 0)) (.obj (.cells (Array.mk [.int .i64 (1 : Int), .int .i64 dst, .int .i64 base, .int .i64 size, iv, ev, fv, .int .i64 mode, .int .i64 to, .int .i64 line, .int .i64 col]) (67 : Nat))) true :: rdOf B)) (.need (∃ (p : Option Addr), ∃ (n : Nat), ∃ (c : Nat), ev = Value.slice p n c) (.br (!true == Ex.ltQ (0 : Int) (Int.ofNat (Sy.lenS ev))) (.leaf (Value.bool false,
 Blk.mk (Let.n (ns 3)) (.obj (.cells (Array.mk [Value.bool true, Value.bool false, Value.bool true, Value.bool false, Value.bool false]) (109 : Nat))) true :: Blk.mk (Let.n (ns 2)) (.obj (.cells (Array.mk [.int .i64 loc, av]) (37 : Nat))) true :: Blk.mk (Let.n (ns 1)) (.obj (.cells (Array.mk [.int .i64 cells, tv]) (27 : Nat))) true :: Blk.mk (Let.n (ns 0)) (.obj (.cells (Array.mk [.int .i64 (1 : Int), .int .i64 dst, .int .i64 base, .int .i64 size, iv, ev, fv, .int .i64 mode, .int .i64 to, .int .i64 line, .int .i64 col]) (67 : Nat))) true :: rdOf B)) (.need (∃ (p : Option Addr), ∃ (n : Nat), ∃ (c : Nat), fv = Value.slice p n c) (.br (!false == Ex.ltQ (0 : Int) (Int.ofNat (Sy.lenS fv))) (.leaf (Value.bool false, Blk.mk (Let.n (ns 3)) (.obj (.cells (Array.mk [Value.bool true, Value.bool false, Value.bool true, Value.bool false, Value.bool false]) (109 : Nat))) true :: Blk.mk (Let.n (ns 2)) (.obj (.cells (Array.mk [.int .i64 loc, av]) (37 : Nat))) true :: Blk.mk (Let.n (ns 1)) (.obj (.cells
 (Array.mk [.int .i64 cells, tv]) (27 : Nat))) true :: Blk.mk (Let.n (ns 0)) (.obj (.cells (Array.mk [.int .i64 (1 : Int), .int .i64 dst, .int .i64 base, .int .i64 size, iv, ev, fv, .int .i64 mode, .int .i64 to, .int .i64 line, .int .i64 col]) (67 : Nat))) true :: rdOf B)) (.need (NodesR B ev e ∧ List.length e < (4398046511104 : Nat)) (.need (Sy.GotL (rdOf B) B) (.hyp True (.br (bif true then !exprF loc e else false) (.leaf (Value.bool false, Blk.mk (Let.n (ns 3)) (.obj (.cells (Array.mk [Value.bool true, Value.bool false, Value.bool true, Value.bool false, Value.bool false]) (109 : Nat))) true :: Blk.mk (Let.n (ns 2)) (.obj (.cells (Array.mk [.int .i64 loc, av]) (37 : Nat))) true :: Blk.mk (Let.n (ns 1)) (.obj (.cells (Array.mk [.int .i64 cells, tv]) (27 : Nat))) true :: Blk.mk (Let.n (ns 0)) (.obj (.cells (Array.mk [.int .i64 (1 : Int), .int .i64 dst, .int .i64 base, .int .i64 size, iv, ev, fv, .int .i64 mode, .int .i64 to, .int .i64 line, .int .i64 col]) (67 : Nat))) true :: rdOf B))
 (.br (bif true then !Ex.eqQ to (0 : Int) else false) (.leaf (Value.bool false, Blk.mk (Let.n (ns 3)) (.obj (.cells (Array.mk [Value.bool true, Value.bool false, Value.bool true, Value.bool false, Value.bool false]) (109 : Nat))) true :: Blk.mk (Let.n (ns 2)) (.obj (.cells (Array.mk [.int .i64 loc, av]) (37 : Nat))) true :: Blk.mk (Let.n (ns 1)) (.obj (.cells (Array.mk [.int .i64 cells, tv]) (27 : Nat))) true :: Blk.mk (Let.n (ns 0)) (.obj (.cells (Array.mk [.int .i64 (1 : Int), .int .i64 dst, .int .i64 base, .int .i64 size, iv, ev, fv, .int .i64 mode, .int .i64 to, .int .i64 line, .int .i64 col]) (67 : Nat))) true :: rdOf B)) (.leaf (Value.bool true, Blk.mk (Let.n (ns 3)) (.obj (.cells (Array.mk [Value.bool true, Value.bool false, Value.bool true, Value.bool false, Value.bool false]) (109 : Nat))) true :: Blk.mk (Let.n (ns 2)) (.obj (.cells (Array.mk [.int .i64 loc, av]) (37 : Nat))) true :: Blk.mk (Let.n (ns 1)) (.obj (.cells (Array.mk [.int .i64 cells, tv]) (27 : Nat))) true :: Blk.mk
 (Let.n (ns 0)) (.obj (.cells (Array.mk [.int .i64 (1 : Int), .int .i64 dst, .int .i64 base, .int .i64 size, iv, ev, fv, .int .i64 mode, .int .i64 to, .int .i64 line, .int .i64 col]) (67 : Nat))) true :: rdOf B)))))))))))))))))))))

theorem wac1_run (B : List (Nat × Sy.Cont)) (dst base size mode to line col : Int) (iv ev fv tv av : Value) (ix e f : List NodeD) (cells loc : Int) : Sy.Ran (Sy.inB Try.prog (ctxW B (1) dst base size mode to line col iv ev fv tv ix e f cells loc) 50 fAct #[.agg #[.int .i64 (1), .int .i64 dst, .int .i64 base, .int .i64 size, iv, ev, fv, .int .i64 mode, .int .i64 to, .int .i64 line, .int .i64 col], progV cells tv, thrV loc av] (rdOf B)) wac1_o (wac1_R B dst base size mode to line col iv ev fv tv av ix e f cells loc) := ⟨fun ns => by kernel_rfl, fun ns => by kernel_rfl⟩
def wac2_o : Sy.O := (Sy.O.pack 28 0x400000020000010000000020000000040 (Sy.O.fork Sy.O.nil (Sy.O.pack 20 0x300000000000040000040 (Sy.O.fork (Sy.O.pack 7 0x0 Sy.O.nil) (Sy.O.pack 11 0x800000c00 (Sy.O.fork (Sy.O.steps [0] Sy.O.nil) (Sy.O.pack 33 0x808100001000001000018000000000000000000 (Sy.O.fork (Sy.O.steps [0] Sy.O.nil) (Sy.O.pack 18 0x2018000000000000000000 (Sy.O.fork (Sy.O.steps [0] Sy.O.nil) (Sy.O.pack 7 0x40300000 (Sy.O.fork (Sy.O.steps [0] Sy.O.nil) (Sy.O.pack 41 0x60000000000000000000000000000000000000000000000 (Sy.O.fork Sy.O.nil Sy.O.nil))))))))))))))
noncomputable def wac2_R (B : List (Nat × Sy.Cont)) (dst : Int) (base : Int) (size : Int) (mode : Int) (to : Int) (line : Int) (col : Int) (iv : Value) (ev : Value) (fv : Value) (tv : Value) (av : Value) (ix : List NodeD) (e : List NodeD) (f : List NodeD) (cells : Int) (loc : Int) (ns : Nat → Sy.Let) : Sy.Res (Value × List Blk) := .need True (.hyp True (.br (bif false then true else !mayF (2 : Int) mode) (.leaf (Value.bool false, Blk.mk (Let.n (ns 2)) (.obj (.cells (Array.mk [.int .i64 loc, av]) (37 : Nat))) true :: Blk.mk (Let.n (ns 1)) (.obj (.cells (Array.mk [.int .i64 cells, tv]) (27 : Nat))) true :: Blk.mk (Let.n (ns 0)) (.obj (.cells (Array.mk [.int .i64 (2 : Int), .int .i64 dst, .int .i64 base, .int .i64 size, iv, ev, fv, .int .i64 mode, .int .i64 to, .int .i64 line, .int .i64 col]) (67 : Nat))) true :: rdOf B)) (.need ((1 : Int) ≤ (2 : Int) ∧ (2 : Int) ≤ (10 : Int)) (.hyp True (.br (Ex.ltQ dst (0 : Int)) (.leaf (Value.bool false, Blk.mk (Let.n (ns 3)) (.obj (.cells (Array.mk [Value.bool true, Value.bool true, Value.bool false, Value.bool false, Value.bool false]) (109 : Nat))) true :: Blk.mk (Let.n (ns 2)) (.obj (.cells (Array.mk [.int .i64 loc, av]) (37 : Nat))) true :: Blk.mk (Let.n (ns 1)) (.obj (.cells (Array.mk [.int .i64 cells, tv]) (27 : Nat))) true :: Blk.mk (Let.n (ns 0)) (.obj (.cells (Array.mk
 [.int .i64 (2 : Int), .int .i64 dst, .int .i64 base, .int .i64 size, iv, ev, fv, .int .i64 mode, .int .i64 to, .int .i64 line, .int .i64 col]) (67 : Nat))) true :: rdOf B)) (.br (bif true then bif false then true else Ex.leQ loc dst else false) (.leaf (Value.bool false, Blk.mk (Let.n (ns 3)) (.obj (.cells (Array.mk [Value.bool true, Value.bool true, Value.bool false, Value.bool false, Value.bool false]) (109 : Nat))) true :: Blk.mk (Let.n (ns 2)) (.obj (.cells (Array.mk [.int .i64 loc, av]) (37 : Nat))) true :: Blk.mk (Let.n (ns 1)) (.obj (.cells (Array.mk [.int .i64 cells, tv]) (27 : Nat))) true :: Blk.mk (Let.n (ns 0)) (.obj (.cells (Array.mk [.int .i64 (2 : Int), .int .i64 dst, .int .i64 base, .int .i64 size, iv, ev, fv, .int .i64 mode, .int .i64 to, .int .i64 line, .int .i64 col]) (67 : Nat))) true :: rdOf B)) (.need (NodesR B iv ix ∧ List.length ix < (4398046511104 : Nat)) (.need (Sy.GotL (rdOf B) B) (.hyp True (.br (bif true then !placeF size base cells loc ix else false) (.leaf
 (Value.bool false, Blk.mk (Let.n (ns 3)) (.obj (.cells (Array.mk [Value.bool true, Value.bool true, Value.bool false, Value.bool false, Value.bool false]) (109 : Nat))) true :: Blk.mk (Let.n (ns 2)) (.obj (.cells (Array.mk [.int .i64 loc, av]) (37 : Nat))) true :: Blk.mk (Let.n (ns 1)) (.obj (.cells (Array.mk [.int .i64 cells, tv]) (27 : Nat))) true :: Blk.mk (Let.n (ns 0)) (.obj (.cells (Array.mk [.int .i64 (2 : Int), .int .i64 dst, .int .i64 base, .int .i64 size, iv, ev, fv, .int .i64 mode, .int .i64 to, .int .i64 line, .int .i64 col]) (67 : Nat))) true :: rdOf B)) (.need (∃ (p : Option Addr), ∃ (n : Nat), ∃ (c : Nat), ev = Value.slice p n c) (.br (!false == Ex.ltQ (0 : Int) (Int.ofNat (Sy.lenS ev))) (.leaf (Value.bool false, Blk.mk (Let.n (ns 3)) (.obj (.cells (Array.mk [Value.bool true, Value.bool true, Value.bool false, Value.bool false, Value.bool false]) (109 : Nat))) true :: Blk.mk (Let.n (ns 2)) (.obj (.cells (Array.mk [.int .i64 loc, av]) (37 : Nat))) true :: Blk.mk (Let.n (ns
 1)) (.obj (.cells (Array.mk [.int .i64 cells, tv]) (27 : Nat))) true :: Blk.mk (Let.n (ns 0)) (.obj (.cells (Array.mk [.int .i64 (2 : Int), .int .i64 dst, .int .i64 base, .int .i64 size, iv, ev, fv, .int .i64 mode, .int .i64 to, .int .i64 line, .int .i64 col]) (67 : Nat))) true :: rdOf B)) (.need (∃ (p : Option Addr), ∃ (n : Nat), ∃ (c : Nat), fv = Value.slice p n c) (.br (!false == Ex.ltQ (0 : Int) (Int.ofNat (Sy.lenS fv))) (.leaf (Value.bool false, Blk.mk (Let.n (ns 3)) (.obj (.cells (Array.mk [Value.bool true, Value.bool true, Value.bool false, Value.bool false, Value.bool false]) (109 : Nat))) true :: Blk.mk (Let.n (ns 2)) (.obj (.cells (Array.mk [.int .i64 loc, av]) (37 : Nat))) true :: Blk.mk (Let.n (ns 1)) (.obj (.cells (Array.mk [.int .i64 cells, tv]) (27 : Nat))) true :: Blk.mk (Let.n (ns 0)) (.obj (.cells (Array.mk [.int .i64 (2 : Int), .int .i64 dst, .int .i64 base, .int .i64 size, iv, ev, fv, .int .i64 mode, .int .i64 to, .int .i64 line, .int .i64 col]) (67 : Nat))) true ::
 rdOf B)) (.br (bif true then !Ex.eqQ to (0 : Int) else false) (.leaf (Value.bool false, Blk.mk (Let.n (ns 3)) (.obj (.cells (Array.mk [Value.bool true, Value.bool true, Value.bool false, Value.bool false, Value.bool false]) (109 : Nat))) true :: Blk.mk (Let.n (ns 2)) (.obj (.cells (Array.mk [.int .i64 loc, av]) (37 : Nat))) true :: Blk.mk (Let.n (ns 1)) (.obj (.cells (Array.mk [.int .i64 cells, tv]) (27 : Nat))) true :: Blk.mk (Let.n (ns 0)) (.obj (.cells (Array.mk [.int .i64 (2 : Int), .int .i64 dst, .int .i64 base, .int .i64 size, iv, ev, fv, .int .i64 mode, .int .i64 to, .int .i64 line, .int .i64 col]) (67 : Nat))) true :: rdOf B)) (.leaf (Value.bool true, Blk.mk (Let.n (ns 3)) (.obj (.cells (Array.mk [Value.bool true, Value.bool true, Value.bool false, Value.bool false, Value.bool false]) (109 : Nat))) true :: Blk.mk (Let.n (ns 2)) (.obj (.cells (Array.mk [.int .i64 loc, av]) (37 : Nat))) true :: Blk.mk (Let.n (ns 1)) (.obj (.cells (Array.mk [.int .i64 cells, tv]) (27 : Nat))) true
 :: Blk.mk (Let.n (ns 0)) (.obj (.cells (Array.mk [.int .i64 (2 : Int), .int .i64 dst, .int .i64 base, .int .i64 size, iv, ev, fv, .int .i64 mode, .int .i64 to, .int .i64 line, .int .i64 col]) (67 : Nat))) true :: rdOf B)))))))))))))))))

theorem wac2_run (B : List (Nat × Sy.Cont)) (dst base size mode to line col : Int) (iv ev fv tv av : Value) (ix e f : List NodeD) (cells loc : Int) : Sy.Ran (Sy.inB Try.prog (ctxW B (2) dst base size mode to line col iv ev fv tv ix e f cells loc) 50 fAct #[.agg #[.int .i64 (2), .int .i64 dst, .int .i64 base, .int .i64 size, iv, ev, fv, .int .i64 mode, .int .i64 to, .int .i64 line, .int .i64 col], progV cells tv, thrV loc av] (rdOf B)) wac2_o (wac2_R B dst base size mode to line col iv ev fv tv av ix e f cells loc) := ⟨fun ns => by kernel_rfl, fun ns => by kernel_rfl⟩
def wac3_o : Sy.O := (Sy.O.pack 28 0x400000020000010000000020000000040 (Sy.O.fork Sy.O.nil (Sy.O.pack 31 0x18000000000000000000000000040000040 (Sy.O.fork Sy.O.nil (Sy.O.pack 23 0x202040000400000400006000000 (Sy.O.fork (Sy.O.steps [0] Sy.O.nil) (Sy.O.pack 18 0x2018000000000000000000 (Sy.O.fork (Sy.O.steps [0] Sy.O.nil) (Sy.O.pack 7 0x40300000 (Sy.O.fork (Sy.O.steps [0] Sy.O.nil) (Sy.O.pack 20 0x404080000800000c0000000 (Sy.O.fork (Sy.O.steps [0] Sy.O.nil) (Sy.O.pack 31 0x18000000000000000000000000000000000 (Sy.O.fork Sy.O.nil Sy.O.nil))))))))))))))
noncomputable def wac3_R (B : List (Nat × Sy.Cont)) (dst : Int) (base : Int) (size : Int) (mode : Int) (to : Int) (line : Int) (col : Int) (iv : Value) (ev : Value) (fv : Value) (tv : Value) (av : Value) (ix : List NodeD) (e : List NodeD) (f : List NodeD) (cells : Int) (loc : Int) (ns : Nat → Sy.Let) : Sy.Res (Value × List Blk) := .need True (.hyp True (.br (bif false then true else !mayF (3 : Int) mode) (.leaf (Value.bool false, Blk.mk (Let.n (ns 2)) (.obj (.cells (Array.mk [.int .i64 loc, av]) (37 : Nat))) true :: Blk.mk (Let.n (ns 1)) (.obj (.cells (Array.mk [.int .i64 cells, tv]) (27 : Nat))) true :: Blk.mk (Let.n (ns 0)) (.obj (.cells (Array.mk [.int .i64 (3 : Int), .int .i64 dst, .int .i64 base, .int .i64 size, iv, ev, fv, .int .i64 mode, .int .i64 to, .int .i64 line, .int .i64 col]) (67 : Nat))) true :: rdOf B)) (.need ((1 : Int) ≤ (3 : Int) ∧ (3 : Int) ≤ (10 : Int)) (.hyp True (.br (bif true then !Ex.eqQ dst (0 : Int) else false) (.leaf (Value.bool false, Blk.mk (Let.n (ns 3)) (.obj (.cells (Array.mk [Value.bool false, Value.bool true, Value.bool true, Value.bool false, Value.bool false]) (109 : Nat))) true :: Blk.mk (Let.n (ns 2)) (.obj (.cells (Array.mk [.int .i64 loc, av]) (37 : Nat))) true :: Blk.mk (Let.n (ns 1)) (.obj (.cells (Array.mk [.int .i64 cells, tv]) (27 : Nat))) true :: Blk.mk (Let.n (ns
 0)) (.obj (.cells (Array.mk [.int .i64 (3 : Int), .int .i64 dst, .int .i64 base, .int .i64 size, iv, ev, fv, .int .i64 mode, .int .i64 to, .int .i64 line, .int .i64 col]) (67 : Nat))) true :: rdOf B)) (.need (NodesR B iv ix ∧ List.length ix < (4398046511104 : Nat)) (.need (Sy.GotL (rdOf B) B) (.hyp True (.br (bif true then !placeF size base cells loc ix else false) (.leaf (Value.bool false, Blk.mk (Let.n (ns 3)) (.obj (.cells (Array.mk [Value.bool false, Value.bool true, Value.bool true, Value.bool false, Value.bool false]) (109 : Nat))) true :: Blk.mk (Let.n (ns 2)) (.obj (.cells (Array.mk [.int .i64 loc, av]) (37 : Nat))) true :: Blk.mk (Let.n (ns 1)) (.obj (.cells (Array.mk [.int .i64 cells, tv]) (27 : Nat))) true :: Blk.mk (Let.n (ns 0)) (.obj (.cells (Array.mk [.int .i64 (3 : Int), .int .i64 dst, .int .i64 base, .int .i64 size, iv, ev, fv, .int .i64 mode, .int .i64 to, .int .i64 line, .int .i64 col]) (67 : Nat))) true :: rdOf B)) (.need (∃ (p : Option Addr), ∃ (n : Nat), ∃ (c :
 Nat), ev = Value.slice p n c) (.br (!true == Ex.ltQ (0 : Int) (Int.ofNat (Sy.lenS ev))) (.leaf (Value.bool false, Blk.mk (Let.n (ns 3)) (.obj (.cells (Array.mk [Value.bool false, Value.bool true, Value.bool true, Value.bool false, Value.bool false]) (109 : Nat))) true :: Blk.mk (Let.n (ns 2)) (.obj (.cells (Array.mk [.int .i64 loc, av]) (37 : Nat))) true :: Blk.mk (Let.n (ns 1)) (.obj (.cells (Array.mk [.int .i64 cells, tv]) (27 : Nat))) true :: Blk.mk (Let.n (ns 0)) (.obj (.cells (Array.mk [.int .i64 (3 : Int), .int .i64 dst, .int .i64 base, .int .i64 size, iv, ev, fv, .int .i64 mode, .int .i64 to, .int .i64 line, .int .i64 col]) (67 : Nat))) true :: rdOf B)) (.need (∃ (p : Option Addr), ∃ (n : Nat), ∃ (c : Nat), fv = Value.slice p n c) (.br (!false == Ex.ltQ (0 : Int) (Int.ofNat (Sy.lenS fv))) (.leaf (Value.bool false, Blk.mk (Let.n (ns 3)) (.obj (.cells (Array.mk [Value.bool false, Value.bool true, Value.bool true, Value.bool false, Value.bool false]) (109 : Nat))) true :: Blk.mk
 (Let.n (ns 2)) (.obj (.cells (Array.mk [.int .i64 loc, av]) (37 : Nat))) true :: Blk.mk (Let.n (ns 1)) (.obj (.cells (Array.mk [.int .i64 cells, tv]) (27 : Nat))) true :: Blk.mk (Let.n (ns 0)) (.obj (.cells (Array.mk [.int .i64 (3 : Int), .int .i64 dst, .int .i64 base, .int .i64 size, iv, ev, fv, .int .i64 mode, .int .i64 to, .int .i64 line, .int .i64 col]) (67 : Nat))) true :: rdOf B)) (.need (NodesR B ev e ∧ List.length e < (4398046511104 : Nat)) (.need (Sy.GotL (rdOf B) B) (.hyp True (.br (bif true then !exprF loc e else false) (.leaf (Value.bool false, Blk.mk (Let.n (ns 3)) (.obj (.cells (Array.mk [Value.bool false, Value.bool true, Value.bool true, Value.bool false, Value.bool false]) (109 : Nat))) true :: Blk.mk (Let.n (ns 2)) (.obj (.cells (Array.mk [.int .i64 loc, av]) (37 : Nat))) true :: Blk.mk (Let.n (ns 1)) (.obj (.cells (Array.mk [.int .i64 cells, tv]) (27 : Nat))) true :: Blk.mk (Let.n (ns 0)) (.obj (.cells (Array.mk [.int .i64 (3 : Int), .int .i64 dst, .int .i64 base,
 .int .i64 size, iv, ev, fv, .int .i64 mode, .int .i64 to, .int .i64 line, .int .i64 col]) (67 : Nat))) true :: rdOf B)) (.br (bif true then !Ex.eqQ to (0 : Int) else false) (.leaf (Value.bool false, Blk.mk (Let.n (ns 3)) (.obj (.cells (Array.mk [Value.bool false, Value.bool true, Value.bool true, Value.bool false, Value.bool false]) (109 : Nat))) true :: Blk.mk (Let.n (ns 2)) (.obj (.cells (Array.mk [.int .i64 loc, av]) (37 : Nat))) true :: Blk.mk (Let.n (ns 1)) (.obj (.cells (Array.mk [.int .i64 cells, tv]) (27 : Nat))) true :: Blk.mk (Let.n (ns 0)) (.obj (.cells (Array.mk [.int .i64 (3 : Int), .int .i64 dst, .int .i64 base, .int .i64 size, iv, ev, fv, .int .i64 mode, .int .i64 to, .int .i64 line, .int .i64 col]) (67 : Nat))) true :: rdOf B)) (.leaf (Value.bool true, Blk.mk (Let.n (ns 3)) (.obj (.cells (Array.mk [Value.bool false, Value.bool true, Value.bool true, Value.bool false, Value.bool false]) (109 : Nat))) true :: Blk.mk (Let.n (ns 2)) (.obj (.cells (Array.mk [.int .i64 loc,
 av]) (37 : Nat))) true :: Blk.mk (Let.n (ns 1)) (.obj (.cells (Array.mk [.int .i64 cells, tv]) (27 : Nat))) true :: Blk.mk (Let.n (ns 0)) (.obj (.cells (Array.mk [.int .i64 (3 : Int), .int .i64 dst, .int .i64 base, .int .i64 size, iv, ev, fv, .int .i64 mode, .int .i64 to, .int .i64 line, .int .i64 col]) (67 : Nat))) true :: rdOf B))))))))))))))))))))

theorem wac3_run (B : List (Nat × Sy.Cont)) (dst base size mode to line col : Int) (iv ev fv tv av : Value) (ix e f : List NodeD) (cells loc : Int) : Sy.Ran (Sy.inB Try.prog (ctxW B (3) dst base size mode to line col iv ev fv tv ix e f cells loc) 50 fAct #[.agg #[.int .i64 (3), .int .i64 dst, .int .i64 base, .int .i64 size, iv, ev, fv, .int .i64 mode, .int .i64 to, .int .i64 line, .int .i64 col], progV cells tv, thrV loc av] (rdOf B)) wac3_o (wac3_R B dst base size mode to line col iv ev fv tv av ix e f cells loc) := ⟨fun ns => by kernel_rfl, fun ns => by kernel_rfl⟩
def wac4_o : Sy.O := (Sy.O.pack 28 0x400000020000010000000020000000040 (Sy.O.fork Sy.O.nil (Sy.O.pack 20 0x300000000000040000040 (Sy.O.fork (Sy.O.pack 7 0x0 Sy.O.nil) (Sy.O.pack 11 0x800000c00 (Sy.O.fork (Sy.O.steps [0] Sy.O.nil) (Sy.O.pack 33 0x808100001000001000018000000000000000000 (Sy.O.fork (Sy.O.steps [0] Sy.O.nil) (Sy.O.pack 18 0x2018000000000000000000 (Sy.O.fork (Sy.O.steps [0] Sy.O.nil) (Sy.O.pack 7 0x40300000 (Sy.O.fork (Sy.O.steps [0] Sy.O.nil) (Sy.O.pack 20 0x404080000800000c0000000 (Sy.O.fork (Sy.O.steps [0] Sy.O.nil) (Sy.O.pack 31 0x18000000000000000000000000000000000 (Sy.O.fork Sy.O.nil Sy.O.nil))))))))))))))))
noncomputable def wac4_R (B : List (Nat × Sy.Cont)) (dst : Int) (base : Int) (size : Int) (mode : Int) (to : Int) (line : Int) (col : Int) (iv : Value) (ev : Value) (fv : Value) (tv : Value) (av : Value) (ix : List NodeD) (e : List NodeD) (f : List NodeD) (cells : Int) (loc : Int) (ns : Nat → Sy.Let) : Sy.Res (Value × List Blk) := .need True (.hyp True (.br (bif false then true else !mayF (4 : Int) mode) (.leaf (Value.bool false, Blk.mk (Let.n (ns 2)) (.obj (.cells (Array.mk [.int .i64 loc, av]) (37 : Nat))) true :: Blk.mk (Let.n (ns 1)) (.obj (.cells (Array.mk [.int .i64 cells, tv]) (27 : Nat))) true :: Blk.mk (Let.n (ns 0)) (.obj (.cells (Array.mk [.int .i64 (4 : Int), .int .i64 dst, .int .i64 base, .int .i64 size, iv, ev, fv, .int .i64 mode, .int .i64 to, .int .i64 line, .int .i64 col]) (67 : Nat))) true :: rdOf B)) (.need ((1 : Int) ≤ (4 : Int) ∧ (4 : Int) ≤ (10 : Int)) (.hyp True (.br (Ex.ltQ dst (0 : Int)) (.leaf (Value.bool false, Blk.mk (Let.n (ns 3)) (.obj (.cells (Array.mk [Value.bool true, Value.bool true, Value.bool true, Value.bool false, Value.bool false]) (109 : Nat))) true :: Blk.mk (Let.n (ns 2)) (.obj (.cells (Array.mk [.int .i64 loc, av]) (37 : Nat))) true :: Blk.mk (Let.n (ns 1)) (.obj (.cells (Array.mk [.int .i64 cells, tv]) (27 : Nat))) true :: Blk.mk (Let.n (ns 0)) (.obj (.cells (Array.mk
 [.int .i64 (4 : Int), .int .i64 dst, .int .i64 base, .int .i64 size, iv, ev, fv, .int .i64 mode, .int .i64 to, .int .i64 line, .int .i64 col]) (67 : Nat))) true :: rdOf B)) (.br (bif true then bif false then true else Ex.leQ loc dst else false) (.leaf (Value.bool false, Blk.mk (Let.n (ns 3)) (.obj (.cells (Array.mk [Value.bool true, Value.bool true, Value.bool true, Value.bool false, Value.bool false]) (109 : Nat))) true :: Blk.mk (Let.n (ns 2)) (.obj (.cells (Array.mk [.int .i64 loc, av]) (37 : Nat))) true :: Blk.mk (Let.n (ns 1)) (.obj (.cells (Array.mk [.int .i64 cells, tv]) (27 : Nat))) true :: Blk.mk (Let.n (ns 0)) (.obj (.cells (Array.mk [.int .i64 (4 : Int), .int .i64 dst, .int .i64 base, .int .i64 size, iv, ev, fv, .int .i64 mode, .int .i64 to, .int .i64 line, .int .i64 col]) (67 : Nat))) true :: rdOf B)) (.need (NodesR B iv ix ∧ List.length ix < (4398046511104 : Nat)) (.need (Sy.GotL (rdOf B) B) (.hyp True (.br (bif true then !placeF size base cells loc ix else false) (.leaf
 (Value.bool false, Blk.mk (Let.n (ns 3)) (.obj (.cells (Array.mk [Value.bool true, Value.bool true, Value.bool true, Value.bool false, Value.bool false]) (109 : Nat))) true :: Blk.mk (Let.n (ns 2)) (.obj (.cells (Array.mk [.int .i64 loc, av]) (37 : Nat))) true :: Blk.mk (Let.n (ns 1)) (.obj (.cells (Array.mk [.int .i64 cells, tv]) (27 : Nat))) true :: Blk.mk (Let.n (ns 0)) (.obj (.cells (Array.mk [.int .i64 (4 : Int), .int .i64 dst, .int .i64 base, .int .i64 size, iv, ev, fv, .int .i64 mode, .int .i64 to, .int .i64 line, .int .i64 col]) (67 : Nat))) true :: rdOf B)) (.need (∃ (p : Option Addr), ∃ (n : Nat), ∃ (c : Nat), ev = Value.slice p n c) (.br (!true == Ex.ltQ (0 : Int) (Int.ofNat (Sy.lenS ev))) (.leaf (Value.bool false, Blk.mk (Let.n (ns 3)) (.obj (.cells (Array.mk [Value.bool true, Value.bool true, Value.bool true, Value.bool false, Value.bool false]) (109 : Nat))) true :: Blk.mk (Let.n (ns 2)) (.obj (.cells (Array.mk [.int .i64 loc, av]) (37 : Nat))) true :: Blk.mk (Let.n (ns
 1)) (.obj (.cells (Array.mk [.int .i64 cells, tv]) (27 : Nat))) true :: Blk.mk (Let.n (ns 0)) (.obj (.cells (Array.mk [.int .i64 (4 : Int), .int .i64 dst, .int .i64 base, .int .i64 size, iv, ev, fv, .int .i64 mode, .int .i64 to, .int .i64 line, .int .i64 col]) (67 : Nat))) true :: rdOf B)) (.need (∃ (p : Option Addr), ∃ (n : Nat), ∃ (c : Nat), fv = Value.slice p n c) (.br (!false == Ex.ltQ (0 : Int) (Int.ofNat (Sy.lenS fv))) (.leaf (Value.bool false, Blk.mk (Let.n (ns 3)) (.obj (.cells (Array.mk [Value.bool true, Value.bool true, Value.bool true, Value.bool false, Value.bool false]) (109 : Nat))) true :: Blk.mk (Let.n (ns 2)) (.obj (.cells (Array.mk [.int .i64 loc, av]) (37 : Nat))) true :: Blk.mk (Let.n (ns 1)) (.obj (.cells (Array.mk [.int .i64 cells, tv]) (27 : Nat))) true :: Blk.mk (Let.n (ns 0)) (.obj (.cells (Array.mk [.int .i64 (4 : Int), .int .i64 dst, .int .i64 base, .int .i64 size, iv, ev, fv, .int .i64 mode, .int .i64 to, .int .i64 line, .int .i64 col]) (67 : Nat))) true ::
 rdOf B)) (.need (NodesR B ev e ∧ List.length e < (4398046511104 : Nat)) (.need (Sy.GotL (rdOf B) B) (.hyp True (.br (bif true then !exprF loc e else false) (.leaf (Value.bool false, Blk.mk (Let.n (ns 3)) (.obj (.cells (Array.mk [Value.bool true, Value.bool true, Value.bool true, Value.bool false, Value.bool false]) (109 : Nat))) true :: Blk.mk (Let.n (ns 2)) (.obj (.cells (Array.mk [.int .i64 loc, av]) (37 : Nat))) true :: Blk.mk (Let.n (ns 1)) (.obj (.cells (Array.mk [.int .i64 cells, tv]) (27 : Nat))) true :: Blk.mk (Let.n (ns 0)) (.obj (.cells (Array.mk [.int .i64 (4 : Int), .int .i64 dst, .int .i64 base, .int .i64 size, iv, ev, fv, .int .i64 mode, .int .i64 to, .int .i64 line, .int .i64 col]) (67 : Nat))) true :: rdOf B)) (.br (bif true then !Ex.eqQ to (0 : Int) else false) (.leaf (Value.bool false, Blk.mk (Let.n (ns 3)) (.obj (.cells (Array.mk [Value.bool true, Value.bool true, Value.bool true, Value.bool false, Value.bool false]) (109 : Nat))) true :: Blk.mk (Let.n (ns 2)) (.obj
 (.cells (Array.mk [.int .i64 loc, av]) (37 : Nat))) true :: Blk.mk (Let.n (ns 1)) (.obj (.cells (Array.mk [.int .i64 cells, tv]) (27 : Nat))) true :: Blk.mk (Let.n (ns 0)) (.obj (.cells (Array.mk [.int .i64 (4 : Int), .int .i64 dst, .int .i64 base, .int .i64 size, iv, ev, fv, .int .i64 mode, .int .i64 to, .int .i64 line, .int .i64 col]) (67 : Nat))) true :: rdOf B)) (.leaf (Value.bool true, Blk.mk (Let.n (ns 3)) (.obj (.cells (Array.mk [Value.bool true, Value.bool true, Value.bool true, Value.bool false, Value.bool false]) (109 : Nat))) true :: Blk.mk (Let.n (ns 2)) (.obj (.cells (Array.mk [.int .i64 loc, av]) (37 : Nat))) true :: Blk.mk (Let.n (ns 1)) (.obj (.cells (Array.mk [.int .i64 cells, tv]) (27 : Nat))) true :: Blk.mk (Let.n (ns 0)) (.obj (.cells (Array.mk [.int .i64 (4 : Int), .int .i64 dst, .int .i64 base, .int .i64 size, iv, ev, fv, .int .i64 mode, .int .i64 to, .int .i64 line, .int .i64 col]) (67 : Nat))) true :: rdOf B)))))))))))))))))))))

theorem wac4_run (B : List (Nat × Sy.Cont)) (dst base size mode to line col : Int) (iv ev fv tv av : Value) (ix e f : List NodeD) (cells loc : Int) : Sy.Ran (Sy.inB Try.prog (ctxW B (4) dst base size mode to line col iv ev fv tv ix e f cells loc) 50 fAct #[.agg #[.int .i64 (4), .int .i64 dst, .int .i64 base, .int .i64 size, iv, ev, fv, .int .i64 mode, .int .i64 to, .int .i64 line, .int .i64 col], progV cells tv, thrV loc av] (rdOf B)) wac4_o (wac4_R B dst base size mode to line col iv ev fv tv av ix e f cells loc) := ⟨fun ns => by kernel_rfl, fun ns => by kernel_rfl⟩
def wac5_o : Sy.O := (Sy.O.pack 28 0x400000020000010000000020000000040 (Sy.O.fork Sy.O.nil (Sy.O.pack 20 0x300000000000040000040 (Sy.O.fork (Sy.O.pack 7 0x0 Sy.O.nil) (Sy.O.pack 11 0x800000c00 (Sy.O.fork (Sy.O.steps [0] Sy.O.nil) (Sy.O.pack 33 0x808100001000001000018000000000000000000 (Sy.O.fork (Sy.O.steps [0] Sy.O.nil) (Sy.O.pack 18 0x2018000000000000000000 (Sy.O.fork (Sy.O.steps [0] Sy.O.nil) (Sy.O.pack 7 0x40300000 (Sy.O.fork (Sy.O.steps [0] Sy.O.nil) (Sy.O.pack 20 0x404080000800000c0000000 (Sy.O.fork (Sy.O.steps [0] Sy.O.nil) (Sy.O.pack 31 0x18000000000000000000000000000000000 (Sy.O.fork Sy.O.nil Sy.O.nil))))))))))))))))
noncomputable def wac5_R (B : List (Nat × Sy.Cont)) (dst : Int) (base : Int) (size : Int) (mode : Int) (to : Int) (line : Int) (col : Int) (iv : Value) (ev : Value) (fv : Value) (tv : Value) (av : Value) (ix : List NodeD) (e : List NodeD) (f : List NodeD) (cells : Int) (loc : Int) (ns : Nat → Sy.Let) : Sy.Res (Value × List Blk) := .need True (.hyp True (.br (bif false then true else !mayF (5 : Int) mode) (.leaf (Value.bool false, Blk.mk (Let.n (ns 2)) (.obj (.cells (Array.mk [.int .i64 loc, av]) (37 : Nat))) true :: Blk.mk (Let.n (ns 1)) (.obj (.cells (Array.mk [.int .i64 cells, tv]) (27 : Nat))) true :: Blk.mk (Let.n (ns 0)) (.obj (.cells (Array.mk [.int .i64 (5 : Int), .int .i64 dst, .int .i64 base, .int .i64 size, iv, ev, fv, .int .i64 mode, .int .i64 to, .int .i64 line, .int .i64 col]) (67 : Nat))) true :: rdOf B)) (.need ((1 : Int) ≤ (5 : Int) ∧ (5 : Int) ≤ (10 : Int)) (.hyp True (.br (Ex.ltQ dst (0 : Int)) (.leaf (Value.bool false, Blk.mk (Let.n (ns 3)) (.obj (.cells (Array.mk [Value.bool true, Value.bool true, Value.bool true, Value.bool false, Value.bool false]) (109 : Nat))) true :: Blk.mk (Let.n (ns 2)) (.obj (.cells (Array.mk [.int .i64 loc, av]) (37 : Nat))) true :: Blk.mk (Let.n (ns 1)) (.obj (.cells (Array.mk [.int .i64 cells, tv]) (27 : Nat))) true :: Blk.mk (Let.n (ns 0)) (.obj (.cells (Array.mk
 [.int .i64 (5 : Int), .int .i64 dst, .int .i64 base, .int .i64 size, iv, ev, fv, .int .i64 mode, .int .i64 to, .int .i64 line, .int .i64 col]) (67 : Nat))) true :: rdOf B)) (.br (bif true then bif false then true else Ex.leQ loc dst else false) (.leaf (Value.bool false, Blk.mk (Let.n (ns 3)) (.obj (.cells (Array.mk [Value.bool true, Value.bool true, Value.bool true, Value.bool false, Value.bool false]) (109 : Nat))) true :: Blk.mk (Let.n (ns 2)) (.obj (.cells (Array.mk [.int .i64 loc, av]) (37 : Nat))) true :: Blk.mk (Let.n (ns 1)) (.obj (.cells (Array.mk [.int .i64 cells, tv]) (27 : Nat))) true :: Blk.mk (Let.n (ns 0)) (.obj (.cells (Array.mk [.int .i64 (5 : Int), .int .i64 dst, .int .i64 base, .int .i64 size, iv, ev, fv, .int .i64 mode, .int .i64 to, .int .i64 line, .int .i64 col]) (67 : Nat))) true :: rdOf B)) (.need (NodesR B iv ix ∧ List.length ix < (4398046511104 : Nat)) (.need (Sy.GotL (rdOf B) B) (.hyp True (.br (bif true then !placeF size base cells loc ix else false) (.leaf
 (Value.bool false, Blk.mk (Let.n (ns 3)) (.obj (.cells (Array.mk [Value.bool true, Value.bool true, Value.bool true, Value.bool false, Value.bool false]) (109 : Nat))) true :: Blk.mk (Let.n (ns 2)) (.obj (.cells (Array.mk [.int .i64 loc, av]) (37 : Nat))) true :: Blk.mk (Let.n (ns 1)) (.obj (.cells (Array.mk [.int .i64 cells, tv]) (27 : Nat))) true :: Blk.mk (Let.n (ns 0)) (.obj (.cells (Array.mk [.int .i64 (5 : Int), .int .i64 dst, .int .i64 base, .int .i64 size, iv, ev, fv, .int .i64 mode, .int .i64 to, .int .i64 line, .int .i64 col]) (67 : Nat))) true :: rdOf B)) (.need (∃ (p : Option Addr), ∃ (n : Nat), ∃ (c : Nat), ev = Value.slice p n c) (.br (!true == Ex.ltQ (0 : Int) (Int.ofNat (Sy.lenS ev))) (.leaf (Value.bool false, Blk.mk (Let.n (ns 3)) (.obj (.cells (Array.mk [Value.bool true, Value.bool true, Value.bool true, Value.bool false, Value.bool false]) (109 : Nat))) true :: Blk.mk (Let.n (ns 2)) (.obj (.cells (Array.mk [.int .i64 loc, av]) (37 : Nat))) true :: Blk.mk (Let.n (ns
 1)) (.obj (.cells (Array.mk [.int .i64 cells, tv]) (27 : Nat))) true :: Blk.mk (Let.n (ns 0)) (.obj (.cells (Array.mk [.int .i64 (5 : Int), .int .i64 dst, .int .i64 base, .int .i64 size, iv, ev, fv, .int .i64 mode, .int .i64 to, .int .i64 line, .int .i64 col]) (67 : Nat))) true :: rdOf B)) (.need (∃ (p : Option Addr), ∃ (n : Nat), ∃ (c : Nat), fv = Value.slice p n c) (.br (!false == Ex.ltQ (0 : Int) (Int.ofNat (Sy.lenS fv))) (.leaf (Value.bool false, Blk.mk (Let.n (ns 3)) (.obj (.cells (Array.mk [Value.bool true, Value.bool true, Value.bool true, Value.bool false, Value.bool false]) (109 : Nat))) true :: Blk.mk (Let.n (ns 2)) (.obj (.cells (Array.mk [.int .i64 loc, av]) (37 : Nat))) true :: Blk.mk (Let.n (ns 1)) (.obj (.cells (Array.mk [.int .i64 cells, tv]) (27 : Nat))) true :: Blk.mk (Let.n (ns 0)) (.obj (.cells (Array.mk [.int .i64 (5 : Int), .int .i64 dst, .int .i64 base, .int .i64 size, iv, ev, fv, .int .i64 mode, .int .i64 to, .int .i64 line, .int .i64 col]) (67 : Nat))) true ::
 rdOf B)) (.need (NodesR B ev e ∧ List.length e < (4398046511104 : Nat)) (.need (Sy.GotL (rdOf B) B) (.hyp True (.br (bif true then !exprF loc e else false) (.leaf (Value.bool false, Blk.mk (Let.n (ns 3)) (.obj (.cells (Array.mk [Value.bool true, Value.bool true, Value.bool true, Value.bool false, Value.bool false]) (109 : Nat))) true :: Blk.mk (Let.n (ns 2)) (.obj (.cells (Array.mk [.int .i64 loc, av]) (37 : Nat))) true :: Blk.mk (Let.n (ns 1)) (.obj (.cells (Array.mk [.int .i64 cells, tv]) (27 : Nat))) true :: Blk.mk (Let.n (ns 0)) (.obj (.cells (Array.mk [.int .i64 (5 : Int), .int .i64 dst, .int .i64 base, .int .i64 size, iv, ev, fv, .int .i64 mode, .int .i64 to, .int .i64 line, .int .i64 col]) (67 : Nat))) true :: rdOf B)) (.br (bif true then !Ex.eqQ to (0 : Int) else false) (.leaf (Value.bool false, Blk.mk (Let.n (ns 3)) (.obj (.cells (Array.mk [Value.bool true, Value.bool true, Value.bool true, Value.bool false, Value.bool false]) (109 : Nat))) true :: Blk.mk (Let.n (ns 2)) (.obj
 (.cells (Array.mk [.int .i64 loc, av]) (37 : Nat))) true :: Blk.mk (Let.n (ns 1)) (.obj (.cells (Array.mk [.int .i64 cells, tv]) (27 : Nat))) true :: Blk.mk (Let.n (ns 0)) (.obj (.cells (Array.mk [.int .i64 (5 : Int), .int .i64 dst, .int .i64 base, .int .i64 size, iv, ev, fv, .int .i64 mode, .int .i64 to, .int .i64 line, .int .i64 col]) (67 : Nat))) true :: rdOf B)) (.leaf (Value.bool true, Blk.mk (Let.n (ns 3)) (.obj (.cells (Array.mk [Value.bool true, Value.bool true, Value.bool true, Value.bool false, Value.bool false]) (109 : Nat))) true :: Blk.mk (Let.n (ns 2)) (.obj (.cells (Array.mk [.int .i64 loc, av]) (37 : Nat))) true :: Blk.mk (Let.n (ns 1)) (.obj (.cells (Array.mk [.int .i64 cells, tv]) (27 : Nat))) true :: Blk.mk (Let.n (ns 0)) (.obj (.cells (Array.mk [.int .i64 (5 : Int), .int .i64 dst, .int .i64 base, .int .i64 size, iv, ev, fv, .int .i64 mode, .int .i64 to, .int .i64 line, .int .i64 col]) (67 : Nat))) true :: rdOf B)))))))))))))))))))))

theorem wac5_run (B : List (Nat × Sy.Cont)) (dst base size mode to line col : Int) (iv ev fv tv av : Value) (ix e f : List NodeD) (cells loc : Int) : Sy.Ran (Sy.inB Try.prog (ctxW B (5) dst base size mode to line col iv ev fv tv ix e f cells loc) 50 fAct #[.agg #[.int .i64 (5), .int .i64 dst, .int .i64 base, .int .i64 size, iv, ev, fv, .int .i64 mode, .int .i64 to, .int .i64 line, .int .i64 col], progV cells tv, thrV loc av] (rdOf B)) wac5_o (wac5_R B dst base size mode to line col iv ev fv tv av ix e f cells loc) := ⟨fun ns => by kernel_rfl, fun ns => by kernel_rfl⟩
def wac6_o : Sy.O := (Sy.O.pack 28 0x400000020000010000000020000000040 (Sy.O.fork Sy.O.nil (Sy.O.pack 20 0x300000000000040000040 (Sy.O.fork (Sy.O.pack 7 0x0 Sy.O.nil) (Sy.O.pack 11 0x800000c00 (Sy.O.fork (Sy.O.steps [0] Sy.O.nil) (Sy.O.pack 33 0x808100001000001000018000000000000000000 (Sy.O.fork (Sy.O.steps [0] Sy.O.nil) (Sy.O.pack 18 0x2018000000000000000000 (Sy.O.fork (Sy.O.steps [0] Sy.O.nil) (Sy.O.pack 7 0x40300000 (Sy.O.fork (Sy.O.steps [0] Sy.O.nil) (Sy.O.pack 20 0x404080000800000c0000000 (Sy.O.fork (Sy.O.steps [0] Sy.O.nil) (Sy.O.pack 20 0x404084000800000c0000000 (Sy.O.fork Sy.O.nil (Sy.O.pack 21 0x6000000000000000000000 (Sy.O.fork Sy.O.nil Sy.O.nil))))))))))))))))))
noncomputable def wac6_R (B : List (Nat × Sy.Cont)) (dst : Int) (base : Int) (size : Int) (mode : Int) (to : Int) (line : Int) (col : Int) (iv : Value) (ev : Value) (fv : Value) (tv : Value) (av : Value) (ix : List NodeD) (e : List NodeD) (f : List NodeD) (cells : Int) (loc : Int) (ns : Nat → Sy.Let) : Sy.Res (Value × List Blk) := .need True (.hyp True (.br (bif false then true else !mayF (6 : Int) mode) (.leaf (Value.bool false, Blk.mk (Let.n (ns 2)) (.obj (.cells (Array.mk [.int .i64 loc, av]) (37 : Nat))) true :: Blk.mk (Let.n (ns 1)) (.obj (.cells (Array.mk [.int .i64 cells, tv]) (27 : Nat))) true :: Blk.mk (Let.n (ns 0)) (.obj (.cells (Array.mk [.int .i64 (6 : Int), .int .i64 dst, .int .i64 base, .int .i64 size, iv, ev, fv, .int .i64 mode, .int .i64 to, .int .i64 line, .int .i64 col]) (67 : Nat))) true :: rdOf B)) (.need ((1 : Int) ≤ (6 : Int) ∧ (6 : Int) ≤ (10 : Int)) (.hyp True (.br (Ex.ltQ dst (0 : Int)) (.leaf (Value.bool false, Blk.mk (Let.n (ns 3)) (.obj (.cells (Array.mk [Value.bool true, Value.bool true, Value.bool true, Value.bool true, Value.bool false]) (109 : Nat))) true :: Blk.mk (Let.n (ns 2)) (.obj (.cells (Array.mk [.int .i64 loc, av]) (37 : Nat))) true :: Blk.mk (Let.n (ns 1)) (.obj (.cells (Array.mk [.int .i64 cells, tv]) (27 : Nat))) true :: Blk.mk (Let.n (ns 0)) (.obj (.cells (Array.mk
 [.int .i64 (6 : Int), .int .i64 dst, .int .i64 base, .int .i64 size, iv, ev, fv, .int .i64 mode, .int .i64 to, .int .i64 line, .int .i64 col]) (67 : Nat))) true :: rdOf B)) (.br (bif true then bif false then true else Ex.leQ loc dst else false) (.leaf (Value.bool false, Blk.mk (Let.n (ns 3)) (.obj (.cells (Array.mk [Value.bool true, Value.bool true, Value.bool true, Value.bool true, Value.bool false]) (109 : Nat))) true :: Blk.mk (Let.n (ns 2)) (.obj (.cells (Array.mk [.int .i64 loc, av]) (37 : Nat))) true :: Blk.mk (Let.n (ns 1)) (.obj (.cells (Array.mk [.int .i64 cells, tv]) (27 : Nat))) true :: Blk.mk (Let.n (ns 0)) (.obj (.cells (Array.mk [.int .i64 (6 : Int), .int .i64 dst, .int .i64 base, .int .i64 size, iv, ev, fv, .int .i64 mode, .int .i64 to, .int .i64 line, .int .i64 col]) (67 : Nat))) true :: rdOf B)) (.need (NodesR B iv ix ∧ List.length ix < (4398046511104 : Nat)) (.need (Sy.GotL (rdOf B) B) (.hyp True (.br (bif true then !placeF size base cells loc ix else false) (.leaf
 (Value.bool false, Blk.mk (Let.n (ns 3)) (.obj (.cells (Array.mk [Value.bool true, Value.bool true, Value.bool true, Value.bool true, Value.bool false]) (109 : Nat))) true :: Blk.mk (Let.n (ns 2)) (.obj (.cells (Array.mk [.int .i64 loc, av]) (37 : Nat))) true :: Blk.mk (Let.n (ns 1)) (.obj (.cells (Array.mk [.int .i64 cells, tv]) (27 : Nat))) true :: Blk.mk (Let.n (ns 0)) (.obj (.cells (Array.mk [.int .i64 (6 : Int), .int .i64 dst, .int .i64 base, .int .i64 size, iv, ev, fv, .int .i64 mode, .int .i64 to, .int .i64 line, .int .i64 col]) (67 : Nat))) true :: rdOf B)) (.need (∃ (p : Option Addr), ∃ (n : Nat), ∃ (c : Nat), ev = Value.slice p n c) (.br (!true == Ex.ltQ (0 : Int) (Int.ofNat (Sy.lenS ev))) (.leaf (Value.bool false, Blk.mk (Let.n (ns 3)) (.obj (.cells (Array.mk [Value.bool true, Value.bool true, Value.bool true, Value.bool true, Value.bool false]) (109 : Nat))) true :: Blk.mk (Let.n (ns 2)) (.obj (.cells (Array.mk [.int .i64 loc, av]) (37 : Nat))) true :: Blk.mk (Let.n (ns 1))
 (.obj (.cells (Array.mk [.int .i64 cells, tv]) (27 : Nat))) true :: Blk.mk (Let.n (ns 0)) (.obj (.cells (Array.mk [.int .i64 (6 : Int), .int .i64 dst, .int .i64 base, .int .i64 size, iv, ev, fv, .int .i64 mode, .int .i64 to, .int .i64 line, .int .i64 col]) (67 : Nat))) true :: rdOf B)) (.need (∃ (p : Option Addr), ∃ (n : Nat), ∃ (c : Nat), fv = Value.slice p n c) (.br (!true == Ex.ltQ (0 : Int) (Int.ofNat (Sy.lenS fv))) (.leaf (Value.bool false, Blk.mk (Let.n (ns 3)) (.obj (.cells (Array.mk [Value.bool true, Value.bool true, Value.bool true, Value.bool true, Value.bool false]) (109 : Nat))) true :: Blk.mk (Let.n (ns 2)) (.obj (.cells (Array.mk [.int .i64 loc, av]) (37 : Nat))) true :: Blk.mk (Let.n (ns 1)) (.obj (.cells (Array.mk [.int .i64 cells, tv]) (27 : Nat))) true :: Blk.mk (Let.n (ns 0)) (.obj (.cells (Array.mk [.int .i64 (6 : Int), .int .i64 dst, .int .i64 base, .int .i64 size, iv, ev, fv, .int .i64 mode, .int .i64 to, .int .i64 line, .int .i64 col]) (67 : Nat))) true :: rdOf
 B)) (.need (NodesR B ev e ∧ List.length e < (4398046511104 : Nat)) (.need (Sy.GotL (rdOf B) B) (.hyp True (.br (bif true then !exprF loc e else false) (.leaf (Value.bool false, Blk.mk (Let.n (ns 3)) (.obj (.cells (Array.mk [Value.bool true, Value.bool true, Value.bool true, Value.bool true, Value.bool false]) (109 : Nat))) true :: Blk.mk (Let.n (ns 2)) (.obj (.cells (Array.mk [.int .i64 loc, av]) (37 : Nat))) true :: Blk.mk (Let.n (ns 1)) (.obj (.cells (Array.mk [.int .i64 cells, tv]) (27 : Nat))) true :: Blk.mk (Let.n (ns 0)) (.obj (.cells (Array.mk [.int .i64 (6 : Int), .int .i64 dst, .int .i64 base, .int .i64 size, iv, ev, fv, .int .i64 mode, .int .i64 to, .int .i64 line, .int .i64 col]) (67 : Nat))) true :: rdOf B)) (.need (NodesR B fv f ∧ List.length f < (4398046511104 : Nat)) (.need (Sy.GotL (rdOf B) B) (.hyp True (.br (bif true then !exprF loc f else false) (.leaf (Value.bool false, Blk.mk (Let.n (ns 3)) (.obj (.cells (Array.mk [Value.bool true, Value.bool true, Value.bool true,
 Value.bool true, Value.bool false]) (109 : Nat))) true :: Blk.mk (Let.n (ns 2)) (.obj (.cells (Array.mk [.int .i64 loc, av]) (37 : Nat))) true :: Blk.mk (Let.n (ns 1)) (.obj (.cells (Array.mk [.int .i64 cells, tv]) (27 : Nat))) true :: Blk.mk (Let.n (ns 0)) (.obj (.cells (Array.mk [.int .i64 (6 : Int), .int .i64 dst, .int .i64 base, .int .i64 size, iv, ev, fv, .int .i64 mode, .int .i64 to, .int .i64 line, .int .i64 col]) (67 : Nat))) true :: rdOf B)) (.br (bif true then !Ex.eqQ to (0 : Int) else false) (.leaf (Value.bool false, Blk.mk (Let.n (ns 3)) (.obj (.cells (Array.mk [Value.bool true, Value.bool true, Value.bool true, Value.bool true, Value.bool false]) (109 : Nat))) true :: Blk.mk (Let.n (ns 2)) (.obj (.cells (Array.mk [.int .i64 loc, av]) (37 : Nat))) true :: Blk.mk (Let.n (ns 1)) (.obj (.cells (Array.mk [.int .i64 cells, tv]) (27 : Nat))) true :: Blk.mk (Let.n (ns 0)) (.obj (.cells (Array.mk [.int .i64 (6 : Int), .int .i64 dst, .int .i64 base, .int .i64 size, iv, ev, fv, .int
 .i64 mode, .int .i64 to, .int .i64 line, .int .i64 col]) (67 : Nat))) true :: rdOf B)) (.leaf (Value.bool true, Blk.mk (Let.n (ns 3)) (.obj (.cells (Array.mk [Value.bool true, Value.bool true, Value.bool true, Value.bool true, Value.bool false]) (109 : Nat))) true :: Blk.mk (Let.n (ns 2)) (.obj (.cells (Array.mk [.int .i64 loc, av]) (37 : Nat))) true :: Blk.mk (Let.n (ns 1)) (.obj (.cells (Array.mk [.int .i64 cells, tv]) (27 : Nat))) true :: Blk.mk (Let.n (ns 0)) (.obj (.cells (Array.mk [.int .i64 (6 : Int), .int .i64 dst, .int .i64 base, .int .i64 size, iv, ev, fv, .int .i64 mode, .int .i64 to, .int .i64 line, .int .i64 col]) (67 : Nat))) true :: rdOf B)))))))))))))))))))))))))

theorem wac6_run (B : List (Nat × Sy.Cont)) (dst base size mode to line col : Int) (iv ev fv tv av : Value) (ix e f : List NodeD) (cells loc : Int) : Sy.Ran (Sy.inB Try.prog (ctxW B (6) dst base size mode to line col iv ev fv tv ix e f cells loc) 50 fAct #[.agg #[.int .i64 (6), .int .i64 dst, .int .i64 base, .int .i64 size, iv, ev, fv, .int .i64 mode, .int .i64 to, .int .i64 line, .int .i64 col], progV cells tv, thrV loc av] (rdOf B)) wac6_o (wac6_R B dst base size mode to line col iv ev fv tv av ix e f cells loc) := ⟨fun ns => by kernel_rfl, fun ns => by kernel_rfl⟩
def wac7_o : Sy.O := (Sy.O.pack 28 0x400000020000010000000020000000040 (Sy.O.fork Sy.O.nil (Sy.O.pack 31 0x18000000000000000000000000040000040 (Sy.O.fork Sy.O.nil (Sy.O.pack 20 0x300000000000000000000 (Sy.O.fork (Sy.O.pack 10 0x0 Sy.O.nil) (Sy.O.pack 7 0xc00 (Sy.O.fork (Sy.O.pack 5 0x0 Sy.O.nil) (Sy.O.pack 8 0x2000c00 (Sy.O.fork Sy.O.nil (Sy.O.pack 7 0x40300000 (Sy.O.fork (Sy.O.steps [0] Sy.O.nil) (Sy.O.pack 7 0x40300000 (Sy.O.fork (Sy.O.steps [0] Sy.O.nil) (Sy.O.pack 41 0x60000000000000000000000000000000000000000000000 (Sy.O.fork Sy.O.nil Sy.O.nil))))))))))))))))
noncomputable def wac7_R (B : List (Nat × Sy.Cont)) (dst : Int) (base : Int) (size : Int) (mode : Int) (to : Int) (line : Int) (col : Int) (iv : Value) (ev : Value) (fv : Value) (tv : Value) (av : Value) (ix : List NodeD) (e : List NodeD) (f : List NodeD) (cells : Int) (loc : Int) (ns : Nat → Sy.Let) : Sy.Res (Value × List Blk) := .need True (.hyp True (.br (bif false then true else !mayF (7 : Int) mode) (.leaf (Value.bool false, Blk.mk (Let.n (ns 2)) (.obj (.cells (Array.mk [.int .i64 loc, av]) (37 : Nat))) true :: Blk.mk (Let.n (ns 1)) (.obj (.cells (Array.mk [.int .i64 cells, tv]) (27 : Nat))) true :: Blk.mk (Let.n (ns 0)) (.obj (.cells (Array.mk [.int .i64 (7 : Int), .int .i64 dst, .int .i64 base, .int .i64 size, iv, ev, fv, .int .i64 mode, .int .i64 to, .int .i64 line, .int .i64 col]) (67 : Nat))) true :: rdOf B)) (.need ((1 : Int) ≤ (7 : Int) ∧ (7 : Int) ≤ (10 : Int)) (.hyp True (.br (bif true then !Ex.eqQ dst (0 : Int) else false) (.leaf (Value.bool false, Blk.mk (Let.n (ns 3)) (.obj (.cells (Array.mk [Value.bool false, Value.bool false, Value.bool false, Value.bool false, Value.bool false]) (109 : Nat))) true :: Blk.mk (Let.n (ns 2)) (.obj (.cells (Array.mk [.int .i64 loc, av]) (37 : Nat))) true :: Blk.mk (Let.n (ns 1)) (.obj (.cells (Array.mk [.int .i64 cells, tv]) (27 : Nat))) true :: Blk.mk (Let.n (ns
 0)) (.obj (.cells (Array.mk [.int .i64 (7 : Int), .int .i64 dst, .int .i64 base, .int .i64 size, iv, ev, fv, .int .i64 mode, .int .i64 to, .int .i64 line, .int .i64 col]) (67 : Nat))) true :: rdOf B)) (.br (!Ex.eqQ base (0 : Int)) (.leaf (Value.bool false, Blk.mk (Let.n (ns 3)) (.obj (.cells (Array.mk [Value.bool false, Value.bool false, Value.bool false, Value.bool false, Value.bool false]) (109 : Nat))) true :: Blk.mk (Let.n (ns 2)) (.obj (.cells (Array.mk [.int .i64 loc, av]) (37 : Nat))) true :: Blk.mk (Let.n (ns 1)) (.obj (.cells (Array.mk [.int .i64 cells, tv]) (27 : Nat))) true :: Blk.mk (Let.n (ns 0)) (.obj (.cells (Array.mk [.int .i64 (7 : Int), .int .i64 dst, .int .i64 base, .int .i64 size, iv, ev, fv, .int .i64 mode, .int .i64 to, .int .i64 line, .int .i64 col]) (67 : Nat))) true :: rdOf B)) (.br (bif false then true else !Ex.eqQ size (0 : Int)) (.leaf (Value.bool false, Blk.mk (Let.n (ns 3)) (.obj (.cells (Array.mk [Value.bool false, Value.bool false, Value.bool false,
 Value.bool false, Value.bool false]) (109 : Nat))) true :: Blk.mk (Let.n (ns 2)) (.obj (.cells (Array.mk [.int .i64 loc, av]) (37 : Nat))) true :: Blk.mk (Let.n (ns 1)) (.obj (.cells (Array.mk [.int .i64 cells, tv]) (27 : Nat))) true :: Blk.mk (Let.n (ns 0)) (.obj (.cells (Array.mk [.int .i64 (7 : Int), .int .i64 dst, .int .i64 base, .int .i64 size, iv, ev, fv, .int .i64 mode, .int .i64 to, .int .i64 line, .int .i64 col]) (67 : Nat))) true :: rdOf B)) (.need (∃ (p : Option Addr), ∃ (n : Nat), ∃ (c : Nat), iv = Value.slice p n c) (.br (bif true then bif false then true else Ex.ltQ (0 : Int) (Int.ofNat (Sy.lenS iv)) else false) (.leaf (Value.bool false, Blk.mk (Let.n (ns 3)) (.obj (.cells (Array.mk [Value.bool false, Value.bool false, Value.bool false, Value.bool false, Value.bool false]) (109 : Nat))) true :: Blk.mk (Let.n (ns 2)) (.obj (.cells (Array.mk [.int .i64 loc, av]) (37 : Nat))) true :: Blk.mk (Let.n (ns 1)) (.obj (.cells (Array.mk [.int .i64 cells, tv]) (27 : Nat))) true ::
 Blk.mk (Let.n (ns 0)) (.obj (.cells (Array.mk [.int .i64 (7 : Int), .int .i64 dst, .int .i64 base, .int .i64 size, iv, ev, fv, .int .i64 mode, .int .i64 to, .int .i64 line, .int .i64 col]) (67 : Nat))) true :: rdOf B)) (.need (∃ (p : Option Addr), ∃ (n : Nat), ∃ (c : Nat), ev = Value.slice p n c) (.br (!false == Ex.ltQ (0 : Int) (Int.ofNat (Sy.lenS ev))) (.leaf (Value.bool false, Blk.mk (Let.n (ns 3)) (.obj (.cells (Array.mk [Value.bool false, Value.bool false, Value.bool false, Value.bool false, Value.bool false]) (109 : Nat))) true :: Blk.mk (Let.n (ns 2)) (.obj (.cells (Array.mk [.int .i64 loc, av]) (37 : Nat))) true :: Blk.mk (Let.n (ns 1)) (.obj (.cells (Array.mk [.int .i64 cells, tv]) (27 : Nat))) true :: Blk.mk (Let.n (ns 0)) (.obj (.cells (Array.mk [.int .i64 (7 : Int), .int .i64 dst, .int .i64 base, .int .i64 size, iv, ev, fv, .int .i64 mode, .int .i64 to, .int .i64 line, .int .i64 col]) (67 : Nat))) true :: rdOf B)) (.need (∃ (p : Option Addr), ∃ (n : Nat), ∃ (c : Nat), fv =
 Value.slice p n c) (.br (!false == Ex.ltQ (0 : Int) (Int.ofNat (Sy.lenS fv))) (.leaf (Value.bool false, Blk.mk (Let.n (ns 3)) (.obj (.cells (Array.mk [Value.bool false, Value.bool false, Value.bool false, Value.bool false, Value.bool false]) (109 : Nat))) true :: Blk.mk (Let.n (ns 2)) (.obj (.cells (Array.mk [.int .i64 loc, av]) (37 : Nat))) true :: Blk.mk (Let.n (ns 1)) (.obj (.cells (Array.mk [.int .i64 cells, tv]) (27 : Nat))) true :: Blk.mk (Let.n (ns 0)) (.obj (.cells (Array.mk [.int .i64 (7 : Int), .int .i64 dst, .int .i64 base, .int .i64 size, iv, ev, fv, .int .i64 mode, .int .i64 to, .int .i64 line, .int .i64 col]) (67 : Nat))) true :: rdOf B)) (.br (bif true then !Ex.eqQ to (0 : Int) else false) (.leaf (Value.bool false, Blk.mk (Let.n (ns 3)) (.obj (.cells (Array.mk [Value.bool false, Value.bool false, Value.bool false, Value.bool false, Value.bool false]) (109 : Nat))) true :: Blk.mk (Let.n (ns 2)) (.obj (.cells (Array.mk [.int .i64 loc, av]) (37 : Nat))) true :: Blk.mk (Let.n
 (ns 1)) (.obj (.cells (Array.mk [.int .i64 cells, tv]) (27 : Nat))) true :: Blk.mk (Let.n (ns 0)) (.obj (.cells (Array.mk [.int .i64 (7 : Int), .int .i64 dst, .int .i64 base, .int .i64 size, iv, ev, fv, .int .i64 mode, .int .i64 to, .int .i64 line, .int .i64 col]) (67 : Nat))) true :: rdOf B)) (.leaf (Value.bool true, Blk.mk (Let.n (ns 3)) (.obj (.cells (Array.mk [Value.bool false, Value.bool false, Value.bool false, Value.bool false, Value.bool false]) (109 : Nat))) true :: Blk.mk (Let.n (ns 2)) (.obj (.cells (Array.mk [.int .i64 loc, av]) (37 : Nat))) true :: Blk.mk (Let.n (ns 1)) (.obj (.cells (Array.mk [.int .i64 cells, tv]) (27 : Nat))) true :: Blk.mk (Let.n (ns 0)) (.obj (.cells (Array.mk [.int .i64 (7 : Int), .int .i64 dst, .int .i64 base, .int .i64 size, iv, ev, fv, .int .i64 mode, .int .i64 to, .int .i64 line, .int .i64 col]) (67 : Nat))) true :: rdOf B))))))))))))))))

theorem wac7_run (B : List (Nat × Sy.Cont)) (dst base size mode to line col : Int) (iv ev fv tv av : Value) (ix e f : List NodeD) (cells loc : Int) : Sy.Ran (Sy.inB Try.prog (ctxW B (7) dst base size mode to line col iv ev fv tv ix e f cells loc) 50 fAct #[.agg #[.int .i64 (7), .int .i64 dst, .int .i64 base, .int .i64 size, iv, ev, fv, .int .i64 mode, .int .i64 to, .int .i64 line, .int .i64 col], progV cells tv, thrV loc av] (rdOf B)) wac7_o (wac7_R B dst base size mode to line col iv ev fv tv av ix e f cells loc) := ⟨fun ns => by kernel_rfl, fun ns => by kernel_rfl⟩
def wac8_o : Sy.O := (Sy.O.pack 28 0x400000020000010000000020000000040 (Sy.O.fork Sy.O.nil (Sy.O.pack 31 0x18000000000000000000000000040000040 (Sy.O.fork Sy.O.nil (Sy.O.pack 20 0x300000000000000000000 (Sy.O.fork (Sy.O.pack 10 0x0 Sy.O.nil) (Sy.O.pack 7 0xc00 (Sy.O.fork (Sy.O.pack 5 0x0 Sy.O.nil) (Sy.O.pack 8 0x2000c00 (Sy.O.fork Sy.O.nil (Sy.O.pack 7 0x40300000 (Sy.O.fork (Sy.O.steps [0] Sy.O.nil) (Sy.O.pack 7 0x40300000 (Sy.O.fork (Sy.O.steps [0] Sy.O.nil) (Sy.O.pack 20 0x404080000800000c0000000 (Sy.O.fork (Sy.O.steps [0] Sy.O.nil) (Sy.O.pack 31 0x18000000000000000000000000000000000 (Sy.O.fork Sy.O.nil Sy.O.nil))))))))))))))))))
noncomputable def wac8_R (B : List (Nat × Sy.Cont)) (dst : Int) (base : Int) (size : Int) (mode : Int) (to : Int) (line : Int) (col : Int) (iv : Value) (ev : Value) (fv : Value) (tv : Value) (av : Value) (ix : List NodeD) (e : List NodeD) (f : List NodeD) (cells : Int) (loc : Int) (ns : Nat → Sy.Let) : Sy.Res (Value × List Blk) := .need True (.hyp True (.br (bif false then true else !mayF (8 : Int) mode) (.leaf (Value.bool false, Blk.mk (Let.n (ns 2)) (.obj (.cells (Array.mk [.int .i64 loc, av]) (37 : Nat))) true :: Blk.mk (Let.n (ns 1)) (.obj (.cells (Array.mk [.int .i64 cells, tv]) (27 : Nat))) true :: Blk.mk (Let.n (ns 0)) (.obj (.cells (Array.mk [.int .i64 (8 : Int), .int .i64 dst, .int .i64 base, .int .i64 size, iv, ev, fv, .int .i64 mode, .int .i64 to, .int .i64 line, .int .i64 col]) (67 : Nat))) true :: rdOf B)) (.need ((1 : Int) ≤ (8 : Int) ∧ (8 : Int) ≤ (10 : Int)) (.hyp True (.br (bif true then !Ex.eqQ dst (0 : Int) else false) (.leaf (Value.bool false, Blk.mk (Let.n (ns 3)) (.obj (.cells (Array.mk [Value.bool false, Value.bool false, Value.bool true, Value.bool false, Value.bool false]) (109 : Nat))) true :: Blk.mk (Let.n (ns 2)) (.obj (.cells (Array.mk [.int .i64 loc, av]) (37 : Nat))) true :: Blk.mk (Let.n (ns 1)) (.obj (.cells (Array.mk [.int .i64 cells, tv]) (27 : Nat))) true :: Blk.mk (Let.n (ns
 0)) (.obj (.cells (Array.mk [.int .i64 (8 : Int), .int .i64 dst, .int .i64 base, .int .i64 size, iv, ev, fv, .int .i64 mode, .int .i64 to, .int .i64 line, .int .i64 col]) (67 : Nat))) true :: rdOf B)) (.br (!Ex.eqQ base (0 : Int)) (.leaf (Value.bool false, Blk.mk (Let.n (ns 3)) (.obj (.cells (Array.mk [Value.bool false, Value.bool false, Value.bool true, Value.bool false, Value.bool false]) (109 : Nat))) true :: Blk.mk (Let.n (ns 2)) (.obj (.cells (Array.mk [.int .i64 loc, av]) (37 : Nat))) true :: Blk.mk (Let.n (ns 1)) (.obj (.cells (Array.mk [.int .i64 cells, tv]) (27 : Nat))) true :: Blk.mk (Let.n (ns 0)) (.obj (.cells (Array.mk [.int .i64 (8 : Int), .int .i64 dst, .int .i64 base, .int .i64 size, iv, ev, fv, .int .i64 mode, .int .i64 to, .int .i64 line, .int .i64 col]) (67 : Nat))) true :: rdOf B)) (.br (bif false then true else !Ex.eqQ size (0 : Int)) (.leaf (Value.bool false, Blk.mk (Let.n (ns 3)) (.obj (.cells (Array.mk [Value.bool false, Value.bool false, Value.bool true,
 Value.bool false, Value.bool false]) (109 : Nat))) true :: Blk.mk (Let.n (ns 2)) (.obj (.cells (Array.mk [.int .i64 loc, av]) (37 : Nat))) true :: Blk.mk (Let.n (ns 1)) (.obj (.cells (Array.mk [.int .i64 cells, tv]) (27 : Nat))) true :: Blk.mk (Let.n (ns 0)) (.obj (.cells (Array.mk [.int .i64 (8 : Int), .int .i64 dst, .int .i64 base, .int .i64 size, iv, ev, fv, .int .i64 mode, .int .i64 to, .int .i64 line, .int .i64 col]) (67 : Nat))) true :: rdOf B)) (.need (∃ (p : Option Addr), ∃ (n : Nat), ∃ (c : Nat), iv = Value.slice p n c) (.br (bif true then bif false then true else Ex.ltQ (0 : Int) (Int.ofNat (Sy.lenS iv)) else false) (.leaf (Value.bool false, Blk.mk (Let.n (ns 3)) (.obj (.cells (Array.mk [Value.bool false, Value.bool false, Value.bool true, Value.bool false, Value.bool false]) (109 : Nat))) true :: Blk.mk (Let.n (ns 2)) (.obj (.cells (Array.mk [.int .i64 loc, av]) (37 : Nat))) true :: Blk.mk (Let.n (ns 1)) (.obj (.cells (Array.mk [.int .i64 cells, tv]) (27 : Nat))) true ::
 Blk.mk (Let.n (ns 0)) (.obj (.cells (Array.mk [.int .i64 (8 : Int), .int .i64 dst, .int .i64 base, .int .i64 size, iv, ev, fv, .int .i64 mode, .int .i64 to, .int .i64 line, .int .i64 col]) (67 : Nat))) true :: rdOf B)) (.need (∃ (p : Option Addr), ∃ (n : Nat), ∃ (c : Nat), ev = Value.slice p n c) (.br (!true == Ex.ltQ (0 : Int) (Int.ofNat (Sy.lenS ev))) (.leaf (Value.bool false, Blk.mk (Let.n (ns 3)) (.obj (.cells (Array.mk [Value.bool false, Value.bool false, Value.bool true, Value.bool false, Value.bool false]) (109 : Nat))) true :: Blk.mk (Let.n (ns 2)) (.obj (.cells (Array.mk [.int .i64 loc, av]) (37 : Nat))) true :: Blk.mk (Let.n (ns 1)) (.obj (.cells (Array.mk [.int .i64 cells, tv]) (27 : Nat))) true :: Blk.mk (Let.n (ns 0)) (.obj (.cells (Array.mk [.int .i64 (8 : Int), .int .i64 dst, .int .i64 base, .int .i64 size, iv, ev, fv, .int .i64 mode, .int .i64 to, .int .i64 line, .int .i64 col]) (67 : Nat))) true :: rdOf B)) (.need (∃ (p : Option Addr), ∃ (n : Nat), ∃ (c : Nat), fv =
 Value.slice p n c) (.br (!false == Ex.ltQ (0 : Int) (Int.ofNat (Sy.lenS fv))) (.leaf (Value.bool false, Blk.mk (Let.n (ns 3)) (.obj (.cells (Array.mk [Value.bool false, Value.bool false, Value.bool true, Value.bool false, Value.bool false]) (109 : Nat))) true :: Blk.mk (Let.n (ns 2)) (.obj (.cells (Array.mk [.int .i64 loc, av]) (37 : Nat))) true :: Blk.mk (Let.n (ns 1)) (.obj (.cells (Array.mk [.int .i64 cells, tv]) (27 : Nat))) true :: Blk.mk (Let.n (ns 0)) (.obj (.cells (Array.mk [.int .i64 (8 : Int), .int .i64 dst, .int .i64 base, .int .i64 size, iv, ev, fv, .int .i64 mode, .int .i64 to, .int .i64 line, .int .i64 col]) (67 : Nat))) true :: rdOf B)) (.need (NodesR B ev e ∧ List.length e < (4398046511104 : Nat)) (.need (Sy.GotL (rdOf B) B) (.hyp True (.br (bif true then !exprF loc e else false) (.leaf (Value.bool false, Blk.mk (Let.n (ns 3)) (.obj (.cells (Array.mk [Value.bool false, Value.bool false, Value.bool true, Value.bool false, Value.bool false]) (109 : Nat))) true :: Blk.mk
 (Let.n (ns 2)) (.obj (.cells (Array.mk [.int .i64 loc, av]) (37 : Nat))) true :: Blk.mk (Let.n (ns 1)) (.obj (.cells (Array.mk [.int .i64 cells, tv]) (27 : Nat))) true :: Blk.mk (Let.n (ns 0)) (.obj (.cells (Array.mk [.int .i64 (8 : Int), .int .i64 dst, .int .i64 base, .int .i64 size, iv, ev, fv, .int .i64 mode, .int .i64 to, .int .i64 line, .int .i64 col]) (67 : Nat))) true :: rdOf B)) (.br (bif true then !Ex.eqQ to (0 : Int) else false) (.leaf (Value.bool false, Blk.mk (Let.n (ns 3)) (.obj (.cells (Array.mk [Value.bool false, Value.bool false, Value.bool true, Value.bool false, Value.bool false]) (109 : Nat))) true :: Blk.mk (Let.n (ns 2)) (.obj (.cells (Array.mk [.int .i64 loc, av]) (37 : Nat))) true :: Blk.mk (Let.n (ns 1)) (.obj (.cells (Array.mk [.int .i64 cells, tv]) (27 : Nat))) true :: Blk.mk (Let.n (ns 0)) (.obj (.cells (Array.mk [.int .i64 (8 : Int), .int .i64 dst, .int .i64 base, .int .i64 size, iv, ev, fv, .int .i64 mode, .int .i64 to, .int .i64 line, .int .i64 col]) (67 :
 Nat))) true :: rdOf B)) (.leaf (Value.bool true, Blk.mk (Let.n (ns 3)) (.obj (.cells (Array.mk [Value.bool false, Value.bool false, Value.bool true, Value.bool false, Value.bool false]) (109 : Nat))) true :: Blk.mk (Let.n (ns 2)) (.obj (.cells (Array.mk [.int .i64 loc, av]) (37 : Nat))) true :: Blk.mk (Let.n (ns 1)) (.obj (.cells (Array.mk [.int .i64 cells, tv]) (27 : Nat))) true :: Blk.mk (Let.n (ns 0)) (.obj (.cells (Array.mk [.int .i64 (8 : Int), .int .i64 dst, .int .i64 base, .int .i64 size, iv, ev, fv, .int .i64 mode, .int .i64 to, .int .i64 line, .int .i64 col]) (67 : Nat))) true :: rdOf B))))))))))))))))))))

theorem wac8_run (B : List (Nat × Sy.Cont)) (dst base size mode to line col : Int) (iv ev fv tv av : Value) (ix e f : List NodeD) (cells loc : Int) : Sy.Ran (Sy.inB Try.prog (ctxW B (8) dst base size mode to line col iv ev fv tv ix e f cells loc) 50 fAct #[.agg #[.int .i64 (8), .int .i64 dst, .int .i64 base, .int .i64 size, iv, ev, fv, .int .i64 mode, .int .i64 to, .int .i64 line, .int .i64 col], progV cells tv, thrV loc av] (rdOf B)) wac8_o (wac8_R B dst base size mode to line col iv ev fv tv av ix e f cells loc) := ⟨fun ns => by kernel_rfl, fun ns => by kernel_rfl⟩
def wac9_o : Sy.O := (Sy.O.pack 28 0x400000020000010000000020000000040 (Sy.O.fork Sy.O.nil (Sy.O.pack 31 0x18000000000000000000000000040000040 (Sy.O.fork Sy.O.nil (Sy.O.pack 20 0x300000000000000000000 (Sy.O.fork (Sy.O.pack 10 0x0 Sy.O.nil) (Sy.O.pack 7 0xc00 (Sy.O.fork (Sy.O.pack 5 0x0 Sy.O.nil) (Sy.O.pack 8 0x2000c00 (Sy.O.fork Sy.O.nil (Sy.O.pack 7 0x40300000 (Sy.O.fork (Sy.O.steps [0] Sy.O.nil) (Sy.O.pack 7 0x40300000 (Sy.O.fork (Sy.O.steps [0] Sy.O.nil) (Sy.O.pack 30 0xc00000000000000000000000000000000 (Sy.O.fork (Sy.O.pack 8 0x0 Sy.O.nil) (Sy.O.pack 13 0x4000800000c00 (Sy.O.fork (Sy.O.steps [0] Sy.O.nil) (Sy.O.pack 10 0x0 Sy.O.nil)))))))))))))))))))
noncomputable def wac9_R (B : List (Nat × Sy.Cont)) (dst : Int) (base : Int) (size : Int) (mode : Int) (to : Int) (line : Int) (col : Int) (iv : Value) (ev : Value) (fv : Value) (tv : Value) (av : Value) (ix : List NodeD) (e : List NodeD) (f : List NodeD) (cells : Int) (loc : Int) (ns : Nat → Sy.Let) : Sy.Res (Value × List Blk) := .need True (.hyp True (.br (bif false then true else !mayF (9 : Int) mode) (.leaf (Value.bool false, Blk.mk (Let.n (ns 2)) (.obj (.cells (Array.mk [.int .i64 loc, av]) (37 : Nat))) true :: Blk.mk (Let.n (ns 1)) (.obj (.cells (Array.mk [.int .i64 cells, tv]) (27 : Nat))) true :: Blk.mk (Let.n (ns 0)) (.obj (.cells (Array.mk [.int .i64 (9 : Int), .int .i64 dst, .int .i64 base, .int .i64 size, iv, ev, fv, .int .i64 mode, .int .i64 to, .int .i64 line, .int .i64 col]) (67 : Nat))) true :: rdOf B)) (.need ((1 : Int) ≤ (9 : Int) ∧ (9 : Int) ≤ (10 : Int)) (.hyp True (.br (bif true then !Ex.eqQ dst (0 : Int) else false) (.leaf (Value.bool false, Blk.mk (Let.n (ns 3)) (.obj (.cells (Array.mk [Value.bool false, Value.bool false, Value.bool false, Value.bool false, Value.bool true]) (109 : Nat))) true :: Blk.mk (Let.n (ns 2)) (.obj (.cells (Array.mk [.int .i64 loc, av]) (37 : Nat))) true :: Blk.mk (Let.n (ns 1)) (.obj (.cells (Array.mk [.int .i64 cells, tv]) (27 : Nat))) true :: Blk.mk (Let.n (ns
 0)) (.obj (.cells (Array.mk [.int .i64 (9 : Int), .int .i64 dst, .int .i64 base, .int .i64 size, iv, ev, fv, .int .i64 mode, .int .i64 to, .int .i64 line, .int .i64 col]) (67 : Nat))) true :: rdOf B)) (.br (!Ex.eqQ base (0 : Int)) (.leaf (Value.bool false, Blk.mk (Let.n (ns 3)) (.obj (.cells (Array.mk [Value.bool false, Value.bool false, Value.bool false, Value.bool false, Value.bool true]) (109 : Nat))) true :: Blk.mk (Let.n (ns 2)) (.obj (.cells (Array.mk [.int .i64 loc, av]) (37 : Nat))) true :: Blk.mk (Let.n (ns 1)) (.obj (.cells (Array.mk [.int .i64 cells, tv]) (27 : Nat))) true :: Blk.mk (Let.n (ns 0)) (.obj (.cells (Array.mk [.int .i64 (9 : Int), .int .i64 dst, .int .i64 base, .int .i64 size, iv, ev, fv, .int .i64 mode, .int .i64 to, .int .i64 line, .int .i64 col]) (67 : Nat))) true :: rdOf B)) (.br (bif false then true else !Ex.eqQ size (0 : Int)) (.leaf (Value.bool false, Blk.mk (Let.n (ns 3)) (.obj (.cells (Array.mk [Value.bool false, Value.bool false, Value.bool false,
 Value.bool false, Value.bool true]) (109 : Nat))) true :: Blk.mk (Let.n (ns 2)) (.obj (.cells (Array.mk [.int .i64 loc, av]) (37 : Nat))) true :: Blk.mk (Let.n (ns 1)) (.obj (.cells (Array.mk [.int .i64 cells, tv]) (27 : Nat))) true :: Blk.mk (Let.n (ns 0)) (.obj (.cells (Array.mk [.int .i64 (9 : Int), .int .i64 dst, .int .i64 base, .int .i64 size, iv, ev, fv, .int .i64 mode, .int .i64 to, .int .i64 line, .int .i64 col]) (67 : Nat))) true :: rdOf B)) (.need (∃ (p : Option Addr), ∃ (n : Nat), ∃ (c : Nat), iv = Value.slice p n c) (.br (bif true then bif false then true else Ex.ltQ (0 : Int) (Int.ofNat (Sy.lenS iv)) else false) (.leaf (Value.bool false, Blk.mk (Let.n (ns 3)) (.obj (.cells (Array.mk [Value.bool false, Value.bool false, Value.bool false, Value.bool false, Value.bool true]) (109 : Nat))) true :: Blk.mk (Let.n (ns 2)) (.obj (.cells (Array.mk [.int .i64 loc, av]) (37 : Nat))) true :: Blk.mk (Let.n (ns 1)) (.obj (.cells (Array.mk [.int .i64 cells, tv]) (27 : Nat))) true ::
 Blk.mk (Let.n (ns 0)) (.obj (.cells (Array.mk [.int .i64 (9 : Int), .int .i64 dst, .int .i64 base, .int .i64 size, iv, ev, fv, .int .i64 mode, .int .i64 to, .int .i64 line, .int .i64 col]) (67 : Nat))) true :: rdOf B)) (.need (∃ (p : Option Addr), ∃ (n : Nat), ∃ (c : Nat), ev = Value.slice p n c) (.br (!false == Ex.ltQ (0 : Int) (Int.ofNat (Sy.lenS ev))) (.leaf (Value.bool false, Blk.mk (Let.n (ns 3)) (.obj (.cells (Array.mk [Value.bool false, Value.bool false, Value.bool false, Value.bool false, Value.bool true]) (109 : Nat))) true :: Blk.mk (Let.n (ns 2)) (.obj (.cells (Array.mk [.int .i64 loc, av]) (37 : Nat))) true :: Blk.mk (Let.n (ns 1)) (.obj (.cells (Array.mk [.int .i64 cells, tv]) (27 : Nat))) true :: Blk.mk (Let.n (ns 0)) (.obj (.cells (Array.mk [.int .i64 (9 : Int), .int .i64 dst, .int .i64 base, .int .i64 size, iv, ev, fv, .int .i64 mode, .int .i64 to, .int .i64 line, .int .i64 col]) (67 : Nat))) true :: rdOf B)) (.need (∃ (p : Option Addr), ∃ (n : Nat), ∃ (c : Nat), fv =
 Value.slice p n c) (.br (!false == Ex.ltQ (0 : Int) (Int.ofNat (Sy.lenS fv))) (.leaf (Value.bool false, Blk.mk (Let.n (ns 3)) (.obj (.cells (Array.mk [Value.bool false, Value.bool false, Value.bool false, Value.bool false, Value.bool true]) (109 : Nat))) true :: Blk.mk (Let.n (ns 2)) (.obj (.cells (Array.mk [.int .i64 loc, av]) (37 : Nat))) true :: Blk.mk (Let.n (ns 1)) (.obj (.cells (Array.mk [.int .i64 cells, tv]) (27 : Nat))) true :: Blk.mk (Let.n (ns 0)) (.obj (.cells (Array.mk [.int .i64 (9 : Int), .int .i64 dst, .int .i64 base, .int .i64 size, iv, ev, fv, .int .i64 mode, .int .i64 to, .int .i64 line, .int .i64 col]) (67 : Nat))) true :: rdOf B)) (.br (Ex.ltQ to (0 : Int)) (.leaf (Value.bool false, Blk.mk (Let.n (ns 3)) (.obj (.cells (Array.mk [Value.bool false, Value.bool false, Value.bool false, Value.bool false, Value.bool true]) (109 : Nat))) true :: Blk.mk (Let.n (ns 2)) (.obj (.cells (Array.mk [.int .i64 loc, av]) (37 : Nat))) true :: Blk.mk (Let.n (ns 1)) (.obj (.cells
 (Array.mk [.int .i64 cells, tv]) (27 : Nat))) true :: Blk.mk (Let.n (ns 0)) (.obj (.cells (Array.mk [.int .i64 (9 : Int), .int .i64 dst, .int .i64 base, .int .i64 size, iv, ev, fv, .int .i64 mode, .int .i64 to, .int .i64 line, .int .i64 col]) (67 : Nat))) true :: rdOf B)) (.need (∃ (p : Option Addr), ∃ (n : Nat), ∃ (c : Nat), av = Value.slice p n c) (.br (bif true then bif false then true else Ex.ltQ (Int.ofNat (Sy.lenS av)) to else false) (.leaf (Value.bool false, Blk.mk (Let.n (ns 3)) (.obj (.cells (Array.mk [Value.bool false, Value.bool false, Value.bool false, Value.bool false, Value.bool true]) (109 : Nat))) true :: Blk.mk (Let.n (ns 2)) (.obj (.cells (Array.mk [.int .i64 loc, av]) (37 : Nat))) true :: Blk.mk (Let.n (ns 1)) (.obj (.cells (Array.mk [.int .i64 cells, tv]) (27 : Nat))) true :: Blk.mk (Let.n (ns 0)) (.obj (.cells (Array.mk [.int .i64 (9 : Int), .int .i64 dst, .int .i64 base, .int .i64 size, iv, ev, fv, .int .i64 mode, .int .i64 to, .int .i64 line, .int .i64 col]) (67 :
 Nat))) true :: rdOf B)) (.leaf (Value.bool true, Blk.mk (Let.n (ns 3)) (.obj (.cells (Array.mk [Value.bool false, Value.bool false, Value.bool false, Value.bool false, Value.bool true]) (109 : Nat))) true :: Blk.mk (Let.n (ns 2)) (.obj (.cells (Array.mk [.int .i64 loc, av]) (37 : Nat))) true :: Blk.mk (Let.n (ns 1)) (.obj (.cells (Array.mk [.int .i64 cells, tv]) (27 : Nat))) true :: Blk.mk (Let.n (ns 0)) (.obj (.cells (Array.mk [.int .i64 (9 : Int), .int .i64 dst, .int .i64 base, .int .i64 size, iv, ev, fv, .int .i64 mode, .int .i64 to, .int .i64 line, .int .i64 col]) (67 : Nat))) true :: rdOf B))))))))))))))))))

theorem wac9_run (B : List (Nat × Sy.Cont)) (dst base size mode to line col : Int) (iv ev fv tv av : Value) (ix e f : List NodeD) (cells loc : Int) : Sy.Ran (Sy.inB Try.prog (ctxW B (9) dst base size mode to line col iv ev fv tv ix e f cells loc) 50 fAct #[.agg #[.int .i64 (9), .int .i64 dst, .int .i64 base, .int .i64 size, iv, ev, fv, .int .i64 mode, .int .i64 to, .int .i64 line, .int .i64 col], progV cells tv, thrV loc av] (rdOf B)) wac9_o (wac9_R B dst base size mode to line col iv ev fv tv av ix e f cells loc) := ⟨fun ns => by kernel_rfl, fun ns => by kernel_rfl⟩
def wac10_o : Sy.O := (Sy.O.pack 28 0x400000020000010000000020000000040 (Sy.O.fork Sy.O.nil (Sy.O.pack 31 0x18000000000000000000000000040000040 (Sy.O.fork Sy.O.nil (Sy.O.pack 20 0x300000000000000000000 (Sy.O.fork (Sy.O.pack 10 0x0 Sy.O.nil) (Sy.O.pack 7 0xc00 (Sy.O.fork (Sy.O.pack 5 0x0 Sy.O.nil) (Sy.O.pack 8 0x2000c00 (Sy.O.fork Sy.O.nil (Sy.O.pack 7 0x40300000 (Sy.O.fork (Sy.O.steps [0] Sy.O.nil) (Sy.O.pack 7 0x40300000 (Sy.O.fork (Sy.O.steps [0] Sy.O.nil) (Sy.O.pack 20 0x404080000800000c0000000 (Sy.O.fork (Sy.O.steps [0] Sy.O.nil) (Sy.O.pack 20 0x300000000000000000000 (Sy.O.fork (Sy.O.pack 8 0x0 Sy.O.nil) (Sy.O.pack 13 0x4000800000c00 (Sy.O.fork (Sy.O.steps [0] Sy.O.nil) (Sy.O.pack 10 0x0 Sy.O.nil)))))))))))))))))))))
noncomputable def wac10_R (B : List (Nat × Sy.Cont)) (dst : Int) (base : Int) (size : Int) (mode : Int) (to : Int) (line : Int) (col : Int) (iv : Value) (ev : Value) (fv : Value) (tv : Value) (av : Value) (ix : List NodeD) (e : List NodeD) (f : List NodeD) (cells : Int) (loc : Int) (ns : Nat → Sy.Let) : Sy.Res (Value × List Blk) := .need True (.hyp True (.br (bif false then true else !mayF (10 : Int) mode) (.leaf (Value.bool false, Blk.mk (Let.n (ns 2)) (.obj (.cells (Array.mk [.int .i64 loc, av]) (37 : Nat))) true :: Blk.mk (Let.n (ns 1)) (.obj (.cells (Array.mk [.int .i64 cells, tv]) (27 : Nat))) true :: Blk.mk (Let.n (ns 0)) (.obj (.cells (Array.mk [.int .i64 (10 : Int), .int .i64 dst, .int .i64 base, .int .i64 size, iv, ev, fv, .int .i64 mode, .int .i64 to, .int .i64 line, .int .i64 col]) (67 : Nat))) true :: rdOf B)) (.need ((1 : Int) ≤ (10 : Int) ∧ (10 : Int) ≤ (10 : Int)) (.hyp True (.br (bif true then !Ex.eqQ dst (0 : Int) else false) (.leaf (Value.bool false, Blk.mk (Let.n (ns 3)) (.obj (.cells (Array.mk [Value.bool false, Value.bool false, Value.bool true, Value.bool false, Value.bool true]) (109 : Nat))) true :: Blk.mk (Let.n (ns 2)) (.obj (.cells (Array.mk [.int .i64 loc, av]) (37 : Nat))) true :: Blk.mk (Let.n (ns 1)) (.obj (.cells (Array.mk [.int .i64 cells, tv]) (27 : Nat))) true :: Blk.mk (Let.n
 (ns 0)) (.obj (.cells (Array.mk [.int .i64 (10 : Int), .int .i64 dst, .int .i64 base, .int .i64 size, iv, ev, fv, .int .i64 mode, .int .i64 to, .int .i64 line, .int .i64 col]) (67 : Nat))) true :: rdOf B)) (.br (!Ex.eqQ base (0 : Int)) (.leaf (Value.bool false, Blk.mk (Let.n (ns 3)) (.obj (.cells (Array.mk [Value.bool false, Value.bool false, Value.bool true, Value.bool false, Value.bool true]) (109 : Nat))) true :: Blk.mk (Let.n (ns 2)) (.obj (.cells (Array.mk [.int .i64 loc, av]) (37 : Nat))) true :: Blk.mk (Let.n (ns 1)) (.obj (.cells (Array.mk [.int .i64 cells, tv]) (27 : Nat))) true :: Blk.mk (Let.n (ns 0)) (.obj (.cells (Array.mk [.int .i64 (10 : Int), .int .i64 dst, .int .i64 base, .int .i64 size, iv, ev, fv, .int .i64 mode, .int .i64 to, .int .i64 line, .int .i64 col]) (67 : Nat))) true :: rdOf B)) (.br (bif false then true else !Ex.eqQ size (0 : Int)) (.leaf (Value.bool false, Blk.mk (Let.n (ns 3)) (.obj (.cells (Array.mk [Value.bool false, Value.bool false, Value.bool true,
 Value.bool false, Value.bool true]) (109 : Nat))) true :: Blk.mk (Let.n (ns 2)) (.obj (.cells (Array.mk [.int .i64 loc, av]) (37 : Nat))) true :: Blk.mk (Let.n (ns 1)) (.obj (.cells (Array.mk [.int .i64 cells, tv]) (27 : Nat))) true :: Blk.mk (Let.n (ns 0)) (.obj (.cells (Array.mk [.int .i64 (10 : Int), .int .i64 dst, .int .i64 base, .int .i64 size, iv, ev, fv, .int .i64 mode, .int .i64 to, .int .i64 line, .int .i64 col]) (67 : Nat))) true :: rdOf B)) (.need (∃ (p : Option Addr), ∃ (n : Nat), ∃ (c : Nat), iv = Value.slice p n c) (.br (bif true then bif false then true else Ex.ltQ (0 : Int) (Int.ofNat (Sy.lenS iv)) else false) (.leaf (Value.bool false, Blk.mk (Let.n (ns 3)) (.obj (.cells (Array.mk [Value.bool false, Value.bool false, Value.bool true, Value.bool false, Value.bool true]) (109 : Nat))) true :: Blk.mk (Let.n (ns 2)) (.obj (.cells (Array.mk [.int .i64 loc, av]) (37 : Nat))) true :: Blk.mk (Let.n (ns 1)) (.obj (.cells (Array.mk [.int .i64 cells, tv]) (27 : Nat))) true ::
 Blk.mk (Let.n (ns 0)) (.obj (.cells (Array.mk [.int .i64 (10 : Int), .int .i64 dst, .int .i64 base, .int .i64 size, iv, ev, fv, .int .i64 mode, .int .i64 to, .int .i64 line, .int .i64 col]) (67 : Nat))) true :: rdOf B)) (.need (∃ (p : Option Addr), ∃ (n : Nat), ∃ (c : Nat), ev = Value.slice p n c) (.br (!true == Ex.ltQ (0 : Int) (Int.ofNat (Sy.lenS ev))) (.leaf (Value.bool false, Blk.mk (Let.n (ns 3)) (.obj (.cells (Array.mk [Value.bool false, Value.bool false, Value.bool true, Value.bool false, Value.bool true]) (109 : Nat))) true :: Blk.mk (Let.n (ns 2)) (.obj (.cells (Array.mk [.int .i64 loc, av]) (37 : Nat))) true :: Blk.mk (Let.n (ns 1)) (.obj (.cells (Array.mk [.int .i64 cells, tv]) (27 : Nat))) true :: Blk.mk (Let.n (ns 0)) (.obj (.cells (Array.mk [.int .i64 (10 : Int), .int .i64 dst, .int .i64 base, .int .i64 size, iv, ev, fv, .int .i64 mode, .int .i64 to, .int .i64 line, .int .i64 col]) (67 : Nat))) true :: rdOf B)) (.need (∃ (p : Option Addr), ∃ (n : Nat), ∃ (c : Nat), fv =
 Value.slice p n c) (.br (!false == Ex.ltQ (0 : Int) (Int.ofNat (Sy.lenS fv))) (.leaf (Value.bool false, Blk.mk (Let.n (ns 3)) (.obj (.cells (Array.mk [Value.bool false, Value.bool false, Value.bool true, Value.bool false, Value.bool true]) (109 : Nat))) true :: Blk.mk (Let.n (ns 2)) (.obj (.cells (Array.mk [.int .i64 loc, av]) (37 : Nat))) true :: Blk.mk (Let.n (ns 1)) (.obj (.cells (Array.mk [.int .i64 cells, tv]) (27 : Nat))) true :: Blk.mk (Let.n (ns 0)) (.obj (.cells (Array.mk [.int .i64 (10 : Int), .int .i64 dst, .int .i64 base, .int .i64 size, iv, ev, fv, .int .i64 mode, .int .i64 to, .int .i64 line, .int .i64 col]) (67 : Nat))) true :: rdOf B)) (.need (NodesR B ev e ∧ List.length e < (4398046511104 : Nat)) (.need (Sy.GotL (rdOf B) B) (.hyp True (.br (bif true then !exprF loc e else false) (.leaf (Value.bool false, Blk.mk (Let.n (ns 3)) (.obj (.cells (Array.mk [Value.bool false, Value.bool false, Value.bool true, Value.bool false, Value.bool true]) (109 : Nat))) true :: Blk.mk
 (Let.n (ns 2)) (.obj (.cells (Array.mk [.int .i64 loc, av]) (37 : Nat))) true :: Blk.mk (Let.n (ns 1)) (.obj (.cells (Array.mk [.int .i64 cells, tv]) (27 : Nat))) true :: Blk.mk (Let.n (ns 0)) (.obj (.cells (Array.mk [.int .i64 (10 : Int), .int .i64 dst, .int .i64 base, .int .i64 size, iv, ev, fv, .int .i64 mode, .int .i64 to, .int .i64 line, .int .i64 col]) (67 : Nat))) true :: rdOf B)) (.br (Ex.ltQ to (0 : Int)) (.leaf (Value.bool false, Blk.mk (Let.n (ns 3)) (.obj (.cells (Array.mk [Value.bool false, Value.bool false, Value.bool true, Value.bool false, Value.bool true]) (109 : Nat))) true :: Blk.mk (Let.n (ns 2)) (.obj (.cells (Array.mk [.int .i64 loc, av]) (37 : Nat))) true :: Blk.mk (Let.n (ns 1)) (.obj (.cells (Array.mk [.int .i64 cells, tv]) (27 : Nat))) true :: Blk.mk (Let.n (ns 0)) (.obj (.cells (Array.mk [.int .i64 (10 : Int), .int .i64 dst, .int .i64 base, .int .i64 size, iv, ev, fv, .int .i64 mode, .int .i64 to, .int .i64 line, .int .i64 col]) (67 : Nat))) true :: rdOf B))
 (.need (∃ (p : Option Addr), ∃ (n : Nat), ∃ (c : Nat), av = Value.slice p n c) (.br (bif true then bif false then true else Ex.ltQ (Int.ofNat (Sy.lenS av)) to else false) (.leaf (Value.bool false, Blk.mk (Let.n (ns 3)) (.obj (.cells (Array.mk [Value.bool false, Value.bool false, Value.bool true, Value.bool false, Value.bool true]) (109 : Nat))) true :: Blk.mk (Let.n (ns 2)) (.obj (.cells (Array.mk [.int .i64 loc, av]) (37 : Nat))) true :: Blk.mk (Let.n (ns 1)) (.obj (.cells (Array.mk [.int .i64 cells, tv]) (27 : Nat))) true :: Blk.mk (Let.n (ns 0)) (.obj (.cells (Array.mk [.int .i64 (10 : Int), .int .i64 dst, .int .i64 base, .int .i64 size, iv, ev, fv, .int .i64 mode, .int .i64 to, .int .i64 line, .int .i64 col]) (67 : Nat))) true :: rdOf B)) (.leaf (Value.bool true, Blk.mk (Let.n (ns 3)) (.obj (.cells (Array.mk [Value.bool false, Value.bool false, Value.bool true, Value.bool false, Value.bool true]) (109 : Nat))) true :: Blk.mk (Let.n (ns 2)) (.obj (.cells (Array.mk [.int .i64 loc,
 av]) (37 : Nat))) true :: Blk.mk (Let.n (ns 1)) (.obj (.cells (Array.mk [.int .i64 cells, tv]) (27 : Nat))) true :: Blk.mk (Let.n (ns 0)) (.obj (.cells (Array.mk [.int .i64 (10 : Int), .int .i64 dst, .int .i64 base, .int .i64 size, iv, ev, fv, .int .i64 mode, .int .i64 to, .int .i64 line, .int .i64 col]) (67 : Nat))) true :: rdOf B))))))))))))))))))))))

theorem wac10_run (B : List (Nat × Sy.Cont)) (dst base size mode to line col : Int) (iv ev fv tv av : Value) (ix e f : List NodeD) (cells loc : Int) : Sy.Ran (Sy.inB Try.prog (ctxW B (10) dst base size mode to line col iv ev fv tv ix e f cells loc) 50 fAct #[.agg #[.int .i64 (10), .int .i64 dst, .int .i64 base, .int .i64 size, iv, ev, fv, .int .i64 mode, .int .i64 to, .int .i64 line, .int .i64 col], progV cells tv, thrV loc av] (rdOf B)) wac10_o (wac10_R B dst base size mode to line col iv ev fv tv av ix e f cells loc) := ⟨fun ns => by kernel_rfl, fun ns => by kernel_rfl⟩
def wac0_o : Sy.O := (Sy.O.pack 7 0x4008040 (Sy.O.fork (Sy.O.pack 6 0x0 Sy.O.nil) (Sy.O.pack 15 0x20000001000000800 (Sy.O.fork Sy.O.nil (Sy.O.pack 31 0x18000000000000000000000000040000040 (Sy.O.fork Sy.O.nil (Sy.O.pack 20 0x300000000000000000000 (Sy.O.fork (Sy.O.pack 10 0x0 Sy.O.nil) (Sy.O.pack 7 0xc00 (Sy.O.fork (Sy.O.pack 5 0x0 Sy.O.nil) (Sy.O.pack 8 0x2000c00 (Sy.O.fork Sy.O.nil (Sy.O.pack 7 0x40300000 (Sy.O.fork (Sy.O.steps [0] Sy.O.nil) (Sy.O.pack 7 0x40300000 (Sy.O.fork (Sy.O.steps [0] Sy.O.nil) (Sy.O.pack 41 0x60000000000000000000000000000000000000000000000 (Sy.O.fork Sy.O.nil Sy.O.nil))))))))))))))))))
noncomputable def wac0_R (B : List (Nat × Sy.Cont)) (op : Int) (dst : Int) (base : Int) (size : Int) (mode : Int) (to : Int) (line : Int) (col : Int) (iv : Value) (ev : Value) (fv : Value) (tv : Value) (av : Value) (cells : Int) (loc : Int) (ns : Nat → Sy.Let) : Sy.Res (Value × List Blk) := .br (bif Ex.ltQ op (1 : Int) then true else Ex.ltQ (10 : Int) op) (.leaf (Value.bool false, Blk.mk (Let.n (ns 2)) (.obj (.cells (Array.mk [.int .i64 loc, av]) (37 : Nat))) true :: Blk.mk (Let.n (ns 1)) (.obj (.cells (Array.mk [.int .i64 cells, tv]) (27 : Nat))) true :: Blk.mk (Let.n (ns 0)) (.obj (.cells (Array.mk [.int .i64 op, .int .i64 dst, .int .i64 base, .int .i64 size, iv, ev, fv, .int .i64 mode, .int .i64 to, .int .i64 line, .int .i64 col]) (67 : Nat))) true :: rdOf B)) (.need True (.hyp True (.br (bif false then true else !mayF op mode) (.leaf (Value.bool false, Blk.mk (Let.n (ns 2)) (.obj (.cells (Array.mk [.int .i64 loc, av]) (37 : Nat))) true :: Blk.mk (Let.n (ns 1)) (.obj (.cells (Array.mk [.int .i64 cells, tv]) (27 : Nat))) true :: Blk.mk (Let.n (ns 0)) (.obj (.cells (Array.mk [.int .i64 op, .int .i64 dst, .int .i64 base, .int .i64 size, iv, ev, fv, .int .i64 mode, .int .i64 to, .int .i64 line, .int .i64 col]) (67 : Nat))) true :: rdOf B)) (.need False (.hyp True (.br (bif
 true then !Ex.eqQ dst (0 : Int) else false) (.leaf (Value.bool false, Blk.mk (Let.n (ns 3)) (.obj (.cells (Array.mk [Value.bool false, Value.bool false, Value.bool false, Value.bool false, Value.bool false]) (109 : Nat))) true :: Blk.mk (Let.n (ns 2)) (.obj (.cells (Array.mk [.int .i64 loc, av]) (37 : Nat))) true :: Blk.mk (Let.n (ns 1)) (.obj (.cells (Array.mk [.int .i64 cells, tv]) (27 : Nat))) true :: Blk.mk (Let.n (ns 0)) (.obj (.cells (Array.mk [.int .i64 op, .int .i64 dst, .int .i64 base, .int .i64 size, iv, ev, fv, .int .i64 mode, .int .i64 to, .int .i64 line, .int .i64 col]) (67 : Nat))) true :: rdOf B)) (.br (!Ex.eqQ base (0 : Int)) (.leaf (Value.bool false, Blk.mk (Let.n (ns 3)) (.obj (.cells (Array.mk [Value.bool false, Value.bool false, Value.bool false, Value.bool false, Value.bool false]) (109 : Nat))) true :: Blk.mk (Let.n (ns 2)) (.obj (.cells (Array.mk [.int .i64 loc, av]) (37 : Nat))) true :: Blk.mk (Let.n (ns 1)) (.obj (.cells (Array.mk [.int .i64 cells, tv]) (27 :
 Nat))) true :: Blk.mk (Let.n (ns 0)) (.obj (.cells (Array.mk [.int .i64 op, .int .i64 dst, .int .i64 base, .int .i64 size, iv, ev, fv, .int .i64 mode, .int .i64 to, .int .i64 line, .int .i64 col]) (67 : Nat))) true :: rdOf B)) (.br (bif false then true else !Ex.eqQ size (0 : Int)) (.leaf (Value.bool false, Blk.mk (Let.n (ns 3)) (.obj (.cells (Array.mk [Value.bool false, Value.bool false, Value.bool false, Value.bool false, Value.bool false]) (109 : Nat))) true :: Blk.mk (Let.n (ns 2)) (.obj (.cells (Array.mk [.int .i64 loc, av]) (37 : Nat))) true :: Blk.mk (Let.n (ns 1)) (.obj (.cells (Array.mk [.int .i64 cells, tv]) (27 : Nat))) true :: Blk.mk (Let.n (ns 0)) (.obj (.cells (Array.mk [.int .i64 op, .int .i64 dst, .int .i64 base, .int .i64 size, iv, ev, fv, .int .i64 mode, .int .i64 to, .int .i64 line, .int .i64 col]) (67 : Nat))) true :: rdOf B)) (.need (∃ (p : Option Addr), ∃ (n : Nat), ∃ (c : Nat), iv = Value.slice p n c) (.br (bif true then bif false then true else Ex.ltQ (0 : Int)
 (Int.ofNat (Sy.lenS iv)) else false) (.leaf (Value.bool false, Blk.mk (Let.n (ns 3)) (.obj (.cells (Array.mk [Value.bool false, Value.bool false, Value.bool false, Value.bool false, Value.bool false]) (109 : Nat))) true :: Blk.mk (Let.n (ns 2)) (.obj (.cells (Array.mk [.int .i64 loc, av]) (37 : Nat))) true :: Blk.mk (Let.n (ns 1)) (.obj (.cells (Array.mk [.int .i64 cells, tv]) (27 : Nat))) true :: Blk.mk (Let.n (ns 0)) (.obj (.cells (Array.mk [.int .i64 op, .int .i64 dst, .int .i64 base, .int .i64 size, iv, ev, fv, .int .i64 mode, .int .i64 to, .int .i64 line, .int .i64 col]) (67 : Nat))) true :: rdOf B)) (.need (∃ (p : Option Addr), ∃ (n : Nat), ∃ (c : Nat), ev = Value.slice p n c) (.br (!false == Ex.ltQ (0 : Int) (Int.ofNat (Sy.lenS ev))) (.leaf (Value.bool false, Blk.mk (Let.n (ns 3)) (.obj (.cells (Array.mk [Value.bool false, Value.bool false, Value.bool false, Value.bool false, Value.bool false]) (109 : Nat))) true :: Blk.mk (Let.n (ns 2)) (.obj (.cells (Array.mk [.int .i64 loc,
 av]) (37 : Nat))) true :: Blk.mk (Let.n (ns 1)) (.obj (.cells (Array.mk [.int .i64 cells, tv]) (27 : Nat))) true :: Blk.mk (Let.n (ns 0)) (.obj (.cells (Array.mk [.int .i64 op, .int .i64 dst, .int .i64 base, .int .i64 size, iv, ev, fv, .int .i64 mode, .int .i64 to, .int .i64 line, .int .i64 col]) (67 : Nat))) true :: rdOf B)) (.need (∃ (p : Option Addr), ∃ (n : Nat), ∃ (c : Nat), fv = Value.slice p n c) (.br (!false == Ex.ltQ (0 : Int) (Int.ofNat (Sy.lenS fv))) (.leaf (Value.bool false, Blk.mk (Let.n (ns 3)) (.obj (.cells (Array.mk [Value.bool false, Value.bool false, Value.bool false, Value.bool false, Value.bool false]) (109 : Nat))) true :: Blk.mk (Let.n (ns 2)) (.obj (.cells (Array.mk [.int .i64 loc, av]) (37 : Nat))) true :: Blk.mk (Let.n (ns 1)) (.obj (.cells (Array.mk [.int .i64 cells, tv]) (27 : Nat))) true :: Blk.mk (Let.n (ns 0)) (.obj (.cells (Array.mk [.int .i64 op, .int .i64 dst, .int .i64 base, .int .i64 size, iv, ev, fv, .int .i64 mode, .int .i64 to, .int .i64 line, .int
 .i64 col]) (67 : Nat))) true :: rdOf B)) (.br (bif true then !Ex.eqQ to (0 : Int) else false) (.leaf (Value.bool false, Blk.mk (Let.n (ns 3)) (.obj (.cells (Array.mk [Value.bool false, Value.bool false, Value.bool false, Value.bool false, Value.bool false]) (109 : Nat))) true :: Blk.mk (Let.n (ns 2)) (.obj (.cells (Array.mk [.int .i64 loc, av]) (37 : Nat))) true :: Blk.mk (Let.n (ns 1)) (.obj (.cells (Array.mk [.int .i64 cells, tv]) (27 : Nat))) true :: Blk.mk (Let.n (ns 0)) (.obj (.cells (Array.mk [.int .i64 op, .int .i64 dst, .int .i64 base, .int .i64 size, iv, ev, fv, .int .i64 mode, .int .i64 to, .int .i64 line, .int .i64 col]) (67 : Nat))) true :: rdOf B)) (.leaf (Value.bool true, Blk.mk (Let.n (ns 3)) (.obj (.cells (Array.mk [Value.bool false, Value.bool false, Value.bool false, Value.bool false, Value.bool false]) (109 : Nat))) true :: Blk.mk (Let.n (ns 2)) (.obj (.cells (Array.mk [.int .i64 loc, av]) (37 : Nat))) true :: Blk.mk (Let.n (ns 1)) (.obj (.cells (Array.mk [.int .i64
 cells, tv]) (27 : Nat))) true :: Blk.mk (Let.n (ns 0)) (.obj (.cells (Array.mk [.int .i64 op, .int .i64 dst, .int .i64 base, .int .i64 size, iv, ev, fv, .int .i64 mode, .int .i64 to, .int .i64 line, .int .i64 col]) (67 : Nat))) true :: rdOf B)))))))))))))))))

theorem wac0_run (B : List (Nat × Sy.Cont)) (op dst base size mode to line col : Int) (iv ev fv tv av : Value) (cells loc : Int) : Sy.Ran (Sy.inB Try.prog (ctxV op mode) 50 fAct #[.agg #[.int .i64 op, .int .i64 dst, .int .i64 base, .int .i64 size, iv, ev, fv, .int .i64 mode, .int .i64 to, .int .i64 line, .int .i64 col], progV cells tv, thrV loc av] (rdOf B)) wac0_o (wac0_R B op dst base size mode to line col iv ev fv tv av cells loc) := ⟨fun ns => by kernel_rfl, fun ns => by kernel_rfl⟩

end Go.Proofs.Ytbgmkefehfjicaa

/-
  The program's look at an act: the contract.
-/
namespace Go.Proofs.Ytbgmkefehfjicaa
open Go Go.RowKit
open Sy (Let Blk HasL)

/-- What the program tells of an act. -/
noncomputable def actF (cells loc : Int) (na : Nat) (a : ActD) : Bool :=
  decide (1 ≤ a.op ∧ a.op ≤ 10) && (mayF a.op a.mode && ((bif hasDst a.op then Ex.leQ 0 a.dst && Ex.ltQ a.dst loc else Ex.eqQ a.dst 0) &&
  ((bif hasPlace a.op then placeF a.size a.base cells loc a.ix else Ex.eqQ a.base 0 && (Ex.eqQ a.size 0 && decide (a.ix.length = 0))) &&
  ((hasE a.op == decide (0 < a.e.length)) && ((hasF a.op == decide (0 < a.f.length)) && ((bif hasE a.op then exprF loc a.e else true) && ((bif hasF a.op then exprF loc a.f else true) &&
  (bif hasTo a.op then Ex.leQ 0 a.to && Ex.leQ a.to (na : Int) else Ex.eqQ a.to 0))))))))

structure OkW (B : List (Nat × Sy.Cont)) (iv ev fv av : Value) (a : ActD) (na : Nat) : Prop where
  i : OkX B iv a.ix
  e : OkX B ev a.e
  f : OkX B fv a.f
  a : ∃ p n c, av = .slice p n c
  na : Sy.lenS av = na

noncomputable def actC (B : List (Nat × Sy.Cont)) (a : ActD) (iv ev fv tv av : Value) (cells loc : Int) (na : Nat) : Sy.CallC :=
  ⟨fAct, #[actV a iv ev fv, progV cells tv, thrV loc av], OkW B iv ev fv av a na, ⟨[], [], 0, B⟩, [Sy.plainO (.bool (actF cells loc na a))]⟩

theorem pos_len (n : Nat) : Ex.ltQ 0 (Int.ofNat n) = decide (0 < n) := by
  rw [Ex.ltQ_eq]
  by_cases h : 0 < n <;> simp [h]

theorem far_to (n : Nat) (t : Int) : Ex.ltQ (Int.ofNat n) t = !Ex.leQ t (n : Int) := by
  rw [Ex.ltQ_eq, Ex.leQ_eq]
  by_cases h : (n : Int) < t
  · have : ¬ t ≤ (n : Int) := by omega
    simp [h, this]
  · have : t ≤ (n : Int) := by omega
    simp [h, this]

theorem neg_to (t : Int) : Ex.ltQ t 0 = !Ex.leQ 0 t := by
  rw [Ex.ltQ_eq, Ex.leQ_eq]
  by_cases h : t < 0
  · have : ¬ 0 ≤ t := by omega
    simp [h, this]
  · have : 0 ≤ t := by omega
    simp [h, this]

theorem ge_to (l d : Int) : Ex.leQ l d = !Ex.ltQ d l := by
  rw [Ex.ltQ_eq, Ex.leQ_eq]
  by_cases h : d < l
  · have : ¬ l ≤ d := by omega
    simp [h, this]
  · have : l ≤ d := by omega
    simp [h, this]

theorem act1_met (B : List (Nat × Sy.Cont)) (a : ActD) (iv ev fv tv av : Value) (cells loc : Int) (na : Nat) (hk : a.op = 1) : Sy.Meets Try.prog (actC B a iv ev fv tv av cells loc na) := by
  obtain ⟨op, dst, base, size, ix, e, f, mode, to, line, col⟩ := a
  simp only at hk
  subst hk
  refine Sy.meets_ofB (ctxW_holds B 1 dst base size mode to line col iv ev fv tv ix e f cells loc) mixed (L := rdOf B) (Sy.Ent.refl _) (wac1_run B dst base size mode to line col iv ev fv tv av ix e f cells loc) fun hok ns => ?_
  obtain ⟨⟨hI, hil⟩, ⟨hE, hel⟩, ⟨hF, hfl⟩, hA, hna⟩ := hok
  simp only at hI hE hF hil hel hfl
  have leaf : ∀ b L, b = actF cells loc na ⟨1, dst, base, size, ix, e, f, mode, to, line, col⟩ → Sy.leafB (actC B ⟨1, dst, base, size, ix, e, f, mode, to, line, col⟩ iv ev fv tv av cells loc na) (.bool b, L) := fun b L h => plainB_leaf (List.mem_singleton_self _) rfl (by rw [h])
  have h1 : hasDst 1 = true := rfl
  have h2 : hasPlace 1 = false := rfl
  have h3 : hasE 1 = true := rfl
  have h4 : hasF 1 = false := rfl
  have h5 : hasTo 1 = false := rfl
  simp only [actF, h1, h2, h3, h4, h5] at leaf
  simp only [wac1_R, Sy.Res.holds, hI.len, hE.len, hF.len, hna, pos_len, far_to, neg_to, ge_to loc dst]
  repeat' (first | exact gotL_of (fun p hp => by simp [hp]) | apply And.intro | intro _)
  all_goals first
    | exact trivial
    | exact hI.sl
    | exact hE.sl
    | exact hF.sl
    | exact hA
    | exact hI
    | exact hE
    | exact hF
    | exact hil
    | exact hel
    | exact hfl
    | decide
    | skip
  all_goals
    refine leaf _ _ ?_
    simp_all <;> (intros; simp_all)

theorem act2_met (B : List (Nat × Sy.Cont)) (a : ActD) (iv ev fv tv av : Value) (cells loc : Int) (na : Nat) (hk : a.op = 2) : Sy.Meets Try.prog (actC B a iv ev fv tv av cells loc na) := by
  obtain ⟨op, dst, base, size, ix, e, f, mode, to, line, col⟩ := a
  simp only at hk
  subst hk
  refine Sy.meets_ofB (ctxW_holds B 2 dst base size mode to line col iv ev fv tv ix e f cells loc) mixed (L := rdOf B) (Sy.Ent.refl _) (wac2_run B dst base size mode to line col iv ev fv tv av ix e f cells loc) fun hok ns => ?_
  obtain ⟨⟨hI, hil⟩, ⟨hE, hel⟩, ⟨hF, hfl⟩, hA, hna⟩ := hok
  simp only at hI hE hF hil hel hfl
  have leaf : ∀ b L, b = actF cells loc na ⟨2, dst, base, size, ix, e, f, mode, to, line, col⟩ → Sy.leafB (actC B ⟨2, dst, base, size, ix, e, f, mode, to, line, col⟩ iv ev fv tv av cells loc na) (.bool b, L) := fun b L h => plainB_leaf (List.mem_singleton_self _) rfl (by rw [h])
  have h1 : hasDst 2 = true := rfl
  have h2 : hasPlace 2 = true := rfl
  have h3 : hasE 2 = false := rfl
  have h4 : hasF 2 = false := rfl
  have h5 : hasTo 2 = false := rfl
  simp only [actF, h1, h2, h3, h4, h5] at leaf
  simp only [wac2_R, Sy.Res.holds, hI.len, hE.len, hF.len, hna, pos_len, far_to, neg_to, ge_to loc dst]
  repeat' (first | exact gotL_of (fun p hp => by simp [hp]) | apply And.intro | intro _)
  all_goals first
    | exact trivial
    | exact hI.sl
    | exact hE.sl
    | exact hF.sl
    | exact hA
    | exact hI
    | exact hE
    | exact hF
    | exact hil
    | exact hel
    | exact hfl
    | decide
    | skip
  all_goals
    refine leaf _ _ ?_
    simp_all <;> (intros; simp_all)

theorem act3_met (B : List (Nat × Sy.Cont)) (a : ActD) (iv ev fv tv av : Value) (cells loc : Int) (na : Nat) (hk : a.op = 3) : Sy.Meets Try.prog (actC B a iv ev fv tv av cells loc na) := by
  obtain ⟨op, dst, base, size, ix, e, f, mode, to, line, col⟩ := a
  simp only at hk
  subst hk
  refine Sy.meets_ofB (ctxW_holds B 3 dst base size mode to line col iv ev fv tv ix e f cells loc) mixed (L := rdOf B) (Sy.Ent.refl _) (wac3_run B dst base size mode to line col iv ev fv tv av ix e f cells loc) fun hok ns => ?_
  obtain ⟨⟨hI, hil⟩, ⟨hE, hel⟩, ⟨hF, hfl⟩, hA, hna⟩ := hok
  simp only at hI hE hF hil hel hfl
  have leaf : ∀ b L, b = actF cells loc na ⟨3, dst, base, size, ix, e, f, mode, to, line, col⟩ → Sy.leafB (actC B ⟨3, dst, base, size, ix, e, f, mode, to, line, col⟩ iv ev fv tv av cells loc na) (.bool b, L) := fun b L h => plainB_leaf (List.mem_singleton_self _) rfl (by rw [h])
  have h1 : hasDst 3 = false := rfl
  have h2 : hasPlace 3 = true := rfl
  have h3 : hasE 3 = true := rfl
  have h4 : hasF 3 = false := rfl
  have h5 : hasTo 3 = false := rfl
  simp only [actF, h1, h2, h3, h4, h5] at leaf
  simp only [wac3_R, Sy.Res.holds, hI.len, hE.len, hF.len, hna, pos_len, far_to, neg_to, ge_to loc dst]
  repeat' (first | exact gotL_of (fun p hp => by simp [hp]) | apply And.intro | intro _)
  all_goals first
    | exact trivial
    | exact hI.sl
    | exact hE.sl
    | exact hF.sl
    | exact hA
    | exact hI
    | exact hE
    | exact hF
    | exact hil
    | exact hel
    | exact hfl
    | decide
    | skip
  all_goals
    refine leaf _ _ ?_
    simp_all <;> (intros; simp_all)

theorem act4_met (B : List (Nat × Sy.Cont)) (a : ActD) (iv ev fv tv av : Value) (cells loc : Int) (na : Nat) (hk : a.op = 4) : Sy.Meets Try.prog (actC B a iv ev fv tv av cells loc na) := by
  obtain ⟨op, dst, base, size, ix, e, f, mode, to, line, col⟩ := a
  simp only at hk
  subst hk
  refine Sy.meets_ofB (ctxW_holds B 4 dst base size mode to line col iv ev fv tv ix e f cells loc) mixed (L := rdOf B) (Sy.Ent.refl _) (wac4_run B dst base size mode to line col iv ev fv tv av ix e f cells loc) fun hok ns => ?_
  obtain ⟨⟨hI, hil⟩, ⟨hE, hel⟩, ⟨hF, hfl⟩, hA, hna⟩ := hok
  simp only at hI hE hF hil hel hfl
  have leaf : ∀ b L, b = actF cells loc na ⟨4, dst, base, size, ix, e, f, mode, to, line, col⟩ → Sy.leafB (actC B ⟨4, dst, base, size, ix, e, f, mode, to, line, col⟩ iv ev fv tv av cells loc na) (.bool b, L) := fun b L h => plainB_leaf (List.mem_singleton_self _) rfl (by rw [h])
  have h1 : hasDst 4 = true := rfl
  have h2 : hasPlace 4 = true := rfl
  have h3 : hasE 4 = true := rfl
  have h4 : hasF 4 = false := rfl
  have h5 : hasTo 4 = false := rfl
  simp only [actF, h1, h2, h3, h4, h5] at leaf
  simp only [wac4_R, Sy.Res.holds, hI.len, hE.len, hF.len, hna, pos_len, far_to, neg_to, ge_to loc dst]
  repeat' (first | exact gotL_of (fun p hp => by simp [hp]) | apply And.intro | intro _)
  all_goals first
    | exact trivial
    | exact hI.sl
    | exact hE.sl
    | exact hF.sl
    | exact hA
    | exact hI
    | exact hE
    | exact hF
    | exact hil
    | exact hel
    | exact hfl
    | decide
    | skip
  all_goals
    refine leaf _ _ ?_
    simp_all <;> (intros; simp_all)

theorem act5_met (B : List (Nat × Sy.Cont)) (a : ActD) (iv ev fv tv av : Value) (cells loc : Int) (na : Nat) (hk : a.op = 5) : Sy.Meets Try.prog (actC B a iv ev fv tv av cells loc na) := by
  obtain ⟨op, dst, base, size, ix, e, f, mode, to, line, col⟩ := a
  simp only at hk
  subst hk
  refine Sy.meets_ofB (ctxW_holds B 5 dst base size mode to line col iv ev fv tv ix e f cells loc) mixed (L := rdOf B) (Sy.Ent.refl _) (wac5_run B dst base size mode to line col iv ev fv tv av ix e f cells loc) fun hok ns => ?_
  obtain ⟨⟨hI, hil⟩, ⟨hE, hel⟩, ⟨hF, hfl⟩, hA, hna⟩ := hok
  simp only at hI hE hF hil hel hfl
  have leaf : ∀ b L, b = actF cells loc na ⟨5, dst, base, size, ix, e, f, mode, to, line, col⟩ → Sy.leafB (actC B ⟨5, dst, base, size, ix, e, f, mode, to, line, col⟩ iv ev fv tv av cells loc na) (.bool b, L) := fun b L h => plainB_leaf (List.mem_singleton_self _) rfl (by rw [h])
  have h1 : hasDst 5 = true := rfl
  have h2 : hasPlace 5 = true := rfl
  have h3 : hasE 5 = true := rfl
  have h4 : hasF 5 = false := rfl
  have h5 : hasTo 5 = false := rfl
  simp only [actF, h1, h2, h3, h4, h5] at leaf
  simp only [wac5_R, Sy.Res.holds, hI.len, hE.len, hF.len, hna, pos_len, far_to, neg_to, ge_to loc dst]
  repeat' (first | exact gotL_of (fun p hp => by simp [hp]) | apply And.intro | intro _)
  all_goals first
    | exact trivial
    | exact hI.sl
    | exact hE.sl
    | exact hF.sl
    | exact hA
    | exact hI
    | exact hE
    | exact hF
    | exact hil
    | exact hel
    | exact hfl
    | decide
    | skip
  all_goals
    refine leaf _ _ ?_
    simp_all <;> (intros; simp_all)

theorem act6_met (B : List (Nat × Sy.Cont)) (a : ActD) (iv ev fv tv av : Value) (cells loc : Int) (na : Nat) (hk : a.op = 6) : Sy.Meets Try.prog (actC B a iv ev fv tv av cells loc na) := by
  obtain ⟨op, dst, base, size, ix, e, f, mode, to, line, col⟩ := a
  simp only at hk
  subst hk
  refine Sy.meets_ofB (ctxW_holds B 6 dst base size mode to line col iv ev fv tv ix e f cells loc) mixed (L := rdOf B) (Sy.Ent.refl _) (wac6_run B dst base size mode to line col iv ev fv tv av ix e f cells loc) fun hok ns => ?_
  obtain ⟨⟨hI, hil⟩, ⟨hE, hel⟩, ⟨hF, hfl⟩, hA, hna⟩ := hok
  simp only at hI hE hF hil hel hfl
  have leaf : ∀ b L, b = actF cells loc na ⟨6, dst, base, size, ix, e, f, mode, to, line, col⟩ → Sy.leafB (actC B ⟨6, dst, base, size, ix, e, f, mode, to, line, col⟩ iv ev fv tv av cells loc na) (.bool b, L) := fun b L h => plainB_leaf (List.mem_singleton_self _) rfl (by rw [h])
  have h1 : hasDst 6 = true := rfl
  have h2 : hasPlace 6 = true := rfl
  have h3 : hasE 6 = true := rfl
  have h4 : hasF 6 = true := rfl
  have h5 : hasTo 6 = false := rfl
  simp only [actF, h1, h2, h3, h4, h5] at leaf
  simp only [wac6_R, Sy.Res.holds, hI.len, hE.len, hF.len, hna, pos_len, far_to, neg_to, ge_to loc dst]
  repeat' (first | exact gotL_of (fun p hp => by simp [hp]) | apply And.intro | intro _)
  all_goals first
    | exact trivial
    | exact hI.sl
    | exact hE.sl
    | exact hF.sl
    | exact hA
    | exact hI
    | exact hE
    | exact hF
    | exact hil
    | exact hel
    | exact hfl
    | decide
    | skip
  all_goals
    refine leaf _ _ ?_
    simp_all <;> (intros; simp_all)

theorem act7_met (B : List (Nat × Sy.Cont)) (a : ActD) (iv ev fv tv av : Value) (cells loc : Int) (na : Nat) (hk : a.op = 7) : Sy.Meets Try.prog (actC B a iv ev fv tv av cells loc na) := by
  obtain ⟨op, dst, base, size, ix, e, f, mode, to, line, col⟩ := a
  simp only at hk
  subst hk
  refine Sy.meets_ofB (ctxW_holds B 7 dst base size mode to line col iv ev fv tv ix e f cells loc) mixed (L := rdOf B) (Sy.Ent.refl _) (wac7_run B dst base size mode to line col iv ev fv tv av ix e f cells loc) fun hok ns => ?_
  obtain ⟨⟨hI, hil⟩, ⟨hE, hel⟩, ⟨hF, hfl⟩, hA, hna⟩ := hok
  simp only at hI hE hF hil hel hfl
  have leaf : ∀ b L, b = actF cells loc na ⟨7, dst, base, size, ix, e, f, mode, to, line, col⟩ → Sy.leafB (actC B ⟨7, dst, base, size, ix, e, f, mode, to, line, col⟩ iv ev fv tv av cells loc na) (.bool b, L) := fun b L h => plainB_leaf (List.mem_singleton_self _) rfl (by rw [h])
  have h1 : hasDst 7 = false := rfl
  have h2 : hasPlace 7 = false := rfl
  have h3 : hasE 7 = false := rfl
  have h4 : hasF 7 = false := rfl
  have h5 : hasTo 7 = false := rfl
  simp only [actF, h1, h2, h3, h4, h5] at leaf
  simp only [wac7_R, Sy.Res.holds, hI.len, hE.len, hF.len, hna, pos_len, far_to, neg_to, ge_to loc dst]
  repeat' (first | exact gotL_of (fun p hp => by simp [hp]) | apply And.intro | intro _)
  all_goals first
    | exact trivial
    | exact hI.sl
    | exact hE.sl
    | exact hF.sl
    | exact hA
    | exact hI
    | exact hE
    | exact hF
    | exact hil
    | exact hel
    | exact hfl
    | decide
    | skip
  all_goals
    refine leaf _ _ ?_
    simp_all <;> (intros; simp_all)

theorem act8_met (B : List (Nat × Sy.Cont)) (a : ActD) (iv ev fv tv av : Value) (cells loc : Int) (na : Nat) (hk : a.op = 8) : Sy.Meets Try.prog (actC B a iv ev fv tv av cells loc na) := by
  obtain ⟨op, dst, base, size, ix, e, f, mode, to, line, col⟩ := a
  simp only at hk
  subst hk
  refine Sy.meets_ofB (ctxW_holds B 8 dst base size mode to line col iv ev fv tv ix e f cells loc) mixed (L := rdOf B) (Sy.Ent.refl _) (wac8_run B dst base size mode to line col iv ev fv tv av ix e f cells loc) fun hok ns => ?_
  obtain ⟨⟨hI, hil⟩, ⟨hE, hel⟩, ⟨hF, hfl⟩, hA, hna⟩ := hok
  simp only at hI hE hF hil hel hfl
  have leaf : ∀ b L, b = actF cells loc na ⟨8, dst, base, size, ix, e, f, mode, to, line, col⟩ → Sy.leafB (actC B ⟨8, dst, base, size, ix, e, f, mode, to, line, col⟩ iv ev fv tv av cells loc na) (.bool b, L) := fun b L h => plainB_leaf (List.mem_singleton_self _) rfl (by rw [h])
  have h1 : hasDst 8 = false := rfl
  have h2 : hasPlace 8 = false := rfl
  have h3 : hasE 8 = true := rfl
  have h4 : hasF 8 = false := rfl
  have h5 : hasTo 8 = false := rfl
  simp only [actF, h1, h2, h3, h4, h5] at leaf
  simp only [wac8_R, Sy.Res.holds, hI.len, hE.len, hF.len, hna, pos_len, far_to, neg_to, ge_to loc dst]
  repeat' (first | exact gotL_of (fun p hp => by simp [hp]) | apply And.intro | intro _)
  all_goals first
    | exact trivial
    | exact hI.sl
    | exact hE.sl
    | exact hF.sl
    | exact hA
    | exact hI
    | exact hE
    | exact hF
    | exact hil
    | exact hel
    | exact hfl
    | decide
    | skip
  all_goals
    refine leaf _ _ ?_
    simp_all <;> (intros; simp_all)

theorem act9_met (B : List (Nat × Sy.Cont)) (a : ActD) (iv ev fv tv av : Value) (cells loc : Int) (na : Nat) (hk : a.op = 9) : Sy.Meets Try.prog (actC B a iv ev fv tv av cells loc na) := by
  obtain ⟨op, dst, base, size, ix, e, f, mode, to, line, col⟩ := a
  simp only at hk
  subst hk
  refine Sy.meets_ofB (ctxW_holds B 9 dst base size mode to line col iv ev fv tv ix e f cells loc) mixed (L := rdOf B) (Sy.Ent.refl _) (wac9_run B dst base size mode to line col iv ev fv tv av ix e f cells loc) fun hok ns => ?_
  obtain ⟨⟨hI, hil⟩, ⟨hE, hel⟩, ⟨hF, hfl⟩, hA, hna⟩ := hok
  simp only at hI hE hF hil hel hfl
  have leaf : ∀ b L, b = actF cells loc na ⟨9, dst, base, size, ix, e, f, mode, to, line, col⟩ → Sy.leafB (actC B ⟨9, dst, base, size, ix, e, f, mode, to, line, col⟩ iv ev fv tv av cells loc na) (.bool b, L) := fun b L h => plainB_leaf (List.mem_singleton_self _) rfl (by rw [h])
  have h1 : hasDst 9 = false := rfl
  have h2 : hasPlace 9 = false := rfl
  have h3 : hasE 9 = false := rfl
  have h4 : hasF 9 = false := rfl
  have h5 : hasTo 9 = true := rfl
  simp only [actF, h1, h2, h3, h4, h5] at leaf
  simp only [wac9_R, Sy.Res.holds, hI.len, hE.len, hF.len, hna, pos_len, far_to, neg_to, ge_to loc dst]
  repeat' (first | exact gotL_of (fun p hp => by simp [hp]) | apply And.intro | intro _)
  all_goals first
    | exact trivial
    | exact hI.sl
    | exact hE.sl
    | exact hF.sl
    | exact hA
    | exact hI
    | exact hE
    | exact hF
    | exact hil
    | exact hel
    | exact hfl
    | decide
    | skip
  all_goals
    refine leaf _ _ ?_
    simp_all <;> (intros; simp_all)

theorem act10_met (B : List (Nat × Sy.Cont)) (a : ActD) (iv ev fv tv av : Value) (cells loc : Int) (na : Nat) (hk : a.op = 10) : Sy.Meets Try.prog (actC B a iv ev fv tv av cells loc na) := by
  obtain ⟨op, dst, base, size, ix, e, f, mode, to, line, col⟩ := a
  simp only at hk
  subst hk
  refine Sy.meets_ofB (ctxW_holds B 10 dst base size mode to line col iv ev fv tv ix e f cells loc) mixed (L := rdOf B) (Sy.Ent.refl _) (wac10_run B dst base size mode to line col iv ev fv tv av ix e f cells loc) fun hok ns => ?_
  obtain ⟨⟨hI, hil⟩, ⟨hE, hel⟩, ⟨hF, hfl⟩, hA, hna⟩ := hok
  simp only at hI hE hF hil hel hfl
  have leaf : ∀ b L, b = actF cells loc na ⟨10, dst, base, size, ix, e, f, mode, to, line, col⟩ → Sy.leafB (actC B ⟨10, dst, base, size, ix, e, f, mode, to, line, col⟩ iv ev fv tv av cells loc na) (.bool b, L) := fun b L h => plainB_leaf (List.mem_singleton_self _) rfl (by rw [h])
  have h1 : hasDst 10 = false := rfl
  have h2 : hasPlace 10 = false := rfl
  have h3 : hasE 10 = true := rfl
  have h4 : hasF 10 = false := rfl
  have h5 : hasTo 10 = true := rfl
  simp only [actF, h1, h2, h3, h4, h5] at leaf
  simp only [wac10_R, Sy.Res.holds, hI.len, hE.len, hF.len, hna, pos_len, far_to, neg_to, ge_to loc dst]
  repeat' (first | exact gotL_of (fun p hp => by simp [hp]) | apply And.intro | intro _)
  all_goals first
    | exact trivial
    | exact hI.sl
    | exact hE.sl
    | exact hF.sl
    | exact hA
    | exact hI
    | exact hE
    | exact hF
    | exact hil
    | exact hel
    | exact hfl
    | decide
    | skip
  all_goals
    refine leaf _ _ ?_
    simp_all <;> (intros; simp_all)

theorem act0_met (B : List (Nat × Sy.Cont)) (a : ActD) (iv ev fv tv av : Value) (cells loc : Int) (na : Nat) (hk : ¬ (1 ≤ a.op ∧ a.op ≤ 10)) : Sy.Meets Try.prog (actC B a iv ev fv tv av cells loc na) := by
  obtain ⟨op, dst, base, size, ix, e, f, mode, to, line, col⟩ := a
  simp only at hk
  refine Sy.meets_ofB (ctxV_holds op mode) mixed (L := rdOf B) (Sy.Ent.refl _) (wac0_run B op dst base size mode to line col iv ev fv tv av cells loc) fun hok ns => ?_
  have leaf : ∀ L, Sy.leafB (actC B ⟨op, dst, base, size, ix, e, f, mode, to, line, col⟩ iv ev fv tv av cells loc na) (.bool false, L) := fun L => plainB_leaf (List.mem_singleton_self _) rfl (by simp [actF, hk])
  simp only [wac0_R, Sy.Res.holds]
  refine ⟨fun _ => leaf _, fun h => ?_⟩
  exfalso
  rw [Ex.ltQ_eq, Ex.ltQ_eq] at h
  simp at h
  omega

theorem actC_met (B : List (Nat × Sy.Cont)) (a : ActD) (iv ev fv tv av : Value) (cells loc : Int) (na : Nat) : Sy.Meets Try.prog (actC B a iv ev fv tv av cells loc na) := by
  by_cases hk : 1 ≤ a.op ∧ a.op ≤ 10
  · have h : a.op = 1 ∨ a.op = 2 ∨ a.op = 3 ∨ a.op = 4 ∨ a.op = 5 ∨ a.op = 6 ∨ a.op = 7 ∨ a.op = 8 ∨ a.op = 9 ∨ a.op = 10 := by omega
    rcases h with h | h | h | h | h | h | h | h | h | h
    · exact act1_met _ _ _ _ _ _ _ _ _ _ h
    · exact act2_met _ _ _ _ _ _ _ _ _ _ h
    · exact act3_met _ _ _ _ _ _ _ _ _ _ h
    · exact act4_met _ _ _ _ _ _ _ _ _ _ h
    · exact act5_met _ _ _ _ _ _ _ _ _ _ h
    · exact act6_met _ _ _ _ _ _ _ _ _ _ h
    · exact act7_met _ _ _ _ _ _ _ _ _ _ h
    · exact act8_met _ _ _ _ _ _ _ _ _ _ h
    · exact act9_met _ _ _ _ _ _ _ _ _ _ h
    · exact act10_met _ _ _ _ _ _ _ _ _ _ h
  · exact act0_met _ _ _ _ _ _ _ _ _ _ hk

end Go.Proofs.Ytbgmkefehfjicaa

/-
  The program's look at a program: the acts of a thread.
-/
namespace Go.Proofs.Ytbgmkefehfjicaa
set_option linter.unusedVariables false
set_option linter.unusedSimpArgs false
open Go Go.RowKit
open Sy (Let Blk HasL)

abbrev fWhole : FuncId := 10
noncomputable def bodyT : Code := Sy.loopBody Try.f10 0
noncomputable def bodyA : Code := Sy.loopBody Try.f10 1

/-- Cells hold an act. -/
structure ActAt (B : List (Nat × Sy.Cont)) (b o : Nat) (a : ActD) (iv ev fv : Value) : Prop where
  op : HasL (rdOf B) b o (.int .i64 a.op)
  dst : HasL (rdOf B) b (o + 1) (.int .i64 a.dst)
  base : HasL (rdOf B) b (o + 1 + 1) (.int .i64 a.base)
  size : HasL (rdOf B) b (o + 1 + 1 + 1) (.int .i64 a.size)
  ivc : HasL (rdOf B) b (o + 1 + 1 + 1 + 1) iv
  evc : HasL (rdOf B) b (o + 1 + 1 + 1 + 1 + 1) ev
  fvc : HasL (rdOf B) b (o + 1 + 1 + 1 + 1 + 1 + 1) fv
  mode : HasL (rdOf B) b (o + 1 + 1 + 1 + 1 + 1 + 1 + 1) (.int .i64 a.mode)
  to : HasL (rdOf B) b (o + 1 + 1 + 1 + 1 + 1 + 1 + 1 + 1) (.int .i64 a.to)
  line : HasL (rdOf B) b (o + 1 + 1 + 1 + 1 + 1 + 1 + 1 + 1 + 1) (.int .i64 a.line)
  col : HasL (rdOf B) b (o + 1 + 1 + 1 + 1 + 1 + 1 + 1 + 1 + 1 + 1) (.int .i64 a.col)
  i : OkX B iv a.ix
  e : OkX B ev a.e
  f : OkX B fv a.f

/-- A slice holds these acts. -/
structure ActsR (B : List (Nat × Sy.Cont)) (v : Value) (l : List ActD) : Prop where
  sl : ∃ p n c, v = .slice p n c
  len : Sy.lenS v = l.length
  at_ : l ≠ [] → ∃ n c, v = .slice (some ⟨Sy.ptrS v, Sy.offS v, none⟩) n c
  act : ∀ i a, l[i]? = some a → ∃ iv ev fv, ActAt B (Sy.ptrS v) (Sy.offS v + i * 11) a iv ev fv
  lt : l.length < 1034834473200

/-- The act's contract, whatever its slices are. -/
noncomputable def actBy (B : List (Nat × Sy.Cont)) (a : ActD) (cells loc : Int) (na : Nat) (args : Array Value) : Sy.CallC :=
  ⟨fAct, args, ∃ iv ev fv tv av, args = #[actV a iv ev fv, progV cells tv, thrV loc av] ∧ OkW B iv ev fv av a na, ⟨[], [], 0, B⟩, [Sy.plainO (.bool (actF cells loc na a))]⟩
theorem actBy_met (B : List (Nat × Sy.Cont)) (a : ActD) (cells loc : Int) (na : Nat) (args : Array Value) : Sy.Meets Try.prog (actBy B a cells loc na args) := fun ⟨iv, ev, fv, tv, av, h, hok⟩ => by
  subst h
  exact actC_met B a iv ev fv tv av cells loc na hok

noncomputable def ctxA2 (B : List (Nat × Sy.Cont)) (a : ActD) (cells loc : Int) (na : Nat) : Sy.Ctx := Sy.mkS [(fAct, fun args _ => actBy B a cells loc na args)] [] []
theorem ctxA2_holds (B : List (Nat × Sy.Cont)) (a : ActD) (cells loc : Int) (na : Nat) : (ctxA2 B a cells loc na).holds Try.prog := Sy.mkS_holds (fun p hp args L => by
  rcases List.mem_singleton.1 hp with rfl
  exact actBy_met _ _ _ _ _ _) (fun _ h => (by cases h)) (fun _ h => (by cases h))

def slA2 (p1 p4 : Nat) (tv av : Value) (n i k : Nat) : List (Nat × Value) := [(1, .pointer (some ⟨p1, 0, none⟩)), (2, .bool false), (4, .pointer (some ⟨p4, 0, none⟩)), (22, tv), (23, .int .i64 (Int.ofNat n)), (24, .int .i64 (Int.ofNat i)), (43, av), (44, .int .i64 (Int.ofNat (Sy.lenS av))), (45, .int .i64 (Int.ofNat k))]
def memA2 (p1 p4 : Nat) (cells loc : Int) (tv av : Value) : List (Nat × Sy.Cont) := [(p1, .obj (.cells #[.int .i64 cells, tv] 27 (0, 0))), (p4, .obj (.cells #[.int .i64 loc, av] 37 (0, 0)))]

def wi_o : Sy.O := (Sy.O.fork (Sy.O.pack 20 0x806100040004000002000821 (Sy.O.fork Sy.O.nil Sy.O.nil)) Sy.O.nil)
noncomputable def wi_R (B : List (Nat × Sy.Cont)) (a : ActD) (p1 : Nat) (p4 : Nat) (tv : Value) (av : Value) (n : Nat) (i : Nat) (k : Nat) (cells : Int) (loc : Int) (f : Nat → Value) (ns : Nat → Sy.Let) : Sy.Res (Exit × Nat × List Value × List Blk) := .br (Ex.ltQ (Int.ofNat k) (Int.ofNat (Sy.lenS av))) (.need ((∃ (n : Nat), ∃ (c : Nat), av = Value.slice (some (Addr.mk (Sy.ptrS av) (Sy.offS av) none)) n c) ∧ (0 : Int) ≤ Int.ofNat k ∧ Int.ofNat k < (↑(Sy.lenS av) : Int)) (.need (∃ (i : Int), HasL (rdOf B) (Sy.ptrS av) (Sy.offS av + Int.toNat (Int.ofNat k) * (11 : Nat)) (.int .i64 i)) (.hyp (∀ (u : Value), HasL (rdOf B) (Sy.ptrS av) (Sy.offS av + Int.toNat (Int.ofNat k) * (11 : Nat)) u → u = Value.int .i64 (Let.i (ns 0))) (.need (∃ (i : Int), HasL (rdOf B) (Sy.ptrS av) (Sy.offS av + Int.toNat (Int.ofNat k) * (11 : Nat) + (1 : Nat)) (.int .i64 i)) (.hyp (∀ (u : Value), HasL (rdOf B) (Sy.ptrS av) (Sy.offS av + Int.toNat (Int.ofNat k) * (11 : Nat) + (1 : Nat)) u → u = Value.int .i64 (Let.i (ns 1))) (.need (∃ (i : Int), HasL (rdOf B) (Sy.ptrS av) (Sy.offS av + Int.toNat (Int.ofNat k) * (11 : Nat) + (1 : Nat) + (1 : Nat)) (.int .i64 i)) (.hyp (∀ (u : Value), HasL (rdOf B) (Sy.ptrS av) (Sy.offS av + Int.toNat (Int.ofNat k) * (11 : Nat) + (1
 : Nat) + (1 : Nat)) u → u = Value.int .i64 (Let.i (ns 2))) (.need (∃ (i : Int), HasL (rdOf B) (Sy.ptrS av) (Sy.offS av + Int.toNat (Int.ofNat k) * (11 : Nat) + (1 : Nat) + (1 : Nat) + (1 : Nat)) (.int .i64 i)) (.hyp (∀ (u : Value), HasL (rdOf B) (Sy.ptrS av) (Sy.offS av + Int.toNat (Int.ofNat k) * (11 : Nat) + (1 : Nat) + (1 : Nat) + (1 : Nat)) u → u = Value.int .i64 (Let.i (ns 3))) (.need (∃ (v : Value), HasL (rdOf B) (Sy.ptrS av) (Sy.offS av + Int.toNat (Int.ofNat k) * (11 : Nat) + (1 : Nat) + (1 : Nat) + (1 : Nat) + (1 : Nat)) v) (.hyp (∀ (u : Value), HasL (rdOf B) (Sy.ptrS av) (Sy.offS av + Int.toNat (Int.ofNat k) * (11 : Nat) + (1 : Nat) + (1 : Nat) + (1 : Nat) + (1 : Nat)) u → u = Let.v (ns 4)) (.need (∃ (v : Value), HasL (rdOf B) (Sy.ptrS av) (Sy.offS av + Int.toNat (Int.ofNat k) * (11 : Nat) + (1 : Nat) + (1 : Nat) + (1 : Nat) + (1 : Nat) + (1 : Nat)) v) (.hyp (∀ (u : Value), HasL (rdOf B) (Sy.ptrS av) (Sy.offS av + Int.toNat (Int.ofNat k) * (11 : Nat) + (1 : Nat) + (1 : Nat) +
 (1 : Nat) + (1 : Nat) + (1 : Nat)) u → u = Let.v (ns 5)) (.need (∃ (v : Value), HasL (rdOf B) (Sy.ptrS av) (Sy.offS av + Int.toNat (Int.ofNat k) * (11 : Nat) + (1 : Nat) + (1 : Nat) + (1 : Nat) + (1 : Nat) + (1 : Nat) + (1 : Nat)) v) (.hyp (∀ (u : Value), HasL (rdOf B) (Sy.ptrS av) (Sy.offS av + Int.toNat (Int.ofNat k) * (11 : Nat) + (1 : Nat) + (1 : Nat) + (1 : Nat) + (1 : Nat) + (1 : Nat) + (1 : Nat)) u → u = Let.v (ns 6)) (.need (∃ (i : Int), HasL (rdOf B) (Sy.ptrS av) (Sy.offS av + Int.toNat (Int.ofNat k) * (11 : Nat) + (1 : Nat) + (1 : Nat) + (1 : Nat) + (1 : Nat) + (1 : Nat) + (1 : Nat) + (1 : Nat)) (.int .i64 i)) (.hyp (∀ (u : Value), HasL (rdOf B) (Sy.ptrS av) (Sy.offS av + Int.toNat (Int.ofNat k) * (11 : Nat) + (1 : Nat) + (1 : Nat) + (1 : Nat) + (1 : Nat) + (1 : Nat) + (1 : Nat) + (1 : Nat)) u → u = Value.int .i64 (Let.i (ns 7))) (.need (∃ (i : Int), HasL (rdOf B) (Sy.ptrS av) (Sy.offS av + Int.toNat (Int.ofNat k) * (11 : Nat) + (1 : Nat) + (1 : Nat) + (1 : Nat) + (1 : Nat) +
 (1 : Nat) + (1 : Nat) + (1 : Nat) + (1 : Nat)) (.int .i64 i)) (.hyp (∀ (u : Value), HasL (rdOf B) (Sy.ptrS av) (Sy.offS av + Int.toNat (Int.ofNat k) * (11 : Nat) + (1 : Nat) + (1 : Nat) + (1 : Nat) + (1 : Nat) + (1 : Nat) + (1 : Nat) + (1 : Nat) + (1 : Nat)) u → u = Value.int .i64 (Let.i (ns 8))) (.need (∃ (i : Int), HasL (rdOf B) (Sy.ptrS av) (Sy.offS av + Int.toNat (Int.ofNat k) * (11 : Nat) + (1 : Nat) + (1 : Nat) + (1 : Nat) + (1 : Nat) + (1 : Nat) + (1 : Nat) + (1 : Nat) + (1 : Nat) + (1 : Nat)) (.int .i64 i)) (.hyp (∀ (u : Value), HasL (rdOf B) (Sy.ptrS av) (Sy.offS av + Int.toNat (Int.ofNat k) * (11 : Nat) + (1 : Nat) + (1 : Nat) + (1 : Nat) + (1 : Nat) + (1 : Nat) + (1 : Nat) + (1 : Nat) + (1 : Nat) + (1 : Nat)) u → u = Value.int .i64 (Let.i (ns 9))) (.need (∃ (i : Int), HasL (rdOf B) (Sy.ptrS av) (Sy.offS av + Int.toNat (Int.ofNat k) * (11 : Nat) + (1 : Nat) + (1 : Nat) + (1 : Nat) + (1 : Nat) + (1 : Nat) + (1 : Nat) + (1 : Nat) + (1 : Nat) + (1 : Nat) + (1 : Nat)) (.int .i64
 i)) (.hyp (∀ (u : Value), HasL (rdOf B) (Sy.ptrS av) (Sy.offS av + Int.toNat (Int.ofNat k) * (11 : Nat) + (1 : Nat) + (1 : Nat) + (1 : Nat) + (1 : Nat) + (1 : Nat) + (1 : Nat) + (1 : Nat) + (1 : Nat) + (1 : Nat) + (1 : Nat)) u → u = Value.int .i64 (Let.i (ns 10))) (.need ((11 : Nat) = (11 : Nat) ∧ (11 : Nat) = (11 : Nat) ∧ Array.all (Array.mk [.int .i64 (Let.i (ns 0)), .int .i64 (Let.i (ns 1)), .int .i64 (Let.i (ns 2)), .int .i64 (Let.i (ns 3)), Let.v (ns 4), Let.v (ns 5), Let.v (ns 6), .int .i64 (Let.i (ns 7)), .int .i64 (Let.i (ns 8)), .int .i64 (Let.i (ns 9)), .int .i64 (Let.i (ns 10))]) (fun (x : Value) => Value.oneCell' x) (0 : Nat) (11 : Nat) = true) (.need (∃ (iv : Value), ∃ (ev : Value), ∃ (fv : Value), ∃ (tv_1 : Value), ∃ (av_1 : Value), Array.mk [Value.agg (Array.mk [.int .i64 (Let.i (ns 0)), .int .i64 (Let.i (ns 1)), .int .i64 (Let.i (ns 2)), .int .i64 (Let.i (ns 3)), Let.v (ns 4), Let.v (ns 5), Let.v (ns 6), .int .i64 (Let.i (ns 7)), .int .i64 (Let.i (ns 8)), .int .i64
 (Let.i (ns 9)), .int .i64 (Let.i (ns 10))]), Value.agg (Array.mk [.int .i64 cells, tv]), Value.agg (Array.mk [.int .i64 loc, av])] = Array.mk [actV a iv ev fv, progV cells tv_1, thrV loc av_1] ∧ OkW B iv ev fv av_1 a (Sy.lenS av)) (.need (Sy.GotL (rdOf B) B) (.hyp True (.br (!actF cells loc (Sy.lenS av) a) (.leaf (Exit.ret, (56 : Nat), [.pointer (some (Addr.mk p1 0 none)), Value.bool false, .pointer (some (Addr.mk p4 0 none)), tv, .int .i64 (Int.ofNat n), .int .i64 (Int.ofNat i), av, .int .i64 (Int.ofNat (Sy.lenS av)), .int .i64 (Int.ofNat k)], Blk.mk (Let.n (ns 11)) (.obj (.cells (Array.mk [.int .i64 (Let.i (ns 0)), .int .i64 (Let.i (ns 1)), .int .i64 (Let.i (ns 2)), .int .i64 (Let.i (ns 3)), Let.v (ns 4), Let.v (ns 5), Let.v (ns 6), .int .i64 (Let.i (ns 7)), .int .i64 (Let.i (ns 8)), .int .i64 (Let.i (ns 9)), .int .i64 (Let.i (ns 10))]) (67 : Nat))) true :: Blk.mk p1 (.obj (.cells (Array.mk [.int .i64 cells, tv]) (27 : Nat))) true :: Blk.mk p4 (.obj (.cells (Array.mk [.int .i64 loc,
 av]) (37 : Nat))) true :: rdOf B)) (.leaf (Exit.normal, (56 : Nat), [.pointer (some (Addr.mk p1 0 none)), Value.bool false, .pointer (some (Addr.mk p4 0 none)), tv, .int .i64 (Int.ofNat n), .int .i64 (Int.ofNat i), av, .int .i64 (Int.ofNat (Sy.lenS av)), .int .i64 (Ex.wrapQ .i64 (Ex.addQ (Int.ofNat k) (1 : Int)))], Blk.mk (Let.n (ns 11)) (.obj (.cells (Array.mk [.int .i64 (Let.i (ns 0)), .int .i64 (Let.i (ns 1)), .int .i64 (Let.i (ns 2)), .int .i64 (Let.i (ns 3)), Let.v (ns 4), Let.v (ns 5), Let.v (ns 6), .int .i64 (Let.i (ns 7)), .int .i64 (Let.i (ns 8)), .int .i64 (Let.i (ns 9)), .int .i64 (Let.i (ns 10))]) (67 : Nat))) true :: Blk.mk p1 (.obj (.cells (Array.mk [.int .i64 cells, tv]) (27 : Nat))) true :: Blk.mk p4 (.obj (.cells (Array.mk [.int .i64 loc, av]) (37 : Nat))) true :: rdOf B)))))))))))))))))))))))))))))) (.leaf (Exit.exit (2 : Nat), (56 : Nat), [.pointer (some (Addr.mk p1 0 none)), Value.bool false, .pointer (some (Addr.mk p4 0 none)), tv, .int .i64 (Int.ofNat n), .int .i64
 (Int.ofNat i), av, .int .i64 (Int.ofNat (Sy.lenS av)), .int .i64 (Int.ofNat k)], Blk.mk p1 (.obj (.cells (Array.mk [.int .i64 cells, tv]) (27 : Nat))) true :: Blk.mk p4 (.obj (.cells (Array.mk [.int .i64 loc, av]) (37 : Nat))) true :: rdOf B))

theorem wi_run (B : List (Nat × Sy.Cont)) (a : ActD) (p1 p4 : Nat) (tv av : Value) (n i k : Nat) (cells loc : Int) (f : Nat → Value) : Sy.Ran (Sy.pieceT Try.prog (ctxA2 B a cells loc (Sy.lenS av)) 50 fWhole bodyA 56 (slA2 p1 p4 tv av n i k) ((List.range 56).map f) ((memA2 p1 p4 cells loc tv av).map Sy.ownOf ++ rdOf B) [1, 2, 4, 22, 23, 24, 43, 44, 45]) wi_o (wi_R B a p1 p4 tv av n i k cells loc f) := ⟨fun ns => by kernel_rfl, fun ns => by kernel_rfl⟩

end Go.Proofs.Ytbgmkefehfjicaa

/-
  The program's look at a program: the acts of a thread, the contract.
-/
namespace Go.Proofs.Ytbgmkefehfjicaa
open Go Go.RowKit
open Sy (Let Blk HasL)

def badAct (cells loc : Int) (l : List ActD) : Prop := ∃ (i : Nat) (a : ActD), l[i]? = some a ∧ actF cells loc l.length a = false

noncomputable def loopAC (B : List (Nat × Sy.Cont)) (l : List ActD) (p1 p4 : Nat) (tv av : Value) (n i : Nat) (cells loc : Int) : Sy.LoopC :=
  ⟨.loop bodyA, 56, slA2 p1 p4 tv av n i 0, ActsR B av l, ⟨[], memA2 p1 p4 cells loc tv av, 0, B⟩,
    [(⟨fun _ => badAct cells loc l, fun _ => [], fun _ => []⟩, .ret, fun _ => [(2, .bool false)]),
     (⟨fun _ => ¬ badAct cells loc l, fun _ => memA2 p1 p4 cells loc tv av, fun _ => []⟩, .exit 2, fun _ => [(1, .pointer (some ⟨p1, 0, none⟩)), (2, .bool false), (4, .pointer (some ⟨p4, 0, none⟩)), (22, tv), (23, .int .i64 (Int.ofNat n)), (24, .int .i64 (Int.ofNat i))])]⟩

theorem one_slice {v : Value} (h : ∃ p n c, v = .slice p n c) : v.oneCell' = true := by
  obtain ⟨p, n, c, rfl⟩ := h
  rfl

theorem loopAC_met (B : List (Nat × Sy.Cont)) (l : List ActD) (p1 p4 : Nat) (tv av : Value) (n i : Nat) (cells loc : Int) : Sy.MeetsL Try.prog (loopAC B l p1 p4 tv av n i cells loc) := by
  refine Sy.loop_ofB (σ := Nat × ActD) (S := fun s => ctxA2 B s.2 cells loc (Sy.lenS av)) (n := 50) (fn := fWhole) (fun _ => ctxA2_holds _ _ _ _ _) mixed (body := bodyA) rfl [1, 2, 4, 22, 23, 24, 43, 44, 45] (fun s => slA2 p1 p4 tv av n i s.1)
    (fun _ => (memA2 p1 p4 cells loc tv av).map Sy.ownOf ++ rdOf B) (fun s => s.1 ≤ l.length ∧ ActsR B av l ∧ (∀ j a, j < s.1 → l[j]? = some a → actF cells loc l.length a = true) ∧ ∀ a, l[s.1]? = some a → s.2 = a) (fun s => l.length - s.1)
    (0, l.headD ⟨0, 0, 0, 0, [], [], [], 0, 0, 0, 0⟩) (fun h => ⟨Nat.zero_le _, h, fun i x hi => by simp at hi, fun a ha => by cases l <;> simp_all⟩) (fun p hp => hp) (Sy.Ent.refl _) (o := fun _ => wi_o) (R := fun s f => wi_R B s.2 p1 p4 tv av n i s.1 cells loc f) (fun s f _ => wi_run B s.2 p1 p4 tv av n i s.1 cells loc f) ?_
  rintro - ⟨k, a⟩ f ⟨hk, hR, hinv, ha⟩ ns
  simp only at hk hinv ha
  simp only [wi_R, Sy.Res.holds]
  refine ⟨fun hlt => ?_, fun hge => ?_⟩
  · have hlt : k < l.length := by rw [Ex.ltQ_eq, hR.len] at hlt; simpa using hlt
    obtain ⟨a', hn⟩ : ∃ n, l[k]? = some n := ⟨_, List.getElem?_eq_getElem hlt⟩
    obtain rfl : a = a' := ha a' hn
    obtain ⟨iv, ev, fv, hA⟩ := hR.act k a hn
    refine ⟨⟨hR.at_ (fun h => by rw [h] at hlt; simp at hlt), by simp, by rw [hR.len]; simpa using hlt⟩, ⟨_, hA.op⟩, fun e0 => ⟨⟨_, hA.dst⟩, fun e1 => ⟨⟨_, hA.base⟩, fun e2 => ⟨⟨_, hA.size⟩, fun e3 => ⟨⟨_, hA.ivc⟩, fun e4 => ⟨⟨_, hA.evc⟩, fun e5 => ⟨⟨_, hA.fvc⟩, fun e6 => ⟨⟨_, hA.mode⟩, fun e7 => ⟨⟨_, hA.to⟩, fun e8 => ⟨⟨_, hA.line⟩, fun e9 => ⟨⟨_, hA.col⟩, fun e10 => ?_⟩⟩⟩⟩⟩⟩⟩⟩⟩⟩⟩
    have e0 := e0 _ hA.op
    have e1 := e1 _ hA.dst
    have e2 := e2 _ hA.base
    have e3 := e3 _ hA.size
    have e4 := e4 _ hA.ivc
    have e5 := e5 _ hA.evc
    have e6 := e6 _ hA.fvc
    have e7 := e7 _ hA.mode
    have e8 := e8 _ hA.to
    have e9 := e9 _ hA.line
    have e10 := e10 _ hA.col
    simp only [Value.int.injEq, true_and] at e0 e1 e2 e3 e7 e8 e9 e10
    rw [← e0, ← e1, ← e2, ← e3, ← e4, ← e5, ← e6, ← e7, ← e8, ← e9, ← e10]
    refine ⟨?_, ⟨iv, ev, fv, tv, av, rfl, hA.i, hA.e, hA.f, hR.sl, rfl⟩, gotL_of (fun p hp => hp), fun _ => ⟨fun hb => ?_, fun hb => ?_⟩⟩
    · obtain ⟨_, _, _, h1⟩ := hA.i.1.sl
      obtain ⟨_, _, _, h2⟩ := hA.e.1.sl
      obtain ⟨_, _, _, h3⟩ := hA.f.1.sl
      simp [h1, h2, h3, Value.oneCell']
    · refine ⟨rfl, .inr ⟨by simp, _, List.mem_cons_self, rfl, [], rfl, ⟨[1], rfl⟩, Sy.Ent.sub (List.nil_sublist _), k, a, hn, ?_⟩⟩
      rw [hR.len] at hb
      simpa using hb
    · rw [hR.len] at hb
      refine ⟨rfl, .inl ⟨rfl, (k + 1, l.getD (k + 1) a), ⟨by show k + 1 ≤ l.length; omega, hR, fun j x hj hx => ?_, fun x hx => ?_⟩, by show l.length - (k + 1) < l.length - k; omega, ?_, Sy.Ent.sub (List.sublist_cons_self _ _)⟩⟩
      · by_cases he : j = k
        · subst he
          rw [hn] at hx
          injection hx with hx
          rw [← hx]
          simpa using hb
        · exact hinv j x (by simp only at hj; omega) hx
      · simp only at hx
        show l.getD (k + 1) a = x
        rw [List.getD_eq_getElem?_getD, hx]
        rfl
      · rw [w_succ (by have := hR.lt; omega)]
        rfl
  · have hge : k = l.length := by rw [Ex.ltQ_eq, hR.len] at hge; simp at hge; omega
    subst hge
    refine ⟨rfl, .inr ⟨by simp, _, List.mem_cons_of_mem _ (List.mem_singleton_self _), rfl, [], rfl, ⟨[0, 1, 2, 3, 4, 5], rfl⟩, ?_, ?_⟩⟩
    · exact Sy.Ent.sub (by simp only [List.append_nil]; exact List.sublist_append_left _ _)
    · rintro ⟨j, x, hx, hp⟩
      rw [hinv j x (List.getElem?_eq_some_iff.1 hx).1 hx] at hp
      cases hp

end Go.Proofs.Ytbgmkefehfjicaa

/-
  The program's look at a program: the threads.
-/
namespace Go.Proofs.Ytbgmkefehfjicaa
set_option linter.unusedVariables false
set_option linter.unusedSimpArgs false
open Go Go.RowKit
open Sy (Let Blk HasL)

structure ThreadD where
  locals : Int
  acts : List ActD

/-- A slice holds these threads. -/
structure ThreadsR (B : List (Nat × Sy.Cont)) (v : Value) (l : List ThreadD) : Prop where
  sl : ∃ p n c, v = .slice p n c
  len : Sy.lenS v = l.length
  at_ : l ≠ [] → ∃ n c, v = .slice (some ⟨Sy.ptrS v, Sy.offS v, none⟩) n c
  thr : ∀ i t, l[i]? = some t → ∃ av, HasL (rdOf B) (Sy.ptrS v) (Sy.offS v + i * 2) (.int .i64 t.locals) ∧ HasL (rdOf B) (Sy.ptrS v) (Sy.offS v + i * 2 + 1) av ∧ ActsR B av t.acts
  lt : l.length < 4398046511104

noncomputable def Sy.locL (L : List Blk) : Int := match L with
  | ⟨_, .obj (.cells cs _ _), _⟩ :: _ => Sy.argI cs 0
  | _ => 0
noncomputable def ctxT (B : List (Nat × Sy.Cont)) (l : List ActD) (p1 : Nat) (tv : Value) (n i : Nat) (cells : Int) : Sy.Ctx := Sy.mkS [] [(fWhole, fun a L => loopAC B l p1 (Sy.ptrN (a.get 4)) tv (a.get 43) n i cells (Sy.locL L))] []
theorem ctxT_holds (B : List (Nat × Sy.Cont)) (l : List ActD) (p1 : Nat) (tv : Value) (n i : Nat) (cells : Int) : (ctxT B l p1 tv n i cells).holds Try.prog := Sy.mkS_holds (fun _ h => (by cases h)) (fun p hp a L => by
  rcases List.mem_singleton.1 hp with rfl
  exact loopAC_met _ _ _ _ _ _ _ _ _ _) (fun _ h => (by cases h))

def slT (p1 : Nat) (tv : Value) (n i : Nat) : List (Nat × Value) := [(1, .pointer (some ⟨p1, 0, none⟩)), (2, .bool false), (22, tv), (23, .int .i64 (Int.ofNat n)), (24, .int .i64 (Int.ofNat i))]
def memT (p1 : Nat) (cells : Int) (tv : Value) : List (Nat × Sy.Cont) := [(p1, .obj (.cells #[.int .i64 cells, tv] 27 (0, 0)))]

def wt_o : Sy.O := (Sy.O.fork (Sy.O.pack 18 0x2000020000200002000421 (Sy.O.fork Sy.O.nil (Sy.O.pack 11 0x210042008000 (Sy.O.fork (Sy.O.steps [0, 1] Sy.O.nil) (Sy.O.steps [0, 1] Sy.O.nil))))) Sy.O.nil)
noncomputable def wt_R (B : List (Nat × Sy.Cont)) (l : List ActD) (p1 : Nat) (tv : Value) (n : Nat) (i : Nat) (cells : Int) (f : Nat → Value) (ns : Nat → Sy.Let) : Sy.Res (Exit × Nat × List Value × List Blk) := .br (Ex.ltQ (Int.ofNat i) (Int.ofNat n)) (.need ((∃ (n : Nat), ∃ (c : Nat), tv = Value.slice (some (Addr.mk (Sy.ptrS tv) (Sy.offS tv) none)) n c) ∧ (0 : Int) ≤ Int.ofNat i ∧ Int.ofNat i < (↑(Sy.lenS tv) : Int)) (.need (∃ (i_1 : Int), HasL (rdOf B) (Sy.ptrS tv) (Sy.offS tv + Int.toNat (Int.ofNat i) * (2 : Nat)) (.int .i64 i_1)) (.hyp (∀ (u : Value), HasL (rdOf B) (Sy.ptrS tv) (Sy.offS tv + Int.toNat (Int.ofNat i) * (2 : Nat)) u → u = Value.int .i64 (Let.i (ns 0))) (.need (∃ (v : Value), HasL (rdOf B) (Sy.ptrS tv) (Sy.offS tv + Int.toNat (Int.ofNat i) * (2 : Nat) + (1 : Nat)) v) (.hyp (∀ (u : Value), HasL (rdOf B) (Sy.ptrS tv) (Sy.offS tv + Int.toNat (Int.ofNat i) * (2 : Nat) + (1 : Nat)) u → u = Let.v (ns 1)) (.need ((2 : Nat) = (2 : Nat) ∧ (2 : Nat) = (2 : Nat) ∧ Array.all (Array.mk [.int .i64 (Let.i (ns 0)), Let.v (ns 1)]) (fun (x : Value) => Value.oneCell' x) (0 : Nat) (2 : Nat) = true) (.need (∃ (p : Option Addr), ∃ (n : Nat), ∃ (c : Nat), Let.v (ns 1) = Value.slice p n c) (.br (bif
 bif Ex.ltQ (Let.i (ns 0)) (0 : Int) then true else Ex.ltQ (24 : Int) (Let.i (ns 0)) then true else Ex.ltQ (65536 : Int) (Int.ofNat (Sy.lenS (Let.v (ns 1))))) (.leaf (Exit.ret, (56 : Nat), [.pointer (some (Addr.mk p1 0 none)), Value.bool false, tv, .int .i64 (Int.ofNat n), .int .i64 (Int.ofNat i)], Blk.mk (Let.n (ns 2)) (.obj (.cells (Array.mk [.int .i64 (Let.i (ns 0)), Let.v (ns 1)]) (37 : Nat))) true :: Blk.mk p1 (.obj (.cells (Array.mk [.int .i64 cells, tv]) (27 : Nat))) true :: rdOf B)) (.need (∃ (p : Option Addr), ∃ (n : Nat), ∃ (c : Nat), Let.v (ns 1) = Value.slice p n c) (.need (ActsR B (Let.v (ns 1)) l) (.need (Sy.GotL ([] ++ List.eraseIdx (Blk.mk p1 (.obj (.cells (Array.mk [.int .i64 cells, tv]) (27 : Nat))) true :: rdOf B) (nat_lit 0)) B) (.both (.hyp (∃ (i : Nat), ∃ (a : ActD), l[i]? = some a ∧ actF cells (Let.i (ns 0)) (List.length l) a = false) (.leaf (Exit.ret, (56 : Nat), [List.rec (Value.tuple (Array.mk [])) (fun (p : Nat × Value) (x : List (Nat × Value)) (ih : Value) =>
 Bool.rec ih (Prod.snd p) (Nat.beq (Prod.fst p) (1 : Nat))) (Sy.argsW (0 : Nat) (Let.l (ns 3))), Value.bool false, List.rec (Value.tuple (Array.mk [])) (fun (p : Nat × Value) (x : List (Nat × Value)) (ih : Value) => Bool.rec ih (Prod.snd p) (Nat.beq (Prod.fst p) (22 : Nat))) (Sy.argsW (0 : Nat) (Let.l (ns 3))), List.rec (Value.tuple (Array.mk [])) (fun (p : Nat × Value) (x : List (Nat × Value)) (ih : Value) => Bool.rec ih (Prod.snd p) (Nat.beq (Prod.fst p) (23 : Nat))) (Sy.argsW (0 : Nat) (Let.l (ns 3))), List.rec (Value.tuple (Array.mk [])) (fun (p : Nat × Value) (x : List (Nat × Value)) (ih : Value) => Bool.rec ih (Prod.snd p) (Nat.beq (Prod.fst p) (24 : Nat))) (Sy.argsW (0 : Nat) (Let.l (ns 3)))], [] ++ ([] ++ List.eraseIdx (Blk.mk p1 (.obj (.cells (Array.mk [.int .i64 cells, tv]) (27 : Nat))) true :: rdOf B) (nat_lit 0))))) (.hyp (badAct cells (Let.i (ns 0)) l → False) (.leaf (Exit.normal, (56 : Nat), [.pointer (some (Addr.mk p1 0 none)), Value.bool false, tv, .int .i64 (Int.ofNat
 n), .int .i64 (Ex.wrapQ .i64 (Ex.addQ (Int.ofNat i) (1 : Int)))], Blk.mk p1 (.obj (.cells (Array.mk [.int .i64 cells, tv]) (27 : Nat))) true :: Blk.mk (Let.n (ns 2)) (.obj (.cells (Array.mk [.int .i64 (Let.i (ns 0)), Let.v (ns 1)]) (37 : Nat))) true :: ([] ++ List.eraseIdx (Blk.mk p1 (.obj (.cells (Array.mk [.int .i64 cells, tv]) (27 : Nat))) true :: rdOf B) (nat_lit 0))))))))))))))))) (.leaf (Exit.exit (0 : Nat), (56 : Nat), [.pointer (some (Addr.mk p1 0 none)), Value.bool false, tv, .int .i64 (Int.ofNat n), .int .i64 (Int.ofNat i)], Blk.mk p1 (.obj (.cells (Array.mk [.int .i64 cells, tv]) (27 : Nat))) true :: rdOf B))

theorem wt_run (B : List (Nat × Sy.Cont)) (l : List ActD) (p1 : Nat) (tv : Value) (n i : Nat) (cells : Int) (f : Nat → Value) : Sy.Ran (Sy.pieceT Try.prog (ctxT B l p1 tv n i cells) 50 fWhole bodyT 56 (slT p1 tv n i) ((List.range 56).map f) ((memT p1 cells tv).map Sy.ownOf ++ rdOf B) [1, 2, 22, 23, 24]) wt_o (wt_R B l p1 tv n i cells f) := ⟨fun ns => by kernel_rfl, fun ns => by kernel_rfl⟩

end Go.Proofs.Ytbgmkefehfjicaa

/-
  The program's look at a program: the threads, the contract.
-/
namespace Go.Proofs.Ytbgmkefehfjicaa
open Go Go.RowKit
open Sy (Let Blk HasL)

/-- Are a thread's numbers out of bounds? -/
noncomputable def out1 (t : ThreadD) : Bool := bif bif Ex.ltQ t.locals 0 then true else Ex.ltQ 24 t.locals then true else Ex.ltQ 65536 (Int.ofNat t.acts.length)
def badThr (cells : Int) (t : ThreadD) : Prop := out1 t = true ∨ badAct cells t.locals t.acts
def badThrs (cells : Int) (l : List ThreadD) : Prop := ∃ (i : Nat) (t : ThreadD), l[i]? = some t ∧ badThr cells t

noncomputable def loopTC (B : List (Nat × Sy.Cont)) (l : List ThreadD) (p1 : Nat) (tv : Value) (cells : Int) : Sy.LoopC :=
  ⟨.loop bodyT, 56, slT p1 tv (Sy.lenS tv) 0, ThreadsR B tv l, ⟨[], memT p1 cells tv, 0, B⟩,
    [(⟨fun _ => badThrs cells l, fun _ => [], fun _ => []⟩, .ret, fun _ => [(2, .bool false)]),
     (⟨fun _ => ¬ badThrs cells l, fun _ => [], fun _ => []⟩, .exit 0, fun _ => [(2, .bool false)])]⟩

theorem loopTC_met (B : List (Nat × Sy.Cont)) (l : List ThreadD) (p1 : Nat) (tv : Value) (cells : Int) : Sy.MeetsL Try.prog (loopTC B l p1 tv cells) := by
  refine Sy.loop_ofB (σ := Nat × ThreadD) (S := fun s => ctxT B s.2.acts p1 tv (Sy.lenS tv) s.1 cells) (n := 50) (fn := fWhole) (fun _ => ctxT_holds _ _ _ _ _ _ _) mixed (body := bodyT) rfl [1, 2, 22, 23, 24] (fun s => slT p1 tv (Sy.lenS tv) s.1)
    (fun _ => (memT p1 cells tv).map Sy.ownOf ++ rdOf B) (fun s => s.1 ≤ l.length ∧ ThreadsR B tv l ∧ (∀ j t, j < s.1 → l[j]? = some t → ¬ badThr cells t) ∧ ∀ t, l[s.1]? = some t → s.2 = t) (fun s => l.length - s.1)
    (0, l.headD ⟨0, []⟩) (fun h => ⟨Nat.zero_le _, h, fun i x hi => by simp at hi, fun a ha => by cases l <;> simp_all⟩) (fun p hp => hp) (Sy.Ent.refl _) (o := fun _ => wt_o) (R := fun s f => wt_R B s.2.acts p1 tv (Sy.lenS tv) s.1 cells f) (fun s f _ => wt_run B s.2.acts p1 tv (Sy.lenS tv) s.1 cells f) ?_
  rintro - ⟨k, t⟩ f ⟨hk, hR, hinv, ha⟩ ns
  simp only at hk hinv ha
  simp only [wt_R, Sy.Res.holds]
  refine ⟨fun hlt => ?_, fun hge => ?_⟩
  · have hlt : k < l.length := by rw [Ex.ltQ_eq, hR.len] at hlt; simpa using hlt
    obtain ⟨t', hn⟩ : ∃ n, l[k]? = some n := ⟨_, List.getElem?_eq_getElem hlt⟩
    obtain rfl : t = t' := ha t' hn
    obtain ⟨av, h0, h1, hA⟩ := hR.thr k t hn
    refine ⟨⟨hR.at_ (fun h => by rw [h] at hlt; simp at hlt), by simp, by rw [hR.len]; simpa using hlt⟩, ⟨_, h0⟩, fun e0 => ⟨⟨_, h1⟩, fun e1 => ?_⟩⟩
    have e0 := e0 _ h0
    have e1 := e1 _ h1
    simp only [Value.int.injEq, true_and] at e0
    rw [← e0, ← e1]
    obtain ⟨p, n, c, hav⟩ := hA.sl
    refine ⟨?_, hA.sl, fun hb => ?_, fun hb => ⟨hA.sl, hA, gotL_of (fun p hp => hp), fun hbad => ?_, fun hgood => ?_⟩⟩
    · simp [hav, Value.oneCell']
    · refine ⟨rfl, .inr ⟨by simp, _, List.mem_cons_self, rfl, [], rfl, ⟨[1], rfl⟩, Sy.Ent.sub (List.nil_sublist _), k, t, hn, .inl ?_⟩⟩
      rw [hA.len] at hb
      exact hb
    · exact ⟨rfl, .inr ⟨by simp, _, List.mem_cons_self, rfl, [], rfl, ⟨[1], rfl⟩, Sy.Ent.sub (List.nil_sublist _), k, t, hn, .inr hbad⟩⟩
    · refine ⟨rfl, .inl ⟨rfl, (k + 1, l.getD (k + 1) t), ⟨by show k + 1 ≤ l.length; omega, hR, fun j x hj hx => ?_, fun x hx => ?_⟩, by show l.length - (k + 1) < l.length - k; omega, ?_, Sy.Ent.sub ((List.sublist_cons_self _ _).cons_cons _)⟩⟩
      · by_cases he : j = k
        · subst he
          rw [hn] at hx
          injection hx with hx
          subst hx
          rw [hA.len] at hb
          rintro (h | h)
          · exact absurd h (by unfold out1; rw [hb]; exact Bool.false_ne_true)
          · exact hgood h
        · exact hinv j x (by simp only at hj; omega) hx
      · simp only at hx
        show l.getD (k + 1) t = x
        rw [List.getD_eq_getElem?_getD, hx]
        rfl
      · rw [w_succ (by have := hR.lt; omega)]
        rfl
  · have hge : k = l.length := by rw [Ex.ltQ_eq, hR.len] at hge; simp at hge; omega
    subst hge
    refine ⟨rfl, .inr ⟨by simp, _, List.mem_cons_of_mem _ (List.mem_singleton_self _), rfl, [], rfl, ⟨[1], rfl⟩, Sy.Ent.sub (List.nil_sublist _), ?_⟩⟩
    rintro ⟨j, x, hx, hp⟩
    exact hinv j x (List.getElem?_eq_some_iff.1 hx).1 hx hp

noncomputable def ctxG (B : List (Nat × Sy.Cont)) (l : List ThreadD) (tv : Value) (cells : Int) : Sy.Ctx := Sy.mkS [] [(fWhole, fun a _ => loopTC B l (Sy.ptrN (a.get 1)) tv cells)] []
theorem ctxG_holds (B : List (Nat × Sy.Cont)) (l : List ThreadD) (tv : Value) (cells : Int) : (ctxG B l tv cells).holds Try.prog := Sy.mkS_holds (fun _ h => (by cases h)) (fun p hp a L => by
  rcases List.mem_singleton.1 hp with rfl
  exact loopTC_met _ _ _ _ _) (fun _ h => (by cases h))

end Go.Proofs.Ytbgmkefehfjicaa

/-
  The program's look at a program, whole.
-/
namespace Go.Proofs.Ytbgmkefehfjicaa
set_option linter.unusedVariables false
set_option linter.unusedSimpArgs false
open Go Go.RowKit
open Sy (Let Blk HasL)

def wg_o : Sy.O := (Sy.O.pack 12 0x80000800008000 (Sy.O.fork Sy.O.nil (Sy.O.pack 9 0x840008000 (Sy.O.fork (Sy.O.steps [0, 1] Sy.O.nil) (Sy.O.steps [0, 1] Sy.O.nil)))))
noncomputable def wg_R (B : List (Nat × Sy.Cont)) (l : List ThreadD) (tv : Value) (cells : Int) (ns : Nat → Sy.Let) : Sy.Res (Value × List Blk) := .need (∃ (p : Option Addr), ∃ (n : Nat), ∃ (c : Nat), tv = Value.slice p n c) (.br (bif bif Ex.ltQ cells (0 : Int) then true else Ex.ltQ (4096 : Int) cells then true else Ex.ltQ (64 : Int) (Int.ofNat (Sy.lenS tv))) (.leaf (Value.bool false, Blk.mk (Let.n (ns 0)) (.obj (.cells (Array.mk [.int .i64 cells, tv]) (27 : Nat))) true :: rdOf B)) (.need (∃ (p : Option Addr), ∃ (n : Nat), ∃ (c : Nat), tv = Value.slice p n c) (.need (ThreadsR B tv l) (.need (Sy.GotL ([] ++ rdOf B) B) (.both (.hyp (∃ (i : Nat), ∃ (t : ThreadD), l[i]? = some t ∧ badThr cells t) (.leaf (Value.bool false, [] ++ ([] ++ rdOf B)))) (.hyp (badThrs cells l → False) (.leaf (Value.bool true, [] ++ ([] ++ rdOf B)))))))))

theorem wg_run (B : List (Nat × Sy.Cont)) (l : List ThreadD) (tv : Value) (cells : Int) : Sy.Ran (Sy.inB Try.prog (ctxG B l tv cells) 50 fWhole #[progV cells tv] (rdOf B)) wg_o (wg_R B l tv cells) := ⟨fun ns => by kernel_rfl, fun ns => by kernel_rfl⟩

end Go.Proofs.Ytbgmkefehfjicaa

/-
  The program's look at a program: the contract.
-/
namespace Go.Proofs.Ytbgmkefehfjicaa
open Go Go.RowKit
open Sy (Let Blk HasL)

noncomputable def out0 (cells : Int) (l : List ThreadD) : Bool := bif bif Ex.ltQ cells 0 then true else Ex.ltQ 4096 cells then true else Ex.ltQ 64 (Int.ofNat l.length)
open Classical in
/-- What check.Whole says. -/
noncomputable def wholeF (cells : Int) (l : List ThreadD) : Bool := decide (¬ (out0 cells l = true ∨ badThrs cells l))

noncomputable def wholeC (B : List (Nat × Sy.Cont)) (tv : Value) (l : List ThreadD) (cells : Int) : Sy.CallC := ⟨fWhole, #[progV cells tv], ThreadsR B tv l, ⟨[], [], 0, B⟩, [Sy.plainO (.bool (wholeF cells l))]⟩

open Classical in
theorem wholeC_met (B : List (Nat × Sy.Cont)) (tv : Value) (l : List ThreadD) (cells : Int) : Sy.Meets Try.prog (wholeC B tv l cells) := by
  refine Sy.meets_ofB (ctxG_holds B l tv cells) mixed (L := rdOf B) (Sy.Ent.refl _) (wg_run B l tv cells) fun hR ns => ?_
  have leaf : ∀ (b : Bool) (L : List Blk), b = wholeF cells l → Sy.leafB (wholeC B tv l cells) (.bool b, L) := fun b L h => plainB_leaf (List.mem_singleton_self _) rfl (by rw [h])
  replace hR : ThreadsR B tv l := hR
  simp only [wg_R, Sy.Res.holds]
  refine ⟨hR.sl, fun hb => leaf _ _ ?_, fun hb => ⟨hR.sl, hR, gotL_of (fun p hp => by simpa using hp), fun h => leaf _ _ ?_, fun h => leaf _ _ ?_⟩⟩
  · rw [hR.len] at hb
    exact (decide_eq_false (fun h => h (.inl hb))).symm
  · exact (decide_eq_false (fun h' => h' (.inr h))).symm
  · rw [hR.len] at hb
    refine (decide_eq_true ?_).symm
    rintro (h' | h')
    · exact absurd h' (by unfold out0; rw [hb]; exact Bool.false_ne_true)
    · exact h h'

end Go.Proofs.Ytbgmkefehfjicaa
