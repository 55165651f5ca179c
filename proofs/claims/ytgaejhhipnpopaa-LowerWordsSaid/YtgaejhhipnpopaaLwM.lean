/-
  lower.may; expressions as trees.
-/
import Derived.Test.YtgaejhhipnpopaaLwP
namespace Go.Proofs.Ytgaejhhipnpopaa
set_option linter.unusedVariables false
set_option linter.unusedSimpArgs false
open Go Go.RowKit
open Sy (Let Blk)

abbrev fMay : FuncId := 29
noncomputable def mayC (g o c : Nat) (l : List Nd) : Sy.CallC := ⟨fMay, #[.slice (some ⟨g, o, none⟩) l.length c], 0 < l.length ∧ l.length ≤ 4398046511104, ⟨[(g, .seg o (ndCells l))], [], 0⟩, [Sy.plainO (.bool (tru (isExpr 24 l)))]⟩
noncomputable def ctxM (g o c : Nat) (l : List Nd) : Sy.Ctx := Sy.mkS [(fCE, fun _ _ => ceC g o c l 24)] [] []
def may_o : Sy.O := (Sy.O.steps [0, 0, 0, 0, 0, 0, 0, 0, 0, 0, 0, 0, 0, 0, 0, 0, 0, 0, 0, 0, 0, 0, 0, 0, 0, 1, 0, 0, 0, 0, 0, 0, 0, 0, 0, 0, 0, 0, 0, 0, 0, 0, 0, 0, 0, 0, 0, 0, 0, 0, 0, 0, 0, 0, 0, 3, 0, 0, 0, 0] (Sy.O.steps [0, 0, 2, 0, 1, 0, 2, 0, 0, 0, 0, 0, 2, 0, 0, 0, 0, 0, 2, 0, 0, 0, 2, 0, 0, 0, 0, 0, 0, 0, 0, 0, 0, 2, 0, 0, 0, 0, 0, 0, 0, 0, 0, 0, 0, 0, 0, 0, 0, 0, 0, 0, 0, 0, 0, 0, 0, 4, 0, 0] (Sy.O.steps [0, 0, 0, 0, 0, 0, 0, 0, 0, 0, 0, 0, 0, 0, 0, 4, 0, 0, 0, 0, 0, 4, 0, 0, 0, 0, 0, 0, 4, 0, 0, 0, 0, 0, 0, 0, 4, 0] (Sy.O.fork (Sy.O.steps [0, 0] Sy.O.nil) (Sy.O.steps [0, 0, 4, 0, 0, 0, 0, 0, 0, 4, 0, 0, 0, 2, 0, 0, 0, 10, 0] (Sy.O.fork (Sy.O.steps [0, 0] Sy.O.nil) (Sy.O.steps [1, 0, 0, 0, 0, 0, 0, 0, 0, 1, 0, 0, 0, 0, 0, 0, 0, 1, 0, 0, 0, 0, 0, 5, 0, 0, 0, 0, 0, 0, 0] Sy.O.nil)))))))
noncomputable def may_R (g : Nat) (o : Nat) (c : Nat) (l : List Nd) (ns : Nat → Sy.Let) : Sy.Res (Value × List Blk) := Sy.Res.br (!true == Ex.ltQ (0 : Int) (↑(List.length l) : Int)) (Sy.Res.leaf (Value.bool false, []))
 (Sy.Res.need ((0 : Int) ≤ (24 : Int) ∧ (24 : Int) ≤ (1000 : Int) ∧ List.length l ≤ (4398046511104 : Nat))
 (Sy.Res.hyp True
 (Sy.Res.br (bif true then !tru (isExpr (24 : Int) l) else false) (Sy.Res.leaf (Value.bool false, []))
 (Sy.Res.leaf (Value.bool true, [])))))
theorem may_run (g o c : Nat) (l : List Nd) : Sy.Ran (Sy.inT Try.prog (ctxM g o c l) 60 fMay (mayC g o c l).args (Sy.blks (mayC g o c l).mem) Sy.noB) may_o (may_R g o c l) := ⟨fun ns => by kernel_rfl, fun ns => by kernel_rfl⟩
def mayC0 (A : Option Addr) (c : Nat) : Sy.CallC := Sy.plainC fMay #[.slice A 0 c] (.bool false)
def may0_o : Sy.O := (Sy.O.steps [0, 0, 0, 0, 0, 0, 0, 0, 0, 0, 0, 0, 0, 0, 0, 0, 0, 0, 0, 0, 0, 0, 0, 0, 0, 1, 0, 0, 0, 0, 0, 0, 0, 0, 0, 0, 0, 0, 0, 0, 0, 0, 0, 0, 0, 0, 0, 0, 0, 0, 0, 0, 0, 0, 0, 3, 0, 0, 0, 0] (Sy.O.steps [0, 0, 2, 0, 1, 0, 2, 0, 0, 0, 0, 0, 2, 0, 0, 0, 0, 0, 2, 0, 0, 0, 2, 0, 0, 0, 0, 0, 0, 0, 0, 0, 0, 2, 0, 0, 0, 0, 0, 0, 0, 0, 0, 0, 0, 0, 0, 0, 0, 0, 0, 0, 0, 0, 0, 0, 0, 4, 0, 0] (Sy.O.steps [0, 0, 0, 0, 0, 0, 0, 0, 0, 0, 0, 0, 0, 0, 0, 4, 0, 0, 0, 0, 0, 4, 0, 0, 0, 0, 0, 0, 4, 0, 0, 0, 0, 0, 0, 0, 4, 0, 0, 0, 0] Sy.O.nil)))
noncomputable def may0_R (A : Option Addr) (c : Nat) (ns : Nat → Sy.Let) : Sy.Res (Value × List Blk) := Sy.Res.leaf (Value.bool false, [])
theorem may0_run (A : Option Addr) (c : Nat) : Sy.Ran (Sy.inT Try.prog Sy.S0 60 fMay (mayC0 A c).args [] Sy.noB) may0_o (may0_R A c) := ⟨fun ns => by kernel_rfl, fun ns => by kernel_rfl⟩

theorem mayC_met (g o c : Nat) (l : List Nd) : Sy.Meets Try.prog (mayC g o c l) := by
  have HS : (ctxM g o c l).holds Try.prog := Sy.mkS_holds (fun p hp a L => by
    rcases List.mem_singleton.1 hp with rfl
    exact ceC_met _ _ _ _ _) (fun _ h => (by cases h)) (fun _ h => (by cases h))
  refine Sy.meets_of HS mixed (may_run g o c l) fun hok ns => ?_
  obtain ⟨h0, h1⟩ : 0 < l.length ∧ l.length ≤ 4398046511104 := hok
  simp only [may_R, Sy.Res.holds, Sy.b_and, Sy.b_or, Sy.b_not, Sy.b_f, Sy.b_and', Sy.b_or', Sy.q_lt, Sy.q_le, Sy.q_eq, Sy.b_tt, Sy.b_ft, not_true_eq_false, not_false_eq_true, beq_t, tru_t]
  refine ⟨fun h => absurd ⟨fun _ => by omega, fun _ => trivial⟩ h, fun h => ⟨⟨by omega, by omega, h1⟩, fun _ => ⟨fun hn => Sy.plainO_leaf (List.mem_singleton_self _) rfl ?_, fun hn => Sy.plainO_leaf (List.mem_singleton_self _) rfl ?_⟩⟩⟩
  · rw [tru_neg hn.2]
  · rw [tru_pos (Classical.byContradiction fun he => hn ⟨trivial, he⟩)]

theorem mayC0_met (A : Option Addr) (c : Nat) : Sy.Meets Try.prog (mayC0 A c) :=
  Sy.meets_of Sy.S0_holds mixed (may0_run A c) fun _ _ => Sy.plainO_leaf (List.mem_singleton_self _) rfl rfl

/-- An expression. -/
inductive E where
  | num (v : Int)
  | loc (v : Int)
  | un (op : Int) (x : E)
  | bin (op : Int) (x y : E)

/-- The tree of node number i. -/
def tr (l : List Nd) (i : Nat) : E := match l[i]? with
  | none => .num 0
  | some n => if n.op ≤ 1 then .num n.val else if n.op = 2 then .loc n.val else if n.op ≤ 5 then (if _h : n.a.toNat < i then .un n.op (tr l n.a.toNat) else .num 0)
    else if _h : n.a.toNat < i ∧ n.b.toNat < i then .bin n.op (tr l n.a.toNat) (tr l n.b.toNat) else .num 0
termination_by i

theorem tr_num {l : List Nd} {i : Nat} {n : Nd} (h : l[i]? = some n) (h1 : n.op ≤ 1) : tr l i = .num n.val := by
  rw [tr]; simp only [h, if_pos h1]
theorem tr_loc {l : List Nd} {i : Nat} {n : Nd} (h : l[i]? = some n) (h1 : n.op = 2) : tr l i = .loc n.val := by
  rw [tr]; simp only [h]; rw [if_neg (by omega), if_pos h1]
theorem tr_un {l : List Nd} {i : Nat} {n : Nd} (h : l[i]? = some n) (h1 : 3 ≤ n.op) (h2 : n.op ≤ 5) (ha : n.a.toNat < i) : tr l i = .un n.op (tr l n.a.toNat) := by
  rw [tr]; simp only [h]; rw [if_neg (by omega), if_neg (by omega), if_pos h2, dif_pos ha]
theorem tr_bin {l : List Nd} {i : Nat} {n : Nd} (h : l[i]? = some n) (h1 : 6 ≤ n.op) (ha : n.a.toNat < i) (hb : n.b.toNat < i) : tr l i = .bin n.op (tr l n.a.toNat) (tr l n.b.toNat) := by
  rw [tr]; simp only [h]; rw [if_neg (by omega), if_neg (by omega), if_neg (by omega), dif_pos ⟨ha, hb⟩]

def E.needs : E → Nat
  | .num _ => 1
  | .loc _ => 1
  | .un _ x => x.needs
  | .bin _ x y => max x.needs (y.needs + 1)
def E.size : E → Nat
  | .num _ => 1
  | .loc _ => 1
  | .un _ x => x.size + 1
  | .bin _ x y => x.size + y.size + 1

theorem E.needs_le (x : E) : x.needs ≤ x.size := by
  induction x with
  | num _ => exact Nat.le_refl _
  | loc _ => exact Nat.le_refl _
  | un _ x ih => simp only [needs, size]; omega
  | bin _ x y ihx ihy => simp only [needs, size]; omega
theorem E.size_pos (x : E) : 0 < x.size := by cases x <;> simp only [size] <;> omega

end Go.Proofs.Ytgaejhhipnpopaa
