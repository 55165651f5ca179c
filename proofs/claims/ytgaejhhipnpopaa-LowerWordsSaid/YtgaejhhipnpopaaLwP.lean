/-
  check.once and check.expression: the calls.
-/
import Derived.Test.YtgaejhhipnpopaaLwO
namespace Go.Proofs.Ytgaejhhipnpopaa
set_option linter.unusedVariables false
set_option linter.unusedSimpArgs false
open Go Go.RowKit
open Sy (Let Blk)

/-- The call, of nodes that may be. -/
noncomputable def onceC (g o c : Nat) (l : List Nd) (loc : Int) : Sy.CallC := ⟨fON, #[.slice (some ⟨g, o, none⟩) l.length c], nodesOk loc l ∧ l.length ≤ 4398046511104, ⟨[(g, .seg o (ndCells l))], [], 0⟩, [Sy.plainO (.bool (tru (onceOk l)))]⟩
noncomputable def ctxO (g o c : Nat) (l : List Nd) (loc : Int) : Sy.Ctx := Sy.mkS [] [(fON, fun a _ => loopO1 g o c (Sy.ptrN (a.get 3)) l loc), (fON, fun a _ => loopO2 g o c (Sy.ptrN (a.get 38)) l)] []
def once_o : Sy.O := (Sy.O.steps [1, 1, 0, 1, 0, 1, 0] (Sy.O.fork Sy.O.nil Sy.O.nil))
noncomputable def once_R (g : Nat) (o : Nat) (c : Nat) (l : List Nd) (loc : Int) (ns : Nat → Sy.Let) : Sy.Res (Value × List Blk) := Sy.Res.need
 ((0 : Int) ≤ Int.ofNat (List.length l) ∧
 Int.toNat (Int.ofNat (List.length l)) * (8 : Nat) ≤ (281474976710656 : Nat) ∧
 Int.toNat (Int.ofNat (List.length l)) ≤ (9223372036854775807 : Nat))
 (Sy.Res.need (List.length l ≤ (4398046511104 : Nat) ∧ nodesOk loc l)
 (Sy.Res.hyp True
 (Sy.Res.need (Nat.le (List.length l) (4398046511104 : Nat))
 (Sy.Res.both
 (Sy.Res.hyp
 (∀ (j : Nat),
 j < List.length l →
 List.countP.go (fun (x : Nat) => x == j) (refs l) (0 : Nat) =
 if j + (1 : Nat) < List.length l then (1 : Nat) else (0 : Nat))
 (Sy.Res.leaf (Value.bool true, [])))
 (Sy.Res.hyp (onceOk l → False) (Sy.Res.leaf (Value.bool false, [])))))))
theorem once_run (g o c : Nat) (l : List Nd) (loc : Int) : Sy.Ran (Sy.inT Try.prog (ctxO g o c l loc) 50 fON (onceC g o c l loc).args (Sy.blks (onceC g o c l loc).mem) Sy.noB) once_o (once_R g o c l loc) := ⟨fun ns => by kernel_rfl, fun ns => by kernel_rfl⟩

theorem ctxO_holds (g o c : Nat) (l : List Nd) (loc : Int) : (ctxO g o c l loc).holds Try.prog := Sy.mkS_holds (fun _ h => (by cases h)) (fun p hp a L => by
  rcases List.mem_cons.1 hp with rfl | hp
  · exact loopO1_met _ _ _ _ _ _
  rcases List.mem_singleton.1 hp with rfl
  exact loopO2_met _ _ _ _ _) (fun _ h => (by cases h))

theorem tru_pos {p : Prop} (h : p) : tru p = true := by unfold tru; exact @decide_eq_true p (Classical.propDecidable p) h
theorem tru_neg {p : Prop} (h : ¬ p) : tru p = false := by unfold tru; exact @decide_eq_false p (Classical.propDecidable p) h
theorem tru_t (p : Prop) : (tru p = true) = p := propext ⟨fun h => Classical.byContradiction fun hn => (by rw [tru_neg hn] at h; cases h), tru_pos⟩

theorem onceC_met (g o c : Nat) (l : List Nd) (loc : Int) : Sy.Meets Try.prog (onceC g o c l loc) := by
  refine Sy.meets_of (ctxO_holds g o c l loc) mixed (once_run g o c l loc) fun hok ns => ?_
  obtain ⟨h1, h2⟩ : nodesOk loc l ∧ l.length ≤ 4398046511104 := hok
  simp only [once_R, Sy.Res.holds]
  refine ⟨⟨Int.natCast_nonneg _, ?_, ?_⟩, ⟨h2, h1⟩, fun _ => ⟨h2, fun h => Sy.plainO_leaf (List.mem_singleton_self _) rfl (by rw [tru_pos (show onceOk l from h)]), fun h => Sy.plainO_leaf (List.mem_singleton_self _) rfl (by rw [tru_neg (show ¬ onceOk l from h)])⟩⟩
  · show l.length * 8 ≤ _
    omega
  · show l.length ≤ _
    omega

/-- check.expression. -/
noncomputable def ceC (g o c : Nat) (l : List Nd) (loc : Int) : Sy.CallC := ⟨fCE, #[.slice (some ⟨g, o, none⟩) l.length c, .int .i64 loc], 0 ≤ loc ∧ loc ≤ 1000 ∧ l.length ≤ 4398046511104, ⟨[(g, .seg o (ndCells l))], [], 0⟩, [Sy.plainO (.bool (tru (isExpr loc l)))]⟩
noncomputable def ctxCE (g o c : Nat) (l : List Nd) (loc : Int) : Sy.Ctx := Sy.mkS [(fON, fun _ _ => onceC g o c l loc)] [(fCE, fun _ _ => loopCE g o c l loc)] []
def ce_o : Sy.O := (Sy.O.steps [0, 0] (Sy.O.fork (Sy.O.steps [1] (Sy.O.fork (Sy.O.steps [0, 0, 0] Sy.O.nil) (Sy.O.steps [0] Sy.O.nil))) Sy.O.nil))
noncomputable def ce_R (g : Nat) (o : Nat) (c : Nat) (l : List Nd) (loc : Int) (ns : Nat → Sy.Let) : Sy.Res (Value × List Blk) := Sy.Res.need ((0 : Int) ≤ loc ∧ loc ≤ (1000 : Int) ∧ List.length l ≤ (4398046511104 : Nat))
 (Sy.Res.both
 (Sy.Res.hyp (∀ (i : Nat) (n : Nd), l[i]? = some n → nodeOk loc i n)
 (Sy.Res.br
 (bif Ex.ltQ (0 : Int) (↑(List.length l) : Int) then Ex.leQ (↑(List.length l) : Int) (65536 : Int) else false)
 (Sy.Res.need (nodesOk loc l ∧ List.length l ≤ (4398046511104 : Nat))
 (Sy.Res.hyp True (Sy.Res.leaf (Value.bool (bif true then tru (onceOk l) else false), []))))
 (Sy.Res.leaf (Value.bool false, []))))
 (Sy.Res.hyp (nodesOk loc l → False) (Sy.Res.leaf (Value.bool false, []))))
theorem ce_run (g o c : Nat) (l : List Nd) (loc : Int) : Sy.Ran (Sy.inT Try.prog (ctxCE g o c l loc) 50 fCE (ceC g o c l loc).args (Sy.blks (ceC g o c l loc).mem) Sy.noB) ce_o (ce_R g o c l loc) := ⟨fun ns => by kernel_rfl, fun ns => by kernel_rfl⟩

theorem ceC_met (g o c : Nat) (l : List Nd) (loc : Int) : Sy.Meets Try.prog (ceC g o c l loc) := by
  have HS : (ctxCE g o c l loc).holds Try.prog := Sy.mkS_holds (fun p hp a L => by
    rcases List.mem_singleton.1 hp with rfl
    exact onceC_met _ _ _ _ _) (fun p hp a L => by
    rcases List.mem_singleton.1 hp with rfl
    exact loopCE_met _ _ _ _ _) (fun _ h => (by cases h))
  refine Sy.meets_of HS mixed (ce_run g o c l loc) fun hok ns => ?_
  obtain ⟨h0, h1, h2⟩ : 0 ≤ loc ∧ loc ≤ 1000 ∧ l.length ≤ 4398046511104 := hok
  simp only [ce_R, Sy.Res.holds, Sy.b_and, Sy.b_or, Sy.b_not, Sy.b_f, Sy.b_and', Sy.b_or', Sy.q_lt, Sy.q_le, Sy.q_eq, Sy.b_tt, Sy.b_ft, not_true_eq_false, not_false_eq_true]
  refine ⟨⟨h0, h1, h2⟩, fun hn => ⟨fun hl => ⟨⟨hn, h2⟩, fun _ => Sy.plainO_leaf (List.mem_singleton_self _) rfl ?_⟩, fun hl => Sy.plainO_leaf (List.mem_singleton_self _) rfl ?_⟩, fun hn => Sy.plainO_leaf (List.mem_singleton_self _) rfl ?_⟩
  · show Value.bool (tru (onceOk l)) = _
    by_cases ho : onceOk l
    · rw [tru_pos ho, tru_pos ⟨hn, by omega, by omega, ho⟩]
    · rw [tru_neg ho, tru_neg fun h => ho h.2.2.2]
  · rw [tru_neg fun h => hl (by have := h.2.1; have := h.2.2.1; omega)]
  · rw [tru_neg fun h => hn h.1]

/-- Of no nodes. -/
def ceC0 (A : Option Addr) (c : Nat) (loc : Int) : Sy.CallC := Sy.plainC fCE #[.slice A 0 c, .int .i64 loc] (.bool false)
def ce0_o : Sy.O := (Sy.O.steps [0, 0, 0, 0, 0, 0, 0, 0, 0] Sy.O.nil)
noncomputable def ce0_R (A : Option Addr) (c : Nat) (loc : Int) (ns : Nat → Sy.Let) : Sy.Res (Value × List Blk) := Sy.Res.leaf (Value.bool false, [])
theorem ce0_run (A : Option Addr) (c : Nat) (loc : Int) : Sy.Ran (Sy.inT Try.prog Sy.S0 50 fCE (ceC0 A c loc).args [] Sy.noB) ce0_o (ce0_R A c loc) := ⟨fun ns => by kernel_rfl, fun ns => by kernel_rfl⟩
theorem ceC0_met (A : Option Addr) (c : Nat) (loc : Int) : Sy.Meets Try.prog (ceC0 A c loc) :=
  Sy.meets_of Sy.S0_holds mixed (ce0_run A c loc) fun _ _ => Sy.plainO_leaf (List.mem_singleton_self _) rfl rfl

end Go.Proofs.Ytgaejhhipnpopaa
