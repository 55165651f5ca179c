/-
  LowerAddresses: the call.
-/
import Derived.Test.YtgaejhhipnpopaaLwAd
namespace Go.Proofs.Ytgaejhhipnpopaa
set_option linter.unusedVariables false
set_option linter.unusedSimpArgs false
open Go Go.RowKit
open Sy (Let Blk)

abbrev fAddrs : FuncId := 6
def addrsArgs (b s : Int) (v : Value) (k : Int) : Array Value := #[.int .i64 b, .int .i64 s, v, .int .i64 k]
noncomputable def ctxAd (w : WayA) (g o c : Nat) (l : List Nd) (b s k : Int) : Sy.Ctx := Sy.mkS [(fAd, fun _ _ => Sy.adW w fAd (adArgs g o c l b s k) g o l b s k), (fRAd, fun _ _ => Sy.adW w fRAd (radArgs g o c l b s k) g o l b s k),
  (fSame, fun a _ => sameC (Sy.ptrN (Sy.argV a 0)) (Sy.ptrN (Sy.argV a 1)) (Sy.capN (Sy.argV a 0)) (Sy.capN (Sy.argV a 1)) (addrL b s l k) (addrL b s l k)), (fAwake, fun _ _ => awC)] [] []
noncomputable def ctxAe (w : WayE) (A : Option Addr) (c : Nat) (b s k : Int) : Sy.Ctx := Sy.mkS [(fAd, fun _ _ => Sy.aeW w fAd (aeArgs A c b s k) b s k), (fRAd, fun _ _ => Sy.aeW w fRAd (raeArgs A c b s k) b s k),
  (fSame, fun a _ => sameC (Sy.ptrN (Sy.argV a 0)) (Sy.ptrN (Sy.argV a 1)) (Sy.capN (Sy.argV a 0)) (Sy.capN (Sy.argV a 1)) (numL 29 (65536 + 8 * b)) (numL 29 (65536 + 8 * b))), (fAwake, fun _ _ => awC)] [] []
def sB_o : Sy.O := (Sy.O.steps [0, 0, 0, 0, 0, 0, 0, 1, 0, 0, 0, 0] Sy.O.nil)
noncomputable def sB_R (g : Nat) (o : Nat) (c : Nat) (l : List Nd) (b : Int) (s : Int) (k : Int) (ns : Nat → Sy.Let) : Sy.Res (Value × List Blk) := Sy.Res.need (lenOk l ∧ aBad b s l k)
 (Sy.Res.hyp True
 (Sy.Res.need (lenOk l ∧ aBad b s l k)
 (Sy.Res.hyp True (Sy.Res.need True (Sy.Res.hyp True (Sy.Res.leaf (Value.bool true, [])))))))
theorem sB_run (g o c : Nat) (l : List Nd) (b s k : Int) : Sy.Ran (Sy.inT Try.prog (ctxAd .bad g o c l b s k) 60 fAddrs (addrsArgs b s (.slice (some ⟨g, o, none⟩) l.length c) k) [⟨g, .seg o (ndCells l), false⟩] Sy.noB) sB_o (sB_R g o c l b s k) := ⟨fun ns => by kernel_rfl, fun ns => by kernel_rfl⟩
def sR_o : Sy.O := (Sy.O.steps [0, 0, 0, 0, 0, 0, 0, 1, 0, 0, 0, 0] Sy.O.nil)
noncomputable def sR_R (g : Nat) (o : Nat) (c : Nat) (l : List Nd) (b : Int) (s : Int) (k : Int) (ns : Nat → Sy.Let) : Sy.Res (Value × List Blk) := Sy.Res.need (lenOk l ∧ aReg b s l k)
 (Sy.Res.hyp True
 (Sy.Res.need (lenOk l ∧ aReg b s l k)
 (Sy.Res.hyp True (Sy.Res.need True (Sy.Res.hyp True (Sy.Res.leaf (Value.bool true, [])))))))
theorem sR_run (g o c : Nat) (l : List Nd) (b s k : Int) : Sy.Ran (Sy.inT Try.prog (ctxAd .reg g o c l b s k) 60 fAddrs (addrsArgs b s (.slice (some ⟨g, o, none⟩) l.length c) k) [⟨g, .seg o (ndCells l), false⟩] Sy.noB) sR_o (sR_R g o c l b s k) := ⟨fun ns => by kernel_rfl, fun ns => by kernel_rfl⟩
def sO_o : Sy.O := (Sy.O.steps [0, 0, 0, 1, 0, 0, 0, 0, 2, 0] (Sy.O.fork (Sy.O.steps [0] Sy.O.nil) Sy.O.nil))
noncomputable def sO_R (g : Nat) (o : Nat) (c : Nat) (l : List Nd) (b : Int) (s : Int) (k : Int) (ns : Nat → Sy.Let) : Sy.Res (Value × List Blk) := Sy.Res.need (lenOk l ∧ aOk b s l k)
 (Sy.Res.hyp (Nat.le (List.length (addrL b s l k)) (Let.n (ns (1 : Nat))))
 (Sy.Res.need (lenOk l ∧ aOk b s l k)
 (Sy.Res.hyp (Nat.le (List.length (addrL b s l k)) (Let.n (ns (3 : Nat))))
 (Sy.Res.need (Nat.le (List.length (addrL b s l k)) (1000000000 : Nat))
 (Sy.Res.hyp True
 (Sy.Res.br (bif true then decide (addrL b s l k = addrL b s l k) else false)
 (Sy.Res.need True (Sy.Res.hyp True (Sy.Res.leaf (Value.bool true, []))))
 (Sy.Res.leaf (Value.bool false, []))))))))
theorem sO_run (g o c : Nat) (l : List Nd) (b s k : Int) : Sy.Ran (Sy.inT Try.prog (ctxAd .ok g o c l b s k) 60 fAddrs (addrsArgs b s (.slice (some ⟨g, o, none⟩) l.length c) k) [⟨g, .seg o (ndCells l), false⟩] Sy.noB) sO_o (sO_R g o c l b s k) := ⟨fun ns => by kernel_rfl, fun ns => by kernel_rfl⟩
def sEB_o : Sy.O := (Sy.O.steps [0, 0, 0, 0, 0, 1, 0, 0, 0, 0] Sy.O.nil)
noncomputable def sEB_R (A : Option Addr) (c : Nat) (b : Int) (s : Int) (k : Int) (ns : Nat → Sy.Let) : Sy.Res (Value × List Blk) := Sy.Res.need (zeroOk b s k → False)
 (Sy.Res.hyp True
 (Sy.Res.need (zeroOk b s k → False)
 (Sy.Res.hyp True (Sy.Res.need True (Sy.Res.hyp True (Sy.Res.leaf (Value.bool true, [])))))))
theorem sEB_run (A : Option Addr) (c : Nat) (b s k : Int) : Sy.Ran (Sy.inT Try.prog (ctxAe .bad A c b s k) 60 fAddrs (addrsArgs b s (.slice A 0 c) k) [] Sy.noB) sEB_o (sEB_R A c b s k) := ⟨fun ns => by kernel_rfl, fun ns => by kernel_rfl⟩
def sEO_o : Sy.O := (Sy.O.steps [0, 0, 0, 0, 0, 0, 1, 0] (Sy.O.fork (Sy.O.steps [0] Sy.O.nil) Sy.O.nil))
noncomputable def sEO_R (A : Option Addr) (c : Nat) (b : Int) (s : Int) (k : Int) (ns : Nat → Sy.Let) : Sy.Res (Value × List Blk) := Sy.Res.need (s = (0 : Int) ∧ ((0 : Int) ≤ b ∧ b ≤ (4095 : Int)) ∧ (0 : Int) ≤ k ∧ k < (5 : Int))
 (Sy.Res.hyp (Nat.le (List.length (numL (29 : Int) ((65536 : Int) + (8 : Int) * b))) (Let.n (ns (1 : Nat))))
 (Sy.Res.need (s = (0 : Int) ∧ ((0 : Int) ≤ b ∧ b ≤ (4095 : Int)) ∧ (0 : Int) ≤ k ∧ k < (5 : Int))
 (Sy.Res.hyp (Nat.le (List.length (numL (29 : Int) ((65536 : Int) + (8 : Int) * b))) (Let.n (ns (3 : Nat))))
 (Sy.Res.need (Nat.le (List.length (numL (29 : Int) ((65536 : Int) + (8 : Int) * b))) (1000000000 : Nat))
 (Sy.Res.hyp True
 (Sy.Res.br
 (bif true then
 decide
 (numL (29 : Int) ((65536 : Int) + (8 : Int) * b) = numL (29 : Int) ((65536 : Int) + (8 : Int) * b))
 else false)
 (Sy.Res.need True (Sy.Res.hyp True (Sy.Res.leaf (Value.bool true, []))))
 (Sy.Res.leaf (Value.bool false, []))))))))
theorem sEO_run (A : Option Addr) (c : Nat) (b s k : Int) : Sy.Ran (Sy.inT Try.prog (ctxAe .ok A c b s k) 60 fAddrs (addrsArgs b s (.slice A 0 c) k) [] Sy.noB) sEO_o (sEO_R A c b s k) := ⟨fun ns => by kernel_rfl, fun ns => by kernel_rfl⟩

theorem ctxAd_holds (w : WayA) (g o c : Nat) (l : List Nd) (b s k : Int) : (ctxAd w g o c l b s k).holds Try.prog := Sy.mkS_holds (fun p hp a L => by
  rcases List.mem_cons.1 hp with rfl | hp
  · exact adW_met _ _ _ _ _ _ _ _
  rcases List.mem_cons.1 hp with rfl | hp
  · exact radW_met _ _ _ _ _ _ _ _
  rcases List.mem_cons.1 hp with rfl | hp
  · exact sameC_met _ _ _ _ _ _
  rcases List.mem_singleton.1 hp with rfl
  exact awC_met) (fun _ h => (by cases h)) (fun _ h => (by cases h))
theorem ctxAe_holds (w : WayE) (A : Option Addr) (c : Nat) (b s k : Int) : (ctxAe w A c b s k).holds Try.prog := Sy.mkS_holds (fun p hp a L => by
  rcases List.mem_cons.1 hp with rfl | hp
  · exact aeW_met _ _ _ _ _ _
  rcases List.mem_cons.1 hp with rfl | hp
  · exact raeW_met _ _ _ _ _ _
  rcases List.mem_cons.1 hp with rfl | hp
  · exact sameC_met _ _ _ _ _ _
  rcases List.mem_singleton.1 hp with rfl
  exact awC_met) (fun _ h => (by cases h)) (fun _ h => (by cases h))

theorem waysA (b s : Int) (l : List Nd) (k : Int) : aBad b s l k ∨ aReg b s l k ∨ aOk b s l k := by
  by_cases h1 : geoOk b s l k
  · by_cases h2 : 5 < k + need2 l
    · exact .inr (.inl ⟨h1, h2⟩)
    · exact .inr (.inr ⟨h1, Int.not_lt.1 h2⟩)
  · exact .inl h1

theorem addrs_any (g o c : Nat) (l : List Nd) (b s k : Int) (hl : lenOk l) (W : World) (hs : (Sy.Cont.seg o (ndCells l)).sat W.heap[g]?) : Calls Try.prog fAddrs (addrsArgs b s (.slice (some ⟨g, o, none⟩) l.length c) k) W fun e W' => e = .returned (.bool true) ∧ Below W.heap.size W W' := by
  have hr : Sy.Rep W (fun _ => True) [⟨g, .seg o (ndCells l), false⟩] W := ⟨rfl, rfl, rfl, Nat.le_refl _, fun _ _ _ => rfl, fun p hp => by
    rcases List.mem_singleton.1 hp with rfl
    exact ⟨hs, fun h => by cases h⟩, List.pairwise_singleton _ _⟩
  have hpos := hl.1.1
  rcases waysA b s l k with hw | hw | hw
  · refine Sy.calls_of (ctxAd_holds .bad g o c l b s k) mixed (sB_run g o c l b s k) hr fun ns => ?_
    simp only [sB_R, Sy.Res.holds]
    exact ⟨⟨hl, hw⟩, fun _ => ⟨⟨hl, hw⟩, fun _ => ⟨trivial, fun _ => fun W' hr => ⟨trivial, hr.below⟩⟩⟩⟩
  · refine Sy.calls_of (ctxAd_holds .reg g o c l b s k) mixed (sR_run g o c l b s k) hr fun ns => ?_
    simp only [sR_R, Sy.Res.holds]
    exact ⟨⟨hl, hw⟩, fun _ => ⟨⟨hl, hw⟩, fun _ => ⟨trivial, fun _ => fun W' hr => ⟨trivial, hr.below⟩⟩⟩⟩
  · have hn : (addrL b s l k).length ≤ 300000 := by
      have h1 := (lay_fits hw.1.2.2 (i := l.length - 1) (by omega) (24 + k)).2
      have h2 := numL_le (24 + k + 1) (s - 1)
      have h3 := numL_le 29 (65536 + 8 * b)
      simp only [addrL, List.length_append, List.length_cons, List.length_nil]
      omega
    refine Sy.calls_of (ctxAd_holds .ok g o c l b s k) mixed (sO_run g o c l b s k) hr fun ns => ?_
    simp only [sO_R, Sy.Res.holds, Sy.b_and, Sy.b_or, Sy.b_not, Sy.b_f, Sy.b_and', Sy.b_or', Sy.q_lt, Sy.q_le, Sy.q_eq, Sy.b_tt, Sy.b_ft, not_true_eq_false, not_false_eq_true, decide_true]
    refine ⟨⟨hl, hw⟩, fun _ => ⟨⟨hl, hw⟩, fun _ => ⟨?_, fun _ => ⟨fun _ => ⟨trivial, fun _ => fun W' hr => ⟨trivial, hr.below⟩⟩, fun h => absurd ⟨trivial, trivial⟩ h⟩⟩⟩⟩
    show (addrL b s l k).length ≤ _
    omega

theorem addrs_none (A : Option Addr) (c : Nat) (b s k : Int) (W : World) : Calls Try.prog fAddrs (addrsArgs b s (.slice A 0 c) k) W fun e W' => e = .returned (.bool true) ∧ Below W.heap.size W W' := by
  by_cases hw : zeroOk b s k
  · have h3 := numL_le 29 (65536 + 8 * b)
    refine Sy.calls_of (ctxAe_holds .ok A c b s k) mixed (sEO_run A c b s k) (Sy.rep_start W) fun ns => ?_
    simp only [sEO_R, Sy.Res.holds, Sy.b_and, Sy.b_or, Sy.b_not, Sy.b_f, Sy.b_and', Sy.b_or', Sy.q_lt, Sy.q_le, Sy.q_eq, Sy.b_tt, Sy.b_ft, not_true_eq_false, not_false_eq_true, decide_true]
    refine ⟨hw, fun _ => ⟨hw, fun _ => ⟨?_, fun _ => ⟨fun _ => ⟨trivial, fun _ => fun W' hr => ⟨trivial, hr.below⟩⟩, fun h => absurd ⟨trivial, trivial⟩ h⟩⟩⟩⟩
    show (numL 29 (65536 + 8 * b)).length ≤ _
    omega
  · refine Sy.calls_of (ctxAe_holds .bad A c b s k) mixed (sEB_run A c b s k) (Sy.rep_start W) fun ns => ?_
    simp only [sEB_R, Sy.Res.holds]
    exact ⟨hw, fun _ => ⟨hw, fun _ => ⟨trivial, fun _ => fun W' hr => ⟨trivial, hr.below⟩⟩⟩⟩

end Go.Proofs.Ytgaejhhipnpopaa
