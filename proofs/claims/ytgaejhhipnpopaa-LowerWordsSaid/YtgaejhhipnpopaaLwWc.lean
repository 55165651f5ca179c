/-
  LowerWords: its loop; the call, explored.
-/
import Derived.Test.YtgaejhhipnpopaaLwWb
namespace Go.Proofs.Ytgaejhhipnpopaa
set_option linter.unusedVariables false
set_option linter.unusedSimpArgs false
open Go Go.RowKit
open Sy (Let Blk)

noncomputable def loopWd (ga n ca : Nat) (xs : List Value) (l : List I) : Sy.LoopC :=
  ⟨.loop bodyWd, 106, slWd ga n ca 0, (l.length = n ∧ n ≤ 1000000 ∧ xs = insCells l) ∧ ∀ i ∈ l, fitS i, ⟨[(ga, .seg 0 xs)], [], 0⟩, [(⟨fun _ => True, fun _ => []⟩, .exit 0, fun _ => [(10, .bool false)])]⟩

theorem loopWd_met (ga n ca : Nat) (xs : List Value) (l : List I) : Sy.MeetsL Try.prog (loopWd ga n ca xs l) := by
  refine Sy.loop_of (n := 60) (fn := fWords) ctxWd_holds mixed (body := bodyWd) rfl [10, 17, 18] (fun k : Nat => slWd ga n ca k) (fun _ => [⟨ga, .seg 0 xs, false⟩])
    (fun k => k ≤ n) (fun k => n - k)
    0 (fun h => Nat.zero_le _) (fun p hp => hp) [0] (by decide) rfl (o := fun _ => wl_o) (R := fun k rest => wl_R ga n ca k xs rest) (fun k rest _ => wl_run ga n ca k xs rest) ?_
  rintro ⟨⟨hn, hm, hx⟩, hfit⟩ k rest hk ns
  subst hx
  simp only [wl_R, Sy.Res.holds]
  refine ⟨fun hlt => ?_, fun hge => ?_⟩
  · have hlt : k < l.length := by
      rw [Sy.q_lt] at hlt
      omega
    have ea : l[k]? = some l[k] := List.getElem?_eq_getElem hlt
    obtain ⟨a0, a1, a2, a3, a4, a5⟩ := ins_at ea 0
    have hf : fitS l[k] := hfit _ (List.getElem_mem hlt)
    simp only [a0, a1, a2, a3, a4, a5, some_int, some_bool, exists_eq', true_and]
    generalize l[k] = x at *
    refine ⟨by omega, fun h0 h1 h2 h3 h4 h5 => ?_⟩
    simp only [← h0, ← h1, ← h2, ← h3, ← h4, ← h5]
    have hx : I.mk x.op x.rd x.rn x.rm x.imm x.cond = x := rfl
    simp only [hx]
    refine ⟨hf, fun _ => ⟨⟨x, hf, rfl⟩, fun _ => ⟨by omega, fun h7 h8 h9 h10 h11 h12 => ?_⟩⟩⟩
    simp only [← h7, ← h8, ← h9, ← h10, ← h11, ← h12, decS_word hf, Sy.b_and, Sy.b_or, Sy.b_not, Sy.b_f, Sy.b_and', Sy.b_or', Sy.q_lt, Sy.q_le, Sy.q_eq, Sy.b_tt, Sy.b_ft, not_true_eq_false, not_false_eq_true]
    refine ⟨fun hne => absurd hne (by simp), fun _ => Sy.leafL_next (k + 1) rfl (show k + 1 ≤ n by omega) (by show n - (k + 1) < n - k; omega) (by rw [Sy.inc_q k (by omega)]; rfl) [1] (by decide) rfl⟩
  · exact Sy.leafL_end 0 rfl rfl (by simp) rfl [] rfl [0] rfl [] List.nodup_nil trivial trivial

noncomputable def xNoW (g o c : Nat) (l : List Nd) (k : Int) (q : Nat) : Sy.CallC := ⟨fTX, txArgs g o c l k, lenOk l ∧ (badX l k ∧ q = 0 ∨ regX l k ∧ q = 29), ⟨[(g, .seg o (ndCells l))], [], 0⟩, [Sy.plainO (.tuple #[.slice none 0 0, .int .i64 (.ofNat (.succ q))])]⟩
theorem xNoW_met (g o c : Nat) (l : List Nd) (k : Int) (q : Nat) : Sy.Meets Try.prog (xNoW g o c l k q) := by
  rintro ⟨hl, ⟨h, rfl⟩ | ⟨h, rfl⟩⟩
  · exact txBad_met g o c l k ⟨hl, h⟩
  · exact txReg_met g o c l k ⟨hl, h⟩
noncomputable def adNoW (g o c : Nat) (l : List Nd) (b s k : Int) (q : Nat) : Sy.CallC := ⟨fAd, adArgs g o c l b s k, lenOk l ∧ (aBad b s l k ∧ q = 0 ∨ aReg b s l k ∧ q = 29), ⟨[(g, .seg o (ndCells l))], [], 0⟩, [Sy.plainO (.tuple #[.slice none 0 0, .int .i64 (.ofNat (.succ q))])]⟩
theorem adNoW_met (g o c : Nat) (l : List Nd) (b s k : Int) (q : Nat) : Sy.Meets Try.prog (adNoW g o c l b s k q) := by
  rintro ⟨hl, ⟨h, rfl⟩ | ⟨h, rfl⟩⟩
  · exact adW_met .bad g o c l b s k ⟨hl, h⟩
  · exact adW_met .reg g o c l b s k ⟨hl, h⟩
noncomputable def xE0W (A : Option Addr) (c : Nat) (k : Int) : Sy.CallC := ⟨fTX, #[.slice A 0 c, .int .i64 k], True, ⟨[], [], 0⟩, [Sy.plainO (.tuple #[.slice none 0 0, .int .i64 1])]⟩
def xe0W_o : Sy.O := (Sy.O.steps [0, 0, 0, 0, 0, 0, 0, 0, 0, 0, 0] Sy.O.nil)
noncomputable def xe0W_R (A : Option Addr) (c : Nat) (k : Int) (ns : Nat → Sy.Let) : Sy.Res (Value × List Blk) := Sy.Res.need True
 (Sy.Res.hyp True
 (Sy.Res.leaf (Value.tuple (Array.mk [Value.slice none (0 : Nat) (0 : Nat), Value.int IntKind.i64 (1 : Int)]), [])))
theorem xe0W_run (A : Option Addr) (c : Nat) (k : Int) : Sy.Ran (Sy.inT Try.prog (ctxE A c) 60 fTX (xE0W A c k).args [] Sy.noB) xe0W_o (xe0W_R A c k) := ⟨fun ns => by kernel_rfl, fun ns => by kernel_rfl⟩
theorem xE0W_met (A : Option Addr) (c : Nat) (k : Int) : Sy.Meets Try.prog (xE0W A c k) := by
  refine Sy.meets_of (ctxE_holds A c) mixed (xe0W_run A c k) fun hok ns => ?_
  simp only [xe0W_R, Sy.Res.holds]
  exact ⟨trivial, fun _ => Sy.plainO_leaf (List.mem_singleton_self _) rfl rfl⟩

noncomputable def numO (N : List I) (r v : Int) : Sy.CallC := ⟨28, #[.int .i64 r, .int .u64 v], goodU v ∧ N = numL r v, ⟨[], [], 2⟩, [Sy.rowO tI 6 N.length (insCells N) id]⟩
theorem numO_met (N : List I) (r v : Int) : Sy.Meets Try.prog (numO N r v) := by
  rintro ⟨h, rfl⟩
  exact numC_met r v h
noncomputable def aeZ' (Z : List I) (A : Option Addr) (c : Nat) (b s k : Int) : Sy.CallC := ⟨fAd, aeArgs A c b s k, zeroOk b s k ∧ Z = numL 29 (65536 + 8 * b), ⟨[], [], 2⟩, [Sy.rowO tI 6 Z.length (insCells Z) fun v => .tuple #[v, .int .i64 0]]⟩
theorem aeZ'_met (Z : List I) (A : Option Addr) (c : Nat) (b s k : Int) : Sy.Meets Try.prog (aeZ' Z A c b s k) := by
  rintro ⟨h, rfl⟩
  exact aeW_met .ok A c b s k h
noncomputable def Sy.aeWw (w : WayE) (Z : List I) (A : Option Addr) (c : Nat) (b s k : Int) : Sy.CallC := match w with
  | .bad => aeBad fAd (aeArgs A c b s k) b s k
  | .ok => aeZ' Z A c b s k
noncomputable def Sy.xWw (w : Bool) (g o c : Nat) (l : List Nd) (k : Int) (q : Nat) : Sy.CallC := match w with
  | true => xOk fTX (txArgs g o c l k) g o l k
  | false => xNoW g o c l k q
noncomputable def Sy.adVw (w : Bool) (g o c : Nat) (l : List Nd) (b s k : Int) (q : Nat) : Sy.CallC := match w with
  | true => adOk fAd (adArgs g o c l b s k) g o l b s k
  | false => adNoW g o c l b s k q
def wordsArgs (e : Value) (k b s v : Int) : Array Value := #[e, .int .i64 k, .int .i64 b, .int .i64 s, .int .u64 v]
noncomputable def ctxWv (w w' : Bool) (g o c : Nat) (l : List Nd) (k b s : Int) (q q' : Nat) (N : List I) (xs : List Value) (L : List I) : Sy.Ctx := Sy.mkS [(fAwake, fun _ _ => awC), (fTX, fun _ _ => Sy.xWw w g o c l k q), (fAd, fun _ _ => Sy.adVw w' g o c l b s k q'), (28, fun a _ => numO N (Sy.argI a 0) (Sy.argI a 1))]
  [(fWords, fun a _ => loopWd (Sy.ptrN (a.get 17)) (Sy.lenV (a.get 17)) (Sy.capN (a.get 17)) xs L)] []
noncomputable def ctxWw (w : WayE) (A : Option Addr) (c : Nat) (k b s : Int) (N Z : List I) (xs : List Value) (L : List I) : Sy.Ctx := Sy.mkS [(fAwake, fun _ _ => awC), (fTX, fun _ _ => xE0W A c k), (fAd, fun _ _ => Sy.aeWw w Z A c b s k), (28, fun a _ => numO N (Sy.argI a 0) (Sy.argI a 1))]
  [(fWords, fun a _ => loopWd (Sy.ptrN (a.get 17)) (Sy.lenV (a.get 17)) (Sy.capN (a.get 17)) xs L)] []
def wvtt_o : Sy.O := (Sy.O.steps [0, 0, 0, 0, 0, 1, 0, 0, 0, 0, 0, 0, 0, 0, 0, 0, 0, 0, 0, 0, 0, 0, 0, 0, 0, 0, 3, 1, 1, 1, 1, 3, 0, 3, 1, 0, 1, 1, 1, 3, 0, 0, 3, 1, 0, 1, 1, 1, 3, 0, 0, 0] Sy.O.nil)
noncomputable def wvtt_R (g : Nat) (o : Nat) (c : Nat) (l : List Nd) (k : Int) (b : Int) (s : Int) (v : Int) (q : Nat) (q' : Nat) (N : List I) (ns : Nat → Sy.Let) : Sy.Res (Value × List Blk) := Sy.Res.need True
 (Sy.Res.hyp True
 (Sy.Res.need (lenOk l ∧ okX l k)
 (Sy.Res.hyp (Nat.le (List.length (outL l k)) (Let.n (ns (1 : Nat))))
 (Sy.Res.need (lenOk l ∧ aOk b s l k)
 (Sy.Res.hyp (Nat.le (List.length (addrL b s l k)) (Let.n (ns (3 : Nat))))
 (Sy.Res.need (goodU v ∧ N = numL (24 : Int) v)
 (Sy.Res.hyp (Nat.le (List.length N) (Let.n (ns (5 : Nat))))
 (Sy.Res.need
 ((0 : Nat) = (0 : Nat) ∧
 List.length (insCells (outL l k)) = List.length (outL l k) * (6 : Nat) ∧
 ∀ (u : Value), u ∈ insCells (outL l k) → Value.oneCell' u = true)
 (Sy.Res.need ((1 : Nat) ≤ List.length (outL l k))
 (Sy.Res.need ((0 : Nat) + List.length (outL l k) ≤ (9223372036854775807 : Nat))
 (Sy.Res.need (((0 : Nat) + List.length (outL l k)) * (48 : Nat) ≤ (140737488355328 : Nat))
 (Sy.Res.hyp (Nat.le ((0 : Nat) + List.length (outL l k)) (Let.n (ns (7 : Nat))))
 (Sy.Res.need
 ((0 : Nat) = (0 : Nat) ∧
 List.length (insCells (addrL b s l k)) = List.length (addrL b s l k) * (6 : Nat) ∧
 ∀ (u : Value), u ∈ insCells (addrL b s l k) → Value.oneCell' u = true)
 (Sy.Res.need ((1 : Nat) ≤ List.length (addrL b s l k))
 (Sy.Res.need
 ((0 : Nat) + List.length (outL l k) + List.length (addrL b s l k) ≤
 (9223372036854775807 : Nat))
 (Sy.Res.need
 (((0 : Nat) + List.length (outL l k) + List.length (addrL b s l k)) * (48 : Nat) ≤
 (140737488355328 : Nat))
 (Sy.Res.hyp
 (Nat.le ((0 : Nat) + List.length (outL l k) + List.length (addrL b s l k))
 (Let.n (ns (9 : Nat))))
 (Sy.Res.need
 ((0 : Nat) = (0 : Nat) ∧
 List.length (insCells N) = List.length N * (6 : Nat) ∧
 ∀ (u : Value), u ∈ insCells N → Value.oneCell' u = true)
 (Sy.Res.need ((1 : Nat) ≤ List.length N)
 (Sy.Res.need
 ((0 : Nat) + List.length (outL l k) + List.length (addrL b s l k) +
 List.length N ≤
 (9223372036854775807 : Nat))
 (Sy.Res.need
 (((0 : Nat) + List.length (outL l k) + List.length (addrL b s l k) +
 List.length N) *
 (48 : Nat) ≤
 (140737488355328 : Nat))
 (Sy.Res.hyp
 (Nat.le
 ((0 : Nat) + List.length (outL l k) + List.length (addrL b s l k) +
 List.length N)
 (Let.n (ns (11 : Nat))))
 (Sy.Res.need
 ((List.length (outL l k ++ (addrL b s l k ++ N)) =
 (0 : Nat) + List.length (outL l k) + List.length (addrL b s l k) +
 List.length N ∧
 (0 : Nat) + List.length (outL l k) + List.length (addrL b s l k) +
 List.length N ≤
 (1000000 : Nat) ∧
 insCells (outL l k) ++ insCells (addrL b s l k) ++ insCells N =
 insCells (outL l k ++ (addrL b s l k ++ N))) ∧
 ∀ (i : I), i ∈ outL l k ++ (addrL b s l k ++ N) → fitS i)
 (Sy.Res.hyp True
 (Sy.Res.leaf (Value.bool true, []))))))))))))))))))))))))))
theorem wvtt_run (g o c : Nat) (l : List Nd) (k b s v : Int) (q q' : Nat) (N : List I) : Sy.Ran (Sy.inT Try.prog (ctxWv true true g o c l k b s q q' N ((insCells (outL l k) ++ insCells (addrL b s l k)) ++ insCells N) (outL l k ++ (addrL b s l k ++ N))) 60 fWords (wordsArgs (.slice (some ⟨g, o, none⟩) l.length c) k b s v) [⟨g, .seg o (ndCells l), false⟩] Sy.noB) wvtt_o (wvtt_R g o c l k b s v q q' N) := ⟨fun ns => by kernel_rfl, fun ns => by kernel_rfl⟩
def wvtf_o : Sy.O := (Sy.O.steps [0, 0, 0, 0, 0, 1, 0, 0, 0, 0, 0, 0, 0, 0, 0, 0, 0, 0, 0, 0, 0, 0, 0, 0, 0, 0, 2, 1, 1, 1, 1, 2, 0, 0, 0, 0, 2, 1, 0, 1, 1, 1, 2, 0, 0, 0] Sy.O.nil)
noncomputable def wvtf_R (g : Nat) (o : Nat) (c : Nat) (l : List Nd) (k : Int) (b : Int) (s : Int) (v : Int) (q : Nat) (q' : Nat) (N : List I) (ns : Nat → Sy.Let) : Sy.Res (Value × List Blk) := Sy.Res.need True
 (Sy.Res.hyp True
 (Sy.Res.need (lenOk l ∧ okX l k)
 (Sy.Res.hyp (Nat.le (List.length (outL l k)) (Let.n (ns (1 : Nat))))
 (Sy.Res.need (lenOk l ∧ (aBad b s l k ∧ q' = (0 : Nat) ∨ aReg b s l k ∧ q' = (29 : Nat)))
 (Sy.Res.hyp True
 (Sy.Res.need (goodU v ∧ N = numL (24 : Int) v)
 (Sy.Res.hyp (Nat.le (List.length N) (Let.n (ns (3 : Nat))))
 (Sy.Res.need
 ((0 : Nat) = (0 : Nat) ∧
 List.length (insCells (outL l k)) = List.length (outL l k) * (6 : Nat) ∧
 ∀ (u : Value), u ∈ insCells (outL l k) → Value.oneCell' u = true)
 (Sy.Res.need ((1 : Nat) ≤ List.length (outL l k))
 (Sy.Res.need ((0 : Nat) + List.length (outL l k) ≤ (9223372036854775807 : Nat))
 (Sy.Res.need (((0 : Nat) + List.length (outL l k)) * (48 : Nat) ≤ (140737488355328 : Nat))
 (Sy.Res.hyp (Nat.le ((0 : Nat) + List.length (outL l k)) (Let.n (ns (5 : Nat))))
 (Sy.Res.hyp True
 (Sy.Res.need
 ((0 : Nat) = (0 : Nat) ∧
 List.length (insCells N) = List.length N * (6 : Nat) ∧
 ∀ (u : Value), u ∈ insCells N → Value.oneCell' u = true)
 (Sy.Res.need ((1 : Nat) ≤ List.length N)
 (Sy.Res.need
 ((0 : Nat) + List.length (outL l k) + List.length N ≤ (9223372036854775807 : Nat))
 (Sy.Res.need
 (((0 : Nat) + List.length (outL l k) + List.length N) * (48 : Nat) ≤
 (140737488355328 : Nat))
 (Sy.Res.hyp
 (Nat.le ((0 : Nat) + List.length (outL l k) + List.length N)
 (Let.n (ns (7 : Nat))))
 (Sy.Res.need
 ((List.length (outL l k ++ N) =
 (0 : Nat) + List.length (outL l k) + List.length N ∧
 (0 : Nat) + List.length (outL l k) + List.length N ≤ (1000000 : Nat) ∧
 insCells (outL l k) ++ insCells N = insCells (outL l k ++ N)) ∧
 ∀ (i : I), i ∈ outL l k ++ N → fitS i)
 (Sy.Res.hyp True (Sy.Res.leaf (Value.bool true, []))))))))))))))))))))))
theorem wvtf_run (g o c : Nat) (l : List Nd) (k b s v : Int) (q q' : Nat) (N : List I) : Sy.Ran (Sy.inT Try.prog (ctxWv true false g o c l k b s q q' N (insCells (outL l k) ++ insCells N) (outL l k ++ N)) 60 fWords (wordsArgs (.slice (some ⟨g, o, none⟩) l.length c) k b s v) [⟨g, .seg o (ndCells l), false⟩] Sy.noB) wvtf_o (wvtf_R g o c l k b s v q q' N) := ⟨fun ns => by kernel_rfl, fun ns => by kernel_rfl⟩
def wvft_o : Sy.O := (Sy.O.steps [0, 0, 0, 0, 0, 0, 0, 0, 0, 0, 0, 0, 0, 0, 0, 0, 0, 0, 0, 0, 0, 0, 0, 0, 0, 1, 0, 1, 1, 1, 1, 1, 1, 0, 2, 1, 0, 1, 1, 1, 2, 0, 0, 0] Sy.O.nil)
noncomputable def wvft_R (g : Nat) (o : Nat) (c : Nat) (l : List Nd) (k : Int) (b : Int) (s : Int) (v : Int) (q : Nat) (q' : Nat) (N : List I) (ns : Nat → Sy.Let) : Sy.Res (Value × List Blk) := Sy.Res.need True
 (Sy.Res.hyp True
 (Sy.Res.need (lenOk l ∧ (badX l k ∧ q = (0 : Nat) ∨ regX l k ∧ q = (29 : Nat)))
 (Sy.Res.hyp True
 (Sy.Res.need (lenOk l ∧ aOk b s l k)
 (Sy.Res.hyp (Nat.le (List.length (addrL b s l k)) (Let.n (ns (1 : Nat))))
 (Sy.Res.need (goodU v ∧ N = numL (24 : Int) v)
 (Sy.Res.hyp (Nat.le (List.length N) (Let.n (ns (3 : Nat))))
 (Sy.Res.need
 ((0 : Nat) = (0 : Nat) ∧
 List.length (insCells (addrL b s l k)) = List.length (addrL b s l k) * (6 : Nat) ∧
 ∀ (u : Value), u ∈ insCells (addrL b s l k) → Value.oneCell' u = true)
 (Sy.Res.need ((1 : Nat) ≤ List.length (addrL b s l k))
 (Sy.Res.need ((0 : Nat) + List.length (addrL b s l k) ≤ (9223372036854775807 : Nat))
 (Sy.Res.need (((0 : Nat) + List.length (addrL b s l k)) * (48 : Nat) ≤ (140737488355328 : Nat))
 (Sy.Res.hyp (Nat.le ((0 : Nat) + List.length (addrL b s l k)) (Let.n (ns (5 : Nat))))
 (Sy.Res.need
 ((0 : Nat) = (0 : Nat) ∧
 List.length (insCells N) = List.length N * (6 : Nat) ∧
 ∀ (u : Value), u ∈ insCells N → Value.oneCell' u = true)
 (Sy.Res.need ((1 : Nat) ≤ List.length N)
 (Sy.Res.need
 ((0 : Nat) + List.length (addrL b s l k) + List.length N ≤ (9223372036854775807 : Nat))
 (Sy.Res.need
 (((0 : Nat) + List.length (addrL b s l k) + List.length N) * (48 : Nat) ≤
 (140737488355328 : Nat))
 (Sy.Res.hyp
 (Nat.le ((0 : Nat) + List.length (addrL b s l k) + List.length N)
 (Let.n (ns (7 : Nat))))
 (Sy.Res.need
 ((List.length (addrL b s l k ++ N) =
 (0 : Nat) + List.length (addrL b s l k) + List.length N ∧
 (0 : Nat) + List.length (addrL b s l k) + List.length N ≤ (1000000 : Nat) ∧
 insCells (addrL b s l k) ++ insCells N = insCells (addrL b s l k ++ N)) ∧
 ∀ (i : I), i ∈ addrL b s l k ++ N → fitS i)
 (Sy.Res.hyp True (Sy.Res.leaf (Value.bool true, [])))))))))))))))))))))
theorem wvft_run (g o c : Nat) (l : List Nd) (k b s v : Int) (q q' : Nat) (N : List I) : Sy.Ran (Sy.inT Try.prog (ctxWv false true g o c l k b s q q' N (insCells (addrL b s l k) ++ insCells N) (addrL b s l k ++ N)) 60 fWords (wordsArgs (.slice (some ⟨g, o, none⟩) l.length c) k b s v) [⟨g, .seg o (ndCells l), false⟩] Sy.noB) wvft_o (wvft_R g o c l k b s v q q' N) := ⟨fun ns => by kernel_rfl, fun ns => by kernel_rfl⟩
def wvff_o : Sy.O := (Sy.O.steps [0, 0, 0, 0, 0, 0, 0, 0, 0, 0, 0, 0, 0, 0, 0, 0, 0, 0, 0, 0, 0, 0, 0, 0, 0, 1, 1, 0, 0, 1, 1, 1, 1, 0, 0, 0] Sy.O.nil)
noncomputable def wvff_R (g : Nat) (o : Nat) (c : Nat) (l : List Nd) (k : Int) (b : Int) (s : Int) (v : Int) (q : Nat) (q' : Nat) (N : List I) (ns : Nat → Sy.Let) : Sy.Res (Value × List Blk) := Sy.Res.need True
 (Sy.Res.hyp True
 (Sy.Res.need (lenOk l ∧ (badX l k ∧ q = (0 : Nat) ∨ regX l k ∧ q = (29 : Nat)))
 (Sy.Res.hyp True
 (Sy.Res.need (lenOk l ∧ (aBad b s l k ∧ q' = (0 : Nat) ∨ aReg b s l k ∧ q' = (29 : Nat)))
 (Sy.Res.hyp True
 (Sy.Res.need (goodU v ∧ N = numL (24 : Int) v)
 (Sy.Res.hyp (Nat.le (List.length N) (Let.n (ns (1 : Nat))))
 (Sy.Res.need
 ((0 : Nat) = (0 : Nat) ∧
 List.length (insCells N) = List.length N * (6 : Nat) ∧
 ∀ (u : Value), u ∈ insCells N → Value.oneCell' u = true)
 (Sy.Res.need ((1 : Nat) ≤ List.length N)
 (Sy.Res.need ((0 : Nat) + List.length N ≤ (9223372036854775807 : Nat))
 (Sy.Res.need (((0 : Nat) + List.length N) * (48 : Nat) ≤ (140737488355328 : Nat))
 (Sy.Res.hyp (Nat.le ((0 : Nat) + List.length N) (Let.n (ns (3 : Nat))))
 (Sy.Res.need
 ((List.length N = (0 : Nat) + List.length N ∧
 (0 : Nat) + List.length N ≤ (1000000 : Nat) ∧ insCells N = insCells N) ∧
 ∀ (i : I), i ∈ N → fitS i)
 (Sy.Res.hyp True (Sy.Res.leaf (Value.bool true, []))))))))))))))))
theorem wvff_run (g o c : Nat) (l : List Nd) (k b s v : Int) (q q' : Nat) (N : List I) : Sy.Ran (Sy.inT Try.prog (ctxWv false false g o c l k b s q q' N (insCells N) N) 60 fWords (wordsArgs (.slice (some ⟨g, o, none⟩) l.length c) k b s v) [⟨g, .seg o (ndCells l), false⟩] Sy.noB) wvff_o (wvff_R g o c l k b s v q q' N) := ⟨fun ns => by kernel_rfl, fun ns => by kernel_rfl⟩
def wwb_o : Sy.O := (Sy.O.steps [0, 0, 0, 0, 0, 0, 0, 0, 0, 0, 0, 0, 0, 0, 0, 0, 0, 0, 0, 0, 0, 0, 0, 1, 1, 0, 0, 1, 1, 1, 1, 0, 0, 0] Sy.O.nil)
noncomputable def wwb_R (A : Option Addr) (c : Nat) (k : Int) (b : Int) (s : Int) (v : Int) (N : List I) (Z : List I) (ns : Nat → Sy.Let) : Sy.Res (Value × List Blk) := Sy.Res.need True
 (Sy.Res.hyp True
 (Sy.Res.need True
 (Sy.Res.hyp True
 (Sy.Res.need (zeroOk b s k → False)
 (Sy.Res.hyp True
 (Sy.Res.need (goodU v ∧ N = numL (24 : Int) v)
 (Sy.Res.hyp (Nat.le (List.length N) (Let.n (ns (1 : Nat))))
 (Sy.Res.need
 ((0 : Nat) = (0 : Nat) ∧
 List.length (insCells N) = List.length N * (6 : Nat) ∧
 ∀ (u : Value), u ∈ insCells N → Value.oneCell' u = true)
 (Sy.Res.need ((1 : Nat) ≤ List.length N)
 (Sy.Res.need ((0 : Nat) + List.length N ≤ (9223372036854775807 : Nat))
 (Sy.Res.need (((0 : Nat) + List.length N) * (48 : Nat) ≤ (140737488355328 : Nat))
 (Sy.Res.hyp (Nat.le ((0 : Nat) + List.length N) (Let.n (ns (3 : Nat))))
 (Sy.Res.need
 ((List.length N = (0 : Nat) + List.length N ∧
 (0 : Nat) + List.length N ≤ (1000000 : Nat) ∧ insCells N = insCells N) ∧
 ∀ (i : I), i ∈ N → fitS i)
 (Sy.Res.hyp True (Sy.Res.leaf (Value.bool true, []))))))))))))))))
theorem wwb_run (A : Option Addr) (c : Nat) (k b s v : Int) (N Z : List I) : Sy.Ran (Sy.inT Try.prog (ctxWw .bad A c k b s N Z (insCells N) N) 60 fWords (wordsArgs (.slice A 0 c) k b s v) [] Sy.noB) wwb_o (wwb_R A c k b s v N Z) := ⟨fun ns => by kernel_rfl, fun ns => by kernel_rfl⟩
def wwo_o : Sy.O := (Sy.O.steps [0, 0, 0, 0, 0, 0, 0, 0, 0, 0, 0, 0, 0, 0, 0, 0, 0, 0, 0, 0, 0, 0, 0, 1, 0, 1, 1, 1, 1, 1, 1, 0, 2, 1, 0, 1, 1, 1, 2, 0, 0, 0] Sy.O.nil)
noncomputable def wwo_R (A : Option Addr) (c : Nat) (k : Int) (b : Int) (v : Int) (N : List I) (Z : List I) (ns : Nat → Sy.Let) : Sy.Res (Value × List Blk) := Sy.Res.need True
 (Sy.Res.hyp True
 (Sy.Res.need True
 (Sy.Res.hyp True
 (Sy.Res.need (zeroOk b (0 : Int) k ∧ Z = numL (29 : Int) ((65536 : Int) + (8 : Int) * b))
 (Sy.Res.hyp (Nat.le (List.length Z) (Let.n (ns (1 : Nat))))
 (Sy.Res.need (goodU v ∧ N = numL (24 : Int) v)
 (Sy.Res.hyp (Nat.le (List.length N) (Let.n (ns (3 : Nat))))
 (Sy.Res.need
 ((0 : Nat) = (0 : Nat) ∧
 List.length (insCells Z) = List.length Z * (6 : Nat) ∧
 ∀ (u : Value), u ∈ insCells Z → Value.oneCell' u = true)
 (Sy.Res.need ((1 : Nat) ≤ List.length Z)
 (Sy.Res.need ((0 : Nat) + List.length Z ≤ (9223372036854775807 : Nat))
 (Sy.Res.need (((0 : Nat) + List.length Z) * (48 : Nat) ≤ (140737488355328 : Nat))
 (Sy.Res.hyp (Nat.le ((0 : Nat) + List.length Z) (Let.n (ns (5 : Nat))))
 (Sy.Res.need
 ((0 : Nat) = (0 : Nat) ∧
 List.length (insCells N) = List.length N * (6 : Nat) ∧
 ∀ (u : Value), u ∈ insCells N → Value.oneCell' u = true)
 (Sy.Res.need ((1 : Nat) ≤ List.length N)
 (Sy.Res.need ((0 : Nat) + List.length Z + List.length N ≤ (9223372036854775807 : Nat))
 (Sy.Res.need
 (((0 : Nat) + List.length Z + List.length N) * (48 : Nat) ≤ (140737488355328 : Nat))
 (Sy.Res.hyp
 (Nat.le ((0 : Nat) + List.length Z + List.length N) (Let.n (ns (7 : Nat))))
 (Sy.Res.need
 ((List.length (Z ++ N) = (0 : Nat) + List.length Z + List.length N ∧
 (0 : Nat) + List.length Z + List.length N ≤ (1000000 : Nat) ∧
 insCells Z ++ insCells N = insCells (Z ++ N)) ∧
 ∀ (i : I), i ∈ Z ++ N → fitS i)
 (Sy.Res.hyp True (Sy.Res.leaf (Value.bool true, [])))))))))))))))))))))
theorem wwo_run (A : Option Addr) (c : Nat) (k b v : Int) (N Z : List I) : Sy.Ran (Sy.inT Try.prog (ctxWw .ok A c k b 0 N Z (insCells Z ++ insCells N) (Z ++ N)) 60 fWords (wordsArgs (.slice A 0 c) k b 0 v) [] Sy.noB) wwo_o (wwo_R A c k b v N Z) := ⟨fun ns => by kernel_rfl, fun ns => by kernel_rfl⟩

end Go.Proofs.Ytgaejhhipnpopaa
