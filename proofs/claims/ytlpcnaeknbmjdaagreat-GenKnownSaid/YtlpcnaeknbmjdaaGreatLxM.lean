/-
  The reference's lexer: names; a text's bytes as a string.
-/
import Derived.Test.YtlpcnaeknbmjdaaGreatLxN
namespace Go.Proofs.YtlpcnaeknbmjdaaGreat
set_option linter.unusedVariables false
set_option linter.unusedSimpArgs false
open Go Go.RowKit
open Sy (Let Blk)

abbrev fLex : FuncId := 43
noncomputable def bodyNm : Code := Sy.loopBody Tryz.f43 1

/-- Some bytes of a text. -/
def txt (bs : List Nat) (x m : Nat) : ByteArray := ⟨⟨((bs.drop x).take m).map UInt8.ofNat⟩⟩

def Sy.offV (v : Value) : Nat := match v with
  | .slice (some ⟨_, o, _⟩) _ _ => o
  | _ => 0
def Sy.lenV (v : Value) : Nat := match v with
  | .slice _ n _ => n
  | _ => 0

def OkC (g : Nat) (bs : List Nat) (v : Value) : Prop := ascii bs ∧ ∃ x m c, v = .slice (some ⟨g, x, none⟩) m c ∧ x + m ≤ bs.length
noncomputable def cvK (g : Nat) (bs : List Nat) (v : Value) : Sy.OpK := ⟨Sy.opV (convert 54 9 v), OkC g bs v, ⟨⟨[(g, .seg 0 (bcells bs))], [], 0⟩, [(⟨fun _ => True, fun _ => []⟩, fun _ => some (.string (txt bs (Sy.offV v) (Sy.lenV v))))]⟩⟩

theorem push_bytes (l : List Nat) (s : ByteArray) : (l.map fun b => Int.ofNat b).foldl (fun r n => r.push (UInt8.ofNat n.toNat)) s = ⟨⟨s.data.toList ++ l.map UInt8.ofNat⟩⟩ := by
  induction l generalizing s with
  | nil => simp
  | cons b l ih =>
    simp only [List.map_cons, List.foldl_cons]
    rw [ih]
    have : (s.push (UInt8.ofNat (Int.ofNat b).toNat)).data.toList = s.data.toList ++ [UInt8.ofNat b] := by
      cases s with
      | mk d => simp [ByteArray.push]
    rw [this]
    simp

theorem cvK_meets (g : Nat) (bs : List Nat) (v : Value) : (cvK g bs v).meets Tryz.prog := by
  rintro ⟨ha, x, m, c, rfl, hx⟩ W hpre
  refine ⟨_, List.mem_singleton_self _, [], W, ?_, rfl, trivial, rfl, rfl, rfl, Nat.le_refl _, fun _ _ _ => rfl, fun p hp => (by cases hp), List.nodup_nil⟩
  show (Sy.opV (convert _ _ _)).run Tryz.prog W = .ok (.value (.string (txt bs x m))) W
  refine Sy.opV_run ?_
  rw [run_convert_bytes_string W _ _ 5 _ _ _ Tryz.underlying54 Tryz.underlying5 Tryz.underlying9]
  have hl : (loadCells ⟨g, x, none⟩ m).run Tryz.prog W = .ok ((((bs.drop x).take m).map fun b => Int.ofNat b).map (Value.int .u8)).toArray W := by
    have hc : ∀ (j : Nat) (u : Value), ((((bs.drop x).take m).map fun b => Int.ofNat b).map (Value.int .u8))[j]? = some u → (Sy.Cont.seg 0 (bcells bs)).at (x + j) = some u := fun j u hu => by
      simp only [List.map_map, List.getElem?_map, Option.map_eq_some_iff] at hu
      obtain ⟨b, hb, rfl⟩ := hu
      rw [List.getElem?_take] at hb
      split at hb
      · rw [List.getElem?_drop] at hb
        have := bcells_at hb
        rw [Nat.zero_add, Nat.mul_one] at this
        exact this
      · cases hb
    have := Sy.loadCells_run (P := Tryz.prog) (hpre.rd _ (List.mem_singleton_self _)) hc
    have e : ((((bs.drop x).take m).map fun b => Int.ofNat b).map (Value.int .u8)).length = m := by
      simp
      omega
    rw [e] at this
    exact this
  rw [run_bytesToString W _ _ _ _ hl, push_bytes]
  rfl

/-- How many letters and digits come first. -/
noncomputable def nameF (l : List Ru) : Nat := @List.rec Ru (fun _ => Nat) 0 (fun x _ ih => @Bool.rec (fun _ => Nat) (@Bool.rec (fun _ => Nat) 0 (Nat.succ ih) (dgF (Int.ofNat x.r) (Int.ofNat x.n))) (Nat.succ ih) (ltF (Int.ofNat x.r) (Int.ofNat x.n))) l

noncomputable def slNm (gl m cl k : Nat) (v0 v2 v3 v5 v7 v8 : Value) : List (Nat × Value) := [(0, v0), (2, v2), (3, v3), (4, .slice (some ⟨gl, 0, none⟩) m cl), (5, v5), (6, .int .i64 (Int.ofNat k)), (7, v7), (8, v8)]
noncomputable def ctxNm : Sy.Ctx := Sy.mkS [(fLetter, fun a _ => ruK ltC a), (fDigit, fun a _ => ruK dgC a)] [] []
theorem ctxNm_holds : ctxNm.holds Tryz.prog := Sy.mkS_holds (fun p hp a L => by
  rcases List.mem_cons.1 hp with rfl | hp
  · exact ruK_met ltC_met a
  rcases List.mem_singleton.1 hp with rfl
  exact ruK_met dgC_met a) (fun _ h => (by cases h)) (fun _ h => (by cases h))
def nmB_o : Sy.O := (Sy.O.steps [1, 0, 1, 1, 1, 1, 1, 1, 1, 0] (Sy.O.fork (Sy.O.steps [0, 0, 0, 0, 0] Sy.O.nil) (Sy.O.steps [0, 0, 1, 0, 0, 1, 1, 1, 1, 1, 1, 1, 0, 0] (Sy.O.fork Sy.O.nil Sy.O.nil))))
noncomputable def nmB_R (gl : Nat) (m : Nat) (cl : Nat) (k : Nat) (v0 : Value) (v2 : Value) (v3 : Value) (v5 : Value) (v7 : Value) (v8 : Value) (xs : List Value) (rest : List Value) (ns : Nat → Sy.Let) : Sy.Res (Exit × Nat × List Value × List Blk) := Sy.Res.need ((0 : Int) ≤ Int.ofNat k ∧ Int.ofNat k < (↑m : Int))
 (Sy.Res.need
 (∃ (i : Int),
 Sy.Cont.at (Sy.Cont.seg (0 : Nat) xs) ((0 : Nat) + Int.toNat (Int.ofNat k) * (5 : Nat)) =
 some (Value.int IntKind.i64 i))
 (Sy.Res.hyp
 (Sy.Cont.at (Sy.Cont.seg (0 : Nat) xs) ((0 : Nat) + Int.toNat (Int.ofNat k) * (5 : Nat)) =
 some (Value.int IntKind.i64 (Let.i (ns (0 : Nat)))))
 (Sy.Res.need
 (∃ (i : Int),
 Sy.Cont.at (Sy.Cont.seg (0 : Nat) xs) ((0 : Nat) + Int.toNat (Int.ofNat k) * (5 : Nat) + (1 : Nat)) =
 some (Value.int IntKind.i64 i))
 (Sy.Res.hyp
 (Sy.Cont.at (Sy.Cont.seg (0 : Nat) xs) ((0 : Nat) + Int.toNat (Int.ofNat k) * (5 : Nat) + (1 : Nat)) =
 some (Value.int IntKind.i64 (Let.i (ns (1 : Nat)))))
 (Sy.Res.need
 (∃ (i : Int),
 Sy.Cont.at (Sy.Cont.seg (0 : Nat) xs)
 ((0 : Nat) + Int.toNat (Int.ofNat k) * (5 : Nat) + (1 : Nat) + (1 : Nat)) =
 some (Value.int IntKind.i64 i))
 (Sy.Res.hyp
 (Sy.Cont.at (Sy.Cont.seg (0 : Nat) xs)
 ((0 : Nat) + Int.toNat (Int.ofNat k) * (5 : Nat) + (1 : Nat) + (1 : Nat)) =
 some (Value.int IntKind.i64 (Let.i (ns (2 : Nat)))))
 (Sy.Res.need
 (∃ (i : Int),
 Sy.Cont.at (Sy.Cont.seg (0 : Nat) xs)
 ((0 : Nat) + Int.toNat (Int.ofNat k) * (5 : Nat) + (1 : Nat) + (1 : Nat) + (1 : Nat)) =
 some (Value.int IntKind.i64 i))
 (Sy.Res.hyp
 (Sy.Cont.at (Sy.Cont.seg (0 : Nat) xs)
 ((0 : Nat) + Int.toNat (Int.ofNat k) * (5 : Nat) + (1 : Nat) + (1 : Nat) + (1 : Nat)) =
 some (Value.int IntKind.i64 (Let.i (ns (3 : Nat)))))
 (Sy.Res.need
 (∃ (i : Int),
 Sy.Cont.at (Sy.Cont.seg (0 : Nat) xs)
 ((0 : Nat) + Int.toNat (Int.ofNat k) * (5 : Nat) + (1 : Nat) + (1 : Nat) + (1 : Nat) +
 (1 : Nat)) =
 some (Value.int IntKind.i64 i))
 (Sy.Res.hyp
 (Sy.Cont.at (Sy.Cont.seg (0 : Nat) xs)
 ((0 : Nat) + Int.toNat (Int.ofNat k) * (5 : Nat) + (1 : Nat) + (1 : Nat) + (1 : Nat) +
 (1 : Nat)) =
 some (Value.int IntKind.i64 (Let.i (ns (4 : Nat)))))
 (Sy.Res.need True
 (Sy.Res.hyp True
 (Sy.Res.br (ltF (Let.i (ns (0 : Nat))) (Let.i (ns (2 : Nat))))
 (Sy.Res.leaf
 (Exit.normal, (137 : Nat),
 [v0, v2, v3, Value.slice (some (Addr.mk gl (0 : Nat) none)) m cl, v5,
 Value.int IntKind.i64 (Ex.wrapQ IntKind.i64 (Ex.addQ (Int.ofNat k) (1 : Int))), v7,
 v8],
 [Blk.mk gl (Sy.Cont.seg (0 : Nat) xs) false]))
 (Sy.Res.need ((0 : Int) ≤ Int.ofNat k ∧ Int.ofNat k < (↑m : Int))
 (Sy.Res.need
 (∃ (i : Int),
 Sy.Cont.at (Sy.Cont.seg (0 : Nat) xs)
 ((0 : Nat) + Int.toNat (Int.ofNat k) * (5 : Nat)) =
 some (Value.int IntKind.i64 i))
 (Sy.Res.hyp
 (Sy.Cont.at (Sy.Cont.seg (0 : Nat) xs)
 ((0 : Nat) + Int.toNat (Int.ofNat k) * (5 : Nat)) =
 some (Value.int IntKind.i64 (Let.i (ns (5 : Nat)))))
 (Sy.Res.need
 (∃ (i : Int),
 Sy.Cont.at (Sy.Cont.seg (0 : Nat) xs)
 ((0 : Nat) + Int.toNat (Int.ofNat k) * (5 : Nat) + (1 : Nat)) =
 some (Value.int IntKind.i64 i))
 (Sy.Res.hyp
 (Sy.Cont.at (Sy.Cont.seg (0 : Nat) xs)
 ((0 : Nat) + Int.toNat (Int.ofNat k) * (5 : Nat) + (1 : Nat)) =
 some (Value.int IntKind.i64 (Let.i (ns (6 : Nat)))))
 (Sy.Res.need
 (∃ (i : Int),
 Sy.Cont.at (Sy.Cont.seg (0 : Nat) xs)
 ((0 : Nat) + Int.toNat (Int.ofNat k) * (5 : Nat) + (1 : Nat) +
 (1 : Nat)) =
 some (Value.int IntKind.i64 i))
 (Sy.Res.hyp
 (Sy.Cont.at (Sy.Cont.seg (0 : Nat) xs)
 ((0 : Nat) + Int.toNat (Int.ofNat k) * (5 : Nat) + (1 : Nat) +
 (1 : Nat)) =
 some (Value.int IntKind.i64 (Let.i (ns (7 : Nat)))))
 (Sy.Res.need
 (∃ (i : Int),
 Sy.Cont.at (Sy.Cont.seg (0 : Nat) xs)
 ((0 : Nat) + Int.toNat (Int.ofNat k) * (5 : Nat) + (1 : Nat) +
 (1 : Nat) +
 (1 : Nat)) =
 some (Value.int IntKind.i64 i))
 (Sy.Res.hyp
 (Sy.Cont.at (Sy.Cont.seg (0 : Nat) xs)
 ((0 : Nat) + Int.toNat (Int.ofNat k) * (5 : Nat) + (1 : Nat) +
 (1 : Nat) +
 (1 : Nat)) =
 some (Value.int IntKind.i64 (Let.i (ns (8 : Nat)))))
 (Sy.Res.need
 (∃ (i : Int),
 Sy.Cont.at (Sy.Cont.seg (0 : Nat) xs)
 ((0 : Nat) + Int.toNat (Int.ofNat k) * (5 : Nat) + (1 : Nat) +
 (1 : Nat) +
 (1 : Nat) +
 (1 : Nat)) =
 some (Value.int IntKind.i64 i))
 (Sy.Res.hyp
 (Sy.Cont.at (Sy.Cont.seg (0 : Nat) xs)
 ((0 : Nat) + Int.toNat (Int.ofNat k) * (5 : Nat) + (1 : Nat) +
 (1 : Nat) +
 (1 : Nat) +
 (1 : Nat)) =
 some (Value.int IntKind.i64 (Let.i (ns (9 : Nat)))))
 (Sy.Res.need True
 (Sy.Res.hyp True
 (Sy.Res.br
 (bif false then true
 else dgF (Let.i (ns (5 : Nat))) (Let.i (ns (7 : Nat))))
 (Sy.Res.leaf
 (Exit.normal, (137 : Nat),
 [v0, v2, v3,
 Value.slice (some (Addr.mk gl (0 : Nat) none)) m cl, v5,
 Value.int IntKind.i64
 (Ex.wrapQ IntKind.i64
 (Ex.addQ (Int.ofNat k) (1 : Int))),
 v7, v8],
 [Blk.mk gl (Sy.Cont.seg (0 : Nat) xs) false]))
 (Sy.Res.leaf
 (Exit.exit (2 : Nat), (137 : Nat),
 [v0, v2, v3,
 Value.slice (some (Addr.mk gl (0 : Nat) none)) m cl, v5,
 Value.int IntKind.i64 (Int.ofNat k), v7, v8],
 [Blk.mk gl (Sy.Cont.seg (0 : Nat) xs)
 false])))))))))))))))))))))))))))))
theorem nmB_run (gl m cl k : Nat) (v0 v2 v3 v5 v7 v8 : Value) (xs : List Value) (rest : List Value) : Sy.Ran (Sy.pieceT Tryz.prog ctxNm 50 fLex bodyNm 137 (slNm gl m cl k v0 v2 v3 v5 v7 v8) rest [⟨gl, .seg 0 xs, false⟩] [0, 2, 3, 4, 5, 6, 7, 8]) nmB_o (nmB_R gl m cl k v0 v2 v3 v5 v7 v8 xs rest) := ⟨fun ns => by kernel_rfl, fun ns => by kernel_rfl⟩

theorem nameF_cons (x : Ru) (r : List Ru) : nameF (x :: r) = if ltF (Int.ofNat x.r) (Int.ofNat x.n) = true ∨ dgF (Int.ofNat x.r) (Int.ofNat x.n) = true then nameF r + 1 else 0 := by
  show @Bool.rec (fun _ => Nat) (@Bool.rec (fun _ => Nat) 0 (nameF r + 1) (dgF (Int.ofNat x.r) (Int.ofNat x.n))) (nameF r + 1) (ltF (Int.ofNat x.r) (Int.ofNat x.n)) = _
  cases ltF (Int.ofNat x.r) (Int.ofNat x.n) <;> cases dgF (Int.ofNat x.r) (Int.ofNat x.n) <;> rfl

theorem lt_end (r : Int) : ltF r (Int.ofNat 0) = false := rfl
theorem dg_end (r : Int) : dgF r (Int.ofNat 0) = false := rfl

theorem name_le {bs n l} (h : Tx bs n l) {k : Nat} (hk : k ≤ n) : k + nameF (l.drop k) ≤ n := by
  obtain ⟨m, hm⟩ : ∃ m, m = n - k := ⟨_, rfl⟩
  induction m generalizing k with
  | zero =>
    have : k = n := by omega
    subst this
    obtain ⟨x, hx, -, h3⟩ := h.get (Nat.le_refl k)
    rcases h3 with ⟨h4, -⟩ | ⟨-, -, h5⟩
    · omega
    · have hlt : k < l.length := by rw [h.len]; omega
      have hxe : l[k] = x := by rw [List.getElem?_eq_getElem hlt] at hx; injection hx
      rw [List.drop_eq_getElem_cons hlt, hxe, nameF_cons, if_neg (by rw [h5, lt_end, dg_end]; simp)]
      omega
  | succ m ih =>
    have hlt : k < l.length := by rw [h.len]; omega
    rw [List.drop_eq_getElem_cons hlt, nameF_cons]
    split
    · have := ih (k := k + 1) (by omega) (by omega)
      omega
    · omega

noncomputable def loopNm (n gl cl k0 : Nat) (bs : List Nat) (l : List Ru) (v0 v2 v3 v5 v7 v8 : Value) : Sy.LoopC :=
  ⟨.loop bodyNm, 137, slNm gl (n + 1) cl k0 v0 v2 v3 v5 v7 v8, Tx bs n l ∧ k0 ≤ n, ⟨[(gl, .seg 0 (ruCells l))], [], 0⟩,
    [(⟨fun _ => True, fun _ => []⟩, .exit 2, fun _ => slNm gl (n + 1) cl (k0 + nameF (l.drop k0)) v0 v2 v3 v5 v7 v8)]⟩

theorem loopNm_met (n gl cl k0 : Nat) (bs : List Nat) (l : List Ru) (v0 v2 v3 v5 v7 v8 : Value) : Sy.MeetsL Tryz.prog (loopNm n gl cl k0 bs l v0 v2 v3 v5 v7 v8) := by
  refine Sy.loop_of (n := 50) (fn := fLex) ctxNm_holds mixed (body := bodyNm) rfl [0, 2, 3, 4, 5, 6, 7, 8] (fun k : Nat => slNm gl (n + 1) cl k v0 v2 v3 v5 v7 v8) (fun _ => [⟨gl, .seg 0 (ruCells l), false⟩]) (fun k => k ≤ n ∧ Tx bs n l ∧ k + nameF (l.drop k) = k0 + nameF (l.drop k0)) (fun k => n - k)
    k0 (fun h => ⟨h.2, h.1, rfl⟩) (fun p hp => hp) [0] (by decide) rfl (o := fun _ => nmB_o) (R := fun k xs => nmB_R gl (n + 1) cl k v0 v2 v3 v5 v7 v8 (ruCells l) xs) (fun k xs _ => nmB_run gl (n + 1) cl k v0 v2 v3 v5 v7 v8 (ruCells l) xs) ?_
  rintro - k rest ⟨hk, hT, he⟩ ns
  obtain ⟨x, hx, hat, hc⟩ := hT.get hk
  obtain ⟨a0, a1, a2, a3, a4⟩ := ru_at hx
  have hlt : k < l.length := by rw [hT.len]; omega
  have hxe : l[k] = x := by rw [List.getElem?_eq_getElem hlt] at hx; injection hx
  rw [List.drop_eq_getElem_cons hlt, hxe, nameF_cons] at he
  have hsm := hT.small
  have hkn : ltF (Int.ofNat x.r) (Int.ofNat x.n) = true ∨ dgF (Int.ofNat x.r) (Int.ofNat x.n) = true → k < n := fun hb => by
    rcases hc with ⟨h, -⟩ | ⟨-, -, h⟩
    · exact h
    · rw [h, lt_end, dg_end] at hb
      simp at hb
  have next : (ltF (Int.ofNat x.r) (Int.ofNat x.n) = true ∨ dgF (Int.ofNat x.r) (Int.ofNat x.n) = true) → Sy.leafL (loopNm n gl cl k0 bs l v0 v2 v3 v5 v7 v8) [0, 2, 3, 4, 5, 6, 7, 8] (fun k : Nat => slNm gl (n + 1) cl k v0 v2 v3 v5 v7 v8) (fun _ => [⟨gl, .seg 0 (ruCells l), false⟩]) (fun k => k ≤ n ∧ Tx bs n l ∧ k + nameF (l.drop k) = k0 + nameF (l.drop k0)) (fun k => n - k) k
      (.normal, 137, [v0, v2, v3, .slice (some ⟨gl, 0, none⟩) (n + 1) cl, v5, .int .i64 (Ex.wrapQ .i64 (Ex.addQ (Int.ofNat k) 1)), v7, v8], [⟨gl, .seg 0 (ruCells l), false⟩]) := fun hb => by
    have hkn := hkn hb
    rw [if_pos hb] at he
    refine Sy.leafL_next (k + 1) rfl ⟨by omega, hT, by omega⟩ (by show n - (k + 1) < n - k; omega) ?_ [0] (by decide) rfl
    rw [w_inc (by omega)]
    rfl
  simp only [nmB_R, Sy.Res.holds, show Int.toNat (Int.ofNat k) = k from rfl, a0, a1, a2, a3, a4, Option.some.injEq, Value.int.injEq, true_and, exists_eq', cf_ft, Sy.b_f]
  have hr : (0 : Int) ≤ Int.ofNat k ∧ Int.ofNat k < ((n + 1 : Nat) : Int) := ⟨Int.natCast_nonneg k, lt_nat (by omega)⟩
  refine ⟨hr, fun h0 h1 h2 h3 h4 _ => ?_⟩
  rw [← h0, ← h2]
  refine ⟨fun hb => next (.inl hb), fun hb => ⟨hr, fun h5 h6 h7 h8 h9 _ => ?_⟩⟩
  rw [← h5, ← h7]
  refine ⟨fun hb2 => next (.inr hb2), fun hb2 => ?_⟩
  rw [if_neg (by rintro (h | h) <;> contradiction)] at he
  refine Sy.leafL_end 0 rfl rfl (by simp) rfl [] rfl [0, 1, 2, 3, 4, 5, 6, 7] ?_ [] (by decide) trivial trivial
  show slNm gl (n + 1) cl (k0 + nameF (l.drop k0)) v0 v2 v3 v5 v7 v8 = _
  rw [← he]
  rfl

end Go.Proofs.YtlpcnaeknbmjdaaGreat
