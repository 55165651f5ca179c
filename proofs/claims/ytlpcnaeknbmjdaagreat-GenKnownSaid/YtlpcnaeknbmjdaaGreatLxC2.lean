/-
  The reference's lexer: the call; contracts for closed runs.
-/
import Derived.Test.YtlpcnaeknbmjdaaGreatLxL
import Derived.Test.YtlpcnaeknbmjdaaGreatLxK
import Derived.Test.YtlpcnaeknbmjdaaGreatSyK
namespace Go.Proofs.YtlpcnaeknbmjdaaGreat
set_option linter.unusedVariables false
set_option linter.unusedSimpArgs false
open Go Go.RowKit
open Sy (Let Blk)

def wLex (v : Value) : Value := .tuple #[v, .agg #[.int .i64 0, .int .i64 0, .int .i64 0]]

noncomputable def lxC (g n cb : Nat) (bs : List Nat) (ts : List Tok) : Sy.CallC :=
  ⟨fLex, #[.slice (some ⟨g, 0, none⟩) n cb], (n = bs.length ∧ ascii bs ∧ n ≤ 65536 ∧ 47 ∉ bs) ∧ n ≤ cb ∧ lexS (n + 2) bs (runesF bs 0 1 1) = some ts, ⟨[(g, .seg 0 (bcells bs))], [], 2⟩, [Sy.rowO tTok 5 ts.length (tokCells ts) wLex]⟩

noncomputable def ctxLx (g n cb : Nat) (bs : List Nat) (ts : List Tok) : Sy.Ctx := Sy.mkS [(fRunes, fun _ _ => runesC g n cb bs)] [(fLex, fun a _ => loopL g n cb (Sy.ptrN (a.get 3)) (Sy.ptrN (a.get 4)) (Sy.capN (a.get 4)) (Sy.ptrN (a.get 5)) (Sy.capN (a.get 5)) bs (runesF bs 0 1 1) ts)] []
theorem ctxLx_holds (g n cb : Nat) (bs : List Nat) (ts : List Tok) : (ctxLx g n cb bs ts).holds Tryz.prog := Sy.mkS_holds (fun p hp a L => by
  rcases List.mem_singleton.1 hp with rfl
  exact runesC_met _ _ _ _) (fun p hp a L => by
  rcases List.mem_singleton.1 hp with rfl
  exact loopL_met _ _ _ _ _ _ _ _ _ _ _) (fun _ h => (by cases h))

def lx_o : Sy.O := (Sy.O.fork (Sy.O.steps [0, 0, 0, 0, 0] Sy.O.nil) (Sy.O.steps [0, 1, 0, 2, 1, 1, 0, 1, 0] Sy.O.nil))
noncomputable def lx_R (g : Nat) (n : Nat) (cb : Nat) (bs : List Nat) (ts : List Tok) (ns : Nat → Sy.Let) : Sy.Res (Value × List Blk) := Sy.Res.br (Ex.ltQ (65536 : Int) (Int.ofNat n))
 (Sy.Res.leaf
 (Value.tuple
 (Array.mk
 [Value.slice none (0 : Nat) (0 : Nat),
 Value.agg
 (Array.mk
 [Value.int IntKind.i64 (32 : Int), Value.int IntKind.i64 (1 : Int), Value.int IntKind.i64 (1 : Int)])]),
 []))
 (Sy.Res.need (n = List.length bs ∧ ascii bs ∧ n < (1000000 : Nat))
 (Sy.Res.hyp (Nat.le (n + (1 : Nat)) (Let.n (ns (2 : Nat))))
 (Sy.Res.need
 (Tx bs n (runesF bs (0 : Nat) (1 : Nat) (1 : Nat)) ∧
 n ≤ cb ∧ lexS (n + (2 : Nat)) bs (runesF bs (0 : Nat) (1 : Nat) (1 : Nat)) = some ts)
 (Sy.Res.hyp (Nat.le (List.length ts) (Let.n (ns (5 : Nat))))
 (Sy.Res.leaf
 (Value.tuple
 (Array.mk
 [Value.slice (some (Addr.mk (Let.n (ns (4 : Nat))) (0 : Nat) none)) (List.length ts)
 (Let.n (ns (5 : Nat))),
 Value.agg
 (Array.mk
 [Value.int IntKind.i64 (0 : Int), Value.int IntKind.i64 (0 : Int),
 Value.int IntKind.i64 (0 : Int)])]),
 [Blk.mk (Let.n (ns (4 : Nat)))
 (Sy.Cont.row (101 : Nat) (5 : Nat) (List.length ts) (Let.n (ns (5 : Nat))) (tokCells ts)) true,
 Blk.mk (Let.n (ns (1 : Nat)))
 (Sy.Cont.row (144 : Nat) (5 : Nat) (n + (1 : Nat)) (Let.n (ns (2 : Nat)))
 (ruCells (runesF bs (0 : Nat) (1 : Nat) (1 : Nat))))
 true]))))))
theorem lx_run (g n cb : Nat) (bs : List Nat) (ts : List Tok) : Sy.Ran (Sy.inT Tryz.prog (ctxLx g n cb bs ts) 60 fLex (lxC g n cb bs ts).args (Sy.blks (lxC g n cb bs ts).mem) (Sy.rowT tTok)) lx_o (lx_R g n cb bs ts) := ⟨fun ns => by kernel_rfl, fun ns => by kernel_rfl⟩

theorem lxC_met (g n cb : Nat) (bs : List Nat) (ts : List Tok) : Sy.Meets Tryz.prog (lxC g n cb bs ts) := by
  refine Sy.meets_of (ctxLx_holds g n cb bs ts) mixed (lx_run g n cb bs ts) fun hok ns => ?_
  obtain ⟨⟨hn, ha, hm, hs⟩, hcb, hl⟩ : (n = bs.length ∧ ascii bs ∧ n ≤ 65536 ∧ 47 ∉ bs) ∧ n ≤ cb ∧ lexS (n + 2) bs (runesF bs 0 1 1) = some ts := hok
  simp only [lx_R, Sy.Res.holds]
  refine ⟨fun h => ?_, fun _ => ⟨⟨hn, ha, by omega⟩, fun _ => ⟨⟨⟨hn, ha, by omega, hs, rfl⟩, hcb, hl⟩, fun hc => ?_⟩⟩⟩
  · rw [Sy.q_lt] at h
    have h : (65536 : Int) < (n : Int) := h
    omega
  · exact Sy.rowO_leaf' (List.mem_singleton_self _) rfl 0 rfl rfl rfl rfl hc

/-- All bytes are below 128, and none is a slash. -/
noncomputable def plainB (bs : List Nat) : Bool := @List.rec Nat (fun _ => Bool) true (fun b _ ih => match Nat.ble b 127 with
  | true => match Nat.beq b 47 with
    | true => false
    | false => ih
  | false => false) bs

theorem plainB_spec : ∀ {bs : List Nat}, plainB bs = true → ascii bs ∧ 47 ∉ bs
  | [], _ => ⟨fun _ h => (by cases h), fun h => (by cases h)⟩
  | b :: r, h => by
    change (match Nat.ble b 127 with
      | true => match Nat.beq b 47 with
        | true => false
        | false => plainB r
      | false => false) = true at h
    split at h
    · rename_i h1
      split at h
      · cases h
      · rename_i h2
        obtain ⟨h3, h4⟩ := plainB_spec h
        refine ⟨fun x hx => ?_, fun hx => ?_⟩
        · rcases List.mem_cons.1 hx with rfl | hx
          · exact Nat.lt_succ_of_le (Nat.le_of_ble_eq_true h1)
          · exact h3 x hx
        · rcases List.mem_cons.1 hx with rfl | hx
          · cases h2
          · exact h4 hx
    · cases h

/-- A list of cells, laid bare. -/
noncomputable def bareC (l : List Value) : (List Value → Sy.CallC) → Sy.CallC := @List.rec Value (fun _ => (List Value → Sy.CallC) → Sy.CallC) (fun k => k []) (fun x _ ih k => ih fun l => match x with
  | .int kd i => k (.int kd i :: l)
  | .string s => k (.string s :: l)
  | x => k (x :: l)) l
theorem bareC_eq : ∀ (l : List Value) (k : List Value → Sy.CallC), bareC l k = k l
  | [], _ => rfl
  | x :: l, k => by
    show bareC l (fun l => match x with
      | .int kd i => k (.int kd i :: l)
      | .string s => k (.string s :: l)
      | x => k (x :: l)) = _
    rw [bareC_eq l]
    cases x <;> rfl

noncomputable def lexK (args : Array Value) (ct : Sy.Cont) : Sy.CallC := match args.toList with
  | [.slice (some ⟨g, 0, none⟩) n cap] => match unbytes (segOf ct) with
    | some bs => match plainB bs with
      | true => match Nat.beq n bs.length with
        | true => match Nat.ble n 65536 with
          | true => match Nat.ble n cap with
            | true => match lexS (Nat.add n 2) bs (runesF bs 0 1 1) with
              | some ts => bareC (tokCells ts) fun xs => Sy.rowC' fLex #[.slice (some ⟨g, 0, none⟩) n cap] [(g, .seg 0 (bcells bs))] tTok 5 ts.length xs wLex
              | none => noC
            | false => noC
          | false => noC
        | false => noC
      | false => noC
    | none => noC
  | _ => noC

theorem lexK_met (args : Array Value) (ct : Sy.Cont) : Sy.Meets Tryz.prog (lexK args ct) := by
  unfold lexK
  split
  · split
    · rename_i bs _
      split
      · rename_i h1
        split
        · rename_i h2
          split
          · rename_i h3
            split
            · rename_i h4
              split
              · rename_i ts h5
                rw [bareC_eq]
                obtain ⟨a1, a2⟩ := plainB_spec h1
                exact fun _ => lxC_met _ _ _ bs ts ⟨⟨Nat.eq_of_beq_eq_true h2, a1, Nat.le_of_ble_eq_true h3, a2⟩, Nat.le_of_ble_eq_true h4, h5⟩
              · exact noC_met
            · exact noC_met
          · exact noC_met
        · exact noC_met
      · exact noC_met
    · exact noC_met
  · exact noC_met

end Go.Proofs.YtlpcnaeknbmjdaaGreat
