/-
  The reference's parser: over a token; the contracts of closed runs.
-/
import Derived.Test.YtlpcnaeknbmjdaaGreatRpB
namespace Go.Proofs.YtlpcnaeknbmjdaaGreat
set_option linter.unusedVariables false
set_option linter.unusedSimpArgs false
open Go Go.RowKit
open Sy (Let Blk)

noncomputable def ctxIs (g n cap a : Nat) (deep code line col : Int) (text : ByteArray) (xs : List Value) (k : Int) (tx : ByteArray) : Sy.Ctx := Sy.mkS [(fIs, fun _ _ => isC g n cap a deep code line col text xs k tx)] [] []
def mu0_o : Sy.O := (Sy.O.pack 4 0x10001 (Sy.O.fork (Sy.O.pack 50 0x5014001004000c00180030006100000000010842108461008020000000402 Sy.O.nil) (Sy.O.pack 12 0x4010004000802 Sy.O.nil)))
noncomputable def mu0_R (g : Nat) (n : Nat) (cap : Nat) (a : Nat) (deep : Int) (line : Int) (col : Int) (k : Int) (text : ByteArray) (tx : ByteArray) (xs : List Value) (ns : Nat → Sy.Let) : Sy.Res (Value × List Blk) := Sy.Res.need True
 (Sy.Res.hyp True
 (Sy.Res.br (!isF (0 : Int) k tx text)
 (Sy.Res.need ((0 : Int) ≤ Int.ofNat a ∧ Int.ofNat a < (↑n : Int))
 (Sy.Res.need
 (∃ (i : Int),
 Sy.Cont.at (Sy.Cont.seg (0 : Nat) xs) ((0 : Nat) + Int.toNat (Int.ofNat a) * (5 : Nat)) =
 some (Value.int IntKind.i64 i))
 (Sy.Res.hyp
 (Sy.Cont.at (Sy.Cont.seg (0 : Nat) xs) ((0 : Nat) + Int.toNat (Int.ofNat a) * (5 : Nat)) =
 some (Value.int IntKind.i64 (Let.i (ns (5 : Nat)))))
 (Sy.Res.need
 (∃ (s : ByteArray),
 Sy.Cont.at (Sy.Cont.seg (0 : Nat) xs) ((0 : Nat) + Int.toNat (Int.ofNat a) * (5 : Nat) + (1 : Nat)) =
 some (Value.string s))
 (Sy.Res.hyp
 (Sy.Cont.at (Sy.Cont.seg (0 : Nat) xs) ((0 : Nat) + Int.toNat (Int.ofNat a) * (5 : Nat) + (1 : Nat)) =
 some (Value.string (Sy.strV (Let.v (ns (6 : Nat))))))
 (Sy.Res.need
 (∃ (i : Int),
 Sy.Cont.at (Sy.Cont.seg (0 : Nat) xs)
 ((0 : Nat) + Int.toNat (Int.ofNat a) * (5 : Nat) + (1 : Nat) + (1 : Nat)) =
 some (Value.int IntKind.u64 i))
 (Sy.Res.hyp
 (Sy.Cont.at (Sy.Cont.seg (0 : Nat) xs)
 ((0 : Nat) + Int.toNat (Int.ofNat a) * (5 : Nat) + (1 : Nat) + (1 : Nat)) =
 some (Value.int IntKind.u64 (Let.i (ns (7 : Nat)))))
 (Sy.Res.need
 (∃ (i : Int),
 Sy.Cont.at (Sy.Cont.seg (0 : Nat) xs)
 ((0 : Nat) + Int.toNat (Int.ofNat a) * (5 : Nat) + (1 : Nat) + (1 : Nat) + (1 : Nat)) =
 some (Value.int IntKind.i64 i))
 (Sy.Res.hyp
 (Sy.Cont.at (Sy.Cont.seg (0 : Nat) xs)
 ((0 : Nat) + Int.toNat (Int.ofNat a) * (5 : Nat) + (1 : Nat) + (1 : Nat) + (1 : Nat)) =
 some (Value.int IntKind.i64 (Let.i (ns (8 : Nat)))))
 (Sy.Res.need
 (∃ (i : Int),
 Sy.Cont.at (Sy.Cont.seg (0 : Nat) xs)
 ((0 : Nat) + Int.toNat (Int.ofNat a) * (5 : Nat) + (1 : Nat) + (1 : Nat) + (1 : Nat) +
 (1 : Nat)) =
 some (Value.int IntKind.i64 i))
 (Sy.Res.hyp
 (Sy.Cont.at (Sy.Cont.seg (0 : Nat) xs)
 ((0 : Nat) + Int.toNat (Int.ofNat a) * (5 : Nat) + (1 : Nat) + (1 : Nat) + (1 : Nat) +
 (1 : Nat)) =
 some (Value.int IntKind.i64 (Let.i (ns (9 : Nat)))))
 (Sy.Res.leaf
 (Value.agg
 (Array.mk
 [Value.slice (some (Addr.mk g (0 : Nat) none)) n cap,
 Value.int IntKind.i64 (Int.ofNat a), Value.int IntKind.i64 deep,
 Value.int IntKind.i64 (21 : Int), Value.int IntKind.i64 (Let.i (ns (8 : Nat))),
 Value.int IntKind.i64 (Let.i (ns (9 : Nat)))]),
 [])))))))))))))
 (Sy.Res.leaf
 (Value.agg
 (Array.mk
 [Value.slice (some (Addr.mk g (0 : Nat) none)) n cap,
 Value.int IntKind.i64 (Ex.wrapQ IntKind.i64 (Ex.addQ (Int.ofNat a) (1 : Int))),
 Value.int IntKind.i64 deep, Value.int IntKind.i64 (0 : Int), Value.int IntKind.i64 line,
 Value.int IntKind.i64 col]),
 []))))
theorem mu0_run (g n cap a : Nat) (deep line col k : Int) (text tx : ByteArray) (xs : List Value) : Sy.Ran (Sy.inC Tryz.prog (ctxIs g n cap a deep 0 line col text xs k tx) 50 fMust #[stV g n cap a deep 0 line col, .string text] [⟨g, .seg 0 xs, false⟩] Sy.noB) mu0_o (mu0_R g n cap a deep line col k text tx xs) := ⟨fun ns => by kernel_rfl, fun ns => by kernel_rfl⟩

noncomputable def mustC (g n cap a : Nat) (deep line col : Int) (text : ByteArray) (xs : List Value) : Sy.CallC :=
  ⟨fMust, #[stV g n cap a deep 0 line col, .string text], True, ⟨[(g, .seg 0 xs)], [], 0⟩, [Sy.plainO (stV g n cap (Nat.succ a) deep 0 line col)]⟩
theorem mustC_met {g n cap a : Nat} {deep line col : Int} {text : ByteArray} {xs : List Value} {k v ln cl : Int} {tx : ByteArray} (ht : TokAt xs a k v ln cl tx) (hn : a < n) (hm : n ≤ 1099511627776) (hk : isF 0 k tx text = true) : Sy.Meets Tryz.prog (mustC g n cap a deep line col text xs) := by
  refine Sy.meets_ofC (Sy.mkS_holds (fun p hp a L => by
    rcases List.mem_singleton.1 hp with rfl
    exact isC_met ht hn) (fun _ h => (by cases h)) (fun _ h => (by cases h))) mixed (mu0_run g n cap a deep line col k text tx xs) fun _ ns => ?_
  simp only [mu0_R, Sy.Res.holds]
  refine ⟨trivial, fun _ => ⟨fun h => ?_, fun _ => ?_⟩⟩
  · rw [hk] at h
    cases h
  · rw [w_one (by omega)]
    exact Sy.plainO_leaf (List.mem_singleton_self _) rfl rfl

/-! ### For closed runs -/

noncomputable def isK (args : Array Value) (ct : Sy.Cont) : Sy.CallC := match args.toList with
  | [.agg st, .string text] => match st.toList with
    | [.slice (some ⟨g, 0, none⟩) n cap, .int .i64 (.ofNat a), .int .i64 deep, .int .i64 code, .int .i64 line, .int .i64 col] => match Nat.blt a n with
      | true => match Sy.litN (Sy.dropF (Nat.mul 5 a) (segOf ct)) 5 with
        | some [.int .i64 k, .string tx, .int .u64 _, .int .i64 _, .int .i64 _] => isC g n cap a deep code line col text (segOf ct) k tx
        | _ => noC
      | false => noC
    | _ => noC
  | _ => noC

theorem isK_met (args : Array Value) (ct : Sy.Cont) : Sy.Meets Tryz.prog (isK args ct) := by
  unfold isK
  split
  · split
    · split
      · rename_i hn
        split
        · rename_i hl
          exact isC_met (tokAt_of hl) (by simpa using hn)
        · exact noC_met
      · exact noC_met
    · exact noC_met
  · exact noC_met

noncomputable def mustK (args : Array Value) (ct : Sy.Cont) : Sy.CallC := match args.toList with
  | [.agg st, .string text] => match st.toList with
    | [.slice (some ⟨g, 0, none⟩) n cap, .int .i64 (.ofNat a), .int .i64 deep, .int .i64 code, .int .i64 line, .int .i64 col] => match Nat.blt a n && Nat.ble n 1099511627776 with
      | true => match Sy.litN (Sy.dropF (Nat.mul 5 a) (segOf ct)) 5 with
        | some [.int .i64 k, .string tx, .int .u64 _, .int .i64 _, .int .i64 _] => match isF 0 k tx text with
          | true => mustC g n cap a deep line col text (segOf ct)
          | false => noC
        | _ => noC
      | false => noC
    | _ => noC
  | _ => noC

theorem mustK_met (args : Array Value) (ct : Sy.Cont) : Sy.Meets Tryz.prog (mustK args ct) := by
  unfold mustK
  split
  · split
    · split
      · rename_i hn
        simp only [Bool.and_eq_true] at hn
        split
        · rename_i hl
          split
          · rename_i hk
            exact mustC_met (tokAt_of hl) (by simpa using hn.1) (Nat.le_of_ble_eq_true hn.2) hk
          · exact noC_met
        · exact noC_met
      · exact noC_met
    · exact noC_met
  · exact noC_met

noncomputable def tokK (args : Array Value) (ct : Sy.Cont) : Sy.CallC := match args.toList with
  | [.agg st, .int .i64 kind] => match st.toList with
    | [.slice (some ⟨g, 0, none⟩) n cap, .int .i64 (.ofNat a), .int .i64 deep, .int .i64 code, .int .i64 line, .int .i64 col] => match Nat.blt a n && Nat.ble n 1099511627776 with
      | true => match Sy.litN (Sy.dropF (Nat.mul 5 a) (segOf ct)) 5 with
        | some [.int .i64 k, .string tx, .int .u64 v, .int .i64 ln, .int .i64 cl] => match Ex.eqQ k kind with
          | true => tokC g n cap a deep line col kind (segOf ct) k v ln cl tx
          | false => noC
        | _ => noC
      | false => noC
    | _ => noC
  | _ => noC

theorem tokK_met (args : Array Value) (ct : Sy.Cont) : Sy.Meets Tryz.prog (tokK args ct) := by
  unfold tokK
  split
  · split
    · split
      · rename_i hn
        simp only [Bool.and_eq_true] at hn
        split
        · rename_i hl
          split
          · rename_i hk
            exact tokC_met (tokAt_of hl) (by simpa using hn.1) (Nat.le_of_ble_eq_true hn.2) hk
          · exact noC_met
        · exact noC_met
      · exact noC_met
    · exact noC_met
  · exact noC_met

noncomputable def openK (args : Array Value) (ct : Sy.Cont) : Sy.CallC := match args.toList with
  | [.agg st] => match st.toList with
    | [.slice (some ⟨g, 0, none⟩) n cap, .int .i64 (.ofNat a), .int .i64 (.ofNat d), .int .i64 code, .int .i64 line, .int .i64 col] => match Nat.blt a n && (Nat.ble n 1099511627776 && Nat.blt d 100) with
      | true => openC g n cap a d line col (segOf ct)
      | false => noC
    | _ => noC
  | _ => noC

theorem openK_met (args : Array Value) (ct : Sy.Cont) : Sy.Meets Tryz.prog (openK args ct) := by
  unfold openK
  split
  · split
    · split
      · rename_i hn
        simp only [Bool.and_eq_true] at hn
        exact openC_met (by simpa using hn.2.2) (by simpa using hn.1) (Nat.le_of_ble_eq_true hn.2.1)
      · exact noC_met
    · exact noC_met
  · exact noC_met

noncomputable def badK (args : Array Value) (_ : Sy.Cont) : Sy.CallC := match args.toList with
  | [.agg st] => match st.toList with
    | [.slice (some ⟨g, 0, none⟩) n cap, .int .i64 (.ofNat a), .int .i64 deep, .int .i64 code, .int .i64 line, .int .i64 col] => badC g n cap a deep code line col
    | _ => noC
  | _ => noC

theorem badK_met (args : Array Value) (ct : Sy.Cont) : Sy.Meets Tryz.prog (badK args ct) := by
  unfold badK
  split
  · split
    · exact badC_met _ _ _ _ _ _ _ _
    · exact noC_met
  · exact noC_met

/-- What is known of the parser. -/
noncomputable def mcRp : List Sy.MC := [⟨fLex, 0, lexK⟩, ⟨fIs, 0, isK⟩, ⟨fMust, 0, mustK⟩, ⟨fToken, 0, tokK⟩, ⟨fOpen, 0, openK⟩, ⟨fBad, 0, badK⟩]
theorem mcRp_met : ∀ x ∈ mcRp, ∀ a ct, Sy.Meets Tryz.prog (x.k a ct) := fun x hx a ct => by
  simp only [mcRp, List.mem_cons, List.not_mem_nil, or_false] at hx
  rcases hx with rfl | rfl | rfl | rfl | rfl | rfl
  · exact lexK_met a ct
  · exact isK_met a ct
  · exact mustK_met a ct
  · exact tokK_met a ct
  · exact openK_met a ct
  · exact badK_met a ct

end Go.Proofs.YtlpcnaeknbmjdaaGreat
