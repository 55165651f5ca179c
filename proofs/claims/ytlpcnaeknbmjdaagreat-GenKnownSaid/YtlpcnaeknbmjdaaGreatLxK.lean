/-
  Contracts for closed runs of the reference's lexer.
-/
import Derived.Test.YtlpcnaeknbmjdaaGreatLxB
import Derived.Test.YtlpcnaeknbmjdaaGreatSyJ
namespace Go.Proofs.YtlpcnaeknbmjdaaGreat
set_option linter.unusedVariables false
set_option linter.unusedSimpArgs false
open Go Go.RowKit
open Sy (Let Blk)

/-- The numbers of a list of bytes. -/
noncomputable def unbytes (l : List Value) : Option (List Nat) := @List.rec Value (fun _ => Option (List Nat)) (some []) (fun v _ ih => match v with
  | .int .u8 (.ofNat b) => match ih with
    | some l => some (b :: l)
    | none => none
  | _ => none) l

noncomputable def segOf : Sy.Cont → List Value
  | .obj (.cells c _ _) => c.toList
  | .obj _ => []
  | .row _ _ _ _ xs => xs
  | .seg _ xs => xs

def noC : Sy.CallC := ⟨0, #[], False, ⟨[], [], 0⟩, []⟩
theorem noC_met {P : Program} : Sy.Meets P noC := fun h => h.elim

noncomputable def okb (n at_ : Nat) (s : ByteArray) (bs : List Nat) : Bool := match Nat.beq n bs.length with
  | true => match Nat.ble at_ n with
    | true => match Nat.ble n 999999999999 with
      | true => Nat.ble s.size 999999999999
      | false => false
    | false => false
  | false => false

theorem okb_spec {n at_ : Nat} {s : ByteArray} {bs : List Nat} (h : okb n at_ s bs = true) : okB n at_ s bs := by
  unfold okb at h
  split at h
  · rename_i h1
    split at h
    · rename_i h2
      split at h
      · rename_i h3
        exact ⟨Nat.eq_of_beq_eq_true h1, Nat.le_of_ble_eq_true h2, Nat.lt_succ_of_le (Nat.le_of_ble_eq_true h3), Nat.lt_succ_of_le (Nat.le_of_ble_eq_true h)⟩
      · cases h
    · cases h
  · cases h

noncomputable def begK (args : Array Value) (ct : Sy.Cont) : Sy.CallC := match args.toList with
  | [.slice (some ⟨g, 0, none⟩) n cap, .int .i64 (.ofNat at_), .string s] => match unbytes (segOf ct) with
    | some bs => match okb n at_ s bs with
      | true => Sy.shutC' fBegins #[.slice (some ⟨g, 0, none⟩) n cap, .int .i64 (Int.ofNat at_), .string s] [(g, .seg 0 (bcells bs))] True (.bool (begF bs at_ s))
      | false => noC
    | none => noC
  | _ => noC

theorem begK_met (args : Array Value) (ct : Sy.Cont) : Sy.Meets Tryz.prog (begK args ct) := by
  unfold begK
  split
  · split
    · rename_i bs _
      split
      · rename_i h
        exact fun _ => begC_met _ _ _ _ _ bs (okb_spec h)
      · exact noC_met
    · exact noC_met
  · exact noC_met

noncomputable def lexH : Sy.How := ⟨fun _ => true, fun _ => false, [⟨fBegins, 0, begK⟩]⟩
theorem lexH_holds : lexH.holds Tryz.prog := ⟨fun x hx a ct => by
  rcases List.mem_singleton.1 hx with rfl
  exact begK_met a ct⟩

def bt (l : List UInt8) : ByteArray := ⟨⟨l⟩⟩

end Go.Proofs.YtlpcnaeknbmjdaaGreat
