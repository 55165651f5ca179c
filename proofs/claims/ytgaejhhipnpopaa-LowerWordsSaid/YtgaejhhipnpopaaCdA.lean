/-
  Instructions as words, by the engine: rows, fields, Encode.
-/
import Derived.WalkKit
import Derived.Handy
import Derived.Lib.Hide
import Derived.WalkSpells
import Derived.WalkLawsBesides
import Derived.Deep.QuietTactic
import Derived.BigQuiet
import Derived.Maps.RangeWalk
import Derived.Maps.Own
import Derived.Test.YtgaejhhipnpopaaProg
import Derived.Test.YtgaejhhipnpopaaEv
namespace Go.Proofs.Ytgaejhhipnpopaa.Cd
open Go Ev Go.RowKit
set_option linter.unusedVariables false
set_option linter.unusedSimpArgs false

/-- Where a field stands: at a bit, so many bits wide, from lo to hi by steps; its lowest bit turned. -/
structure Fld where
  pos : Nat
  width : Nat
  lo : Int
  hi : Int
  step : Int
  turned : Bool
  deriving DecidableEq
structure Row where
  word : Nat
  f0 : Fld
  f1 : Fld
  f2 : Fld
  f3 : Fld
  f4 : Fld
  deriving DecidableEq
/-- An instruction. -/
structure I where
  op : Int
  rd : Int
  rn : Int
  rm : Int
  imm : Int
  cond : Int
  deriving DecidableEq
def fz : Fld := ⟨0, 0, 0, 0, 0, false⟩
def rz : Row := ⟨0, fz, fz, fz, fz, fz⟩
/-- The row of an operation (0 to 47). -/
def rowOf : Nat → Row
  | 1 => ⟨3531603968, ⟨0, 5, 0, 31, 1, false⟩, fz, fz, ⟨5, 16, 0, 65535, 1, false⟩, ⟨21, 2, 0, 3, 1, false⟩⟩
  | 2 => ⟨4068474880, ⟨0, 5, 0, 31, 1, false⟩, fz, fz, ⟨5, 16, 0, 65535, 1, false⟩, ⟨21, 2, 0, 3, 1, false⟩⟩
  | 3 => ⟨2332033024, ⟨0, 5, 0, 31, 1, false⟩, ⟨5, 5, 0, 31, 1, false⟩, ⟨16, 5, 0, 31, 1, false⟩, fz, fz⟩
  | 4 => ⟨3405774848, ⟨0, 5, 0, 31, 1, false⟩, ⟨5, 5, 0, 31, 1, false⟩, ⟨16, 5, 0, 31, 1, false⟩, fz, fz⟩
  | 5 => ⟨2315255808, ⟨0, 5, 0, 31, 1, false⟩, ⟨5, 5, 0, 31, 1, false⟩, ⟨16, 5, 0, 31, 1, false⟩, fz, fz⟩
  | 6 => ⟨2852126720, ⟨0, 5, 0, 31, 1, false⟩, ⟨5, 5, 0, 31, 1, false⟩, ⟨16, 5, 0, 31, 1, false⟩, fz, fz⟩
  | 7 => ⟨3388997632, ⟨0, 5, 0, 31, 1, false⟩, ⟨5, 5, 0, 31, 1, false⟩, ⟨16, 5, 0, 31, 1, false⟩, fz, fz⟩
  | 8 => ⟨2854223872, ⟨0, 5, 0, 31, 1, false⟩, ⟨5, 5, 0, 31, 1, false⟩, ⟨16, 5, 0, 31, 1, false⟩, fz, fz⟩
  | 9 => ⟨2600500224, ⟨0, 5, 0, 31, 1, false⟩, ⟨5, 5, 0, 31, 1, false⟩, ⟨16, 5, 0, 31, 1, false⟩, fz, fz⟩
  | 10 => ⟨2596282368, ⟨0, 5, 0, 31, 1, false⟩, ⟨5, 5, 0, 31, 1, false⟩, ⟨16, 5, 0, 31, 1, false⟩, fz, fz⟩
  | 11 => ⟨2596283392, ⟨0, 5, 0, 31, 1, false⟩, ⟨5, 5, 0, 31, 1, false⟩, ⟨16, 5, 0, 31, 1, false⟩, fz, fz⟩
  | 12 => ⟨2432696320, ⟨0, 5, 0, 30, 1, false⟩, ⟨5, 5, 0, 30, 1, false⟩, fz, ⟨10, 12, 0, 4095, 1, false⟩, fz⟩
  | 13 => ⟨3506438144, ⟨0, 5, 0, 30, 1, false⟩, ⟨5, 5, 0, 30, 1, false⟩, fz, ⟨10, 12, 0, 4095, 1, false⟩, fz⟩
  | 14 => ⟨3544186880, ⟨0, 5, 0, 31, 1, false⟩, ⟨5, 5, 0, 31, 1, false⟩, fz, ⟨0, 0, 0, 63, 1, false⟩, fz⟩
  | 15 => ⟨3544251392, ⟨0, 5, 0, 31, 1, false⟩, ⟨5, 5, 0, 31, 1, false⟩, fz, ⟨16, 6, 0, 63, 1, false⟩, fz⟩
  | 16 => ⟨3942645791, fz, ⟨5, 5, 0, 31, 1, false⟩, ⟨16, 5, 0, 31, 1, false⟩, fz, fz⟩
  | 17 => ⟨2594113504, ⟨0, 5, 0, 31, 1, false⟩, fz, fz, fz, ⟨12, 4, 0, 13, 1, true⟩⟩
  | 18 => ⟨335544320, fz, fz, fz, ⟨0, 26, (-33554432), 33554431, 1, false⟩, fz⟩
  | 19 => ⟨1409286144, fz, fz, fz, ⟨5, 19, (-262144), 262143, 1, false⟩, ⟨0, 4, 0, 13, 1, false⟩⟩
  | 20 => ⟨3019898880, ⟨0, 5, 0, 31, 1, false⟩, fz, fz, ⟨5, 19, (-262144), 262143, 1, false⟩, fz⟩
  | 21 => ⟨3036676096, ⟨0, 5, 0, 31, 1, false⟩, fz, fz, ⟨5, 19, (-262144), 262143, 1, false⟩, fz⟩
  | 22 => ⟨4181721088, ⟨0, 5, 0, 31, 1, false⟩, ⟨5, 5, 0, 30, 1, false⟩, fz, ⟨10, 12, 0, 32760, 8, false⟩, fz⟩
  | 23 => ⟨4177526784, ⟨0, 5, 0, 31, 1, false⟩, ⟨5, 5, 0, 30, 1, false⟩, fz, ⟨10, 12, 0, 32760, 8, false⟩, fz⟩
  | 24 => ⟨3370122240, ⟨0, 5, 0, 31, 1, false⟩, ⟨5, 5, 0, 30, 1, false⟩, fz, fz, fz⟩
  | 25 => ⟨3365927936, ⟨0, 5, 0, 31, 1, false⟩, ⟨5, 5, 0, 30, 1, false⟩, fz, fz, fz⟩
  | 26 => ⟨3361700864, ⟨0, 5, 0, 31, 1, false⟩, ⟨5, 5, 0, 30, 1, false⟩, fz, fz, fz⟩
  | 27 => ⟨3361733632, ⟨0, 5, 0, 31, 1, false⟩, ⟨5, 5, 0, 30, 1, false⟩, fz, fz, fz⟩
  | 28 => ⟨3355474944, ⟨0, 5, 0, 31, 1, false⟩, ⟨5, 5, 0, 30, 1, false⟩, ⟨16, 5, 0, 30, 1, false⟩, fz, fz⟩
  | 29 => ⟨3355507712, ⟨0, 5, 0, 31, 1, false⟩, ⟨5, 5, 0, 30, 1, false⟩, ⟨16, 5, 0, 30, 1, false⟩, fz, fz⟩
  | 30 => ⟨3573759423, fz, fz, fz, fz, fz⟩
  | 31 => ⟨3573759935, fz, fz, fz, fz, fz⟩
  | 32 => ⟨3573751839, fz, fz, fz, fz, fz⟩
  | 33 => ⟨3556769793, fz, fz, fz, ⟨5, 16, 0, 30, 1, false⟩, fz⟩
  | 34 => ⟨3560964096, fz, fz, fz, fz, fz⟩
  | 35 => ⟨4173316096, ⟨0, 5, 0, 31, 1, false⟩, ⟨5, 5, 0, 30, 1, false⟩, fz, fz, fz⟩
  | 36 => ⟨3365960704, ⟨0, 5, 0, 31, 1, false⟩, ⟨5, 5, 0, 30, 1, false⟩, ⟨16, 5, 0, 30, 1, false⟩, fz, fz⟩
  | 37 => ⟨3370155008, ⟨0, 5, 0, 31, 1, false⟩, ⟨5, 5, 0, 30, 1, false⟩, ⟨16, 5, 0, 30, 1, false⟩, fz, fz⟩
  | 38 => ⟨3365993472, ⟨0, 5, 0, 31, 1, false⟩, ⟨5, 5, 0, 30, 1, false⟩, ⟨16, 5, 0, 30, 1, false⟩, fz, fz⟩
  | 39 => ⟨3370187776, ⟨0, 5, 0, 31, 1, false⟩, ⟨5, 5, 0, 30, 1, false⟩, ⟨16, 5, 0, 30, 1, false⟩, fz, fz⟩
  | 40 => ⟨4162879488, ⟨0, 5, 0, 30, 1, false⟩, ⟨5, 5, 0, 30, 1, false⟩, ⟨16, 5, 0, 31, 1, false⟩, fz, fz⟩
  | 41 => ⟨4171268096, ⟨0, 5, 0, 30, 1, false⟩, ⟨5, 5, 0, 30, 1, false⟩, ⟨16, 5, 0, 31, 1, false⟩, fz, fz⟩
  | 42 => ⟨4167073792, ⟨0, 5, 0, 30, 1, false⟩, ⟨5, 5, 0, 30, 1, false⟩, ⟨16, 5, 0, 31, 1, false⟩, fz, fz⟩
  | 43 => ⟨4175462400, ⟨0, 5, 0, 30, 1, false⟩, ⟨5, 5, 0, 30, 1, false⟩, ⟨16, 5, 0, 31, 1, false⟩, fz, fz⟩
  | 44 => ⟨4162846720, ⟨0, 5, 0, 30, 1, false⟩, ⟨5, 5, 0, 30, 1, false⟩, ⟨16, 5, 0, 31, 1, false⟩, fz, fz⟩
  | 45 => ⟨4171235328, ⟨0, 5, 0, 30, 1, false⟩, ⟨5, 5, 0, 30, 1, false⟩, ⟨16, 5, 0, 31, 1, false⟩, fz, fz⟩
  | 46 => ⟨4167041024, ⟨0, 5, 0, 30, 1, false⟩, ⟨5, 5, 0, 30, 1, false⟩, ⟨16, 5, 0, 31, 1, false⟩, fz, fz⟩
  | 47 => ⟨4175429632, ⟨0, 5, 0, 30, 1, false⟩, ⟨5, 5, 0, 30, 1, false⟩, ⟨16, 5, 0, 31, 1, false⟩, fz, fz⟩
  | _ => rz

def Fld.vals (f : Fld) : List Value := [.int .i64 f.pos, .int .i64 f.width, .int .i64 f.lo, .int .i64 f.hi, .int .i64 f.step, .bool f.turned]
def Row.val (r : Row) : Value := .agg ⟨.int .u32 r.word :: (r.f0.vals ++ (r.f1.vals ++ (r.f2.vals ++ (r.f3.vals ++ r.f4.vals))))⟩
theorem mixed : Try.prog.follows .mixedOrders = true := by kernel_rfl
theorem rowOf_1 : Gives Try.prog 40 #[.int .i64 1] (.tuple #[(rowOf 1).val, .bool true]) 4 := gives_of_out noSpec_holds mixed 100 fun _ => ⟨by kernel_rfl, by kernel_rfl, by kernel_rfl⟩
theorem rowOf_2 : Gives Try.prog 40 #[.int .i64 2] (.tuple #[(rowOf 2).val, .bool true]) 4 := gives_of_out noSpec_holds mixed 100 fun _ => ⟨by kernel_rfl, by kernel_rfl, by kernel_rfl⟩
theorem rowOf_3 : Gives Try.prog 40 #[.int .i64 3] (.tuple #[(rowOf 3).val, .bool true]) 4 := gives_of_out noSpec_holds mixed 100 fun _ => ⟨by kernel_rfl, by kernel_rfl, by kernel_rfl⟩
theorem rowOf_4 : Gives Try.prog 40 #[.int .i64 4] (.tuple #[(rowOf 4).val, .bool true]) 4 := gives_of_out noSpec_holds mixed 100 fun _ => ⟨by kernel_rfl, by kernel_rfl, by kernel_rfl⟩
theorem rowOf_5 : Gives Try.prog 40 #[.int .i64 5] (.tuple #[(rowOf 5).val, .bool true]) 4 := gives_of_out noSpec_holds mixed 100 fun _ => ⟨by kernel_rfl, by kernel_rfl, by kernel_rfl⟩
theorem rowOf_6 : Gives Try.prog 40 #[.int .i64 6] (.tuple #[(rowOf 6).val, .bool true]) 4 := gives_of_out noSpec_holds mixed 100 fun _ => ⟨by kernel_rfl, by kernel_rfl, by kernel_rfl⟩
theorem rowOf_7 : Gives Try.prog 40 #[.int .i64 7] (.tuple #[(rowOf 7).val, .bool true]) 4 := gives_of_out noSpec_holds mixed 100 fun _ => ⟨by kernel_rfl, by kernel_rfl, by kernel_rfl⟩
theorem rowOf_8 : Gives Try.prog 40 #[.int .i64 8] (.tuple #[(rowOf 8).val, .bool true]) 4 := gives_of_out noSpec_holds mixed 100 fun _ => ⟨by kernel_rfl, by kernel_rfl, by kernel_rfl⟩
theorem rowOf_9 : Gives Try.prog 40 #[.int .i64 9] (.tuple #[(rowOf 9).val, .bool true]) 4 := gives_of_out noSpec_holds mixed 100 fun _ => ⟨by kernel_rfl, by kernel_rfl, by kernel_rfl⟩
theorem rowOf_10 : Gives Try.prog 40 #[.int .i64 10] (.tuple #[(rowOf 10).val, .bool true]) 4 := gives_of_out noSpec_holds mixed 100 fun _ => ⟨by kernel_rfl, by kernel_rfl, by kernel_rfl⟩
theorem rowOf_11 : Gives Try.prog 40 #[.int .i64 11] (.tuple #[(rowOf 11).val, .bool true]) 4 := gives_of_out noSpec_holds mixed 100 fun _ => ⟨by kernel_rfl, by kernel_rfl, by kernel_rfl⟩
theorem rowOf_12 : Gives Try.prog 40 #[.int .i64 12] (.tuple #[(rowOf 12).val, .bool true]) 4 := gives_of_out noSpec_holds mixed 100 fun _ => ⟨by kernel_rfl, by kernel_rfl, by kernel_rfl⟩
theorem rowOf_13 : Gives Try.prog 40 #[.int .i64 13] (.tuple #[(rowOf 13).val, .bool true]) 4 := gives_of_out noSpec_holds mixed 100 fun _ => ⟨by kernel_rfl, by kernel_rfl, by kernel_rfl⟩
theorem rowOf_14 : Gives Try.prog 40 #[.int .i64 14] (.tuple #[(rowOf 14).val, .bool true]) 4 := gives_of_out noSpec_holds mixed 100 fun _ => ⟨by kernel_rfl, by kernel_rfl, by kernel_rfl⟩
theorem rowOf_15 : Gives Try.prog 40 #[.int .i64 15] (.tuple #[(rowOf 15).val, .bool true]) 4 := gives_of_out noSpec_holds mixed 100 fun _ => ⟨by kernel_rfl, by kernel_rfl, by kernel_rfl⟩
theorem rowOf_16 : Gives Try.prog 40 #[.int .i64 16] (.tuple #[(rowOf 16).val, .bool true]) 3 := gives_of_out noSpec_holds mixed 100 fun _ => ⟨by kernel_rfl, by kernel_rfl, by kernel_rfl⟩
theorem rowOf_17 : Gives Try.prog 40 #[.int .i64 17] (.tuple #[(rowOf 17).val, .bool true]) 2 := gives_of_out noSpec_holds mixed 100 fun _ => ⟨by kernel_rfl, by kernel_rfl, by kernel_rfl⟩
theorem rowOf_18 : Gives Try.prog 40 #[.int .i64 18] (.tuple #[(rowOf 18).val, .bool true]) 2 := gives_of_out noSpec_holds mixed 100 fun _ => ⟨by kernel_rfl, by kernel_rfl, by kernel_rfl⟩
theorem rowOf_19 : Gives Try.prog 40 #[.int .i64 19] (.tuple #[(rowOf 19).val, .bool true]) 3 := gives_of_out noSpec_holds mixed 100 fun _ => ⟨by kernel_rfl, by kernel_rfl, by kernel_rfl⟩
theorem rowOf_20 : Gives Try.prog 40 #[.int .i64 20] (.tuple #[(rowOf 20).val, .bool true]) 3 := gives_of_out noSpec_holds mixed 100 fun _ => ⟨by kernel_rfl, by kernel_rfl, by kernel_rfl⟩
theorem rowOf_21 : Gives Try.prog 40 #[.int .i64 21] (.tuple #[(rowOf 21).val, .bool true]) 3 := gives_of_out noSpec_holds mixed 100 fun _ => ⟨by kernel_rfl, by kernel_rfl, by kernel_rfl⟩
theorem rowOf_22 : Gives Try.prog 40 #[.int .i64 22] (.tuple #[(rowOf 22).val, .bool true]) 4 := gives_of_out noSpec_holds mixed 100 fun _ => ⟨by kernel_rfl, by kernel_rfl, by kernel_rfl⟩
theorem rowOf_23 : Gives Try.prog 40 #[.int .i64 23] (.tuple #[(rowOf 23).val, .bool true]) 4 := gives_of_out noSpec_holds mixed 100 fun _ => ⟨by kernel_rfl, by kernel_rfl, by kernel_rfl⟩
theorem rowOf_24 : Gives Try.prog 40 #[.int .i64 24] (.tuple #[(rowOf 24).val, .bool true]) 3 := gives_of_out noSpec_holds mixed 100 fun _ => ⟨by kernel_rfl, by kernel_rfl, by kernel_rfl⟩
theorem rowOf_25 : Gives Try.prog 40 #[.int .i64 25] (.tuple #[(rowOf 25).val, .bool true]) 3 := gives_of_out noSpec_holds mixed 100 fun _ => ⟨by kernel_rfl, by kernel_rfl, by kernel_rfl⟩
theorem rowOf_26 : Gives Try.prog 40 #[.int .i64 26] (.tuple #[(rowOf 26).val, .bool true]) 3 := gives_of_out noSpec_holds mixed 100 fun _ => ⟨by kernel_rfl, by kernel_rfl, by kernel_rfl⟩
theorem rowOf_27 : Gives Try.prog 40 #[.int .i64 27] (.tuple #[(rowOf 27).val, .bool true]) 3 := gives_of_out noSpec_holds mixed 100 fun _ => ⟨by kernel_rfl, by kernel_rfl, by kernel_rfl⟩
theorem rowOf_28 : Gives Try.prog 40 #[.int .i64 28] (.tuple #[(rowOf 28).val, .bool true]) 4 := gives_of_out noSpec_holds mixed 100 fun _ => ⟨by kernel_rfl, by kernel_rfl, by kernel_rfl⟩
theorem rowOf_29 : Gives Try.prog 40 #[.int .i64 29] (.tuple #[(rowOf 29).val, .bool true]) 4 := gives_of_out noSpec_holds mixed 100 fun _ => ⟨by kernel_rfl, by kernel_rfl, by kernel_rfl⟩
theorem rowOf_30 : Gives Try.prog 40 #[.int .i64 30] (.tuple #[(rowOf 30).val, .bool true]) 2 := gives_of_out noSpec_holds mixed 100 fun _ => ⟨by kernel_rfl, by kernel_rfl, by kernel_rfl⟩
theorem rowOf_31 : Gives Try.prog 40 #[.int .i64 31] (.tuple #[(rowOf 31).val, .bool true]) 2 := gives_of_out noSpec_holds mixed 100 fun _ => ⟨by kernel_rfl, by kernel_rfl, by kernel_rfl⟩
theorem rowOf_32 : Gives Try.prog 40 #[.int .i64 32] (.tuple #[(rowOf 32).val, .bool true]) 2 := gives_of_out noSpec_holds mixed 100 fun _ => ⟨by kernel_rfl, by kernel_rfl, by kernel_rfl⟩
theorem rowOf_33 : Gives Try.prog 40 #[.int .i64 33] (.tuple #[(rowOf 33).val, .bool true]) 2 := gives_of_out noSpec_holds mixed 100 fun _ => ⟨by kernel_rfl, by kernel_rfl, by kernel_rfl⟩
theorem rowOf_34 : Gives Try.prog 40 #[.int .i64 34] (.tuple #[(rowOf 34).val, .bool true]) 2 := gives_of_out noSpec_holds mixed 100 fun _ => ⟨by kernel_rfl, by kernel_rfl, by kernel_rfl⟩
theorem rowOf_35 : Gives Try.prog 40 #[.int .i64 35] (.tuple #[(rowOf 35).val, .bool true]) 3 := gives_of_out noSpec_holds mixed 100 fun _ => ⟨by kernel_rfl, by kernel_rfl, by kernel_rfl⟩
theorem rowOf_36 : Gives Try.prog 40 #[.int .i64 36] (.tuple #[(rowOf 36).val, .bool true]) 4 := gives_of_out noSpec_holds mixed 100 fun _ => ⟨by kernel_rfl, by kernel_rfl, by kernel_rfl⟩
theorem rowOf_37 : Gives Try.prog 40 #[.int .i64 37] (.tuple #[(rowOf 37).val, .bool true]) 4 := gives_of_out noSpec_holds mixed 100 fun _ => ⟨by kernel_rfl, by kernel_rfl, by kernel_rfl⟩
theorem rowOf_38 : Gives Try.prog 40 #[.int .i64 38] (.tuple #[(rowOf 38).val, .bool true]) 4 := gives_of_out noSpec_holds mixed 100 fun _ => ⟨by kernel_rfl, by kernel_rfl, by kernel_rfl⟩
theorem rowOf_39 : Gives Try.prog 40 #[.int .i64 39] (.tuple #[(rowOf 39).val, .bool true]) 4 := gives_of_out noSpec_holds mixed 100 fun _ => ⟨by kernel_rfl, by kernel_rfl, by kernel_rfl⟩
theorem rowOf_40 : Gives Try.prog 40 #[.int .i64 40] (.tuple #[(rowOf 40).val, .bool true]) 4 := gives_of_out noSpec_holds mixed 100 fun _ => ⟨by kernel_rfl, by kernel_rfl, by kernel_rfl⟩
theorem rowOf_41 : Gives Try.prog 40 #[.int .i64 41] (.tuple #[(rowOf 41).val, .bool true]) 4 := gives_of_out noSpec_holds mixed 100 fun _ => ⟨by kernel_rfl, by kernel_rfl, by kernel_rfl⟩
theorem rowOf_42 : Gives Try.prog 40 #[.int .i64 42] (.tuple #[(rowOf 42).val, .bool true]) 4 := gives_of_out noSpec_holds mixed 100 fun _ => ⟨by kernel_rfl, by kernel_rfl, by kernel_rfl⟩
theorem rowOf_43 : Gives Try.prog 40 #[.int .i64 43] (.tuple #[(rowOf 43).val, .bool true]) 4 := gives_of_out noSpec_holds mixed 100 fun _ => ⟨by kernel_rfl, by kernel_rfl, by kernel_rfl⟩
theorem rowOf_44 : Gives Try.prog 40 #[.int .i64 44] (.tuple #[(rowOf 44).val, .bool true]) 4 := gives_of_out noSpec_holds mixed 100 fun _ => ⟨by kernel_rfl, by kernel_rfl, by kernel_rfl⟩
theorem rowOf_45 : Gives Try.prog 40 #[.int .i64 45] (.tuple #[(rowOf 45).val, .bool true]) 4 := gives_of_out noSpec_holds mixed 100 fun _ => ⟨by kernel_rfl, by kernel_rfl, by kernel_rfl⟩
theorem rowOf_46 : Gives Try.prog 40 #[.int .i64 46] (.tuple #[(rowOf 46).val, .bool true]) 4 := gives_of_out noSpec_holds mixed 100 fun _ => ⟨by kernel_rfl, by kernel_rfl, by kernel_rfl⟩
theorem rowOf_47 : Gives Try.prog 40 #[.int .i64 47] (.tuple #[(rowOf 47).val, .bool true]) 4 := gives_of_out noSpec_holds mixed 100 fun _ => ⟨by kernel_rfl, by kernel_rfl, by kernel_rfl⟩

theorem u32_of_nat (n : Nat) (h : n < 4294967296) : IntKind.u32.wrap (n : Int) = n := IntWalk.u32_in _ (by omega)
theorem i64_of_nat (n : Nat) (h : n < 9223372036854775808) : IntKind.i64.wrap (n : Int) = n := IntWalk.i64_in _ (by omega)
theorem hk32 : ∀ n : Int, 0 ≤ n → n < 2 ^ 32 → IntKind.u32.wrap n = n := fun n h0 h1 => IntWalk.u32_in _ (by omega)
theorem and32 (a b : Nat) (ha : a < 4294967296) (hb : b < 4294967296) : bits .and .u32 a b = ((a &&& b : Nat) : Int) := (bits_nat .u32 32 (by decide) hk32 a b ha hb).1
theorem or32 (a b : Nat) (ha : a < 4294967296) (hb : b < 4294967296) : bits .or .u32 a b = ((a ||| b : Nat) : Int) := (bits_nat .u32 32 (by decide) hk32 a b ha hb).2
theorem xor32 (a b : Nat) (ha : a < 4294967296) (hb : b < 4294967296) : bits .xor .u32 a b = ((a ^^^ b : Nat) : Int) := by
  have e1 : a % 2 ^ IntKind.u32.bits = a := Nat.mod_eq_of_lt ha
  have e2 : b % 2 ^ IntKind.u32.bits = b := Nat.mod_eq_of_lt hb
  simp only [bits, BitVec.ofInt_natCast, BitVec.toNat_xor, BitVec.toNat_ofNat, e1, e2]
  exact u32_of_nat _ (Nat.xor_lt_two_pow (n := 32) ha hb)
theorem xor64 (a b : Nat) (ha : a < 4294967296) (hb : b < 4294967296) : bits .xor .i64 a b = ((a ^^^ b : Nat) : Int) := by
  have e1 : a % 2 ^ IntKind.i64.bits = a := Nat.mod_eq_of_lt (Nat.lt_trans ha (by decide))
  have e2 : b % 2 ^ IntKind.i64.bits = b := Nat.mod_eq_of_lt (Nat.lt_trans hb (by decide))
  have h : a ^^^ b < 4294967296 := Nat.xor_lt_two_pow (n := 32) ha hb
  simp only [bits, BitVec.ofInt_natCast, BitVec.toNat_xor, BitVec.toNat_ofNat, e1, e2]
  exact i64_of_nat _ (by omega)
theorem pow_lt32 (b : Nat) (hb : b < 32) : 2 ^ b < 4294967296 := Nat.pow_lt_pow_right (a := 2) (by decide) hb
theorem mask_int (b : Nat) (hb : b < 32) : ((2 : Int) ^ b - 1) % 4294967296 = ((2 ^ b - 1 : Nat) : Int) := by
  have h1 := pow_lt32 b hb
  have h2 : 0 < 2 ^ b := Nat.two_pow_pos b
  have h3 : ((2 : Int) ^ b) = ((2 ^ b : Nat) : Int) := by simp
  rw [h3]; omega
theorem mask32 (x b : Nat) (hx : x < 4294967296) (hb : b < 32) : bits .and .u32 x (((2 : Int) ^ b - 1) % 4294967296) = ((x % 2 ^ b : Nat) : Int) := by
  have h1 := pow_lt32 b hb
  rw [mask_int b hb, and32 x _ hx (by omega), Nat.and_two_pow_sub_one_eq_mod]
/-- A field's bits. -/
def layN (f : Fld) (v : Int) : Nat :=
  if f.width = 0 then 0 else
  let x := (v.tdiv f.step % 4294967296).toNat % 2 ^ f.width
  (if f.turned then x ^^^ 1 else x) * 2 ^ f.pos % 4294967296
theorem layN_lt (f : Fld) (v : Int) : layN f v < 4294967296 := by
  unfold layN; split
  · decide
  · exact Nat.mod_lt _ (by decide)
/-- A field of a word. -/
def readN (f : Fld) (w : Nat) : Int :=
  if f.width = 0 then 0 else
  let x := (w / 2 ^ f.pos) % 2 ^ f.width
  let y : Nat := if f.turned then x ^^^ 1 else x
  let z : Int := if f.lo < 0 ∧ 2 ^ (f.width - 1) ≤ y then (y : Int) - 2 ^ f.width else y
  z * f.step
def inB (f : Fld) (v : Int) : Bool :=
  if f.step = 0 then v == 0 else decide (f.lo ≤ v) && (decide (v ≤ f.hi) && v.tmod f.step == 0)
def fitsB (r : Row) (i : I) : Bool :=
  inB r.f0 i.rd && (inB r.f1 i.rn && (inB r.f2 i.rm && (inB r.f3 i.imm && (inB r.f4 i.cond &&
    (if i.op = 14 then decide (1 ≤ i.imm) else if i.op = 28 ∨ i.op = 29 then i.rm != i.rd && i.rm != i.rn else true)))))
def laidN (r : Row) (i : I) : Nat :=
  let w := ((((r.word ||| layN r.f0 i.rd) ||| layN r.f1 i.rn) ||| layN r.f2 i.rm) ||| layN r.f3 i.imm) ||| layN r.f4 i.cond
  if i.op = 14 then w ||| (((64 - i.imm) % 4294967296).toNat * 65536 % 4294967296 ||| ((63 - i.imm) % 4294967296).toNat * 1024 % 4294967296) else w
def asI (r : Row) (op : Int) (w : Nat) : I :=
  ⟨op, readN r.f0 w, readN r.f1 w, readN r.f2 w, if op = 14 then 63 - ((w / 1024 % 64 : Nat) : Int) else readN r.f3 w, readN r.f4 w⟩
/-- Where the fields of a row may stand. -/
def Fld.good (f : Fld) : Bool := decide (f.pos < 32) && decide (f.width < 32) && (f.width == 0 || decide (1 ≤ f.step) && decide (f.step ≤ 8)) && decide (-2147483648 ≤ f.lo) && decide (f.lo ≤ 0) && decide (0 ≤ f.hi) && decide (f.hi ≤ 2147483647) && decide (0 ≤ f.step) && decide (f.step ≤ 8) && (!f.turned || f.width == 4)
def Row.good (r : Row) : Bool := decide (r.word < 4294967296) && r.f0.good && r.f1.good && r.f2.good && r.f3.good && r.f4.good
theorem rowOf_good : ∀ op, op < 48 → (rowOf op).good = true := by decide +kernel

/-- It hands back v; nothing that was there has turned. -/
def Back (f : FuncId) (args : Array Value) (v : Value) : Prop := ∀ w : World, Calls Try.prog f args w fun e w' => e = .returned v ∧ Below w.heap.size w w'
/-- It hands back v; one block is new, and some draws were made. -/
def Back1 (f : FuncId) (args : Array Value) (v : Value) (o : Obj) : Prop := ∀ w : World, Calls Try.prog f args w fun e w' => e = .returned v ∧ ∃ n, w' = (w.alloc o).drewN n
def Fld.cells (f : Fld) : Array Value := #[.int .i64 f.pos, .int .i64 f.width, .int .i64 f.lo, .int .i64 f.hi, .int .i64 f.step, .bool f.turned]
theorem ret_bool {a b : Bool} (h : a = b) : Ending.returned (.bool a) = .returned (.bool b) := by rw [h]
theorem ret_int {k : IntKind} {a b : Int} (h : a = b) : Ending.returned (.int k a) = .returned (.int k b) := by rw [h]
set_option maxHeartbeats 400000 in
theorem in_any (f : Fld) (v : Int) (hs : 0 ≤ f.step) (hs' : f.step ≤ 8) : Back1 57 #[.agg f.cells, .int .i64 v] (.bool (inB f v)) (.cells f.cells 81) := by
  intro w
  obtain ⟨p, wd, lo, hi, st, t⟩ := f
  simp only [Fld.cells] at *
  by_cases h0 : st = 0
  · subst h0
    go_enter Try.func57, Try.ntmps57
    go_wp2
    go_returns
    exact ⟨ret_bool (by simp [inB]), 0, rfl⟩
  · have hst : (st == 0) = false := by simpa using h0
    by_cases h1 : lo ≤ v
    · by_cases h2 : v ≤ hi
      · have hm : IntKind.i64.wrap (v.tmod st) = v.tmod st := IntWalk.i64_in _ (by
          have := Int.tmod_lt_of_pos v (b := st) (by omega)
          have h3 := Int.lt_tmod_of_pos v (b := st) (by omega)
          omega)
        have HM := Lib.hid hm
        clear hm
        go_enter Try.func57, Try.ntmps57
        go_wp2
        go_returns
        refine ⟨ret_bool ?_, 0, rfl⟩
        simp [inB, h0, h1, h2]
      · have hd : decide (v ≤ hi) = false := by simpa using h2
        go_enter Try.func57, Try.ntmps57
        go_wp2
        go_returns
        refine ⟨ret_bool ?_, 0, rfl⟩
        simp only [inB, h0, if_false]
        have : decide (v ≤ hi) = false := by simp; omega
        simp [this]
    · have hd : decide (lo ≤ v) = false := by simpa using h1
      go_enter Try.func57, Try.ntmps57
      go_wp2
      go_returns
      refine ⟨ret_bool ?_, 0, rfl⟩
      simp only [inB, h0, if_false]
      have : decide (lo ≤ v) = false := by simp; omega
      simp [this]
set_option maxHeartbeats 400000 in
theorem lay_any (f : Fld) (v : Int) (hv1 : -9223372036854775808 ≤ v) (hv2 : v ≤ 9223372036854775807) (hg : f.good = true) : Back1 58 #[.agg f.cells, .int .i64 v] (.int .u32 (layN f v : Nat)) (.cells f.cells 81) := by
  intro w
  obtain ⟨p, wd, lo, hi, st, t⟩ := f
  have hg' := hg
  simp only [Fld.good, Bool.and_eq_true, Bool.or_eq_true, decide_eq_true_eq, beq_iff_eq] at hg'
  obtain ⟨⟨⟨⟨⟨⟨⟨⟨⟨hp, hw⟩, hst⟩, _⟩, _⟩, _⟩, _⟩, _⟩, _⟩, _⟩ := hg'
  clear hg
  simp only [Fld.cells] at *
  by_cases h0 : wd = 0
  · subst h0
    clear hst
    go_enter Try.func58, Try.ntmps58
    go_wp2
    go_returns
    exact ⟨rfl, 0, rfl⟩
  · have hwd : ((wd : Int) == 0) = false := by simp; omega
    have hst1 : 1 ≤ st := by rcases hst with h | h <;> omega
    have hst8 : st ≤ 8 := by rcases hst with h | h <;> omega
    have hwd1 : 1 ≤ wd := by omega
    have hx : ((v.tdiv st % 4294967296).toNat : Int) = v.tdiv st % 4294967296 := by omega
    have hxl : (v.tdiv st % 4294967296).toNat < 4294967296 := by omega
    have hm := mask32 (v.tdiv st % 4294967296).toNat wd hxl hw
    rw [hx] at hm
    have hlt := pow_lt32 wd hw
    have hlt2 : (v.tdiv st % 4294967296).toNat % 2 ^ wd < 4294967296 := Nat.lt_of_le_of_lt (Nat.mod_le _ _) hxl
    have fin : ((((layN ⟨p, wd, lo, hi, st, t⟩ v : Nat)) : Int)) = (if t then bits .xor .u32 (bits .and .u32 (v.tdiv st % 4294967296) (((2 : Int) ^ wd - 1) % 4294967296)) 1 else bits .and .u32 (v.tdiv st % 4294967296) (((2 : Int) ^ wd - 1) % 4294967296)) * 2 ^ p % 4294967296 := by
      unfold layN
      rw [hm]
      have hxo := xor32 _ 1 hlt2 (by decide)
      simp only [Int.natCast_one] at hxo
      rw [hxo]
      simp only [h0, if_false]
      cases t <;> simp
    have HF := Lib.hid fin
    clear hst hx hxl hm hlt hlt2 fin
    cases t
    all_goals
      go_enter Try.func58, Try.ntmps58
      go_wp2
      go_quiet (fail)
      go_wp2
      go_returns
      refine ⟨ret_int ?_, _, rfl⟩
      rw [HF.out]
      rfl
theorem bits_cast (v : Nat) (p wd : Nat) (hv : v < 4294967296) (hw : wd < 32) : bits .and .u32 ((v : Int) / 2 ^ p) (((2 : Int) ^ wd - 1) % 4294967296) = ((v / 2 ^ p % 2 ^ wd : Nat) : Int) := by
  have : ((v : Int) / 2 ^ p) = ((v / 2 ^ p : Nat) : Int) := by simp
  rw [this]
  exact mask32 _ _ (Nat.lt_of_le_of_lt (Nat.div_le_self _ _) hv) hw
set_option maxHeartbeats 400000 in
/-- A field that begins at nought. -/
theorem read_plain (f : Fld) (v : Nat) (hv : v < 4294967296) (hg : f.good = true) (hlo : f.lo = 0) : Back1 59 #[.agg f.cells, .int .u32 v] (.int .i64 (readN f v)) (.cells f.cells 81) := by
  intro w
  obtain ⟨p, wd, lo, hi, st, t⟩ := f
  have hg' := hg
  simp only [Fld.good, Bool.and_eq_true, Bool.or_eq_true, decide_eq_true_eq, beq_iff_eq] at hg'
  obtain ⟨⟨⟨⟨⟨⟨⟨⟨⟨hp, hw⟩, hst⟩, _⟩, _⟩, _⟩, _⟩, _⟩, _⟩, htu⟩ := hg'
  clear hg
  simp only at hlo
  subst hlo
  simp only [Fld.cells] at *
  by_cases h0 : wd = 0
  · subst h0
    clear hst htu
    go_enter Try.func59, Try.ntmps59
    go_wp2
    go_returns
    exact ⟨rfl, 0, rfl⟩
  · have hwd : ((wd : Int) == 0) = false := by simp; omega
    have hst1 : 1 ≤ st := by rcases hst with h | h <;> omega
    have hst8 : st ≤ 8 := by rcases hst with h | h <;> omega
    have hwd1 : 1 ≤ wd := by omega
    have hm := bits_cast v p wd hv hw
    have hlt := pow_lt32 wd hw
    have hN : readN ⟨p, wd, 0, hi, st, t⟩ v = (((if t then (v / 2 ^ p % 2 ^ wd) ^^^ 1 else v / 2 ^ p % 2 ^ wd : Nat)) : Int) * st := by
      simp [readN, h0]
    generalize hx : v / 2 ^ p % 2 ^ wd = x at hm hN
    have hxl : x < 2 ^ wd := by rw [← hx]; exact Nat.mod_lt _ (Nat.two_pow_pos _)
    have hxl32 : x < 4294967296 := Nat.lt_trans hxl hlt
    have hxo := xor64 x 1 hxl32 (by decide)
    simp only [Int.natCast_one] at hxo
    clear hst hx hxl hlt
    rw [hN]
    clear hN
    cases t
    · simp only [Bool.false_eq_true, if_false]
      have hm1 : 0 ≤ (x : Int) * st := Int.mul_nonneg (by omega) (by omega)
      have hm2 : (x : Int) * st ≤ 34359738368 := Int.le_trans (Int.mul_le_mul (c := 4294967296) (d := 8) (by omega) hst8 (by omega) (by omega)) (by decide)
      clear hxo htu
      go_enter Try.func59, Try.ntmps59
      go_wp2
      go_quiet (fail)
      go_wp2
      go_returns
      exact ⟨rfl, _, rfl⟩
    · simp only [if_true]
      have hy : x ^^^ 1 < 4294967296 := Nat.xor_lt_two_pow (n := 32) hxl32 (by decide)
      have hm1 : 0 ≤ ((x ^^^ 1 : Nat) : Int) * st := Int.mul_nonneg (by omega) (by omega)
      have hm2 : ((x ^^^ 1 : Nat) : Int) * st ≤ 34359738368 := Int.le_trans (Int.mul_le_mul (c := 4294967296) (d := 8) (by omega) hst8 (by omega) (by omega)) (by decide)
      clear htu
      go_enter Try.func59, Try.ntmps59
      go_wp2
      go_quiet (fail)
      go_wp2
      go_returns
      exact ⟨rfl, _, rfl⟩
def near26 : Fld := ⟨0, 26, -33554432, 33554431, 1, false⟩
def near19 : Fld := ⟨5, 19, -262144, 262143, 1, false⟩
set_option maxHeartbeats 400000 in
/-- A field of numbers on both sides of nought. -/
theorem read_near (p wd x n m v : Nat) (lo hi : Int) (hp : p < 32) (hw : wd < 32) (hw1 : 1 ≤ wd) (hlo : lo < 0) (hx : x < m) (hmn : m ≤ 4294967295) (hn : n ≤ 2147483647)
    (e1 : (2 : Int) ^ (wd - 1) = n) (e2 : (2 : Int) ^ wd = m) (e3 : bits .and .u32 ((v : Int) / 2 ^ p) ((m : Int) - 1) = x) :
    Back1 59 #[.agg #[.int .i64 p, .int .i64 wd, .int .i64 lo, .int .i64 hi, .int .i64 1, .bool false], .int .u32 v] (.int .i64 (if n ≤ x then (x : Int) - m else x)) (.cells #[.int .i64 p, .int .i64 wd, .int .i64 lo, .int .i64 hi, .int .i64 1, .bool false] 81) := by
  intro w
  have hwd : ((wd : Int) == 0) = false := by simp; omega
  by_cases hc : n ≤ x
  · rw [if_pos hc]
    go_enter Try.func59, Try.ntmps59
    go_wp2
    go_quiet (fail)
    go_wp2
    go_returns
    exact ⟨rfl, _, rfl⟩
  · rw [if_neg hc]
    go_enter Try.func59, Try.ntmps59
    go_wp2
    go_quiet (fail)
    go_wp2
    go_returns
    exact ⟨rfl, _, rfl⟩
theorem read_near26 (v : Nat) (hv : v < 4294967296) : Back1 59 #[.agg near26.cells, .int .u32 v] (.int .i64 (readN near26 v)) (.cells near26.cells 81) := by
  have h := read_near 0 26 (v / 2 ^ 0 % 2 ^ 26) (2 ^ 25) (2 ^ 26) v (-33554432) 33554431 (by decide) (by decide) (by decide) (by decide) (Nat.mod_lt _ (by decide)) (by decide) (by decide) (by simp) (by simp)
    (by have := bits_cast v 0 26 hv (by decide); simpa using this)
  have hN : readN near26 v = if 2 ^ 25 ≤ v / 2 ^ 0 % 2 ^ 26 then ((v / 2 ^ 0 % 2 ^ 26 : Nat) : Int) - ((2 ^ 26 : Nat) : Int) else ((v / 2 ^ 0 % 2 ^ 26 : Nat) : Int) := by
    simp [readN, near26]
  rw [hN]
  exact h
theorem read_near19 (v : Nat) (hv : v < 4294967296) : Back1 59 #[.agg near19.cells, .int .u32 v] (.int .i64 (readN near19 v)) (.cells near19.cells 81) := by
  have h := read_near 5 19 (v / 2 ^ 5 % 2 ^ 19) (2 ^ 18) (2 ^ 19) v (-262144) 262143 (by decide) (by decide) (by decide) (by decide) (Nat.mod_lt _ (by decide)) (by decide) (by decide) (by simp) (by simp)
    (by have := bits_cast v 5 19 hv (by decide); simpa using this)
  have hN : readN near19 v = if 2 ^ 18 ≤ v / 2 ^ 5 % 2 ^ 19 then ((v / 2 ^ 5 % 2 ^ 19 : Nat) : Int) - ((2 ^ 19 : Nat) : Int) else ((v / 2 ^ 5 % 2 ^ 19 : Nat) : Int) := by
    simp [readN, near19]
  rw [hN]
  exact h
def Row.nice (r : Row) : Bool := r.good && decide (∀ f ∈ [r.f0, r.f1, r.f2, r.f3, r.f4], f.lo = 0 ∨ f = near26 ∨ f = near19)
theorem rowOf_nice : ∀ op, op < 48 → (rowOf op).nice = true := by decide +kernel
theorem read_any (f : Fld) (v : Nat) (hv : v < 4294967296) (hg : f.good = true) (hn : f.lo = 0 ∨ f = near26 ∨ f = near19) : Back1 59 #[.agg f.cells, .int .u32 v] (.int .i64 (readN f v)) (.cells f.cells 81) := by
  rcases hn with h | rfl | rfl
  · exact read_plain f v hv hg h
  · exact read_near26 v hv
  · exact read_near19 v hv

def I.cells (i : I) : Array Value := #[.int .i64 i.op, .int .i64 i.rd, .int .i64 i.rn, .int .i64 i.rm, .int .i64 i.imm, .int .i64 i.cond]
def I.five (i : I) : Array Value := #[.int .i64 i.rd, .int .i64 i.rn, .int .i64 i.rm, .int .i64 i.imm, .int .i64 i.cond]
def Row.cells (r : Row) : Array Value := #[.int .u32 r.word,
  .int .i64 r.f0.pos, .int .i64 r.f0.width, .int .i64 r.f0.lo, .int .i64 r.f0.hi, .int .i64 r.f0.step, .bool r.f0.turned,
  .int .i64 r.f1.pos, .int .i64 r.f1.width, .int .i64 r.f1.lo, .int .i64 r.f1.hi, .int .i64 r.f1.step, .bool r.f1.turned,
  .int .i64 r.f2.pos, .int .i64 r.f2.width, .int .i64 r.f2.lo, .int .i64 r.f2.hi, .int .i64 r.f2.step, .bool r.f2.turned,
  .int .i64 r.f3.pos, .int .i64 r.f3.width, .int .i64 r.f3.lo, .int .i64 r.f3.hi, .int .i64 r.f3.step, .bool r.f3.turned,
  .int .i64 r.f4.pos, .int .i64 r.f4.width, .int .i64 r.f4.lo, .int .i64 r.f4.hi, .int .i64 r.f4.step, .bool r.f4.turned]
theorem gives_of_one {f : FuncId} {args : Array Value} {v : Value} {o : Obj} (h : Back1 f args v o) : Gives Try.prog f args v 1 := fun W =>
  (h W).mono fun e W' ⟨he, n, hw⟩ => ⟨he, by rw [hw]; exact below_drewN ((Below.refl _ _).alloc (Nat.le_refl _) _) _, by rw [hw]; simp⟩
theorem values_gives (i : I) : Gives Try.prog 56 #[.agg i.cells] (.agg i.five) 2 :=
  gives_of_out noSpec_holds mixed 100 fun _ => ⟨by kernel_rfl, by kernel_rfl, by kernel_rfl⟩
theorem in_gives (f : Fld) (v : Int) (hg : f.good = true) {b : Bool} (hb : inB f v = b) : Gives Try.prog 57 #[.agg f.cells, .int .i64 v] (.bool b) 1 := by
  simp only [Fld.good, Bool.and_eq_true, decide_eq_true_eq] at hg
  rw [← hb]
  exact gives_of_one (in_any f v hg.1.1.2 hg.1.2)
/-- The bits of the five fields, laid together. -/
def laidE (r : Row) (i : I) : Int :=
  bits .or .u32 (bits .or .u32 (bits .or .u32 (bits .or .u32 (bits .or .u32 r.word (layN r.f0 i.rd)) (layN r.f1 i.rn)) (layN r.f2 i.rm)) (layN r.f3 i.imm)) (layN r.f4 i.cond)
def inC (f : Fld) (v : Int) (b : Bool) : CallC := ⟨57, #[.agg f.cells, .int .i64 v], .bool b, 1⟩
theorem cl_nil : ∀ c ∈ ([] : List CallC), Gives Try.prog c.f c.args c.v c.n := by simp
theorem cl_cons {f : Fld} {v : Int} {b : Bool} {l : List CallC} (hg : f.good = true) (h : inB f v = b) (hl : ∀ c ∈ l, Gives Try.prog c.f c.args c.v c.n) : ∀ c ∈ inC f v b :: l, Gives Try.prog c.f c.args c.v c.n := by
  intro c hc
  rcases List.mem_cons.1 hc with rfl | hc
  · exact in_gives f v hg h
  · exact hl c hc
structure Row.Good (r : Row) : Prop where
  word : r.word < 4294967296
  g0 : r.f0.good = true
  g1 : r.f1.good = true
  g2 : r.f2.good = true
  g3 : r.f3.good = true
  g4 : r.f4.good = true
theorem Row.Good.of {r : Row} (h : r.good = true) : r.Good := by
  simp only [Row.good, Bool.and_eq_true, decide_eq_true_eq] at h
  exact ⟨h.1.1.1.1.1, h.1.1.1.1.2, h.1.1.1.2, h.1.1.2, h.1.2, h.2⟩
theorem fits_0 (r : Row) (i : I) (g : r.Good) (h0 : inB r.f0 i.rd = false) : Gives Try.prog 41 #[.agg r.cells, .agg i.cells] (.bool false) 5 :=
  gives_of_out (withCalls_holds (fs := [57]) (cl := [inC r.f0 i.rd false]) (cl_cons g.g0 h0 cl_nil)) mixed 200 fun _ => ⟨by kernel_rfl, by kernel_rfl, by kernel_rfl⟩
theorem fits_1 (r : Row) (i : I) (g : r.Good) (h0 : inB r.f0 i.rd = true) (h1 : inB r.f1 i.rn = false) : Gives Try.prog 41 #[.agg r.cells, .agg i.cells] (.bool false) 6 :=
  gives_of_out (withCalls_holds (fs := [57]) (cl := [inC r.f0 i.rd true, inC r.f1 i.rn false]) (cl_cons g.g0 h0 (cl_cons g.g1 h1 cl_nil))) mixed 200 fun _ => ⟨by kernel_rfl, by kernel_rfl, by kernel_rfl⟩
theorem fits_2 (r : Row) (i : I) (g : r.Good) (h0 : inB r.f0 i.rd = true) (h1 : inB r.f1 i.rn = true) (h2 : inB r.f2 i.rm = false) : Gives Try.prog 41 #[.agg r.cells, .agg i.cells] (.bool false) 7 :=
  gives_of_out (withCalls_holds (fs := [57]) (cl := [inC r.f0 i.rd true, inC r.f1 i.rn true, inC r.f2 i.rm false]) (cl_cons g.g0 h0 (cl_cons g.g1 h1 (cl_cons g.g2 h2 cl_nil)))) mixed 200 fun _ => ⟨by kernel_rfl, by kernel_rfl, by kernel_rfl⟩
theorem fits_3 (r : Row) (i : I) (g : r.Good) (h0 : inB r.f0 i.rd = true) (h1 : inB r.f1 i.rn = true) (h2 : inB r.f2 i.rm = true) (h3 : inB r.f3 i.imm = false) : Gives Try.prog 41 #[.agg r.cells, .agg i.cells] (.bool false) 8 :=
  gives_of_out (withCalls_holds (fs := [57]) (cl := [inC r.f0 i.rd true, inC r.f1 i.rn true, inC r.f2 i.rm true, inC r.f3 i.imm false]) (cl_cons g.g0 h0 (cl_cons g.g1 h1 (cl_cons g.g2 h2 (cl_cons g.g3 h3 cl_nil))))) mixed 200 fun _ => ⟨by kernel_rfl, by kernel_rfl, by kernel_rfl⟩
theorem fits_4 (r : Row) (i : I) (g : r.Good) (h0 : inB r.f0 i.rd = true) (h1 : inB r.f1 i.rn = true) (h2 : inB r.f2 i.rm = true) (h3 : inB r.f3 i.imm = true) (h4 : inB r.f4 i.cond = false) : Gives Try.prog 41 #[.agg r.cells, .agg i.cells] (.bool false) 9 :=
  gives_of_out (withCalls_holds (fs := [57]) (cl := [inC r.f0 i.rd true, inC r.f1 i.rn true, inC r.f2 i.rm true, inC r.f3 i.imm true, inC r.f4 i.cond false]) (cl_cons g.g0 h0 (cl_cons g.g1 h1 (cl_cons g.g2 h2 (cl_cons g.g3 h3 (cl_cons g.g4 h4 cl_nil)))))) mixed 200 fun _ => ⟨by kernel_rfl, by kernel_rfl, by kernel_rfl⟩
theorem fits_lsli (r : Row) (i : I) (g : r.Good) (h0 : inB r.f0 i.rd = true) (h1 : inB r.f1 i.rn = true) (h2 : inB r.f2 i.rm = true) (h3 : inB r.f3 i.imm = true) (h4 : inB r.f4 i.cond = true) (o : i.op = 14) : Gives Try.prog 41 #[.agg r.cells, .agg i.cells] (.bool (decide (1 ≤ i.imm))) 9 :=
  gives_of_asked (withBoth_holds (fs := [57]) (cl := [inC r.f0 i.rd true, inC r.f1 i.rn true, inC r.f2 i.rm true, inC r.f3 i.imm true, inC r.f4 i.cond true]) (fn := 41) (ts := [24]) (rl := [.bool true]) (cl_cons g.g0 h0 (cl_cons g.g1 h1 (cl_cons g.g2 h2 (cl_cons g.g3 h3 (cl_cons g.g4 h4 cl_nil)))))) mixed 200 (qs := [(.val (.bool (i.op == 14)), .val (.bool true))]) (by simp [o]) fun _ => ⟨by kernel_rfl, by kernel_rfl, by kernel_rfl⟩
theorem fits_stxr_1 (r : Row) (i : I) (g : r.Good) (h0 : inB r.f0 i.rd = true) (h1 : inB r.f1 i.rn = true) (h2 : inB r.f2 i.rm = true) (h3 : inB r.f3 i.imm = true) (h4 : inB r.f4 i.cond = true) (o : i.op = 28) (d : (i.rm != i.rd) = true) : Gives Try.prog 41 #[.agg r.cells, .agg i.cells] (.bool (i.rm != i.rn)) 9 :=
  gives_of_asked (withBoth_holds (fs := [57]) (cl := [inC r.f0 i.rd true, inC r.f1 i.rn true, inC r.f2 i.rm true, inC r.f3 i.imm true, inC r.f4 i.cond true]) (fn := 41) (ts := [24, 29, 35]) (rl := [.bool false, .bool true, .bool true]) (cl_cons g.g0 h0 (cl_cons g.g1 h1 (cl_cons g.g2 h2 (cl_cons g.g3 h3 (cl_cons g.g4 h4 cl_nil)))))) mixed 200 (qs := [(.val (.bool (i.rm != i.rd)), .val (.bool true)), (.val (.bool (i.op == 28)), .val (.bool true)), (.val (.bool (i.op == 14)), .val (.bool false))]) (by simp [o, d]) fun _ => ⟨by kernel_rfl, by kernel_rfl, by kernel_rfl⟩
theorem fits_stxr_2 (r : Row) (i : I) (g : r.Good) (h0 : inB r.f0 i.rd = true) (h1 : inB r.f1 i.rn = true) (h2 : inB r.f2 i.rm = true) (h3 : inB r.f3 i.imm = true) (h4 : inB r.f4 i.cond = true) (o : i.op = 28) (d : (i.rm != i.rd) = false) : Gives Try.prog 41 #[.agg r.cells, .agg i.cells] (.bool false) 9 :=
  gives_of_asked (withBoth_holds (fs := [57]) (cl := [inC r.f0 i.rd true, inC r.f1 i.rn true, inC r.f2 i.rm true, inC r.f3 i.imm true, inC r.f4 i.cond true]) (fn := 41) (ts := [24, 29, 35]) (rl := [.bool false, .bool true, .bool false]) (cl_cons g.g0 h0 (cl_cons g.g1 h1 (cl_cons g.g2 h2 (cl_cons g.g3 h3 (cl_cons g.g4 h4 cl_nil)))))) mixed 200 (qs := [(.val (.bool (i.rm != i.rd)), .val (.bool false)), (.val (.bool (i.op == 28)), .val (.bool true)), (.val (.bool (i.op == 14)), .val (.bool false))]) (by simp [o, d]) fun _ => ⟨by kernel_rfl, by kernel_rfl, by kernel_rfl⟩
theorem fits_stlxr_1 (r : Row) (i : I) (g : r.Good) (h0 : inB r.f0 i.rd = true) (h1 : inB r.f1 i.rn = true) (h2 : inB r.f2 i.rm = true) (h3 : inB r.f3 i.imm = true) (h4 : inB r.f4 i.cond = true) (o : i.op = 29) (d : (i.rm != i.rd) = true) : Gives Try.prog 41 #[.agg r.cells, .agg i.cells] (.bool (i.rm != i.rn)) 9 :=
  gives_of_asked (withBoth_holds (fs := [57]) (cl := [inC r.f0 i.rd true, inC r.f1 i.rn true, inC r.f2 i.rm true, inC r.f3 i.imm true, inC r.f4 i.cond true]) (fn := 41) (ts := [24, 29, 30, 35]) (rl := [.bool false, .bool false, .bool true, .bool true]) (cl_cons g.g0 h0 (cl_cons g.g1 h1 (cl_cons g.g2 h2 (cl_cons g.g3 h3 (cl_cons g.g4 h4 cl_nil)))))) mixed 200 (qs := [(.val (.bool (i.rm != i.rd)), .val (.bool true)), (.val (.bool (i.op == 29)), .val (.bool true)), (.val (.bool (i.op == 28)), .val (.bool false)), (.val (.bool (i.op == 14)), .val (.bool false))]) (by simp [o, d]) fun _ => ⟨by kernel_rfl, by kernel_rfl, by kernel_rfl⟩
theorem fits_stlxr_2 (r : Row) (i : I) (g : r.Good) (h0 : inB r.f0 i.rd = true) (h1 : inB r.f1 i.rn = true) (h2 : inB r.f2 i.rm = true) (h3 : inB r.f3 i.imm = true) (h4 : inB r.f4 i.cond = true) (o : i.op = 29) (d : (i.rm != i.rd) = false) : Gives Try.prog 41 #[.agg r.cells, .agg i.cells] (.bool false) 9 :=
  gives_of_asked (withBoth_holds (fs := [57]) (cl := [inC r.f0 i.rd true, inC r.f1 i.rn true, inC r.f2 i.rm true, inC r.f3 i.imm true, inC r.f4 i.cond true]) (fn := 41) (ts := [24, 29, 30, 35]) (rl := [.bool false, .bool false, .bool true, .bool false]) (cl_cons g.g0 h0 (cl_cons g.g1 h1 (cl_cons g.g2 h2 (cl_cons g.g3 h3 (cl_cons g.g4 h4 cl_nil)))))) mixed 200 (qs := [(.val (.bool (i.rm != i.rd)), .val (.bool false)), (.val (.bool (i.op == 29)), .val (.bool true)), (.val (.bool (i.op == 28)), .val (.bool false)), (.val (.bool (i.op == 14)), .val (.bool false))]) (by simp [o, d]) fun _ => ⟨by kernel_rfl, by kernel_rfl, by kernel_rfl⟩
theorem fits_other (r : Row) (i : I) (g : r.Good) (h0 : inB r.f0 i.rd = true) (h1 : inB r.f1 i.rn = true) (h2 : inB r.f2 i.rm = true) (h3 : inB r.f3 i.imm = true) (h4 : inB r.f4 i.cond = true) (o1 : i.op ≠ 14) (o2 : i.op ≠ 28) (o3 : i.op ≠ 29) : Gives Try.prog 41 #[.agg r.cells, .agg i.cells] (.bool true) 9 :=
  gives_of_asked (withBoth_holds (fs := [57]) (cl := [inC r.f0 i.rd true, inC r.f1 i.rn true, inC r.f2 i.rm true, inC r.f3 i.imm true, inC r.f4 i.cond true]) (fn := 41) (ts := [24, 29, 30]) (rl := [.bool false, .bool false, .bool false]) (cl_cons g.g0 h0 (cl_cons g.g1 h1 (cl_cons g.g2 h2 (cl_cons g.g3 h3 (cl_cons g.g4 h4 cl_nil)))))) mixed 200 (qs := [(.val (.bool (i.op == 29)), .val (.bool false)), (.val (.bool (i.op == 28)), .val (.bool false)), (.val (.bool (i.op == 14)), .val (.bool false))]) (by simp [o1, o2, o3]) fun _ => ⟨by kernel_rfl, by kernel_rfl, by kernel_rfl⟩
theorem fits_gives (r : Row) (i : I) (g : r.Good) : ∃ n, Gives Try.prog 41 #[.agg r.cells, .agg i.cells] (.bool (fitsB r i)) n := by
  unfold fitsB
  cases h0 : inB r.f0 i.rd
  · exact ⟨_, fits_0 r i g h0⟩
  cases h1 : inB r.f1 i.rn
  · exact ⟨_, fits_1 r i g h0 h1⟩
  cases h2 : inB r.f2 i.rm
  · exact ⟨_, fits_2 r i g h0 h1 h2⟩
  cases h3 : inB r.f3 i.imm
  · exact ⟨_, fits_3 r i g h0 h1 h2 h3⟩
  cases h4 : inB r.f4 i.cond
  · exact ⟨_, fits_4 r i g h0 h1 h2 h3 h4⟩
  simp only [Bool.true_and]
  by_cases o1 : i.op = 14
  · rw [if_pos o1]
    exact ⟨_, fits_lsli r i g h0 h1 h2 h3 h4 o1⟩
  rw [if_neg o1]
  by_cases o2 : i.op = 28
  · rw [if_pos (.inl o2)]
    cases d : i.rm != i.rd
    · exact ⟨_, fits_stxr_2 r i g h0 h1 h2 h3 h4 o2 d⟩
    · exact ⟨_, fits_stxr_1 r i g h0 h1 h2 h3 h4 o2 d⟩
  by_cases o3 : i.op = 29
  · rw [if_pos (.inr o3)]
    cases d : i.rm != i.rd
    · exact ⟨_, fits_stlxr_2 r i g h0 h1 h2 h3 h4 o3 d⟩
    · exact ⟨_, fits_stlxr_1 r i g h0 h1 h2 h3 h4 o3 d⟩
  · rw [if_neg (by rintro (h | h) <;> contradiction)]
    exact ⟨_, fits_other r i g h0 h1 h2 h3 h4 o1 o2 o3⟩

/-- The numbers of an instruction are int's. -/
structure I.fit (i : I) : Prop where
  rd : -9223372036854775808 ≤ i.rd ∧ i.rd ≤ 9223372036854775807
  rn : -9223372036854775808 ≤ i.rn ∧ i.rn ≤ 9223372036854775807
  rm : -9223372036854775808 ≤ i.rm ∧ i.rm ≤ 9223372036854775807
  imm : -9223372036854775808 ≤ i.imm ∧ i.imm ≤ 9223372036854775807
  cond : -9223372036854775808 ≤ i.cond ∧ i.cond ≤ 9223372036854775807
def layC (f : Fld) (v : Int) : CallC := ⟨58, #[.agg f.cells, .int .i64 v], .int .u32 (layN f v : Nat), 1⟩
theorem lay_cons {f : Fld} {v : Int} {l : List CallC} (hg : f.good = true) (h : -9223372036854775808 ≤ v ∧ v ≤ 9223372036854775807) (hl : ∀ c ∈ l, Gives Try.prog c.f c.args c.v c.n) : ∀ c ∈ layC f v :: l, Gives Try.prog c.f c.args c.v c.n := by
  intro c hc
  rcases List.mem_cons.1 hc with rfl | hc
  · exact gives_of_one (lay_any f v h.1 h.2 hg)
  · exact hl c hc
def readC (f : Fld) (w : Nat) : CallC := ⟨59, #[.agg f.cells, .int .u32 w], .int .i64 (readN f w), 1⟩
theorem read_cons {f : Fld} {w : Nat} {l : List CallC} (hg : f.good = true) (hn : f.lo = 0 ∨ f = near26 ∨ f = near19) (h : w < 4294967296) (hl : ∀ c ∈ l, Gives Try.prog c.f c.args c.v c.n) : ∀ c ∈ readC f w :: l, Gives Try.prog c.f c.args c.v c.n := by
  intro c hc
  rcases List.mem_cons.1 hc with rfl | hc
  · exact gives_of_one (read_any f w h hg hn)
  · exact hl c hc
/-- The word of Lsli, with its two numbers. -/
def laidL (r : Row) (i : I) : Int :=
  bits .or .u32 (laidE r i) (bits .or .u32 (IntKind.u32.wrap (IntKind.u32.wrap (IntKind.i64.wrap (64 - i.imm)) * 2 ^ 16)) (IntKind.u32.wrap (IntKind.u32.wrap (IntKind.i64.wrap (63 - i.imm)) * 2 ^ 10)))
theorem laid_other (r : Row) (i : I) (g : r.Good) (h : i.fit) (o : i.op ≠ 14) : Gives Try.prog 42 #[.agg r.cells, .agg i.cells] (.int .u32 (laidE r i)) 9 :=
  gives_of_asked (withBoth_holds (fs := [58]) (cl := [layC r.f0 i.rd, layC r.f1 i.rn, layC r.f2 i.rm, layC r.f3 i.imm, layC r.f4 i.cond]) (fn := 42) (ts := [27]) (rl := [.bool false]) (lay_cons g.g0 h.rd (lay_cons g.g1 h.rn (lay_cons g.g2 h.rm (lay_cons g.g3 h.imm (lay_cons g.g4 h.cond cl_nil)))))) mixed 200 (qs := [(.val (.bool (i.op == 14)), .val (.bool false))]) (by simp [o]) fun _ => ⟨by kernel_rfl, by kernel_rfl, by kernel_rfl⟩
theorem laid_lsli (r : Row) (i : I) (g : r.Good) (h : i.fit) (o : i.op = 14) : Gives Try.prog 42 #[.agg r.cells, .agg i.cells] (.int .u32 (laidL r i)) 9 :=
  gives_of_asked (withBoth_holds (fs := [58]) (cl := [layC r.f0 i.rd, layC r.f1 i.rn, layC r.f2 i.rm, layC r.f3 i.imm, layC r.f4 i.cond]) (fn := 42) (ts := [27]) (rl := [.bool true]) (lay_cons g.g0 h.rd (lay_cons g.g1 h.rn (lay_cons g.g2 h.rm (lay_cons g.g3 h.imm (lay_cons g.g4 h.cond cl_nil)))))) mixed 200 (qs := [(.val (.bool (i.op == 14)), .val (.bool true))]) (by simp [o]) fun _ => ⟨by kernel_rfl, by kernel_rfl, by kernel_rfl⟩
structure Row.Nice (r : Row) : Prop extends r.Good where
  n0 : r.f0.lo = 0 ∨ r.f0 = near26 ∨ r.f0 = near19
  n1 : r.f1.lo = 0 ∨ r.f1 = near26 ∨ r.f1 = near19
  n2 : r.f2.lo = 0 ∨ r.f2 = near26 ∨ r.f2 = near19
  n3 : r.f3.lo = 0 ∨ r.f3 = near26 ∨ r.f3 = near19
  n4 : r.f4.lo = 0 ∨ r.f4 = near26 ∨ r.f4 = near19
theorem Row.Nice.of {r : Row} (h : r.nice = true) : r.Nice := by
  simp only [Row.nice, Bool.and_eq_true, decide_eq_true_eq] at h
  obtain ⟨h1, h2⟩ := h
  exact { toGood := .of h1, n0 := h2 _ (by simp), n1 := h2 _ (by simp), n2 := h2 _ (by simp), n3 := h2 _ (by simp), n4 := h2 _ (by simp) }
/-- What row.read tells. -/
def asE (r : Row) (op : Int) (w : Nat) (imm : Int) : I := ⟨op, readN r.f0 w, readN r.f1 w, readN r.f2 w, imm, readN r.f4 w⟩
def immL (w : Nat) : Int := IntKind.i64.wrap (63 - IntKind.i64.wrap (bits .and .u32 ((w : Int).fdiv (2 ^ 10)) 63))
theorem read_other (r : Row) (op : Int) (w : Nat) (g : r.Nice) (h : w < 4294967296) (o : op ≠ 14) : Gives Try.prog 44 #[.agg r.cells, .int .i64 op, .int .u32 w] (.agg (asE r op w (readN r.f3 w)).cells) 13 :=
  gives_of_asked (withBoth_holds (fs := [59]) (cl := [readC r.f0 w, readC r.f1 w, readC r.f2 w, readC r.f3 w, readC r.f4 w]) (fn := 44) (ts := [23]) (rl := [.bool false]) (read_cons g.g0 g.n0 h (read_cons g.g1 g.n1 h (read_cons g.g2 g.n2 h (read_cons g.g3 g.n3 h (read_cons g.g4 g.n4 h cl_nil)))))) mixed 200 (qs := [(.val (.bool (op == 14)), .val (.bool false))]) (by simp [o]) fun _ => ⟨by kernel_rfl, by kernel_rfl, by kernel_rfl⟩
theorem read_lsli (r : Row) (op : Int) (w : Nat) (g : r.Nice) (h : w < 4294967296) (o : op = 14) : Gives Try.prog 44 #[.agg r.cells, .int .i64 op, .int .u32 w] (.agg (asE r op w (immL w)).cells) 13 :=
  gives_of_asked (withBoth_holds (fs := [59]) (cl := [readC r.f0 w, readC r.f1 w, readC r.f2 w, readC r.f3 w, readC r.f4 w]) (fn := 44) (ts := [23]) (rl := [.bool true]) (read_cons g.g0 g.n0 h (read_cons g.g1 g.n1 h (read_cons g.g2 g.n2 h (read_cons g.g3 g.n3 h (read_cons g.g4 g.n4 h cl_nil)))))) mixed 200 (qs := [(.val (.bool (op == 14)), .val (.bool true))]) (by simp [o]) fun _ => ⟨by kernel_rfl, by kernel_rfl, by kernel_rfl⟩

theorem Row.val_eq (r : Row) : r.val = .agg r.cells := rfl
/-- How many blocks rowOf makes. -/
def rowBlocks (op : Nat) : Nat := [0, 4, 4, 4, 4, 4, 4, 4, 4, 4, 4, 4, 4, 4, 4, 4, 3, 2, 2, 3, 3, 3, 4, 4, 3, 3, 3, 3, 4, 4, 2, 2, 2, 2, 2, 3, 4, 4, 4, 4, 4, 4, 4, 4, 4, 4, 4, 4].getD op 0
theorem rowOf_gives : ∀ k : Nat, 1 ≤ k → k < 48 → Gives Try.prog 40 #[.int .i64 (k : Nat)] (.tuple #[.agg (rowOf k).cells, .bool true]) (rowBlocks k)
  | 0, h, _ => absurd h (by decide)
  | 1, _, _ => rowOf_1
  | 2, _, _ => rowOf_2
  | 3, _, _ => rowOf_3
  | 4, _, _ => rowOf_4
  | 5, _, _ => rowOf_5
  | 6, _, _ => rowOf_6
  | 7, _, _ => rowOf_7
  | 8, _, _ => rowOf_8
  | 9, _, _ => rowOf_9
  | 10, _, _ => rowOf_10
  | 11, _, _ => rowOf_11
  | 12, _, _ => rowOf_12
  | 13, _, _ => rowOf_13
  | 14, _, _ => rowOf_14
  | 15, _, _ => rowOf_15
  | 16, _, _ => rowOf_16
  | 17, _, _ => rowOf_17
  | 18, _, _ => rowOf_18
  | 19, _, _ => rowOf_19
  | 20, _, _ => rowOf_20
  | 21, _, _ => rowOf_21
  | 22, _, _ => rowOf_22
  | 23, _, _ => rowOf_23
  | 24, _, _ => rowOf_24
  | 25, _, _ => rowOf_25
  | 26, _, _ => rowOf_26
  | 27, _, _ => rowOf_27
  | 28, _, _ => rowOf_28
  | 29, _, _ => rowOf_29
  | 30, _, _ => rowOf_30
  | 31, _, _ => rowOf_31
  | 32, _, _ => rowOf_32
  | 33, _, _ => rowOf_33
  | 34, _, _ => rowOf_34
  | 35, _, _ => rowOf_35
  | 36, _, _ => rowOf_36
  | 37, _, _ => rowOf_37
  | 38, _, _ => rowOf_38
  | 39, _, _ => rowOf_39
  | 40, _, _ => rowOf_40
  | 41, _, _ => rowOf_41
  | 42, _, _ => rowOf_42
  | 43, _, _ => rowOf_43
  | 44, _, _ => rowOf_44
  | 45, _, _ => rowOf_45
  | 46, _, _ => rowOf_46
  | 47, _, _ => rowOf_47
  | k + 48, _, h => absurd h (by omega)
theorem rowOf_low (op : Int) (h : op < 1) : Gives Try.prog 40 #[.int .i64 op] (.tuple #[.agg rz.cells, .bool false]) 1 :=
  gives_of_asked (withBoth_holds (fs := []) (cl := []) (fn := 40) (ts := [6]) (rl := [.bool true]) cl_nil) mixed 100 (qs := [(.val (.bool (decide (op < 1))), .val (.bool true))]) (by simp; omega) fun _ => ⟨by kernel_rfl, by kernel_rfl, by kernel_rfl⟩
theorem rowOf_high (op : Int) (h : 47 < op) : Gives Try.prog 40 #[.int .i64 op] (.tuple #[.agg rz.cells, .bool false]) 1 :=
  gives_of_asked (withBoth_holds (fs := []) (cl := []) (fn := 40) (ts := [6, 9]) (rl := [.bool false, .bool true]) cl_nil) mixed 100 (qs := [(.val (.bool (decide (op > 47))), .val (.bool true)), (.val (.bool (decide (op < 1))), .val (.bool false))]) (by simp; omega) fun _ => ⟨by kernel_rfl, by kernel_rfl, by kernel_rfl⟩
theorem gives_cons {c : CallC} {l : List CallC} (h : Gives Try.prog c.f c.args c.v c.n) (hl : ∀ c ∈ l, Gives Try.prog c.f c.args c.v c.n) : ∀ d ∈ c :: l, Gives Try.prog d.f d.args d.v d.n := by
  intro d hd
  rcases List.mem_cons.1 hd with rfl | hd
  · exact h
  · exact hl d hd
def rowC (op : Int) (r : Row) (b : Bool) (n : Nat) : CallC := ⟨40, #[.int .i64 op], .tuple #[.agg r.cells, .bool b], n⟩
def fitsC (r : Row) (i : I) (b : Bool) (n : Nat) : CallC := ⟨41, #[.agg r.cells, .agg i.cells], .bool b, n⟩
def laidC (r : Row) (i : I) (x : Int) (n : Nat) : CallC := ⟨42, #[.agg r.cells, .agg i.cells], .int .u32 x, n⟩
def three : List FuncId := [40, 41, 42]
theorem add_top (b n : Nat) : b + 1 + n + 1 = b + (n + 2) := by omega
theorem add_top1 (b n m : Nat) : b + 1 + n + 1 + m = b + (n + m + 2) := by omega
theorem add_top2 (b n m l : Nat) : b + 1 + n + 1 + m + l = b + (n + m + l + 2) := by omega
/-- There is no such operation. -/
theorem encode_none (i : I) (n : Nat) (h : Gives Try.prog 40 #[.int .i64 i.op] (.tuple #[.agg rz.cells, .bool false]) n) : Gives Try.prog 26 #[.agg i.cells] (.tuple #[.int .u32 0, .int .i64 7]) (n + 2) :=
  gives_of_top (withCalls_holds (fs := three) (cl := [rowC i.op rz false n]) (gives_cons h cl_nil)) mixed 100 (qs := []) (by simp) _ (fun b => add_top b n) fun _ => ⟨by kernel_rfl, by kernel_rfl, by kernel_rfl⟩
theorem encode_unfit (i : I) (r : Row) (n m : Nat) (h : Gives Try.prog 40 #[.int .i64 i.op] (.tuple #[.agg r.cells, .bool true]) n) (hf : Gives Try.prog 41 #[.agg r.cells, .agg i.cells] (.bool false) m) :
    Gives Try.prog 26 #[.agg i.cells] (.tuple #[.int .u32 0, .int .i64 7]) (n + m + 2) :=
  gives_of_top (withCalls_holds (fs := three) (cl := [rowC i.op r true n, fitsC r i false m]) (gives_cons h (gives_cons hf cl_nil))) mixed 100 (qs := []) (by simp) _ (fun b => add_top1 b n m) fun _ => ⟨by kernel_rfl, by kernel_rfl, by kernel_rfl⟩
theorem encode_fit (i : I) (r : Row) (n m l : Nat) (x : Int) (h : Gives Try.prog 40 #[.int .i64 i.op] (.tuple #[.agg r.cells, .bool true]) n) (hf : Gives Try.prog 41 #[.agg r.cells, .agg i.cells] (.bool true) m)
    (hl : Gives Try.prog 42 #[.agg r.cells, .agg i.cells] (.int .u32 x) l) : Gives Try.prog 26 #[.agg i.cells] (.tuple #[.int .u32 x, .int .i64 0]) (n + m + l + 2) :=
  gives_of_top (withCalls_holds (fs := three) (cl := [rowC i.op r true n, fitsC r i true m, laidC r i x l]) (gives_cons h (gives_cons hf (gives_cons hl cl_nil)))) mixed 100 (qs := []) (by simp) _ (fun b => add_top2 b n m l) fun _ => ⟨by kernel_rfl, by kernel_rfl, by kernel_rfl⟩
def rowAt (op : Int) : Row := if 1 ≤ op ∧ op ≤ 47 then rowOf op.toNat else rz
/-- What row.laid tells. -/
def laidV (r : Row) (i : I) : Int := if i.op = 14 then laidL r i else laidE r i
def fitsI (i : I) : Bool := decide (1 ≤ i.op) && (decide (i.op ≤ 47) && fitsB (rowAt i.op) i)
theorem row_nice (op : Nat) (h : op < 48) : (rowOf op).Nice := .of (rowOf_nice op h)
theorem laid_gives (r : Row) (i : I) (g : r.Good) (h : i.fit) : Gives Try.prog 42 #[.agg r.cells, .agg i.cells] (.int .u32 (laidV r i)) 9 := by
  unfold laidV
  by_cases o : i.op = 14
  · rw [if_pos o]; exact laid_lsli r i g h o
  · rw [if_neg o]; exact laid_other r i g h o
theorem rowAt_gives (op : Int) (h : 1 ≤ op ∧ op ≤ 47) : ∃ n, Gives Try.prog 40 #[.int .i64 op] (.tuple #[.agg (rowAt op).cells, .bool true]) n := by
  obtain ⟨k, rfl⟩ := Int.eq_ofNat_of_zero_le (show 0 ≤ op by omega)
  refine ⟨rowBlocks k, ?_⟩
  unfold rowAt
  rw [if_pos h, Int.toNat_natCast]
  exact rowOf_gives k (by omega) (by omega)
theorem rowAt_nice (op : Int) (h : 1 ≤ op ∧ op ≤ 47) : (rowAt op).Nice := by
  unfold rowAt
  rw [if_pos h]
  exact row_nice _ (by omega)
theorem encode_gives (i : I) (h : i.fit) : ∃ n, Gives Try.prog 26 #[.agg i.cells] (if fitsI i then .tuple #[.int .u32 (laidV (rowAt i.op) i), .int .i64 0] else .tuple #[.int .u32 0, .int .i64 7]) n := by
  by_cases h1 : i.op < 1
  · have : fitsI i = false := by unfold fitsI; rw [decide_eq_false (by omega)]; rfl
    rw [this]
    exact ⟨_, encode_none i _ (rowOf_low _ h1)⟩
  by_cases h2 : 47 < i.op
  · have : fitsI i = false := by unfold fitsI; rw [decide_eq_false (p := i.op ≤ 47) (by omega)]; simp
    rw [this]
    exact ⟨_, encode_none i _ (rowOf_high _ h2)⟩
  have hop : 1 ≤ i.op ∧ i.op ≤ 47 := by omega
  have e : fitsI i = fitsB (rowAt i.op) i := by unfold fitsI; rw [decide_eq_true hop.1, decide_eq_true hop.2]; rfl
  obtain ⟨n, hn⟩ := rowAt_gives i.op hop
  obtain ⟨m, hm⟩ := fits_gives (rowAt i.op) i (rowAt_nice i.op hop).toGood
  rw [e]
  cases hb : fitsB (rowAt i.op) i
  · rw [hb] at hm
    exact ⟨_, encode_unfit i _ n m hn hm⟩
  · rw [hb] at hm
    exact ⟨_, encode_fit i _ n m 9 _ hn hm (laid_gives _ i (rowAt_nice i.op hop).toGood h)⟩

theorem calls_of_ev {P : Program} {S : Ctx} (hS : S.holds P) (hP : P.follows .mixedOrders = true) (n : Nat) {f : FuncId} {args : Array Value} {v : Value} (W : World) {L : List (Nat × Obj)} {t : Nat}
    (h1 : (evCall P S (ev P S n) f args (Ev.start W.heap.size (some (traceOf P S n f args)))).map (fun p => (p.1, p.2.L, p.2.top)) = some (v, L, t))
    (h2 : (evCall P S (ev P S n) f args (Ev.start W.heap.size (some (traceOf P S n f args)))).map (fun p => lefts p.2.vc) = (evCall P S (ev P S n) f args (Ev.start W.heap.size (some (traceOf P S n f args)))).map (fun p => rights p.2.vc))
    (h3 : (evCall P S (ev P S n) f args (Ev.start W.heap.size (some (traceOf P S n f args)))).map (fun p => asked p.2.vc) = some []) :
    Calls P f args W fun en W' => en = .returned v ∧ Below W.heap.size W W' ∧ W'.heap.size = t ∧ ∀ p ∈ L, W'.heap[p.1]? = some p.2 := by
  cases hc : evCall P S (ev P S n) f args (Ev.start W.heap.size (some (traceOf P S n f args))) with
  | none => rw [hc] at h1; cases h1
  | some r =>
    obtain ⟨v', e⟩ := r
    rw [hc] at h1 h2 h3
    simp only [Option.map_some, Option.some.injEq, Prod.mk.injEq] at h1 h2 h3
    obtain ⟨rfl, rfl, rfl⟩ := h1
    have hr0 : Rep W (Ev.start W.heap.size (some (traceOf P S n f args))) W := ⟨rfl, rfl, rfl, rfl, Nat.le_refl _, fun _ _ => rfl, by simp [Ev.start], by simp [Ev.start]⟩
    refine (evCall_sound hS (ev_sound hS hP n) _ _ _ _ _ hc (ok_of_lists h2 (by rw [h3]; simp)) W hr0).mono ?_
    rintro en W' ⟨rfl, hr⟩
    exact ⟨rfl, hr.below, hr.size, fun p hp => (hr.blk p hp).2.2⟩
def fixedEnts : Array MapEntry := #[⟨.int .i64 30, .int .u32 3573759423, 0⟩, ⟨.int .i64 31, .int .u32 3573759935, 1⟩, ⟨.int .i64 32, .int .u32 3573751839, 2⟩, ⟨.int .i64 34, .int .u32 3560964096, 3⟩]
def fixedD {H : Type} : DataW H := .map [(.int .i64 30, .lit (.int .u32 3573759423)), (.int .i64 31, .lit (.int .u32 3573759935)), (.int .i64 32, .lit (.int .u32 3573751839)), (.int .i64 34, .lit (.int .u32 3560964096))]
theorem fixed_any (W : World) : Calls Try.prog 43 #[] W fun e W' => e = .returned (.map (some W.heap.size)) ∧ Below W.heap.size W W' ∧ W'.heap.size = W.heap.size + 1 ∧ ∀ p ∈ [(W.heap.size, Obj.map fixedEnts 4)], W'.heap[p.1]? = some p.2 :=
  calls_of_ev (S := noSpec) noSpec_holds mixed 100 W (by kernel_rfl) (by kernel_rfl) (by kernel_rfl)
theorem fixed_owns {H : Type} {W : World} {b : Nat} (h : W.heap[b]? = some (.map fixedEnts 4)) : W.ownsMap Try.prog 3 (plainElem (H := H) Try.prog 62) b 4 fixedD := by
  refine ⟨fixedEnts, 4, h, ⟨by decide, ?_, ?_⟩, by decide, ?_⟩
  · refine ⟨by simp [fixedEnts], by simp [fixedEnts], by simp [fixedEnts]⟩
  · intro x hx
    simp only [fixedEnts, List.mem_cons, List.not_mem_nil, or_false] at hx
    rcases hx with rfl | rfl | rfl | rfl
    · exact ⟨(.int .i64 30, .lit (.int .u32 3573759423)), by kernel_rfl⟩
    · exact ⟨(.int .i64 31, .lit (.int .u32 3573759935)), by kernel_rfl⟩
    · exact ⟨(.int .i64 32, .lit (.int .u32 3573751839)), by kernel_rfl⟩
    · exact ⟨(.int .i64 34, .lit (.int .u32 3560964096)), by kernel_rfl⟩
  · kernel_rfl
theorem fixed_entry {H : Type} {k c : Int} (hh : Maps.has (fixedD (H := H)) (.int .i64 k) = true) (ha : ∀ zd, (fixedD (H := H)).atKey (.int .i64 k) zd = .lit (.int .u32 c)) : (k = 30 ∧ c = 3573759423) ∨ (k = 31 ∧ c = 3573759935) ∨ (k = 32 ∧ c = 3573751839) ∨ (k = 34 ∧ c = 3560964096) := by
  have h0 := ha .nil
  simp only [fixedD, Maps.has_eq, List.any_cons, List.any_nil, Bool.or_false, Bool.or_eq_true] at hh
  have key : ∀ a : Int, Lit.sameKey (.int .i64 a) (.int .i64 k) = true → a = k := fun a h => by simpa [Lit.sameKey] using h
  rcases hh with h | h | h | h
  · have e := key _ h
    subst e
    have : (fixedD (H := H)).atKey (.int .i64 30) .nil = .lit (.int .u32 3573759423) := by kernel_rfl
    rw [this] at h0
    simp at h0
    omega
  · have e := key _ h
    subst e
    have : (fixedD (H := H)).atKey (.int .i64 31) .nil = .lit (.int .u32 3573759935) := by kernel_rfl
    rw [this] at h0
    simp at h0
    omega
  · have e := key _ h
    subst e
    have : (fixedD (H := H)).atKey (.int .i64 32) .nil = .lit (.int .u32 3573751839) := by kernel_rfl
    rw [this] at h0
    simp at h0
    omega
  · have e := key _ h
    subst e
    have : (fixedD (H := H)).atKey (.int .i64 34) .nil = .lit (.int .u32 3560964096) := by kernel_rfl
    rw [this] at h0
    simp at h0
    omega

end Go.Proofs.Ytgaejhhipnpopaa.Cd
