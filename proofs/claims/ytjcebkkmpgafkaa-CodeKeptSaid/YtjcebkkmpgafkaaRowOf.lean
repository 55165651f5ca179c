/-
  rowOf of each operation, by the engine.
-/
import Derived.Test.YtjcebkkmpgafkaaProg
import Derived.Test.YtjcebkkmpgafkaaEv
import Derived.Test.YtjcebkkmpgafkaaSpec
namespace Go.Proofs.Ytjcebkkmpgafkaa
open Go Ev

def Fld.vals (f : Fld) : List Value := [.int .i64 f.pos, .int .i64 f.width, .int .i64 f.lo, .int .i64 f.hi, .int .i64 f.step, .bool f.turned]
def Row.val (r : Row) : Value := .agg ⟨.int .u32 r.word :: (r.f0.vals ++ (r.f1.vals ++ (r.f2.vals ++ (r.f3.vals ++ r.f4.vals))))⟩

theorem mixed : Try.prog.follows .mixedOrders = true := by kernel_rfl

theorem rowOf_1 : Gives Try.prog 30 #[.int .i64 1] (.tuple #[(rowOf 1).val, .bool true]) 4 := gives_of_out noSpec_holds mixed 100 fun _ => ⟨by kernel_rfl, by kernel_rfl, by kernel_rfl⟩
theorem rowOf_2 : Gives Try.prog 30 #[.int .i64 2] (.tuple #[(rowOf 2).val, .bool true]) 4 := gives_of_out noSpec_holds mixed 100 fun _ => ⟨by kernel_rfl, by kernel_rfl, by kernel_rfl⟩
theorem rowOf_3 : Gives Try.prog 30 #[.int .i64 3] (.tuple #[(rowOf 3).val, .bool true]) 4 := gives_of_out noSpec_holds mixed 100 fun _ => ⟨by kernel_rfl, by kernel_rfl, by kernel_rfl⟩
theorem rowOf_4 : Gives Try.prog 30 #[.int .i64 4] (.tuple #[(rowOf 4).val, .bool true]) 4 := gives_of_out noSpec_holds mixed 100 fun _ => ⟨by kernel_rfl, by kernel_rfl, by kernel_rfl⟩
theorem rowOf_5 : Gives Try.prog 30 #[.int .i64 5] (.tuple #[(rowOf 5).val, .bool true]) 4 := gives_of_out noSpec_holds mixed 100 fun _ => ⟨by kernel_rfl, by kernel_rfl, by kernel_rfl⟩
theorem rowOf_6 : Gives Try.prog 30 #[.int .i64 6] (.tuple #[(rowOf 6).val, .bool true]) 4 := gives_of_out noSpec_holds mixed 100 fun _ => ⟨by kernel_rfl, by kernel_rfl, by kernel_rfl⟩
theorem rowOf_7 : Gives Try.prog 30 #[.int .i64 7] (.tuple #[(rowOf 7).val, .bool true]) 4 := gives_of_out noSpec_holds mixed 100 fun _ => ⟨by kernel_rfl, by kernel_rfl, by kernel_rfl⟩
theorem rowOf_8 : Gives Try.prog 30 #[.int .i64 8] (.tuple #[(rowOf 8).val, .bool true]) 4 := gives_of_out noSpec_holds mixed 100 fun _ => ⟨by kernel_rfl, by kernel_rfl, by kernel_rfl⟩
theorem rowOf_9 : Gives Try.prog 30 #[.int .i64 9] (.tuple #[(rowOf 9).val, .bool true]) 4 := gives_of_out noSpec_holds mixed 100 fun _ => ⟨by kernel_rfl, by kernel_rfl, by kernel_rfl⟩
theorem rowOf_10 : Gives Try.prog 30 #[.int .i64 10] (.tuple #[(rowOf 10).val, .bool true]) 4 := gives_of_out noSpec_holds mixed 100 fun _ => ⟨by kernel_rfl, by kernel_rfl, by kernel_rfl⟩
theorem rowOf_11 : Gives Try.prog 30 #[.int .i64 11] (.tuple #[(rowOf 11).val, .bool true]) 4 := gives_of_out noSpec_holds mixed 100 fun _ => ⟨by kernel_rfl, by kernel_rfl, by kernel_rfl⟩
theorem rowOf_12 : Gives Try.prog 30 #[.int .i64 12] (.tuple #[(rowOf 12).val, .bool true]) 4 := gives_of_out noSpec_holds mixed 100 fun _ => ⟨by kernel_rfl, by kernel_rfl, by kernel_rfl⟩
theorem rowOf_13 : Gives Try.prog 30 #[.int .i64 13] (.tuple #[(rowOf 13).val, .bool true]) 4 := gives_of_out noSpec_holds mixed 100 fun _ => ⟨by kernel_rfl, by kernel_rfl, by kernel_rfl⟩
theorem rowOf_14 : Gives Try.prog 30 #[.int .i64 14] (.tuple #[(rowOf 14).val, .bool true]) 4 := gives_of_out noSpec_holds mixed 100 fun _ => ⟨by kernel_rfl, by kernel_rfl, by kernel_rfl⟩
theorem rowOf_15 : Gives Try.prog 30 #[.int .i64 15] (.tuple #[(rowOf 15).val, .bool true]) 4 := gives_of_out noSpec_holds mixed 100 fun _ => ⟨by kernel_rfl, by kernel_rfl, by kernel_rfl⟩
theorem rowOf_16 : Gives Try.prog 30 #[.int .i64 16] (.tuple #[(rowOf 16).val, .bool true]) 3 := gives_of_out noSpec_holds mixed 100 fun _ => ⟨by kernel_rfl, by kernel_rfl, by kernel_rfl⟩
theorem rowOf_17 : Gives Try.prog 30 #[.int .i64 17] (.tuple #[(rowOf 17).val, .bool true]) 2 := gives_of_out noSpec_holds mixed 100 fun _ => ⟨by kernel_rfl, by kernel_rfl, by kernel_rfl⟩
theorem rowOf_18 : Gives Try.prog 30 #[.int .i64 18] (.tuple #[(rowOf 18).val, .bool true]) 2 := gives_of_out noSpec_holds mixed 100 fun _ => ⟨by kernel_rfl, by kernel_rfl, by kernel_rfl⟩
theorem rowOf_19 : Gives Try.prog 30 #[.int .i64 19] (.tuple #[(rowOf 19).val, .bool true]) 3 := gives_of_out noSpec_holds mixed 100 fun _ => ⟨by kernel_rfl, by kernel_rfl, by kernel_rfl⟩
theorem rowOf_20 : Gives Try.prog 30 #[.int .i64 20] (.tuple #[(rowOf 20).val, .bool true]) 3 := gives_of_out noSpec_holds mixed 100 fun _ => ⟨by kernel_rfl, by kernel_rfl, by kernel_rfl⟩
theorem rowOf_21 : Gives Try.prog 30 #[.int .i64 21] (.tuple #[(rowOf 21).val, .bool true]) 3 := gives_of_out noSpec_holds mixed 100 fun _ => ⟨by kernel_rfl, by kernel_rfl, by kernel_rfl⟩
theorem rowOf_22 : Gives Try.prog 30 #[.int .i64 22] (.tuple #[(rowOf 22).val, .bool true]) 4 := gives_of_out noSpec_holds mixed 100 fun _ => ⟨by kernel_rfl, by kernel_rfl, by kernel_rfl⟩
theorem rowOf_23 : Gives Try.prog 30 #[.int .i64 23] (.tuple #[(rowOf 23).val, .bool true]) 4 := gives_of_out noSpec_holds mixed 100 fun _ => ⟨by kernel_rfl, by kernel_rfl, by kernel_rfl⟩
theorem rowOf_24 : Gives Try.prog 30 #[.int .i64 24] (.tuple #[(rowOf 24).val, .bool true]) 3 := gives_of_out noSpec_holds mixed 100 fun _ => ⟨by kernel_rfl, by kernel_rfl, by kernel_rfl⟩
theorem rowOf_25 : Gives Try.prog 30 #[.int .i64 25] (.tuple #[(rowOf 25).val, .bool true]) 3 := gives_of_out noSpec_holds mixed 100 fun _ => ⟨by kernel_rfl, by kernel_rfl, by kernel_rfl⟩
theorem rowOf_26 : Gives Try.prog 30 #[.int .i64 26] (.tuple #[(rowOf 26).val, .bool true]) 3 := gives_of_out noSpec_holds mixed 100 fun _ => ⟨by kernel_rfl, by kernel_rfl, by kernel_rfl⟩
theorem rowOf_27 : Gives Try.prog 30 #[.int .i64 27] (.tuple #[(rowOf 27).val, .bool true]) 3 := gives_of_out noSpec_holds mixed 100 fun _ => ⟨by kernel_rfl, by kernel_rfl, by kernel_rfl⟩
theorem rowOf_28 : Gives Try.prog 30 #[.int .i64 28] (.tuple #[(rowOf 28).val, .bool true]) 4 := gives_of_out noSpec_holds mixed 100 fun _ => ⟨by kernel_rfl, by kernel_rfl, by kernel_rfl⟩
theorem rowOf_29 : Gives Try.prog 30 #[.int .i64 29] (.tuple #[(rowOf 29).val, .bool true]) 4 := gives_of_out noSpec_holds mixed 100 fun _ => ⟨by kernel_rfl, by kernel_rfl, by kernel_rfl⟩
theorem rowOf_30 : Gives Try.prog 30 #[.int .i64 30] (.tuple #[(rowOf 30).val, .bool true]) 2 := gives_of_out noSpec_holds mixed 100 fun _ => ⟨by kernel_rfl, by kernel_rfl, by kernel_rfl⟩
theorem rowOf_31 : Gives Try.prog 30 #[.int .i64 31] (.tuple #[(rowOf 31).val, .bool true]) 2 := gives_of_out noSpec_holds mixed 100 fun _ => ⟨by kernel_rfl, by kernel_rfl, by kernel_rfl⟩
theorem rowOf_32 : Gives Try.prog 30 #[.int .i64 32] (.tuple #[(rowOf 32).val, .bool true]) 2 := gives_of_out noSpec_holds mixed 100 fun _ => ⟨by kernel_rfl, by kernel_rfl, by kernel_rfl⟩
theorem rowOf_33 : Gives Try.prog 30 #[.int .i64 33] (.tuple #[(rowOf 33).val, .bool true]) 2 := gives_of_out noSpec_holds mixed 100 fun _ => ⟨by kernel_rfl, by kernel_rfl, by kernel_rfl⟩
theorem rowOf_34 : Gives Try.prog 30 #[.int .i64 34] (.tuple #[(rowOf 34).val, .bool true]) 2 := gives_of_out noSpec_holds mixed 100 fun _ => ⟨by kernel_rfl, by kernel_rfl, by kernel_rfl⟩
theorem rowOf_35 : Gives Try.prog 30 #[.int .i64 35] (.tuple #[(rowOf 35).val, .bool true]) 3 := gives_of_out noSpec_holds mixed 100 fun _ => ⟨by kernel_rfl, by kernel_rfl, by kernel_rfl⟩
theorem rowOf_36 : Gives Try.prog 30 #[.int .i64 36] (.tuple #[(rowOf 36).val, .bool true]) 4 := gives_of_out noSpec_holds mixed 100 fun _ => ⟨by kernel_rfl, by kernel_rfl, by kernel_rfl⟩
theorem rowOf_37 : Gives Try.prog 30 #[.int .i64 37] (.tuple #[(rowOf 37).val, .bool true]) 4 := gives_of_out noSpec_holds mixed 100 fun _ => ⟨by kernel_rfl, by kernel_rfl, by kernel_rfl⟩
theorem rowOf_38 : Gives Try.prog 30 #[.int .i64 38] (.tuple #[(rowOf 38).val, .bool true]) 4 := gives_of_out noSpec_holds mixed 100 fun _ => ⟨by kernel_rfl, by kernel_rfl, by kernel_rfl⟩
theorem rowOf_39 : Gives Try.prog 30 #[.int .i64 39] (.tuple #[(rowOf 39).val, .bool true]) 4 := gives_of_out noSpec_holds mixed 100 fun _ => ⟨by kernel_rfl, by kernel_rfl, by kernel_rfl⟩
theorem rowOf_40 : Gives Try.prog 30 #[.int .i64 40] (.tuple #[(rowOf 40).val, .bool true]) 4 := gives_of_out noSpec_holds mixed 100 fun _ => ⟨by kernel_rfl, by kernel_rfl, by kernel_rfl⟩
theorem rowOf_41 : Gives Try.prog 30 #[.int .i64 41] (.tuple #[(rowOf 41).val, .bool true]) 4 := gives_of_out noSpec_holds mixed 100 fun _ => ⟨by kernel_rfl, by kernel_rfl, by kernel_rfl⟩
theorem rowOf_42 : Gives Try.prog 30 #[.int .i64 42] (.tuple #[(rowOf 42).val, .bool true]) 4 := gives_of_out noSpec_holds mixed 100 fun _ => ⟨by kernel_rfl, by kernel_rfl, by kernel_rfl⟩
theorem rowOf_43 : Gives Try.prog 30 #[.int .i64 43] (.tuple #[(rowOf 43).val, .bool true]) 4 := gives_of_out noSpec_holds mixed 100 fun _ => ⟨by kernel_rfl, by kernel_rfl, by kernel_rfl⟩
theorem rowOf_44 : Gives Try.prog 30 #[.int .i64 44] (.tuple #[(rowOf 44).val, .bool true]) 4 := gives_of_out noSpec_holds mixed 100 fun _ => ⟨by kernel_rfl, by kernel_rfl, by kernel_rfl⟩
theorem rowOf_45 : Gives Try.prog 30 #[.int .i64 45] (.tuple #[(rowOf 45).val, .bool true]) 4 := gives_of_out noSpec_holds mixed 100 fun _ => ⟨by kernel_rfl, by kernel_rfl, by kernel_rfl⟩
theorem rowOf_46 : Gives Try.prog 30 #[.int .i64 46] (.tuple #[(rowOf 46).val, .bool true]) 4 := gives_of_out noSpec_holds mixed 100 fun _ => ⟨by kernel_rfl, by kernel_rfl, by kernel_rfl⟩
theorem rowOf_47 : Gives Try.prog 30 #[.int .i64 47] (.tuple #[(rowOf 47).val, .bool true]) 4 := gives_of_out noSpec_holds mixed 100 fun _ => ⟨by kernel_rfl, by kernel_rfl, by kernel_rfl⟩

end Go.Proofs.Ytjcebkkmpgafkaa
