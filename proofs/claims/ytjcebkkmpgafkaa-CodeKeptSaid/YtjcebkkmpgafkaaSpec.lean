/-
  The rows of the operations, as data: the word of each, its five fields (Rd, Rn, Rm, Imm, Cond). No program in sight.
-/
namespace Go.Proofs.Ytjcebkkmpgafkaa

/-- Where a field stands: at a bit, so many bits wide, from lo to hi by steps; its lowest bit turned. -/
structure Fld where
  pos : Nat
  width : Nat
  lo : Int
  hi : Int
  step : Int
  turned : Bool
  deriving DecidableEq

structure Row where
  word : Nat
  f0 : Fld
  f1 : Fld
  f2 : Fld
  f3 : Fld
  f4 : Fld
  deriving DecidableEq

/-- An instruction. -/
structure I where
  op : Int
  rd : Int
  rn : Int
  rm : Int
  imm : Int
  cond : Int
  deriving DecidableEq

def fz : Fld := ⟨0, 0, 0, 0, 0, false⟩
def rz : Row := ⟨0, fz, fz, fz, fz, fz⟩

/-- The row of an operation (0 to 47). -/
def rowOf : Nat → Row
  | 1 => ⟨3531603968, ⟨0, 5, 0, 31, 1, false⟩, fz, fz, ⟨5, 16, 0, 65535, 1, false⟩, ⟨21, 2, 0, 3, 1, false⟩⟩
  | 2 => ⟨4068474880, ⟨0, 5, 0, 31, 1, false⟩, fz, fz, ⟨5, 16, 0, 65535, 1, false⟩, ⟨21, 2, 0, 3, 1, false⟩⟩
  | 3 => ⟨2332033024, ⟨0, 5, 0, 31, 1, false⟩, ⟨5, 5, 0, 31, 1, false⟩, ⟨16, 5, 0, 31, 1, false⟩, fz, fz⟩
  | 4 => ⟨3405774848, ⟨0, 5, 0, 31, 1, false⟩, ⟨5, 5, 0, 31, 1, false⟩, ⟨16, 5, 0, 31, 1, false⟩, fz, fz⟩
  | 5 => ⟨2315255808, ⟨0, 5, 0, 31, 1, false⟩, ⟨5, 5, 0, 31, 1, false⟩, ⟨16, 5, 0, 31, 1, false⟩, fz, fz⟩
  | 6 => ⟨2852126720, ⟨0, 5, 0, 31, 1, false⟩, ⟨5, 5, 0, 31, 1, false⟩, ⟨16, 5, 0, 31, 1, false⟩, fz, fz⟩
  | 7 => ⟨3388997632, ⟨0, 5, 0, 31, 1, false⟩, ⟨5, 5, 0, 31, 1, false⟩, ⟨16, 5, 0, 31, 1, false⟩, fz, fz⟩
  | 8 => ⟨2854223872, ⟨0, 5, 0, 31, 1, false⟩, ⟨5, 5, 0, 31, 1, false⟩, ⟨16, 5, 0, 31, 1, false⟩, fz, fz⟩
  | 9 => ⟨2600500224, ⟨0, 5, 0, 31, 1, false⟩, ⟨5, 5, 0, 31, 1, false⟩, ⟨16, 5, 0, 31, 1, false⟩, fz, fz⟩
  | 10 => ⟨2596282368, ⟨0, 5, 0, 31, 1, false⟩, ⟨5, 5, 0, 31, 1, false⟩, ⟨16, 5, 0, 31, 1, false⟩, fz, fz⟩
  | 11 => ⟨2596283392, ⟨0, 5, 0, 31, 1, false⟩, ⟨5, 5, 0, 31, 1, false⟩, ⟨16, 5, 0, 31, 1, false⟩, fz, fz⟩
  | 12 => ⟨2432696320, ⟨0, 5, 0, 30, 1, false⟩, ⟨5, 5, 0, 30, 1, false⟩, fz, ⟨10, 12, 0, 4095, 1, false⟩, fz⟩
  | 13 => ⟨3506438144, ⟨0, 5, 0, 30, 1, false⟩, ⟨5, 5, 0, 30, 1, false⟩, fz, ⟨10, 12, 0, 4095, 1, false⟩, fz⟩
  | 14 => ⟨3544186880, ⟨0, 5, 0, 31, 1, false⟩, ⟨5, 5, 0, 31, 1, false⟩, fz, ⟨0, 0, 0, 63, 1, false⟩, fz⟩
  | 15 => ⟨3544251392, ⟨0, 5, 0, 31, 1, false⟩, ⟨5, 5, 0, 31, 1, false⟩, fz, ⟨16, 6, 0, 63, 1, false⟩, fz⟩
  | 16 => ⟨3942645791, fz, ⟨5, 5, 0, 31, 1, false⟩, ⟨16, 5, 0, 31, 1, false⟩, fz, fz⟩
  | 17 => ⟨2594113504, ⟨0, 5, 0, 31, 1, false⟩, fz, fz, fz, ⟨12, 4, 0, 13, 1, true⟩⟩
  | 18 => ⟨335544320, fz, fz, fz, ⟨0, 26, (-33554432), 33554431, 1, false⟩, fz⟩
  | 19 => ⟨1409286144, fz, fz, fz, ⟨5, 19, (-262144), 262143, 1, false⟩, ⟨0, 4, 0, 13, 1, false⟩⟩
  | 20 => ⟨3019898880, ⟨0, 5, 0, 31, 1, false⟩, fz, fz, ⟨5, 19, (-262144), 262143, 1, false⟩, fz⟩
  | 21 => ⟨3036676096, ⟨0, 5, 0, 31, 1, false⟩, fz, fz, ⟨5, 19, (-262144), 262143, 1, false⟩, fz⟩
  | 22 => ⟨4181721088, ⟨0, 5, 0, 31, 1, false⟩, ⟨5, 5, 0, 30, 1, false⟩, fz, ⟨10, 12, 0, 32760, 8, false⟩, fz⟩
  | 23 => ⟨4177526784, ⟨0, 5, 0, 31, 1, false⟩, ⟨5, 5, 0, 30, 1, false⟩, fz, ⟨10, 12, 0, 32760, 8, false⟩, fz⟩
  | 24 => ⟨3370122240, ⟨0, 5, 0, 31, 1, false⟩, ⟨5, 5, 0, 30, 1, false⟩, fz, fz, fz⟩
  | 25 => ⟨3365927936, ⟨0, 5, 0, 31, 1, false⟩, ⟨5, 5, 0, 30, 1, false⟩, fz, fz, fz⟩
  | 26 => ⟨3361700864, ⟨0, 5, 0, 31, 1, false⟩, ⟨5, 5, 0, 30, 1, false⟩, fz, fz, fz⟩
  | 27 => ⟨3361733632, ⟨0, 5, 0, 31, 1, false⟩, ⟨5, 5, 0, 30, 1, false⟩, fz, fz, fz⟩
  | 28 => ⟨3355474944, ⟨0, 5, 0, 31, 1, false⟩, ⟨5, 5, 0, 30, 1, false⟩, ⟨16, 5, 0, 30, 1, false⟩, fz, fz⟩
  | 29 => ⟨3355507712, ⟨0, 5, 0, 31, 1, false⟩, ⟨5, 5, 0, 30, 1, false⟩, ⟨16, 5, 0, 30, 1, false⟩, fz, fz⟩
  | 30 => ⟨3573759423, fz, fz, fz, fz, fz⟩
  | 31 => ⟨3573759935, fz, fz, fz, fz, fz⟩
  | 32 => ⟨3573751839, fz, fz, fz, fz, fz⟩
  | 33 => ⟨3556769793, fz, fz, fz, ⟨5, 16, 0, 30, 1, false⟩, fz⟩
  | 34 => ⟨3560964096, fz, fz, fz, fz, fz⟩
  | 35 => ⟨4173316096, ⟨0, 5, 0, 31, 1, false⟩, ⟨5, 5, 0, 30, 1, false⟩, fz, fz, fz⟩
  | 36 => ⟨3365960704, ⟨0, 5, 0, 31, 1, false⟩, ⟨5, 5, 0, 30, 1, false⟩, ⟨16, 5, 0, 30, 1, false⟩, fz, fz⟩
  | 37 => ⟨3370155008, ⟨0, 5, 0, 31, 1, false⟩, ⟨5, 5, 0, 30, 1, false⟩, ⟨16, 5, 0, 30, 1, false⟩, fz, fz⟩
  | 38 => ⟨3365993472, ⟨0, 5, 0, 31, 1, false⟩, ⟨5, 5, 0, 30, 1, false⟩, ⟨16, 5, 0, 30, 1, false⟩, fz, fz⟩
  | 39 => ⟨3370187776, ⟨0, 5, 0, 31, 1, false⟩, ⟨5, 5, 0, 30, 1, false⟩, ⟨16, 5, 0, 30, 1, false⟩, fz, fz⟩
  | 40 => ⟨4162879488, ⟨0, 5, 0, 30, 1, false⟩, ⟨5, 5, 0, 30, 1, false⟩, ⟨16, 5, 0, 31, 1, false⟩, fz, fz⟩
  | 41 => ⟨4171268096, ⟨0, 5, 0, 30, 1, false⟩, ⟨5, 5, 0, 30, 1, false⟩, ⟨16, 5, 0, 31, 1, false⟩, fz, fz⟩
  | 42 => ⟨4167073792, ⟨0, 5, 0, 30, 1, false⟩, ⟨5, 5, 0, 30, 1, false⟩, ⟨16, 5, 0, 31, 1, false⟩, fz, fz⟩
  | 43 => ⟨4175462400, ⟨0, 5, 0, 30, 1, false⟩, ⟨5, 5, 0, 30, 1, false⟩, ⟨16, 5, 0, 31, 1, false⟩, fz, fz⟩
  | 44 => ⟨4162846720, ⟨0, 5, 0, 30, 1, false⟩, ⟨5, 5, 0, 30, 1, false⟩, ⟨16, 5, 0, 31, 1, false⟩, fz, fz⟩
  | 45 => ⟨4171235328, ⟨0, 5, 0, 30, 1, false⟩, ⟨5, 5, 0, 30, 1, false⟩, ⟨16, 5, 0, 31, 1, false⟩, fz, fz⟩
  | 46 => ⟨4167041024, ⟨0, 5, 0, 30, 1, false⟩, ⟨5, 5, 0, 30, 1, false⟩, ⟨16, 5, 0, 31, 1, false⟩, fz, fz⟩
  | 47 => ⟨4175429632, ⟨0, 5, 0, 30, 1, false⟩, ⟨5, 5, 0, 30, 1, false⟩, ⟨16, 5, 0, 31, 1, false⟩, fz, fz⟩
  | _ => rz

end Go.Proofs.Ytjcebkkmpgafkaa
