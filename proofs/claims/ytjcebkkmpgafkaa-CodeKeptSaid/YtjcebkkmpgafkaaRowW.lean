/-
  The calls on a row: does an instruction fit, its word, the instruction of a word.
-/
import Derived.Test.YtjcebkkmpgafkaaFields
import Derived.Test.YtjcebkkmpgafkaaEv
namespace Go.Proofs.Ytjcebkkmpgafkaa
open Go Go.RowKit Ev

def I.cells (i : I) : Array Value := #[.int .i64 i.op, .int .i64 i.rd, .int .i64 i.rn, .int .i64 i.rm, .int .i64 i.imm, .int .i64 i.cond]
def I.five (i : I) : Array Value := #[.int .i64 i.rd, .int .i64 i.rn, .int .i64 i.rm, .int .i64 i.imm, .int .i64 i.cond]

def Row.cells (r : Row) : Array Value := #[.int .u32 r.word,
  .int .i64 r.f0.pos, .int .i64 r.f0.width, .int .i64 r.f0.lo, .int .i64 r.f0.hi, .int .i64 r.f0.step, .bool r.f0.turned,
  .int .i64 r.f1.pos, .int .i64 r.f1.width, .int .i64 r.f1.lo, .int .i64 r.f1.hi, .int .i64 r.f1.step, .bool r.f1.turned,
  .int .i64 r.f2.pos, .int .i64 r.f2.width, .int .i64 r.f2.lo, .int .i64 r.f2.hi, .int .i64 r.f2.step, .bool r.f2.turned,
  .int .i64 r.f3.pos, .int .i64 r.f3.width, .int .i64 r.f3.lo, .int .i64 r.f3.hi, .int .i64 r.f3.step, .bool r.f3.turned,
  .int .i64 r.f4.pos, .int .i64 r.f4.width, .int .i64 r.f4.lo, .int .i64 r.f4.hi, .int .i64 r.f4.step, .bool r.f4.turned]

theorem mixed : Try.prog.follows .mixedOrders = true := by kernel_rfl

theorem gives_of_one {f : FuncId} {args : Array Value} {v : Value} {o : Obj} (h : Back1 f args v o) : Gives Try.prog f args v 1 := fun W =>
  (h W).mono fun e W' ⟨he, n, hw⟩ => ⟨he, by rw [hw]; exact below_drewN ((Below.refl _ _).alloc (Nat.le_refl _) _) _, by rw [hw]; simp⟩

theorem values_gives (i : I) : Gives Try.prog 48 #[.agg i.cells] (.agg i.five) 2 :=
  gives_of_out noSpec_holds mixed 100 fun _ => ⟨by kernel_rfl, by kernel_rfl, by kernel_rfl⟩

theorem in_gives (f : Fld) (v : Int) (hg : f.good = true) {b : Bool} (hb : inB f v = b) : Gives Try.prog 49 #[.agg f.cells, .int .i64 v] (.bool b) 1 := by
  simp only [Fld.good, Bool.and_eq_true, decide_eq_true_eq] at hg
  rw [← hb]
  exact gives_of_one (in_any f v hg.1.1.2 hg.1.2)

/-- The bits of the five fields, laid together. -/
def laidE (r : Row) (i : I) : Int :=
  bits .or .u32 (bits .or .u32 (bits .or .u32 (bits .or .u32 (bits .or .u32 r.word (layN r.f0 i.rd)) (layN r.f1 i.rn)) (layN r.f2 i.rm)) (layN r.f3 i.imm)) (layN r.f4 i.cond)

def inC (f : Fld) (v : Int) (b : Bool) : CallC := ⟨49, #[.agg f.cells, .int .i64 v], .bool b, 1⟩

theorem cl_nil : ∀ c ∈ ([] : List CallC), Gives Try.prog c.f c.args c.v c.n := by simp
theorem cl_cons {f : Fld} {v : Int} {b : Bool} {l : List CallC} (hg : f.good = true) (h : inB f v = b) (hl : ∀ c ∈ l, Gives Try.prog c.f c.args c.v c.n) : ∀ c ∈ inC f v b :: l, Gives Try.prog c.f c.args c.v c.n := by
  intro c hc
  rcases List.mem_cons.1 hc with rfl | hc
  · exact in_gives f v hg h
  · exact hl c hc

structure Row.Good (r : Row) : Prop where
  word : r.word < 4294967296
  g0 : r.f0.good = true
  g1 : r.f1.good = true
  g2 : r.f2.good = true
  g3 : r.f3.good = true
  g4 : r.f4.good = true

theorem Row.Good.of {r : Row} (h : r.good = true) : r.Good := by
  simp only [Row.good, Bool.and_eq_true, decide_eq_true_eq] at h
  exact ⟨h.1.1.1.1.1, h.1.1.1.1.2, h.1.1.1.2, h.1.1.2, h.1.2, h.2⟩

theorem fits_0 (r : Row) (i : I) (g : r.Good) (h0 : inB r.f0 i.rd = false) : Gives Try.prog 32 #[.agg r.cells, .agg i.cells] (.bool false) 5 :=
  gives_of_out (withCalls_holds (fs := [49]) (cl := [inC r.f0 i.rd false]) (cl_cons g.g0 h0 cl_nil)) mixed 200 fun _ => ⟨by kernel_rfl, by kernel_rfl, by kernel_rfl⟩

theorem fits_1 (r : Row) (i : I) (g : r.Good) (h0 : inB r.f0 i.rd = true) (h1 : inB r.f1 i.rn = false) : Gives Try.prog 32 #[.agg r.cells, .agg i.cells] (.bool false) 6 :=
  gives_of_out (withCalls_holds (fs := [49]) (cl := [inC r.f0 i.rd true, inC r.f1 i.rn false]) (cl_cons g.g0 h0 (cl_cons g.g1 h1 cl_nil))) mixed 200 fun _ => ⟨by kernel_rfl, by kernel_rfl, by kernel_rfl⟩

theorem fits_2 (r : Row) (i : I) (g : r.Good) (h0 : inB r.f0 i.rd = true) (h1 : inB r.f1 i.rn = true) (h2 : inB r.f2 i.rm = false) : Gives Try.prog 32 #[.agg r.cells, .agg i.cells] (.bool false) 7 :=
  gives_of_out (withCalls_holds (fs := [49]) (cl := [inC r.f0 i.rd true, inC r.f1 i.rn true, inC r.f2 i.rm false]) (cl_cons g.g0 h0 (cl_cons g.g1 h1 (cl_cons g.g2 h2 cl_nil)))) mixed 200 fun _ => ⟨by kernel_rfl, by kernel_rfl, by kernel_rfl⟩

theorem fits_3 (r : Row) (i : I) (g : r.Good) (h0 : inB r.f0 i.rd = true) (h1 : inB r.f1 i.rn = true) (h2 : inB r.f2 i.rm = true) (h3 : inB r.f3 i.imm = false) : Gives Try.prog 32 #[.agg r.cells, .agg i.cells] (.bool false) 8 :=
  gives_of_out (withCalls_holds (fs := [49]) (cl := [inC r.f0 i.rd true, inC r.f1 i.rn true, inC r.f2 i.rm true, inC r.f3 i.imm false]) (cl_cons g.g0 h0 (cl_cons g.g1 h1 (cl_cons g.g2 h2 (cl_cons g.g3 h3 cl_nil))))) mixed 200 fun _ => ⟨by kernel_rfl, by kernel_rfl, by kernel_rfl⟩

theorem fits_4 (r : Row) (i : I) (g : r.Good) (h0 : inB r.f0 i.rd = true) (h1 : inB r.f1 i.rn = true) (h2 : inB r.f2 i.rm = true) (h3 : inB r.f3 i.imm = true) (h4 : inB r.f4 i.cond = false) : Gives Try.prog 32 #[.agg r.cells, .agg i.cells] (.bool false) 9 :=
  gives_of_out (withCalls_holds (fs := [49]) (cl := [inC r.f0 i.rd true, inC r.f1 i.rn true, inC r.f2 i.rm true, inC r.f3 i.imm true, inC r.f4 i.cond false]) (cl_cons g.g0 h0 (cl_cons g.g1 h1 (cl_cons g.g2 h2 (cl_cons g.g3 h3 (cl_cons g.g4 h4 cl_nil)))))) mixed 200 fun _ => ⟨by kernel_rfl, by kernel_rfl, by kernel_rfl⟩

theorem fits_lsli (r : Row) (i : I) (g : r.Good) (h0 : inB r.f0 i.rd = true) (h1 : inB r.f1 i.rn = true) (h2 : inB r.f2 i.rm = true) (h3 : inB r.f3 i.imm = true) (h4 : inB r.f4 i.cond = true) (o : i.op = 14) : Gives Try.prog 32 #[.agg r.cells, .agg i.cells] (.bool (decide (1 ≤ i.imm))) 9 :=
  gives_of_asked (withBoth_holds (fs := [49]) (cl := [inC r.f0 i.rd true, inC r.f1 i.rn true, inC r.f2 i.rm true, inC r.f3 i.imm true, inC r.f4 i.cond true]) (fn := 32) (ts := [24]) (rl := [.bool true]) (cl_cons g.g0 h0 (cl_cons g.g1 h1 (cl_cons g.g2 h2 (cl_cons g.g3 h3 (cl_cons g.g4 h4 cl_nil)))))) mixed 200 (qs := [(.val (.bool (i.op == 14)), .val (.bool true))]) (by simp [o]) fun _ => ⟨by kernel_rfl, by kernel_rfl, by kernel_rfl⟩

theorem fits_stxr_1 (r : Row) (i : I) (g : r.Good) (h0 : inB r.f0 i.rd = true) (h1 : inB r.f1 i.rn = true) (h2 : inB r.f2 i.rm = true) (h3 : inB r.f3 i.imm = true) (h4 : inB r.f4 i.cond = true) (o : i.op = 28) (d : (i.rm != i.rd) = true) : Gives Try.prog 32 #[.agg r.cells, .agg i.cells] (.bool (i.rm != i.rn)) 9 :=
  gives_of_asked (withBoth_holds (fs := [49]) (cl := [inC r.f0 i.rd true, inC r.f1 i.rn true, inC r.f2 i.rm true, inC r.f3 i.imm true, inC r.f4 i.cond true]) (fn := 32) (ts := [24, 29, 35]) (rl := [.bool false, .bool true, .bool true]) (cl_cons g.g0 h0 (cl_cons g.g1 h1 (cl_cons g.g2 h2 (cl_cons g.g3 h3 (cl_cons g.g4 h4 cl_nil)))))) mixed 200 (qs := [(.val (.bool (i.rm != i.rd)), .val (.bool true)), (.val (.bool (i.op == 28)), .val (.bool true)), (.val (.bool (i.op == 14)), .val (.bool false))]) (by simp [o, d]) fun _ => ⟨by kernel_rfl, by kernel_rfl, by kernel_rfl⟩

theorem fits_stxr_2 (r : Row) (i : I) (g : r.Good) (h0 : inB r.f0 i.rd = true) (h1 : inB r.f1 i.rn = true) (h2 : inB r.f2 i.rm = true) (h3 : inB r.f3 i.imm = true) (h4 : inB r.f4 i.cond = true) (o : i.op = 28) (d : (i.rm != i.rd) = false) : Gives Try.prog 32 #[.agg r.cells, .agg i.cells] (.bool false) 9 :=
  gives_of_asked (withBoth_holds (fs := [49]) (cl := [inC r.f0 i.rd true, inC r.f1 i.rn true, inC r.f2 i.rm true, inC r.f3 i.imm true, inC r.f4 i.cond true]) (fn := 32) (ts := [24, 29, 35]) (rl := [.bool false, .bool true, .bool false]) (cl_cons g.g0 h0 (cl_cons g.g1 h1 (cl_cons g.g2 h2 (cl_cons g.g3 h3 (cl_cons g.g4 h4 cl_nil)))))) mixed 200 (qs := [(.val (.bool (i.rm != i.rd)), .val (.bool false)), (.val (.bool (i.op == 28)), .val (.bool true)), (.val (.bool (i.op == 14)), .val (.bool false))]) (by simp [o, d]) fun _ => ⟨by kernel_rfl, by kernel_rfl, by kernel_rfl⟩

theorem fits_stlxr_1 (r : Row) (i : I) (g : r.Good) (h0 : inB r.f0 i.rd = true) (h1 : inB r.f1 i.rn = true) (h2 : inB r.f2 i.rm = true) (h3 : inB r.f3 i.imm = true) (h4 : inB r.f4 i.cond = true) (o : i.op = 29) (d : (i.rm != i.rd) = true) : Gives Try.prog 32 #[.agg r.cells, .agg i.cells] (.bool (i.rm != i.rn)) 9 :=
  gives_of_asked (withBoth_holds (fs := [49]) (cl := [inC r.f0 i.rd true, inC r.f1 i.rn true, inC r.f2 i.rm true, inC r.f3 i.imm true, inC r.f4 i.cond true]) (fn := 32) (ts := [24, 29, 30, 35]) (rl := [.bool false, .bool false, .bool true, .bool true]) (cl_cons g.g0 h0 (cl_cons g.g1 h1 (cl_cons g.g2 h2 (cl_cons g.g3 h3 (cl_cons g.g4 h4 cl_nil)))))) mixed 200 (qs := [(.val (.bool (i.rm != i.rd)), .val (.bool true)), (.val (.bool (i.op == 29)), .val (.bool true)), (.val (.bool (i.op == 28)), .val (.bool false)), (.val (.bool (i.op == 14)), .val (.bool false))]) (by simp [o, d]) fun _ => ⟨by kernel_rfl, by kernel_rfl, by kernel_rfl⟩

theorem fits_stlxr_2 (r : Row) (i : I) (g : r.Good) (h0 : inB r.f0 i.rd = true) (h1 : inB r.f1 i.rn = true) (h2 : inB r.f2 i.rm = true) (h3 : inB r.f3 i.imm = true) (h4 : inB r.f4 i.cond = true) (o : i.op = 29) (d : (i.rm != i.rd) = false) : Gives Try.prog 32 #[.agg r.cells, .agg i.cells] (.bool false) 9 :=
  gives_of_asked (withBoth_holds (fs := [49]) (cl := [inC r.f0 i.rd true, inC r.f1 i.rn true, inC r.f2 i.rm true, inC r.f3 i.imm true, inC r.f4 i.cond true]) (fn := 32) (ts := [24, 29, 30, 35]) (rl := [.bool false, .bool false, .bool true, .bool false]) (cl_cons g.g0 h0 (cl_cons g.g1 h1 (cl_cons g.g2 h2 (cl_cons g.g3 h3 (cl_cons g.g4 h4 cl_nil)))))) mixed 200 (qs := [(.val (.bool (i.rm != i.rd)), .val (.bool false)), (.val (.bool (i.op == 29)), .val (.bool true)), (.val (.bool (i.op == 28)), .val (.bool false)), (.val (.bool (i.op == 14)), .val (.bool false))]) (by simp [o, d]) fun _ => ⟨by kernel_rfl, by kernel_rfl, by kernel_rfl⟩

theorem fits_other (r : Row) (i : I) (g : r.Good) (h0 : inB r.f0 i.rd = true) (h1 : inB r.f1 i.rn = true) (h2 : inB r.f2 i.rm = true) (h3 : inB r.f3 i.imm = true) (h4 : inB r.f4 i.cond = true) (o1 : i.op ≠ 14) (o2 : i.op ≠ 28) (o3 : i.op ≠ 29) : Gives Try.prog 32 #[.agg r.cells, .agg i.cells] (.bool true) 9 :=
  gives_of_asked (withBoth_holds (fs := [49]) (cl := [inC r.f0 i.rd true, inC r.f1 i.rn true, inC r.f2 i.rm true, inC r.f3 i.imm true, inC r.f4 i.cond true]) (fn := 32) (ts := [24, 29, 30]) (rl := [.bool false, .bool false, .bool false]) (cl_cons g.g0 h0 (cl_cons g.g1 h1 (cl_cons g.g2 h2 (cl_cons g.g3 h3 (cl_cons g.g4 h4 cl_nil)))))) mixed 200 (qs := [(.val (.bool (i.op == 29)), .val (.bool false)), (.val (.bool (i.op == 28)), .val (.bool false)), (.val (.bool (i.op == 14)), .val (.bool false))]) (by simp [o1, o2, o3]) fun _ => ⟨by kernel_rfl, by kernel_rfl, by kernel_rfl⟩


theorem fits_gives (r : Row) (i : I) (g : r.Good) : ∃ n, Gives Try.prog 32 #[.agg r.cells, .agg i.cells] (.bool (fitsB r i)) n := by
  unfold fitsB
  cases h0 : inB r.f0 i.rd
  · exact ⟨_, fits_0 r i g h0⟩
  cases h1 : inB r.f1 i.rn
  · exact ⟨_, fits_1 r i g h0 h1⟩
  cases h2 : inB r.f2 i.rm
  · exact ⟨_, fits_2 r i g h0 h1 h2⟩
  cases h3 : inB r.f3 i.imm
  · exact ⟨_, fits_3 r i g h0 h1 h2 h3⟩
  cases h4 : inB r.f4 i.cond
  · exact ⟨_, fits_4 r i g h0 h1 h2 h3 h4⟩
  simp only [Bool.true_and]
  by_cases o1 : i.op = 14
  · rw [if_pos o1]
    exact ⟨_, fits_lsli r i g h0 h1 h2 h3 h4 o1⟩
  rw [if_neg o1]
  by_cases o2 : i.op = 28
  · rw [if_pos (.inl o2)]
    cases d : i.rm != i.rd
    · exact ⟨_, fits_stxr_2 r i g h0 h1 h2 h3 h4 o2 d⟩
    · exact ⟨_, fits_stxr_1 r i g h0 h1 h2 h3 h4 o2 d⟩
  by_cases o3 : i.op = 29
  · rw [if_pos (.inr o3)]
    cases d : i.rm != i.rd
    · exact ⟨_, fits_stlxr_2 r i g h0 h1 h2 h3 h4 o3 d⟩
    · exact ⟨_, fits_stlxr_1 r i g h0 h1 h2 h3 h4 o3 d⟩
  · rw [if_neg (by rintro (h | h) <;> contradiction)]
    exact ⟨_, fits_other r i g h0 h1 h2 h3 h4 o1 o2 o3⟩

end Go.Proofs.Ytjcebkkmpgafkaa
