/-
  A row's word of an instruction; the instruction that a word would be.
-/
import Derived.Test.YtjcebkkmpgafkaaRowW
namespace Go.Proofs.Ytjcebkkmpgafkaa
open Go Go.RowKit Ev

/-- The numbers of an instruction are int's. -/
structure I.fit (i : I) : Prop where
  rd : -9223372036854775808 ≤ i.rd ∧ i.rd ≤ 9223372036854775807
  rn : -9223372036854775808 ≤ i.rn ∧ i.rn ≤ 9223372036854775807
  rm : -9223372036854775808 ≤ i.rm ∧ i.rm ≤ 9223372036854775807
  imm : -9223372036854775808 ≤ i.imm ∧ i.imm ≤ 9223372036854775807
  cond : -9223372036854775808 ≤ i.cond ∧ i.cond ≤ 9223372036854775807

def layC (f : Fld) (v : Int) : CallC := ⟨50, #[.agg f.cells, .int .i64 v], .int .u32 (layN f v : Nat), 1⟩
theorem lay_cons {f : Fld} {v : Int} {l : List CallC} (hg : f.good = true) (h : -9223372036854775808 ≤ v ∧ v ≤ 9223372036854775807) (hl : ∀ c ∈ l, Gives Try.prog c.f c.args c.v c.n) : ∀ c ∈ layC f v :: l, Gives Try.prog c.f c.args c.v c.n := by
  intro c hc
  rcases List.mem_cons.1 hc with rfl | hc
  · exact gives_of_one (lay_any f v h.1 h.2 hg)
  · exact hl c hc
def readC (f : Fld) (w : Nat) : CallC := ⟨47, #[.agg f.cells, .int .u32 w], .int .i64 (readN f w), 1⟩
theorem read_cons {f : Fld} {w : Nat} {l : List CallC} (hg : f.good = true) (hn : f.lo = 0 ∨ f = near26 ∨ f = near19) (h : w < 4294967296) (hl : ∀ c ∈ l, Gives Try.prog c.f c.args c.v c.n) : ∀ c ∈ readC f w :: l, Gives Try.prog c.f c.args c.v c.n := by
  intro c hc
  rcases List.mem_cons.1 hc with rfl | hc
  · exact gives_of_one (read_any f w h hg hn)
  · exact hl c hc

/-- The word of Lsli, with its two numbers. -/
def laidL (r : Row) (i : I) : Int :=
  bits .or .u32 (laidE r i) (bits .or .u32 (IntKind.u32.wrap (IntKind.u32.wrap (IntKind.i64.wrap (64 - i.imm)) * 2 ^ 16)) (IntKind.u32.wrap (IntKind.u32.wrap (IntKind.i64.wrap (63 - i.imm)) * 2 ^ 10)))

theorem laid_other (r : Row) (i : I) (g : r.Good) (h : i.fit) (o : i.op ≠ 14) : Gives Try.prog 33 #[.agg r.cells, .agg i.cells] (.int .u32 (laidE r i)) 9 :=
  gives_of_asked (withBoth_holds (fs := [50]) (cl := [layC r.f0 i.rd, layC r.f1 i.rn, layC r.f2 i.rm, layC r.f3 i.imm, layC r.f4 i.cond]) (fn := 33) (ts := [27]) (rl := [.bool false]) (lay_cons g.g0 h.rd (lay_cons g.g1 h.rn (lay_cons g.g2 h.rm (lay_cons g.g3 h.imm (lay_cons g.g4 h.cond cl_nil)))))) mixed 200 (qs := [(.val (.bool (i.op == 14)), .val (.bool false))]) (by simp [o]) fun _ => ⟨by kernel_rfl, by kernel_rfl, by kernel_rfl⟩

theorem laid_lsli (r : Row) (i : I) (g : r.Good) (h : i.fit) (o : i.op = 14) : Gives Try.prog 33 #[.agg r.cells, .agg i.cells] (.int .u32 (laidL r i)) 9 :=
  gives_of_asked (withBoth_holds (fs := [50]) (cl := [layC r.f0 i.rd, layC r.f1 i.rn, layC r.f2 i.rm, layC r.f3 i.imm, layC r.f4 i.cond]) (fn := 33) (ts := [27]) (rl := [.bool true]) (lay_cons g.g0 h.rd (lay_cons g.g1 h.rn (lay_cons g.g2 h.rm (lay_cons g.g3 h.imm (lay_cons g.g4 h.cond cl_nil)))))) mixed 200 (qs := [(.val (.bool (i.op == 14)), .val (.bool true))]) (by simp [o]) fun _ => ⟨by kernel_rfl, by kernel_rfl, by kernel_rfl⟩

structure Row.Nice (r : Row) : Prop extends r.Good where
  n0 : r.f0.lo = 0 ∨ r.f0 = near26 ∨ r.f0 = near19
  n1 : r.f1.lo = 0 ∨ r.f1 = near26 ∨ r.f1 = near19
  n2 : r.f2.lo = 0 ∨ r.f2 = near26 ∨ r.f2 = near19
  n3 : r.f3.lo = 0 ∨ r.f3 = near26 ∨ r.f3 = near19
  n4 : r.f4.lo = 0 ∨ r.f4 = near26 ∨ r.f4 = near19

theorem Row.Nice.of {r : Row} (h : r.nice = true) : r.Nice := by
  simp only [Row.nice, Bool.and_eq_true, decide_eq_true_eq] at h
  obtain ⟨h1, h2⟩ := h
  exact { toGood := .of h1, n0 := h2 _ (by simp), n1 := h2 _ (by simp), n2 := h2 _ (by simp), n3 := h2 _ (by simp), n4 := h2 _ (by simp) }

/-- What row.read tells. -/
def asE (r : Row) (op : Int) (w : Nat) (imm : Int) : I := ⟨op, readN r.f0 w, readN r.f1 w, readN r.f2 w, imm, readN r.f4 w⟩
def immL (w : Nat) : Int := IntKind.i64.wrap (63 - IntKind.i64.wrap (bits .and .u32 ((w : Int).fdiv (2 ^ 10)) 63))

theorem read_other (r : Row) (op : Int) (w : Nat) (g : r.Nice) (h : w < 4294967296) (o : op ≠ 14) : Gives Try.prog 31 #[.agg r.cells, .int .i64 op, .int .u32 w] (.agg (asE r op w (readN r.f3 w)).cells) 13 :=
  gives_of_asked (withBoth_holds (fs := [47]) (cl := [readC r.f0 w, readC r.f1 w, readC r.f2 w, readC r.f3 w, readC r.f4 w]) (fn := 31) (ts := [23]) (rl := [.bool false]) (read_cons g.g0 g.n0 h (read_cons g.g1 g.n1 h (read_cons g.g2 g.n2 h (read_cons g.g3 g.n3 h (read_cons g.g4 g.n4 h cl_nil)))))) mixed 200 (qs := [(.val (.bool (op == 14)), .val (.bool false))]) (by simp [o]) fun _ => ⟨by kernel_rfl, by kernel_rfl, by kernel_rfl⟩

theorem read_lsli (r : Row) (op : Int) (w : Nat) (g : r.Nice) (h : w < 4294967296) (o : op = 14) : Gives Try.prog 31 #[.agg r.cells, .int .i64 op, .int .u32 w] (.agg (asE r op w (immL w)).cells) 13 :=
  gives_of_asked (withBoth_holds (fs := [47]) (cl := [readC r.f0 w, readC r.f1 w, readC r.f2 w, readC r.f3 w, readC r.f4 w]) (fn := 31) (ts := [23]) (rl := [.bool true]) (read_cons g.g0 g.n0 h (read_cons g.g1 g.n1 h (read_cons g.g2 g.n2 h (read_cons g.g3 g.n3 h (read_cons g.g4 g.n4 h cl_nil)))))) mixed 200 (qs := [(.val (.bool (op == 14)), .val (.bool true))]) (by simp [o]) fun _ => ⟨by kernel_rfl, by kernel_rfl, by kernel_rfl⟩

end Go.Proofs.Ytjcebkkmpgafkaa
