/-
  The reference's register, Fits and value.
-/
import Derived.Test.YtjcebkkmpgafkaaRefA
import Derived.Test.YtjcebkkmpgafkaaRowX
namespace Go.Proofs.Ytjcebkkmpgafkaa
open Go Go.RowKit Ev

theorem mk_cons {c : CallC} {l : List CallC} (h : Gives Try.prog c.f c.args c.v c.n) (hl : ∀ c ∈ l, Gives Try.prog c.f c.args c.v c.n) : ∀ d ∈ c :: l, Gives Try.prog d.f d.args d.v d.n := by
  intro d hd
  rcases List.mem_cons.1 hd with rfl | hd
  · exact h
  · exact hl d hd

def hasC (op letter : Int) (b : Bool) (n : Nat) : CallC := ⟨51, #[.int .i64 op, .int .u8 letter], .bool b, n⟩
def topC (op letter t : Int) : CallC := ⟨53, #[.int .i64 op, .int .u8 letter], .int .i64 t, 0⟩
def betC (v lo hi : Int) (b : Bool) : CallC := ⟨52, #[.int .i64 v, .int .i64 lo, .int .i64 hi], .bool b, 0⟩
def regB (op letter v : Int) : Bool := if hasB op letter then betB v 0 (topV op letter) else v == 0

theorem reg_no (op letter v : Int) (n : Nat) (h : Gives Try.prog 51 #[.int .i64 op, .int .u8 letter] (.bool false) n) : Gives Try.prog 35 #[.int .i64 op, .int .u8 letter, .int .i64 v] (.bool (v == 0)) n :=
  gives_of_out (withCalls_holds (fs := [51, 53, 52]) (cl := [hasC op letter false n]) (mk_cons h (by simp))) mixedP 100 fun _ => ⟨by kernel_rfl, by kernel_rfl, by kernel_rfl⟩
theorem reg_yes (op letter v t : Int) (b : Bool) (n : Nat) (h : Gives Try.prog 51 #[.int .i64 op, .int .u8 letter] (.bool true) n) (ht : Gives Try.prog 53 #[.int .i64 op, .int .u8 letter] (.int .i64 t) 0)
    (hb : Gives Try.prog 52 #[.int .i64 v, .int .i64 0, .int .i64 t] (.bool b) 0) : Gives Try.prog 35 #[.int .i64 op, .int .u8 letter, .int .i64 v] (.bool b) n :=
  gives_of_top (withCalls_holds (fs := [51, 53, 52]) (cl := [hasC op letter true n, topC op letter t, betC v 0 t b]) (mk_cons h (mk_cons ht (mk_cons hb (by simp))))) mixedP 100 (qs := []) (by simp) (fun b => b + n + 0 + 0) (fun b => by omega) fun _ => ⟨by kernel_rfl, by kernel_rfl, by kernel_rfl⟩

theorem reg_gives (op letter v : Int) (ht : Gives Try.prog 53 #[.int .i64 op, .int .u8 letter] (.int .i64 (topV op letter)) 0) : ∃ n, Gives Try.prog 35 #[.int .i64 op, .int .u8 letter, .int .i64 v] (.bool (regB op letter v)) n := by
  obtain ⟨n, h⟩ := has_any op letter
  unfold regB
  cases hb : hasB op letter
  · rw [hb] at h
    exact ⟨n, reg_no op letter v n h⟩
  · rw [hb] at h
    exact ⟨n, reg_yes op letter v _ _ n h ht (gives_here (between_any v 0 _))⟩


def regC (op letter v : Int) (b : Bool) (n : Nat) : CallC := ⟨35, #[.int .i64 op, .int .u8 letter, .int .i64 v], .bool b, n⟩
def immC (op v : Int) (b : Bool) : CallC := ⟨36, #[.int .i64 op, .int .i64 v], .bool b, 0⟩
def condC (op v : Int) (b : Bool) : CallC := ⟨37, #[.int .i64 op, .int .i64 v], .bool b, 0⟩

theorem rfits_low (i : I) (h : i.op < 1) : Gives Try.prog 23 #[.agg i.cells] (.bool false) 1 :=
  gives_of_asked (withBoth_holds (fs := []) (cl := []) (fn := 23) (ts := [5]) (rl := [.bool true]) (by simp)) mixedP 100 (qs := [(.val (.bool (decide (i.op < 1))), .val (.bool true))]) (by simp; omega) fun _ => ⟨by kernel_rfl, by kernel_rfl, by kernel_rfl⟩
theorem rfits_high (i : I) (h : 47 < i.op) : Gives Try.prog 23 #[.agg i.cells] (.bool false) 1 :=
  gives_of_asked (withBoth_holds (fs := []) (cl := []) (fn := 23) (ts := [5, 9]) (rl := [.bool false, .bool true]) (by simp)) mixedP 100 (qs := [(.val (.bool (decide (i.op > 47))), .val (.bool true)), (.val (.bool (decide (i.op < 1))), .val (.bool false))]) (by simp; omega) fun _ => ⟨by kernel_rfl, by kernel_rfl, by kernel_rfl⟩

theorem rfits_0 (i : I) (n0 : Nat) (p : 1 ≤ i.op ∧ i.op ≤ 47) (h0 : Gives Try.prog 35 #[.int .i64 i.op, .int .u8 100, .int .i64 i.rd] (.bool false) n0)  : Gives Try.prog 23 #[.agg i.cells] (.bool false) (n0 + 1) :=
  gives_of_top (withBoth_holds (fs := [35, 36, 37]) (cl := [regC i.op 100 i.rd false n0]) (fn := 23) (ts := [5, 9]) (rl := [.bool false, .bool false]) (mk_cons h0 (by simp))) mixedP 200 (qs := [(.val (.bool (decide (i.op > 47))), .val (.bool false)), (.val (.bool (decide (i.op < 1))), .val (.bool false))]) (by simp [] <;> omega) (fun b => b + 1 + n0) (fun b => by omega) fun _ => ⟨by kernel_rfl, by kernel_rfl, by kernel_rfl⟩

theorem rfits_1 (i : I) (n0 n1 : Nat) (p : 1 ≤ i.op ∧ i.op ≤ 47) (h0 : Gives Try.prog 35 #[.int .i64 i.op, .int .u8 100, .int .i64 i.rd] (.bool true) n0) (h1 : Gives Try.prog 35 #[.int .i64 i.op, .int .u8 110, .int .i64 i.rn] (.bool false) n1)  : Gives Try.prog 23 #[.agg i.cells] (.bool false) (n0 + n1 + 1) :=
  gives_of_top (withBoth_holds (fs := [35, 36, 37]) (cl := [regC i.op 100 i.rd true n0, regC i.op 110 i.rn false n1]) (fn := 23) (ts := [5, 9]) (rl := [.bool false, .bool false]) (mk_cons h0 (mk_cons h1 (by simp)))) mixedP 200 (qs := [(.val (.bool (decide (i.op > 47))), .val (.bool false)), (.val (.bool (decide (i.op < 1))), .val (.bool false))]) (by simp [] <;> omega) (fun b => b + 1 + n0 + n1) (fun b => by omega) fun _ => ⟨by kernel_rfl, by kernel_rfl, by kernel_rfl⟩

theorem rfits_2 (i : I) (n0 n1 n2 : Nat) (p : 1 ≤ i.op ∧ i.op ≤ 47) (h0 : Gives Try.prog 35 #[.int .i64 i.op, .int .u8 100, .int .i64 i.rd] (.bool true) n0) (h1 : Gives Try.prog 35 #[.int .i64 i.op, .int .u8 110, .int .i64 i.rn] (.bool true) n1) (h2 : Gives Try.prog 35 #[.int .i64 i.op, .int .u8 109, .int .i64 i.rm] (.bool false) n2)  : Gives Try.prog 23 #[.agg i.cells] (.bool false) (n0 + n1 + n2 + 1) :=
  gives_of_top (withBoth_holds (fs := [35, 36, 37]) (cl := [regC i.op 100 i.rd true n0, regC i.op 110 i.rn true n1, regC i.op 109 i.rm false n2]) (fn := 23) (ts := [5, 9]) (rl := [.bool false, .bool false]) (mk_cons h0 (mk_cons h1 (mk_cons h2 (by simp))))) mixedP 200 (qs := [(.val (.bool (decide (i.op > 47))), .val (.bool false)), (.val (.bool (decide (i.op < 1))), .val (.bool false))]) (by simp [] <;> omega) (fun b => b + 1 + n0 + n1 + n2) (fun b => by omega) fun _ => ⟨by kernel_rfl, by kernel_rfl, by kernel_rfl⟩

theorem rfits_3 (i : I) (n0 n1 n2 : Nat) (p : 1 ≤ i.op ∧ i.op ≤ 47) (h0 : Gives Try.prog 35 #[.int .i64 i.op, .int .u8 100, .int .i64 i.rd] (.bool true) n0) (h1 : Gives Try.prog 35 #[.int .i64 i.op, .int .u8 110, .int .i64 i.rn] (.bool true) n1) (h2 : Gives Try.prog 35 #[.int .i64 i.op, .int .u8 109, .int .i64 i.rm] (.bool true) n2) (h3 : Gives Try.prog 36 #[.int .i64 i.op, .int .i64 i.imm] (.bool false) 0)  : Gives Try.prog 23 #[.agg i.cells] (.bool false) (n0 + n1 + n2 + 1) :=
  gives_of_top (withBoth_holds (fs := [35, 36, 37]) (cl := [regC i.op 100 i.rd true n0, regC i.op 110 i.rn true n1, regC i.op 109 i.rm true n2, immC i.op i.imm false]) (fn := 23) (ts := [5, 9]) (rl := [.bool false, .bool false]) (mk_cons h0 (mk_cons h1 (mk_cons h2 (mk_cons h3 (by simp)))))) mixedP 200 (qs := [(.val (.bool (decide (i.op > 47))), .val (.bool false)), (.val (.bool (decide (i.op < 1))), .val (.bool false))]) (by simp [] <;> omega) (fun b => b + 1 + n0 + n1 + n2 + 0) (fun b => by omega) fun _ => ⟨by kernel_rfl, by kernel_rfl, by kernel_rfl⟩

theorem rfits_4 (i : I) (n0 n1 n2 : Nat) (p : 1 ≤ i.op ∧ i.op ≤ 47) (h0 : Gives Try.prog 35 #[.int .i64 i.op, .int .u8 100, .int .i64 i.rd] (.bool true) n0) (h1 : Gives Try.prog 35 #[.int .i64 i.op, .int .u8 110, .int .i64 i.rn] (.bool true) n1) (h2 : Gives Try.prog 35 #[.int .i64 i.op, .int .u8 109, .int .i64 i.rm] (.bool true) n2) (h3 : Gives Try.prog 36 #[.int .i64 i.op, .int .i64 i.imm] (.bool true) 0) (h4 : Gives Try.prog 37 #[.int .i64 i.op, .int .i64 i.cond] (.bool false) 0)  : Gives Try.prog 23 #[.agg i.cells] (.bool false) (n0 + n1 + n2 + 1) :=
  gives_of_top (withBoth_holds (fs := [35, 36, 37]) (cl := [regC i.op 100 i.rd true n0, regC i.op 110 i.rn true n1, regC i.op 109 i.rm true n2, immC i.op i.imm true, condC i.op i.cond false]) (fn := 23) (ts := [5, 9]) (rl := [.bool false, .bool false]) (mk_cons h0 (mk_cons h1 (mk_cons h2 (mk_cons h3 (mk_cons h4 (by simp))))))) mixedP 200 (qs := [(.val (.bool (decide (i.op > 47))), .val (.bool false)), (.val (.bool (decide (i.op < 1))), .val (.bool false))]) (by simp [] <;> omega) (fun b => b + 1 + n0 + n1 + n2 + 0 + 0) (fun b => by omega) fun _ => ⟨by kernel_rfl, by kernel_rfl, by kernel_rfl⟩

theorem rfits_stxr_1 (i : I) (n0 n1 n2 : Nat) (h0 : Gives Try.prog 35 #[.int .i64 i.op, .int .u8 100, .int .i64 i.rd] (.bool true) n0) (h1 : Gives Try.prog 35 #[.int .i64 i.op, .int .u8 110, .int .i64 i.rn] (.bool true) n1) (h2 : Gives Try.prog 35 #[.int .i64 i.op, .int .u8 109, .int .i64 i.rm] (.bool true) n2) (h3 : Gives Try.prog 36 #[.int .i64 i.op, .int .i64 i.imm] (.bool true) 0) (h4 : Gives Try.prog 37 #[.int .i64 i.op, .int .i64 i.cond] (.bool true) 0) (o : i.op = 28) (d : (i.rm != i.rd) = true) : Gives Try.prog 23 #[.agg i.cells] (.bool (i.rm != i.rn)) (n0 + n1 + n2 + 1) :=
  gives_of_top (withBoth_holds (fs := [35, 36, 37]) (cl := [regC i.op 100 i.rd true n0, regC i.op 110 i.rn true n1, regC i.op 109 i.rm true n2, immC i.op i.imm true, condC i.op i.cond true]) (fn := 23) (ts := [5, 9, 51, 61]) (rl := [.bool false, .bool false, .bool true, .bool true]) (mk_cons h0 (mk_cons h1 (mk_cons h2 (mk_cons h3 (mk_cons h4 (by simp))))))) mixedP 200 (qs := [(.val (.bool (i.rm != i.rd)), .val (.bool true)), (.val (.bool (i.op == 28)), .val (.bool true)), (.val (.bool (decide (i.op > 47))), .val (.bool false)), (.val (.bool (decide (i.op < 1))), .val (.bool false))]) (by simp [o, d] <;> omega) (fun b => b + 1 + n0 + n1 + n2 + 0 + 0) (fun b => by omega) fun _ => ⟨by kernel_rfl, by kernel_rfl, by kernel_rfl⟩

theorem rfits_stxr_2 (i : I) (n0 n1 n2 : Nat) (h0 : Gives Try.prog 35 #[.int .i64 i.op, .int .u8 100, .int .i64 i.rd] (.bool true) n0) (h1 : Gives Try.prog 35 #[.int .i64 i.op, .int .u8 110, .int .i64 i.rn] (.bool true) n1) (h2 : Gives Try.prog 35 #[.int .i64 i.op, .int .u8 109, .int .i64 i.rm] (.bool true) n2) (h3 : Gives Try.prog 36 #[.int .i64 i.op, .int .i64 i.imm] (.bool true) 0) (h4 : Gives Try.prog 37 #[.int .i64 i.op, .int .i64 i.cond] (.bool true) 0) (o : i.op = 28) (d : (i.rm != i.rd) = false) : Gives Try.prog 23 #[.agg i.cells] (.bool false) (n0 + n1 + n2 + 1) :=
  gives_of_top (withBoth_holds (fs := [35, 36, 37]) (cl := [regC i.op 100 i.rd true n0, regC i.op 110 i.rn true n1, regC i.op 109 i.rm true n2, immC i.op i.imm true, condC i.op i.cond true]) (fn := 23) (ts := [5, 9, 51, 61]) (rl := [.bool false, .bool false, .bool true, .bool false]) (mk_cons h0 (mk_cons h1 (mk_cons h2 (mk_cons h3 (mk_cons h4 (by simp))))))) mixedP 200 (qs := [(.val (.bool (i.rm != i.rd)), .val (.bool false)), (.val (.bool (i.op == 28)), .val (.bool true)), (.val (.bool (decide (i.op > 47))), .val (.bool false)), (.val (.bool (decide (i.op < 1))), .val (.bool false))]) (by simp [o, d] <;> omega) (fun b => b + 1 + n0 + n1 + n2 + 0 + 0) (fun b => by omega) fun _ => ⟨by kernel_rfl, by kernel_rfl, by kernel_rfl⟩

theorem rfits_stlxr_1 (i : I) (n0 n1 n2 : Nat) (h0 : Gives Try.prog 35 #[.int .i64 i.op, .int .u8 100, .int .i64 i.rd] (.bool true) n0) (h1 : Gives Try.prog 35 #[.int .i64 i.op, .int .u8 110, .int .i64 i.rn] (.bool true) n1) (h2 : Gives Try.prog 35 #[.int .i64 i.op, .int .u8 109, .int .i64 i.rm] (.bool true) n2) (h3 : Gives Try.prog 36 #[.int .i64 i.op, .int .i64 i.imm] (.bool true) 0) (h4 : Gives Try.prog 37 #[.int .i64 i.op, .int .i64 i.cond] (.bool true) 0) (o : i.op = 29) (d : (i.rm != i.rd) = true) : Gives Try.prog 23 #[.agg i.cells] (.bool (i.rm != i.rn)) (n0 + n1 + n2 + 1) :=
  gives_of_top (withBoth_holds (fs := [35, 36, 37]) (cl := [regC i.op 100 i.rd true n0, regC i.op 110 i.rn true n1, regC i.op 109 i.rm true n2, immC i.op i.imm true, condC i.op i.cond true]) (fn := 23) (ts := [5, 9, 51, 55, 61]) (rl := [.bool false, .bool false, .bool false, .bool true, .bool true]) (mk_cons h0 (mk_cons h1 (mk_cons h2 (mk_cons h3 (mk_cons h4 (by simp))))))) mixedP 200 (qs := [(.val (.bool (i.rm != i.rd)), .val (.bool true)), (.val (.bool (i.op == 29)), .val (.bool true)), (.val (.bool (i.op == 28)), .val (.bool false)), (.val (.bool (decide (i.op > 47))), .val (.bool false)), (.val (.bool (decide (i.op < 1))), .val (.bool false))]) (by simp [o, d] <;> omega) (fun b => b + 1 + n0 + n1 + n2 + 0 + 0) (fun b => by omega) fun _ => ⟨by kernel_rfl, by kernel_rfl, by kernel_rfl⟩

theorem rfits_stlxr_2 (i : I) (n0 n1 n2 : Nat) (h0 : Gives Try.prog 35 #[.int .i64 i.op, .int .u8 100, .int .i64 i.rd] (.bool true) n0) (h1 : Gives Try.prog 35 #[.int .i64 i.op, .int .u8 110, .int .i64 i.rn] (.bool true) n1) (h2 : Gives Try.prog 35 #[.int .i64 i.op, .int .u8 109, .int .i64 i.rm] (.bool true) n2) (h3 : Gives Try.prog 36 #[.int .i64 i.op, .int .i64 i.imm] (.bool true) 0) (h4 : Gives Try.prog 37 #[.int .i64 i.op, .int .i64 i.cond] (.bool true) 0) (o : i.op = 29) (d : (i.rm != i.rd) = false) : Gives Try.prog 23 #[.agg i.cells] (.bool false) (n0 + n1 + n2 + 1) :=
  gives_of_top (withBoth_holds (fs := [35, 36, 37]) (cl := [regC i.op 100 i.rd true n0, regC i.op 110 i.rn true n1, regC i.op 109 i.rm true n2, immC i.op i.imm true, condC i.op i.cond true]) (fn := 23) (ts := [5, 9, 51, 55, 61]) (rl := [.bool false, .bool false, .bool false, .bool true, .bool false]) (mk_cons h0 (mk_cons h1 (mk_cons h2 (mk_cons h3 (mk_cons h4 (by simp))))))) mixedP 200 (qs := [(.val (.bool (i.rm != i.rd)), .val (.bool false)), (.val (.bool (i.op == 29)), .val (.bool true)), (.val (.bool (i.op == 28)), .val (.bool false)), (.val (.bool (decide (i.op > 47))), .val (.bool false)), (.val (.bool (decide (i.op < 1))), .val (.bool false))]) (by simp [o, d] <;> omega) (fun b => b + 1 + n0 + n1 + n2 + 0 + 0) (fun b => by omega) fun _ => ⟨by kernel_rfl, by kernel_rfl, by kernel_rfl⟩

theorem rfits_other (i : I) (n0 n1 n2 : Nat) (p : 1 ≤ i.op ∧ i.op ≤ 47) (h0 : Gives Try.prog 35 #[.int .i64 i.op, .int .u8 100, .int .i64 i.rd] (.bool true) n0) (h1 : Gives Try.prog 35 #[.int .i64 i.op, .int .u8 110, .int .i64 i.rn] (.bool true) n1) (h2 : Gives Try.prog 35 #[.int .i64 i.op, .int .u8 109, .int .i64 i.rm] (.bool true) n2) (h3 : Gives Try.prog 36 #[.int .i64 i.op, .int .i64 i.imm] (.bool true) 0) (h4 : Gives Try.prog 37 #[.int .i64 i.op, .int .i64 i.cond] (.bool true) 0) (o1 : i.op ≠ 28) (o2 : i.op ≠ 29) : Gives Try.prog 23 #[.agg i.cells] (.bool true) (n0 + n1 + n2 + 1) :=
  gives_of_top (withBoth_holds (fs := [35, 36, 37]) (cl := [regC i.op 100 i.rd true n0, regC i.op 110 i.rn true n1, regC i.op 109 i.rm true n2, immC i.op i.imm true, condC i.op i.cond true]) (fn := 23) (ts := [5, 9, 51, 55]) (rl := [.bool false, .bool false, .bool false, .bool false]) (mk_cons h0 (mk_cons h1 (mk_cons h2 (mk_cons h3 (mk_cons h4 (by simp))))))) mixedP 200 (qs := [(.val (.bool (i.op == 29)), .val (.bool false)), (.val (.bool (i.op == 28)), .val (.bool false)), (.val (.bool (decide (i.op > 47))), .val (.bool false)), (.val (.bool (decide (i.op < 1))), .val (.bool false))]) (by simp [o1, o2] <;> omega) (fun b => b + 1 + n0 + n1 + n2 + 0 + 0) (fun b => by omega) fun _ => ⟨by kernel_rfl, by kernel_rfl, by kernel_rfl⟩


def rfitsB (i : I) : Bool :=
  decide (1 ≤ i.op) && (decide (i.op ≤ 47) && (regB i.op 100 i.rd && (regB i.op 110 i.rn && (regB i.op 109 i.rm && (immB i.op i.imm && (condB i.op i.cond &&
    (if i.op = 28 ∨ i.op = 29 then i.rm != i.rd && i.rm != i.rn else true)))))))

theorem rfits_gives (i : I) (h : i.fit) : ∃ n, Gives Try.prog 23 #[.agg i.cells] (.bool (rfitsB i)) n := by
  unfold rfitsB
  by_cases l : i.op < 1
  · rw [decide_eq_false (p := 1 ≤ i.op) (by omega)]; exact ⟨_, rfits_low i l⟩
  by_cases g : 47 < i.op
  · rw [decide_eq_false (p := i.op ≤ 47) (by omega), Bool.false_and, Bool.and_false]; exact ⟨_, rfits_high i g⟩
  have p : 1 ≤ i.op ∧ i.op ≤ 47 := by omega
  rw [decide_eq_true p.1, decide_eq_true p.2, Bool.true_and, Bool.true_and]
  obtain ⟨n0, h0⟩ := reg_gives i.op 100 i.rd (gives_here (top_100 _))
  obtain ⟨n1, h1⟩ := reg_gives i.op 110 i.rn (gives_here (top_110 _))
  obtain ⟨n2, h2⟩ := reg_gives i.op 109 i.rm (gives_here (top_109 _))
  have h3 := gives_here (imm_any i.op i.imm h.imm)
  have h4 := gives_here (cond_any i.op i.cond)
  cases b0 : regB i.op 100 i.rd
  · rw [b0] at h0; exact ⟨_, rfits_0 i n0 p h0⟩
  rw [b0] at h0
  cases b1 : regB i.op 110 i.rn
  · rw [b1] at h1; exact ⟨_, rfits_1 i n0 n1 p h0 h1⟩
  rw [b1] at h1
  cases b2 : regB i.op 109 i.rm
  · rw [b2] at h2; exact ⟨_, rfits_2 i n0 n1 n2 p h0 h1 h2⟩
  rw [b2] at h2
  cases b3 : immB i.op i.imm
  · rw [b3] at h3; exact ⟨_, rfits_3 i n0 n1 n2 p h0 h1 h2 h3⟩
  rw [b3] at h3
  cases b4 : condB i.op i.cond
  · rw [b4] at h4; exact ⟨_, rfits_4 i n0 n1 n2 p h0 h1 h2 h3 h4⟩
  rw [b4] at h4
  simp only [Bool.true_and]
  by_cases o2 : i.op = 28
  · rw [if_pos (.inl o2)]
    cases d : i.rm != i.rd
    · exact ⟨_, rfits_stxr_2 i n0 n1 n2 h0 h1 h2 h3 h4 o2 d⟩
    · exact ⟨_, rfits_stxr_1 i n0 n1 n2 h0 h1 h2 h3 h4 o2 d⟩
  by_cases o3 : i.op = 29
  · rw [if_pos (.inr o3)]
    cases d : i.rm != i.rd
    · exact ⟨_, rfits_stlxr_2 i n0 n1 n2 h0 h1 h2 h3 h4 o3 d⟩
    · exact ⟨_, rfits_stlxr_1 i n0 n1 n2 h0 h1 h2 h3 h4 o3 d⟩
  · rw [if_neg (by rintro (h | h) <;> contradiction)]
    exact ⟨_, rfits_other i n0 n1 n2 p h0 h1 h2 h3 h4 o2 o3⟩

/-- What value tells of a letter. -/
def valV (i : I) (letter : Nat) : Int :=
  if letter = 100 then i.rd else if letter = 110 then i.rn else if letter = 109 then i.rm else if letter = 99 then i.cond else
  if letter = 107 then (if i.cond.tmod 2 = 0 then IntKind.i64.wrap (i.cond + 1) else IntKind.i64.wrap (i.cond - 1)) else
  if letter = 114 then IntKind.i64.wrap (64 - i.imm) else if letter = 115 then IntKind.i64.wrap (63 - i.imm) else
  if i.op = 22 ∨ i.op = 23 then IntKind.i64.wrap (i.imm.tdiv 8) else i.imm

theorem val_100 (i : I) : Gives Try.prog 38 #[.agg i.cells, .int .u8 100] (.int .i64 (valV i 100)) 1 := gives_of_out noSpec_holds mixedP 100 fun _ => ⟨by kernel_rfl, by kernel_rfl, by kernel_rfl⟩
theorem val_110 (i : I) : Gives Try.prog 38 #[.agg i.cells, .int .u8 110] (.int .i64 (valV i 110)) 1 := gives_of_out noSpec_holds mixedP 100 fun _ => ⟨by kernel_rfl, by kernel_rfl, by kernel_rfl⟩
theorem val_109 (i : I) : Gives Try.prog 38 #[.agg i.cells, .int .u8 109] (.int .i64 (valV i 109)) 1 := gives_of_out noSpec_holds mixedP 100 fun _ => ⟨by kernel_rfl, by kernel_rfl, by kernel_rfl⟩
theorem val_99 (i : I) : Gives Try.prog 38 #[.agg i.cells, .int .u8 99] (.int .i64 (valV i 99)) 1 := gives_of_out noSpec_holds mixedP 100 fun _ => ⟨by kernel_rfl, by kernel_rfl, by kernel_rfl⟩
theorem val_114 (i : I) : Gives Try.prog 38 #[.agg i.cells, .int .u8 114] (.int .i64 (valV i 114)) 1 := gives_of_out noSpec_holds mixedP 100 fun _ => ⟨by kernel_rfl, by kernel_rfl, by kernel_rfl⟩
theorem val_115 (i : I) : Gives Try.prog 38 #[.agg i.cells, .int .u8 115] (.int .i64 (valV i 115)) 1 := gives_of_out noSpec_holds mixedP 100 fun _ => ⟨by kernel_rfl, by kernel_rfl, by kernel_rfl⟩
theorem val_107a (i : I) (h : (i.cond.tmod 2 == 0) = true) : Gives Try.prog 38 #[.agg i.cells, .int .u8 107] (.int .i64 (IntKind.i64.wrap (i.cond + 1))) 1 :=
  gives_of_asked (withBoth_holds (fs := []) (cl := []) (fn := 38) (ts := [27]) (rl := [.bool true]) (by simp)) mixedP 100 (qs := [(.val (.bool (i.cond.tmod 2 == 0)), .val (.bool true))]) (by simp [beq_iff_eq.1 h]) fun _ => ⟨by kernel_rfl, by kernel_rfl, by kernel_rfl⟩
theorem val_107b (i : I) (h : (i.cond.tmod 2 == 0) = false) : Gives Try.prog 38 #[.agg i.cells, .int .u8 107] (.int .i64 (IntKind.i64.wrap (i.cond - 1))) 1 :=
  gives_of_asked (withBoth_holds (fs := []) (cl := []) (fn := 38) (ts := [27]) (rl := [.bool false]) (by simp)) mixedP 100 (qs := [(.val (.bool (i.cond.tmod 2 == 0)), .val (.bool false))]) (by simp [beq_eq_false_iff_ne.1 h]) fun _ => ⟨by kernel_rfl, by kernel_rfl, by kernel_rfl⟩
theorem val_105a (i : I) (h : i.op = 22) : Gives Try.prog 38 #[.agg i.cells, .int .u8 105] (.int .i64 (IntKind.i64.wrap (i.imm.tdiv 8))) 1 :=
  gives_of_asked (withBoth_holds (fs := []) (cl := []) (fn := 38) (ts := [46]) (rl := [.bool true]) (by simp)) mixedP 100 (qs := [(.val (.bool (i.op == 22)), .val (.bool true))]) (by simp [h]) fun _ => ⟨by kernel_rfl, by kernel_rfl, by kernel_rfl⟩
theorem val_105b (i : I) (h : i.op = 23) : Gives Try.prog 38 #[.agg i.cells, .int .u8 105] (.int .i64 (IntKind.i64.wrap (i.imm.tdiv 8))) 1 :=
  gives_of_asked (withBoth_holds (fs := []) (cl := []) (fn := 38) (ts := [46, 50]) (rl := [.bool false, .bool true]) (by simp)) mixedP 100 (qs := [(.val (.bool (i.op == 23)), .val (.bool true)), (.val (.bool (i.op == 22)), .val (.bool false))]) (by simp [h]) fun _ => ⟨by kernel_rfl, by kernel_rfl, by kernel_rfl⟩
theorem val_105c (i : I) (h : i.op ≠ 22) (h' : i.op ≠ 23) : Gives Try.prog 38 #[.agg i.cells, .int .u8 105] (.int .i64 (i.imm)) 1 :=
  gives_of_asked (withBoth_holds (fs := []) (cl := []) (fn := 38) (ts := [46, 50]) (rl := [.bool false, .bool false]) (by simp)) mixedP 100 (qs := [(.val (.bool (i.op == 23)), .val (.bool false)), (.val (.bool (i.op == 22)), .val (.bool false))]) (by simp [h, h']) fun _ => ⟨by kernel_rfl, by kernel_rfl, by kernel_rfl⟩

def isLetter (l : Nat) : Bool := [100, 110, 109, 99, 107, 114, 115, 105].contains l

theorem val_gives (i : I) (letter : Nat) (hl : isLetter letter = true) : Gives Try.prog 38 #[.agg i.cells, .int .u8 letter] (.int .i64 (valV i letter)) 1 := by
  simp only [isLetter, List.contains_eq_mem, List.mem_cons, List.not_mem_nil, or_false, decide_eq_true_eq] at hl
  rcases hl with rfl | rfl | rfl | rfl | rfl | rfl | rfl | rfl
  · exact val_100 i
  · exact val_110 i
  · exact val_109 i
  · exact val_99 i
  · by_cases h : i.cond.tmod 2 = 0
    · have e : valV i 107 = IntKind.i64.wrap (i.cond + 1) := by simp [valV, h]
      rw [e]; exact val_107a i (by rw [h]; rfl)
    · have e : valV i 107 = IntKind.i64.wrap (i.cond - 1) := by simp [valV, h]
      rw [e]; exact val_107b i (by simpa using h)
  · exact val_114 i
  · exact val_115 i
  · by_cases h : i.op = 22
    · have e : valV i 105 = IntKind.i64.wrap (i.imm.tdiv 8) := by simp [valV, h]
      rw [e]; exact val_105a i h
    by_cases h' : i.op = 23
    · have e : valV i 105 = IntKind.i64.wrap (i.imm.tdiv 8) := by simp [valV, h']
      rw [e]; exact val_105b i h'
    · have e : valV i 105 = i.imm := by simp [valV, h, h']
      rw [e]; exact val_105c i h h'

end Go.Proofs.Ytjcebkkmpgafkaa
