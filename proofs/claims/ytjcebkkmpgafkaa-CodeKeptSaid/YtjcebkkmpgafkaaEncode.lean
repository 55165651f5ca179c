/-
  Encode and Fits of any instruction.
-/
import Derived.Test.YtjcebkkmpgafkaaRowOf
import Derived.Test.YtjcebkkmpgafkaaRowX
namespace Go.Proofs.Ytjcebkkmpgafkaa
open Go Go.RowKit Ev

theorem Row.val_eq (r : Row) : r.val = .agg r.cells := rfl

/-- How many blocks rowOf makes. -/
def rowBlocks (op : Nat) : Nat := [0, 4, 4, 4, 4, 4, 4, 4, 4, 4, 4, 4, 4, 4, 4, 4, 3, 2, 2, 3, 3, 3, 4, 4, 3, 3, 3, 3, 4, 4, 2, 2, 2, 2, 2, 3, 4, 4, 4, 4, 4, 4, 4, 4, 4, 4, 4, 4].getD op 0

theorem rowOf_gives : ∀ k : Nat, 1 ≤ k → k < 48 → Gives Try.prog 30 #[.int .i64 (k : Nat)] (.tuple #[.agg (rowOf k).cells, .bool true]) (rowBlocks k)
  | 0, h, _ => absurd h (by decide)
  | 1, _, _ => rowOf_1
  | 2, _, _ => rowOf_2
  | 3, _, _ => rowOf_3
  | 4, _, _ => rowOf_4
  | 5, _, _ => rowOf_5
  | 6, _, _ => rowOf_6
  | 7, _, _ => rowOf_7
  | 8, _, _ => rowOf_8
  | 9, _, _ => rowOf_9
  | 10, _, _ => rowOf_10
  | 11, _, _ => rowOf_11
  | 12, _, _ => rowOf_12
  | 13, _, _ => rowOf_13
  | 14, _, _ => rowOf_14
  | 15, _, _ => rowOf_15
  | 16, _, _ => rowOf_16
  | 17, _, _ => rowOf_17
  | 18, _, _ => rowOf_18
  | 19, _, _ => rowOf_19
  | 20, _, _ => rowOf_20
  | 21, _, _ => rowOf_21
  | 22, _, _ => rowOf_22
  | 23, _, _ => rowOf_23
  | 24, _, _ => rowOf_24
  | 25, _, _ => rowOf_25
  | 26, _, _ => rowOf_26
  | 27, _, _ => rowOf_27
  | 28, _, _ => rowOf_28
  | 29, _, _ => rowOf_29
  | 30, _, _ => rowOf_30
  | 31, _, _ => rowOf_31
  | 32, _, _ => rowOf_32
  | 33, _, _ => rowOf_33
  | 34, _, _ => rowOf_34
  | 35, _, _ => rowOf_35
  | 36, _, _ => rowOf_36
  | 37, _, _ => rowOf_37
  | 38, _, _ => rowOf_38
  | 39, _, _ => rowOf_39
  | 40, _, _ => rowOf_40
  | 41, _, _ => rowOf_41
  | 42, _, _ => rowOf_42
  | 43, _, _ => rowOf_43
  | 44, _, _ => rowOf_44
  | 45, _, _ => rowOf_45
  | 46, _, _ => rowOf_46
  | 47, _, _ => rowOf_47
  | k + 48, _, h => absurd h (by omega)

theorem rowOf_low (op : Int) (h : op < 1) : Gives Try.prog 30 #[.int .i64 op] (.tuple #[.agg rz.cells, .bool false]) 1 :=
  gives_of_asked (withBoth_holds (fs := []) (cl := []) (fn := 30) (ts := [6]) (rl := [.bool true]) cl_nil) mixed 100 (qs := [(.val (.bool (decide (op < 1))), .val (.bool true))]) (by simp; omega) fun _ => ⟨by kernel_rfl, by kernel_rfl, by kernel_rfl⟩
theorem rowOf_high (op : Int) (h : 47 < op) : Gives Try.prog 30 #[.int .i64 op] (.tuple #[.agg rz.cells, .bool false]) 1 :=
  gives_of_asked (withBoth_holds (fs := []) (cl := []) (fn := 30) (ts := [6, 9]) (rl := [.bool false, .bool true]) cl_nil) mixed 100 (qs := [(.val (.bool (decide (op > 47))), .val (.bool true)), (.val (.bool (decide (op < 1))), .val (.bool false))]) (by simp; omega) fun _ => ⟨by kernel_rfl, by kernel_rfl, by kernel_rfl⟩


theorem gives_cons {c : CallC} {l : List CallC} (h : Gives Try.prog c.f c.args c.v c.n) (hl : ∀ c ∈ l, Gives Try.prog c.f c.args c.v c.n) : ∀ d ∈ c :: l, Gives Try.prog d.f d.args d.v d.n := by
  intro d hd
  rcases List.mem_cons.1 hd with rfl | hd
  · exact h
  · exact hl d hd

def rowC (op : Int) (r : Row) (b : Bool) (n : Nat) : CallC := ⟨30, #[.int .i64 op], .tuple #[.agg r.cells, .bool b], n⟩
def fitsC (r : Row) (i : I) (b : Bool) (n : Nat) : CallC := ⟨32, #[.agg r.cells, .agg i.cells], .bool b, n⟩
def laidC (r : Row) (i : I) (x : Int) (n : Nat) : CallC := ⟨33, #[.agg r.cells, .agg i.cells], .int .u32 x, n⟩
def three : List FuncId := [30, 32, 33]

theorem add_top (b n : Nat) : b + 1 + n + 1 = b + (n + 2) := by omega
theorem add_top1 (b n m : Nat) : b + 1 + n + 1 + m = b + (n + m + 2) := by omega
theorem add_top2 (b n m l : Nat) : b + 1 + n + 1 + m + l = b + (n + m + l + 2) := by omega

/-- There is no such operation. -/
theorem encode_none (i : I) (n : Nat) (h : Gives Try.prog 30 #[.int .i64 i.op] (.tuple #[.agg rz.cells, .bool false]) n) : Gives Try.prog 20 #[.agg i.cells] (.tuple #[.int .u32 0, .int .i64 7]) (n + 2) :=
  gives_of_top (withCalls_holds (fs := three) (cl := [rowC i.op rz false n]) (gives_cons h cl_nil)) mixed 100 (qs := []) (by simp) _ (fun b => add_top b n) fun _ => ⟨by kernel_rfl, by kernel_rfl, by kernel_rfl⟩
theorem encode_unfit (i : I) (r : Row) (n m : Nat) (h : Gives Try.prog 30 #[.int .i64 i.op] (.tuple #[.agg r.cells, .bool true]) n) (hf : Gives Try.prog 32 #[.agg r.cells, .agg i.cells] (.bool false) m) :
    Gives Try.prog 20 #[.agg i.cells] (.tuple #[.int .u32 0, .int .i64 7]) (n + m + 2) :=
  gives_of_top (withCalls_holds (fs := three) (cl := [rowC i.op r true n, fitsC r i false m]) (gives_cons h (gives_cons hf cl_nil))) mixed 100 (qs := []) (by simp) _ (fun b => add_top1 b n m) fun _ => ⟨by kernel_rfl, by kernel_rfl, by kernel_rfl⟩
theorem encode_fit (i : I) (r : Row) (n m l : Nat) (x : Int) (h : Gives Try.prog 30 #[.int .i64 i.op] (.tuple #[.agg r.cells, .bool true]) n) (hf : Gives Try.prog 32 #[.agg r.cells, .agg i.cells] (.bool true) m)
    (hl : Gives Try.prog 33 #[.agg r.cells, .agg i.cells] (.int .u32 x) l) : Gives Try.prog 20 #[.agg i.cells] (.tuple #[.int .u32 x, .int .i64 0]) (n + m + l + 2) :=
  gives_of_top (withCalls_holds (fs := three) (cl := [rowC i.op r true n, fitsC r i true m, laidC r i x l]) (gives_cons h (gives_cons hf (gives_cons hl cl_nil)))) mixed 100 (qs := []) (by simp) _ (fun b => add_top2 b n m l) fun _ => ⟨by kernel_rfl, by kernel_rfl, by kernel_rfl⟩

theorem cfits_none (i : I) (n : Nat) (h : Gives Try.prog 30 #[.int .i64 i.op] (.tuple #[.agg rz.cells, .bool false]) n) : Gives Try.prog 22 #[.agg i.cells] (.bool false) (n + 2) :=
  gives_of_top (withCalls_holds (fs := three) (cl := [rowC i.op rz false n]) (gives_cons h cl_nil)) mixed 100 (qs := []) (by simp) _ (fun b => add_top b n) fun _ => ⟨by kernel_rfl, by kernel_rfl, by kernel_rfl⟩
theorem cfits_row (i : I) (r : Row) (n m : Nat) (t : Bool) (h : Gives Try.prog 30 #[.int .i64 i.op] (.tuple #[.agg r.cells, .bool true]) n) (hf : Gives Try.prog 32 #[.agg r.cells, .agg i.cells] (.bool t) m) :
    Gives Try.prog 22 #[.agg i.cells] (.bool t) (n + m + 2) :=
  gives_of_top (withCalls_holds (fs := three) (cl := [rowC i.op r true n, fitsC r i t m]) (gives_cons h (gives_cons hf cl_nil))) mixed 100 (qs := []) (by simp) _ (fun b => add_top1 b n m) fun _ => ⟨by kernel_rfl, by kernel_rfl, by kernel_rfl⟩

/-! ### In one piece -/

def rowAt (op : Int) : Row := if 1 ≤ op ∧ op ≤ 47 then rowOf op.toNat else rz

/-- What row.laid tells. -/
def laidV (r : Row) (i : I) : Int := if i.op = 14 then laidL r i else laidE r i

def fitsI (i : I) : Bool := decide (1 ≤ i.op) && (decide (i.op ≤ 47) && fitsB (rowAt i.op) i)

theorem row_nice (op : Nat) (h : op < 48) : (rowOf op).Nice := .of (rowOf_nice op h)

theorem laid_gives (r : Row) (i : I) (g : r.Good) (h : i.fit) : Gives Try.prog 33 #[.agg r.cells, .agg i.cells] (.int .u32 (laidV r i)) 9 := by
  unfold laidV
  by_cases o : i.op = 14
  · rw [if_pos o]; exact laid_lsli r i g h o
  · rw [if_neg o]; exact laid_other r i g h o

theorem rowAt_gives (op : Int) (h : 1 ≤ op ∧ op ≤ 47) : ∃ n, Gives Try.prog 30 #[.int .i64 op] (.tuple #[.agg (rowAt op).cells, .bool true]) n := by
  obtain ⟨k, rfl⟩ := Int.eq_ofNat_of_zero_le (show 0 ≤ op by omega)
  refine ⟨rowBlocks k, ?_⟩
  unfold rowAt
  rw [if_pos h, Int.toNat_natCast]
  exact rowOf_gives k (by omega) (by omega)

theorem rowAt_nice (op : Int) (h : 1 ≤ op ∧ op ≤ 47) : (rowAt op).Nice := by
  unfold rowAt
  rw [if_pos h]
  exact row_nice _ (by omega)

theorem encode_gives (i : I) (h : i.fit) : ∃ n, Gives Try.prog 20 #[.agg i.cells] (if fitsI i then .tuple #[.int .u32 (laidV (rowAt i.op) i), .int .i64 0] else .tuple #[.int .u32 0, .int .i64 7]) n := by
  by_cases h1 : i.op < 1
  · have : fitsI i = false := by unfold fitsI; rw [decide_eq_false (by omega)]; rfl
    rw [this]
    exact ⟨_, encode_none i _ (rowOf_low _ h1)⟩
  by_cases h2 : 47 < i.op
  · have : fitsI i = false := by unfold fitsI; rw [decide_eq_false (p := i.op ≤ 47) (by omega)]; simp
    rw [this]
    exact ⟨_, encode_none i _ (rowOf_high _ h2)⟩
  have hop : 1 ≤ i.op ∧ i.op ≤ 47 := by omega
  have e : fitsI i = fitsB (rowAt i.op) i := by unfold fitsI; rw [decide_eq_true hop.1, decide_eq_true hop.2]; rfl
  obtain ⟨n, hn⟩ := rowAt_gives i.op hop
  obtain ⟨m, hm⟩ := fits_gives (rowAt i.op) i (rowAt_nice i.op hop).toGood
  rw [e]
  cases hb : fitsB (rowAt i.op) i
  · rw [hb] at hm
    exact ⟨_, encode_unfit i _ n m hn hm⟩
  · rw [hb] at hm
    exact ⟨_, encode_fit i _ n m 9 _ hn hm (laid_gives _ i (rowAt_nice i.op hop).toGood h)⟩

theorem cfits_gives (i : I) : ∃ n, Gives Try.prog 22 #[.agg i.cells] (.bool (fitsI i)) n := by
  by_cases h1 : i.op < 1
  · have : fitsI i = false := by unfold fitsI; rw [decide_eq_false (by omega)]; rfl
    rw [this]
    exact ⟨_, cfits_none i _ (rowOf_low _ h1)⟩
  by_cases h2 : 47 < i.op
  · have : fitsI i = false := by unfold fitsI; rw [decide_eq_false (p := i.op ≤ 47) (by omega)]; simp
    rw [this]
    exact ⟨_, cfits_none i _ (rowOf_high _ h2)⟩
  have hop : 1 ≤ i.op ∧ i.op ≤ 47 := by omega
  have e : fitsI i = fitsB (rowAt i.op) i := by unfold fitsI; rw [decide_eq_true hop.1, decide_eq_true hop.2]; rfl
  obtain ⟨n, hn⟩ := rowAt_gives i.op hop
  obtain ⟨m, hm⟩ := fits_gives (rowAt i.op) i (rowAt_nice i.op hop).toGood
  rw [e]
  exact ⟨_, cfits_row i _ n m _ hn hm⟩

end Go.Proofs.Ytjcebkkmpgafkaa
