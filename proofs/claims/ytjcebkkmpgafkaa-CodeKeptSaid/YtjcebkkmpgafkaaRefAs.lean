/-
  The reference's As, of each operation, by the engine.
-/
import Derived.Test.YtjcebkkmpgafkaaRefC
namespace Go.Proofs.Ytjcebkkmpgafkaa
open Go Go.RowKit Ev

/-- How often a letter is among the first m signs. -/
def cntL (l : List Nat) (letter : Nat) : Nat → Nat
  | 0 => 0
  | m + 1 => if l.getD m 0 = letter then cntL l letter m + 1 else cntL l letter m

theorem rd_cnt (l : List Nat) (w letter : Nat) : ∀ m, (rd l w letter m).2 = cntL l letter m
  | 0 => rfl
  | m + 1 => by
    have := rd_cnt l w letter m
    simp only [rd, cntL]
    split <;> simp [this]

/-- A letter's number in a word, by the pattern k. -/
def rv (k letter w : Nat) : Nat := (rd (patL k) w letter 32).1

theorem rv_lt (k letter w : Nat) : rv k letter w < 4294967296 := (rd_lt (patL k) w letter 32).1

theorem rread_gives (k letter w n : Nat) (hk : k < 48) (hk1 : 1 ≤ k) (hw : w < 4294967296) (hn : cntL (patL k) letter 32 = n) :
    Gives Try.prog 54 #[.string (patS k), .int .u32 w, .int .u8 letter] (.tuple #[.int .i64 (rv k letter w), .int .i64 n]) 0 := by
  have := rread_any k letter w hk hk1 hw
  rw [rd_cnt, hn] at this
  exact gives_here this

def patC (k : Nat) : CallC := ⟨34, #[.int .i64 k], .string (patS k), 1⟩
def rreadC (k letter w n : Nat) : CallC := ⟨54, #[.string (patS k), .int .u32 w, .int .u8 letter], .tuple #[.int .i64 (rv k letter w), .int .i64 n], 0⟩
theorem rread_cons {k letter w n : Nat} {l : List CallC} (hk : k < 48) (hk1 : 1 ≤ k) (hw : w < 4294967296) (hn : cntL (patL k) letter 32 = n) (hl : ∀ c ∈ l, Gives Try.prog c.f c.args c.v c.n) : ∀ d ∈ rreadC k letter w n :: l, Gives Try.prog d.f d.args d.v d.n :=
  mk_cons (rread_gives k letter w n hk hk1 hw hn) hl

/-- The instruction that the reference reads, its number and condition aside. -/
def asK (k w : Nat) (imm cond : Int) : I := ⟨k, rv k 100 w, rv k 110 w, rv k 109 w, imm, cond⟩

def immR (k w : Nat) : Int :=
  if k = 14 then IntKind.i64.wrap (63 - (rv k 115 w : Int)) else
  if k = 18 then (if (33554432 : Int) ≤ rv k 105 w then IntKind.i64.wrap ((rv k 105 w : Int) - 67108864) else rv k 105 w) else
  if 19 ≤ k ∧ k ≤ 21 then (if (262144 : Int) ≤ rv k 105 w then IntKind.i64.wrap ((rv k 105 w : Int) - 524288) else rv k 105 w) else
  if k = 22 ∨ k = 23 then IntKind.i64.wrap ((rv k 105 w : Int) * 8) else rv k 105 w
def condR (k w : Nat) : Int := if k = 17 then IntKind.i64.wrap (IntKind.i64.wrap ((rv k 107 w : Int) + 1) - IntKind.i64.wrap (2 * (rv k 107 w : Int).tmod 2)) else rv k 99 w

theorem as_1a (w : Nat) (h : w < 4294967296)  : Gives Try.prog 39 #[.int .i64 1, .int .u32 w] (.agg (asK 1 w (rv 1 105 w) (rv 1 99 w)).cells) 3 :=
  gives_of_asked (withBoth_holds (fs := [34, 54]) (cl := [patC 1, rreadC 1 100 w 5, rreadC 1 110 w 0, rreadC 1 109 w 0, rreadC 1 99 w 2, rreadC 1 107 w 0, rreadC 1 105 w 16]) (fn := 39) (ts := []) (rl := []) (mk_cons (pat_1) (rread_cons (by decide) (by decide) h (by decide) (rread_cons (by decide) (by decide) h (by decide) (rread_cons (by decide) (by decide) h (by decide) (rread_cons (by decide) (by decide) h (by decide) (rread_cons (by decide) (by decide) h (by decide) (rread_cons (by decide) (by decide) h (by decide) (by simp))))))))) mixedP 200 (qs := []) (by simp ) fun _ => ⟨by kernel_rfl, by kernel_rfl, by kernel_rfl⟩
theorem as_1 (w : Nat) (h : w < 4294967296) : Gives Try.prog 39 #[.int .i64 1, .int .u32 w] (.agg (asK 1 w (immR 1 w) (condR 1 w)).cells) 3 := by
  have e : condR 1 w = rv 1 99 w := by simp [condR]
  have e2 : immR 1 w = rv 1 105 w := by simp [immR]
  rw [e, e2]; exact as_1a w h
theorem as_2a (w : Nat) (h : w < 4294967296)  : Gives Try.prog 39 #[.int .i64 2, .int .u32 w] (.agg (asK 2 w (rv 2 105 w) (rv 2 99 w)).cells) 3 :=
  gives_of_asked (withBoth_holds (fs := [34, 54]) (cl := [patC 2, rreadC 2 100 w 5, rreadC 2 110 w 0, rreadC 2 109 w 0, rreadC 2 99 w 2, rreadC 2 107 w 0, rreadC 2 105 w 16]) (fn := 39) (ts := []) (rl := []) (mk_cons (pat_2) (rread_cons (by decide) (by decide) h (by decide) (rread_cons (by decide) (by decide) h (by decide) (rread_cons (by decide) (by decide) h (by decide) (rread_cons (by decide) (by decide) h (by decide) (rread_cons (by decide) (by decide) h (by decide) (rread_cons (by decide) (by decide) h (by decide) (by simp))))))))) mixedP 200 (qs := []) (by simp ) fun _ => ⟨by kernel_rfl, by kernel_rfl, by kernel_rfl⟩
theorem as_2 (w : Nat) (h : w < 4294967296) : Gives Try.prog 39 #[.int .i64 2, .int .u32 w] (.agg (asK 2 w (immR 2 w) (condR 2 w)).cells) 3 := by
  have e : condR 2 w = rv 2 99 w := by simp [condR]
  have e2 : immR 2 w = rv 2 105 w := by simp [immR]
  rw [e, e2]; exact as_2a w h
theorem as_3a (w : Nat) (h : w < 4294967296)  : Gives Try.prog 39 #[.int .i64 3, .int .u32 w] (.agg (asK 3 w (rv 3 105 w) (rv 3 99 w)).cells) 3 :=
  gives_of_asked (withBoth_holds (fs := [34, 54]) (cl := [patC 3, rreadC 3 100 w 5, rreadC 3 110 w 5, rreadC 3 109 w 5, rreadC 3 99 w 0, rreadC 3 107 w 0, rreadC 3 105 w 0]) (fn := 39) (ts := []) (rl := []) (mk_cons (pat_3) (rread_cons (by decide) (by decide) h (by decide) (rread_cons (by decide) (by decide) h (by decide) (rread_cons (by decide) (by decide) h (by decide) (rread_cons (by decide) (by decide) h (by decide) (rread_cons (by decide) (by decide) h (by decide) (rread_cons (by decide) (by decide) h (by decide) (by simp))))))))) mixedP 200 (qs := []) (by simp ) fun _ => ⟨by kernel_rfl, by kernel_rfl, by kernel_rfl⟩
theorem as_3 (w : Nat) (h : w < 4294967296) : Gives Try.prog 39 #[.int .i64 3, .int .u32 w] (.agg (asK 3 w (immR 3 w) (condR 3 w)).cells) 3 := by
  have e : condR 3 w = rv 3 99 w := by simp [condR]
  have e2 : immR 3 w = rv 3 105 w := by simp [immR]
  rw [e, e2]; exact as_3a w h
theorem as_4a (w : Nat) (h : w < 4294967296)  : Gives Try.prog 39 #[.int .i64 4, .int .u32 w] (.agg (asK 4 w (rv 4 105 w) (rv 4 99 w)).cells) 3 :=
  gives_of_asked (withBoth_holds (fs := [34, 54]) (cl := [patC 4, rreadC 4 100 w 5, rreadC 4 110 w 5, rreadC 4 109 w 5, rreadC 4 99 w 0, rreadC 4 107 w 0, rreadC 4 105 w 0]) (fn := 39) (ts := []) (rl := []) (mk_cons (pat_4) (rread_cons (by decide) (by decide) h (by decide) (rread_cons (by decide) (by decide) h (by decide) (rread_cons (by decide) (by decide) h (by decide) (rread_cons (by decide) (by decide) h (by decide) (rread_cons (by decide) (by decide) h (by decide) (rread_cons (by decide) (by decide) h (by decide) (by simp))))))))) mixedP 200 (qs := []) (by simp ) fun _ => ⟨by kernel_rfl, by kernel_rfl, by kernel_rfl⟩
theorem as_4 (w : Nat) (h : w < 4294967296) : Gives Try.prog 39 #[.int .i64 4, .int .u32 w] (.agg (asK 4 w (immR 4 w) (condR 4 w)).cells) 3 := by
  have e : condR 4 w = rv 4 99 w := by simp [condR]
  have e2 : immR 4 w = rv 4 105 w := by simp [immR]
  rw [e, e2]; exact as_4a w h
theorem as_5a (w : Nat) (h : w < 4294967296)  : Gives Try.prog 39 #[.int .i64 5, .int .u32 w] (.agg (asK 5 w (rv 5 105 w) (rv 5 99 w)).cells) 3 :=
  gives_of_asked (withBoth_holds (fs := [34, 54]) (cl := [patC 5, rreadC 5 100 w 5, rreadC 5 110 w 5, rreadC 5 109 w 5, rreadC 5 99 w 0, rreadC 5 107 w 0, rreadC 5 105 w 0]) (fn := 39) (ts := []) (rl := []) (mk_cons (pat_5) (rread_cons (by decide) (by decide) h (by decide) (rread_cons (by decide) (by decide) h (by decide) (rread_cons (by decide) (by decide) h (by decide) (rread_cons (by decide) (by decide) h (by decide) (rread_cons (by decide) (by decide) h (by decide) (rread_cons (by decide) (by decide) h (by decide) (by simp))))))))) mixedP 200 (qs := []) (by simp ) fun _ => ⟨by kernel_rfl, by kernel_rfl, by kernel_rfl⟩
theorem as_5 (w : Nat) (h : w < 4294967296) : Gives Try.prog 39 #[.int .i64 5, .int .u32 w] (.agg (asK 5 w (immR 5 w) (condR 5 w)).cells) 3 := by
  have e : condR 5 w = rv 5 99 w := by simp [condR]
  have e2 : immR 5 w = rv 5 105 w := by simp [immR]
  rw [e, e2]; exact as_5a w h
theorem as_6a (w : Nat) (h : w < 4294967296)  : Gives Try.prog 39 #[.int .i64 6, .int .u32 w] (.agg (asK 6 w (rv 6 105 w) (rv 6 99 w)).cells) 3 :=
  gives_of_asked (withBoth_holds (fs := [34, 54]) (cl := [patC 6, rreadC 6 100 w 5, rreadC 6 110 w 5, rreadC 6 109 w 5, rreadC 6 99 w 0, rreadC 6 107 w 0, rreadC 6 105 w 0]) (fn := 39) (ts := []) (rl := []) (mk_cons (pat_6) (rread_cons (by decide) (by decide) h (by decide) (rread_cons (by decide) (by decide) h (by decide) (rread_cons (by decide) (by decide) h (by decide) (rread_cons (by decide) (by decide) h (by decide) (rread_cons (by decide) (by decide) h (by decide) (rread_cons (by decide) (by decide) h (by decide) (by simp))))))))) mixedP 200 (qs := []) (by simp ) fun _ => ⟨by kernel_rfl, by kernel_rfl, by kernel_rfl⟩
theorem as_6 (w : Nat) (h : w < 4294967296) : Gives Try.prog 39 #[.int .i64 6, .int .u32 w] (.agg (asK 6 w (immR 6 w) (condR 6 w)).cells) 3 := by
  have e : condR 6 w = rv 6 99 w := by simp [condR]
  have e2 : immR 6 w = rv 6 105 w := by simp [immR]
  rw [e, e2]; exact as_6a w h
theorem as_7a (w : Nat) (h : w < 4294967296)  : Gives Try.prog 39 #[.int .i64 7, .int .u32 w] (.agg (asK 7 w (rv 7 105 w) (rv 7 99 w)).cells) 3 :=
  gives_of_asked (withBoth_holds (fs := [34, 54]) (cl := [patC 7, rreadC 7 100 w 5, rreadC 7 110 w 5, rreadC 7 109 w 5, rreadC 7 99 w 0, rreadC 7 107 w 0, rreadC 7 105 w 0]) (fn := 39) (ts := []) (rl := []) (mk_cons (pat_7) (rread_cons (by decide) (by decide) h (by decide) (rread_cons (by decide) (by decide) h (by decide) (rread_cons (by decide) (by decide) h (by decide) (rread_cons (by decide) (by decide) h (by decide) (rread_cons (by decide) (by decide) h (by decide) (rread_cons (by decide) (by decide) h (by decide) (by simp))))))))) mixedP 200 (qs := []) (by simp ) fun _ => ⟨by kernel_rfl, by kernel_rfl, by kernel_rfl⟩
theorem as_7 (w : Nat) (h : w < 4294967296) : Gives Try.prog 39 #[.int .i64 7, .int .u32 w] (.agg (asK 7 w (immR 7 w) (condR 7 w)).cells) 3 := by
  have e : condR 7 w = rv 7 99 w := by simp [condR]
  have e2 : immR 7 w = rv 7 105 w := by simp [immR]
  rw [e, e2]; exact as_7a w h
theorem as_8a (w : Nat) (h : w < 4294967296)  : Gives Try.prog 39 #[.int .i64 8, .int .u32 w] (.agg (asK 8 w (rv 8 105 w) (rv 8 99 w)).cells) 3 :=
  gives_of_asked (withBoth_holds (fs := [34, 54]) (cl := [patC 8, rreadC 8 100 w 5, rreadC 8 110 w 5, rreadC 8 109 w 5, rreadC 8 99 w 0, rreadC 8 107 w 0, rreadC 8 105 w 0]) (fn := 39) (ts := []) (rl := []) (mk_cons (pat_8) (rread_cons (by decide) (by decide) h (by decide) (rread_cons (by decide) (by decide) h (by decide) (rread_cons (by decide) (by decide) h (by decide) (rread_cons (by decide) (by decide) h (by decide) (rread_cons (by decide) (by decide) h (by decide) (rread_cons (by decide) (by decide) h (by decide) (by simp))))))))) mixedP 200 (qs := []) (by simp ) fun _ => ⟨by kernel_rfl, by kernel_rfl, by kernel_rfl⟩
theorem as_8 (w : Nat) (h : w < 4294967296) : Gives Try.prog 39 #[.int .i64 8, .int .u32 w] (.agg (asK 8 w (immR 8 w) (condR 8 w)).cells) 3 := by
  have e : condR 8 w = rv 8 99 w := by simp [condR]
  have e2 : immR 8 w = rv 8 105 w := by simp [immR]
  rw [e, e2]; exact as_8a w h
theorem as_9a (w : Nat) (h : w < 4294967296)  : Gives Try.prog 39 #[.int .i64 9, .int .u32 w] (.agg (asK 9 w (rv 9 105 w) (rv 9 99 w)).cells) 3 :=
  gives_of_asked (withBoth_holds (fs := [34, 54]) (cl := [patC 9, rreadC 9 100 w 5, rreadC 9 110 w 5, rreadC 9 109 w 5, rreadC 9 99 w 0, rreadC 9 107 w 0, rreadC 9 105 w 0]) (fn := 39) (ts := []) (rl := []) (mk_cons (pat_9) (rread_cons (by decide) (by decide) h (by decide) (rread_cons (by decide) (by decide) h (by decide) (rread_cons (by decide) (by decide) h (by decide) (rread_cons (by decide) (by decide) h (by decide) (rread_cons (by decide) (by decide) h (by decide) (rread_cons (by decide) (by decide) h (by decide) (by simp))))))))) mixedP 200 (qs := []) (by simp ) fun _ => ⟨by kernel_rfl, by kernel_rfl, by kernel_rfl⟩
theorem as_9 (w : Nat) (h : w < 4294967296) : Gives Try.prog 39 #[.int .i64 9, .int .u32 w] (.agg (asK 9 w (immR 9 w) (condR 9 w)).cells) 3 := by
  have e : condR 9 w = rv 9 99 w := by simp [condR]
  have e2 : immR 9 w = rv 9 105 w := by simp [immR]
  rw [e, e2]; exact as_9a w h
theorem as_10a (w : Nat) (h : w < 4294967296)  : Gives Try.prog 39 #[.int .i64 10, .int .u32 w] (.agg (asK 10 w (rv 10 105 w) (rv 10 99 w)).cells) 3 :=
  gives_of_asked (withBoth_holds (fs := [34, 54]) (cl := [patC 10, rreadC 10 100 w 5, rreadC 10 110 w 5, rreadC 10 109 w 5, rreadC 10 99 w 0, rreadC 10 107 w 0, rreadC 10 105 w 0]) (fn := 39) (ts := []) (rl := []) (mk_cons (pat_10) (rread_cons (by decide) (by decide) h (by decide) (rread_cons (by decide) (by decide) h (by decide) (rread_cons (by decide) (by decide) h (by decide) (rread_cons (by decide) (by decide) h (by decide) (rread_cons (by decide) (by decide) h (by decide) (rread_cons (by decide) (by decide) h (by decide) (by simp))))))))) mixedP 200 (qs := []) (by simp ) fun _ => ⟨by kernel_rfl, by kernel_rfl, by kernel_rfl⟩
theorem as_10 (w : Nat) (h : w < 4294967296) : Gives Try.prog 39 #[.int .i64 10, .int .u32 w] (.agg (asK 10 w (immR 10 w) (condR 10 w)).cells) 3 := by
  have e : condR 10 w = rv 10 99 w := by simp [condR]
  have e2 : immR 10 w = rv 10 105 w := by simp [immR]
  rw [e, e2]; exact as_10a w h
theorem as_11a (w : Nat) (h : w < 4294967296)  : Gives Try.prog 39 #[.int .i64 11, .int .u32 w] (.agg (asK 11 w (rv 11 105 w) (rv 11 99 w)).cells) 3 :=
  gives_of_asked (withBoth_holds (fs := [34, 54]) (cl := [patC 11, rreadC 11 100 w 5, rreadC 11 110 w 5, rreadC 11 109 w 5, rreadC 11 99 w 0, rreadC 11 107 w 0, rreadC 11 105 w 0]) (fn := 39) (ts := []) (rl := []) (mk_cons (pat_11) (rread_cons (by decide) (by decide) h (by decide) (rread_cons (by decide) (by decide) h (by decide) (rread_cons (by decide) (by decide) h (by decide) (rread_cons (by decide) (by decide) h (by decide) (rread_cons (by decide) (by decide) h (by decide) (rread_cons (by decide) (by decide) h (by decide) (by simp))))))))) mixedP 200 (qs := []) (by simp ) fun _ => ⟨by kernel_rfl, by kernel_rfl, by kernel_rfl⟩
theorem as_11 (w : Nat) (h : w < 4294967296) : Gives Try.prog 39 #[.int .i64 11, .int .u32 w] (.agg (asK 11 w (immR 11 w) (condR 11 w)).cells) 3 := by
  have e : condR 11 w = rv 11 99 w := by simp [condR]
  have e2 : immR 11 w = rv 11 105 w := by simp [immR]
  rw [e, e2]; exact as_11a w h
theorem as_12a (w : Nat) (h : w < 4294967296)  : Gives Try.prog 39 #[.int .i64 12, .int .u32 w] (.agg (asK 12 w (rv 12 105 w) (rv 12 99 w)).cells) 3 :=
  gives_of_asked (withBoth_holds (fs := [34, 54]) (cl := [patC 12, rreadC 12 100 w 5, rreadC 12 110 w 5, rreadC 12 109 w 0, rreadC 12 99 w 0, rreadC 12 107 w 0, rreadC 12 105 w 12]) (fn := 39) (ts := []) (rl := []) (mk_cons (pat_12) (rread_cons (by decide) (by decide) h (by decide) (rread_cons (by decide) (by decide) h (by decide) (rread_cons (by decide) (by decide) h (by decide) (rread_cons (by decide) (by decide) h (by decide) (rread_cons (by decide) (by decide) h (by decide) (rread_cons (by decide) (by decide) h (by decide) (by simp))))))))) mixedP 200 (qs := []) (by simp ) fun _ => ⟨by kernel_rfl, by kernel_rfl, by kernel_rfl⟩
theorem as_12 (w : Nat) (h : w < 4294967296) : Gives Try.prog 39 #[.int .i64 12, .int .u32 w] (.agg (asK 12 w (immR 12 w) (condR 12 w)).cells) 3 := by
  have e : condR 12 w = rv 12 99 w := by simp [condR]
  have e2 : immR 12 w = rv 12 105 w := by simp [immR]
  rw [e, e2]; exact as_12a w h
theorem as_13a (w : Nat) (h : w < 4294967296)  : Gives Try.prog 39 #[.int .i64 13, .int .u32 w] (.agg (asK 13 w (rv 13 105 w) (rv 13 99 w)).cells) 3 :=
  gives_of_asked (withBoth_holds (fs := [34, 54]) (cl := [patC 13, rreadC 13 100 w 5, rreadC 13 110 w 5, rreadC 13 109 w 0, rreadC 13 99 w 0, rreadC 13 107 w 0, rreadC 13 105 w 12]) (fn := 39) (ts := []) (rl := []) (mk_cons (pat_13) (rread_cons (by decide) (by decide) h (by decide) (rread_cons (by decide) (by decide) h (by decide) (rread_cons (by decide) (by decide) h (by decide) (rread_cons (by decide) (by decide) h (by decide) (rread_cons (by decide) (by decide) h (by decide) (rread_cons (by decide) (by decide) h (by decide) (by simp))))))))) mixedP 200 (qs := []) (by simp ) fun _ => ⟨by kernel_rfl, by kernel_rfl, by kernel_rfl⟩
theorem as_13 (w : Nat) (h : w < 4294967296) : Gives Try.prog 39 #[.int .i64 13, .int .u32 w] (.agg (asK 13 w (immR 13 w) (condR 13 w)).cells) 3 := by
  have e : condR 13 w = rv 13 99 w := by simp [condR]
  have e2 : immR 13 w = rv 13 105 w := by simp [immR]
  rw [e, e2]; exact as_13a w h
theorem as_14a (w : Nat) (h : w < 4294967296)  : Gives Try.prog 39 #[.int .i64 14, .int .u32 w] (.agg (asK 14 w (IntKind.i64.wrap (63 - (rv 14 115 w : Int))) (rv 14 99 w)).cells) 3 :=
  gives_of_asked (withBoth_holds (fs := [34, 54]) (cl := [patC 14, rreadC 14 100 w 5, rreadC 14 110 w 5, rreadC 14 109 w 0, rreadC 14 99 w 0, rreadC 14 107 w 0, rreadC 14 105 w 0, rreadC 14 115 w 6]) (fn := 39) (ts := []) (rl := []) (mk_cons (pat_14) (rread_cons (by decide) (by decide) h (by decide) (rread_cons (by decide) (by decide) h (by decide) (rread_cons (by decide) (by decide) h (by decide) (rread_cons (by decide) (by decide) h (by decide) (rread_cons (by decide) (by decide) h (by decide) (rread_cons (by decide) (by decide) h (by decide) (rread_cons (by decide) (by decide) h (by decide) (by simp)))))))))) mixedP 200 (qs := []) (by simp ) fun _ => ⟨by kernel_rfl, by kernel_rfl, by kernel_rfl⟩
theorem as_14 (w : Nat) (h : w < 4294967296) : Gives Try.prog 39 #[.int .i64 14, .int .u32 w] (.agg (asK 14 w (immR 14 w) (condR 14 w)).cells) 3 := by
  have e : condR 14 w = rv 14 99 w := by simp [condR]
  have e2 : immR 14 w = IntKind.i64.wrap (63 - (rv 14 115 w : Int)) := by simp [immR]
  rw [e, e2]; exact as_14a w h
theorem as_15a (w : Nat) (h : w < 4294967296)  : Gives Try.prog 39 #[.int .i64 15, .int .u32 w] (.agg (asK 15 w (rv 15 105 w) (rv 15 99 w)).cells) 3 :=
  gives_of_asked (withBoth_holds (fs := [34, 54]) (cl := [patC 15, rreadC 15 100 w 5, rreadC 15 110 w 5, rreadC 15 109 w 0, rreadC 15 99 w 0, rreadC 15 107 w 0, rreadC 15 105 w 6]) (fn := 39) (ts := []) (rl := []) (mk_cons (pat_15) (rread_cons (by decide) (by decide) h (by decide) (rread_cons (by decide) (by decide) h (by decide) (rread_cons (by decide) (by decide) h (by decide) (rread_cons (by decide) (by decide) h (by decide) (rread_cons (by decide) (by decide) h (by decide) (rread_cons (by decide) (by decide) h (by decide) (by simp))))))))) mixedP 200 (qs := []) (by simp ) fun _ => ⟨by kernel_rfl, by kernel_rfl, by kernel_rfl⟩
theorem as_15 (w : Nat) (h : w < 4294967296) : Gives Try.prog 39 #[.int .i64 15, .int .u32 w] (.agg (asK 15 w (immR 15 w) (condR 15 w)).cells) 3 := by
  have e : condR 15 w = rv 15 99 w := by simp [condR]
  have e2 : immR 15 w = rv 15 105 w := by simp [immR]
  rw [e, e2]; exact as_15a w h
theorem as_16a (w : Nat) (h : w < 4294967296)  : Gives Try.prog 39 #[.int .i64 16, .int .u32 w] (.agg (asK 16 w (rv 16 105 w) (rv 16 99 w)).cells) 3 :=
  gives_of_asked (withBoth_holds (fs := [34, 54]) (cl := [patC 16, rreadC 16 100 w 0, rreadC 16 110 w 5, rreadC 16 109 w 5, rreadC 16 99 w 0, rreadC 16 107 w 0, rreadC 16 105 w 0]) (fn := 39) (ts := []) (rl := []) (mk_cons (pat_16) (rread_cons (by decide) (by decide) h (by decide) (rread_cons (by decide) (by decide) h (by decide) (rread_cons (by decide) (by decide) h (by decide) (rread_cons (by decide) (by decide) h (by decide) (rread_cons (by decide) (by decide) h (by decide) (rread_cons (by decide) (by decide) h (by decide) (by simp))))))))) mixedP 200 (qs := []) (by simp ) fun _ => ⟨by kernel_rfl, by kernel_rfl, by kernel_rfl⟩
theorem as_16 (w : Nat) (h : w < 4294967296) : Gives Try.prog 39 #[.int .i64 16, .int .u32 w] (.agg (asK 16 w (immR 16 w) (condR 16 w)).cells) 3 := by
  have e : condR 16 w = rv 16 99 w := by simp [condR]
  have e2 : immR 16 w = rv 16 105 w := by simp [immR]
  rw [e, e2]; exact as_16a w h
theorem as_17a (w : Nat) (h : w < 4294967296)  : Gives Try.prog 39 #[.int .i64 17, .int .u32 w] (.agg (asK 17 w (rv 17 105 w) (IntKind.i64.wrap (IntKind.i64.wrap ((rv 17 107 w : Int) + 1) - IntKind.i64.wrap (2 * (rv 17 107 w : Int).tmod 2)))).cells) 3 :=
  gives_of_asked (withBoth_holds (fs := [34, 54]) (cl := [patC 17, rreadC 17 100 w 5, rreadC 17 110 w 0, rreadC 17 109 w 0, rreadC 17 99 w 0, rreadC 17 107 w 4, rreadC 17 105 w 0]) (fn := 39) (ts := []) (rl := []) (mk_cons (pat_17) (rread_cons (by decide) (by decide) h (by decide) (rread_cons (by decide) (by decide) h (by decide) (rread_cons (by decide) (by decide) h (by decide) (rread_cons (by decide) (by decide) h (by decide) (rread_cons (by decide) (by decide) h (by decide) (rread_cons (by decide) (by decide) h (by decide) (by simp))))))))) mixedP 200 (qs := []) (by simp ) fun _ => ⟨by kernel_rfl, by kernel_rfl, by kernel_rfl⟩
theorem as_17 (w : Nat) (h : w < 4294967296) : Gives Try.prog 39 #[.int .i64 17, .int .u32 w] (.agg (asK 17 w (immR 17 w) (condR 17 w)).cells) 3 := by
  have e : condR 17 w = IntKind.i64.wrap (IntKind.i64.wrap ((rv 17 107 w : Int) + 1) - IntKind.i64.wrap (2 * (rv 17 107 w : Int).tmod 2)) := by simp [condR]
  have e2 : immR 17 w = rv 17 105 w := by simp [immR]
  rw [e, e2]; exact as_17a w h
theorem as_18a (w : Nat) (h : w < 4294967296) (c : (33554432 : Int) ≤ rv 18 105 w) : Gives Try.prog 39 #[.int .i64 18, .int .u32 w] (.agg (asK 18 w (IntKind.i64.wrap ((rv 18 105 w : Int) - 67108864)) (rv 18 99 w)).cells) 3 :=
  gives_of_asked (withBoth_holds (fs := [34, 54]) (cl := [patC 18, rreadC 18 100 w 0, rreadC 18 110 w 0, rreadC 18 109 w 0, rreadC 18 99 w 0, rreadC 18 107 w 0, rreadC 18 105 w 26]) (fn := 39) (ts := [82]) (rl := [.bool true]) (mk_cons (pat_18) (rread_cons (by decide) (by decide) h (by decide) (rread_cons (by decide) (by decide) h (by decide) (rread_cons (by decide) (by decide) h (by decide) (rread_cons (by decide) (by decide) h (by decide) (rread_cons (by decide) (by decide) h (by decide) (rread_cons (by decide) (by decide) h (by decide) (by simp))))))))) mixedP 200 (qs := [(.val (.bool (decide ((rv 18 105 w : Int) ≥ 33554432))), .val (.bool true))]) (by simp ; omega) fun _ => ⟨by kernel_rfl, by kernel_rfl, by kernel_rfl⟩
theorem as_18b (w : Nat) (h : w < 4294967296) (c : ¬ (33554432 : Int) ≤ rv 18 105 w) : Gives Try.prog 39 #[.int .i64 18, .int .u32 w] (.agg (asK 18 w (rv 18 105 w) (rv 18 99 w)).cells) 3 :=
  gives_of_asked (withBoth_holds (fs := [34, 54]) (cl := [patC 18, rreadC 18 100 w 0, rreadC 18 110 w 0, rreadC 18 109 w 0, rreadC 18 99 w 0, rreadC 18 107 w 0, rreadC 18 105 w 26]) (fn := 39) (ts := [82]) (rl := [.bool false]) (mk_cons (pat_18) (rread_cons (by decide) (by decide) h (by decide) (rread_cons (by decide) (by decide) h (by decide) (rread_cons (by decide) (by decide) h (by decide) (rread_cons (by decide) (by decide) h (by decide) (rread_cons (by decide) (by decide) h (by decide) (rread_cons (by decide) (by decide) h (by decide) (by simp))))))))) mixedP 200 (qs := [(.val (.bool (decide ((rv 18 105 w : Int) ≥ 33554432))), .val (.bool false))]) (by simp ; omega) fun _ => ⟨by kernel_rfl, by kernel_rfl, by kernel_rfl⟩
theorem as_18 (w : Nat) (h : w < 4294967296) : Gives Try.prog 39 #[.int .i64 18, .int .u32 w] (.agg (asK 18 w (immR 18 w) (condR 18 w)).cells) 3 := by
  have e : condR 18 w = rv 18 99 w := by simp [condR]
  by_cases c : (33554432 : Int) ≤ rv 18 105 w
  · have e2 : immR 18 w = IntKind.i64.wrap ((rv 18 105 w : Int) - 67108864) := by simp [immR, c]
    rw [e, e2]; exact as_18a w h c
  · have e2 : immR 18 w = rv 18 105 w := by simp [immR, c]
    rw [e, e2]; exact as_18b w h c
theorem as_19a (w : Nat) (h : w < 4294967296) (c : (262144 : Int) ≤ rv 19 105 w) : Gives Try.prog 39 #[.int .i64 19, .int .u32 w] (.agg (asK 19 w (IntKind.i64.wrap ((rv 19 105 w : Int) - 524288)) (rv 19 99 w)).cells) 3 :=
  gives_of_asked (withBoth_holds (fs := [34, 54]) (cl := [patC 19, rreadC 19 100 w 0, rreadC 19 110 w 0, rreadC 19 109 w 0, rreadC 19 99 w 4, rreadC 19 107 w 0, rreadC 19 105 w 19]) (fn := 39) (ts := [82]) (rl := [.bool true]) (mk_cons (pat_19) (rread_cons (by decide) (by decide) h (by decide) (rread_cons (by decide) (by decide) h (by decide) (rread_cons (by decide) (by decide) h (by decide) (rread_cons (by decide) (by decide) h (by decide) (rread_cons (by decide) (by decide) h (by decide) (rread_cons (by decide) (by decide) h (by decide) (by simp))))))))) mixedP 200 (qs := [(.val (.bool (decide ((rv 19 105 w : Int) ≥ 262144))), .val (.bool true))]) (by simp ; omega) fun _ => ⟨by kernel_rfl, by kernel_rfl, by kernel_rfl⟩
theorem as_19b (w : Nat) (h : w < 4294967296) (c : ¬ (262144 : Int) ≤ rv 19 105 w) : Gives Try.prog 39 #[.int .i64 19, .int .u32 w] (.agg (asK 19 w (rv 19 105 w) (rv 19 99 w)).cells) 3 :=
  gives_of_asked (withBoth_holds (fs := [34, 54]) (cl := [patC 19, rreadC 19 100 w 0, rreadC 19 110 w 0, rreadC 19 109 w 0, rreadC 19 99 w 4, rreadC 19 107 w 0, rreadC 19 105 w 19]) (fn := 39) (ts := [82]) (rl := [.bool false]) (mk_cons (pat_19) (rread_cons (by decide) (by decide) h (by decide) (rread_cons (by decide) (by decide) h (by decide) (rread_cons (by decide) (by decide) h (by decide) (rread_cons (by decide) (by decide) h (by decide) (rread_cons (by decide) (by decide) h (by decide) (rread_cons (by decide) (by decide) h (by decide) (by simp))))))))) mixedP 200 (qs := [(.val (.bool (decide ((rv 19 105 w : Int) ≥ 262144))), .val (.bool false))]) (by simp ; omega) fun _ => ⟨by kernel_rfl, by kernel_rfl, by kernel_rfl⟩
theorem as_19 (w : Nat) (h : w < 4294967296) : Gives Try.prog 39 #[.int .i64 19, .int .u32 w] (.agg (asK 19 w (immR 19 w) (condR 19 w)).cells) 3 := by
  have e : condR 19 w = rv 19 99 w := by simp [condR]
  by_cases c : (262144 : Int) ≤ rv 19 105 w
  · have e2 : immR 19 w = IntKind.i64.wrap ((rv 19 105 w : Int) - 524288) := by simp [immR, c]
    rw [e, e2]; exact as_19a w h c
  · have e2 : immR 19 w = rv 19 105 w := by simp [immR, c]
    rw [e, e2]; exact as_19b w h c
theorem as_20a (w : Nat) (h : w < 4294967296) (c : (262144 : Int) ≤ rv 20 105 w) : Gives Try.prog 39 #[.int .i64 20, .int .u32 w] (.agg (asK 20 w (IntKind.i64.wrap ((rv 20 105 w : Int) - 524288)) (rv 20 99 w)).cells) 3 :=
  gives_of_asked (withBoth_holds (fs := [34, 54]) (cl := [patC 20, rreadC 20 100 w 5, rreadC 20 110 w 0, rreadC 20 109 w 0, rreadC 20 99 w 0, rreadC 20 107 w 0, rreadC 20 105 w 19]) (fn := 39) (ts := [82]) (rl := [.bool true]) (mk_cons (pat_20) (rread_cons (by decide) (by decide) h (by decide) (rread_cons (by decide) (by decide) h (by decide) (rread_cons (by decide) (by decide) h (by decide) (rread_cons (by decide) (by decide) h (by decide) (rread_cons (by decide) (by decide) h (by decide) (rread_cons (by decide) (by decide) h (by decide) (by simp))))))))) mixedP 200 (qs := [(.val (.bool (decide ((rv 20 105 w : Int) ≥ 262144))), .val (.bool true))]) (by simp ; omega) fun _ => ⟨by kernel_rfl, by kernel_rfl, by kernel_rfl⟩
theorem as_20b (w : Nat) (h : w < 4294967296) (c : ¬ (262144 : Int) ≤ rv 20 105 w) : Gives Try.prog 39 #[.int .i64 20, .int .u32 w] (.agg (asK 20 w (rv 20 105 w) (rv 20 99 w)).cells) 3 :=
  gives_of_asked (withBoth_holds (fs := [34, 54]) (cl := [patC 20, rreadC 20 100 w 5, rreadC 20 110 w 0, rreadC 20 109 w 0, rreadC 20 99 w 0, rreadC 20 107 w 0, rreadC 20 105 w 19]) (fn := 39) (ts := [82]) (rl := [.bool false]) (mk_cons (pat_20) (rread_cons (by decide) (by decide) h (by decide) (rread_cons (by decide) (by decide) h (by decide) (rread_cons (by decide) (by decide) h (by decide) (rread_cons (by decide) (by decide) h (by decide) (rread_cons (by decide) (by decide) h (by decide) (rread_cons (by decide) (by decide) h (by decide) (by simp))))))))) mixedP 200 (qs := [(.val (.bool (decide ((rv 20 105 w : Int) ≥ 262144))), .val (.bool false))]) (by simp ; omega) fun _ => ⟨by kernel_rfl, by kernel_rfl, by kernel_rfl⟩
theorem as_20 (w : Nat) (h : w < 4294967296) : Gives Try.prog 39 #[.int .i64 20, .int .u32 w] (.agg (asK 20 w (immR 20 w) (condR 20 w)).cells) 3 := by
  have e : condR 20 w = rv 20 99 w := by simp [condR]
  by_cases c : (262144 : Int) ≤ rv 20 105 w
  · have e2 : immR 20 w = IntKind.i64.wrap ((rv 20 105 w : Int) - 524288) := by simp [immR, c]
    rw [e, e2]; exact as_20a w h c
  · have e2 : immR 20 w = rv 20 105 w := by simp [immR, c]
    rw [e, e2]; exact as_20b w h c
theorem as_21a (w : Nat) (h : w < 4294967296) (c : (262144 : Int) ≤ rv 21 105 w) : Gives Try.prog 39 #[.int .i64 21, .int .u32 w] (.agg (asK 21 w (IntKind.i64.wrap ((rv 21 105 w : Int) - 524288)) (rv 21 99 w)).cells) 3 :=
  gives_of_asked (withBoth_holds (fs := [34, 54]) (cl := [patC 21, rreadC 21 100 w 5, rreadC 21 110 w 0, rreadC 21 109 w 0, rreadC 21 99 w 0, rreadC 21 107 w 0, rreadC 21 105 w 19]) (fn := 39) (ts := [82]) (rl := [.bool true]) (mk_cons (pat_21) (rread_cons (by decide) (by decide) h (by decide) (rread_cons (by decide) (by decide) h (by decide) (rread_cons (by decide) (by decide) h (by decide) (rread_cons (by decide) (by decide) h (by decide) (rread_cons (by decide) (by decide) h (by decide) (rread_cons (by decide) (by decide) h (by decide) (by simp))))))))) mixedP 200 (qs := [(.val (.bool (decide ((rv 21 105 w : Int) ≥ 262144))), .val (.bool true))]) (by simp ; omega) fun _ => ⟨by kernel_rfl, by kernel_rfl, by kernel_rfl⟩
theorem as_21b (w : Nat) (h : w < 4294967296) (c : ¬ (262144 : Int) ≤ rv 21 105 w) : Gives Try.prog 39 #[.int .i64 21, .int .u32 w] (.agg (asK 21 w (rv 21 105 w) (rv 21 99 w)).cells) 3 :=
  gives_of_asked (withBoth_holds (fs := [34, 54]) (cl := [patC 21, rreadC 21 100 w 5, rreadC 21 110 w 0, rreadC 21 109 w 0, rreadC 21 99 w 0, rreadC 21 107 w 0, rreadC 21 105 w 19]) (fn := 39) (ts := [82]) (rl := [.bool false]) (mk_cons (pat_21) (rread_cons (by decide) (by decide) h (by decide) (rread_cons (by decide) (by decide) h (by decide) (rread_cons (by decide) (by decide) h (by decide) (rread_cons (by decide) (by decide) h (by decide) (rread_cons (by decide) (by decide) h (by decide) (rread_cons (by decide) (by decide) h (by decide) (by simp))))))))) mixedP 200 (qs := [(.val (.bool (decide ((rv 21 105 w : Int) ≥ 262144))), .val (.bool false))]) (by simp ; omega) fun _ => ⟨by kernel_rfl, by kernel_rfl, by kernel_rfl⟩
theorem as_21 (w : Nat) (h : w < 4294967296) : Gives Try.prog 39 #[.int .i64 21, .int .u32 w] (.agg (asK 21 w (immR 21 w) (condR 21 w)).cells) 3 := by
  have e : condR 21 w = rv 21 99 w := by simp [condR]
  by_cases c : (262144 : Int) ≤ rv 21 105 w
  · have e2 : immR 21 w = IntKind.i64.wrap ((rv 21 105 w : Int) - 524288) := by simp [immR, c]
    rw [e, e2]; exact as_21a w h c
  · have e2 : immR 21 w = rv 21 105 w := by simp [immR, c]
    rw [e, e2]; exact as_21b w h c
theorem as_22a (w : Nat) (h : w < 4294967296)  : Gives Try.prog 39 #[.int .i64 22, .int .u32 w] (.agg (asK 22 w (IntKind.i64.wrap ((rv 22 105 w : Int) * 8)) (rv 22 99 w)).cells) 3 :=
  gives_of_asked (withBoth_holds (fs := [34, 54]) (cl := [patC 22, rreadC 22 100 w 5, rreadC 22 110 w 5, rreadC 22 109 w 0, rreadC 22 99 w 0, rreadC 22 107 w 0, rreadC 22 105 w 12]) (fn := 39) (ts := []) (rl := []) (mk_cons (pat_22) (rread_cons (by decide) (by decide) h (by decide) (rread_cons (by decide) (by decide) h (by decide) (rread_cons (by decide) (by decide) h (by decide) (rread_cons (by decide) (by decide) h (by decide) (rread_cons (by decide) (by decide) h (by decide) (rread_cons (by decide) (by decide) h (by decide) (by simp))))))))) mixedP 200 (qs := []) (by simp ) fun _ => ⟨by kernel_rfl, by kernel_rfl, by kernel_rfl⟩
theorem as_22 (w : Nat) (h : w < 4294967296) : Gives Try.prog 39 #[.int .i64 22, .int .u32 w] (.agg (asK 22 w (immR 22 w) (condR 22 w)).cells) 3 := by
  have e : condR 22 w = rv 22 99 w := by simp [condR]
  have e2 : immR 22 w = IntKind.i64.wrap ((rv 22 105 w : Int) * 8) := by simp [immR]
  rw [e, e2]; exact as_22a w h
theorem as_23a (w : Nat) (h : w < 4294967296)  : Gives Try.prog 39 #[.int .i64 23, .int .u32 w] (.agg (asK 23 w (IntKind.i64.wrap ((rv 23 105 w : Int) * 8)) (rv 23 99 w)).cells) 3 :=
  gives_of_asked (withBoth_holds (fs := [34, 54]) (cl := [patC 23, rreadC 23 100 w 5, rreadC 23 110 w 5, rreadC 23 109 w 0, rreadC 23 99 w 0, rreadC 23 107 w 0, rreadC 23 105 w 12]) (fn := 39) (ts := []) (rl := []) (mk_cons (pat_23) (rread_cons (by decide) (by decide) h (by decide) (rread_cons (by decide) (by decide) h (by decide) (rread_cons (by decide) (by decide) h (by decide) (rread_cons (by decide) (by decide) h (by decide) (rread_cons (by decide) (by decide) h (by decide) (rread_cons (by decide) (by decide) h (by decide) (by simp))))))))) mixedP 200 (qs := []) (by simp ) fun _ => ⟨by kernel_rfl, by kernel_rfl, by kernel_rfl⟩
theorem as_23 (w : Nat) (h : w < 4294967296) : Gives Try.prog 39 #[.int .i64 23, .int .u32 w] (.agg (asK 23 w (immR 23 w) (condR 23 w)).cells) 3 := by
  have e : condR 23 w = rv 23 99 w := by simp [condR]
  have e2 : immR 23 w = IntKind.i64.wrap ((rv 23 105 w : Int) * 8) := by simp [immR]
  rw [e, e2]; exact as_23a w h
theorem as_24a (w : Nat) (h : w < 4294967296)  : Gives Try.prog 39 #[.int .i64 24, .int .u32 w] (.agg (asK 24 w (rv 24 105 w) (rv 24 99 w)).cells) 3 :=
  gives_of_asked (withBoth_holds (fs := [34, 54]) (cl := [patC 24, rreadC 24 100 w 5, rreadC 24 110 w 5, rreadC 24 109 w 0, rreadC 24 99 w 0, rreadC 24 107 w 0, rreadC 24 105 w 0]) (fn := 39) (ts := []) (rl := []) (mk_cons (pat_24) (rread_cons (by decide) (by decide) h (by decide) (rread_cons (by decide) (by decide) h (by decide) (rread_cons (by decide) (by decide) h (by decide) (rread_cons (by decide) (by decide) h (by decide) (rread_cons (by decide) (by decide) h (by decide) (rread_cons (by decide) (by decide) h (by decide) (by simp))))))))) mixedP 200 (qs := []) (by simp ) fun _ => ⟨by kernel_rfl, by kernel_rfl, by kernel_rfl⟩
theorem as_24 (w : Nat) (h : w < 4294967296) : Gives Try.prog 39 #[.int .i64 24, .int .u32 w] (.agg (asK 24 w (immR 24 w) (condR 24 w)).cells) 3 := by
  have e : condR 24 w = rv 24 99 w := by simp [condR]
  have e2 : immR 24 w = rv 24 105 w := by simp [immR]
  rw [e, e2]; exact as_24a w h
theorem as_25a (w : Nat) (h : w < 4294967296)  : Gives Try.prog 39 #[.int .i64 25, .int .u32 w] (.agg (asK 25 w (rv 25 105 w) (rv 25 99 w)).cells) 3 :=
  gives_of_asked (withBoth_holds (fs := [34, 54]) (cl := [patC 25, rreadC 25 100 w 5, rreadC 25 110 w 5, rreadC 25 109 w 0, rreadC 25 99 w 0, rreadC 25 107 w 0, rreadC 25 105 w 0]) (fn := 39) (ts := []) (rl := []) (mk_cons (pat_25) (rread_cons (by decide) (by decide) h (by decide) (rread_cons (by decide) (by decide) h (by decide) (rread_cons (by decide) (by decide) h (by decide) (rread_cons (by decide) (by decide) h (by decide) (rread_cons (by decide) (by decide) h (by decide) (rread_cons (by decide) (by decide) h (by decide) (by simp))))))))) mixedP 200 (qs := []) (by simp ) fun _ => ⟨by kernel_rfl, by kernel_rfl, by kernel_rfl⟩
theorem as_25 (w : Nat) (h : w < 4294967296) : Gives Try.prog 39 #[.int .i64 25, .int .u32 w] (.agg (asK 25 w (immR 25 w) (condR 25 w)).cells) 3 := by
  have e : condR 25 w = rv 25 99 w := by simp [condR]
  have e2 : immR 25 w = rv 25 105 w := by simp [immR]
  rw [e, e2]; exact as_25a w h
theorem as_26a (w : Nat) (h : w < 4294967296)  : Gives Try.prog 39 #[.int .i64 26, .int .u32 w] (.agg (asK 26 w (rv 26 105 w) (rv 26 99 w)).cells) 3 :=
  gives_of_asked (withBoth_holds (fs := [34, 54]) (cl := [patC 26, rreadC 26 100 w 5, rreadC 26 110 w 5, rreadC 26 109 w 0, rreadC 26 99 w 0, rreadC 26 107 w 0, rreadC 26 105 w 0]) (fn := 39) (ts := []) (rl := []) (mk_cons (pat_26) (rread_cons (by decide) (by decide) h (by decide) (rread_cons (by decide) (by decide) h (by decide) (rread_cons (by decide) (by decide) h (by decide) (rread_cons (by decide) (by decide) h (by decide) (rread_cons (by decide) (by decide) h (by decide) (rread_cons (by decide) (by decide) h (by decide) (by simp))))))))) mixedP 200 (qs := []) (by simp ) fun _ => ⟨by kernel_rfl, by kernel_rfl, by kernel_rfl⟩
theorem as_26 (w : Nat) (h : w < 4294967296) : Gives Try.prog 39 #[.int .i64 26, .int .u32 w] (.agg (asK 26 w (immR 26 w) (condR 26 w)).cells) 3 := by
  have e : condR 26 w = rv 26 99 w := by simp [condR]
  have e2 : immR 26 w = rv 26 105 w := by simp [immR]
  rw [e, e2]; exact as_26a w h
theorem as_27a (w : Nat) (h : w < 4294967296)  : Gives Try.prog 39 #[.int .i64 27, .int .u32 w] (.agg (asK 27 w (rv 27 105 w) (rv 27 99 w)).cells) 3 :=
  gives_of_asked (withBoth_holds (fs := [34, 54]) (cl := [patC 27, rreadC 27 100 w 5, rreadC 27 110 w 5, rreadC 27 109 w 0, rreadC 27 99 w 0, rreadC 27 107 w 0, rreadC 27 105 w 0]) (fn := 39) (ts := []) (rl := []) (mk_cons (pat_27) (rread_cons (by decide) (by decide) h (by decide) (rread_cons (by decide) (by decide) h (by decide) (rread_cons (by decide) (by decide) h (by decide) (rread_cons (by decide) (by decide) h (by decide) (rread_cons (by decide) (by decide) h (by decide) (rread_cons (by decide) (by decide) h (by decide) (by simp))))))))) mixedP 200 (qs := []) (by simp ) fun _ => ⟨by kernel_rfl, by kernel_rfl, by kernel_rfl⟩
theorem as_27 (w : Nat) (h : w < 4294967296) : Gives Try.prog 39 #[.int .i64 27, .int .u32 w] (.agg (asK 27 w (immR 27 w) (condR 27 w)).cells) 3 := by
  have e : condR 27 w = rv 27 99 w := by simp [condR]
  have e2 : immR 27 w = rv 27 105 w := by simp [immR]
  rw [e, e2]; exact as_27a w h
theorem as_28a (w : Nat) (h : w < 4294967296)  : Gives Try.prog 39 #[.int .i64 28, .int .u32 w] (.agg (asK 28 w (rv 28 105 w) (rv 28 99 w)).cells) 3 :=
  gives_of_asked (withBoth_holds (fs := [34, 54]) (cl := [patC 28, rreadC 28 100 w 5, rreadC 28 110 w 5, rreadC 28 109 w 5, rreadC 28 99 w 0, rreadC 28 107 w 0, rreadC 28 105 w 0]) (fn := 39) (ts := []) (rl := []) (mk_cons (pat_28) (rread_cons (by decide) (by decide) h (by decide) (rread_cons (by decide) (by decide) h (by decide) (rread_cons (by decide) (by decide) h (by decide) (rread_cons (by decide) (by decide) h (by decide) (rread_cons (by decide) (by decide) h (by decide) (rread_cons (by decide) (by decide) h (by decide) (by simp))))))))) mixedP 200 (qs := []) (by simp ) fun _ => ⟨by kernel_rfl, by kernel_rfl, by kernel_rfl⟩
theorem as_28 (w : Nat) (h : w < 4294967296) : Gives Try.prog 39 #[.int .i64 28, .int .u32 w] (.agg (asK 28 w (immR 28 w) (condR 28 w)).cells) 3 := by
  have e : condR 28 w = rv 28 99 w := by simp [condR]
  have e2 : immR 28 w = rv 28 105 w := by simp [immR]
  rw [e, e2]; exact as_28a w h
theorem as_29a (w : Nat) (h : w < 4294967296)  : Gives Try.prog 39 #[.int .i64 29, .int .u32 w] (.agg (asK 29 w (rv 29 105 w) (rv 29 99 w)).cells) 3 :=
  gives_of_asked (withBoth_holds (fs := [34, 54]) (cl := [patC 29, rreadC 29 100 w 5, rreadC 29 110 w 5, rreadC 29 109 w 5, rreadC 29 99 w 0, rreadC 29 107 w 0, rreadC 29 105 w 0]) (fn := 39) (ts := []) (rl := []) (mk_cons (pat_29) (rread_cons (by decide) (by decide) h (by decide) (rread_cons (by decide) (by decide) h (by decide) (rread_cons (by decide) (by decide) h (by decide) (rread_cons (by decide) (by decide) h (by decide) (rread_cons (by decide) (by decide) h (by decide) (rread_cons (by decide) (by decide) h (by decide) (by simp))))))))) mixedP 200 (qs := []) (by simp ) fun _ => ⟨by kernel_rfl, by kernel_rfl, by kernel_rfl⟩
theorem as_29 (w : Nat) (h : w < 4294967296) : Gives Try.prog 39 #[.int .i64 29, .int .u32 w] (.agg (asK 29 w (immR 29 w) (condR 29 w)).cells) 3 := by
  have e : condR 29 w = rv 29 99 w := by simp [condR]
  have e2 : immR 29 w = rv 29 105 w := by simp [immR]
  rw [e, e2]; exact as_29a w h
theorem as_30a (w : Nat) (h : w < 4294967296)  : Gives Try.prog 39 #[.int .i64 30, .int .u32 w] (.agg (asK 30 w (rv 30 105 w) (rv 30 99 w)).cells) 3 :=
  gives_of_asked (withBoth_holds (fs := [34, 54]) (cl := [patC 30, rreadC 30 100 w 0, rreadC 30 110 w 0, rreadC 30 109 w 0, rreadC 30 99 w 0, rreadC 30 107 w 0, rreadC 30 105 w 0]) (fn := 39) (ts := []) (rl := []) (mk_cons (pat_30) (rread_cons (by decide) (by decide) h (by decide) (rread_cons (by decide) (by decide) h (by decide) (rread_cons (by decide) (by decide) h (by decide) (rread_cons (by decide) (by decide) h (by decide) (rread_cons (by decide) (by decide) h (by decide) (rread_cons (by decide) (by decide) h (by decide) (by simp))))))))) mixedP 200 (qs := []) (by simp ) fun _ => ⟨by kernel_rfl, by kernel_rfl, by kernel_rfl⟩
theorem as_30 (w : Nat) (h : w < 4294967296) : Gives Try.prog 39 #[.int .i64 30, .int .u32 w] (.agg (asK 30 w (immR 30 w) (condR 30 w)).cells) 3 := by
  have e : condR 30 w = rv 30 99 w := by simp [condR]
  have e2 : immR 30 w = rv 30 105 w := by simp [immR]
  rw [e, e2]; exact as_30a w h
theorem as_31a (w : Nat) (h : w < 4294967296)  : Gives Try.prog 39 #[.int .i64 31, .int .u32 w] (.agg (asK 31 w (rv 31 105 w) (rv 31 99 w)).cells) 3 :=
  gives_of_asked (withBoth_holds (fs := [34, 54]) (cl := [patC 31, rreadC 31 100 w 0, rreadC 31 110 w 0, rreadC 31 109 w 0, rreadC 31 99 w 0, rreadC 31 107 w 0, rreadC 31 105 w 0]) (fn := 39) (ts := []) (rl := []) (mk_cons (pat_31) (rread_cons (by decide) (by decide) h (by decide) (rread_cons (by decide) (by decide) h (by decide) (rread_cons (by decide) (by decide) h (by decide) (rread_cons (by decide) (by decide) h (by decide) (rread_cons (by decide) (by decide) h (by decide) (rread_cons (by decide) (by decide) h (by decide) (by simp))))))))) mixedP 200 (qs := []) (by simp ) fun _ => ⟨by kernel_rfl, by kernel_rfl, by kernel_rfl⟩
theorem as_31 (w : Nat) (h : w < 4294967296) : Gives Try.prog 39 #[.int .i64 31, .int .u32 w] (.agg (asK 31 w (immR 31 w) (condR 31 w)).cells) 3 := by
  have e : condR 31 w = rv 31 99 w := by simp [condR]
  have e2 : immR 31 w = rv 31 105 w := by simp [immR]
  rw [e, e2]; exact as_31a w h
theorem as_32a (w : Nat) (h : w < 4294967296)  : Gives Try.prog 39 #[.int .i64 32, .int .u32 w] (.agg (asK 32 w (rv 32 105 w) (rv 32 99 w)).cells) 3 :=
  gives_of_asked (withBoth_holds (fs := [34, 54]) (cl := [patC 32, rreadC 32 100 w 0, rreadC 32 110 w 0, rreadC 32 109 w 0, rreadC 32 99 w 0, rreadC 32 107 w 0, rreadC 32 105 w 0]) (fn := 39) (ts := []) (rl := []) (mk_cons (pat_32) (rread_cons (by decide) (by decide) h (by decide) (rread_cons (by decide) (by decide) h (by decide) (rread_cons (by decide) (by decide) h (by decide) (rread_cons (by decide) (by decide) h (by decide) (rread_cons (by decide) (by decide) h (by decide) (rread_cons (by decide) (by decide) h (by decide) (by simp))))))))) mixedP 200 (qs := []) (by simp ) fun _ => ⟨by kernel_rfl, by kernel_rfl, by kernel_rfl⟩
theorem as_32 (w : Nat) (h : w < 4294967296) : Gives Try.prog 39 #[.int .i64 32, .int .u32 w] (.agg (asK 32 w (immR 32 w) (condR 32 w)).cells) 3 := by
  have e : condR 32 w = rv 32 99 w := by simp [condR]
  have e2 : immR 32 w = rv 32 105 w := by simp [immR]
  rw [e, e2]; exact as_32a w h
theorem as_33a (w : Nat) (h : w < 4294967296)  : Gives Try.prog 39 #[.int .i64 33, .int .u32 w] (.agg (asK 33 w (rv 33 105 w) (rv 33 99 w)).cells) 3 :=
  gives_of_asked (withBoth_holds (fs := [34, 54]) (cl := [patC 33, rreadC 33 100 w 0, rreadC 33 110 w 0, rreadC 33 109 w 0, rreadC 33 99 w 0, rreadC 33 107 w 0, rreadC 33 105 w 16]) (fn := 39) (ts := []) (rl := []) (mk_cons (pat_33) (rread_cons (by decide) (by decide) h (by decide) (rread_cons (by decide) (by decide) h (by decide) (rread_cons (by decide) (by decide) h (by decide) (rread_cons (by decide) (by decide) h (by decide) (rread_cons (by decide) (by decide) h (by decide) (rread_cons (by decide) (by decide) h (by decide) (by simp))))))))) mixedP 200 (qs := []) (by simp ) fun _ => ⟨by kernel_rfl, by kernel_rfl, by kernel_rfl⟩
theorem as_33 (w : Nat) (h : w < 4294967296) : Gives Try.prog 39 #[.int .i64 33, .int .u32 w] (.agg (asK 33 w (immR 33 w) (condR 33 w)).cells) 3 := by
  have e : condR 33 w = rv 33 99 w := by simp [condR]
  have e2 : immR 33 w = rv 33 105 w := by simp [immR]
  rw [e, e2]; exact as_33a w h
theorem as_34a (w : Nat) (h : w < 4294967296)  : Gives Try.prog 39 #[.int .i64 34, .int .u32 w] (.agg (asK 34 w (rv 34 105 w) (rv 34 99 w)).cells) 3 :=
  gives_of_asked (withBoth_holds (fs := [34, 54]) (cl := [patC 34, rreadC 34 100 w 0, rreadC 34 110 w 0, rreadC 34 109 w 0, rreadC 34 99 w 0, rreadC 34 107 w 0, rreadC 34 105 w 0]) (fn := 39) (ts := []) (rl := []) (mk_cons (pat_34) (rread_cons (by decide) (by decide) h (by decide) (rread_cons (by decide) (by decide) h (by decide) (rread_cons (by decide) (by decide) h (by decide) (rread_cons (by decide) (by decide) h (by decide) (rread_cons (by decide) (by decide) h (by decide) (rread_cons (by decide) (by decide) h (by decide) (by simp))))))))) mixedP 200 (qs := []) (by simp ) fun _ => ⟨by kernel_rfl, by kernel_rfl, by kernel_rfl⟩
theorem as_34 (w : Nat) (h : w < 4294967296) : Gives Try.prog 39 #[.int .i64 34, .int .u32 w] (.agg (asK 34 w (immR 34 w) (condR 34 w)).cells) 3 := by
  have e : condR 34 w = rv 34 99 w := by simp [condR]
  have e2 : immR 34 w = rv 34 105 w := by simp [immR]
  rw [e, e2]; exact as_34a w h
theorem as_35a (w : Nat) (h : w < 4294967296)  : Gives Try.prog 39 #[.int .i64 35, .int .u32 w] (.agg (asK 35 w (rv 35 105 w) (rv 35 99 w)).cells) 3 :=
  gives_of_asked (withBoth_holds (fs := [34, 54]) (cl := [patC 35, rreadC 35 100 w 5, rreadC 35 110 w 5, rreadC 35 109 w 0, rreadC 35 99 w 0, rreadC 35 107 w 0, rreadC 35 105 w 0]) (fn := 39) (ts := []) (rl := []) (mk_cons (pat_35) (rread_cons (by decide) (by decide) h (by decide) (rread_cons (by decide) (by decide) h (by decide) (rread_cons (by decide) (by decide) h (by decide) (rread_cons (by decide) (by decide) h (by decide) (rread_cons (by decide) (by decide) h (by decide) (rread_cons (by decide) (by decide) h (by decide) (by simp))))))))) mixedP 200 (qs := []) (by simp ) fun _ => ⟨by kernel_rfl, by kernel_rfl, by kernel_rfl⟩
theorem as_35 (w : Nat) (h : w < 4294967296) : Gives Try.prog 39 #[.int .i64 35, .int .u32 w] (.agg (asK 35 w (immR 35 w) (condR 35 w)).cells) 3 := by
  have e : condR 35 w = rv 35 99 w := by simp [condR]
  have e2 : immR 35 w = rv 35 105 w := by simp [immR]
  rw [e, e2]; exact as_35a w h
theorem as_36a (w : Nat) (h : w < 4294967296)  : Gives Try.prog 39 #[.int .i64 36, .int .u32 w] (.agg (asK 36 w (rv 36 105 w) (rv 36 99 w)).cells) 3 :=
  gives_of_asked (withBoth_holds (fs := [34, 54]) (cl := [patC 36, rreadC 36 100 w 5, rreadC 36 110 w 5, rreadC 36 109 w 5, rreadC 36 99 w 0, rreadC 36 107 w 0, rreadC 36 105 w 0]) (fn := 39) (ts := []) (rl := []) (mk_cons (pat_36) (rread_cons (by decide) (by decide) h (by decide) (rread_cons (by decide) (by decide) h (by decide) (rread_cons (by decide) (by decide) h (by decide) (rread_cons (by decide) (by decide) h (by decide) (rread_cons (by decide) (by decide) h (by decide) (rread_cons (by decide) (by decide) h (by decide) (by simp))))))))) mixedP 200 (qs := []) (by simp ) fun _ => ⟨by kernel_rfl, by kernel_rfl, by kernel_rfl⟩
theorem as_36 (w : Nat) (h : w < 4294967296) : Gives Try.prog 39 #[.int .i64 36, .int .u32 w] (.agg (asK 36 w (immR 36 w) (condR 36 w)).cells) 3 := by
  have e : condR 36 w = rv 36 99 w := by simp [condR]
  have e2 : immR 36 w = rv 36 105 w := by simp [immR]
  rw [e, e2]; exact as_36a w h
theorem as_37a (w : Nat) (h : w < 4294967296)  : Gives Try.prog 39 #[.int .i64 37, .int .u32 w] (.agg (asK 37 w (rv 37 105 w) (rv 37 99 w)).cells) 3 :=
  gives_of_asked (withBoth_holds (fs := [34, 54]) (cl := [patC 37, rreadC 37 100 w 5, rreadC 37 110 w 5, rreadC 37 109 w 5, rreadC 37 99 w 0, rreadC 37 107 w 0, rreadC 37 105 w 0]) (fn := 39) (ts := []) (rl := []) (mk_cons (pat_37) (rread_cons (by decide) (by decide) h (by decide) (rread_cons (by decide) (by decide) h (by decide) (rread_cons (by decide) (by decide) h (by decide) (rread_cons (by decide) (by decide) h (by decide) (rread_cons (by decide) (by decide) h (by decide) (rread_cons (by decide) (by decide) h (by decide) (by simp))))))))) mixedP 200 (qs := []) (by simp ) fun _ => ⟨by kernel_rfl, by kernel_rfl, by kernel_rfl⟩
theorem as_37 (w : Nat) (h : w < 4294967296) : Gives Try.prog 39 #[.int .i64 37, .int .u32 w] (.agg (asK 37 w (immR 37 w) (condR 37 w)).cells) 3 := by
  have e : condR 37 w = rv 37 99 w := by simp [condR]
  have e2 : immR 37 w = rv 37 105 w := by simp [immR]
  rw [e, e2]; exact as_37a w h
theorem as_38a (w : Nat) (h : w < 4294967296)  : Gives Try.prog 39 #[.int .i64 38, .int .u32 w] (.agg (asK 38 w (rv 38 105 w) (rv 38 99 w)).cells) 3 :=
  gives_of_asked (withBoth_holds (fs := [34, 54]) (cl := [patC 38, rreadC 38 100 w 5, rreadC 38 110 w 5, rreadC 38 109 w 5, rreadC 38 99 w 0, rreadC 38 107 w 0, rreadC 38 105 w 0]) (fn := 39) (ts := []) (rl := []) (mk_cons (pat_38) (rread_cons (by decide) (by decide) h (by decide) (rread_cons (by decide) (by decide) h (by decide) (rread_cons (by decide) (by decide) h (by decide) (rread_cons (by decide) (by decide) h (by decide) (rread_cons (by decide) (by decide) h (by decide) (rread_cons (by decide) (by decide) h (by decide) (by simp))))))))) mixedP 200 (qs := []) (by simp ) fun _ => ⟨by kernel_rfl, by kernel_rfl, by kernel_rfl⟩
theorem as_38 (w : Nat) (h : w < 4294967296) : Gives Try.prog 39 #[.int .i64 38, .int .u32 w] (.agg (asK 38 w (immR 38 w) (condR 38 w)).cells) 3 := by
  have e : condR 38 w = rv 38 99 w := by simp [condR]
  have e2 : immR 38 w = rv 38 105 w := by simp [immR]
  rw [e, e2]; exact as_38a w h
theorem as_39a (w : Nat) (h : w < 4294967296)  : Gives Try.prog 39 #[.int .i64 39, .int .u32 w] (.agg (asK 39 w (rv 39 105 w) (rv 39 99 w)).cells) 3 :=
  gives_of_asked (withBoth_holds (fs := [34, 54]) (cl := [patC 39, rreadC 39 100 w 5, rreadC 39 110 w 5, rreadC 39 109 w 5, rreadC 39 99 w 0, rreadC 39 107 w 0, rreadC 39 105 w 0]) (fn := 39) (ts := []) (rl := []) (mk_cons (pat_39) (rread_cons (by decide) (by decide) h (by decide) (rread_cons (by decide) (by decide) h (by decide) (rread_cons (by decide) (by decide) h (by decide) (rread_cons (by decide) (by decide) h (by decide) (rread_cons (by decide) (by decide) h (by decide) (rread_cons (by decide) (by decide) h (by decide) (by simp))))))))) mixedP 200 (qs := []) (by simp ) fun _ => ⟨by kernel_rfl, by kernel_rfl, by kernel_rfl⟩
theorem as_39 (w : Nat) (h : w < 4294967296) : Gives Try.prog 39 #[.int .i64 39, .int .u32 w] (.agg (asK 39 w (immR 39 w) (condR 39 w)).cells) 3 := by
  have e : condR 39 w = rv 39 99 w := by simp [condR]
  have e2 : immR 39 w = rv 39 105 w := by simp [immR]
  rw [e, e2]; exact as_39a w h
theorem as_40a (w : Nat) (h : w < 4294967296)  : Gives Try.prog 39 #[.int .i64 40, .int .u32 w] (.agg (asK 40 w (rv 40 105 w) (rv 40 99 w)).cells) 3 :=
  gives_of_asked (withBoth_holds (fs := [34, 54]) (cl := [patC 40, rreadC 40 100 w 5, rreadC 40 110 w 5, rreadC 40 109 w 5, rreadC 40 99 w 0, rreadC 40 107 w 0, rreadC 40 105 w 0]) (fn := 39) (ts := []) (rl := []) (mk_cons (pat_40) (rread_cons (by decide) (by decide) h (by decide) (rread_cons (by decide) (by decide) h (by decide) (rread_cons (by decide) (by decide) h (by decide) (rread_cons (by decide) (by decide) h (by decide) (rread_cons (by decide) (by decide) h (by decide) (rread_cons (by decide) (by decide) h (by decide) (by simp))))))))) mixedP 200 (qs := []) (by simp ) fun _ => ⟨by kernel_rfl, by kernel_rfl, by kernel_rfl⟩
theorem as_40 (w : Nat) (h : w < 4294967296) : Gives Try.prog 39 #[.int .i64 40, .int .u32 w] (.agg (asK 40 w (immR 40 w) (condR 40 w)).cells) 3 := by
  have e : condR 40 w = rv 40 99 w := by simp [condR]
  have e2 : immR 40 w = rv 40 105 w := by simp [immR]
  rw [e, e2]; exact as_40a w h
theorem as_41a (w : Nat) (h : w < 4294967296)  : Gives Try.prog 39 #[.int .i64 41, .int .u32 w] (.agg (asK 41 w (rv 41 105 w) (rv 41 99 w)).cells) 3 :=
  gives_of_asked (withBoth_holds (fs := [34, 54]) (cl := [patC 41, rreadC 41 100 w 5, rreadC 41 110 w 5, rreadC 41 109 w 5, rreadC 41 99 w 0, rreadC 41 107 w 0, rreadC 41 105 w 0]) (fn := 39) (ts := []) (rl := []) (mk_cons (pat_41) (rread_cons (by decide) (by decide) h (by decide) (rread_cons (by decide) (by decide) h (by decide) (rread_cons (by decide) (by decide) h (by decide) (rread_cons (by decide) (by decide) h (by decide) (rread_cons (by decide) (by decide) h (by decide) (rread_cons (by decide) (by decide) h (by decide) (by simp))))))))) mixedP 200 (qs := []) (by simp ) fun _ => ⟨by kernel_rfl, by kernel_rfl, by kernel_rfl⟩
theorem as_41 (w : Nat) (h : w < 4294967296) : Gives Try.prog 39 #[.int .i64 41, .int .u32 w] (.agg (asK 41 w (immR 41 w) (condR 41 w)).cells) 3 := by
  have e : condR 41 w = rv 41 99 w := by simp [condR]
  have e2 : immR 41 w = rv 41 105 w := by simp [immR]
  rw [e, e2]; exact as_41a w h
theorem as_42a (w : Nat) (h : w < 4294967296)  : Gives Try.prog 39 #[.int .i64 42, .int .u32 w] (.agg (asK 42 w (rv 42 105 w) (rv 42 99 w)).cells) 3 :=
  gives_of_asked (withBoth_holds (fs := [34, 54]) (cl := [patC 42, rreadC 42 100 w 5, rreadC 42 110 w 5, rreadC 42 109 w 5, rreadC 42 99 w 0, rreadC 42 107 w 0, rreadC 42 105 w 0]) (fn := 39) (ts := []) (rl := []) (mk_cons (pat_42) (rread_cons (by decide) (by decide) h (by decide) (rread_cons (by decide) (by decide) h (by decide) (rread_cons (by decide) (by decide) h (by decide) (rread_cons (by decide) (by decide) h (by decide) (rread_cons (by decide) (by decide) h (by decide) (rread_cons (by decide) (by decide) h (by decide) (by simp))))))))) mixedP 200 (qs := []) (by simp ) fun _ => ⟨by kernel_rfl, by kernel_rfl, by kernel_rfl⟩
theorem as_42 (w : Nat) (h : w < 4294967296) : Gives Try.prog 39 #[.int .i64 42, .int .u32 w] (.agg (asK 42 w (immR 42 w) (condR 42 w)).cells) 3 := by
  have e : condR 42 w = rv 42 99 w := by simp [condR]
  have e2 : immR 42 w = rv 42 105 w := by simp [immR]
  rw [e, e2]; exact as_42a w h
theorem as_43a (w : Nat) (h : w < 4294967296)  : Gives Try.prog 39 #[.int .i64 43, .int .u32 w] (.agg (asK 43 w (rv 43 105 w) (rv 43 99 w)).cells) 3 :=
  gives_of_asked (withBoth_holds (fs := [34, 54]) (cl := [patC 43, rreadC 43 100 w 5, rreadC 43 110 w 5, rreadC 43 109 w 5, rreadC 43 99 w 0, rreadC 43 107 w 0, rreadC 43 105 w 0]) (fn := 39) (ts := []) (rl := []) (mk_cons (pat_43) (rread_cons (by decide) (by decide) h (by decide) (rread_cons (by decide) (by decide) h (by decide) (rread_cons (by decide) (by decide) h (by decide) (rread_cons (by decide) (by decide) h (by decide) (rread_cons (by decide) (by decide) h (by decide) (rread_cons (by decide) (by decide) h (by decide) (by simp))))))))) mixedP 200 (qs := []) (by simp ) fun _ => ⟨by kernel_rfl, by kernel_rfl, by kernel_rfl⟩
theorem as_43 (w : Nat) (h : w < 4294967296) : Gives Try.prog 39 #[.int .i64 43, .int .u32 w] (.agg (asK 43 w (immR 43 w) (condR 43 w)).cells) 3 := by
  have e : condR 43 w = rv 43 99 w := by simp [condR]
  have e2 : immR 43 w = rv 43 105 w := by simp [immR]
  rw [e, e2]; exact as_43a w h
theorem as_44a (w : Nat) (h : w < 4294967296)  : Gives Try.prog 39 #[.int .i64 44, .int .u32 w] (.agg (asK 44 w (rv 44 105 w) (rv 44 99 w)).cells) 3 :=
  gives_of_asked (withBoth_holds (fs := [34, 54]) (cl := [patC 44, rreadC 44 100 w 5, rreadC 44 110 w 5, rreadC 44 109 w 5, rreadC 44 99 w 0, rreadC 44 107 w 0, rreadC 44 105 w 0]) (fn := 39) (ts := []) (rl := []) (mk_cons (pat_44) (rread_cons (by decide) (by decide) h (by decide) (rread_cons (by decide) (by decide) h (by decide) (rread_cons (by decide) (by decide) h (by decide) (rread_cons (by decide) (by decide) h (by decide) (rread_cons (by decide) (by decide) h (by decide) (rread_cons (by decide) (by decide) h (by decide) (by simp))))))))) mixedP 200 (qs := []) (by simp ) fun _ => ⟨by kernel_rfl, by kernel_rfl, by kernel_rfl⟩
theorem as_44 (w : Nat) (h : w < 4294967296) : Gives Try.prog 39 #[.int .i64 44, .int .u32 w] (.agg (asK 44 w (immR 44 w) (condR 44 w)).cells) 3 := by
  have e : condR 44 w = rv 44 99 w := by simp [condR]
  have e2 : immR 44 w = rv 44 105 w := by simp [immR]
  rw [e, e2]; exact as_44a w h
theorem as_45a (w : Nat) (h : w < 4294967296)  : Gives Try.prog 39 #[.int .i64 45, .int .u32 w] (.agg (asK 45 w (rv 45 105 w) (rv 45 99 w)).cells) 3 :=
  gives_of_asked (withBoth_holds (fs := [34, 54]) (cl := [patC 45, rreadC 45 100 w 5, rreadC 45 110 w 5, rreadC 45 109 w 5, rreadC 45 99 w 0, rreadC 45 107 w 0, rreadC 45 105 w 0]) (fn := 39) (ts := []) (rl := []) (mk_cons (pat_45) (rread_cons (by decide) (by decide) h (by decide) (rread_cons (by decide) (by decide) h (by decide) (rread_cons (by decide) (by decide) h (by decide) (rread_cons (by decide) (by decide) h (by decide) (rread_cons (by decide) (by decide) h (by decide) (rread_cons (by decide) (by decide) h (by decide) (by simp))))))))) mixedP 200 (qs := []) (by simp ) fun _ => ⟨by kernel_rfl, by kernel_rfl, by kernel_rfl⟩
theorem as_45 (w : Nat) (h : w < 4294967296) : Gives Try.prog 39 #[.int .i64 45, .int .u32 w] (.agg (asK 45 w (immR 45 w) (condR 45 w)).cells) 3 := by
  have e : condR 45 w = rv 45 99 w := by simp [condR]
  have e2 : immR 45 w = rv 45 105 w := by simp [immR]
  rw [e, e2]; exact as_45a w h
theorem as_46a (w : Nat) (h : w < 4294967296)  : Gives Try.prog 39 #[.int .i64 46, .int .u32 w] (.agg (asK 46 w (rv 46 105 w) (rv 46 99 w)).cells) 3 :=
  gives_of_asked (withBoth_holds (fs := [34, 54]) (cl := [patC 46, rreadC 46 100 w 5, rreadC 46 110 w 5, rreadC 46 109 w 5, rreadC 46 99 w 0, rreadC 46 107 w 0, rreadC 46 105 w 0]) (fn := 39) (ts := []) (rl := []) (mk_cons (pat_46) (rread_cons (by decide) (by decide) h (by decide) (rread_cons (by decide) (by decide) h (by decide) (rread_cons (by decide) (by decide) h (by decide) (rread_cons (by decide) (by decide) h (by decide) (rread_cons (by decide) (by decide) h (by decide) (rread_cons (by decide) (by decide) h (by decide) (by simp))))))))) mixedP 200 (qs := []) (by simp ) fun _ => ⟨by kernel_rfl, by kernel_rfl, by kernel_rfl⟩
theorem as_46 (w : Nat) (h : w < 4294967296) : Gives Try.prog 39 #[.int .i64 46, .int .u32 w] (.agg (asK 46 w (immR 46 w) (condR 46 w)).cells) 3 := by
  have e : condR 46 w = rv 46 99 w := by simp [condR]
  have e2 : immR 46 w = rv 46 105 w := by simp [immR]
  rw [e, e2]; exact as_46a w h
theorem as_47a (w : Nat) (h : w < 4294967296)  : Gives Try.prog 39 #[.int .i64 47, .int .u32 w] (.agg (asK 47 w (rv 47 105 w) (rv 47 99 w)).cells) 3 :=
  gives_of_asked (withBoth_holds (fs := [34, 54]) (cl := [patC 47, rreadC 47 100 w 5, rreadC 47 110 w 5, rreadC 47 109 w 5, rreadC 47 99 w 0, rreadC 47 107 w 0, rreadC 47 105 w 0]) (fn := 39) (ts := []) (rl := []) (mk_cons (pat_47) (rread_cons (by decide) (by decide) h (by decide) (rread_cons (by decide) (by decide) h (by decide) (rread_cons (by decide) (by decide) h (by decide) (rread_cons (by decide) (by decide) h (by decide) (rread_cons (by decide) (by decide) h (by decide) (rread_cons (by decide) (by decide) h (by decide) (by simp))))))))) mixedP 200 (qs := []) (by simp ) fun _ => ⟨by kernel_rfl, by kernel_rfl, by kernel_rfl⟩
theorem as_47 (w : Nat) (h : w < 4294967296) : Gives Try.prog 39 #[.int .i64 47, .int .u32 w] (.agg (asK 47 w (immR 47 w) (condR 47 w)).cells) 3 := by
  have e : condR 47 w = rv 47 99 w := by simp [condR]
  have e2 : immR 47 w = rv 47 105 w := by simp [immR]
  rw [e, e2]; exact as_47a w h

theorem as_gives (w : Nat) (h : w < 4294967296) : ∀ k : Nat, 1 ≤ k → k < 48 → Gives Try.prog 39 #[.int .i64 (k : Nat), .int .u32 w] (.agg (asK k w (immR k w) (condR k w)).cells) 3
  | 0, h1, _ => absurd h1 (by decide)
  | 1, _, _ => as_1 w h
  | 2, _, _ => as_2 w h
  | 3, _, _ => as_3 w h
  | 4, _, _ => as_4 w h
  | 5, _, _ => as_5 w h
  | 6, _, _ => as_6 w h
  | 7, _, _ => as_7 w h
  | 8, _, _ => as_8 w h
  | 9, _, _ => as_9 w h
  | 10, _, _ => as_10 w h
  | 11, _, _ => as_11 w h
  | 12, _, _ => as_12 w h
  | 13, _, _ => as_13 w h
  | 14, _, _ => as_14 w h
  | 15, _, _ => as_15 w h
  | 16, _, _ => as_16 w h
  | 17, _, _ => as_17 w h
  | 18, _, _ => as_18 w h
  | 19, _, _ => as_19 w h
  | 20, _, _ => as_20 w h
  | 21, _, _ => as_21 w h
  | 22, _, _ => as_22 w h
  | 23, _, _ => as_23 w h
  | 24, _, _ => as_24 w h
  | 25, _, _ => as_25 w h
  | 26, _, _ => as_26 w h
  | 27, _, _ => as_27 w h
  | 28, _, _ => as_28 w h
  | 29, _, _ => as_29 w h
  | 30, _, _ => as_30 w h
  | 31, _, _ => as_31 w h
  | 32, _, _ => as_32 w h
  | 33, _, _ => as_33 w h
  | 34, _, _ => as_34 w h
  | 35, _, _ => as_35 w h
  | 36, _, _ => as_36 w h
  | 37, _, _ => as_37 w h
  | 38, _, _ => as_38 w h
  | 39, _, _ => as_39 w h
  | 40, _, _ => as_40 w h
  | 41, _, _ => as_41 w h
  | 42, _, _ => as_42 w h
  | 43, _, _ => as_43 w h
  | 44, _, _ => as_44 w h
  | 45, _, _ => as_45 w h
  | 46, _, _ => as_46 w h
  | 47, _, _ => as_47 w h
  | k + 48, _, h2 => absurd h2 (by omega)

end Go.Proofs.Ytjcebkkmpgafkaa
