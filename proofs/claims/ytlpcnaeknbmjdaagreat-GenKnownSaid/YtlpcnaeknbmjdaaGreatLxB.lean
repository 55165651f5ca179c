/-
  The reference's lexer: does a text begin so at a byte.
-/
import Derived.Test.YtlpcnaeknbmjdaaGreatSyI
import Derived.Test.YtlpcnaeknbmjdaaGreatMix
namespace Go.Proofs.YtlpcnaeknbmjdaaGreat
set_option linter.unusedVariables false
set_option linter.unusedSimpArgs false
open Go Go.RowKit
open Sy (Let Blk)

abbrev fBegins : FuncId := 76
noncomputable def bodyB : Code := Sy.loopBody Tryz.f76 0

def bcells (l : List Nat) : List Value := l.map fun (b : Nat) => Value.int .u8 (Int.ofNat b)

/-- Do these bytes begin so? -/
noncomputable def begL : List Nat → List UInt8 → Bool := fun l t => @List.rec UInt8 (fun _ => List Nat → Bool) (fun _ => true) (fun x _ ih l => @List.rec Nat (fun _ => Bool) false (fun y r _ => @Bool.rec (fun _ => Bool) false (ih r) (Nat.beq x.toNat y)) l) t l
noncomputable def begF (bs : List Nat) (at_ : Nat) (s : ByteArray) : Bool := begL (bs.drop at_) s.data.toList

def slB (g n cap at_ : Nat) (s : ByteArray) (k : Nat) : List (Nat × Value) := [(0, .slice (some ⟨g, 0, none⟩) n cap), (1, .int .i64 (Int.ofNat at_)), (2, .string s), (6, .bool false), (7, .int .i64 k)]
def memB (g : Nat) (xs : List Value) : List Blk := [⟨g, .seg 0 xs, false⟩]
def okB (n at_ : Nat) (s : ByteArray) (bs : List Nat) : Prop := n = bs.length ∧ at_ ≤ n ∧ n < 1000000000000 ∧ s.size < 1000000000000

noncomputable def begC (g n cap at_ : Nat) (s : ByteArray) (bs : List Nat) : Sy.CallC :=
  ⟨fBegins, #[.slice (some ⟨g, 0, none⟩) n cap, .int .i64 (Int.ofNat at_), .string s], okB n at_ s bs, ⟨[(g, .seg 0 (bcells bs))], [], 0⟩, [Sy.plainO (.bool (begF bs at_ s))]⟩

noncomputable def loopB (g n cap at_ : Nat) (s : ByteArray) (bs : List Nat) : Sy.LoopC :=
  ⟨.loop bodyB, 31, slB g n cap at_ s 0, okB n at_ s bs ∧ at_ + s.size ≤ n, ⟨[(g, .seg 0 (bcells bs))], [], 0⟩,
    [(⟨fun _ => begF bs at_ s = true, fun _ => []⟩, .exit 0, fun _ => []), (⟨fun _ => begF bs at_ s = false, fun _ => []⟩, .ret, fun _ => [(6, .bool false)])]⟩
noncomputable def ctxB (g n cap at_ : Nat) (s : ByteArray) (bs : List Nat) : Sy.Ctx := Sy.mkS [] [(fBegins, fun _ _ => loopB g n cap at_ s bs)] []

def beg_o : Sy.O := (Sy.O.fork Sy.O.nil (Sy.O.steps [0, 0] (Sy.O.fork Sy.O.nil Sy.O.nil)))
noncomputable def beg_R (g : Nat) (n : Nat) (cap : Nat) (at_ : Nat) (s : ByteArray) (bs : List Nat) (ns : Nat → Sy.Let) : Sy.Res (Value × List Blk) := Sy.Res.br (Ex.ltQ (Ex.wrapQ IntKind.i64 (Ex.subQ' (Int.ofNat n) (Int.ofNat at_))) (Int.ofNat (ByteArray.size s)))
 (Sy.Res.leaf (Value.bool false, []))
 (Sy.Res.need (okB n at_ s bs ∧ at_ + ByteArray.size s ≤ n)
 (Sy.Res.both (Sy.Res.hyp (begF bs at_ s = true) (Sy.Res.leaf (Value.bool true, [])))
 (Sy.Res.hyp (begF bs at_ s = false) (Sy.Res.leaf (Value.bool false, [])))))
theorem beg_run (g n cap at_ : Nat) (s : ByteArray) (bs : List Nat) : Sy.Ran (Sy.inT Tryz.prog (ctxB g n cap at_ s bs) 50 fBegins (begC g n cap at_ s bs).args (Sy.blks (begC g n cap at_ s bs).mem) Sy.noB) beg_o (beg_R g n cap at_ s bs) := ⟨fun ns => by kernel_rfl, fun ns => by kernel_rfl⟩
def begB_o : Sy.O := (Sy.O.fork (Sy.O.steps [1, 0, 0, 1, 2, 3, 4, 1, 5, 0, 1, 1, 1, 6, 7, 8, 1, 9, 1] (Sy.O.fork Sy.O.nil Sy.O.nil)) Sy.O.nil)
noncomputable def begB_R (g : Nat) (n : Nat) (cap : Nat) (at_ : Nat) (k : Nat) (s : ByteArray) (xs : List Value) (rest : List Value) (ns : Nat → Sy.Let) : Sy.Res (Exit × Nat × List Value × List Blk) := Sy.Res.br (Ex.ltQ (↑k : Int) (Int.ofNat (ByteArray.size s)))
 (Sy.Res.need
 ((0 : Int) ≤ Ex.wrapQ IntKind.i64 (Ex.addQ (Int.ofNat at_) (↑k : Int)) ∧
 Ex.wrapQ IntKind.i64 (Ex.addQ (Int.ofNat at_) (↑k : Int)) < (↑n : Int))
 (Sy.Res.need
 (∃ (i : Int),
 Sy.Cont.at (Sy.Cont.seg (0 : Nat) xs)
 ((0 : Nat) + Int.toNat (Ex.wrapQ IntKind.i64 (Ex.addQ (Int.ofNat at_) (↑k : Int))) * (1 : Nat)) =
 some (Value.int IntKind.u8 i))
 (Sy.Res.hyp
 (Sy.Cont.at (Sy.Cont.seg (0 : Nat) xs)
 ((0 : Nat) + Int.toNat (Ex.wrapQ IntKind.i64 (Ex.addQ (Int.ofNat at_) (↑k : Int))) * (1 : Nat)) =
 some (Value.int IntKind.u8 (Let.i (ns (0 : Nat)))))
 (Sy.Res.need ((0 : Int) ≤ (↑k : Int) ∧ (↑k : Int) < (↑(ByteArray.size s) : Int))
 (Sy.Res.br (!Ex.eqQ (Let.i (ns (0 : Nat))) (Sy.byteQ s (Int.toNat (↑k : Int))))
 (Sy.Res.leaf
 (Exit.ret, (31 : Nat),
 [Value.slice (some (Addr.mk g (0 : Nat) none)) n cap, Value.int IntKind.i64 (Int.ofNat at_),
 Value.string s, Value.bool false, Value.int IntKind.i64 (↑k : Int)],
 memB g xs))
 (Sy.Res.leaf
 (Exit.normal, (31 : Nat),
 [Value.slice (some (Addr.mk g (0 : Nat) none)) n cap, Value.int IntKind.i64 (Int.ofNat at_),
 Value.string s, Value.bool false,
 Value.int IntKind.i64 (Ex.wrapQ IntKind.i64 (Ex.addQ (↑k : Int) (1 : Int)))],
 memB g xs)))))))
 (Sy.Res.leaf
 (Exit.exit (0 : Nat), (31 : Nat),
 [Value.slice (some (Addr.mk g (0 : Nat) none)) n cap, Value.int IntKind.i64 (Int.ofNat at_), Value.string s,
 Value.bool false, Value.int IntKind.i64 (↑k : Int)],
 memB g xs))
theorem begB_run (g n cap at_ k : Nat) (s : ByteArray) (xs : List Value) (rest : List Value) : Sy.Ran (Sy.pieceT Tryz.prog Sy.S0 50 fBegins bodyB 31 (slB g n cap at_ s k) rest (memB g xs) [0, 1, 2, 6, 7]) begB_o (begB_R g n cap at_ k s xs rest) := ⟨fun ns => by kernel_rfl, fun ns => by kernel_rfl⟩

theorem begL_iff : ∀ (t : List UInt8) (l : List Nat), begL l t = true ↔ ∀ j (h : j < t.length), l[j]? = some t[j].toNat
  | [], l => by simp [begL]
  | x :: t, [] => by
    show (false = true) ↔ _
    constructor
    · intro h; cases h
    · intro h; have := h 0 (by simp); simp at this
  | x :: t, y :: l => by
    show (@Bool.rec (fun _ => Bool) false (begL l t) (Nat.beq x.toNat y) = true) ↔ _
    have ih := begL_iff t l
    by_cases hxy : x.toNat = y
    · have : Nat.beq x.toNat y = true := by simp [hxy]
      rw [this]
      show begL l t = true ↔ _
      rw [ih]
      constructor
      · intro h j hj
        cases j with
        | zero => simp [hxy]
        | succ j => simpa using h j (by simpa using hj)
      · intro h j hj
        have := h (j + 1) (by simpa using hj)
        simp only [List.getElem?_cons_succ, List.getElem_cons_succ] at this
        exact this
    · have : Nat.beq x.toNat y = false := by
        cases hb : Nat.beq x.toNat y with
        | false => rfl
        | true => exact (hxy (Nat.eq_of_beq_eq_true hb)).elim
      rw [this]
      show (false = true) ↔ _
      constructor
      · intro h; cases h
      · intro h
        have := h 0 (by simp)
        simp at this
        exact (hxy this.symm).elim

theorem begF_iff (bs : List Nat) (at_ : Nat) (s : ByteArray) : begF bs at_ s = true ↔ ∀ j, j < s.size → ∃ b, bs[at_ + j]? = some b ∧ (b : Int) = Sy.byteQ s j := by
  unfold begF
  rw [begL_iff]
  have hl : s.data.toList.length = s.size := Array.length_toList
  constructor
  · intro h j hj
    have := h j (by rw [hl]; exact hj)
    rw [List.getElem?_drop] at this
    refine ⟨_, this, ?_⟩
    unfold Sy.byteQ
    rw [Sy.nth_eq, List.getElem?_eq_getElem (by rw [hl]; exact hj)]
    rfl
  · intro h j hj
    obtain ⟨b, h1, h2⟩ := h j (by rw [← hl]; exact hj)
    rw [List.getElem?_drop, h1]
    unfold Sy.byteQ at h2
    rw [Sy.nth_eq, List.getElem?_eq_getElem hj] at h2
    simp only at h2
    have h3 : (b : Int) = Int.ofNat (s.data.toList[j].toNat) := h2
    have : b = s.data.toList[j].toNat := by
      have := Int.ofNat.inj h3
      exact this
    rw [this]

theorem bcells_at {bs : List Nat} {i : Nat} {b : Nat} (h : bs[i]? = some b) : (Sy.Cont.seg 0 (bcells bs)).at (0 + i * 1) = some (.int .u8 (Int.ofNat b)) := by
  simp only [Sy.Cont.at]
  rw [if_pos (by omega)]
  simp [bcells, h]

theorem w_add {a b : Nat} (h : a + b < 2000000000000) : Ex.wrapQ .i64 (Ex.addQ (Int.ofNat a) (b : Int)) = ((a + b : Nat) : Int) := by
  rw [Ex.wrapQ_eq, Ex.addQ_eq]
  simp [IntKind.wrap, IntKind.signed, IntKind.bits]
  omega

theorem loopB_met (g n cap at_ : Nat) (s : ByteArray) (bs : List Nat) : Sy.MeetsL Tryz.prog (loopB g n cap at_ s bs) := by
  refine Sy.loop_of (n := 50) (fn := fBegins) Sy.S0_holds mixed (body := bodyB) rfl [0, 1, 2, 6, 7] (fun k : Nat => slB g n cap at_ s k) (fun _ => memB g (bcells bs)) (fun k => k ≤ s.size ∧ okB n at_ s bs ∧ at_ + s.size ≤ n ∧ ∀ j, j < k → ∃ b, bs[at_ + j]? = some b ∧ (b : Int) = Sy.byteQ s j) (fun k => s.size - k)
    0 (fun h => ⟨Nat.zero_le _, h.1, h.2, fun j hj => by omega⟩) (fun p hp => hp) [0] (by decide) rfl (o := fun _ => begB_o) (R := fun k xs => begB_R g n cap at_ k s (bcells bs) xs) (fun k xs _ => begB_run g n cap at_ k s (bcells bs) xs) ?_
  rintro - k rest ⟨hk, ⟨hn, ha, hn2, hs2⟩, hle, hinv⟩ ns
  simp only [begB_R, Sy.Res.holds, Sy.q_lt, Sy.b_f]
  refine ⟨fun hlt => ?_, fun hge => ?_⟩
  · have hlt : k < s.size := by simpa using hlt
    have hx : at_ + k < bs.length := by omega
    have hb := List.getElem?_eq_getElem hx
    have hat := bcells_at hb
    rw [w_add (by omega)]
    rw [show Int.toNat ((at_ + k : Nat) : Int) = at_ + k by omega, hat]
    refine ⟨⟨by omega, by omega⟩, ⟨_, rfl⟩, fun h1 => ⟨⟨by omega, by omega⟩, fun hne => ?_, fun heq => ?_⟩⟩
    · refine ⟨rfl, .inr ⟨by simp, _, List.mem_cons_of_mem _ (List.mem_singleton_self _), rfl, [], rfl, ⟨[3], rfl⟩, ⟨[], List.nodup_nil, trivial⟩, ?_⟩⟩
      have h2 : ¬ (Let.i (ns 0) = Sy.byteQ s k) := fun he => by
        have h3 : (!Ex.eqQ (Let.i (ns 0)) (Sy.byteQ s k)) = true := hne
        rw [Ex.eqQ_eq, he] at h3
        simp at h3
      cases hbf : begF bs at_ s with
      | false => rfl
      | true =>
        obtain ⟨b, h3, h4⟩ := (begF_iff _ _ _).1 hbf k hlt
        rw [hb] at h3
        simp only [Option.some.injEq, Value.int.injEq, true_and] at h1 h3
        exact absurd (by rw [← h1, h3]; exact h4) h2
    · refine ⟨rfl, .inl ⟨rfl, k + 1, ⟨by omega, ⟨hn, ha, hn2, hs2⟩, hle, fun j hj => ?_⟩, (by show s.size - (k + 1) < s.size - k; omega), ?_, [0], by decide, rfl⟩⟩
      · rcases Nat.lt_or_ge j k with h | h
        · exact hinv j h
        · have : j = k := by omega
          subst this
          refine ⟨_, hb, ?_⟩
          have h3 : ¬ (!Ex.eqQ (Let.i (ns 0)) (Sy.byteQ s j)) = true := heq
          rw [Ex.eqQ_eq] at h3
          simp only [Option.some.injEq, Value.int.injEq, true_and] at h1
          rw [← h1] at h3
          simpa using h3
      · rw [Sy.inc_q k (by omega)]; rfl
  · refine ⟨rfl, .inr ⟨by simp, _, List.mem_cons_self, rfl, [], rfl, ⟨[], rfl⟩, ⟨[], List.nodup_nil, trivial⟩, ?_⟩⟩
    have : k = s.size := by
      have : ¬ ((k : Int) < Int.ofNat s.size) := hge
      simp at this
      omega
    subst this
    exact (begF_iff _ _ _).2 hinv

theorem ctxB_holds (g n cap at_ : Nat) (s : ByteArray) (bs : List Nat) : (ctxB g n cap at_ s bs).holds Tryz.prog := Sy.mkS_holds (fun _ h => (by cases h)) (fun p hp a L => by
  rcases List.mem_singleton.1 hp with rfl
  exact loopB_met g n cap at_ s bs) (fun _ h => (by cases h))

theorem begC_met (g n cap at_ : Nat) (s : ByteArray) (bs : List Nat) : Sy.Meets Tryz.prog (begC g n cap at_ s bs) := by
  refine Sy.meets_of (ctxB_holds g n cap at_ s bs) mixed (beg_run g n cap at_ s bs) fun hok ns => ?_
  have hok' : okB n at_ s bs := hok
  obtain ⟨hn, ha, hn2, hs2⟩ := hok'
  have hsub : Ex.wrapQ .i64 (Ex.subQ' (Int.ofNat n) (Int.ofNat at_)) = (n : Int) - at_ := by
    rw [Ex.wrapQ_eq, Ex.subQ_eq]
    show IntKind.i64.wrap ((n : Int) - (at_ : Int)) = _
    simp [IntKind.wrap, IntKind.signed, IntKind.bits]
    omega
  simp only [beg_R, Sy.Res.holds, hsub, Sy.q_lt, Sy.b_f]
  refine ⟨fun hlt => Sy.plainO_leaf (List.mem_singleton_self _) rfl ?_, fun hge => ⟨⟨hok, ?_⟩, fun h => Sy.plainO_leaf (List.mem_singleton_self _) rfl ?_, fun h => Sy.plainO_leaf (List.mem_singleton_self _) rfl ?_⟩⟩
  · have : begF bs at_ s = false := by
      cases hbf : begF bs at_ s with
      | false => rfl
      | true =>
        have hlt : (n : Int) - at_ < (s.size : Int) := hlt
        obtain ⟨b, h3, -⟩ := (begF_iff _ _ _).1 hbf (n - at_) (by omega)
        have := (List.getElem?_eq_some_iff.1 h3).1
        omega
    rw [this]
  · have : ¬ ((n : Int) - at_ < (s.size : Int)) := hge
    omega
  · rw [h]
  · rw [Bool.eq_false_iff.2 h]

end Go.Proofs.YtlpcnaeknbmjdaaGreat
