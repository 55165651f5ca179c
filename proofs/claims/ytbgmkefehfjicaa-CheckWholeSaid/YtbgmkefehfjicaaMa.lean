/-
  The reference's lexer: does a text begin so at a byte. And what follows it.
-/
import Derived.Test.YtbgmkefehfjicaaSyI
import Derived.Test.YtbgmkefehfjicaaMix
import Derived.Test.YtbgmkefehfjicaaSyJ
import Derived.Test.YtbgmkefehfjicaaSyL
import Derived.Test.YtbgmkefehfjicaaSh
import Derived.Test.YtbgmkefehfjicaaSyK

/-
  The reference's lexer: does a text begin so at a byte.
-/
namespace Go.Proofs.Ytbgmkefehfjicaa
set_option linter.unusedVariables false
set_option linter.unusedSimpArgs false
open Go Go.RowKit
open Sy (Let Blk)

abbrev fBegins : FuncId := 55
noncomputable def bodyB : Code := Sy.loopBody Try.f55 0

def bcells (l : List Nat) : List Value := l.map fun (b : Nat) => Value.int .u8 (Int.ofNat b)

/-- Do these bytes begin so? -/
noncomputable def begL : List Nat → List UInt8 → Bool := fun l t => @List.rec UInt8 (fun _ => List Nat → Bool) (fun _ => true) (fun x _ ih l => @List.rec Nat (fun _ => Bool) false (fun y r _ => @Bool.rec (fun _ => Bool) false (ih r) (Nat.beq x.toNat y)) l) t l
noncomputable def begF (bs : List Nat) (at_ : Nat) (s : ByteArray) : Bool := begL (bs.drop at_) s.data.toList

def slB (g n cap at_ : Nat) (s : ByteArray) (k : Nat) : List (Nat × Value) := [(0, .slice (some ⟨g, 0, none⟩) n cap), (1, .int .i64 (Int.ofNat at_)), (2, .string s), (6, .bool false), (7, .int .i64 k)]
def memB (g : Nat) (xs : List Value) : List Blk := [⟨g, .seg 0 xs, false⟩]
def okB (n at_ : Nat) (s : ByteArray) (bs : List Nat) : Prop := n = bs.length ∧ at_ ≤ n ∧ n < 1000000000000 ∧ s.size < 1000000000000

noncomputable def begC (g n cap at_ : Nat) (s : ByteArray) (bs : List Nat) : Sy.CallC :=
  ⟨fBegins, #[.slice (some ⟨g, 0, none⟩) n cap, .int .i64 (Int.ofNat at_), .string s], okB n at_ s bs, ⟨[(g, .seg 0 (bcells bs))], [], 0, []⟩, [Sy.plainO (.bool (begF bs at_ s))]⟩

noncomputable def loopB (g n cap at_ : Nat) (s : ByteArray) (bs : List Nat) : Sy.LoopC :=
  ⟨.loop bodyB, 31, slB g n cap at_ s 0, okB n at_ s bs ∧ at_ + s.size ≤ n, ⟨[(g, .seg 0 (bcells bs))], [], 0, []⟩,
    [(⟨fun _ => begF bs at_ s = true, fun _ => [], fun _ => []⟩, .exit 0, fun _ => []), (⟨fun _ => begF bs at_ s = false, fun _ => [], fun _ => []⟩, .ret, fun _ => [(6, .bool false)])]⟩
noncomputable def ctxB (g n cap at_ : Nat) (s : ByteArray) (bs : List Nat) : Sy.Ctx := Sy.mkS [] [(fBegins, fun _ _ => loopB g n cap at_ s bs)] []

def beg_o : Sy.O := (Sy.O.steps [0, 0] (Sy.O.fork Sy.O.nil (Sy.O.steps [0, 0, 0, 0] (Sy.O.fork (Sy.O.steps [0, 0] Sy.O.nil) (Sy.O.steps [0, 0] Sy.O.nil)))))
noncomputable def beg_R (g : Nat) (n : Nat) (cap : Nat) (at_ : Nat) (s : ByteArray) (bs : List Nat) (ns : Nat → Sy.Let) : Sy.Res (Value × List Blk) := .br (Ex.ltQ (Ex.wrapQ .i64 (Ex.subQ' (Int.ofNat n) (Int.ofNat at_))) (Int.ofNat (ByteArray.size s))) (.leaf (Value.bool false, [])) (.need (okB n at_ s bs ∧ at_ + ByteArray.size s ≤ n) (.both (.hyp (begF bs at_ s = true) (.leaf (Value.bool true, []))) (.hyp (begF bs at_ s = false) (.leaf (Value.bool false, [])))))

theorem beg_run (g n cap at_ : Nat) (s : ByteArray) (bs : List Nat) : Sy.Ran (Sy.inT Try.prog (ctxB g n cap at_ s bs) 50 fBegins (begC g n cap at_ s bs).args (Sy.blks (begC g n cap at_ s bs).mem) Sy.noB) beg_o (beg_R g n cap at_ s bs) := ⟨fun ns => by kernel_rfl, fun ns => by kernel_rfl⟩
def begB_o : Sy.O := (Sy.O.steps [0] (Sy.O.fork (Sy.O.steps [1, 0, 0, 0, 1, 2, 3, 4, 0, 1, 5, 0, 0, 1, 1, 1, 6, 7, 8, 1, 9, 1] (Sy.O.fork Sy.O.nil Sy.O.nil)) Sy.O.nil))
noncomputable def begB_R (g : Nat) (n : Nat) (cap : Nat) (at_ : Nat) (k : Nat) (s : ByteArray) (xs : List Value) (rest : List Value) (ns : Nat → Sy.Let) : Sy.Res (Exit × Nat × List Value × List Blk) := .br (Ex.ltQ (↑k : Int) (Int.ofNat (ByteArray.size s))) (.need ((0 : Int) ≤ Ex.wrapQ .i64 (Ex.addQ (Int.ofNat at_) (↑k : Int)) ∧ Ex.wrapQ .i64 (Ex.addQ (Int.ofNat at_) (↑k : Int)) < (↑n : Int)) (.need (∃ (i : Int), Sy.Cont.at (.seg (0 : Nat) xs) ((0 : Nat) + Int.toNat (Ex.wrapQ .i64 (Ex.addQ (Int.ofNat at_) (↑k : Int))) * (1 : Nat)) = some (.int .u8 i)) (.hyp (Sy.Cont.at (.seg (0 : Nat) xs) ((0 : Nat) + Int.toNat (Ex.wrapQ .i64 (Ex.addQ (Int.ofNat at_) (↑k : Int))) * (1 : Nat)) = some (.int .u8 (Let.i (ns 0)))) (.need ((0 : Int) ≤ (↑k : Int) ∧ (↑k : Int) < (↑(ByteArray.size s) : Int)) (.br (!Ex.eqQ (Let.i (ns 0)) (Sy.byteQ s (Int.toNat (↑k : Int)))) (.leaf (Exit.ret, (31 : Nat), [.slice (some (Addr.mk g 0 none)) n cap, .int .i64 (Int.ofNat at_), Value.string s, Value.bool false, .int .i64 (↑k : Int)], memB g xs)) (.leaf (Exit.normal, (31 : Nat), [.slice (some (Addr.mk g 0 none)) n cap, .int .i64 (Int.ofNat at_), Value.string s, Value.bool false, .int .i64 (Ex.wrapQ .i64 (Ex.addQ (↑k :
 Int) (1 : Int)))], memB g xs))))))) (.leaf (Exit.exit (0 : Nat), (31 : Nat), [.slice (some (Addr.mk g 0 none)) n cap, .int .i64 (Int.ofNat at_), Value.string s, Value.bool false, .int .i64 (↑k : Int)], memB g xs))

theorem begB_run (g n cap at_ k : Nat) (s : ByteArray) (xs : List Value) (rest : List Value) : Sy.Ran (Sy.pieceT Try.prog Sy.S0 50 fBegins bodyB 31 (slB g n cap at_ s k) rest (memB g xs) [0, 1, 2, 6, 7]) begB_o (begB_R g n cap at_ k s xs rest) := ⟨fun ns => by kernel_rfl, fun ns => by kernel_rfl⟩

theorem begL_iff : ∀ (t : List UInt8) (l : List Nat), begL l t = true ↔ ∀ j (h : j < t.length), l[j]? = some t[j].toNat
  | [], l => by simp [begL]
  | x :: t, [] => by
    show (false = true) ↔ _
    constructor
    · intro h; cases h
    · intro h; have := h 0 (by simp); simp at this
  | x :: t, y :: l => by
    show (@Bool.rec (fun _ => Bool) false (begL l t) (Nat.beq x.toNat y) = true) ↔ _
    have ih := begL_iff t l
    by_cases hxy : x.toNat = y
    · have : Nat.beq x.toNat y = true := by simp [hxy]
      rw [this]
      show begL l t = true ↔ _
      rw [ih]
      constructor
      · intro h j hj
        cases j with
        | zero => simp [hxy]
        | succ j => simpa using h j (by simpa using hj)
      · intro h j hj
        have := h (j + 1) (by simpa using hj)
        simp only [List.getElem?_cons_succ, List.getElem_cons_succ] at this
        exact this
    · have : Nat.beq x.toNat y = false := by
        cases hb : Nat.beq x.toNat y with
        | false => rfl
        | true => exact (hxy (Nat.eq_of_beq_eq_true hb)).elim
      rw [this]
      show (false = true) ↔ _
      constructor
      · intro h; cases h
      · intro h
        have := h 0 (by simp)
        simp at this
        exact (hxy this.symm).elim

theorem begF_iff (bs : List Nat) (at_ : Nat) (s : ByteArray) : begF bs at_ s = true ↔ ∀ j, j < s.size → ∃ b, bs[at_ + j]? = some b ∧ (b : Int) = Sy.byteQ s j := by
  unfold begF
  rw [begL_iff]
  have hl : s.data.toList.length = s.size := Array.length_toList
  constructor
  · intro h j hj
    have := h j (by rw [hl]; exact hj)
    rw [List.getElem?_drop] at this
    refine ⟨_, this, ?_⟩
    unfold Sy.byteQ
    rw [Sy.nth_eq, List.getElem?_eq_getElem (by rw [hl]; exact hj)]
    rfl
  · intro h j hj
    obtain ⟨b, h1, h2⟩ := h j (by rw [← hl]; exact hj)
    rw [List.getElem?_drop, h1]
    unfold Sy.byteQ at h2
    rw [Sy.nth_eq, List.getElem?_eq_getElem hj] at h2
    simp only at h2
    have h3 : (b : Int) = Int.ofNat (s.data.toList[j].toNat) := h2
    have : b = s.data.toList[j].toNat := by
      have := Int.ofNat.inj h3
      exact this
    rw [this]

theorem bcells_at {bs : List Nat} {i : Nat} {b : Nat} (h : bs[i]? = some b) : (Sy.Cont.seg 0 (bcells bs)).at (0 + i * 1) = some (.int .u8 (Int.ofNat b)) := by
  simp only [Sy.Cont.at]
  rw [if_pos (by omega)]
  simp [bcells, h]

theorem w_add {a b : Nat} (h : a + b < 2000000000000) : Ex.wrapQ .i64 (Ex.addQ (Int.ofNat a) (b : Int)) = ((a + b : Nat) : Int) := by
  rw [Ex.wrapQ_eq, Ex.addQ_eq]
  simp [IntKind.wrap, IntKind.signed, IntKind.bits]
  omega

theorem loopB_met (g n cap at_ : Nat) (s : ByteArray) (bs : List Nat) : Sy.MeetsL Try.prog (loopB g n cap at_ s bs) := by
  refine Sy.loop_of (n := 50) (fn := fBegins) Sy.S0_holds mixed (body := bodyB) rfl [0, 1, 2, 6, 7] (fun k : Nat => slB g n cap at_ s k) (fun _ => memB g (bcells bs)) (fun k => k ≤ s.size ∧ okB n at_ s bs ∧ at_ + s.size ≤ n ∧ ∀ j, j < k → ∃ b, bs[at_ + j]? = some b ∧ (b : Int) = Sy.byteQ s j) (fun k => s.size - k)
    0 (fun h => ⟨Nat.zero_le _, h.1, h.2, fun j hj => by omega⟩) (fun p hp => hp) [0] (by decide) rfl (o := fun _ => begB_o) (R := fun k xs => begB_R g n cap at_ k s (bcells bs) xs) (fun k xs _ => begB_run g n cap at_ k s (bcells bs) xs) ?_
  rintro - k rest ⟨hk, ⟨hn, ha, hn2, hs2⟩, hle, hinv⟩ ns
  simp only [begB_R, Sy.Res.holds, Sy.q_lt, Sy.b_f]
  refine ⟨fun hlt => ?_, fun hge => ?_⟩
  · have hlt : k < s.size := by simpa using hlt
    have hx : at_ + k < bs.length := by omega
    have hb := List.getElem?_eq_getElem hx
    have hat := bcells_at hb
    rw [w_add (by omega)]
    rw [show Int.toNat ((at_ + k : Nat) : Int) = at_ + k by omega, hat]
    refine ⟨⟨by omega, by omega⟩, ⟨_, rfl⟩, fun h1 => ⟨⟨by omega, by omega⟩, fun hne => ?_, fun heq => ?_⟩⟩
    · refine ⟨rfl, .inr ⟨by simp, _, List.mem_cons_of_mem _ (List.mem_singleton_self _), rfl, [], rfl, ⟨[3], rfl⟩, ⟨[], List.nodup_nil, trivial⟩, ?_⟩⟩
      have h2 : ¬ (Let.i (ns 0) = Sy.byteQ s k) := fun he => by
        have h3 : (!Ex.eqQ (Let.i (ns 0)) (Sy.byteQ s k)) = true := hne
        rw [Ex.eqQ_eq, he] at h3
        simp at h3
      cases hbf : begF bs at_ s with
      | false => rfl
      | true =>
        obtain ⟨b, h3, h4⟩ := (begF_iff _ _ _).1 hbf k hlt
        rw [hb] at h3
        simp only [Option.some.injEq, Value.int.injEq, true_and] at h1 h3
        exact absurd (by rw [← h1, h3]; exact h4) h2
    · refine ⟨rfl, .inl ⟨rfl, k + 1, ⟨by omega, ⟨hn, ha, hn2, hs2⟩, hle, fun j hj => ?_⟩, (by show s.size - (k + 1) < s.size - k; omega), ?_, [0], by decide, rfl⟩⟩
      · rcases Nat.lt_or_ge j k with h | h
        · exact hinv j h
        · have : j = k := by omega
          subst this
          refine ⟨_, hb, ?_⟩
          have h3 : ¬ (!Ex.eqQ (Let.i (ns 0)) (Sy.byteQ s j)) = true := heq
          rw [Ex.eqQ_eq] at h3
          simp only [Option.some.injEq, Value.int.injEq, true_and] at h1
          rw [← h1] at h3
          simpa using h3
      · rw [Sy.inc_q k (by omega)]; rfl
  · refine ⟨rfl, .inr ⟨by simp, _, List.mem_cons_self, rfl, [], rfl, ⟨[], rfl⟩, ⟨[], List.nodup_nil, trivial⟩, ?_⟩⟩
    have : k = s.size := by
      have : ¬ ((k : Int) < Int.ofNat s.size) := hge
      simp at this
      omega
    subst this
    exact (begF_iff _ _ _).2 hinv

theorem ctxB_holds (g n cap at_ : Nat) (s : ByteArray) (bs : List Nat) : (ctxB g n cap at_ s bs).holds Try.prog := Sy.mkS_holds (fun _ h => (by cases h)) (fun p hp a L => by
  rcases List.mem_singleton.1 hp with rfl
  exact loopB_met g n cap at_ s bs) (fun _ h => (by cases h))

theorem begC_met (g n cap at_ : Nat) (s : ByteArray) (bs : List Nat) : Sy.Meets Try.prog (begC g n cap at_ s bs) := by
  refine Sy.meets_of (ctxB_holds g n cap at_ s bs) mixed (beg_run g n cap at_ s bs) fun hok ns => ?_
  have hok' : okB n at_ s bs := hok
  obtain ⟨hn, ha, hn2, hs2⟩ := hok'
  have hsub : Ex.wrapQ .i64 (Ex.subQ' (Int.ofNat n) (Int.ofNat at_)) = (n : Int) - at_ := by
    rw [Ex.wrapQ_eq, Ex.subQ_eq]
    show IntKind.i64.wrap ((n : Int) - (at_ : Int)) = _
    simp [IntKind.wrap, IntKind.signed, IntKind.bits]
    omega
  simp only [beg_R, Sy.Res.holds, hsub, Sy.q_lt, Sy.b_f]
  refine ⟨fun hlt => Sy.plainO_leaf (List.mem_singleton_self _) rfl ?_, fun hge => ⟨⟨hok, ?_⟩, fun h => Sy.plainO_leaf (List.mem_singleton_self _) rfl ?_, fun h => Sy.plainO_leaf (List.mem_singleton_self _) rfl ?_⟩⟩
  · have : begF bs at_ s = false := by
      cases hbf : begF bs at_ s with
      | false => rfl
      | true =>
        have hlt : (n : Int) - at_ < (s.size : Int) := hlt
        obtain ⟨b, h3, -⟩ := (begF_iff _ _ _).1 hbf (n - at_) (by omega)
        have := (List.getElem?_eq_some_iff.1 h3).1
        omega
    rw [this]
  · have : ¬ ((n : Int) - at_ < (s.size : Int)) := hge
    omega
  · rw [h]
  · rw [Bool.eq_false_iff.2 h]

end Go.Proofs.Ytbgmkefehfjicaa

/-
  The reference's lexer: a text made into runes (of texts whose bytes are below 128).
-/
namespace Go.Proofs.Ytbgmkefehfjicaa
set_option linter.unusedVariables false
set_option linter.unusedSimpArgs false
open Go Go.RowKit
open Sy (Let Blk)

abbrev fRune0 : FuncId := 71
abbrev fRunes : FuncId := 48
abbrev tRune : TypeId := 119

/-- A rune. -/
structure Ru where
  r : Nat
  at_ : Nat
  n : Nat
  line : Nat
  col : Nat

def Ru.cells (x : Ru) : List Value := [.int .i64 (Int.ofNat x.r), .int .i64 (Int.ofNat x.at_), .int .i64 (Int.ofNat x.n), .int .i64 (Int.ofNat x.line), .int .i64 (Int.ofNat x.col)]
def ruCells (l : List Ru) : List Value := l.flatMap Ru.cells

/-- The runes of bytes. -/
noncomputable def runesF : List Nat → Nat → Nat → Nat → List Ru := fun bs => @List.rec Nat (fun _ => Nat → Nat → Nat → List Ru) (fun a l c => [⟨0, a, 0, l, c⟩])
  (fun b _ ih a l c => ⟨b, a, 1, l, c⟩ :: @Bool.rec (fun _ => List Ru) (ih (Nat.succ a) l (Nat.succ c)) (ih (Nat.succ a) (Nat.succ l) 1) (Nat.beq b 10)) bs

def ascii (bs : List Nat) : Prop := ∀ b ∈ bs, b < 128

def rune0C (g n cap i b : Nat) (bs : List Nat) : Sy.CallC :=
  ⟨fRune0, #[.slice (some ⟨g, 0, none⟩) n cap, .int .i64 (Int.ofNat i)], n = bs.length ∧ bs[i]? = some b ∧ b < 128, ⟨[(g, .seg 0 (bcells bs))], [], 0, []⟩, [Sy.plainO (.tuple #[.int .i64 (Int.ofNat b), .int .i64 1])]⟩

/-- It is below 128. -/
def OkA (v : Value) : Prop := ∃ n : Int, v = .int .u8 n ∧ n < 128
noncomputable def ltS (v : Value) : Sem Next := Sy.opV (do eqGuard .lss 5 (.tmp 16) (.const (.int .u8 128)) v (.int .u8 128); binOp .lss 5 v (.int .u8 128))
noncomputable def ltK (a : Sy.F) (_ : List Sy.Blk) : Sy.OpK := ⟨ltS (a.get 16), OkA (a.get 16), ⟨⟨[], [], 0, []⟩, [(⟨fun _ => True, fun _ => [], fun _ => []⟩, fun _ => some (.bool true))]⟩⟩
theorem ltK_meets (a : Sy.F) (L : List Sy.Blk) : (ltK a L).meets Try.prog := by
  rintro ⟨n, hv, hk⟩ W _
  refine ⟨_, List.mem_singleton_self _, [], W, ?_, rfl, trivial, rfl, rfl, rfl, Nat.le_refl _, fun _ _ _ => rfl, fun p hp => (by cases hp), List.nodup_nil, fun _ hp => (by cases hp), List.nodup_nil, fun _ hp => (by cases hp)⟩
  show (ltS (a.get 16)).run Try.prog W = .ok (.value (.bool true)) W
  rw [hv]
  refine Sy.opV_run ?_
  simp [eqGuard, binOp, Op.intCmp, hk]

noncomputable def ctxA : Sy.Ctx := Sy.mkS [] [] [(fRune0, 17, fun a L => ltK a L)]
theorem ctxA_holds : ctxA.holds Try.prog := Sy.mkS_holds (fun _ h => (by cases h)) (fun _ h => (by cases h)) (fun p hp a L => by
  rcases List.mem_singleton.1 hp with rfl
  exact ltK_meets a L)

def ru0_o : Sy.O := (Sy.O.steps [0, 1, 0, 0, 1, 1, 1, 0, 0, 0, 0, 0] Sy.O.nil)
noncomputable def ru0_R (g : Nat) (n : Nat) (cap : Nat) (i : Nat) (b : Nat) (bs : List Nat) (ns : Nat → Sy.Let) : Sy.Res (Value × List Blk) := .need ((0 : Int) ≤ Int.ofNat i ∧ Int.ofNat i < (↑n : Int)) (.need (∃ (i_1 : Int), Sy.Cont.at (.seg (0 : Nat) (bcells bs)) ((0 : Nat) + Int.toNat (Int.ofNat i) * (1 : Nat)) = some (.int .u8 i_1)) (.hyp (Sy.Cont.at (.seg (0 : Nat) (bcells bs)) ((0 : Nat) + Int.toNat (Int.ofNat i) * (1 : Nat)) = some (.int .u8 (Let.i (ns 0)))) (.need (∃ (n : Int), .int .u8 (Let.i (ns 0)) = Value.int .u8 n ∧ n < (128 : Int)) (.hyp True (.leaf (Value.tuple (Array.mk [.int .i64 (Ex.wrapQ .i64 (Let.i (ns 0))), .int .i64 (1 : Int)]), []))))))

theorem ru0_run (g n cap i b : Nat) (bs : List Nat) : Sy.Ran (Sy.inT Try.prog ctxA 50 fRune0 (rune0C g n cap i b bs).args (Sy.blks (rune0C g n cap i b bs).mem) Sy.noB) ru0_o (ru0_R g n cap i b bs) := ⟨fun ns => by kernel_rfl, fun ns => by kernel_rfl⟩

theorem rune0C_met (g n cap i b : Nat) (bs : List Nat) : Sy.Meets Try.prog (rune0C g n cap i b bs) := by
  refine Sy.meets_of ctxA_holds mixed (ru0_run g n cap i b bs) fun hok ns => ?_
  obtain ⟨hn, hb, h8⟩ := (show n = bs.length ∧ bs[i]? = some b ∧ b < 128 from hok)
  have hlt := (List.getElem?_eq_some_iff.1 hb).1
  simp only [ru0_R, Sy.Res.holds]
  rw [show Int.toNat (Int.ofNat i) = i from rfl, bcells_at hb]
  refine ⟨⟨Int.natCast_nonneg i, by show (i : Int) < (n : Int); omega⟩, ⟨_, rfl⟩, fun h1 => ⟨?_, ?_⟩⟩
  all_goals simp only [Option.some.injEq, Value.int.injEq, true_and] at h1
  · exact ⟨_, rfl, by rw [← h1]; show (b : Int) < 128; omega⟩
  · intro _
    refine Sy.plainO_leaf (List.mem_singleton_self _) rfl ?_
    have : Ex.wrapQ .i64 (Let.i (ns 0)) = (b : Int) := by
      rw [← h1, Ex.wrapQ_eq]
      show IntKind.i64.wrap (b : Int) = _
      simp [IntKind.wrap, IntKind.signed, IntKind.bits]
      omega
    rw [this]
    rfl

/-- Where the bytes end. -/
noncomputable def endLC : List Nat → Nat → Nat → Nat × Nat := fun bs => @List.rec Nat (fun _ => Nat → Nat → Nat × Nat) (fun l c => (l, c)) (fun b _ ih l c => @Bool.rec (fun _ => Nat × Nat) (ih l (Nat.succ c)) (ih (Nat.succ l) 1) (Nat.beq b 10)) bs
/-- The runes without the last. -/
noncomputable def runesP : List Nat → Nat → Nat → Nat → List Ru := fun bs => @List.rec Nat (fun _ => Nat → Nat → Nat → List Ru) (fun _ _ _ => [])
  (fun b _ ih a l c => ⟨b, a, 1, l, c⟩ :: @Bool.rec (fun _ => List Ru) (ih (Nat.succ a) l (Nat.succ c)) (ih (Nat.succ a) (Nat.succ l) 1) (Nat.beq b 10)) bs

theorem runesF_eq : ∀ (bs : List Nat) (a l c : Nat), runesF bs a l c = runesP bs a l c ++ [⟨0, a + bs.length, 0, (endLC bs l c).1, (endLC bs l c).2⟩]
  | [], a, l, c => rfl
  | b :: r, a, l, c => by
    show ⟨b, a, 1, l, c⟩ :: @Bool.rec (fun _ => List Ru) (runesF r (a + 1) l (c + 1)) (runesF r (a + 1) (l + 1) 1) (Nat.beq b 10) = (⟨b, a, 1, l, c⟩ :: @Bool.rec (fun _ => List Ru) (runesP r (a + 1) l (c + 1)) (runesP r (a + 1) (l + 1) 1) (Nat.beq b 10)) ++
      [⟨0, a + (r.length + 1), 0, (@Bool.rec (fun _ => Nat × Nat) (endLC r l (c + 1)) (endLC r (l + 1) 1) (Nat.beq b 10)).1, (@Bool.rec (fun _ => Nat × Nat) (endLC r l (c + 1)) (endLC r (l + 1) 1) (Nat.beq b 10)).2⟩]
    cases Nat.beq b 10 with
    | false => simp only [runesF_eq r, List.cons_append]; rw [show a + 1 + r.length = a + (r.length + 1) by omega]
    | true => simp only [runesF_eq r, List.cons_append]; rw [show a + 1 + r.length = a + (r.length + 1) by omega]

theorem runesP_length : ∀ (bs : List Nat) (a l c : Nat), (runesP bs a l c).length = bs.length
  | [], _, _, _ => rfl
  | b :: r, a, l, c => by
    show (⟨b, a, 1, l, c⟩ :: @Bool.rec (fun _ => List Ru) (runesP r (a + 1) l (c + 1)) (runesP r (a + 1) (l + 1) 1) (Nat.beq b 10)).length = r.length + 1
    cases Nat.beq b 10 <;> simp [runesP_length r]

/-- The loop's state. -/
structure Rs where
  gl : Nat
  cap : Nat
  i : Nat
  l : Nat
  c : Nat
  pre : List Ru

noncomputable def bodyR : Code := Sy.loopBody Try.f48 0
def slR (g n cb : Nat) (gl i cap l c : Nat) : List (Nat × Value) := [(0, .slice (some ⟨g, 0, none⟩) n cb), (3, .slice (some ⟨gl, 0, none⟩) i cap), (4, .int .i64 l), (5, .int .i64 c), (6, .int .i64 i)]
noncomputable def memR (g : Nat) (bs : List Nat) (gl i cap : Nat) (xs : List Value) : List Blk := [⟨g, .seg 0 (bcells bs), false⟩, ⟨gl, .row tRune 5 i cap xs, true⟩]

noncomputable def runesC (g n cb : Nat) (bs : List Nat) : Sy.CallC :=
  ⟨fRunes, #[.slice (some ⟨g, 0, none⟩) n cb], n = bs.length ∧ ascii bs ∧ n < 1000000, ⟨[(g, .seg 0 (bcells bs))], [], 2, []⟩, [Sy.rowO tRune 5 (n + 1) (ruCells (runesF bs 0 1 1)) id]⟩

noncomputable def loopR (g n cb : Nat) (bs : List Nat) (gl cap : Nat) : Sy.LoopC :=
  ⟨.loop bodyR, 46, slR g n cb gl 0 cap 1 1, n = bs.length ∧ ascii bs ∧ n < 1000000, ⟨[(g, .seg 0 (bcells bs))], [(gl, .row tRune 5 0 cap [])], 2, []⟩,
    [(⟨fun ns => n ≤ Sy.num ns 1, fun ns => [(Sy.num ns 0, .row tRune 5 n (Sy.num ns 1) (ruCells (runesP bs 0 1 1)))], fun _ => []⟩, .exit 0, fun ns => slR g n cb (Sy.num ns 0) n (Sy.num ns 1) (endLC bs 1 1).1 (endLC bs 1 1).2)]⟩

noncomputable def ctxR0 (g n cb : Nat) (bs : List Nat) (i b : Nat) : Sy.Ctx := Sy.mkS [(fRune0, fun _ _ => rune0C g n cb i b bs)] [] []
def rnB_o : Sy.O := (Sy.O.steps [0] (Sy.O.fork (Sy.O.steps [0, 0, 0, 0, 0, 0, 0, 0, 0, 2, 0, 1, 1, 0, 0, 1, 0, 0, 0, 0] (Sy.O.fork Sy.O.nil Sy.O.nil)) Sy.O.nil))
noncomputable def rnB_R (g : Nat) (n : Nat) (cb : Nat) (bs : List Nat) (gl : Nat) (i : Nat) (cap : Nat) (l : Nat) (c : Nat) (b : Nat) (xs : List Value) (rest : List Value) (ns : Nat → Sy.Let) : Sy.Res (Exit × Nat × List Value × List Blk) := .br (Ex.ltQ (↑i : Int) (Int.ofNat n)) (.need (n = List.length bs ∧ bs[i]? = some b ∧ b < (128 : Nat)) (.hyp True (.need (i + (1 : Nat) ≤ (9223372036854775807 : Nat)) (.need ((i + (1 : Nat)) * (40 : Nat) ≤ (140737488355328 : Nat)) (.hyp (Nat.le (i + (1 : Nat)) (Let.n (ns 2))) (.br (Ex.eqQ (Int.ofNat b) (10 : Int)) (.leaf (Exit.normal, (46 : Nat), [.slice (some (Addr.mk g 0 none)) n cb, .slice (some (Addr.mk (Let.n (ns 1)) 0 none)) (i + (1 : Nat)) (Let.n (ns 2)), .int .i64 (Ex.wrapQ .i64 (Ex.addQ (↑l : Int) (1 : Int))), .int .i64 (1 : Int), .int .i64 (Ex.wrapQ .i64 (Ex.addQ (↑i : Int) (1 : Int)))], [Blk.mk (Let.n (ns 1)) (.row (119 : Nat) (5 : Nat) (i + (1 : Nat)) (Let.n (ns 2)) (xs ++ [.int .i64 (Int.ofNat b), .int .i64 (↑i : Int), .int .i64 (1 : Int), .int .i64 (↑l : Int), .int .i64 (↑c : Int)])) true, Blk.mk (Let.n (ns 0)) (.obj (.cells (Array.mk [.int .i64 (Int.ofNat b), .int .i64 (↑i : Int), .int .i64 (1 : Int), .int .i64 (↑l : Int), .int .i64 (↑c : Int)]) (119 : Nat))) true, Blk.mk
 g (.seg (0 : Nat) (bcells bs)) false])) (.leaf (Exit.normal, (46 : Nat), [.slice (some (Addr.mk g 0 none)) n cb, .slice (some (Addr.mk (Let.n (ns 1)) 0 none)) (i + (1 : Nat)) (Let.n (ns 2)), .int .i64 (↑l : Int), .int .i64 (Ex.wrapQ .i64 (Ex.addQ (↑c : Int) (1 : Int))), .int .i64 (Ex.wrapQ .i64 (Ex.addQ (↑i : Int) (1 : Int)))], [Blk.mk (Let.n (ns 1)) (.row (119 : Nat) (5 : Nat) (i + (1 : Nat)) (Let.n (ns 2)) (xs ++ [.int .i64 (Int.ofNat b), .int .i64 (↑i : Int), .int .i64 (1 : Int), .int .i64 (↑l : Int), .int .i64 (↑c : Int)])) true, Blk.mk (Let.n (ns 0)) (.obj (.cells (Array.mk [.int .i64 (Int.ofNat b), .int .i64 (↑i : Int), .int .i64 (1 : Int), .int .i64 (↑l : Int), .int .i64 (↑c : Int)]) (119 : Nat))) true, Blk.mk g (.seg (0 : Nat) (bcells bs)) false])))))))) (.leaf (Exit.exit (0 : Nat), (46 : Nat), [.slice (some (Addr.mk g 0 none)) n cb, .slice (some (Addr.mk gl 0 none)) i cap, .int .i64 (↑l : Int), .int .i64 (↑c : Int), .int .i64 (↑i : Int)], memR g bs gl i cap xs))

theorem rnB_run (g n cb : Nat) (bs : List Nat) (gl i cap l c b : Nat) (xs : List Value) (rest : List Value) : Sy.Ran (Sy.pieceT Try.prog (ctxR0 g n cb bs i b) 50 fRunes bodyR 46 (slR g n cb gl i cap l c) rest (memR g bs gl i cap xs) [0, 3, 4, 5, 6]) rnB_o (rnB_R g n cb bs gl i cap l c b xs rest) := ⟨fun ns => by kernel_rfl, fun ns => by kernel_rfl⟩
noncomputable def ctxR1 (g n cb : Nat) (bs : List Nat) : Sy.Ctx := Sy.mkS [] [(fRunes, fun a _ => loopR g n cb bs (Sy.ptrN (a.get 3)) (Sy.capN (a.get 3)))] []
def rn_o : Sy.O := (Sy.O.steps [0, 1, 0, 0, 0, 0, 0, 0, 0, 0, 0, 0, 1, 0, 1, 1, 0, 0, 0, 0, 0, 0, 0] Sy.O.nil)
noncomputable def rn_R (g : Nat) (n : Nat) (cb : Nat) (bs : List Nat) (ns : Nat → Sy.Let) : Sy.Res (Value × List Blk) := .need (n = List.length bs ∧ ascii bs ∧ n < (1000000 : Nat)) (.hyp (Nat.le n (Let.n (ns 2))) (.need (n + (1 : Nat) ≤ (9223372036854775807 : Nat)) (.need ((n + (1 : Nat)) * (40 : Nat) ≤ (140737488355328 : Nat)) (.hyp (Nat.le (n + (1 : Nat)) (Let.n (ns 6))) (.leaf (.slice (some (Addr.mk (Let.n (ns 5)) 0 none)) (n + (1 : Nat)) (Let.n (ns 6)), [Blk.mk (Let.n (ns 5)) (.row (119 : Nat) (5 : Nat) (n + (1 : Nat)) (Let.n (ns 6)) (ruCells (runesP bs (0 : Nat) (1 : Nat) (1 : Nat)) ++ [.int .i64 (0 : Int), .int .i64 (Int.ofNat n), .int .i64 (0 : Int), .int .i64 (↑(Prod.fst (endLC bs (1 : Nat) (1 : Nat))) : Int), .int .i64 (↑(Prod.snd (endLC bs (1 : Nat) (1 : Nat))) : Int)])) true, Blk.mk (Let.n (ns 4)) (.obj (.cells (Array.mk [.int .i64 (0 : Int), .int .i64 (Int.ofNat n), .int .i64 (0 : Int), .int .i64 (↑(Prod.fst (endLC bs (1 : Nat) (1 : Nat))) : Int), .int .i64 (↑(Prod.snd (endLC bs (1 : Nat) (1 : Nat))) : Int)]) (119 : Nat))) true]))))))

theorem rn_run (g n cb : Nat) (bs : List Nat) : Sy.Ran (Sy.inT Try.prog (ctxR1 g n cb bs) 50 fRunes (runesC g n cb bs).args (Sy.blks (runesC g n cb bs).mem) (Sy.rowT tRune)) rn_o (rn_R g n cb bs) := ⟨fun ns => by kernel_rfl, fun ns => by kernel_rfl⟩

theorem ctxR0_holds (g n cb : Nat) (bs : List Nat) (i b : Nat) : (ctxR0 g n cb bs i b).holds Try.prog := Sy.mkS_holds (fun p hp a L => by
  rcases List.mem_singleton.1 hp with rfl
  exact rune0C_met _ _ _ _ _ _) (fun _ h => (by cases h)) (fun _ h => (by cases h))

def okR (n : Nat) (bs : List Nat) (s : Rs) : Prop := s.i ≤ n ∧ n = bs.length ∧ ascii bs ∧ n < 1000000 ∧ runesP bs 0 1 1 = s.pre ++ runesP (bs.drop s.i) s.i s.l s.c ∧ s.pre.length = s.i ∧ endLC bs 1 1 = endLC (bs.drop s.i) s.l s.c ∧ s.l ≤ s.i + 1 ∧ s.c ≤ s.i + 1 ∧ s.i ≤ s.cap

theorem runesP_cons (b : Nat) (r : List Nat) (a l c : Nat) : runesP (b :: r) a l c = ⟨b, a, 1, l, c⟩ :: @Bool.rec (fun _ => List Ru) (runesP r (a + 1) l (c + 1)) (runesP r (a + 1) (l + 1) 1) (Nat.beq b 10) := rfl
theorem endLC_cons (b : Nat) (r : List Nat) (l c : Nat) : endLC (b :: r) l c = @Bool.rec (fun _ => Nat × Nat) (endLC r l (c + 1)) (endLC r (l + 1) 1) (Nat.beq b 10) := rfl

theorem ruCells_snoc (l : List Ru) (x : Ru) : ruCells (l ++ [x]) = ruCells l ++ x.cells := by simp [ruCells]

theorem loopR_met (g n cb : Nat) (bs : List Nat) (gl cap : Nat) : Sy.MeetsL Try.prog (loopR g n cb bs gl cap) := by
  refine Sy.loop_ofS (n := 50) (fn := fRunes) (S := fun s : Rs => ctxR0 g n cb bs s.i ((bs[s.i]?).getD 0)) (fun s => ctxR0_holds _ _ _ _ _ _) mixed (body := bodyR) rfl [0, 3, 4, 5, 6] (fun s => slR g n cb s.gl s.i s.cap s.l s.c) (fun s => memR g bs s.gl s.i s.cap (ruCells s.pre)) (okR n bs) (fun s => n - s.i)
    ⟨gl, cap, 0, 1, 1, []⟩ (fun h => ⟨Nat.zero_le _, h.1, h.2.1, h.2.2, rfl, rfl, rfl, Nat.le_refl _, Nat.le_refl _, Nat.zero_le _⟩) (fun p hp => hp) [0, 1] (by decide) rfl
    (o := fun _ => rnB_o) (R := fun s xs => rnB_R g n cb bs s.gl s.i s.cap s.l s.c ((bs[s.i]?).getD 0) (ruCells s.pre) xs) (fun s xs _ => rnB_run g n cb bs s.gl s.i s.cap s.l s.c ((bs[s.i]?).getD 0) (ruCells s.pre) xs) ?_
  rintro - ⟨gl, cap, i, l, c, pre⟩ rest hs ns
  have hs' := hs
  obtain ⟨hi, hn, ha, hm, hp, hpl, he, hl, hc, hcap⟩ : i ≤ n ∧ n = bs.length ∧ ascii bs ∧ n < 1000000 ∧ runesP bs 0 1 1 = pre ++ runesP (bs.drop i) i l c ∧ pre.length = i ∧ endLC bs 1 1 = endLC (bs.drop i) l c ∧ l ≤ i + 1 ∧ c ≤ i + 1 ∧ i ≤ cap := hs
  simp only [rnB_R, Sy.Res.holds, Sy.q_lt, Sy.q_eq, Sy.b_f]
  refine ⟨fun hlt => ?_, fun hge => ?_⟩
  · have hlt : i < bs.length := by
      have : (i : Int) < (n : Int) := hlt
      omega
    have hb : bs[i]? = some bs[i] := List.getElem?_eq_getElem hlt
    have hb8 : bs[i] < 128 := ha _ (List.getElem_mem hlt)
    have hd : bs.drop i = bs[i] :: bs.drop (i + 1) := List.drop_eq_getElem_cons hlt
    generalize bs[i] = b at *
    rw [hb, Option.getD_some]
    rw [hd, runesP_cons] at hp
    rw [hd, endLC_cons] at he
    refine ⟨⟨hn, rfl, hb8⟩, fun _ => ⟨by omega, by omega, fun hcap' => ⟨fun h10 => ?_, fun h10 => ?_⟩⟩⟩
    · have h10 : b = 10 := by
        have : (b : Int) = 10 := h10
        omega
      subst h10
      refine Sy.leafL_next ⟨Let.n (ns 1), Let.n (ns 2), i + 1, l + 1, 1, pre ++ [⟨10, i, 1, l, c⟩]⟩ rfl ⟨by show i + 1 ≤ n; omega, hn, ha, hm, ?_, by simp [hpl], he, by show l + 1 ≤ i + 1 + 1; omega, by show 1 ≤ i + 1 + 1; omega, hcap'⟩ (by show n - (i + 1) < n - i; omega) ?_ [2, 0] (by decide) ?_
      · rw [hp, List.append_assoc]; rfl
      · rw [Sy.inc_q i (by omega), Sy.inc_q l (by omega)]; rfl
      · rw [ruCells_snoc]; rfl
    · have h10 : Nat.beq b 10 = false := by
        cases hx : Nat.beq b 10 with
        | false => rfl
        | true => exact (h10 (by rw [Nat.eq_of_beq_eq_true hx]; rfl)).elim
      rw [h10] at hp he
      refine Sy.leafL_next ⟨Let.n (ns 1), Let.n (ns 2), i + 1, l, c + 1, pre ++ [⟨b, i, 1, l, c⟩]⟩ rfl ⟨by show i + 1 ≤ n; omega, hn, ha, hm, ?_, by simp [hpl], he, by show l ≤ i + 1 + 1; omega, by show c + 1 ≤ i + 1 + 1; omega, hcap'⟩ (by show n - (i + 1) < n - i; omega) ?_ [2, 0] (by decide) ?_
      · rw [hp, List.append_assoc]; rfl
      · rw [Sy.inc_q i (by omega), Sy.inc_q c (by omega)]; rfl
      · rw [ruCells_snoc]; rfl
  · have hin : i = n := by
      have : ¬ ((i : Int) < (n : Int)) := hge
      omega
    subst hin
    have hdn : bs.drop i = [] := by rw [hn]; simp
    rw [hdn] at hp he
    have hp : runesP bs 0 1 1 = pre := by rw [hp]; exact List.append_nil _
    have he : endLC bs 1 1 = (l, c) := he
    refine Sy.leafL_end 0 rfl rfl (by simp) rfl [⟨gl, 0, false, undef, []⟩, ⟨cap, 0, false, undef, []⟩] rfl [0, 1, 2, 3, 4] ?_ [1] (by decide) ?_ hcap
    · show slR g i cb gl i cap (endLC bs 1 1).1 (endLC bs 1 1).2 = _
      rw [he]
      rfl
    · refine ⟨⟨rfl, rfl, .inl ?_⟩, trivial⟩
      show Sy.Cont.row tRune 5 i cap (ruCells pre) = .row tRune 5 i cap (ruCells (runesP bs 0 1 1))
      rw [hp]

theorem ctxR1_holds (g n cb : Nat) (bs : List Nat) : (ctxR1 g n cb bs).holds Try.prog := Sy.mkS_holds (fun _ h => (by cases h)) (fun p hp a L => by
  rcases List.mem_singleton.1 hp with rfl
  exact loopR_met _ _ _ _ _ _) (fun _ h => (by cases h))

theorem runesC_met (g n cb : Nat) (bs : List Nat) : Sy.Meets Try.prog (runesC g n cb bs) := by
  refine Sy.meets_of (ctxR1_holds g n cb bs) mixed (rn_run g n cb bs) fun hok ns => ?_
  have hok' : n = bs.length ∧ ascii bs ∧ n < 1000000 := hok
  obtain ⟨hn, ha, hm⟩ := hok'
  simp only [rn_R, Sy.Res.holds]
  refine ⟨⟨hn, ha, hm⟩, fun _ => ⟨by omega, by omega, fun hcap => ?_⟩⟩
  refine Sy.rowO_leaf' (List.mem_singleton_self _) rfl 0 rfl rfl rfl ?_ hcap
  rw [runesF_eq, ruCells_snoc]
  show _ = _ ++ [Value.int .i64 (Int.ofNat 0), .int .i64 (Int.ofNat (0 + bs.length)), .int .i64 (Int.ofNat 0), _, _]
  rw [Nat.zero_add, ← hn]
  rfl

end Go.Proofs.Ytbgmkefehfjicaa

/-
  The reference's lexer: kinds of runes.
-/
namespace Go.Proofs.Ytbgmkefehfjicaa
set_option linter.unusedVariables false
set_option linter.unusedSimpArgs false
open Go Go.RowKit
open Sy (Let Blk)

abbrev fDigit : FuncId := 50
abbrev fLetter : FuncId := 52
abbrev fBlank : FuncId := 72
abbrev fSixteen : FuncId := 73

def ruV (r a n l c : Int) : Value := .agg #[.int .i64 r, .int .i64 a, .int .i64 n, .int .i64 l, .int .i64 c]
def dg_o : Sy.O := (Sy.O.steps [0, 0, 0, 1, 0, 0, 0, 1, 0, 0, 0] Sy.O.nil)
noncomputable def dg_R (r : Int) (a : Int) (n : Int) (l : Int) (c : Int) (ns : Nat → Sy.Let) : Sy.Res (Value × List Blk) := .leaf (Value.bool (bif bif Ex.ltQ (0 : Int) n then Ex.leQ (48 : Int) r else false then Ex.leQ r (57 : Int) else false), [])

theorem dg_run (r a n l c : Int) : Sy.Ran (Sy.inT Try.prog Sy.S0 50 fDigit #[ruV r a n l c] [] Sy.noB) dg_o (dg_R r a n l c) := ⟨fun ns => by kernel_rfl, fun ns => by kernel_rfl⟩
def lt_o : Sy.O := (Sy.O.steps [0, 0, 0] (Sy.O.fork (Sy.O.steps [0, 0, 0, 0, 0, 0] (Sy.O.fork (Sy.O.steps [0, 0, 0, 0, 0, 0, 0] (Sy.O.fork (Sy.O.steps [0, 0, 0, 0, 0, 0, 0, 0, 0, 0, 0, 0, 0, 0, 0, 0, 0] Sy.O.nil) (Sy.O.steps [0, 0, 0, 0, 0, 0] (Sy.O.fork (Sy.O.steps [0, 0, 0, 0, 0, 0, 0, 0] (Sy.O.fork (Sy.O.steps [0, 0, 0, 0, 0, 0, 0, 0, 0, 0] Sy.O.nil) (Sy.O.steps [0, 0, 0, 0, 0, 0, 0] (Sy.O.fork (Sy.O.steps [0, 0, 0, 0, 0] Sy.O.nil) (Sy.O.steps [0, 0, 0, 0, 0, 0] (Sy.O.fork (Sy.O.steps [0, 0, 0, 0, 0, 0, 0] Sy.O.nil) (Sy.O.steps [0, 0, 0, 0] Sy.O.nil))))))) (Sy.O.steps [0, 0, 0, 0, 0, 0, 0, 0, 0, 0, 0, 0, 0] (Sy.O.fork (Sy.O.steps [0, 0, 0, 0, 0] Sy.O.nil) (Sy.O.steps [0, 0, 0, 0, 0, 0] (Sy.O.fork (Sy.O.steps [0, 0, 0, 0, 0, 0, 0] Sy.O.nil) (Sy.O.steps [0, 0, 0, 0] Sy.O.nil))))))))) (Sy.O.steps [0, 0, 0, 0, 0, 0, 0, 0, 0, 0, 0] (Sy.O.fork (Sy.O.steps [0, 0, 0, 0, 0, 0, 0, 0] (Sy.O.fork (Sy.O.steps [0, 0, 0, 0, 0, 0, 0, 0, 0, 0] Sy.O.nil) (Sy.O.steps [0, 0, 0, 0, 0, 0, 0] (Sy.O.fork (Sy.O.steps [0, 0, 0, 0, 0] Sy.O.nil) (Sy.O.steps [0, 0, 0, 0, 0, 0] (Sy.O.fork (Sy.O.steps [0, 0, 0, 0, 0, 0, 0] Sy.O.nil) (Sy.O.steps [0, 0, 0, 0] Sy.O.nil))))))) (Sy.O.steps [0, 0, 0, 0, 0, 0, 0, 0, 0, 0, 0, 0, 0] (Sy.O.fork (Sy.O.steps [0, 0, 0, 0, 0] Sy.O.nil) (Sy.O.steps [0, 0, 0, 0, 0, 0] (Sy.O.fork (Sy.O.steps [0, 0, 0, 0, 0, 0, 0] Sy.O.nil) (Sy.O.steps [0, 0, 0, 0] Sy.O.nil))))))))) (Sy.O.steps [0, 0, 0, 0, 0, 0, 0, 0, 0, 0] Sy.O.nil)))
noncomputable def lt_R (r : Int) (a : Int) (n : Int) (l : Int) (c : Int) (ns : Nat → Sy.Let) : Sy.Res (Value × List Blk) := .br (Ex.ltQ (0 : Int) n) (.br (Ex.leQ (97 : Int) r) (.br (bif true then Ex.leQ r (122 : Int) else false) (.leaf (Value.bool true, [])) (.br (Ex.leQ (65 : Int) r) (.br (bif false then true else bif true then Ex.leQ r (90 : Int) else false) (.leaf (Value.bool true, [])) (.br (bif false then true else Ex.eqQ r (95 : Int)) (.leaf (Value.bool true, [])) (.br (Ex.leQ (945 : Int) r) (.leaf (Value.bool (bif true then bif false then true else bif true then Ex.leQ r (969 : Int) else false else false), [])) (.leaf (Value.bool false, []))))) (.br (bif false then true else Ex.eqQ r (95 : Int)) (.leaf (Value.bool true, [])) (.br (Ex.leQ (945 : Int) r) (.leaf (Value.bool (bif true then bif false then true else bif true then Ex.leQ r (969 : Int) else false else false), [])) (.leaf (Value.bool false, [])))))) (.br (Ex.leQ (65 : Int) r) (.br (bif false then true else bif true then Ex.leQ r (90 : Int) else false) (.leaf (Value.bool true, [])) (.br (bif false then true else Ex.eqQ r (95 : Int)) (.leaf
 (Value.bool true, [])) (.br (Ex.leQ (945 : Int) r) (.leaf (Value.bool (bif true then bif false then true else bif true then Ex.leQ r (969 : Int) else false else false), [])) (.leaf (Value.bool false, []))))) (.br (bif false then true else Ex.eqQ r (95 : Int)) (.leaf (Value.bool true, [])) (.br (Ex.leQ (945 : Int) r) (.leaf (Value.bool (bif true then bif false then true else bif true then Ex.leQ r (969 : Int) else false else false), [])) (.leaf (Value.bool false, [])))))) (.leaf (Value.bool false, []))

theorem lt_run (r a n l c : Int) : Sy.Ran (Sy.inT Try.prog Sy.S0 50 fLetter #[ruV r a n l c] [] Sy.noB) lt_o (lt_R r a n l c) := ⟨fun ns => by kernel_rfl, fun ns => by kernel_rfl⟩
def bl_o : Sy.O := (Sy.O.steps [0, 0, 0] (Sy.O.fork (Sy.O.steps [0, 0, 0, 0, 0, 0] (Sy.O.fork (Sy.O.steps [0, 0, 0, 0, 0, 0, 0, 0, 0, 0, 0, 0, 0] Sy.O.nil) (Sy.O.steps [0, 0, 0, 0, 0, 0, 0] (Sy.O.fork (Sy.O.steps [0, 0, 0, 0, 0, 0, 0, 0] Sy.O.nil) (Sy.O.steps [0, 0, 0, 0, 0, 0, 0] (Sy.O.fork (Sy.O.steps [0, 0, 0] Sy.O.nil) (Sy.O.steps [0, 0, 0, 0, 0, 0] Sy.O.nil))))))) (Sy.O.steps [0, 0, 0, 0, 0, 0, 0, 0] Sy.O.nil)))
noncomputable def bl_R (r : Int) (a : Int) (n : Int) (l : Int) (c : Int) (ns : Nat → Sy.Let) : Sy.Res (Value × List Blk) := .br (Ex.ltQ (0 : Int) n) (.br (Ex.eqQ r (9 : Int)) (.leaf (Value.bool true, [])) (.br (bif false then true else Ex.eqQ r (10 : Int)) (.leaf (Value.bool true, [])) (.br (bif false then true else Ex.eqQ r (13 : Int)) (.leaf (Value.bool true, [])) (.leaf (Value.bool (bif true then bif false then true else Ex.eqQ r (32 : Int) else false), []))))) (.leaf (Value.bool false, []))

theorem bl_run (r a n l c : Int) : Sy.Ran (Sy.inT Try.prog Sy.S0 50 fBlank #[ruV r a n l c] [] Sy.noB) bl_o (bl_R r a n l c) := ⟨fun ns => by kernel_rfl, fun ns => by kernel_rfl⟩
def sx_o : Sy.O := (Sy.O.steps [0, 0, 0, 0, 0, 0, 1, 0, 0, 0, 1, 0, 0, 0] (Sy.O.fork (Sy.O.steps [0, 1, 0] Sy.O.nil) (Sy.O.steps [0, 1, 0, 1, 0, 1, 0, 1, 0, 1, 0] (Sy.O.fork (Sy.O.steps [0, 1, 0] Sy.O.nil) (Sy.O.steps [0, 1, 0, 1, 0, 1, 0, 1, 0, 1, 0] (Sy.O.fork (Sy.O.steps [0, 1, 0] Sy.O.nil) Sy.O.nil))))))
noncomputable def sx_R (r : Int) (a : Int) (n : Int) (l : Int) (c : Int) (ns : Nat → Sy.Let) : Sy.Res (Value × List Blk) := .br (bif bif Ex.ltQ (0 : Int) n then Ex.leQ (48 : Int) r else false then Ex.leQ r (57 : Int) else false) (.leaf (.int .i64 (Ex.wrapQ .i64 (Ex.subQ' r (48 : Int))), [])) (.br (bif bif Ex.ltQ (0 : Int) n then Ex.leQ (97 : Int) r else false then Ex.leQ r (102 : Int) else false) (.leaf (.int .i64 (Ex.wrapQ .i64 (Ex.subQ' r (87 : Int))), [])) (.br (bif bif Ex.ltQ (0 : Int) n then Ex.leQ (65 : Int) r else false then Ex.leQ r (70 : Int) else false) (.leaf (.int .i64 (Ex.wrapQ .i64 (Ex.subQ' r (55 : Int))), [])) (.leaf (.int .i64 (16 : Int), []))))

theorem sx_run (r a n l c : Int) : Sy.Ran (Sy.inT Try.prog Sy.S0 50 fSixteen #[ruV r a n l c] [] Sy.noB) sx_o (sx_R r a n l c) := ⟨fun ns => by kernel_rfl, fun ns => by kernel_rfl⟩

def dgF (r n : Int) : Bool := bif (bif Ex.ltQ 0 n then Ex.leQ 48 r else false) then Ex.leQ r 57 else false
def ltF (r n : Int) : Bool := bif Ex.ltQ 0 n then bif (bif Ex.leQ 97 r then Ex.leQ r 122 else false) then true else bif (bif Ex.leQ 65 r then Ex.leQ r 90 else false) then true else bif Ex.eqQ r 95 then true else bif Ex.leQ 945 r then Ex.leQ r 969 else false else false
def blF (r n : Int) : Bool := bif Ex.ltQ 0 n then bif Ex.eqQ r 9 then true else bif Ex.eqQ r 10 then true else bif Ex.eqQ r 13 then true else Ex.eqQ r 32 else false
def sxF (r n : Int) : Int := bif dgF r n then Ex.wrapQ .i64 (Ex.subQ' r 48) else bif (bif (bif Ex.ltQ 0 n then Ex.leQ 97 r else false) then Ex.leQ r 102 else false) then Ex.wrapQ .i64 (Ex.subQ' r 87) else bif (bif (bif Ex.ltQ 0 n then Ex.leQ 65 r else false) then Ex.leQ r 70 else false) then Ex.wrapQ .i64 (Ex.subQ' r 55) else 16

def ruC (f : FuncId) (r a n l c : Int) (v : Value) : Sy.CallC := Sy.plainC f #[ruV r a n l c] v
def dgC (r a n l c : Int) : Sy.CallC := ruC fDigit r a n l c (.bool (dgF r n))
def ltC (r a n l c : Int) : Sy.CallC := ruC fLetter r a n l c (.bool (ltF r n))
def blC (r a n l c : Int) : Sy.CallC := ruC fBlank r a n l c (.bool (blF r n))
def sxC (r a n l c : Int) : Sy.CallC := ruC fSixteen r a n l c (.int .i64 (sxF r n))

theorem cf_tt (b : Bool) : (bif true then b else false) = b := rfl
theorem cf_ft (b : Bool) : (bif false then true else b) = b := rfl

theorem dgC_met (r a n l c : Int) : Sy.Meets Try.prog (dgC r a n l c) := by
  refine Sy.meets_of Sy.S0_holds mixed (dg_run r a n l c) fun hok ns => ?_
  simp only [dg_R, Sy.Res.holds]
  repeat' (first | apply And.intro | intro)
  all_goals
    refine Sy.plainO_leaf (List.mem_singleton_self _) rfl ?_
    first | rfl | (simp_all [dgF])

theorem ltC_met (r a n l c : Int) : Sy.Meets Try.prog (ltC r a n l c) := by
  refine Sy.meets_of Sy.S0_holds mixed (lt_run r a n l c) fun hok ns => ?_
  simp only [lt_R, Sy.Res.holds, cf_tt, cf_ft]
  unfold ltC ruC ltF
  generalize Ex.ltQ 0 n = b0
  generalize Ex.leQ 97 r = b1
  generalize Ex.leQ r 122 = b2
  generalize Ex.leQ 65 r = b3
  generalize Ex.leQ r 90 = b4
  generalize Ex.eqQ r 95 = b5
  generalize Ex.leQ 945 r = b6
  generalize Ex.leQ r 969 = b7
  repeat' (first | apply And.intro | intro)
  all_goals
    refine Sy.plainO_leaf (List.mem_singleton_self _) rfl ?_
    simp_all

theorem blC_met (r a n l c : Int) : Sy.Meets Try.prog (blC r a n l c) := by
  refine Sy.meets_of Sy.S0_holds mixed (bl_run r a n l c) fun hok ns => ?_
  simp only [bl_R, Sy.Res.holds, cf_tt, cf_ft]
  unfold blC ruC blF
  generalize Ex.ltQ 0 n = b0
  generalize Ex.eqQ r 9 = b1
  generalize Ex.eqQ r 10 = b2
  generalize Ex.eqQ r 13 = b3
  generalize Ex.eqQ r 32 = b4
  repeat' (first | apply And.intro | intro)
  all_goals
    refine Sy.plainO_leaf (List.mem_singleton_self _) rfl ?_
    simp_all

theorem sxC_met (r a n l c : Int) : Sy.Meets Try.prog (sxC r a n l c) := by
  refine Sy.meets_of Sy.S0_holds mixed (sx_run r a n l c) fun hok ns => ?_
  simp only [sx_R, Sy.Res.holds]
  unfold sxC ruC sxF dgF
  repeat' (first | apply And.intro | intro)
  all_goals
    refine Sy.plainO_leaf (List.mem_singleton_self _) rfl ?_
    simp only [*, cond_true, cond_false]

end Go.Proofs.Ytbgmkefehfjicaa

/-
  Contracts for closed runs of the reference's lexer.
-/
namespace Go.Proofs.Ytbgmkefehfjicaa
set_option linter.unusedVariables false
set_option linter.unusedSimpArgs false
open Go Go.RowKit
open Sy (Let Blk)

/-- The numbers of a list of bytes. -/
noncomputable def unbytes (l : List Value) : Option (List Nat) := @List.rec Value (fun _ => Option (List Nat)) (some []) (fun v _ ih => match v with
  | .int .u8 (.ofNat b) => match ih with
    | some l => some (b :: l)
    | none => none
  | _ => none) l

noncomputable def segOf : Sy.Cont → List Value
  | .obj (.cells c _ _) => c.toList
  | .obj _ => []
  | .row _ _ _ _ xs => xs
  | .seg _ xs => xs

def noC : Sy.CallC := ⟨0, #[], False, ⟨[], [], 0, []⟩, []⟩
theorem noC_met {P : Program} : Sy.Meets P noC := fun h => h.elim

noncomputable def okb (n at_ : Nat) (s : ByteArray) (bs : List Nat) : Bool := match Nat.beq n bs.length with
  | true => match Nat.ble at_ n with
    | true => match Nat.ble n 999999999999 with
      | true => Nat.ble s.size 999999999999
      | false => false
    | false => false
  | false => false

theorem okb_spec {n at_ : Nat} {s : ByteArray} {bs : List Nat} (h : okb n at_ s bs = true) : okB n at_ s bs := by
  unfold okb at h
  split at h
  · rename_i h1
    split at h
    · rename_i h2
      split at h
      · rename_i h3
        exact ⟨Nat.eq_of_beq_eq_true h1, Nat.le_of_ble_eq_true h2, Nat.lt_succ_of_le (Nat.le_of_ble_eq_true h3), Nat.lt_succ_of_le (Nat.le_of_ble_eq_true h)⟩
      · cases h
    · cases h
  · cases h

noncomputable def begK (args : Array Value) (ct : Sy.Cont) : Sy.CallC := match args.toList with
  | [.slice (some ⟨g, 0, none⟩) n cap, .int .i64 (.ofNat at_), .string s] => match unbytes (segOf ct) with
    | some bs => match okb n at_ s bs with
      | true => Sy.shutC' fBegins #[.slice (some ⟨g, 0, none⟩) n cap, .int .i64 (Int.ofNat at_), .string s] [(g, .seg 0 (bcells bs))] True (.bool (begF bs at_ s))
      | false => noC
    | none => noC
  | _ => noC

theorem begK_met (args : Array Value) (ct : Sy.Cont) : Sy.Meets Try.prog (begK args ct) := by
  unfold begK
  split
  · split
    · rename_i bs _
      split
      · rename_i h
        exact fun _ => begC_met _ _ _ _ _ bs (okb_spec h)
      · exact noC_met
    · exact noC_met
  · exact noC_met

noncomputable def lexH : Sy.How := ⟨fun _ => true, fun _ => false, [⟨fBegins, 0, begK⟩]⟩
theorem lexH_holds : lexH.holds Try.prog := ⟨fun x hx a ct => by
  rcases List.mem_singleton.1 hx with rfl
  exact begK_met a ct⟩

def bt (l : List UInt8) : ByteArray := ⟨⟨l⟩⟩

end Go.Proofs.Ytbgmkefehfjicaa

/-
  The reference's lexer: over blanks (in texts without a slash).
-/
namespace Go.Proofs.Ytbgmkefehfjicaa
set_option linter.unusedVariables false
set_option linter.unusedSimpArgs false
open Go Go.RowKit
open Sy (Let Blk)

abbrev fSkipped : FuncId := 49
noncomputable def bodySk : Code := Sy.loopBody Try.f49 0

/-- A contract of a function of a rune, by its argument. -/
noncomputable def ruK (C : Int → Int → Int → Int → Int → Sy.CallC) (args : Array Value) : Sy.CallC := match args.toList with
  | [.agg c] => match c.toList with
    | [.int .i64 r, .int .i64 a, .int .i64 n, .int .i64 l, .int .i64 c] => C r a n l c
    | _ => noC
  | _ => noC
theorem ruK_met {C : Int → Int → Int → Int → Int → Sy.CallC} (h : ∀ r a n l c, Sy.Meets Try.prog (C r a n l c)) (args : Array Value) : Sy.Meets Try.prog (ruK C args) := by
  unfold ruK
  split
  · split
    · exact h _ _ _ _ _
    · exact noC_met
  · exact noC_met

def slsl : ByteArray := ⟨#[47, 47]⟩
/-- The text does not begin so. -/
noncomputable def begNo (g n cap : Nat) (bs : List Nat) (s : ByteArray) (at_ : Int) : Sy.CallC :=
  ⟨fBegins, #[.slice (some ⟨g, 0, none⟩) n cap, .int .i64 at_, .string s], ∃ k : Nat, at_ = k ∧ okB n k s bs ∧ begF bs k s = false, ⟨[(g, .seg 0 (bcells bs))], [], 0, []⟩, [Sy.plainO (.bool false)]⟩
theorem begNo_met (g n cap : Nat) (bs : List Nat) (s : ByteArray) (at_ : Int) : Sy.Meets Try.prog (begNo g n cap bs s at_) := by
  rintro ⟨k, rfl, hok, hf⟩ W hpre
  have := begC_met g n cap k s bs hok W hpre
  unfold begC at this
  rw [hf] at this
  exact this

theorem flat_at {α : Type} (f : α → List Value) (sz : Nat) (hf : ∀ x, (f x).length = sz) : ∀ {l : List α} {k : Nat} {x : α}, l[k]? = some x → ∀ j u, (f x)[j]? = some u → (l.flatMap f)[k * sz + j]? = some u
  | [], k, x, h, _, _, _ => by simp at h
  | y :: l, k, x, h, j, u, hu => by
    have hj : j < sz := by rw [← hf x]; exact (List.getElem?_eq_some_iff.1 hu).1
    rw [List.flatMap_cons]
    cases k with
    | zero =>
      simp only [List.getElem?_cons_zero, Option.some.injEq] at h
      subst h
      rw [List.getElem?_append_left (by rw [hf]; omega), Nat.zero_mul, Nat.zero_add]
      exact hu
    | succ k =>
      rw [List.getElem?_append_right (by rw [hf, Nat.succ_mul]; omega), hf]
      have := flat_at f sz hf (l := l) (k := k) (by simpa using h) j u hu
      rw [show (k + 1) * sz + j - sz = k * sz + j by rw [Nat.succ_mul]; omega]
      exact this

noncomputable def ctxS (g n cb : Nat) (bs : List Nat) : Sy.Ctx := Sy.mkS [(fBlank, fun a _ => ruK blC a), (fBegins, fun a _ => begNo g n cb bs slsl (Sy.argI a 1))] [] []
theorem ctxS_holds (g n cb : Nat) (bs : List Nat) : (ctxS g n cb bs).holds Try.prog := Sy.mkS_holds (fun p hp a L => by
  rcases List.mem_cons.1 hp with rfl | hp
  · exact ruK_met blC_met a
  rcases List.mem_singleton.1 hp with rfl
  exact begNo_met _ _ _ _ _ _) (fun _ h => (by cases h)) (fun _ h => (by cases h))

def slK (g n cb gl m cl k : Nat) : List (Nat × Value) := [(0, .slice (some ⟨g, 0, none⟩) n cb), (1, .slice (some ⟨gl, 0, none⟩) m cl), (2, .int .i64 (Int.ofNat k)), (6, .int .i64 0)]
def memK (g gl : Nat) (bs : List Nat) (xs : List Value) : List Blk := [⟨g, .seg 0 (bcells bs), false⟩, ⟨gl, .seg 0 xs, false⟩]

def skB_o : Sy.O := (Sy.O.steps [0, 1, 0, 1, 1, 1, 1, 1, 1, 1, 1, 0, 0, 0, 0] (Sy.O.fork Sy.O.nil (Sy.O.steps [0, 1, 0, 1, 1, 1, 1, 0, 0, 0, 0, 0, 0, 0] Sy.O.nil)))
noncomputable def skB_R (g : Nat) (n : Nat) (cb : Nat) (gl : Nat) (m : Nat) (cl : Nat) (k : Nat) (bs : List Nat) (xs : List Value) (rest : List Value) (ns : Nat → Sy.Let) : Sy.Res (Exit × Nat × List Value × List Blk) := .need ((0 : Int) ≤ Int.ofNat k ∧ Int.ofNat k < (↑m : Int)) (.need (∃ (i : Int), Sy.Cont.at (.seg (0 : Nat) xs) ((0 : Nat) + Int.toNat (Int.ofNat k) * (5 : Nat)) = some (.int .i64 i)) (.hyp (Sy.Cont.at (.seg (0 : Nat) xs) ((0 : Nat) + Int.toNat (Int.ofNat k) * (5 : Nat)) = some (.int .i64 (Let.i (ns 0)))) (.need (∃ (i : Int), Sy.Cont.at (.seg (0 : Nat) xs) ((0 : Nat) + Int.toNat (Int.ofNat k) * (5 : Nat) + (1 : Nat)) = some (.int .i64 i)) (.hyp (Sy.Cont.at (.seg (0 : Nat) xs) ((0 : Nat) + Int.toNat (Int.ofNat k) * (5 : Nat) + (1 : Nat)) = some (.int .i64 (Let.i (ns 1)))) (.need (∃ (i : Int), Sy.Cont.at (.seg (0 : Nat) xs) ((0 : Nat) + Int.toNat (Int.ofNat k) * (5 : Nat) + (1 : Nat) + (1 : Nat)) = some (.int .i64 i)) (.hyp (Sy.Cont.at (.seg (0 : Nat) xs) ((0 : Nat) + Int.toNat (Int.ofNat k) * (5 : Nat) + (1 : Nat) + (1 : Nat)) = some (.int .i64 (Let.i (ns 2)))) (.need (∃ (i : Int), Sy.Cont.at (.seg (0 : Nat) xs) ((0 : Nat) + Int.toNat (Int.ofNat k) * (5 : Nat) + (1 : Nat) + (1 : Nat) +
 (1 : Nat)) = some (.int .i64 i)) (.hyp (Sy.Cont.at (.seg (0 : Nat) xs) ((0 : Nat) + Int.toNat (Int.ofNat k) * (5 : Nat) + (1 : Nat) + (1 : Nat) + (1 : Nat)) = some (.int .i64 (Let.i (ns 3)))) (.need (∃ (i : Int), Sy.Cont.at (.seg (0 : Nat) xs) ((0 : Nat) + Int.toNat (Int.ofNat k) * (5 : Nat) + (1 : Nat) + (1 : Nat) + (1 : Nat) + (1 : Nat)) = some (.int .i64 i)) (.hyp (Sy.Cont.at (.seg (0 : Nat) xs) ((0 : Nat) + Int.toNat (Int.ofNat k) * (5 : Nat) + (1 : Nat) + (1 : Nat) + (1 : Nat) + (1 : Nat)) = some (.int .i64 (Let.i (ns 4)))) (.need True (.hyp True (.br (blF (Let.i (ns 0)) (Let.i (ns 2))) (.leaf (Exit.normal, (53 : Nat), [.slice (some (Addr.mk g 0 none)) n cb, .slice (some (Addr.mk gl 0 none)) m cl, .int .i64 (Ex.wrapQ .i64 (Ex.addQ (Int.ofNat k) (1 : Int))), .int .i64 (0 : Int)], [Blk.mk g (.seg (0 : Nat) (bcells bs)) false, Blk.mk gl (.seg (0 : Nat) xs) false])) (.need ((0 : Int) ≤ Int.ofNat k ∧ Int.ofNat k < (↑m : Int)) (.need (∃ (i : Int), Sy.Cont.at (.seg (0 : Nat) xs) (Nat.succ
 ((0 : Nat) + Int.toNat (Int.ofNat k) * (5 : Nat))) = some (.int .i64 i)) (.hyp (Sy.Cont.at (.seg (0 : Nat) xs) (Nat.succ ((0 : Nat) + Int.toNat (Int.ofNat k) * (5 : Nat))) = some (.int .i64 (Let.i (ns 5)))) (.need (∃ (k : Nat), Let.i (ns 5) = (↑k : Int) ∧ okB n k slsl bs ∧ begF bs k slsl = false) (.hyp True (.leaf (Exit.ret, (53 : Nat), [.slice (some (Addr.mk g 0 none)) n cb, .slice (some (Addr.mk gl 0 none)) m cl, .int .i64 (Int.ofNat k), .int .i64 (Int.ofNat k)], [Blk.mk g (.seg (0 : Nat) (bcells bs)) false, Blk.mk gl (.seg (0 : Nat) xs) false]))))))))))))))))))))

theorem skB_run (g n cb gl m cl k : Nat) (bs : List Nat) (xs : List Value) (rest : List Value) : Sy.Ran (Sy.pieceT Try.prog (ctxS g n cb bs) 50 fSkipped bodySk 53 (slK g n cb gl m cl k) rest (memK g gl bs xs) [0, 1, 2, 6]) skB_o (skB_R g n cb gl m cl k bs xs rest) := ⟨fun ns => by kernel_rfl, fun ns => by kernel_rfl⟩

/-- A text of the kind that is spoken of, and its runes. -/
structure Tx (bs : List Nat) (n : Nat) (l : List Ru) : Prop where
  hn : n = bs.length
  asc : ascii bs
  small : n < 1000000
  sl : 47 ∉ bs
  hl : l = runesF bs 0 1 1

theorem runesF_length (bs : List Nat) (a l c : Nat) : (runesF bs a l c).length = bs.length + 1 := by
  rw [runesF_eq, List.length_append, runesP_length]; rfl

theorem runesP_at : ∀ (bs : List Nat) (a l c k b : Nat), bs[k]? = some b → ∃ l' c', (runesP bs a l c)[k]? = some ⟨b, a + k, 1, l', c'⟩
  | [], a, l, c, k, b, h => by simp at h
  | x :: r, a, l, c, 0, b, h => by
    simp only [List.getElem?_cons_zero, Option.some.injEq] at h
    subst h
    exact ⟨l, c, rfl⟩
  | x :: r, a, l, c, k + 1, b, h => by
    have h : r[k]? = some b := by simpa using h
    show ∃ l' c', (@Bool.rec (fun _ => List Ru) (runesP r (a + 1) l (c + 1)) (runesP r (a + 1) (l + 1) 1) (Nat.beq x 10))[k]? = _
    have e : a + (k + 1) = a + 1 + k := by omega
    rw [e]
    cases Nat.beq x 10 with
    | false => exact runesP_at r (a + 1) l (c + 1) k b h
    | true => exact runesP_at r (a + 1) (l + 1) 1 k b h

theorem Tx.len {bs n l} (h : Tx bs n l) : l.length = n + 1 := by rw [h.hl, runesF_length, ← h.hn]

theorem Tx.get {bs n l} (h : Tx bs n l) {k : Nat} (hk : k ≤ n) : ∃ x, l[k]? = some x ∧ x.at_ = k ∧ ((k < n ∧ bs[k]? = some x.r ∧ x.n = 1) ∨ (k = n ∧ x.r = 0 ∧ x.n = 0)) := by
  rcases Nat.lt_or_ge k n with hlt | hge
  · have hkb : k < bs.length := by rw [← h.hn]; exact hlt
    have hb : bs[k]? = some bs[k] := List.getElem?_eq_getElem hkb
    obtain ⟨l', c', hx⟩ := runesP_at bs 0 1 1 k _ hb
    refine ⟨⟨bs[k], 0 + k, 1, l', c'⟩, ?_, ?_, .inl ⟨hlt, hb, rfl⟩⟩
    · rw [h.hl, runesF_eq, List.getElem?_append_left (by rw [runesP_length, ← h.hn]; exact hlt), hx]
    · exact Nat.zero_add k
  · have : k = n := by omega
    subst this
    refine ⟨⟨0, 0 + bs.length, 0, (endLC bs 1 1).1, (endLC bs 1 1).2⟩, ?_, ?_, .inr ⟨rfl, ?_, ?_⟩⟩
    · rw [h.hl, runesF_eq, List.getElem?_append_right (by rw [runesP_length, ← h.hn]; exact Nat.le_refl _), runesP_length, ← h.hn, Nat.sub_self]; rfl
    · show 0 + bs.length = k
      rw [h.hn, Nat.zero_add]
    · rfl
    · rfl

theorem ru_at {l : List Ru} {k : Nat} {x : Ru} (h : l[k]? = some x) : (Sy.Cont.seg 0 (ruCells l)).at (0 + k * 5) = some (.int .i64 (Int.ofNat x.r)) ∧ (Sy.Cont.seg 0 (ruCells l)).at (0 + k * 5 + 1) = some (.int .i64 (Int.ofNat x.at_)) ∧ (Sy.Cont.seg 0 (ruCells l)).at (0 + k * 5 + 1 + 1) = some (.int .i64 (Int.ofNat x.n)) ∧
    (Sy.Cont.seg 0 (ruCells l)).at (0 + k * 5 + 1 + 1 + 1) = some (.int .i64 (Int.ofNat x.line)) ∧ (Sy.Cont.seg 0 (ruCells l)).at (0 + k * 5 + 1 + 1 + 1 + 1) = some (.int .i64 (Int.ofNat x.col)) := by
  have hh : ∀ j u, x.cells[j]? = some u → (Sy.Cont.seg 0 (ruCells l)).at (0 + k * 5 + j) = some u := fun j u hu => by
    simp only [Sy.Cont.at]
    rw [if_pos (by omega), show 0 + k * 5 + j - 0 = k * 5 + j by omega]
    exact flat_at Ru.cells 5 (fun _ => rfl) h j u hu
  exact ⟨hh 0 _ rfl, hh 1 _ rfl, hh 2 _ rfl, hh 3 _ rfl, hh 4 _ rfl⟩

/-- How many blanks come first. -/
noncomputable def blanksF (l : List Ru) : Nat := @List.rec Ru (fun _ => Nat) 0 (fun x _ ih => @Bool.rec (fun _ => Nat) 0 (Nat.succ ih) (blF (Int.ofNat x.r) (Int.ofNat x.n))) l

theorem blanksF_cons (x : Ru) (r : List Ru) : blanksF (x :: r) = if blF (Int.ofNat x.r) (Int.ofNat x.n) = true then blanksF r + 1 else 0 := by
  show @Bool.rec (fun _ => Nat) 0 (blanksF r + 1) (blF (Int.ofNat x.r) (Int.ofNat x.n)) = _
  cases blF (Int.ofNat x.r) (Int.ofNat x.n) <;> rfl

noncomputable def loopK (g n cb gl cl k0 : Nat) (bs : List Nat) (l : List Ru) : Sy.LoopC :=
  ⟨.loop bodySk, 53, slK g n cb gl (n + 1) cl k0, Tx bs n l ∧ k0 ≤ n, ⟨[(g, .seg 0 (bcells bs)), (gl, .seg 0 (ruCells l))], [], 0, []⟩,
    [(⟨fun _ => True, fun _ => [], fun _ => []⟩, .ret, fun _ => [(6, .int .i64 (Int.ofNat (k0 + blanksF (l.drop k0))))])]⟩

theorem bl_end (r : Int) : blF r (Int.ofNat 0) = false := rfl

theorem w_inc {k : Nat} (h : k < 2000000) : Ex.wrapQ .i64 (Ex.addQ (Int.ofNat k) 1) = Int.ofNat (k + 1) := Sy.inc_q k (by omega)

theorem begNo_slash {bs n l} (h : Tx bs n l) (k : Nat) : begF bs k slsl = false := by
  cases hb : begF bs k slsl with
  | false => rfl
  | true =>
    obtain ⟨b, h1, h2⟩ := (begF_iff _ _ _).1 hb 0 (by decide)
    have : b = 47 := by
      have h3 : (b : Int) = 47 := h2
      omega
    subst this
    exact (h.sl (List.mem_of_getElem? h1)).elim

theorem blanks_le {bs n l} (h : Tx bs n l) {k : Nat} (hk : k ≤ n) : k + blanksF (l.drop k) ≤ n := by
  obtain ⟨m, hm⟩ : ∃ m, m = n - k := ⟨_, rfl⟩
  induction m generalizing k with
  | zero =>
    have : k = n := by omega
    subst this
    obtain ⟨x, hx, -, h3⟩ := h.get (Nat.le_refl k)
    rcases h3 with ⟨h4, -⟩ | ⟨-, -, h5⟩
    · omega
    · have hlt : k < l.length := by rw [h.len]; omega
      have hxe : l[k] = x := by rw [List.getElem?_eq_getElem hlt] at hx; injection hx
      rw [List.drop_eq_getElem_cons hlt, hxe, blanksF_cons, if_neg (by rw [h5, bl_end]; simp)]
      omega
  | succ m ih =>
    have hlt : k < l.length := by rw [h.len]; omega
    rw [List.drop_eq_getElem_cons hlt, blanksF_cons]
    split
    · have := ih (k := k + 1) (by omega) (by omega)
      omega
    · omega

theorem loopK_met (g n cb gl cl k0 : Nat) (bs : List Nat) (l : List Ru) : Sy.MeetsL Try.prog (loopK g n cb gl cl k0 bs l) := by
  refine Sy.loop_of (n := 50) (fn := fSkipped) (ctxS_holds g n cb bs) mixed (body := bodySk) rfl [0, 1, 2, 6] (fun k : Nat => slK g n cb gl (n + 1) cl k) (fun _ => memK g gl bs (ruCells l)) (fun k => k ≤ n ∧ Tx bs n l ∧ k + blanksF (l.drop k) = k0 + blanksF (l.drop k0)) (fun k => n - k)
    k0 (fun h => ⟨h.2, h.1, rfl⟩) (fun p hp => hp) [0, 1] (by decide) rfl (o := fun _ => skB_o) (R := fun k xs => skB_R g n cb gl (n + 1) cl k bs (ruCells l) xs) (fun k xs _ => skB_run g n cb gl (n + 1) cl k bs (ruCells l) xs) ?_
  rintro - k rest ⟨hk, hT, he⟩ ns
  obtain ⟨x, hx, hat, hc⟩ := hT.get hk
  obtain ⟨a0, a1, a2, a3, a4⟩ := ru_at hx
  have hlt : k < l.length := by rw [hT.len]; omega
  have hxe : l[k] = x := by rw [List.getElem?_eq_getElem hlt] at hx; injection hx
  rw [List.drop_eq_getElem_cons hlt, hxe, blanksF_cons] at he
  have hsm := hT.small
  simp only [skB_R, Sy.Res.holds, show Int.toNat (Int.ofNat k) = k from rfl, Nat.succ_eq_add_one, a0, a1, a2, a3, a4, Option.some.injEq, Value.int.injEq, true_and, exists_eq', Sy.b_f]
  have hr : (0 : Int) ≤ Int.ofNat k ∧ Int.ofNat k < ((n + 1 : Nat) : Int) := ⟨Int.natCast_nonneg k, by show (k : Int) < _; omega⟩
  refine ⟨hr, fun h0 h1 h2 h3 h4 _ => ?_⟩
  rw [← h0, ← h2]
  refine ⟨fun hb => ?_, fun hb => ⟨hr, fun h5 => ⟨⟨k, ?_, ⟨hT.hn, hk, by omega, by decide⟩, by rw [begNo_slash hT k]; simp⟩, fun _ => ?_⟩⟩⟩
  · rw [if_pos hb] at he
    have hkn : k < n := by
      rcases hc with ⟨h, -⟩ | ⟨-, -, h⟩
      · exact h
      · rw [h, bl_end] at hb; simp at hb
    refine Sy.leafL_next (k + 1) rfl ⟨by omega, hT, by omega⟩ (by show n - (k + 1) < n - k; omega) ?_ [0, 1] (by decide) rfl
    rw [w_inc (by omega)]; rfl
  · rw [← h5, hat]; rfl
  · rw [if_neg hb] at he
    refine Sy.leafL_end 0 rfl rfl (by simp) rfl [] rfl [3] ?_ [] (by decide) trivial trivial
    show [(6, Value.int .i64 (Int.ofNat (k0 + blanksF (l.drop k0))))] = _
    rw [← he]
    rfl

noncomputable def skC (g n cb gl cl k : Nat) (bs : List Nat) (l : List Ru) : Sy.CallC :=
  ⟨fSkipped, #[.slice (some ⟨g, 0, none⟩) n cb, .slice (some ⟨gl, 0, none⟩) (n + 1) cl, .int .i64 (Int.ofNat k)], Tx bs n l ∧ k ≤ n, ⟨[(g, .seg 0 (bcells bs)), (gl, .seg 0 (ruCells l))], [], 0, []⟩, [Sy.plainO (.int .i64 (Int.ofNat (k + blanksF (l.drop k))))]⟩
noncomputable def ctxSk (g n cb gl cl k : Nat) (bs : List Nat) (l : List Ru) : Sy.Ctx := Sy.mkS [] [(fSkipped, fun _ _ => loopK g n cb gl cl k bs l)] []
theorem ctxSk_holds (g n cb gl cl k : Nat) (bs : List Nat) (l : List Ru) : (ctxSk g n cb gl cl k bs l).holds Try.prog := Sy.mkS_holds (fun _ h => (by cases h)) (fun p hp a L => by
  rcases List.mem_singleton.1 hp with rfl
  exact loopK_met _ _ _ _ _ _ _ _) (fun _ h => (by cases h))

def sk_o : Sy.O := (Sy.O.steps [0, 0, 0, 0, 0, 0, 0, 0] Sy.O.nil)
noncomputable def sk_R (g : Nat) (n : Nat) (cb : Nat) (gl : Nat) (cl : Nat) (k : Nat) (bs : List Nat) (l : List Ru) (ns : Nat → Sy.Let) : Sy.Res (Value × List Blk) := .need (Tx bs n l ∧ k ≤ n) (.hyp True (.leaf (.int .i64 (Int.ofNat (k + blanksF (List.drop k l))), [])))

theorem sk_run (g n cb gl cl k : Nat) (bs : List Nat) (l : List Ru) : Sy.Ran (Sy.inT Try.prog (ctxSk g n cb gl cl k bs l) 50 fSkipped (skC g n cb gl cl k bs l).args (Sy.blks (skC g n cb gl cl k bs l).mem) Sy.noB) sk_o (sk_R g n cb gl cl k bs l) := ⟨fun ns => by kernel_rfl, fun ns => by kernel_rfl⟩

theorem skC_met (g n cb gl cl k : Nat) (bs : List Nat) (l : List Ru) : Sy.Meets Try.prog (skC g n cb gl cl k bs l) := by
  refine Sy.meets_of (ctxSk_holds g n cb gl cl k bs l) mixed (sk_run g n cb gl cl k bs l) fun hok ns => ?_
  simp only [sk_R, Sy.Res.holds]
  exact ⟨hok, fun _ => Sy.plainO_leaf (List.mem_singleton_self _) rfl rfl⟩

end Go.Proofs.Ytbgmkefehfjicaa

/-
  The reference's lexer: the Words.
-/
namespace Go.Proofs.Ytbgmkefehfjicaa
set_option linter.unusedVariables false
set_option linter.unusedSimpArgs false
open Go Go.RowKit
open Sy (Let Blk)

abbrev fIsWord : FuncId := 53
def iw_o : Sy.O := (Sy.O.steps [0, 0, 0, 0, 0, 0, 0] (Sy.O.fork Sy.O.nil (Sy.O.steps [0, 0, 0, 0, 0, 0, 0] (Sy.O.fork Sy.O.nil (Sy.O.steps [0, 0, 0, 0, 0, 0, 0] (Sy.O.fork Sy.O.nil (Sy.O.steps [0, 0, 0, 0, 0, 0, 0] (Sy.O.fork Sy.O.nil (Sy.O.steps [0, 0, 0, 0, 0, 0, 0] (Sy.O.fork Sy.O.nil (Sy.O.steps [0, 0, 0, 0, 0, 0, 0] (Sy.O.fork Sy.O.nil (Sy.O.steps [0, 0, 0, 0, 0, 0, 0] (Sy.O.fork Sy.O.nil (Sy.O.steps [0, 0, 0, 0, 0, 0, 0] (Sy.O.fork Sy.O.nil (Sy.O.steps [0, 0, 0, 0, 0, 0, 0] (Sy.O.fork Sy.O.nil (Sy.O.steps [0, 0, 0, 0, 0, 0, 0] (Sy.O.fork Sy.O.nil (Sy.O.steps [0, 0, 0, 0, 0, 0, 0] (Sy.O.fork Sy.O.nil (Sy.O.steps [0, 0, 0, 0, 0, 0, 0] (Sy.O.fork Sy.O.nil (Sy.O.steps [0, 0, 0, 0, 0, 0, 0] (Sy.O.fork Sy.O.nil (Sy.O.steps [0, 0, 0, 0, 0, 0, 0] (Sy.O.fork Sy.O.nil (Sy.O.steps [0, 0, 0, 0, 0, 0, 0] (Sy.O.fork Sy.O.nil (Sy.O.steps [0, 0, 0, 0, 0, 0, 0] (Sy.O.fork Sy.O.nil (Sy.O.steps [0, 0, 0, 0, 0, 0, 0] (Sy.O.fork Sy.O.nil (Sy.O.steps [0, 0, 0, 0, 0, 0, 0] (Sy.O.fork Sy.O.nil (Sy.O.steps [0, 0] Sy.O.nil)))))))))))))))))))))))))))))))))))))
noncomputable def iw_R (s : ByteArray) (ns : Nat → Sy.Let) : Sy.Res (Value × List Blk) := .br (Sy.eqS (ByteArray.mk (Array.mk [(115 : UInt8), (104 : UInt8), (97 : UInt8), (114 : UInt8), (101 : UInt8), (100 : UInt8)])) s) (.leaf (Value.bool true, [])) (.br (Sy.eqS (ByteArray.mk (Array.mk [(116 : UInt8), (104 : UInt8), (114 : UInt8), (101 : UInt8), (97 : UInt8), (100 : UInt8)])) s) (.leaf (Value.bool true, [])) (.br (Sy.eqS (ByteArray.mk (Array.mk [(108 : UInt8), (101 : UInt8), (116 : UInt8)])) s) (.leaf (Value.bool true, [])) (.br (Sy.eqS (ByteArray.mk (Array.mk [(108 : UInt8), (111 : UInt8), (97 : UInt8), (100 : UInt8)])) s) (.leaf (Value.bool true, [])) (.br (Sy.eqS (ByteArray.mk (Array.mk [(115 : UInt8), (116 : UInt8), (111 : UInt8), (114 : UInt8), (101 : UInt8)])) s) (.leaf (Value.bool true, [])) (.br (Sy.eqS (ByteArray.mk (Array.mk [(120 : UInt8), (99 : UInt8), (104 : UInt8), (103 : UInt8)])) s) (.leaf (Value.bool true, [])) (.br (Sy.eqS (ByteArray.mk (Array.mk [(102 : UInt8), (97 : UInt8), (100 : UInt8), (100 : UInt8)])) s) (.leaf (Value.bool true, [])) (.br (Sy.eqS
 (ByteArray.mk (Array.mk [(99 : UInt8), (97 : UInt8), (115 : UInt8)])) s) (.leaf (Value.bool true, [])) (.br (Sy.eqS (ByteArray.mk (Array.mk [(102 : UInt8), (101 : UInt8), (110 : UInt8), (99 : UInt8), (101 : UInt8)])) s) (.leaf (Value.bool true, [])) (.br (Sy.eqS (ByteArray.mk (Array.mk [(112 : UInt8), (114 : UInt8), (105 : UInt8), (110 : UInt8), (116 : UInt8)])) s) (.leaf (Value.bool true, [])) (.br (Sy.eqS (ByteArray.mk (Array.mk [(105 : UInt8), (102 : UInt8)])) s) (.leaf (Value.bool true, [])) (.br (Sy.eqS (ByteArray.mk (Array.mk [(101 : UInt8), (108 : UInt8), (115 : UInt8), (101 : UInt8)])) s) (.leaf (Value.bool true, [])) (.br (Sy.eqS (ByteArray.mk (Array.mk [(119 : UInt8), (104 : UInt8), (105 : UInt8), (108 : UInt8), (101 : UInt8)])) s) (.leaf (Value.bool true, [])) (.br (Sy.eqS (ByteArray.mk (Array.mk [(114 : UInt8), (108 : UInt8), (120 : UInt8)])) s) (.leaf (Value.bool true, [])) (.br (Sy.eqS (ByteArray.mk (Array.mk [(97 : UInt8), (99 : UInt8), (113 : UInt8)])) s) (.leaf
 (Value.bool true, [])) (.br (Sy.eqS (ByteArray.mk (Array.mk [(114 : UInt8), (101 : UInt8), (108 : UInt8)])) s) (.leaf (Value.bool true, [])) (.br (Sy.eqS (ByteArray.mk (Array.mk [(97 : UInt8), (99 : UInt8), (113 : UInt8), (114 : UInt8), (101 : UInt8), (108 : UInt8)])) s) (.leaf (Value.bool true, [])) (.br (Sy.eqS (ByteArray.mk (Array.mk [(115 : UInt8), (99 : UInt8)])) s) (.leaf (Value.bool true, [])) (.leaf (Value.bool false, [])))))))))))))))))))

theorem iw_run (s : ByteArray) : Sy.Ran (Sy.inC Try.prog Sy.S0 60 fIsWord #[.string s] [] Sy.noB) iw_o (iw_R s) := ⟨fun ns => by kernel_rfl, fun ns => by kernel_rfl⟩

/-- Is it one of the Words? -/
noncomputable def isWordF (s : ByteArray) : Bool := bif (Sy.eqS ⟨⟨[115, 104, 97, 114, 101, 100]⟩⟩ s) then true else bif (Sy.eqS ⟨⟨[116, 104, 114, 101, 97, 100]⟩⟩ s) then true else bif (Sy.eqS ⟨⟨[108, 101, 116]⟩⟩ s) then true else bif (Sy.eqS ⟨⟨[108, 111, 97, 100]⟩⟩ s) then true else bif (Sy.eqS ⟨⟨[115, 116, 111, 114, 101]⟩⟩ s) then true else bif (Sy.eqS ⟨⟨[120, 99, 104, 103]⟩⟩ s) then true else bif (Sy.eqS ⟨⟨[102, 97, 100, 100]⟩⟩ s) then true else bif (Sy.eqS ⟨⟨[99, 97, 115]⟩⟩ s) then true else bif (Sy.eqS ⟨⟨[102, 101, 110, 99, 101]⟩⟩ s) then true else bif (Sy.eqS ⟨⟨[112, 114, 105, 110, 116]⟩⟩ s) then true else bif (Sy.eqS ⟨⟨[105, 102]⟩⟩ s) then true else bif (Sy.eqS ⟨⟨[101, 108, 115, 101]⟩⟩ s) then true else bif (Sy.eqS ⟨⟨[119, 104, 105, 108, 101]⟩⟩ s) then true else bif (Sy.eqS ⟨⟨[114, 108, 120]⟩⟩ s) then true else bif (Sy.eqS ⟨⟨[97, 99, 113]⟩⟩ s) then true else bif (Sy.eqS ⟨⟨[114, 101, 108]⟩⟩ s) then true else bif (Sy.eqS ⟨⟨[97, 99, 113, 114, 101, 108]⟩⟩ s) then true else bif (Sy.eqS ⟨⟨[115, 99]⟩⟩ s) then true else false
noncomputable def iwC (s : ByteArray) : Sy.CallC := Sy.plainC fIsWord #[.string s] (.bool (isWordF s))
theorem iwC_met (s : ByteArray) : Sy.Meets Try.prog (iwC s) := by
  refine Sy.meets_ofC Sy.S0_holds mixed (iw_run s) fun hok ns => ?_
  simp only [iw_R, Sy.Res.holds]
  unfold iwC isWordF
  generalize (Sy.eqS ⟨⟨[115, 104, 97, 114, 101, 100]⟩⟩ s) = b0
  generalize (Sy.eqS ⟨⟨[116, 104, 114, 101, 97, 100]⟩⟩ s) = b1
  generalize (Sy.eqS ⟨⟨[108, 101, 116]⟩⟩ s) = b2
  generalize (Sy.eqS ⟨⟨[108, 111, 97, 100]⟩⟩ s) = b3
  generalize (Sy.eqS ⟨⟨[115, 116, 111, 114, 101]⟩⟩ s) = b4
  generalize (Sy.eqS ⟨⟨[120, 99, 104, 103]⟩⟩ s) = b5
  generalize (Sy.eqS ⟨⟨[102, 97, 100, 100]⟩⟩ s) = b6
  generalize (Sy.eqS ⟨⟨[99, 97, 115]⟩⟩ s) = b7
  generalize (Sy.eqS ⟨⟨[102, 101, 110, 99, 101]⟩⟩ s) = b8
  generalize (Sy.eqS ⟨⟨[112, 114, 105, 110, 116]⟩⟩ s) = b9
  generalize (Sy.eqS ⟨⟨[105, 102]⟩⟩ s) = b10
  generalize (Sy.eqS ⟨⟨[101, 108, 115, 101]⟩⟩ s) = b11
  generalize (Sy.eqS ⟨⟨[119, 104, 105, 108, 101]⟩⟩ s) = b12
  generalize (Sy.eqS ⟨⟨[114, 108, 120]⟩⟩ s) = b13
  generalize (Sy.eqS ⟨⟨[97, 99, 113]⟩⟩ s) = b14
  generalize (Sy.eqS ⟨⟨[114, 101, 108]⟩⟩ s) = b15
  generalize (Sy.eqS ⟨⟨[97, 99, 113, 114, 101, 108]⟩⟩ s) = b16
  generalize (Sy.eqS ⟨⟨[115, 99]⟩⟩ s) = b17
  repeat' (first | apply And.intro | intro)
  all_goals
    refine Sy.plainO_leaf (List.mem_singleton_self _) rfl ?_
    simp_all

end Go.Proofs.Ytbgmkefehfjicaa

/-
  The reference's lexer: numbers (of ten).
-/
namespace Go.Proofs.Ytbgmkefehfjicaa
set_option linter.unusedVariables false
set_option linter.unusedSimpArgs false
open Go Go.RowKit
open Sy (Let Blk)

abbrev fNumber : FuncId := 51
noncomputable def bodyN : Code := Sy.loopBody Try.f51 0

/-- It is no number of sixteen. -/
def OkH (u v : Value) : Prop := u = .bool false ∨ u = .bool true ∧ v = .bool false
noncomputable def hxS (u v : Value) : Sem Next := do pure (.value (if ← asBool u then v else .bool false))
noncomputable def hxK (a : Sy.F) (_ : List Sy.Blk) : Sy.OpK := ⟨hxS (a.get 28) (a.get 44), OkH (a.get 28) (a.get 44), ⟨⟨[], [], 0, []⟩, [(⟨fun _ => True, fun _ => [], fun _ => []⟩, fun _ => some (.bool false))]⟩⟩
theorem hxK_meets (a : Sy.F) (L : List Sy.Blk) : (hxK a L).meets Try.prog := by
  rintro h W _
  refine ⟨_, List.mem_singleton_self _, [], W, ?_, rfl, trivial, rfl, rfl, rfl, Nat.le_refl _, fun _ _ _ => rfl, fun p hp => (by cases hp), List.nodup_nil, fun _ hp => (by cases hp), List.nodup_nil, fun _ hp => (by cases hp)⟩
  show (hxS (a.get 28) (a.get 44)).run Try.prog W = .ok (.value (.bool false)) W
  have h : OkH (a.get 28) (a.get 44) := h
  rcases h with h | ⟨h1, h2⟩
  · rw [h]; rfl
  · rw [h1, h2]; rfl

noncomputable def slN (gl m cl p6 k v : Nat) : List (Nat × Value) := [(0, .slice (some ⟨gl, 0, none⟩) m cl), (1, .int .i64 (Int.ofNat k)), (6, .pointer (some ⟨p6, 0, none⟩)), (8, .int .u64 10), (9, .int .u64 (Int.ofNat v)), (10, .bool false)]
noncomputable def ctxN : Sy.Ctx := Sy.mkS [(fSixteen, fun a _ => ruK sxC a), (fLetter, fun a _ => ruK ltC a), (fDigit, fun a _ => ruK dgC a)] [] []

def nuB_o : Sy.O := (Sy.O.steps [0, 1, 0, 0, 1, 1, 1, 1, 1, 1, 1, 0, 0, 0, 0] (Sy.O.fork (Sy.O.steps [0, 1, 0, 0, 1, 1, 1, 1, 1, 1, 1, 0, 0, 0, 0, 0, 0, 0, 0, 0, 0] Sy.O.nil) Sy.O.nil))
noncomputable def nuB_R (gl : Nat) (m : Nat) (cl : Nat) (p6 : Nat) (k : Nat) (v : Nat) (xs : List Value) (rest : List Value) (ns : Nat → Sy.Let) : Sy.Res (Exit × Nat × List Value × List Blk) := .need ((0 : Int) ≤ Int.ofNat k ∧ Int.ofNat k < (↑m : Int)) (.need (∃ (i : Int), Sy.Cont.at (.seg (0 : Nat) xs) ((0 : Nat) + Int.toNat (Int.ofNat k) * (5 : Nat)) = some (.int .i64 i)) (.hyp (Sy.Cont.at (.seg (0 : Nat) xs) ((0 : Nat) + Int.toNat (Int.ofNat k) * (5 : Nat)) = some (.int .i64 (Let.i (ns 0)))) (.need (∃ (i : Int), Sy.Cont.at (.seg (0 : Nat) xs) ((0 : Nat) + Int.toNat (Int.ofNat k) * (5 : Nat) + (1 : Nat)) = some (.int .i64 i)) (.hyp (Sy.Cont.at (.seg (0 : Nat) xs) ((0 : Nat) + Int.toNat (Int.ofNat k) * (5 : Nat) + (1 : Nat)) = some (.int .i64 (Let.i (ns 1)))) (.need (∃ (i : Int), Sy.Cont.at (.seg (0 : Nat) xs) ((0 : Nat) + Int.toNat (Int.ofNat k) * (5 : Nat) + (1 : Nat) + (1 : Nat)) = some (.int .i64 i)) (.hyp (Sy.Cont.at (.seg (0 : Nat) xs) ((0 : Nat) + Int.toNat (Int.ofNat k) * (5 : Nat) + (1 : Nat) + (1 : Nat)) = some (.int .i64 (Let.i (ns 2)))) (.need (∃ (i : Int), Sy.Cont.at (.seg (0 : Nat) xs) ((0 : Nat) + Int.toNat (Int.ofNat k) * (5 : Nat) + (1 : Nat) + (1 : Nat) +
 (1 : Nat)) = some (.int .i64 i)) (.hyp (Sy.Cont.at (.seg (0 : Nat) xs) ((0 : Nat) + Int.toNat (Int.ofNat k) * (5 : Nat) + (1 : Nat) + (1 : Nat) + (1 : Nat)) = some (.int .i64 (Let.i (ns 3)))) (.need (∃ (i : Int), Sy.Cont.at (.seg (0 : Nat) xs) ((0 : Nat) + Int.toNat (Int.ofNat k) * (5 : Nat) + (1 : Nat) + (1 : Nat) + (1 : Nat) + (1 : Nat)) = some (.int .i64 i)) (.hyp (Sy.Cont.at (.seg (0 : Nat) xs) ((0 : Nat) + Int.toNat (Int.ofNat k) * (5 : Nat) + (1 : Nat) + (1 : Nat) + (1 : Nat) + (1 : Nat)) = some (.int .i64 (Let.i (ns 4)))) (.need True (.hyp True (.br (Ex.ltQ (Ex.wrapQ .u64 (sxF (Let.i (ns 0)) (Let.i (ns 2)))) (10 : Int)) (.need ((0 : Int) ≤ Int.ofNat k ∧ Int.ofNat k < (↑m : Int)) (.need (∃ (i : Int), Sy.Cont.at (.seg (0 : Nat) xs) ((0 : Nat) + Int.toNat (Int.ofNat k) * (5 : Nat)) = some (.int .i64 i)) (.hyp (Sy.Cont.at (.seg (0 : Nat) xs) ((0 : Nat) + Int.toNat (Int.ofNat k) * (5 : Nat)) = some (.int .i64 (Let.i (ns 5)))) (.need (∃ (i : Int), Sy.Cont.at (.seg (0 : Nat) xs) ((0 :
 Nat) + Int.toNat (Int.ofNat k) * (5 : Nat) + (1 : Nat)) = some (.int .i64 i)) (.hyp (Sy.Cont.at (.seg (0 : Nat) xs) ((0 : Nat) + Int.toNat (Int.ofNat k) * (5 : Nat) + (1 : Nat)) = some (.int .i64 (Let.i (ns 6)))) (.need (∃ (i : Int), Sy.Cont.at (.seg (0 : Nat) xs) ((0 : Nat) + Int.toNat (Int.ofNat k) * (5 : Nat) + (1 : Nat) + (1 : Nat)) = some (.int .i64 i)) (.hyp (Sy.Cont.at (.seg (0 : Nat) xs) ((0 : Nat) + Int.toNat (Int.ofNat k) * (5 : Nat) + (1 : Nat) + (1 : Nat)) = some (.int .i64 (Let.i (ns 7)))) (.need (∃ (i : Int), Sy.Cont.at (.seg (0 : Nat) xs) ((0 : Nat) + Int.toNat (Int.ofNat k) * (5 : Nat) + (1 : Nat) + (1 : Nat) + (1 : Nat)) = some (.int .i64 i)) (.hyp (Sy.Cont.at (.seg (0 : Nat) xs) ((0 : Nat) + Int.toNat (Int.ofNat k) * (5 : Nat) + (1 : Nat) + (1 : Nat) + (1 : Nat)) = some (.int .i64 (Let.i (ns 8)))) (.need (∃ (i : Int), Sy.Cont.at (.seg (0 : Nat) xs) ((0 : Nat) + Int.toNat (Int.ofNat k) * (5 : Nat) + (1 : Nat) + (1 : Nat) + (1 : Nat) + (1 : Nat)) = some (.int .i64 i))
 (.hyp (Sy.Cont.at (.seg (0 : Nat) xs) ((0 : Nat) + Int.toNat (Int.ofNat k) * (5 : Nat) + (1 : Nat) + (1 : Nat) + (1 : Nat) + (1 : Nat)) = some (.int .i64 (Let.i (ns 9)))) (.need True (.hyp True (.leaf (Exit.normal, (118 : Nat), [.slice (some (Addr.mk gl 0 none)) m cl, .int .i64 (Ex.wrapQ .i64 (Ex.addQ (Int.ofNat k) (1 : Int))), .pointer (some (Addr.mk p6 0 none)), .int .u64 (10 : Int), .int .u64 (Ex.wrapQ .u64 (Ex.addQ (Ex.wrapQ .u64 (Ex.mulQ (Int.ofNat v) (10 : Int))) (Ex.wrapQ .u64 (sxF (Let.i (ns 5)) (Let.i (ns 7)))))), Value.bool (bif false then true else Ex.ltQ (Ex.wrapQ .u64 (Ex.quoQ (Ex.wrapQ .u64 (Ex.subQ' (18446744073709551615 : Int) (Ex.wrapQ .u64 (sxF (Let.i (ns 5)) (Let.i (ns 7)))))) (nat_lit 10))) (Int.ofNat v))], [Blk.mk gl (.seg (0 : Nat) xs) false]))))))))))))))) (.leaf (Exit.exit (0 : Nat), (118 : Nat), [.slice (some (Addr.mk gl 0 none)) m cl, .int .i64 (Int.ofNat k), .pointer (some (Addr.mk p6 0 none)), .int .u64 (10 : Int), .int .u64 (Int.ofNat v), Value.bool false],
 [Blk.mk gl (.seg (0 : Nat) xs) false])))))))))))))))

theorem nuB_run (gl m cl p6 k v : Nat) (xs : List Value) (rest : List Value) : Sy.Ran (Sy.pieceT Try.prog ctxN 50 fNumber bodyN 118 (slN gl m cl p6 k v) rest [⟨gl, .seg 0 xs, false⟩] [0, 1, 6, 8, 9, 10]) nuB_o (nuB_R gl m cl p6 k v xs rest) := ⟨fun ns => by kernel_rfl, fun ns => by kernel_rfl⟩

def bigN : Nat := 1000000000000000000
theorem bigN_eq : bigN = 1000000000000000000 := rfl

/-- The digits of a number that is not too great: how many, and its value. -/
noncomputable def numF (l : List Ru) : Nat → Option (Nat × Nat) := @List.rec Ru (fun _ => Nat → Option (Nat × Nat)) (fun _ => none) (fun x _ ih v => match dgF (Int.ofNat x.r) (Int.ofNat x.n) with
  | true => match Nat.blt (Nat.add (Nat.mul v 10) (Nat.sub x.r 48)) bigN with
    | true => match ih (Nat.add (Nat.mul v 10) (Nat.sub x.r 48)) with
      | some (m, u) => some (Nat.succ m, u)
      | none => none
    | false => none
  | false => some (0, v)) l

theorem numF_cons (x : Ru) (r : List Ru) (v : Nat) : numF (x :: r) v = match dgF (Int.ofNat x.r) (Int.ofNat x.n) with
  | true => match Nat.blt (Nat.add (Nat.mul v 10) (Nat.sub x.r 48)) bigN with
    | true => match numF r (Nat.add (Nat.mul v 10) (Nat.sub x.r 48)) with
      | some (m, u) => some (Nat.succ m, u)
      | none => none
    | false => none
  | false => some (0, v) := by kernel_rfl

theorem Tx.small_r {bs n l} (h : Tx bs n l) {k : Nat} {x : Ru} (hx : l[k]? = some x) : x.r < 128 ∧ x.n < 2 := by
  have hk : k ≤ n := by
    have := (List.getElem?_eq_some_iff.1 hx).1
    rw [h.len] at this
    omega
  obtain ⟨y, hy, -, hc⟩ := h.get hk
  rw [hx] at hy
  injection hy with hy
  subst hy
  rcases hc with ⟨h1, h2, h3⟩ | ⟨h1, h2, h3⟩
  · exact ⟨h.asc _ (List.mem_of_getElem? h2), by omega⟩
  · exact ⟨by omega, by omega⟩

theorem dg_iff (r n : Nat) : dgF (Int.ofNat r) (Int.ofNat n) = true ↔ 0 < n ∧ 48 ≤ r ∧ r ≤ 57 := by
  simp only [dgF, Sy.b_and, Sy.q_lt, Sy.q_le]
  show ((0 : Int) < (n : Int) ∧ (48 : Int) ≤ (r : Int)) ∧ (r : Int) ≤ 57 ↔ _
  omega

theorem sx_dg {r n : Nat} (h : r < 128) (hd : dgF (Int.ofNat r) (Int.ofNat n) = true) : Ex.wrapQ .u64 (sxF (Int.ofNat r) (Int.ofNat n)) = ((r - 48 : Nat) : Int) := by
  unfold sxF
  rw [hd]
  obtain ⟨h1, h2, h3⟩ := (dg_iff r n).1 hd
  show Ex.wrapQ .u64 (Ex.wrapQ .i64 (Ex.subQ' (r : Int) 48)) = _
  rw [Ex.wrapQ_eq, Ex.wrapQ_eq, Ex.subQ_eq]
  simp [IntKind.wrap, IntKind.signed, IntKind.bits]
  omega

theorem sx_no {r n : Nat} (h : r < 128) (hd : dgF (Int.ofNat r) (Int.ofNat n) = false) : ¬ Ex.wrapQ .u64 (sxF (Int.ofNat r) (Int.ofNat n)) < 10 := by
  unfold sxF
  rw [hd]
  simp only [cond_false]
  have w87 : (bif (bif Ex.ltQ 0 (Int.ofNat n) then Ex.leQ 97 (Int.ofNat r) else false) then Ex.leQ (Int.ofNat r) 102 else false) = true → Ex.wrapQ .u64 (Ex.wrapQ .i64 (Ex.subQ' (Int.ofNat r) 87)) = ((r - 87 : Nat) : Int) ∧ 97 ≤ r := fun hc => by
    simp only [Sy.b_and, Sy.q_lt, Sy.q_le] at hc
    have h2 : (97 : Int) ≤ (r : Int) := hc.1.2
    rw [Ex.wrapQ_eq, Ex.wrapQ_eq, Ex.subQ_eq]
    show IntKind.u64.wrap (IntKind.i64.wrap ((r : Int) - 87)) = _ ∧ _
    simp [IntKind.wrap, IntKind.signed, IntKind.bits]
    omega
  have w55 : (bif (bif Ex.ltQ 0 (Int.ofNat n) then Ex.leQ 65 (Int.ofNat r) else false) then Ex.leQ (Int.ofNat r) 70 else false) = true → Ex.wrapQ .u64 (Ex.wrapQ .i64 (Ex.subQ' (Int.ofNat r) 55)) = ((r - 55 : Nat) : Int) ∧ 65 ≤ r := fun hc => by
    simp only [Sy.b_and, Sy.q_lt, Sy.q_le] at hc
    have h2 : (65 : Int) ≤ (r : Int) := hc.1.2
    rw [Ex.wrapQ_eq, Ex.wrapQ_eq, Ex.subQ_eq]
    show IntKind.u64.wrap (IntKind.i64.wrap ((r : Int) - 55)) = _ ∧ _
    simp [IntKind.wrap, IntKind.signed, IntKind.bits]
    omega
  cases h1 : (bif (bif Ex.ltQ 0 (Int.ofNat n) then Ex.leQ 97 (Int.ofNat r) else false) then Ex.leQ (Int.ofNat r) 102 else false) with
  | true =>
    obtain ⟨e, h2⟩ := w87 h1
    rw [cond_true, e]
    omega
  | false =>
    rw [cond_false]
    cases h3 : (bif (bif Ex.ltQ 0 (Int.ofNat n) then Ex.leQ 65 (Int.ofNat r) else false) then Ex.leQ (Int.ofNat r) 70 else false) with
    | true =>
      obtain ⟨e, h2⟩ := w55 h3
      rw [cond_true, e]
      omega
    | false =>
      rw [cond_false, Ex.wrapQ_eq]
      simp [IntKind.wrap, IntKind.signed, IntKind.bits]

noncomputable def loopN (n gl cl k0 : Nat) (bs : List Nat) (l : List Ru) (m v p6 : Nat) : Sy.LoopC :=
  ⟨.loop bodyN, 118, slN gl (n + 1) cl p6 k0 0, Tx bs n l ∧ k0 ≤ n ∧ numF (l.drop k0) 0 = some (m, v), ⟨[(gl, .seg 0 (ruCells l))], [], 0, []⟩,
    [(⟨fun _ => k0 + m ≤ n, fun _ => [], fun _ => []⟩, .exit 0, fun _ => slN gl (n + 1) cl p6 (k0 + m) v)]⟩

theorem ctxN_holds : ctxN.holds Try.prog := Sy.mkS_holds (fun p hp a L => by
  rcases List.mem_cons.1 hp with rfl | hp
  · exact ruK_met sxC_met a
  rcases List.mem_cons.1 hp with rfl | hp
  · exact ruK_met ltC_met a
  rcases List.mem_singleton.1 hp with rfl
  exact ruK_met dgC_met a) (fun _ h => (by cases h)) (fun _ h => (by cases h))

/-- The loop's state. -/
structure Ns where
  k : Nat
  v : Nat

theorem loopN_met (n gl cl k0 : Nat) (bs : List Nat) (l : List Ru) (m v p6 : Nat) : Sy.MeetsL Try.prog (loopN n gl cl k0 bs l m v p6) := by
  refine Sy.loop_of (n := 50) (fn := fNumber) ctxN_holds mixed (body := bodyN) rfl [0, 1, 6, 8, 9, 10] (fun s : Ns => slN gl (n + 1) cl p6 s.k s.v) (fun _ => [⟨gl, .seg 0 (ruCells l), false⟩])
    (fun s => s.k ≤ n ∧ s.v < bigN ∧ Tx bs n l ∧ ∃ m', numF (l.drop s.k) s.v = some (m', v) ∧ s.k + m' = k0 + m) (fun s => n - s.k)
    ⟨k0, 0⟩ (fun h => ⟨h.2.1, by show 0 < bigN; decide, h.1, m, h.2.2, rfl⟩) (fun p hp => hp) [0] (by decide) rfl (o := fun _ => nuB_o) (R := fun s xs => nuB_R gl (n + 1) cl p6 s.k s.v (ruCells l) xs) (fun s xs _ => nuB_run gl (n + 1) cl p6 s.k s.v (ruCells l) xs) ?_
  rintro - ⟨k, u⟩ rest ⟨hk, hu, hT, m', hm, he⟩ ns
  have hk : k ≤ n := hk
  have hu : u < bigN := hu
  have hm : numF (l.drop k) u = some (m', v) := hm
  have he : k + m' = k0 + m := he
  obtain ⟨x, hx, hat, hc⟩ := hT.get hk
  obtain ⟨hr, hn2⟩ := hT.small_r hx
  obtain ⟨a0, a1, a2, a3, a4⟩ := ru_at hx
  have hlt : k < l.length := by rw [hT.len]; omega
  have hxe : l[k] = x := by rw [List.getElem?_eq_getElem hlt] at hx; injection hx
  rw [List.drop_eq_getElem_cons hlt, hxe, numF_cons] at hm
  have hsm := hT.small
  simp only [nuB_R, Sy.Res.holds, show Int.toNat (Int.ofNat k) = k from rfl, a0, a1, a2, a3, a4, Option.some.injEq, Value.int.injEq, true_and, exists_eq', Sy.q_lt, Sy.b_f]
  have hr0 : (0 : Int) ≤ Int.ofNat k ∧ Int.ofNat k < ((n + 1 : Nat) : Int) := ⟨Int.natCast_nonneg k, by show (k : Int) < _; omega⟩
  refine ⟨hr0, fun h0 h1 h2 h3 h4 _ => ?_⟩
  rw [← h0, ← h2]
  cases hd : dgF (Int.ofNat x.r) (Int.ofNat x.n) with
  | true =>
    rw [hd] at hm
    have hs := sx_dg hr hd
    obtain ⟨d1, d2, d3⟩ := (dg_iff _ _).1 hd
    have hkn : k < n := by
      rcases hc with ⟨h, -⟩ | ⟨-, -, h⟩
      · exact h
      · omega
    simp only at hm
    cases hb : Nat.blt (Nat.add (Nat.mul u 10) (Nat.sub x.r 48)) bigN with
    | false => rw [hb] at hm; cases hm
    | true =>
      rw [hb] at hm
      have hb' : u * 10 + (x.r - 48) < bigN := by simpa using hb
      have hbe := bigN_eq
      simp only at hm
      cases hnx : numF (l.drop (k + 1)) (Nat.add (Nat.mul u 10) (Nat.sub x.r 48)) with
      | none => rw [hnx] at hm; cases hm
      | some q =>
        obtain ⟨m2, u2⟩ := q
        rw [hnx] at hm
        simp only [Option.some.injEq, Prod.mk.injEq] at hm
        obtain ⟨e1, e2⟩ := hm
        rw [hs]
        refine ⟨fun _ => ⟨hr0, fun h5 h6 h7 h8 h9 _ => ?_⟩, fun hno => (hno (by omega)).elim⟩
        rw [← h5, ← h7, hs]
        refine Sy.leafL_next ⟨k + 1, u * 10 + (x.r - 48)⟩ rfl ⟨by show k + 1 ≤ n; omega, hb', hT, m2, by rw [← e2]; exact hnx, by show k + 1 + m2 = k0 + m; omega⟩ (by show n - (k + 1) < n - k; omega) ?_ [0] (by decide) rfl
        have w1 : Ex.wrapQ .u64 (Ex.addQ (Ex.wrapQ .u64 (Ex.mulQ (Int.ofNat u) 10)) ((x.r - 48 : Nat) : Int)) = Int.ofNat (u * 10 + (x.r - 48)) := by
          rw [Ex.wrapQ_eq, Ex.addQ_eq, Ex.wrapQ_eq, Ex.mulQ_eq]
          show IntKind.u64.wrap (IntKind.u64.wrap ((u : Int) * 10) + ((x.r - 48 : Nat) : Int)) = ((u * 10 + (x.r - 48) : Nat) : Int)
          simp [IntKind.wrap, IntKind.signed, IntKind.bits]
          omega
        have w2 : Ex.ltQ (Ex.wrapQ .u64 (Ex.quoQ (Ex.wrapQ .u64 (Ex.subQ' 18446744073709551615 ((x.r - 48 : Nat) : Int))) 10)) (Int.ofNat u) = false := by
          cases hq : Ex.ltQ (Ex.wrapQ .u64 (Ex.quoQ (Ex.wrapQ .u64 (Ex.subQ' 18446744073709551615 ((x.r - 48 : Nat) : Int))) 10)) (Int.ofNat u) with
          | false => rfl
          | true =>
            rw [Sy.q_lt] at hq
            have e3 : Ex.wrapQ .u64 (Ex.subQ' 18446744073709551615 ((x.r - 48 : Nat) : Int)) = ((18446744073709551615 - (x.r - 48) : Nat) : Int) := by
              rw [Ex.wrapQ_eq, Ex.subQ_eq]
              simp [IntKind.wrap, IntKind.signed, IntKind.bits]
              omega
            rw [e3, Ex.wrapQ_eq, Ex.quoQ_eq] at hq
            have e4 : Int.tdiv ((18446744073709551615 - (x.r - 48) : Nat) : Int) 10 = (((18446744073709551615 - (x.r - 48)) / 10 : Nat) : Int) := rfl
            have hq : IntKind.u64.wrap (Int.tdiv ((18446744073709551615 - (x.r - 48) : Nat) : Int) 10) < (u : Int) := hq
            rw [e4] at hq
            simp [IntKind.wrap, IntKind.signed, IntKind.bits] at hq
            omega
        rw [w1, w_inc (by omega), w2]
        rfl
  | false =>
    rw [hd] at hm
    simp only [Option.some.injEq, Prod.mk.injEq] at hm
    obtain ⟨rfl, rfl⟩ := hm
    refine ⟨fun hlt => (sx_no hr hd hlt).elim, fun _ => ?_⟩
    refine Sy.leafL_end 0 rfl rfl (by simp) rfl [] rfl [0, 1, 2, 3, 4, 5] ?_ [] (by decide) trivial (by show k0 + m ≤ n; omega)
    show slN gl (n + 1) cl p6 (k0 + m) u = _
    rw [← he]
    rfl

def ltNo (r a n l c : Int) : Sy.CallC := ⟨fLetter, #[ruV r a n l c], ltF r n = false, ⟨[], [], 0, []⟩, [Sy.plainO (.bool false)]⟩
def dgNo (r a n l c : Int) : Sy.CallC := ⟨fDigit, #[ruV r a n l c], dgF r n = false, ⟨[], [], 0, []⟩, [Sy.plainO (.bool false)]⟩
theorem ltNo_met (r a n l c : Int) : Sy.Meets Try.prog (ltNo r a n l c) := by
  intro h W hpre
  have := ltC_met r a n l c trivial W ⟨fun _ h => (by cases h), fun _ h => (by cases h), List.nodup_nil, fun _ h => (by cases h), fun _ h => (by cases h), fun _ h => (by cases h)⟩
  unfold ltC ruC at this
  rw [show ltF r n = false from h] at this
  exact this
theorem dgNo_met (r a n l c : Int) : Sy.Meets Try.prog (dgNo r a n l c) := by
  intro h W hpre
  have := dgC_met r a n l c trivial W ⟨fun _ h => (by cases h), fun _ h => (by cases h), List.nodup_nil, fun _ h => (by cases h), fun _ h => (by cases h), fun _ h => (by cases h)⟩
  unfold dgC ruC at this
  rw [show dgF r n = false from h] at this
  exact this

noncomputable def nuC (n gl cl k : Nat) (bs : List Nat) (l : List Ru) (m v : Nat) : Sy.CallC :=
  ⟨fNumber, #[.slice (some ⟨gl, 0, none⟩) (n + 1) cl, .int .i64 (Int.ofNat k)], Tx bs n l ∧ k < n ∧ (∀ x y, l[k]? = some x → l[k + 1]? = some y → ¬ (x.r = 48 ∧ 0 < y.n ∧ (y.r = 120 ∨ y.r = 88))) ∧ numF (l.drop k) 0 = some (m, v) ∧ (∀ x, l[k + m]? = some x → ltF (Int.ofNat x.r) (Int.ofNat x.n) = false ∧ dgF (Int.ofNat x.r) (Int.ofNat x.n) = false),
    ⟨[(gl, .seg 0 (ruCells l))], [], 0, []⟩, [Sy.plainO (.tuple #[.int .u64 (Int.ofNat v), .int .i64 (Int.ofNat (k + m)), .agg #[.int .i64 0, .int .i64 0, .int .i64 0]])]⟩
noncomputable def ctxNu (n gl cl k : Nat) (bs : List Nat) (l : List Ru) (m v : Nat) : Sy.Ctx := Sy.mkS [(fSixteen, fun a _ => ruK sxC a), (fLetter, fun a _ => ruK ltNo a), (fDigit, fun a _ => ruK dgNo a)] [(fNumber, fun a _ => loopN n gl cl k bs l m v (Sy.ptrN (a.get 6)))] [(fNumber, 45, fun a L => hxK a L)]
def nu_o : Sy.O := (Sy.O.steps [0, 1, 0, 1, 1, 1, 1] (Sy.O.fork (Sy.O.steps [0, 0, 0, 0, 1, 0, 0, 0, 1, 1, 1, 1, 0] (Sy.O.fork (Sy.O.steps [0, 0, 0, 0, 1, 0, 0, 0, 1, 1, 1, 1, 0, 0] (Sy.O.fork (Sy.O.steps [0, 0, 0, 0, 0, 0, 0, 0, 0, 0, 0, 0, 0, 1, 0, 0, 0, 0, 0, 0, 1, 0, 0, 1, 1, 1, 1, 1, 1, 1, 0, 0, 0, 0, 0, 0, 0, 0, 1, 0, 0, 0, 1, 1, 1, 1, 1, 1, 1, 0, 0, 0, 0, 0, 0, 0, 1, 0, 0, 1] (Sy.O.steps [0] Sy.O.nil)) (Sy.O.steps [0, 0, 0, 0, 1, 0, 0, 0, 1, 1, 1, 1, 0, 0, 0, 0, 0, 0, 0, 0, 1, 0, 0, 0, 0, 0, 0, 1, 0, 0, 1, 1, 1, 1, 1, 1, 1, 0, 0, 0, 0, 0, 0, 0, 0, 1, 0, 0, 0, 1, 1, 1, 1, 1, 1, 1, 0, 0, 0, 0] (Sy.O.steps [0, 0, 0, 1, 0, 0, 1, 0] Sy.O.nil)))) (Sy.O.steps [0, 0, 0, 0, 0, 0, 0, 0, 0, 0, 0, 0, 0, 0, 1, 0, 0, 0, 0, 0, 0, 1, 0, 0, 1, 1, 1, 1, 1, 1, 1, 0, 0, 0, 0, 0, 0, 0, 0, 1, 0, 0, 0, 1, 1, 1, 1, 1, 1, 1, 0, 0, 0, 0, 0, 0, 0, 1, 0, 0] (Sy.O.steps [1, 0] Sy.O.nil)))) (Sy.O.steps [0, 0, 0, 0, 0, 0, 0, 0, 0, 0, 0, 0, 0, 0, 0, 0, 0, 0, 0, 0, 0, 1, 0, 0, 0, 0, 0, 0, 1, 0, 0, 1, 1, 1, 1, 1, 1, 1, 0, 0, 0, 0, 0, 0, 0, 0, 1, 0, 0, 0, 1, 1, 1, 1, 1, 1, 1, 0, 0, 0] (Sy.O.steps [0, 0, 0, 0, 1, 0, 0, 1, 0] Sy.O.nil))))
noncomputable def nu_R (n : Nat) (gl : Nat) (cl : Nat) (k : Nat) (bs : List Nat) (l : List Ru) (m : Nat) (v : Nat) (ns : Nat → Sy.Let) : Sy.Res (Value × List Blk) := .need ((0 : Int) ≤ Int.ofNat k ∧ Int.ofNat k < (↑(n + (1 : Nat)) : Int)) (.need (∃ (i : Int), Sy.Cont.at (.seg (0 : Nat) (ruCells l)) (Nat.add ((0 : Nat) + Int.toNat (Int.ofNat k) * (5 : Nat)) (0 : Nat)) = some (.int .i64 i)) (.hyp (Sy.Cont.at (.seg (0 : Nat) (ruCells l)) (Nat.add ((0 : Nat) + Int.toNat (Int.ofNat k) * (5 : Nat)) (0 : Nat)) = some (.int .i64 (Let.i (ns 1)))) (.br (Ex.eqQ (Let.i (ns 1)) (48 : Int)) (.need ((0 : Int) ≤ Ex.wrapQ .i64 (Ex.addQ (Int.ofNat k) (1 : Int)) ∧ Ex.wrapQ .i64 (Ex.addQ (Int.ofNat k) (1 : Int)) < (↑(n + (1 : Nat)) : Int)) (.need (∃ (i : Int), Sy.Cont.at (.seg (0 : Nat) (ruCells l)) (Nat.succ (Nat.succ ((0 : Nat) + Int.toNat (Ex.wrapQ .i64 (Ex.addQ (Int.ofNat k) (1 : Int))) * (5 : Nat)))) = some (.int .i64 i)) (.hyp (Sy.Cont.at (.seg (0 : Nat) (ruCells l)) (Nat.succ (Nat.succ ((0 : Nat) + Int.toNat (Ex.wrapQ .i64 (Ex.addQ (Int.ofNat k) (1 : Int))) * (5 : Nat)))) = some (.int .i64 (Let.i (ns 2)))) (.br (bif true then Ex.ltQ (0 : Int) (Let.i (ns 2))
 else false) (.need ((0 : Int) ≤ Ex.wrapQ .i64 (Ex.addQ (Int.ofNat k) (1 : Int)) ∧ Ex.wrapQ .i64 (Ex.addQ (Int.ofNat k) (1 : Int)) < (↑(n + (1 : Nat)) : Int)) (.need (∃ (i : Int), Sy.Cont.at (.seg (0 : Nat) (ruCells l)) (Nat.add ((0 : Nat) + Int.toNat (Ex.wrapQ .i64 (Ex.addQ (Int.ofNat k) (1 : Int))) * (5 : Nat)) (0 : Nat)) = some (.int .i64 i)) (.hyp (Sy.Cont.at (.seg (0 : Nat) (ruCells l)) (Nat.add ((0 : Nat) + Int.toNat (Ex.wrapQ .i64 (Ex.addQ (Int.ofNat k) (1 : Int))) * (5 : Nat)) (0 : Nat)) = some (.int .i64 (Let.i (ns 3)))) (.br (Ex.eqQ (Let.i (ns 3)) (120 : Int)) (.need (Value.bool true = Value.bool false ∨ Value.bool true = Value.bool true ∧ Value.bool true = Value.bool false) (.hyp True (.need (Tx bs n l ∧ k ≤ n ∧ numF (List.drop k l) (0 : Nat) = some (m, v)) (.hyp (Nat.le (k + m) n) (.need ((0 : Int) ≤ Int.ofNat (k + m) ∧ Int.ofNat (k + m) < (↑(n + (1 : Nat)) : Int)) (.need (∃ (i : Int), Sy.Cont.at (.seg (0 : Nat) (ruCells l)) ((0 : Nat) + Int.toNat (Int.ofNat (k + m)) * (5 :
 Nat)) = some (.int .i64 i)) (.hyp (Sy.Cont.at (.seg (0 : Nat) (ruCells l)) ((0 : Nat) + Int.toNat (Int.ofNat (k + m)) * (5 : Nat)) = some (.int .i64 (Let.i (ns 5)))) (.need (∃ (i : Int), Sy.Cont.at (.seg (0 : Nat) (ruCells l)) ((0 : Nat) + Int.toNat (Int.ofNat (k + m)) * (5 : Nat) + (1 : Nat)) = some (.int .i64 i)) (.hyp (Sy.Cont.at (.seg (0 : Nat) (ruCells l)) ((0 : Nat) + Int.toNat (Int.ofNat (k + m)) * (5 : Nat) + (1 : Nat)) = some (.int .i64 (Let.i (ns 6)))) (.need (∃ (i : Int), Sy.Cont.at (.seg (0 : Nat) (ruCells l)) ((0 : Nat) + Int.toNat (Int.ofNat (k + m)) * (5 : Nat) + (1 : Nat) + (1 : Nat)) = some (.int .i64 i)) (.hyp (Sy.Cont.at (.seg (0 : Nat) (ruCells l)) ((0 : Nat) + Int.toNat (Int.ofNat (k + m)) * (5 : Nat) + (1 : Nat) + (1 : Nat)) = some (.int .i64 (Let.i (ns 7)))) (.need (∃ (i : Int), Sy.Cont.at (.seg (0 : Nat) (ruCells l)) ((0 : Nat) + Int.toNat (Int.ofNat (k + m)) * (5 : Nat) + (1 : Nat) + (1 : Nat) + (1 : Nat)) = some (.int .i64 i)) (.hyp (Sy.Cont.at (.seg (0 : Nat)
 (ruCells l)) ((0 : Nat) + Int.toNat (Int.ofNat (k + m)) * (5 : Nat) + (1 : Nat) + (1 : Nat) + (1 : Nat)) = some (.int .i64 (Let.i (ns 8)))) (.need (∃ (i : Int), Sy.Cont.at (.seg (0 : Nat) (ruCells l)) ((0 : Nat) + Int.toNat (Int.ofNat (k + m)) * (5 : Nat) + (1 : Nat) + (1 : Nat) + (1 : Nat) + (1 : Nat)) = some (.int .i64 i)) (.hyp (Sy.Cont.at (.seg (0 : Nat) (ruCells l)) ((0 : Nat) + Int.toNat (Int.ofNat (k + m)) * (5 : Nat) + (1 : Nat) + (1 : Nat) + (1 : Nat) + (1 : Nat)) = some (.int .i64 (Let.i (ns 9)))) (.need (ltF (Let.i (ns 5)) (Let.i (ns 7)) = false) (.hyp True (.need ((0 : Int) ≤ Int.ofNat (k + m) ∧ Int.ofNat (k + m) < (↑(n + (1 : Nat)) : Int)) (.need (∃ (i : Int), Sy.Cont.at (.seg (0 : Nat) (ruCells l)) ((0 : Nat) + Int.toNat (Int.ofNat (k + m)) * (5 : Nat)) = some (.int .i64 i)) (.hyp (Sy.Cont.at (.seg (0 : Nat) (ruCells l)) ((0 : Nat) + Int.toNat (Int.ofNat (k + m)) * (5 : Nat)) = some (.int .i64 (Let.i (ns 10)))) (.need (∃ (i : Int), Sy.Cont.at (.seg (0 : Nat) (ruCells l))
 ((0 : Nat) + Int.toNat (Int.ofNat (k + m)) * (5 : Nat) + (1 : Nat)) = some (.int .i64 i)) (.hyp (Sy.Cont.at (.seg (0 : Nat) (ruCells l)) ((0 : Nat) + Int.toNat (Int.ofNat (k + m)) * (5 : Nat) + (1 : Nat)) = some (.int .i64 (Let.i (ns 11)))) (.need (∃ (i : Int), Sy.Cont.at (.seg (0 : Nat) (ruCells l)) ((0 : Nat) + Int.toNat (Int.ofNat (k + m)) * (5 : Nat) + (1 : Nat) + (1 : Nat)) = some (.int .i64 i)) (.hyp (Sy.Cont.at (.seg (0 : Nat) (ruCells l)) ((0 : Nat) + Int.toNat (Int.ofNat (k + m)) * (5 : Nat) + (1 : Nat) + (1 : Nat)) = some (.int .i64 (Let.i (ns 12)))) (.need (∃ (i : Int), Sy.Cont.at (.seg (0 : Nat) (ruCells l)) ((0 : Nat) + Int.toNat (Int.ofNat (k + m)) * (5 : Nat) + (1 : Nat) + (1 : Nat) + (1 : Nat)) = some (.int .i64 i)) (.hyp (Sy.Cont.at (.seg (0 : Nat) (ruCells l)) ((0 : Nat) + Int.toNat (Int.ofNat (k + m)) * (5 : Nat) + (1 : Nat) + (1 : Nat) + (1 : Nat)) = some (.int .i64 (Let.i (ns 13)))) (.need (∃ (i : Int), Sy.Cont.at (.seg (0 : Nat) (ruCells l)) ((0 : Nat) + Int.toNat
 (Int.ofNat (k + m)) * (5 : Nat) + (1 : Nat) + (1 : Nat) + (1 : Nat) + (1 : Nat)) = some (.int .i64 i)) (.hyp (Sy.Cont.at (.seg (0 : Nat) (ruCells l)) ((0 : Nat) + Int.toNat (Int.ofNat (k + m)) * (5 : Nat) + (1 : Nat) + (1 : Nat) + (1 : Nat) + (1 : Nat)) = some (.int .i64 (Let.i (ns 14)))) (.need (dgF (Let.i (ns 10)) (Let.i (ns 12)) = false) (.hyp True (.leaf (Value.tuple (Array.mk [.int .u64 (Int.ofNat v), .int .i64 (Int.ofNat (k + m)), Value.agg (Array.mk [.int .i64 (0 : Int), .int .i64 (0 : Int), .int .i64 (0 : Int)])]), [])))))))))))))))))))))))))))))))) (.need ((0 : Int) ≤ Ex.wrapQ .i64 (Ex.addQ (Int.ofNat k) (1 : Int)) ∧ Ex.wrapQ .i64 (Ex.addQ (Int.ofNat k) (1 : Int)) < (↑(n + (1 : Nat)) : Int)) (.need (∃ (i : Int), Sy.Cont.at (.seg (0 : Nat) (ruCells l)) (Nat.add ((0 : Nat) + Int.toNat (Ex.wrapQ .i64 (Ex.addQ (Int.ofNat k) (1 : Int))) * (5 : Nat)) (0 : Nat)) = some (.int .i64 i)) (.hyp (Sy.Cont.at (.seg (0 : Nat) (ruCells l)) (Nat.add ((0 : Nat) + Int.toNat (Ex.wrapQ .i64 (Ex.addQ
 (Int.ofNat k) (1 : Int))) * (5 : Nat)) (0 : Nat)) = some (.int .i64 (Let.i (ns 4)))) (.need (Value.bool true = Value.bool false ∨ Value.bool true = Value.bool true ∧ Value.bool (bif false then true else Ex.eqQ (Let.i (ns 4)) (88 : Int)) = Value.bool false) (.hyp True (.need (Tx bs n l ∧ k ≤ n ∧ numF (List.drop k l) (0 : Nat) = some (m, v)) (.hyp (Nat.le (k + m) n) (.need ((0 : Int) ≤ Int.ofNat (k + m) ∧ Int.ofNat (k + m) < (↑(n + (1 : Nat)) : Int)) (.need (∃ (i : Int), Sy.Cont.at (.seg (0 : Nat) (ruCells l)) ((0 : Nat) + Int.toNat (Int.ofNat (k + m)) * (5 : Nat)) = some (.int .i64 i)) (.hyp (Sy.Cont.at (.seg (0 : Nat) (ruCells l)) ((0 : Nat) + Int.toNat (Int.ofNat (k + m)) * (5 : Nat)) = some (.int .i64 (Let.i (ns 6)))) (.need (∃ (i : Int), Sy.Cont.at (.seg (0 : Nat) (ruCells l)) ((0 : Nat) + Int.toNat (Int.ofNat (k + m)) * (5 : Nat) + (1 : Nat)) = some (.int .i64 i)) (.hyp (Sy.Cont.at (.seg (0 : Nat) (ruCells l)) ((0 : Nat) + Int.toNat (Int.ofNat (k + m)) * (5 : Nat) + (1 : Nat)) =
 some (.int .i64 (Let.i (ns 7)))) (.need (∃ (i : Int), Sy.Cont.at (.seg (0 : Nat) (ruCells l)) ((0 : Nat) + Int.toNat (Int.ofNat (k + m)) * (5 : Nat) + (1 : Nat) + (1 : Nat)) = some (.int .i64 i)) (.hyp (Sy.Cont.at (.seg (0 : Nat) (ruCells l)) ((0 : Nat) + Int.toNat (Int.ofNat (k + m)) * (5 : Nat) + (1 : Nat) + (1 : Nat)) = some (.int .i64 (Let.i (ns 8)))) (.need (∃ (i : Int), Sy.Cont.at (.seg (0 : Nat) (ruCells l)) ((0 : Nat) + Int.toNat (Int.ofNat (k + m)) * (5 : Nat) + (1 : Nat) + (1 : Nat) + (1 : Nat)) = some (.int .i64 i)) (.hyp (Sy.Cont.at (.seg (0 : Nat) (ruCells l)) ((0 : Nat) + Int.toNat (Int.ofNat (k + m)) * (5 : Nat) + (1 : Nat) + (1 : Nat) + (1 : Nat)) = some (.int .i64 (Let.i (ns 9)))) (.need (∃ (i : Int), Sy.Cont.at (.seg (0 : Nat) (ruCells l)) ((0 : Nat) + Int.toNat (Int.ofNat (k + m)) * (5 : Nat) + (1 : Nat) + (1 : Nat) + (1 : Nat) + (1 : Nat)) = some (.int .i64 i)) (.hyp (Sy.Cont.at (.seg (0 : Nat) (ruCells l)) ((0 : Nat) + Int.toNat (Int.ofNat (k + m)) * (5 : Nat) + (1
 : Nat) + (1 : Nat) + (1 : Nat) + (1 : Nat)) = some (.int .i64 (Let.i (ns 10)))) (.need (ltF (Let.i (ns 6)) (Let.i (ns 8)) = false) (.hyp True (.need ((0 : Int) ≤ Int.ofNat (k + m) ∧ Int.ofNat (k + m) < (↑(n + (1 : Nat)) : Int)) (.need (∃ (i : Int), Sy.Cont.at (.seg (0 : Nat) (ruCells l)) ((0 : Nat) + Int.toNat (Int.ofNat (k + m)) * (5 : Nat)) = some (.int .i64 i)) (.hyp (Sy.Cont.at (.seg (0 : Nat) (ruCells l)) ((0 : Nat) + Int.toNat (Int.ofNat (k + m)) * (5 : Nat)) = some (.int .i64 (Let.i (ns 11)))) (.need (∃ (i : Int), Sy.Cont.at (.seg (0 : Nat) (ruCells l)) ((0 : Nat) + Int.toNat (Int.ofNat (k + m)) * (5 : Nat) + (1 : Nat)) = some (.int .i64 i)) (.hyp (Sy.Cont.at (.seg (0 : Nat) (ruCells l)) ((0 : Nat) + Int.toNat (Int.ofNat (k + m)) * (5 : Nat) + (1 : Nat)) = some (.int .i64 (Let.i (ns 12)))) (.need (∃ (i : Int), Sy.Cont.at (.seg (0 : Nat) (ruCells l)) ((0 : Nat) + Int.toNat (Int.ofNat (k + m)) * (5 : Nat) + (1 : Nat) + (1 : Nat)) = some (.int .i64 i)) (.hyp (Sy.Cont.at (.seg (0 :
 Nat) (ruCells l)) ((0 : Nat) + Int.toNat (Int.ofNat (k + m)) * (5 : Nat) + (1 : Nat) + (1 : Nat)) = some (.int .i64 (Let.i (ns 13)))) (.need (∃ (i : Int), Sy.Cont.at (.seg (0 : Nat) (ruCells l)) ((0 : Nat) + Int.toNat (Int.ofNat (k + m)) * (5 : Nat) + (1 : Nat) + (1 : Nat) + (1 : Nat)) = some (.int .i64 i)) (.hyp (Sy.Cont.at (.seg (0 : Nat) (ruCells l)) ((0 : Nat) + Int.toNat (Int.ofNat (k + m)) * (5 : Nat) + (1 : Nat) + (1 : Nat) + (1 : Nat)) = some (.int .i64 (Let.i (ns 14)))) (.need (∃ (i : Int), Sy.Cont.at (.seg (0 : Nat) (ruCells l)) ((0 : Nat) + Int.toNat (Int.ofNat (k + m)) * (5 : Nat) + (1 : Nat) + (1 : Nat) + (1 : Nat) + (1 : Nat)) = some (.int .i64 i)) (.hyp (Sy.Cont.at (.seg (0 : Nat) (ruCells l)) ((0 : Nat) + Int.toNat (Int.ofNat (k + m)) * (5 : Nat) + (1 : Nat) + (1 : Nat) + (1 : Nat) + (1 : Nat)) = some (.int .i64 (Let.i (ns 15)))) (.need (dgF (Let.i (ns 11)) (Let.i (ns 13)) = false) (.hyp True (.leaf (Value.tuple (Array.mk [.int .u64 (Int.ofNat v), .int .i64 (Int.ofNat (k
 + m)), Value.agg (Array.mk [.int .i64 (0 : Int), .int .i64 (0 : Int), .int .i64 (0 : Int)])]), []))))))))))))))))))))))))))))))))))))))) (.need (Value.bool false = Value.bool false ∨ Value.bool false = Value.bool true ∧ Value.tuple (Array.mk []) = Value.bool false) (.hyp True (.need (Tx bs n l ∧ k ≤ n ∧ numF (List.drop k l) (0 : Nat) = some (m, v)) (.hyp (Nat.le (k + m) n) (.need ((0 : Int) ≤ Int.ofNat (k + m) ∧ Int.ofNat (k + m) < (↑(n + (1 : Nat)) : Int)) (.need (∃ (i : Int), Sy.Cont.at (.seg (0 : Nat) (ruCells l)) ((0 : Nat) + Int.toNat (Int.ofNat (k + m)) * (5 : Nat)) = some (.int .i64 i)) (.hyp (Sy.Cont.at (.seg (0 : Nat) (ruCells l)) ((0 : Nat) + Int.toNat (Int.ofNat (k + m)) * (5 : Nat)) = some (.int .i64 (Let.i (ns 4)))) (.need (∃ (i : Int), Sy.Cont.at (.seg (0 : Nat) (ruCells l)) ((0 : Nat) + Int.toNat (Int.ofNat (k + m)) * (5 : Nat) + (1 : Nat)) = some (.int .i64 i)) (.hyp (Sy.Cont.at (.seg (0 : Nat) (ruCells l)) ((0 : Nat) + Int.toNat (Int.ofNat (k + m)) * (5 : Nat) + (1 :
 Nat)) = some (.int .i64 (Let.i (ns 5)))) (.need (∃ (i : Int), Sy.Cont.at (.seg (0 : Nat) (ruCells l)) ((0 : Nat) + Int.toNat (Int.ofNat (k + m)) * (5 : Nat) + (1 : Nat) + (1 : Nat)) = some (.int .i64 i)) (.hyp (Sy.Cont.at (.seg (0 : Nat) (ruCells l)) ((0 : Nat) + Int.toNat (Int.ofNat (k + m)) * (5 : Nat) + (1 : Nat) + (1 : Nat)) = some (.int .i64 (Let.i (ns 6)))) (.need (∃ (i : Int), Sy.Cont.at (.seg (0 : Nat) (ruCells l)) ((0 : Nat) + Int.toNat (Int.ofNat (k + m)) * (5 : Nat) + (1 : Nat) + (1 : Nat) + (1 : Nat)) = some (.int .i64 i)) (.hyp (Sy.Cont.at (.seg (0 : Nat) (ruCells l)) ((0 : Nat) + Int.toNat (Int.ofNat (k + m)) * (5 : Nat) + (1 : Nat) + (1 : Nat) + (1 : Nat)) = some (.int .i64 (Let.i (ns 7)))) (.need (∃ (i : Int), Sy.Cont.at (.seg (0 : Nat) (ruCells l)) ((0 : Nat) + Int.toNat (Int.ofNat (k + m)) * (5 : Nat) + (1 : Nat) + (1 : Nat) + (1 : Nat) + (1 : Nat)) = some (.int .i64 i)) (.hyp (Sy.Cont.at (.seg (0 : Nat) (ruCells l)) ((0 : Nat) + Int.toNat (Int.ofNat (k + m)) * (5 :
 Nat) + (1 : Nat) + (1 : Nat) + (1 : Nat) + (1 : Nat)) = some (.int .i64 (Let.i (ns 8)))) (.need (ltF (Let.i (ns 4)) (Let.i (ns 6)) = false) (.hyp True (.need ((0 : Int) ≤ Int.ofNat (k + m) ∧ Int.ofNat (k + m) < (↑(n + (1 : Nat)) : Int)) (.need (∃ (i : Int), Sy.Cont.at (.seg (0 : Nat) (ruCells l)) ((0 : Nat) + Int.toNat (Int.ofNat (k + m)) * (5 : Nat)) = some (.int .i64 i)) (.hyp (Sy.Cont.at (.seg (0 : Nat) (ruCells l)) ((0 : Nat) + Int.toNat (Int.ofNat (k + m)) * (5 : Nat)) = some (.int .i64 (Let.i (ns 9)))) (.need (∃ (i : Int), Sy.Cont.at (.seg (0 : Nat) (ruCells l)) ((0 : Nat) + Int.toNat (Int.ofNat (k + m)) * (5 : Nat) + (1 : Nat)) = some (.int .i64 i)) (.hyp (Sy.Cont.at (.seg (0 : Nat) (ruCells l)) ((0 : Nat) + Int.toNat (Int.ofNat (k + m)) * (5 : Nat) + (1 : Nat)) = some (.int .i64 (Let.i (ns 10)))) (.need (∃ (i : Int), Sy.Cont.at (.seg (0 : Nat) (ruCells l)) ((0 : Nat) + Int.toNat (Int.ofNat (k + m)) * (5 : Nat) + (1 : Nat) + (1 : Nat)) = some (.int .i64 i)) (.hyp (Sy.Cont.at
 (.seg (0 : Nat) (ruCells l)) ((0 : Nat) + Int.toNat (Int.ofNat (k + m)) * (5 : Nat) + (1 : Nat) + (1 : Nat)) = some (.int .i64 (Let.i (ns 11)))) (.need (∃ (i : Int), Sy.Cont.at (.seg (0 : Nat) (ruCells l)) ((0 : Nat) + Int.toNat (Int.ofNat (k + m)) * (5 : Nat) + (1 : Nat) + (1 : Nat) + (1 : Nat)) = some (.int .i64 i)) (.hyp (Sy.Cont.at (.seg (0 : Nat) (ruCells l)) ((0 : Nat) + Int.toNat (Int.ofNat (k + m)) * (5 : Nat) + (1 : Nat) + (1 : Nat) + (1 : Nat)) = some (.int .i64 (Let.i (ns 12)))) (.need (∃ (i : Int), Sy.Cont.at (.seg (0 : Nat) (ruCells l)) ((0 : Nat) + Int.toNat (Int.ofNat (k + m)) * (5 : Nat) + (1 : Nat) + (1 : Nat) + (1 : Nat) + (1 : Nat)) = some (.int .i64 i)) (.hyp (Sy.Cont.at (.seg (0 : Nat) (ruCells l)) ((0 : Nat) + Int.toNat (Int.ofNat (k + m)) * (5 : Nat) + (1 : Nat) + (1 : Nat) + (1 : Nat) + (1 : Nat)) = some (.int .i64 (Let.i (ns 13)))) (.need (dgF (Let.i (ns 9)) (Let.i (ns 11)) = false) (.hyp True (.leaf (Value.tuple (Array.mk [.int .u64 (Int.ofNat v), .int .i64
 (Int.ofNat (k + m)), Value.agg (Array.mk [.int .i64 (0 : Int), .int .i64 (0 : Int), .int .i64 (0 : Int)])]), [])))))))))))))))))))))))))))))))))))) (.need (Value.bool false = Value.bool false ∨ Value.bool false = Value.bool true ∧ Value.tuple (Array.mk []) = Value.bool false) (.hyp True (.need (Tx bs n l ∧ k ≤ n ∧ numF (List.drop k l) (0 : Nat) = some (m, v)) (.hyp (Nat.le (k + m) n) (.need ((0 : Int) ≤ Int.ofNat (k + m) ∧ Int.ofNat (k + m) < (↑(n + (1 : Nat)) : Int)) (.need (∃ (i : Int), Sy.Cont.at (.seg (0 : Nat) (ruCells l)) ((0 : Nat) + Int.toNat (Int.ofNat (k + m)) * (5 : Nat)) = some (.int .i64 i)) (.hyp (Sy.Cont.at (.seg (0 : Nat) (ruCells l)) ((0 : Nat) + Int.toNat (Int.ofNat (k + m)) * (5 : Nat)) = some (.int .i64 (Let.i (ns 3)))) (.need (∃ (i : Int), Sy.Cont.at (.seg (0 : Nat) (ruCells l)) ((0 : Nat) + Int.toNat (Int.ofNat (k + m)) * (5 : Nat) + (1 : Nat)) = some (.int .i64 i)) (.hyp (Sy.Cont.at (.seg (0 : Nat) (ruCells l)) ((0 : Nat) + Int.toNat (Int.ofNat (k + m)) * (5 :
 Nat) + (1 : Nat)) = some (.int .i64 (Let.i (ns 4)))) (.need (∃ (i : Int), Sy.Cont.at (.seg (0 : Nat) (ruCells l)) ((0 : Nat) + Int.toNat (Int.ofNat (k + m)) * (5 : Nat) + (1 : Nat) + (1 : Nat)) = some (.int .i64 i)) (.hyp (Sy.Cont.at (.seg (0 : Nat) (ruCells l)) ((0 : Nat) + Int.toNat (Int.ofNat (k + m)) * (5 : Nat) + (1 : Nat) + (1 : Nat)) = some (.int .i64 (Let.i (ns 5)))) (.need (∃ (i : Int), Sy.Cont.at (.seg (0 : Nat) (ruCells l)) ((0 : Nat) + Int.toNat (Int.ofNat (k + m)) * (5 : Nat) + (1 : Nat) + (1 : Nat) + (1 : Nat)) = some (.int .i64 i)) (.hyp (Sy.Cont.at (.seg (0 : Nat) (ruCells l)) ((0 : Nat) + Int.toNat (Int.ofNat (k + m)) * (5 : Nat) + (1 : Nat) + (1 : Nat) + (1 : Nat)) = some (.int .i64 (Let.i (ns 6)))) (.need (∃ (i : Int), Sy.Cont.at (.seg (0 : Nat) (ruCells l)) ((0 : Nat) + Int.toNat (Int.ofNat (k + m)) * (5 : Nat) + (1 : Nat) + (1 : Nat) + (1 : Nat) + (1 : Nat)) = some (.int .i64 i)) (.hyp (Sy.Cont.at (.seg (0 : Nat) (ruCells l)) ((0 : Nat) + Int.toNat (Int.ofNat (k +
 m)) * (5 : Nat) + (1 : Nat) + (1 : Nat) + (1 : Nat) + (1 : Nat)) = some (.int .i64 (Let.i (ns 7)))) (.need (ltF (Let.i (ns 3)) (Let.i (ns 5)) = false) (.hyp True (.need ((0 : Int) ≤ Int.ofNat (k + m) ∧ Int.ofNat (k + m) < (↑(n + (1 : Nat)) : Int)) (.need (∃ (i : Int), Sy.Cont.at (.seg (0 : Nat) (ruCells l)) ((0 : Nat) + Int.toNat (Int.ofNat (k + m)) * (5 : Nat)) = some (.int .i64 i)) (.hyp (Sy.Cont.at (.seg (0 : Nat) (ruCells l)) ((0 : Nat) + Int.toNat (Int.ofNat (k + m)) * (5 : Nat)) = some (.int .i64 (Let.i (ns 8)))) (.need (∃ (i : Int), Sy.Cont.at (.seg (0 : Nat) (ruCells l)) ((0 : Nat) + Int.toNat (Int.ofNat (k + m)) * (5 : Nat) + (1 : Nat)) = some (.int .i64 i)) (.hyp (Sy.Cont.at (.seg (0 : Nat) (ruCells l)) ((0 : Nat) + Int.toNat (Int.ofNat (k + m)) * (5 : Nat) + (1 : Nat)) = some (.int .i64 (Let.i (ns 9)))) (.need (∃ (i : Int), Sy.Cont.at (.seg (0 : Nat) (ruCells l)) ((0 : Nat) + Int.toNat (Int.ofNat (k + m)) * (5 : Nat) + (1 : Nat) + (1 : Nat)) = some (.int .i64 i)) (.hyp
 (Sy.Cont.at (.seg (0 : Nat) (ruCells l)) ((0 : Nat) + Int.toNat (Int.ofNat (k + m)) * (5 : Nat) + (1 : Nat) + (1 : Nat)) = some (.int .i64 (Let.i (ns 10)))) (.need (∃ (i : Int), Sy.Cont.at (.seg (0 : Nat) (ruCells l)) ((0 : Nat) + Int.toNat (Int.ofNat (k + m)) * (5 : Nat) + (1 : Nat) + (1 : Nat) + (1 : Nat)) = some (.int .i64 i)) (.hyp (Sy.Cont.at (.seg (0 : Nat) (ruCells l)) ((0 : Nat) + Int.toNat (Int.ofNat (k + m)) * (5 : Nat) + (1 : Nat) + (1 : Nat) + (1 : Nat)) = some (.int .i64 (Let.i (ns 11)))) (.need (∃ (i : Int), Sy.Cont.at (.seg (0 : Nat) (ruCells l)) ((0 : Nat) + Int.toNat (Int.ofNat (k + m)) * (5 : Nat) + (1 : Nat) + (1 : Nat) + (1 : Nat) + (1 : Nat)) = some (.int .i64 i)) (.hyp (Sy.Cont.at (.seg (0 : Nat) (ruCells l)) ((0 : Nat) + Int.toNat (Int.ofNat (k + m)) * (5 : Nat) + (1 : Nat) + (1 : Nat) + (1 : Nat) + (1 : Nat)) = some (.int .i64 (Let.i (ns 12)))) (.need (dgF (Let.i (ns 8)) (Let.i (ns 10)) = false) (.hyp True (.leaf (Value.tuple (Array.mk [.int .u64 (Int.ofNat v),
 .int .i64 (Int.ofNat (k + m)), Value.agg (Array.mk [.int .i64 (0 : Int), .int .i64 (0 : Int), .int .i64 (0 : Int)])]), [])))))))))))))))))))))))))))))))))))

theorem nu_run (n gl cl k : Nat) (bs : List Nat) (l : List Ru) (m v : Nat) : Sy.Ran (Sy.inT Try.prog (ctxNu n gl cl k bs l m v) 50 fNumber (nuC n gl cl k bs l m v).args (Sy.blks (nuC n gl cl k bs l m v).mem) Sy.noB) nu_o (nu_R n gl cl k bs l m v) := ⟨fun ns => by kernel_rfl, fun ns => by kernel_rfl⟩

theorem ctxNu_holds (n gl cl k : Nat) (bs : List Nat) (l : List Ru) (m v : Nat) : (ctxNu n gl cl k bs l m v).holds Try.prog := Sy.mkS_holds (fun p hp a L => by
  rcases List.mem_cons.1 hp with rfl | hp
  · exact ruK_met sxC_met a
  rcases List.mem_cons.1 hp with rfl | hp
  · exact ruK_met ltNo_met a
  rcases List.mem_singleton.1 hp with rfl
  exact ruK_met dgNo_met a) (fun p hp a L => by
  rcases List.mem_singleton.1 hp with rfl
  exact loopN_met _ _ _ _ _ _ _ _ _) (fun p hp a L => by
  rcases List.mem_singleton.1 hp with rfl
  exact hxK_meets a L)

theorem numF_lt : ∀ (l : List Ru) (w m v : Nat), numF l w = some (m, v) → m < l.length
  | [], w, m, v, h => by cases h
  | x :: r, w, m, v, h => by
    rw [numF_cons] at h
    split at h
    · split at h
      · split at h
        · rename_i m' u' hq
          simp only [Option.some.injEq, Prod.mk.injEq] at h
          obtain ⟨rfl, rfl⟩ := h
          have := numF_lt r _ _ _ hq
          simp only [List.length_cons, Nat.succ_eq_add_one]
          omega
        · cases h
      · cases h
    · simp only [Option.some.injEq, Prod.mk.injEq] at h
      obtain ⟨rfl, rfl⟩ := h
      simp

theorem lt_nat {a b : Nat} (h : a < b) : Int.ofNat a < ((b : Nat) : Int) := Int.ofNat_lt.2 h

theorem nuC_met (n gl cl k : Nat) (bs : List Nat) (l : List Ru) (m v : Nat) : Sy.Meets Try.prog (nuC n gl cl k bs l m v) := by
  refine Sy.meets_of (ctxNu_holds n gl cl k bs l m v) mixed (nu_run n gl cl k bs l m v) fun hok ns => ?_
  obtain ⟨hT, hk, hx2, hnum, hy2⟩ : Tx bs n l ∧ k < n ∧ (∀ x y, l[k]? = some x → l[k + 1]? = some y → ¬ (x.r = 48 ∧ 0 < y.n ∧ (y.r = 120 ∨ y.r = 88))) ∧ numF (l.drop k) 0 = some (m, v) ∧ (∀ x, l[k + m]? = some x → ltF (Int.ofNat x.r) (Int.ofNat x.n) = false ∧ dgF (Int.ofNat x.r) (Int.ofNat x.n) = false) := hok
  have hsm := hT.small
  have hkm : k + m ≤ n := by
    have := numF_lt _ _ _ _ hnum
    rw [List.length_drop, hT.len] at this
    omega
  obtain ⟨x, hx, -, -⟩ := hT.get (Nat.le_of_lt hk)
  obtain ⟨x', hx', -, -⟩ := hT.get (show k + 1 ≤ n from hk)
  obtain ⟨y, hy, -, -⟩ := hT.get hkm
  obtain ⟨a0, a1, a2, a3, a4⟩ := ru_at hx
  obtain ⟨b0, b1, b2, b3, b4⟩ := ru_at hx'
  obtain ⟨c0, c1, c2, c3, c4⟩ := ru_at hy
  obtain ⟨hy3, hy4⟩ := hy2 y hy
  have hhex := hx2 x x' hx hx'
  have keyL : ∀ i j : Nat, Int.ofNat y.r = (ns i).i → Int.ofNat y.n = (ns j).i → ltF (ns i).i (ns j).i = false := fun i j h1 h2 => by rw [← h1, ← h2]; exact hy3
  have keyD : ∀ i j : Nat, Int.ofNat y.r = (ns i).i → Int.ofNat y.n = (ns j).i → dgF (ns i).i (ns j).i = false := fun i j h1 h2 => by rw [← h1, ← h2]; exact hy4
  have keyH : ∀ i1 i2 i3 : Nat, ∀ z : Int, (z = 120 ∨ z = 88) → Int.ofNat x.r = (ns i1).i → Int.ofNat x'.n = (ns i2).i → Int.ofNat x'.r = (ns i3).i → Ex.eqQ (ns i1).i 48 = true → (bif true then Ex.ltQ 0 (ns i2).i else false) = true → Ex.eqQ (ns i3).i z = true → False := fun i1 i2 i3 z hz h1 h2 h3 t1 t2 t3 => by
    rw [← h1, Sy.q_eq] at t1
    rw [cond_true, ← h2, Sy.q_lt] at t2
    rw [← h3, Sy.q_eq] at t3
    have t1 : (x.r : Int) = 48 := t1
    have t2 : (0 : Int) < (x'.n : Int) := t2
    have t3 : (x'.r : Int) = z := t3
    exact hhex ⟨by omega, by omega, by omega⟩
  simp only [nu_R, Sy.Res.holds, show Int.toNat (Int.ofNat k) = k from rfl, show Int.toNat (Int.ofNat (k + m)) = k + m from rfl, w_inc (show k < 2000000 by omega), show Int.toNat (Int.ofNat (k + 1)) = k + 1 from rfl, Nat.add_eq, Nat.add_zero, Nat.succ_eq_add_one,
    a0, a1, a2, a3, a4, b0, b1, b2, b3, b4, c0, c1, c2, c3, c4, Option.some.injEq, Value.int.injEq, true_and, exists_eq']
  have key88 : ∀ i1 i2 i3 : Nat, Int.ofNat x.r = (ns i1).i → Int.ofNat x'.n = (ns i2).i → Int.ofNat x'.r = (ns i3).i → Ex.eqQ (ns i1).i 48 = true → (bif true then Ex.ltQ 0 (ns i2).i else false) = true → Value.bool (bif false then true else Ex.eqQ (ns i3).i 88) = Value.bool false := fun i1 i2 i3 h1 h2 h3 t1 t2 => by
    cases h : Ex.eqQ (ns i3).i 88 with
    | false => rfl
    | true => exact (keyH i1 i2 i3 88 (.inr rfl) h1 h2 h3 t1 t2 h).elim
  repeat' (first | apply And.intro | intro _)
  all_goals first
    | exact Int.natCast_nonneg _
    | exact lt_nat (by omega)
    | exact .inl trivial
    | exact hT
    | exact Nat.le_of_lt hk
    | exact hnum
    | exact keyL _ _ (by assumption) (by assumption)
    | exact keyD _ _ (by assumption) (by assumption)
    | exact .inl rfl
    | exact (keyH _ _ _ 120 (.inl rfl) (by assumption) (by assumption) (by assumption) (by assumption) (by assumption) (by assumption)).elim
    | exact .inr (key88 _ _ _ (by assumption) (by assumption) (by assumption) (by assumption) (by assumption))
    | exact .inr ⟨rfl, key88 _ _ _ (by assumption) (by assumption) (by assumption) (by assumption) (by assumption)⟩
    | exact Sy.plainO_leaf (List.mem_singleton_self _) rfl rfl

end Go.Proofs.Ytbgmkefehfjicaa

/-
  The reference's lexer: names; a text's bytes as a string.
-/
namespace Go.Proofs.Ytbgmkefehfjicaa
set_option linter.unusedVariables false
set_option linter.unusedSimpArgs false
open Go Go.RowKit
open Sy (Let Blk)

abbrev fLex : FuncId := 22
noncomputable def bodyNm : Code := Sy.loopBody Try.f22 1

/-- Some bytes of a text. -/
def txt (bs : List Nat) (x m : Nat) : ByteArray := ⟨⟨((bs.drop x).take m).map UInt8.ofNat⟩⟩

def Sy.offV (v : Value) : Nat := match v with
  | .slice (some ⟨_, o, _⟩) _ _ => o
  | _ => 0
def Sy.lenV (v : Value) : Nat := match v with
  | .slice _ n _ => n
  | _ => 0

def OkC (g : Nat) (bs : List Nat) (v : Value) : Prop := ascii bs ∧ ∃ x m c, v = .slice (some ⟨g, x, none⟩) m c ∧ x + m ≤ bs.length
noncomputable def cvK (g : Nat) (bs : List Nat) (v : Value) : Sy.OpK := ⟨Sy.opV (convert 38 9 v), OkC g bs v, ⟨⟨[(g, .seg 0 (bcells bs))], [], 0, []⟩, [(⟨fun _ => True, fun _ => [], fun _ => []⟩, fun _ => some (.string (txt bs (Sy.offV v) (Sy.lenV v))))]⟩⟩

theorem push_bytes (l : List Nat) (s : ByteArray) : (l.map fun b => Int.ofNat b).foldl (fun r n => r.push (UInt8.ofNat n.toNat)) s = ⟨⟨s.data.toList ++ l.map UInt8.ofNat⟩⟩ := by
  induction l generalizing s with
  | nil => simp
  | cons b l ih =>
    simp only [List.map_cons, List.foldl_cons]
    rw [ih]
    have : (s.push (UInt8.ofNat (Int.ofNat b).toNat)).data.toList = s.data.toList ++ [UInt8.ofNat b] := by
      cases s with
      | mk d => simp [ByteArray.push]
    rw [this]
    simp

theorem cvK_meets (g : Nat) (bs : List Nat) (v : Value) : (cvK g bs v).meets Try.prog := by
  rintro ⟨ha, x, m, c, rfl, hx⟩ W hpre
  refine ⟨_, List.mem_singleton_self _, [], W, ?_, rfl, trivial, rfl, rfl, rfl, Nat.le_refl _, fun _ _ _ => rfl, fun p hp => (by cases hp), List.nodup_nil, fun _ hp => (by cases hp), List.nodup_nil, fun _ hp => (by cases hp)⟩
  show (Sy.opV (convert _ _ _)).run Try.prog W = .ok (.value (.string (txt bs x m))) W
  refine Sy.opV_run ?_
  rw [run_convert_bytes_string W _ _ 5 _ _ _ Try.underlying38 Try.underlying5 Try.underlying9]
  have hl : (loadCells ⟨g, x, none⟩ m).run Try.prog W = .ok ((((bs.drop x).take m).map fun b => Int.ofNat b).map (Value.int .u8)).toArray W := by
    have hc : ∀ (j : Nat) (u : Value), ((((bs.drop x).take m).map fun b => Int.ofNat b).map (Value.int .u8))[j]? = some u → (Sy.Cont.seg 0 (bcells bs)).at (x + j) = some u := fun j u hu => by
      simp only [List.map_map, List.getElem?_map, Option.map_eq_some_iff] at hu
      obtain ⟨b, hb, rfl⟩ := hu
      rw [List.getElem?_take] at hb
      split at hb
      · rw [List.getElem?_drop] at hb
        have := bcells_at hb
        rw [Nat.zero_add, Nat.mul_one] at this
        exact this
      · cases hb
    have := Sy.loadCells_run (P := Try.prog) (hpre.rd _ (List.mem_singleton_self _)) hc
    have e : ((((bs.drop x).take m).map fun b => Int.ofNat b).map (Value.int .u8)).length = m := by
      simp
      omega
    rw [e] at this
    exact this
  rw [run_bytesToString W _ _ _ _ hl, push_bytes]
  rfl

/-- How many letters and digits come first. -/
noncomputable def nameF (l : List Ru) : Nat := @List.rec Ru (fun _ => Nat) 0 (fun x _ ih => @Bool.rec (fun _ => Nat) (@Bool.rec (fun _ => Nat) 0 (Nat.succ ih) (dgF (Int.ofNat x.r) (Int.ofNat x.n))) (Nat.succ ih) (ltF (Int.ofNat x.r) (Int.ofNat x.n))) l

noncomputable def slNm (gl m cl k : Nat) (v0 v2 v3 v5 v7 v8 : Value) : List (Nat × Value) := [(0, v0), (2, v2), (3, v3), (4, .slice (some ⟨gl, 0, none⟩) m cl), (5, v5), (6, .int .i64 (Int.ofNat k)), (7, v7), (8, v8)]
noncomputable def ctxNm : Sy.Ctx := Sy.mkS [(fLetter, fun a _ => ruK ltC a), (fDigit, fun a _ => ruK dgC a)] [] []
theorem ctxNm_holds : ctxNm.holds Try.prog := Sy.mkS_holds (fun p hp a L => by
  rcases List.mem_cons.1 hp with rfl | hp
  · exact ruK_met ltC_met a
  rcases List.mem_singleton.1 hp with rfl
  exact ruK_met dgC_met a) (fun _ h => (by cases h)) (fun _ h => (by cases h))
def nmB_o : Sy.O := (Sy.O.steps [0, 1, 0, 0, 1, 1, 1, 1, 1, 1, 1, 0, 0, 0, 0] (Sy.O.fork (Sy.O.steps [0, 0, 0, 0, 0] Sy.O.nil) (Sy.O.steps [0, 0, 0, 1, 0, 0, 0, 1, 1, 1, 1, 1, 1, 1, 0, 0, 0, 0, 0] (Sy.O.fork Sy.O.nil Sy.O.nil))))
noncomputable def nmB_R (gl : Nat) (m : Nat) (cl : Nat) (k : Nat) (v0 : Value) (v2 : Value) (v3 : Value) (v5 : Value) (v7 : Value) (v8 : Value) (xs : List Value) (rest : List Value) (ns : Nat → Sy.Let) : Sy.Res (Exit × Nat × List Value × List Blk) := .need ((0 : Int) ≤ Int.ofNat k ∧ Int.ofNat k < (↑m : Int)) (.need (∃ (i : Int), Sy.Cont.at (.seg (0 : Nat) xs) ((0 : Nat) + Int.toNat (Int.ofNat k) * (5 : Nat)) = some (.int .i64 i)) (.hyp (Sy.Cont.at (.seg (0 : Nat) xs) ((0 : Nat) + Int.toNat (Int.ofNat k) * (5 : Nat)) = some (.int .i64 (Let.i (ns 0)))) (.need (∃ (i : Int), Sy.Cont.at (.seg (0 : Nat) xs) ((0 : Nat) + Int.toNat (Int.ofNat k) * (5 : Nat) + (1 : Nat)) = some (.int .i64 i)) (.hyp (Sy.Cont.at (.seg (0 : Nat) xs) ((0 : Nat) + Int.toNat (Int.ofNat k) * (5 : Nat) + (1 : Nat)) = some (.int .i64 (Let.i (ns 1)))) (.need (∃ (i : Int), Sy.Cont.at (.seg (0 : Nat) xs) ((0 : Nat) + Int.toNat (Int.ofNat k) * (5 : Nat) + (1 : Nat) + (1 : Nat)) = some (.int .i64 i)) (.hyp (Sy.Cont.at (.seg (0 : Nat) xs) ((0 : Nat) + Int.toNat (Int.ofNat k) * (5 : Nat) + (1 : Nat) + (1 : Nat)) = some (.int .i64 (Let.i (ns 2)))) (.need (∃ (i : Int), Sy.Cont.at (.seg (0 : Nat) xs) ((0 : Nat) + Int.toNat (Int.ofNat k) * (5 : Nat) + (1 : Nat) + (1 : Nat) +
 (1 : Nat)) = some (.int .i64 i)) (.hyp (Sy.Cont.at (.seg (0 : Nat) xs) ((0 : Nat) + Int.toNat (Int.ofNat k) * (5 : Nat) + (1 : Nat) + (1 : Nat) + (1 : Nat)) = some (.int .i64 (Let.i (ns 3)))) (.need (∃ (i : Int), Sy.Cont.at (.seg (0 : Nat) xs) ((0 : Nat) + Int.toNat (Int.ofNat k) * (5 : Nat) + (1 : Nat) + (1 : Nat) + (1 : Nat) + (1 : Nat)) = some (.int .i64 i)) (.hyp (Sy.Cont.at (.seg (0 : Nat) xs) ((0 : Nat) + Int.toNat (Int.ofNat k) * (5 : Nat) + (1 : Nat) + (1 : Nat) + (1 : Nat) + (1 : Nat)) = some (.int .i64 (Let.i (ns 4)))) (.need True (.hyp True (.br (ltF (Let.i (ns 0)) (Let.i (ns 2))) (.leaf (Exit.normal, (137 : Nat), [v0, v2, v3, .slice (some (Addr.mk gl 0 none)) m cl, v5, .int .i64 (Ex.wrapQ .i64 (Ex.addQ (Int.ofNat k) (1 : Int))), v7, v8], [Blk.mk gl (.seg (0 : Nat) xs) false])) (.need ((0 : Int) ≤ Int.ofNat k ∧ Int.ofNat k < (↑m : Int)) (.need (∃ (i : Int), Sy.Cont.at (.seg (0 : Nat) xs) ((0 : Nat) + Int.toNat (Int.ofNat k) * (5 : Nat)) = some (.int .i64 i)) (.hyp (Sy.Cont.at
 (.seg (0 : Nat) xs) ((0 : Nat) + Int.toNat (Int.ofNat k) * (5 : Nat)) = some (.int .i64 (Let.i (ns 5)))) (.need (∃ (i : Int), Sy.Cont.at (.seg (0 : Nat) xs) ((0 : Nat) + Int.toNat (Int.ofNat k) * (5 : Nat) + (1 : Nat)) = some (.int .i64 i)) (.hyp (Sy.Cont.at (.seg (0 : Nat) xs) ((0 : Nat) + Int.toNat (Int.ofNat k) * (5 : Nat) + (1 : Nat)) = some (.int .i64 (Let.i (ns 6)))) (.need (∃ (i : Int), Sy.Cont.at (.seg (0 : Nat) xs) ((0 : Nat) + Int.toNat (Int.ofNat k) * (5 : Nat) + (1 : Nat) + (1 : Nat)) = some (.int .i64 i)) (.hyp (Sy.Cont.at (.seg (0 : Nat) xs) ((0 : Nat) + Int.toNat (Int.ofNat k) * (5 : Nat) + (1 : Nat) + (1 : Nat)) = some (.int .i64 (Let.i (ns 7)))) (.need (∃ (i : Int), Sy.Cont.at (.seg (0 : Nat) xs) ((0 : Nat) + Int.toNat (Int.ofNat k) * (5 : Nat) + (1 : Nat) + (1 : Nat) + (1 : Nat)) = some (.int .i64 i)) (.hyp (Sy.Cont.at (.seg (0 : Nat) xs) ((0 : Nat) + Int.toNat (Int.ofNat k) * (5 : Nat) + (1 : Nat) + (1 : Nat) + (1 : Nat)) = some (.int .i64 (Let.i (ns 8)))) (.need (∃
 (i : Int), Sy.Cont.at (.seg (0 : Nat) xs) ((0 : Nat) + Int.toNat (Int.ofNat k) * (5 : Nat) + (1 : Nat) + (1 : Nat) + (1 : Nat) + (1 : Nat)) = some (.int .i64 i)) (.hyp (Sy.Cont.at (.seg (0 : Nat) xs) ((0 : Nat) + Int.toNat (Int.ofNat k) * (5 : Nat) + (1 : Nat) + (1 : Nat) + (1 : Nat) + (1 : Nat)) = some (.int .i64 (Let.i (ns 9)))) (.need True (.hyp True (.br (bif false then true else dgF (Let.i (ns 5)) (Let.i (ns 7))) (.leaf (Exit.normal, (137 : Nat), [v0, v2, v3, .slice (some (Addr.mk gl 0 none)) m cl, v5, .int .i64 (Ex.wrapQ .i64 (Ex.addQ (Int.ofNat k) (1 : Int))), v7, v8], [Blk.mk gl (.seg (0 : Nat) xs) false])) (.leaf (Exit.exit (2 : Nat), (137 : Nat), [v0, v2, v3, .slice (some (Addr.mk gl 0 none)) m cl, v5, .int .i64 (Int.ofNat k), v7, v8], [Blk.mk gl (.seg (0 : Nat) xs) false])))))))))))))))))))))))))))))

theorem nmB_run (gl m cl k : Nat) (v0 v2 v3 v5 v7 v8 : Value) (xs : List Value) (rest : List Value) : Sy.Ran (Sy.pieceT Try.prog ctxNm 50 fLex bodyNm 137 (slNm gl m cl k v0 v2 v3 v5 v7 v8) rest [⟨gl, .seg 0 xs, false⟩] [0, 2, 3, 4, 5, 6, 7, 8]) nmB_o (nmB_R gl m cl k v0 v2 v3 v5 v7 v8 xs rest) := ⟨fun ns => by kernel_rfl, fun ns => by kernel_rfl⟩

theorem nameF_cons (x : Ru) (r : List Ru) : nameF (x :: r) = if ltF (Int.ofNat x.r) (Int.ofNat x.n) = true ∨ dgF (Int.ofNat x.r) (Int.ofNat x.n) = true then nameF r + 1 else 0 := by
  show @Bool.rec (fun _ => Nat) (@Bool.rec (fun _ => Nat) 0 (nameF r + 1) (dgF (Int.ofNat x.r) (Int.ofNat x.n))) (nameF r + 1) (ltF (Int.ofNat x.r) (Int.ofNat x.n)) = _
  cases ltF (Int.ofNat x.r) (Int.ofNat x.n) <;> cases dgF (Int.ofNat x.r) (Int.ofNat x.n) <;> rfl

theorem lt_end (r : Int) : ltF r (Int.ofNat 0) = false := rfl
theorem dg_end (r : Int) : dgF r (Int.ofNat 0) = false := rfl

theorem name_le {bs n l} (h : Tx bs n l) {k : Nat} (hk : k ≤ n) : k + nameF (l.drop k) ≤ n := by
  obtain ⟨m, hm⟩ : ∃ m, m = n - k := ⟨_, rfl⟩
  induction m generalizing k with
  | zero =>
    have : k = n := by omega
    subst this
    obtain ⟨x, hx, -, h3⟩ := h.get (Nat.le_refl k)
    rcases h3 with ⟨h4, -⟩ | ⟨-, -, h5⟩
    · omega
    · have hlt : k < l.length := by rw [h.len]; omega
      have hxe : l[k] = x := by rw [List.getElem?_eq_getElem hlt] at hx; injection hx
      rw [List.drop_eq_getElem_cons hlt, hxe, nameF_cons, if_neg (by rw [h5, lt_end, dg_end]; simp)]
      omega
  | succ m ih =>
    have hlt : k < l.length := by rw [h.len]; omega
    rw [List.drop_eq_getElem_cons hlt, nameF_cons]
    split
    · have := ih (k := k + 1) (by omega) (by omega)
      omega
    · omega

noncomputable def loopNm (n gl cl k0 : Nat) (bs : List Nat) (l : List Ru) (v0 v2 v3 v5 v7 v8 : Value) : Sy.LoopC :=
  ⟨.loop bodyNm, 137, slNm gl (n + 1) cl k0 v0 v2 v3 v5 v7 v8, Tx bs n l ∧ k0 ≤ n, ⟨[(gl, .seg 0 (ruCells l))], [], 0, []⟩,
    [(⟨fun _ => True, fun _ => [], fun _ => []⟩, .exit 2, fun _ => slNm gl (n + 1) cl (k0 + nameF (l.drop k0)) v0 v2 v3 v5 v7 v8)]⟩

theorem loopNm_met (n gl cl k0 : Nat) (bs : List Nat) (l : List Ru) (v0 v2 v3 v5 v7 v8 : Value) : Sy.MeetsL Try.prog (loopNm n gl cl k0 bs l v0 v2 v3 v5 v7 v8) := by
  refine Sy.loop_of (n := 50) (fn := fLex) ctxNm_holds mixed (body := bodyNm) rfl [0, 2, 3, 4, 5, 6, 7, 8] (fun k : Nat => slNm gl (n + 1) cl k v0 v2 v3 v5 v7 v8) (fun _ => [⟨gl, .seg 0 (ruCells l), false⟩]) (fun k => k ≤ n ∧ Tx bs n l ∧ k + nameF (l.drop k) = k0 + nameF (l.drop k0)) (fun k => n - k)
    k0 (fun h => ⟨h.2, h.1, rfl⟩) (fun p hp => hp) [0] (by decide) rfl (o := fun _ => nmB_o) (R := fun k xs => nmB_R gl (n + 1) cl k v0 v2 v3 v5 v7 v8 (ruCells l) xs) (fun k xs _ => nmB_run gl (n + 1) cl k v0 v2 v3 v5 v7 v8 (ruCells l) xs) ?_
  rintro - k rest ⟨hk, hT, he⟩ ns
  obtain ⟨x, hx, hat, hc⟩ := hT.get hk
  obtain ⟨a0, a1, a2, a3, a4⟩ := ru_at hx
  have hlt : k < l.length := by rw [hT.len]; omega
  have hxe : l[k] = x := by rw [List.getElem?_eq_getElem hlt] at hx; injection hx
  rw [List.drop_eq_getElem_cons hlt, hxe, nameF_cons] at he
  have hsm := hT.small
  have hkn : ltF (Int.ofNat x.r) (Int.ofNat x.n) = true ∨ dgF (Int.ofNat x.r) (Int.ofNat x.n) = true → k < n := fun hb => by
    rcases hc with ⟨h, -⟩ | ⟨-, -, h⟩
    · exact h
    · rw [h, lt_end, dg_end] at hb
      simp at hb
  have next : (ltF (Int.ofNat x.r) (Int.ofNat x.n) = true ∨ dgF (Int.ofNat x.r) (Int.ofNat x.n) = true) → Sy.leafL (loopNm n gl cl k0 bs l v0 v2 v3 v5 v7 v8) [0, 2, 3, 4, 5, 6, 7, 8] (fun k : Nat => slNm gl (n + 1) cl k v0 v2 v3 v5 v7 v8) (fun _ => [⟨gl, .seg 0 (ruCells l), false⟩]) (fun k => k ≤ n ∧ Tx bs n l ∧ k + nameF (l.drop k) = k0 + nameF (l.drop k0)) (fun k => n - k) k
      (.normal, 137, [v0, v2, v3, .slice (some ⟨gl, 0, none⟩) (n + 1) cl, v5, .int .i64 (Ex.wrapQ .i64 (Ex.addQ (Int.ofNat k) 1)), v7, v8], [⟨gl, .seg 0 (ruCells l), false⟩]) := fun hb => by
    have hkn := hkn hb
    rw [if_pos hb] at he
    refine Sy.leafL_next (k + 1) rfl ⟨by omega, hT, by omega⟩ (by show n - (k + 1) < n - k; omega) ?_ [0] (by decide) rfl
    rw [w_inc (by omega)]
    rfl
  simp only [nmB_R, Sy.Res.holds, show Int.toNat (Int.ofNat k) = k from rfl, a0, a1, a2, a3, a4, Option.some.injEq, Value.int.injEq, true_and, exists_eq', cf_ft, Sy.b_f]
  have hr : (0 : Int) ≤ Int.ofNat k ∧ Int.ofNat k < ((n + 1 : Nat) : Int) := ⟨Int.natCast_nonneg k, lt_nat (by omega)⟩
  refine ⟨hr, fun h0 h1 h2 h3 h4 _ => ?_⟩
  rw [← h0, ← h2]
  refine ⟨fun hb => next (.inl hb), fun hb => ⟨hr, fun h5 h6 h7 h8 h9 _ => ?_⟩⟩
  rw [← h5, ← h7]
  refine ⟨fun hb2 => next (.inr hb2), fun hb2 => ?_⟩
  rw [if_neg (by rintro (h | h) <;> contradiction)] at he
  refine Sy.leafL_end 0 rfl rfl (by simp) rfl [] rfl [0, 1, 2, 3, 4, 5, 6, 7] ?_ [] (by decide) trivial trivial
  show slNm gl (n + 1) cl (k0 + nameF (l.drop k0)) v0 v2 v3 v5 v7 v8 = _
  rw [← he]
  rfl

end Go.Proofs.Ytbgmkefehfjicaa

/-
  The reference's lexer: signs.
-/
namespace Go.Proofs.Ytbgmkefehfjicaa
set_option linter.unusedVariables false
set_option linter.unusedSimpArgs false
open Go Go.RowKit
open Sy (Let Blk)

noncomputable def bodySg : Code := Sy.loopBody Try.f22 2
abbrev tTok : TypeId := 78

/-- The signs. -/
def sgs : List (List UInt8) := [[60, 60], [62, 62], [61, 61], [33, 61], [60, 61], [62, 61], [43], [45], [42], [38], [94], [124], [126], [33], [60], [62], [61], [40], [41], [91], [93], [123], [125], [44], [59]]
def sgn (i : Nat) : ByteArray := ⟨⟨sgs.getD i []⟩⟩
def sgCells : List Value := sgs.map fun s => .string ⟨⟨s⟩⟩
/-- The length of the first that comes; 0: none. -/
noncomputable def sgF (bt : List Nat) : List (List UInt8) → Nat := fun l => @List.rec (List UInt8) (fun _ => Nat) 0 (fun s _ ih => @Bool.rec (fun _ => Nat) ih s.length (begL bt s)) l

def tokObj (kd : Int) (ln cl : Int) : Sy.Cont := .obj (.cells #[.int .i64 kd, .string ⟨#[]⟩, .int .u64 0, .int .i64 ln, .int .i64 cl] tTok (0, 0))
def ruObj (r a n ln cl : Int) : List Value := [.int .i64 r, .int .i64 a, .int .i64 n, .int .i64 ln, .int .i64 cl]
noncomputable def slSg (g n cb : Nat) (v2 v3 v4 v5 : Value) (k pr pt gs cs i : Nat) : List (Nat × Value) := [(0, .slice (some ⟨g, 0, none⟩) n cb), (2, v2), (3, v3), (4, v4), (5, v5), (6, .int .i64 (Int.ofNat k)), (7, .pointer (some ⟨pr, 0, none⟩)), (8, .pointer (some ⟨pt, 0, none⟩)), (12, .slice (some ⟨gs, 0, none⟩) 25 cs), (13, .int .i64 (Int.ofNat i))]
noncomputable def memSg (g pr pt gs : Nat) (bs : List Nat) (r a rn ln cl kd : Int) : List Blk := [⟨g, .seg 0 (bcells bs), false⟩, ⟨pr, .seg 0 (ruObj r a rn ln cl), false⟩, ⟨gs, .seg 0 sgCells, false⟩, ⟨pt, tokObj kd ln cl, true⟩]

/-- At an integer. -/
noncomputable def begI (g n cap : Nat) (at_ : Int) (s : ByteArray) (bs : List Nat) : Sy.CallC :=
  ⟨fBegins, #[.slice (some ⟨g, 0, none⟩) n cap, .int .i64 at_, .string s], ∃ k : Nat, at_ = k ∧ okB n k s bs, ⟨[(g, .seg 0 (bcells bs))], [], 0, []⟩, [Sy.plainO (.bool (begF bs at_.toNat s))]⟩
theorem begI_met (g n cap : Nat) (at_ : Int) (s : ByteArray) (bs : List Nat) : Sy.Meets Try.prog (begI g n cap at_ s bs) := by
  rintro ⟨k, rfl, hok⟩ W hpre
  exact begC_met g n cap k s bs hok W hpre
noncomputable def argS (a : Array Value) (i : Nat) : ByteArray := match Sy.argV a i with
  | .string s => s
  | _ => ByteArray.empty

noncomputable def ctxSg (g n cb : Nat) (bs : List Nat) : Sy.Ctx := Sy.mkS [(fBegins, fun a _ => begI g n cb (Sy.argI a 1) (argS a 2) bs)] [] []
theorem ctxSg_holds (g n cb : Nat) (bs : List Nat) : (ctxSg g n cb bs).holds Try.prog := Sy.mkS_holds (fun p hp a L => by
  rcases List.mem_singleton.1 hp with rfl
  exact begI_met _ _ _ _ _ _) (fun _ h => (by cases h)) (fun _ h => (by cases h))

def sgA_o : Sy.O := (Sy.O.steps [0, 1, 0, 3, 0] (Sy.O.fork (Sy.O.steps [1, 0, 1, 0, 2, 0, 1, 2, 0, 0, 0, 3, 4, 5, 0, 1, 6, 0, 1, 1, 1, 1, 10, 0, 0, 0, 0, 0, 0, 1, 0, 1, 2] (Sy.O.fork (Sy.O.steps [3, 0, 0, 0, 1, 0, 2, 1, 1, 1, 0] Sy.O.nil) Sy.O.nil)) Sy.O.nil))
noncomputable def sgA_R (g : Nat) (n : Nat) (cb : Nat) (v2 : Value) (v3 : Value) (v4 : Value) (v5 : Value) (k : Nat) (pr : Nat) (pt : Nat) (gs : Nat) (cs : Nat) (i : Nat) (bs : List Nat) (r : Int) (a : Int) (rn : Int) (ln : Int) (cl : Int) (rest : List Value) (ns : Nat → Sy.Let) : Sy.Res (Exit × Nat × List Value × List Blk) := .br (bif Ex.ltQ (Int.ofNat i) (25 : Int) then true else false) (.need ((0 : Int) ≤ Int.ofNat i ∧ Int.ofNat i < (25 : Int)) (.need (∃ (s : ByteArray), Sy.Cont.at (.seg (0 : Nat) sgCells) ((0 : Nat) + Int.toNat (Int.ofNat i) * (1 : Nat)) = some (Value.string s)) (.hyp (Sy.Cont.at (.seg (0 : Nat) sgCells) ((0 : Nat) + Int.toNat (Int.ofNat i) * (1 : Nat)) = some (Value.string (Sy.strV (Let.v (ns 0))))) (.need (∃ (k : Nat), a = (↑k : Int) ∧ okB n k (argS (Array.mk [.slice (some (Addr.mk g 0 none)) n cb, .int .i64 a, Value.string (Sy.strV (Let.v (ns 0)))]) (2 : Nat)) bs) (.hyp True (.br (begF bs (Int.toNat a) (argS (Array.mk [.slice (some (Addr.mk g 0 none)) n cb, .int .i64 a, Value.string (Sy.strV (Let.v (ns 0)))]) (2 : Nat))) (.need ((0 : Int) ≤ Int.ofNat i ∧ Int.ofNat i < (25 : Int)) (.need (∃ (s : ByteArray), Sy.Cont.at (.seg (0 : Nat) sgCells) ((0 : Nat) + Int.toNat (Int.ofNat i) * (1 : Nat)) = some (Value.string s)) (.hyp (Sy.Cont.at (.seg (0 : Nat) sgCells) ((0 : Nat) + Int.toNat
 (Int.ofNat i) * (1 : Nat)) = some (Value.string (Sy.strV (Let.v (ns 1))))) (.leaf (Exit.normal, (137 : Nat), [.slice (some (Addr.mk g 0 none)) n cb, v2, v3, v4, v5, .int .i64 (Ex.wrapQ .i64 (Ex.addQ (Int.ofNat k) (Int.ofNat (ByteArray.size (Sy.strV (Let.v (ns 1))))))), .pointer (some (Addr.mk pr 0 none)), .pointer (some (Addr.mk pt 0 none)), .slice (some (Addr.mk gs 0 none)) (25 : Nat) cs, .int .i64 (Ex.wrapQ .i64 (Ex.addQ (Int.ofNat i) (1 : Int)))], [Blk.mk g (.seg (0 : Nat) (bcells bs)) false, Blk.mk pr (.seg (0 : Nat) (ruObj r a rn ln cl)) false, Blk.mk gs (.seg (0 : Nat) sgCells) false, Blk.mk pt (.obj (.cells (Array.mk [.int .i64 (4 : Int), Value.string (ByteArray.mk (Array.mk [])), .int .u64 (0 : Int), .int .i64 ln, .int .i64 cl]) (78 : Nat))) true]))))) (.leaf (Exit.normal, (137 : Nat), [.slice (some (Addr.mk g 0 none)) n cb, v2, v3, v4, v5, .int .i64 (Int.ofNat k), .pointer (some (Addr.mk pr 0 none)), .pointer (some (Addr.mk pt 0 none)), .slice (some (Addr.mk gs 0 none)) (25 :
 Nat) cs, .int .i64 (Ex.wrapQ .i64 (Ex.addQ (Int.ofNat i) (1 : Int)))], [Blk.mk g (.seg (0 : Nat) (bcells bs)) false, Blk.mk pr (.seg (0 : Nat) (ruObj r a rn ln cl)) false, Blk.mk gs (.seg (0 : Nat) sgCells) false, Blk.mk pt (tokObj (0 : Int) ln cl) true])))))))) (.leaf (Exit.exit (4 : Nat), (137 : Nat), [.slice (some (Addr.mk g 0 none)) n cb, v2, v3, v4, v5, .int .i64 (Int.ofNat k), .pointer (some (Addr.mk pr 0 none)), .pointer (some (Addr.mk pt 0 none)), .slice (some (Addr.mk gs 0 none)) (25 : Nat) cs, .int .i64 (Int.ofNat i)], memSg g pr pt gs bs r a rn ln cl (0 : Int)))

theorem sgA_run (g n cb : Nat) (v2 v3 v4 v5 : Value) (k pr pt gs cs i : Nat) (bs : List Nat) (r a rn ln cl : Int) (rest : List Value) : Sy.Ran (Sy.pieceT Try.prog (ctxSg g n cb bs) 50 fLex bodySg 137 (slSg g n cb v2 v3 v4 v5 k pr pt gs cs i) rest (memSg g pr pt gs bs r a rn ln cl 0) [0, 2, 3, 4, 5, 6, 7, 8, 12, 13]) sgA_o (sgA_R g n cb v2 v3 v4 v5 k pr pt gs cs i bs r a rn ln cl rest) := ⟨fun ns => by kernel_rfl, fun ns => by kernel_rfl⟩
def sgB_o : Sy.O := (Sy.O.steps [0, 1, 0, 3, 0] (Sy.O.fork (Sy.O.steps [1, 0, 1, 0, 2, 0, 1, 2, 0, 0, 0, 3, 4, 5, 0, 1, 6, 0, 1, 1, 1, 1, 10, 0, 0, 0, 0, 0, 0, 1, 0, 1, 2] (Sy.O.fork (Sy.O.steps [3, 0, 0, 0, 1, 0, 2, 1, 1, 1, 0] Sy.O.nil) Sy.O.nil)) Sy.O.nil))
noncomputable def sgB_R (g : Nat) (n : Nat) (cb : Nat) (v2 : Value) (v3 : Value) (v4 : Value) (v5 : Value) (k : Nat) (pr : Nat) (pt : Nat) (gs : Nat) (cs : Nat) (i : Nat) (bs : List Nat) (r : Int) (a : Int) (rn : Int) (ln : Int) (cl : Int) (rest : List Value) (ns : Nat → Sy.Let) : Sy.Res (Exit × Nat × List Value × List Blk) := .br (bif Ex.ltQ (Int.ofNat i) (25 : Int) then false else false) (.need ((0 : Int) ≤ Int.ofNat i ∧ Int.ofNat i < (25 : Int)) (.need (∃ (s : ByteArray), Sy.Cont.at (.seg (0 : Nat) sgCells) ((0 : Nat) + Int.toNat (Int.ofNat i) * (1 : Nat)) = some (Value.string s)) (.hyp (Sy.Cont.at (.seg (0 : Nat) sgCells) ((0 : Nat) + Int.toNat (Int.ofNat i) * (1 : Nat)) = some (Value.string (Sy.strV (Let.v (ns 0))))) (.need (∃ (k : Nat), a = (↑k : Int) ∧ okB n k (argS (Array.mk [.slice (some (Addr.mk g 0 none)) n cb, .int .i64 a, Value.string (Sy.strV (Let.v (ns 0)))]) (2 : Nat)) bs) (.hyp True (.br (begF bs (Int.toNat a) (argS (Array.mk [.slice (some (Addr.mk g 0 none)) n cb, .int .i64 a, Value.string (Sy.strV (Let.v (ns 0)))]) (2 : Nat))) (.need ((0 : Int) ≤ Int.ofNat i ∧ Int.ofNat i < (25 : Int)) (.need (∃ (s : ByteArray), Sy.Cont.at (.seg (0 : Nat) sgCells) ((0 : Nat) + Int.toNat (Int.ofNat i) * (1 : Nat)) = some (Value.string s)) (.hyp (Sy.Cont.at (.seg (0 : Nat) sgCells) ((0 : Nat) + Int.toNat
 (Int.ofNat i) * (1 : Nat)) = some (Value.string (Sy.strV (Let.v (ns 1))))) (.leaf (Exit.normal, (137 : Nat), [.slice (some (Addr.mk g 0 none)) n cb, v2, v3, v4, v5, .int .i64 (Ex.wrapQ .i64 (Ex.addQ (Int.ofNat k) (Int.ofNat (ByteArray.size (Sy.strV (Let.v (ns 1))))))), .pointer (some (Addr.mk pr 0 none)), .pointer (some (Addr.mk pt 0 none)), .slice (some (Addr.mk gs 0 none)) (25 : Nat) cs, .int .i64 (Ex.wrapQ .i64 (Ex.addQ (Int.ofNat i) (1 : Int)))], [Blk.mk g (.seg (0 : Nat) (bcells bs)) false, Blk.mk pr (.seg (0 : Nat) (ruObj r a rn ln cl)) false, Blk.mk gs (.seg (0 : Nat) sgCells) false, Blk.mk pt (.obj (.cells (Array.mk [.int .i64 (4 : Int), Value.string (ByteArray.mk (Array.mk [])), .int .u64 (0 : Int), .int .i64 ln, .int .i64 cl]) (78 : Nat))) true]))))) (.leaf (Exit.normal, (137 : Nat), [.slice (some (Addr.mk g 0 none)) n cb, v2, v3, v4, v5, .int .i64 (Int.ofNat k), .pointer (some (Addr.mk pr 0 none)), .pointer (some (Addr.mk pt 0 none)), .slice (some (Addr.mk gs 0 none)) (25 :
 Nat) cs, .int .i64 (Ex.wrapQ .i64 (Ex.addQ (Int.ofNat i) (1 : Int)))], [Blk.mk g (.seg (0 : Nat) (bcells bs)) false, Blk.mk pr (.seg (0 : Nat) (ruObj r a rn ln cl)) false, Blk.mk gs (.seg (0 : Nat) sgCells) false, Blk.mk pt (tokObj (4 : Int) ln cl) true])))))))) (.leaf (Exit.exit (4 : Nat), (137 : Nat), [.slice (some (Addr.mk g 0 none)) n cb, v2, v3, v4, v5, .int .i64 (Int.ofNat k), .pointer (some (Addr.mk pr 0 none)), .pointer (some (Addr.mk pt 0 none)), .slice (some (Addr.mk gs 0 none)) (25 : Nat) cs, .int .i64 (Int.ofNat i)], memSg g pr pt gs bs r a rn ln cl (4 : Int)))

theorem sgB_run (g n cb : Nat) (v2 v3 v4 v5 : Value) (k pr pt gs cs i : Nat) (bs : List Nat) (r a rn ln cl : Int) (rest : List Value) : Sy.Ran (Sy.pieceT Try.prog (ctxSg g n cb bs) 50 fLex bodySg 137 (slSg g n cb v2 v3 v4 v5 k pr pt gs cs i) rest (memSg g pr pt gs bs r a rn ln cl 4) [0, 2, 3, 4, 5, 6, 7, 8, 12, 13]) sgB_o (sgB_R g n cb v2 v3 v4 v5 k pr pt gs cs i bs r a rn ln cl rest) := ⟨fun ns => by kernel_rfl, fun ns => by kernel_rfl⟩

/-- The loop's state. -/
structure Gs where
  i : Nat
  fd : Bool

noncomputable def sgM (bs : List Nat) (k0 : Nat) : Nat := sgF (bs.drop k0) sgs

noncomputable def loopG (g n cb : Nat) (v2 v3 v4 v5 : Value) (k0 pr pt gs cs : Nat) (bs : List Nat) (r a rn ln cl : Int) : Sy.LoopC :=
  ⟨.loop bodySg, 137, slSg g n cb v2 v3 v4 v5 k0 pr pt gs cs 0, a = (k0 : Int) ∧ n = bs.length ∧ k0 ≤ n ∧ n < 1000000 ∧ sgM bs k0 ≠ 0, ⟨[(g, .seg 0 (bcells bs)), (pr, .seg 0 (ruObj r a rn ln cl)), (gs, .seg 0 sgCells)], [(pt, tokObj 0 ln cl)], 0, []⟩,
    [(⟨fun _ => True, fun _ => [(pt, tokObj 4 ln cl)], fun _ => []⟩, .exit 4, fun _ => [(0, .slice (some ⟨g, 0, none⟩) n cb), (2, v2), (3, v3), (4, v4), (5, v5), (6, .int .i64 (Int.ofNat (k0 + sgM bs k0))), (7, .pointer (some ⟨pr, 0, none⟩)), (8, .pointer (some ⟨pt, 0, none⟩))])]⟩

theorem sgF_cons (bt : List Nat) (s : List UInt8) (l : List (List UInt8)) : sgF bt (s :: l) = if begL bt s = true then s.length else sgF bt l := by
  show @Bool.rec (fun _ => Nat) (sgF bt l) s.length (begL bt s) = _
  cases begL bt s <;> rfl

theorem sg_at {i : Nat} (h : i < 25) : ∃ s, sgs[i]? = some s ∧ (Sy.Cont.seg 0 sgCells).at (0 + Int.toNat (Int.ofNat i) * 1) = some (.string ⟨⟨s⟩⟩) ∧ s.length ≤ 2 ∧ s.length ≠ 0 := by
  have hl : i < sgs.length := h
  refine ⟨sgs[i], List.getElem?_eq_getElem hl, ?_, ?_⟩
  · show (if 0 ≤ 0 + i * 1 then sgCells[0 + i * 1 - 0]? else none) = _
    rw [if_pos (Nat.zero_le _), Nat.sub_zero, Nat.zero_add, Nat.mul_one]
    unfold sgCells
    rw [List.getElem?_map, List.getElem?_eq_getElem hl]
    rfl
  · have : ∀ s ∈ sgs, s.length ≤ 2 ∧ s.length ≠ 0 := by decide
    exact this _ (List.getElem_mem hl)

theorem loopG_met (g n cb : Nat) (v2 v3 v4 v5 : Value) (k0 pr pt gs cs : Nat) (bs : List Nat) (r a rn ln cl : Int) : Sy.MeetsL Try.prog (loopG g n cb v2 v3 v4 v5 k0 pr pt gs cs bs r a rn ln cl) := by
  refine Sy.loop_of (n := 50) (fn := fLex) (ctxSg_holds g n cb bs) mixed (body := bodySg) rfl [0, 2, 3, 4, 5, 6, 7, 8, 12, 13] (fun s : Gs => slSg g n cb v2 v3 v4 v5 (bif s.fd then k0 + sgM bs k0 else k0) pr pt gs cs s.i) (fun s => memSg g pr pt gs bs r a rn ln cl (bif s.fd then 4 else 0))
    (fun s => s.i ≤ 25 ∧ a = (k0 : Int) ∧ n = bs.length ∧ k0 ≤ n ∧ n < 1000000 ∧ (s.fd = false → sgF (bs.drop k0) (sgs.drop s.i) = sgM bs k0 ∧ sgM bs k0 ≠ 0)) (fun s => 25 - s.i + (bif s.fd then 0 else 1))
    ⟨0, false⟩ (fun h => ⟨Nat.zero_le _, h.1, h.2.1, h.2.2.1, h.2.2.2.1, fun _ => ⟨rfl, h.2.2.2.2⟩⟩) (fun p hp => hp) [0, 1, 2, 3] (by decide) rfl
    (o := fun s => bif s.fd then sgB_o else sgA_o) (R := fun s xs => bif s.fd then sgB_R g n cb v2 v3 v4 v5 (k0 + sgM bs k0) pr pt gs cs s.i bs r a rn ln cl xs else sgA_R g n cb v2 v3 v4 v5 k0 pr pt gs cs s.i bs r a rn ln cl xs)
    (fun s xs _ => by
      obtain ⟨i, fd⟩ := s
      cases fd
      · exact sgA_run g n cb v2 v3 v4 v5 k0 pr pt gs cs i bs r a rn ln cl xs
      · exact sgB_run g n cb v2 v3 v4 v5 (k0 + sgM bs k0) pr pt gs cs i bs r a rn ln cl xs) ?_
  rintro - ⟨i, fd⟩ rest ⟨hi, ha, hn, hk, hm, hs⟩ ns
  have hi : i ≤ 25 := hi
  cases fd with
  | true =>
    simp only [cond_true, sgB_R, Sy.Res.holds]
    refine ⟨fun h => ?_, fun _ => ?_⟩
    · cases hb : Ex.ltQ (Int.ofNat i) 25 <;> rw [hb] at h <;> cases h
    · exact Sy.leafL_end 0 rfl rfl (by simp) rfl [] rfl [0, 1, 2, 3, 4, 5, 6, 7] rfl [3] (by decide) ⟨⟨rfl, rfl, .inl rfl⟩, trivial⟩ trivial
  | false =>
    obtain ⟨hs, h0⟩ := hs rfl
    have hs : sgF (bs.drop k0) (sgs.drop i) = sgM bs k0 := hs
    simp only [cond_false, sgA_R, Sy.Res.holds]
    refine ⟨fun hlt => ?_, fun hge => ?_⟩
    · have hlt : i < 25 := by
        have h1 : Ex.ltQ (Int.ofNat i) 25 = true := by
          cases hb : Ex.ltQ (Int.ofNat i) 25 with
          | true => rfl
          | false => rw [hb] at hlt; cases hlt
        rw [Sy.q_lt] at h1
        have h1 : (i : Int) < 25 := h1
        omega
      obtain ⟨s, hs1, hs2, hs3, hs4⟩ := sg_at hlt
      have hd : sgs.drop i = s :: sgs.drop (i + 1) := by
        have hl : i < sgs.length := hlt
        rw [List.drop_eq_getElem_cons hl]
        rw [List.getElem?_eq_getElem hl] at hs1
        injection hs1 with hs1
        rw [hs1]
      rw [hd, sgF_cons] at hs
      rw [hs2]
      have hr : (0 : Int) ≤ Int.ofNat i ∧ Int.ofNat i < 25 := ⟨Int.natCast_nonneg i, by show (i : Int) < 25; omega⟩
      have hsz : (⟨⟨s⟩⟩ : ByteArray).size = s.length := rfl
      refine ⟨hr, ⟨_, rfl⟩, fun h1 => ?_⟩
      simp only [Option.some.injEq, Value.string.injEq] at h1
      have ea : argS #[.slice (some ⟨g, 0, none⟩) n cb, .int .i64 a, .string (Sy.strV (Let.v (ns 0)))] 2 = ⟨⟨s⟩⟩ := by
        rw [← h1]; rfl
      rw [ea]
      have eb : begF bs (Int.toNat a) ⟨⟨s⟩⟩ = begL (bs.drop k0) s := by
        rw [ha]; rfl
      rw [eb]
      refine ⟨⟨k0, ha, hn, hk, by omega, by rw [hsz]; omega⟩, fun _ => ⟨fun hb => ⟨hr, ⟨_, rfl⟩, fun h2 => ?_⟩, fun hb => ?_⟩⟩
      · simp only [Option.some.injEq, Value.string.injEq] at h2
        rw [if_pos hb] at hs
        refine Sy.leafL_next ⟨i + 1, true⟩ rfl ⟨by show i + 1 ≤ 25; omega, ha, hn, hk, hm, fun h => (by cases h)⟩ (by show 25 - (i + 1) + 0 < 25 - i + 1; omega) ?_ [0, 1, 2, 3] (by decide) rfl
        rw [← h2, hsz, w_inc (by omega)]
        have : Ex.wrapQ .i64 (Ex.addQ (Int.ofNat k0) (Int.ofNat s.length)) = Int.ofNat (k0 + sgM bs k0) := by
          have h3 : Ex.wrapQ .i64 (Ex.addQ (Int.ofNat k0) ((s.length : Nat) : Int)) = ((k0 + s.length : Nat) : Int) := w_add (by omega)
          rw [← hs]; exact h3
        rw [this]
        rfl
      · rw [if_neg (by rw [hb]; simp)] at hs
        refine Sy.leafL_next ⟨i + 1, false⟩ rfl ⟨by show i + 1 ≤ 25; omega, ha, hn, hk, hm, fun _ => ⟨hs, h0⟩⟩ (by show 25 - (i + 1) + 1 < 25 - i + 1; omega) ?_ [0, 1, 2, 3] (by decide) rfl
        rw [w_inc (by omega)]
        rfl
    · have : i = 25 := by
        have h1 : Ex.ltQ (Int.ofNat i) 25 = false := by
          cases hb : Ex.ltQ (Int.ofNat i) 25 with
          | false => rfl
          | true => rw [hb] at hge; cases hge
        rw [Sy.b_f, Sy.q_lt] at h1
        have h1 : ¬ ((i : Int) < 25) := h1
        omega
      subst this
      exact (h0 (by rw [← hs]; rfl)).elim

end Go.Proofs.Ytbgmkefehfjicaa

/-
  The reference's lexer: the call (of texts without a slash, whose tokens are all right).
-/
namespace Go.Proofs.Ytbgmkefehfjicaa
set_option linter.unusedVariables false
set_option linter.unusedSimpArgs false
open Go Go.RowKit
open Sy (Let Blk)

noncomputable def bodyLx : Code := Sy.loopBody Try.f22 0

noncomputable def numM (l : List Ru) (k : Nat) : Nat := ((numF (l.drop k) 0).getD (0, 0)).1
noncomputable def numV (l : List Ru) (k : Nat) : Nat := ((numF (l.drop k) 0).getD (0, 0)).2
noncomputable def nuK (n gl cl : Nat) (bs : List Nat) (l : List Ru) (k : Nat) : Sy.CallC := nuC n gl cl k bs l (numM l k) (numV l k)
def Sy.intN (v : Value) : Nat := match v with
  | .int _ i => i.toNat
  | _ => 0

/-- The rune among the blocks. -/
noncomputable def Sy.runeB (L : List Blk) : Nat → Int := @List.rec Blk (fun _ => Nat → Int) (fun _ => 0) (fun b _ ih j => match b.ct with
  | .obj (.cells c _ _) => match c.toList with
    | [.int .i64 r, .int .i64 a, .int .i64 n, .int .i64 l, .int .i64 c] => match j with
      | 0 => r
      | 1 => a
      | 2 => n
      | 3 => l
      | _ => c
    | _ => ih j
  | _ => ih j) L

noncomputable def ctxL (g n cb gl cl : Nat) (bs : List Nat) (l : List Ru) : Sy.Ctx := Sy.mkS
  [(49, fun a _ => skC g n cb gl cl (Sy.argI a 2).toNat bs l), (fDigit, fun a _ => ruK dgC a), (fLetter, fun a _ => ruK ltC a), (fNumber, fun a _ => nuK n gl cl bs l (Sy.argI a 1).toNat), (fBegins, fun a _ => begI g n cb (Sy.argI a 1) (argS a 2) bs), (fIsWord, fun a _ => iwC (argS a 0))]
  [(fLex, fun a _ => loopNm n gl cl (Sy.intN (a.get 6)) bs l (a.get 0) (a.get 2) (a.get 3) (a.get 5) (a.get 7) (a.get 8)), (fLex, fun a L => loopG g n cb (a.get 2) (a.get 3) (a.get 4) (a.get 5) (Sy.intN (a.get 6)) (Sy.ptrN (a.get 7)) (Sy.ptrN (a.get 8)) (Sy.ptrN (a.get 12)) (Sy.capN (a.get 12)) bs (Sy.runeB L 0) (Sy.runeB L 1) (Sy.runeB L 2) (Sy.runeB L 3) (Sy.runeB L 4))]
  [(fLex, 86, fun a _ => cvK g bs (a.get 85)), (fLex, 131, fun a _ => cvK g bs (a.get 130))]

def slL (g n cb p3 gl cl go m co k : Nat) : List (Nat × Value) := [(0, .slice (some ⟨g, 0, none⟩) n cb), (2, .slice none 0 0), (3, .pointer (some ⟨p3, 0, none⟩)), (4, .slice (some ⟨gl, 0, none⟩) (n + 1) cl), (5, .slice (some ⟨go, 0, none⟩) m co), (6, .int .i64 (Int.ofNat k))]
noncomputable def memL (g p3 gl go m co : Nat) (bs : List Nat) (l : List Ru) (xs : List Value) : List Blk := [⟨g, .seg 0 (bcells bs), false⟩, ⟨p3, .obj (.cells #[.int .i64 0, .int .i64 0, .int .i64 0] 45 (0, 0)), true⟩, ⟨gl, .seg 0 (ruCells l), false⟩, ⟨go, .row tTok 5 m co xs, true⟩]

def lxB_o : Sy.O := (Sy.O.steps [0, 0, 0, 1, 0, 0, 0, 0, 0, 1, 0, 1, 1, 1, 1, 1, 1, 1, 1, 0, 0, 0, 0, 0, 0, 0, 0, 0, 0, 0, 0, 0, 1, 0] (Sy.O.fork (Sy.O.steps [0, 0, 0, 0, 0, 0, 0, 0, 0, 6, 0, 1, 1, 0, 0, 5, 0, 0, 0, 0, 0, 6, 0] Sy.O.nil) (Sy.O.steps [0, 1, 0, 0, 0, 0, 0] (Sy.O.fork (Sy.O.steps [0, 3, 0, 0, 0, 0, 0, 0, 0, 0, 0, 0, 0, 2, 0, 0, 2, 0, 0, 1, 0, 3, 0, 1, 0, 1, 2, 0, 0, 0, 3, 4, 5, 0, 1, 6, 7, 0, 1, 1, 1, 1, 8, 1, 14, 0, 4, 0, 0, 0, 0, 1, 0, 4, 2, 10, 14, 3, 0, 0] (Sy.O.steps [1, 0, 4, 2, 0, 3, 0, 0, 0, 0, 7, 0, 1, 1, 0, 0, 6, 0, 0, 0, 0] Sy.O.nil)) (Sy.O.steps [0, 1, 0, 0, 0, 0, 0] (Sy.O.fork (Sy.O.steps [0, 3, 0, 0, 0, 0, 1, 0, 0, 1, 0, 2, 0, 0, 0, 1, 2, 0, 0, 0, 3, 4, 5, 0, 1, 6, 7, 0, 1, 1, 1, 1, 8, 1, 13, 0, 3, 0, 0, 0, 0, 1, 0, 3, 1, 13, 0, 0, 0, 0, 1, 0, 3, 1] (Sy.O.fork (Sy.O.steps [2, 0, 0, 1, 0, 3, 0, 1, 0, 1, 2, 0, 0, 0, 3, 4, 5, 0, 1, 6, 7, 0, 1, 1, 1, 1, 8, 1, 14, 0, 0, 0, 0, 0, 0, 1, 0, 3, 1, 10, 14, 2, 0, 0, 1, 0, 3, 1, 0, 2, 0, 0, 0, 0, 6, 0, 1, 1, 0, 0] (Sy.O.steps [5, 0, 0, 0, 0] Sy.O.nil)) (Sy.O.steps [1, 0, 3, 0, 1, 0, 1, 2, 0, 0, 0, 3, 4, 5, 0, 1, 6, 7, 0, 1, 1, 1, 1, 8, 1, 14, 0, 0, 0, 0, 0, 0, 1, 0, 3, 1, 10, 14, 2, 0, 0, 1, 0, 3, 1, 0, 2, 0, 0, 0, 0, 6, 0, 1, 1, 0, 0, 5, 0, 0] (Sy.O.steps [0, 0] Sy.O.nil)))) (Sy.O.steps [1, 3, 0, 2, 0, 0, 0, 0, 0, 0, 0, 0, 0, 0, 0, 0, 1, 0, 2, 0, 4, 0, 1, 2, 0, 0, 0, 3, 4, 5, 0, 1, 6, 7, 0, 1, 1, 1, 1, 8, 1, 14, 0, 1, 0, 0, 0, 0, 1, 0, 2, 4, 10, 14, 1, 0, 0, 1, 0, 2] (Sy.O.steps [4, 0, 1, 0, 0, 0, 0, 7, 0, 1, 1, 0, 0, 6, 0, 0, 0, 0] Sy.O.nil))))))))
noncomputable def lxB_R (g : Nat) (n : Nat) (cb : Nat) (p3 : Nat) (gl : Nat) (cl : Nat) (go : Nat) (m : Nat) (co : Nat) (k : Nat) (bs : List Nat) (l : List Ru) (xs : List Value) (rest : List Value) (ns : Nat → Sy.Let) : Sy.Res (Exit × Nat × List Value × List Blk) := .need (Tx bs n l ∧ Int.toNat (Int.ofNat k) ≤ n) (.hyp True (.need ((0 : Int) ≤ Int.ofNat (Int.toNat (Int.ofNat k) + blanksF (List.drop (Int.toNat (Int.ofNat k)) l)) ∧ Int.ofNat (Int.toNat (Int.ofNat k) + blanksF (List.drop (Int.toNat (Int.ofNat k)) l)) < (↑(n + (1 : Nat)) : Int)) (.need (∃ (i : Int), Sy.Cont.at (.seg (0 : Nat) (ruCells l)) ((0 : Nat) + Int.toNat (Int.ofNat (Int.toNat (Int.ofNat k) + blanksF (List.drop (Int.toNat (Int.ofNat k)) l))) * (5 : Nat)) = some (.int .i64 i)) (.hyp (Sy.Cont.at (.seg (0 : Nat) (ruCells l)) ((0 : Nat) + Int.toNat (Int.ofNat (Int.toNat (Int.ofNat k) + blanksF (List.drop (Int.toNat (Int.ofNat k)) l))) * (5 : Nat)) = some (.int .i64 (Let.i (ns 0)))) (.need (∃ (i : Int), Sy.Cont.at (.seg (0 : Nat) (ruCells l)) ((0 : Nat) + Int.toNat (Int.ofNat (Int.toNat (Int.ofNat k) + blanksF (List.drop (Int.toNat (Int.ofNat k)) l))) * (5 : Nat) + (1 : Nat)) = some (.int .i64 i)) (.hyp (Sy.Cont.at (.seg (0 : Nat) (ruCells l)) ((0 : Nat) + Int.toNat (Int.ofNat
 (Int.toNat (Int.ofNat k) + blanksF (List.drop (Int.toNat (Int.ofNat k)) l))) * (5 : Nat) + (1 : Nat)) = some (.int .i64 (Let.i (ns 1)))) (.need (∃ (i : Int), Sy.Cont.at (.seg (0 : Nat) (ruCells l)) ((0 : Nat) + Int.toNat (Int.ofNat (Int.toNat (Int.ofNat k) + blanksF (List.drop (Int.toNat (Int.ofNat k)) l))) * (5 : Nat) + (1 : Nat) + (1 : Nat)) = some (.int .i64 i)) (.hyp (Sy.Cont.at (.seg (0 : Nat) (ruCells l)) ((0 : Nat) + Int.toNat (Int.ofNat (Int.toNat (Int.ofNat k) + blanksF (List.drop (Int.toNat (Int.ofNat k)) l))) * (5 : Nat) + (1 : Nat) + (1 : Nat)) = some (.int .i64 (Let.i (ns 2)))) (.need (∃ (i : Int), Sy.Cont.at (.seg (0 : Nat) (ruCells l)) ((0 : Nat) + Int.toNat (Int.ofNat (Int.toNat (Int.ofNat k) + blanksF (List.drop (Int.toNat (Int.ofNat k)) l))) * (5 : Nat) + (1 : Nat) + (1 : Nat) + (1 : Nat)) = some (.int .i64 i)) (.hyp (Sy.Cont.at (.seg (0 : Nat) (ruCells l)) ((0 : Nat) + Int.toNat (Int.ofNat (Int.toNat (Int.ofNat k) + blanksF (List.drop (Int.toNat (Int.ofNat k)) l))) *
 (5 : Nat) + (1 : Nat) + (1 : Nat) + (1 : Nat)) = some (.int .i64 (Let.i (ns 3)))) (.need (∃ (i : Int), Sy.Cont.at (.seg (0 : Nat) (ruCells l)) ((0 : Nat) + Int.toNat (Int.ofNat (Int.toNat (Int.ofNat k) + blanksF (List.drop (Int.toNat (Int.ofNat k)) l))) * (5 : Nat) + (1 : Nat) + (1 : Nat) + (1 : Nat) + (1 : Nat)) = some (.int .i64 i)) (.hyp (Sy.Cont.at (.seg (0 : Nat) (ruCells l)) ((0 : Nat) + Int.toNat (Int.ofNat (Int.toNat (Int.ofNat k) + blanksF (List.drop (Int.toNat (Int.ofNat k)) l))) * (5 : Nat) + (1 : Nat) + (1 : Nat) + (1 : Nat) + (1 : Nat)) = some (.int .i64 (Let.i (ns 4)))) (.br (Ex.eqQ (Let.i (ns 2)) (0 : Int)) (.need (m + (1 : Nat) ≤ (9223372036854775807 : Nat)) (.need ((m + (1 : Nat)) * (48 : Nat) ≤ (140737488355328 : Nat)) (.hyp (Nat.le (m + (1 : Nat)) (Let.n (ns 9))) (.leaf (Exit.ret, (137 : Nat), [.slice (some (Addr.mk g 0 none)) n cb, .slice (some (Addr.mk (Let.n (ns 8)) 0 none)) (m + (1 : Nat)) (Let.n (ns 9)), .pointer (some (Addr.mk p3 0 none)), .slice (some (Addr.mk
 gl 0 none)) (n + (1 : Nat)) cl, .slice (some (Addr.mk go 0 none)) m co, .int .i64 (Int.ofNat (Int.toNat (Int.ofNat k) + blanksF (List.drop (Int.toNat (Int.ofNat k)) l)))], [Blk.mk (Let.n (ns 8)) (.row (78 : Nat) (5 : Nat) (m + (1 : Nat)) (Let.n (ns 9)) (xs ++ [.int .i64 (5 : Int), Value.string (ByteArray.mk (Array.mk [])), .int .u64 (0 : Int), .int .i64 (Let.i (ns 3)), .int .i64 (Let.i (ns 4))])) true, Blk.mk (Let.n (ns 7)) (.obj (.cells (Array.mk [.int .i64 (5 : Int), Value.string (ByteArray.mk (Array.mk [])), .int .u64 (0 : Int), .int .i64 (Let.i (ns 3)), .int .i64 (Let.i (ns 4))]) (78 : Nat))) true, Blk.mk (Let.n (ns 6)) (.obj (.cells (Array.mk [.int .i64 (5 : Int), Value.string (ByteArray.mk (Array.mk [])), .int .u64 (0 : Int), .int .i64 (Let.i (ns 3)), .int .i64 (Let.i (ns 4))]) (78 : Nat))) true, Blk.mk (Let.n (ns 5)) (.obj (.cells (Array.mk [.int .i64 (Let.i (ns 0)), .int .i64 (Let.i (ns 1)), .int .i64 (Let.i (ns 2)), .int .i64 (Let.i (ns 3)), .int .i64 (Let.i (ns 4))]) (119 :
 Nat))) true, Blk.mk g (.seg (0 : Nat) (bcells bs)) false, Blk.mk gl (.seg (0 : Nat) (ruCells l)) false, Blk.mk p3 (.obj (.cells (Array.mk [.int .i64 (0 : Int), .int .i64 (0 : Int), .int .i64 (0 : Int)]) (45 : Nat))) true]))))) (.need True (.hyp True (.br (dgF (Let.i (ns 0)) (Let.i (ns 2))) (.need (Tx bs n l ∧ Int.toNat (Int.ofNat (Int.toNat (Int.ofNat k) + blanksF (List.drop (Int.toNat (Int.ofNat k)) l))) < n ∧ (∀ (x y : Ru), l[Int.toNat (Int.ofNat (Int.toNat (Int.ofNat k) + blanksF (List.drop (Int.toNat (Int.ofNat k)) l)))]? = some x → l[Int.toNat (Int.ofNat (Int.toNat (Int.ofNat k) + blanksF (List.drop (Int.toNat (Int.ofNat k)) l))) + (1 : Nat)]? = some y → ¬(Ru.r x = (48 : Nat) ∧ (0 : Nat) < Ru.n y ∧ (Ru.r y = (120 : Nat) ∨ Ru.r y = (88 : Nat)))) ∧ numF (List.drop (Int.toNat (Int.ofNat (Int.toNat (Int.ofNat k) + blanksF (List.drop (Int.toNat (Int.ofNat k)) l)))) l) (0 : Nat) = some (numM l (Int.toNat (Int.ofNat (Int.toNat (Int.ofNat k) + blanksF (List.drop (Int.toNat (Int.ofNat k))
 l)))), numV l (Int.toNat (Int.ofNat (Int.toNat (Int.ofNat k) + blanksF (List.drop (Int.toNat (Int.ofNat k)) l))))) ∧ ∀ (x : Ru), l[Int.toNat (Int.ofNat (Int.toNat (Int.ofNat k) + blanksF (List.drop (Int.toNat (Int.ofNat k)) l))) + numM l (Int.toNat (Int.ofNat (Int.toNat (Int.ofNat k) + blanksF (List.drop (Int.toNat (Int.ofNat k)) l))))]? = some x → ltF (Int.ofNat (Ru.r x)) (Int.ofNat (Ru.n x)) = false ∧ dgF (Int.ofNat (Ru.r x)) (Int.ofNat (Ru.n x)) = false) (.hyp True (.need ((0 : Int) ≤ Int.ofNat (Int.toNat (Int.ofNat (Int.toNat (Int.ofNat k) + blanksF (List.drop (Int.toNat (Int.ofNat k)) l))) + numM l (Int.toNat (Int.ofNat (Int.toNat (Int.ofNat k) + blanksF (List.drop (Int.toNat (Int.ofNat k)) l))))) ∧ Int.ofNat (Int.toNat (Int.ofNat (Int.toNat (Int.ofNat k) + blanksF (List.drop (Int.toNat (Int.ofNat k)) l))) + numM l (Int.toNat (Int.ofNat (Int.toNat (Int.ofNat k) + blanksF (List.drop (Int.toNat (Int.ofNat k)) l))))) < (↑(n + (1 : Nat)) : Int)) (.need (∃ (i : Int), Sy.Cont.at (.seg (0
 : Nat) (ruCells l)) (Nat.succ ((0 : Nat) + Int.toNat (Int.ofNat (Int.toNat (Int.ofNat (Int.toNat (Int.ofNat k) + blanksF (List.drop (Int.toNat (Int.ofNat k)) l))) + numM l (Int.toNat (Int.ofNat (Int.toNat (Int.ofNat k) + blanksF (List.drop (Int.toNat (Int.ofNat k)) l)))))) * (5 : Nat))) = some (.int .i64 i)) (.hyp (Sy.Cont.at (.seg (0 : Nat) (ruCells l)) (Nat.succ ((0 : Nat) + Int.toNat (Int.ofNat (Int.toNat (Int.ofNat (Int.toNat (Int.ofNat k) + blanksF (List.drop (Int.toNat (Int.ofNat k)) l))) + numM l (Int.toNat (Int.ofNat (Int.toNat (Int.ofNat k) + blanksF (List.drop (Int.toNat (Int.ofNat k)) l)))))) * (5 : Nat))) = some (.int .i64 (Let.i (ns 8)))) (.need ((0 : Int) ≤ Let.i (ns 1) ∧ Let.i (ns 1) ≤ Let.i (ns 8) ∧ Let.i (ns 8) ≤ (↑cb : Int)) (.need (ascii bs ∧ ∃ (x : Nat), ∃ (m : Nat), ∃ (c : Nat), .slice (some (Addr.mk g (Sy.offQ cb (Int.toNat (Let.i (ns 1))) (0 : Nat) (1 : Nat)) none)) (Int.toNat (Let.i (ns 8)) - Int.toNat (Let.i (ns 1))) (cb - Int.toNat (Let.i (ns 1))) = Value.slice
 (some (Addr.mk g x none)) m c ∧ x + m ≤ List.length bs) (.hyp True (.need (m + (1 : Nat) ≤ (9223372036854775807 : Nat)) (.need ((m + (1 : Nat)) * (48 : Nat) ≤ (140737488355328 : Nat)) (.hyp (Nat.le (m + (1 : Nat)) (Let.n (ns 11))) (.leaf (Exit.normal, (137 : Nat), [.slice (some (Addr.mk g 0 none)) n cb, .slice none (0 : Nat) (0 : Nat), .pointer (some (Addr.mk p3 0 none)), .slice (some (Addr.mk gl 0 none)) (n + (1 : Nat)) cl, .slice (some (Addr.mk (Let.n (ns 10)) 0 none)) (m + (1 : Nat)) (Let.n (ns 11)), .int .i64 (Int.ofNat (Int.toNat (Int.ofNat (Int.toNat (Int.ofNat k) + blanksF (List.drop (Int.toNat (Int.ofNat k)) l))) + numM l (Int.toNat (Int.ofNat (Int.toNat (Int.ofNat k) + blanksF (List.drop (Int.toNat (Int.ofNat k)) l))))))], [Blk.mk (Let.n (ns 10)) (.row (78 : Nat) (5 : Nat) (m + (1 : Nat)) (Let.n (ns 11)) (xs ++ [.int .i64 (2 : Int), Value.string (txt bs (Sy.offQ cb (Int.toNat (Let.i (ns 1))) (0 : Nat) (1 : Nat)) (Int.toNat (Let.i (ns 8)) - Int.toNat (Let.i (ns 1)))), .int .u64
 (Int.ofNat (numV l (Int.toNat (Int.ofNat (Int.toNat (Int.ofNat k) + blanksF (List.drop (Int.toNat (Int.ofNat k)) l)))))), .int .i64 (Let.i (ns 3)), .int .i64 (Let.i (ns 4))])) true, Blk.mk (Let.n (ns 9)) (.obj (.cells (Array.mk [.int .i64 (2 : Int), Value.string (txt bs (Sy.offQ cb (Int.toNat (Let.i (ns 1))) (0 : Nat) (1 : Nat)) (Int.toNat (Let.i (ns 8)) - Int.toNat (Let.i (ns 1)))), .int .u64 (Int.ofNat (numV l (Int.toNat (Int.ofNat (Int.toNat (Int.ofNat k) + blanksF (List.drop (Int.toNat (Int.ofNat k)) l)))))), .int .i64 (Let.i (ns 3)), .int .i64 (Let.i (ns 4))]) (78 : Nat))) true, Blk.mk g (.seg (0 : Nat) (bcells bs)) false, Blk.mk (Let.n (ns 7)) (.obj (.cells (Array.mk [.int .i64 (0 : Int), .int .i64 (0 : Int), .int .i64 (0 : Int)]) (45 : Nat))) true, Blk.mk gl (.seg (0 : Nat) (ruCells l)) false, Blk.mk (Let.n (ns 6)) (.obj (.cells (Array.mk [.int .i64 (2 : Int), Value.string (txt bs (Sy.offQ cb (Int.toNat (Let.i (ns 1))) (0 : Nat) (1 : Nat)) (Int.toNat (Let.i (ns 8)) - Int.toNat
 (Let.i (ns 1)))), .int .u64 (Int.ofNat (numV l (Int.toNat (Int.ofNat (Int.toNat (Int.ofNat k) + blanksF (List.drop (Int.toNat (Int.ofNat k)) l)))))), .int .i64 (Let.i (ns 3)), .int .i64 (Let.i (ns 4))]) (78 : Nat))) true, Blk.mk (Let.n (ns 5)) (.obj (.cells (Array.mk [.int .i64 (Let.i (ns 0)), .int .i64 (Let.i (ns 1)), .int .i64 (Let.i (ns 2)), .int .i64 (Let.i (ns 3)), .int .i64 (Let.i (ns 4))]) (119 : Nat))) true, Blk.mk p3 (.obj (.cells (Array.mk [.int .i64 (0 : Int), .int .i64 (0 : Int), .int .i64 (0 : Int)]) (45 : Nat))) true]))))))))))))) (.need True (.hyp True (.br (ltF (Let.i (ns 0)) (Let.i (ns 2))) (.need (Tx bs n l ∧ Int.toNat (Int.ofNat (Int.toNat (Int.ofNat k) + blanksF (List.drop (Int.toNat (Int.ofNat k)) l))) ≤ n) (.hyp True (.need ((0 : Int) ≤ Int.ofNat (Int.toNat (Int.ofNat (Int.toNat (Int.ofNat k) + blanksF (List.drop (Int.toNat (Int.ofNat k)) l))) + nameF (List.drop (Int.toNat (Int.ofNat (Int.toNat (Int.ofNat k) + blanksF (List.drop (Int.toNat (Int.ofNat k)) l)))) l))
 ∧ Int.ofNat (Int.toNat (Int.ofNat (Int.toNat (Int.ofNat k) + blanksF (List.drop (Int.toNat (Int.ofNat k)) l))) + nameF (List.drop (Int.toNat (Int.ofNat (Int.toNat (Int.ofNat k) + blanksF (List.drop (Int.toNat (Int.ofNat k)) l)))) l)) < (↑(n + (1 : Nat)) : Int)) (.need (∃ (i : Int), Sy.Cont.at (.seg (0 : Nat) (ruCells l)) (Nat.succ ((0 : Nat) + Int.toNat (Int.ofNat (Int.toNat (Int.ofNat (Int.toNat (Int.ofNat k) + blanksF (List.drop (Int.toNat (Int.ofNat k)) l))) + nameF (List.drop (Int.toNat (Int.ofNat (Int.toNat (Int.ofNat k) + blanksF (List.drop (Int.toNat (Int.ofNat k)) l)))) l))) * (5 : Nat))) = some (.int .i64 i)) (.hyp (Sy.Cont.at (.seg (0 : Nat) (ruCells l)) (Nat.succ ((0 : Nat) + Int.toNat (Int.ofNat (Int.toNat (Int.ofNat (Int.toNat (Int.ofNat k) + blanksF (List.drop (Int.toNat (Int.ofNat k)) l))) + nameF (List.drop (Int.toNat (Int.ofNat (Int.toNat (Int.ofNat k) + blanksF (List.drop (Int.toNat (Int.ofNat k)) l)))) l))) * (5 : Nat))) = some (.int .i64 (Let.i (ns 8)))) (.need ((0 :
 Int) ≤ Let.i (ns 1) ∧ Let.i (ns 1) ≤ Let.i (ns 8) ∧ Let.i (ns 8) ≤ (↑cb : Int)) (.need (ascii bs ∧ ∃ (x : Nat), ∃ (m : Nat), ∃ (c : Nat), .slice (some (Addr.mk g (Sy.offQ cb (Int.toNat (Let.i (ns 1))) (0 : Nat) (1 : Nat)) none)) (Int.toNat (Let.i (ns 8)) - Int.toNat (Let.i (ns 1))) (cb - Int.toNat (Let.i (ns 1))) = Value.slice (some (Addr.mk g x none)) m c ∧ x + m ≤ List.length bs) (.hyp True (.need True (.hyp True (.br (isWordF (argS (Array.mk [Value.string (txt bs (Sy.offQ cb (Int.toNat (Let.i (ns 1))) (0 : Nat) (1 : Nat)) (Int.toNat (Let.i (ns 8)) - Int.toNat (Let.i (ns 1))))]) (0 : Nat))) (.need ((0 : Int) ≤ Int.ofNat (Int.toNat (Int.ofNat (Int.toNat (Int.ofNat k) + blanksF (List.drop (Int.toNat (Int.ofNat k)) l))) + nameF (List.drop (Int.toNat (Int.ofNat (Int.toNat (Int.ofNat k) + blanksF (List.drop (Int.toNat (Int.ofNat k)) l)))) l)) ∧ Int.ofNat (Int.toNat (Int.ofNat (Int.toNat (Int.ofNat k) + blanksF (List.drop (Int.toNat (Int.ofNat k)) l))) + nameF (List.drop (Int.toNat
 (Int.ofNat (Int.toNat (Int.ofNat k) + blanksF (List.drop (Int.toNat (Int.ofNat k)) l)))) l)) < (↑(n + (1 : Nat)) : Int)) (.need (∃ (i : Int), Sy.Cont.at (.seg (0 : Nat) (ruCells l)) (Nat.succ ((0 : Nat) + Int.toNat (Int.ofNat (Int.toNat (Int.ofNat (Int.toNat (Int.ofNat k) + blanksF (List.drop (Int.toNat (Int.ofNat k)) l))) + nameF (List.drop (Int.toNat (Int.ofNat (Int.toNat (Int.ofNat k) + blanksF (List.drop (Int.toNat (Int.ofNat k)) l)))) l))) * (5 : Nat))) = some (.int .i64 i)) (.hyp (Sy.Cont.at (.seg (0 : Nat) (ruCells l)) (Nat.succ ((0 : Nat) + Int.toNat (Int.ofNat (Int.toNat (Int.ofNat (Int.toNat (Int.ofNat k) + blanksF (List.drop (Int.toNat (Int.ofNat k)) l))) + nameF (List.drop (Int.toNat (Int.ofNat (Int.toNat (Int.ofNat k) + blanksF (List.drop (Int.toNat (Int.ofNat k)) l)))) l))) * (5 : Nat))) = some (.int .i64 (Let.i (ns 9)))) (.need ((0 : Int) ≤ Let.i (ns 1) ∧ Let.i (ns 1) ≤ Let.i (ns 9) ∧ Let.i (ns 9) ≤ (↑cb : Int)) (.need (ascii bs ∧ ∃ (x : Nat), ∃ (m : Nat), ∃ (c : Nat),
 .slice (some (Addr.mk g (Sy.offQ cb (Int.toNat (Let.i (ns 1))) (0 : Nat) (1 : Nat)) none)) (Int.toNat (Let.i (ns 9)) - Int.toNat (Let.i (ns 1))) (cb - Int.toNat (Let.i (ns 1))) = Value.slice (some (Addr.mk g x none)) m c ∧ x + m ≤ List.length bs) (.hyp True (.need (m + (1 : Nat) ≤ (9223372036854775807 : Nat)) (.need ((m + (1 : Nat)) * (48 : Nat) ≤ (140737488355328 : Nat)) (.hyp (Nat.le (m + (1 : Nat)) (Let.n (ns 12))) (.leaf (Exit.normal, (137 : Nat), [.slice (some (Addr.mk g 0 none)) n cb, .slice none (0 : Nat) (0 : Nat), .pointer (some (Addr.mk p3 0 none)), .slice (some (Addr.mk gl 0 none)) (n + (1 : Nat)) cl, .slice (some (Addr.mk (Let.n (ns 11)) 0 none)) (m + (1 : Nat)) (Let.n (ns 12)), .int .i64 (Int.ofNat (Int.toNat (Int.ofNat (Int.toNat (Int.ofNat k) + blanksF (List.drop (Int.toNat (Int.ofNat k)) l))) + nameF (List.drop (Int.toNat (Int.ofNat (Int.toNat (Int.ofNat k) + blanksF (List.drop (Int.toNat (Int.ofNat k)) l)))) l)))], [Blk.mk (Let.n (ns 11)) (.row (78 : Nat) (5 : Nat) (m +
 (1 : Nat)) (Let.n (ns 12)) (xs ++ [.int .i64 (3 : Int), Value.string (txt bs (Sy.offQ cb (Int.toNat (Let.i (ns 1))) (0 : Nat) (1 : Nat)) (Int.toNat (Let.i (ns (9 : Nat))) - Int.toNat (Let.i (ns (1 : Nat))))), .int .u64 (0 : Int), .int .i64 (Let.i (ns 3)), .int .i64 (Let.i (ns 4))])) true, Blk.mk (Let.n (ns 10)) (.obj (.cells (Array.mk [.int .i64 (3 : Int), Value.string (txt bs (Sy.offQ cb (Int.toNat (Let.i (ns (1 : Nat)))) (0 : Nat) (1 : Nat)) (Int.toNat (Let.i (ns (9 : Nat))) - Int.toNat (Let.i (ns (1 : Nat))))), .int .u64 (0 : Int), .int .i64 (Let.i (ns 3)), .int .i64 (Let.i (ns 4))]) (78 : Nat))) true, Blk.mk g (.seg (0 : Nat) (bcells bs)) false, Blk.mk gl (.seg (0 : Nat) (ruCells l)) false, Blk.mk (Let.n (ns 6)) (.obj (.cells (Array.mk [.int .i64 (3 : Int), Value.string (txt bs (Sy.offQ cb (Int.toNat (Let.i (ns (1 : Nat)))) (0 : Nat) (1 : Nat)) (Int.toNat (Let.i (ns (9 : Nat))) - Int.toNat (Let.i (ns (1 : Nat))))), .int .u64 (0 : Int), .int .i64 (Let.i (ns 3)), .int .i64 (Let.i (ns
 4))]) (78 : Nat))) true, Blk.mk (Let.n (ns 5)) (.obj (.cells (Array.mk [.int .i64 (Let.i (ns 0)), .int .i64 (Let.i (ns 1)), .int .i64 (Let.i (ns 2)), .int .i64 (Let.i (ns 3)), .int .i64 (Let.i (ns 4))]) (119 : Nat))) true, Blk.mk p3 (.obj (.cells (Array.mk [.int .i64 (0 : Int), .int .i64 (0 : Int), .int .i64 (0 : Int)]) (45 : Nat))) true]))))))))))) (.need ((0 : Int) ≤ Int.ofNat (Int.toNat (Int.ofNat (Int.toNat (Int.ofNat k) + blanksF (List.drop (Int.toNat (Int.ofNat k)) l))) + nameF (List.drop (Int.toNat (Int.ofNat (Int.toNat (Int.ofNat k) + blanksF (List.drop (Int.toNat (Int.ofNat k)) l)))) l)) ∧ Int.ofNat (Int.toNat (Int.ofNat (Int.toNat (Int.ofNat k) + blanksF (List.drop (Int.toNat (Int.ofNat k)) l))) + nameF (List.drop (Int.toNat (Int.ofNat (Int.toNat (Int.ofNat k) + blanksF (List.drop (Int.toNat (Int.ofNat k)) l)))) l)) < (↑(n + (1 : Nat)) : Int)) (.need (∃ (i : Int), Sy.Cont.at (.seg (0 : Nat) (ruCells l)) (Nat.succ ((0 : Nat) + Int.toNat (Int.ofNat (Int.toNat (Int.ofNat
 (Int.toNat (Int.ofNat k) + blanksF (List.drop (Int.toNat (Int.ofNat k)) l))) + nameF (List.drop (Int.toNat (Int.ofNat (Int.toNat (Int.ofNat k) + blanksF (List.drop (Int.toNat (Int.ofNat k)) l)))) l))) * (5 : Nat))) = some (.int .i64 i)) (.hyp (Sy.Cont.at (.seg (0 : Nat) (ruCells l)) (Nat.succ ((0 : Nat) + Int.toNat (Int.ofNat (Int.toNat (Int.ofNat (Int.toNat (Int.ofNat k) + blanksF (List.drop (Int.toNat (Int.ofNat k)) l))) + nameF (List.drop (Int.toNat (Int.ofNat (Int.toNat (Int.ofNat k) + blanksF (List.drop (Int.toNat (Int.ofNat k)) l)))) l))) * (5 : Nat))) = some (.int .i64 (Let.i (ns 9)))) (.need ((0 : Int) ≤ Let.i (ns 1) ∧ Let.i (ns 1) ≤ Let.i (ns 9) ∧ Let.i (ns 9) ≤ (↑cb : Int)) (.need (ascii bs ∧ ∃ (x : Nat), ∃ (m : Nat), ∃ (c : Nat), .slice (some (Addr.mk g (Sy.offQ cb (Int.toNat (Let.i (ns 1))) (0 : Nat) (1 : Nat)) none)) (Int.toNat (Let.i (ns 9)) - Int.toNat (Let.i (ns 1))) (cb - Int.toNat (Let.i (ns 1))) = Value.slice (some (Addr.mk g x none)) m c ∧ x + m ≤ List.length bs)
 (.hyp True (.need (m + (1 : Nat) ≤ (9223372036854775807 : Nat)) (.need ((m + (1 : Nat)) * (48 : Nat) ≤ (140737488355328 : Nat)) (.hyp (Nat.le (m + (1 : Nat)) (Let.n (ns 12))) (.leaf (Exit.normal, (137 : Nat), [.slice (some (Addr.mk g 0 none)) n cb, .slice none (0 : Nat) (0 : Nat), .pointer (some (Addr.mk p3 0 none)), .slice (some (Addr.mk gl 0 none)) (n + (1 : Nat)) cl, .slice (some (Addr.mk (Let.n (ns 11)) 0 none)) (m + (1 : Nat)) (Let.n (ns 12)), .int .i64 (Int.ofNat (Int.toNat (Int.ofNat (Int.toNat (Int.ofNat k) + blanksF (List.drop (Int.toNat (Int.ofNat k)) l))) + nameF (List.drop (Int.toNat (Int.ofNat (Int.toNat (Int.ofNat k) + blanksF (List.drop (Int.toNat (Int.ofNat k)) l)))) l)))], [Blk.mk (Let.n (ns 11)) (.row (78 : Nat) (5 : Nat) (m + (1 : Nat)) (Let.n (ns 12)) (xs ++ [.int .i64 (1 : Int), Value.string (txt bs (Sy.offQ cb (Int.toNat (Let.i (ns 1))) (0 : Nat) (1 : Nat)) (Int.toNat (Let.i (ns (9 : Nat))) - Int.toNat (Let.i (ns (1 : Nat))))), .int .u64 (0 : Int), .int .i64 (Let.i
 (ns 3)), .int .i64 (Let.i (ns 4))])) true, Blk.mk (Let.n (ns 10)) (.obj (.cells (Array.mk [.int .i64 (1 : Int), Value.string (txt bs (Sy.offQ cb (Int.toNat (Let.i (ns (1 : Nat)))) (0 : Nat) (1 : Nat)) (Int.toNat (Let.i (ns (9 : Nat))) - Int.toNat (Let.i (ns (1 : Nat))))), .int .u64 (0 : Int), .int .i64 (Let.i (ns 3)), .int .i64 (Let.i (ns 4))]) (78 : Nat))) true, Blk.mk g (.seg (0 : Nat) (bcells bs)) false, Blk.mk gl (.seg (0 : Nat) (ruCells l)) false, Blk.mk (Let.n (ns 6)) (.obj (.cells (Array.mk [.int .i64 (1 : Int), Value.string (txt bs (Sy.offQ cb (Int.toNat (Let.i (ns (1 : Nat)))) (0 : Nat) (1 : Nat)) (Int.toNat (Let.i (ns (9 : Nat))) - Int.toNat (Let.i (ns (1 : Nat))))), .int .u64 (0 : Int), .int .i64 (Let.i (ns 3)), .int .i64 (Let.i (ns 4))]) (78 : Nat))) true, Blk.mk (Let.n (ns 5)) (.obj (.cells (Array.mk [.int .i64 (Let.i (ns 0)), .int .i64 (Let.i (ns 1)), .int .i64 (Let.i (ns 2)), .int .i64 (Let.i (ns 3)), .int .i64 (Let.i (ns 4))]) (119 : Nat))) true, Blk.mk p3 (.obj (.cells
 (Array.mk [.int .i64 (0 : Int), .int .i64 (0 : Int), .int .i64 (0 : Int)]) (45 : Nat))) true])))))))))))))))))))))) (.need (Let.i (ns 1) = (↑(Int.toNat (Int.ofNat (Int.toNat (Int.ofNat k) + blanksF (List.drop (Int.toNat (Int.ofNat k)) l)))) : Int) ∧ n = List.length bs ∧ Int.toNat (Int.ofNat (Int.toNat (Int.ofNat k) + blanksF (List.drop (Int.toNat (Int.ofNat k)) l))) ≤ n ∧ n < (1000000 : Nat) ∧ sgM bs (Int.toNat (Int.ofNat (Int.toNat (Int.ofNat k) + blanksF (List.drop (Int.toNat (Int.ofNat k)) l)))) ≠ (0 : Nat)) (.hyp True (.need ((0 : Int) ≤ Int.ofNat (Int.toNat (Int.ofNat (Int.toNat (Int.ofNat k) + blanksF (List.drop (Int.toNat (Int.ofNat k)) l))) + sgM bs (Int.toNat (Int.ofNat (Int.toNat (Int.ofNat k) + blanksF (List.drop (Int.toNat (Int.ofNat k)) l))))) ∧ Int.ofNat (Int.toNat (Int.ofNat (Int.toNat (Int.ofNat k) + blanksF (List.drop (Int.toNat (Int.ofNat k)) l))) + sgM bs (Int.toNat (Int.ofNat (Int.toNat (Int.ofNat k) + blanksF (List.drop (Int.toNat (Int.ofNat k)) l))))) < (↑(n + (1 :
 Nat)) : Int)) (.need (∃ (i : Int), Sy.Cont.at (.seg (0 : Nat) (ruCells l)) (Nat.succ ((0 : Nat) + Int.toNat (Int.ofNat (Int.toNat (Int.ofNat (Int.toNat (Int.ofNat k) + blanksF (List.drop (Int.toNat (Int.ofNat k)) l))) + sgM bs (Int.toNat (Int.ofNat (Int.toNat (Int.ofNat k) + blanksF (List.drop (Int.toNat (Int.ofNat k)) l)))))) * (5 : Nat))) = some (.int .i64 i)) (.hyp (Sy.Cont.at (.seg (0 : Nat) (ruCells l)) (Nat.succ ((0 : Nat) + Int.toNat (Int.ofNat (Int.toNat (Int.ofNat (Int.toNat (Int.ofNat k) + blanksF (List.drop (Int.toNat (Int.ofNat k)) l))) + sgM bs (Int.toNat (Int.ofNat (Int.toNat (Int.ofNat k) + blanksF (List.drop (Int.toNat (Int.ofNat k)) l)))))) * (5 : Nat))) = some (.int .i64 (Let.i (ns 9)))) (.need ((0 : Int) ≤ Let.i (ns 1) ∧ Let.i (ns 1) ≤ Let.i (ns 9) ∧ Let.i (ns 9) ≤ (↑cb : Int)) (.need (ascii bs ∧ ∃ (x : Nat), ∃ (m : Nat), ∃ (c : Nat), .slice (some (Addr.mk g (Sy.offQ cb (Int.toNat (Let.i (ns 1))) (0 : Nat) (1 : Nat)) none)) (Int.toNat (Let.i (ns 9)) - Int.toNat (Let.i
 (ns 1))) (cb - Int.toNat (Let.i (ns 1))) = Value.slice (some (Addr.mk g x none)) m c ∧ x + m ≤ List.length bs) (.hyp True (.need (m + (1 : Nat) ≤ (9223372036854775807 : Nat)) (.need ((m + (1 : Nat)) * (48 : Nat) ≤ (140737488355328 : Nat)) (.hyp (Nat.le (m + (1 : Nat)) (Let.n (ns 12))) (.leaf (Exit.normal, (137 : Nat), [.slice (some (Addr.mk g 0 none)) n cb, .slice none (0 : Nat) (0 : Nat), .pointer (some (Addr.mk p3 0 none)), .slice (some (Addr.mk gl 0 none)) (n + (1 : Nat)) cl, .slice (some (Addr.mk (Let.n (ns 11)) (0 : Nat) none)) (m + (1 : Nat)) (Let.n (ns 12)), .int .i64 (Int.ofNat (Int.toNat (Int.ofNat (Int.toNat (Int.ofNat k) + blanksF (List.drop (Int.toNat (Int.ofNat k)) l))) + sgM bs (Int.toNat (Int.ofNat (Int.toNat (Int.ofNat k) + blanksF (List.drop (Int.toNat (Int.ofNat k)) l))))))], [Blk.mk (Let.n (ns 11)) (.row (78 : Nat) (5 : Nat) (m + (1 : Nat)) (Let.n (ns 12)) (xs ++ [.int .i64 (4 : Int), Value.string (txt bs (Sy.offQ cb (Int.toNat (Let.i (ns 1))) (0 : Nat) (1 : Nat))
 (Int.toNat (Let.i (ns 9)) - Int.toNat (Let.i (ns 1)))), .int .u64 (0 : Int), .int .i64 (Let.i (ns 3)), .int .i64 (Let.i (ns 4))])) true, Blk.mk (Let.n (ns 10)) (.obj (.cells (Array.mk [.int .i64 (4 : Int), Value.string (txt bs (Sy.offQ cb (Int.toNat (Let.i (ns 1))) (0 : Nat) (1 : Nat)) (Int.toNat (Let.i (ns 9)) - Int.toNat (Let.i (ns 1)))), .int .u64 (0 : Int), .int .i64 (Let.i (ns 3)), .int .i64 (Let.i (ns 4))]) (78 : Nat))) true, Blk.mk g (.seg (0 : Nat) (bcells bs)) false, Blk.mk (Let.n (ns 6)) (.obj (.cells (Array.mk [.int .i64 (4 : Int), Value.string (txt bs (Sy.offQ cb (Int.toNat (Let.i (ns 1))) (0 : Nat) (1 : Nat)) (Int.toNat (Let.i (ns 9)) - Int.toNat (Let.i (ns 1)))), .int .u64 (0 : Int), .int .i64 (Let.i (ns 3)), .int .i64 (Let.i (ns 4))]) (78 : Nat))) true, Blk.mk (Let.n (ns 5)) (.obj (.cells (Array.mk [.int .i64 (Let.i (ns 0)), .int .i64 (Let.i (ns 1)), .int .i64 (Let.i (ns 2)), .int .i64 (Let.i (ns 3)), .int .i64 (Let.i (ns 4))]) (119 : Nat))) true, Blk.mk (Let.n (ns 7))
 (.obj (.cells (Array.mk [Value.string (ByteArray.mk (Array.mk [(60 : UInt8), (60 : UInt8)])), Value.string (ByteArray.mk (Array.mk [(62 : UInt8), (62 : UInt8)])), Value.string (ByteArray.mk (Array.mk [(61 : UInt8), (61 : UInt8)])), Value.string (ByteArray.mk (Array.mk [(33 : UInt8), (61 : UInt8)])), Value.string (ByteArray.mk (Array.mk [(60 : UInt8), (61 : UInt8)])), Value.string (ByteArray.mk (Array.mk [(62 : UInt8), (61 : UInt8)])), Value.string (ByteArray.mk (Array.mk [(43 : UInt8)])), Value.string (ByteArray.mk (Array.mk [(45 : UInt8)])), Value.string (ByteArray.mk (Array.mk [(42 : UInt8)])), Value.string (ByteArray.mk (Array.mk [(38 : UInt8)])), Value.string (ByteArray.mk (Array.mk [(94 : UInt8)])), Value.string (ByteArray.mk (Array.mk [(124 : UInt8)])), Value.string (ByteArray.mk (Array.mk [(126 : UInt8)])), Value.string (ByteArray.mk (Array.mk [(33 : UInt8)])), Value.string (ByteArray.mk (Array.mk [(60 : UInt8)])), Value.string (ByteArray.mk (Array.mk [(62 : UInt8)])),
 Value.string (ByteArray.mk (Array.mk [(61 : UInt8)])), Value.string (ByteArray.mk (Array.mk [(40 : UInt8)])), Value.string (ByteArray.mk (Array.mk [(41 : UInt8)])), Value.string (ByteArray.mk (Array.mk [(91 : UInt8)])), Value.string (ByteArray.mk (Array.mk [(93 : UInt8)])), Value.string (ByteArray.mk (Array.mk [(123 : UInt8)])), Value.string (ByteArray.mk (Array.mk [(125 : UInt8)])), Value.string (ByteArray.mk (Array.mk [(44 : UInt8)])), Value.string (ByteArray.mk (Array.mk [(59 : UInt8)]))]) (9 : Nat))) true, Blk.mk gl (.seg (0 : Nat) (ruCells l)) false, Blk.mk p3 (.obj (.cells (Array.mk [.int .i64 (0 : Int), .int .i64 (0 : Int), .int .i64 (0 : Int)]) (45 : Nat))) true]))))))))))))))))))))))))))))))))

theorem lxB_run (g n cb p3 gl cl go m co k : Nat) (bs : List Nat) (l : List Ru) (xs : List Value) (rest : List Value) : Sy.Ran (Sy.pieceT Try.prog (ctxL g n cb gl cl bs l) 60 fLex bodyLx 137 (slL g n cb p3 gl cl go m co k) rest (memL g p3 gl go m co bs l xs) [0, 2, 3, 4, 5, 6]) lxB_o (lxB_R g n cb p3 gl cl go m co k bs l xs rest) := ⟨fun ns => by kernel_rfl, fun ns => by kernel_rfl⟩

/-- A token. -/
structure Tok where
  kind : Nat
  text : List UInt8
  val : Nat
  line : Nat
  col : Nat

def Tok.cells (t : Tok) : List Value := [.int .i64 (Int.ofNat t.kind), .string ⟨⟨t.text⟩⟩, .int .u64 (Int.ofNat t.val), .int .i64 (Int.ofNat t.line), .int .i64 (Int.ofNat t.col)]
def tokCells (l : List Tok) : List Value := l.flatMap Tok.cells

noncomputable def hexF (x : Ru) (r : List Ru) : Bool := match r with
  | [] => false
  | y :: _ => match Nat.beq x.r 48 with
    | true => match Nat.ble 1 y.n with
      | true => match Nat.beq y.r 120 with
        | true => true
        | false => Nat.beq y.r 88
      | false => false
    | false => false

/-- The token that comes first: its kind, its length, its value. -/
noncomputable def tokF (bt : List Nat) (rs : List Ru) : Option (Nat × Nat × Nat) := match rs with
  | [] => none
  | x :: r => match dgF (Int.ofNat x.r) (Int.ofNat x.n) with
    | true => match hexF x r with
      | true => none
      | false => match numF (x :: r) 0 with
        | none => none
        | some (m, v) => match (x :: r).drop m with
          | [] => none
          | y :: _ => match ltF (Int.ofNat y.r) (Int.ofNat y.n) with
            | true => none
            | false => match dgF (Int.ofNat y.r) (Int.ofNat y.n) with
              | true => none
              | false => some (2, m, v)
    | false => match ltF (Int.ofNat x.r) (Int.ofNat x.n) with
      | true => match isWordF ⟨⟨(bt.take (nameF (x :: r))).map UInt8.ofNat⟩⟩ with
        | true => some (3, nameF (x :: r), 0)
        | false => some (1, nameF (x :: r), 0)
      | false => match sgF bt sgs with
        | 0 => none
        | m + 1 => some (4, m + 1, 0)

/-- The tokens of bytes and their runes. -/
noncomputable def lexS (fuel : Nat) : List Nat → List Ru → Option (List Tok) := @Nat.rec (fun _ => List Nat → List Ru → Option (List Tok)) (fun _ _ => none) (fun _ ih bt rs => match rs.drop (blanksF rs) with
  | [] => none
  | x :: r => match Nat.beq x.n 0 with
    | true => some [⟨5, [], 0, x.line, x.col⟩]
    | false => match tokF (bt.drop (blanksF rs)) (x :: r) with
      | none => none
      | some (kd, m, v) => match ih ((bt.drop (blanksF rs)).drop m) ((x :: r).drop m) with
        | none => none
        | some l => some (⟨kd, ((bt.drop (blanksF rs)).take m).map UInt8.ofNat, v, x.line, x.col⟩ :: l)) fuel

/-- The loop's state. -/
structure Ls where
  go : Nat
  co : Nat
  k : Nat
  fuel : Nat
  pre : List Tok

theorem ctxL_holds (g n cb gl cl : Nat) (bs : List Nat) (l : List Ru) : (ctxL g n cb gl cl bs l).holds Try.prog := Sy.mkS_holds (fun p hp a L => by
  rcases List.mem_cons.1 hp with rfl | hp
  · exact skC_met _ _ _ _ _ _ _ _
  rcases List.mem_cons.1 hp with rfl | hp
  · exact ruK_met dgC_met a
  rcases List.mem_cons.1 hp with rfl | hp
  · exact ruK_met ltC_met a
  rcases List.mem_cons.1 hp with rfl | hp
  · exact nuC_met _ _ _ _ _ _ _ _
  rcases List.mem_cons.1 hp with rfl | hp
  · exact begI_met _ _ _ _ _ _
  rcases List.mem_singleton.1 hp with rfl
  exact iwC_met _) (fun p hp a L => by
  rcases List.mem_cons.1 hp with rfl | hp
  · exact loopNm_met _ _ _ _ _ _ _ _ _ _ _ _
  rcases List.mem_singleton.1 hp with rfl
  exact loopG_met _ _ _ _ _ _ _ _ _ _ _ _ _ _ _ _ _ _) (fun p hp a L => by
  rcases List.mem_cons.1 hp with rfl | hp
  · exact cvK_meets _ _ _
  rcases List.mem_singleton.1 hp with rfl
  exact cvK_meets _ _ _)

noncomputable def loopL (g n cb p3 gl cl go co : Nat) (bs : List Nat) (l : List Ru) (ts : List Tok) : Sy.LoopC :=
  ⟨.loop bodyLx, 137, slL g n cb p3 gl cl go 0 co 0, Tx bs n l ∧ n ≤ cb ∧ lexS (n + 2) bs l = some ts, ⟨[(g, .seg 0 (bcells bs)), (gl, .seg 0 (ruCells l))], [(p3, .obj (.cells #[.int .i64 0, .int .i64 0, .int .i64 0] 45 (0, 0))), (go, .row tTok 5 0 co [])], 2, []⟩,
    [(⟨fun ns => ts.length ≤ Sy.num ns 1, fun ns => [(Sy.num ns 0, .row tTok 5 ts.length (Sy.num ns 1) (tokCells ts)), (p3, .obj (.cells #[.int .i64 0, .int .i64 0, .int .i64 0] 45 (0, 0)))], fun _ => []⟩, .ret, fun ns => [(2, .slice (some ⟨Sy.num ns 0, 0, none⟩) ts.length (Sy.num ns 1)), (3, .pointer (some ⟨p3, 0, none⟩))])]⟩

theorem lexS_succ (fuel : Nat) (bt : List Nat) (rs : List Ru) : lexS (fuel + 1) bt rs = match rs.drop (blanksF rs) with
  | [] => none
  | x :: r => match Nat.beq x.n 0 with
    | true => some [⟨5, [], 0, x.line, x.col⟩]
    | false => match tokF (bt.drop (blanksF rs)) (x :: r) with
      | none => none
      | some (kd, m, v) => match lexS fuel ((bt.drop (blanksF rs)).drop m) ((x :: r).drop m) with
        | none => none
        | some l => some (⟨kd, ((bt.drop (blanksF rs)).take m).map UInt8.ofNat, v, x.line, x.col⟩ :: l) := by kernel_rfl

def okL (n cb : Nat) (bs : List Nat) (l : List Ru) (ts : List Tok) (s : Ls) : Prop := s.k ≤ n ∧ Tx bs n l ∧ n ≤ cb ∧ s.pre.length ≤ s.k ∧ s.pre.length ≤ s.co ∧ ∃ rest, lexS s.fuel (bs.drop s.k) (l.drop s.k) = some rest ∧ ts = s.pre ++ rest

theorem begL_len {t : List UInt8} {l : List Nat} (h : begL l t = true) : t.length ≤ l.length := by
  rcases Nat.lt_or_ge l.length t.length with hlt | hge
  · have := (begL_iff t l).1 h l.length hlt
    rw [List.getElem?_eq_none (Nat.le_refl _)] at this
    cases this
  · exact hge

theorem sg_len (bt : List Nat) : sgF bt sgs ≤ bt.length := by
  generalize sgs = ss
  induction ss with
  | nil => exact Nat.zero_le _
  | cons s ss ih =>
    rw [sgF_cons]
    split
    · rename_i h
      exact begL_len h
    · exact ih

theorem tokCells_snoc (l : List Tok) (t : Tok) : tokCells (l ++ [t]) = tokCells l ++ t.cells := by simp [tokCells]

theorem loopL_met (g n cb p3 gl cl g0 c0 : Nat) (bs : List Nat) (l : List Ru) (ts : List Tok) : Sy.MeetsL Try.prog (loopL g n cb p3 gl cl g0 c0 bs l ts) := by
  refine Sy.loop_of (n := 60) (fn := fLex) (ctxL_holds g n cb gl cl bs l) mixed (body := bodyLx) rfl [0, 2, 3, 4, 5, 6] (fun s : Ls => slL g n cb p3 gl cl s.go s.pre.length s.co s.k) (fun s => memL g p3 gl s.go s.pre.length s.co bs l (tokCells s.pre)) (okL n cb bs l ts) (fun s => n - s.k)
    ⟨g0, c0, 0, n + 2, []⟩ (fun h => ⟨Nat.zero_le _, h.1, h.2.1, Nat.zero_le _, Nat.zero_le _, ts, h.2.2, rfl⟩) (fun p hp => hp) [0, 2, 1, 3] (by decide) rfl
    (o := fun _ => lxB_o) (R := fun s xs => lxB_R g n cb p3 gl cl s.go s.pre.length s.co s.k bs l (tokCells s.pre) xs) (fun s xs _ => lxB_run g n cb p3 gl cl s.go s.pre.length s.co s.k bs l (tokCells s.pre) xs) ?_
  rintro - ⟨go, co, k, fuel, pre⟩ xs ⟨hk, hT, hcb, hpk, hpc, rest, hlex, hts⟩ ns
  have hk : k ≤ n := hk
  have hpk : pre.length ≤ k := hpk
  have hpc : pre.length ≤ co := hpc
  have hlex : lexS fuel (bs.drop k) (l.drop k) = some rest := hlex
  have hts : ts = pre ++ rest := hts
  have hsm := hT.small
  cases fuel with
  | zero => cases hlex
  | succ fuel =>
  rw [lexS_succ] at hlex
  have hb := blanks_le hT hk
  generalize hk1 : k + blanksF (l.drop k) = k1 at *
  rw [List.drop_drop, List.drop_drop, hk1] at hlex
  obtain ⟨x, hx, hat, hc⟩ := hT.get hb
  obtain ⟨a0, a1, a2, a3, a4⟩ := ru_at hx
  have hlt : k1 < l.length := by rw [hT.len]; omega
  have hxe : l[k1] = x := by rw [List.getElem?_eq_getElem hlt] at hx; injection hx
  have hd : l.drop k1 = x :: l.drop (k1 + 1) := by rw [List.drop_eq_getElem_cons hlt, hxe]
  rw [hd] at hlex
  simp only at hlex
  have hr1 : (0 : Int) ≤ Int.ofNat k1 ∧ Int.ofNat k1 < ((n + 1 : Nat) : Int) := ⟨Int.natCast_nonneg k1, lt_nat (by omega)⟩
  simp only [lxB_R, Sy.Res.holds, show Int.toNat (Int.ofNat k) = k from rfl, hk1, show Int.toNat (Int.ofNat k1) = k1 from rfl, a0, a1, a2, a3, a4, Option.some.injEq, Value.int.injEq, true_and, exists_eq', Sy.b_f]
  have hstep : ∀ kd m v : Nat, Nat.beq x.n 0 = false → tokF (bs.drop k1) (x :: l.drop (k1 + 1)) = some (kd, m, v) → ∃ rest', lexS fuel (bs.drop (k1 + m)) (l.drop (k1 + m)) = some rest' ∧ rest = ⟨kd, ((bs.drop k1).take m).map UInt8.ofNat, v, x.line, x.col⟩ :: rest' := fun kd m v hz ht => by
    rw [hz, ht] at hlex
    simp only at hlex
    rw [← hd, List.drop_drop, List.drop_drop] at hlex
    cases hq : lexS fuel (bs.drop (k1 + m)) (l.drop (k1 + m)) with
    | none => rw [hq] at hlex; cases hlex
    | some l' =>
      rw [hq] at hlex
      simp only [Option.some.injEq] at hlex
      exact ⟨l', rfl, hlex.symm⟩
  have hsome : Nat.beq x.n 0 = false → ∃ kd m v, tokF (bs.drop k1) (x :: l.drop (k1 + 1)) = some (kd, m, v) := fun hz => by
    rw [hz] at hlex
    cases ht : tokF (bs.drop k1) (x :: l.drop (k1 + 1)) with
    | none => rw [ht] at hlex; cases hlex
    | some q => exact ⟨q.1, q.2.1, q.2.2, rfl⟩
  have next : ∀ (kd m v gn cn : Nat) (tx : ByteArray), Nat.beq x.n 0 = false → tokF (bs.drop k1) (x :: l.drop (k1 + 1)) = some (kd, m, v) → 1 ≤ m → k1 + m ≤ n → (pre.length + 1).le cn → tx = ⟨⟨((bs.drop k1).take m).map UInt8.ofNat⟩⟩ → ∀ (L : List Blk) (pk : List Nat), pk.Nodup →
      Sy.pickL L pk = [⟨g, .seg 0 (bcells bs), false⟩, ⟨p3, .obj (.cells #[.int .i64 0, .int .i64 0, .int .i64 0] 45 (0, 0)), true⟩, ⟨gl, .seg 0 (ruCells l), false⟩, ⟨gn, .row tTok 5 (pre.length + 1) cn (tokCells pre ++ [.int .i64 (Int.ofNat kd), .string tx, .int .u64 (Int.ofNat v), .int .i64 (Int.ofNat x.line), .int .i64 (Int.ofNat x.col)]), true⟩] →
      Sy.leafL (loopL g n cb p3 gl cl g0 c0 bs l ts) [0, 2, 3, 4, 5, 6] (fun s : Ls => slL g n cb p3 gl cl s.go s.pre.length s.co s.k) (fun s => memL g p3 gl s.go s.pre.length s.co bs l (tokCells s.pre)) (okL n cb bs l ts) (fun s => n - s.k) ⟨go, co, k, fuel + 1, pre⟩
        (.normal, 137, [.slice (some ⟨g, 0, none⟩) n cb, .slice none 0 0, .pointer (some ⟨p3, 0, none⟩), .slice (some ⟨gl, 0, none⟩) (n + 1) cl, .slice (some ⟨gn, 0, none⟩) (pre.length + 1) cn, .int .i64 (Int.ofNat (k1 + m))], L) := fun kd m v gn cn tx hz ht hm1 hmn hcn htx L pk hpk' hL => by
    obtain ⟨rest', hr1', hr2'⟩ := hstep kd m v hz ht
    have hkk : k ≤ k1 := by omega
    have hlen : (pre ++ [(⟨kd, ((bs.drop k1).take m).map UInt8.ofNat, v, x.line, x.col⟩ : Tok)]).length = pre.length + 1 := by simp
    refine Sy.leafL_next ⟨gn, cn, k1 + m, fuel, pre ++ [⟨kd, ((bs.drop k1).take m).map UInt8.ofNat, v, x.line, x.col⟩]⟩ rfl ⟨hmn, hT, hcb, ?_, ?_, rest', hr1', ?_⟩ (by show n - (k1 + m) < n - k; omega) ?_ pk hpk' ?_
    · show (pre ++ [_]).length ≤ k1 + m
      rw [hlen]
      omega
    · show (pre ++ [_]).length ≤ cn
      rw [hlen]
      exact hcn
    · show ts = (pre ++ [_]) ++ rest'
      rw [hts, hr2', List.append_assoc]
      rfl
    · show _ = slL g n cb p3 gl cl gn (pre ++ [_]).length cn (k1 + m)
      rw [hlen]
      rfl
    · rw [hL]
      show _ = memL g p3 gl gn (pre ++ [_]).length cn bs l (tokCells (pre ++ [_]))
      rw [hlen, tokCells_snoc, htx]
      rfl
  have hoff : ∀ m : Nat, 1 ≤ m → k1 + m ≤ n → Sy.offQ cb (Int.toNat (Int.ofNat k1)) 0 1 = k1 := fun m h1 h2 => by
    unfold Sy.offQ
    show (match Nat.beq k1 0 with
      | true => 0
      | false => bif Nat.beq cb k1 then 0 else Nat.add 0 (Nat.mul k1 1)) = k1
    cases hz : Nat.beq k1 0 with
    | true => exact (Nat.eq_of_beq_eq_true hz).symm
    | false =>
      have : Nat.beq cb k1 = false := by
        cases hq : Nat.beq cb k1 with
        | false => rfl
        | true => have := Nat.eq_of_beq_eq_true hq; omega
      rw [this]
      show 0 + k1 * 1 = k1
      omega
  have hsub : ∀ m : Nat, Int.toNat (Int.ofNat (k1 + m)) - Int.toNat (Int.ofNat k1) = m := fun m => by
    show k1 + m - k1 = m
    omega
  have htxt : ∀ m : Nat, 1 ≤ m → k1 + m ≤ n → txt bs (Sy.offQ cb (Int.toNat (Int.ofNat k1)) 0 1) (Int.toNat (Int.ofNat (k1 + m)) - Int.toNat (Int.ofNat k1)) = ⟨⟨((bs.drop k1).take m).map UInt8.ofNat⟩⟩ := fun m h1 h2 => by
    rw [hoff m h1 h2, hsub]
    rfl
  have hcut : ∀ m : Nat, 1 ≤ m → k1 + m ≤ n → ascii bs ∧ ∃ x m' c, Value.slice (some ⟨g, Sy.offQ cb (Int.toNat (Int.ofNat k1)) 0 1, none⟩) (Int.toNat (Int.ofNat (k1 + m)) - Int.toNat (Int.ofNat k1)) (cb - Int.toNat (Int.ofNat k1)) = .slice (some ⟨g, x, none⟩) m' c ∧ x + m' ≤ bs.length := fun m h1 h2 => by
    refine ⟨hT.asc, _, _, _, rfl, ?_⟩
    rw [hoff m h1 h2, hsub, ← hT.hn]
    exact h2
  have hbd : ∀ m : Nat, k1 + m ≤ n → (0 : Int) ≤ Int.ofNat k1 ∧ Int.ofNat k1 ≤ Int.ofNat (k1 + m) ∧ Int.ofNat (k1 + m) ≤ (cb : Int) := fun m h => ⟨Int.natCast_nonneg _, Int.ofNat_le.2 (by omega), Int.ofNat_le.2 (by omega)⟩
  have hrm : ∀ m : Nat, k1 + m ≤ n → (0 : Int) ≤ Int.ofNat (k1 + m) ∧ Int.ofNat (k1 + m) < ((n + 1 : Nat) : Int) := fun m h => ⟨Int.natCast_nonneg _, lt_nat (by omega)⟩
  have hatm : ∀ m : Nat, k1 + m ≤ n → (Sy.Cont.seg 0 (ruCells l)).at (0 + (Int.ofNat (k1 + m)).toNat * 5).succ = some (.int .i64 (Int.ofNat (k1 + m))) := fun m h => by
    obtain ⟨y, hy, hya, -⟩ := hT.get h
    have := (ru_at hy).2.1
    rw [hya] at this
    exact this
  refine ⟨⟨hT, hk⟩, fun _ => ⟨hr1, fun h0 h1 h2 h3 h4 => ?_⟩⟩
  rw [← h0, ← h1, ← h2, ← h3, ← h4, hat]
  have hzero : Ex.eqQ (Int.ofNat x.n) 0 = Nat.beq x.n 0 := by
    rw [Ex.eqQ_eq]
    cases hz : Nat.beq x.n 0 with
    | true =>
      have := Nat.eq_of_beq_eq_true hz
      rw [this]; rfl
    | false =>
      have : x.n ≠ 0 := fun h => by rw [h] at hz; cases hz
      simp only [beq_eq_false_iff_ne, ne_eq]
      intro h
      have h : (x.n : Int) = 0 := h
      omega
  rw [hzero]
  refine ⟨fun hz => ⟨by omega, by omega, fun hcn => ?_⟩, fun hz _ => ⟨fun hdg => ?_, fun hdg _ => ⟨fun hlt' => ?_, fun hlt' => ?_⟩⟩⟩
  · rw [hz] at hlex
    simp only [Option.some.injEq] at hlex
    have htl : ts.length = pre.length + 1 := by rw [hts, ← hlex]; simp
    have htc : tokCells ts = tokCells pre ++ [.int .i64 5, .string ⟨#[]⟩, .int .u64 0, .int .i64 (Int.ofNat x.line), .int .i64 (Int.ofNat x.col)] := by
      rw [hts, ← hlex, tokCells_snoc]
      rfl
    refine Sy.leafL_end 0 rfl rfl (by simp) rfl [⟨Let.n (ns 8), 0, false, undef, []⟩, ⟨Let.n (ns 9), 0, false, undef, []⟩] rfl [1, 2] ?_ [0, 6] (by decide) ⟨⟨rfl, rfl, .inl ?_⟩, ⟨rfl, rfl, .inl rfl⟩, trivial⟩ ?_
    · show [(2, Value.slice (some ⟨Let.n (ns 8), 0, none⟩) ts.length (Let.n (ns 9))), (3, Value.pointer (some ⟨p3, 0, none⟩))] = _
      rw [htl]
      rfl
    · show Sy.Cont.row _ _ _ _ _ = Sy.Cont.row tTok 5 ts.length (Let.n (ns 9)) (tokCells ts)
      rw [htl, htc]
    · show ts.length ≤ Let.n (ns 9)
      rw [htl]
      exact hcn
  · have hz' : Nat.beq x.n 0 = false := Bool.eq_false_iff.2 hz
    obtain ⟨kd, m, v, ht⟩ := hsome hz'
    have ht0 := ht
    unfold tokF at ht0
    simp only [hdg] at ht0
    split at ht0
    · cases ht0
    rename_i hhex
    split at ht0
    · cases ht0
    rename_i m' v' hnum
    split at ht0
    · cases ht0
    rename_i y ys hdr
    split at ht0
    · cases ht0
    rename_i hly
    split at ht0
    · cases ht0
    rename_i hdy
    simp only [Option.some.injEq, Prod.mk.injEq] at ht0
    obtain ⟨rfl, rfl, rfl⟩ := ht0
    have hnum' : numF (l.drop k1) 0 = some (m', v') := by rw [hd]; exact hnum
    have eM : numM l k1 = m' := by unfold numM; rw [hnum']; rfl
    have eV : numV l k1 = v' := by unfold numV; rw [hnum']; rfl
    have hm1 : 1 ≤ m' := by
      rw [numF_cons, hdg] at hnum
      simp only at hnum
      split at hnum
      · split at hnum
        · simp only [Option.some.injEq, Prod.mk.injEq] at hnum
          omega
        · cases hnum
      · cases hnum
    have hmn : k1 + m' ≤ n := by
      have := numF_lt _ _ _ _ hnum'
      rw [List.length_drop, hT.len] at this
      omega
    rw [eM, eV]
    refine ⟨⟨hT, by omega, fun x2 y2 hx2 hy2 hh => ?_, hnum', fun y2 hy2 => ?_⟩, fun _ => ⟨hrm _ hmn, ⟨_, hatm _ hmn⟩, fun h8 => ?_⟩⟩
    · rw [hx] at hx2
      injection hx2 with hx2
      subst hx2
      have hlt2 : k1 + 1 < l.length := (List.getElem?_eq_some_iff.1 hy2).1
      rw [List.drop_eq_getElem_cons hlt2, (List.getElem?_eq_some_iff.1 hy2).2] at hhex
      obtain ⟨e1, e2, e3⟩ := hh
      unfold hexF at hhex
      have f1 : Nat.beq x.r 48 = true := by rw [e1]; rfl
      have f2 : Nat.ble 1 y2.n = true := by rw [Nat.ble_eq]; exact e2
      simp only [f1, f2] at hhex
      rcases e3 with e3 | e3
      · rw [e3] at hhex; cases hhex
      · rw [e3] at hhex; cases hhex
    · have hdr' : (l.drop (k1 + m')) = y :: ys := by rw [← List.drop_drop, hd]; exact hdr
      have hlt2 : k1 + m' < l.length := (List.getElem?_eq_some_iff.1 hy2).1
      rw [List.drop_eq_getElem_cons hlt2, (List.getElem?_eq_some_iff.1 hy2).2] at hdr'
      injection hdr' with e1 e2
      subst e1
      rw [hly, hdy]
      simp
    · rw [hatm _ hmn] at h8
      simp only [Option.some.injEq, Value.int.injEq, true_and] at h8
      rw [← h8]
      exact ⟨hbd _ hmn, hcut _ hm1 hmn, fun _ => ⟨by omega, by omega, fun hcn => next 2 m' v' _ _ _ hz' ht hm1 hmn hcn (htxt _ hm1 hmn) _ [2, 7, 4, 0] (by decide) rfl⟩⟩
  · have hz' : Nat.beq x.n 0 = false := Bool.eq_false_iff.2 hz
    have hdg' : dgF (Int.ofNat x.r) (Int.ofNat x.n) = false := by simpa using hdg
    obtain ⟨kd, m, v, ht⟩ := hsome hz'
    have hm1 : 1 ≤ nameF (l.drop k1) := by
      rw [hd, nameF_cons, if_pos (.inl hlt')]
      omega
    have hmn : k1 + nameF (l.drop k1) ≤ n := name_le hT hb
    have key : ∀ b : Bool, isWordF ⟨⟨((bs.drop k1).take (nameF (l.drop k1))).map UInt8.ofNat⟩⟩ = b → tokF (bs.drop k1) (x :: l.drop (k1 + 1)) = some (bif b then 3 else 1, nameF (l.drop k1), 0) := fun b hb => by
      unfold tokF
      simp only [hdg', hlt']
      rw [← hd]
      rw [hb]
      cases b <;> rfl
    refine ⟨⟨hT, hb⟩, fun _ => ⟨hrm _ hmn, ⟨_, hatm _ hmn⟩, fun h8 => ?_⟩⟩
    rw [hatm _ hmn] at h8
    simp only [Option.some.injEq, Value.int.injEq, true_and] at h8
    rw [← h8]
    refine ⟨hbd _ hmn, hcut _ hm1 hmn, fun _ _ => ?_⟩
    have earg : argS #[.string (txt bs (Sy.offQ cb (Int.toNat (Int.ofNat k1)) 0 1) (Int.toNat (Int.ofNat (k1 + nameF (l.drop k1))) - Int.toNat (Int.ofNat k1)))] 0 = ⟨⟨((bs.drop k1).take (nameF (l.drop k1))).map UInt8.ofNat⟩⟩ := by
      rw [htxt _ hm1 hmn]; rfl
    rw [earg]
    refine ⟨fun hw => ⟨hrm _ hmn, ⟨_, hatm _ hmn⟩, fun h9 => ?_⟩, fun hw => ⟨hrm _ hmn, ⟨_, hatm _ hmn⟩, fun h9 => ?_⟩⟩
    · rw [hatm _ hmn] at h9
      simp only [Option.some.injEq, Value.int.injEq, true_and] at h9
      rw [← h9]
      exact ⟨hbd _ hmn, hcut _ hm1 hmn, fun _ => ⟨by omega, by omega, fun hcn => next 3 _ 0 _ _ _ hz' (key true hw) hm1 hmn hcn (htxt _ hm1 hmn) _ [2, 6, 3, 0] (by decide) rfl⟩⟩
    · rw [hatm _ hmn] at h9
      simp only [Option.some.injEq, Value.int.injEq, true_and] at h9
      rw [← h9]
      have hw : isWordF ⟨⟨((bs.drop k1).take (nameF (l.drop k1))).map UInt8.ofNat⟩⟩ = false := by simpa using hw
      exact ⟨hbd _ hmn, hcut _ hm1 hmn, fun _ => ⟨by omega, by omega, fun hcn => next 1 _ 0 _ _ _ hz' (key false hw) hm1 hmn hcn (htxt _ hm1 hmn) _ [2, 6, 3, 0] (by decide) rfl⟩⟩
  · have hz' : Nat.beq x.n 0 = false := Bool.eq_false_iff.2 hz
    have hdg' : dgF (Int.ofNat x.r) (Int.ofNat x.n) = false := by simpa using hdg
    have hlt2 : ltF (Int.ofNat x.r) (Int.ofNat x.n) = false := by simpa using hlt'
    obtain ⟨kd, m, v, ht⟩ := hsome hz'
    have ht0 := ht
    unfold tokF at ht0
    simp only [hdg', hlt2] at ht0
    split at ht0
    · cases ht0
    rename_i m' hsg
    simp only [Option.some.injEq, Prod.mk.injEq] at ht0
    obtain ⟨rfl, rfl, rfl⟩ := ht0
    have eS : sgM bs k1 = m' + 1 := hsg
    have hmn : k1 + (m' + 1) ≤ n := by
      have := sg_len (bs.drop k1)
      rw [show sgF (bs.drop k1) sgs = m' + 1 from hsg, List.length_drop] at this
      have := hT.hn
      omega
    rw [eS]
    refine ⟨⟨rfl, hT.hn, hb, hsm, by omega⟩, fun _ => ⟨hrm _ hmn, ⟨_, hatm _ hmn⟩, fun h9 => ?_⟩⟩
    rw [hatm _ hmn] at h9
    simp only [Option.some.injEq, Value.int.injEq, true_and] at h9
    rw [← h9]
    exact ⟨hbd _ hmn, hcut _ (by omega) hmn, fun _ => ⟨by omega, by omega, fun hcn => next 4 (m' + 1) 0 _ _ _ hz' ht (by omega) hmn hcn (htxt _ (by omega) hmn) _ [2, 7, 6, 0] (by decide) rfl⟩⟩

end Go.Proofs.Ytbgmkefehfjicaa

/-
  Contracts for closed runs: strings.Contains.
-/
namespace Go.Proofs.Ytbgmkefehfjicaa
set_option linter.unusedVariables false
set_option linter.unusedSimpArgs false
open Go Go.RowKit
open Sy (Let Blk)

abbrev fContains : FuncId := 86

/-- What internal/bytealg.MaxLen holds: whatever. -/
def maxB (m : Int) : Nat × Sy.Cont := (0, .seg 0 [.int .i64 m])

noncomputable def conK (m : Int) (args : Array Value) : Sy.CallC := match args.toList with
  | [.string s, .string sub] => match Nat.ble s.size 4294967280 with
    | true => Sy.shutC' fContains #[.string s, .string sub] [maxB m] True (.bool (Lib.contains s.data.toList sub.data.toList))
    | false => noC
  | _ => noC

theorem conK_met (m : Int) (args : Array Value) : Sy.Meets Try.prog (conK m args) := by
  unfold conK
  split
  · split
    · rename_i s sub _ _ hs
      intro _ W hpre
      have hs := Nat.le_of_ble_eq_true hs
      have hm : W.cell? ⟨0, 0, none⟩ = some (.int .i64 m) := Sy.cell_at (ct := .seg 0 [.int .i64 m]) rfl (hpre.rd _ (List.mem_singleton_self _)) rfl rfl
      refine (Try.strings_Contains s sub m W (by omega) hm).mono ?_
      rintro e W' ⟨rfl, rfl⟩
      exact ⟨_, List.mem_singleton_self _, [], rfl, rfl, trivial, rfl, rfl, rfl, Nat.le_refl _, fun _ _ _ => rfl, fun _ hp => (by cases hp), List.nodup_nil, fun _ hp => (by cases hp), List.nodup_nil, fun _ hp => (by cases hp)⟩
    · exact noC_met
  · exact noC_met

noncomputable def ctxM (m : Int) : Sy.Ctx := Sy.mkS [(fContains, fun a _ => conK m a)] [] []
theorem ctxM_holds (m : Int) : (ctxM m).holds Try.prog := Sy.mkS_holds (fun p hp a L => by
  rcases List.mem_singleton.1 hp with rfl
  exact conK_met m a) (fun _ h => (by cases h)) (fun _ h => (by cases h))

end Go.Proofs.Ytbgmkefehfjicaa

/-
  The reference's lexer: the call; contracts for closed runs.
-/
namespace Go.Proofs.Ytbgmkefehfjicaa
set_option linter.unusedVariables false
set_option linter.unusedSimpArgs false
open Go Go.RowKit
open Sy (Let Blk)

def wLex (v : Value) : Value := .tuple #[v, .agg #[.int .i64 0, .int .i64 0, .int .i64 0]]

noncomputable def lxC (g n cb : Nat) (bs : List Nat) (ts : List Tok) : Sy.CallC :=
  ⟨fLex, #[.slice (some ⟨g, 0, none⟩) n cb], (n = bs.length ∧ ascii bs ∧ n ≤ 65536 ∧ 47 ∉ bs) ∧ n ≤ cb ∧ lexS (n + 2) bs (runesF bs 0 1 1) = some ts, ⟨[(g, .seg 0 (bcells bs))], [], 2, []⟩, [Sy.rowO tTok 5 ts.length (tokCells ts) wLex]⟩

noncomputable def ctxLx (g n cb : Nat) (bs : List Nat) (ts : List Tok) : Sy.Ctx := Sy.mkS [(fRunes, fun _ _ => runesC g n cb bs)] [(fLex, fun a _ => loopL g n cb (Sy.ptrN (a.get 3)) (Sy.ptrN (a.get 4)) (Sy.capN (a.get 4)) (Sy.ptrN (a.get 5)) (Sy.capN (a.get 5)) bs (runesF bs 0 1 1) ts)] []
theorem ctxLx_holds (g n cb : Nat) (bs : List Nat) (ts : List Tok) : (ctxLx g n cb bs ts).holds Try.prog := Sy.mkS_holds (fun p hp a L => by
  rcases List.mem_singleton.1 hp with rfl
  exact runesC_met _ _ _ _) (fun p hp a L => by
  rcases List.mem_singleton.1 hp with rfl
  exact loopL_met _ _ _ _ _ _ _ _ _ _ _) (fun _ h => (by cases h))

def lx_o : Sy.O := (Sy.O.steps [0] (Sy.O.fork (Sy.O.steps [0, 0, 0, 0, 0, 0] Sy.O.nil) (Sy.O.steps [0, 1, 0, 0, 0, 0, 0, 2, 0, 1, 0, 1, 0, 0, 0, 0, 0, 0, 0, 1, 0] Sy.O.nil)))
noncomputable def lx_R (g : Nat) (n : Nat) (cb : Nat) (bs : List Nat) (ts : List Tok) (ns : Nat → Sy.Let) : Sy.Res (Value × List Blk) := .br (Ex.ltQ (65536 : Int) (Int.ofNat n)) (.leaf (Value.tuple (Array.mk [.slice none (0 : Nat) (0 : Nat), Value.agg (Array.mk [.int .i64 (32 : Int), .int .i64 (1 : Int), .int .i64 (1 : Int)])]), [])) (.need (n = List.length bs ∧ ascii bs ∧ n < (1000000 : Nat)) (.hyp (Nat.le (n + (1 : Nat)) (Let.n (ns 2))) (.need (Tx bs n (runesF bs (0 : Nat) (1 : Nat) (1 : Nat)) ∧ n ≤ cb ∧ lexS (n + (2 : Nat)) bs (runesF bs (0 : Nat) (1 : Nat) (1 : Nat)) = some ts) (.hyp (Nat.le (List.length ts) (Let.n (ns 5))) (.leaf (Value.tuple (Array.mk [.slice (some (Addr.mk (Let.n (ns 4)) 0 none)) (List.length ts) (Let.n (ns 5)), Value.agg (Array.mk [.int .i64 (0 : Int), .int .i64 (0 : Int), .int .i64 (0 : Int)])]), [Blk.mk (Let.n (ns 4)) (.row (78 : Nat) (5 : Nat) (List.length ts) (Let.n (ns 5)) (tokCells ts)) true, Blk.mk (Let.n (ns 1)) (.row (119 : Nat) (5 : Nat) (n + (1 : Nat)) (Let.n (ns 2)) (ruCells (runesF bs (0 : Nat) (1 : Nat) (1 : Nat)))) true]))))))

theorem lx_run (g n cb : Nat) (bs : List Nat) (ts : List Tok) : Sy.Ran (Sy.inT Try.prog (ctxLx g n cb bs ts) 60 fLex (lxC g n cb bs ts).args (Sy.blks (lxC g n cb bs ts).mem) (Sy.rowT tTok)) lx_o (lx_R g n cb bs ts) := ⟨fun ns => by kernel_rfl, fun ns => by kernel_rfl⟩

theorem lxC_met (g n cb : Nat) (bs : List Nat) (ts : List Tok) : Sy.Meets Try.prog (lxC g n cb bs ts) := by
  refine Sy.meets_of (ctxLx_holds g n cb bs ts) mixed (lx_run g n cb bs ts) fun hok ns => ?_
  obtain ⟨⟨hn, ha, hm, hs⟩, hcb, hl⟩ : (n = bs.length ∧ ascii bs ∧ n ≤ 65536 ∧ 47 ∉ bs) ∧ n ≤ cb ∧ lexS (n + 2) bs (runesF bs 0 1 1) = some ts := hok
  simp only [lx_R, Sy.Res.holds]
  refine ⟨fun h => ?_, fun _ => ⟨⟨hn, ha, by omega⟩, fun _ => ⟨⟨⟨hn, ha, by omega, hs, rfl⟩, hcb, hl⟩, fun hc => ?_⟩⟩⟩
  · rw [Sy.q_lt] at h
    have h : (65536 : Int) < (n : Int) := h
    omega
  · exact Sy.rowO_leaf' (List.mem_singleton_self _) rfl 0 rfl rfl rfl rfl hc

/-- All bytes are below 128, and none is a slash. -/
noncomputable def plainB (bs : List Nat) : Bool := @List.rec Nat (fun _ => Bool) true (fun b _ ih => match Nat.ble b 127 with
  | true => match Nat.beq b 47 with
    | true => false
    | false => ih
  | false => false) bs

theorem plainB_spec : ∀ {bs : List Nat}, plainB bs = true → ascii bs ∧ 47 ∉ bs
  | [], _ => ⟨fun _ h => (by cases h), fun h => (by cases h)⟩
  | b :: r, h => by
    change (match Nat.ble b 127 with
      | true => match Nat.beq b 47 with
        | true => false
        | false => plainB r
      | false => false) = true at h
    split at h
    · rename_i h1
      split at h
      · cases h
      · rename_i h2
        obtain ⟨h3, h4⟩ := plainB_spec h
        refine ⟨fun x hx => ?_, fun hx => ?_⟩
        · rcases List.mem_cons.1 hx with rfl | hx
          · exact Nat.lt_succ_of_le (Nat.le_of_ble_eq_true h1)
          · exact h3 x hx
        · rcases List.mem_cons.1 hx with rfl | hx
          · cases h2
          · exact h4 hx
    · cases h

/-- A list of cells, laid bare. -/
noncomputable def bareC (l : List Value) : (List Value → Sy.CallC) → Sy.CallC := @List.rec Value (fun _ => (List Value → Sy.CallC) → Sy.CallC) (fun k => k []) (fun x _ ih k => ih fun l => match x with
  | .int kd i => k (.int kd i :: l)
  | .string s => k (.string s :: l)
  | x => k (x :: l)) l
theorem bareC_eq : ∀ (l : List Value) (k : List Value → Sy.CallC), bareC l k = k l
  | [], _ => rfl
  | x :: l, k => by
    show bareC l (fun l => match x with
      | .int kd i => k (.int kd i :: l)
      | .string s => k (.string s :: l)
      | x => k (x :: l)) = _
    rw [bareC_eq l]
    cases x <;> rfl

noncomputable def lexK (args : Array Value) (ct : Sy.Cont) : Sy.CallC := match args.toList with
  | [.slice (some ⟨g, 0, none⟩) n cap] => match unbytes (segOf ct) with
    | some bs => match plainB bs with
      | true => match Nat.beq n bs.length with
        | true => match Nat.ble n 65536 with
          | true => match Nat.ble n cap with
            | true => match lexS (Nat.add n 2) bs (runesF bs 0 1 1) with
              | some ts => bareC (tokCells ts) fun xs => Sy.rowC' fLex #[.slice (some ⟨g, 0, none⟩) n cap] [(g, .seg 0 (bcells bs))] tTok 5 ts.length xs wLex
              | none => noC
            | false => noC
          | false => noC
        | false => noC
      | false => noC
    | none => noC
  | _ => noC

theorem lexK_met (args : Array Value) (ct : Sy.Cont) : Sy.Meets Try.prog (lexK args ct) := by
  unfold lexK
  split
  · split
    · rename_i bs _
      split
      · rename_i h1
        split
        · rename_i h2
          split
          · rename_i h3
            split
            · rename_i h4
              split
              · rename_i ts h5
                rw [bareC_eq]
                obtain ⟨a1, a2⟩ := plainB_spec h1
                exact fun _ => lxC_met _ _ _ bs ts ⟨⟨Nat.eq_of_beq_eq_true h2, a1, Nat.le_of_ble_eq_true h3, a2⟩, Nat.le_of_ble_eq_true h4, h5⟩
              · exact noC_met
            · exact noC_met
          · exact noC_met
        · exact noC_met
      · exact noC_met
    · exact noC_met
  · exact noC_met

end Go.Proofs.Ytbgmkefehfjicaa
