/-
  Address, of both: sizes that are not, no nodes; and the statement's call.
-/
import Derived.Test.YtgaejhhipnpopaaLwJ
import Derived.Test.YtgaejhhipnpopaaLwG
namespace Go.Proofs.Ytgaejhhipnpopaa
set_option linter.unusedVariables false
set_option linter.unusedSimpArgs false
open Go Go.RowKit
open Sy (Let Blk)

noncomputable def ctxE (A : Option Addr) (c : Nat) : Sy.Ctx := Sy.mkS [(fMay, fun _ _ => mayC0 A c), (fRX, fun a _ => rxC0 A c (Sy.argI a 1)), (28, fun a _ => numC (Sy.argI a 0) (Sy.argI a 1)),
  (fRNum, fun a _ => rnum0 (Sy.argI a 1) (Sy.argI a 2)), (fPow, fun a _ => pwC (Sy.argI a 0))] [] []
noncomputable def aeArgs (A : Option Addr) (c : Nat) (b s k : Int) : Array Value := #[.int .i64 b, .int .i64 s, .slice A 0 c, .int .i64 k]
noncomputable def raeArgs (A : Option Addr) (c : Nat) (b s k : Int) : Array Value := #[.slice none 0 0, .int .i64 b, .int .i64 s, .slice A 0 c, .int .i64 k]
def aeZ_o : Sy.O := (Sy.O.steps [0, 0, 0, 0, 0, 0, 0, 0, 0] (Sy.O.fork (Sy.O.steps [0, 0, 0, 0, 0, 0, 0, 0, 0, 0, 0, 0, 0, 0, 0, 0, 0] Sy.O.nil) (Sy.O.steps [0, 0, 0, 0] (Sy.O.fork (Sy.O.steps [0, 0, 0, 0, 0, 0, 0, 0, 0, 0, 0, 0] Sy.O.nil) (Sy.O.steps [0] (Sy.O.fork (Sy.O.steps [0, 0, 0, 0, 0, 0, 0, 0, 0, 0] Sy.O.nil) (Sy.O.steps [0] (Sy.O.fork (Sy.O.steps [0, 0, 0, 0, 0, 0, 0, 0] Sy.O.nil) (Sy.O.steps [0, 0, 0, 0, 0, 0, 0, 0, 0, 0, 0, 0, 0, 0, 0, 0] Sy.O.nil)))))))))
noncomputable def aeZ_R (A : Option Addr) (c : Nat) (b : Int) (k : Int) (ns : Nat → Sy.Let) : Sy.Res (Value × List Blk) := Sy.Res.br (bif false then true else Ex.ltQ b (0 : Int))
 (Sy.Res.leaf (Value.tuple (Array.mk [Value.slice none (0 : Nat) (0 : Nat), Value.int IntKind.i64 (1 : Int)]), []))
 (Sy.Res.br (bif false then true else Ex.ltQ (4095 : Int) b)
 (Sy.Res.leaf (Value.tuple (Array.mk [Value.slice none (0 : Nat) (0 : Nat), Value.int IntKind.i64 (1 : Int)]), []))
 (Sy.Res.br (bif false then true else Ex.ltQ k (0 : Int))
 (Sy.Res.leaf (Value.tuple (Array.mk [Value.slice none (0 : Nat) (0 : Nat), Value.int IntKind.i64 (1 : Int)]), []))
 (Sy.Res.br (bif false then true else Ex.leQ (5 : Int) k)
 (Sy.Res.leaf
 (Value.tuple (Array.mk [Value.slice none (0 : Nat) (0 : Nat), Value.int IntKind.i64 (1 : Int)]), []))
 (Sy.Res.need
 ((0 : Int) ≤
 Ex.wrapQ IntKind.u64
 (Ex.wrapQ IntKind.i64 (Ex.addQ (65536 : Int) (Ex.wrapQ IntKind.i64 (Ex.mulQ (8 : Int) b)))) ∧
 Ex.wrapQ IntKind.u64
 (Ex.wrapQ IntKind.i64 (Ex.addQ (65536 : Int) (Ex.wrapQ IntKind.i64 (Ex.mulQ (8 : Int) b)))) <
 (18446744073709551616 : Int))
 (Sy.Res.hyp
 (Nat.le
 (List.length
 (numL (29 : Int)
 (Ex.wrapQ IntKind.u64
 (Ex.wrapQ IntKind.i64 (Ex.addQ (65536 : Int) (Ex.wrapQ IntKind.i64 (Ex.mulQ (8 : Int) b)))))))
 (Let.n (ns (1 : Nat))))
 (Sy.Res.leaf
 (Value.tuple
 (Array.mk
 [Value.slice (some (Addr.mk (Let.n (ns (0 : Nat))) (0 : Nat) none))
 (List.length
 (numL (29 : Int)
 (Ex.wrapQ IntKind.u64
 (Ex.wrapQ IntKind.i64
 (Ex.addQ (65536 : Int) (Ex.wrapQ IntKind.i64 (Ex.mulQ (8 : Int) b)))))))
 (Let.n (ns (1 : Nat))),
 Value.int IntKind.i64 (0 : Int)]),
 [Blk.mk (Let.n (ns (0 : Nat)))
 (Sy.Cont.row (29 : Nat) (6 : Nat)
 (List.length
 (numL (29 : Int)
 (Ex.wrapQ IntKind.u64
 (Ex.wrapQ IntKind.i64
 (Ex.addQ (65536 : Int) (Ex.wrapQ IntKind.i64 (Ex.mulQ (8 : Int) b)))))))
 (Let.n (ns (1 : Nat)))
 (insCells
 (numL (29 : Int)
 (Ex.wrapQ IntKind.u64
 (Ex.wrapQ IntKind.i64
 (Ex.addQ (65536 : Int) (Ex.wrapQ IntKind.i64 (Ex.mulQ (8 : Int) b))))))))
 true])))))))
theorem aeZ_run (A : Option Addr) (c : Nat) (b k : Int) : Sy.Ran (Sy.inT Try.prog (ctxE A c) 60 fAd (aeArgs A c b 0 k) [] (Sy.rowT tI)) aeZ_o (aeZ_R A c b k) := ⟨fun ns => by kernel_rfl, fun ns => by kernel_rfl⟩
def aeN_o : Sy.O := (Sy.O.steps [0, 0, 0, 0, 0, 0, 0, 0, 0, 0, 0, 0, 0, 0, 0, 0, 0, 0, 0, 0, 0, 0, 0, 0, 0, 0, 0] Sy.O.nil)
noncomputable def aeN_R (A : Option Addr) (c : Nat) (b : Int) (k : Int) (p : Nat) (ns : Nat → Sy.Let) : Sy.Res (Value × List Blk) := Sy.Res.leaf (Value.tuple (Array.mk [Value.slice none (0 : Nat) (0 : Nat), Value.int IntKind.i64 (1 : Int)]), [])
theorem aeN_run (A : Option Addr) (c : Nat) (b k : Int) (p : Nat) : Sy.Ran (Sy.inT Try.prog (ctxE A c) 60 fAd (aeArgs A c b (.negSucc p) k) [] (Sy.rowT tI)) aeN_o (aeN_R A c b k p) := ⟨fun ns => by kernel_rfl, fun ns => by kernel_rfl⟩
def aeP_o : Sy.O := (Sy.O.steps [0, 0] (Sy.O.fork (Sy.O.steps [0, 0, 0, 0, 0, 0, 0, 0, 0, 0, 0, 0, 0, 0, 0, 0, 0, 0, 0, 0, 0, 0, 0, 0] Sy.O.nil) (Sy.O.steps [0, 0, 0, 0] (Sy.O.fork (Sy.O.steps [0, 0, 0, 0, 0, 0, 0, 0, 0, 0, 0, 0, 0, 0, 0, 0, 0, 0, 0] Sy.O.nil) (Sy.O.steps [0] (Sy.O.fork (Sy.O.steps [0, 0, 0, 0, 0, 0, 0, 0, 0, 0, 0, 0, 0, 0, 0, 0, 0] Sy.O.nil) (Sy.O.steps [0, 0, 0, 0] (Sy.O.fork (Sy.O.steps [0, 0, 0, 0, 0, 0, 0, 0, 0, 0, 0, 0] Sy.O.nil) (Sy.O.steps [0] (Sy.O.fork (Sy.O.steps [0, 0, 0, 0, 0, 0, 0, 0, 0, 0] Sy.O.nil) (Sy.O.steps [0] (Sy.O.fork (Sy.O.steps [0, 0, 0, 0, 0, 0, 0, 0] Sy.O.nil) (Sy.O.steps [0, 0, 0, 0, 0, 0, 0, 0, 0, 0, 0, 0, 0, 0, 0] Sy.O.nil)))))))))))))
noncomputable def aeP_R (A : Option Addr) (c : Nat) (b : Int) (k : Int) (p : Nat) (ns : Nat → Sy.Let) : Sy.Res (Value × List Blk) := Sy.Res.br (bif false then true else Ex.ltQ (1024 : Int) (Int.ofNat (Nat.succ p)))
 (Sy.Res.leaf (Value.tuple (Array.mk [Value.slice none (0 : Nat) (0 : Nat), Value.int IntKind.i64 (1 : Int)]), []))
 (Sy.Res.br
 (bif false then true
 else
 !Ex.eqQ
 (Ex.andQ IntKind.i64 (Int.ofNat (Nat.succ p))
 (Ex.wrapQ IntKind.i64 (Ex.subQ' (Int.ofNat (Nat.succ p)) (1 : Int))))
 (0 : Int))
 (Sy.Res.leaf (Value.tuple (Array.mk [Value.slice none (0 : Nat) (0 : Nat), Value.int IntKind.i64 (1 : Int)]), []))
 (Sy.Res.br (bif false then true else Ex.ltQ b (0 : Int))
 (Sy.Res.leaf (Value.tuple (Array.mk [Value.slice none (0 : Nat) (0 : Nat), Value.int IntKind.i64 (1 : Int)]), []))
 (Sy.Res.br
 (bif false then true
 else
 Ex.ltQ
 (Ex.wrapQ IntKind.i64
 (Ex.subQ' (4096 : Int)
 (bif Ex.ltQ (1 : Int) (Int.ofNat (Nat.succ p)) then Int.ofNat (Nat.succ p) else (1 : Int))))
 b)
 (Sy.Res.leaf
 (Value.tuple (Array.mk [Value.slice none (0 : Nat) (0 : Nat), Value.int IntKind.i64 (1 : Int)]), []))
 (Sy.Res.br (bif false then true else Ex.ltQ k (0 : Int))
 (Sy.Res.leaf
 (Value.tuple (Array.mk [Value.slice none (0 : Nat) (0 : Nat), Value.int IntKind.i64 (1 : Int)]), []))
 (Sy.Res.br (bif false then true else Ex.leQ (5 : Int) k)
 (Sy.Res.leaf
 (Value.tuple (Array.mk [Value.slice none (0 : Nat) (0 : Nat), Value.int IntKind.i64 (1 : Int)]), []))
 (Sy.Res.need True
 (Sy.Res.hyp True
 (Sy.Res.leaf
 (Value.tuple (Array.mk [Value.slice none (0 : Nat) (0 : Nat), Value.int IntKind.i64 (1 : Int)]),
 [])))))))))
theorem aeP_run (A : Option Addr) (c : Nat) (b k : Int) (p : Nat) : Sy.Ran (Sy.inT Try.prog (ctxE A c) 60 fAd (aeArgs A c b (.ofNat (.succ p)) k) [] (Sy.rowT tI)) aeP_o (aeP_R A c b k p) := ⟨fun ns => by kernel_rfl, fun ns => by kernel_rfl⟩
def raeZ_o : Sy.O := (Sy.O.steps [0, 0, 0, 0, 0, 0] (Sy.O.fork (Sy.O.steps [0, 0, 0, 0, 0, 0, 0, 0, 0, 0, 0, 0, 0, 0, 0, 0] Sy.O.nil) (Sy.O.steps [0, 0, 0] (Sy.O.fork (Sy.O.steps [0, 0, 0, 0, 0, 0, 0, 0, 0, 0, 0, 0] Sy.O.nil) (Sy.O.steps [0] (Sy.O.fork (Sy.O.steps [0, 0, 0, 0, 0, 0, 0, 0, 0, 0] Sy.O.nil) (Sy.O.steps [0] (Sy.O.fork (Sy.O.steps [0, 0, 0, 0, 0, 0, 0, 0] Sy.O.nil) (Sy.O.steps [0, 0, 0, 0, 0, 0, 0, 0, 0, 0, 0, 0, 0, 0, 0, 0] Sy.O.nil)))))))))
noncomputable def raeZ_R (A : Option Addr) (c : Nat) (b : Int) (k : Int) (ns : Nat → Sy.Let) : Sy.Res (Value × List Blk) := Sy.Res.br (bif false then true else Ex.ltQ b (0 : Int))
 (Sy.Res.leaf (Value.tuple (Array.mk [Value.slice none (0 : Nat) (0 : Nat), Value.int IntKind.i64 (1 : Int)]), []))
 (Sy.Res.br (bif false then true else Ex.ltQ (4095 : Int) b)
 (Sy.Res.leaf (Value.tuple (Array.mk [Value.slice none (0 : Nat) (0 : Nat), Value.int IntKind.i64 (1 : Int)]), []))
 (Sy.Res.br (bif false then true else Ex.ltQ k (0 : Int))
 (Sy.Res.leaf (Value.tuple (Array.mk [Value.slice none (0 : Nat) (0 : Nat), Value.int IntKind.i64 (1 : Int)]), []))
 (Sy.Res.br (bif false then true else Ex.ltQ (4 : Int) k)
 (Sy.Res.leaf
 (Value.tuple (Array.mk [Value.slice none (0 : Nat) (0 : Nat), Value.int IntKind.i64 (1 : Int)]), []))
 (Sy.Res.need
 ((0 : Int) ≤
 Ex.wrapQ IntKind.u64
 (Ex.wrapQ IntKind.i64 (Ex.addQ (65536 : Int) (Ex.wrapQ IntKind.i64 (Ex.mulQ (8 : Int) b)))) ∧
 Ex.wrapQ IntKind.u64
 (Ex.wrapQ IntKind.i64 (Ex.addQ (65536 : Int) (Ex.wrapQ IntKind.i64 (Ex.mulQ (8 : Int) b)))) <
 (18446744073709551616 : Int))
 (Sy.Res.hyp
 (Nat.le
 (List.length
 (numL (29 : Int)
 (Ex.wrapQ IntKind.u64
 (Ex.wrapQ IntKind.i64 (Ex.addQ (65536 : Int) (Ex.wrapQ IntKind.i64 (Ex.mulQ (8 : Int) b)))))))
 (Let.n (ns (1 : Nat))))
 (Sy.Res.leaf
 (Value.tuple
 (Array.mk
 [Value.slice (some (Addr.mk (Let.n (ns (0 : Nat))) (0 : Nat) none))
 (List.length
 (numL (29 : Int)
 (Ex.wrapQ IntKind.u64
 (Ex.wrapQ IntKind.i64
 (Ex.addQ (65536 : Int) (Ex.wrapQ IntKind.i64 (Ex.mulQ (8 : Int) b)))))))
 (Let.n (ns (1 : Nat))),
 Value.int IntKind.i64 (0 : Int)]),
 [Blk.mk (Let.n (ns (0 : Nat)))
 (Sy.Cont.row (29 : Nat) (6 : Nat)
 (List.length
 (numL (29 : Int)
 (Ex.wrapQ IntKind.u64
 (Ex.wrapQ IntKind.i64
 (Ex.addQ (65536 : Int) (Ex.wrapQ IntKind.i64 (Ex.mulQ (8 : Int) b)))))))
 (Let.n (ns (1 : Nat)))
 (insCells
 (numL (29 : Int)
 (Ex.wrapQ IntKind.u64
 (Ex.wrapQ IntKind.i64
 (Ex.addQ (65536 : Int) (Ex.wrapQ IntKind.i64 (Ex.mulQ (8 : Int) b))))))))
 true])))))))
theorem raeZ_run (A : Option Addr) (c : Nat) (b k : Int) : Sy.Ran (Sy.inT Try.prog (ctxE A c) 60 fRAd (raeArgs A c b 0 k) [] (Sy.rowT tI)) raeZ_o (raeZ_R A c b k) := ⟨fun ns => by kernel_rfl, fun ns => by kernel_rfl⟩
def raeN_o : Sy.O := (Sy.O.steps [0, 0, 0, 0, 0] (Sy.O.fork (Sy.O.steps [0, 0, 0, 0, 0, 0, 0, 0, 0, 0, 0, 0, 0, 0, 0, 0, 0, 0] Sy.O.nil) (Sy.O.steps [0] (Sy.O.fork (Sy.O.steps [0, 0, 0, 0, 0, 0, 0, 0, 0, 0, 0, 0, 0, 0, 0, 0] Sy.O.nil) (Sy.O.steps [0, 0, 0] (Sy.O.fork (Sy.O.steps [0, 0, 0, 0, 0, 0, 0, 0, 0, 0, 0, 0] Sy.O.nil) (Sy.O.steps [0] (Sy.O.fork (Sy.O.steps [0, 0, 0, 0, 0, 0, 0, 0, 0, 0] Sy.O.nil) (Sy.O.steps [0] (Sy.O.fork (Sy.O.steps [0, 0, 0, 0, 0, 0, 0, 0] Sy.O.nil) (Sy.O.steps [0, 0, 0, 0, 0, 0, 0, 0, 0, 0, 0, 0, 0, 0, 0] Sy.O.nil)))))))))))
noncomputable def raeN_R (A : Option Addr) (c : Nat) (b : Int) (k : Int) (p : Nat) (ns : Nat → Sy.Let) : Sy.Res (Value × List Blk) := Sy.Res.need True
 (Sy.Res.hyp True
 (Sy.Res.br (bif true then !tru (isPow (Int.negSucc p)) else false)
 (Sy.Res.leaf (Value.tuple (Array.mk [Value.slice none (0 : Nat) (0 : Nat), Value.int IntKind.i64 (1 : Int)]), []))
 (Sy.Res.br (bif false then true else Ex.ltQ b (0 : Int))
 (Sy.Res.leaf
 (Value.tuple (Array.mk [Value.slice none (0 : Nat) (0 : Nat), Value.int IntKind.i64 (1 : Int)]), []))
 (Sy.Res.br (bif false then true else Ex.ltQ (Ex.wrapQ IntKind.i64 (Ex.subQ' (4096 : Int) (Int.negSucc p))) b)
 (Sy.Res.leaf
 (Value.tuple (Array.mk [Value.slice none (0 : Nat) (0 : Nat), Value.int IntKind.i64 (1 : Int)]), []))
 (Sy.Res.br (bif false then true else Ex.ltQ k (0 : Int))
 (Sy.Res.leaf
 (Value.tuple (Array.mk [Value.slice none (0 : Nat) (0 : Nat), Value.int IntKind.i64 (1 : Int)]), []))
 (Sy.Res.br (bif false then true else Ex.ltQ (4 : Int) k)
 (Sy.Res.leaf
 (Value.tuple (Array.mk [Value.slice none (0 : Nat) (0 : Nat), Value.int IntKind.i64 (1 : Int)]), []))
 (Sy.Res.need True
 (Sy.Res.hyp True
 (Sy.Res.leaf
 (Value.tuple (Array.mk [Value.slice none (0 : Nat) (0 : Nat), Value.int IntKind.i64 (1 : Int)]),
 []))))))))))
theorem raeN_run (A : Option Addr) (c : Nat) (b k : Int) (p : Nat) : Sy.Ran (Sy.inT Try.prog (ctxE A c) 60 fRAd (raeArgs A c b (.negSucc p) k) [] (Sy.rowT tI)) raeN_o (raeN_R A c b k p) := ⟨fun ns => by kernel_rfl, fun ns => by kernel_rfl⟩
def raeP_o : Sy.O := (Sy.O.steps [0] (Sy.O.fork (Sy.O.steps [0, 0, 0] (Sy.O.fork (Sy.O.steps [0, 0, 0, 0, 0, 0, 0, 0, 0, 0, 0, 0, 0, 0, 0, 0, 0, 0] Sy.O.nil) (Sy.O.steps [0] (Sy.O.fork (Sy.O.steps [0, 0, 0, 0, 0, 0, 0, 0, 0, 0, 0, 0, 0, 0, 0, 0] Sy.O.nil) (Sy.O.steps [0, 0, 0] (Sy.O.fork (Sy.O.steps [0, 0, 0, 0, 0, 0, 0, 0, 0, 0, 0, 0] Sy.O.nil) (Sy.O.steps [0] (Sy.O.fork (Sy.O.steps [0, 0, 0, 0, 0, 0, 0, 0, 0, 0] Sy.O.nil) (Sy.O.steps [0] (Sy.O.fork (Sy.O.steps [0, 0, 0, 0, 0, 0, 0, 0] Sy.O.nil) (Sy.O.steps [0, 0, 0, 0, 0, 0, 0, 0, 0, 0, 0, 0, 0, 0, 0] Sy.O.nil))))))))))) (Sy.O.steps [0, 0, 0, 0] (Sy.O.fork (Sy.O.steps [0, 0, 0, 0, 0, 0, 0, 0, 0, 0, 0, 0, 0, 0, 0, 0] Sy.O.nil) (Sy.O.steps [0, 0, 0] (Sy.O.fork (Sy.O.steps [0, 0, 0, 0, 0, 0, 0, 0, 0, 0, 0, 0] Sy.O.nil) (Sy.O.steps [0] (Sy.O.fork (Sy.O.steps [0, 0, 0, 0, 0, 0, 0, 0, 0, 0] Sy.O.nil) (Sy.O.steps [0] (Sy.O.fork (Sy.O.steps [0, 0, 0, 0, 0, 0, 0, 0] Sy.O.nil) (Sy.O.steps [0, 0, 0, 0, 0, 0, 0, 0, 0, 0, 0, 0, 0, 0, 0] Sy.O.nil)))))))))))
noncomputable def raeP_R (A : Option Addr) (c : Nat) (b : Int) (k : Int) (p : Nat) (ns : Nat → Sy.Let) : Sy.Res (Value × List Blk) := Sy.Res.br (!Ex.eqQ (Int.ofNat (Nat.succ p)) (1 : Int))
 (Sy.Res.need True
 (Sy.Res.hyp True
 (Sy.Res.br (bif true then !tru (isPow (Int.ofNat (Nat.succ p))) else false)
 (Sy.Res.leaf
 (Value.tuple (Array.mk [Value.slice none (0 : Nat) (0 : Nat), Value.int IntKind.i64 (1 : Int)]), []))
 (Sy.Res.br (bif false then true else Ex.ltQ b (0 : Int))
 (Sy.Res.leaf
 (Value.tuple (Array.mk [Value.slice none (0 : Nat) (0 : Nat), Value.int IntKind.i64 (1 : Int)]), []))
 (Sy.Res.br
 (bif false then true else Ex.ltQ (Ex.wrapQ IntKind.i64 (Ex.subQ' (4096 : Int) (Int.ofNat (Nat.succ p)))) b)
 (Sy.Res.leaf
 (Value.tuple (Array.mk [Value.slice none (0 : Nat) (0 : Nat), Value.int IntKind.i64 (1 : Int)]), []))
 (Sy.Res.br (bif false then true else Ex.ltQ k (0 : Int))
 (Sy.Res.leaf
 (Value.tuple (Array.mk [Value.slice none (0 : Nat) (0 : Nat), Value.int IntKind.i64 (1 : Int)]), []))
 (Sy.Res.br (bif false then true else Ex.ltQ (4 : Int) k)
 (Sy.Res.leaf
 (Value.tuple (Array.mk [Value.slice none (0 : Nat) (0 : Nat), Value.int IntKind.i64 (1 : Int)]), []))
 (Sy.Res.need True
 (Sy.Res.hyp True
 (Sy.Res.leaf
 (Value.tuple (Array.mk [Value.slice none (0 : Nat) (0 : Nat), Value.int IntKind.i64 (1 : Int)]),
 [])))))))))))
 (Sy.Res.br (bif false then true else Ex.ltQ b (0 : Int))
 (Sy.Res.leaf (Value.tuple (Array.mk [Value.slice none (0 : Nat) (0 : Nat), Value.int IntKind.i64 (1 : Int)]), []))
 (Sy.Res.br
 (bif false then true else Ex.ltQ (Ex.wrapQ IntKind.i64 (Ex.subQ' (4096 : Int) (Int.ofNat (Nat.succ p)))) b)
 (Sy.Res.leaf (Value.tuple (Array.mk [Value.slice none (0 : Nat) (0 : Nat), Value.int IntKind.i64 (1 : Int)]), []))
 (Sy.Res.br (bif false then true else Ex.ltQ k (0 : Int))
 (Sy.Res.leaf
 (Value.tuple (Array.mk [Value.slice none (0 : Nat) (0 : Nat), Value.int IntKind.i64 (1 : Int)]), []))
 (Sy.Res.br (bif false then true else Ex.ltQ (4 : Int) k)
 (Sy.Res.leaf
 (Value.tuple (Array.mk [Value.slice none (0 : Nat) (0 : Nat), Value.int IntKind.i64 (1 : Int)]), []))
 (Sy.Res.need True
 (Sy.Res.hyp True
 (Sy.Res.leaf
 (Value.tuple (Array.mk [Value.slice none (0 : Nat) (0 : Nat), Value.int IntKind.i64 (1 : Int)]),
 []))))))))
theorem raeP_run (A : Option Addr) (c : Nat) (b k : Int) (p : Nat) : Sy.Ran (Sy.inT Try.prog (ctxE A c) 60 fRAd (raeArgs A c b (.ofNat (.succ p)) k) [] (Sy.rowT tI)) raeP_o (raeP_R A c b k p) := ⟨fun ns => by kernel_rfl, fun ns => by kernel_rfl⟩

/-! A row of nodes: sizes that are not. -/
theorem adZ_bad (g o c : Nat) (l : List Nd) (b k : Int) : Sy.Meets Try.prog (adBad fAd (adArgs g o c l b 0 k) g o l b 0 k) := by
  refine Sy.meets_of (ctxI_holds _ _ _ _ _ _) mixed (adZ_run g o c l b k) fun hok ns => ?_
  obtain ⟨hl, hb⟩ : lenOk l ∧ aBad b 0 l k := hok
  have h0 := hl.1.1
  have leaf : ∀ L, Sy.leafC (adBad fAd (adArgs g o c l b 0 k) g o l b 0 k) (.tuple #[.slice none 0 0, .int .i64 1], L) := fun L => Sy.plainO_leaf (List.mem_singleton_self _) rfl rfl
  simp only [adZ_R, Sy.Res.holds, Sy.b_and, Sy.b_or, Sy.b_not, Sy.b_f, Sy.b_and', Sy.b_or', Sy.q_lt, Sy.q_le, Sy.q_eq, Sy.b_tt, Sy.b_ft, not_true_eq_false, not_false_eq_true, some_int, some_bool, exists_eq', true_and, tru_t, leftE hl, Int.toNat_natCast, false_or]
  exact ⟨fun _ => leaf _, fun c1 => ⟨fun _ => leaf _, fun c2 => ⟨fun _ => leaf _, fun c3 => ⟨fun _ => leaf _, fun c4 => ⟨fun _ => leaf _, fun c5 => absurd (show (0 : Int) < (l.length : Int) by omega) c5⟩⟩⟩⟩⟩

theorem adN_bad (g o c : Nat) (l : List Nd) (b k : Int) (p : Nat) : Sy.Meets Try.prog (adBad fAd (adArgs g o c l b (.negSucc p) k) g o l b (.negSucc p) k) := by
  refine Sy.meets_of (ctxI_holds _ _ _ _ _ _) mixed (adN_run g o c l b k p) fun hok ns => ?_
  exact Sy.plainO_leaf (List.mem_singleton_self _) rfl rfl

theorem radZ_bad (g o c : Nat) (l : List Nd) (b k : Int) : Sy.Meets Try.prog (adBad fRAd (radArgs g o c l b 0 k) g o l b 0 k) := by
  refine Sy.meets_of (ctxI_holds _ _ _ _ _ _) mixed (radZ_run g o c l b k) fun hok ns => ?_
  obtain ⟨hl, hb⟩ : lenOk l ∧ aBad b 0 l k := hok
  have h0 := hl.1.1
  have leaf : ∀ L, Sy.leafC (adBad fRAd (radArgs g o c l b 0 k) g o l b 0 k) (.tuple #[.slice none 0 0, .int .i64 1], L) := fun L => Sy.plainO_leaf (List.mem_singleton_self _) rfl rfl
  simp only [radZ_R, Sy.Res.holds, Sy.b_and, Sy.b_or, Sy.b_not, Sy.b_f, Sy.b_and', Sy.b_or', Sy.q_lt, Sy.q_le, Sy.q_eq, Sy.b_tt, Sy.b_ft, not_true_eq_false, not_false_eq_true, some_int, some_bool, exists_eq', true_and, tru_t, leftE hl, Int.toNat_natCast, false_or]
  exact ⟨fun _ => leaf _, fun c1 => ⟨fun _ => leaf _, fun c2 => ⟨fun _ => leaf _, fun c3 => ⟨fun _ => leaf _, fun c4 => ⟨fun _ => leaf _, fun c5 => absurd (show (0 : Int) < (l.length : Int) by omega) c5⟩⟩⟩⟩⟩

theorem neg_pow (p : Nat) : ¬ isPow (.negSucc p) := fun h => by
  have := h.bound
  have : Int.negSucc p < 0 := Int.negSucc_lt_zero p
  omega
theorem radN_bad (g o c : Nat) (l : List Nd) (b k : Int) (p : Nat) : Sy.Meets Try.prog (adBad fRAd (radArgs g o c l b (.negSucc p) k) g o l b (.negSucc p) k) := by
  refine Sy.meets_of (ctxI_holds _ _ _ _ _ _) mixed (radN_run g o c l b k p) fun hok ns => ?_
  have leaf : ∀ L, Sy.leafC (adBad fRAd (radArgs g o c l b (.negSucc p) k) g o l b (.negSucc p) k) (.tuple #[.slice none 0 0, .int .i64 1], L) := fun L => Sy.plainO_leaf (List.mem_singleton_self _) rfl rfl
  simp only [radN_R, Sy.Res.holds, tru_t, Sy.b_and, Sy.b_or, Sy.b_not, Sy.b_f, Sy.b_and', Sy.b_or', Sy.q_lt, Sy.q_le, Sy.q_eq, Sy.b_tt, Sy.b_ft, not_true_eq_false, not_false_eq_true]
  exact ⟨trivial, fun _ => ⟨fun _ => leaf _, fun h => absurd ⟨trivial, neg_pow p⟩ h⟩⟩

inductive WayA where
  | bad
  | reg
  | ok
def Sy.wayA (w : WayA) (b s : Int) (l : List Nd) (k : Int) : Prop := match w with
  | .bad => aBad b s l k
  | .reg => aReg b s l k
  | .ok => aOk b s l k
noncomputable def Sy.adW (w : WayA) (f : FuncId) (args : Array Value) (g o : Nat) (l : List Nd) (b s k : Int) : Sy.CallC := match w with
  | .bad => adBad f args g o l b s k
  | .reg => adReg f args g o l b s k
  | .ok => adOk f args g o l b s k

theorem adW_met (w : WayA) (g o c : Nat) (l : List Nd) (b s k : Int) : Sy.Meets Try.prog (Sy.adW w fAd (adArgs g o c l b s k) g o l b s k) := by
  have no : ∀ s, ¬ isPow s → ¬ geoOk b s l k := fun s h h' => h h'.1.1
  match s with
  | .ofNat 0 => cases w with
    | bad => exact adZ_bad _ _ _ _ _ _
    | reg => exact fun h => absurd h.2.1 (no 0 (by decide))
    | ok => exact fun h => absurd h.2.1 (no 0 (by decide))
  | .ofNat (.succ p) => cases w with
    | bad => exact adP_bad _ _ _ _ _ _ _
    | reg => exact adP_reg _ _ _ _ _ _ _
    | ok => exact adP_ok _ _ _ _ _ _ _
  | .negSucc p => cases w with
    | bad => exact adN_bad _ _ _ _ _ _ _
    | reg => exact fun h => absurd h.2.1 (no _ (neg_pow p))
    | ok => exact fun h => absurd h.2.1 (no _ (neg_pow p))
theorem radW_met (w : WayA) (g o c : Nat) (l : List Nd) (b s k : Int) : Sy.Meets Try.prog (Sy.adW w fRAd (radArgs g o c l b s k) g o l b s k) := by
  have no : ∀ s, ¬ isPow s → ¬ geoOk b s l k := fun s h h' => h h'.1.1
  match s with
  | .ofNat 0 => cases w with
    | bad => exact radZ_bad _ _ _ _ _ _
    | reg => exact fun h => absurd h.2.1 (no 0 (by decide))
    | ok => exact fun h => absurd h.2.1 (no 0 (by decide))
  | .ofNat (.succ p) => cases w with
    | bad => exact radP_bad _ _ _ _ _ _ _
    | reg => exact radP_reg _ _ _ _ _ _ _
    | ok => exact radP_ok _ _ _ _ _ _ _
  | .negSucc p => cases w with
    | bad => exact radN_bad _ _ _ _ _ _ _
    | reg => exact fun h => absurd h.2.1 (no _ (neg_pow p))
    | ok => exact fun h => absurd h.2.1 (no _ (neg_pow p))

/-! No nodes. -/
def zeroOk (b s k : Int) : Prop := s = 0 ∧ (0 ≤ b ∧ b ≤ 4095) ∧ 0 ≤ k ∧ k < 5
noncomputable def aeBad (f : FuncId) (args : Array Value) (b s k : Int) : Sy.CallC := ⟨f, args, ¬ zeroOk b s k, ⟨[], [], 0⟩, [Sy.plainO (.tuple #[.slice none 0 0, .int .i64 1])]⟩
noncomputable def aeOk (f : FuncId) (args : Array Value) (b s k : Int) : Sy.CallC := ⟨f, args, zeroOk b s k, ⟨[], [], 2⟩, [Sy.rowO tI 6 (numL 29 (65536 + 8 * b)).length (insCells (numL 29 (65536 + 8 * b))) fun v => .tuple #[v, .int .i64 0]]⟩
theorem ctxE_holds (A : Option Addr) (c : Nat) : (ctxE A c).holds Try.prog := Sy.mkS_holds (fun p hp a L => by
  rcases List.mem_cons.1 hp with rfl | hp
  · exact mayC0_met _ _
  rcases List.mem_cons.1 hp with rfl | hp
  · exact rxC0_met _ _ _
  rcases List.mem_cons.1 hp with rfl | hp
  · exact numC_met _ _
  rcases List.mem_cons.1 hp with rfl | hp
  · exact rnum0_met _ _
  rcases List.mem_singleton.1 hp with rfl
  exact pwC_met _) (fun _ h => (by cases h)) (fun _ h => (by cases h))

theorem aeZ_bad (A : Option Addr) (c : Nat) (b k : Int) : Sy.Meets Try.prog (aeBad fAd (aeArgs A c b 0 k) b 0 k) := by
  refine Sy.meets_of (ctxE_holds _ _) mixed (aeZ_run A c b k) fun hok ns => ?_
  have hb : ¬ zeroOk b 0 k := hok
  have leaf : ∀ L, Sy.leafC (aeBad fAd (aeArgs A c b 0 k) b 0 k) (.tuple #[.slice none 0 0, .int .i64 1], L) := fun L => Sy.plainO_leaf (List.mem_singleton_self _) rfl rfl
  simp only [aeZ_R, Sy.Res.holds, Sy.b_and, Sy.b_or, Sy.b_not, Sy.b_f, Sy.b_and', Sy.b_or', Sy.q_lt, Sy.q_le, Sy.q_eq, Sy.b_tt, Sy.b_ft, not_true_eq_false, not_false_eq_true, some_int, some_bool, exists_eq', true_and, tru_t, false_or]
  exact ⟨fun _ => leaf _, fun c1 => ⟨fun _ => leaf _, fun c2 => ⟨fun _ => leaf _, fun c3 => ⟨fun _ => leaf _, fun c4 => absurd ⟨rfl, by omega, by omega⟩ hb⟩⟩⟩⟩
theorem aeZ_ok (A : Option Addr) (c : Nat) (b k : Int) : Sy.Meets Try.prog (aeOk fAd (aeArgs A c b 0 k) b 0 k) := by
  refine Sy.meets_of (ctxE_holds _ _) mixed (aeZ_run A c b k) fun hok ns => ?_
  obtain ⟨-, ⟨b0, b1⟩, k0, k1⟩ : zeroOk b 0 k := hok
  simp only [aeZ_R, Sy.Res.holds, Sy.b_and, Sy.b_or, Sy.b_not, Sy.b_f, Sy.b_and', Sy.b_or', Sy.q_lt, Sy.q_le, Sy.q_eq, Sy.b_tt, Sy.b_ft, not_true_eq_false, not_false_eq_true, some_int, some_bool, exists_eq', true_and, tru_t, false_or, place_q b0 (show b ≤ 4096 by omega)]
  exact ⟨fun h => absurd h (by omega), fun _ => ⟨fun h => absurd h (by omega), fun _ => ⟨fun h => absurd h (by omega), fun _ => ⟨fun h => absurd h (by omega), fun _ => ⟨by omega, fun hc => Sy.rowO_leaf' (List.mem_singleton_self _) rfl 0 rfl rfl rfl rfl hc⟩⟩⟩⟩⟩

theorem raeZ_bad (A : Option Addr) (c : Nat) (b k : Int) : Sy.Meets Try.prog (aeBad fRAd (raeArgs A c b 0 k) b 0 k) := by
  refine Sy.meets_of (ctxE_holds _ _) mixed (raeZ_run A c b k) fun hok ns => ?_
  have hb : ¬ zeroOk b 0 k := hok
  have leaf : ∀ L, Sy.leafC (aeBad fRAd (raeArgs A c b 0 k) b 0 k) (.tuple #[.slice none 0 0, .int .i64 1], L) := fun L => Sy.plainO_leaf (List.mem_singleton_self _) rfl rfl
  simp only [raeZ_R, Sy.Res.holds, Sy.b_and, Sy.b_or, Sy.b_not, Sy.b_f, Sy.b_and', Sy.b_or', Sy.q_lt, Sy.q_le, Sy.q_eq, Sy.b_tt, Sy.b_ft, not_true_eq_false, not_false_eq_true, some_int, some_bool, exists_eq', true_and, tru_t, false_or]
  exact ⟨fun _ => leaf _, fun c1 => ⟨fun _ => leaf _, fun c2 => ⟨fun _ => leaf _, fun c3 => ⟨fun _ => leaf _, fun c4 => absurd ⟨rfl, by omega, by omega⟩ hb⟩⟩⟩⟩
theorem raeZ_ok (A : Option Addr) (c : Nat) (b k : Int) : Sy.Meets Try.prog (aeOk fRAd (raeArgs A c b 0 k) b 0 k) := by
  refine Sy.meets_of (ctxE_holds _ _) mixed (raeZ_run A c b k) fun hok ns => ?_
  obtain ⟨-, ⟨b0, b1⟩, k0, k1⟩ : zeroOk b 0 k := hok
  simp only [raeZ_R, Sy.Res.holds, Sy.b_and, Sy.b_or, Sy.b_not, Sy.b_f, Sy.b_and', Sy.b_or', Sy.q_lt, Sy.q_le, Sy.q_eq, Sy.b_tt, Sy.b_ft, not_true_eq_false, not_false_eq_true, some_int, some_bool, exists_eq', true_and, tru_t, false_or, place_q b0 (show b ≤ 4096 by omega)]
  exact ⟨fun h => absurd h (by omega), fun _ => ⟨fun h => absurd h (by omega), fun _ => ⟨fun h => absurd h (by omega), fun _ => ⟨fun h => absurd h (by omega), fun _ => ⟨by omega, fun hc => Sy.rowO_leaf' (List.mem_singleton_self _) rfl 0 rfl rfl rfl rfl hc⟩⟩⟩⟩⟩

theorem aeN_bad (A : Option Addr) (c : Nat) (b k : Int) (p : Nat) : Sy.Meets Try.prog (aeBad fAd (aeArgs A c b (.negSucc p) k) b (.negSucc p) k) := by
  refine Sy.meets_of (ctxE_holds _ _) mixed (aeN_run A c b k p) fun hok ns => ?_
  exact Sy.plainO_leaf (List.mem_singleton_self _) rfl rfl
theorem aeP_bad (A : Option Addr) (c : Nat) (b k : Int) (p : Nat) : Sy.Meets Try.prog (aeBad fAd (aeArgs A c b (.ofNat (.succ p)) k) b (.ofNat (.succ p)) k) := by
  refine Sy.meets_of (ctxE_holds _ _) mixed (aeP_run A c b k p) fun hok ns => ?_
  have leaf : ∀ L, Sy.leafC (aeBad fAd (aeArgs A c b (.ofNat (.succ p)) k) b (.ofNat (.succ p)) k) (.tuple #[.slice none 0 0, .int .i64 1], L) := fun L => Sy.plainO_leaf (List.mem_singleton_self _) rfl rfl
  simp only [aeP_R, Sy.Res.holds]
  exact ⟨fun _ => leaf _, fun c1 => ⟨fun _ => leaf _, fun c2 => ⟨fun _ => leaf _, fun c3 => ⟨fun _ => leaf _, fun c4 => ⟨fun _ => leaf _, fun c4 => ⟨fun _ => leaf _, fun c4 => ⟨trivial, fun _ => leaf _⟩⟩⟩⟩⟩⟩⟩
theorem raeN_bad (A : Option Addr) (c : Nat) (b k : Int) (p : Nat) : Sy.Meets Try.prog (aeBad fRAd (raeArgs A c b (.negSucc p) k) b (.negSucc p) k) := by
  refine Sy.meets_of (ctxE_holds _ _) mixed (raeN_run A c b k p) fun hok ns => ?_
  have leaf : ∀ L, Sy.leafC (aeBad fRAd (raeArgs A c b (.negSucc p) k) b (.negSucc p) k) (.tuple #[.slice none 0 0, .int .i64 1], L) := fun L => Sy.plainO_leaf (List.mem_singleton_self _) rfl rfl
  simp only [raeN_R, Sy.Res.holds]
  exact ⟨trivial, fun _ => ⟨fun _ => leaf _, fun c2 => ⟨fun _ => leaf _, fun c3 => ⟨fun _ => leaf _, fun c4 => ⟨fun _ => leaf _, fun c4 => ⟨fun _ => leaf _, fun c4 => ⟨trivial, fun _ => leaf _⟩⟩⟩⟩⟩⟩⟩
theorem raeP_bad (A : Option Addr) (c : Nat) (b k : Int) (p : Nat) : Sy.Meets Try.prog (aeBad fRAd (raeArgs A c b (.ofNat (.succ p)) k) b (.ofNat (.succ p)) k) := by
  refine Sy.meets_of (ctxE_holds _ _) mixed (raeP_run A c b k p) fun hok ns => ?_
  have leaf : ∀ L, Sy.leafC (aeBad fRAd (raeArgs A c b (.ofNat (.succ p)) k) b (.ofNat (.succ p)) k) (.tuple #[.slice none 0 0, .int .i64 1], L) := fun L => Sy.plainO_leaf (List.mem_singleton_self _) rfl rfl
  simp only [raeP_R, Sy.Res.holds]
  exact ⟨fun _ => ⟨trivial, fun _ => ⟨fun _ => leaf _, fun c2 => ⟨fun _ => leaf _, fun c3 => ⟨fun _ => leaf _, fun c4 => ⟨fun _ => leaf _, fun c4 => ⟨fun _ => leaf _, fun c4 => ⟨trivial, fun _ => leaf _⟩⟩⟩⟩⟩⟩⟩,
    fun c2 => ⟨fun _ => leaf _, fun c3 => ⟨fun _ => leaf _, fun c4 => ⟨fun _ => leaf _, fun c4 => ⟨fun _ => leaf _, fun c4 => ⟨trivial, fun _ => leaf _⟩⟩⟩⟩⟩⟩

inductive WayE where
  | bad
  | ok
def Sy.wayE (w : WayE) (b s k : Int) : Prop := match w with
  | .bad => ¬ zeroOk b s k
  | .ok => zeroOk b s k
noncomputable def Sy.aeW (w : WayE) (f : FuncId) (args : Array Value) (b s k : Int) : Sy.CallC := match w with
  | .bad => aeBad f args b s k
  | .ok => aeOk f args b s k
theorem aeW_met (w : WayE) (A : Option Addr) (c : Nat) (b s k : Int) : Sy.Meets Try.prog (Sy.aeW w fAd (aeArgs A c b s k) b s k) := by
  match s with
  | .ofNat 0 => cases w with
    | bad => exact aeZ_bad _ _ _ _
    | ok => exact aeZ_ok _ _ _ _
  | .ofNat (.succ p) => cases w with
    | bad => exact aeP_bad _ _ _ _ _
    | ok => exact fun h => by cases h.1
  | .negSucc p => cases w with
    | bad => exact aeN_bad _ _ _ _ _
    | ok => exact fun h => by cases h.1
theorem raeW_met (w : WayE) (A : Option Addr) (c : Nat) (b s k : Int) : Sy.Meets Try.prog (Sy.aeW w fRAd (raeArgs A c b s k) b s k) := by
  match s with
  | .ofNat 0 => cases w with
    | bad => exact raeZ_bad _ _ _ _
    | ok => exact raeZ_ok _ _ _ _
  | .ofNat (.succ p) => cases w with
    | bad => exact raeP_bad _ _ _ _ _
    | ok => exact fun h => by cases h.1
  | .negSucc p => cases w with
    | bad => exact raeN_bad _ _ _ _ _
    | ok => exact fun h => by cases h.1

end Go.Proofs.Ytgaejhhipnpopaa
