/-
  A queue's Take: each step, explored; A queue's Put, its third step: ea
-/
import Derived.Test.YtjohknpmhlildaaDoorPbb
import Derived.Lib.TrailingZeros

noncomputable section
set_option linter.unusedVariables false
set_option linter.unusedSimpArgs false
--@way 3
--@tail 0
namespace Go.Proofs.YtjohknpmhlildaaDoor.At
open Sy.O (fork nil step steps)
open Sy.Res (need hyp br leaf both)
open Go Go.RowKit
open Go.Proofs.YtjohknpmhlildaaDoor.Sy (Let Blk ptr bx tkB tkU clo)
abbrev cTake (qb tb lb : Nat) : Value := clo 66 #[ptr qb, ptr tb, ptr lb]
abbrev cTake2 (qb fb tb lb : Nat) : Value := clo 67 #[ptr qb, ptr fb, ptr tb, ptr lb]
abbrev cTake3 (fb tb lb ll qb : Nat) : Value := clo 68 #[ptr fb, ptr tb, ptr lb, ptr ll, ptr qb]
abbrev cTake4 (lb tb fb ll qb nb : Nat) : Value := clo 69 #[ptr lb, ptr tb, ptr fb, ptr ll, ptr qb, ptr nb]
def take1_o : Sy.O := (steps [1, 0, 0, 1, 0, 1, 0, 0, 0, 1, 0, 0, 2, 0, 5, 0, 0, 0, 0, 0, 0, 5, 0, 2, 0, 0, 2] nil)
noncomputable def take1_R (tk qb lb tb st : Nat) (steps : Int) (e : Value) (p : Nat) (vp : Int) (up : Value) (ns : Nat → Sy.Let) : Sy.Res (Value × List Blk) :=
 let z0 := some (Addr.mk p 0 none)
 let z1 := some (Addr.mk qb 0 none)
 let z2 := some (Addr.mk tb 0 none)
 let z3 := some (Addr.mk lb 0 none)
 leaf (Value.bool false, [Blk.mk (ns 0).n (.obj (.cells (Array.mk [.pointer z0]) 116)) true, Blk.mk p (.obj (.cells (Array.mk [.int .u64 vp, up]) 123)) false, Blk.mk tk (.obj (.cells (Array.mk [Value.func (Fn.func 67) (Array.mk []) (Array.mk [.pointer z1, .pointer (some ⟨(ns 0).n, 0, none⟩), .pointer z2, .pointer z3]), .int .u32 0, .int .i64 (Ex.wrapQ .i64 (Ex.addQ steps 1)), .int .u64 0, .bool false, .slice none 0 0]) 100)) true, Blk.mk qb (.obj (.cells (Array.mk [.pointer (some ⟨st, 0, none⟩)]) 26)) true, Blk.mk lb (.obj (.cells (Array.mk [Value.func (Fn.func 66) (Array.mk []) (Array.mk [.pointer z1, .pointer z2, .pointer z3])]) 1)) true, Blk.mk tb (.obj (.cells (Array.mk [.pointer (some ⟨tk, 0, none⟩)]) 48)) true, Blk.mk st (.obj (.cells (Array.mk [.pointer z0, e]) 121)) true])
theorem take1_run (tk qb lb tb st : Nat) (steps : Int) (e : Value) (p : Nat) (vp : Int) (up : Value) : Sy.Ran (Sy.inB Tryd.prog Sy.S0 50 fStep #[ptr tk] (Sy.rdsOf [lkB p vp up] ++ [tkU tk (cTake qb tb lb) steps, bx qb tQP (ptr st), bx lb tFn (cTake qb tb lb), bx tb tTP (ptr tk), quB st (ptr p) e].map Sy.ownOf)) take1_o (take1_R tk qb lb tb st steps e p vp up) := ⟨fun _ => by kernel_rfl, fun _ => by kernel_rfl⟩
def take2_o : Sy.O := (steps [1, 0, 0, 1, 0, 1, 0, 0, 0, 1, 0, 0, 2, 0, 6, 0, 0, 0, 0, 0, 0, 5, 0, 2, 0, 0, 2] nil)
noncomputable def take2_R (tk qb lb tb st fb : Nat) (steps : Int) (e g : Value) (p : Nat) (vp : Int) (up : Value) (ns : Nat → Sy.Let) : Sy.Res (Value × List Blk) :=
 let z0 := some (Addr.mk p 0 none)
 let z1 := some (Addr.mk tb 0 none)
 let z2 := some (Addr.mk lb 0 none)
 let z3 := some (Addr.mk qb 0 none)
 leaf (Value.bool false, [Blk.mk (ns 0).n (.obj (.cells (Array.mk [.pointer z0]) 116)) true, Blk.mk p (.obj (.cells (Array.mk [.int .u64 vp, up]) 123)) false, Blk.mk tk (.obj (.cells (Array.mk [Value.func (Fn.func 68) (Array.mk []) (Array.mk [.pointer (some ⟨fb, 0, none⟩), .pointer z1, .pointer z2, .pointer (some ⟨(ns 0).n, 0, none⟩), .pointer z3]), .int .u32 0, .int .i64 (Ex.wrapQ .i64 (Ex.addQ steps 1)), .int .u64 0, .bool false, .slice none 0 0]) 100)) true, Blk.mk qb (.obj (.cells (Array.mk [.pointer (some ⟨st, 0, none⟩)]) 26)) true, Blk.mk lb (.obj (.cells (Array.mk [Value.func (Fn.func 66) (Array.mk []) (Array.mk [.pointer z3, .pointer z1, .pointer z2])]) 1)) true, Blk.mk tb (.obj (.cells (Array.mk [.pointer (some ⟨tk, 0, none⟩)]) 48)) true, Blk.mk fb (.obj (.cells (Array.mk [e]) 116)) true, Blk.mk st (.obj (.cells (Array.mk [g, .pointer z0]) 121)) true])
theorem take2_run (tk qb lb tb st fb : Nat) (steps : Int) (e g : Value) (p : Nat) (vp : Int) (up : Value) : Sy.Ran (Sy.inB Tryd.prog Sy.S0 50 fStep #[ptr tk] (Sy.rdsOf [lkB p vp up] ++ [tkU tk (cTake2 qb fb tb lb) steps, bx qb tQP (ptr st), bx lb tFn (cTake qb tb lb), bx tb tTP (ptr tk), bx fb tLP e, quB st g (ptr p)].map Sy.ownOf)) take2_o (take2_R tk qb lb tb st fb steps e g p vp up) := ⟨fun _ => by kernel_rfl, fun _ => by kernel_rfl⟩
def take3n_o : Sy.O := (steps [1, 0, 0, 1, 0, 1, 0, 0, 0, 1, 0, 0, 5, 0, 0, 0, 0, 0, 0, 0, 0, 0, 0, 5, 0, 2, 0, 0, 2, 0, 0, 3, 0, 1, 2, 3, 8, 0, 2, 0, 0, 2] nil)
noncomputable def take3n_R (tk qb lb tb st fb ll p : Nat) (steps a : Int) (e g h : Value) (ns : Nat → Sy.Let) : Sy.Res (Value × List Blk) :=
 let z0 := some (Addr.mk tb 0 none)
 let z1 := some (Addr.mk lb 0 none)
 let z2 := some (Addr.mk qb 0 none)
 leaf (Value.bool true, [Blk.mk (ns 0).n (.obj (.cells (Array.mk [.pointer none]) 116)) true, Blk.mk p (.obj (.cells (Array.mk [.int .u64 a, .pointer none]) 123)) false, Blk.mk tk (.obj (.cells (Array.mk [Value.func (Fn.func 68) (Array.mk []) (Array.mk [.pointer (some ⟨fb, 0, none⟩), .pointer z0, .pointer z1, .pointer (some ⟨ll, 0, none⟩), .pointer z2]), .int .u32 1, .int .i64 (Ex.wrapQ .i64 (Ex.addQ steps 1)), .int .u64 0, .bool false, .slice none 0 0]) 100)) true, Blk.mk qb (.obj (.cells (Array.mk [.pointer (some ⟨st, 0, none⟩)]) 26)) true, Blk.mk lb (.obj (.cells (Array.mk [Value.func (Fn.func 66) (Array.mk []) (Array.mk [.pointer z2, .pointer z0, .pointer z1])]) 1)) true, Blk.mk tb (.obj (.cells (Array.mk [.pointer (some ⟨tk, 0, none⟩)]) 48)) true, Blk.mk fb (.obj (.cells (Array.mk [.pointer (some ⟨p, 0, none⟩)]) 116)) true, Blk.mk ll (.obj (.cells (Array.mk [e]) 116)) true, Blk.mk st (.obj (.cells (Array.mk [g, h]) 121)) true])
theorem take3n_run (tk qb lb tb st fb ll p : Nat) (steps a : Int) (e g h : Value) : Sy.Ran (Sy.inB Tryd.prog Sy.S0 50 fStep #[ptr tk] (Sy.rdsOf [lkB p a Sy.ptr0] ++ ([tkU tk (cTake3 fb tb lb ll qb) steps, bx qb tQP (ptr st), bx lb tFn (cTake qb tb lb), bx tb tTP (ptr tk), bx fb tLP (ptr p), bx ll tLP e, quB st g h].map Sy.ownOf))) take3n_o (take3n_R tk qb lb tb st fb ll p steps a e g h) := ⟨fun _ => by kernel_rfl, fun _ => by kernel_rfl⟩
def take3s_o : Sy.O := (steps [2, 0, 0, 2, 0, 2, 0, 0, 0, 2, 0, 0, 6, 0, 0, 1, 1, 0, 0, 0, 0, 0, 0, 0, 0, 6, 0, 3, 0, 0, 3] nil)
noncomputable def take3s_R (tk qb lb tb st fb ll p : Nat) (steps a : Int) (e g h : Value) (q : Nat) (vq : Int) (uq : Value) (ns : Nat → Sy.Let) : Sy.Res (Value × List Blk) :=
 let z0 := some (Addr.mk q 0 none)
 let z1 := some (Addr.mk lb 0 none)
 let z2 := some (Addr.mk tb 0 none)
 let z3 := some (Addr.mk qb 0 none)
 leaf (Value.bool false, [Blk.mk (ns 0).n (.obj (.cells (Array.mk [.pointer z0]) 116)) true, Blk.mk p (.obj (.cells (Array.mk [.int .u64 a, .pointer z0]) 123)) false, Blk.mk q (.obj (.cells (Array.mk [.int .u64 vq, uq]) 123)) false, Blk.mk tk (.obj (.cells (Array.mk [Value.func (Fn.func 69) (Array.mk []) (Array.mk [.pointer z1, .pointer z2, .pointer (some ⟨fb, 0, none⟩), .pointer (some ⟨ll, 0, none⟩), .pointer z3, .pointer (some ⟨(ns 0).n, 0, none⟩)]), .int .u32 0, .int .i64 (Ex.wrapQ .i64 (Ex.addQ steps 1)), .int .u64 0, .bool false, .slice none 0 0]) 100)) true, Blk.mk qb (.obj (.cells (Array.mk [.pointer (some ⟨st, 0, none⟩)]) 26)) true, Blk.mk lb (.obj (.cells (Array.mk [Value.func (Fn.func 66) (Array.mk []) (Array.mk [.pointer z3, .pointer z2, .pointer z1])]) 1)) true, Blk.mk tb (.obj (.cells (Array.mk [.pointer (some ⟨tk, 0, none⟩)]) 48)) true, Blk.mk fb (.obj (.cells (Array.mk [.pointer (some ⟨p, 0, none⟩)]) 116)) true, Blk.mk ll (.obj (.cells (Array.mk [e]) 116)) true, Blk.mk st (.obj (.cells (Array.mk [g, h]) 121)) true])
theorem take3s_run (tk qb lb tb st fb ll p : Nat) (steps a : Int) (e g h : Value) (q : Nat) (vq : Int) (uq : Value) : Sy.Ran (Sy.inB Tryd.prog Sy.S0 50 fStep #[ptr tk] (Sy.rdsOf [lkB p a (ptr q)] ++ (Sy.rdsOf [lkB q vq uq] ++ [tkU tk (cTake3 fb tb lb ll qb) steps, bx qb tQP (ptr st), bx lb tFn (cTake qb tb lb), bx tb tTP (ptr tk), bx fb tLP (ptr p), bx ll tLP e, quB st g h].map Sy.ownOf))) take3s_o (take3s_R tk qb lb tb st fb ll p steps a e g h q vq uq) := ⟨fun _ => by kernel_rfl, fun _ => by kernel_rfl⟩
def take4_o : Sy.O := (steps [5, 0, 0, 5, 0, 5, 0, 0, 0, 5, 0, 0, 8, 0, 0, 7, 0, 5, 0, 0, 0, 9, 0, 0, 10, 0, 1, 0, 1] (fork (steps [3, 0, 0, 6, 0, 1, 2, 3, 0, 10, 0, 4, 0, 11, 0, 8, 1, 1, 2, 2, 12, 1, 4, 1] (fork (steps [0, 5] nil) (steps [5] nil))) (steps [3, 0, 0, 6, 0, 1, 2, 3, 0, 9, 0, 4, 0, 11, 0, 8, 0, 0, 2, 2, 12, 1, 3, 0] (fork (steps [0, 0, 3, 0, 0, 8, 0, 1, 0, 11, 0, 2, 3, 4, 0, 2, 0, 8, 5, 0, 0, 5, 0, 0, 3, 0, 1, 2, 3, 8, 0, 5, 0, 0, 5] nil) (steps [0, 5] nil)))))
noncomputable def take4_R (tk qb lb tb st fb ll nb : Nat) (steps : Int) (f : Nat) (vf : Int) (uf : Value) (l : Nat) (vl : Int) (ul : Value) (n : Nat) (vn : Int) (un : Value) (x : Nat) (vx : Int) (ux : Value) (y : Nat) (vy : Int) (uy : Value) (ns : Nat → Sy.Let) : Sy.Res (Value × List Blk) :=
 let z0 := Sy.Cont.obj (Obj.cells (Array.mk [.int .u64 vf, uf]) 123)
 let z1 := Sy.Cont.obj (Obj.cells (Array.mk [.int .u64 vl, ul]) 123)
 let z2 := Sy.Cont.obj (Obj.cells (Array.mk [.int .u64 vn, un]) 123)
 let z3 := Sy.Cont.obj (Obj.cells (Array.mk [.int .u64 vx, ux]) 123)
 let z4 := Sy.Cont.obj (Obj.cells (Array.mk [.int .u64 vy, uy]) 123)
 let z5 := Fn.func 66
 let z6 := Array.mk []
 let z7 := Array.mk [Value.pointer (some ⟨qb, 0, none⟩), Value.pointer (some ⟨tb, 0, none⟩), Value.pointer (some ⟨lb, 0, none⟩)]
 let z8 := Ex.wrapQ .i64 (Ex.addQ steps 1)
 let z9 := Sy.Cont.obj (Obj.cells (Array.mk [Value.func z5 z6 z7, .int .u32 0, .int .i64 z8, .int .u64 0, .bool false, .slice none 0 0]) 100)
 let z10 := Sy.Cont.obj (Obj.cells (Array.mk [.pointer (some ⟨st, 0, none⟩)]) 26)
 let z11 := Sy.Cont.obj (Obj.cells (Array.mk [Value.func z5 z6 z7]) 1)
 let z12 := Sy.Cont.obj (Obj.cells (Array.mk [.pointer (some ⟨tk, 0, none⟩)]) 48)
 let z13 := Sy.Cont.obj (Obj.cells (Array.mk [.pointer (some ⟨f, 0, none⟩)]) 116)
 let z14 := Sy.Cont.obj (Obj.cells (Array.mk [.pointer (some ⟨l, 0, none⟩)]) 116)
 let z15 := some (Addr.mk n 0 none)
 let z16 := Sy.Cont.obj (Obj.cells (Array.mk [.pointer z15]) 116)
 let z17 := some (Addr.mk x 0 none)
 let z18 := some (Addr.mk y 0 none)
 let z19 := leaf (Value.bool false, [Blk.mk f z0 false, Blk.mk l z1 false, Blk.mk n z2 false, Blk.mk x z3 false, Blk.mk y z4 false, Blk.mk tk z9 true, Blk.mk qb z10 true, Blk.mk lb z11 true, Blk.mk tb z12 true, Blk.mk fb z13 true, Blk.mk ll z14 true, Blk.mk nb z16 true, Blk.mk st (.obj (.cells (Array.mk [.pointer z17, .pointer z18]) 121)) true])
 br (bif false then !(Nat.beq f l && true) else Nat.beq f l && true) (br (Nat.beq y l && true) (leaf (Value.bool false, [Blk.mk f z0 false, Blk.mk l z1 false, Blk.mk n z2 false, Blk.mk x z3 false, Blk.mk y z4 false, Blk.mk tk z9 true, Blk.mk qb z10 true, Blk.mk lb z11 true, Blk.mk tb z12 true, Blk.mk fb z13 true, Blk.mk ll z14 true, Blk.mk nb z16 true, Blk.mk st (.obj (.cells (Array.mk [.pointer z17, .pointer z15]) 121)) true])) z19) (br (Nat.beq x f && true) (leaf (Value.bool true, [Blk.mk f z0 false, Blk.mk l z1 false, Blk.mk n z2 false, Blk.mk x z3 false, Blk.mk y z4 false, Blk.mk tk (.obj (.cells (Array.mk [Value.func z5 z6 z7, .int .u32 1, .int .i64 z8, .int .u64 vn, .bool true, .slice none 0 0]) 100)) true, Blk.mk qb z10 true, Blk.mk lb z11 true, Blk.mk tb z12 true, Blk.mk fb z13 true, Blk.mk ll z14 true, Blk.mk nb z16 true, Blk.mk st (.obj (.cells (Array.mk [.pointer z15, .pointer z18]) 121)) true])) z19)
theorem take4_run (tk qb lb tb st fb ll nb : Nat) (steps : Int) (f : Nat) (vf : Int) (uf : Value) (l : Nat) (vl : Int) (ul : Value) (n : Nat) (vn : Int) (un : Value) (x : Nat) (vx : Int) (ux : Value) (y : Nat) (vy : Int) (uy : Value) : Sy.Ran (Sy.inB Tryd.prog Sy.S0 50 fStep #[ptr tk] (Sy.rdsOf [lkB f vf uf, lkB l vl ul, lkB n vn un, lkB x vx ux, lkB y vy uy] ++ [tkU tk (cTake4 lb tb fb ll qb nb) steps, bx qb tQP (ptr st), bx lb tFn (cTake qb tb lb), bx tb tTP (ptr tk), bx fb tLP (ptr f), bx ll tLP (ptr l), bx nb tLP (ptr n), quB st (ptr x) (ptr y)].map Sy.ownOf)) take4_o (take4_R tk qb lb tb st fb ll nb steps f vf uf l vl ul n vn un x vx ux y vy uy) := ⟨fun _ => by kernel_rfl, fun _ => by kernel_rfl⟩
end Go.Proofs.YtjohknpmhlildaaDoor.At
--@tail 0
namespace Go.Proofs.YtjohknpmhlildaaDoor.At
open Sy.O (fork nil step steps)
open Sy.Res (need hyp br leaf both)
open Go Go.RowKit
open Go.Proofs.YtjohknpmhlildaaDoor.Sy (Let Blk ptr bx tkB tkU clo)
def put3n_o : Sy.O := (steps [0, 0, 0, 0, 0, 0, 0, 0, 0, 0, 0, 1, 0, 6, 0, 4, 0, 0, 0, 0, 1, 2, 3, 0, 1, 0, 8, 7, 7, 9, 0, 0, 1, 0, 6, 4, 5, 0, 0, 3, 0, 0, 0, 0, 0] nil)
noncomputable def put3n_R (tk qb lb tb ob vb own st ll p f : Nat) (steps v a : Int) (e : Value) (ns : Nat → Sy.Let) : Sy.Res (Value × List Blk) :=
 let z0 := some (Addr.mk qb 0 none)
 let z1 := some (Addr.mk ob 0 none)
 let z2 := some (Addr.mk tb 0 none)
 let z3 := some (Addr.mk vb 0 none)
 let z4 := some (Addr.mk own 0 none)
 leaf (Value.bool false, [Blk.mk tk (.obj (.cells (Array.mk [Value.func (Fn.func 65) (Array.mk []) (Array.mk [.pointer z0, .pointer (some ⟨ll, 0, none⟩), .pointer z1, .pointer z2, .pointer z3]), .int .u32 0, .int .i64 (Ex.wrapQ .i64 (Ex.addQ steps 1)), .int .u64 0, .bool false, .slice none 0 0]) 100)) true, Blk.mk qb (.obj (.cells (Array.mk [.pointer (some ⟨st, 0, none⟩)]) 26)) true, Blk.mk lb (.obj (.cells (Array.mk [Value.func (Fn.func 59) (Array.mk []) (Array.mk [.pointer z0, .pointer (some ⟨lb, 0, none⟩), .pointer z2, .pointer z1, .pointer z3])]) 1)) true, Blk.mk tb (.obj (.cells (Array.mk [.pointer (some ⟨tk, 0, none⟩)]) 48)) true, Blk.mk ob (.obj (.cells (Array.mk [.pointer z4]) 116)) true, Blk.mk vb (.obj (.cells (Array.mk [.int .u64 v]) 36)) true, Blk.mk ll (.obj (.cells (Array.mk [.pointer (some ⟨p, 0, none⟩)]) 116)) true, Blk.mk own (.obj (.cells (Array.mk [.int .u64 v, .pointer none]) 123)) true, Blk.mk st (.obj (.cells (Array.mk [.pointer (some ⟨f, 0, none⟩), e]) 121)) true, Blk.mk p (.obj (.cells (Array.mk [.int .u64 a, .pointer z4]) 123)) true])
theorem put3n_run (tk qb lb tb ob vb own st ll p f : Nat) (steps v a : Int) (e : Value) : Sy.Ran (Sy.inB Tryd.prog Sy.S0 50 fStep #[ptr tk] ([tkU tk (cPut3 ll ob lb tb qb vb) steps, bx qb tQP (ptr st), bx lb tFn (cPut qb lb tb ob vb), bx tb tTP (ptr tk), bx ob tLP (ptr own), bx vb tU (.int .u64 v), bx ll tLP (ptr p), lkB own v Sy.ptr0, quB st (ptr f) e, lkB p a Sy.ptr0].map Sy.ownOf)) put3n_o (put3n_R tk qb lb tb ob vb own st ll p f steps v a e) := ⟨fun _ => by kernel_rfl, fun _ => by kernel_rfl⟩
end Go.Proofs.YtjohknpmhlildaaDoor.At
namespace Go.Proofs.YtjohknpmhlildaaDoor.At
open Go Go.RowKit
open Go.Proofs.YtjohknpmhlildaaDoor.Sy (Let Blk Cont Bun ptr ptr0 bx tkB tkU clo DoesB usedK ownOf rdsOf Rep does_frame does_perm does_mono does_all does_of S0_holds)
abbrev putB (st qb lb tb ob vb tk own : Nat) (v : Int) : Bun := [bx qb tQP (ptr st), bx lb tFn (cPut qb lb tb ob vb), bx tb tTP (ptr tk), bx ob tLP (ptr own), bx vb tU (.int .u64 v)]
abbrev takeB (st qb lb tb tk : Nat) : Bun := [bx qb tQP (ptr st), bx lb tFn (cTake qb tb lb), bx tb tTP (ptr tk)]
def put1Q (st qb lb tb ob vb tk own f p : Nat) (n v : Int) (r : Value) (o : Bun) : Prop :=
 r = .bool false ∧ ∃ ll, o = tkU tk (cPut2 ll qb lb tb ob vb) (stp n) :: (putB st qb lb tb ob vb tk own v ++ [bx ll tLP (ptr p), lkB own v ptr0, quB st (ptr f) (ptr p)])
theorem put1_does {s : Bun} {p : Nat} {a : Int} {u : Value} (hp : lkB p a u ∈ s) (st qb lb tb ob vb tk own f : Nat) (n v : Int) :
  DoesS s fStep #[ptr tk] (tkU tk (cPut qb lb tb ob vb) n :: (putB st qb lb tb ob vb tk own v ++ [lkB own v ptr0, quB st (ptr f) (ptr p)])) (put1Q st qb lb tb ob vb tk own f p n v) := by
 refine ⟨_, in1 hp, does_of S0_holds mixed (Sy.Ent.refl _) (put1_run tk qb lb tb ob vb own st f n v p a u) fun ns => ?_⟩
 simp only [put1_R, Sy.Res.holds]
 exact ⟨_, ent_pick [2, 3, 4, 5, 6, 7, 0, 8, 9] (by decide) rfl, rfl, _, rfl⟩
def IsL (s : Bun) (v : Value) : Prop := v = ptr0 ∨ ∃ p a b, v = ptr p ∧ lkB p a b ∈ s
def put2Q (w : Value) (st qb lb tb ob vb tk own ll p f : Nat) (n v : Int) (e : Value) (r : Value) (o : Bun) : Prop :=
 (w = ptr0 ∧ r = .bool false ∧ o = tkU tk (cPut3 ll ob lb tb qb vb) (stp n) :: (putB st qb lb tb ob vb tk own v ++ [bx ll tLP (ptr p), lkB own v ptr0, quB st (ptr f) e])) ∨
 (w ≠ ptr0 ∧ r = .bool false ∧ ∃ nb, o = tkU tk (cPut5 qb ll nb lb tb) (stp n) :: (putB st qb lb tb ob vb tk own v ++ [bx ll tLP (ptr p), bx nb tLP w, lkB own v ptr0, quB st (ptr f) e]))
theorem put2_does {s : Bun} {p : Nat} {a : Int} {w : Value} (hp : lkB p a w ∈ s) (hw : IsL s w) (st qb lb tb ob vb tk own ll f : Nat) (n v : Int) (e : Value) :
  DoesS s fStep #[ptr tk] (tkU tk (cPut2 ll qb lb tb ob vb) n :: (putB st qb lb tb ob vb tk own v ++ [bx ll tLP (ptr p), lkB own v ptr0, quB st (ptr f) e])) (put2Q w st qb lb tb ob vb tk own ll p f n v e) := by
 rcases hw with rfl | ⟨q, b, c, rfl, hq⟩
 ·refine ⟨_, in1 hp, does_of S0_holds mixed (Sy.Ent.refl _) (put2n_run tk qb lb tb ob vb own st ll p f n v a e) fun ns => ?_⟩
  simp only [put2n_R, Sy.Res.holds]
  exact ⟨_, ent_pick [2, 3, 4, 5, 6, 7, 8, 9, 10] (by decide) rfl, .inl ⟨rfl, rfl, rfl⟩⟩
 ·refine ⟨_, in2 hp hq, does_of S0_holds mixed (Sy.Ent.refl _) (put2s_run tk qb lb tb ob vb own st ll p f n v a e q b c) fun ns => ?_⟩
  simp only [put2s_R, Sy.Res.holds]
  exact ⟨_, ent_pick [3, 4, 5, 6, 7, 8, 9, 0, 10, 11] (by decide) rfl, .inr ⟨nofun, rfl, _, rfl⟩⟩
def put3Q (st qb lb tb ob vb tk own ll p f : Nat) (n v a : Int) (e : Value) (r : Value) (o : Bun) : Prop :=
 r = .bool false ∧ o = tkU tk (cPut4 qb ll ob tb vb) (stp n) :: [bx qb tQP (ptr st), bx tb tTP (ptr tk), bx ob tLP (ptr own), bx vb tU (.int .u64 v), bx ll tLP (ptr p), quB st (ptr f) e, lkB p a (ptr own), lkB own v ptr0]
theorem put3_does {s : Bun} (p : Nat) (a : Int) (st qb lb tb ob vb tk own ll f : Nat) (n v : Int) (e : Value) :
  DoesS s fStep #[ptr tk] (tkU tk (cPut3 ll ob lb tb qb vb) n :: (putB st qb lb tb ob vb tk own v ++ [bx ll tLP (ptr p), lkB own v ptr0, quB st (ptr f) e, lkB p a ptr0])) (put3Q st qb lb tb ob vb tk own ll p f n v a e) := by
 refine ⟨[], in0, does_of S0_holds mixed (Sy.Ent.refl _) (put3n_run tk qb lb tb ob vb own st ll p f n v a e) fun ns => ?_⟩
 simp only [put3n_R, Sy.Res.holds]
 exact ⟨_, ent_pick [0, 1, 3, 4, 5, 6, 8, 9, 7] (by decide) rfl, rfl, rfl⟩
def put3sQ (st qb lb tb ob vb tk own f : Nat) (n v : Int) (e : Value) (r : Value) (o : Bun) : Prop :=
 r = .bool false ∧ o = tkU tk (cPut qb lb tb ob vb) (stp n) :: (putB st qb lb tb ob vb tk own v ++ [lkB own v ptr0, quB st (ptr f) e])
theorem put3s_does {s : Bun} {p q : Nat} {a b : Int} {u : Value} (hp : lkB p a (ptr q) ∈ s) (hq : lkB q b u ∈ s) (st qb lb tb ob vb tk own ll f : Nat) (n v : Int) (e : Value) :
  DoesS s fStep #[ptr tk] (tkU tk (cPut3 ll ob lb tb qb vb) n :: (putB st qb lb tb ob vb tk own v ++ [bx ll tLP (ptr p), lkB own v ptr0, quB st (ptr f) e])) (put3sQ st qb lb tb ob vb tk own f n v e) := by
 refine ⟨_, in2 hp hq, does_of S0_holds mixed (Sy.Ent.refl _) (put3s_run tk qb lb tb ob vb own st ll p f n v a e q b u) fun ns => ?_⟩
 simp only [put3s_R, Sy.Res.holds]
 exact ⟨_, ent_pick [2, 3, 4, 5, 6, 7, 9, 10] (by decide) rfl, rfl, rfl⟩
def lastQ (m p o : Nat) : Nat := if m = p then o else m
def put4Q (st qb lb tb ob vb tk ll f m p o' : Nat) (n v : Int) (r : Value) (o : Bun) : Prop :=
 r = .bool true ∧ ∃ nx, o = [tkB tk nx 1 (stp n) v true (.slice none 0 0), quB st (ptr f) (ptr (lastQ m p o'))]
theorem put4_does {s : Bun} {m p o : Nat} {a b c : Int} {u u' u'' : Value} (hm : lkB m a u ∈ s) (hp : lkB p b u' ∈ s) (ho : lkB o c u'' ∈ s) (st qb lb tb ob vb tk ll f : Nat) (n v : Int) :
  DoesS s fStep #[ptr tk] (tkU tk (cPut4 qb ll ob tb vb) n :: [bx qb tQP (ptr st), bx tb tTP (ptr tk), bx ob tLP (ptr o), bx vb tU (.int .u64 v), bx ll tLP (ptr p), quB st (ptr f) (ptr m)]) (put4Q st qb lb tb ob vb tk ll f m p o n v) := by
 refine ⟨_, in3 hm hp ho, does_of S0_holds mixed (Sy.Ent.refl _) (put4_run tk qb lb tb ob vb 0 st ll f n v m a u p b u' o c u'') fun ns => ?_⟩
 simp only [put4_R, Sy.Res.holds]
 refine ⟨fun h => ?_, fun h => ?_⟩
 ·have := br_eq h
  subst this
  exact ⟨_, ent_pick [3, 9] (by decide) rfl, rfl, _, by unfold lastQ; rw [if_pos rfl]⟩
 ·have : m ≠ p := fun he => br_ne h (by rw [he])
  exact ⟨_, ent_pick [3, 9] (by decide) rfl, rfl, _, by unfold lastQ; rw [if_neg this]⟩
def put5Q (st qb lb tb ob vb tk own f m p o' : Nat) (n v : Int) (r : Value) (o : Bun) : Prop :=
 r = .bool false ∧ o = tkU tk (cPut qb lb tb ob vb) (stp n) :: (putB st qb lb tb ob vb tk own v ++ [lkB own v ptr0, quB st (ptr f) (ptr (lastQ m p o'))])
theorem put5_does {s : Bun} {m p o : Nat} {a b c : Int} {u u' u'' : Value} (hm : lkB m a u ∈ s) (hp : lkB p b u' ∈ s) (ho : lkB o c u'' ∈ s) (st qb lb tb ob vb tk own ll nb f : Nat) (n v : Int) :
  DoesS s fStep #[ptr tk] (tkU tk (cPut5 qb ll nb lb tb) n :: (putB st qb lb tb ob vb tk own v ++ [bx ll tLP (ptr p), bx nb tLP (ptr o), lkB own v ptr0, quB st (ptr f) (ptr m)])) (put5Q st qb lb tb ob vb tk own f m p o n v) := by
 refine ⟨_, in3 hm hp ho, does_of S0_holds mixed (Sy.Ent.refl _) (put5_run tk qb lb tb ob vb own st ll nb f n v m a u p b u' o c u'') fun ns => ?_⟩
 simp only [put5_R, Sy.Res.holds]
 refine ⟨fun h => ?_, fun h => ?_⟩
 ·have := br_eq h
  subst this
  exact ⟨_, ent_pick [3, 4, 5, 6, 7, 8, 11, 12] (by decide) rfl, rfl, by unfold lastQ; rw [if_pos rfl]⟩
 ·have : m ≠ p := fun he => br_ne h (by rw [he])
  exact ⟨_, ent_pick [3, 4, 5, 6, 7, 8, 11, 12] (by decide) rfl, rfl, by unfold lastQ; rw [if_neg this]⟩
def take1Q (st qb lb tb tk p : Nat) (n : Int) (e : Value) (r : Value) (o : Bun) : Prop :=
 r = .bool false ∧ ∃ fb, o = tkU tk (cTake2 qb fb tb lb) (stp n) :: (takeB st qb lb tb tk ++ [bx fb tLP (ptr p), quB st (ptr p) e])
theorem take1_does {s : Bun} {p : Nat} {a : Int} {u : Value} (hp : lkB p a u ∈ s) (st qb lb tb tk : Nat) (n : Int) (e : Value) :
  DoesS s fStep #[ptr tk] (tkU tk (cTake qb tb lb) n :: (takeB st qb lb tb tk ++ [quB st (ptr p) e])) (take1Q st qb lb tb tk p n e) := by
 refine ⟨_, in1 hp, does_of S0_holds mixed (Sy.Ent.refl _) (take1_run tk qb lb tb st n e p a u) fun ns => ?_⟩
 simp only [take1_R, Sy.Res.holds]
 exact ⟨_, ent_pick [2, 3, 4, 5, 0, 6] (by decide) rfl, rfl, _, rfl⟩
def take2Q (st qb lb tb tk fb p : Nat) (n : Int) (e g : Value) (r : Value) (o : Bun) : Prop :=
 r = .bool false ∧ ∃ ll, o = tkU tk (cTake3 fb tb lb ll qb) (stp n) :: (takeB st qb lb tb tk ++ [bx fb tLP e, bx ll tLP (ptr p), quB st g (ptr p)])
theorem take2_does {s : Bun} {p : Nat} {a : Int} {u : Value} (hp : lkB p a u ∈ s) (st qb lb tb tk fb : Nat) (n : Int) (e g : Value) :
  DoesS s fStep #[ptr tk] (tkU tk (cTake2 qb fb tb lb) n :: (takeB st qb lb tb tk ++ [bx fb tLP e, quB st g (ptr p)])) (take2Q st qb lb tb tk fb p n e g) := by
 refine ⟨_, in1 hp, does_of S0_holds mixed (Sy.Ent.refl _) (take2_run tk qb lb tb st fb n e g p a u) fun ns => ?_⟩
 simp only [take2_R, Sy.Res.holds]
 exact ⟨_, ent_pick [2, 3, 4, 5, 6, 0, 7] (by decide) rfl, rfl, _, rfl⟩
def take3Q (w : Value) (st qb lb tb tk fb ll p : Nat) (n : Int) (e g h : Value) (r : Value) (o : Bun) : Prop :=
 (w = ptr0 ∧ r = .bool true ∧ ∃ nx, o = [tkB tk nx 1 (stp n) 0 false (.slice none 0 0), quB st g h]) ∨
 (w ≠ ptr0 ∧ r = .bool false ∧ ∃ nb, o = tkU tk (cTake4 lb tb fb ll qb nb) (stp n) :: (takeB st qb lb tb tk ++ [bx fb tLP (ptr p), bx ll tLP e, bx nb tLP w, quB st g h]))
theorem take3_does {s : Bun} {p : Nat} {a : Int} {w : Value} (hp : lkB p a w ∈ s) (hw : IsL s w) (st qb lb tb tk fb ll : Nat) (n : Int) (e g h : Value) :
  DoesS s fStep #[ptr tk] (tkU tk (cTake3 fb tb lb ll qb) n :: (takeB st qb lb tb tk ++ [bx fb tLP (ptr p), bx ll tLP e, quB st g h])) (take3Q w st qb lb tb tk fb ll p n e g h) := by
 rcases hw with rfl | ⟨q, b, c, rfl, hq⟩
 ·refine ⟨_, in1 hp, does_of S0_holds mixed (Sy.Ent.refl _) (take3n_run tk qb lb tb st fb ll p n a e g h) fun ns => ?_⟩
  simp only [take3n_R, Sy.Res.holds]
  exact ⟨_, ent_pick [2, 8] (by decide) rfl, .inl ⟨rfl, rfl, _, rfl⟩⟩
 ·refine ⟨_, in2 hp hq, does_of S0_holds mixed (Sy.Ent.refl _) (take3s_run tk qb lb tb st fb ll p n a e g h q b c) fun ns => ?_⟩
  simp only [take3s_R, Sy.Res.holds]
  exact ⟨_, ent_pick [3, 4, 5, 6, 7, 8, 0, 9] (by decide) rfl, .inr ⟨nofun, rfl, _, rfl⟩⟩
def take4Q (st qb lb tb tk f l x y nn : Nat) (n c : Int) (r : Value) (o : Bun) : Prop :=
 (f = l ∧ r = .bool false ∧ o = tkU tk (cTake qb tb lb) (stp n) :: (takeB st qb lb tb tk ++ [quB st (ptr x) (ptr (lastQ y l nn))])) ∨
 (f ≠ l ∧ x = f ∧ r = .bool true ∧ ∃ nx, o = [tkB tk nx 1 (stp n) c true (.slice none 0 0), quB st (ptr nn) (ptr y)]) ∨
 (f ≠ l ∧ x ≠ f ∧ r = .bool false ∧ o = tkU tk (cTake qb tb lb) (stp n) :: (takeB st qb lb tb tk ++ [quB st (ptr x) (ptr y)]))
theorem in5 {s : Bun} {a b c d e : Nat × Cont} (h1 : a ∈ s) (h2 : b ∈ s) (h3 : c ∈ s) (h4 : d ∈ s) (h5 : e ∈ s) : ∀ p ∈ [a, b, c, d, e], p ∈ s := fun p hp => by
 rcases List.mem_cons.1 hp with rfl | hp
 ·exact h1
 rcases List.mem_cons.1 hp with rfl | hp
 ·exact h2
 ·exact in3 h3 h4 h5 p hp
theorem take4_does {s : Bun} {f l nn x y : Nat} {v1 v2 c v4 v5 : Int} {u1 u2 u3 u4 u5 : Value} (h1 : lkB f v1 u1 ∈ s) (h2 : lkB l v2 u2 ∈ s) (h3 : lkB nn c u3 ∈ s) (h4 : lkB x v4 u4 ∈ s) (h5 : lkB y v5 u5 ∈ s) (st qb lb tb tk fb ll nb : Nat) (n : Int) :
  DoesS s fStep #[ptr tk] (tkU tk (cTake4 lb tb fb ll qb nb) n :: (takeB st qb lb tb tk ++ [bx fb tLP (ptr f), bx ll tLP (ptr l), bx nb tLP (ptr nn), quB st (ptr x) (ptr y)])) (take4Q st qb lb tb tk f l x y nn n c) := by
 refine ⟨_, in5 h1 h2 h3 h4 h5, does_of S0_holds mixed (Sy.Ent.refl _) (take4_run tk qb lb tb st fb ll nb n f v1 u1 l v2 u2 nn c u3 x v4 u4 y v5 u5) fun ns => ?_⟩
 simp only [take4_R, Sy.Res.holds]
 refine ⟨fun h => ⟨fun h' => ?_, fun h' => ?_⟩, fun h => ⟨fun h' => ?_, fun h' => ?_⟩⟩
 ·have e1 := br_eq h
  have e2 := br_eq h'
  exact ⟨_, ent_pick [5, 6, 7, 8, 12] (by decide) rfl, .inl ⟨e1, rfl, by unfold lastQ; rw [if_pos e2]⟩⟩
 ·have e1 := br_eq h
  have e2 : y ≠ l := fun he => br_ne h' (by rw [he])
  exact ⟨_, ent_pick [5, 6, 7, 8, 12] (by decide) rfl, .inl ⟨e1, rfl, by unfold lastQ; rw [if_neg e2]⟩⟩
 ·have e1 : f ≠ l := fun he => br_ne h (by rw [he])
  exact ⟨_, ent_pick [5, 12] (by decide) rfl, .inr (.inl ⟨e1, br_eq h', rfl, _, rfl⟩)⟩
 ·have e1 : f ≠ l := fun he => br_ne h (by rw [he])
  have e2 : x ≠ f := fun he => br_ne h' (by rw [he])
  exact ⟨_, ent_pick [5, 6, 7, 8, 12] (by decide) rfl, .inr (.inr ⟨e1, e2, rfl, rfl⟩)⟩
open Go.Proofs.YtjohknpmhlildaaDoor.Sy (Let Blk Cont Bun ptr ptr0 bx tkB tkU clo DoesB usedK ownOf rdsOf Rep does_frame does_perm does_mono does_all does_of S0_holds)
open Go.Proofs.YtjohknpmhlildaaDoor.As
def nmN (nd : List Nat) (i : Nat) : Nat := nd.getD (i - 1) 0
theorem pvN_ne {nd : List Nat} {i : Nat} (h : i ≠ 0) : pvN nd i = ptr (nmN nd i) := if_neg h
theorem nmN_app {nd : List Nat} {i : Nat} (h0 : i ≠ 0) (h : i ≤ nd.length) (n : Nat) : nmN (nd ++ [n]) i = nmN nd i := by
 unfold nmN
 rw [List.getD_eq_getElem?_getD, List.getElem?_append_left (by omega), ← List.getD_eq_getElem?_getD]
theorem nmN_new (nd : List Nat) (n : Nat) : nmN (nd ++ [n]) (nd.length + 1) = n := by
 unfold nmN
 simp
theorem nmN_inj {nd : List Nat} (h : nd.Nodup) {i j : Nat} (h0 : i ≠ 0) (hi : i ≤ nd.length) (h1 : j ≠ 0) (hj : j ≤ nd.length) (e : nmN nd i = nmN nd j) : i = j :=
 pvN_inj h hi hj (by rw [pvN_ne h0, pvN_ne h1, e])
def nodeQ (nd : List Nat) (value : List Int) (below : List Nat) (i : Nat) : Nat × Cont := lkB (nd.getD i 0) (value.getD (i + 1) 0) (pvN nd (below.getD (i + 1) 0))
def nodesQ (nd : List Nat) (value : List Int) (below : List Nat) : Bun := (List.range nd.length).map (nodeQ nd value below)
theorem link_at {nd : List Nat} {value : List Int} {below : List Nat} {i : Nat} (h0 : i ≠ 0) (h : i ≤ nd.length) : lkB (nmN nd i) (value.getD i 0) (pvN nd (below.getD i 0)) ∈ nodesQ nd value below :=
 List.mem_map.2 ⟨i - 1, List.mem_range.2 (by omega), by unfold nodeQ nmN; rw [show i - 1 + 1 = i by omega]⟩
theorem link_is {nd : List Nat} {value : List Int} {below : List Nat} {i : Nat} (h : i ≤ nd.length) : IsL (nodesQ nd value below) (pvN nd i) := by
 by_cases h0 : i = 0
 ·exact .inl (by rw [h0]; rfl)
 ·exact .inr ⟨_, _, _, pvN_ne h0, link_at h0 h⟩
def restQ (nd : List Nat) (value : List Int) (below : List Nat) (k : Nat) : Bun := ((List.range nd.length).erase (k - 1)).map (nodeQ nd value below)
theorem nodesQ_split {nd : List Nat} {value : List Int} {below : List Nat} {k : Nat} (h0 : k ≠ 0) (h : k ≤ nd.length) :
  (nodesQ nd value below).Perm ([lkB (nmN nd k) (value.getD k 0) (pvN nd (below.getD k 0))] ++ restQ nd value below k) := by
 have h1 := (List.perm_cons_erase (List.mem_range.2 (show k - 1 < nd.length by omega))).map (nodeQ nd value below)
 have e : nodeQ nd value below (k - 1) = lkB (nmN nd k) (value.getD k 0) (pvN nd (below.getD k 0)) := by
  unfold nodeQ nmN
  rw [show k - 1 + 1 = k by omega]
 rw [List.map_cons, e] at h1
 exact h1
theorem getD_app {α : Type} {l : List α} {i : Nat} (h : i < l.length) (x d : α) : (l ++ [x]).getD i d = l.getD i d := by
 rw [List.getD_eq_getElem?_getD, List.getElem?_append_left h, ← List.getD_eq_getElem?_getD]
theorem nodesQ_link {nd : List Nat} {value : List Int} {below : List Nat} (h1 : value.length = nd.length + 1) (h2 : below.length = nd.length + 1) (hb : ∀ i, below.getD i 0 ≤ nd.length) (own : Nat) (v : Int) {k : Nat} (h0 : k ≠ 0) (h : k ≤ nd.length) :
  (nodesQ (nd ++ [own]) (value ++ [v]) ((below ++ [0]).set k (nd.length + 1))).Perm ([lkB (nmN nd k) (value.getD k 0) (ptr own), lkB own v ptr0] ++ restQ nd value below k) := by
 unfold nodesQ
 rw [List.length_append, List.length_singleton, List.range_succ, List.map_append, List.map_singleton]
 have hlast : nodeQ (nd ++ [own]) (value ++ [v]) ((below ++ [0]).set k (nd.length + 1)) nd.length = lkB own v ptr0 := by
  unfold nodeQ
  have e1 : (nd ++ [own]).getD nd.length 0 = own := by simp
  have e2 : (value ++ [v]).getD (nd.length + 1) 0 = v := by rw [← h1]; simp
  have e3 : ((below ++ [0]).set k (nd.length + 1)).getD (nd.length + 1) 0 = 0 := by
   rw [List.getD_eq_getElem?_getD, List.getElem?_set, if_neg (by omega), ← h2]
   simp
  rw [e1, e2, e3]
  rfl
 have hk : nodeQ (nd ++ [own]) (value ++ [v]) ((below ++ [0]).set k (nd.length + 1)) (k - 1) = lkB (nmN nd k) (value.getD k 0) (ptr own) := by
  unfold nodeQ
  have e1 : (nd ++ [own]).getD (k - 1) 0 = nmN nd k := getD_app (by omega) _ _
  have e2 : (value ++ [v]).getD (k - 1 + 1) 0 = value.getD k 0 := by rw [show k - 1 + 1 = k by omega]; exact getD_app (by omega) _ _
  have e3 : ((below ++ [0]).set k (nd.length + 1)).getD (k - 1 + 1) 0 = nd.length + 1 := by
   rw [show k - 1 + 1 = k by omega, List.getD_eq_getElem?_getD, List.getElem?_set, if_pos rfl, if_pos (by rw [List.length_append]; omega)]
   rfl
  rw [e1, e2, e3, pvN_new]
 have hrest : ((List.range nd.length).erase (k - 1)).map (nodeQ (nd ++ [own]) (value ++ [v]) ((below ++ [0]).set k (nd.length + 1))) = restQ nd value below k := by
  unfold restQ
  apply List.map_congr_left
  intro i hi
  have hne : i ≠ k - 1 := fun he => by
   rw [he] at hi
   exact (List.Nodup.not_mem_erase List.nodup_range) hi
  have hi := List.mem_range.1 (List.mem_of_mem_erase hi)
  unfold nodeQ
  have e3 : ((below ++ [0]).set k (nd.length + 1)).getD (i + 1) 0 = below.getD (i + 1) 0 := by
   rw [List.getD_eq_getElem?_getD, List.getElem?_set, if_neg (by omega), ← List.getD_eq_getElem?_getD]
   exact getD_app (by omega) _ _
  rw [getD_app hi, getD_app (by omega), e3, pvN_app (hb _)]
 have h3 := (List.perm_cons_erase (List.mem_range.2 (show k - 1 < nd.length by omega))).map (nodeQ (nd ++ [own]) (value ++ [v]) ((below ++ [0]).set k (nd.length + 1)))
 rw [List.map_cons, hk, hrest] at h3
 rw [hlast]
 refine (List.Perm.append_right _ h3).trans ?_
 show List.Perm ([lkB (nmN nd k) (value.getD k 0) (ptr own)] ++ restQ nd value below k ++ [lkB own v ptr0]) ([lkB (nmN nd k) (value.getD k 0) (ptr own)] ++ ([lkB own v ptr0] ++ restQ nd value below k))
 rw [List.append_assoc]
 exact List.Perm.append_left _ List.perm_append_comm
inductive TQ (st : Nat) (nd : List Nat) : TaskH → Prop
 | put1 (d : TaskD) (tk : Nat) (vw : Value) (qb lb tb ob vb own : Nat) (hk : d.kind = 3) (hv : d.view = []) (hp : d.pc = 1) :
   TQ st nd ⟨d, tk, cPut qb lb tb ob vb, vw, putB st qb lb tb ob vb tk own d.v ++ [lkB own d.v ptr0]⟩
 | put2 (d : TaskD) (tk : Nat) (vw : Value) (qb lb tb ob vb own ll : Nat) (hk : d.kind = 3) (hv : d.view = []) (hp : d.pc = 2) (h0 : d.a ≠ 0) (ha : d.a ≤ nd.length) :
   TQ st nd ⟨d, tk, cPut2 ll qb lb tb ob vb, vw, putB st qb lb tb ob vb tk own d.v ++ [bx ll tLP (ptr (nmN nd d.a)), lkB own d.v ptr0]⟩
 | put3 (d : TaskD) (tk : Nat) (vw : Value) (qb lb tb ob vb own ll : Nat) (hk : d.kind = 3) (hv : d.view = []) (hp : d.pc = 3) (h0 : d.a ≠ 0) (ha : d.a ≤ nd.length) :
   TQ st nd ⟨d, tk, cPut3 ll ob lb tb qb vb, vw, putB st qb lb tb ob vb tk own d.v ++ [bx ll tLP (ptr (nmN nd d.a)), lkB own d.v ptr0]⟩
 | put4 (d : TaskD) (tk : Nat) (vw : Value) (qb tb ob vb ll : Nat) (hk : d.kind = 3) (hv : d.view = []) (hp : d.pc = 4) (h0 : d.a ≠ 0) (ha : d.a ≤ nd.length) (h1 : d.c ≠ 0) (hc : d.c ≤ nd.length) :
   TQ st nd ⟨d, tk, cPut4 qb ll ob tb vb, vw, [bx qb tQP (ptr st), bx tb tTP (ptr tk), bx ob tLP (ptr (nmN nd d.c)), bx vb tU (.int .u64 d.v), bx ll tLP (ptr (nmN nd d.a))]⟩
 | put5 (d : TaskD) (tk : Nat) (vw : Value) (qb lb tb ob vb own ll nb : Nat) (hk : d.kind = 3) (hv : d.view = []) (hp : d.pc = 5) (h0 : d.a ≠ 0) (ha : d.a ≤ nd.length) (h1 : d.b ≠ 0) (hb : d.b ≤ nd.length) :
   TQ st nd ⟨d, tk, cPut5 qb ll nb lb tb, vw, putB st qb lb tb ob vb tk own d.v ++ [bx ll tLP (ptr (nmN nd d.a)), bx nb tLP (ptr (nmN nd d.b)), lkB own d.v ptr0]⟩
 | take1 (d : TaskD) (tk : Nat) (vw : Value) (qb lb tb : Nat) (hk : d.kind = 4) (hv : d.view = []) (hp : d.pc = 1) :
   TQ st nd ⟨d, tk, cTake qb tb lb, vw, takeB st qb lb tb tk⟩
 | take2 (d : TaskD) (tk : Nat) (vw : Value) (qb lb tb fb : Nat) (hk : d.kind = 4) (hv : d.view = []) (hp : d.pc = 2) (h0 : d.a ≠ 0) (ha : d.a ≤ nd.length) :
   TQ st nd ⟨d, tk, cTake2 qb fb tb lb, vw, takeB st qb lb tb tk ++ [bx fb tLP (ptr (nmN nd d.a))]⟩
 | take3 (d : TaskD) (tk : Nat) (vw : Value) (qb lb tb fb ll : Nat) (hk : d.kind = 4) (hv : d.view = []) (hp : d.pc = 3) (h0 : d.a ≠ 0) (ha : d.a ≤ nd.length) (h1 : d.b ≠ 0) (hb : d.b ≤ nd.length) :
   TQ st nd ⟨d, tk, cTake3 fb tb lb ll qb, vw, takeB st qb lb tb tk ++ [bx fb tLP (ptr (nmN nd d.a)), bx ll tLP (ptr (nmN nd d.b))]⟩
 | take4 (d : TaskD) (tk : Nat) (vw : Value) (qb lb tb fb ll nb : Nat) (hk : d.kind = 4) (hv : d.view = []) (hp : d.pc = 4) (h0 : d.a ≠ 0) (ha : d.a ≤ nd.length) (h1 : d.b ≠ 0) (hb : d.b ≤ nd.length) (h2 : d.c ≠ 0) (hc : d.c ≤ nd.length) :
   TQ st nd ⟨d, tk, cTake4 lb tb fb ll qb nb, vw, takeB st qb lb tb tk ++ [bx fb tLP (ptr (nmN nd d.a)), bx ll tLP (ptr (nmN nd d.b)), bx nb tLP (ptr (nmN nd d.c))]⟩
 | done (d : TaskD) (tk : Nat) (nx : Value) (hk : d.kind = 3 ∨ d.kind = 4) (hv : d.view = []) (hp : d.pc = 0) : TQ st nd ⟨d, tk, nx, nil0, []⟩
theorem TQ.app {st : Nat} {nd : List Nat} {x : TaskH} (h : TQ st nd x) (n : Nat) : TQ st (nd ++ [n]) x := by
 have hl : nd.length ≤ (nd ++ [n]).length := by rw [List.length_append]; omega
 cases h with
 | put1 d tk vw qb lb tb ob vb own hk hv hp => exact .put1 d tk vw qb lb tb ob vb own hk hv hp
 | put2 d tk vw qb lb tb ob vb own ll hk hv hp h0 ha =>
   have := TQ.put2 (st := st) (nd := nd ++ [n]) d tk vw qb lb tb ob vb own ll hk hv hp h0 (Nat.le_trans ha hl)
   rwa [nmN_app h0 ha] at this
 | put3 d tk vw qb lb tb ob vb own ll hk hv hp h0 ha =>
   have := TQ.put3 (st := st) (nd := nd ++ [n]) d tk vw qb lb tb ob vb own ll hk hv hp h0 (Nat.le_trans ha hl)
   rwa [nmN_app h0 ha] at this
 | put4 d tk vw qb tb ob vb ll hk hv hp h0 ha h1 hc =>
   have := TQ.put4 (st := st) (nd := nd ++ [n]) d tk vw qb tb ob vb ll hk hv hp h0 (Nat.le_trans ha hl) h1 (Nat.le_trans hc hl)
   rwa [nmN_app h0 ha, nmN_app h1 hc] at this
 | put5 d tk vw qb lb tb ob vb own ll nb hk hv hp h0 ha h1 hb =>
   have := TQ.put5 (st := st) (nd := nd ++ [n]) d tk vw qb lb tb ob vb own ll nb hk hv hp h0 (Nat.le_trans ha hl) h1 (Nat.le_trans hb hl)
   rwa [nmN_app h0 ha, nmN_app h1 hb] at this
 | take1 d tk vw qb lb tb hk hv hp => exact .take1 d tk vw qb lb tb hk hv hp
 | take2 d tk vw qb lb tb fb hk hv hp h0 ha =>
   have := TQ.take2 (st := st) (nd := nd ++ [n]) d tk vw qb lb tb fb hk hv hp h0 (Nat.le_trans ha hl)
   rwa [nmN_app h0 ha] at this
 | take3 d tk vw qb lb tb fb ll hk hv hp h0 ha h1 hb =>
   have := TQ.take3 (st := st) (nd := nd ++ [n]) d tk vw qb lb tb fb ll hk hv hp h0 (Nat.le_trans ha hl) h1 (Nat.le_trans hb hl)
   rwa [nmN_app h0 ha, nmN_app h1 hb] at this
 | take4 d tk vw qb lb tb fb ll nb hk hv hp h0 ha h1 hb h2 hc =>
   have := TQ.take4 (st := st) (nd := nd ++ [n]) d tk vw qb lb tb fb ll nb hk hv hp h0 (Nat.le_trans ha hl) h1 (Nat.le_trans hb hl) h2 (Nat.le_trans hc hl)
   rwa [nmN_app h0 ha, nmN_app h1 hb, nmN_app h2 hc] at this
 | done d tk nx hk hv hp => exact .done d tk nx hk hv hp
structure HeapQx (w : WorldD) (st : Nat) (tks : List Nat) (b : Bun) (xs : List TaskH) (nd : List Nat) : Prop where
 thing : w.thing = 2
 d : xs.map (·.d) = w.tasks
 tk : xs.map (·.tk) = tks
 ok : ∀ x ∈ xs, TQ st nd x
 vlen : w.value.length = nd.length + 1
 blen : w.below.length = nd.length + 1
 bel : ∀ i, w.below.getD i 0 ≤ nd.length
 first : w.first ≠ 0 ∧ w.first ≤ nd.length
 last : w.last ≠ 0 ∧ w.last ≤ nd.length
 perm : b.Perm ([quB st (ptr (nmN nd w.first)) (ptr (nmN nd w.last))] ++ (allH xs ++ ([] ++ nodesQ nd w.value w.below)))
def HeapQ (w : WorldD) (st : Nat) (tks : List Nat) (b : Bun) : Prop := ∃ xs nd, HeapQx w st tks b xs nd
theorem HeapQx.nodup {w : WorldD} {st : Nat} {tks : List Nat} {b : Bun} {xs : List TaskH} {nd : List Nat} (h : HeapQx w st tks b xs nd) (hn : (b.map (·.1)).Nodup) : nd.Nodup := by
 have := (h.perm.map (·.1)).nodup_iff.1 hn
 rw [List.map_append, List.map_append, List.map_append] at this
 have h2 := (List.nodup_append.1 (List.nodup_append.1 (List.nodup_append.1 this).2.1).2.1).2.1
 have e : (nodesQ nd w.value w.below).map (·.1) = nd := by
  unfold nodesQ
  rw [List.map_map]
  apply List.ext_getElem
  ·simp
  ·intro i h1 h2
   simp at h1
   simp [h1, nodeQ]
 rw [e] at h2
 exact h2
theorem one_put {w : WorldD} {t : TaskD} (h : t.kind = 3) : oneW w t = putW w t := by unfold oneW; rw [if_neg (by omega), if_pos h]
theorem one_take {w : WorldD} {t : TaskD} (h : t.kind = 4) : oneW w t = takeW w t := by unfold oneW; rw [if_neg (by omega), if_neg (by omega), if_pos h]
theorem HeapQx.set {w : WorldD} {st : Nat} {tks : List Nat} {b : Bun} {xs : List TaskH} {nd : List Nat} (h : HeapQx w st tks b xs nd) {n : Nat} {x y : TaskH} (hx : xs[n]? = some x) (ht : y.tk = x.tk) (hy : TQ st nd y) {i j : Nat} (hi : i ≠ 0 ∧ i ≤ nd.length) (hj : j ≠ 0 ∧ j ≤ nd.length) {o : Bun}
  (ho : o.Perm ([quB st (ptr (nmN nd i)) (ptr (nmN nd j))] ++ (allH (xs.set n y) ++ ([] ++ nodesQ nd w.value w.below)))) : HeapQ { w with first := i, last := j, tasks := w.tasks.set n y.d } st tks o :=
 ⟨xs.set n y, nd, h.thing, set_d h.d n y, by rw [set_tk hx ht]; exact h.tk, all_set h.ok hy, h.vlen, h.blen, h.bel, hi, hj, ho⟩
open Go.Proofs.YtjohknpmhlildaaDoor.Sy (Let Blk Cont Bun ptr ptr0 bx tkB tkU clo DoesB usedK ownOf rdsOf Rep does_frame does_perm does_mono does_all does_of S0_holds)
open Go.Proofs.YtjohknpmhlildaaDoor.As
theorem all_cell {x : TaskH} (h : x.d.pc ≠ 0) : x.all = tkU x.tk x.nx (x.d.steps : Int) :: x.bl := by
 unfold TaskH.all
 rw [TaskH.cell_on h]
theorem last_nm {nd : List Nat} (h : nd.Nodup) {i j k : Nat} (hi : i ≠ 0 ∧ i ≤ nd.length) (hj : j ≠ 0 ∧ j ≤ nd.length) : lastQ (nmN nd i) (nmN nd j) (nmN nd k) = nmN nd (if i = j then k else i) := by
 unfold lastQ
 by_cases e : i = j
 ·rw [if_pos e, if_pos (by rw [e])]
 ·rw [if_neg e, if_neg (fun he => e (nmN_inj h hi.1 hi.2 hj.1 hj.2 he))]
theorem last_w (w : WorldD) (a c : Nat) : (if w.last = a then { w with last := c } else w) = { w with last := if w.last = a then c else w.last } := by
 split <;> rfl
theorem last_ok {nd : List Nat} {i j k : Nat} (hi : i ≠ 0 ∧ i ≤ nd.length) (hk : k ≠ 0 ∧ k ≤ nd.length) : (if i = j then k else i) ≠ 0 ∧ (if i = j then k else i) ≤ nd.length := by
 split
 ·exact hk
 ·exact hi
theorem step_queue {w : WorldD} {st : Nat} {tks : List Nat} {b : Bun} (hH : HeapQ w st tks b) {n : Nat} {t : TaskD} {tk : Nat} (ht : w.tasks[n]? = some t) (hp : t.pc ≠ 0) (hs : t.steps < 4611686018427387904) (htk : tks[n]? = some tk) :
  DoesB Tryd.prog fStep #[ptr tk] [] b (stepQ (fun w' o => HeapQ w' st tks o) w n) := by
 refine does_nodup fun hnd => ?_
 obtain ⟨xs, nd, h⟩ := hH
 have hnd := h.nodup hnd
 obtain ⟨x, hx, rfl⟩ := at_d h.d ht
 have hok := h.ok x (List.mem_of_getElem? hx)
 have htk' : x.tk = tk := by
  have := h.tk
  subst this
  rw [List.getElem?_map, hx] at htk
  injection htk
 subst htk'
 have hall := all_cell hp
 cases hok with
 | put1 d tk vw qb lb tb ob vb own hk hv hpc =>
   dsimp only at ht hp hs hx ⊢
   refine step_glueS hx h.perm (by rw [hall]; exact put1_does (link_at h.last.1 h.last.2) st qb lb tb ob vb tk own (nmN nd w.first) d.steps d.v) ?_
   rintro r o ⟨rfl, ll, rfl⟩
   obtain ⟨y, hy⟩ : ∃ y : TaskH, y = ⟨{ d with steps := d.steps + 1, a := w.last, pc := 2 }, tk, cPut2 ll qb lb tb ob vb, vw, putB st qb lb tb ob vb tk own d.v ++ [bx ll tLP (ptr (nmN nd w.last)), lkB own d.v ptr0]⟩ := ⟨_, rfl⟩
   refine fin y [quB st (ptr (nmN nd w.first)) (ptr (nmN nd w.last))] [] ht hp (w' := w) ?_ (by subst hy; rfl) ?_ (h.set hx (by subst hy; rfl) (by subst hy; exact .put2 _ tk vw qb lb tb ob vb own ll hk hv rfl h.last.1 h.last.2) h.first h.last (List.Perm.refl _))
   ·subst hy
    refine (one_put (w := w) (t := { d with steps := d.steps + 1 }) hk).trans ?_
    unfold putW
    rw [if_pos hpc]
   ·subst hy
    rw [all_on _ (by dsimp only; decide) hs rfl]
    rfl
 | put2 d tk vw qb lb tb ob vb own ll hk hv hpc h0 ha =>
   dsimp only at ht hp hs hx ⊢
   refine step_glueS hx h.perm (by rw [hall]; exact put2_does (link_at h0 ha) (link_is (h.bel d.a)) st qb lb tb ob vb tk own ll (nmN nd w.first) d.steps d.v (ptr (nmN nd w.last))) ?_
   rintro r o (⟨e, rfl, rfl⟩ | ⟨e, rfl, nb, rfl⟩)
   ·have e : w.below.getD d.a 0 = 0 := by
     by_cases hz : w.below.getD d.a 0 = 0
     ·exact hz
     ·rw [pvN_ne hz] at e; cases e
    obtain ⟨y, hy⟩ : ∃ y : TaskH, y = ⟨{ d with steps := d.steps + 1, b := w.below.getD d.a 0, pc := 3 }, tk, cPut3 ll ob lb tb qb vb, vw, putB st qb lb tb ob vb tk own d.v ++ [bx ll tLP (ptr (nmN nd d.a)), lkB own d.v ptr0]⟩ := ⟨_, rfl⟩
    refine fin y [quB st (ptr (nmN nd w.first)) (ptr (nmN nd w.last))] [] ht hp (w' := w) ?_ (by subst hy; rfl) ?_ (h.set hx (by subst hy; rfl) (by subst hy; exact .put3 _ tk vw qb lb tb ob vb own ll hk hv rfl h0 ha) h.first h.last (List.Perm.refl _))
    ·subst hy
     refine (one_put (w := w) (t := { d with steps := d.steps + 1 }) hk).trans ?_
     unfold putW
     rw [if_neg (by show ¬ d.pc = 1; omega), if_pos hpc, if_pos e]
    ·subst hy
     rw [all_on _ (by dsimp only; decide) hs rfl]
     rfl
   ·have e : w.below.getD d.a 0 ≠ 0 := fun hz => e (by rw [hz]; rfl)
    rw [pvN_ne e]
    obtain ⟨y, hy⟩ : ∃ y : TaskH, y = ⟨{ d with steps := d.steps + 1, b := w.below.getD d.a 0, pc := 5 }, tk, cPut5 qb ll nb lb tb, vw, putB st qb lb tb ob vb tk own d.v ++ [bx ll tLP (ptr (nmN nd d.a)), bx nb tLP (ptr (nmN nd (w.below.getD d.a 0))), lkB own d.v ptr0]⟩ := ⟨_, rfl⟩
    refine fin y [quB st (ptr (nmN nd w.first)) (ptr (nmN nd w.last))] [] ht hp (w' := w) ?_ (by subst hy; rfl) ?_ (h.set hx (by subst hy; rfl) (by subst hy; exact .put5 _ tk vw qb lb tb ob vb own ll nb hk hv rfl h0 ha e (h.bel d.a)) h.first h.last (List.Perm.refl _))
    ·subst hy
     refine (one_put (w := w) (t := { d with steps := d.steps + 1 }) hk).trans ?_
     unfold putW
     rw [if_neg (by show ¬ d.pc = 1; omega), if_pos hpc, if_neg e]
    ·subst hy
     rw [all_on _ (by dsimp only; decide) hs rfl]
     rfl
 | put3 d tk vw qb lb tb ob vb own ll hk hv hpc h0 ha =>
   dsimp only at ht hp hs hx ⊢
   by_cases e : w.below.getD d.a 0 = 0
   ·have hsp := nodesQ_split (value := w.value) (below := w.below) h0 ha
    rw [e] at hsp
    have hb : b.Perm ([quB st (ptr (nmN nd w.first)) (ptr (nmN nd w.last))] ++ (allH xs ++ ([lkB (nmN nd d.a) (w.value.getD d.a 0) ptr0] ++ restQ nd w.value w.below d.a))) := h.perm.trans (List.Perm.append_left _ (List.Perm.append_left _ hsp))
    refine step_glueS hx hb (by rw [hall]; exact put3_does (nmN nd d.a) (w.value.getD d.a 0) st qb lb tb ob vb tk own ll (nmN nd w.first) d.steps d.v (ptr (nmN nd w.last))) ?_
    rintro r o ⟨rfl, rfl⟩
    have hl : (nd ++ [own]).length = nd.length + 1 := by simp
    have hnew := nmN_new nd own
    obtain ⟨y, hy⟩ : ∃ y : TaskH, y = ⟨{ d with steps := d.steps + 1, c := w.value.length, pc := 4 }, tk, cPut4 qb ll ob tb vb, vw, [bx qb tQP (ptr st), bx tb tTP (ptr tk), bx ob tLP (ptr own), bx vb tU (.int .u64 d.v), bx ll tLP (ptr (nmN nd d.a))]⟩ := ⟨_, rfl⟩
    refine fin y [quB st (ptr (nmN nd w.first)) (ptr (nmN nd w.last))] [lkB (nmN nd d.a) (w.value.getD d.a 0) (ptr own), lkB own d.v ptr0] ht hp (w' := { w.node d.v 0 with below := (w.below ++ [0]).set d.a w.value.length }) ?_ (by subst hy; rfl) ?_ ?_
    ·subst hy
     refine (one_put (w := w) (t := { d with steps := d.steps + 1 }) hk).trans ?_
     unfold putW
     rw [if_neg (by show ¬ d.pc = 1; omega), if_neg (by show ¬ d.pc = 2; omega), if_pos hpc, if_pos e]
    ·subst hy
     rw [all_on _ (by show (4 : Nat) ≠ 0; decide) hs rfl]
     rfl
    ·refine ⟨xs.set n y, nd ++ [own], h.thing, set_d h.d n y, by rw [set_tk hx (by subst hy; rfl)]; exact h.tk, all_set (fun x hx => (h.ok x hx).app own) ?_, by show (w.value ++ [d.v]).length = _; rw [List.length_append, hl, h.vlen]; rfl, by show ((w.below ++ [0]).set d.a w.value.length).length = _; rw [List.length_set, List.length_append, hl, h.blen]; rfl, fun i => ?_, ⟨h.first.1, by rw [hl]; have := h.first.2; show w.first ≤ _; omega⟩, ⟨h.last.1, by rw [hl]; have := h.last.2; show w.last ≤ _; omega⟩, ?_⟩
     ·subst hy
      have := TQ.put4 (st := st) (nd := nd ++ [own]) { d with steps := d.steps + 1, c := w.value.length, pc := 4 } tk vw qb tb ob vb ll hk hv rfl h0 (by rw [hl]; show d.a ≤ _; omega) (by show w.value.length ≠ 0; rw [h.vlen]; omega) (by show w.value.length ≤ _; rw [hl, h.vlen]; exact Nat.le_refl _)
      dsimp only at this
      rw [nmN_app h0 ha, h.vlen, hnew] at this
      rw [h.vlen]
      exact this
     ·rw [hl]
      show ((w.below ++ [0]).set d.a w.value.length).getD i 0 ≤ _
      rw [List.getD_eq_getElem?_getD, List.getElem?_set]
      split
      ·split
       ·rw [h.vlen]; exact Nat.le_refl _
       ·exact Nat.zero_le _
      ·rw [List.getElem?_append]
       split
       ·rw [← List.getD_eq_getElem?_getD]
        have := h.bel i
        omega
       ·cases i - w.below.length with
        | zero => exact Nat.zero_le _
        | succ m => exact Nat.zero_le _
     ·show List.Perm _ ([quB st (ptr (nmN (nd ++ [own]) w.first)) (ptr (nmN (nd ++ [own]) w.last))] ++ (allH (xs.set n y) ++ ([] ++ nodesQ (nd ++ [own]) (w.value ++ [d.v]) ((w.below ++ [0]).set d.a w.value.length))))
      rw [nmN_app h.first.1 h.first.2, nmN_app h.last.1 h.last.2, h.vlen]
      exact List.Perm.append_left _ (List.Perm.append_left _ (nodesQ_link h.vlen h.blen h.bel own d.v h0 ha).symm)
   ·have hq := link_at (value := w.value) (below := w.below) h0 ha
    rw [pvN_ne e] at hq
    refine step_glueS hx h.perm (by rw [hall]; exact put3s_does hq (link_at e (h.bel d.a)) st qb lb tb ob vb tk own ll (nmN nd w.first) d.steps d.v (ptr (nmN nd w.last))) ?_
    rintro r o ⟨rfl, rfl⟩
    obtain ⟨y, hy⟩ : ∃ y : TaskH, y = ⟨{ d with steps := d.steps + 1, pc := 1 }, tk, cPut qb lb tb ob vb, vw, putB st qb lb tb ob vb tk own d.v ++ [lkB own d.v ptr0]⟩ := ⟨_, rfl⟩
    refine fin y [quB st (ptr (nmN nd w.first)) (ptr (nmN nd w.last))] [] ht hp (w' := w) ?_ (by subst hy; rfl) ?_ (h.set hx (by subst hy; rfl) (by subst hy; exact .put1 _ tk vw qb lb tb ob vb own hk hv rfl) h.first h.last (List.Perm.refl _))
    ·subst hy
     refine (one_put (w := w) (t := { d with steps := d.steps + 1 }) hk).trans ?_
     unfold putW
     rw [if_neg (by show ¬ d.pc = 1; omega), if_neg (by show ¬ d.pc = 2; omega), if_pos hpc, if_neg e]
    ·subst hy
     rw [all_on _ (by dsimp only; decide) hs rfl]
     rfl
 | put4 d tk vw qb tb ob vb ll hk hv hpc h0 ha h1 hc =>
   dsimp only at ht hp hs hx ⊢
   refine step_glueS hx h.perm (by rw [hall]; exact put4_does (link_at h.last.1 h.last.2) (link_at h0 ha) (link_at h1 hc) st qb 0 tb ob vb tk ll (nmN nd w.first) d.steps d.v) ?_
   rintro r o ⟨rfl, nx, rfl⟩
   rw [last_nm hnd h.last ⟨h0, ha⟩]
   obtain ⟨y, hy⟩ : ∃ y : TaskH, y = ⟨{ d with steps := d.steps + 1, pc := 0, out := d.v, ok := true }, tk, nx, nil0, []⟩ := ⟨_, rfl⟩
   refine fin y [quB st (ptr (nmN nd w.first)) (ptr (nmN nd (if w.last = d.a then d.c else w.last)))] [] ht hp (w' := { w with last := if w.last = d.a then d.c else w.last }) ?_ (by subst hy; rfl) ?_ (h.set hx (by subst hy; rfl) (by subst hy; exact .done _ tk _ (.inl hk) hv rfl) h.first (last_ok h.last ⟨h1, hc⟩) (List.Perm.refl _))
   ·subst hy
    refine (one_put (w := w) (t := { d with steps := d.steps + 1 }) hk).trans ?_
    unfold putW
    rw [if_neg (by show ¬ d.pc = 1; omega), if_neg (by show ¬ d.pc = 2; omega), if_neg (by show ¬ d.pc = 3; omega), if_pos hpc, last_w]
    rfl
   ·subst hy
    rw [all_end _ rfl hs rfl]
    rfl
 | put5 d tk vw qb lb tb ob vb own ll nb hk hv hpc h0 ha h1 hb =>
   dsimp only at ht hp hs hx ⊢
   refine step_glueS hx h.perm (by rw [hall]; exact put5_does (link_at h.last.1 h.last.2) (link_at h0 ha) (link_at h1 hb) st qb lb tb ob vb tk own ll nb (nmN nd w.first) d.steps d.v) ?_
   rintro r o ⟨rfl, rfl⟩
   rw [last_nm hnd h.last ⟨h0, ha⟩]
   obtain ⟨y, hy⟩ : ∃ y : TaskH, y = ⟨{ d with steps := d.steps + 1, pc := 1 }, tk, cPut qb lb tb ob vb, vw, putB st qb lb tb ob vb tk own d.v ++ [lkB own d.v ptr0]⟩ := ⟨_, rfl⟩
   refine fin y [quB st (ptr (nmN nd w.first)) (ptr (nmN nd (if w.last = d.a then d.b else w.last)))] [] ht hp (w' := { w with last := if w.last = d.a then d.b else w.last }) ?_ (by subst hy; rfl) ?_ (h.set hx (by subst hy; rfl) (by subst hy; exact .put1 _ tk vw qb lb tb ob vb own hk hv rfl) h.first (last_ok h.last ⟨h1, hb⟩) (List.Perm.refl _))
   ·subst hy
    refine (one_put (w := w) (t := { d with steps := d.steps + 1 }) hk).trans ?_
    unfold putW
    rw [if_neg (by show ¬ d.pc = 1; omega), if_neg (by show ¬ d.pc = 2; omega), if_neg (by show ¬ d.pc = 3; omega), if_neg (by show ¬ d.pc = 4; omega), last_w]
   ·subst hy
    rw [all_on _ (by dsimp only; decide) hs rfl]
    rfl
 | take1 d tk vw qb lb tb hk hv hpc =>
   dsimp only at ht hp hs hx ⊢
   refine step_glueS hx h.perm (by rw [hall]; exact take1_does (link_at h.first.1 h.first.2) st qb lb tb tk d.steps (ptr (nmN nd w.last))) ?_
   rintro r o ⟨rfl, fb, rfl⟩
   obtain ⟨y, hy⟩ : ∃ y : TaskH, y = ⟨{ d with steps := d.steps + 1, a := w.first, pc := 2 }, tk, cTake2 qb fb tb lb, vw, takeB st qb lb tb tk ++ [bx fb tLP (ptr (nmN nd w.first))]⟩ := ⟨_, rfl⟩
   refine fin y [quB st (ptr (nmN nd w.first)) (ptr (nmN nd w.last))] [] ht hp (w' := w) ?_ (by subst hy; rfl) ?_ (h.set hx (by subst hy; rfl) (by subst hy; exact .take2 _ tk vw qb lb tb fb hk hv rfl h.first.1 h.first.2) h.first h.last (List.Perm.refl _))
   ·subst hy
    refine (one_take (w := w) (t := { d with steps := d.steps + 1 }) hk).trans ?_
    unfold takeW
    rw [if_pos hpc]
   ·subst hy
    rw [all_on _ (by dsimp only; decide) hs rfl]
    rfl
 | take2 d tk vw qb lb tb fb hk hv hpc h0 ha =>
   dsimp only at ht hp hs hx ⊢
   refine step_glueS hx h.perm (by rw [hall]; exact take2_does (link_at h.last.1 h.last.2) st qb lb tb tk fb d.steps (ptr (nmN nd d.a)) (ptr (nmN nd w.first))) ?_
   rintro r o ⟨rfl, ll, rfl⟩
   obtain ⟨y, hy⟩ : ∃ y : TaskH, y = ⟨{ d with steps := d.steps + 1, b := w.last, pc := 3 }, tk, cTake3 fb tb lb ll qb, vw, takeB st qb lb tb tk ++ [bx fb tLP (ptr (nmN nd d.a)), bx ll tLP (ptr (nmN nd w.last))]⟩ := ⟨_, rfl⟩
   refine fin y [quB st (ptr (nmN nd w.first)) (ptr (nmN nd w.last))] [] ht hp (w' := w) ?_ (by subst hy; rfl) ?_ (h.set hx (by subst hy; rfl) (by subst hy; exact .take3 _ tk vw qb lb tb fb ll hk hv rfl h0 ha h.last.1 h.last.2) h.first h.last (List.Perm.refl _))
   ·subst hy
    refine (one_take (w := w) (t := { d with steps := d.steps + 1 }) hk).trans ?_
    unfold takeW
    rw [if_neg (by show ¬ d.pc = 1; omega), if_pos hpc]
   ·subst hy
    rw [all_on _ (by dsimp only; decide) hs rfl]
    rfl
 | take3 d tk vw qb lb tb fb ll hk hv hpc h0 ha h1 hb =>
   dsimp only at ht hp hs hx ⊢
   refine step_glueS hx h.perm (by rw [hall]; exact take3_does (link_at h0 ha) (link_is (h.bel d.a)) st qb lb tb tk fb ll d.steps (ptr (nmN nd d.b)) (ptr (nmN nd w.first)) (ptr (nmN nd w.last))) ?_
   rintro r o (⟨e, rfl, nx, rfl⟩ | ⟨e, rfl, nb, rfl⟩)
   ·have e : w.below.getD d.a 0 = 0 := by
     by_cases hz : w.below.getD d.a 0 = 0
     ·exact hz
     ·rw [pvN_ne hz] at e; cases e
    obtain ⟨y, hy⟩ : ∃ y : TaskH, y = ⟨{ d with steps := d.steps + 1, c := 0, pc := 0, out := 0, ok := false }, tk, nx, nil0, []⟩ := ⟨_, rfl⟩
    refine fin y [quB st (ptr (nmN nd w.first)) (ptr (nmN nd w.last))] [] ht hp (w' := w) ?_ (by subst hy; rfl) ?_ (h.set hx (by subst hy; rfl) (by subst hy; exact .done _ tk _ (.inr hk) hv rfl) h.first h.last (List.Perm.refl _))
    ·subst hy
     refine (one_take (w := w) (t := { d with steps := d.steps + 1 }) hk).trans ?_
     unfold takeW
     rw [if_neg (by show ¬ d.pc = 1; omega), if_neg (by show ¬ d.pc = 2; omega), if_pos hpc, if_pos e]
     rfl
    ·subst hy
     rw [all_end _ rfl hs rfl]
     rfl
   ·have e : w.below.getD d.a 0 ≠ 0 := fun hz => e (by rw [hz]; rfl)
    rw [pvN_ne e]
    obtain ⟨y, hy⟩ : ∃ y : TaskH, y = ⟨{ d with steps := d.steps + 1, c := w.below.getD d.a 0, pc := 4 }, tk, cTake4 lb tb fb ll qb nb, vw, takeB st qb lb tb tk ++ [bx fb tLP (ptr (nmN nd d.a)), bx ll tLP (ptr (nmN nd d.b)), bx nb tLP (ptr (nmN nd (w.below.getD d.a 0)))]⟩ := ⟨_, rfl⟩
    refine fin y [quB st (ptr (nmN nd w.first)) (ptr (nmN nd w.last))] [] ht hp (w' := w) ?_ (by subst hy; rfl) ?_ (h.set hx (by subst hy; rfl) (by subst hy; exact .take4 _ tk vw qb lb tb fb ll nb hk hv rfl h0 ha h1 hb e (h.bel d.a)) h.first h.last (List.Perm.refl _))
    ·subst hy
     refine (one_take (w := w) (t := { d with steps := d.steps + 1 }) hk).trans ?_
     unfold takeW
     rw [if_neg (by show ¬ d.pc = 1; omega), if_neg (by show ¬ d.pc = 2; omega), if_pos hpc, if_neg e]
    ·subst hy
     rw [all_on _ (by dsimp only; decide) hs rfl]
     rfl
 | take4 d tk vw qb lb tb fb ll nb hk hv hpc h0 ha h1 hb h2 hc =>
   dsimp only at ht hp hs hx ⊢
   refine step_glueS hx h.perm (by rw [hall]; exact take4_does (link_at h0 ha) (link_at h1 hb) (link_at h2 hc) (link_at h.first.1 h.first.2) (link_at h.last.1 h.last.2) st qb lb tb tk fb ll nb d.steps) ?_
   rintro r o (⟨e, rfl, rfl⟩ | ⟨e, e2, rfl, nx, rfl⟩ | ⟨e, e2, rfl, rfl⟩)
   ·have e := nmN_inj hnd h0 ha h1 hb e
    rw [last_nm hnd h.last ⟨h1, hb⟩]
    obtain ⟨y, hy⟩ : ∃ y : TaskH, y = ⟨{ d with steps := d.steps + 1, pc := 1 }, tk, cTake qb tb lb, vw, takeB st qb lb tb tk⟩ := ⟨_, rfl⟩
    refine fin y [quB st (ptr (nmN nd w.first)) (ptr (nmN nd (if w.last = d.b then d.c else w.last)))] [] ht hp (w' := { w with last := if w.last = d.b then d.c else w.last }) ?_ (by subst hy; rfl) ?_ (h.set hx (by subst hy; rfl) (by subst hy; exact .take1 _ tk vw qb lb tb hk hv rfl) h.first (last_ok h.last ⟨h2, hc⟩) (List.Perm.refl _))
    ·subst hy
     refine (one_take (w := w) (t := { d with steps := d.steps + 1 }) hk).trans ?_
     unfold takeW
     rw [if_neg (by show ¬ d.pc = 1; omega), if_neg (by show ¬ d.pc = 2; omega), if_neg (by show ¬ d.pc = 3; omega), if_pos e, last_w]
    ·subst hy
     rw [all_on _ (by dsimp only; decide) hs rfl]
     rfl
   ·have e : d.a ≠ d.b := fun he => e (by rw [he])
    have e2 := nmN_inj hnd h.first.1 h.first.2 h0 ha e2
    obtain ⟨y, hy⟩ : ∃ y : TaskH, y = ⟨{ d with steps := d.steps + 1, pc := 0, out := w.value.getD d.c 0, ok := true }, tk, nx, nil0, []⟩ := ⟨_, rfl⟩
    refine fin y [quB st (ptr (nmN nd d.c)) (ptr (nmN nd w.last))] [] ht hp (w' := { w with first := d.c }) ?_ (by subst hy; rfl) ?_ (h.set hx (by subst hy; rfl) (by subst hy; exact .done _ tk _ (.inr hk) hv rfl) ⟨h2, hc⟩ h.last (List.Perm.refl _))
    ·subst hy
     refine (one_take (w := w) (t := { d with steps := d.steps + 1 }) hk).trans ?_
     unfold takeW
     rw [if_neg (by show ¬ d.pc = 1; omega), if_neg (by show ¬ d.pc = 2; omega), if_neg (by show ¬ d.pc = 3; omega), if_neg e, if_pos e2]
     rfl
    ·subst hy
     rw [all_end _ rfl hs rfl]
     rfl
   ·have e : d.a ≠ d.b := fun he => e (by rw [he])
    have e2 : w.first ≠ d.a := fun he => e2 (by rw [he])
    obtain ⟨y, hy⟩ : ∃ y : TaskH, y = ⟨{ d with steps := d.steps + 1, pc := 1 }, tk, cTake qb tb lb, vw, takeB st qb lb tb tk⟩ := ⟨_, rfl⟩
    refine fin y [quB st (ptr (nmN nd w.first)) (ptr (nmN nd w.last))] [] ht hp (w' := w) ?_ (by subst hy; rfl) ?_ (h.set hx (by subst hy; rfl) (by subst hy; exact .take1 _ tk vw qb lb tb hk hv rfl) h.first h.last (List.Perm.refl _))
    ·subst hy
     refine (one_take (w := w) (t := { d with steps := d.steps + 1 }) hk).trans ?_
     unfold takeW
     rw [if_neg (by show ¬ d.pc = 1; omega), if_neg (by show ¬ d.pc = 2; omega), if_neg (by show ¬ d.pc = 3; omega), if_neg e, if_neg e2]
    ·subst hy
     rw [all_on _ (by dsimp only; decide) hs rfl]
     rfl
 | done d tk nx hk hv hpc => exact absurd hpc hp
end Go.Proofs.YtjohknpmhlildaaDoor.At
--@way 3
--@tail 0
namespace Go.Proofs.YtjohknpmhlildaaDoor.At
open Sy.O (fork nil step steps)
open Sy.Res (need hyp br leaf both)
open Go Go.RowKit
open Go.Proofs.YtjohknpmhlildaaDoor.Sy (Let Blk ptr bx tkB tkU clo)
abbrev tOP : TypeId := 29
abbrev tOn : TypeId := 145
abbrev cDo (ob vb tb : Nat) : Value := clo 78 #[ptr ob, ptr vb, ptr tb]
abbrev cDo2 (tb ob : Nat) : Value := clo 80 #[ptr tb, ptr ob]
def do1n_o : Sy.O := (steps [0, 0, 0, 0, 0, 0, 0, 0, 0, 0, 0, 0, 1, 0, 2, 2, 4, 0, 0, 0, 0, 3, 0, 0, 2, 0, 0, 0, 0, 0, 0, 0, 3, 0, 1, 2, 3, 8, 0, 0, 0, 0, 0] nil)
noncomputable def do1n_R (tk ob vb tb st : Nat) (steps v : Int) (ns : Nat → Sy.Let) : Sy.Res (Value × List Blk) :=
 let z0 := some (Addr.mk vb 0 none)
 leaf (Value.bool true, [Blk.mk tk (.obj (.cells (Array.mk [Value.func (Fn.func 78) (Array.mk []) (Array.mk [.pointer (some ⟨ob, 0, none⟩), .pointer z0, .pointer (some ⟨tb, 0, none⟩)]), .int .u32 1, .int .i64 (Ex.wrapQ .i64 (Ex.addQ steps 1)), .int .u64 v, .bool true, .slice none 0 0]) 100)) true, Blk.mk ob (.obj (.cells (Array.mk [.pointer (some ⟨st, 0, none⟩)]) 29)) true, Blk.mk vb (.obj (.cells (Array.mk [.int .u64 v]) 36)) true, Blk.mk tb (.obj (.cells (Array.mk [.pointer (some ⟨tk, 0, none⟩)]) 48)) true, Blk.mk st (.obj (.cells (Array.mk [.pointer z0]) 145)) true])
theorem do1n_run (tk ob vb tb st : Nat) (steps v : Int) : Sy.Ran (Sy.inB Tryd.prog Sy.S0 50 fStep #[ptr tk] ([tkU tk (cDo ob vb tb) steps, bx ob tOP (ptr st), bx vb tU (.int .u64 v), bx tb tTP (ptr tk), bx st tOn Sy.ptr0].map Sy.ownOf)) do1n_o (do1n_R tk ob vb tb st steps v) := ⟨fun _ => by kernel_rfl, fun _ => by kernel_rfl⟩
def do1s_o : Sy.O := (steps [1, 0, 0, 1, 0, 1, 0, 0, 0, 1, 0, 0, 2, 0, 3, 3, 5, 0, 0, 0, 4, 0, 1, 0, 0, 1] nil)
noncomputable def do1s_R (tk ob vb tb st : Nat) (steps v : Int) (p : Nat) (a : Int) (ns : Nat → Sy.Let) : Sy.Res (Value × List Blk) :=
 leaf (Value.bool false, [Blk.mk p (.obj (.cells (Array.mk [.int .u64 a]) 36)) false, Blk.mk tk (.obj (.cells (Array.mk [Value.func (Fn.func 80) (Array.mk []) (Array.mk [.pointer (some ⟨tb, 0, none⟩), .pointer (some ⟨ob, 0, none⟩)]), .int .u32 0, .int .i64 (Ex.wrapQ .i64 (Ex.addQ steps 1)), .int .u64 0, .bool false, .slice none 0 0]) 100)) true, Blk.mk ob (.obj (.cells (Array.mk [.pointer (some ⟨st, 0, none⟩)]) 29)) true, Blk.mk vb (.obj (.cells (Array.mk [.int .u64 v]) 36)) true, Blk.mk tb (.obj (.cells (Array.mk [.pointer (some ⟨tk, 0, none⟩)]) 48)) true, Blk.mk st (.obj (.cells (Array.mk [.pointer (some ⟨p, 0, none⟩)]) 145)) true])
theorem do1s_run (tk ob vb tb st : Nat) (steps v : Int) (p : Nat) (a : Int) : Sy.Ran (Sy.inB Tryd.prog Sy.S0 50 fStep #[ptr tk] (Sy.rdsOf [bx p tU (.int .u64 a)] ++ [tkU tk (cDo ob vb tb) steps, bx ob tOP (ptr st), bx vb tU (.int .u64 v), bx tb tTP (ptr tk), bx st tOn (ptr p)].map Sy.ownOf)) do1s_o (do1s_R tk ob vb tb st steps v p a) := ⟨fun _ => by kernel_rfl, fun _ => by kernel_rfl⟩
def do2_o : Sy.O := (steps [1, 0, 0, 1, 0, 1, 0, 0, 0, 1, 0, 3, 1, 0, 2, 0, 2, 3, 10] (fork (steps [0, 4, 0, 1, 0, 0, 1, 2, 3, 4, 5, 10, 5, 0, 0, 1, 0, 0, 1, 2, 3, 4, 5, 5, 10, 0, 0, 0, 1, 0, 0, 1, 2, 3, 4, 5, 10, 1, 0, 0, 1, 0, 0, 3, 0, 1, 2, 3, 8, 0, 1, 0, 0, 1] nil) (steps [5, 0, 0, 1, 0, 0, 1, 2, 3, 4, 5, 5, 10] (fork (steps [0, 4, 0, 1, 0, 0, 1, 2, 3, 4, 5, 10, 0, 0, 0, 1, 0, 0, 1, 2, 3, 4, 5, 10, 1, 0, 0, 1, 0, 0, 3, 0, 1, 2, 3, 8, 0, 1, 0, 0, 1] nil) (steps [0, 0, 0, 1, 0, 0, 1, 2, 3, 4, 5, 10, 0, 4, 0, 1, 0, 0, 1, 2, 3, 4, 5, 10, 1, 0, 0, 1, 0, 0, 3, 0, 1, 2, 3, 8, 0, 1, 0, 0, 1] nil)))))
noncomputable def do2_R (tk ob vb tb st : Nat) (steps v : Int) (p : Nat) (a : Int) (ns : Nat → Sy.Let) : Sy.Res (Value × List Blk) :=
 let z0 := leaf (Value.bool true, [Blk.mk p (.obj (.cells (Array.mk [.int .u64 a]) 36)) false, Blk.mk tk (.obj (.cells (Array.mk [Value.func (Fn.func 80) (Array.mk []) (Array.mk [.pointer (some ⟨tb, 0, none⟩), .pointer (some ⟨ob, 0, none⟩)]), .int .u32 1, .int .i64 (Ex.wrapQ .i64 (Ex.addQ steps 1)), .int .u64 a, .bool false, .slice none 0 0]) 100)) true, Blk.mk ob (.obj (.cells (Array.mk [.pointer (some ⟨st, 0, none⟩)]) 29)) true, Blk.mk vb (.obj (.cells (Array.mk [.int .u64 v]) 36)) true, Blk.mk tb (.obj (.cells (Array.mk [.pointer (some ⟨tk, 0, none⟩)]) 48)) true, Blk.mk st (.obj (.cells (Array.mk [.pointer (some ⟨p, 0, none⟩)]) 145)) true])
 both z0 (both z0 z0)
theorem do2_run (tk ob vb tb st : Nat) (steps v : Int) (p : Nat) (a : Int) : Sy.Ran (Sy.inB Tryd.prog Sy.S0 50 fStep #[ptr tk] (Sy.rdsOf [bx p tU (.int .u64 a)] ++ [tkU tk (cDo2 tb ob) steps, bx ob tOP (ptr st), bx vb tU (.int .u64 v), bx tb tTP (ptr tk), bx st tOn (ptr p)].map Sy.ownOf)) do2_o (do2_R tk ob vb tb st steps v p a) := ⟨fun _ => by kernel_rfl, fun _ => by kernel_rfl⟩
end Go.Proofs.YtjohknpmhlildaaDoor.At
namespace Go.Proofs.YtjohknpmhlildaaDoor.At
open Go Go.RowKit
open Go.Proofs.YtjohknpmhlildaaDoor.Sy (Let Blk Cont Bun ptr ptr0 bx tkB tkU clo DoesB usedK ownOf rdsOf Rep does_frame does_perm does_mono does_all does_of S0_holds)
open Go.Proofs.YtjohknpmhlildaaDoor.As
abbrev doB (st ob vb tb tk : Nat) (v : Int) : Bun := [bx ob tOP (ptr st), bx vb tU (.int .u64 v), bx tb tTP (ptr tk)]
def do1nQ (st tk vb : Nat) (n v : Int) (r : Value) (o : Bun) : Prop := r = .bool true ∧ ∃ nx, o = [tkB tk nx 1 (stp n) v true (.slice none 0 0), bx st tOn (ptr vb), bx vb tU (.int .u64 v)]
theorem do1n_does {s : Bun} (st ob vb tb tk : Nat) (n v : Int) : DoesS s fStep #[ptr tk] (tkU tk (cDo ob vb tb) n :: (doB st ob vb tb tk v ++ [bx st tOn ptr0])) (do1nQ st tk vb n v) := by
 refine ⟨[], in0, does_of S0_holds mixed (Sy.Ent.refl _) (do1n_run tk ob vb tb st n v) fun ns => ?_⟩
 simp only [do1n_R, Sy.Res.holds]
 exact ⟨_, ent_pick [0, 4, 2] (by decide) rfl, rfl, _, rfl⟩
def do1sQ (st ob vb tb tk p : Nat) (n v : Int) (r : Value) (o : Bun) : Prop := r = .bool false ∧ o = tkU tk (cDo2 tb ob) (stp n) :: (doB st ob vb tb tk v ++ [bx st tOn (ptr p)])
theorem do1s_does {s : Bun} {p : Nat} {a : Int} (hp : bx p tU (.int .u64 a) ∈ s) (st ob vb tb tk : Nat) (n v : Int) : DoesS s fStep #[ptr tk] (tkU tk (cDo ob vb tb) n :: (doB st ob vb tb tk v ++ [bx st tOn (ptr p)])) (do1sQ st ob vb tb tk p n v) := by
 refine ⟨_, in1 hp, does_of S0_holds mixed (Sy.Ent.refl _) (do1s_run tk ob vb tb st n v p a) fun ns => ?_⟩
 simp only [do1s_R, Sy.Res.holds]
 exact ⟨_, ent_pick [1, 2, 3, 4, 5] (by decide) rfl, rfl, rfl⟩
def do2Q (st tk p : Nat) (n a : Int) (r : Value) (o : Bun) : Prop := r = .bool true ∧ ∃ nx, o = [tkB tk nx 1 (stp n) a false (.slice none 0 0), bx st tOn (ptr p)]
theorem do2_does {s : Bun} {p : Nat} {a : Int} (hp : bx p tU (.int .u64 a) ∈ s) (st ob vb tb tk : Nat) (n v : Int) : DoesS s fStep #[ptr tk] (tkU tk (cDo2 tb ob) n :: (doB st ob vb tb tk v ++ [bx st tOn (ptr p)])) (do2Q st tk p n a) := by
 refine ⟨_, in1 hp, does_of S0_holds mixed (Sy.Ent.refl _) (do2_run tk ob vb tb st n v p a) fun ns => ?_⟩
 simp only [do2_R, Sy.Res.holds]
 exact ⟨⟨_, ent_pick [1, 5] (by decide) rfl, rfl, _, rfl⟩, ⟨_, ent_pick [1, 5] (by decide) rfl, rfl, _, rfl⟩, ⟨_, ent_pick [1, 5] (by decide) rfl, rfl, _, rfl⟩⟩
inductive TO (st : Nat) (dn : Bool) : TaskH → Prop
 | do1 (d : TaskD) (tk : Nat) (vw : Value) (ob vb tb : Nat) (hk : d.kind = 9) (hv : d.view = []) (hp : d.pc = 1) : TO st dn ⟨d, tk, cDo ob vb tb, vw, doB st ob vb tb tk d.v⟩
 | do2 (d : TaskD) (tk : Nat) (vw : Value) (ob vb tb : Nat) (hk : d.kind = 9) (hv : d.view = []) (hp : d.pc = 2) (hd : dn = true) : TO st dn ⟨d, tk, cDo2 tb ob, vw, doB st ob vb tb tk d.v⟩
 | done (d : TaskD) (tk : Nat) (nx : Value) (hk : d.kind = 9) (hv : d.view = []) (hp : d.pc = 0) : TO st dn ⟨d, tk, nx, nil0, []⟩
theorem TO.on {st : Nat} {dn : Bool} {x : TaskH} (h : TO st dn x) : TO st true x := by
 cases h with
 | do1 d tk vw ob vb tb hk hv hp => exact .do1 d tk vw ob vb tb hk hv hp
 | do2 d tk vw ob vb tb hk hv hp hd => exact .do2 d tk vw ob vb tb hk hv hp rfl
 | done d tk nx hk hv hp => exact .done d tk nx hk hv hp
def wonB (dn : Bool) (wb : Nat) (v : Int) : Bun := if dn = true then [bx wb tU (.int .u64 v)] else []
def wonP (dn : Bool) (wb : Nat) : Value := if dn = true then ptr wb else ptr0
structure HeapOx (w : WorldD) (st : Nat) (tks : List Nat) (b : Bun) (xs : List TaskH) (wb : Nat) : Prop where
 thing : w.thing = 5
 d : xs.map (·.d) = w.tasks
 tk : xs.map (·.tk) = tks
 ok : ∀ x ∈ xs, TO st w.done x
 perm : b.Perm ([bx st tOn (wonP w.done wb)] ++ (allH xs ++ ([] ++ wonB w.done wb w.what)))
def HeapO (w : WorldD) (st : Nat) (tks : List Nat) (b : Bun) : Prop := ∃ xs wb, HeapOx w st tks b xs wb
theorem one_once {w : WorldD} {t : TaskD} (h : t.kind = 9) : oneW w t = onceW w t := by
 unfold oneW
 rw [if_neg (by omega), if_neg (by omega), if_neg (by omega), if_neg (by omega), if_neg (by omega)]
theorem HeapOx.set {w : WorldD} {st : Nat} {tks : List Nat} {b : Bun} {xs : List TaskH} {wb : Nat} (h : HeapOx w st tks b xs wb) {n : Nat} {x y : TaskH} (hx : xs[n]? = some x) (ht : y.tk = x.tk) (hy : TO st w.done y) {o : Bun}
  (ho : o.Perm ([bx st tOn (wonP w.done wb)] ++ (allH (xs.set n y) ++ ([] ++ wonB w.done wb w.what)))) : HeapO { w with tasks := w.tasks.set n y.d } st tks o :=
 ⟨xs.set n y, wb, h.thing, set_d h.d n y, by rw [set_tk hx ht]; exact h.tk, all_set h.ok hy, ho⟩
theorem step_once {w : WorldD} {st : Nat} {tks : List Nat} {b : Bun} (hH : HeapO w st tks b) {n : Nat} {t : TaskD} {tk : Nat} (ht : w.tasks[n]? = some t) (hp : t.pc ≠ 0) (hs : t.steps < 4611686018427387904) (htk : tks[n]? = some tk) :
  DoesB Tryd.prog fStep #[ptr tk] [] b (stepQ (fun w' o => HeapO w' st tks o) w n) := by
 obtain ⟨xs, wb, h⟩ := hH
 obtain ⟨x, hx, rfl⟩ := at_d h.d ht
 have hok := h.ok x (List.mem_of_getElem? hx)
 have htk' : x.tk = tk := by
  have := h.tk
  subst this
  rw [List.getElem?_map, hx] at htk
  injection htk
 subst htk'
 have hall := all_cell hp
 have hperm := h.perm
 cases hok with
 | do1 d tk vw ob vb tb hk hv hpc =>
   dsimp only at ht hp hs hx ⊢
   cases hd : w.done with
   | false =>
     rw [hd] at hperm
     have hperm : b.Perm ([bx st tOn ptr0] ++ (allH xs ++ ([] ++ []))) := hperm
     refine step_glueS hx hperm (by rw [hall]; exact do1n_does st ob vb tb tk d.steps d.v) ?_
     rintro r o ⟨rfl, nx, rfl⟩
     obtain ⟨y, hy⟩ : ∃ y : TaskH, y = ⟨{ d with steps := d.steps + 1, pc := 0, out := d.v, ok := true }, tk, nx, nil0, []⟩ := ⟨_, rfl⟩
     refine fin y [bx st tOn (ptr vb)] [bx vb tU (.int .u64 d.v)] ht hp (w' := { w with done := true, what := d.v }) ?_ (by subst hy; rfl) ?_ ⟨xs.set n y, vb, h.thing, set_d h.d n y, by rw [set_tk hx (by subst hy; rfl)]; exact h.tk, all_set (fun x hx => (h.ok x hx).on) (by subst hy; exact .done _ _ _ hk hv rfl), ?_⟩
     ·subst hy
      refine (one_once (w := w) (t := { d with steps := d.steps + 1 }) hk).trans ?_
      unfold onceW
      rw [if_neg (by show ¬ d.pc = 2; omega), if_neg (by rw [hd]; decide)]
      rfl
     ·subst hy
      rw [all_end _ rfl hs rfl]
      rfl
     ·show List.Perm _ ([bx st tOn (ptr vb)] ++ (allH (xs.set n y) ++ ([] ++ [bx vb tU (.int .u64 d.v)])))
      exact List.Perm.append_left _ (List.Perm.append_left _ List.perm_append_comm)
   | true =>
     rw [hd] at hperm
     have hperm : b.Perm ([bx st tOn (ptr wb)] ++ (allH xs ++ ([] ++ [bx wb tU (.int .u64 w.what)]))) := hperm
     refine step_glueS hx hperm (by rw [hall]; exact do1s_does (Sy.mS _) st ob vb tb tk d.steps d.v) ?_
     rintro r o ⟨rfl, rfl⟩
     obtain ⟨y, hy⟩ : ∃ y : TaskH, y = ⟨{ d with steps := d.steps + 1, pc := 2 }, tk, cDo2 tb ob, vw, doB st ob vb tb tk d.v⟩ := ⟨_, rfl⟩
     refine fin y [bx st tOn (ptr wb)] [] ht hp (w' := w) ?_ (by subst hy; rfl) ?_ (h.set hx (by subst hy; rfl) (by subst hy; exact .do2 _ tk vw ob vb tb hk hv rfl hd) (by rw [hd]; exact List.Perm.refl _))
     ·subst hy
      refine (one_once (w := w) (t := { d with steps := d.steps + 1 }) hk).trans ?_
      unfold onceW
      rw [if_neg (by show ¬ d.pc = 2; omega), if_pos hd]
     ·subst hy
      rw [all_on _ (by dsimp only; decide) hs rfl]
      rfl
 | do2 d tk vw ob vb tb hk hv hpc hd =>
   dsimp only at ht hp hs hx ⊢
   rw [hd] at hperm
   have hperm : b.Perm ([bx st tOn (ptr wb)] ++ (allH xs ++ ([] ++ [bx wb tU (.int .u64 w.what)]))) := hperm
   refine step_glueS hx hperm (by rw [hall]; exact do2_does (Sy.mS _) st ob vb tb tk d.steps d.v) ?_
   rintro r o ⟨rfl, nx, rfl⟩
   obtain ⟨y, hy⟩ : ∃ y : TaskH, y = ⟨{ d with steps := d.steps + 1, pc := 0, out := w.what, ok := false }, tk, nx, nil0, []⟩ := ⟨_, rfl⟩
   refine fin y [bx st tOn (ptr wb)] [] ht hp (w' := w) ?_ (by subst hy; rfl) ?_ (h.set hx (by subst hy; rfl) (by subst hy; exact .done _ _ _ hk hv rfl) (by rw [hd]; exact List.Perm.refl _))
   ·subst hy
    refine (one_once (w := w) (t := { d with steps := d.steps + 1 }) hk).trans ?_
    unfold onceW
    rw [if_pos hpc]
    rfl
   ·subst hy
    rw [all_end _ rfl hs rfl]
    rfl
 | done d tk nx hk hv hpc => exact absurd hpc hp
end Go.Proofs.YtjohknpmhlildaaDoor.At
--@tail 0
namespace Go.Proofs.YtjohknpmhlildaaDoor.At
open Sy.O (fork nil step steps)
open Sy.Res (need hyp br leaf both)
open Go Go.RowKit
open Go.Proofs.YtjohknpmhlildaaDoor.Sy (Let Blk ptr bx tkB tkU clo)
def lend2_o : Sy.O := (steps [0, 0, 0, 0, 0, 0, 0, 0, 0, 0, 0, 0, 3, 0, 0, 4, 0, 0, 0, 0, 1, 0, 1, 0, 6, 0, 7, 0, 0, 0, 0, 1, 2, 3, 0, 1, 0, 4, 0, 2, 0, 8, 0, 9, 0, 0] (fork (steps [0, 0, 1, 0, 2, 7, 8, 0, 0, 4, 0, 0, 9, 0, 1, 0, 0, 1, 0, 0, 1, 0, 1, 2, 3, 8, 0, 0, 8, 1, 0, 0, 0, 1] nil) (steps [0, 0, 1, 0, 2, 7, 8, 0, 1] nil)))
noncomputable def lend2_R (tk sb fb tb lb s2 st wb nb ib : Nat) (steps room was w x i : Int) (ns : Nat → Sy.Let) : Sy.Res (Value × List Blk) :=
 let z0 := Fn.func 91
 let z1 := Array.mk []
 let z2 := Array.mk [Value.pointer (some ⟨sb, 0, none⟩), Value.pointer (some ⟨fb, 0, none⟩), Value.pointer (some ⟨tb, 0, none⟩), Value.pointer (some ⟨lb, 0, none⟩)]
 let z3 := Ex.wrapQ .i64 (Ex.addQ steps 1)
 let z4 := Sy.Cont.obj (Obj.cells (Array.mk [.pointer (some ⟨st, 0, none⟩)]) 27)
 let z5 := Sy.Cont.obj (Obj.cells (Array.mk [Value.func (Fn.func 71) z1 (Array.mk [.pointer (some ⟨s2, 0, none⟩)])]) 150)
 let z6 := Sy.Cont.obj (Obj.cells (Array.mk [.pointer (some ⟨tk, 0, none⟩)]) 48)
 let z7 := Sy.Cont.obj (Obj.cells (Array.mk [Value.func z0 z1 z2]) 1)
 let z8 := Sy.Cont.obj (Obj.cells (Array.mk [.int .u64 w]) 36)
 let z9 := Sy.Cont.obj (Obj.cells (Array.mk [.int .u64 x]) 36)
 let z10 := Sy.Cont.obj (Obj.cells (Array.mk [.int .i64 i]) 3)
 need True (both (hyp (was = w) (leaf (Value.bool true, [Blk.mk st (.obj (.cells (Array.mk [.int .i64 room, .int .u64 x]) 129)) true, Blk.mk tk (.obj (.cells (Array.mk [Value.func z0 z1 z2, .int .u32 1, .int .i64 z3, .int .u64 (Ex.wrapQ .u64 i), .bool true, .slice none 0 0]) 100)) true, Blk.mk sb z4 true, Blk.mk fb z5 true, Blk.mk tb z6 true, Blk.mk lb z7 true, Blk.mk s2 z4 true, Blk.mk wb z8 true, Blk.mk nb z9 true, Blk.mk ib z10 true]))) (hyp (was = w → False) (leaf (Value.bool false, [Blk.mk st (.obj (.cells (Array.mk [.int .i64 room, .int .u64 was]) 129)) true, Blk.mk tk (.obj (.cells (Array.mk [Value.func z0 z1 z2, .int .u32 0, .int .i64 z3, .int .u64 0, .bool false, .slice none 0 0]) 100)) true, Blk.mk sb z4 true, Blk.mk fb z5 true, Blk.mk tb z6 true, Blk.mk lb z7 true, Blk.mk s2 z4 true, Blk.mk wb z8 true, Blk.mk nb z9 true, Blk.mk ib z10 true]))))
theorem lend2_run (tk sb fb tb lb s2 st wb nb ib : Nat) (steps room was w x i : Int) : Sy.Ran (Sy.inB Tryd.prog (ctxCas st room was w x) 50 fStep #[ptr tk] ([tkU tk (cChg2 lb tb sb wb nb ib) steps, bx sb tLoP (ptr st), bx fb tTo (cTk s2), bx tb tTP (ptr tk), bx lb tFn (cChg sb fb tb lb), bx s2 tLoP (ptr st), bx wb tU (.int .u64 w), bx nb tU (.int .u64 x), bx ib tI (.int .i64 i), slB st room was].map Sy.ownOf)) lend2_o (lend2_R tk sb fb tb lb s2 st wb nb ib steps room was w x i) := ⟨fun _ => by kernel_rfl, fun _ => by kernel_rfl⟩
def give2_o : Sy.O := (steps [0, 0, 0, 0, 0, 0, 0, 0, 0, 0, 0, 0, 3, 0, 0, 4, 0, 0, 0, 0, 1, 0, 1, 0, 7, 0, 8, 0, 0, 0, 0, 1, 2, 3, 0, 1, 0, 4, 0, 2, 0, 8, 0, 10, 0, 0] (fork (steps [0, 0, 1, 0, 2, 8, 9, 0, 0, 4, 0, 0, 10, 0, 1, 0, 0, 1, 0, 0, 1, 0, 1, 2, 3, 8, 0, 0, 8, 1, 0, 0, 0, 1] nil) (steps [0, 0, 1, 0, 2, 8, 9, 0, 1] nil)))
noncomputable def give2_R (tk sb fb tb lb s2 gb st wb nb ib : Nat) (steps room was g w x i : Int) (ns : Nat → Sy.Let) : Sy.Res (Value × List Blk) :=
 let z0 := Fn.func 91
 let z1 := Array.mk []
 let z2 := Array.mk [Value.pointer (some ⟨sb, 0, none⟩), Value.pointer (some ⟨fb, 0, none⟩), Value.pointer (some ⟨tb, 0, none⟩), Value.pointer (some ⟨lb, 0, none⟩)]
 let z3 := Ex.wrapQ .i64 (Ex.addQ steps 1)
 let z4 := Sy.Cont.obj (Obj.cells (Array.mk [.pointer (some ⟨st, 0, none⟩)]) 27)
 let z5 := Sy.Cont.obj (Obj.cells (Array.mk [Value.func (Fn.func 73) z1 (Array.mk [.pointer (some ⟨gb, 0, none⟩), .pointer (some ⟨s2, 0, none⟩)])]) 150)
 let z6 := Sy.Cont.obj (Obj.cells (Array.mk [.pointer (some ⟨tk, 0, none⟩)]) 48)
 let z7 := Sy.Cont.obj (Obj.cells (Array.mk [Value.func z0 z1 z2]) 1)
 let z8 := Sy.Cont.obj (Obj.cells (Array.mk [.int .i64 g]) 3)
 let z9 := Sy.Cont.obj (Obj.cells (Array.mk [.int .u64 w]) 36)
 let z10 := Sy.Cont.obj (Obj.cells (Array.mk [.int .u64 x]) 36)
 let z11 := Sy.Cont.obj (Obj.cells (Array.mk [.int .i64 i]) 3)
 need True (both (hyp (was = w) (leaf (Value.bool true, [Blk.mk st (.obj (.cells (Array.mk [.int .i64 room, .int .u64 x]) 129)) true, Blk.mk tk (.obj (.cells (Array.mk [Value.func z0 z1 z2, .int .u32 1, .int .i64 z3, .int .u64 (Ex.wrapQ .u64 i), .bool true, .slice none 0 0]) 100)) true, Blk.mk sb z4 true, Blk.mk fb z5 true, Blk.mk tb z6 true, Blk.mk lb z7 true, Blk.mk s2 z4 true, Blk.mk gb z8 true, Blk.mk wb z9 true, Blk.mk nb z10 true, Blk.mk ib z11 true]))) (hyp (was = w → False) (leaf (Value.bool false, [Blk.mk st (.obj (.cells (Array.mk [.int .i64 room, .int .u64 was]) 129)) true, Blk.mk tk (.obj (.cells (Array.mk [Value.func z0 z1 z2, .int .u32 0, .int .i64 z3, .int .u64 0, .bool false, .slice none 0 0]) 100)) true, Blk.mk sb z4 true, Blk.mk fb z5 true, Blk.mk tb z6 true, Blk.mk lb z7 true, Blk.mk s2 z4 true, Blk.mk gb z8 true, Blk.mk wb z9 true, Blk.mk nb z10 true, Blk.mk ib z11 true]))))
theorem give2_run (tk sb fb tb lb s2 gb st wb nb ib : Nat) (steps room was g w x i : Int) : Sy.Ran (Sy.inB Tryd.prog (ctxCas st room was w x) 50 fStep #[ptr tk] ([tkU tk (cChg2 lb tb sb wb nb ib) steps, bx sb tLoP (ptr st), bx fb tTo (cGv gb s2), bx tb tTP (ptr tk), bx lb tFn (cChg sb fb tb lb), bx s2 tLoP (ptr st), bx gb tI (.int .i64 g), bx wb tU (.int .u64 w), bx nb tU (.int .u64 x), bx ib tI (.int .i64 i), slB st room was].map Sy.ownOf)) give2_o (give2_R tk sb fb tb lb s2 gb st wb nb ib steps room was g w x i) := ⟨fun _ => by kernel_rfl, fun _ => by kernel_rfl⟩
end Go.Proofs.YtjohknpmhlildaaDoor.At
namespace Go.Proofs.YtjohknpmhlildaaDoor.As
theorem free_at (lent : Int) (room k : Nat) (hk : k ≤ room) (hb : k < room → bitOf lent k = false) : ∀ (fuel n : Nat), n ≤ k → k - n ≤ fuel → (∀ j, n ≤ j → j < k → bitOf lent j = true) → freeW lent room fuel n = k
 | 0, n, h1, h2, _ => by
   show n = k
   omega
 | fuel + 1, n, h1, h2, h3 => by
   unfold freeW
   by_cases e : n = k
   ·subst e
    rw [if_neg (fun hc => by have := hb hc.1; rw [this] at hc; exact absurd hc.2 (by decide))]
   ·rw [if_pos ⟨by omega, h3 n (Nat.le_refl _) (by omega)⟩]
    exact free_at lent room k hk hb fuel (n + 1) (by omega) (by omega) fun j h4 h5 => h3 j (by omega) h5
theorem ctz_bits {x : Nat} (h0 : x ≠ 0) (h : x < 2 ^ 64) : Lib.ctz 64 x < 64 ∧ x.testBit (Lib.ctz 64 x) = true ∧ ∀ j, j < Lib.ctz 64 x → x.testBit j = false := by
 have e : Lib.ctz 64 x = Lib.ctzFrom 64 x := by simp [Lib.ctz, h0]
 obtain ⟨m, hm, hk⟩ := Lib.ctzFrom_spec 64 x (by omega) h
 rw [e]
 generalize Lib.ctzFrom 64 x = k at hm hk
 refine ⟨hk, ?_, fun j hj => ?_⟩
 ·rw [hm, Nat.mul_comm, Nat.testBit_mul_two_pow]
  simp [Nat.testBit_zero]
 ·rw [hm, Nat.mul_comm, Nat.testBit_mul_two_pow]
  simp
  omega
theorem free_ctz (l room : Nat) (h : l < 2 ^ 64) (hr : room ≤ 64) :
  freeW (l : Int) room room 0 = if Lib.ctz 64 (18446744073709551615 - l) < room then Lib.ctz 64 (18446744073709551615 - l) else room := by
 have hb : ∀ j, j < 64 → (18446744073709551615 - l).testBit j = !l.testBit j := fun j hj => by
  have := Nat.testBit_two_pow_sub_succ h j
  rw [show 2 ^ 64 - (l + 1) = 18446744073709551615 - l by omega] at this
  rw [this]
  simp [hj]
 have hbit : ∀ j, bitOf (l : Int) j = l.testBit j := fun j => rfl
 by_cases h0 : 18446744073709551615 - l = 0
 ·have e : Lib.ctz 64 (18446744073709551615 - l) = 64 := by simp [Lib.ctz, h0]
  rw [e, if_neg (by omega)]
  refine free_at _ _ _ (Nat.le_refl _) (fun h => absurd h (Nat.lt_irrefl _)) _ _ (Nat.zero_le _) (Nat.le_refl _) fun j _ hj => ?_
  have := hb j (by omega)
  rw [h0, Nat.zero_testBit] at this
  rw [hbit]
  cases hx : l.testBit j
  ·rw [hx] at this; cases this
  ·rfl
 ·obtain ⟨h1, h2, h3⟩ := ctz_bits h0 (by omega)
  generalize hk : Lib.ctz 64 (18446744073709551615 - l) = k at h1 h2 h3
  have hz : bitOf (l : Int) k = false := by
   rw [hb k h1] at h2
   rw [hbit]
   simpa using h2
  have ho : ∀ j, j < k → bitOf (l : Int) j = true := fun j hj => by
   have := h3 j hj
   rw [hb j (by omega)] at this
   rw [hbit]
   simpa using this
  split
  ·rename_i hkr
   exact free_at _ _ _ (Nat.le_of_lt hkr) (fun _ => hz) _ _ (Nat.zero_le _) (by omega) fun j _ hj => ho j hj
  ·rename_i hkr
   exact free_at _ _ _ (Nat.le_refl _) (fun h => absurd h (Nat.lt_irrefl _)) _ _ (Nat.zero_le _) (Nat.le_refl _) fun j _ hj => ho j (by omega)
theorem set_turn {l k : Nat} (h : l.testBit k = false) : l ||| (1 <<< k) = l ^^^ (1 <<< k) := by
 apply Nat.eq_of_testBit_eq
 intro i
 rw [Nat.testBit_or, Nat.testBit_xor, Nat.shiftLeft_eq, Nat.one_mul, Nat.testBit_two_pow]
 by_cases e : k = i
 ·subst e
  simp [h]
 ·simp [e]
theorem turn_lt {l k : Nat} (h : l < 2 ^ 64) (hk : k < 64) : l ^^^ (1 <<< k) < 2 ^ 64 := by
 apply Nat.xor_lt_two_pow h
 rw [Nat.shiftLeft_eq, Nat.one_mul]
 exact Nat.pow_lt_pow_right (by decide) hk
end Go.Proofs.YtjohknpmhlildaaDoor.As
namespace Go.Proofs.YtjohknpmhlildaaDoor.At
open Go Go.RowKit
open Go.Proofs.YtjohknpmhlildaaDoor.As
theorem resid_nat {n : Nat} (h : n < 18446744073709551616) : Ex.residQ (Ex.kMod .u64) (n : Int) = n := by
 have e : Ex.kMod .u64 = 18446744073709551616 := rfl
 have := Ex.residQ_eq (Ex.kMod .u64) (Ex.kMod_pos .u64) (n : Int)
 rw [e] at this ⊢
 have h2 : (n : Int) % ((18446744073709551616 : Nat) : Int) = n := Int.emod_eq_of_lt (by omega) (by omega)
 rw [h2] at this
 omega
theorem wrap_nat {n : Nat} (h : n < 18446744073709551616) : Ex.wrapQ .u64 (n : Int) = n := by
 rw [Ex.wrapQ_eq, IntKind.wrap_u64]
 omega
theorem two_lt {k : Nat} (hk : k < 64) : 1 <<< k < 18446744073709551616 := by
 rw [Nat.shiftLeft_eq, Nat.one_mul]
 show 2 ^ k < 2 ^ 64
 exact Nat.pow_lt_pow_right (by decide) hk
theorem shl_nat {k : Nat} (hk : k < 64) : Ex.shlQ .u64 1 k = ((1 <<< k : Nat) : Int) := by
 rw [Ex.shlQ_eq]
 have e : min k IntKind.u64.bits = k := Nat.min_eq_left (Nat.le_of_lt hk)
 have h2 := two_lt hk
 rw [e, IntKind.wrap_u64, Nat.shiftLeft_eq, Nat.one_mul]
 rw [Nat.shiftLeft_eq, Nat.one_mul] at h2
 have : (1 * (2 : Int) ^ k) = ((2 ^ k : Nat) : Int) := by simp
 rw [this]
 generalize 2 ^ k = m at h2 ⊢
 omega
theorem not_nat {l : Nat} (h : l < 18446744073709551616) : Ex.xorQ .u64 18446744073709551615 (l : Int) = ((18446744073709551615 - l : Nat) : Int) := by
 unfold Ex.xorQ
 have e1 : Ex.residQ (Ex.kMod .u64) 18446744073709551615 = 18446744073709551615 := resid_nat (n := 18446744073709551615) (by decide)
 rw [e1, resid_nat h]
 have e2 : Nat.xor 18446744073709551615 l = 18446744073709551615 - l := by
  show 18446744073709551615 ^^^ l = _
  apply Nat.eq_of_testBit_eq
  intro i
  have h1 := Nat.testBit_two_pow_sub_succ (show l < 2 ^ 64 from h) i
  rw [show 2 ^ 64 - (l + 1) = 18446744073709551615 - l by omega] at h1
  have h2 := Nat.testBit_two_pow_sub_one 64 i
  rw [show 2 ^ 64 - 1 = 18446744073709551615 by decide] at h2
  rw [h1, Nat.testBit_xor, h2]
  by_cases hi : i < 64
  ·simp [hi]
  ·have : l.testBit i = false := Nat.testBit_lt_two_pow (Nat.lt_of_lt_of_le (show l < 2 ^ 64 from h) (Nat.pow_le_pow_right (by decide) (by omega)))
   simp [hi, this]
 rw [e2]
 exact wrap_nat (n := 18446744073709551615 - l) (by omega)
theorem or_nat {l m : Nat} (h : l < 18446744073709551616) (h' : m < 18446744073709551616) : Ex.orQ .u64 (l : Int) (m : Int) = ((l ||| m : Nat) : Int) := by
 unfold Ex.orQ
 rw [resid_nat h, resid_nat h']
 exact wrap_nat (n := l ||| m) (Nat.or_lt_two_pow (n := 64) h h')
theorem andNot_nat {l k : Nat} (h : l < 18446744073709551616) (hk : k < 64) (hb : l.testBit k = true) : Ex.andNotQ .u64 (l : Int) ((1 <<< k : Nat) : Int) = ((l ^^^ (1 <<< k) : Nat) : Int) := by
 unfold Ex.andNotQ
 rw [resid_nat h, resid_nat (two_lt hk)]
 have e : Nat.land l (Nat.sub (Nat.sub (Ex.kMod .u64) 1) (1 <<< k)) = l ^^^ (1 <<< k) := by
  show l &&& (18446744073709551615 - (1 <<< k)) = _
  apply Nat.eq_of_testBit_eq
  intro i
  have h1 := Nat.testBit_two_pow_sub_succ (show 1 <<< k < 2 ^ 64 from two_lt hk) i
  rw [show 2 ^ 64 - (1 <<< k + 1) = 18446744073709551615 - 1 <<< k by omega] at h1
  rw [Nat.testBit_and, h1, Nat.testBit_xor, Nat.shiftLeft_eq, Nat.one_mul, Nat.testBit_two_pow]
  by_cases hi : k = i
  ·subst hi
   simp [hb]
  ·by_cases h64 : i < 64
   ·simp [hi, h64]
   ·have : l.testBit i = false := Nat.testBit_lt_two_pow (Nat.lt_of_lt_of_le (show l < 2 ^ 64 from h) (Nat.pow_le_pow_right (by decide) (by omega)))
    simp [hi, h64, this]
 rw [e]
 exact wrap_nat (n := l ^^^ (1 <<< k)) (turn_lt h hk)
theorem bit_nat {l k : Nat} (h : l < 18446744073709551616) (hk : k < 64) : Ex.eqQ (Ex.andQ .u64 (Ex.shrQ .u64 (l : Int) k) 1) 0 = !l.testBit k := by
 have e1 : Ex.shrQ .u64 (l : Int) k = ((l >>> k : Nat) : Int) := by
  rw [Ex.shrQ_eq, show min k IntKind.u64.bits = k from Nat.min_eq_left (Nat.le_of_lt hk), Nat.shiftRight_eq_div_pow]
  rw [Int.fdiv_eq_ediv_of_nonneg _ (Int.le_of_lt (Int.pow_pos (by decide)))]
  simp
 have hs : l >>> k < 18446744073709551616 := by rw [Nat.shiftRight_eq_div_pow]; exact Nat.lt_of_le_of_lt (Nat.div_le_self _ _) h
 have e2 : Ex.andQ .u64 ((l >>> k : Nat) : Int) 1 = (((l >>> k) &&& 1 : Nat) : Int) := by
  unfold Ex.andQ
  rw [resid_nat hs, show Ex.residQ (Ex.kMod .u64) 1 = 1 from resid_nat (n := 1) (by decide)]
  exact wrap_nat (n := (l >>> k) &&& 1) (Nat.lt_of_le_of_lt Nat.and_le_right (by decide))
 rw [e1, e2, Ex.eqQ_eq]
 have e3 : l.testBit k = (((l >>> k) &&& 1) != 0) := by simp [Nat.testBit, Nat.and_comm]
 rw [e3]
 cases hx : ((l >>> k) &&& 1) with
 | zero => rfl
 | succ m => rfl
theorem lend_slot {l : Nat} (h : l < 18446744073709551616) {room : Nat} (hr : room ≤ 64) :
  tzV (Ex.xorQ .u64 18446744073709551615 (l : Int)) = (Lib.ctz 64 (18446744073709551615 - l) : Int) ∧ freeW (l : Int) room room 0 = if Lib.ctz 64 (18446744073709551615 - l) < room then Lib.ctz 64 (18446744073709551615 - l) else room := by
 refine ⟨?_, free_ctz l room h hr⟩
 rw [not_nat h]
 rfl
theorem lend_bits {l room k : Nat} (h : l < 18446744073709551616) (hr : room ≤ 64) (hk : freeW (l : Int) room room 0 = k) (hlt : k < room) : Ex.orQ .u64 (l : Int) (Ex.shlQ .u64 1 k) = ((l ^^^ (1 <<< k) : Nat) : Int) := by
 have hc := free_ctz l room h hr
 rw [hk] at hc
 split at hc
 ·rename_i hlt'
  have h0 : 18446744073709551615 - l ≠ 0 := fun h0 => by
   rw [h0] at hlt'
   have : Lib.ctz 64 0 = 64 := by simp [Lib.ctz]
   omega
  have hb := (ctz_bits h0 (by omega)).2.1
  rw [← hc] at hb
  have h1 := Nat.testBit_two_pow_sub_succ (show l < 2 ^ 64 from h) k
  rw [show 2 ^ 64 - (l + 1) = 18446744073709551615 - l by omega, hb] at h1
  have hb : l.testBit k = false := by
   simp at h1
   exact h1.2
  rw [shl_nat (by omega), or_nat h (two_lt (by omega)), set_turn hb]
 ·omega
open Go.Proofs.YtjohknpmhlildaaDoor.Sy (Let Blk Cont Bun ptr ptr0 bx tkB tkU clo DoesB usedK ownOf rdsOf Rep does_frame does_perm does_mono does_all does_of S0_holds)
open Go.Proofs.YtjohknpmhlildaaDoor.As
abbrev lendB (st sb fb tb lb s2 tk : Nat) : Bun := [bx sb tLoP (ptr st), bx fb tTo (cTk s2), bx tb tTP (ptr tk), bx lb tFn (cChg sb fb tb lb), bx s2 tLoP (ptr st)]
abbrev giveB (st sb fb tb lb s2 gb tk : Nat) (g : Int) : Bun := [bx sb tLoP (ptr st), bx fb tTo (cGv gb s2), bx tb tTP (ptr tk), bx lb tFn (cChg sb fb tb lb), bx s2 tLoP (ptr st), bx gb tI (.int .i64 g)]
abbrev lotB (wb nb ib : Nat) (w x i : Int) : Bun := [bx wb tU (.int .u64 w), bx nb tU (.int .u64 x), bx ib tI (.int .i64 i)]
def lend1Q (st sb fb tb lb s2 tk l room : Nat) (n : Int) (r : Value) (o : Bun) : Prop :=
 (freeW (l : Int) room room 0 = room ∧ r = .bool true ∧ ∃ nx, o = [tkB tk nx 1 (stp n) 0 false (.slice none 0 0), slB st room l]) ∨
 (∃ k, freeW (l : Int) room room 0 = k ∧ k < room ∧ r = .bool false ∧ ∃ wb nb ib, o = tkU tk (cChg2 lb tb sb wb nb ib) (stp n) :: (lendB st sb fb tb lb s2 tk ++ (lotB wb nb ib l ((l ^^^ (1 <<< k) : Nat) : Int) k ++ [slB st room l])))
theorem lend1_does {s : Bun} (hs : tabB ∈ s) {l room : Nat} (hl : l < 18446744073709551616) (hr : room ≤ 64) (st sb fb tb lb s2 tk : Nat) (n : Int) :
  DoesS s fStep #[ptr tk] (tkU tk (cChg sb fb tb lb) n :: (lendB st sb fb tb lb s2 tk ++ [slB st room l])) (lend1Q st sb fb tb lb s2 tk l room n) := by
 refine ⟨_, in1 hs, does_of ctxTz_holds mixed (Sy.Ent.refl _) (lend1_run tk sb fb tb lb s2 st n room l) fun ns => ?_⟩
 simp only [lend1_R, Sy.Res.holds]
 obtain ⟨h1, h2⟩ := lend_slot hl hr
 rw [not_nat hl]
 refine ⟨⟨by omega, by omega⟩, fun _ => ?_⟩
 rw [← not_nat hl]
 rw [h1, Ex.leQ_eq]
 refine ⟨fun h => ?_, fun h => ?_⟩
 ·have h := of_decide_eq_true h
  rw [if_neg (by omega)] at h2
  exact ⟨_, ent_pick [4, 10] (by decide) rfl, .inl ⟨h2, rfl, _, rfl⟩⟩
 ·have h := of_decide_eq_false h
  rw [if_pos (by omega)] at h2
  have hb := lend_bits hl hr h2 (by omega)
  generalize Lib.ctz 64 (18446744073709551615 - l) = k at h h2 hb
  rw [Int.toNat_natCast, hb]
  exact ⟨_, ent_pick [4, 5, 6, 7, 8, 9, 3, 1, 0, 10] (by decide) rfl, .inr ⟨k, h2, by omega, rfl, _, _, _, rfl⟩⟩
def give1Q (st sb fb tb lb s2 gb tk l room : Nat) (g n : Int) (r : Value) (o : Bun) : Prop :=
 ((g < 0 ∨ (room : Int) ≤ g ∨ bitOf (l : Int) g.toNat = false) ∧ r = .bool true ∧ ∃ nx, o = [tkB tk nx 1 (stp n) 0 false (.slice none 0 0), slB st room l]) ∨
 (¬ (g < 0 ∨ (room : Int) ≤ g ∨ bitOf (l : Int) g.toNat = false) ∧ r = .bool false ∧ ∃ wb nb ib, o = tkU tk (cChg2 lb tb sb wb nb ib) (stp n) :: (giveB st sb fb tb lb s2 gb tk g ++ (lotB wb nb ib l ((l ^^^ (1 <<< g.toNat) : Nat) : Int) g ++ [slB st room l])))
theorem give1_does {s : Bun} {l room : Nat} (hl : l < 18446744073709551616) (hr : room ≤ 64) (st sb fb tb lb s2 gb tk : Nat) (g n : Int) :
  DoesS s fStep #[ptr tk] (tkU tk (cChg sb fb tb lb) n :: (giveB st sb fb tb lb s2 gb tk g ++ [slB st room l])) (give1Q st sb fb tb lb s2 gb tk l room g n) := by
 refine ⟨[], in0, does_of S0_holds mixed (Sy.Ent.refl _) (give1_run tk sb fb tb lb s2 gb st n room l g) fun ns => ?_⟩
 simp only [give1_R, Sy.Res.holds]
 rw [Ex.ltQ_eq]
 refine ⟨fun h => ?_, fun h => ⟨fun h' => ?_, fun h' => ?_⟩⟩
 ·exact ⟨_, ent_pick [3, 10] (by decide) rfl, .inl ⟨.inl (of_decide_eq_true h), rfl, _, rfl⟩⟩
 ·have h' : Ex.leQ (room : Int) g = true := h'
  rw [Ex.leQ_eq] at h'
  exact ⟨_, ent_pick [3, 10] (by decide) rfl, .inl ⟨.inr (.inl (of_decide_eq_true h')), rfl, _, rfl⟩⟩
 ·have h := of_decide_eq_false h
  have h' : Ex.leQ (room : Int) g = false := h'
  rw [Ex.leQ_eq] at h'
  have h' := of_decide_eq_false h'
  obtain ⟨k, rfl⟩ := Int.eq_ofNat_of_zero_le (show 0 ≤ g by omega)
  have hk : k < 64 := by omega
  have hbit := bit_nat hl hk
  refine ⟨by omega, fun hb => ?_, fun hb => ⟨by omega, ?_⟩⟩
  ·have hb : Ex.eqQ (Ex.andQ .u64 (Ex.shrQ .u64 (l : Int) (k : Int).toNat) 1) 0 = true := hb
   rw [Int.toNat_natCast, hbit] at hb
   exact ⟨_, ent_pick [3, 10] (by decide) rfl, .inl ⟨.inr (.inr (by show (l.testBit k) = false; simpa using hb)), rfl, _, rfl⟩⟩
  ·have hb : Ex.eqQ (Ex.andQ .u64 (Ex.shrQ .u64 (l : Int) (k : Int).toNat) 1) 0 = false := hb
   rw [Int.toNat_natCast, hbit] at hb
   have hb : l.testBit k = true := by simpa using hb
   rw [Int.toNat_natCast, shl_nat hk, andNot_nat hl hk hb]
   exact ⟨_, ent_pick [3, 4, 5, 6, 7, 8, 9, 2, 1, 0, 10] (by decide) rfl, .inr ⟨fun hc => by rcases hc with hc | hc | hc; exact h hc; exact h' hc; (have hc : l.testBit k = false := hc; rw [hb] at hc; cases hc), rfl, _, _, _, rfl⟩⟩
def lot2Q (B : Bun) (c : Value) (st tk : Nat) (room was w x i n : Int) (r : Value) (o : Bun) : Prop :=
 (was = w ∧ r = .bool true ∧ ∃ nx, o = [tkB tk nx 1 (stp n) (Ex.wrapQ .u64 i) true (.slice none 0 0), slB st room x]) ∨
 (was ≠ w ∧ r = .bool false ∧ o = tkU tk c (stp n) :: (B ++ [slB st room was]))
theorem lend2_does {s : Bun} (st sb fb tb lb s2 tk wb nb ib : Nat) (room was w x i n : Int) :
  DoesS s fStep #[ptr tk] (tkU tk (cChg2 lb tb sb wb nb ib) n :: (lendB st sb fb tb lb s2 tk ++ (lotB wb nb ib w x i ++ [slB st room was]))) (lot2Q (lendB st sb fb tb lb s2 tk) (cChg sb fb tb lb) st tk room was w x i n) := by
 refine ⟨[], in0, does_of (ctxCas_holds st room was w x) mixed (Sy.Ent.refl _) (lend2_run tk sb fb tb lb s2 st wb nb ib n room was w x i) fun ns => ?_⟩
 simp only [lend2_R, Sy.Res.holds]
 refine ⟨trivial, fun h => ?_, fun h => ?_⟩
 ·exact ⟨_, ent_pick [1, 0] (by decide) rfl, .inl ⟨h, rfl, _, rfl⟩⟩
 ·exact ⟨_, ent_pick [1, 2, 3, 4, 5, 6, 0] (by decide) rfl, .inr ⟨h, rfl, rfl⟩⟩
theorem give2_does {s : Bun} (st sb fb tb lb s2 gb tk wb nb ib : Nat) (room was g w x i n : Int) :
  DoesS s fStep #[ptr tk] (tkU tk (cChg2 lb tb sb wb nb ib) n :: (giveB st sb fb tb lb s2 gb tk g ++ (lotB wb nb ib w x i ++ [slB st room was]))) (lot2Q (giveB st sb fb tb lb s2 gb tk g) (cChg sb fb tb lb) st tk room was w x i n) := by
 refine ⟨[], in0, does_of (ctxCas_holds st room was w x) mixed (Sy.Ent.refl _) (give2_run tk sb fb tb lb s2 gb st wb nb ib n room was g w x i) fun ns => ?_⟩
 simp only [give2_R, Sy.Res.holds]
 refine ⟨trivial, fun h => ?_, fun h => ?_⟩
 ·exact ⟨_, ent_pick [1, 0] (by decide) rfl, .inl ⟨h, rfl, _, rfl⟩⟩
 ·exact ⟨_, ent_pick [1, 2, 3, 4, 5, 6, 7, 0] (by decide) rfl, .inr ⟨h, rfl, rfl⟩⟩
def turnW (d : TaskD) : Int := ((d.bits.toNat ^^^ (1 <<< d.slot.toNat) : Nat) : Int)
def goodL (d : TaskD) : Prop := (∃ l : Nat, d.bits = (l : Int) ∧ l < 18446744073709551616) ∧ ∃ k : Nat, d.slot = (k : Int) ∧ k < 64
inductive TL (st : Nat) : TaskH → Prop
 | lend1 (d : TaskD) (tk : Nat) (vw : Value) (sb fb tb lb s2 : Nat) (hk : d.kind = 5) (hv : d.view = []) (hp : d.pc = 1) : TL st ⟨d, tk, cChg sb fb tb lb, vw, lendB st sb fb tb lb s2 tk⟩
 | lend2 (d : TaskD) (tk : Nat) (vw : Value) (sb fb tb lb s2 wb nb ib : Nat) (hk : d.kind = 5) (hv : d.view = []) (hp : d.pc = 2) (hg : goodL d) : TL st ⟨d, tk, cChg2 lb tb sb wb nb ib, vw, lendB st sb fb tb lb s2 tk ++ lotB wb nb ib d.bits (turnW d) d.slot⟩
 | give1 (d : TaskD) (tk : Nat) (vw : Value) (sb fb tb lb s2 gb : Nat) (hk : d.kind = 6) (hv : d.view = []) (hp : d.pc = 1) : TL st ⟨d, tk, cChg sb fb tb lb, vw, giveB st sb fb tb lb s2 gb tk d.slot⟩
 | give2 (d : TaskD) (tk : Nat) (vw : Value) (sb fb tb lb s2 gb wb nb ib : Nat) (hk : d.kind = 6) (hv : d.view = []) (hp : d.pc = 2) (hg : goodL d) : TL st ⟨d, tk, cChg2 lb tb sb wb nb ib, vw, giveB st sb fb tb lb s2 gb tk d.slot ++ lotB wb nb ib d.bits (turnW d) d.slot⟩
 | done (d : TaskD) (tk : Nat) (nx : Value) (hk : d.kind = 5 ∨ d.kind = 6) (hv : d.view = []) (hp : d.pc = 0) : TL st ⟨d, tk, nx, nil0, []⟩
structure HeapLx (w : WorldD) (st : Nat) (tks : List Nat) (b : Bun) (xs : List TaskH) : Prop where
 thing : w.thing = 3
 d : xs.map (·.d) = w.tasks
 tk : xs.map (·.tk) = tks
 ok : ∀ x ∈ xs, TL st x
 room : w.room ≤ 64
 lent : ∃ l : Nat, w.lent = (l : Int) ∧ l < 18446744073709551616
 perm : b.Perm ([slB st w.room w.lent] ++ (allH xs ++ ([] ++ [tabB])))
def HeapL (w : WorldD) (st : Nat) (tks : List Nat) (b : Bun) : Prop := ∃ xs, HeapLx w st tks b xs
theorem one_slots {w : WorldD} {t : TaskD} (h : t.kind = 5 ∨ t.kind = 6) : oneW w t = slotsW w t := by
 unfold oneW
 rw [if_neg (by omega), if_neg (by omega), if_neg (by omega), if_pos h]
theorem HeapLx.set {w : WorldD} {st : Nat} {tks : List Nat} {b : Bun} {xs : List TaskH} (h : HeapLx w st tks b xs) {n : Nat} {x y : TaskH} (hx : xs[n]? = some x) (ht : y.tk = x.tk) (hy : TL st y) {l : Nat} (hl : l < 18446744073709551616) {o : Bun}
  (ho : o.Perm ([slB st w.room (l : Int)] ++ (allH (xs.set n y) ++ ([] ++ [tabB])))) : HeapL { w with lent := (l : Int), tasks := w.tasks.set n y.d } st tks o :=
 ⟨xs.set n y, h.thing, set_d h.d n y, by rw [set_tk hx ht]; exact h.tk, all_set h.ok hy, h.room, ⟨l, rfl, hl⟩, ho⟩
theorem w_lent {w : WorldD} {l : Nat} (h : w.lent = (l : Int)) : w = { w with lent := (l : Int) } := by rw [← h]
theorem step_slots {w : WorldD} {st : Nat} {tks : List Nat} {b : Bun} (hH : HeapL w st tks b) {n : Nat} {t : TaskD} {tk : Nat} (ht : w.tasks[n]? = some t) (hp : t.pc ≠ 0) (hs : t.steps < 4611686018427387904) (htk : tks[n]? = some tk) :
  DoesB Tryd.prog fStep #[ptr tk] [] b (stepQ (fun w' o => HeapL w' st tks o) w n) := by
 obtain ⟨xs, h⟩ := hH
 obtain ⟨x, hx, rfl⟩ := at_d h.d ht
 have hok := h.ok x (List.mem_of_getElem? hx)
 have htk' : x.tk = tk := by
  have := h.tk
  subst this
  rw [List.getElem?_map, hx] at htk
  injection htk
 subst htk'
 have hall := all_cell hp
 obtain ⟨l, hl, hl64⟩ := h.lent
 have hperm := h.perm
 rw [hl] at hperm
 have hw := w_lent hl
 cases hok with
 | lend1 d tk vw sb fb tb lb s2 hk hv hpc =>
   dsimp only at ht hp hs hx ⊢
   refine step_glueS hx hperm (by rw [hall]; exact lend1_does (Sy.mS _) hl64 h.room st sb fb tb lb s2 tk d.steps) ?_
   rintro r o (⟨e, rfl, nx, rfl⟩ | ⟨k, e, hlt, rfl, wb, nb, ib, rfl⟩)
   ·obtain ⟨y, hy⟩ : ∃ y : TaskH, y = ⟨{ d with steps := d.steps + 1, bits := w.lent, slot := (w.room : Int), pc := 0, out := 0, ok := false }, tk, nx, nil0, []⟩ := ⟨_, rfl⟩
    refine fin y [slB st w.room (l : Int)] [] ht hp (w' := { w with lent := (l : Int) }) ?_ (by subst hy; rfl) ?_ (h.set hx (by subst hy; rfl) (by subst hy; exact .done _ _ _ (.inl hk) hv rfl) hl64 (List.Perm.refl _))
    ·subst hy
     rw [← hw]
     refine (one_slots (w := w) (t := { d with steps := d.steps + 1 }) (.inl hk)).trans ?_
     unfold slotsW
     rw [if_pos hpc, if_neg (by show ¬ d.kind = 6; omega), if_pos (by rw [hl]; exact e)]
     rfl
    ·subst hy
     rw [all_end _ rfl hs rfl]
     rfl
   ·obtain ⟨y, hy⟩ : ∃ y : TaskH, y = ⟨{ d with steps := d.steps + 1, bits := w.lent, slot := (k : Int), pc := 2 }, tk, cChg2 lb tb sb wb nb ib, vw, lendB st sb fb tb lb s2 tk ++ lotB wb nb ib (l : Int) ((l ^^^ (1 <<< k) : Nat) : Int) (k : Int)⟩ := ⟨_, rfl⟩
    refine fin y [slB st w.room (l : Int)] [] ht hp (w' := { w with lent := (l : Int) }) ?_ (by subst hy; rfl) ?_ (h.set hx (by subst hy; rfl) ?_ hl64 (List.Perm.refl _))
    ·subst hy
     rw [← hw]
     refine (one_slots (w := w) (t := { d with steps := d.steps + 1 }) (.inl hk)).trans ?_
     unfold slotsW
     rw [if_pos hpc, if_neg (by show ¬ d.kind = 6; omega), if_neg (by rw [hl, e]; omega), hl, e]
    ·subst hy
     rw [all_on _ (by dsimp only; decide) hs rfl]
     rfl
    ·subst hy
     have := TL.lend2 (st := st) { d with steps := d.steps + 1, bits := w.lent, slot := (k : Int), pc := 2 } tk vw sb fb tb lb s2 wb nb ib hk hv rfl ⟨⟨l, hl, hl64⟩, k, rfl, by have := h.room; omega⟩
     unfold turnW at this
     dsimp only at this
     rw [hl, Int.toNat_natCast, Int.toNat_natCast] at this
     rw [hl]
     exact this
 | lend2 d tk vw sb fb tb lb s2 wb nb ib hk hv hpc hg =>
   dsimp only at ht hp hs hx ⊢
   obtain ⟨⟨m, hm, hm64⟩, k, hk', hk64⟩ := hg
   refine step_glueS hx hperm (by rw [hall]; exact lend2_does st sb fb tb lb s2 tk wb nb ib (w.room : Int) (l : Int) d.bits (turnW d) d.slot d.steps) ?_
   rintro r o (⟨e, rfl, nx, rfl⟩ | ⟨e, rfl, rfl⟩)
   ·have hout : Ex.wrapQ .u64 d.slot = d.slot := by rw [hk']; exact wrap_nat (by omega)
    have htw : turnW d = ((m ^^^ (1 <<< k) : Nat) : Int) := by unfold turnW; rw [hm, hk', Int.toNat_natCast, Int.toNat_natCast]
    rw [hout, htw]
    obtain ⟨y, hy⟩ : ∃ y : TaskH, y = ⟨{ d with steps := d.steps + 1, pc := 0, out := d.slot, ok := true }, tk, nx, nil0, []⟩ := ⟨_, rfl⟩
    refine fin y [slB st w.room ((m ^^^ (1 <<< k) : Nat) : Int)] [] ht hp (w' := { w with lent := ((m ^^^ (1 <<< k) : Nat) : Int) }) ?_ (by subst hy; rfl) ?_ (h.set hx (by subst hy; rfl) (by subst hy; exact .done _ _ _ (.inl hk) hv rfl) (turn_lt hm64 hk64) (List.Perm.refl _))
    ·subst hy
     refine (one_slots (w := w) (t := { d with steps := d.steps + 1 }) (.inl hk)).trans ?_
     unfold slotsW
     rw [if_neg (by show ¬ d.pc = 1; omega), if_pos (by rw [hl]; exact e), ← htw]
     rfl
    ·subst hy
     rw [all_end _ rfl hs rfl]
     rfl
   ·obtain ⟨y, hy⟩ : ∃ y : TaskH, y = ⟨{ d with steps := d.steps + 1, pc := 1 }, tk, cChg sb fb tb lb, vw, lendB st sb fb tb lb s2 tk⟩ := ⟨_, rfl⟩
    refine fin y [slB st w.room (l : Int)] [] ht hp (w' := { w with lent := (l : Int) }) ?_ (by subst hy; rfl) ?_ (h.set hx (by subst hy; rfl) (by subst hy; exact .lend1 _ _ _ _ _ _ _ _ hk hv rfl) hl64 (List.Perm.refl _))
    ·subst hy
     rw [← hw]
     refine (one_slots (w := w) (t := { d with steps := d.steps + 1 }) (.inl hk)).trans ?_
     unfold slotsW
     rw [if_neg (by show ¬ d.pc = 1; omega), if_neg (by rw [hl]; exact e)]
    ·subst hy
     rw [all_on _ (by dsimp only; decide) hs rfl]
     rfl
 | give1 d tk vw sb fb tb lb s2 gb hk hv hpc =>
   dsimp only at ht hp hs hx ⊢
   refine step_glueS hx hperm (by rw [hall]; exact give1_does hl64 h.room st sb fb tb lb s2 gb tk d.slot d.steps) ?_
   rintro r o (⟨e, rfl, nx, rfl⟩ | ⟨e, rfl, wb, nb, ib, rfl⟩)
   ·obtain ⟨y, hy⟩ : ∃ y : TaskH, y = ⟨{ d with steps := d.steps + 1, bits := w.lent, pc := 0, out := 0, ok := false }, tk, nx, nil0, []⟩ := ⟨_, rfl⟩
    refine fin y [slB st w.room (l : Int)] [] ht hp (w' := { w with lent := (l : Int) }) ?_ (by subst hy; rfl) ?_ (h.set hx (by subst hy; rfl) (by subst hy; exact .done _ _ _ (.inr hk) hv rfl) hl64 (List.Perm.refl _))
    ·subst hy
     rw [← hw]
     refine (one_slots (w := w) (t := { d with steps := d.steps + 1 }) (.inr hk)).trans ?_
     unfold slotsW
     rw [if_pos hpc, if_pos hk, if_pos (by rw [hl]; exact e)]
     rfl
    ·subst hy
     rw [all_end _ rfl hs rfl]
     rfl
   ·obtain ⟨k, hk'⟩ := Int.eq_ofNat_of_zero_le (show 0 ≤ d.slot by omega)
    have hk64 : k < 64 := by have := h.room; omega
    obtain ⟨y, hy⟩ : ∃ y : TaskH, y = ⟨{ d with steps := d.steps + 1, bits := w.lent, pc := 2 }, tk, cChg2 lb tb sb wb nb ib, vw, giveB st sb fb tb lb s2 gb tk d.slot ++ lotB wb nb ib (l : Int) ((l ^^^ (1 <<< d.slot.toNat) : Nat) : Int) d.slot⟩ := ⟨_, rfl⟩
    refine fin y [slB st w.room (l : Int)] [] ht hp (w' := { w with lent := (l : Int) }) ?_ (by subst hy; rfl) ?_ (h.set hx (by subst hy; rfl) ?_ hl64 (List.Perm.refl _))
    ·subst hy
     rw [← hw]
     refine (one_slots (w := w) (t := { d with steps := d.steps + 1 }) (.inr hk)).trans ?_
     unfold slotsW
     rw [if_pos hpc, if_pos hk, if_neg (by rw [hl]; exact e)]
    ·subst hy
     rw [all_on _ (by dsimp only; decide) hs rfl]
     rfl
    ·subst hy
     have := TL.give2 (st := st) { d with steps := d.steps + 1, bits := w.lent, pc := 2 } tk vw sb fb tb lb s2 gb wb nb ib hk hv rfl ⟨⟨l, hl, hl64⟩, k, hk', hk64⟩
     unfold turnW at this
     dsimp only at this
     rw [hl, Int.toNat_natCast] at this
     rw [hl]
     exact this
 | give2 d tk vw sb fb tb lb s2 gb wb nb ib hk hv hpc hg =>
   dsimp only at ht hp hs hx ⊢
   obtain ⟨⟨m, hm, hm64⟩, k, hk', hk64⟩ := hg
   refine step_glueS hx hperm (by rw [hall]; exact give2_does st sb fb tb lb s2 gb tk wb nb ib (w.room : Int) (l : Int) d.slot d.bits (turnW d) d.slot d.steps) ?_
   rintro r o (⟨e, rfl, nx, rfl⟩ | ⟨e, rfl, rfl⟩)
   ·have hout : Ex.wrapQ .u64 d.slot = d.slot := by rw [hk']; exact wrap_nat (by omega)
    have htw : turnW d = ((m ^^^ (1 <<< k) : Nat) : Int) := by unfold turnW; rw [hm, hk', Int.toNat_natCast, Int.toNat_natCast]
    rw [hout, htw]
    obtain ⟨y, hy⟩ : ∃ y : TaskH, y = ⟨{ d with steps := d.steps + 1, pc := 0, out := d.slot, ok := true }, tk, nx, nil0, []⟩ := ⟨_, rfl⟩
    refine fin y [slB st w.room ((m ^^^ (1 <<< k) : Nat) : Int)] [] ht hp (w' := { w with lent := ((m ^^^ (1 <<< k) : Nat) : Int) }) ?_ (by subst hy; rfl) ?_ (h.set hx (by subst hy; rfl) (by subst hy; exact .done _ _ _ (.inr hk) hv rfl) (turn_lt hm64 hk64) (List.Perm.refl _))
    ·subst hy
     refine (one_slots (w := w) (t := { d with steps := d.steps + 1 }) (.inr hk)).trans ?_
     unfold slotsW
     rw [if_neg (by show ¬ d.pc = 1; omega), if_pos (by rw [hl]; exact e), ← htw]
     rfl
    ·subst hy
     rw [all_end _ rfl hs rfl]
     rfl
   ·obtain ⟨y, hy⟩ : ∃ y : TaskH, y = ⟨{ d with steps := d.steps + 1, pc := 1 }, tk, cChg sb fb tb lb, vw, giveB st sb fb tb lb s2 gb tk d.slot⟩ := ⟨_, rfl⟩
    refine fin y [slB st w.room (l : Int)] [] ht hp (w' := { w with lent := (l : Int) }) ?_ (by subst hy; rfl) ?_ (h.set hx (by subst hy; rfl) (by subst hy; exact .give1 _ _ _ _ _ _ _ _ _ hk hv rfl) hl64 (List.Perm.refl _))
    ·subst hy
     rw [← hw]
     refine (one_slots (w := w) (t := { d with steps := d.steps + 1 }) (.inr hk)).trans ?_
     unfold slotsW
     rw [if_neg (by show ¬ d.pc = 1; omega), if_neg (by rw [hl]; exact e)]
    ·subst hy
     rw [all_on _ (by dsimp only; decide) hs rfl]
     rfl
 | done d tk nx hk hv hpc => exact absurd hpc hp
open Go.Proofs.YtjohknpmhlildaaDoor.Sy (Let Blk Cont Bun ptr ptr0 bx tkB tkU clo DoesB usedK ownOf rdsOf Rep does_frame does_perm does_mono does_all does_of S0_holds)
theorem ent_rds {X R S : List Blk} (h : ∀ r ∈ R, r.own = false ∧ ∃ s ∈ S, s.own = false ∧ s.nm = r.nm ∧ ∀ h, s.ct.sat h → r.ct.sat h) : Sy.Ent (X ++ S) (X ++ (R ++ S)) := fun w0 keep W hr => by
 refine ⟨hr.os, hr.tape, hr.output, hr.size, hr.old, fun b hb => ?_, ?_⟩
 ·rcases List.mem_append.1 hb with hb | hb
  ·exact hr.blk b (Sy.mL _ hb)
  rcases List.mem_append.1 hb with hb | hb
  ·obtain ⟨ho, s, hs, -, he, hsat⟩ := h b hb
   refine ⟨?_, fun h => by rw [ho] at h; cases h⟩
   rw [← he]
   exact hsat _ (hr.blk s (Sy.mR _ hs)).1
  ·exact hr.blk b (Sy.mR _ hb)
 ·obtain ⟨f1, f2, f3⟩ := List.pairwise_append.1 hr.far
  refine List.pairwise_append.2 ⟨f1, List.pairwise_append.2 ⟨?_, f2, ?_⟩, ?_⟩
  ·refine List.pairwise_iff_getElem.2 fun i j hi hj _ => ?_
   intro ho
   rw [(h _ (List.getElem_mem hi)).1, (h _ (List.getElem_mem hj)).1] at ho
   cases ho
  ·intro r hrm s hs
   obtain ⟨ho, s', hs', hso, he, -⟩ := h r hrm
   intro hoo
   rw [ho, Bool.false_or] at hoo
   rw [← he]
   obtain ⟨i, hi, ei⟩ := List.mem_iff_getElem.1 hs'
   obtain ⟨j, hj, ej⟩ := List.mem_iff_getElem.1 hs
   by_cases e : i = j
   ·subst e
    rw [ei] at ej
    subst ej
    rw [hso] at hoo
    cases hoo
   ·exact Sy.far_ne f2 (List.getElem?_eq_some_iff.2 ⟨hi, ei⟩) (List.getElem?_eq_some_iff.2 ⟨hj, ej⟩) e (by rw [hoo, Bool.or_true])
  ·intro x hx b hb
   rcases List.mem_append.1 hb with hb | hb
   ·obtain ⟨ho, s, hs, -, he, -⟩ := h b hb
    intro hoo
    rw [← he]
    refine f3 x hx s hs ?_
    rw [ho, Bool.or_false] at hoo
    rw [hoo, Bool.true_or]
   ·exact f3 x hx b hb
structure LkD where
 P : List Nat
 Q : List Nat
 M : List Bool
 W : List (Option (Nat × Nat × Nat))
 V : List Int
 room : Nat
def wv (w : Option (Nat × Nat × Nat)) : Value := match w with
 | some (b, n, c) => sl b n c
 | none => .slice none 0 0
def LkD.same (D : LkD) (k : Nat) : Bool := (List.range k).all fun i => D.P.getD i 0 == D.Q.getD i 0
def LkD.bw (D : LkD) (k : Nat) : Option (Nat × Nat × Nat) := (List.range k).findSome? fun i => if (D.M.getD i false && (D.P.getD i 0 != D.Q.getD i 0)) = true then D.W.getD i none else none
def LkD.ms (D : LkD) (k : Nat) : List Bool := (List.range D.room).map fun i => if i < k then D.M.getD i false || (D.P.getD i 0 != D.Q.getD i 0) else D.M.getD i false
theorem LkD.same_succ (D : LkD) (k : Nat) : D.same (k + 1) = (D.same k && (D.P.getD k 0 == D.Q.getD k 0)) := by
 unfold LkD.same
 rw [List.range_succ, List.all_append]
 simp
theorem LkD.bw_succ (D : LkD) (k : Nat) : D.bw (k + 1) = (D.bw k).or (if (D.M.getD k false && (D.P.getD k 0 != D.Q.getD k 0)) = true then D.W.getD k none else none) := by
 unfold LkD.bw
 rw [List.range_succ, List.findSome?_append]
 simp
theorem LkD.same_bw (D : LkD) : ∀ k, D.same k = true → D.bw k = none
 | 0, _ => rfl
 | k + 1, h => by
   rw [D.same_succ, Bool.and_eq_true] at h
   rw [D.bw_succ, D.same_bw k h.1, beq_iff_eq.1 h.2]
   simp
theorem LkD.ms_zero (D : LkD) (h : D.M.length = D.room) : D.ms 0 = D.M := by
 unfold LkD.ms
 apply List.ext_getElem
 ·simp [h]
 ·intro i h1 h2
  simp [List.getD_eq_getElem?_getD, h2]
theorem LkD.ms_same (D : LkD) {k : Nat} (h : D.P.getD k 0 = D.Q.getD k 0) : D.ms (k + 1) = D.ms k := by
 unfold LkD.ms
 apply List.map_congr_left
 intro i _
 by_cases h1 : i < k
 ·rw [if_pos h1, if_pos (by omega)]
 ·by_cases h2 : i = k
  ·subst h2
   rw [if_pos (by omega), if_neg h1, h]
   simp
  ·rw [if_neg h1, if_neg (by omega)]
theorem LkD.ms_set (D : LkD) {k : Nat} (h : D.P.getD k 0 ≠ D.Q.getD k 0) : D.ms (k + 1) = (D.ms k).set k true := by
 unfold LkD.ms
 apply List.ext_getElem
 ·simp
 ·intro i h1 h2
  rw [List.getElem_set]
  by_cases e : k = i
  ·subst e
   have : (D.P.getD k 0 != D.Q.getD k 0) = true := by simpa using h
   simp only [List.getElem_map, List.getElem_range, if_true]
   rw [if_pos (by omega), this, Bool.or_true]
  ·simp only [List.getElem_map, List.getElem_range, if_neg e]
   by_cases h3 : i < k
   ·rw [if_pos h3, if_pos (by omega)]
   ·rw [if_neg h3, if_neg (by omega)]
theorem LkD.ms_len (D : LkD) (k : Nat) : (D.ms k).length = D.room := by simp [LkD.ms]
theorem LkD.ms_at (D : LkD) {k : Nat} (h : k < D.room) : (D.ms k)[k]? = some (D.M.getD k false) := by
 simp [LkD.ms, h]
structure LkD.ok (D : LkD) (S : Bun) : Prop where
 p : D.P.length = D.room
 q : D.Q.length = D.room
 m : D.M.length = D.room
 pos : 1 ≤ D.room
 lt : D.room < 1000000
 sp : ∀ i, i < D.room → seB (D.P.getD i 0) (D.V.getD i 0) (wv (D.W.getD i none)) ∈ S
 sq : ∀ i, i < D.room → ∃ v w, seB (D.Q.getD i 0) v w ∈ S
def ptrs (l : List Nat) : List Value := l.map fun p => ptr p
def bools (l : List Bool) : List Value := l.map fun b => .bool b
def slO (g tr ca ar ch room : Nat) (same : Bool) (bw : Value) : List (Nat × Value) := [(0, ptr g), (4, sl ar room ch), (5, sl tr room ca), (6, .bool same), (7, bw)]
def l1C (g st tr ca ar ch mr : Nat) (D : LkD) (S : Bun) : Sy.LoopC :=
 ⟨.loop bodyL1, 125, slL1 g tr ca ar ch D.room 0 true (.slice none 0 0), D.ok S, ⟨[(g, (sgB g st (sl tr D.room ca) (.slice none 0 0) (sl mr D.room D.room)).2), prB tr D.room ca (ptrs D.P), prB ar D.room ch (ptrs D.Q)], [blB mr D.room (bools D.M)], 3, S⟩,
  [(⟨fun _ => D.same D.room = true ∧ D.bw D.room = none, fun _ => [blB mr D.room (bools (D.ms D.room))], fun _ => []⟩, .exit 0, fun _ => slO g tr ca ar ch D.room true (.slice none 0 0)),
   (⟨fun _ => D.same D.room = false ∧ D.bw D.room = none, fun _ => [blB mr D.room (bools (D.ms D.room))], fun _ => []⟩, .exit 0, fun _ => slO g tr ca ar ch D.room false (.slice none 0 0)),
   (⟨fun ns => D.same D.room = false ∧ D.bw D.room = some (Sy.num ns 0, Sy.num ns 1, Sy.num ns 2), fun _ => [blB mr D.room (bools (D.ms D.room))], fun _ => []⟩, .exit 0, fun ns => slO g tr ca ar ch D.room false (sl (Sy.num ns 0) (Sy.num ns 1) (Sy.num ns 2)))]⟩
def roL1 (tr ca ar ch : Nat) (D : LkD) (S : Bun) : List Blk := ⟨tr, (prB tr D.room ca (ptrs D.P)).2, false⟩ :: ⟨ar, (prB ar D.room ch (ptrs D.Q)).2, false⟩ :: rdsOf S
def headL1 (g st tr ca ar ch mr : Nat) (D : LkD) (k : Nat) : List Blk := [⟨mr, (blB mr D.room (bools (D.ms k))).2, true⟩, ⟨g, (sgB g st (sl tr D.room ca) (.slice none 0 0) (sl mr D.room D.room)).2, false⟩]
def anyS (S : Bun) (q : Nat) : Int × Value := Classical.epsilon fun x => seB q x.1 x.2 ∈ S
theorem anyS_spec {S : Bun} {q : Nat} (h : ∃ v w, seB q v w ∈ S) : seB q (anyS S q).1 (anyS S q).2 ∈ S := by
 obtain ⟨v, w, h⟩ := h
 exact Classical.epsilon_spec (p := fun x : Int × Value => seB q x.1 x.2 ∈ S) ⟨(v, w), h⟩
def midL1 (tr ar : Nat) (D : LkD) (S : Bun) (k : Nat) : List Blk :=
 [⟨tr, .seg (spK k) [ptr (D.P.getD k 0)], false⟩, ⟨ar, .seg (spK k) [ptr (D.Q.getD k 0)], false⟩, ⟨D.P.getD k 0, (seB (D.P.getD k 0) (D.V.getD k 0) (wv (D.W.getD k none))).2, false⟩, ⟨D.Q.getD k 0, (seB (D.Q.getD k 0) (anyS S (D.Q.getD k 0)).1 (anyS S (D.Q.getD k 0)).2).2, false⟩]
def memL1 (g st tr ca ar ch mr : Nat) (D : LkD) (S : Bun) (k : Nat) : List Blk :=
 headL1 g st tr ca ar ch mr D k ++ (if k < D.room then midL1 tr ar D S k ++ roL1 tr ca ar ch D S else roL1 tr ca ar ch D S)
theorem row_seg {g room ca k : Nat} {P : List Nat} (hk : k < P.length) {h : Option Obj} (hs : (prB g room ca (ptrs P)).2.sat h) : (Cont.seg (spK k) [ptr (P.getD k 0)]).sat h := by
 obtain ⟨cur, hh, hlen, hn, hcap, hsz, htake⟩ := hs
 refine ⟨cur, _, _, hh, fun j u hu => ?_⟩
 cases j with
 | succ j => simp at hu
 | zero =>
   simp only [List.getElem?_cons_zero, Option.some.injEq] at hu
   subst hu
   have e : spK k + 0 = k := by simp [spK]
   rw [e]
   have h1 : (ptrs P)[k]? = some (ptr (P.getD k 0)) := by
    unfold ptrs
    rw [List.getElem?_map, List.getD_eq_getElem?_getD, List.getElem?_eq_getElem hk]
    rfl
   rw [← htake, List.getElem?_take] at h1
   split at h1
   ·exact h1
   ·cases h1
theorem mem_ent {g st tr ca ar ch mr : Nat} {D : LkD} {S : Bun} (h : D.ok S) (k : Nat) : Sy.Ent (headL1 g st tr ca ar ch mr D k ++ roL1 tr ca ar ch D S) (memL1 g st tr ca ar ch mr D S k) := by
 unfold memL1
 split
 ·rename_i hk
  refine ent_rds fun r hr => ?_
  have hrd : ∀ p ∈ S, (⟨p.1, p.2, false⟩ : Blk) ∈ roL1 tr ca ar ch D S := fun p hp => Sy.mC _ (Sy.mC _ (List.mem_map.2 ⟨p, hp, rfl⟩))
  unfold midL1 at hr
  rcases List.mem_cons.1 hr with rfl | hr
  ·exact ⟨rfl, _, Sy.mH, rfl, rfl, fun _ hs => row_seg (g := tr) (room := D.room) (ca := ca) (by rw [h.p]; exact hk) hs⟩
  rcases List.mem_cons.1 hr with rfl | hr
  ·exact ⟨rfl, _, Sy.mC _ Sy.mH, rfl, rfl, fun _ hs => row_seg (g := ar) (room := D.room) (ca := ch) (by rw [h.q]; exact hk) hs⟩
  rcases List.mem_cons.1 hr with rfl | hr
  ·exact ⟨rfl, _, hrd _ (h.sp k hk), rfl, rfl, fun _ hs => hs⟩
  ·rw [List.mem_singleton.1 hr]
   exact ⟨rfl, _, hrd _ (anyS_spec (h.sq k hk)), rfl, rfl, fun _ hs => hs⟩
 ·exact Sy.Ent.refl _
def ctxL1k (mr : Nat) (D : LkD) (k : Nat) : Sy.Ctx := if k < D.room then ctxL1 D.room mr (bools (D.ms k)) k (D.M.getD k false) else ctxL1x D.room k
theorem ctxL1k_holds (mr : Nat) (D : LkD) (k : Nat) : (ctxL1k mr D k).holds Tryd.prog := by
 unfold ctxL1k
 split
 ·refine Sy.mkS_holds (fun _ h => (by cases h)) (fun _ h => (by cases h)) (fun p hp a L => ?_)
  rcases List.mem_cons.1 hp with rfl | hp
  ·exact ltK_met _ _ _
  ·rcases List.mem_singleton.1 hp with rfl
   exact ldP_met _ _ _ _ _ _ _
 ·refine Sy.mkS_holds (fun _ h => (by cases h)) (fun _ h => (by cases h)) (fun p hp a L => ?_)
  rcases List.mem_singleton.1 hp with rfl
  exact ltK_met _ _ _
theorem l1C_met (g st tr ca ar ch mr : Nat) (D : LkD) (S : Bun) : Sy.MeetsL Tryd.prog (l1C g st tr ca ar ch mr D S) := by
 by_cases hD : D.ok S
 rotate_left
 ·intro hok
  exact absurd hok hD
 refine Sy.loop_ofB (σ := Nat) (S := fun k => ctxL1k mr D k) (n := 50) (fn := fLook) (fun _ => ctxL1k_holds _ _ _) mixed (body := bodyL1) rfl [0, 4, 5, 6, 7, 67, 68]
  (fun k => slL1 g tr ca ar ch D.room k (D.same k) (wv (D.bw k))) (memL1 g st tr ca ar ch mr D S) (fun k => k ≤ D.room) (fun k => D.room - k)
  0 (fun _ => Nat.zero_le _) (fun p hp => hp) ?_
  (o := fun k => if k < D.room then (match D.bw k with | none => l1n_o | some _ => l1s_o) else l1x_o)
  (R := fun k f => if k < D.room then (match D.bw k with
   | none => l1n_R g st tr ca ar ch D.room mr (bools (D.ms k)) k (D.P.getD k 0) (D.Q.getD k 0) (D.V.getD k 0) (anyS S (D.Q.getD k 0)).1 (wv (D.W.getD k none)) (anyS S (D.Q.getD k 0)).2 (D.M.getD k false) (D.same k) (roL1 tr ca ar ch D S) f
   | some (b, n, c) => l1s_R g st tr ca ar ch D.room mr b n c (bools (D.ms k)) k (D.P.getD k 0) (D.Q.getD k 0) (D.V.getD k 0) (anyS S (D.Q.getD k 0)).1 (wv (D.W.getD k none)) (anyS S (D.Q.getD k 0)).2 (D.M.getD k false) (D.same k) (roL1 tr ca ar ch D S) f)
   else l1x_R g st tr ca ar ch D.room mr (bools (D.ms k)) k (wv (D.bw k)) (D.same k) (roL1 tr ca ar ch D S) f) ?_ ?_
 ·refine Sy.Ent.trans ?_ (mem_ent hD 0)
  have e : headL1 g st tr ca ar ch mr D 0 ++ roL1 tr ca ar ch D S = [⟨mr, (blB mr D.room (bools D.M)).2, true⟩, ⟨g, (sgB g st (sl tr D.room ca) (.slice none 0 0) (sl mr D.room D.room)).2, false⟩, ⟨tr, (prB tr D.room ca (ptrs D.P)).2, false⟩, ⟨ar, (prB ar D.room ch (ptrs D.Q)).2, false⟩] ++ rdsOf S := by
   unfold headL1
   rw [D.ms_zero hD.m]
   rfl
  rw [e]
  refine Sy.Ent.perm ?_
  show List.Perm ([⟨g, (sgB g st (sl tr D.room ca) (.slice none 0 0) (sl mr D.room D.room)).2, false⟩, ⟨tr, (prB tr D.room ca (ptrs D.P)).2, false⟩, ⟨ar, (prB ar D.room ch (ptrs D.Q)).2, false⟩] ++ ([⟨mr, (blB mr D.room (bools D.M)).2, true⟩] ++ rdsOf S)) _
  rw [← List.append_assoc]
  exact List.Perm.append_right _ (List.perm_append_comm (l₁ := [_, _, _]) (l₂ := [_]))
 ·intro k f hk
  by_cases hlt : k < D.room
  ·simp only [memL1, ctxL1k, if_pos hlt]
   cases hb : D.bw k with
   | none => exact l1n_run g st tr ca ar ch D.room mr (bools (D.ms k)) k (D.P.getD k 0) (D.Q.getD k 0) (D.V.getD k 0) (anyS S (D.Q.getD k 0)).1 (wv (D.W.getD k none)) (anyS S (D.Q.getD k 0)).2 (D.M.getD k false) (D.same k) (roL1 tr ca ar ch D S) f
   | some x => exact l1s_run g st tr ca ar ch D.room mr x.1 x.2.1 x.2.2 (bools (D.ms k)) k (D.P.getD k 0) (D.Q.getD k 0) (D.V.getD k 0) (anyS S (D.Q.getD k 0)).1 (wv (D.W.getD k none)) (anyS S (D.Q.getD k 0)).2 (D.M.getD k false) (D.same k) (roL1 tr ca ar ch D S) f
  ·simp only [memL1, ctxL1k, if_neg hlt]
   exact l1x_run g st tr ca ar ch D.room mr (bools (D.ms k)) k (wv (D.bw k)) (D.same k) (roL1 tr ca ar ch D S) f
 intro _ k f hk ns
 have hnorm : ∀ {s' : Bool} {w' : Value} {k' : Int} {L : List Blk}, D.same (k + 1) = s' → wv (D.bw (k + 1)) = w' → k' = Int.ofNat (k + 1) → Sy.Ent L (headL1 g st tr ca ar ch mr D (k + 1) ++ roL1 tr ca ar ch D S) → k < D.room →
   Sy.leafLB (l1C g st tr ca ar ch mr D S) [0, 4, 5, 6, 7, 67, 68] (fun k => slL1 g tr ca ar ch D.room k (D.same k) (wv (D.bw k))) (memL1 g st tr ca ar ch mr D S) (fun k => k ≤ D.room) (fun k => D.room - k) k
    (.normal, 125, [ptr g, sl ar D.room ch, sl tr D.room ca, .bool s', w', .int .i64 (Int.ofNat D.room), .int .i64 k'], L) := by
  rintro s' w' k' L rfl rfl rfl hL hlt
  exact ⟨rfl, .inl ⟨rfl, k + 1, hlt, by show D.room - (k + 1) < D.room - k; omega, rfl, Sy.Ent.trans hL (mem_ent hD (k + 1))⟩⟩
 by_cases hlt : k < D.room
 ·have hw : Ex.wrapQ .i64 (Ex.addQ (Int.ofNat k) 1) = Int.ofNat (k + 1) := stp_nat (k := k) (by have := hD.lt; omega)
  have hsp : 0 + Int.toNat (Int.ofNat k) * 1 = k := by simp
  have hkk : (0 : Int) ≤ Int.ofNat k ∧ Int.ofNat k < (D.room : Int) := ⟨Int.natCast_nonneg k, by show (k : Int) < _; omega⟩
  have hE0 : ∀ {a b c d : Blk}, Sy.Ent (⟨mr, (blB mr D.room (bools (D.ms (k + 1)))).2, true⟩ :: ⟨g, (sgB g st (sl tr D.room ca) (.slice none 0 0) (sl mr D.room D.room)).2, false⟩ :: a :: b :: c :: d :: roL1 tr ca ar ch D S) (headL1 g st tr ca ar ch mr D (k + 1) ++ roL1 tr ca ar ch D S) := by
   intro a b c d
   refine Sy.Ent.sub (.cons_cons _ (.cons_cons _ (.cons _ (.cons _ (.cons _ (.cons _ (List.Sublist.refl _)))))))
  have hset : D.P.getD k 0 ≠ D.Q.getD k 0 → (bools (D.ms k)).set (0 + Int.toNat (Int.ofNat k) * 1) (.bool true) = bools (D.ms (k + 1)) := fun hne => by
   rw [hsp, D.ms_set hne]
   simp [bools, List.map_set]
  have hat : (bools (D.ms k))[k]? = some (.bool (D.M.getD k false)) := by
   simp only [bools, List.getElem?_map, D.ms_at hlt, Option.map_some]
  have hlen : 0 + Int.toNat (Int.ofNat k) * 1 < (bools (D.ms k)).length := by rw [hsp]; simp [bools, D.ms_len, hlt]
  have hadr : (adrV (ptr0) = ⟨0, 0, none⟩) := rfl
  cases hb : D.bw k with
  | none =>
    simp only [if_pos hlt, hb, l1n_R, Sy.Res.holds, hw]
    refine ⟨by simp [hlt], fun _ => ⟨hkk, hkk, fun he => ?_, fun hne => ⟨hkk, ⟨trivial, by simp [adrV], hat⟩, fun _ => ⟨fun hm => ⟨hkk, hkk, hlen, ?_⟩, fun hm => ⟨hkk, hlen, ?_⟩⟩⟩⟩⟩
    ·have he := br_eq (p := D.P.getD k 0) (q := D.Q.getD k 0) he
     refine hnorm (by rw [D.same_succ, he]; simp) (by rw [D.bw_succ, hb, he]; simp [wv]) rfl ?_ hlt
     rw [← D.ms_same he]
     exact hE0
    ·have hne : D.P.getD k 0 ≠ D.Q.getD k 0 := fun he => br_ne (p := D.P.getD k 0) (q := D.Q.getD k 0) hne (by rw [he])
     have hm : D.M.getD k false = true := by cases hx : D.M.getD k false <;> simp_all
     rw [hset hne]
     exact hnorm (by rw [D.same_succ, beq_eq_false_iff_ne.2 hne, Bool.and_false]) (by rw [D.bw_succ, hb, hm, bne_iff_ne.2 hne]; rfl) rfl hE0 hlt
    ·have hne : D.P.getD k 0 ≠ D.Q.getD k 0 := fun he => br_ne (p := D.P.getD k 0) (q := D.Q.getD k 0) hne (by rw [he])
     have hm : D.M.getD k false = false := by cases hx : D.M.getD k false <;> simp_all
     rw [hset hne]
     exact hnorm (by rw [D.same_succ, beq_eq_false_iff_ne.2 hne, Bool.and_false]) (by rw [D.bw_succ, hb, hm]; rfl) rfl hE0 hlt
  | some x =>
    obtain ⟨bb, bn, bc⟩ := x
    simp only [if_pos hlt, hb, l1s_R, Sy.Res.holds, hw]
    refine ⟨by simp [hlt], fun _ => ⟨hkk, hkk, fun he => ?_, fun hne => ⟨hkk, ⟨trivial, by simp [adrV], hat⟩, fun _ => ⟨fun hm => ?_, fun hm => ⟨hkk, hlen, ?_⟩⟩⟩⟩⟩
    ·have he := br_eq (p := D.P.getD k 0) (q := D.Q.getD k 0) he
     refine hnorm (by rw [D.same_succ, he]; simp) (by rw [D.bw_succ, hb]; rfl) rfl ?_ hlt
     rw [← D.ms_same he]
     exact hE0
    ·exfalso
     cases hx : D.M.getD k false <;> simp_all
    ·have hne : D.P.getD k 0 ≠ D.Q.getD k 0 := fun he => br_ne (p := D.P.getD k 0) (q := D.Q.getD k 0) hne (by rw [he])
     rw [hset hne]
     exact hnorm (by rw [D.same_succ, beq_eq_false_iff_ne.2 hne, Bool.and_false]) (by rw [D.bw_succ, hb]; rfl) rfl hE0 hlt
 ·have hke : k = D.room := by omega
  subst hke
  simp only [if_neg hlt, l1x_R, Sy.Res.holds]
  refine ⟨by simp, fun _ => ⟨rfl, .inr ⟨by simp, ?_⟩⟩⟩
  cases hs : D.same D.room with
  | true =>
    rw [D.same_bw _ hs]
    exact ⟨_, Sy.mH, rfl, [Let.none, Let.none, Let.none], rfl, ⟨[0, 1, 2, 3, 4], rfl⟩, Sy.Ent.sub (.cons_cons _ (List.nil_sublist _)), hs, D.same_bw _ hs⟩
  | false =>
    cases hb : D.bw D.room with
    | none => exact ⟨_, Sy.mC _ Sy.mH, rfl, [Let.none, Let.none, Let.none], rfl, ⟨[0, 1, 2, 3, 4], rfl⟩, Sy.Ent.sub (.cons_cons _ (List.nil_sublist _)), hs, hb⟩
    | some x =>
      obtain ⟨bb, bn, bc⟩ := x
      exact ⟨_, Sy.mC _ (Sy.mC _ Sy.mH), rfl, [⟨bb, 0, false, undef, [], []⟩, ⟨bn, 0, false, undef, [], []⟩, ⟨bc, 0, false, undef, [], []⟩], rfl, ⟨[0, 1, 2, 3, 4], rfl⟩, Sy.Ent.sub (.cons_cons _ (List.nil_sublist _)), hs, hb⟩
open Go.Proofs.YtjohknpmhlildaaDoor.Sy (Let Blk Cont Bun ptr ptr0 bx tkB tkU clo DoesB usedK ownOf rdsOf Rep does_frame does_perm does_mono does_all does_of S0_holds)
def ints (l : List Int) : List Value := l.map fun v => .int .u64 v
def l2C (tr ca : Nat) (D : LkD) (S : Bun) : Sy.LoopC :=
 ⟨.loop bodyL2, 125, slL2 tr ca D.room 0 (.slice none 0 0), D.ok S ∧ D.V.length = D.room, ⟨[prB tr D.room ca (ptrs D.P)], [], 2, S⟩,
  [(⟨fun ns => D.room ≤ Sy.num ns 1, fun ns => [(Sy.num ns 0, .row tU 1 D.room (Sy.num ns 1) (ints D.V))], fun _ => []⟩, .exit 2, fun ns => [(9, sl (Sy.num ns 0) D.room (Sy.num ns 1)), (110, sl tr D.room ca)])]⟩
def atK (D : LkD) (k : Nat) : Nat := if k < D.room then k else 0
def pL2 (D : LkD) (k : Nat) : Blk := ⟨D.P.getD (atK D k) 0, (seB (D.P.getD (atK D k) 0) (D.V.getD (atK D k) 0) (wv (D.W.getD (atK D k) none))).2, false⟩
def memL2 (tr ca : Nat) (D : LkD) (S : Bun) (s : Nat × Option (Nat × Nat)) : List Blk := match s.2 with
 | none => ⟨tr, (prB tr D.room ca (ptrs D.P)).2, false⟩ :: pL2 D s.1 :: rdsOf S
 | some (g, c) => ⟨tr, (prB tr D.room ca (ptrs D.P)).2, false⟩ :: ⟨g, .row tU 1 s.1 c (ints (D.V.take s.1)), true⟩ :: pL2 D s.1 :: rdsOf S
def slS2 (tr ca : Nat) (D : LkD) (s : Nat × Option (Nat × Nat)) : List (Nat × Value) := match s.2 with
 | none => slL2 tr ca D.room s.1 (.slice none 0 0)
 | some (g, c) => slL2 tr ca D.room s.1 (sl g s.1 c)
structure okL2 (D : LkD) (s : Nat × Option (Nat × Nat)) : Prop where
 le : s.1 ≤ D.room
 nil : s.2 = none → s.1 = 0
 row : ∀ g c, s.2 = some (g, c) → 0 < s.1 ∧ s.1 ≤ c
theorem pL2_in {D : LkD} {S : Bun} (h : D.ok S) (k : Nat) {X : List Blk} : Sy.Ent (X ++ rdsOf S) (X ++ ([pL2 D k] ++ rdsOf S)) := by
 refine ent_rds fun r hr => ?_
 rw [List.mem_singleton.1 hr]
 have hk : atK D k < D.room := by
  unfold atK
  split
  ·assumption
  ·exact h.pos
 exact ⟨rfl, _, List.mem_map.2 ⟨_, h.sp _ hk, rfl⟩, rfl, rfl, fun _ hs => hs⟩
def ctxL2k (tr ca : Nat) (D : LkD) (k : Nat) : Sy.Ctx := ctxL2 tr ca D.room (ptrs D.P) k (D.P.getD (atK D k) 0)
theorem ctxL2k_holds (tr ca : Nat) (D : LkD) (k : Nat) : (ctxL2k tr ca D k).holds Tryd.prog := by
 refine Sy.mkS_holds (fun _ h => (by cases h)) (fun _ h => (by cases h)) (fun p hp a L => ?_)
 rcases List.mem_singleton.1 hp with rfl
 exact ldP_met _ _ _ _ _ _ _
theorem l2C_met (tr ca : Nat) (D : LkD) (S : Bun) : Sy.MeetsL Tryd.prog (l2C tr ca D S) := by
 by_cases hok : D.ok S ∧ D.V.length = D.room
 rotate_left
 ·intro h
  exact absurd h hok
 obtain ⟨hD, hV⟩ := hok
 refine Sy.loop_ofB (σ := Nat × Option (Nat × Nat)) (S := fun s => ctxL2k tr ca D s.1) (n := 50) (fn := fLook) (fun _ => ctxL2k_holds _ _ _ _) mixed (body := bodyL2) rfl [9, 110, 111, 112]
  (slS2 tr ca D) (memL2 tr ca D S) (okL2 D) (fun s => D.room - s.1)
  (0, none) (fun _ => ⟨Nat.zero_le _, fun _ => rfl, fun _ _ h => (by cases h)⟩) (fun p hp => hp) (pL2_in (X := [⟨tr, (prB tr D.room ca (ptrs D.P)).2, false⟩]) hD 0)
  (o := fun s => match s.2 with | none => l2n_o | some _ => l2s_o)
  (R := fun s f => match s.2 with
   | none => l2n_R tr ca D.room (ptrs D.P) s.1 (D.P.getD (atK D s.1) 0) (D.V.getD (atK D s.1) 0) (wv (D.W.getD (atK D s.1) none)) (rdsOf S) f
   | some (g, c) => l2s_R tr ca D.room (ptrs D.P) s.1 (D.P.getD (atK D s.1) 0) g c (ints (D.V.take s.1)) (D.V.getD (atK D s.1) 0) (wv (D.W.getD (atK D s.1) none)) (rdsOf S) f) ?_ ?_
 ·rintro ⟨k, r⟩ f -
  cases r with
  | none => exact l2n_run tr ca D.room (ptrs D.P) k (D.P.getD (atK D k) 0) (D.V.getD (atK D k) 0) (wv (D.W.getD (atK D k) none)) (rdsOf S) f
  | some x => exact l2s_run tr ca D.room (ptrs D.P) k (D.P.getD (atK D k) 0) x.1 x.2 (ints (D.V.take k)) (D.V.getD (atK D k) 0) (wv (D.W.getD (atK D k) none)) (rdsOf S) f
 rintro - ⟨k, r⟩ f ⟨hle, hnil, hrow⟩ ns
 simp only at hle hnil hrow
 have hlt64 := hD.lt
 have hw : Ex.wrapQ .i64 (Ex.addQ (Int.ofNat k) 1) = Int.ofNat (k + 1) := stp_nat (k := k) (by omega)
 have hP : ∀ h : k < D.room, (prB tr D.room ca (ptrs D.P)).2.at k = some (ptr (D.P.getD (atK D k) 0)) := fun h => by
  have e : atK D k = k := by unfold atK; rw [if_pos h]
  rw [e]
  show (ptrs D.P)[k]? = _
  unfold ptrs
  rw [List.getElem?_map, List.getD_eq_getElem?_getD, List.getElem?_eq_getElem (by rw [hD.p]; exact h)]
  rfl
 have hVk : ∀ h : k < D.room, ints (D.V.take k) ++ [.int .u64 (D.V.getD (atK D k) 0)] = ints (D.V.take (k + 1)) := fun h => by
  have e : atK D k = k := by unfold atK; rw [if_pos h]
  rw [e, List.take_add_one, List.getD_eq_getElem?_getD, List.getElem?_eq_getElem (by rw [hV]; exact h)]
  unfold ints
  rw [List.map_append]
  rfl
 cases r with
 | none =>
   have hk0 := hnil rfl
   subst hk0
   have hpos := hD.pos
   simp only [l2n_R, Sy.Res.holds, hw]
   refine ⟨fun _ => ⟨⟨by decide, by show ((0 : Nat) : Int) < (D.room : Int); omega⟩, ⟨trivial, by simp [adrV], hP (by omega)⟩, fun _ hc => ?_⟩, fun hge => ?_⟩
   ·refine ⟨rfl, .inl ⟨rfl, (1, some ((ns 1).n, (ns 2).n)), ⟨by show 1 ≤ D.room; omega, fun h => (by cases h), fun g c h => ?_⟩, by show D.room - 1 < D.room - 0; omega, rfl, ?_⟩⟩
    ·injection h with h
     injection h with h1 h2
     subst h1 h2
     exact ⟨Nat.one_pos, hc⟩
    ·have hv := hVk (by omega)
     have hv : [Value.int .u64 (D.V.getD (atK D 0) 0)] = ints (D.V.take 1) := by rw [← hv]; simp [ints]
     rw [hv]
     refine Sy.Ent.trans ?_ (pL2_in (X := [⟨tr, (prB tr D.room ca (ptrs D.P)).2, false⟩, ⟨(ns 1).n, .row tU 1 1 (ns 2).n (ints (D.V.take 1)), true⟩]) hD 1)
     exact Sy.Ent.trans (Sy.Ent.perm ((List.Perm.cons _ (List.Perm.swap _ _ _)).trans (List.Perm.swap _ _ _))) (Sy.Ent.sub (.cons_cons _ (.cons_cons _ (.cons _ (.cons _ (List.Sublist.refl _))))))
   ·exfalso
    rw [Ex.ltQ_eq] at hge
    have := of_decide_eq_false hge
    simp only [Int.ofNat_eq_natCast] at this
    omega
 | some x =>
   obtain ⟨g, c⟩ := x
   obtain ⟨hp, hc0⟩ := hrow g c rfl
   simp only [l2s_R, Sy.Res.holds, hw]
   refine ⟨fun hlt => ?_, fun hge => ?_⟩
   ·have hlt : k < D.room := by rw [Ex.ltQ_eq] at hlt; have := of_decide_eq_true hlt; simp only [Int.ofNat_eq_natCast] at this; omega
    refine ⟨⟨Int.natCast_nonneg k, by show (k : Int) < _; omega⟩, ⟨trivial, by simp [adrV], hP hlt⟩, fun _ => ⟨by omega, by omega, fun hc => ?_⟩⟩
    refine ⟨rfl, .inl ⟨rfl, (k + 1, some ((ns 1).n, (ns 2).n)), ⟨hlt, fun h => (by cases h), fun g c h => ?_⟩, by show D.room - (k + 1) < D.room - k; omega, rfl, ?_⟩⟩
    ·injection h with h
     injection h with h1 h2
     subst h1 h2
     exact ⟨Nat.succ_pos _, hc⟩
    ·have hv := hVk hlt
     have hv : List.append (ints (D.V.take k)) [Value.int .u64 (D.V.getD (atK D k) 0)] = ints (D.V.take (k + 1)) := hv
     rw [hv]
     refine Sy.Ent.trans ?_ (pL2_in (X := [⟨tr, (prB tr D.room ca (ptrs D.P)).2, false⟩, ⟨(ns 1).n, .row tU 1 (k + 1) (ns 2).n (ints (D.V.take (k + 1))), true⟩]) hD (k + 1))
     exact Sy.Ent.trans (Sy.Ent.perm ((List.Perm.cons _ (List.Perm.swap _ _ _)).trans (List.Perm.swap _ _ _))) (Sy.Ent.sub (.cons_cons _ (.cons_cons _ (.cons _ (.cons _ (List.Sublist.refl _))))))
   ·have hge : k = D.room := by rw [Ex.ltQ_eq] at hge; have := of_decide_eq_false hge; simp only [Int.ofNat_eq_natCast] at this; omega
    subst hge
    refine ⟨rfl, .inr ⟨by simp, _, Sy.mS _, rfl, [⟨g, 0, false, undef, [], []⟩, ⟨c, 0, false, undef, [], []⟩], rfl, ⟨[0, 1], rfl⟩, ?_, hc0⟩⟩
    have hv : D.V.take D.room = D.V := List.take_of_length_le (by omega)
    rw [hv]
    exact Sy.Ent.sub (.cons _ (.cons_cons _ (List.nil_sublist _)))
open Go.Proofs.YtjohknpmhlildaaDoor.Sy (Let Blk Cont Bun ptr ptr0 bx tkB tkU clo)
abbrev snB (n rr lr room : Nat) : Nat × Cont := (n, .obj (.cells #[sl rr room room, sl lr room room] tSn (0, 0)))
abbrev apB (rr room : Nat) (cs : List Value) : Nat × Cont := (rr, .row tApS 1 room room cs)
abbrev cScan (gb hb tb : Nat) : Value := clo 95 #[ptr gb, ptr hb, ptr tb]
abbrev cTh7 : Value := clo 75 #[]
abbrev cTh8 (sb ib vb : Nat) : Value := clo 76 #[ptr sb, ptr ib, ptr vb]
abbrev cUp2 (sb ib vb wb ub : Nat) : Value := clo 77 #[ptr sb, ptr ib, ptr vb, ptr wb, ptr ub]
def deadL (b : Code) : Sy.LoopC := ⟨.loop b, 125, [], False, ⟨[], [], 0, []⟩, [(⟨fun _ => True, fun _ => [], fun _ => []⟩, .exit 0, fun _ => [(5, .slice none 0 0), (6, .bool false), (7, .slice none 0 0)])]⟩
theorem deadL_met (b : Code) : Sy.MeetsL Tryd.prog (deadL b) := fun h => h.elim
def slN (v : Value) : Nat := match v with
 | .slice (some ⟨g, _, _⟩) _ _ => g
 | _ => 0
def slCp (v : Value) : Nat := match v with
 | .slice _ _ c => c
 | _ => 0
def l1V (g st tr ca ar ch mr room : Nat) (xs ys ms : List Value) (D : LkD) (S : Bun) : Sy.LoopC :=
 ⟨.loop bodyL1, 125, slL1 g tr ca ar ch room 0 true (.slice none 0 0), (xs = ptrs D.P ∧ ys = ptrs D.Q ∧ ms = bools D.M ∧ room = D.room) ∧ D.ok S, ⟨[(g, (sgB g st (sl tr room ca) (.slice none 0 0) (sl mr room room)).2), prB tr room ca xs, prB ar room ch ys], [blB mr room ms], 3, S⟩,
  [(⟨fun _ => D.same D.room = true ∧ D.bw D.room = none, fun _ => [blB mr room (bools (D.ms D.room))], fun _ => []⟩, .exit 0, fun _ => slO g tr ca ar ch room true (.slice none 0 0)),
   (⟨fun _ => D.same D.room = false ∧ D.bw D.room = none, fun _ => [blB mr room (bools (D.ms D.room))], fun _ => []⟩, .exit 0, fun _ => slO g tr ca ar ch room false (.slice none 0 0)),
   (⟨fun ns => D.same D.room = false ∧ D.bw D.room = some (Sy.num ns 0, Sy.num ns 1, Sy.num ns 2), fun _ => [blB mr room (bools (D.ms D.room))], fun _ => []⟩, .exit 0, fun ns => slO g tr ca ar ch room false (sl (Sy.num ns 0) (Sy.num ns 1) (Sy.num ns 2)))]⟩
theorem l1V_met (g st tr ca ar ch mr room : Nat) (xs ys ms : List Value) (D : LkD) (S : Bun) : Sy.MeetsL Tryd.prog (l1V g st tr ca ar ch mr room xs ys ms D S) := by
 rintro ⟨⟨rfl, rfl, rfl, rfl⟩, h⟩
 exact l1C_met g st tr ca ar ch mr D S h
def l2V (tr ca room : Nat) (xs : List Value) (D : LkD) (S : Bun) : Sy.LoopC :=
 ⟨.loop bodyL2, 125, slL2 tr ca room 0 (.slice none 0 0), (xs = ptrs D.P ∧ room = D.room) ∧ D.ok S ∧ D.V.length = D.room, ⟨[prB tr room ca xs], [], 2, S⟩,
  [(⟨fun ns => room ≤ Sy.num ns 1, fun ns => [(Sy.num ns 0, .row tU 1 room (Sy.num ns 1) (ints D.V))], fun _ => []⟩, .exit 2, fun ns => [(9, sl (Sy.num ns 0) room (Sy.num ns 1)), (110, sl tr room ca)])]⟩
theorem l2V_met (tr ca room : Nat) (xs : List Value) (D : LkD) (S : Bun) : Sy.MeetsL Tryd.prog (l2V tr ca room xs D S) := by
 rintro ⟨⟨rfl, rfl⟩, h⟩
 exact l2C_met tr ca D S h
def stX (rr room : Nat) (cs : List Value) (i : Int) (a : Sy.F) : Sy.OpK := stA rr tApS room room cs (0 + Int.toNat i * 1) (some (adrV (a.get 8)))
theorem stX_met (rr room : Nat) (cs : List Value) (i : Int) (a : Sy.F) : (stX rr room cs i a).meets Tryd.prog := stA_met _ _ _ _ _ _ _
def ctxA (rr room c p : Nat) (cs : List Value) : Sy.Ctx := Sy.mkS [] [(fLook, fun _ _ => deadL bodyL1)] [(fLdP, 6, fun _ _ => ldA rr (apB rr room cs).2 (spK c) (some ⟨p, 0, none⟩))]
theorem ctxA_holds (rr room c p : Nat) (cs : List Value) : (ctxA rr room c p cs).holds Tryd.prog := Sy.mkS_holds (fun _ h => (by cases h)) (fun q hq a L => by
 rcases List.mem_singleton.1 hq with rfl
 exact deadL_met _) (fun q hq a L => by
 rcases List.mem_singleton.1 hq with rfl
 exact ldA_met _ _ _ _)
def ctxB (g st mr rr room c p : Nat) (cs xs ys ms : List Value) (D : LkD) (S : Bun) : Sy.Ctx :=
 Sy.mkS [] [(fLook, fun f _ => l1V g st (slN (f.get 5)) (slCp (f.get 5)) (slN (f.get 4)) (slCp (f.get 4)) mr room xs ys ms D S), (fLook, fun f _ => l2V (slN (f.get 110)) (slCp (f.get 110)) room xs D S)] [(fLdP, 6, fun _ _ => ldA rr (apB rr room cs).2 (spK c) (some ⟨p, 0, none⟩))]
theorem ctxB_holds (g st mr rr room c p : Nat) (cs xs ys ms : List Value) (D : LkD) (S : Bun) : (ctxB g st mr rr room c p cs xs ys ms D S).holds Tryd.prog := Sy.mkS_holds (fun _ h => (by cases h)) (fun q hq a L => by
 rcases List.mem_cons.1 hq with rfl | hq
 ·exact l1V_met _ _ _ _ _ _ _ _ _ _ _ _ _
 ·rcases List.mem_singleton.1 hq with rfl
  exact l2V_met _ _ _ _ _ _) (fun q hq a L => by
 rcases List.mem_singleton.1 hq with rfl
 exact ldA_met _ _ _ _)
def ctxS (rr room : Nat) (cs : List Value) (i : Int) : Sy.Ctx := Sy.mkS [] [] [(fStP, 9, fun a _ => stX rr room cs i a), (fStP, 900002, fun a _ => stX rr room cs i a)]
theorem ctxS_holds (rr room : Nat) (cs : List Value) (i : Int) : (ctxS rr room cs i).holds Tryd.prog := Sy.mkS_holds (fun _ h => (by cases h)) (fun _ h => (by cases h)) (fun q hq a L => by
 rcases List.mem_cons.1 hq with rfl | hq
 ·exact stX_met _ _ _ _ _
 ·rcases List.mem_singleton.1 hq with rfl
  exact stX_met _ _ _ _ _)
end Go.Proofs.YtjohknpmhlildaaDoor.At
--@way 2,3
namespace Go.Proofs.YtjohknpmhlildaaDoor.At
open Sy.O (fork nil step steps)
open Sy.Res (need hyp br leaf both)
open Go Go.RowKit
open Go.Proofs.YtjohknpmhlildaaDoor.Sy (Let Blk Cont Bun ptr ptr0 bx tkB tkU clo)
def sa7nn_o : Sy.O := (steps [1, 0, 0, 1, 0, 1, 0, 0, 0, 1, 0, 0, 2, 0, 2, 9, 0, 1, 2, 3, 4, 0, 5, 0, 5, 6, 7, 8, 0, 5, 0, 9, 10, 11, 0, 6, 0, 12, 13, 14, 15, 0, 5, 0, 16, 0, 17, 0, 1, 26, 0, 8, 1, 0, 0, 1, 1, 1, 1, 0] (steps [1, 2, 3, 4, 5, 6, 8, 26, 1, 0, 2, 3, 4, 5, 6, 7, 9, 26, 0, 0, 0, 0, 0, 0, 0, 1, 0, 0, 1, 1, 0, 3, 4, 5, 6, 7, 8, 10, 21, 22, 26, 8, 0, 0, 3, 0, 1, 2, 3, 0, 8, 0, 4, 0, 5, 6, 7, 8, 0, 8] (steps [0, 9, 10, 11, 0, 10, 0, 12, 0, 13] (fork (steps [0, 4] nil) (steps [3, 0, 1, 2, 3, 0, 8, 0, 4, 5, 6, 7, 0, 8, 0, 8, 9, 8, 0, 0, 8, 0, 0, 0, 0, 4] nil)))))
noncomputable def sa7nn_R (tk gb hb tb g st mr rr lr p room : Nat) (steps vp : Int) (wp : Value) (ms cs : List Value) (TL : List Blk) (ns : Nat → Sy.Let) : Sy.Res (Value × List Blk) :=
 let z0 := Cont.row 136 1 room room cs
 let z1 := some (Addr.mk p 0 none)
 let z2 := Cont.row 133 1 1 (ns 2).n [Value.pointer z1]
 let z3 := Cont.obj (Obj.cells (Array.mk [.pointer z1]) 133)
 let z4 := Cont.obj (Obj.cells (Array.mk [.int .u64 vp, wp]) 139)
 let z5 := Array.mk []
 let z6 := Cont.obj (Obj.cells (Array.mk [Value.func (Fn.func 95) z5 (Array.mk [.pointer (some ⟨gb, 0, none⟩), .pointer (some ⟨hb, 0, none⟩), .pointer (some ⟨tb, 0, none⟩)]), .int .u32 0, .int .i64 (Ex.wrapQ .i64 (Ex.addQ steps 1)), .int .u64 0, .bool false, .slice none 0 0]) 100)
 let z7 := Cont.obj (Obj.cells (Array.mk [.pointer (some ⟨g, 0, none⟩)]) 177)
 let z8 := Cont.obj (Obj.cells (Array.mk [Value.func (Fn.func 75) z5 z5]) 152)
 let z9 := Cont.obj (Obj.cells (Array.mk [.pointer (some ⟨tk, 0, none⟩)]) 48)
 let z10 := some (Addr.mk st 0 none)
 let z11 := some (Addr.mk (ns 1).n 0 none)
 let z12 := some (Addr.mk mr 0 none)
 let z13 := Cont.row 4 1 room room ms
 let z14 := Cont.obj (Obj.cells (Array.mk [.slice (some ⟨rr, 0, none⟩) room room, .slice (some ⟨lr, 0, none⟩) room room]) 132)
 need ((0 : Int) ≤ 0 ∧ 0 < (↑room : Int)) (need (Cont.at z0 0 = some (Value.pointer z1)) (hyp True (hyp (Nat.le 1 (ns 2).n) (br (Ex.ltQ 1 (Int.ofNat room)) (leaf (Value.bool false, Blk.mk (ns 1).n z2 true :: Blk.mk (ns 0).n z3 true :: Blk.mk rr z0 true :: Blk.mk p z4 false :: Blk.mk tk z6 true :: Blk.mk gb z7 true :: Blk.mk hb z8 true :: Blk.mk tb z9 true :: Blk.mk g (Cont.obj (Obj.cells (Array.mk [.pointer z10, .slice none 0 0, .slice z11 1 (ns 2).n, .slice z12 room room]) 180)) true :: Blk.mk mr z13 true :: Blk.mk st z14 true :: TL)) (leaf (Value.bool false, Blk.mk (ns 1).n z2 true :: Blk.mk (ns 0).n z3 true :: Blk.mk rr z0 true :: Blk.mk p z4 false :: Blk.mk tk z6 true :: Blk.mk gb z7 true :: Blk.mk hb z8 true :: Blk.mk tb z9 true :: Blk.mk g (Cont.obj (Obj.cells (Array.mk [.pointer z10, .slice z11 1 (ns 2).n, .slice none 0 0, .slice z12 room room]) 180)) true :: Blk.mk mr z13 true :: Blk.mk st z14 true :: TL))))))
theorem sa7nn_run (tk gb hb tb g st mr rr lr p room : Nat) (steps vp : Int) (wp : Value) (ms cs : List Value) (TL : List Blk) : Sy.Ran (Sy.inB Tryd.prog (ctxA rr room 0 p cs) 50 fStep #[ptr tk] (⟨p, (seB p vp wp).2, false⟩ :: ⟨tk, (tkU tk (cScan gb hb tb) steps).2, true⟩ :: ⟨gb, (bx gb tGP (ptr g)).2, true⟩ :: ⟨hb, (bx hb tTh cTh7).2, true⟩ :: ⟨tb, (bx tb tTP (ptr tk)).2, true⟩ :: ⟨g, (sgB g st (.slice none 0 0) (.slice none 0 0) (sl mr room room)).2, true⟩ :: ⟨mr, (blB mr room ms).2, true⟩ :: ⟨st, (snB st rr lr room).2, true⟩ :: ⟨rr, (apB rr room cs).2, true⟩ :: TL)) sa7nn_o (sa7nn_R tk gb hb tb g st mr rr lr p room steps vp wp ms cs TL) := ⟨fun _ => by kernel_rfl, fun _ => by kernel_rfl⟩
def sa7ns_o : Sy.O := (steps [1, 0, 0, 1, 0, 1, 0, 0, 0, 1, 0, 0, 2, 0, 2, 10, 0, 1, 2, 3, 4, 0, 5, 0, 5, 6, 7, 8, 0, 5, 0, 9, 10, 11, 0, 6, 0, 12, 13, 14, 15, 0, 5, 0, 16, 0, 17, 0, 1, 26, 0, 9, 1, 0, 0, 1, 1, 1, 1, 0] (steps [1, 2, 3, 4, 5, 6, 9, 26, 1, 0, 2, 3, 4, 5, 6, 7, 10, 26, 0, 0, 0, 0, 0, 0, 0, 1, 0, 0, 1, 1, 0, 3, 4, 5, 6, 7, 8, 11, 21, 22, 26, 8, 0, 0, 3, 0, 1, 2, 3, 0, 8, 0, 4, 0, 5, 6, 7, 8, 0, 8] (steps [0, 9, 10, 11, 0, 11, 0, 12, 0, 13] (fork (steps [0, 4] nil) (steps [3, 0, 1, 2, 3, 0, 8, 0, 4, 5, 6, 7, 0, 8, 0, 8, 9, 8, 0, 0, 8, 0, 0, 0, 0, 0, 0, 0, 1, 0, 0, 4] nil)))))
noncomputable def sa7ns_R (tk gb hb tb g st mr rr lr p room ar ch : Nat) (steps vp : Int) (wp : Value) (ms cs ys : List Value) (TL : List Blk) (ns : Nat → Sy.Let) : Sy.Res (Value × List Blk) :=
 let z0 := Cont.row 136 1 room room cs
 let z1 := some (Addr.mk p 0 none)
 let z2 := Cont.row 133 1 1 (ns 2).n [Value.pointer z1]
 let z3 := Cont.obj (Obj.cells (Array.mk [.pointer z1]) 133)
 let z4 := Cont.obj (Obj.cells (Array.mk [.int .u64 vp, wp]) 139)
 let z5 := Array.mk []
 let z6 := Cont.obj (Obj.cells (Array.mk [Value.func (Fn.func 95) z5 (Array.mk [.pointer (some ⟨gb, 0, none⟩), .pointer (some ⟨hb, 0, none⟩), .pointer (some ⟨tb, 0, none⟩)]), .int .u32 0, .int .i64 (Ex.wrapQ .i64 (Ex.addQ steps 1)), .int .u64 0, .bool false, .slice none 0 0]) 100)
 let z7 := Cont.obj (Obj.cells (Array.mk [.pointer (some ⟨g, 0, none⟩)]) 177)
 let z8 := Cont.obj (Obj.cells (Array.mk [Value.func (Fn.func 75) z5 z5]) 152)
 let z9 := Cont.obj (Obj.cells (Array.mk [.pointer (some ⟨tk, 0, none⟩)]) 48)
 let z10 := some (Addr.mk st 0 none)
 let z11 := some (Addr.mk (ns 1).n 0 none)
 let z12 := some (Addr.mk mr 0 none)
 let z13 := Cont.row 4 1 room room ms
 let z14 := Cont.row 133 1 room ch ys
 let z15 := Cont.obj (Obj.cells (Array.mk [.slice (some ⟨rr, 0, none⟩) room room, .slice (some ⟨lr, 0, none⟩) room room]) 132)
 need ((0 : Int) ≤ 0 ∧ 0 < (↑room : Int)) (need (Cont.at z0 0 = some (Value.pointer z1)) (hyp True (hyp (Nat.le 1 (ns 2).n) (br (Ex.ltQ 1 (Int.ofNat room)) (leaf (Value.bool false, Blk.mk (ns 1).n z2 true :: Blk.mk (ns 0).n z3 true :: Blk.mk rr z0 true :: Blk.mk p z4 false :: Blk.mk tk z6 true :: Blk.mk gb z7 true :: Blk.mk hb z8 true :: Blk.mk tb z9 true :: Blk.mk g (Cont.obj (Obj.cells (Array.mk [.pointer z10, .slice (some ⟨ar, 0, none⟩) room ch, .slice z11 1 (ns 2).n, .slice z12 room room]) 180)) true :: Blk.mk mr z13 true :: Blk.mk ar z14 true :: Blk.mk st z15 true :: TL)) (need False (hyp True (leaf (Value.bool false, Blk.mk (ns 1).n z2 true :: Blk.mk (ns 0).n z3 true :: Blk.mk rr z0 true :: Blk.mk p z4 false :: Blk.mk tk z6 true :: Blk.mk gb z7 true :: Blk.mk hb z8 true :: Blk.mk tb z9 true :: Blk.mk g (Cont.obj (Obj.cells (Array.mk [.pointer z10, .slice z11 1 (ns 2).n, .slice none 0 0, .slice z12 room room]) 180)) true :: Blk.mk mr z13 true :: Blk.mk ar z14 true :: Blk.mk st z15 true :: TL))))))))
theorem sa7ns_run (tk gb hb tb g st mr rr lr p room ar ch : Nat) (steps vp : Int) (wp : Value) (ms cs ys : List Value) (TL : List Blk) : Sy.Ran (Sy.inB Tryd.prog (ctxA rr room 0 p cs) 50 fStep #[ptr tk] (⟨p, (seB p vp wp).2, false⟩ :: ⟨tk, (tkU tk (cScan gb hb tb) steps).2, true⟩ :: ⟨gb, (bx gb tGP (ptr g)).2, true⟩ :: ⟨hb, (bx hb tTh cTh7).2, true⟩ :: ⟨tb, (bx tb tTP (ptr tk)).2, true⟩ :: ⟨g, (sgB g st (sl ar room ch) (.slice none 0 0) (sl mr room room)).2, true⟩ :: ⟨mr, (blB mr room ms).2, true⟩ :: ⟨ar, (prB ar room ch ys).2, true⟩ :: ⟨st, (snB st rr lr room).2, true⟩ :: ⟨rr, (apB rr room cs).2, true⟩ :: TL)) sa7ns_o (sa7ns_R tk gb hb tb g st mr rr lr p room ar ch steps vp wp ms cs ys TL) := ⟨fun _ => by kernel_rfl, fun _ => by kernel_rfl⟩
def sa7sn_o : Sy.O := (steps [1, 0, 0, 1, 0, 1, 0, 0, 0, 1, 0, 0, 2, 0, 2, 10, 0, 1, 2, 3, 4, 0, 5, 0, 5, 6, 7, 8, 0, 5, 0, 9, 10, 11, 0, 6, 0, 12, 13, 14, 15, 0, 5, 0, 16, 0, 17, 0, 1, 26, 0, 9, 1, 0, 0, 1, 1, 1, 1, 0] (steps [1, 2, 3, 4, 5, 6, 9, 26, 1, 0, 2, 3, 4, 5, 6, 7, 10, 26, 0, 0, 0, 9, 0, 1, 1, 0, 1, 8, 1, 0, 0, 1, 1, 0, 3, 4, 5, 6, 7, 8, 10, 21, 22, 26, 8, 0, 0, 3, 0, 1, 2, 3, 0, 8, 0, 4, 0, 5, 6, 7] (steps [8, 0, 8, 0, 9, 10, 11, 0, 10, 0, 12, 0, 13] (fork (steps [0, 4] nil) (steps [3, 0, 1, 2, 3, 0, 8, 0, 4, 5, 6, 7, 0, 8, 0, 8, 9, 8, 0, 0, 8, 0, 0, 0, 0, 4] nil)))))
noncomputable def sa7sn_R (tk gb hb tb g st mr rr lr p room tr ca c : Nat) (steps vp : Int) (wp : Value) (ms cs xs : List Value) (TL : List Blk) (ns : Nat → Sy.Let) : Sy.Res (Value × List Blk) :=
 let z0 := Cont.row 136 1 room room cs
 let z1 := some (Addr.mk p 0 none)
 let z2 := c + 1
 let z3 := Cont.row 133 1 z2 (ns 2).n (xs.append [Value.pointer z1])
 let z4 := Cont.obj (Obj.cells (Array.mk [.pointer z1]) 133)
 let z5 := Cont.obj (Obj.cells (Array.mk [.int .u64 vp, wp]) 139)
 let z6 := Array.mk []
 let z7 := Cont.obj (Obj.cells (Array.mk [Value.func (Fn.func 95) z6 (Array.mk [.pointer (some ⟨gb, 0, none⟩), .pointer (some ⟨hb, 0, none⟩), .pointer (some ⟨tb, 0, none⟩)]), .int .u32 0, .int .i64 (Ex.wrapQ .i64 (Ex.addQ steps 1)), .int .u64 0, .bool false, .slice none 0 0]) 100)
 let z8 := Cont.obj (Obj.cells (Array.mk [.pointer (some ⟨g, 0, none⟩)]) 177)
 let z9 := Cont.obj (Obj.cells (Array.mk [Value.func (Fn.func 75) z6 z6]) 152)
 let z10 := Cont.obj (Obj.cells (Array.mk [.pointer (some ⟨tk, 0, none⟩)]) 48)
 let z11 := some (Addr.mk st 0 none)
 let z12 := some (Addr.mk (ns 1).n 0 none)
 let z13 := some (Addr.mk mr 0 none)
 let z14 := Cont.row 4 1 room room ms
 let z15 := Cont.obj (Obj.cells (Array.mk [.slice (some ⟨rr, 0, none⟩) room room, .slice (some ⟨lr, 0, none⟩) room room]) 132)
 need (0 ≤ Int.ofNat c ∧ Int.ofNat c < (↑room : Int)) (need (Cont.at z0 (0 + Int.toNat (Int.ofNat c) * 1) = some (Value.pointer z1)) (hyp True (need (c + (1 : Nat) ≤ 9223372036854775807) (need (z2 * (8 : Nat) ≤ 140737488355328) (hyp (Nat.le z2 (ns 2).n) (br (Ex.ltQ (Int.ofNat z2) (Int.ofNat room)) (leaf (Value.bool false, Blk.mk (ns 1).n z3 true :: Blk.mk (ns 0).n z4 true :: Blk.mk rr z0 true :: Blk.mk p z5 false :: Blk.mk tk z7 true :: Blk.mk gb z8 true :: Blk.mk hb z9 true :: Blk.mk tb z10 true :: Blk.mk g (Cont.obj (Obj.cells (Array.mk [.pointer z11, .slice none 0 0, .slice z12 z2 (ns 2).n, .slice z13 room room]) 180)) true :: Blk.mk mr z14 true :: Blk.mk st z15 true :: TL)) (leaf (Value.bool false, Blk.mk (ns 1).n z3 true :: Blk.mk (ns 0).n z4 true :: Blk.mk rr z0 true :: Blk.mk p z5 false :: Blk.mk tk z7 true :: Blk.mk gb z8 true :: Blk.mk hb z9 true :: Blk.mk tb z10 true :: Blk.mk g (Cont.obj (Obj.cells (Array.mk [.pointer z11, .slice z12 z2 (ns 2).n, .slice none 0 0, .slice z13 room room]) 180)) true :: Blk.mk mr z14 true :: Blk.mk st z15 true :: TL))))))))
theorem sa7sn_run (tk gb hb tb g st mr rr lr p room tr ca c : Nat) (steps vp : Int) (wp : Value) (ms cs xs : List Value) (TL : List Blk) : Sy.Ran (Sy.inB Tryd.prog (ctxA rr room c p cs) 50 fStep #[ptr tk] (⟨p, (seB p vp wp).2, false⟩ :: ⟨tk, (tkU tk (cScan gb hb tb) steps).2, true⟩ :: ⟨gb, (bx gb tGP (ptr g)).2, true⟩ :: ⟨hb, (bx hb tTh cTh7).2, true⟩ :: ⟨tb, (bx tb tTP (ptr tk)).2, true⟩ :: ⟨g, (sgB g st (.slice none 0 0) (sl tr c ca) (sl mr room room)).2, true⟩ :: ⟨mr, (blB mr room ms).2, true⟩ :: ⟨tr, (prB tr c ca xs).2, true⟩ :: ⟨st, (snB st rr lr room).2, true⟩ :: ⟨rr, (apB rr room cs).2, true⟩ :: TL)) sa7sn_o (sa7sn_R tk gb hb tb g st mr rr lr p room tr ca c steps vp wp ms cs xs TL) := ⟨fun _ => by kernel_rfl, fun _ => by kernel_rfl⟩
def sa7ss_o : Sy.O := (steps [1, 0, 0, 1, 0, 1, 0, 0, 0, 1, 0, 0, 2, 0, 2, 11, 0, 1, 2, 3, 4, 0, 5, 0, 5, 6, 7, 8, 0, 5, 0, 9, 10, 11, 0, 6, 0, 12, 13, 14, 15, 0, 5, 0, 16, 0, 17, 0, 1, 26, 0, 10, 1, 0, 0, 1, 1, 1, 1, 0] (steps [1, 2, 3, 4, 5, 6, 10, 26, 1, 0, 2, 3, 4, 5, 6, 7, 11, 26, 0, 0, 0, 9, 0, 1, 1, 0, 1, 8, 1, 0, 0, 1, 1, 0, 3, 4, 5, 6, 7, 8, 11, 21, 22, 26, 8, 0, 0, 3, 0, 1, 2, 3, 0, 8, 0, 4, 0, 5, 6, 7] (steps [8, 0, 8, 0, 9, 10, 11, 0, 11, 0, 12, 0, 13] (fork (steps [0, 4] nil) (steps [3, 0, 1, 2, 3, 0, 8, 0, 4, 5, 6, 7, 0, 8, 0, 8, 9, 8, 0, 0, 8, 0, 0, 0, 0, 0, 0, 0, 1, 0, 0, 4] nil)))))
noncomputable def sa7ss_R (tk gb hb tb g st mr rr lr p room tr ca c ar ch : Nat) (steps vp : Int) (wp : Value) (ms cs xs ys : List Value) (TL : List Blk) (ns : Nat → Sy.Let) : Sy.Res (Value × List Blk) :=
 let z0 := Cont.row 136 1 room room cs
 let z1 := some (Addr.mk p 0 none)
 let z2 := c + 1
 let z3 := Cont.row 133 1 z2 (ns 2).n (xs.append [Value.pointer z1])
 let z4 := Cont.obj (Obj.cells (Array.mk [.pointer z1]) 133)
 let z5 := Cont.obj (Obj.cells (Array.mk [.int .u64 vp, wp]) 139)
 let z6 := Array.mk []
 let z7 := Cont.obj (Obj.cells (Array.mk [Value.func (Fn.func 95) z6 (Array.mk [.pointer (some ⟨gb, 0, none⟩), .pointer (some ⟨hb, 0, none⟩), .pointer (some ⟨tb, 0, none⟩)]), .int .u32 0, .int .i64 (Ex.wrapQ .i64 (Ex.addQ steps 1)), .int .u64 0, .bool false, .slice none 0 0]) 100)
 let z8 := Cont.obj (Obj.cells (Array.mk [.pointer (some ⟨g, 0, none⟩)]) 177)
 let z9 := Cont.obj (Obj.cells (Array.mk [Value.func (Fn.func 75) z6 z6]) 152)
 let z10 := Cont.obj (Obj.cells (Array.mk [.pointer (some ⟨tk, 0, none⟩)]) 48)
 let z11 := some (Addr.mk st 0 none)
 let z12 := some (Addr.mk (ns 1).n 0 none)
 let z13 := some (Addr.mk mr 0 none)
 let z14 := Cont.row 4 1 room room ms
 let z15 := Cont.row 133 1 room ch ys
 let z16 := Cont.obj (Obj.cells (Array.mk [.slice (some ⟨rr, 0, none⟩) room room, .slice (some ⟨lr, 0, none⟩) room room]) 132)
 need (0 ≤ Int.ofNat c ∧ Int.ofNat c < (↑room : Int)) (need (Cont.at z0 (0 + Int.toNat (Int.ofNat c) * 1) = some (Value.pointer z1)) (hyp True (need (c + (1 : Nat) ≤ 9223372036854775807) (need (z2 * (8 : Nat) ≤ 140737488355328) (hyp (Nat.le z2 (ns 2).n) (br (Ex.ltQ (Int.ofNat z2) (Int.ofNat room)) (leaf (Value.bool false, Blk.mk (ns 1).n z3 true :: Blk.mk (ns 0).n z4 true :: Blk.mk rr z0 true :: Blk.mk p z5 false :: Blk.mk tk z7 true :: Blk.mk gb z8 true :: Blk.mk hb z9 true :: Blk.mk tb z10 true :: Blk.mk g (Cont.obj (Obj.cells (Array.mk [.pointer z11, .slice (some ⟨ar, 0, none⟩) room ch, .slice z12 z2 (ns 2).n, .slice z13 room room]) 180)) true :: Blk.mk mr z14 true :: Blk.mk ar z15 true :: Blk.mk st z16 true :: TL)) (need False (hyp True (leaf (Value.bool false, Blk.mk (ns 1).n z3 true :: Blk.mk (ns 0).n z4 true :: Blk.mk rr z0 true :: Blk.mk p z5 false :: Blk.mk tk z7 true :: Blk.mk gb z8 true :: Blk.mk hb z9 true :: Blk.mk tb z10 true :: Blk.mk g (Cont.obj (Obj.cells (Array.mk [.pointer z11, .slice z12 z2 (ns 2).n, .slice none 0 0, .slice z13 room room]) 180)) true :: Blk.mk mr z14 true :: Blk.mk ar z15 true :: Blk.mk st z16 true :: TL))))))))))
theorem sa7ss_run (tk gb hb tb g st mr rr lr p room tr ca c ar ch : Nat) (steps vp : Int) (wp : Value) (ms cs xs ys : List Value) (TL : List Blk) : Sy.Ran (Sy.inB Tryd.prog (ctxA rr room c p cs) 50 fStep #[ptr tk] (⟨p, (seB p vp wp).2, false⟩ :: ⟨tk, (tkU tk (cScan gb hb tb) steps).2, true⟩ :: ⟨gb, (bx gb tGP (ptr g)).2, true⟩ :: ⟨hb, (bx hb tTh cTh7).2, true⟩ :: ⟨tb, (bx tb tTP (ptr tk)).2, true⟩ :: ⟨g, (sgB g st (sl ar room ch) (sl tr c ca) (sl mr room room)).2, true⟩ :: ⟨mr, (blB mr room ms).2, true⟩ :: ⟨tr, (prB tr c ca xs).2, true⟩ :: ⟨ar, (prB ar room ch ys).2, true⟩ :: ⟨st, (snB st rr lr room).2, true⟩ :: ⟨rr, (apB rr room cs).2, true⟩ :: TL)) sa7ss_o (sa7ss_R tk gb hb tb g st mr rr lr p room tr ca c ar ch steps vp wp ms cs xs ys TL) := ⟨fun _ => by kernel_rfl, fun _ => by kernel_rfl⟩
def sa8nn_o : Sy.O := (steps [1, 0, 0, 1, 0, 1, 0, 0, 0, 1, 0, 0, 2, 0, 2, 12, 0, 1, 2, 3, 4, 0, 5, 0, 5, 6, 7, 8, 0, 5, 0, 9, 10, 11, 0, 9, 0, 12, 13, 14, 15, 0, 5, 0, 16, 0, 17, 0, 1, 26, 0, 11, 1, 0, 0, 1, 1, 1, 1, 0] (steps [1, 2, 3, 4, 5, 6, 8, 9, 10, 11, 26, 1, 0, 2, 3, 4, 5, 6, 7, 9, 10, 11, 12, 26, 0, 0, 0, 0, 0, 0, 0, 1, 0, 0, 1, 1, 0, 3, 4, 5, 6, 7, 8, 10, 11, 12, 13, 21, 22, 26, 8, 0, 0, 3, 0, 1, 2, 3, 0, 8] (steps [0, 4, 0, 5, 6, 7, 8, 0, 8, 0, 9, 10, 11, 0, 13, 0, 12, 0, 13] (fork (steps [0, 4] nil) (steps [3, 0, 1, 2, 3, 0, 8, 0, 4, 5, 6, 7, 0, 8, 0, 8, 9, 8, 0, 0, 8, 0, 0, 0, 0, 4] nil)))))
noncomputable def sa8nn_R (tk gb hb tb g st mr rr lr p room sb ib vb : Nat) (steps vp i v : Int) (wp : Value) (ms cs : List Value) (TL : List Blk) (ns : Nat → Sy.Let) : Sy.Res (Value × List Blk) :=
 let z0 := Cont.row 136 1 room room cs
 let z1 := some (Addr.mk p 0 none)
 let z2 := Cont.row 133 1 1 (ns 2).n [Value.pointer z1]
 let z3 := Cont.obj (Obj.cells (Array.mk [.pointer z1]) 133)
 let z4 := Cont.obj (Obj.cells (Array.mk [.int .u64 vp, wp]) 139)
 let z5 := Cont.obj (Obj.cells (Array.mk [Value.func (Fn.func 95) (Array.mk []) (Array.mk [.pointer (some ⟨gb, 0, none⟩), .pointer (some ⟨hb, 0, none⟩), .pointer (some ⟨tb, 0, none⟩)]), .int .u32 0, .int .i64 (Ex.wrapQ .i64 (Ex.addQ steps 1)), .int .u64 0, .bool false, .slice none 0 0]) 100)
 let z6 := Cont.obj (Obj.cells (Array.mk [.pointer (some ⟨g, 0, none⟩)]) 177)
 let z7 := Cont.obj (Obj.cells (Array.mk [Value.func (Fn.func 76) (Array.mk []) (Array.mk [.pointer (some ⟨sb, 0, none⟩), .pointer (some ⟨ib, 0, none⟩), .pointer (some ⟨vb, 0, none⟩)])]) 152)
 let z8 := Cont.obj (Obj.cells (Array.mk [.pointer (some ⟨tk, 0, none⟩)]) 48)
 let z9 := some (Addr.mk st 0 none)
 let z10 := some (Addr.mk (ns 1).n 0 none)
 let z11 := some (Addr.mk mr 0 none)
 let z12 := Cont.row 4 1 room room ms
 let z13 := Cont.obj (Obj.cells (Array.mk [.pointer z9]) 28)
 let z14 := Cont.obj (Obj.cells (Array.mk [.int .i64 i]) 3)
 let z15 := Cont.obj (Obj.cells (Array.mk [.int .u64 v]) 36)
 let z16 := Cont.obj (Obj.cells (Array.mk [.slice (some ⟨rr, 0, none⟩) room room, .slice (some ⟨lr, 0, none⟩) room room]) 132)
 need ((0 : Int) ≤ 0 ∧ 0 < (↑room : Int)) (need (Cont.at z0 0 = some (Value.pointer z1)) (hyp True (hyp (Nat.le 1 (ns 2).n) (br (Ex.ltQ 1 (Int.ofNat room)) (leaf (Value.bool false, Blk.mk (ns 1).n z2 true :: Blk.mk (ns 0).n z3 true :: Blk.mk rr z0 true :: Blk.mk p z4 false :: Blk.mk tk z5 true :: Blk.mk gb z6 true :: Blk.mk hb z7 true :: Blk.mk tb z8 true :: Blk.mk g (Cont.obj (Obj.cells (Array.mk [.pointer z9, .slice none 0 0, .slice z10 1 (ns 2).n, .slice z11 room room]) 180)) true :: Blk.mk mr z12 true :: Blk.mk sb z13 true :: Blk.mk ib z14 true :: Blk.mk vb z15 true :: Blk.mk st z16 true :: TL)) (leaf (Value.bool false, Blk.mk (ns 1).n z2 true :: Blk.mk (ns 0).n z3 true :: Blk.mk rr z0 true :: Blk.mk p z4 false :: Blk.mk tk z5 true :: Blk.mk gb z6 true :: Blk.mk hb z7 true :: Blk.mk tb z8 true :: Blk.mk g (Cont.obj (Obj.cells (Array.mk [.pointer z9, .slice z10 1 (ns 2).n, .slice none 0 0, .slice z11 room room]) 180)) true :: Blk.mk mr z12 true :: Blk.mk sb z13 true :: Blk.mk ib z14 true :: Blk.mk vb z15 true :: Blk.mk st z16 true :: TL))))))
theorem sa8nn_run (tk gb hb tb g st mr rr lr p room sb ib vb : Nat) (steps vp i v : Int) (wp : Value) (ms cs : List Value) (TL : List Blk) : Sy.Ran (Sy.inB Tryd.prog (ctxA rr room 0 p cs) 50 fStep #[ptr tk] (⟨p, (seB p vp wp).2, false⟩ :: ⟨tk, (tkU tk (cScan gb hb tb) steps).2, true⟩ :: ⟨gb, (bx gb tGP (ptr g)).2, true⟩ :: ⟨hb, (bx hb tTh (cTh8 sb ib vb)).2, true⟩ :: ⟨tb, (bx tb tTP (ptr tk)).2, true⟩ :: ⟨g, (sgB g st (.slice none 0 0) (.slice none 0 0) (sl mr room room)).2, true⟩ :: ⟨mr, (blB mr room ms).2, true⟩ :: ⟨sb, (bx sb tSnP (ptr st)).2, true⟩ :: ⟨ib, (bx ib tI (.int .i64 i)).2, true⟩ :: ⟨vb, (bx vb tU (.int .u64 v)).2, true⟩ :: ⟨st, (snB st rr lr room).2, true⟩ :: ⟨rr, (apB rr room cs).2, true⟩ :: TL)) sa8nn_o (sa8nn_R tk gb hb tb g st mr rr lr p room sb ib vb steps vp i v wp ms cs TL) := ⟨fun _ => by kernel_rfl, fun _ => by kernel_rfl⟩
def sa8ns_o : Sy.O := (steps [1, 0, 0, 1, 0, 1, 0, 0, 0, 1, 0, 0, 2, 0, 2, 13, 0, 1, 2, 3, 4, 0, 5, 0, 5, 6, 7, 8, 0, 5, 0, 9, 10, 11, 0, 9, 0, 12, 13, 14, 15, 0, 5, 0, 16, 0, 17, 0, 1, 26, 0, 12, 1, 0, 0, 1, 1, 1, 1, 0] (steps [1, 2, 3, 4, 5, 6, 9, 10, 11, 12, 26, 1, 0, 2, 3, 4, 5, 6, 7, 10, 11, 12, 13, 26, 0, 0, 0, 0, 0, 0, 0, 1, 0, 0, 1, 1, 0, 3, 4, 5, 6, 7, 8, 11, 12, 13, 14, 21, 22, 26, 8, 0, 0, 3, 0, 1, 2, 3, 0, 8] (steps [0, 4, 0, 5, 6, 7, 8, 0, 8, 0, 9, 10, 11, 0, 14, 0, 12, 0, 13] (fork (steps [0, 4] nil) (steps [3, 0, 1, 2, 3, 0, 8, 0, 4, 5, 6, 7, 0, 8, 0, 8, 9, 8, 0, 0, 8, 0, 0, 0, 0, 0, 0, 0, 1, 0, 0, 4] nil)))))
noncomputable def sa8ns_R (tk gb hb tb g st mr rr lr p room ar ch sb ib vb : Nat) (steps vp i v : Int) (wp : Value) (ms cs ys : List Value) (TL : List Blk) (ns : Nat → Sy.Let) : Sy.Res (Value × List Blk) :=
 let z0 := Cont.row 136 1 room room cs
 let z1 := some (Addr.mk p 0 none)
 let z2 := Cont.row 133 1 1 (ns 2).n [Value.pointer z1]
 let z3 := Cont.obj (Obj.cells (Array.mk [.pointer z1]) 133)
 let z4 := Cont.obj (Obj.cells (Array.mk [.int .u64 vp, wp]) 139)
 let z5 := Cont.obj (Obj.cells (Array.mk [Value.func (Fn.func 95) (Array.mk []) (Array.mk [.pointer (some ⟨gb, 0, none⟩), .pointer (some ⟨hb, 0, none⟩), .pointer (some ⟨tb, 0, none⟩)]), .int .u32 0, .int .i64 (Ex.wrapQ .i64 (Ex.addQ steps 1)), .int .u64 0, .bool false, .slice none 0 0]) 100)
 let z6 := Cont.obj (Obj.cells (Array.mk [.pointer (some ⟨g, 0, none⟩)]) 177)
 let z7 := Cont.obj (Obj.cells (Array.mk [Value.func (Fn.func 76) (Array.mk []) (Array.mk [.pointer (some ⟨sb, 0, none⟩), .pointer (some ⟨ib, 0, none⟩), .pointer (some ⟨vb, 0, none⟩)])]) 152)
 let z8 := Cont.obj (Obj.cells (Array.mk [.pointer (some ⟨tk, 0, none⟩)]) 48)
 let z9 := some (Addr.mk st 0 none)
 let z10 := some (Addr.mk (ns 1).n 0 none)
 let z11 := some (Addr.mk mr 0 none)
 let z12 := Cont.row 4 1 room room ms
 let z13 := Cont.row 133 1 room ch ys
 let z14 := Cont.obj (Obj.cells (Array.mk [.pointer z9]) 28)
 let z15 := Cont.obj (Obj.cells (Array.mk [.int .i64 i]) 3)
 let z16 := Cont.obj (Obj.cells (Array.mk [.int .u64 v]) 36)
 let z17 := Cont.obj (Obj.cells (Array.mk [.slice (some ⟨rr, 0, none⟩) room room, .slice (some ⟨lr, 0, none⟩) room room]) 132)
 need ((0 : Int) ≤ 0 ∧ 0 < (↑room : Int)) (need (Cont.at z0 0 = some (Value.pointer z1)) (hyp True (hyp (Nat.le 1 (ns 2).n) (br (Ex.ltQ 1 (Int.ofNat room)) (leaf (Value.bool false, Blk.mk (ns 1).n z2 true :: Blk.mk (ns 0).n z3 true :: Blk.mk rr z0 true :: Blk.mk p z4 false :: Blk.mk tk z5 true :: Blk.mk gb z6 true :: Blk.mk hb z7 true :: Blk.mk tb z8 true :: Blk.mk g (Cont.obj (Obj.cells (Array.mk [.pointer z9, .slice (some ⟨ar, 0, none⟩) room ch, .slice z10 1 (ns 2).n, .slice z11 room room]) 180)) true :: Blk.mk mr z12 true :: Blk.mk ar z13 true :: Blk.mk sb z14 true :: Blk.mk ib z15 true :: Blk.mk vb z16 true :: Blk.mk st z17 true :: TL)) (need False (hyp True (leaf (Value.bool false, Blk.mk (ns 1).n z2 true :: Blk.mk (ns 0).n z3 true :: Blk.mk rr z0 true :: Blk.mk p z4 false :: Blk.mk tk z5 true :: Blk.mk gb z6 true :: Blk.mk hb z7 true :: Blk.mk tb z8 true :: Blk.mk g (Cont.obj (Obj.cells (Array.mk [.pointer z9, .slice z10 1 (ns 2).n, .slice none 0 0, .slice z11 room room]) 180)) true :: Blk.mk mr z12 true :: Blk.mk ar z13 true :: Blk.mk sb z14 true :: Blk.mk ib z15 true :: Blk.mk vb z16 true :: Blk.mk st z17 true :: TL))))))))
theorem sa8ns_run (tk gb hb tb g st mr rr lr p room ar ch sb ib vb : Nat) (steps vp i v : Int) (wp : Value) (ms cs ys : List Value) (TL : List Blk) : Sy.Ran (Sy.inB Tryd.prog (ctxA rr room 0 p cs) 50 fStep #[ptr tk] (⟨p, (seB p vp wp).2, false⟩ :: ⟨tk, (tkU tk (cScan gb hb tb) steps).2, true⟩ :: ⟨gb, (bx gb tGP (ptr g)).2, true⟩ :: ⟨hb, (bx hb tTh (cTh8 sb ib vb)).2, true⟩ :: ⟨tb, (bx tb tTP (ptr tk)).2, true⟩ :: ⟨g, (sgB g st (sl ar room ch) (.slice none 0 0) (sl mr room room)).2, true⟩ :: ⟨mr, (blB mr room ms).2, true⟩ :: ⟨ar, (prB ar room ch ys).2, true⟩ :: ⟨sb, (bx sb tSnP (ptr st)).2, true⟩ :: ⟨ib, (bx ib tI (.int .i64 i)).2, true⟩ :: ⟨vb, (bx vb tU (.int .u64 v)).2, true⟩ :: ⟨st, (snB st rr lr room).2, true⟩ :: ⟨rr, (apB rr room cs).2, true⟩ :: TL)) sa8ns_o (sa8ns_R tk gb hb tb g st mr rr lr p room ar ch sb ib vb steps vp i v wp ms cs ys TL) := ⟨fun _ => by kernel_rfl, fun _ => by kernel_rfl⟩
def sa8sn_o : Sy.O := (steps [1, 0, 0, 1, 0, 1, 0, 0, 0, 1, 0, 0, 2, 0, 2, 13, 0, 1, 2, 3, 4, 0, 5, 0, 5, 6, 7, 8, 0, 5, 0, 9, 10, 11, 0, 9, 0, 12, 13, 14, 15, 0, 5, 0, 16, 0, 17, 0, 1, 26, 0, 12, 1, 0, 0, 1, 1, 1, 1, 0] (steps [1, 2, 3, 4, 5, 6, 9, 10, 11, 12, 26, 1, 0, 2, 3, 4, 5, 6, 7, 10, 11, 12, 13, 26, 0, 0, 0, 9, 0, 1, 1, 0, 1, 8, 1, 0, 0, 1, 1, 0, 3, 4, 5, 6, 7, 8, 10, 11, 12, 13, 21, 22, 26, 8, 0, 0, 3, 0, 1, 2] (steps [3, 0, 8, 0, 4, 0, 5, 6, 7, 8, 0, 8, 0, 9, 10, 11, 0, 13, 0, 12, 0, 13] (fork (steps [0, 4] nil) (steps [3, 0, 1, 2, 3, 0, 8, 0, 4, 5, 6, 7, 0, 8, 0, 8, 9, 8, 0, 0, 8, 0, 0, 0, 0, 4] nil)))))
noncomputable def sa8sn_R (tk gb hb tb g st mr rr lr p room tr ca c sb ib vb : Nat) (steps vp i v : Int) (wp : Value) (ms cs xs : List Value) (TL : List Blk) (ns : Nat → Sy.Let) : Sy.Res (Value × List Blk) :=
 let z0 := Cont.row 136 1 room room cs
 let z1 := some (Addr.mk p 0 none)
 let z2 := c + 1
 let z3 := Cont.row 133 1 z2 (ns 2).n (xs.append [Value.pointer z1])
 let z4 := Cont.obj (Obj.cells (Array.mk [.pointer z1]) 133)
 let z5 := Cont.obj (Obj.cells (Array.mk [.int .u64 vp, wp]) 139)
 let z6 := Cont.obj (Obj.cells (Array.mk [Value.func (Fn.func 95) (Array.mk []) (Array.mk [.pointer (some ⟨gb, 0, none⟩), .pointer (some ⟨hb, 0, none⟩), .pointer (some ⟨tb, 0, none⟩)]), .int .u32 0, .int .i64 (Ex.wrapQ .i64 (Ex.addQ steps 1)), .int .u64 0, .bool false, .slice none 0 0]) 100)
 let z7 := Cont.obj (Obj.cells (Array.mk [.pointer (some ⟨g, 0, none⟩)]) 177)
 let z8 := Cont.obj (Obj.cells (Array.mk [Value.func (Fn.func 76) (Array.mk []) (Array.mk [.pointer (some ⟨sb, 0, none⟩), .pointer (some ⟨ib, 0, none⟩), .pointer (some ⟨vb, 0, none⟩)])]) 152)
 let z9 := Cont.obj (Obj.cells (Array.mk [.pointer (some ⟨tk, 0, none⟩)]) 48)
 let z10 := some (Addr.mk st 0 none)
 let z11 := some (Addr.mk (ns 1).n 0 none)
 let z12 := some (Addr.mk mr 0 none)
 let z13 := Cont.row 4 1 room room ms
 let z14 := Cont.obj (Obj.cells (Array.mk [.pointer z10]) 28)
 let z15 := Cont.obj (Obj.cells (Array.mk [.int .i64 i]) 3)
 let z16 := Cont.obj (Obj.cells (Array.mk [.int .u64 v]) 36)
 let z17 := Cont.obj (Obj.cells (Array.mk [.slice (some ⟨rr, 0, none⟩) room room, .slice (some ⟨lr, 0, none⟩) room room]) 132)
 need (0 ≤ Int.ofNat c ∧ Int.ofNat c < (↑room : Int)) (need (Cont.at z0 (0 + Int.toNat (Int.ofNat c) * 1) = some (Value.pointer z1)) (hyp True (need (c + (1 : Nat) ≤ 9223372036854775807) (need (z2 * (8 : Nat) ≤ 140737488355328) (hyp (Nat.le z2 (ns 2).n) (br (Ex.ltQ (Int.ofNat z2) (Int.ofNat room)) (leaf (Value.bool false, Blk.mk (ns 1).n z3 true :: Blk.mk (ns 0).n z4 true :: Blk.mk rr z0 true :: Blk.mk p z5 false :: Blk.mk tk z6 true :: Blk.mk gb z7 true :: Blk.mk hb z8 true :: Blk.mk tb z9 true :: Blk.mk g (Cont.obj (Obj.cells (Array.mk [.pointer z10, .slice none 0 0, .slice z11 z2 (ns 2).n, .slice z12 room room]) 180)) true :: Blk.mk mr z13 true :: Blk.mk sb z14 true :: Blk.mk ib z15 true :: Blk.mk vb z16 true :: Blk.mk st z17 true :: TL)) (leaf (Value.bool false, Blk.mk (ns 1).n z3 true :: Blk.mk (ns 0).n z4 true :: Blk.mk rr z0 true :: Blk.mk p z5 false :: Blk.mk tk z6 true :: Blk.mk gb z7 true :: Blk.mk hb z8 true :: Blk.mk tb z9 true :: Blk.mk g (Cont.obj (Obj.cells (Array.mk [.pointer z10, .slice z11 z2 (ns 2).n, .slice none 0 0, .slice z12 room room]) 180)) true :: Blk.mk mr z13 true :: Blk.mk sb z14 true :: Blk.mk ib z15 true :: Blk.mk vb z16 true :: Blk.mk st z17 true :: TL))))))))
theorem sa8sn_run (tk gb hb tb g st mr rr lr p room tr ca c sb ib vb : Nat) (steps vp i v : Int) (wp : Value) (ms cs xs : List Value) (TL : List Blk) : Sy.Ran (Sy.inB Tryd.prog (ctxA rr room c p cs) 50 fStep #[ptr tk] (⟨p, (seB p vp wp).2, false⟩ :: ⟨tk, (tkU tk (cScan gb hb tb) steps).2, true⟩ :: ⟨gb, (bx gb tGP (ptr g)).2, true⟩ :: ⟨hb, (bx hb tTh (cTh8 sb ib vb)).2, true⟩ :: ⟨tb, (bx tb tTP (ptr tk)).2, true⟩ :: ⟨g, (sgB g st (.slice none 0 0) (sl tr c ca) (sl mr room room)).2, true⟩ :: ⟨mr, (blB mr room ms).2, true⟩ :: ⟨tr, (prB tr c ca xs).2, true⟩ :: ⟨sb, (bx sb tSnP (ptr st)).2, true⟩ :: ⟨ib, (bx ib tI (.int .i64 i)).2, true⟩ :: ⟨vb, (bx vb tU (.int .u64 v)).2, true⟩ :: ⟨st, (snB st rr lr room).2, true⟩ :: ⟨rr, (apB rr room cs).2, true⟩ :: TL)) sa8sn_o (sa8sn_R tk gb hb tb g st mr rr lr p room tr ca c sb ib vb steps vp i v wp ms cs xs TL) := ⟨fun _ => by kernel_rfl, fun _ => by kernel_rfl⟩
def sa8ss_o : Sy.O := (steps [1, 0, 0, 1, 0, 1, 0, 0, 0, 1, 0, 0, 2, 0, 2, 14, 0, 1, 2, 3, 4, 0, 5, 0, 5, 6, 7, 8, 0, 5, 0, 9, 10, 11, 0, 9, 0, 12, 13, 14, 15, 0, 5, 0, 16, 0, 17, 0, 1, 26, 0, 13, 1, 0, 0, 1, 1, 1, 1, 0] (steps [1, 2, 3, 4, 5, 6, 10, 11, 12, 13, 26, 1, 0, 2, 3, 4, 5, 6, 7, 11, 12, 13, 14, 26, 0, 0, 0, 9, 0, 1, 1, 0, 1, 8, 1, 0, 0, 1, 1, 0, 3, 4, 5, 6, 7, 8, 11, 12, 13, 14, 21, 22, 26, 8, 0, 0, 3, 0, 1, 2] (steps [3, 0, 8, 0, 4, 0, 5, 6, 7, 8, 0, 8, 0, 9, 10, 11, 0, 14, 0, 12, 0, 13] (fork (steps [0, 4] nil) (steps [3, 0, 1, 2, 3, 0, 8, 0, 4, 5, 6, 7, 0, 8, 0, 8, 9, 8, 0, 0, 8, 0, 0, 0, 0, 0, 0, 0, 1, 0, 0, 4] nil)))))
noncomputable def sa8ss_R (tk gb hb tb g st mr rr lr p room tr ca c ar ch sb ib vb : Nat) (steps vp i v : Int) (wp : Value) (ms cs xs ys : List Value) (TL : List Blk) (ns : Nat → Sy.Let) : Sy.Res (Value × List Blk) :=
 let z0 := Cont.row 136 1 room room cs
 let z1 := some (Addr.mk p 0 none)
 let z2 := c + 1
 let z3 := Cont.row 133 1 z2 (ns 2).n (xs.append [Value.pointer z1])
 let z4 := Cont.obj (Obj.cells (Array.mk [.pointer z1]) 133)
 let z5 := Cont.obj (Obj.cells (Array.mk [.int .u64 vp, wp]) 139)
 let z6 := Cont.obj (Obj.cells (Array.mk [Value.func (Fn.func 95) (Array.mk []) (Array.mk [.pointer (some ⟨gb, 0, none⟩), .pointer (some ⟨hb, 0, none⟩), .pointer (some ⟨tb, 0, none⟩)]), .int .u32 0, .int .i64 (Ex.wrapQ .i64 (Ex.addQ steps 1)), .int .u64 0, .bool false, .slice none 0 0]) 100)
 let z7 := Cont.obj (Obj.cells (Array.mk [.pointer (some ⟨g, 0, none⟩)]) 177)
 let z8 := Cont.obj (Obj.cells (Array.mk [Value.func (Fn.func 76) (Array.mk []) (Array.mk [.pointer (some ⟨sb, 0, none⟩), .pointer (some ⟨ib, 0, none⟩), .pointer (some ⟨vb, 0, none⟩)])]) 152)
 let z9 := Cont.obj (Obj.cells (Array.mk [.pointer (some ⟨tk, 0, none⟩)]) 48)
 let z10 := some (Addr.mk st 0 none)
 let z11 := some (Addr.mk (ns 1).n 0 none)
 let z12 := some (Addr.mk mr 0 none)
 let z13 := Cont.row 4 1 room room ms
 let z14 := Cont.row 133 1 room ch ys
 let z15 := Cont.obj (Obj.cells (Array.mk [.pointer z10]) 28)
 let z16 := Cont.obj (Obj.cells (Array.mk [.int .i64 i]) 3)
 let z17 := Cont.obj (Obj.cells (Array.mk [.int .u64 v]) 36)
 let z18 := Cont.obj (Obj.cells (Array.mk [.slice (some ⟨rr, 0, none⟩) room room, .slice (some ⟨lr, 0, none⟩) room room]) 132)
 need (0 ≤ Int.ofNat c ∧ Int.ofNat c < (↑room : Int)) (need (Cont.at z0 (0 + Int.toNat (Int.ofNat c) * 1) = some (Value.pointer z1)) (hyp True (need (c + (1 : Nat) ≤ 9223372036854775807) (need (z2 * (8 : Nat) ≤ 140737488355328) (hyp (Nat.le z2 (ns 2).n) (br (Ex.ltQ (Int.ofNat z2) (Int.ofNat room)) (leaf (Value.bool false, Blk.mk (ns 1).n z3 true :: Blk.mk (ns 0).n z4 true :: Blk.mk rr z0 true :: Blk.mk p z5 false :: Blk.mk tk z6 true :: Blk.mk gb z7 true :: Blk.mk hb z8 true :: Blk.mk tb z9 true :: Blk.mk g (Cont.obj (Obj.cells (Array.mk [.pointer z10, .slice (some ⟨ar, 0, none⟩) room ch, .slice z11 z2 (ns 2).n, .slice z12 room room]) 180)) true :: Blk.mk mr z13 true :: Blk.mk ar z14 true :: Blk.mk sb z15 true :: Blk.mk ib z16 true :: Blk.mk vb z17 true :: Blk.mk st z18 true :: TL)) (need False (hyp True (leaf (Value.bool false, Blk.mk (ns 1).n z3 true :: Blk.mk (ns 0).n z4 true :: Blk.mk rr z0 true :: Blk.mk p z5 false :: Blk.mk tk z6 true :: Blk.mk gb z7 true :: Blk.mk hb z8 true :: Blk.mk tb z9 true :: Blk.mk g (Cont.obj (Obj.cells (Array.mk [.pointer z10, .slice z11 z2 (ns 2).n, .slice none 0 0, .slice z12 room room]) 180)) true :: Blk.mk mr z13 true :: Blk.mk ar z14 true :: Blk.mk sb z15 true :: Blk.mk ib z16 true :: Blk.mk vb z17 true :: Blk.mk st z18 true :: TL))))))))))
theorem sa8ss_run (tk gb hb tb g st mr rr lr p room tr ca c ar ch sb ib vb : Nat) (steps vp i v : Int) (wp : Value) (ms cs xs ys : List Value) (TL : List Blk) : Sy.Ran (Sy.inB Tryd.prog (ctxA rr room c p cs) 50 fStep #[ptr tk] (⟨p, (seB p vp wp).2, false⟩ :: ⟨tk, (tkU tk (cScan gb hb tb) steps).2, true⟩ :: ⟨gb, (bx gb tGP (ptr g)).2, true⟩ :: ⟨hb, (bx hb tTh (cTh8 sb ib vb)).2, true⟩ :: ⟨tb, (bx tb tTP (ptr tk)).2, true⟩ :: ⟨g, (sgB g st (sl ar room ch) (sl tr c ca) (sl mr room room)).2, true⟩ :: ⟨mr, (blB mr room ms).2, true⟩ :: ⟨tr, (prB tr c ca xs).2, true⟩ :: ⟨ar, (prB ar room ch ys).2, true⟩ :: ⟨sb, (bx sb tSnP (ptr st)).2, true⟩ :: ⟨ib, (bx ib tI (.int .i64 i)).2, true⟩ :: ⟨vb, (bx vb tU (.int .u64 v)).2, true⟩ :: ⟨st, (snB st rr lr room).2, true⟩ :: ⟨rr, (apB rr room cs).2, true⟩ :: TL)) sa8ss_o (sa8ss_R tk gb hb tb g st mr rr lr p room tr ca c ar ch sb ib vb steps vp i v wp ms cs xs ys TL) := ⟨fun _ => by kernel_rfl, fun _ => by kernel_rfl⟩
end Go.Proofs.YtjohknpmhlildaaDoor.At
--@way 2,3
namespace Go.Proofs.YtjohknpmhlildaaDoor.At
open Sy.O (fork nil step steps)
open Sy.Res (need hyp br leaf both)
open Go Go.RowKit
open Go.Proofs.YtjohknpmhlildaaDoor.Sy (Let Blk Cont Bun ptr ptr0 bx tkB tkU clo)
def sf7n_o : Sy.O := (steps [1, 0, 0, 1, 0, 1, 0, 0, 0, 1, 0, 0, 2, 0, 2, 10, 0, 1, 2, 3, 4, 0, 5, 0, 5, 6, 7, 8, 0, 5, 0, 9, 10, 11, 0, 6, 0, 12, 13, 14, 15, 0, 5, 0, 16, 0, 17, 0, 0, 26, 0, 9, 1, 0, 0, 1, 1, 1, 1, 0] (steps [1, 2, 3, 4, 5, 6, 9, 26, 1, 0, 2, 3, 4, 5, 6, 7, 10, 26, 0, 0, 0, 0, 0, 0, 0, 1, 0, 0, 1, 1, 0, 3, 4, 5, 6, 7, 8, 11, 21, 22, 26, 8, 0, 0, 3, 0, 1, 2, 3, 0, 8, 0, 4, 0, 5, 6, 7, 8, 0, 8] (steps [0, 9, 10, 11, 0, 11, 0, 12, 0, 13, 0, 3, 0, 1, 2, 3, 0, 8, 0, 4, 5, 6, 7, 0, 8, 0, 8, 9, 8, 0, 0, 8, 0, 0, 0, 0, 0, 8, 1, 0, 1, 8, 1, 7, 1, 1, 11] (fork (steps [0, 1, 0, 0, 1, 2, 1, 1, 12, 0, 1, 0, 0, 10, 0, 0, 11, 0, 8, 0, 0, 8, 0, 0, 8, 0, 0, 3, 0, 1, 2, 3, 8, 0, 8, 0, 0, 8] nil) (fork (steps [0, 1, 0, 0, 7] nil) (steps [0, 1, 0, 0, 0, 9, 0, 0, 10, 0, 7, 0, 0, 7, 0, 0, 7, 0, 0, 3, 0, 1, 2, 3, 8, 0, 7, 0, 0, 7] nil))))))
noncomputable def sf7n_R (tk gb hb tb g st mr rr lr p ar ch : Nat) (steps vp : Int) (wp : Value) (ms cs ys : List Value) (D : LkD) (S : Bun) (ns : Nat → Sy.Let) : Sy.Res (Value × List Blk) :=
 let z0 := Cont.row 136 1 1 1 cs
 let z1 := fun (p : Nat × Cont) => Blk.mk (Prod.fst p) (Prod.snd p) false
 let z2 := Sy.GotL (List.map z1 S) S
 let z3 := LkD.room D
 let z4 := Cont.row 4 1 1 1 (bools (LkD.ms D z3))
 let z5 := Cont.obj (Obj.cells (Array.mk [.pointer (some ⟨st, 0, none⟩), .slice (some ⟨(ns 1).n, 0, none⟩) 1 (ns 2).n, .slice none 0 0, .slice (some ⟨mr, 0, none⟩) 1 1]) 180)
 let z6 := Cont.row 133 1 1 ch ys
 let z7 := Cont.obj (Obj.cells (Array.mk [.int .u64 vp, wp]) 139)
 let z8 := Fn.func 95
 let z9 := Array.mk []
 let z10 := Array.mk [Value.pointer (some ⟨gb, 0, none⟩), Value.pointer (some ⟨hb, 0, none⟩), Value.pointer (some ⟨tb, 0, none⟩)]
 let z11 := Ex.wrapQ .i64 (Ex.addQ steps 1)
 let z12 := Cont.obj (Obj.cells (Array.mk [.pointer (some ⟨g, 0, none⟩)]) 177)
 let z13 := Cont.obj (Obj.cells (Array.mk [Value.func (Fn.func 75) z9 z9]) 152)
 let z14 := Cont.obj (Obj.cells (Array.mk [.pointer (some ⟨tk, 0, none⟩)]) 48)
 let z15 := Cont.obj (Obj.cells (Array.mk [.slice (some ⟨rr, 0, none⟩) 1 1, .slice (some ⟨lr, 0, none⟩) 1 1]) 132)
 need (Cont.at z0 0 = some (Value.pointer (some ⟨p, 0, none⟩))) (hyp True (hyp (Nat.le 1 (ns 2).n) (need (([Value.pointer (some ⟨p, 0, none⟩)] = ptrs (LkD.P D) ∧ ys = ptrs (LkD.Q D) ∧ ms = bools (LkD.M D) ∧ 1 = LkD.room D) ∧ LkD.ok D S) (need z2 (both (hyp (LkD.same D z3 = true ∧ LkD.bw D z3 = none) (need (([Value.pointer (some ⟨p, 0, none⟩)] = ptrs (LkD.P D) ∧ 1 = LkD.room D) ∧ LkD.ok D S ∧ List.length (LkD.V D) = LkD.room D) (need z2 (hyp (Nat.le 1 (ns 8).n) (leaf (Value.bool true, Blk.mk (ns 7).n (Cont.row 36 1 1 (ns 8).n (ints (LkD.V D))) true :: Blk.mk (ns 1).n (Cont.row 133 1 1 (ns 2).n [Value.pointer (some ⟨p, 0, none⟩)]) true :: Blk.mk mr z4 true :: Blk.mk g z5 true :: Blk.mk ar z6 true :: Blk.mk (ns 0).n (Cont.obj (Obj.cells (Array.mk [.pointer (some ⟨p, 0, none⟩)]) 133)) true :: Blk.mk rr z0 true :: Blk.mk p z7 false :: Blk.mk tk (Cont.obj (Obj.cells (Array.mk [Value.func z8 z9 z10, .int .u32 1, .int .i64 z11, .int .u64 0, .bool true, .slice (some ⟨(ns 7).n, 0, none⟩) 1 (ns 8).n]) 100)) true :: Blk.mk gb z12 true :: Blk.mk hb z13 true :: Blk.mk tb z14 true :: Blk.mk st z15 true :: List.map z1 S)))))) (both (hyp (LkD.same D z3 = false ∧ LkD.bw D z3 = none) (leaf (Value.bool false, Blk.mk mr z4 true :: Blk.mk g z5 true :: Blk.mk (ns 1).n (Cont.row 133 1 1 (ns 2).n [Value.pointer (some ⟨p, 0, none⟩)]) true :: Blk.mk ar z6 true :: Blk.mk (ns 0).n (Cont.obj (Obj.cells (Array.mk [.pointer (some ⟨p, 0, none⟩)]) 133)) true :: Blk.mk rr z0 true :: Blk.mk p z7 false :: Blk.mk
 tk (Cont.obj (Obj.cells (Array.mk [Value.func z8 z9 z10, .int .u32 0, .int .i64 z11, .int .u64 0, .bool false, .slice none 0 0]) 100)) true :: Blk.mk gb z12 true :: Blk.mk hb z13 true :: Blk.mk tb z14 true :: Blk.mk st z15 true :: List.map z1 S))) (hyp (LkD.same D z3 = false ∧ LkD.bw D z3 = some ((ns 3).n, (ns 4).n, (ns 5).n)) (leaf (Value.bool true, Blk.mk mr z4 true :: Blk.mk g z5 true :: Blk.mk (ns 1).n (Cont.row 133 1 1 (ns 2).n [Value.pointer (some ⟨p, 0, none⟩)]) true :: Blk.mk ar z6 true :: Blk.mk (ns 0).n (Cont.obj (Obj.cells (Array.mk [.pointer (some ⟨p, 0, none⟩)]) 133)) true :: Blk.mk rr z0 true :: Blk.mk p z7 false :: Blk.mk tk (Cont.obj (Obj.cells (Array.mk [Value.func z8 z9 z10, .int .u32 1, .int .i64 z11, .int .u64 0, .bool true, .slice (some ⟨(ns 3).n, 0, none⟩) (ns 4).n (ns 5).n]) 100)) true :: Blk.mk gb z12 true :: Blk.mk hb z13 true :: Blk.mk tb z14 true :: Blk.mk st z15 true :: List.map z1 S)))))))))
theorem sf7n_run (tk gb hb tb g st mr rr lr p ar ch : Nat) (steps vp : Int) (wp : Value) (ms cs ys : List Value) (D : LkD) (S : Bun) : Sy.Ran (Sy.inB Tryd.prog (ctxB g st mr rr 1 0 p cs [ptr p] ys ms D S) 50 fStep #[ptr tk] (⟨p, (seB p vp wp).2, false⟩ :: ⟨tk, (tkU tk (cScan gb hb tb) steps).2, true⟩ :: ⟨gb, (bx gb tGP (ptr g)).2, true⟩ :: ⟨hb, (bx hb tTh cTh7).2, true⟩ :: ⟨tb, (bx tb tTP (ptr tk)).2, true⟩ :: ⟨g, (sgB g st (sl ar 1 ch) (.slice none 0 0) (sl mr 1 1)).2, true⟩ :: ⟨mr, (blB mr 1 ms).2, true⟩ :: ⟨ar, (prB ar 1 ch ys).2, true⟩ :: ⟨st, (snB st rr lr 1).2, true⟩ :: ⟨rr, (apB rr 1 cs).2, true⟩ :: Sy.rdsOf S)) sf7n_o (sf7n_R tk gb hb tb g st mr rr lr p ar ch steps vp wp ms cs ys D S) := ⟨fun _ => by kernel_rfl, fun _ => by kernel_rfl⟩
def sf7s_o : Sy.O := (steps [1, 0, 0, 1, 0, 1, 0, 0, 0, 1, 0, 0, 2, 0, 2, 11, 0, 1, 2, 3, 4, 0, 5, 0, 5, 6, 7, 8, 0, 5, 0, 9, 10, 11, 0, 6, 0, 12, 13, 14, 15, 0, 5, 0, 16, 0, 17, 0, 1, 26, 0, 10, 1, 0, 0, 1, 1, 1, 1, 0] (steps [1, 2, 3, 4, 5, 6, 10, 26, 1, 0, 2, 3, 4, 5, 6, 7, 11, 26, 0, 0, 0, 9, 0, 1, 1, 0, 1, 8, 1, 0, 0, 1, 1, 0, 3, 4, 5, 6, 7, 8, 11, 21, 22, 26, 8, 0, 0, 3, 0, 1, 2, 3, 0, 8, 0, 4, 0, 5, 6, 7] (steps [8, 0, 8, 0, 9, 10, 11, 0, 11, 0, 12, 0, 13] (fork (steps [0, 4] nil) (steps [3, 0, 1, 2, 3, 0, 8, 0, 4, 5, 6, 7, 0, 8, 0, 8, 9, 8, 0, 0, 8, 0, 0, 0, 0, 0, 8, 1, 0, 1, 8, 1, 7, 1, 1, 11] (fork (steps [0, 1, 0, 0, 1, 2, 1, 1, 12, 0, 1, 0, 0, 10, 0, 0, 11, 0, 8, 0, 0, 8, 0, 0, 8, 0, 0, 3, 0, 1, 2, 3, 8, 0, 8, 0, 0, 8] nil) (fork (steps [0, 1, 0, 0, 7] nil) (steps [0, 1, 0, 0, 0, 9, 0, 0, 10, 0, 7, 0, 0, 7, 0, 0, 7, 0, 0, 3, 0, 1, 2, 3, 8, 0, 7, 0, 0, 7] nil))))))))
noncomputable def sf7s_R (tk gb hb tb g st mr rr lr p tr ca c ar ch : Nat) (steps vp : Int) (wp : Value) (ms cs xs ys : List Value) (D : LkD) (S : Bun) (ns : Nat → Sy.Let) : Sy.Res (Value × List Blk) :=
 let z0 := c + 1
 let z1 := Cont.row 136 1 z0 z0 cs
 let z2 := Cont.obj (Obj.cells (Array.mk [.int .u64 vp, wp]) 139)
 let z3 := Fn.func 95
 let z4 := Array.mk []
 let z5 := Array.mk [Value.pointer (some ⟨gb, 0, none⟩), Value.pointer (some ⟨hb, 0, none⟩), Value.pointer (some ⟨tb, 0, none⟩)]
 let z6 := Ex.wrapQ .i64 (Ex.addQ steps 1)
 let z7 := Cont.obj (Obj.cells (Array.mk [Value.func z3 z4 z5, .int .u32 0, .int .i64 z6, .int .u64 0, .bool false, .slice none 0 0]) 100)
 let z8 := Cont.obj (Obj.cells (Array.mk [.pointer (some ⟨g, 0, none⟩)]) 177)
 let z9 := Cont.obj (Obj.cells (Array.mk [Value.func (Fn.func 75) z4 z4]) 152)
 let z10 := Cont.obj (Obj.cells (Array.mk [.pointer (some ⟨tk, 0, none⟩)]) 48)
 let z11 := some (Addr.mk st 0 none)
 let z12 := some (Addr.mk (ns 1).n 0 none)
 let z13 := some (Addr.mk mr 0 none)
 let z14 := Cont.row 133 1 z0 ch ys
 let z15 := Cont.obj (Obj.cells (Array.mk [.slice (some ⟨rr, 0, none⟩) z0 z0, .slice (some ⟨lr, 0, none⟩) z0 z0]) 132)
 let z16 := fun (p : Nat × Cont) => Blk.mk (Prod.fst p) (Prod.snd p) false
 let z17 := Sy.GotL (List.map z16 S) S
 let z18 := LkD.room D
 let z19 := Cont.row 4 1 z0 z0 (bools (LkD.ms D z18))
 let z20 := Cont.obj (Obj.cells (Array.mk [.pointer z11, .slice z12 z0 (ns 2).n, .slice none 0 0, .slice z13 z0 z0]) 180)
 need (0 ≤ Int.ofNat c ∧ Int.ofNat c < (↑z0 : Int)) (need (Cont.at z1 (0 + Int.toNat (Int.ofNat c) * 1) = some (Value.pointer (some ⟨p, 0, none⟩))) (hyp True (need (c + (1 : Nat) ≤ 9223372036854775807) (need (z0 * (8 : Nat) ≤ 140737488355328) (hyp (Nat.le z0 (ns 2).n) (br (Ex.ltQ (Int.ofNat z0) (Int.ofNat z0)) (leaf (Value.bool false, Blk.mk (ns 1).n (Cont.row 133 1 z0 (ns 2).n (xs.append [Value.pointer (some ⟨p, 0, none⟩)])) true :: Blk.mk (ns 0).n (Cont.obj (Obj.cells (Array.mk [.pointer (some ⟨p, 0, none⟩)]) 133)) true :: Blk.mk rr z1 true :: Blk.mk p z2 false :: Blk.mk tk z7 true :: Blk.mk gb z8 true :: Blk.mk hb z9 true :: Blk.mk tb z10 true :: Blk.mk g (Cont.obj (Obj.cells (Array.mk [.pointer z11, .slice (some ⟨ar, 0, none⟩) z0 ch, .slice z12 z0 (ns 2).n, .slice z13 z0 z0]) 180)) true :: Blk.mk mr (Cont.row 4 1 z0 z0 ms) true :: Blk.mk ar z14 true :: Blk.mk st z15 true :: List.map z16 S)) (need ((xs.append [Value.pointer (some ⟨p, 0, none⟩)] = ptrs (LkD.P D) ∧ ys = ptrs (LkD.Q D) ∧ ms = bools (LkD.M D) ∧ c + 1 = LkD.room D) ∧ LkD.ok D S) (need z17 (both (hyp (LkD.same D z18 = true ∧ LkD.bw D z18 = none) (need ((xs.append [Value.pointer (some ⟨p, 0, none⟩)] = ptrs (LkD.P D) ∧ c + 1 = LkD.room D) ∧ LkD.ok D S ∧ List.length (LkD.V D) = LkD.room D) (need z17 (hyp (Nat.le z0 (ns 8).n) (leaf (Value.bool true, Blk.mk (ns 7).n (Cont.row 36 1 z0 (ns 8).n (ints (LkD.V D))) true :: Blk.mk (ns 1).n (Cont.row 133 1 z0 (ns 2).n (xs.append [Value.pointer (some ⟨p, 0, none⟩)])) true ::
 Blk.mk mr z19 true :: Blk.mk g z20 true :: Blk.mk ar z14 true :: Blk.mk (ns 0).n (Cont.obj (Obj.cells (Array.mk [.pointer (some ⟨p, 0, none⟩)]) 133)) true :: Blk.mk rr z1 true :: Blk.mk p z2 false :: Blk.mk tk (Cont.obj (Obj.cells (Array.mk [Value.func z3 z4 z5, .int .u32 1, .int .i64 z6, .int .u64 0, .bool true, .slice (some ⟨(ns 7).n, 0, none⟩) z0 (ns 8).n]) 100)) true :: Blk.mk gb z8 true :: Blk.mk hb z9 true :: Blk.mk tb z10 true :: Blk.mk st z15 true :: List.map z16 S)))))) (both (hyp (LkD.same D z18 = false ∧ LkD.bw D z18 = none) (leaf (Value.bool false, Blk.mk mr z19 true :: Blk.mk g z20 true :: Blk.mk (ns 1).n (Cont.row 133 1 z0 (ns 2).n (xs.append [Value.pointer (some ⟨p, 0, none⟩)])) true :: Blk.mk ar z14 true :: Blk.mk (ns 0).n (Cont.obj (Obj.cells (Array.mk [.pointer (some ⟨p, 0, none⟩)]) 133)) true :: Blk.mk rr z1 true :: Blk.mk p z2 false :: Blk.mk tk z7 true :: Blk.mk gb z8 true :: Blk.mk hb z9 true :: Blk.mk tb z10 true :: Blk.mk st z15 true :: List.map z16 S))) (hyp (LkD.same D z18 = false ∧ LkD.bw D z18 = some ((ns 3).n, (ns 4).n, (ns 5).n)) (leaf (Value.bool true, Blk.mk mr z19 true :: Blk.mk g z20 true :: Blk.mk (ns 1).n (Cont.row 133 1 z0 (ns 2).n (xs.append [Value.pointer (some ⟨p, 0, none⟩)])) true :: Blk.mk ar z14 true :: Blk.mk (ns 0).n (Cont.obj (Obj.cells (Array.mk [.pointer (some ⟨p, 0, none⟩)]) 133)) true :: Blk.mk rr z1 true :: Blk.mk p z2 false :: Blk.mk tk (Cont.obj (Obj.cells (Array.mk [Value.func z3 z4 z5, .int .u32 1, .int .i64 z6, .int .u64
 0, .bool true, .slice (some ⟨(ns 3).n, 0, none⟩) (ns 4).n (ns 5).n]) 100)) true :: Blk.mk gb z8 true :: Blk.mk hb z9 true :: Blk.mk tb z10 true :: Blk.mk st z15 true :: List.map z16 S)))))))))))))
theorem sf7s_run (tk gb hb tb g st mr rr lr p tr ca c ar ch : Nat) (steps vp : Int) (wp : Value) (ms cs xs ys : List Value) (D : LkD) (S : Bun) : Sy.Ran (Sy.inB Tryd.prog (ctxB g st mr rr (c + 1) c p cs (xs ++ [ptr p]) ys ms D S) 50 fStep #[ptr tk] (⟨p, (seB p vp wp).2, false⟩ :: ⟨tk, (tkU tk (cScan gb hb tb) steps).2, true⟩ :: ⟨gb, (bx gb tGP (ptr g)).2, true⟩ :: ⟨hb, (bx hb tTh cTh7).2, true⟩ :: ⟨tb, (bx tb tTP (ptr tk)).2, true⟩ :: ⟨g, (sgB g st (sl ar (c + 1) ch) (sl tr c ca) (sl mr (c + 1) (c + 1))).2, true⟩ :: ⟨mr, (blB mr (c + 1) ms).2, true⟩ :: ⟨tr, (prB tr c ca xs).2, true⟩ :: ⟨ar, (prB ar (c + 1) ch ys).2, true⟩ :: ⟨st, (snB st rr lr (c + 1)).2, true⟩ :: ⟨rr, (apB rr (c + 1) cs).2, true⟩ :: Sy.rdsOf S)) sf7s_o (sf7s_R tk gb hb tb g st mr rr lr p tr ca c ar ch steps vp wp ms cs xs ys D S) := ⟨fun _ => by kernel_rfl, fun _ => by kernel_rfl⟩
def sf8n_o : Sy.O := (steps [1, 0, 0, 1, 0, 1, 0, 0, 0, 1, 0, 0, 2, 0, 2, 13, 0, 1, 2, 3, 4, 0, 5, 0, 5, 6, 7, 8, 0, 5, 0, 9, 10, 11, 0, 9, 0, 12, 13, 14, 15, 0, 5, 0, 16, 0, 17, 0, 0, 26, 0, 12, 1, 0, 0, 1, 1, 1, 1, 0] (steps [1, 2, 3, 4, 5, 6, 9, 10, 11, 12, 26, 1, 0, 2, 3, 4, 5, 6, 7, 10, 11, 12, 13, 26, 0, 0, 0, 0, 0, 0, 0, 1, 0, 0, 1, 1, 0, 3, 4, 5, 6, 7, 8, 11, 12, 13, 14, 21, 22, 26, 8, 0, 0, 3, 0, 1, 2, 3, 0, 8] (steps [0, 4, 0, 5, 6, 7, 8, 0, 8, 0, 9, 10, 11, 0, 14, 0, 12, 0, 13, 0, 3, 0, 1, 2, 3, 0, 8, 0, 4, 5, 6, 7, 0, 8, 0, 8, 9, 8, 0, 0, 8, 0, 0, 0, 0, 0, 8, 1, 0, 1, 8, 1, 7, 1, 1, 14] (fork (steps [0, 1, 0, 0, 1, 2, 1, 1, 15, 0, 1, 0, 0, 10, 0, 0, 11, 0, 0, 1, 0, 10, 0, 0, 10] nil) (fork (steps [0, 1, 0, 0, 7] nil) (steps [0, 1, 0, 0, 0, 9, 0, 0, 10, 0, 0, 1, 0, 9, 0, 0, 9] nil))))))
noncomputable def sf8n_R (tk gb hb tb g st mr rr lr p ar ch sb ib vb : Nat) (steps vp i v : Int) (wp : Value) (ms cs ys : List Value) (D : LkD) (S : Bun) (ns : Nat → Sy.Let) : Sy.Res (Value × List Blk) :=
 let z0 := Cont.row 136 1 1 1 cs
 let z1 := fun (p : Nat × Cont) => Blk.mk (Prod.fst p) (Prod.snd p) false
 let z2 := Sy.GotL (List.map z1 S) S
 let z3 := LkD.room D
 let z4 := some (Addr.mk (ns 7).n 0 none)
 let z5 := Cont.obj (Obj.cells (Array.mk [.pointer (some ⟨tk, 0, none⟩)]) 48)
 let z6 := Cont.row 4 1 1 1 (bools (LkD.ms D z3))
 let z7 := some (Addr.mk st 0 none)
 let z8 := Cont.obj (Obj.cells (Array.mk [.pointer z7, .slice (some ⟨(ns 1).n, 0, none⟩) 1 (ns 2).n, .slice none 0 0, .slice (some ⟨mr, 0, none⟩) 1 1]) 180)
 let z9 := Cont.row 133 1 1 ch ys
 let z10 := Cont.obj (Obj.cells (Array.mk [.int .u64 vp, wp]) 139)
 let z11 := Fn.func 77
 let z12 := Array.mk []
 let z13 := some (Addr.mk sb 0 none)
 let z14 := some (Addr.mk ib 0 none)
 let z15 := some (Addr.mk vb 0 none)
 let z16 := Ex.wrapQ .i64 (Ex.addQ steps 1)
 let z17 := Cont.obj (Obj.cells (Array.mk [.pointer (some ⟨g, 0, none⟩)]) 177)
 let z18 := Cont.obj (Obj.cells (Array.mk [Value.func (Fn.func 76) z12 (Array.mk [.pointer z13, .pointer z14, .pointer z15])]) 152)
 let z19 := Cont.obj (Obj.cells (Array.mk [.pointer z7]) 28)
 let z20 := Cont.obj (Obj.cells (Array.mk [.int .i64 i]) 3)
 let z21 := Cont.obj (Obj.cells (Array.mk [.int .u64 v]) 36)
 let z22 := Cont.obj (Obj.cells (Array.mk [.slice (some ⟨rr, 0, none⟩) 1 1, .slice (some ⟨lr, 0, none⟩) 1 1]) 132)
 need (Cont.at z0 0 = some (Value.pointer (some ⟨p, 0, none⟩))) (hyp True (hyp (Nat.le 1 (ns 2).n) (need (([Value.pointer (some ⟨p, 0, none⟩)] = ptrs (LkD.P D) ∧ ys = ptrs (LkD.Q D) ∧ ms = bools (LkD.M D) ∧ 1 = LkD.room D) ∧ LkD.ok D S) (need z2 (both (hyp (LkD.same D z3 = true ∧ LkD.bw D z3 = none) (need (([Value.pointer (some ⟨p, 0, none⟩)] = ptrs (LkD.P D) ∧ 1 = LkD.room D) ∧ LkD.ok D S ∧ List.length (LkD.V D) = LkD.room D) (need z2 (hyp (Nat.le 1 (ns 8).n) (leaf (Value.bool false, Blk.mk (ns 11).n (Cont.obj (Obj.cells (Array.mk [.slice z4 1 (ns 8).n]) 34)) true :: Blk.mk (ns 10).n z5 true :: Blk.mk (ns 7).n (Cont.row 36 1 1 (ns 8).n (ints (LkD.V D))) true :: Blk.mk (ns 1).n (Cont.row 133 1 1 (ns 2).n [Value.pointer (some ⟨p, 0, none⟩)]) true :: Blk.mk mr z6 true :: Blk.mk g z8 true :: Blk.mk ar z9 true :: Blk.mk (ns 0).n (Cont.obj (Obj.cells (Array.mk [.pointer (some ⟨p, 0, none⟩)]) 133)) true :: Blk.mk rr z0 true :: Blk.mk p z10 false :: Blk.mk tk (Cont.obj (Obj.cells (Array.mk [Value.func z11 z12 (Array.mk [.pointer z13, .pointer z14, .pointer z15, .pointer (some ⟨(ns 11).n, 0, none⟩), .pointer (some ⟨(ns 10).n, 0, none⟩)]), .int .u32 0, .int .i64 z16, .int .u64 0, .bool false, .slice none 0 0]) 100)) true :: Blk.mk gb z17 true :: Blk.mk hb z18 true :: Blk.mk tb z5 true :: Blk.mk sb z19 true :: Blk.mk ib z20 true :: Blk.mk vb z21 true :: Blk.mk st z22 true :: List.map z1 S)))))) (both (hyp (LkD.same D z3 = false ∧ LkD.bw D z3 = none) (leaf (Value.bool false, Blk.mk mr z6
 true :: Blk.mk g z8 true :: Blk.mk (ns 1).n (Cont.row 133 1 1 (ns 2).n [Value.pointer (some ⟨p, 0, none⟩)]) true :: Blk.mk ar z9 true :: Blk.mk (ns 0).n (Cont.obj (Obj.cells (Array.mk [.pointer (some ⟨p, 0, none⟩)]) 133)) true :: Blk.mk rr z0 true :: Blk.mk p z10 false :: Blk.mk tk (Cont.obj (Obj.cells (Array.mk [Value.func (Fn.func 95) z12 (Array.mk [.pointer (some ⟨gb, 0, none⟩), .pointer (some ⟨hb, 0, none⟩), .pointer (some ⟨tb, 0, none⟩)]), .int .u32 0, .int .i64 z16, .int .u64 0, .bool false, .slice none 0 0]) 100)) true :: Blk.mk gb z17 true :: Blk.mk hb z18 true :: Blk.mk tb z5 true :: Blk.mk sb z19 true :: Blk.mk ib z20 true :: Blk.mk vb z21 true :: Blk.mk st z22 true :: List.map z1 S))) (hyp (LkD.same D z3 = false ∧ LkD.bw D z3 = some ((ns 3).n, (ns 4).n, (ns 5).n)) (leaf (Value.bool false, Blk.mk (ns 8).n (Cont.obj (Obj.cells (Array.mk [.slice (some ⟨(ns 3).n, 0, none⟩) (ns 4).n (ns 5).n]) 34)) true :: Blk.mk (ns 7).n z5 true :: Blk.mk mr z6 true :: Blk.mk g z8 true :: Blk.mk (ns 1).n (Cont.row 133 1 1 (ns 2).n [Value.pointer (some ⟨p, 0, none⟩)]) true :: Blk.mk ar z9 true :: Blk.mk (ns 0).n (Cont.obj (Obj.cells (Array.mk [.pointer (some ⟨p, 0, none⟩)]) 133)) true :: Blk.mk rr z0 true :: Blk.mk p z10 false :: Blk.mk tk (Cont.obj (Obj.cells (Array.mk [Value.func z11 z12 (Array.mk [.pointer z13, .pointer z14, .pointer z15, .pointer (some ⟨(ns 8).n, 0, none⟩), .pointer z4]), .int .u32 0, .int .i64 z16, .int .u64 0, .bool false, .slice none 0 0]) 100)) true :: Blk.mk gb
 z17 true :: Blk.mk hb z18 true :: Blk.mk tb z5 true :: Blk.mk sb z19 true :: Blk.mk ib z20 true :: Blk.mk vb z21 true :: Blk.mk st z22 true :: List.map z1 S)))))))))
theorem sf8n_run (tk gb hb tb g st mr rr lr p ar ch sb ib vb : Nat) (steps vp i v : Int) (wp : Value) (ms cs ys : List Value) (D : LkD) (S : Bun) : Sy.Ran (Sy.inB Tryd.prog (ctxB g st mr rr 1 0 p cs [ptr p] ys ms D S) 50 fStep #[ptr tk] (⟨p, (seB p vp wp).2, false⟩ :: ⟨tk, (tkU tk (cScan gb hb tb) steps).2, true⟩ :: ⟨gb, (bx gb tGP (ptr g)).2, true⟩ :: ⟨hb, (bx hb tTh (cTh8 sb ib vb)).2, true⟩ :: ⟨tb, (bx tb tTP (ptr tk)).2, true⟩ :: ⟨g, (sgB g st (sl ar 1 ch) (.slice none 0 0) (sl mr 1 1)).2, true⟩ :: ⟨mr, (blB mr 1 ms).2, true⟩ :: ⟨ar, (prB ar 1 ch ys).2, true⟩ :: ⟨sb, (bx sb tSnP (ptr st)).2, true⟩ :: ⟨ib, (bx ib tI (.int .i64 i)).2, true⟩ :: ⟨vb, (bx vb tU (.int .u64 v)).2, true⟩ :: ⟨st, (snB st rr lr 1).2, true⟩ :: ⟨rr, (apB rr 1 cs).2, true⟩ :: Sy.rdsOf S)) sf8n_o (sf8n_R tk gb hb tb g st mr rr lr p ar ch sb ib vb steps vp i v wp ms cs ys D S) := ⟨fun _ => by kernel_rfl, fun _ => by kernel_rfl⟩
def sf8s_o : Sy.O := (steps [1, 0, 0, 1, 0, 1, 0, 0, 0, 1, 0, 0, 2, 0, 2, 14, 0, 1, 2, 3, 4, 0, 5, 0, 5, 6, 7, 8, 0, 5, 0, 9, 10, 11, 0, 9, 0, 12, 13, 14, 15, 0, 5, 0, 16, 0, 17, 0, 1, 26, 0, 13, 1, 0, 0, 1, 1, 1, 1, 0] (steps [1, 2, 3, 4, 5, 6, 10, 11, 12, 13, 26, 1, 0, 2, 3, 4, 5, 6, 7, 11, 12, 13, 14, 26, 0, 0, 0, 9, 0, 1, 1, 0, 1, 8, 1, 0, 0, 1, 1, 0, 3, 4, 5, 6, 7, 8, 11, 12, 13, 14, 21, 22, 26, 8, 0, 0, 3, 0, 1, 2] (steps [3, 0, 8, 0, 4, 0, 5, 6, 7, 8, 0, 8, 0, 9, 10, 11, 0, 14, 0, 12, 0, 13] (fork (steps [0, 4] nil) (steps [3, 0, 1, 2, 3, 0, 8, 0, 4, 5, 6, 7, 0, 8, 0, 8, 9, 8, 0, 0, 8, 0, 0, 0, 0, 0, 8, 1, 0, 1, 8, 1, 7, 1, 1, 14] (fork (steps [0, 1, 0, 0, 1, 2, 1, 1, 15, 0, 1, 0, 0, 10, 0, 0, 11, 0, 0, 1, 0, 10, 0, 0, 10] nil) (fork (steps [0, 1, 0, 0, 7] nil) (steps [0, 1, 0, 0, 0, 9, 0, 0, 10, 0, 0, 1, 0, 9, 0, 0, 9] nil))))))))
noncomputable def sf8s_R (tk gb hb tb g st mr rr lr p tr ca c ar ch sb ib vb : Nat) (steps vp i v : Int) (wp : Value) (ms cs xs ys : List Value) (D : LkD) (S : Bun) (ns : Nat → Sy.Let) : Sy.Res (Value × List Blk) :=
 let z0 := c + 1
 let z1 := Cont.row 136 1 z0 z0 cs
 let z2 := Cont.obj (Obj.cells (Array.mk [.int .u64 vp, wp]) 139)
 let z3 := Array.mk []
 let z4 := Ex.wrapQ .i64 (Ex.addQ steps 1)
 let z5 := Cont.obj (Obj.cells (Array.mk [Value.func (Fn.func 95) z3 (Array.mk [.pointer (some ⟨gb, 0, none⟩), .pointer (some ⟨hb, 0, none⟩), .pointer (some ⟨tb, 0, none⟩)]), .int .u32 0, .int .i64 z4, .int .u64 0, .bool false, .slice none 0 0]) 100)
 let z6 := Cont.obj (Obj.cells (Array.mk [.pointer (some ⟨g, 0, none⟩)]) 177)
 let z7 := some (Addr.mk sb 0 none)
 let z8 := some (Addr.mk ib 0 none)
 let z9 := some (Addr.mk vb 0 none)
 let z10 := Cont.obj (Obj.cells (Array.mk [Value.func (Fn.func 76) z3 (Array.mk [.pointer z7, .pointer z8, .pointer z9])]) 152)
 let z11 := Cont.obj (Obj.cells (Array.mk [.pointer (some ⟨tk, 0, none⟩)]) 48)
 let z12 := some (Addr.mk st 0 none)
 let z13 := some (Addr.mk (ns 1).n 0 none)
 let z14 := some (Addr.mk mr 0 none)
 let z15 := Cont.row 133 1 z0 ch ys
 let z16 := Cont.obj (Obj.cells (Array.mk [.pointer z12]) 28)
 let z17 := Cont.obj (Obj.cells (Array.mk [.int .i64 i]) 3)
 let z18 := Cont.obj (Obj.cells (Array.mk [.int .u64 v]) 36)
 let z19 := Cont.obj (Obj.cells (Array.mk [.slice (some ⟨rr, 0, none⟩) z0 z0, .slice (some ⟨lr, 0, none⟩) z0 z0]) 132)
 let z20 := fun (p : Nat × Cont) => Blk.mk (Prod.fst p) (Prod.snd p) false
 let z21 := Sy.GotL (List.map z20 S) S
 let z22 := LkD.room D
 let z23 := some (Addr.mk (ns 7).n 0 none)
 let z24 := Cont.row 4 1 z0 z0 (bools (LkD.ms D z22))
 let z25 := Cont.obj (Obj.cells (Array.mk [.pointer z12, .slice z13 z0 (ns 2).n, .slice none 0 0, .slice z14 z0 z0]) 180)
 let z26 := Fn.func 77
 need (0 ≤ Int.ofNat c ∧ Int.ofNat c < (↑z0 : Int)) (need (Cont.at z1 (0 + Int.toNat (Int.ofNat c) * 1) = some (Value.pointer (some ⟨p, 0, none⟩))) (hyp True (need (c + (1 : Nat) ≤ 9223372036854775807) (need (z0 * (8 : Nat) ≤ 140737488355328) (hyp (Nat.le z0 (ns 2).n) (br (Ex.ltQ (Int.ofNat z0) (Int.ofNat z0)) (leaf (Value.bool false, Blk.mk (ns 1).n (Cont.row 133 1 z0 (ns 2).n (xs.append [Value.pointer (some ⟨p, 0, none⟩)])) true :: Blk.mk (ns 0).n (Cont.obj (Obj.cells (Array.mk [.pointer (some ⟨p, 0, none⟩)]) 133)) true :: Blk.mk rr z1 true :: Blk.mk p z2 false :: Blk.mk tk z5 true :: Blk.mk gb z6 true :: Blk.mk hb z10 true :: Blk.mk tb z11 true :: Blk.mk g (Cont.obj (Obj.cells (Array.mk [.pointer z12, .slice (some ⟨ar, 0, none⟩) z0 ch, .slice z13 z0 (ns 2).n, .slice z14 z0 z0]) 180)) true :: Blk.mk mr (Cont.row 4 1 z0 z0 ms) true :: Blk.mk ar z15 true :: Blk.mk sb z16 true :: Blk.mk ib z17 true :: Blk.mk vb z18 true :: Blk.mk st z19 true :: List.map z20 S)) (need ((xs.append [Value.pointer (some ⟨p, 0, none⟩)] = ptrs (LkD.P D) ∧ ys = ptrs (LkD.Q D) ∧ ms = bools (LkD.M D) ∧ c + 1 = LkD.room D) ∧ LkD.ok D S) (need z21 (both (hyp (LkD.same D z22 = true ∧ LkD.bw D z22 = none) (need ((xs.append [Value.pointer (some ⟨p, 0, none⟩)] = ptrs (LkD.P D) ∧ c + 1 = LkD.room D) ∧ LkD.ok D S ∧ List.length (LkD.V D) = LkD.room D) (need z21 (hyp (Nat.le z0 (ns 8).n) (leaf (Value.bool false, Blk.mk (ns 11).n (Cont.obj (Obj.cells (Array.mk [.slice z23 z0 (ns 8).n]) 34)) true :: Blk.mk (ns
 10).n z11 true :: Blk.mk (ns 7).n (Cont.row 36 1 z0 (ns 8).n (ints (LkD.V D))) true :: Blk.mk (ns 1).n (Cont.row 133 1 z0 (ns 2).n (xs.append [Value.pointer (some ⟨p, 0, none⟩)])) true :: Blk.mk mr z24 true :: Blk.mk g z25 true :: Blk.mk ar z15 true :: Blk.mk (ns 0).n (Cont.obj (Obj.cells (Array.mk [.pointer (some ⟨p, 0, none⟩)]) 133)) true :: Blk.mk rr z1 true :: Blk.mk p z2 false :: Blk.mk tk (Cont.obj (Obj.cells (Array.mk [Value.func z26 z3 (Array.mk [.pointer z7, .pointer z8, .pointer z9, .pointer (some ⟨(ns 11).n, 0, none⟩), .pointer (some ⟨(ns 10).n, 0, none⟩)]), .int .u32 0, .int .i64 z4, .int .u64 0, .bool false, .slice none 0 0]) 100)) true :: Blk.mk gb z6 true :: Blk.mk hb z10 true :: Blk.mk tb z11 true :: Blk.mk sb z16 true :: Blk.mk ib z17 true :: Blk.mk vb z18 true :: Blk.mk st z19 true :: List.map z20 S)))))) (both (hyp (LkD.same D z22 = false ∧ LkD.bw D z22 = none) (leaf (Value.bool false, Blk.mk mr z24 true :: Blk.mk g z25 true :: Blk.mk (ns 1).n (Cont.row 133 1 z0 (ns 2).n (xs.append [Value.pointer (some ⟨p, 0, none⟩)])) true :: Blk.mk ar z15 true :: Blk.mk (ns 0).n (Cont.obj (Obj.cells (Array.mk [.pointer (some ⟨p, 0, none⟩)]) 133)) true :: Blk.mk rr z1 true :: Blk.mk p z2 false :: Blk.mk tk z5 true :: Blk.mk gb z6 true :: Blk.mk hb z10 true :: Blk.mk tb z11 true :: Blk.mk sb z16 true :: Blk.mk ib z17 true :: Blk.mk vb z18 true :: Blk.mk st z19 true :: List.map z20 S))) (hyp (LkD.same D z22 = false ∧ LkD.bw D z22 = some ((ns 3).n, (ns 4).n, (ns 5).n)) (leaf
 (Value.bool false, Blk.mk (ns 8).n (Cont.obj (Obj.cells (Array.mk [.slice (some ⟨(ns 3).n, 0, none⟩) (ns 4).n (ns 5).n]) 34)) true :: Blk.mk (ns 7).n z11 true :: Blk.mk mr z24 true :: Blk.mk g z25 true :: Blk.mk (ns 1).n (Cont.row 133 1 z0 (ns 2).n (xs.append [Value.pointer (some ⟨p, 0, none⟩)])) true :: Blk.mk ar z15 true :: Blk.mk (ns 0).n (Cont.obj (Obj.cells (Array.mk [.pointer (some ⟨p, 0, none⟩)]) 133)) true :: Blk.mk rr z1 true :: Blk.mk p z2 false :: Blk.mk tk (Cont.obj (Obj.cells (Array.mk [Value.func z26 z3 (Array.mk [.pointer z7, .pointer z8, .pointer z9, .pointer (some ⟨(ns 8).n, 0, none⟩), .pointer z23]), .int .u32 0, .int .i64 z4, .int .u64 0, .bool false, .slice none 0 0]) 100)) true :: Blk.mk gb z6 true :: Blk.mk hb z10 true :: Blk.mk tb z11 true :: Blk.mk sb z16 true :: Blk.mk ib z17 true :: Blk.mk vb z18 true :: Blk.mk st z19 true :: List.map z20 S)))))))))))))
theorem sf8s_run (tk gb hb tb g st mr rr lr p tr ca c ar ch sb ib vb : Nat) (steps vp i v : Int) (wp : Value) (ms cs xs ys : List Value) (D : LkD) (S : Bun) : Sy.Ran (Sy.inB Tryd.prog (ctxB g st mr rr (c + 1) c p cs (xs ++ [ptr p]) ys ms D S) 50 fStep #[ptr tk] (⟨p, (seB p vp wp).2, false⟩ :: ⟨tk, (tkU tk (cScan gb hb tb) steps).2, true⟩ :: ⟨gb, (bx gb tGP (ptr g)).2, true⟩ :: ⟨hb, (bx hb tTh (cTh8 sb ib vb)).2, true⟩ :: ⟨tb, (bx tb tTP (ptr tk)).2, true⟩ :: ⟨g, (sgB g st (sl ar (c + 1) ch) (sl tr c ca) (sl mr (c + 1) (c + 1))).2, true⟩ :: ⟨mr, (blB mr (c + 1) ms).2, true⟩ :: ⟨tr, (prB tr c ca xs).2, true⟩ :: ⟨ar, (prB ar (c + 1) ch ys).2, true⟩ :: ⟨sb, (bx sb tSnP (ptr st)).2, true⟩ :: ⟨ib, (bx ib tI (.int .i64 i)).2, true⟩ :: ⟨vb, (bx vb tU (.int .u64 v)).2, true⟩ :: ⟨st, (snB st rr lr (c + 1)).2, true⟩ :: ⟨rr, (apB rr (c + 1) cs).2, true⟩ :: Sy.rdsOf S)) sf8s_o (sf8s_R tk gb hb tb g st mr rr lr p tr ca c ar ch sb ib vb steps vp i v wp ms cs xs ys D S) := ⟨fun _ => by kernel_rfl, fun _ => by kernel_rfl⟩
end Go.Proofs.YtjohknpmhlildaaDoor.At
--@way 3
namespace Go.Proofs.YtjohknpmhlildaaDoor.At
open Sy.O (fork nil step steps)
open Sy.Res (need hyp br leaf both)
open Go Go.RowKit
open Go.Proofs.YtjohknpmhlildaaDoor.Sy (Let Blk Cont Bun ptr ptr0 bx tkB tkU clo)
def up2_o : Sy.O := (steps [0, 0, 0, 0, 0, 0, 0, 0, 0, 0, 0, 3, 0, 0, 1, 0, 1, 2, 3, 0, 6, 0, 4, 0, 2, 0, 5, 0, 1, 6, 0, 3, 0, 7, 0, 4, 0, 8, 13, 1, 1, 8, 9, 1, 2, 3, 4, 5, 6, 7, 8, 13, 0, 0, 0, 8, 1, 0, 0, 1] (steps [0, 7, 0, 0, 5, 0, 2, 0, 0, 2, 0, 0, 3, 0, 1, 2, 3, 8, 0, 2, 0, 0, 2] nil))
noncomputable def up2_R (tk sb ib vb wb ub st rr lr room wg wn wc : Nat) (steps i v : Int) (cs : List Value) (TL : List Blk) (ns : Nat → Sy.Let) : Sy.Res (Value × List Blk) :=
 let z0 := 0 + Int.toNat i * 1
 let z1 := some (Addr.mk wg 0 none)
 need (0 ≤ i ∧ i < (↑room : Int)) (need (Nat.le (Nat.succ z0) room) (hyp True (leaf (Value.bool true, Blk.mk rr (Cont.row 136 1 room room (List.set cs z0 (Value.pointer (some (adrV (Value.pointer (some ⟨(ns 0).n, 0, none⟩))))))) true :: Blk.mk (ns 0).n (Cont.obj (Obj.cells (Array.mk [.int .u64 v, .slice z1 wn wc]) 139)) true :: Blk.mk tk (Cont.obj (Obj.cells (Array.mk [Value.func (Fn.func 77) (Array.mk []) (Array.mk [.pointer (some ⟨sb, 0, none⟩), .pointer (some ⟨ib, 0, none⟩), .pointer (some ⟨vb, 0, none⟩), .pointer (some ⟨wb, 0, none⟩), .pointer (some ⟨ub, 0, none⟩)]), .int .u32 1, .int .i64 (Ex.wrapQ .i64 (Ex.addQ steps 1)), .int .u64 v, .bool true, .slice none 0 0]) 100)) true :: Blk.mk sb (Cont.obj (Obj.cells (Array.mk [.pointer (some ⟨st, 0, none⟩)]) 28)) true :: Blk.mk ib (Cont.obj (Obj.cells (Array.mk [.int .i64 i]) 3)) true :: Blk.mk vb (Cont.obj (Obj.cells (Array.mk [.int .u64 v]) 36)) true :: Blk.mk wb (Cont.obj (Obj.cells (Array.mk [.slice z1 wn wc]) 34)) true :: Blk.mk ub (Cont.obj (Obj.cells (Array.mk [.pointer (some ⟨tk, 0, none⟩)]) 48)) true :: Blk.mk st (Cont.obj (Obj.cells (Array.mk [.slice (some ⟨rr, 0, none⟩) room room, .slice (some ⟨lr, 0, none⟩) room room]) 132)) true :: TL))))
theorem up2_run (tk sb ib vb wb ub st rr lr room wg wn wc : Nat) (steps i v : Int) (cs : List Value) (TL : List Blk) : Sy.Ran (Sy.inB Tryd.prog (ctxS rr room cs i) 50 fStep #[ptr tk] (⟨tk, (tkU tk (cUp2 sb ib vb wb ub) steps).2, true⟩ :: ⟨sb, (bx sb tSnP (ptr st)).2, true⟩ :: ⟨ib, (bx ib tI (.int .i64 i)).2, true⟩ :: ⟨vb, (bx vb tU (.int .u64 v)).2, true⟩ :: ⟨wb, (bx wb tSl (sl wg wn wc)).2, true⟩ :: ⟨ub, (bx ub tTP (ptr tk)).2, true⟩ :: ⟨st, (snB st rr lr room).2, true⟩ :: ⟨rr, (apB rr room cs).2, true⟩ :: TL)) up2_o (up2_R tk sb ib vb wb ub st rr lr room wg wn wc steps i v cs TL) := ⟨fun _ => by kernel_rfl, fun _ => by kernel_rfl⟩
end Go.Proofs.YtjohknpmhlildaaDoor.At
namespace Go.Proofs.YtjohknpmhlildaaDoor.At
open Go Go.RowKit
open Go.Proofs.YtjohknpmhlildaaDoor.Sy (Let Blk Cont Bun ptr ptr0 bx tkB tkU clo DoesB usedK ownOf rdsOf Rep does_frame does_perm does_mono does_all does_of S0_holds)
structure K8 where
 sb : Nat
 ib : Nat
 vb : Nat
 i : Int
 v : Int
def thV (k : Option K8) : Value := match k with
 | none => cTh7
 | some k => cTh8 k.sb k.ib k.vb
def exB (st : Nat) (k : Option K8) : Bun := match k with
 | none => []
 | some k => [bx k.sb tSnP (ptr st), bx k.ib tI (.int .i64 k.i), bx k.vb tU (.int .u64 k.v)]
def rSl (o : Option (Nat × Nat)) (n : Nat) : Value := match o with
 | none => .slice none 0 0
 | some (g, c) => sl g n c
def rBl (o : Option (Nat × Nat)) (n : Nat) (vs : List Value) : Bun := match o with
 | none => []
 | some (g, c) => [prB g n c vs]
def scanAll (st gb hb tb tk g mr room : Nat) (k : Option K8) (a : Option (Nat × Nat)) (na : Nat) (A : List Value) (h : Option (Nat × Nat)) (nh : Nat) (H : List Value) (M : List Bool) : Bun :=
 [bx gb tGP (ptr g), bx hb tTh (thV k), bx tb tTP (ptr tk), sgB g st (rSl h nh) (rSl a na) (sl mr room room), blB mr room (bools M)] ++ (rBl a na A ++ (rBl h nh H ++ exB st k))
abbrev thN (st rr lr room : Nat) (cs : List Value) : Bun := [snB st rr lr room, apB rr room cs]
def scanQ (st gb hb tb tk g mr rr lr room : Nat) (k : Option K8) (cs : List Value) (A : List Nat) (p : Nat) (h : Option (Nat × Nat)) (H : List Nat) (M : List Bool) (n : Int) (r : Value) (o : Bun) : Prop :=
 r = .bool false ∧ ∃ x, (A.length + 1 < room ∧ o = tkU tk (cScan gb hb tb) (stp n) :: (scanAll st gb hb tb tk g mr room k (some x) (A.length + 1) (ptrs A ++ [ptr p]) h room (ptrs H) M ++ thN st rr lr room cs)) ∨
  (¬ A.length + 1 < room ∧ h = none ∧ o = tkU tk (cScan gb hb tb) (stp n) :: (scanAll st gb hb tb tk g mr room k none 0 [] (some x) (A.length + 1) (ptrs A ++ [ptr p]) M ++ thN st rr lr room cs))
theorem sp_at {cs : List Value} {e room c : Nat} {v : Value} (h : cs[c]? = some v) : (Cont.row e 1 room room cs).at (0 + Int.toNat (Int.ofNat c) * 1) = some v := by
 have e : 0 + Int.toNat (Int.ofNat c) * 1 = c := by simp
 rw [e]
 exact h
theorem not_lt_self {c : Nat} (h : Ex.ltQ (Int.ofNat (c + 1)) (Int.ofNat (c + 1)) = true) : False := by
 rw [Ex.ltQ_eq] at h
 have := of_decide_eq_true h
 omega
theorem ltq_nat {a b : Nat} : Ex.ltQ (Int.ofNat a) (Int.ofNat b) = decide (a < b) := by
 rw [Ex.ltQ_eq]
 simp
theorem got_self {X : List Blk} {S : Bun} : Sy.GotL (X ++ rdsOf S) S := fun p hp => ⟨⟨p.1, p.2, false⟩, Sy.mR _ (List.mem_map.2 ⟨p, hp, rfl⟩), rfl, fun _ h => h⟩
theorem scanA_does {s : Bun} {p : Nat} {vp : Int} {wp : Value} (hp : seB p vp wp ∈ s) {A : List Nat} {a : Option (Nat × Nat)} (ha : a = none → A = []) {h : Option (Nat × Nat)} {H : List Nat} {cs : List Value} {room : Nat}
  (hlt : A.length < room) (hroom : room < 1000000) (hcs : cs[A.length]? = some (ptr p)) (hf : A.length + 1 < room ∨ h = none) (st gb hb tb tk g mr rr lr : Nat) (k : Option K8) (M : List Bool) (n : Int) :
  DoesS s fStep #[ptr tk] (tkU tk (cScan gb hb tb) n :: (scanAll st gb hb tb tk g mr room k a A.length (ptrs A) h room (ptrs H) M ++ thN st rr lr room cs)) (scanQ st gb hb tb tk g mr rr lr room k cs A p h H M n) := by
 refine ⟨_, in1 hp, ?_⟩
 rcases k with _ | ⟨sb, ib, vb, i, v⟩ <;> rcases a with _ | ⟨tr, ca⟩ <;> rcases h with _ | ⟨ar, ch⟩
 ·
  have hA := ha rfl
  subst hA
  refine does_of (ctxA_holds _ _ _ _ _) mixed (Sy.Ent.refl _) (sa7nn_run tk gb hb tb g st mr rr lr p room n vp wp (bools M) cs []) fun ns => ?_
  simp only [sa7nn_R, Sy.Res.holds]
  have e1 : Ex.ltQ 1 (Int.ofNat room) = decide (1 < room) := by rw [Ex.ltQ_eq]; simp; omega
  refine ⟨⟨Int.le_refl _, by have : 0 < room := hlt; omega⟩, hcs, fun _ hc => ⟨fun hq => ?_, fun hq => ?_⟩⟩
  ·rw [e1] at hq
   have hq := of_decide_eq_true hq
   exact ⟨_, ent_pick [4, 5, 6, 7, 8, 9, 0, 10, 2] (by decide) rfl, rfl, ((ns 1).n, (ns 2).n), .inl ⟨hq, rfl⟩⟩
  ·rw [e1] at hq
   have hq := of_decide_eq_false hq
   exact ⟨_, ent_pick [4, 5, 6, 7, 8, 9, 0, 10, 2] (by decide) rfl, rfl, ((ns 1).n, (ns 2).n), .inr ⟨hq, rfl, rfl⟩⟩
 ·
  have hA := ha rfl
  subst hA
  refine does_of (ctxA_holds _ _ _ _ _) mixed (Sy.Ent.refl _) (sa7ns_run tk gb hb tb g st mr rr lr p room ar ch n vp wp (bools M) cs (ptrs H) []) fun ns => ?_
  simp only [sa7ns_R, Sy.Res.holds]
  have e1 : Ex.ltQ 1 (Int.ofNat room) = decide (1 < room) := by rw [Ex.ltQ_eq]; simp; omega
  refine ⟨⟨Int.le_refl _, by have : 0 < room := hlt; omega⟩, hcs, fun _ hc => ⟨fun hq => ?_, fun hq => ?_⟩⟩
  ·rw [e1] at hq
   have hq := of_decide_eq_true hq
   exact ⟨_, ent_pick [4, 5, 6, 7, 8, 9, 0, 10, 11, 2] (by decide) rfl, rfl, ((ns 1).n, (ns 2).n), .inl ⟨hq, rfl⟩⟩
  ·rw [e1] at hq
   have hq := of_decide_eq_false hq
   rcases hf with hf | hf
   ·exact absurd hf hq
   ·cases hf
 ·
  refine does_of (ctxA_holds _ _ _ _ _) mixed (Sy.Ent.refl _) (sa7sn_run tk gb hb tb g st mr rr lr p room tr ca A.length n vp wp (bools M) cs (ptrs A) []) fun ns => ?_
  simp only [sa7sn_R, Sy.Res.holds]
  have e1 : Ex.ltQ (Int.ofNat (A.length + 1)) (Int.ofNat room) = decide (A.length + 1 < room) := ltq_nat
  refine ⟨⟨Int.natCast_nonneg _, by show ((A.length : Nat) : Int) < _; omega⟩, sp_at hcs, fun _ => ⟨by omega, by omega, fun hc => ⟨fun hq => ?_, fun hq => ?_⟩⟩⟩
  ·rw [e1] at hq
   have hq := of_decide_eq_true hq
   exact ⟨_, ent_pick [4, 5, 6, 7, 8, 9, 0, 10, 2] (by decide) rfl, rfl, ((ns 1).n, (ns 2).n), .inl ⟨hq, rfl⟩⟩
  ·rw [e1] at hq
   have hq := of_decide_eq_false hq
   exact ⟨_, ent_pick [4, 5, 6, 7, 8, 9, 0, 10, 2] (by decide) rfl, rfl, ((ns 1).n, (ns 2).n), .inr ⟨hq, rfl, rfl⟩⟩
 ·
  refine does_of (ctxA_holds _ _ _ _ _) mixed (Sy.Ent.refl _) (sa7ss_run tk gb hb tb g st mr rr lr p room tr ca A.length ar ch n vp wp (bools M) cs (ptrs A) (ptrs H) []) fun ns => ?_
  simp only [sa7ss_R, Sy.Res.holds]
  have e1 : Ex.ltQ (Int.ofNat (A.length + 1)) (Int.ofNat room) = decide (A.length + 1 < room) := ltq_nat
  refine ⟨⟨Int.natCast_nonneg _, by show ((A.length : Nat) : Int) < _; omega⟩, sp_at hcs, fun _ => ⟨by omega, by omega, fun hc => ⟨fun hq => ?_, fun hq => ?_⟩⟩⟩
  ·rw [e1] at hq
   have hq := of_decide_eq_true hq
   exact ⟨_, ent_pick [4, 5, 6, 7, 8, 9, 0, 10, 11, 2] (by decide) rfl, rfl, ((ns 1).n, (ns 2).n), .inl ⟨hq, rfl⟩⟩
  ·rw [e1] at hq
   have hq := of_decide_eq_false hq
   rcases hf with hf | hf
   ·exact absurd hf hq
   ·cases hf
 ·
  have hA := ha rfl
  subst hA
  refine does_of (ctxA_holds _ _ _ _ _) mixed (Sy.Ent.refl _) (sa8nn_run tk gb hb tb g st mr rr lr p room sb ib vb n vp i v wp (bools M) cs []) fun ns => ?_
  simp only [sa8nn_R, Sy.Res.holds]
  have e1 : Ex.ltQ 1 (Int.ofNat room) = decide (1 < room) := by rw [Ex.ltQ_eq]; simp; omega
  refine ⟨⟨Int.le_refl _, by have : 0 < room := hlt; omega⟩, hcs, fun _ hc => ⟨fun hq => ?_, fun hq => ?_⟩⟩
  ·rw [e1] at hq
   have hq := of_decide_eq_true hq
   exact ⟨_, ent_pick [4, 5, 6, 7, 8, 9, 0, 10, 11, 12, 13, 2] (by decide) rfl, rfl, ((ns 1).n, (ns 2).n), .inl ⟨hq, rfl⟩⟩
  ·rw [e1] at hq
   have hq := of_decide_eq_false hq
   exact ⟨_, ent_pick [4, 5, 6, 7, 8, 9, 0, 10, 11, 12, 13, 2] (by decide) rfl, rfl, ((ns 1).n, (ns 2).n), .inr ⟨hq, rfl, rfl⟩⟩
 ·
  have hA := ha rfl
  subst hA
  refine does_of (ctxA_holds _ _ _ _ _) mixed (Sy.Ent.refl _) (sa8ns_run tk gb hb tb g st mr rr lr p room ar ch sb ib vb n vp i v wp (bools M) cs (ptrs H) []) fun ns => ?_
  simp only [sa8ns_R, Sy.Res.holds]
  have e1 : Ex.ltQ 1 (Int.ofNat room) = decide (1 < room) := by rw [Ex.ltQ_eq]; simp; omega
  refine ⟨⟨Int.le_refl _, by have : 0 < room := hlt; omega⟩, hcs, fun _ hc => ⟨fun hq => ?_, fun hq => ?_⟩⟩
  ·rw [e1] at hq
   have hq := of_decide_eq_true hq
   exact ⟨_, ent_pick [4, 5, 6, 7, 8, 9, 0, 10, 11, 12, 13, 14, 2] (by decide) rfl, rfl, ((ns 1).n, (ns 2).n), .inl ⟨hq, rfl⟩⟩
  ·rw [e1] at hq
   have hq := of_decide_eq_false hq
   rcases hf with hf | hf
   ·exact absurd hf hq
   ·cases hf
 ·
  refine does_of (ctxA_holds _ _ _ _ _) mixed (Sy.Ent.refl _) (sa8sn_run tk gb hb tb g st mr rr lr p room tr ca A.length sb ib vb n vp i v wp (bools M) cs (ptrs A) []) fun ns => ?_
  simp only [sa8sn_R, Sy.Res.holds]
  have e1 : Ex.ltQ (Int.ofNat (A.length + 1)) (Int.ofNat room) = decide (A.length + 1 < room) := ltq_nat
  refine ⟨⟨Int.natCast_nonneg _, by show ((A.length : Nat) : Int) < _; omega⟩, sp_at hcs, fun _ => ⟨by omega, by omega, fun hc => ⟨fun hq => ?_, fun hq => ?_⟩⟩⟩
  ·rw [e1] at hq
   have hq := of_decide_eq_true hq
   exact ⟨_, ent_pick [4, 5, 6, 7, 8, 9, 0, 10, 11, 12, 13, 2] (by decide) rfl, rfl, ((ns 1).n, (ns 2).n), .inl ⟨hq, rfl⟩⟩
  ·rw [e1] at hq
   have hq := of_decide_eq_false hq
   exact ⟨_, ent_pick [4, 5, 6, 7, 8, 9, 0, 10, 11, 12, 13, 2] (by decide) rfl, rfl, ((ns 1).n, (ns 2).n), .inr ⟨hq, rfl, rfl⟩⟩
 ·
  refine does_of (ctxA_holds _ _ _ _ _) mixed (Sy.Ent.refl _) (sa8ss_run tk gb hb tb g st mr rr lr p room tr ca A.length ar ch sb ib vb n vp i v wp (bools M) cs (ptrs A) (ptrs H) []) fun ns => ?_
  simp only [sa8ss_R, Sy.Res.holds]
  have e1 : Ex.ltQ (Int.ofNat (A.length + 1)) (Int.ofNat room) = decide (A.length + 1 < room) := ltq_nat
  refine ⟨⟨Int.natCast_nonneg _, by show ((A.length : Nat) : Int) < _; omega⟩, sp_at hcs, fun _ => ⟨by omega, by omega, fun hc => ⟨fun hq => ?_, fun hq => ?_⟩⟩⟩
  ·rw [e1] at hq
   have hq := of_decide_eq_true hq
   exact ⟨_, ent_pick [4, 5, 6, 7, 8, 9, 0, 10, 11, 12, 13, 14, 2] (by decide) rfl, rfl, ((ns 1).n, (ns 2).n), .inl ⟨hq, rfl⟩⟩
  ·rw [e1] at hq
   have hq := of_decide_eq_false hq
   rcases hf with hf | hf
   ·exact absurd hf hq
   ·cases hf
def seenQ (st tk rr lr room : Nat) (k : Option K8) (cs : List Value) (n : Int) (vv : Value) (vw : Bun) (r : Value) (o : Bun) : Prop := match k with
 | none => r = .bool true ∧ ∃ nx, o = tkB tk nx 1 (stp n) 0 true vv :: (thN st rr lr room cs ++ vw)
 | some k => r = .bool false ∧ ∃ wb ub, o = tkU tk (cUp2 k.sb k.ib k.vb wb ub) (stp n) :: ((exB st (some k) ++ [bx wb tSl vv, bx ub tTP (ptr tk)]) ++ (thN st rr lr room cs ++ vw))
def scanFQ (st gb hb tb tk g mr rr lr : Nat) (k : Option K8) (cs : List Value) (D : LkD) (n : Int) (r : Value) (o : Bun) : Prop :=
 (D.same D.room = true ∧ ∃ g2 c2, D.room ≤ c2 ∧ seenQ st tk rr lr D.room k cs n (sl g2 D.room c2) [(g2, .row tU 1 D.room c2 (ints D.V))] r o) ∨
 (D.same D.room = false ∧ D.bw D.room = none ∧ r = .bool false ∧ ∃ x, o = tkU tk (cScan gb hb tb) (stp n) :: (scanAll st gb hb tb tk g mr D.room k none 0 [] (some x) D.room (ptrs D.P) (D.ms D.room) ++ thN st rr lr D.room cs)) ∨
 (D.same D.room = false ∧ ∃ x, D.bw D.room = some x ∧ seenQ st tk rr lr D.room k cs n (wv (some x)) [] r o)
theorem scanF_does {s S : Bun} (hS : ∀ q ∈ S, q ∈ s) {D : LkD} (hD : D.ok S) (hV : D.V.length = D.room) {A : List Nat} {p : Nat} (hP : D.P = A ++ [p]) {vp : Int} {wp : Value} (hp : seB p vp wp ∈ s) {a : Option (Nat × Nat)} (ha : a = none → A = []) (ar ch : Nat) {cs : List Value}
  (hcs : cs[A.length]? = some (ptr p)) (st gb hb tb tk g mr rr lr : Nat) (k : Option K8) (n : Int) :
  DoesS s fStep #[ptr tk] (tkU tk (cScan gb hb tb) n :: (scanAll st gb hb tb tk g mr D.room k a A.length (ptrs A) (some (ar, ch)) D.room (ptrs D.Q) D.M ++ thN st rr lr D.room cs)) (scanFQ st gb hb tb tk g mr rr lr k cs D n) := by
 have hroom : D.room = A.length + 1 := by rw [← hD.p, hP]; simp
 have hlt := hD.lt
 refine ⟨seB p vp wp :: S, fun q hq => ?_, ?_⟩
 ·rcases List.mem_cons.1 hq with rfl | hq
  ·exact hp
  ·exact hS q hq
 have hPp : ptrs D.P = ptrs A ++ [ptr p] := by rw [hP]; simp [ptrs]
 have hent : ∀ {X : Bun}, Sy.Ent (rdsOf (seB p vp wp :: S) ++ X.map ownOf) (⟨p, (seB p vp wp).2, false⟩ :: (X.map ownOf ++ rdsOf S)) := fun {X} => Sy.Ent.perm (List.Perm.cons _ List.perm_append_comm)
 unfold scanFQ
 rw [hPp]
 generalize hms : D.ms D.room = MS
 rcases k with _ | ⟨sb, ib, vb, i, v⟩ <;> rcases a with _ | ⟨tr, ca⟩
 ·
  have hA := ha rfl
  subst hA
  have hr := hroom
  rw [hr]
  refine does_of (ctxB_holds _ _ _ _ _ _ _ _ _ _ _ _ _) mixed hent (sf7n_run tk gb hb tb g st mr rr lr p ar ch n vp wp (bools D.M) cs (ptrs D.Q) D S) fun ns => ?_
  simp only [sf7n_R, Sy.Res.holds]
  refine ⟨hcs, fun _ hc0 => ⟨⟨⟨hPp.symm, trivial, trivial, hr.symm⟩, hD⟩, got_self (X := []), fun hs1 => ⟨⟨⟨hPp.symm, hr.symm⟩, hD, hV⟩, got_self (X := []), fun hc => ?_⟩, fun hs2 => ?_, fun hs3 => ?_⟩⟩
  ·exact ⟨_, ent_pick [8, 12, 6, 0] (by decide) rfl, .inl ⟨by rw [← hr]; exact hs1.1, (ns 7).n, (ns 8).n, hc, ⟨rfl, _, rfl⟩⟩⟩
  ·rw [hms]
   exact ⟨_, ent_pick [7, 8, 9, 10, 1, 0, 2, 11, 5] (by decide) rfl, .inr (.inl ⟨by rw [← hr]; exact hs2.1, by rw [← hr]; exact hs2.2, trivial, ((ns 1).n, (ns 2).n), rfl⟩)⟩
  ·exact ⟨_, ent_pick [7, 11, 5] (by decide) rfl, .inr (.inr ⟨by rw [← hr]; exact hs3.1, ((ns 3).n, (ns 4).n, (ns 5).n), by rw [← hr]; exact hs3.2, ⟨rfl, _, rfl⟩⟩)⟩
 ·
  have hr := hroom
  rw [hr]
  refine does_of (ctxB_holds _ _ _ _ _ _ _ _ _ _ _ _ _) mixed hent (sf7s_run tk gb hb tb g st mr rr lr p tr ca A.length ar ch n vp wp (bools D.M) cs (ptrs A) (ptrs D.Q) D S) fun ns => ?_
  simp only [sf7s_R, Sy.Res.holds]
  refine ⟨⟨Int.natCast_nonneg _, by show ((A.length : Nat) : Int) < ((A.length + 1 : Nat) : Int); omega⟩, sp_at hcs, fun _ => ⟨by omega, by omega, fun hc0 => ⟨fun hq => (not_lt_self hq).elim, fun _ => ⟨⟨⟨hPp.symm, trivial, trivial, hr.symm⟩, hD⟩, got_self (X := []), fun hs1 => ⟨⟨⟨hPp.symm, hr.symm⟩, hD, hV⟩, got_self (X := []), fun hc => ?_⟩, fun hs2 => ?_, fun hs3 => ?_⟩⟩⟩⟩
  ·exact ⟨_, ent_pick [8, 12, 6, 0] (by decide) rfl, .inl ⟨by rw [← hr]; exact hs1.1, (ns 7).n, (ns 8).n, hc, ⟨rfl, _, rfl⟩⟩⟩
  ·rw [hms]
   exact ⟨_, ent_pick [7, 8, 9, 10, 1, 0, 2, 11, 5] (by decide) rfl, .inr (.inl ⟨by rw [← hr]; exact hs2.1, by rw [← hr]; exact hs2.2, trivial, ((ns 1).n, (ns 2).n), rfl⟩)⟩
  ·exact ⟨_, ent_pick [7, 11, 5] (by decide) rfl, .inr (.inr ⟨by rw [← hr]; exact hs3.1, ((ns 3).n, (ns 4).n, (ns 5).n), by rw [← hr]; exact hs3.2, ⟨rfl, _, rfl⟩⟩)⟩
 ·
  have hA := ha rfl
  subst hA
  have hr := hroom
  rw [hr]
  refine does_of (ctxB_holds _ _ _ _ _ _ _ _ _ _ _ _ _) mixed hent (sf8n_run tk gb hb tb g st mr rr lr p ar ch sb ib vb n vp i v wp (bools D.M) cs (ptrs D.Q) D S) fun ns => ?_
  simp only [sf8n_R, Sy.Res.holds]
  refine ⟨hcs, fun _ hc0 => ⟨⟨⟨hPp.symm, trivial, trivial, hr.symm⟩, hD⟩, got_self (X := []), fun hs1 => ⟨⟨⟨hPp.symm, hr.symm⟩, hD, hV⟩, got_self (X := []), fun hc => ?_⟩, fun hs2 => ?_, fun hs3 => ?_⟩⟩
  ·exact ⟨_, ent_pick [10, 14, 15, 16, 0, 1, 17, 8, 2] (by decide) rfl, .inl ⟨by rw [← hr]; exact hs1.1, (ns 7).n, (ns 8).n, hc, ⟨rfl, _, _, rfl⟩⟩⟩
  ·rw [hms]
   exact ⟨_, ent_pick [7, 8, 9, 10, 1, 0, 2, 11, 12, 13, 14, 5] (by decide) rfl, .inr (.inl ⟨by rw [← hr]; exact hs2.1, by rw [← hr]; exact hs2.2, trivial, ((ns 1).n, (ns 2).n), rfl⟩)⟩
  ·exact ⟨_, ent_pick [9, 13, 14, 15, 0, 1, 16, 7] (by decide) rfl, .inr (.inr ⟨by rw [← hr]; exact hs3.1, ((ns 3).n, (ns 4).n, (ns 5).n), by rw [← hr]; exact hs3.2, ⟨rfl, _, _, rfl⟩⟩)⟩
 ·
  have hr := hroom
  rw [hr]
  refine does_of (ctxB_holds _ _ _ _ _ _ _ _ _ _ _ _ _) mixed hent (sf8s_run tk gb hb tb g st mr rr lr p tr ca A.length ar ch sb ib vb n vp i v wp (bools D.M) cs (ptrs A) (ptrs D.Q) D S) fun ns => ?_
  simp only [sf8s_R, Sy.Res.holds]
  refine ⟨⟨Int.natCast_nonneg _, by show ((A.length : Nat) : Int) < ((A.length + 1 : Nat) : Int); omega⟩, sp_at hcs, fun _ => ⟨by omega, by omega, fun hc0 => ⟨fun hq => (not_lt_self hq).elim, fun _ => ⟨⟨⟨hPp.symm, trivial, trivial, hr.symm⟩, hD⟩, got_self (X := []), fun hs1 => ⟨⟨⟨hPp.symm, hr.symm⟩, hD, hV⟩, got_self (X := []), fun hc => ?_⟩, fun hs2 => ?_, fun hs3 => ?_⟩⟩⟩⟩
  ·exact ⟨_, ent_pick [10, 14, 15, 16, 0, 1, 17, 8, 2] (by decide) rfl, .inl ⟨by rw [← hr]; exact hs1.1, (ns 7).n, (ns 8).n, hc, ⟨rfl, _, _, rfl⟩⟩⟩
  ·rw [hms]
   exact ⟨_, ent_pick [7, 8, 9, 10, 1, 0, 2, 11, 12, 13, 14, 5] (by decide) rfl, .inr (.inl ⟨by rw [← hr]; exact hs2.1, by rw [← hr]; exact hs2.2, trivial, ((ns 1).n, (ns 2).n), rfl⟩)⟩
  ·exact ⟨_, ent_pick [9, 13, 14, 15, 0, 1, 16, 7] (by decide) rfl, .inr (.inr ⟨by rw [← hr]; exact hs3.1, ((ns 3).n, (ns 4).n, (ns 5).n), by rw [← hr]; exact hs3.2, ⟨rfl, _, _, rfl⟩⟩)⟩
def up2Q (st tk rr lr room : Nat) (cs : List Value) (j : Nat) (v : Int) (vv : Value) (n : Int) (r : Value) (o : Bun) : Prop :=
 r = .bool true ∧ ∃ nx nn, o = tkB tk nx 1 (stp n) v true (.slice none 0 0) :: (thN st rr lr room (cs.set j (ptr nn)) ++ [seB nn v vv])
theorem up2_does {s : Bun} (st tk rr lr room : Nat) (k : K8) (wb ub wg wn wc : Nat) (cs : List Value) {j : Nat} (hi : k.i = (j : Int)) (hj : j < room) (n : Int) :
  DoesS s fStep #[ptr tk] (tkU tk (cUp2 k.sb k.ib k.vb wb ub) n :: ((exB st (some k) ++ [bx wb tSl (sl wg wn wc), bx ub tTP (ptr tk)]) ++ thN st rr lr room cs)) (up2Q st tk rr lr room cs j k.v (sl wg wn wc) n) := by
 obtain ⟨sb, ib, vb, i, v⟩ := k
 have hi : i = (j : Int) := hi
 subst hi
 refine ⟨[], in0, does_of (ctxS_holds rr room cs (j : Int)) mixed (Sy.Ent.refl _) (up2_run tk sb ib vb wb ub st rr lr room wg wn wc n (j : Int) v cs []) fun ns => ?_⟩
 simp only [up2_R, Sy.Res.holds]
 have e : 0 + Int.toNat (j : Int) * 1 = j := by simp
 rw [e]
 exact ⟨⟨Int.natCast_nonneg _, by omega⟩, hj, fun _ => ⟨_, ent_pick [2, 8, 0, 1] (by decide) rfl, rfl, _, _, rfl⟩⟩
open Go.Proofs.YtjohknpmhlildaaDoor.As
theorem zip_range {α β γ : Type} (f : α → β → γ) (a : α) (b : β) : ∀ {n : Nat} {l : List α} {m : List β}, l.length = n → m.length = n → List.zipWith f l m = (List.range n).map fun i => f (l.getD i a) (m.getD i b) := by
 intro n l m h1 h2
 apply List.ext_getElem
 ·simp [h1, h2]
 ·intro i hi hj
  rw [List.length_zipWith] at hi
  have hi1 : i < l.length := by omega
  have hi2 : i < m.length := by omega
  simp [List.getD_eq_getElem?_getD, List.getElem?_eq_getElem hi1, List.getElem?_eq_getElem hi2]
theorem from_spec : ∀ (m d : List Bool) (i : Nat), m.length = d.length → (fromW m d i = none ∧ ∀ j, (m.getD j false && d.getD j false) = false) ∨ ∃ j, fromW m d i = some (i + j) ∧ j < m.length ∧ (m.getD j false && d.getD j false) = true ∧ ∀ j', j' < j → (m.getD j' false && d.getD j' false) = false
 | [], [], i, _ => .inl ⟨rfl, fun j => by simp⟩
 | [], _ :: _, i, h => by simp at h
 | _ :: _, [], i, h => by simp at h
 | a :: m, b :: d, i, h => by
   by_cases hab : a = true ∧ b = true
   ·obtain ⟨rfl, rfl⟩ := hab
    exact .inr ⟨0, rfl, by simp, rfl, fun j' h => absurd h (Nat.not_lt_zero _)⟩
   ·have e : fromW (a :: m) (b :: d) i = fromW m d (i + 1) := by
     cases a <;> cases b <;> first | rfl | exact absurd ⟨rfl, rfl⟩ hab
    have e0 : (a && b) = false := by cases a <;> cases b <;> first | rfl | exact absurd ⟨rfl, rfl⟩ hab
    rw [e]
    rcases from_spec m d (i + 1) (by simpa using h) with ⟨h1, h2⟩ | ⟨j, h1, h2, h3, h4⟩
    ·refine .inl ⟨h1, fun j => ?_⟩
     cases j with
     | zero => exact e0
     | succ j => exact h2 j
    ·refine .inr ⟨j + 1, by rw [h1]; congr 1; omega, by simp; omega, h3, fun j' hj' => ?_⟩
     cases j' with
     | zero => exact e0
     | succ j' => exact h4 j' (by omega)
theorem LkD.bw_none (D : LkD) {n : Nat} (h : ∀ j, j < n → (D.M.getD j false && (D.P.getD j 0 != D.Q.getD j 0)) = false) : ∀ k, k ≤ n → D.bw k = none
 | 0, _ => rfl
 | k + 1, hk => by
   rw [D.bw_succ, D.bw_none h k (by omega), h k (by omega)]
   rfl
theorem LkD.bw_first (D : LkD) {j : Nat} {x : Nat × Nat × Nat} (h : ∀ j', j' < j → (D.M.getD j' false && (D.P.getD j' 0 != D.Q.getD j' 0)) = false) (hj : (D.M.getD j false && (D.P.getD j 0 != D.Q.getD j 0)) = true) (hx : D.W.getD j none = some x) : ∀ k, j < k → D.bw k = some x
 | 0, hk => absurd hk (Nat.not_lt_zero _)
 | k + 1, hk => by
   rw [D.bw_succ]
   by_cases e : k = j
   ·subst e
    rw [D.bw_none h k (Nat.le_refl _), hj, if_pos rfl, hx]
    rfl
   ·rw [D.bw_first h hj hx k (by omega)]
    rfl
structure Same (D : LkD) (at' ah : List Nat) : Prop where
 pl : D.P.length = D.room
 ql : D.Q.length = D.room
 ml : D.M.length = D.room
 al : at'.length = D.room
 hl : ah.length = D.room
 eq : ∀ i, i < D.room → (D.P.getD i 0 = D.Q.getD i 0 ↔ at'.getD i 0 = ah.getD i 0)
theorem Same.bne {D : LkD} {at' ah : List Nat} (h : Same D at' ah) {i : Nat} (hi : i < D.room) : (D.P.getD i 0 != D.Q.getD i 0) = (at'.getD i 0 != ah.getD i 0) := by
 have := h.eq i hi
 by_cases e : D.P.getD i 0 = D.Q.getD i 0
 ·rw [bne_eq_false_iff_eq.2 e, bne_eq_false_iff_eq.2 (this.1 e)]
 ·rw [bne_iff_ne.2 e, bne_iff_ne.2 (fun he => e (this.2 he))]
theorem Same.diff {D : LkD} {at' ah : List Nat} (h : Same D at' ah) : diffW at' ah = (List.range D.room).map fun i => D.P.getD i 0 != D.Q.getD i 0 := by
 unfold diffW
 rw [zip_range (fun x y => x != y) 0 0 h.al h.hl]
 apply List.map_congr_left
 intro i hi
 exact (h.bne (List.mem_range.1 hi)).symm
theorem Same.same {D : LkD} {at' ah : List Nat} (h : Same D at' ah) : D.same D.room = (diffW at' ah).all (! ·) := by
 rw [h.diff, List.all_map]
 unfold LkD.same
 congr 1
 funext i
 show (D.P.getD i 0 == D.Q.getD i 0) = !(D.P.getD i 0 != D.Q.getD i 0)
 by_cases e : D.P.getD i 0 = D.Q.getD i 0
 ·rw [beq_iff_eq.2 e, bne_eq_false_iff_eq.2 e]
  rfl
 ·rw [beq_eq_false_iff_ne.2 e, bne_iff_ne.2 e]
  rfl
theorem Same.ms {D : LkD} {at' ah : List Nat} (h : Same D at' ah) : D.ms D.room = List.zipWith (· || ·) D.M (diffW at' ah) := by
 rw [zip_range (· || ·) false false h.ml (n := D.room) (m := diffW at' ah) (by rw [h.diff]; simp)]
 unfold LkD.ms
 apply List.map_congr_left
 intro i hi
 have hi := List.mem_range.1 hi
 rw [if_pos hi, h.diff, List.getD_eq_getElem?_getD (l := List.map _ _), List.getElem?_map, List.getElem?_range hi]
 rfl
theorem Same.cond {D : LkD} {at' ah : List Nat} (h : Same D at' ah) {j : Nat} (hj : j < D.room) : (D.M.getD j false && (diffW at' ah).getD j false) = (D.M.getD j false && (D.P.getD j 0 != D.Q.getD j 0)) := by
 rw [h.diff, List.getD_eq_getElem?_getD (l := List.map _ _), List.getElem?_map, List.getElem?_range hj]
 rfl
theorem Same.bw {D : LkD} {at' ah : List Nat} (h : Same D at' ah) (hW : ∀ i, i < D.room → at'.getD i 0 ≠ ah.getD i 0 → ∃ x, D.W.getD i none = some x) :
  (fromW D.M (diffW at' ah) 0 = none ∧ D.bw D.room = none) ∨ ∃ j x, j < D.room ∧ fromW D.M (diffW at' ah) 0 = some j ∧ at'.getD j 0 ≠ ah.getD j 0 ∧ D.W.getD j none = some x ∧ D.bw D.room = some x := by
 rcases from_spec D.M (diffW at' ah) 0 (by rw [h.ml, h.diff]; simp) with ⟨h1, h2⟩ | ⟨j, h1, h2, h3, h4⟩
 ·exact .inl ⟨h1, D.bw_none (fun j hj => by rw [← h.cond hj]; exact h2 j) _ (Nat.le_refl _)⟩
 ·rw [h.ml] at h2
  have h3 := h.cond h2 ▸ h3
  have hne : at'.getD j 0 ≠ ah.getD j 0 := by
   rw [h.bne h2, Bool.and_eq_true] at h3
   exact bne_iff_ne.1 h3.2
  obtain ⟨x, hx⟩ := hW j h2 hne
  exact .inr ⟨j, x, h2, by rw [h1]; congr 1; omega, hne, hx, D.bw_first (fun j' hj' => by rw [← h.cond (by omega)]; exact h4 j' hj') h3 hx _ h2⟩
open Go.Proofs.YtjohknpmhlildaaDoor.Sy (Let Blk Cont Bun ptr ptr0 bx tkB tkU clo DoesB usedK ownOf rdsOf Rep does_frame does_perm does_mono does_all does_of S0_holds)
open Go.Proofs.YtjohknpmhlildaaDoor.As
structure SnE where
 nm : Nat
 v : Int
 vg : Nat
 vc : Nat
 view : List Int
structure SnD where
 st : Nat
 rr : Nat
 lr : Nat
 ini : List Nat
 sn : List SnE
 rows : List (Nat × Nat × List Int)
def SnD.at (Z : SnD) (i : Nat) : SnE := Z.sn.getD (i - 1) ⟨0, 0, 0, 0, []⟩
def spN (Z : SnD) (i x : Nat) : Nat := if x = 0 then Z.ini.getD i 0 else (Z.at x).nm
def spV (Z : SnD) (x : Nat) : Int := if x = 0 then 0 else (Z.at x).v
def spW (Z : SnD) (room x : Nat) : Option (Nat × Nat × Nat) := if x = 0 then none else some ((Z.at x).vg, room, (Z.at x).vc)
def nms (Z : SnD) (l : List Nat) : List Nat := (List.range l.length).map fun i => spN Z i (l.getD i 0)
def stS (Z : SnD) (room : Nat) : Bun := (Z.ini.map fun n => seB n 0 (.slice none 0 0)) ++ Z.sn.map fun e => seB e.nm e.v (sl e.vg room e.vc)
def vrB (room : Nat) (r : Nat × Nat × List Int) : Nat × Cont := (r.1, .row tU 1 room r.2.1 (ints r.2.2))
def vwS (room : Nat) (rows : List (Nat × Nat × List Int)) : Bun := rows.map (vrB room)
def lsB (lr room : Nat) (tks : List Nat) (busy : List Int) : Nat × Cont := (lr, .row tTP 1 room room (busy.map fun n => if n < 0 then ptr0 else ptr (tks.getD n.toNat 0)))
theorem nms_len (Z : SnD) (l : List Nat) : (nms Z l).length = l.length := by simp [nms]
theorem nms_at (Z : SnD) {l : List Nat} {i : Nat} (h : i < l.length) : (nms Z l).getD i 0 = spN Z i (l.getD i 0) := by
 unfold nms
 rw [List.getD_eq_getElem?_getD, List.getElem?_map, List.getElem?_range h]
 rfl
theorem nms_app (Z : SnD) (l : List Nat) (x : Nat) : nms Z (l ++ [x]) = nms Z l ++ [spN Z l.length x] := by
 unfold nms
 rw [List.length_append, List.length_singleton, List.range_succ, List.map_append, List.map_singleton]
 congr 1
 ·apply List.map_congr_left
  intro i hi
  rw [getD_app (List.mem_range.1 hi)]
 ·have : (l ++ [x]).getD l.length 0 = x := by simp
  rw [this]
theorem ptrs_at {l : List Nat} {i : Nat} (h : i < l.length) : (ptrs l)[i]? = some (ptr (l.getD i 0)) := by
 unfold ptrs
 rw [List.getElem?_map, List.getD_eq_getElem?_getD, List.getElem?_eq_getElem h]
 rfl
theorem ptrs_app (l : List Nat) (p : Nat) : ptrs (l ++ [p]) = ptrs l ++ [ptr p] := by simp [ptrs]
theorem at_mem {Z : SnD} {x : Nat} (h0 : x ≠ 0) (h : x ≤ Z.sn.length) : Z.at x ∈ Z.sn := by
 unfold SnD.at
 rw [List.getD_eq_getElem?_getD, List.getElem?_eq_getElem (by omega)]
 exact List.getElem_mem _
theorem sp_in {Z : SnD} {room i x : Nat} (hi : i < Z.ini.length) (h : x ≤ Z.sn.length) : seB (spN Z i x) (spV Z x) (wv (spW Z room x)) ∈ stS Z room := by
 unfold spN spV spW stS
 by_cases h0 : x = 0
 ·rw [if_pos h0, if_pos h0, if_pos h0]
  refine Sy.mL _ (List.mem_map.2 ⟨Z.ini.getD i 0, ?_, rfl⟩)
  rw [List.getD_eq_getElem?_getD, List.getElem?_eq_getElem hi]
  exact List.getElem_mem _
 ·rw [if_neg h0, if_neg h0, if_neg h0]
  exact Sy.mR _ (List.mem_map.2 ⟨Z.at x, at_mem h0 h, rfl⟩)
theorem getD_inj {α : Type} {l : List α} {d : α} (f : α → Nat) (h : (l.map f).Nodup) {i j : Nat} (hi : i < l.length) (hj : j < l.length) (e : f (l.getD i d) = f (l.getD j d)) : i = j := by
 rw [List.getD_eq_getElem?_getD, List.getD_eq_getElem?_getD, List.getElem?_eq_getElem hi, List.getElem?_eq_getElem hj] at e
 have e : f l[i] = f l[j] := e
 have hpw := List.pairwise_iff_getElem.1 (List.nodup_iff_pairwise_ne.1 h)
 rcases Nat.lt_trichotomy i j with hlt | heq | hlt
 ·have := hpw i j (by simpa using hi) (by simpa using hj) hlt
  rw [List.getElem_map, List.getElem_map] at this
  exact absurd e this
 ·exact heq
 ·have := hpw j i (by simpa using hj) (by simpa using hi) hlt
  rw [List.getElem_map, List.getElem_map] at this
  exact absurd e.symm this
theorem spN_inj {Z : SnD} (hn : (Z.ini ++ Z.sn.map (·.nm)).Nodup) {i x y : Nat} (hi : i < Z.ini.length) (hx : x ≤ Z.sn.length) (hy : y ≤ Z.sn.length) (e : spN Z i x = spN Z i y) : x = y := by
 obtain ⟨h1, h2, h3⟩ := List.nodup_append.1 hn
 have hin : Z.ini.getD i 0 ∈ Z.ini := by
  rw [List.getD_eq_getElem?_getD, List.getElem?_eq_getElem hi]
  exact List.getElem_mem _
 unfold spN at e
 split at e <;> split at e
 ·omega
 ·rename_i _ hy0
  exact absurd e (h3 _ hin _ (List.mem_map.2 ⟨_, at_mem hy0 hy, rfl⟩))
 ·rename_i hx0 _
  exact absurd e.symm (h3 _ hin _ (List.mem_map.2 ⟨_, at_mem hx0 hx, rfl⟩))
 ·have := getD_inj (α := SnE) (d := ⟨0, 0, 0, 0, []⟩) (fun e => e.nm) h2 (i := x - 1) (j := y - 1) (by omega) (by omega) e
  omega
def SnD.more (Z : SnD) (es : List SnE) (rs : List (Nat × Nat × List Int)) : SnD := { Z with sn := Z.sn ++ es, rows := Z.rows ++ rs }
theorem more_at {Z : SnD} {es : List SnE} {rs : List (Nat × Nat × List Int)} {x : Nat} (h0 : x ≠ 0) (h : x ≤ Z.sn.length) : (Z.more es rs).at x = Z.at x := by
 unfold SnD.at SnD.more
 dsimp only
 rw [List.getD_eq_getElem?_getD, List.getElem?_append_left (by omega), ← List.getD_eq_getElem?_getD]
theorem more_sp {Z : SnD} {es : List SnE} {rs : List (Nat × Nat × List Int)} {i x : Nat} (h : x ≤ Z.sn.length) : spN (Z.more es rs) i x = spN Z i x := by
 unfold spN
 split
 ·rfl
 ·rename_i h0
  rw [more_at h0 h]
theorem more_nms {Z : SnD} {es : List SnE} {rs : List (Nat × Nat × List Int)} {l : List Nat} (h : ∀ i, l.getD i 0 ≤ Z.sn.length) : nms (Z.more es rs) l = nms Z l := by
 unfold nms
 apply List.map_congr_left
 intro i _
 exact more_sp (h i)
theorem more_len (Z : SnD) (es : List SnE) (rs : List (Nat × Nat × List Int)) : Z.sn.length ≤ (Z.more es rs).sn.length := by
 unfold SnD.more
 dsimp only
 rw [List.length_append]
 omega
def kd (k : Option K8) (d : TaskD) (room : Nat) : Prop := match k with
 | none => d.kind = 7
 | some k => d.kind = 8 ∧ k.i = d.slot ∧ k.v = d.v ∧ 0 ≤ d.slot ∧ d.slot < (room : Int)
structure okC (L room : Nat) (cl : List Nat) (h : Option (Nat × Nat)) (a : Option (Nat × Nat)) (d : TaskD) : Prop where
 a : a = none → d.collect = []
 h : h = none ↔ d.ahead = []
 c : d.collect.length < room
 m : d.moved.length = room
 l : d.ahead ≠ [] → d.ahead.length = room
 cb : ∀ i, d.collect.getD i 0 ≤ L
 ab : ∀ i, d.ahead.getD i 0 ≤ L
 n1 : ∀ i, i < d.collect.length → d.ahead.getD i 0 ≠ 0 → d.collect.getD i 0 ≠ 0
 n2 : ∀ i, d.ahead.getD i 0 ≠ 0 → cl.getD i 0 ≠ 0
 n3 : ∀ i, d.collect.getD i 0 ≠ 0 → cl.getD i 0 ≠ 0
inductive TN (Z : SnD) (room : Nat) (cl : List Nat) : TaskH → Prop
 | scan (d : TaskD) (tk : Nat) (vw : Value) (k : Option K8) (a h : Option (Nat × Nat)) (gb hb tb g mr : Nat) (hk : kd k d room) (hv : d.view = []) (hp : d.pc = 1) (hc : okC Z.sn.length room cl h a d) :
   TN Z room cl ⟨d, tk, cScan gb hb tb, vw, scanAll Z.st gb hb tb tk g mr room k a d.collect.length (ptrs (nms Z d.collect)) h room (ptrs (nms Z d.ahead)) d.moved⟩
 | up2 (d : TaskD) (tk : Nat) (vw : Value) (k : K8) (wb ub wg wc : Nat) (hk : kd (some k) d room) (hv : d.view = []) (hp : d.pc = 2) (hr : (wg, wc, d.seen) ∈ Z.rows) :
   TN Z room cl ⟨d, tk, cUp2 k.sb k.ib k.vb wb ub, vw, exB Z.st (some k) ++ [bx wb tSl (sl wg room wc), bx ub tTP (ptr tk)]⟩
 | done7 (d : TaskD) (tk : Nat) (nx : Value) (g c : Nat) (hk : d.kind = 7) (hp : d.pc = 0) (hr : (g, c, d.view) ∈ Z.rows) : TN Z room cl ⟨d, tk, nx, sl g room c, []⟩
 | done8 (d : TaskD) (tk : Nat) (nx : Value) (hk : d.kind = 8) (hv : d.view = []) (hp : d.pc = 0) : TN Z room cl ⟨d, tk, nx, nil0, []⟩
theorem TN.more {Z : SnD} {room : Nat} {cl cl' : List Nat} {x : TaskH} (h : TN Z room cl x) (es : List SnE) (rs : List (Nat × Nat × List Int)) (hcl : ∀ i, cl.getD i 0 ≠ 0 → cl'.getD i 0 ≠ 0) : TN (Z.more es rs) room cl' x := by
 have hl := more_len Z es rs
 cases h with
 | scan d tk vw k a h gb hb tb g mr hk hv hp hc =>
   have := TN.scan (Z := Z.more es rs) (room := room) (cl := cl') d tk vw k a h gb hb tb g mr hk hv hp ⟨hc.a, hc.h, hc.c, hc.m, hc.l, fun i => Nat.le_trans (hc.cb i) hl, fun i => Nat.le_trans (hc.ab i) hl, hc.n1, fun i hi => hcl i (hc.n2 i hi), fun i hi => hcl i (hc.n3 i hi)⟩
   rw [more_nms hc.cb, more_nms hc.ab] at this
   exact this
 | up2 d tk vw k wb ub wg wc hk hv hp hr => exact .up2 d tk vw k wb ub wg wc hk hv hp (Sy.mL _ hr)
 | done7 d tk nx g c hk hp hr => exact .done7 d tk nx g c hk hp (Sy.mL _ hr)
 | done8 d tk nx hk hv hp => exact .done8 d tk nx hk hv hp
structure HeapNx (w : WorldD) (st : Nat) (tks : List Nat) (b : Bun) (xs : List TaskH) (Z : SnD) : Prop where
 thing : w.thing = 4
 zst : Z.st = st
 d : xs.map (·.d) = w.tasks
 tk : xs.map (·.tk) = tks
 ok : ∀ x ∈ xs, TN Z w.room w.cells x
 room : 1 ≤ w.room ∧ w.room ≤ 16
 ini : Z.ini.length = w.room
 clen : w.cells.length = w.room
 cb : ∀ i, w.cells.getD i 0 ≤ Z.sn.length
 states : w.states = (0, []) :: Z.sn.map fun e => (e.v, e.view)
 rv : ∀ e ∈ Z.sn, (e.vg, e.vc, e.view) ∈ Z.rows
 blen : w.busy.length = w.room
 bz : ∀ n ∈ w.busy, n < (tks.length : Int)
 perm : b.Perm (thN st Z.rr Z.lr w.room (ptrs (nms Z w.cells)) ++ (allH xs ++ ([] ++ (stS Z w.room ++ (vwS w.room Z.rows ++ [lsB Z.lr w.room tks w.busy])))))
def HeapN (w : WorldD) (st : Nat) (tks : List Nat) (b : Bun) : Prop := ∃ xs Z, HeapNx w st tks b xs Z
theorem HeapNx.nodup {w : WorldD} {st : Nat} {tks : List Nat} {b : Bun} {xs : List TaskH} {Z : SnD} (h : HeapNx w st tks b xs Z) (hn : (b.map (·.1)).Nodup) : (Z.ini ++ Z.sn.map (·.nm)).Nodup := by
 have := (h.perm.map (·.1)).nodup_iff.1 hn
 simp only [List.map_append] at this
 have h2 := (List.nodup_append.1 (List.nodup_append.1 (List.nodup_append.1 (List.nodup_append.1 this).2.1).2.1).2.1).1
 have e : (stS Z w.room).map (·.1) = Z.ini ++ Z.sn.map (·.nm) := by
  unfold stS
  rw [List.map_append, List.map_map, List.map_map]
  congr 1
  exact List.map_id' _
 rw [e] at h2
 exact h2
open Go.Proofs.YtjohknpmhlildaaDoor.Sy (Let Blk Cont Bun ptr ptr0 bx tkB tkU clo DoesB usedK ownOf rdsOf Rep does_frame does_perm does_mono does_all does_of S0_holds)
open Go.Proofs.YtjohknpmhlildaaDoor.As
theorem kd_kind {k : Option K8} {d : TaskD} {room : Nat} (h : kd k d room) : d.kind = 7 ∨ d.kind = 8 := by
 cases k with
 | none => exact .inl h
 | some k => exact .inr h.1
theorem kd_of {k : Option K8} {d d' : TaskD} {room : Nat} (h : kd k d room) (e1 : d'.kind = d.kind) (e2 : d'.slot = d.slot) (e3 : d'.v = d.v) : kd k d' room := by
 cases k with
 | none => exact e1.trans h
 | some k => exact ⟨e1.trans h.1, h.2.1.trans e2.symm, h.2.2.1.trans e3.symm, by rw [e2]; exact h.2.2.2.1, by rw [e2]; exact h.2.2.2.2⟩
theorem getD_or {l : List Nat} {x i : Nat} : (l ++ [x]).getD i 0 = if i < l.length then l.getD i 0 else if i = l.length then x else 0 := by
 split
 ·rename_i h
  exact getD_app h _ _
 ·rename_i h
  rw [List.getD_eq_getElem?_getD, List.getElem?_append_right (by omega)]
  split
  ·rename_i e
   subst e
   simp
  ·rename_i e
   have : i - l.length ≠ 0 := by omega
   cases hi : i - l.length with
   | zero => exact absurd hi this
   | succ j => simp
theorem HeapNx.set {w : WorldD} {st : Nat} {tks : List Nat} {b : Bun} {xs : List TaskH} {Z : SnD} (h : HeapNx w st tks b xs Z) {n : Nat} {x y : TaskH} (hx : xs[n]? = some x) (ht : y.tk = x.tk) (rs : List (Nat × Nat × List Int)) (hy : TN (Z.more [] rs) w.room w.cells y) {o : Bun}
  (ho : o = thN st Z.rr Z.lr w.room (ptrs (nms Z w.cells)) ++ (allH (xs.set n y) ++ (vwS w.room rs ++ (stS Z w.room ++ (vwS w.room Z.rows ++ [lsB Z.lr w.room tks w.busy]))))) : HeapN { w with tasks := w.tasks.set n y.d } st tks o := by
 have he : (Z.more [] rs).sn = Z.sn := by simp [SnD.more]
 refine ⟨xs.set n y, Z.more [] rs, h.thing, h.zst, set_d h.d n y, by rw [set_tk hx ht]; exact h.tk, all_set (fun x hx => (h.ok x hx).more [] rs (fun _ hi => hi)) hy, h.room, h.ini, h.clen, by rw [he]; exact h.cb, by rw [he]; exact h.states, by rw [he]; exact fun e hm => Sy.mL _ (h.rv e hm), h.blen, h.bz, ?_⟩
 subst ho
 show List.Perm _ (thN st Z.rr Z.lr w.room (ptrs (nms (Z.more [] rs) w.cells)) ++ (allH (xs.set n y) ++ ([] ++ (stS (Z.more [] rs) w.room ++ (vwS w.room (Z.rows ++ rs) ++ [lsB Z.lr w.room tks w.busy])))))
 have e1 : stS (Z.more [] rs) w.room = stS Z w.room := by unfold stS; rw [he]; rfl
 rw [more_nms h.cb, e1]
 have e2 : vwS w.room (Z.rows ++ rs) = vwS w.room Z.rows ++ vwS w.room rs := by simp [vwS]
 rw [e2]
 refine List.Perm.append_left _ (List.Perm.append_left _ ?_)
 letI : DecidableEq (Nat × Cont) := Classical.typeDecidableEq _
 refine List.perm_iff_count.2 fun p => ?_
 simp only [List.count_append, List.count_nil]
 omega
theorem snap_one {w : WorldD} {d : TaskD} (hk : d.kind = 7 ∨ d.kind = 8) (hp : d.pc = 1) :
  oneW w { d with steps := d.steps + 1 } = (let t : TaskD := { d with steps := d.steps + 1, collect := d.collect ++ [w.cells.getD d.collect.length 0] }
   if t.collect.length < w.room then (w, t) else match lookedW w t with
    | (t, none) => (w, t)
    | (t, some view) => if t.kind = 8 then (w, { t with seen := view, pc := 2 }) else (w, { t with view := view }.end' 0 true)) := by
 refine (one_snap (w := w) (t := { d with steps := d.steps + 1 }) hk).trans ?_
 unfold snapW
 rw [if_neg (by show ¬ d.pc = 2; omega)]
 rfl
theorem state_at {w : WorldD} {Z : SnD} (h : w.states = (0, []) :: Z.sn.map fun e => (e.v, e.view)) {x : Nat} (hx : x ≤ Z.sn.length) : w.states.getD x (0, []) = if x = 0 then (0, []) else ((Z.at x).v, (Z.at x).view) := by
 rw [h]
 cases x with
 | zero => rfl
 | succ x =>
   rw [if_neg (by omega), List.getD_eq_getElem?_getD, List.getElem?_cons_succ, List.getElem?_map]
   unfold SnD.at
   rw [show x + 1 - 1 = x by omega, List.getD_eq_getElem?_getD, List.getElem?_eq_getElem (by omega)]
   rfl
theorem range_getD {α : Type} {n i : Nat} {f : Nat → α} {d : α} (h : i < n) : ((List.range n).map f).getD i d = f i := by
 rw [List.getD_eq_getElem?_getD, List.getElem?_map, List.getElem?_range h]
 rfl
def lkD (Z : SnD) (room : Nat) (at' ah : List Nat) (M : List Bool) : LkD :=
 ⟨nms Z at', nms Z ah, M, (List.range room).map fun i => spW Z room (at'.getD i 0), (List.range room).map fun i => spV Z (at'.getD i 0), room⟩
theorem lk_ok {w : WorldD} {Z : SnD} {at' ah : List Nat} {M : List Bool} (hr : 1 ≤ w.room ∧ w.room ≤ 16) (hi : Z.ini.length = w.room) (hal : at'.length = w.room) (hhl : ah.length = w.room) (hm : M.length = w.room) (hcb : ∀ i, at'.getD i 0 ≤ Z.sn.length) (hab : ∀ i, ah.getD i 0 ≤ Z.sn.length) : (lkD Z w.room at' ah M).ok (stS Z w.room) := by
 refine ⟨(nms_len _ _).trans hal, (nms_len _ _).trans hhl, hm, hr.1, by show w.room < 1000000; omega, fun i hlt => ?_, fun i hlt => ?_⟩
 ·have hlt : i < w.room := hlt
  show seB ((nms Z at').getD i 0) (((List.range w.room).map fun i => spV Z (at'.getD i 0)).getD i 0) (wv (((List.range w.room).map fun i => spW Z w.room (at'.getD i 0)).getD i none)) ∈ _
  rw [nms_at Z (by rw [hal]; exact hlt), range_getD hlt, range_getD hlt]
  exact sp_in (by rw [hi]; exact hlt) (hcb i)
 ·have hlt : i < w.room := hlt
  refine ⟨spV Z (ah.getD i 0), wv (spW Z w.room (ah.getD i 0)), ?_⟩
  show seB ((nms Z ah).getD i 0) _ _ ∈ _
  rw [nms_at Z (by rw [hhl]; exact hlt)]
  exact sp_in (by rw [hi]; exact hlt) (hab i)
theorem lk_same {w : WorldD} {Z : SnD} {at' ah : List Nat} {M : List Bool} (hn : (Z.ini ++ Z.sn.map (·.nm)).Nodup) (hi : Z.ini.length = w.room) (hal : at'.length = w.room) (hhl : ah.length = w.room) (hm : M.length = w.room) (hcb : ∀ i, at'.getD i 0 ≤ Z.sn.length) (hab : ∀ i, ah.getD i 0 ≤ Z.sn.length) : Same (lkD Z w.room at' ah M) at' ah := by
 refine ⟨(nms_len _ _).trans hal, (nms_len _ _).trans hhl, hm, hal, hhl, fun i hlt => ?_⟩
 have hlt : i < w.room := hlt
 show (nms Z at').getD i 0 = (nms Z ah).getD i 0 ↔ _
 rw [nms_at Z (by rw [hal]; exact hlt), nms_at Z (by rw [hhl]; exact hlt)]
 exact ⟨fun e => spN_inj hn (by rw [hi]; exact hlt) (hcb i) (hab i) e, fun e => by rw [e]⟩
theorem step_snap {w : WorldD} {st : Nat} {tks : List Nat} {b : Bun} (hH : HeapN w st tks b) {n : Nat} {t : TaskD} {tk : Nat} (ht : w.tasks[n]? = some t) (hp : t.pc ≠ 0) (hs : t.steps < 4611686018427387904) (htk : tks[n]? = some tk) :
  DoesB Tryd.prog fStep #[ptr tk] [] b (stepQ (fun w' o => HeapN w' st tks o) w n) := by
 refine does_nodup fun hnd => ?_
 obtain ⟨xs, Z, h⟩ := hH
 have hnd := h.nodup hnd
 obtain ⟨x, hx, rfl⟩ := at_d h.d ht
 have hok := h.ok x (List.mem_of_getElem? hx)
 have htk' : x.tk = tk := by
  have := h.tk
  subst this
  rw [List.getElem?_map, hx] at htk
  injection htk
 subst htk'
 have hall := all_cell hp
 have hzst := h.zst
 have hroom := h.room
 cases hok with
 | scan d tk vw k a h' gb hb tb g mr hk hv hpc hc =>
   dsimp only at ht hp hs hx ⊢
   subst hzst
   have hlen : d.collect.length < w.room := hc.c

   generalize hnew : w.cells.getD d.collect.length 0 = new
   have hnb : new ≤ Z.sn.length := by rw [← hnew]; exact h.cb _
   have hcs : (ptrs (nms Z w.cells))[(nms Z d.collect).length]? = some (ptr (spN Z d.collect.length new)) := by
    rw [nms_len, ptrs_at (by rw [nms_len, h.clen]; exact hlen), nms_at Z (by rw [h.clen]; exact hlen), hnew]
   have hin : seB (spN Z d.collect.length new) (spV Z new) (wv (spW Z w.room new)) ∈ stS Z w.room ++ (vwS w.room Z.rows ++ [lsB Z.lr w.room tks w.busy]) := Sy.mL _ (sp_in (by rw [h.ini]; exact hlen) hnb)
   have ha : a = none → nms Z d.collect = [] := fun e => by rw [hc.a e]; rfl
   have hone := snap_one (w := w) (kd_kind hk) hpc
   rw [hnew] at hone
   have hclen : (d.collect ++ [new]).length = d.collect.length + 1 := by simp
   have hP : nms Z (d.collect ++ [new]) = nms Z d.collect ++ [spN Z d.collect.length new] := nms_app Z _ _

   have hcb : ∀ i, (d.collect ++ [new]).getD i 0 ≤ Z.sn.length := fun i => by
    rw [getD_or]
    split
    ·exact hc.cb i
    ·split
     ·exact hnb
     ·exact Nat.zero_le _
   have hn3 : ∀ i, (d.collect ++ [new]).getD i 0 ≠ 0 → w.cells.getD i 0 ≠ 0 := fun i hi => by
    rw [getD_or] at hi
    split at hi
    ·exact hc.n3 i hi
    ·split at hi
     ·rename_i e
      rw [e, hnew]
      exact hi
     ·exact absurd rfl hi
   have hn1 : ∀ i, i < d.collect.length + 1 → d.ahead.getD i 0 ≠ 0 → (d.collect ++ [new]).getD i 0 ≠ 0 := fun i hi hi0 => by
    rw [getD_or]
    split
    ·rename_i hlt
     exact hc.n1 i hlt hi0
    ·rw [if_pos (by omega)]
     have := hc.n2 i hi0
     rw [show i = d.collect.length by omega, hnew] at this
     exact this
   by_cases hpart : d.collect.length + 1 < w.room ∨ h' = none
   ·refine step_glueS hx h.perm (by rw [hall]; rw [← nms_len Z d.collect]; exact scanA_does hin ha (by rw [nms_len]; exact hlen) (by omega) hcs (by rw [nms_len]; exact hpart) Z.st gb hb tb tk g mr Z.rr Z.lr k d.moved d.steps) ?_
    rintro r o ⟨rfl, x, hcase⟩
    rw [nms_len, ← ptrs_app, ← hP] at hcase
    rcases hcase with ⟨hlt, rfl⟩ | ⟨hge, hnone, rfl⟩
    ·obtain ⟨y, hy⟩ : ∃ y : TaskH, y = ⟨{ d with steps := d.steps + 1, collect := d.collect ++ [new] }, tk, cScan gb hb tb, vw, scanAll Z.st gb hb tb tk g mr w.room k (some x) (d.collect ++ [new]).length (ptrs (nms Z (d.collect ++ [new]))) h' w.room (ptrs (nms Z d.ahead)) d.moved⟩ := ⟨_, rfl⟩
     refine fin y (thN Z.st Z.rr Z.lr w.room (ptrs (nms Z w.cells))) [] ht hp (w' := w) ?_ (by subst hy; show _ = Value.bool (d.pc == 0); rw [hpc]; rfl) ?_ (h.set hx (by subst hy; rfl) [] ?_ rfl)
     ·subst hy
      rw [hone]
      dsimp only
      rw [if_pos (by rw [hclen]; exact hlt)]
     ·subst hy
      rw [all_on _ (by show d.pc ≠ 0; exact hp) hs rfl, hclen]
      rfl
     ·subst hy
      have := TN.scan (Z := Z.more [] []) (room := w.room) (cl := w.cells) { d with steps := d.steps + 1, collect := d.collect ++ [new] } tk vw k (some x) h' gb hb tb g mr (kd_of hk rfl rfl rfl) hv hpc
       ⟨fun e => (by cases e), hc.h, by show (d.collect ++ [new]).length < _; rw [hclen]; exact hlt, hc.m, hc.l, fun i => Nat.le_trans (hcb i) (more_len _ _ _), fun i => Nat.le_trans (hc.ab i) (more_len _ _ _), fun i hi => hn1 i (by have hi : i < (d.collect ++ [new]).length := hi; rw [hclen] at hi; exact hi), hc.n2, hn3⟩
      dsimp only at this
      rw [more_nms hcb, more_nms hc.ab] at this
      exact this
    ·have hah : d.ahead = [] := hc.h.1 hnone
     obtain ⟨y, hy⟩ : ∃ y : TaskH, y = ⟨{ d with steps := d.steps + 1, collect := [], ahead := d.collect ++ [new] }, tk, cScan gb hb tb, vw, scanAll Z.st gb hb tb tk g mr w.room k none 0 [] (some x) (d.collect.length + 1) (ptrs (nms Z (d.collect ++ [new]))) d.moved⟩ := ⟨_, rfl⟩
     have hfull : d.collect.length + 1 = w.room := by omega
     refine fin y (thN Z.st Z.rr Z.lr w.room (ptrs (nms Z w.cells))) [] ht hp (w' := w) ?_ (by subst hy; show _ = Value.bool (d.pc == 0); rw [hpc]; rfl) ?_ (h.set hx (by subst hy; rfl) [] ?_ rfl)
     ·subst hy
      rw [hone]
      dsimp only
      rw [if_neg (by rw [hclen]; exact hge)]
      unfold lookedW
      rw [if_pos hah]
     ·subst hy
      rw [all_on _ (by show d.pc ≠ 0; exact hp) hs rfl]
      rfl
     ·subst hy
      rw [hfull]
      have := TN.scan (Z := Z.more [] []) (room := w.room) (cl := w.cells) { d with steps := d.steps + 1, collect := [], ahead := d.collect ++ [new] } tk vw k none (some x) gb hb tb g mr (kd_of hk rfl rfl rfl) hv hpc
       ⟨fun _ => rfl, ⟨fun e => (by cases e), fun e => (by have := congrArg List.length e; simp at this)⟩, by show 0 < w.room; omega, hc.m, fun _ => hclen.trans hfull, fun i => (by simp), fun i => Nat.le_trans (hcb i) (more_len _ _ _), fun i hi => absurd hi (Nat.not_lt_zero _), hn3, fun i hi => absurd (by simp) hi⟩
      dsimp only at this
      rw [more_nms hcb] at this
      exact this
   ·have hfull : d.collect.length + 1 = w.room := by omega
    cases h' with
    | none => exact absurd (.inr rfl) hpart
    | some arch =>
    obtain ⟨ar, ch⟩ := arch
    have hah : d.ahead ≠ [] := fun e => by have := hc.h.2 e; cases this
    have hhl := hc.l hah
    have hal : (d.collect ++ [new]).length = w.room := hclen.trans hfull
    have hD := lk_ok (w := w) (Z := Z) hroom h.ini hal hhl hc.m hcb hc.ab
    have hS := lk_same (w := w) (Z := Z) hnd h.ini hal hhl hc.m hcb hc.ab
    generalize hDD : lkD Z w.room (d.collect ++ [new]) d.ahead d.moved = D at hD hS
    have hDr : D.room = w.room := by subst hDD; rfl
    have hDP : D.P = nms Z (d.collect ++ [new]) := by subst hDD; rfl
    have hDQ : D.Q = nms Z d.ahead := by subst hDD; rfl
    have hDM : D.M = d.moved := by subst hDD; rfl
    have hDV : D.V = (List.range w.room).map fun i => spV Z ((d.collect ++ [new]).getD i 0) := by subst hDD; rfl
    have hDW : ∀ i, i < w.room → D.W.getD i none = spW Z w.room ((d.collect ++ [new]).getD i 0) := fun i hi => by subst hDD; exact range_getD hi
    have hdoes := scanF_does (s := stS Z w.room ++ (vwS w.room Z.rows ++ [lsB Z.lr w.room tks w.busy])) (fun q hq => Sy.mL _ hq) hD (by rw [hDV, hDr]; simp) (hDP.trans hP) hin ha ar ch hcs Z.st gb hb tb tk g mr Z.rr Z.lr k (d.steps : Int)
    rw [hDr, hDQ, hDM, nms_len] at hdoes
    refine step_glueS hx h.perm (by rw [hall]; exact hdoes) ?_

    obtain ⟨u, hu⟩ : ∃ u : TaskD, u = { d with steps := d.steps + 1, collect := [], ahead := d.collect ++ [new], moved := D.ms D.room } := ⟨_, rfl⟩
    have hu' : u = { d with steps := d.steps + 1, collect := [], ahead := d.collect ++ [new], moved := List.zipWith (· || ·) d.moved (diffW (d.collect ++ [new]) d.ahead) } := by rw [hu, hS.ms, hDM]
    have hlk : lookedW w { d with steps := d.steps + 1, collect := d.collect ++ [new] } = if (diffW (d.collect ++ [new]) d.ahead).all (! ·) then (u, some ((d.collect ++ [new]).map fun i => (w.states.getD i (0, [])).1)) else
      match fromW d.moved (diffW (d.collect ++ [new]) d.ahead) 0 with
      | some i => (u, some (w.states.getD ((d.collect ++ [new]).getD i 0) (0, [])).2)
      | none => (u, none) := by
     rw [hu']
     unfold lookedW
     rw [if_neg hah]
     rfl
    have hWW : ∀ i, i < D.room → (d.collect ++ [new]).getD i 0 ≠ d.ahead.getD i 0 → ∃ x, D.W.getD i none = some x := fun i hi hne => by
     rw [hDr] at hi
     refine ⟨((Z.at ((d.collect ++ [new]).getD i 0)).vg, w.room, (Z.at ((d.collect ++ [new]).getD i 0)).vc), (hDW i hi).trans ?_⟩
     unfold spW
     rw [if_neg]
     intro h0
     have : d.ahead.getD i 0 ≠ 0 := fun e => hne (h0.trans e.symm)
     exact hn1 i (by omega) this h0
    have hone2 : ∀ q, lookedW w { d with steps := d.steps + 1, collect := d.collect ++ [new] } = q → oneW w { d with steps := d.steps + 1 } = match q with
      | (t, none) => (w, t)
      | (t, some view) => if t.kind = 8 then (w, { t with seen := view, pc := 2 }) else (w, { t with view := view }.end' 0 true) := fun q hq => by
     rw [hone]
     dsimp only
     rw [if_neg (by rw [hclen]; omega), hq]

    have seen : ∀ (vl : List Int) (vg vc : Nat) (rs : List (Nat × Nat × List Int)), lookedW w { d with steps := d.steps + 1, collect := d.collect ++ [new] } = (u, some vl) → (vg, vc, vl) ∈ Z.rows ++ rs → ∀ r o, seenQ Z.st tk Z.rr Z.lr w.room k (ptrs (nms Z w.cells)) (d.steps : Int) (sl vg w.room vc) (vwS w.room rs) r o →
      ∃ y th' u', o.Perm (y.all ++ (th' ++ u')) ∧ stepQ (fun w' o => HeapN w' Z.st tks o) w n r (th' ++ (allH (xs.set n y) ++ (u' ++ (stS Z w.room ++ (vwS w.room Z.rows ++ [lsB Z.lr w.room tks w.busy]))))) := by
     intro vl vg vc rs hl hrow r o hq
     have h1 := hone2 _ hl
     dsimp only at h1
     subst hu
     cases k with
     | none =>
       obtain ⟨rfl, nx, rfl⟩ := hq
       have hk7 : d.kind = 7 := hk
       obtain ⟨y, hy⟩ : ∃ y : TaskH, y = ⟨{ d with steps := d.steps + 1, collect := [], ahead := d.collect ++ [new], moved := D.ms D.room, view := vl, pc := 0, out := 0, ok := true }, tk, nx, sl vg w.room vc, []⟩ := ⟨_, rfl⟩
       refine fin y (thN Z.st Z.rr Z.lr w.room (ptrs (nms Z w.cells))) (vwS w.room rs) ht hp (w' := w) ?_ (by subst hy; rfl) ?_ (h.set hx (by subst hy; rfl) rs (by subst hy; exact .done7 _ tk nx vg vc hk7 rfl hrow) rfl)
       ·subst hy
        rw [h1, if_neg (by show ¬ d.kind = 8; omega)]
        rfl
       ·subst hy
        rw [all_end _ rfl hs rfl]
        rfl
     | some k =>
       obtain ⟨rfl, wb, ub, rfl⟩ := hq
       obtain ⟨y, hy⟩ : ∃ y : TaskH, y = ⟨{ d with steps := d.steps + 1, collect := [], ahead := d.collect ++ [new], moved := D.ms D.room, seen := vl, pc := 2 }, tk, cUp2 k.sb k.ib k.vb wb ub, vw, exB Z.st (some k) ++ [bx wb tSl (sl vg w.room vc), bx ub tTP (ptr tk)]⟩ := ⟨_, rfl⟩
       refine fin y (thN Z.st Z.rr Z.lr w.room (ptrs (nms Z w.cells))) (vwS w.room rs) ht hp (w' := w) ?_ (by subst hy; rfl) ?_ (h.set hx (by subst hy; rfl) rs ?_ rfl)
       ·subst hy
        rw [h1, if_pos (by exact hk.1)]
       ·subst hy
        rw [all_on _ (by dsimp only; decide) hs rfl]
        rfl
       ·subst hy
        exact .up2 (Z := Z.more [] rs) { d with steps := d.steps + 1, collect := [], ahead := d.collect ++ [new], moved := D.ms D.room, seen := vl, pc := 2 } tk vw k wb ub vg vc (kd_of (k := some k) hk rfl rfl rfl) hv rfl hrow
    rintro r o (⟨hsame, g2, c2, hc2, hq⟩ | ⟨hsame, hbw, rfl, x, rfl⟩ | ⟨hsame, x, hbw, hq⟩)
    ·rw [hDr] at hq
     refine seen D.V g2 c2 [(g2, c2, D.V)] ?_ (Sy.mR _ (Sy.mS _)) r o hq
     rw [hlk, if_pos (by rw [← hS.same]; exact hsame)]
     congr 2
     rw [hDV]
     apply List.ext_getElem
     ·simp [hfull]
     ·intro i h1 h2
      rw [List.getElem_map, List.getElem_map, List.getElem_range]
      have hi : i < (d.collect ++ [new]).length := by simpa using h1
      have e : (d.collect ++ [new])[i] = (d.collect ++ [new]).getD i 0 := by rw [List.getD_eq_getElem?_getD, List.getElem?_eq_getElem hi]; rfl
      rw [e, state_at h.states (hcb i)]
      unfold spV
      split <;> rfl
    ·have hbw' : fromW d.moved (diffW (d.collect ++ [new]) d.ahead) 0 = none := by
      rcases hS.bw hWW with ⟨h1, -⟩ | ⟨j, x, -, -, -, -, h2⟩
      ·rw [hDM] at h1
       exact h1
      ·rw [hbw] at h2
       cases h2
     have hl : lookedW w { d with steps := d.steps + 1, collect := d.collect ++ [new] } = (u, none) := by
      rw [hlk, if_neg (by rw [← hS.same, hsame]; decide), hbw']
     have h1 := hone2 _ hl
     dsimp only at h1
     subst hu
     obtain ⟨y, hy⟩ : ∃ y : TaskH, y = ⟨{ d with steps := d.steps + 1, collect := [], ahead := d.collect ++ [new], moved := D.ms D.room }, tk, cScan gb hb tb, vw, scanAll Z.st gb hb tb tk g mr D.room k none 0 [] (some x) D.room (ptrs D.P) (D.ms D.room)⟩ := ⟨_, rfl⟩
     refine fin y (thN Z.st Z.rr Z.lr w.room (ptrs (nms Z w.cells))) [] ht hp (w' := w) ?_ (by subst hy; show _ = Value.bool (d.pc == 0); rw [hpc]; rfl) ?_ (h.set hx (by subst hy; rfl) [] ?_ rfl)
     ·subst hy
      exact h1
     ·subst hy
      rw [all_on _ (by show d.pc ≠ 0; exact hp) hs rfl]
      rw [← hDr]
      rfl
     ·subst hy
      have := TN.scan (Z := Z.more [] []) (room := w.room) (cl := w.cells) { d with steps := d.steps + 1, collect := [], ahead := d.collect ++ [new], moved := D.ms D.room } tk vw k none (some x) gb hb tb g mr (kd_of hk rfl rfl rfl) hv hpc
       ⟨fun _ => rfl, ⟨fun e => (by cases e), fun e => (by have := congrArg List.length e; simp at this)⟩, by show 0 < w.room; omega, by show (D.ms D.room).length = w.room; rw [D.ms_len, hDr], fun _ => hal, fun i => (by simp), fun i => Nat.le_trans (hcb i) (more_len _ _ _), fun i hi => absurd hi (Nat.not_lt_zero _), hn3, fun i hi => absurd (by simp) hi⟩
      dsimp only at this
      rw [more_nms hcb, ← hDP] at this
      rw [hDr] at this ⊢
      exact this
    ·rcases hS.bw hWW with ⟨-, h2⟩ | ⟨j, x', hj, hfr, hne, hW, h2⟩
     ·rw [hbw] at h2
      cases h2
     ·rw [hbw] at h2
      injection h2 with h2
      subst h2
      rw [hDr] at hj
      have h0 : (d.collect ++ [new]).getD j 0 ≠ 0 := fun h0 => by
       have : d.ahead.getD j 0 ≠ 0 := fun e => hne (h0.trans e.symm)
       exact hn1 j (by omega) this h0
      rw [hDW j hj] at hW
      unfold spW at hW
      rw [if_neg h0] at hW
      injection hW with hW
      subst hW
      rw [hDr] at hq
      refine seen (Z.at ((d.collect ++ [new]).getD j 0)).view _ _ [] ?_ (Sy.mL _ (h.rv _ (at_mem h0 (hcb j)))) r o hq
      rw [hlk, if_neg (by rw [← hS.same, hsame]; decide)]
      rw [hDM] at hfr
      rw [hfr]
      dsimp only
      rw [state_at h.states (hcb j), if_neg h0]
 | up2 d tk vw k wb ub wg wc hk hv hpc hr =>
   dsimp only at ht hp hs hx ⊢
   subst hzst
   obtain ⟨hk8, hki, hkv, hs0, hs1⟩ := hk
   obtain ⟨j, hj⟩ := Int.eq_ofNat_of_zero_le hs0
   have hjr : j < w.room := by omega
   have hdoes := up2_does (s := stS Z w.room ++ (vwS w.room Z.rows ++ [lsB Z.lr w.room tks w.busy])) Z.st tk Z.rr Z.lr w.room k wb ub wg w.room wc (ptrs (nms Z w.cells)) (hki.trans hj) hjr (d.steps : Int)
   refine step_glueS hx h.perm (by rw [hall]; exact hdoes) ?_
   rintro r o ⟨rfl, nx, nn, rfl⟩
   rw [hkv]
   have hjl : j < w.cells.length := by rw [h.clen]; exact hjr
   have hsl : w.states.length = Z.sn.length + 1 := by rw [h.states]; simp
   have hcl : ∀ i, (w.cells.set j (Z.sn.length + 1)).getD i 0 = if i = j then Z.sn.length + 1 else w.cells.getD i 0 := fun i => by
    rw [List.getD_eq_getElem?_getD, List.getElem?_set]
    by_cases e : j = i
    ·subst e
     rw [if_pos rfl, if_pos hjl, if_pos rfl]
     rfl
    ·rw [if_neg e, if_neg (fun h => e h.symm), ← List.getD_eq_getElem?_getD]
   obtain ⟨Z', hZ'⟩ : ∃ Z' : SnD, Z' = Z.more [⟨nn, d.v, wg, wc, d.seen⟩] [] := ⟨_, rfl⟩
   have hsn : Z'.sn = Z.sn ++ [⟨nn, d.v, wg, wc, d.seen⟩] := by rw [hZ']; rfl
   have hrows : Z'.rows = Z.rows := by rw [hZ']; simp [SnD.more]
   have hnl : Z'.sn.length = Z.sn.length + 1 := by rw [hsn]; simp
   have hat : (Z'.at (Z.sn.length + 1)).nm = nn := by
    unfold SnD.at
    rw [hsn]
    simp
   have hnm : nms Z' (w.cells.set j (Z.sn.length + 1)) = (nms Z w.cells).set j nn := by
    apply List.ext_getElem
    ·simp [nms_len]
    ·intro i h1 h2
     have hi : i < w.cells.length := by simpa [nms_len] using h1
     have e1 := nms_at Z' (l := w.cells.set j (Z.sn.length + 1)) (i := i) (by simpa using hi)
     rw [List.getD_eq_getElem?_getD, List.getElem?_eq_getElem h1] at e1
     have e2 := nms_at Z (l := w.cells) hi
     rw [List.getD_eq_getElem?_getD, List.getElem?_eq_getElem (by rw [nms_len]; exact hi)] at e2
     have e1 : (nms Z' (w.cells.set j (Z.sn.length + 1)))[i] = _ := e1
     have e2 : (nms Z w.cells)[i]'(by rw [nms_len]; exact hi) = _ := e2
     rw [e1, hcl, List.getElem_set]
     by_cases e : j = i
     ·subst e
      rw [if_pos rfl, if_pos rfl]
      unfold spN
      rw [if_neg (by omega), hat]
     ·rw [if_neg (fun h => e h.symm), if_neg e, e2, hZ']
      exact more_sp (h.cb i)
   have hpt : (ptrs (nms Z w.cells)).set j (ptr nn) = ptrs (nms Z' (w.cells.set j (Z.sn.length + 1))) := by
    rw [hnm]
    unfold ptrs
    rw [List.map_set]
   have hst : stS Z' w.room = stS Z w.room ++ [seB nn d.v (sl wg w.room wc)] := by
    unfold stS
    rw [hsn, List.map_append, ← List.append_assoc]
    have : Z'.ini = Z.ini := by rw [hZ']; rfl
    rw [this]
    rfl
   obtain ⟨y, hy⟩ : ∃ y : TaskH, y = ⟨{ d with steps := d.steps + 1, pc := 0, out := d.v, ok := true }, tk, nx, nil0, []⟩ := ⟨_, rfl⟩
   refine fin y (thN Z.st Z.rr Z.lr w.room ((ptrs (nms Z w.cells)).set j (ptr nn))) [seB nn d.v (sl wg w.room wc)] ht hp (w' := { w with states := w.states ++ [(d.v, d.seen)], cells := w.cells.set d.slot.toNat w.states.length }) ?_ (by subst hy; rfl) ?_ ?_
   ·subst hy
    refine (one_snap (w := w) (t := { d with steps := d.steps + 1 }) (.inr hk8)).trans ?_
    unfold snapW
    rw [if_pos hpc]
    rfl
   ·subst hy
    rw [all_end _ rfl hs rfl]
    rfl
   ·have hslot : d.slot.toNat = j := by omega
    rw [hslot, hsl, hpt]
    have hmono : ∀ i, w.cells.getD i 0 ≠ 0 → (w.cells.set j (Z.sn.length + 1)).getD i 0 ≠ 0 := fun i hi => by
     rw [hcl]
     split
     ·omega
     ·exact hi
    refine ⟨xs.set n y, Z', h.thing, by rw [hZ']; rfl, set_d h.d n y, by rw [set_tk hx (by subst hy; rfl)]; exact h.tk, all_set (fun x hx => by rw [hZ']; exact (h.ok x hx).more _ _ hmono) (by subst hy; exact .done8 _ _ _ hk8 hv rfl), h.room, by rw [hZ']; exact h.ini, by show (w.cells.set j (Z.sn.length + 1)).length = _; rw [List.length_set]; exact h.clen, fun i => ?_, ?_, fun e he => ?_, h.blen, h.bz, ?_⟩
    ·show (w.cells.set j (Z.sn.length + 1)).getD i 0 ≤ _
     rw [hcl, hnl]
     split
     ·exact Nat.le_refl _
     ·exact Nat.le_succ_of_le (h.cb i)
    ·show w.states ++ [(d.v, d.seen)] = _
     rw [h.states, hsn, List.map_append]
     rfl
    ·rw [hrows]
     rw [hsn] at he
     rcases List.mem_append.1 he with he | he
     ·exact h.rv e he
     ·rw [List.mem_singleton.1 he]
      exact hr
    ·show List.Perm _ (thN Z.st Z'.rr Z'.lr w.room (ptrs (nms Z' (w.cells.set j (Z.sn.length + 1)))) ++ (allH (xs.set n y) ++ ([] ++ (stS Z' w.room ++ (vwS w.room Z'.rows ++ [lsB Z'.lr w.room tks w.busy])))))
     have e1 : Z'.rr = Z.rr := by rw [hZ']; rfl
     have e2 : Z'.lr = Z.lr := by rw [hZ']; rfl
     rw [e1, e2, hst, hrows]
     refine List.Perm.append_left _ (List.Perm.append_left _ ?_)
     letI : DecidableEq (Nat × Cont) := Classical.typeDecidableEq _
     refine List.perm_iff_count.2 fun p => ?_
     simp only [List.count_append, List.count_nil]
     omega
 | done7 d tk nx g c hk hpc hr => exact absurd hpc hp
 | done8 d tk nx hk hv hpc => exact absurd hpc hp
end Go.Proofs.YtjohknpmhlildaaDoor.At
--@way 3
--@tail 0
namespace Go.Proofs.YtjohknpmhlildaaDoor.At
open Sy.O (fork nil step steps)
open Sy.Res (need hyp br leaf both)
open Go Go.RowKit
open Go.Proofs.YtjohknpmhlildaaDoor.Sy (Let Blk Cont Bun ptr ptr0 bx tkB tkU clo)
abbrev fBegun : FuncId := 14
abbrev thT (a b c d e : Value) : Value := .agg #[a, b, c, d, e]
def bg1_o : Sy.O := (steps [0, 0, 0, 0, 0, 0, 0, 0, 0, 0, 0, 1, 0, 0, 0, 0, 2, 0, 0, 0, 1, 0] nil)
noncomputable def bg1_R (st : Nat) (v n : Int) (ns : Nat → Sy.Let) : Sy.Res (Value × List Blk) :=
 let z0 := some (Addr.mk (ns 3).n 0 none)
 let z1 := Fn.func 50
 let z2 := Array.mk [Value.pointer (some ⟨(ns 1).n, 0, none⟩), Value.pointer (some ⟨(ns 5).n, 0, none⟩), Value.pointer (some ⟨(ns 4).n, 0, none⟩), Value.pointer (some ⟨(ns 2).n, 0, none⟩)]
 let z3 := some (Addr.mk st 0 none)
 leaf (Value.tuple (Array.mk [.pointer z0, .int .i64 0]), [Blk.mk (ns 5).n (Cont.obj (Obj.cells (Array.mk [Value.func z1 (Array.mk []) z2]) 1)) true, Blk.mk (ns 4).n (Cont.obj (Obj.cells (Array.mk [.pointer z0]) 48)) true, Blk.mk (ns 3).n (Cont.obj (Obj.cells (Array.mk [Value.func z1 (Array.mk []) z2, .int .u32 0, .int .i64 0, .int .u64 0, .bool false, .slice none 0 0]) 100)) true, Blk.mk (ns 2).n (Cont.obj (Obj.cells (Array.mk [.int .u64 v]) 36)) true, Blk.mk (ns 1).n (Cont.obj (Obj.cells (Array.mk [.pointer z3]) 25)) true, Blk.mk (ns 0).n (Cont.obj (Obj.cells (Array.mk [.pointer z3, .pointer none, .pointer none, .pointer none, .pointer none]) 31)) true])
theorem bg1_run (st : Nat) (v n : Int) : Sy.Ran (Sy.inB Tryd.prog Sy.S0 50 fBegun #[thT (ptr st) ptr0 ptr0 ptr0 ptr0, .int .i64 1, .int .u64 v, .int .i64 n] []) bg1_o (bg1_R st v n) := ⟨fun _ => by kernel_rfl, fun _ => by kernel_rfl⟩
def bg2_o : Sy.O := (steps [0, 0, 0, 0, 0, 0, 0, 0, 0, 0, 0, 0, 1, 0, 0, 0, 0, 2, 0, 0, 0, 1, 0] nil)
noncomputable def bg2_R (st : Nat) (v n : Int) (ns : Nat → Sy.Let) : Sy.Res (Value × List Blk) :=
 let z0 := some (Addr.mk (ns 2).n 0 none)
 let z1 := Fn.func 55
 let z2 := Array.mk [Value.pointer (some ⟨(ns 1).n, 0, none⟩), Value.pointer (some ⟨(ns 3).n, 0, none⟩), Value.pointer (some ⟨(ns 4).n, 0, none⟩)]
 let z3 := some (Addr.mk st 0 none)
 leaf (Value.tuple (Array.mk [.pointer z0, .int .i64 0]), [Blk.mk (ns 4).n (Cont.obj (Obj.cells (Array.mk [Value.func z1 (Array.mk []) z2]) 1)) true, Blk.mk (ns 3).n (Cont.obj (Obj.cells (Array.mk [.pointer z0]) 48)) true, Blk.mk (ns 2).n (Cont.obj (Obj.cells (Array.mk [Value.func z1 (Array.mk []) z2, .int .u32 0, .int .i64 0, .int .u64 0, .bool false, .slice none 0 0]) 100)) true, Blk.mk (ns 1).n (Cont.obj (Obj.cells (Array.mk [.pointer z3]) 25)) true, Blk.mk (ns 0).n (Cont.obj (Obj.cells (Array.mk [.pointer z3, .pointer none, .pointer none, .pointer none, .pointer none]) 31)) true])
theorem bg2_run (st : Nat) (v n : Int) : Sy.Ran (Sy.inB Tryd.prog Sy.S0 50 fBegun #[thT (ptr st) ptr0 ptr0 ptr0 ptr0, .int .i64 2, .int .u64 v, .int .i64 n] []) bg2_o (bg2_R st v n) := ⟨fun _ => by kernel_rfl, fun _ => by kernel_rfl⟩
def bg4_o : Sy.O := (steps [0, 0, 0, 0, 0, 0, 0, 0, 0, 0, 0, 0, 0, 0, 1, 0, 0, 0, 0, 2, 0, 0, 0, 1, 0] nil)
noncomputable def bg4_R (st : Nat) (v n : Int) (ns : Nat → Sy.Let) : Sy.Res (Value × List Blk) :=
 let z0 := some (Addr.mk (ns 2).n 0 none)
 let z1 := Fn.func 66
 let z2 := Array.mk [Value.pointer (some ⟨(ns 1).n, 0, none⟩), Value.pointer (some ⟨(ns 3).n, 0, none⟩), Value.pointer (some ⟨(ns 4).n, 0, none⟩)]
 let z3 := some (Addr.mk st 0 none)
 leaf (Value.tuple (Array.mk [.pointer z0, .int .i64 0]), [Blk.mk (ns 4).n (Cont.obj (Obj.cells (Array.mk [Value.func z1 (Array.mk []) z2]) 1)) true, Blk.mk (ns 3).n (Cont.obj (Obj.cells (Array.mk [.pointer z0]) 48)) true, Blk.mk (ns 2).n (Cont.obj (Obj.cells (Array.mk [Value.func z1 (Array.mk []) z2, .int .u32 0, .int .i64 0, .int .u64 0, .bool false, .slice none 0 0]) 100)) true, Blk.mk (ns 1).n (Cont.obj (Obj.cells (Array.mk [.pointer z3]) 26)) true, Blk.mk (ns 0).n (Cont.obj (Obj.cells (Array.mk [.pointer none, .pointer z3, .pointer none, .pointer none, .pointer none]) 31)) true])
theorem bg4_run (st : Nat) (v n : Int) : Sy.Ran (Sy.inB Tryd.prog Sy.S0 50 fBegun #[thT ptr0 (ptr st) ptr0 ptr0 ptr0, .int .i64 4, .int .u64 v, .int .i64 n] []) bg4_o (bg4_R st v n) := ⟨fun _ => by kernel_rfl, fun _ => by kernel_rfl⟩
def bg5_o : Sy.O := (steps [0, 0, 0, 0, 0, 0, 0, 0, 0, 0, 0, 0, 0, 0, 0, 0, 0, 0, 1, 0, 0, 0, 0, 2, 0, 0, 0, 1, 0] nil)
noncomputable def bg5_R (st : Nat) (v n : Int) (ns : Nat → Sy.Let) : Sy.Res (Value × List Blk) :=
 let z0 := some (Addr.mk (ns 4).n 0 none)
 let z1 := Fn.func 91
 let z2 := Array.mk []
 let z3 := Array.mk [Value.pointer (some ⟨(ns 2).n, 0, none⟩), Value.pointer (some ⟨(ns 3).n, 0, none⟩), Value.pointer (some ⟨(ns 5).n, 0, none⟩), Value.pointer (some ⟨(ns 6).n, 0, none⟩)]
 let z4 := some (Addr.mk st 0 none)
 let z5 := Cont.obj (Obj.cells (Array.mk [.pointer z4]) 27)
 leaf (Value.tuple (Array.mk [.pointer z0, .int .i64 0]), [Blk.mk (ns 6).n (Cont.obj (Obj.cells (Array.mk [Value.func z1 z2 z3]) 1)) true, Blk.mk (ns 5).n (Cont.obj (Obj.cells (Array.mk [.pointer z0]) 48)) true, Blk.mk (ns 4).n (Cont.obj (Obj.cells (Array.mk [Value.func z1 z2 z3, .int .u32 0, .int .i64 0, .int .u64 0, .bool false, .slice none 0 0]) 100)) true, Blk.mk (ns 3).n (Cont.obj (Obj.cells (Array.mk [Value.func (Fn.func 71) z2 (Array.mk [.pointer (some ⟨(ns 1).n, 0, none⟩)])]) 150)) true, Blk.mk (ns 2).n z5 true, Blk.mk (ns 1).n z5 true, Blk.mk (ns 0).n (Cont.obj (Obj.cells (Array.mk [.pointer none, .pointer none, .pointer z4, .pointer none, .pointer none]) 31)) true])
theorem bg5_run (st : Nat) (v n : Int) : Sy.Ran (Sy.inB Tryd.prog Sy.S0 50 fBegun #[thT ptr0 ptr0 (ptr st) ptr0 ptr0, .int .i64 5, .int .u64 v, .int .i64 n] []) bg5_o (bg5_R st v n) := ⟨fun _ => by kernel_rfl, fun _ => by kernel_rfl⟩
def bg6_o : Sy.O := (steps [0, 0, 0, 0, 0, 0, 0, 0, 0, 0, 1, 0, 0, 0, 0, 0, 0, 0, 0, 1, 0, 0, 0, 0, 2, 0, 0, 0, 1, 0] nil)
noncomputable def bg6_R (st : Nat) (v n : Int) (ns : Nat → Sy.Let) : Sy.Res (Value × List Blk) :=
 let z0 := some (Addr.mk (ns 5).n 0 none)
 let z1 := Fn.func 91
 let z2 := Array.mk []
 let z3 := Array.mk [Value.pointer (some ⟨(ns 3).n, 0, none⟩), Value.pointer (some ⟨(ns 4).n, 0, none⟩), Value.pointer (some ⟨(ns 6).n, 0, none⟩), Value.pointer (some ⟨(ns 7).n, 0, none⟩)]
 let z4 := some (Addr.mk st 0 none)
 let z5 := Cont.obj (Obj.cells (Array.mk [.pointer z4]) 27)
 leaf (Value.tuple (Array.mk [.pointer z0, .int .i64 0]), [Blk.mk (ns 7).n (Cont.obj (Obj.cells (Array.mk [Value.func z1 z2 z3]) 1)) true, Blk.mk (ns 6).n (Cont.obj (Obj.cells (Array.mk [.pointer z0]) 48)) true, Blk.mk (ns 5).n (Cont.obj (Obj.cells (Array.mk [Value.func z1 z2 z3, .int .u32 0, .int .i64 0, .int .u64 0, .bool false, .slice none 0 0]) 100)) true, Blk.mk (ns 4).n (Cont.obj (Obj.cells (Array.mk [Value.func (Fn.func 73) z2 (Array.mk [.pointer (some ⟨(ns 2).n, 0, none⟩), .pointer (some ⟨(ns 1).n, 0, none⟩)])]) 150)) true, Blk.mk (ns 3).n z5 true, Blk.mk (ns 2).n (Cont.obj (Obj.cells (Array.mk [.int .i64 n]) 3)) true, Blk.mk (ns 1).n z5 true, Blk.mk (ns 0).n (Cont.obj (Obj.cells (Array.mk [.pointer none, .pointer none, .pointer z4, .pointer none, .pointer none]) 31)) true])
theorem bg6_run (st : Nat) (v n : Int) : Sy.Ran (Sy.inB Tryd.prog Sy.S0 50 fBegun #[thT ptr0 ptr0 (ptr st) ptr0 ptr0, .int .i64 6, .int .u64 v, .int .i64 n] []) bg6_o (bg6_R st v n) := ⟨fun _ => by kernel_rfl, fun _ => by kernel_rfl⟩
def bg9_o : Sy.O := (steps [0, 0, 0, 0, 0, 0, 0, 0, 0, 0, 0, 0, 0, 0, 0, 0, 0, 1, 0, 0, 0, 0, 0] nil)
noncomputable def bg9_R (st : Nat) (v n : Int) (ns : Nat → Sy.Let) : Sy.Res (Value × List Blk) :=
 let z0 := some (Addr.mk (ns 3).n 0 none)
 let z1 := some (Addr.mk st 0 none)
 leaf (Value.tuple (Array.mk [.pointer z0, .int .i64 0]), [Blk.mk (ns 4).n (Cont.obj (Obj.cells (Array.mk [.pointer z0]) 48)) true, Blk.mk (ns 3).n (Cont.obj (Obj.cells (Array.mk [Value.func (Fn.func 78) (Array.mk []) (Array.mk [.pointer (some ⟨(ns 1).n, 0, none⟩), .pointer (some ⟨(ns 2).n, 0, none⟩), .pointer (some ⟨(ns 4).n, 0, none⟩)]), .int .u32 0, .int .i64 0, .int .u64 0, .bool false, .slice none 0 0]) 100)) true, Blk.mk (ns 2).n (Cont.obj (Obj.cells (Array.mk [.int .u64 v]) 36)) true, Blk.mk (ns 1).n (Cont.obj (Obj.cells (Array.mk [.pointer z1]) 29)) true, Blk.mk (ns 0).n (Cont.obj (Obj.cells (Array.mk [.pointer none, .pointer none, .pointer none, .pointer none, .pointer z1]) 31)) true])
theorem bg9_run (st : Nat) (v n : Int) : Sy.Ran (Sy.inB Tryd.prog Sy.S0 50 fBegun #[thT ptr0 ptr0 ptr0 ptr0 (ptr st), .int .i64 9, .int .u64 v, .int .i64 n] []) bg9_o (bg9_R st v n) := ⟨fun _ => by kernel_rfl, fun _ => by kernel_rfl⟩
end Go.Proofs.YtjohknpmhlildaaDoor.At
namespace Go.Proofs.YtjohknpmhlildaaDoor.At
open Sy.O (fork nil step steps)
open Sy.Res (need hyp br leaf both)
open Go Go.RowKit
open Go.Proofs.YtjohknpmhlildaaDoor.Sy (Let Blk Cont Bun ptr ptr0 bx tkB tkU clo)
def bg3_o : Sy.O := (steps [0, 0, 0, 0, 0, 0, 1, 0, 0, 0, 2, 0, 0, 0, 3, 10, 1, 0, 0, 0, 0, 0, 0, 0, 2, 0, 0, 0, 0, 4, 0, 0, 0, 2, 0] nil)
noncomputable def bg3_R (st : Nat) (v n : Int) (ns : Nat → Sy.Let) : Sy.Res (Value × List Blk) :=
 let z0 := some (Addr.mk (ns 3).n 0 none)
 let z1 := Fn.func 59
 let z2 := Array.mk [Value.pointer (some ⟨(ns 1).n, 0, none⟩), Value.pointer (some ⟨(ns 7).n, 0, none⟩), Value.pointer (some ⟨(ns 5).n, 0, none⟩), Value.pointer (some ⟨(ns 6).n, 0, none⟩), Value.pointer (some ⟨(ns 2).n, 0, none⟩)]
 let z3 := some (Addr.mk st 0 none)
 leaf (Value.tuple (Array.mk [.pointer z0, .int .i64 0]), [Blk.mk (ns 7).n (Cont.obj (Obj.cells (Array.mk [Value.func z1 (Array.mk []) z2]) 1)) true, Blk.mk (ns 6).n (Cont.obj (Obj.cells (Array.mk [.pointer (some ⟨(ns 4).n, 0, none⟩)]) 116)) true, Blk.mk (ns 5).n (Cont.obj (Obj.cells (Array.mk [.pointer z0]) 48)) true, Blk.mk (ns 4).n (Cont.obj (Obj.cells (Array.mk [.int .u64 v, .pointer none]) 123)) true, Blk.mk (ns 3).n (Cont.obj (Obj.cells (Array.mk [Value.func z1 (Array.mk []) z2, .int .u32 0, .int .i64 0, .int .u64 0, .bool false, .slice none 0 0]) 100)) true, Blk.mk (ns 2).n (Cont.obj (Obj.cells (Array.mk [.int .u64 v]) 36)) true, Blk.mk (ns 1).n (Cont.obj (Obj.cells (Array.mk [.pointer z3]) 26)) true, Blk.mk (ns 0).n (Cont.obj (Obj.cells (Array.mk [.pointer none, .pointer z3, .pointer none, .pointer none, .pointer none]) 31)) true])
theorem bg3_run (st : Nat) (v n : Int) : Sy.Ran (Sy.inB Tryd.prog Sy.S0 50 fBegun #[thT ptr0 (ptr st) ptr0 ptr0 ptr0, .int .i64 3, .int .u64 v, .int .i64 n] []) bg3_o (bg3_R st v n) := ⟨fun _ => by kernel_rfl, fun _ => by kernel_rfl⟩
end Go.Proofs.YtjohknpmhlildaaDoor.At
end
