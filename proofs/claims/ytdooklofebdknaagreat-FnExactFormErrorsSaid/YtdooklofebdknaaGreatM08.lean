/- Den3: what an operation does to a state (values that need no memory of their own). No condition but sizes. -/
import Derived.Test.YtdooklofebdknaaGreatM07
namespace Go.Proofs.YtdooklofebdknaaGreat
open Go.RowKit
inductive KD where
 | lf
 | str
 | bool
 | int (k : IntKind)
 | sl (e : Nat) (s : Sh)
 | st (fl : List (Nat × Sh))
 | ar (n e : Nat) (s : Sh)
structure TI where
 sh : Sh
 z : DD
 zc : List Value
 bytes : Nat
 kd : KD
def KdOk (P : Program) (T : Nat) (sh : Sh) : KD → Prop
 | .lf => sh = .one ∧ ∃ d, P.underlying T = some d ∧ (∀ fs, d ≠ .struct fs) ∧ (∀ n e, d ≠ .array n e)
 | .str => sh = .one ∧ P.underlying T = some .string
 | .bool => sh = .one ∧ P.underlying T = some .bool
 | .int k => sh = .one ∧ P.underlying T = some (.int k)
 | .sl e s => sh = .one ∧ 0 < s.w ∧ P.underlying T = some (.slice e) ∧ ∃ i, P.info? e = some i ∧ i.size = s.w
 | .st fl => sh = .st (fl.map Prod.snd) ∧ ∃ fs : Array Field, P.underlying T = some (.struct fs) ∧ fs.size = fl.length ∧
   ∀ (i : Nat) (t : Nat) (s : Sh), fl[i]? = some (t, s) → ∃ f, fs[i]? = some f ∧ f.type = t ∧ f.offset = Sh.ws ((fl.map Prod.snd).take i) ∧ 0 < s.w ∧
    (∃ j, P.info? t = some j ∧ j.size = s.w) ∧ (isAgg t).run P = fun w => .ok (match s with | .st _ => true | .one => false) w
 | .ar n e s => sh = .st (List.replicate n s) ∧ 2 ≤ n ∧ 0 < s.w ∧ P.underlying T = some (.array n e) ∧ ∃ i, P.info? e = some i ∧ i.size = s.w
structure TyOk (P : Program) (T : Nat) (ti : TI) : Prop where
 info : ∃ i, P.info? T = some i ∧ i.size = ti.sh.w ∧ i.bytes = ti.bytes ∧ i.zero = some (ti.z.mk ti.zc)
 pos : 0 < ti.sh.w
 zs : ti.z.sh = ti.sh
 z : ∀ w F, rp w F ti.z ti.zc []
 kd : KdOk P T ti.sh ti.kd
structure Cx where
 P : Program
 ty : Nat → Option TI
 ok : ∀ T ti, ty T = some ti → TyOk P T ti
def Cx.el (c : Cx) (T : Nat) : Sh := match c.ty T with
 | some { kd := .sl _ s, .. } => s
 | _ => .one
def cst (c : Cx) (T : Nat) : Value → AV
 | .int k n => .d (.lf (.int k n))
 | .string s => .d (.lf (.string s))
 | .bool b => .d (.lf (.bool b))
 | .slice none 0 0 => .d (.sl true (c.el T) [])
 | _ => .un
def evT (c : Cx) (T : Nat) (S : St) : Operand → AV
 | .tmp t => (S.tm t).vw
 | .const v => cst c T v
 | .func f => .fn f []
 | .global _ => .un
def tkT (c : Cx) (T : Nat) (S : St) : Operand → AV
 | .tmp t => S.tm t
 | .const v => cst c T v
 | .func f => .fn f []
 | .global _ => .un
def okO (c : Cx) (T : Nat) : Operand → Prop
 | .const (.int k n) => k.min ≤ n ∧ n ≤ k.max
 | .const (.string s) => s.size ≤ maxLen
 | .const (.slice none 0 0) => 0 < (c.el T).w
 | _ => True
def tmO : Operand → List Nat
 | .tmp t => [t]
 | _ => []
theorem cst_rv {c : Cx} {T : Nat} {w : World} {F : Nat → Nat} {Θ : Ty} {v : Value} (h : okO c T (.const v)) : rv w F Θ (cst c T v) v [] := by
 unfold cst
 split
 ·simp only [rv, rp]; exact ⟨_, ⟨rfl, h, trivial⟩, rfl⟩
 ·simp only [rv, rp]; exact ⟨_, ⟨rfl, h, trivial⟩, rfl⟩
 ·simp only [rv, rp]; exact ⟨_, ⟨rfl, trivial, trivial⟩, rfl⟩
 ·simp only [rv, rp]
  exact ⟨_, ⟨by simp, h, none, 0, rfl, Nat.le_refl _, Nat.zero_le _, fun _ => rfl, .inl ⟨trivial, trivial, fun _ => rfl⟩⟩, rfl⟩
 ·simp only [rv]
theorem ev_rv {c : Cx} {T : Nat} {w : World} {F : Nat → Nat} {Θ : Ty} {own : Who → List Nat} {S : St} {a : Act} (h : Rel w F Θ own S a) {x : Operand} (ho : okO c T x) : rv w F Θ (evT c T S x) (a.eval x) [] := by
 cases x with
 | tmp t => exact rv.view _ _ _ (h.tm t)
 | const v => exact cst_rv ho
 | func f => simp only [evT, Act.eval, rv, rvS]; exact ⟨[], rfl, rfl, trivial⟩
 | global g => simp only [evT, rv]
theorem tk_rv {c : Cx} {T : Nat} {w : World} {F : Nat → Nat} {Θ : Ty} {own : Who → List Nat} {S : St} {a : Act} (h : Rel w F Θ own S a) {x : Operand} (ho : okO c T x) : rv w F Θ (tkT c T S x) (a.eval x) ((tmO x).flatMap fun t => own (.t t)) := by
 cases x with
 | tmp t => simp only [tkT, tmO, List.flatMap_cons, List.flatMap_nil, List.append_nil]; exact h.tm t
 | const v => exact cst_rv ho
 | func f => simp only [tkT, tmO, List.flatMap_nil, Act.eval, rv, rvS]; exact ⟨[], rfl, rfl, trivial⟩
 | global g => simp only [tkT, tmO, List.flatMap_nil, rv]
/-- lists of operands, all of them given away -/
theorem tkS_rv {c : Cx} {w : World} {F : Nat → Nat} {Θ : Ty} {own : Who → List Nat} {S : St} {a : Act} (h : Rel w F Θ own S a) : ∀ (xs : List (Nat × Operand)), (∀ x ∈ xs, okO c x.1 x.2) →
  rvS w F Θ (xs.map fun x => tkT c x.1 S x.2) (xs.map fun x => a.eval x.2) ((xs.flatMap fun x => tmO x.2).flatMap fun t => own (.t t))
 | [], _ => by simp [rvS]
 | x :: xs, ho => by
  simp only [List.map_cons, List.flatMap_cons, rvS, List.flatMap_append]
  exact ⟨_, _, _, _, rfl, rfl, tk_rv h (ho x (by simp)), tkS_rv h xs (fun y hy => ho y (by simp [hy]))⟩
theorem evS_rv {c : Cx} {w : World} {F : Nat → Nat} {Θ : Ty} {own : Who → List Nat} {S : St} {a : Act} (h : Rel w F Θ own S a) : ∀ (xs : List (Nat × Operand)), (∀ x ∈ xs, okO c x.1 x.2) →
  rvS w F Θ (xs.map fun x => evT c x.1 S x.2) (xs.map fun x => a.eval x.2) []
 | [], _ => by simp [rvS]
 | x :: xs, ho => by
  simp only [List.map_cons, rvS]
  exact ⟨_, _, [], [], rfl, rfl, ev_rv h (ho x (by simp)), evS_rv h xs (fun y hy => ho y (by simp [hy]))⟩
/-- leaves -/
def binL : BinOp → Value → Value → Value
 | .add, .int k a, .int _ b => .int k (k.wrap (a + b))
 | .sub, .int k a, .int _ b => .int k (k.wrap (a - b))
 | .mul, .int k a, .int _ b => .int k (k.wrap (a * b))
 | .quo, .int k a, .int _ b => .int k (k.wrap (a.tdiv b))
 | .rem, .int k a, .int _ b => .int k (a.tmod b)
 | .eql, .int _ a, .int _ b => .bool (a == b)
 | .neq, .int _ a, .int _ b => .bool (a != b)
 | .lss, .int _ a, .int _ b => .bool (a < b)
 | .leq, .int _ a, .int _ b => .bool (a ≤ b)
 | .gtr, .int _ a, .int _ b => .bool (a > b)
 | .geq, .int _ a, .int _ b => .bool (a ≥ b)
 | .add, .string a, .string b => .string (a ++ b)
 | .eql, .string a, .string b => .bool (a.toList == b.toList)
 | .neq, .string a, .string b => .bool (!(a.toList == b.toList))
 | .eql, .bool a, .bool b => .bool (a == b)
 | .neq, .bool a, .bool b => .bool (!(a == b))
 | _, _, _ => undef
def okB : BinOp → Value → Value → Prop
 | .add, .int k _, .int k' _ => k = k'
 | .sub, .int k _, .int k' _ => k = k'
 | .mul, .int k _, .int k' _ => k = k'
 | .quo, .int k _, .int k' b => k = k' ∧ b ≠ 0
 | .rem, .int k a, .int k' b => k = k' ∧ b ≠ 0 ∧ k.min ≤ a.tmod b ∧ a.tmod b ≤ k.max
 | .eql, .int k _, .int k' _ => k = k'
 | .neq, .int k _, .int k' _ => k = k'
 | .lss, .int k _, .int k' _ => k = k'
 | .leq, .int k _, .int k' _ => k = k'
 | .gtr, .int k _, .int k' _ => k = k'
 | .geq, .int k _, .int k' _ => k = k'
 | .add, .string a, .string b => a.size + b.size ≤ maxLen
 | .eql, .string _, .string _ => True
 | .neq, .string _, .string _ => True
 | _, _, _ => False
theorem wrap_in (k : IntKind) (n : Int) : k.min ≤ k.wrap n ∧ k.wrap n ≤ k.max := by
 cases k <;> simp [IntKind.wrap, IntKind.min, IntKind.max, IntKind.bits, IntKind.signed] <;> (try split) <;> omega
theorem bin_run (P : Program) (op : BinOp) (T : Nat) (x y : Operand) (u v : Value) (h : okB op u v) (w : World) : (do eqGuard op T x y u v; binOp op T u v : Sem Value).run P w = .ok (binL op u v) w ∧ okLeaf (binL op u v) := by
 unfold okB at h
 split at h <;> first | exact h.elim | skip
 case h_1 | h_2 | h_3 => subst h; exact ⟨by simp [eqGuard, binOp, Op.intArith, binL], wrap_in _ _⟩
 case h_4 => obtain ⟨rfl, h⟩ := h; exact ⟨by simp [eqGuard, binOp, Op.intDiv, binL, h], wrap_in _ _⟩
 case h_5 => obtain ⟨rfl, h, h2⟩ := h; exact ⟨by simp [eqGuard, binOp, Op.intDiv, binL, h], h2⟩
 case h_6 | h_7 | h_8 | h_9 | h_10 | h_11 => subst h; exact ⟨by simp [eqGuard, binOp, Op.intCmp, binL], trivial⟩
 case h_12 =>
  refine ⟨?_, by simp only [binL, okLeaf, ByteArray.size_append]; exact h⟩
  rename_i a b
  have h2 : ¬ ((a.size + b.size : Nat) : Int) > IntKind.i64.max := by unfold maxLen at h; simp [IntKind.max, IntKind.bits, IntKind.signed]; omega
  simp only [eqGuard, binOp, Op.stringOp, binL, if_neg h2]
  rfl
 case h_13 | h_14 => exact ⟨by simp [eqGuard, binOp, Op.stringOp, binL], trivial⟩
theorem bin_run_bool (P : Program) (op : BinOp) (T : Nat) (x y : Operand) (a b : Bool) (hT : P.underlying T = some .bool) (h : op = .eql ∨ op = .neq) (w : World) :
  (do eqGuard op T x y (.bool a) (.bool b); binOp op T (.bool a) (.bool b) : Sem Value).run P w = .ok (binL op (.bool a) (.bool b)) w ∧ okLeaf (binL op (.bool a) (.bool b)) := by
 have he : (Op.equalIn Op.maxDepth T (.bool a) (.bool b)).run P w = .ok (a == b) w := by
  unfold Op.maxDepth Op.equalIn
  simp [run_underlying hT]
 rcases h with rfl | rfl <;> refine ⟨?_, trivial⟩ <;> simp [eqGuard, binOp, binL, Op.equal, he]
def mvB (mv : List Nat) : Option Nat → Bool
 | some d => mv.contains d
 | none => false
def fldD : DD → Nat → DD
 | .st fs, i => fs.getD i default
 | d, _ => d
def fillD : List DD → List (Nat × AV) → List DD
 | fs, [] => fs
 | fs, (i, .d x) :: ps => fillD (fs.set i x) ps
 | fs, _ :: ps => fillD fs ps
/-- what a taking operation takes from -/
def cls (mv : List Nat) (o : Oper) : List Nat := match o.op with
 | .move x => bif mvB mv o.dst then tmO x else []
 | .assign x => tmO x
 | .box _ x => tmO x
 | .store _ _ x => tmO x
 | .build _ ps => ps.toList.flatMap fun p => tmO p.2
 | .buildSlice _ _ ps => ps.toList.flatMap fun p => tmO p.2
 | .call { callee := .builtin .append, args, .. } => args.toList.flatMap tmO
 | _ => []
/-- the type of a struct's field -/
def Cx.ft (c : Cx) (T i : Nat) : Nat := match c.ty T with
 | some { kd := .st fl, .. } => (fl.getD i (0, .one)).1
 | _ => 0
def val (c : Cx) (mv : List Nat) (o : Oper) (S : St) : AV := match o.op with
 | .move x => bif mvB mv o.dst then tkT c o.type S x else evT c o.type S x
 | .assign x => tkT c o.type S x
 | .nilCheck x => evT c o.type S x
 | .pick g x y => match evT c 0 S g, evT c o.type S x, evT c o.type S y with
  | .d (.lf (.bool b)), .d (.lf (.bool p)), .d (.lf (.bool q)) => .d (.lf (.bool (bif b then p else q)))
  | .d (.lf (.bool true)), p, _ => p
  | .d (.lf (.bool false)), _, q => q
  | _, _, _ => .un
 | .fieldAddr _ x i => match evT c 0 S x with
  | .pt lv k p => .pt lv k (p ++ [i])
  | .el d => .el (fldD d i)
  | _ => .un
 | .field _ x i => match evT c 0 S x with
  | .d d => .d (fldD d i)
  | _ => .un
 | .indexAddr T x i => match evT c T S x, evT c 0 S i with
  | .d (.sl _ _ es), .d (.lf (.int _ n)) => .el (es.getD n.toNat default)
  | .rw lv k _, .d (.lf (.int _ n)) => .pt lv k [n.toNat]
  | _, _ => .un
 | .index _ x i => match evT c 0 S x, evT c 0 S i with
  | .d (.lf (.string s)), .d (.lf (.int _ n)) => .d (.lf (.int .u8 ((s.data.getD n.toNat 0).toNat : Int)))
  | _, _ => .un
 | .extract x i => match evT c 0 S x with
  | .tp l => l.getD i .un
  | _ => .un
 | .binOp op _ x y _ => match evT c 0 S x, evT c 0 S y with
  | .d (.lf u), .d (.lf v) => .d (.lf (binL op u v))
  | _, _ => .un
 | .unOp op _ x => match op, evT c 0 S x with
  | .not, .d (.lf (.bool b)) => .d (.lf (.bool (!b)))
  | .neg, .d (.lf (.int k n)) => .d (.lf (.int k (k.wrap (0 - n))))
  | _, _ => .un
 | .convert _ T x => match c.ty T, evT c 0 S x with
  | some { kd := .int k, .. }, .d (.lf (.int _ n)) => .d (.lf (.int k (k.wrap n)))
  | some { kd := .str, .. }, .d (.lf (.string s)) => .d (.lf (.string s))
  | _, _ => .un
 | .slice T x lo hi none => match evT c T S x, (match lo with | some l => evT c 0 S l | none => .d (.lf (.int .i64 0))), hi.map (evT c 0 S) with
  | .d (.lf (.string s)), .d (.lf (.int _ l)), none => .d (.lf (.string (s.extract l.toNat s.size)))
  | .d (.lf (.string s)), .d (.lf (.int _ l)), some (.d (.lf (.int _ h))) => .d (.lf (.string (s.extract l.toNat h.toNat)))
  | .d (.sl _ s es), .d (.lf (.int _ l)), none => .d (.sl false s (es.drop l.toNat))
  | .d (.sl _ s es), .d (.lf (.int _ l)), some (.d (.lf (.int _ h))) => .d (.sl false s ((es.take h.toNat).drop l.toNat))
  | _, _, _ => .un
 | .makeFunc (.func f) _ cap => .fn f (cap.toList.map (evT c 0 S))
 | .build T ps => match c.ty T with
  | some { z := .st zs, .. } => .d (.st (fillD zs (ps.toList.map fun p => (p.1, tkT c (c.ft T p.1) S p.2))))
  | _ => .un
 | .call { callee := .builtin .len, args, .. } => match args.toList.map (evT c 0 S) with
  | [.d (.sl _ _ es)] => .d (.lf (.int .i64 (es.length : Int)))
  | [.d (.lf (.string s))] => .d (.lf (.int .i64 (s.size : Int)))
  | [.rw _ _ n] => .d (.lf (.int .i64 (n : Int)))
  | _ => .un
 | .call { callee := .builtin .min, args, .. } => match args.toList.map (evT c 0 S) with
  | [.d (.lf (.int k x)), .d (.lf (.int _ y))] => .d (.lf (.int k (if y < x then y else x)))
  | _ => .un
 | .call { callee := .builtin .max, args, .. } => match args.toList.map (evT c 0 S) with
  | [.d (.lf (.int k x)), .d (.lf (.int _ y))] => .d (.lf (.int k (if y > x then y else x)))
  | _ => .un
 | _ => .un
end Go.Proofs.YtdooklofebdknaaGreat
