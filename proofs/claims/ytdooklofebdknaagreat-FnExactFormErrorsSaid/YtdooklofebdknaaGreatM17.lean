/- Den18: tables of types, and rules to run a text by; Den19: rules to run a text by, one operation after the other; Den20: keeping what is still looked at; loops up to what is kept. No condition but sizes. -/
import Derived.Test.YtdooklofebdknaaGreatM16
namespace Go.Proofs.YtdooklofebdknaaGreat
open Go.RowKit
set_option linter.unusedVariables false
set_option linter.unusedSimpArgs false
mutual
def DD.zc : DD → List Value
 | .lf v => [v]
 | .sl _ _ _ => [.slice none 0 0]
 | .st fs => DD.zcs fs
def DD.zcs : List DD → List Value
 | [] => []
 | d :: ds => d.zc ++ DD.zcs ds
end
mutual
def DD.zB : DD → Bool
 | .lf (.int k n) => decide (k.min ≤ n) && decide (n ≤ k.max)
 | .lf (.string s) => s.size == 0
 | .lf (.bool _) => true
 | .lf _ => false
 | .sl o s es => o && decide (0 < s.w) && es.isEmpty
 | .st fs => DD.zBs fs
def DD.zBs : List DD → Bool
 | [] => true
 | d :: ds => d.zB && DD.zBs ds
end
mutual
theorem zB_rp (w : World) (F : Nat → Nat) : ∀ d : DD, d.zB = true → rp w F d d.zc []
 | .lf v, h => by
  cases v <;> simp only [DD.zB, Bool.and_eq_true, decide_eq_true_eq, Bool.false_eq_true] at h <;> simp only [rp, DD.zc]
  ·exact ⟨trivial, trivial, trivial⟩
  ·exact ⟨trivial, h, trivial⟩
  ·refine ⟨trivial, ?_, trivial⟩
   simp only [beq_iff_eq] at h
   simp only [okLeaf, h]; exact Nat.zero_le _
 | .sl o s es, h => by
  simp only [DD.zB, Bool.and_eq_true, decide_eq_true_eq, List.isEmpty_iff] at h
  obtain ⟨⟨rfl, h2⟩, rfl⟩ := h
  simp only [rp, DD.zc]
  exact ⟨by simp, h2, none, 0, rfl, Nat.le_refl _, Nat.zero_le _, fun _ => rfl, .inl ⟨trivial, trivial, fun _ => rfl⟩⟩
 | .st fs, h => by
  simp only [DD.zB] at h
  simp only [rp, DD.zc]
  exact zBs_rp w F fs h
theorem zBs_rp (w : World) (F : Nat → Nat) : ∀ l : List DD, DD.zBs l = true → rpS w F l (DD.zcs l) []
 | [], _ => by simp only [rpS, DD.zcs]; exact ⟨trivial, trivial⟩
 | d :: l, h => by
  simp only [DD.zBs, Bool.and_eq_true] at h
  simp only [rpS, DD.zcs]
  exact ⟨_, _, [], [], rfl, rfl, zB_rp w F d h.1, zBs_rp w F l h.2⟩
end
def aggB (P : Program) (t : Nat) : Option Bool := (P.underlying t).map fun
 | .struct _ => true
 | .array _ _ => true
 | _ => false
def isSt : Sh → Bool
 | .st _ => true
 | .one => false
def fldB (P : Program) : List Field → List (Nat × Sh) → Nat → Bool
 | [], [], _ => true
 | f :: fs, (t, s) :: fl, off => f.type == t && f.offset == off && decide (0 < s.w) && ((P.info? t).map (·.size) == some s.w) && (aggB P t == some (isSt s)) && fldB P fs fl (off + s.w)
 | _, _, _ => false
theorem fld_spec (P : Program) : ∀ (fs : List Field) (fl : List (Nat × Sh)) (off : Nat), fldB P fs fl off = true → fs.length = fl.length ∧ ∀ (i : Nat) (t : Nat) (s : Sh), fl[i]? = some (t, s) → ∃ f, fs[i]? = some f ∧ f.type = t ∧ f.offset = off + Sh.ws ((fl.map Prod.snd).take i) ∧ 0 < s.w ∧
    (∃ j, P.info? t = some j ∧ j.size = s.w) ∧ (isAgg t).run P = fun w => .ok (match s with | .st _ => true | .one => false) w
 | [], [], off, _ => ⟨rfl, fun i t s h => by simp at h⟩
 | [], _ :: _, _, h => by simp [fldB] at h
 | _ :: _, [], _, h => by simp [fldB] at h
 | f :: fs, (t0, s0) :: fl, off, h => by
  simp only [fldB, Bool.and_eq_true, beq_iff_eq, decide_eq_true_eq] at h
  obtain ⟨⟨⟨⟨⟨h1, h2⟩, h3⟩, h4⟩, h5⟩, h6⟩ := h
  obtain ⟨k1, k2⟩ := fld_spec P fs fl _ h6
  refine ⟨by simp [k1], fun i t s hi => ?_⟩
  cases i with
  | zero =>
   simp only [List.getElem?_cons_zero, Option.some.injEq, Prod.mk.injEq] at hi
   obtain ⟨rfl, rfl⟩ := hi
   refine ⟨f, rfl, h1, by simp [h2, Sh.ws], h3, ?_, ?_⟩
   ·cases hq : P.info? t0 with
    | none => rw [hq] at h4; cases h4
    | some j => rw [hq] at h4; exact ⟨j, rfl, by simpa using h4⟩
   ·funext w
    unfold aggB at h5
    cases hq : P.underlying t0 with
    | none => rw [hq] at h5; cases h5
    | some d =>
     rw [hq] at h5
     simp only [Option.map_some, Option.some.injEq] at h5
     unfold isAgg
     rw [Sem.run_bind, run_underlying hq]
     cases s0 <;> cases d <;> simp [isSt] at h5 <;> rfl
  | succ i =>
   obtain ⟨f', g1, g2, g3, g4⟩ := k2 i t s (by simpa using hi)
   refine ⟨f', by simpa using g1, g2, ?_, g4⟩
   rw [g3]; simp only [List.map_cons, List.take_succ_cons, Sh.ws]; omega
def kdB (P : Program) (T : Nat) (sh : Sh) : KD → Bool
 | .lf => !isSt sh && (aggB P T == some false)
 | .str => !isSt sh && (match P.underlying T with | some .string => true | _ => false)
 | .bool => !isSt sh && (match P.underlying T with | some .bool => true | _ => false)
 | .int k => !isSt sh && (match P.underlying T with | some (.int k') => k == k' | _ => false)
 | .sl e s => !isSt sh && decide (0 < s.w) && (match P.underlying T with | some (.slice e') => e == e' | _ => false) && ((P.info? e).map (·.size) == some s.w)
 | .st fl => (match P.underlying T with | some (.struct fs) => fldB P fs.toList fl 0 | _ => false)
 | .ar n e s => decide (2 ≤ n) && decide (0 < s.w) && (match P.underlying T with | some (.array n' e') => n == n' && e == e' | _ => false) && ((P.info? e).map (·.size) == some s.w)
theorem one_of {sh : Sh} (h : (!isSt sh) = true) : sh = .one := by cases sh <;> simp [isSt] at h ⊢
theorem kd_spec (P : Program) (T : Nat) (sh : Sh) (k : KD) (hs : ∀ fl, k = .st fl → sh = .st (fl.map Prod.snd)) (hs2 : ∀ n e s, k = .ar n e s → sh = .st (List.replicate n s)) (h : kdB P T sh k = true) : KdOk P T sh k := by
 cases k <;> simp only [kdB, Bool.and_eq_true, beq_iff_eq] at h <;> simp only [KdOk]
 ·refine ⟨one_of h.1, ?_⟩
  have h2 := h.2
  unfold aggB at h2
  cases hq : P.underlying T with
  | none => rw [hq] at h2; cases h2
  | some d =>
   rw [hq] at h2
   refine ⟨d, rfl, fun fs e => ?_, fun n e' e => ?_⟩
   ·subst e; simp at h2
   ·subst e; simp at h2
 ·refine ⟨one_of h.1, ?_⟩
  have h2 := h.2
  split at h2 <;> first | assumption | cases h2
 ·refine ⟨one_of h.1, ?_⟩
  have h2 := h.2
  split at h2 <;> first | assumption | cases h2
 ·refine ⟨one_of h.1, ?_⟩
  have h2 := h.2
  split at h2
  ·rename_i k' hq
   simp only [beq_iff_eq] at h2
   subst h2
   exact hq
  ·cases h2
 ·obtain ⟨⟨⟨h1, h2⟩, h3⟩, h4⟩ := h
  refine ⟨one_of h1, by simpa using h2, ?_, ?_⟩
  ·split at h3
   ·rename_i e' hq
    simp only [beq_iff_eq] at h3
    subst h3
    exact hq
   ·cases h3
  ·rename_i e s
   cases hq : P.info? e with
   | none => rw [hq] at h4; cases h4
   | some j => rw [hq] at h4; exact ⟨j, rfl, by simpa using h4⟩
 ·rename_i fl
  refine ⟨hs fl rfl, ?_⟩
  split at h
  ·rename_i fs hq
   obtain ⟨k1, k2⟩ := fld_spec P fs.toList fl 0 h
   refine ⟨fs, hq, by simpa using k1, fun i t s hi => ?_⟩
   obtain ⟨f, g1, g2, g3, g4⟩ := k2 i t s hi
   exact ⟨f, by simpa using g1, g2, by simpa using g3, g4⟩
  ·cases h
 ·rename_i n e s
  obtain ⟨⟨⟨h1, h2⟩, h3⟩, h4⟩ := h
  refine ⟨hs2 _ _ _ rfl, by simpa using h1, by simpa using h2, ?_, ?_⟩
  ·split at h3
   ·rename_i n' e' hq
    simp only [Bool.and_eq_true, beq_iff_eq] at h3
    obtain ⟨rfl, rfl⟩ := h3
    exact hq
   ·cases h3
  ·cases hq : P.info? e with
   | none => rw [hq] at h4; cases h4
   | some j => rw [hq] at h4; exact ⟨j, rfl, by simpa using h4⟩
/-- a row of the table of types, from what the program says -/
theorem TyOk.of {P : Program} {T : Nat} {ti : TI} (h1 : (P.info? T).map (fun i => (i.size, i.bytes, i.zero)) = some (ti.sh.w, ti.bytes, some (ti.z.mk ti.zc))) (h2 : ti.zc = ti.z.zc) (h3 : (ti.z.zB && decide (0 < ti.sh.w) && kdB P T ti.sh ti.kd) = true) (h4 : ti.z.sh = ti.sh)
  (h5 : ∀ fl, ti.kd = .st fl → ti.sh = .st (fl.map Prod.snd)) (h6 : ∀ n e s, ti.kd = .ar n e s → ti.sh = .st (List.replicate n s) := by intro n e s h; cases h <;> rfl) : TyOk P T ti := by
 simp only [Bool.and_eq_true, decide_eq_true_eq] at h3
 refine ⟨?_, h3.1.2, h4, fun w F => by rw [h2]; exact zB_rp w F _ h3.1.1, kd_spec P T _ _ h5 h6 h3.2⟩
 cases hq : P.info? T with
 | none => rw [hq] at h1; cases h1
 | some i =>
  rw [hq] at h1
  simp only [Option.map_some, Option.some.injEq, Prod.mk.injEq] at h1
  exact ⟨i, rfl, h1.1, h1.2.1, h1.2.2⟩
/-- a list of temporaries or variables -/
def al : List (Nat × AV) → Nat → Option AV
 | [], _ => none
 | (j, v) :: r, k => bif k == j then some v else al r k
def tl (l : List (Nat × AV)) : Nat → AV := fun t => (al l t).getD .un
def okL (c : Cx) (mv : List Nat) (ops : Array Oper) : List Nat → St → Prop
 | [], _ => True
 | i :: l, S => (match ops[i]? with | some o => wnt ops o S = some true ∧ okP c mv o S | none => False) ∧ okL c mv ops l (match ops[i]? with | some o => nx c mv o S | none => S)
def runL (c : Cx) (mv : List Nat) (ops : Array Oper) : List Nat → St → St
 | [], S => S
 | i :: l, S => runL c mv ops l (match ops[i]? with | some o => nx c mv o S | none => S)
theorem WO.run {c : Cx} {mv : List Nat} {ops : Array Oper} {l2 : List Nat} {K : St → Prop} : ∀ (l1 : List Nat) {S : St}, okL c mv ops l1 S → WO c ops l2 (runL c mv ops l1 S) K → WO c ops (l1 ++ l2) S K
 | [], _, _, k => k
 | i :: l, S, h, k => by
  obtain ⟨h1, h2⟩ := h
  cases ho : ops[i]? with
  | none => rw [ho] at h1; exact h1.elim
  | some o =>
   rw [ho] at h1 h2
   refine WO.cons ho (OS.op h1.1 (ok_snd (mv := mv) h1.2)) (WO.run l h2 ?_)
   simpa only [runL, ho] using k
def mkl : Nat → List AV → List (Nat × AV)
 | _, [] => []
 | i, a :: l => (i, a.up) :: mkl (i + 1) l
theorem mkl_get : ∀ (l : List AV) (i t : Nat), tl (mkl i l) (i + t) = (l.getD t .un).up
 | [], i, t => by simp [mkl, tl, al, AV.up]
 | a :: l, i, 0 => by simp [mkl, tl, al]
 | a :: l, i, t + 1 => by
  have h := mkl_get l (i + 1) t
  rw [show i + 1 + t = i + (t + 1) by omega] at h
  have hne : (i + (t + 1) == i) = false := by simp
  simp only [mkl, tl, al, hne, cond_false, List.getD_cons_succ]
  exact h
theorem mkl_ext (l : List AV) : (fun t => (l.getD t .un).up) = tl (mkl 0 l) := by
 funext t
 have := mkl_get l 0 t
 rw [Nat.zero_add] at this
 exact this.symm
/-- a call's text: the frame's variables above those of the callers -/
theorem CS.run {c : Cx} {f : Nat} {fn : Func} {body : Code} (hf : FnOk c.P f fn body) (args : List AV) (h h' : HP) (r : AV) (n : Nat) (hn : fn.ntmps = n) (hlen : args.length ≤ n)
  (hW : W c body ⟨n, tl (mkl 0 args), al [] :: upH h⟩ (fun e S => (e = .normal ∨ e = .ret) ∧ (∃ f1, S.hp = f1 :: upH h') ∧ Res c fn S r)) : CS c.P f args h r h' := by
 subst hn
 refine CS.of hf args h h' r hlen ?_
 rw [mkl_ext]
 exact hW
/-- the operations that are left, as they stand in the text -/
def WL (c : Cx) (ops : Array Oper) (l : List Oper) (S : St) (K : St → Prop) : Prop := ∀ is : List Nat, is.map (fun i => ops[i]?) = l.map some → WO c ops is S K
theorem WL.nil {c : Cx} {ops : Array Oper} {S : St} {K : St → Prop} (h : K S) : WL c ops [] S K := fun is hi => by
 have : is = [] := List.map_eq_nil_iff.1 hi
 subst this
 exact WO.nil h
theorem WL.cons {c : Cx} {ops : Array Oper} {o : Oper} {l : List Oper} {S S1 : St} {K : St → Prop} (h : OS c ops o S S1) (k : WL c ops l S1 K) : WL c ops (o :: l) S K := fun is hi => by
 cases is with
 | nil => simp at hi
 | cons i is =>
  simp only [List.map_cons, List.cons.injEq] at hi
  exact WO.cons hi.1 h (k is hi.2)
theorem WL.op {c : Cx} (mv : List Nat) {ops : Array Oper} {o : Oper} {l : List Oper} {S S1 : St} {K : St → Prop} (hg : o.guard = none) (h : okP c mv o S) (e : nx c mv o S = S1) (k : WL c ops l S1 K) : WL c ops (o :: l) S K :=
 WL.cons (OS.op (by unfold wnt; rw [hg]) (ok_snd h)) (by rw [e]; exact k)
theorem W.regL {c : Cx} {id : Nat} {ops : Array Oper} {S : St} {Q : Exit → St → Prop} (h : ∀ ops', ops' = ops → WL c ops' ops.toList S (Q .normal)) : W c (.region id ops false) S Q :=
 W.region (h ops rfl _ (by
  refine List.ext_getElem? fun i => ?_
  simp only [List.getElem?_map]
  rcases Nat.lt_or_ge i ops.size with hi | hi
  ·simp [List.getElem?_range, hi]
  ·simp [hi]))
theorem WL.call {c : Cx} {ops : Array Oper} {o : Oper} {l : List Oper} {S : St} {K : St → Prop} (ts : List Nat) (f : Operand) (args : Array Operand) (argTypes : Array TypeId) (ho : o.op = .call { callee := .value f, args, argTypes }) (hg : o.guard = none) (hd : ∀ k, o.dst = some k → k < S.n)
  {g : Nat} {caps : List AV} (hf : evT c 0 S f = .fn g caps) (of : okO c 0 f) {fn : Func} {body : Code} (hfn : FnOk c.P g fn body) (hTs : argTypes.toList.length = args.toList.length) (hok : ∀ x ∈ argTypes.toList.zip args.toList, okO c x.1 x.2) (hn : (gvn ts args.toList).Nodup)
  {as' : List AV} (ha : (argTypes.toList.zip args.toList).map (fun x => argA c ts S x.1 x.2) ++ caps = as') {r : AV} {h' : HP} (hc : CS c.P g as' S.hp r h') {S1 : St} (e : (⟨S.n, putF (clrs S.tm (gvn ts args.toList)) o.dst r, h'⟩ : St) = S1) (k : WL c ops l S1 K) : WL c ops (o :: l) S K := by
 subst ha
 exact WL.cons (OS.call hd (by unfold wnt; rw [hg]) f args argTypes ho ts g caps hf of fn body hfn argTypes.toList hTs hok hn r h' hc) (by rw [e]; exact k)
mutual
theorem AV.npt_mono {D E : Nat → Prop} (h : ∀ k, E k → D k) : ∀ a : AV, a.npt D → a.npt E
 | .un, _ => trivial
 | .d _, _ => trivial
 | .pt _ _ _, q => by simp only [AV.npt] at q ⊢; exact fun e1 e2 => q e1 (h _ e2)
 | .el _, _ => trivial
 | .rw _ _ _, q => by simp only [AV.npt] at q ⊢; exact fun e1 e2 => q e1 (h _ e2)
 | .tp l, q => by simp only [AV.npt] at q ⊢; exact AV.npts_mono h l q
 | .fn _ c, q => by simp only [AV.npt] at q ⊢; exact AV.npts_mono h c q
 | .fr l, q => by simp only [AV.npt] at q ⊢; exact AV.npts_mono h l q
 | .ep a, q => by simp only [AV.npt] at q ⊢; exact AV.npt_mono h a q
 | .ms _ _, _ => trivial
 | .mb _ _ _, _ => trivial
 | .mp _ _ _ _, _ => trivial
theorem AV.npts_mono {D E : Nat → Prop} (h : ∀ k, E k → D k) : ∀ l : List AV, AV.npts D l → AV.npts E l
 | [], _ => trivial
 | a :: l, q => by simp only [AV.npts] at q ⊢; exact ⟨AV.npt_mono h a q.1, AV.npts_mono h l q.2⟩
end
def inK (L2 : List (Nat × AV)) (k : Nat) : Prop := al L2 k ≠ none
mutual
def AV.cl (L2 : List (Nat × AV)) : AV → Prop
 | .un => True
 | .d _ => True
 | .pt lv k _ => lv = 0 → inK L2 k
 | .el _ => True
 | .rw lv k _ => lv = 0 → inK L2 k
 | .tp l => AV.cls L2 l
 | .fn _ c => AV.cls L2 c
 | .fr l => AV.cls L2 l
 | .ep a => a.cl L2
 | .ms _ _ => True
 | .mb _ _ _ => True
 | .mp _ _ _ _ => True
def AV.cls (L2 : List (Nat × AV)) : List AV → Prop
 | [] => True
 | a :: l => a.cl L2 ∧ AV.cls L2 l
end
mutual
theorem AV.cl_npt {L2 : List (Nat × AV)} {h : HP} : ∀ a : AV, a.cl L2 → a.npt (fun k => hpg (al L2 :: h) 0 k = none)
 | .un, _ => trivial
 | .d _, _ => trivial
 | .pt _ _ _, q => by simp only [AV.cl, AV.npt] at q ⊢; exact fun e1 e2 => q e1 e2
 | .el _, _ => trivial
 | .rw _ _ _, q => by simp only [AV.cl, AV.npt] at q ⊢; exact fun e1 e2 => q e1 e2
 | .tp l, q => by simp only [AV.cl, AV.npt] at q ⊢; exact AV.cls_npt l q
 | .fn _ c, q => by simp only [AV.cl, AV.npt] at q ⊢; exact AV.cls_npt c q
 | .fr l, q => by simp only [AV.cl, AV.npt] at q ⊢; exact AV.cls_npt l q
 | .ep a, q => by simp only [AV.cl, AV.npt] at q ⊢; exact AV.cl_npt a q
 | .ms _ _, _ => trivial
 | .mb _ _ _, _ => trivial
 | .mp _ _ _ _, _ => trivial
theorem AV.cls_npt {L2 : List (Nat × AV)} {h : HP} : ∀ l : List AV, AV.cls L2 l → AV.npts (fun k => hpg (al L2 :: h) 0 k = none) l
 | [], _ => trivial
 | a :: l, q => by simp only [AV.cls, AV.npts] at q ⊢; exact ⟨AV.cl_npt a q.1, AV.cls_npt l q.2⟩
end
theorem al_mem : ∀ (l : List (Nat × AV)) (k : Nat) (v : AV), al l k = some v → (k, v) ∈ l
 | [], _, _, h => by simp [al] at h
 | (j, u) :: r, k, v, h => by
  simp only [al] at h
  cases hk : (k == j) with
  | true =>
   rw [hk, cond_true] at h
   have : k = j := by simpa using hk
   subst this
   cases h; simp
  | false => rw [hk, cond_false] at h; exact List.mem_cons_of_mem _ (al_mem r k v h)
/-- what is not listed is forgotten -/
theorem wk_prune {S : St} {f : Nat → Option AV} {h : HP} (L L2 : List (Nat × AV)) (hh : S.hp = f :: upH h) (h1 : ∀ p ∈ L, S.tm p.1 = p.2 ∧ p.2.cl L2) (h2 : ∀ p ∈ L2, f p.1 = some p.2 ∧ p.2.cl L2) : Wk S ⟨S.n, tl L, al L2 :: upH h⟩ := by
 refine ⟨rfl, fun t => ?_, fun lv k => ?_, fun t => ?_, fun lv q cn hq => ?_⟩
 ·show (al L t).getD .un = _ ∨ _
  cases hq : al L t with
  | none => exact .inr (by show (al L t).getD .un = _; rw [hq]; rfl)
  | some v => exact .inl (h1 _ (al_mem L t v hq)).1.symm
 ·rw [hh]
  cases lv with
  | zero =>
   show al L2 k = f k ∨ _
   cases hq : al L2 k with
   | none => exact .inr ⟨rfl, hq⟩
   | some v => exact .inl (h2 _ (al_mem L2 k v hq)).1.symm
  | succ lv => exact .inl rfl
 ·show ((al L t).getD .un).npt _
  cases hq : al L t with
  | none => trivial
  | some v => exact AV.cl_npt v (h1 _ (al_mem L t v hq)).2
 ·cases lv with
  | zero => exact AV.cl_npt cn (h2 _ (al_mem L2 q cn hq)).2
  | succ lv =>
   have hq' : hpg (upH h) lv q = some cn := hq
   rw [hpg_upH] at hq'
   cases hh2 : hpg h lv q with
   | none => rw [hh2] at hq'; cases hq'
   | some c0 =>
    rw [hh2] at hq'
    simp only [Option.map_some, Option.some.injEq] at hq'
    subst hq'
    exact AV.npt_up _ c0
/-- the same at the end of a text -/
def Wz (S S' : St) : Prop := ∀ (w : World) (F : Nat → Nat) (Θ : Ty) (own : Who → List Nat) (a : Act), Rel w F Θ own S a → ∃ F' Θ' own', Rel w F' Θ' own' S' a ∧ Stp w F Θ own w F' Θ' own'
theorem Wz.of {S S' : St} (k : Wk S S') : Wz S S' := fun w F Θ own a hR => by
 obtain ⟨Θ1, own1, h1, h2⟩ := hR.weak k
 exact ⟨F, Θ1, own1, h1, h2⟩
theorem W.after {c : Cx} {code : Code} {S : St} {Q Q' : Exit → St → Prop} (h : W c code S Q') (hq : ∀ e S1, Q' e S1 → ∃ S2, Wz S1 S2 ∧ Q e S2) : W c code S Q := fun w F Θ own a hR =>
 wp_mono (h w F Θ own a hR) fun e a1 w1 ⟨S1, F1, Θ1, own1, k1, k2, k3⟩ => by
  obtain ⟨S2, g1, g2⟩ := hq e S1 k1
  obtain ⟨F2, Θ2, own2, m1, m2⟩ := g1 w1 F1 Θ1 own1 a1 k2
  exact ⟨S2, F2, Θ2, own2, g2, m1, k3.trans m2⟩
theorem W.ahead {c : Cx} {code : Code} {S S1 : St} {Q : Exit → St → Prop} (z : Wz S S1) (h : W c code S1 Q) : W c code S Q := fun w F Θ own a hR => by
 obtain ⟨F1, Θ1, own1, h1, h2⟩ := z w F Θ own a hR
 exact wp_mono (h w F1 Θ1 own1 a h1) fun _ _ _ ⟨S2, F2, Θ2, own2, k1, k2, k3⟩ => ⟨S2, F2, Θ2, own2, k1, k2, h2.trans k3⟩
/-- a row is closed; what is not listed is forgotten -/
theorem wz_freeze {S : St} {f : Nat → Option AV} {h : HP} (t k n : Nat) (es : List DD) (s : Sh) (L L2 : List (Nat × AV)) (hh : S.hp = f :: upH h) (ht : S.tm t = .rw 0 k n) (hk : f k = some (.d (.st es))) (hsp : 0 < s.w) (hes : DD.shs es = List.replicate n s)
  (h1 : ∀ p ∈ L, p.1 ≠ t ∧ S.tm p.1 = p.2 ∧ p.2.cl L2) (h2 : ∀ p ∈ L2, p.1 ≠ k ∧ f p.1 = some p.2 ∧ p.2.cl L2) : Wz S ⟨S.n, tl ((t, .d (.sl true s es)) :: L), al L2 :: upH h⟩ := by
 intro w F Θ own a hR
 have hk2 : al L2 k = none := by
  cases hq : al L2 k with
  | none => rfl
  | some v => exact absurd rfl (h2 _ (al_mem L2 k v hq)).1
 have hL : ∀ u v, al L u = some v → S.tm u = v ∧ v.cl L2 := fun u v hq => (h1 _ (al_mem L u v hq)).2
 have npk : ∀ v : AV, v.cl L2 → v.npt (fun q => q = k) := by
  have key : ∀ v : AV, v.npt (fun q => hpg (al L2 :: upH h) 0 q = none) → v.npt (fun q => q = k) := by
   intro v
   refine AV.npt_mono (fun q e => ?_) v
   subst e; exact hk2
  exact fun v hv => key v (AV.cl_npt v hv)
 -- contents that do not look at the row: those that are kept; all others are forgotten first
 have hw : Wk S ⟨S.n, fun u => if u = t then .rw 0 k n else tl L u, (fun q => if q = k then f k else al L2 q) :: upH h⟩ := by
  refine ⟨rfl, fun u => ?_, fun lv q => ?_, fun u => ?_, fun lv q cn hq => ?_⟩
  ·show (if u = t then _ else _) = _ ∨ _
   by_cases hu : u = t
   ·subst hu; rw [if_pos rfl]; exact .inl ht.symm
   ·rw [if_neg hu]
    show (al L u).getD .un = _ ∨ (if u = t then _ else _) = _
    rw [if_neg hu]
    show _ ∨ (al L u).getD .un = _
    cases hq : al L u with
    | none => exact .inr rfl
    | some v => exact .inl (hL u v hq).1.symm
  ·rw [hh]
   cases lv with
   | zero =>
    show (if q = k then f k else al L2 q) = f q ∨ _
    by_cases hq : q = k
    ·subst hq; rw [if_pos rfl]; exact .inl rfl
    ·rw [if_neg hq]
     cases hq2 : al L2 q with
     | none => exact .inr ⟨rfl, by show (if q = k then f k else al L2 q) = none; rw [if_neg hq]; exact hq2⟩
     | some v => exact .inl (h2 _ (al_mem L2 q v hq2)).2.1.symm
   | succ lv => exact .inl rfl
  ·show (if u = t then _ else _ : AV).npt _
   have mono : ∀ v : AV, v.cl L2 → v.npt (fun q => (if q = k then f k else al L2 q) = none) := fun v hv => AV.npt_mono (fun q e => by
    show al L2 q = none
    by_cases hq : q = k
    ·subst hq; exact hk2
    ·rw [if_neg hq] at e; exact e) v (AV.cl_npt (h := upH h) v hv)
   by_cases hu : u = t
   ·rw [if_pos hu]
    simp only [AV.npt]
    intro _ e
    have e' : (if k = k then f k else al L2 k) = none := e
    rw [if_pos rfl, hk] at e'; cases e'
   ·rw [if_neg hu]
    show ((al L u).getD .un).npt _
    cases hq : al L u with
    | none => trivial
    | some v => exact mono v (hL u v hq).2
  ·have mono : ∀ v : AV, v.cl L2 → v.npt (fun q => (if q = k then f k else al L2 q) = none) := fun v hv => AV.npt_mono (fun q e => by
    show al L2 q = none
    by_cases hq : q = k
    ·subst hq; exact hk2
    ·rw [if_neg hq] at e; exact e) v (AV.cl_npt (h := upH h) v hv)
   cases lv with
   | zero =>
    have hq' : (if q = k then f k else al L2 q) = some cn := hq
    by_cases hqk : q = k
    ·rw [if_pos hqk, hk] at hq'
     cases hq'; trivial
    ·rw [if_neg hqk] at hq'
     exact mono cn (h2 _ (al_mem L2 q cn hq')).2.2
   | succ lv =>
    have hq' : hpg (upH h) lv q = some cn := hq
    rw [hpg_upH] at hq'
    cases hh2 : hpg h lv q with
    | none => rw [hh2] at hq'; cases hq'
    | some c0 =>
     rw [hh2] at hq'
     simp only [Option.map_some, Option.some.injEq] at hq'
     subst hq'
     exact AV.npt_up _ c0
 obtain ⟨Θ1, own1, r1, r2⟩ := hR.weak hw
 obtain ⟨F2, Θ2, own2, m1, m2⟩ := r1.freeze t k n (if_pos rfl) es (by show (if k = k then f k else _) = _; rw [if_pos rfl]; exact hk) s hsp hes ⟨S.n, tl ((t, .d (.sl true s es)) :: L), al L2 :: upH h⟩ rfl (fun u hu => by
   left
   show ((al ((t, _) :: L) u).getD .un) = (if u = t then _ else _)
   rw [if_neg hu]
   simp only [al, beq_eq_false_iff_ne.2 hu, cond_false]
   rfl) (by simp [tl, al]) (fun lv q hne => by
   cases lv with
   | zero =>
    show al L2 q = (if q = k then f k else al L2 q)
    rw [if_neg (fun e => hne ⟨rfl, e⟩)]
   | succ lv => rfl) hk2 (fun u hu => by
   show ((al ((t, _) :: L) u).getD .un).npt _
   simp only [al, beq_eq_false_iff_ne.2 hu, cond_false]
   cases hq : al L u with
   | none => trivial
   | some v => exact npk v (hL u v hq).2) (fun lv q cn hq => by
   cases lv with
   | zero => exact npk cn (h2 _ (al_mem L2 q cn hq)).2.2
   | succ lv =>
    have hq' : hpg (upH h) lv q = some cn := hq
    rw [hpg_upH] at hq'
    cases hh2 : hpg h lv q with
    | none => rw [hh2] at hq'; cases hq'
    | some c0 =>
     rw [hh2] at hq'
     simp only [Option.map_some, Option.some.injEq] at hq'
     subst hq'
     exact AV.npt_up _ c0)
 exact ⟨F2, Θ2, own2, m1, r2.trans m2⟩
def tls (S : St) (ts : List Nat) : List (Nat × AV) := ts.map fun t => (t, S.tm t)
def hls (f : Nat → Option AV) : List Nat → List (Nat × AV)
 | [] => []
 | k :: ks => match f k with
  | some v => (k, v) :: hls f ks
  | none => hls f ks
theorem hls_get (f : Nat → Option AV) : ∀ (ks : List Nat) (p : Nat × AV), p ∈ hls f ks → f p.1 = some p.2
 | [], p, h => by simp [hls] at h
 | k :: ks, p, h => by
  unfold hls at h
  split at h
  ·rcases List.mem_cons.1 h with rfl | h
   ·assumption
   ·exact hls_get f ks p h
  ·exact hls_get f ks p h
def hd (S : St) : Nat → Option AV := S.hp.headD fun _ => none
def kept (S : St) (ts ks : List Nat) : St := ⟨S.n, tl (tls S ts), al (hls (hd S) ks) :: S.hp.tail⟩
def keepOk (S : St) (ts ks : List Nat) : Prop := S.hp ≠ [] ∧ (∀ p ∈ tls S ts, p.2.cl (hls (hd S) ks)) ∧ ∀ p ∈ hls (hd S) ks, p.2.cl (hls (hd S) ks)
theorem wk_kept {S : St} {h : HP} (ts ks : List Nat) (hh : S.hp.tail = upH h) (hk : keepOk S ts ks) : Wk S (kept S ts ks) := by
 have e : S.hp = hd S :: upH h := by
  rw [← hh]
  unfold hd
  cases hs : S.hp with
  | nil => exact absurd hs hk.1
  | cons f r => rfl
 have := wk_prune (S := S) (tls S ts) (hls (hd S) ks) e (fun p hp => by
  refine ⟨?_, hk.2.1 p hp⟩
  obtain ⟨t, -, rfl⟩ := List.mem_map.1 hp
  rfl) (fun p hp => ⟨hls_get _ ks p hp, hk.2.2 p hp⟩)
 unfold kept
 rw [hh]
 exact this
theorem W.keep {c : Cx} {code : Code} {S T : St} {Q : Exit → St → Prop} {h : HP} (ts ks : List Nat) (hh : S.hp.tail = upH h) (hk : keepOk S ts ks) (e : kept S ts ks = T) (k : W c code T Q) : W c code S Q := by
 subst e; exact W.weak (wk_kept ts ks hh hk) k
theorem Wz.keep {S T : St} {h : HP} (ts ks : List Nat) (hh : S.hp.tail = upH h) (hk : keepOk S ts ks) (e : kept S ts ks = T) : Wz S T := by
 subst e; exact Wz.of (wk_kept ts ks hh hk)
theorem Wz.refl (S : St) : Wz S S := fun w F Θ own _ hR => ⟨F, Θ, own, hR, Stp.refl _ _ _ _⟩
theorem W.loopz {c : Cx} {x : Code} {Q : Exit → St → Prop} {S : St} (A : Nat → St) (n : Nat) (h0 : Wz S (A 0)) (h : ∀ k, k ≤ n → W c x (A k) (thenQ (fun S' => k < n ∧ Wz S' (A (k + 1))) Q)) : W c (.loop x) S Q := by
 refine W.ahead h0 (W.loop A n fun k hk => W.after (h k hk) fun e S1 q => ?_)
 cases e with
 | normal => exact ⟨_, q.2, q.1, rfl⟩
 | exit id => exact ⟨S1, Wz.refl S1, q⟩
 | goto l => exact ⟨S1, Wz.refl S1, q⟩
 | ret => exact ⟨S1, Wz.refl S1, q⟩
 | panic ch => exact ⟨S1, Wz.refl S1, q⟩
 | outgrown => exact ⟨S1, Wz.refl S1, q⟩
def dI (n : Int) : DD := .lf (.int .i64 n)
def dS (s : ByteArray) : DD := .lf (.string s)
def dB (b : Bool) : DD := .lf (.bool b)
theorem vws_map {α : Type} {f g : α → DD} (h : ∀ x, (f x).vw = g x) (l : List α) : DD.vws (l.map f) = l.map g := by
 rw [DD.vws_eq, List.map_map]; exact List.map_congr_left fun x _ => h x
theorem shs_map {α : Type} {f : α → DD} {s : Sh} (h : ∀ x, (f x).sh = s) (l : List α) : DD.shs (l.map f) = List.replicate l.length s := by
 rw [DD.shs_eq, List.map_map]
 induction l with
 | nil => rfl
 | cons x l ih => rw [List.map_cons, List.length_cons, List.replicate_succ, ih]; exact congrArg (· :: _) (h x)
theorem vws_dI (l : List Int) : DD.vws (l.map dI) = l.map dI := vws_map (fun _ => rfl) l
theorem vws_dS (l : List ByteArray) : DD.vws (l.map dS) = l.map dS := vws_map (fun _ => rfl) l
theorem vws_dB (l : List Bool) : DD.vws (l.map dB) = l.map dB := vws_map (fun _ => rfl) l
theorem shs_dI (l : List Int) : DD.shs (l.map dI) = List.replicate l.length .one := shs_map (s := .one) (fun _ => rfl) l
theorem shs_dS (l : List ByteArray) : DD.shs (l.map dS) = List.replicate l.length .one := shs_map (s := .one) (fun _ => rfl) l
theorem shs_dB (l : List Bool) : DD.shs (l.map dB) = List.replicate l.length .one := shs_map (s := .one) (fun _ => rfl) l
theorem getD_map_lt {α : Type} {f : α → DD} {l : List α} {k : Nat} (hk : k < l.length) : (l.map f).getD k default = f l[k] := by
 simp [List.getD_eq_getElem?_getD, hk]
attribute [simp] okP cls okO nx nxP val evT tkT putF clrs tmO upd hps hpg tl al mkl AV.up AV.vw DD.vw DD.vws AV.csh DD.sh DD.shs getP setP rdA wrA ldX mvB offP Sh.ws Sh.w fldD argA gvn okIx tls hls hd kept keepOk AV.cl AV.cls inK binL DD.vws_vws DD.shs_vw vws_dI vws_dS vws_dB shs_dI shs_dS shs_dB dI dS dB
end Go.Proofs.YtdooklofebdknaaGreat
