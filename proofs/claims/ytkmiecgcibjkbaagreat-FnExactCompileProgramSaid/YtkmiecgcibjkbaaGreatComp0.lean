/- Compiling a body: what is computed (spec and impl), that both agree, and the state in memory. No condition. -/
import Derived.Test.YtkmiecgcibjkbaaGreatGrow
import Derived.Test.YtkmiecgcibjkbaaGreatReg2
import Derived.Laws.OwnMore
namespace Go.Proofs.YtkmiecgcibjkbaaGreat
open Go.RowKit
/-- the instructions made, the names of the slots, whether it failed -/
structure CS where
 list : List TInstr
 slots : List ByteArray
 bad : Bool
def instr (op a b : Int) (t n : ByteArray) : TInstr := ⟨op, a, b, t, n⟩
def patchA : List TInstr → Nat → Int → List TInstr
 | [], _, _ => []
 | x :: l, 0, n => ⟨x.fOp, n, x.fB, x.fTrait, x.fName⟩ :: l
 | x :: l, k + 1, n => x :: patchA l k n
theorem patchA_length : ∀ (l : List TInstr) (k : Nat) (n : Int), (patchA l k n).length = l.length
 | [], _, _ => rfl
 | x :: l, 0, n => rfl
 | x :: l, k + 1, n => by simp only [patchA, List.length_cons, patchA_length l k n]
def CS.add (s : CS) (x : TInstr) : CS := ⟨s.list ++ [x], s.slots, s.bad⟩
def CS.fail (s : CS) : CS := ⟨s.list, s.slots, true⟩
def CS.put (s : CS) (l : List ByteArray) : CS := ⟨s.list, l, s.bad⟩
def CS.patch (s : CS) (k : Nat) : CS := ⟨patchA s.list k (s.list.length : Int), s.slots, s.bad⟩
theorem CS.add_len (s : CS) (x : TInstr) : (s.add x).list.length = s.list.length + 1 := by simp [CS.add]
theorem CS.add_slots (s : CS) (x : TInstr) : (s.add x).slots = s.slots := rfl
theorem CS.add_bad (s : CS) (x : TInstr) : (s.add x).bad = s.bad := rfl
theorem CS.put_list (s : CS) (l : List ByteArray) : (s.put l).list = s.list := rfl
theorem CS.put_slots (s : CS) (l : List ByteArray) : (s.put l).slots = l := rfl
theorem CS.put_bad (s : CS) (l : List ByteArray) : (s.put l).bad = s.bad := rfl
theorem CS.fail_list (s : CS) : s.fail.list = s.list := rfl
theorem CS.fail_slots (s : CS) : s.fail.slots = s.slots := rfl
theorem CS.fail_bad (s : CS) : s.fail.bad = true := rfl
theorem CS.patch_len (s : CS) (k : Nat) : (s.patch k).list.length = s.list.length := patchA_length _ _ _
theorem CS.patch_slots (s : CS) (k : Nat) : (s.patch k).slots = s.slots := rfl
theorem CS.patch_bad (s : CS) (k : Nat) : (s.patch k).bad = s.bad := rfl
/-- the last slot of a name below k -/
noncomputable def slotOf (l : List ByteArray) (n : ByteArray) : Nat → Option Nat
 | 0 => none
 | k + 1 => @ite _ (l[k]? = some n) (Classical.propDecidable _) (some k) (slotOf l n k)
theorem slotOf_hit {l : List ByteArray} {n : ByteArray} {k : Nat} (h : l[k]? = some n) : slotOf l n (k + 1) = some k := if_pos h
theorem slotOf_miss {l : List ByteArray} {n : ByteArray} {k : Nat} (h : ¬ l[k]? = some n) : slotOf l n (k + 1) = slotOf l n k := if_neg h
theorem slotOf_lt {l : List ByteArray} {n : ByteArray} : ∀ (k j : Nat), slotOf l n k = some j → j < k
 | 0, j, h => by simp [slotOf] at h
 | k + 1, j, h => by
  by_cases hk : l[k]? = some n
  ·rw [slotOf_hit hk] at h
   simp only [Option.some.injEq] at h
   omega
  ·rw [slotOf_miss hk] at h
   have := slotOf_lt k j h
   omega
abbrev Rec := TCore → CS → CS
def cArgs (R : Rec) (l : List TCore) (s : CS) : CS := l.foldl (fun s x => R x s) s
theorem cArgs_nil (R : Rec) (s : CS) : cArgs R [] s = s := rfl
theorem cArgs_cons (R : Rec) (x : TCore) (l : List TCore) (s : CS) : cArgs R (x :: l) s = cArgs R l (R x s) := rfl
def cEnds (l : List Nat) (s : CS) : CS := l.foldl (fun s k => s.patch k) s
theorem cEnds_nil (s : CS) : cEnds [] s = s := rfl
theorem cEnds_cons (k : Nat) (l : List Nat) (s : CS) : cEnds (k :: l) s = cEnds l (s.patch k) := rfl
def opTest (a : TCoreArm) : TInstr := instr 9 (-1) a.fVars.length ⟨#[]⟩ a.fConstructor
def opDrop (n : Int) : TInstr := instr 5 n 0 ⟨#[]⟩ ⟨#[]⟩
def opOne (k : Int) : TInstr := instr k 0 0 ⟨#[]⟩ ⟨#[]⟩
/-- an arm of the spec: the state behind its jump -/
def sArm (R : Rec) (a : TCoreArm) (s : CS) : CS :=
 ((((R a.fBody ((s.add (opTest a)).put (s.slots ++ a.fVars))).put ((R a.fBody ((s.add (opTest a)).put (s.slots ++ a.fVars))).slots.take s.slots.length)).add (opDrop a.fVars.length))).add (opOne 10)
def sArms (R : Rec) : List TCoreArm → List Nat → CS → List Nat × CS
 | [], e, s => (e, s)
 | a :: l, e, s => sArms R l (e ++ [(sArm R a s).list.length - 1]) (if l = [] then sArm R a s else (sArm R a s).patch s.list.length)
theorem sArms_nil (R : Rec) (e : List Nat) (s : CS) : sArms R [] e s = (e, s) := rfl
theorem sArms_last (R : Rec) (a : TCoreArm) (e : List Nat) (s : CS) : sArms R [a] e s = (e ++ [(sArm R a s).list.length - 1], sArm R a s) := rfl
theorem sArms_more (R : Rec) (a : TCoreArm) {l : List TCoreArm} (h : l ≠ []) (e : List Nat) (s : CS) : sArms R (a :: l) e s = sArms R l (e ++ [(sArm R a s).list.length - 1]) ((sArm R a s).patch s.list.length) := by
 rw [sArms, if_neg h]
def sCase (R : Rec) (x : TCore) (s : CS) : CS := cEnds (sArms R x.fArms [] s).1 (sArms R x.fArms [] s).2
/-- the instruction of a kind that takes all its arguments from the stack -/
def opOf (x : TCore) : TInstr :=
 if x.fKind = 6 then instr 8 0 x.fArgs.length ⟨#[]⟩ x.fName
 else if x.fKind = 10 then instr 12 0 0 ⟨#[]⟩ x.fName
 else if x.fKind = 11 then instr 13 x.fN 0 ⟨#[]⟩ x.fTrait
 else if x.fKind = 5 ∧ x.fN = -1 then instr 7 0 x.fArgs.length x.fTrait x.fName
 else instr 6 x.fN x.fArgs.length ⟨#[]⟩ ⟨#[]⟩
def sIf (R : Rec) (x : TCore) (s : CS) : CS :=
 match x.fArgs with
 | [a, b, c] => (R c (((R b ((R a s).add (opOne 11))).add (opOne 10)).patch (R a s).list.length)).patch (R b ((R a s).add (opOne 11))).list.length
 | _ => s.fail
def sLet (R : Rec) (x : TCore) (s : CS) : CS :=
 match x.fArgs with
 | [a, b] => ((R b (((R a s).add (opOne 4)).put ((R a s).slots ++ [x.fName]))).put ((R b (((R a s).add (opOne 4)).put ((R a s).slots ++ [x.fName]))).slots.take (R a s).slots.length)).add (opDrop 1)
 | _ => s.fail
noncomputable def sVar (n : ByteArray) (s : CS) : CS :=
 match slotOf s.slots n s.slots.length with
 | some k => s.add (instr 3 k 0 ⟨#[]⟩ ⟨#[]⟩)
 | none => s.fail.add (instr 3 0 0 ⟨#[]⟩ ⟨#[]⟩)
def isOp (k : Int) : Prop := k = 4 ∨ k = 5 ∨ k = 6 ∨ k = 10 ∨ k = 11
instance (k : Int) : Decidable (isOp k) := by unfold isOp; infer_instance
noncomputable def sCore (R : Rec) (x : TCore) (s : CS) : CS :=
 if x.fKind = 1 then s.add (instr 1 x.fN 0 ⟨#[]⟩ ⟨#[]⟩)
 else if x.fKind = 2 then s.add (instr 2 (if x.fN = 1 then 1 else 0) 0 ⟨#[]⟩ ⟨#[]⟩)
 else if x.fKind = 3 then sVar x.fName s
 else if x.fKind = 8 then sLet R x s
 else if x.fKind = 9 then sIf R x s
 else if x.fKind = 7 then sCase R x (cArgs R x.fArgs s)
 else if isOp x.fKind then (cArgs R x.fArgs s).add (opOf x)
 else s.fail
noncomputable def sC : Nat → Rec
 | 0 => fun _ s => s
 | n + 1 => sCore (sC n)
/-- an arm of the impl -/
def iArmB (R : Rec) (a : TCoreArm) (s : CS) : CS := R a.fBody ((s.add (opTest a)).put (s.slots ++ a.fVars))
def iDrop (n : Nat) (s : CS) : CS := (s.add (opDrop n)).put (s.slots.take (s.slots.length - n))
def iArm (R : Rec) (a : TCoreArm) (s : CS) : CS := (iDrop a.fVars.length (iArmB R a s)).add (opOne 10)
def iArms (R : Rec) : List TCoreArm → List Nat → CS → Option (List Nat) × CS
 | [], e, s => (some e, s)
 | a :: l, e, s => if (iArmB R a s).bad then (none, iArmB R a s) else iArms R l (e ++ [(iArm R a s).list.length - 1]) (if l = [] then iArm R a s else (iArm R a s).patch s.list.length)
theorem iArms_nil (R : Rec) (e : List Nat) (s : CS) : iArms R [] e s = (some e, s) := rfl
theorem iArms_bad (R : Rec) (a : TCoreArm) (l : List TCoreArm) (e : List Nat) (s : CS) (h : (iArmB R a s).bad = true) : iArms R (a :: l) e s = (none, iArmB R a s) := by rw [iArms, if_pos h]
theorem iArms_last (R : Rec) (a : TCoreArm) (e : List Nat) (s : CS) (h : (iArmB R a s).bad = false) : iArms R [a] e s = (some (e ++ [(iArm R a s).list.length - 1]), iArm R a s) := by rw [iArms, if_neg (by simp [h])]; rfl
theorem iArms_more (R : Rec) (a : TCoreArm) {l : List TCoreArm} (hl : l ≠ []) (e : List Nat) (s : CS) (h : (iArmB R a s).bad = false) : iArms R (a :: l) e s = iArms R l (e ++ [(iArm R a s).list.length - 1]) ((iArm R a s).patch s.list.length) := by
 rw [iArms, if_neg (by simp [h]), if_neg hl]
def iCase (R : Rec) (x : TCore) (s : CS) : CS :=
 match iArms R x.fArms [] s with
 | (some e, t) => cEnds e t
 | (none, t) => t
def iLet (R : Rec) (x : TCore) (s : CS) : CS :=
 match x.fArgs with
 | [a, b] => iDrop 1 (R b (((R a s).add (opOne 4)).put ((R a s).slots ++ [x.fName])))
 | _ => s.fail
noncomputable def iVar (n : ByteArray) (s : CS) : CS :=
 match slotOf s.slots n s.slots.length with
 | some k => s.add (instr 3 k 0 ⟨#[]⟩ ⟨#[]⟩)
 | none => s.fail
noncomputable def iCore (R : Rec) (x : TCore) (s : CS) : CS :=
 if s.bad = true then s
 else if x.fKind = 1 then s.add (instr 1 x.fN 0 ⟨#[]⟩ ⟨#[]⟩)
 else if x.fKind = 2 then s.add (instr 2 (if x.fN = 1 then 1 else 0) 0 ⟨#[]⟩ ⟨#[]⟩)
 else if x.fKind = 3 then iVar x.fName s
 else if isOp x.fKind then (cArgs R x.fArgs s).add (opOf x)
 else if x.fKind = 8 then iLet R x s
 else if x.fKind = 9 then sIf R x s
 else if x.fKind = 7 then iCase R x (cArgs R x.fArgs s)
 else s.fail
noncomputable def iC : Nat → Rec
 | 0 => fun _ s => s
 | n + 1 => iCore (iC n)
/-- how far a state grows -/
def Bd (R : Rec) : Prop := ∀ x s, s.list.length ≤ (R x s).list.length ∧ (R x s).list.length + 3 ≤ s.list.length + 4 * (1 + x.sz) ∧ s.slots.length ≤ (R x s).slots.length ∧ (R x s).slots.length ≤ s.slots.length + (1 + x.sz)
theorem bd_args {R : Rec} (h : Bd R) : ∀ (l : List TCore) (s : CS), s.list.length ≤ (cArgs R l s).list.length ∧ (cArgs R l s).list.length ≤ s.list.length + 4 * szs TCore.sz l ∧ s.slots.length ≤ (cArgs R l s).slots.length ∧ (cArgs R l s).slots.length ≤ s.slots.length + szs TCore.sz l
 | [], s => by simp [cArgs_nil]
 | x :: l, s => by
  have h1 := h x s
  have h2 := bd_args h l (R x s)
  rw [cArgs_cons]
  simp only [szs, szL, List.length_cons] at h2 ⊢
  omega
theorem bd_ends : ∀ (l : List Nat) (s : CS), (cEnds l s).list.length = s.list.length ∧ (cEnds l s).slots = s.slots
 | [], s => ⟨rfl, rfl⟩
 | k :: l, s => by
  rw [cEnds_cons]
  have := bd_ends l (s.patch k)
  rw [CS.patch_len, CS.patch_slots] at this
  exact this
theorem arm_sz (a : TCoreArm) : a.fVars.length + a.fBody.sz ≤ a.sz := by
 rw [TCoreArm.sz_eq]
 simp only [szs]
 omega
theorem bd_sArm {R : Rec} (h : Bd R) (a : TCoreArm) (s : CS) : s.list.length + 3 ≤ (sArm R a s).list.length ∧ (sArm R a s).list.length ≤ s.list.length + 4 * (1 + a.sz) ∧ (sArm R a s).slots.length = s.slots.length := by
 have h1 := h a.fBody ((s.add (opTest a)).put (s.slots ++ a.fVars))
 have h2 := arm_sz a
 unfold sArm
 simp only [CS.add_len, CS.add_slots, CS.put_list, CS.put_slots, List.length_take, List.length_append] at h1 ⊢
 omega
theorem bd_sArms {R : Rec} (h : Bd R) : ∀ (l : List TCoreArm) (e : List Nat) (s : CS), s.list.length ≤ (sArms R l e s).2.list.length ∧ (sArms R l e s).2.list.length ≤ s.list.length + 4 * szs TCoreArm.sz l ∧ (sArms R l e s).2.slots.length = s.slots.length
 | [], e, s => by simp [sArms_nil]
 | a :: l, e, s => by
  have h1 := bd_sArm h a s
  rw [sArms]
  have h2 := bd_sArms h l (e ++ [(sArm R a s).list.length - 1]) (if l = [] then sArm R a s else (sArm R a s).patch s.list.length)
  have h3 : (if l = [] then sArm R a s else (sArm R a s).patch s.list.length).list.length = (sArm R a s).list.length := by split <;> simp [CS.patch_len]
  have h4 : (if l = [] then sArm R a s else (sArm R a s).patch s.list.length).slots = (sArm R a s).slots := by split <;> rfl
  rw [h3, h4] at h2
  simp only [szs, szL, List.length_cons] at h2 ⊢
  omega
theorem bd_iArmB {R : Rec} (h : Bd R) (a : TCoreArm) (s : CS) : s.list.length + 1 ≤ (iArmB R a s).list.length ∧ (iArmB R a s).list.length + 2 ≤ s.list.length + 4 * (1 + a.sz) ∧ s.slots.length + a.fVars.length ≤ (iArmB R a s).slots.length ∧ (iArmB R a s).slots.length ≤ s.slots.length + (1 + a.sz) := by
 have h1 := h a.fBody ((s.add (opTest a)).put (s.slots ++ a.fVars))
 have h2 := arm_sz a
 unfold iArmB
 simp only [CS.add_len, CS.put_list, CS.put_slots, List.length_append] at h1 ⊢
 omega
theorem bd_iArm {R : Rec} (h : Bd R) (a : TCoreArm) (s : CS) : s.list.length + 3 ≤ (iArm R a s).list.length ∧ (iArm R a s).list.length ≤ s.list.length + 4 * (1 + a.sz) ∧ s.slots.length ≤ (iArm R a s).slots.length ∧ (iArm R a s).slots.length ≤ s.slots.length + (1 + a.sz) := by
 have h1 := bd_iArmB h a s
 unfold iArm iDrop
 simp only [CS.add_len, CS.add_slots, CS.put_list, CS.put_slots, List.length_take] at h1 ⊢
 omega
theorem bd_iArms {R : Rec} (h : Bd R) : ∀ (l : List TCoreArm) (e : List Nat) (s : CS), s.list.length ≤ (iArms R l e s).2.list.length ∧ (iArms R l e s).2.list.length ≤ s.list.length + 4 * szs TCoreArm.sz l ∧ s.slots.length ≤ (iArms R l e s).2.slots.length ∧ (iArms R l e s).2.slots.length ≤ s.slots.length + szs TCoreArm.sz l
 | [], e, s => by simp [iArms_nil]
 | a :: l, e, s => by
  cases hb : (iArmB R a s).bad with
  | true =>
   rw [iArms_bad R a l e s hb]
   have := bd_iArmB h a s
   simp only [szs, szL, List.length_cons]
   omega
  | false =>
   have h1 := bd_iArm h a s
   rw [iArms, if_neg (by simp [hb])]
   have h2 := bd_iArms h l (e ++ [(iArm R a s).list.length - 1]) (if l = [] then iArm R a s else (iArm R a s).patch s.list.length)
   have h3 : (if l = [] then iArm R a s else (iArm R a s).patch s.list.length).list.length = (iArm R a s).list.length := by split <;> simp [CS.patch_len]
   have h4 : (if l = [] then iArm R a s else (iArm R a s).patch s.list.length).slots = (iArm R a s).slots := by split <;> rfl
   rw [h3, h4] at h2
   simp only [szs, szL, List.length_cons] at h2 ⊢
   omega
theorem core_sz (x : TCore) : szs TCore.sz x.fArgs + szs TCoreArm.sz x.fArms ≤ x.sz := by
 rw [TCore.sz_eq]
 omega
theorem bd_sIf {R : Rec} (h : Bd R) (x : TCore) (s : CS) : s.list.length ≤ (sIf R x s).list.length ∧ (sIf R x s).list.length + 3 ≤ s.list.length + 4 * (1 + x.sz) ∧ s.slots.length ≤ (sIf R x s).slots.length ∧ (sIf R x s).slots.length ≤ s.slots.length + (1 + x.sz) := by
 have hz := core_sz x
 unfold sIf
 split
 ·rename_i a b c he
  rw [he] at hz
  have h1 := h a s
  have h2 := h b ((R a s).add (opOne 11))
  have h3 := h c (((R b ((R a s).add (opOne 11))).add (opOne 10)).patch (R a s).list.length)
  simp only [CS.add_len, CS.add_slots, CS.patch_len, CS.patch_slots, szs, szL, List.length_cons] at h1 h2 h3 hz ⊢
  omega
 ·simp only [CS.fail_list, CS.fail_slots]
  omega
theorem bd_sLet {R : Rec} (h : Bd R) (x : TCore) (s : CS) : s.list.length ≤ (sLet R x s).list.length ∧ (sLet R x s).list.length + 3 ≤ s.list.length + 4 * (1 + x.sz) ∧ s.slots.length ≤ (sLet R x s).slots.length ∧ (sLet R x s).slots.length ≤ s.slots.length + (1 + x.sz) := by
 have hz := core_sz x
 unfold sLet
 split
 ·rename_i a b he
  rw [he] at hz
  have h1 := h a s
  have h2 := h b (((R a s).add (opOne 4)).put ((R a s).slots ++ [x.fName]))
  simp only [CS.add_len, CS.add_slots, CS.put_list, CS.put_slots, List.length_take, List.length_append, szs, szL, List.length_cons, List.length_nil] at h1 h2 hz ⊢
  omega
 ·simp only [CS.fail_list, CS.fail_slots]
  omega
theorem bd_iLet {R : Rec} (h : Bd R) (x : TCore) (s : CS) : s.list.length ≤ (iLet R x s).list.length ∧ (iLet R x s).list.length + 3 ≤ s.list.length + 4 * (1 + x.sz) ∧ s.slots.length ≤ (iLet R x s).slots.length ∧ (iLet R x s).slots.length ≤ s.slots.length + (1 + x.sz) := by
 have hz := core_sz x
 unfold iLet iDrop
 split
 ·rename_i a b he
  rw [he] at hz
  have h1 := h a s
  have h2 := h b (((R a s).add (opOne 4)).put ((R a s).slots ++ [x.fName]))
  simp only [CS.add_len, CS.put_list, CS.put_slots, List.length_take, List.length_append, szs, szL, List.length_cons, List.length_nil] at h1 h2 hz ⊢
  omega
 ·simp only [CS.fail_list, CS.fail_slots]
  omega
theorem bd_add {s t : CS} {x : TInstr} {n : Nat} (h1 : s.list.length ≤ t.list.length) (h2 : t.list.length ≤ s.list.length + 4 * n) (h3 : s.slots.length ≤ t.slots.length) (h4 : t.slots.length ≤ s.slots.length + n) :
  s.list.length ≤ (t.add x).list.length ∧ (t.add x).list.length + 3 ≤ s.list.length + 4 * (1 + n) ∧ s.slots.length ≤ (t.add x).slots.length ∧ (t.add x).slots.length ≤ s.slots.length + (1 + n) := by
 rw [CS.add_len, CS.add_slots]
 omega
theorem bd_sVar (n : ByteArray) (s : CS) (k : Nat) : s.list.length ≤ (sVar n s).list.length ∧ (sVar n s).list.length + 3 ≤ s.list.length + 4 * (1 + k) ∧ s.slots.length ≤ (sVar n s).slots.length ∧ (sVar n s).slots.length ≤ s.slots.length + (1 + k) := by
 unfold sVar
 split
 ·rw [CS.add_len, CS.add_slots]; omega
 ·rw [CS.add_len, CS.add_slots, CS.fail_list, CS.fail_slots]; omega
theorem bd_iVar (n : ByteArray) (s : CS) (k : Nat) : s.list.length ≤ (iVar n s).list.length ∧ (iVar n s).list.length + 3 ≤ s.list.length + 4 * (1 + k) ∧ s.slots.length ≤ (iVar n s).slots.length ∧ (iVar n s).slots.length ≤ s.slots.length + (1 + k) := by
 unfold iVar
 split
 ·rw [CS.add_len, CS.add_slots]; omega
 ·rw [CS.fail_list, CS.fail_slots]; omega
theorem bd_same (s : CS) (k : Nat) : s.list.length ≤ s.list.length ∧ s.list.length + 3 ≤ s.list.length + 4 * (1 + k) ∧ s.slots.length ≤ s.slots.length ∧ s.slots.length ≤ s.slots.length + (1 + k) := by omega
theorem bd_sCase {R : Rec} (h : Bd R) (x : TCore) (s : CS) : s.list.length ≤ (sCase R x (cArgs R x.fArgs s)).list.length ∧ (sCase R x (cArgs R x.fArgs s)).list.length + 3 ≤ s.list.length + 4 * (1 + x.sz) ∧ s.slots.length ≤ (sCase R x (cArgs R x.fArgs s)).slots.length ∧ (sCase R x (cArgs R x.fArgs s)).slots.length ≤ s.slots.length + (1 + x.sz) := by
 have hz := core_sz x
 have h1 := bd_args h x.fArgs s
 have h2 := bd_sArms h x.fArms [] (cArgs R x.fArgs s)
 unfold sCase
 rw [(bd_ends _ _).1, (bd_ends _ _).2]
 omega
theorem bd_iCase {R : Rec} (h : Bd R) (x : TCore) (s : CS) : s.list.length ≤ (iCase R x (cArgs R x.fArgs s)).list.length ∧ (iCase R x (cArgs R x.fArgs s)).list.length + 3 ≤ s.list.length + 4 * (1 + x.sz) ∧ s.slots.length ≤ (iCase R x (cArgs R x.fArgs s)).slots.length ∧ (iCase R x (cArgs R x.fArgs s)).slots.length ≤ s.slots.length + (1 + x.sz) := by
 have hz := core_sz x
 have h1 := bd_args h x.fArgs s
 have h2 := bd_iArms h x.fArms [] (cArgs R x.fArgs s)
 unfold iCase
 generalize iArms R x.fArms [] (cArgs R x.fArgs s) = p at *
 obtain ⟨o, t⟩ := p
 cases o with
 | none => simp only at h2 ⊢; omega
 | some e =>
  simp only at h2 ⊢
  rw [(bd_ends _ _).1, (bd_ends _ _).2]
  omega
theorem bd_op {R : Rec} (h : Bd R) (x : TCore) (s : CS) (y : TInstr) : s.list.length ≤ ((cArgs R x.fArgs s).add y).list.length ∧ ((cArgs R x.fArgs s).add y).list.length + 3 ≤ s.list.length + 4 * (1 + x.sz) ∧ s.slots.length ≤ ((cArgs R x.fArgs s).add y).slots.length ∧ ((cArgs R x.fArgs s).add y).slots.length ≤ s.slots.length + (1 + x.sz) := by
 have hz := core_sz x
 have h1 := bd_args h x.fArgs s
 exact bd_add h1.1 (by omega) h1.2.2.1 (by omega)
theorem Bd.sCore {R : Rec} (h : Bd R) : Bd (sCore R) := by
 intro x s
 unfold Go.Proofs.YtkmiecgcibjkbaaGreat.sCore
 split
 ·exact bd_add (n := x.sz) (by omega) (by omega) (by omega) (by omega)
 ·split
  ·exact bd_add (n := x.sz) (by omega) (by omega) (by omega) (by omega)
  ·split
   ·exact bd_sVar _ _ _
   ·split
    ·exact bd_sLet h x s
    ·split
     ·exact bd_sIf h x s
     ·split
      ·exact bd_sCase h x s
      ·split
       ·exact bd_op h x s _
       ·exact bd_same _ _
theorem Bd.iCore {R : Rec} (h : Bd R) : Bd (iCore R) := by
 intro x s
 unfold Go.Proofs.YtkmiecgcibjkbaaGreat.iCore
 split
 ·exact bd_same _ _
 ·split
  ·exact bd_add (n := x.sz) (by omega) (by omega) (by omega) (by omega)
  ·split
   ·exact bd_add (n := x.sz) (by omega) (by omega) (by omega) (by omega)
   ·split
    ·exact bd_iVar _ _ _
    ·split
     ·exact bd_op h x s _
     ·split
      ·exact bd_iLet h x s
      ·split
       ·exact bd_sIf h x s
       ·split
        ·exact bd_iCase h x s
        ·exact bd_same _ _
theorem bd_sC : ∀ n, Bd (sC n)
 | 0 => fun x s => bd_same s x.sz
 | n + 1 => (bd_sC n).sCore
theorem bd_iC : ∀ n, Bd (iC n)
 | 0 => fun x s => bd_same s x.sz
 | n + 1 => (bd_iC n).iCore
/-- both states are the same, or both failed -/
def Rl (t u : CS) : Prop := u = t ∨ (t.bad = true ∧ u.bad = true)
structure Ag (S I : Rec) : Prop where
 rl : ∀ x s, s.bad = false → Rl (S x s) (I x s)
 slots : ∀ x s, (S x s).slots = s.slots
 sbad : ∀ x s, s.bad = true → (S x s).bad = true
 ibad : ∀ x s, s.bad = true → (I x s).bad = true
theorem Ag.step {S I : Rec} (h : Ag S I) (x : TCore) {t u : CS} (r : Rl t u) : Rl (S x t) (I x u) := by
 rcases r with rfl | ⟨h1, h2⟩
 ·cases hb : u.bad with
  | false => exact h.rl x u hb
  | true => exact .inr ⟨h.sbad x u hb, h.ibad x u hb⟩
 ·exact .inr ⟨h.sbad x t h1, h.ibad x u h2⟩
theorem Rl.add {t u : CS} (r : Rl t u) (x : TInstr) : Rl (t.add x) (u.add x) := by
 rcases r with rfl | r
 ·exact .inl rfl
 ·exact .inr r
theorem Rl.patch {t u : CS} (r : Rl t u) (k j : Nat) (hk : u = t → k = j) : Rl (t.patch k) (u.patch j) := by
 rcases r with rfl | r
 ·rw [hk rfl]; exact .inl rfl
 ·exact .inr r
theorem Rl.put {t u : CS} (r : Rl t u) (k j : List ByteArray) (hk : u = t → k = j) : Rl (t.put k) (u.put j) := by
 rcases r with rfl | r
 ·rw [hk rfl]; exact .inl rfl
 ·exact .inr r
theorem ends_bad : ∀ (l : List Nat) (s : CS), (cEnds l s).bad = s.bad
 | [], s => rfl
 | k :: l, s => by rw [cEnds_cons, ends_bad l (s.patch k), CS.patch_bad]
theorem ag_args {S I : Rec} (h : Ag S I) : ∀ (l : List TCore) (t u : CS), Rl t u → Rl (cArgs S l t) (cArgs I l u)
 | [], _, _, r => r
 | x :: l, _, _, r => ag_args h l _ _ (h.step x r)
theorem ag_argsB {S I : Rec} (h : Ag S I) : ∀ (l : List TCore) (t : CS), t.bad = true → (cArgs S l t).bad = true
 | [], _, r => r
 | x :: l, t, r => ag_argsB h l _ (h.sbad x t r)
theorem ag_argsS {S I : Rec} (h : Ag S I) : ∀ (l : List TCore) (t : CS), (cArgs S l t).slots = t.slots
 | [], _ => rfl
 | x :: l, t => by rw [cArgs_cons, ag_argsS h l, h.slots]
theorem ag_sArm {S I : Rec} (h : Ag S I) (a : TCoreArm) (s : CS) : (sArm S a s).slots = s.slots ∧ (s.bad = true → (sArm S a s).bad = true) := by
 unfold sArm
 rw [CS.add_slots, CS.add_slots, CS.put_slots, h.slots, CS.put_slots, List.take_left]
 exact ⟨rfl, fun hb => h.sbad _ _ hb⟩
theorem ag_sArms {S I : Rec} (h : Ag S I) : ∀ (l : List TCoreArm) (e : List Nat) (s : CS), (sArms S l e s).2.slots = s.slots ∧ (s.bad = true → (sArms S l e s).2.bad = true)
 | [], e, s => ⟨rfl, id⟩
 | a :: l, e, s => by
  have h1 := ag_sArm h a s
  rw [sArms]
  have h2 := ag_sArms h l (e ++ [(sArm S a s).list.length - 1]) (if l = [] then sArm S a s else (sArm S a s).patch s.list.length)
  have h3 : (if l = [] then sArm S a s else (sArm S a s).patch s.list.length).bad = (sArm S a s).bad := by split <;> rfl
  have h4 : (if l = [] then sArm S a s else (sArm S a s).patch s.list.length).slots = (sArm S a s).slots := by split <;> rfl
  rw [h3, h4, h1.1] at h2
  exact ⟨h2.1, fun hb => h2.2 (h1.2 hb)⟩
theorem cs_ext {s t : CS} (h1 : s.list = t.list) (h2 : s.slots = t.slots) (h3 : s.bad = t.bad) : s = t := by
 cases s; cases t
 simp only at h1 h2 h3
 subst h1; subst h2; subst h3
 rfl
theorem ag_arm {S I : Rec} (h : Ag S I) (a : TCoreArm) (s : CS) : (iArmB I a s = S a.fBody ((s.add (opTest a)).put (s.slots ++ a.fVars)) ∧ iArm I a s = sArm S a s) ∨ ((iArmB I a s).bad = true ∧ (sArm S a s).bad = true) := by
 have r := h.step a.fBody (t := (s.add (opTest a)).put (s.slots ++ a.fVars)) (.inl rfl)
 have hs := h.slots a.fBody ((s.add (opTest a)).put (s.slots ++ a.fVars))
 rcases r with r | ⟨r1, r2⟩
 ·refine .inl ⟨r, ?_⟩
  unfold iArm iDrop sArm iArmB
  rw [r]
  generalize S a.fBody ((s.add (opTest a)).put (s.slots ++ a.fVars)) = T at *
  rw [CS.put_slots] at hs
  congr 1
  refine cs_ext rfl ?_ rfl
  show List.take (T.slots.length - a.fVars.length) T.slots = List.take s.slots.length T.slots
  rw [hs, List.take_left, List.length_append, Nat.add_sub_cancel, List.take_left]
 ·exact .inr ⟨r2, r1⟩
theorem ag_arms {S I : Rec} (h : Ag S I) : ∀ (l : List TCoreArm) (e : List Nat) (s : CS), (iArms I l e s = (some (sArms S l e s).1, (sArms S l e s).2)) ∨ ((sArms S l e s).2.bad = true ∧ (iArms I l e s).2.bad = true)
 | [], e, s => .inl rfl
 | a :: l, e, s => by
  cases hb : (iArmB I a s).bad with
  | true =>
   right
   rw [iArms_bad I a l e s hb]
   refine ⟨?_, hb⟩
   have hs : (sArm S a s).bad = true := by
    rcases ag_arm h a s with ⟨r1, r2⟩ | r
    ·rw [r1] at hb
     unfold sArm
     exact hb
    ·exact r.2
   rw [sArms]
   refine (ag_sArms h l _ _).2 ?_
   split
   ·exact hs
   ·exact hs
  | false =>
   have r : iArm I a s = sArm S a s := by
    rcases ag_arm h a s with ⟨_, r⟩ | r
    ·exact r
    ·rw [r.1] at hb; cases hb
   rw [iArms, if_neg (by simp [hb]), r, sArms]
   exact ag_arms h l _ _
theorem ag_iArmsB {S I : Rec} (h : Ag S I) (l : List TCoreArm) (e : List Nat) (s : CS) (hb : s.bad = true) : (iArms I l e s).2.bad = true := by
 cases l with
 | nil => exact hb
 | cons a l =>
  have : (iArmB I a s).bad = true := h.ibad _ _ hb
  rw [iArms_bad I a l e s this]
  exact this
theorem iCase_bad {I : Rec} {x : TCore} {s : CS} (h : (iArms I x.fArms [] s).2.bad = true) : (iCase I x s).bad = true := by
 unfold iCase
 generalize iArms I x.fArms [] s = p at *
 obtain ⟨o, t⟩ := p
 cases o with
 | none => exact h
 | some e => exact (ends_bad e t).trans h
theorem ag_case {S I : Rec} (h : Ag S I) (x : TCore) {t u : CS} (r : Rl t u) : Rl (sCase S x t) (iCase I x u) := by
 rcases r with rfl | ⟨r1, r2⟩
 ·rcases ag_arms h x.fArms [] u with r | ⟨r1, r2⟩
  ·left
   unfold iCase sCase
   rw [r]
  ·right
   refine ⟨?_, iCase_bad r2⟩
   unfold sCase
   rw [ends_bad]
   exact r1
 ·right
  refine ⟨?_, iCase_bad (ag_iArmsB h _ _ _ r2)⟩
  unfold sCase
  rw [ends_bad]
  exact (ag_sArms h _ _ _).2 r1
theorem ag_if {S I : Rec} (h : Ag S I) (x : TCore) (s : CS) : Rl (sIf S x s) (sIf I x s) ∧ (sIf S x s).slots = s.slots ∧ (s.bad = true → (sIf S x s).bad = true) := by
 unfold sIf
 split
 ·rename_i a b c he
  have r1 := h.step a (.inl rfl : Rl s s)
  have r2 := h.step b (r1.add (opOne 11))
  have r3 := (r2.add (opOne 10))
  refine ⟨?_, ?_, ?_⟩
  ·rcases r1 with r1 | ⟨b1, b2⟩
   ·rw [r1] at r2 r3 ⊢
    rcases r2 with r2 | ⟨b1, b2⟩
    ·rw [r2] at r3 ⊢
     exact (h.step c (.inl rfl)).patch _ _ (fun _ => rfl)
    ·exact .inr ⟨h.sbad _ _ b1, h.ibad _ _ b2⟩
   ·exact .inr ⟨h.sbad _ _ (h.sbad _ _ b1), h.ibad _ _ (h.ibad _ _ b2)⟩
  ·rw [CS.patch_slots, h.slots, CS.patch_slots, CS.add_slots, h.slots, CS.add_slots, h.slots]
  ·intro hb
   exact h.sbad _ _ (h.sbad _ _ (h.sbad _ _ hb))
 ·exact ⟨.inl rfl, rfl, fun _ => rfl⟩
theorem ag_let {S I : Rec} (h : Ag S I) (x : TCore) (s : CS) : Rl (sLet S x s) (iLet I x s) ∧ (sLet S x s).slots = s.slots ∧ (s.bad = true → (sLet S x s).bad = true) := by
 unfold sLet iLet
 split
 ·rename_i a b he
  have r1 := h.step a (.inl rfl : Rl s s)
  refine ⟨?_, ?_, ?_⟩
  ·rcases r1 with r1 | ⟨b1, b2⟩
   ·rw [r1]
    have r2 := h.step b (t := ((S a s).add (opOne 4)).put ((S a s).slots ++ [x.fName])) (.inl rfl)
    have hs := h.slots b (((S a s).add (opOne 4)).put ((S a s).slots ++ [x.fName]))
    rcases r2 with r2 | ⟨b1, b2⟩
    ·rw [r2]
     left
     generalize S b (((S a s).add (opOne 4)).put ((S a s).slots ++ [x.fName])) = T at *
     rw [CS.put_slots] at hs
     unfold iDrop
     refine cs_ext rfl ?_ rfl
     show List.take (T.slots.length - 1) T.slots = List.take (S a s).slots.length T.slots
     rw [hs, List.take_left, List.length_append, List.length_singleton, Nat.add_sub_cancel, List.take_left]
    ·exact .inr ⟨b1, b2⟩
   ·exact .inr ⟨h.sbad _ _ b1, h.ibad _ _ b2⟩
  ·rw [CS.add_slots, CS.put_slots, h.slots, h.slots, CS.put_slots, List.take_left]
  ·intro hb
   exact h.sbad _ _ (h.sbad _ _ hb)
 ·exact ⟨.inl rfl, rfl, fun _ => rfl⟩
theorem ag_var (n : ByteArray) (s : CS) : Rl (sVar n s) (iVar n s) ∧ (sVar n s).slots = s.slots ∧ (s.bad = true → (sVar n s).bad = true) := by
 unfold sVar iVar
 split
 ·exact ⟨.inl rfl, rfl, id⟩
 ·exact ⟨.inr ⟨rfl, rfl⟩, rfl, fun _ => rfl⟩
theorem Ag.core {S I : Rec} (h : Ag S I) : Ag (sCore S) (iCore I) := by
 refine ⟨fun x s hb => ?_, fun x s => ?_, fun x s hb => ?_, fun x s hb => ?_⟩
 ·unfold sCore iCore
  rw [if_neg (show ¬ s.bad = true by simp [hb])]
  split
  ·exact .inl rfl
  ·split
   ·exact .inl rfl
   ·split
    ·exact (ag_var _ _).1
    ·by_cases ho : isOp x.fKind
     ·rw [if_pos ho, if_pos ho]
      have h8 : ¬ x.fKind = 8 := fun e => by rw [e] at ho; revert ho; decide
      have h9 : ¬ x.fKind = 9 := fun e => by rw [e] at ho; revert ho; decide
      have h7 : ¬ x.fKind = 7 := fun e => by rw [e] at ho; revert ho; decide
      rw [if_neg h8, if_neg h9, if_neg h7]
      exact (ag_args h x.fArgs s s (.inl rfl)).add _
     ·rw [if_neg ho, if_neg ho]
      split
      ·exact (ag_let h x s).1
      ·split
       ·exact (ag_if h x s).1
       ·split
        ·exact ag_case h x (ag_args h x.fArgs s s (.inl rfl))
        ·exact .inl rfl
 ·unfold sCore
  split
  ·rfl
  ·split
   ·rfl
   ·split
    ·exact (ag_var _ _).2.1
    ·split
     ·exact (ag_let h x s).2.1
     ·split
      ·exact (ag_if h x s).2.1
      ·split
       ·unfold sCase
        rw [(bd_ends _ _).2, (ag_sArms h _ _ _).1, ag_argsS h]
       ·split
        ·rw [CS.add_slots, ag_argsS h]
        ·rfl
 ·unfold sCore
  split
  ·exact hb
  ·split
   ·exact hb
   ·split
    ·exact (ag_var _ _).2.2 hb
    ·split
     ·exact (ag_let h x s).2.2 hb
     ·split
      ·exact (ag_if h x s).2.2 hb
      ·split
       ·unfold sCase
        rw [ends_bad]
        exact (ag_sArms h _ _ _).2 (ag_argsB h _ _ hb)
       ·split
        ·exact ag_argsB h _ _ hb
        ·rfl
 ·unfold iCore
  rw [if_pos hb]
  exact hb
theorem ag_C : ∀ n, Ag (sC n) (iC n)
 | 0 => ⟨fun _ _ _ => .inl rfl, fun _ _ => rfl, fun _ _ h => h, fun _ _ h => h⟩
 | n + 1 => (ag_C n).core
end Go.Proofs.YtkmiecgcibjkbaaGreat
