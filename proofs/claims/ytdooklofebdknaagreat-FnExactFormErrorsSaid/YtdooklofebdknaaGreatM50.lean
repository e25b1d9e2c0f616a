/- Marks by the memory's shape. No condition but sizes. -/
import Derived.Test.YtdooklofebdknaaGreatM49
namespace Go.Proofs.YtdooklofebdknaaGreat
open Go.RowKit
theorem TProgram.flat (x : TProgram) : x.enc = .st [(.sl (x.fPackages.map TPackage.enc))] := by
 simp only [TProgram.enc_eq]
theorem TProgram.cnt_flat (x : TProgram) : mct x.enc = cnts (x.fPackages.map TPackage.enc) := by
 rw [TProgram.flat]
 simp only [mct, cnts, Nat.add_zero]
theorem TSignature.flat (x : TSignature) : x.enc = .st [encS x.fName, (.sl (x.fParams.map TType.enc)), .st [encI x.fResult.fKind, encS x.fResult.fName, (.sl (x.fResult.fArgs.map TType.enc))], encB x.fHasDefault, (.sl (x.fVars.map encS)), .st [encI x.fBody.fKind, encS x.fBody.fTrait, encS x.fBody.fName, encI x.fBody.fN, .st [encI x.fBody.fType.fKind, encS x.fBody.fType.fName, (.sl (x.fBody.fType.fArgs.map TType.enc))], (.sl (x.fBody.fArgs.map TExpr.enc)), (.sl (x.fBody.fArms.map TArm.enc))]] := by
 simp only [TSignature.enc_eq, TType.enc_eq, TExpr.enc_eq]
theorem TSignature.cnt_flat (x : TSignature) : mct x.enc = 1 + cnts (x.fParams.map TType.enc) + 1 + 1 + cnts (x.fResult.fArgs.map TType.enc) + 1 + cnts (x.fVars.map encS) + 1 + 1 + 1 + 1 + 1 + 1 + cnts (x.fBody.fType.fArgs.map TType.enc) + cnts (x.fBody.fArgs.map TExpr.enc) + cnts (x.fBody.fArms.map TArm.enc) := by
 rw [TSignature.flat]
 simp only [encI, encS, encB, mct, cnts]
 omega
theorem TExpr.flat (x : TExpr) : x.enc = .st [encI x.fKind, encS x.fTrait, encS x.fName, encI x.fN, .st [encI x.fType.fKind, encS x.fType.fName, (.sl (x.fType.fArgs.map TType.enc))], (.sl (x.fArgs.map TExpr.enc)), (.sl (x.fArms.map TArm.enc))] := by
 simp only [TExpr.enc_eq, TType.enc_eq]
theorem TExpr.cnt_flat (x : TExpr) : mct x.enc = 1 + 1 + 1 + 1 + 1 + 1 + cnts (x.fType.fArgs.map TType.enc) + cnts (x.fArgs.map TExpr.enc) + cnts (x.fArms.map TArm.enc) := by
 rw [TExpr.flat]
 simp only [encI, encS, mct, cnts]
 omega
theorem TInstance.flat (x : TInstance) : x.enc = .st [encS x.fTrait, (.sl (x.fVars.map encS)), .st [encI x.fHead.fKind, encS x.fHead.fName, (.sl (x.fHead.fArgs.map TType.enc))], (.sl (x.fWhere.map TBound.enc)), encB x.fDefault, encB x.fHasAssoc, .st [encI x.fAssoc.fKind, encS x.fAssoc.fName, (.sl (x.fAssoc.fArgs.map TType.enc))], (.sl (x.fMethods.map TMethod.enc))] := by
 simp only [TInstance.enc_eq, TType.enc_eq]
theorem TInstance.cnt_flat (x : TInstance) : mct x.enc = 1 + cnts (x.fVars.map encS) + 1 + 1 + cnts (x.fHead.fArgs.map TType.enc) + cnts (x.fWhere.map TBound.enc) + 1 + 1 + 1 + 1 + cnts (x.fAssoc.fArgs.map TType.enc) + cnts (x.fMethods.map TMethod.enc) := by
 rw [TInstance.flat]
 simp only [encI, encS, encB, mct, cnts]
 omega
theorem TMethod.flat (x : TMethod) : x.enc = .st [encS x.fName, (.sl (x.fVars.map encS)), .st [encI x.fBody.fKind, encS x.fBody.fTrait, encS x.fBody.fName, encI x.fBody.fN, .st [encI x.fBody.fType.fKind, encS x.fBody.fType.fName, (.sl (x.fBody.fType.fArgs.map TType.enc))], (.sl (x.fBody.fArgs.map TExpr.enc)), (.sl (x.fBody.fArms.map TArm.enc))]] := by
 simp only [TMethod.enc_eq, TExpr.enc_eq, TType.enc_eq]
theorem TMethod.cnt_flat (x : TMethod) : mct x.enc = 1 + cnts (x.fVars.map encS) + 1 + 1 + 1 + 1 + 1 + 1 + cnts (x.fBody.fType.fArgs.map TType.enc) + cnts (x.fBody.fArgs.map TExpr.enc) + cnts (x.fBody.fArms.map TArm.enc) := by
 rw [TMethod.flat]
 simp only [encI, encS, mct, cnts]
 omega
theorem TConstructor.flat (x : TConstructor) : x.enc = .st [encS x.fName, (.sl (x.fFields.map TType.enc))] := by
 simp only [TConstructor.enc_eq]
theorem TConstructor.cnt_flat (x : TConstructor) : mct x.enc = 1 + cnts (x.fFields.map TType.enc) := by
 rw [TConstructor.flat]
 simp only [encS, mct, cnts]
 omega
theorem TTrait.flat (x : TTrait) : x.enc = .st [encS x.fName, (.sl (x.fSupertraits.map encS)), encB x.fAuto, encB x.fAssoc, (.sl (x.fSignatures.map TSignature.enc))] := by
 simp only [TTrait.enc_eq]
theorem TTrait.cnt_flat (x : TTrait) : mct x.enc = 1 + cnts (x.fSupertraits.map encS) + 1 + 1 + cnts (x.fSignatures.map TSignature.enc) := by
 rw [TTrait.flat]
 simp only [encS, encB, mct, cnts]
 omega
theorem TArm.flat (x : TArm) : x.enc = .st [encS x.fConstructor, (.sl (x.fVars.map encS)), .st [encI x.fBody.fKind, encS x.fBody.fTrait, encS x.fBody.fName, encI x.fBody.fN, .st [encI x.fBody.fType.fKind, encS x.fBody.fType.fName, (.sl (x.fBody.fType.fArgs.map TType.enc))], (.sl (x.fBody.fArgs.map TExpr.enc)), (.sl (x.fBody.fArms.map TArm.enc))]] := by
 simp only [TArm.enc_eq, TExpr.enc_eq, TType.enc_eq]
theorem TArm.cnt_flat (x : TArm) : mct x.enc = 1 + cnts (x.fVars.map encS) + 1 + 1 + 1 + 1 + 1 + 1 + cnts (x.fBody.fType.fArgs.map TType.enc) + cnts (x.fBody.fArgs.map TExpr.enc) + cnts (x.fBody.fArms.map TArm.enc) := by
 rw [TArm.flat]
 simp only [encI, encS, mct, cnts]
 omega
theorem TFunction.flat (x : TFunction) : x.enc = .st [encS x.fName, (.sl (x.fVars.map encS)), (.sl (x.fWhere.map TBound.enc)), (.sl (x.fParams.map TParam.enc)), .st [encI x.fResult.fKind, encS x.fResult.fName, (.sl (x.fResult.fArgs.map TType.enc))], .st [encI x.fBody.fKind, encS x.fBody.fTrait, encS x.fBody.fName, encI x.fBody.fN, .st [encI x.fBody.fType.fKind, encS x.fBody.fType.fName, (.sl (x.fBody.fType.fArgs.map TType.enc))], (.sl (x.fBody.fArgs.map TExpr.enc)), (.sl (x.fBody.fArms.map TArm.enc))]] := by
 simp only [TFunction.enc_eq, TType.enc_eq, TExpr.enc_eq]
theorem TFunction.cnt_flat (x : TFunction) : mct x.enc = 1 + cnts (x.fVars.map encS) + cnts (x.fWhere.map TBound.enc) + cnts (x.fParams.map TParam.enc) + 1 + 1 + cnts (x.fResult.fArgs.map TType.enc) + 1 + 1 + 1 + 1 + 1 + 1 + cnts (x.fBody.fType.fArgs.map TType.enc) + cnts (x.fBody.fArgs.map TExpr.enc) + cnts (x.fBody.fArms.map TArm.enc) := by
 rw [TFunction.flat]
 simp only [encI, encS, mct, cnts]
 omega
theorem TDataType.flat (x : TDataType) : x.enc = .st [encS x.fName, (.sl (x.fVars.map encS)), (.sl (x.fConstructors.map TConstructor.enc))] := by
 simp only [TDataType.enc_eq]
theorem TDataType.cnt_flat (x : TDataType) : mct x.enc = 1 + cnts (x.fVars.map encS) + cnts (x.fConstructors.map TConstructor.enc) := by
 rw [TDataType.flat]
 simp only [encS, mct, cnts]
 omega
theorem TParam.flat (x : TParam) : x.enc = .st [encS x.fName, .st [encI x.fType.fKind, encS x.fType.fName, (.sl (x.fType.fArgs.map TType.enc))]] := by
 simp only [TParam.enc_eq, TType.enc_eq]
theorem TParam.cnt_flat (x : TParam) : mct x.enc = 1 + 1 + 1 + cnts (x.fType.fArgs.map TType.enc) := by
 rw [TParam.flat]
 simp only [encI, encS, mct, cnts]
 omega
theorem TType.flat (x : TType) : x.enc = .st [encI x.fKind, encS x.fName, (.sl (x.fArgs.map TType.enc))] := by
 simp only [TType.enc_eq]
theorem TType.cnt_flat (x : TType) : mct x.enc = 1 + 1 + cnts (x.fArgs.map TType.enc) := by
 rw [TType.flat]
 simp only [encI, encS, mct, cnts]
 omega
theorem TBound.flat (x : TBound) : x.enc = .st [encS x.fTrait, .st [encI x.fType.fKind, encS x.fType.fName, (.sl (x.fType.fArgs.map TType.enc))]] := by
 simp only [TBound.enc_eq, TType.enc_eq]
theorem TBound.cnt_flat (x : TBound) : mct x.enc = 1 + 1 + 1 + cnts (x.fType.fArgs.map TType.enc) := by
 rw [TBound.flat]
 simp only [encI, encS, mct, cnts]
 omega
theorem TPackage.flat (x : TPackage) : x.enc = .st [encS x.fName, (.sl (x.fDeps.map encS)), (.sl (x.fTraits.map TTrait.enc)), (.sl (x.fDataTypes.map TDataType.enc)), (.sl (x.fInstances.map TInstance.enc)), (.sl (x.fFunctions.map TFunction.enc))] := by
 simp only [TPackage.enc_eq]
theorem TPackage.cnt_flat (x : TPackage) : mct x.enc = 1 + cnts (x.fDeps.map encS) + cnts (x.fTraits.map TTrait.enc) + cnts (x.fDataTypes.map TDataType.enc) + cnts (x.fInstances.map TInstance.enc) + cnts (x.fFunctions.map TFunction.enc) := by
 rw [TPackage.flat]
 simp only [encS, mct, cnts]
 omega
theorem infoW3 : (Tryz.prog.info? 3).map (·.size) = some 1 := by kernel_rfl
theorem infoW9 : (Tryz.prog.info? 9).map (·.size) = some 1 := by kernel_rfl
theorem infoW4 : (Tryz.prog.info? 4).map (·.size) = some 1 := by kernel_rfl
set_option maxRecDepth 100000 in
set_option maxHeartbeats 1000000 in
theorem markStringS_w (l : List ByteArray) : MW 73 (l.map encS) := by
 intro Φ v hv w k hM h0 hlim
 obtain ⟨a, cap, rfl, hcp, hm, hE⟩ := hd_open encS_w hv
 unfold maxLen at hm
 have Hlim := Lib.hid hlim; have HM := Lib.hid (MK.mk hM (Kf.refl Φ w)); clear hlim hM hv
 go_enter Tryz.func73, Tryz.ntmps73
 go_wp2
 go_loopw [5, 1] (MWI k (l.map encS) l.length Φ w) (fun i _ _ => l.length - (intOf i).toNat)
 case atStart => exact ⟨0, k, Nat.zero_le _, rfl, rfl, h0, Lib.hid (by simp only [List.take_zero, cnts]; omega), HM⟩
 case round =>
  clear HM; obtain ⟨n, c, hn, rfl, rfl, hc0, Hc, Hk⟩ := hrel
  by_cases hlt : n < l.length
  ·obtain ⟨b, off, rfl, h⟩ := hE n hlt
   obtain ⟨hM, hN⟩ := held_cnt hlt Hc.out Hlim.out
   clear hE Hc Hlim; generalize l[n] = x at *
   rw [cntS_flat] at hM hN; have HN := Lib.hid hN; clear hN
   simp only [encS, Ph_lf, Nat.mul_one] at h; have P0 := Lib.hid h; clear h
   go_wp2_with fail
   refine (mkt Hk (by omega)).mono ?_; rintro _ w1 ⟨rfl, Hk⟩
   go_wp2_with (with_reducible refine stF rfl 9 _ _ rfl _ _ rfl _ rfl infoW9 rfl Hk P0 (by omega) ?_); intro w2 Hk
   go_wp2
   go_roundw
   case rel => exact ⟨n + 1, _, hlt, by go_num, rfl, by omega, Lib.hid (by have := HN.out; omega), Hk⟩
   case measure => simp [intOf]; omega
  ·obtain rfl : n = l.length := by omega
   have HE := Lib.hid Hc.out; rw [List.take_of_length_le (by simp)] at HE
   go_wp2
   go_ret
   exact ⟨ret_int HE.out, Hk⟩
def MWTypeS (N : Nat) : Prop := ∀ (l : List TType), SizeOf.sizeOf l < N → MW 132 (l.map TType.enc)
set_option maxRecDepth 100000 in
set_option maxHeartbeats 1000000 in
theorem stepMWTypeS (N : Nat) (iMWTypeS : MWTypeS N) : MWTypeS (N + 1) := by
 intro l hN Φ v hv w k hM h0 hlim
 obtain ⟨a, cap, rfl, hcp, hm, hE⟩ := hd_open TType.width hv
 unfold maxLen at hm
 have Hlim := Lib.hid hlim; have HM := Lib.hid (MK.mk hM (Kf.refl Φ w)); clear hlim hM hv
 go_enter Tryz.func132, Tryz.ntmps132
 go_wp2
 go_loopw [5, 1] (MWI k (l.map TType.enc) l.length Φ w) (fun i _ _ => l.length - (intOf i).toNat)
 case atStart => exact ⟨0, k, Nat.zero_le _, rfl, rfl, h0, Lib.hid (by simp only [List.take_zero, cnts]; omega), HM⟩
 case round =>
  clear HM; obtain ⟨n, c, hn, rfl, rfl, hc0, Hc, Hk⟩ := hrel
  by_cases hlt : n < l.length
  ·obtain ⟨b, off, rfl, h⟩ := hE n hlt
   obtain ⟨hM, hN⟩ := held_cnt hlt Hc.out Hlim.out
   have hz : SizeOf.sizeOf l[n] < SizeOf.sizeOf l := List.sizeOf_lt_of_mem (List.getElem_mem hlt)
   clear hE Hc Hlim; generalize l[n] = x at *
   rw [TType.cnt_flat] at hM hN; have HN := Lib.hid hN; clear hN
   rw [TType.flat] at h; replace h := Ph_st.1 h
   obtain ⟨P0, h⟩ := PL h
   obtain ⟨P1, h⟩ := PL h
   obtain ⟨c2, P2, Q2, h⟩ := PS h
   clear h
   go_wp2_with (with_reducible refine stF rfl 3 _ _ rfl _ _ rfl _ rfl infoW3 rfl Hk P0 (by omega) ?_); intro w1 Hk
   go_wp2_with fail
   refine (mkt Hk (by omega)).mono ?_; rintro _ w2 ⟨rfl, Hk⟩
   go_wp2_with (with_reducible refine stF rfl 9 _ _ rfl _ _ rfl _ rfl infoW9 rfl Hk P1 (by omega) ?_); intro w3 Hk
   have g := mkg Hk P2 (show off + n * 3 + 2 = _ by omega)
   go_wp2_with fail
   refine (mkc (iMWTypeS x.fArgs (by have := TType.lt_fArgs x; omega)) Q2 Hk (by omega) (by omega)).mono ?_; clear g; rintro _ w4 ⟨rfl, Hk⟩
   go_wp2
   go_roundw
   case rel => exact ⟨n + 1, _, hlt, by go_num, rfl, by omega, Lib.hid (by have := HN.out; omega), Hk⟩
   case measure => simp [intOf]; omega
  ·obtain rfl : n = l.length := by omega
   have HE := Lib.hid Hc.out; rw [List.take_of_length_le (by simp)] at HE
   go_wp2
   go_ret
   exact ⟨ret_int HE.out, Hk⟩
theorem MWTypeS_all : ∀ N : Nat, MWTypeS N
 | 0 => fun _ h => absurd h (Nat.not_lt_zero _)
 | N + 1 => by
  have i0 := MWTypeS_all N
  exact stepMWTypeS N i0
theorem markTypeS_w (l : List TType) : MW 132 (l.map TType.enc) := (MWTypeS_all (SizeOf.sizeOf l + 1)) l (Nat.lt_succ_self _)
def MWArmS (N : Nat) : Prop := ∀ (l : List TArm), SizeOf.sizeOf l < N → MW 137 (l.map TArm.enc)
def MWExprS (N : Nat) : Prop := ∀ (l : List TExpr), SizeOf.sizeOf l < N → MW 136 (l.map TExpr.enc)
set_option maxRecDepth 100000 in
set_option maxHeartbeats 1000000 in
theorem stepMWArmS (N : Nat) (iMWArmS : MWArmS N) (iMWExprS : MWExprS N) : MWArmS (N + 1) := by
 intro l hN Φ v hv w k hM h0 hlim
 obtain ⟨a, cap, rfl, hcp, hm, hE⟩ := hd_open TArm.width hv
 unfold maxLen at hm
 have Hlim := Lib.hid hlim; have HM := Lib.hid (MK.mk hM (Kf.refl Φ w)); clear hlim hM hv
 go_enter Tryz.func137, Tryz.ntmps137
 go_wp2
 go_loopw [5, 1] (MWI k (l.map TArm.enc) l.length Φ w) (fun i _ _ => l.length - (intOf i).toNat)
 case atStart => exact ⟨0, k, Nat.zero_le _, rfl, rfl, h0, Lib.hid (by simp only [List.take_zero, cnts]; omega), HM⟩
 case round =>
  clear HM; obtain ⟨n, c, hn, rfl, rfl, hc0, Hc, Hk⟩ := hrel
  by_cases hlt : n < l.length
  ·obtain ⟨b, off, rfl, h⟩ := hE n hlt
   obtain ⟨hM, hN⟩ := held_cnt hlt Hc.out Hlim.out
   have hz : SizeOf.sizeOf l[n] < SizeOf.sizeOf l := List.sizeOf_lt_of_mem (List.getElem_mem hlt)
   clear hE Hc Hlim; generalize l[n] = x at *
   rw [TArm.cnt_flat] at hM hN; have HN := Lib.hid hN; clear hN
   rw [TArm.flat] at h; replace h := Ph_st.1 h
   obtain ⟨P0, h⟩ := PL h
   obtain ⟨c1, P1, Q1, h⟩ := PS h
   replace h := PT h
   obtain ⟨P2, h⟩ := PL h
   obtain ⟨P3, h⟩ := PL h
   obtain ⟨P4, h⟩ := PL h
   obtain ⟨P5, h⟩ := PL h
   replace h := PT h
   obtain ⟨P6, h⟩ := PL h
   obtain ⟨P7, h⟩ := PL h
   obtain ⟨c8, P8, Q8, h⟩ := PS h
   obtain ⟨c9, P9, Q9, h⟩ := PS h
   obtain ⟨c10, P10, Q10, h⟩ := PS h
   clear h
   go_wp2_with fail
   refine (mkt Hk (by omega)).mono ?_; rintro _ w1 ⟨rfl, Hk⟩
   go_wp2_with (with_reducible refine stF rfl 9 _ _ rfl _ _ rfl _ rfl infoW9 rfl Hk P0 (by omega) ?_); intro w2 Hk
   have g := mkg Hk P1 (show off + n * 11 + 1 = _ by omega)
   go_wp2_with fail
   refine (mkc (markStringS_w x.fVars) Q1 Hk (by omega) (by omega)).mono ?_; clear g; rintro _ w3 ⟨rfl, Hk⟩
   go_wp2_with (with_reducible refine stF rfl 3 _ _ rfl _ _ rfl _ rfl infoW3 rfl Hk P2 (by omega) ?_); intro w4 Hk
   go_wp2_with fail
   refine (mkt Hk (by omega)).mono ?_; rintro _ w5 ⟨rfl, Hk⟩
   go_wp2_with (with_reducible refine stF rfl 9 _ _ rfl _ _ rfl _ rfl infoW9 rfl Hk P3 (by omega) ?_); intro w6 Hk
   go_wp2_with fail
   refine (mkt Hk (by omega)).mono ?_; rintro _ w7 ⟨rfl, Hk⟩
   go_wp2_with (with_reducible refine stF rfl 9 _ _ rfl _ _ rfl _ rfl infoW9 rfl Hk P4 (by omega) ?_); intro w8 Hk
   go_wp2_with (with_reducible refine stF rfl 3 _ _ rfl _ _ rfl _ rfl infoW3 rfl Hk P5 (by omega) ?_); intro w9 Hk
   go_wp2_with (with_reducible refine stF rfl 3 _ _ rfl _ _ rfl _ rfl infoW3 rfl Hk P6 (by omega) ?_); intro w10 Hk
   go_wp2_with fail
   refine (mkt Hk (by omega)).mono ?_; rintro _ w11 ⟨rfl, Hk⟩
   go_wp2_with (with_reducible refine stF rfl 9 _ _ rfl _ _ rfl _ rfl infoW9 rfl Hk P7 (by omega) ?_); intro w12 Hk
   have g := mkg Hk P8 (show off + n * 11 + 8 = _ by omega)
   go_wp2_with fail
   refine (mkc (markTypeS_w x.fBody.fType.fArgs) Q8 Hk (by omega) (by omega)).mono ?_; clear g; rintro _ w13 ⟨rfl, Hk⟩
   have g := mkg Hk P9 (show off + n * 11 + 9 = _ by omega)
   go_wp2_with fail
   refine (mkc (iMWExprS x.fBody.fArgs (by have := TArm.lt_fBody x; have := TExpr.lt_fArgs x.fBody; omega)) Q9 Hk (by omega) (by omega)).mono ?_; clear g; rintro _ w14 ⟨rfl, Hk⟩
   have g := mkg Hk P10 (show off + n * 11 + 10 = _ by omega)
   go_wp2_with fail
   refine (mkc (iMWArmS x.fBody.fArms (by have := TArm.lt_fBody x; have := TExpr.lt_fArms x.fBody; omega)) Q10 Hk (by omega) (by omega)).mono ?_; clear g; rintro _ w15 ⟨rfl, Hk⟩
   go_wp2
   go_roundw
   case rel => exact ⟨n + 1, _, hlt, by go_num, rfl, by omega, Lib.hid (by have := HN.out; omega), Hk⟩
   case measure => simp [intOf]; omega
  ·obtain rfl : n = l.length := by omega
   have HE := Lib.hid Hc.out; rw [List.take_of_length_le (by simp)] at HE
   go_wp2
   go_ret
   exact ⟨ret_int HE.out, Hk⟩
set_option maxRecDepth 100000 in
set_option maxHeartbeats 1000000 in
theorem stepMWExprS (N : Nat) (iMWArmS : MWArmS N) (iMWExprS : MWExprS N) : MWExprS (N + 1) := by
 intro l hN Φ v hv w k hM h0 hlim
 obtain ⟨a, cap, rfl, hcp, hm, hE⟩ := hd_open TExpr.width hv
 unfold maxLen at hm
 have Hlim := Lib.hid hlim; have HM := Lib.hid (MK.mk hM (Kf.refl Φ w)); clear hlim hM hv
 go_enter Tryz.func136, Tryz.ntmps136
 go_wp2
 go_loopw [5, 1] (MWI k (l.map TExpr.enc) l.length Φ w) (fun i _ _ => l.length - (intOf i).toNat)
 case atStart => exact ⟨0, k, Nat.zero_le _, rfl, rfl, h0, Lib.hid (by simp only [List.take_zero, cnts]; omega), HM⟩
 case round =>
  clear HM; obtain ⟨n, c, hn, rfl, rfl, hc0, Hc, Hk⟩ := hrel
  by_cases hlt : n < l.length
  ·obtain ⟨b, off, rfl, h⟩ := hE n hlt
   obtain ⟨hM, hN⟩ := held_cnt hlt Hc.out Hlim.out
   have hz : SizeOf.sizeOf l[n] < SizeOf.sizeOf l := List.sizeOf_lt_of_mem (List.getElem_mem hlt)
   clear hE Hc Hlim; generalize l[n] = x at *
   rw [TExpr.cnt_flat] at hM hN; have HN := Lib.hid hN; clear hN
   rw [TExpr.flat] at h; replace h := Ph_st.1 h
   obtain ⟨P0, h⟩ := PL h
   obtain ⟨P1, h⟩ := PL h
   obtain ⟨P2, h⟩ := PL h
   obtain ⟨P3, h⟩ := PL h
   replace h := PT h
   obtain ⟨P4, h⟩ := PL h
   obtain ⟨P5, h⟩ := PL h
   obtain ⟨c6, P6, Q6, h⟩ := PS h
   obtain ⟨c7, P7, Q7, h⟩ := PS h
   obtain ⟨c8, P8, Q8, h⟩ := PS h
   clear h
   go_wp2_with (with_reducible refine stF rfl 3 _ _ rfl _ _ rfl _ rfl infoW3 rfl Hk P0 (by omega) ?_); intro w1 Hk
   go_wp2_with fail
   refine (mkt Hk (by omega)).mono ?_; rintro _ w2 ⟨rfl, Hk⟩
   go_wp2_with (with_reducible refine stF rfl 9 _ _ rfl _ _ rfl _ rfl infoW9 rfl Hk P1 (by omega) ?_); intro w3 Hk
   go_wp2_with fail
   refine (mkt Hk (by omega)).mono ?_; rintro _ w4 ⟨rfl, Hk⟩
   go_wp2_with (with_reducible refine stF rfl 9 _ _ rfl _ _ rfl _ rfl infoW9 rfl Hk P2 (by omega) ?_); intro w5 Hk
   go_wp2_with (with_reducible refine stF rfl 3 _ _ rfl _ _ rfl _ rfl infoW3 rfl Hk P3 (by omega) ?_); intro w6 Hk
   go_wp2_with (with_reducible refine stF rfl 3 _ _ rfl _ _ rfl _ rfl infoW3 rfl Hk P4 (by omega) ?_); intro w7 Hk
   go_wp2_with fail
   refine (mkt Hk (by omega)).mono ?_; rintro _ w8 ⟨rfl, Hk⟩
   go_wp2_with (with_reducible refine stF rfl 9 _ _ rfl _ _ rfl _ rfl infoW9 rfl Hk P5 (by omega) ?_); intro w9 Hk
   have g := mkg Hk P6 (show off + n * 9 + 6 = _ by omega)
   go_wp2_with fail
   refine (mkc (markTypeS_w x.fType.fArgs) Q6 Hk (by omega) (by omega)).mono ?_; clear g; rintro _ w10 ⟨rfl, Hk⟩
   have g := mkg Hk P7 (show off + n * 9 + 7 = _ by omega)
   go_wp2_with fail
   refine (mkc (iMWExprS x.fArgs (by have := TExpr.lt_fArgs x; omega)) Q7 Hk (by omega) (by omega)).mono ?_; clear g; rintro _ w11 ⟨rfl, Hk⟩
   have g := mkg Hk P8 (show off + n * 9 + 8 = _ by omega)
   go_wp2_with fail
   refine (mkc (iMWArmS x.fArms (by have := TExpr.lt_fArms x; omega)) Q8 Hk (by omega) (by omega)).mono ?_; clear g; rintro _ w12 ⟨rfl, Hk⟩
   go_wp2
   go_roundw
   case rel => exact ⟨n + 1, _, hlt, by go_num, rfl, by omega, Lib.hid (by have := HN.out; omega), Hk⟩
   case measure => simp [intOf]; omega
  ·obtain rfl : n = l.length := by omega
   have HE := Lib.hid Hc.out; rw [List.take_of_length_le (by simp)] at HE
   go_wp2
   go_ret
   exact ⟨ret_int HE.out, Hk⟩
theorem MWArmS_all : ∀ N : Nat, MWArmS N ∧ MWExprS N
 | 0 => ⟨fun _ h => absurd h (Nat.not_lt_zero _), fun _ h => absurd h (Nat.not_lt_zero _)⟩
 | N + 1 => by
  obtain ⟨i0, i1⟩ := MWArmS_all N
  exact ⟨stepMWArmS N i0 i1, stepMWExprS N i0 i1⟩
theorem markArmS_w (l : List TArm) : MW 137 (l.map TArm.enc) := (MWArmS_all (SizeOf.sizeOf l + 1)).1 l (Nat.lt_succ_self _)
theorem markExprS_w (l : List TExpr) : MW 136 (l.map TExpr.enc) := (MWArmS_all (SizeOf.sizeOf l + 1)).2 l (Nat.lt_succ_self _)
set_option maxRecDepth 100000 in
set_option maxHeartbeats 1000000 in
theorem markBoundS_w (l : List TBound) : MW 133 (l.map TBound.enc) := by
 intro Φ v hv w k hM h0 hlim
 obtain ⟨a, cap, rfl, hcp, hm, hE⟩ := hd_open TBound.width hv
 unfold maxLen at hm
 have Hlim := Lib.hid hlim; have HM := Lib.hid (MK.mk hM (Kf.refl Φ w)); clear hlim hM hv
 go_enter Tryz.func133, Tryz.ntmps133
 go_wp2
 go_loopw [5, 1] (MWI k (l.map TBound.enc) l.length Φ w) (fun i _ _ => l.length - (intOf i).toNat)
 case atStart => exact ⟨0, k, Nat.zero_le _, rfl, rfl, h0, Lib.hid (by simp only [List.take_zero, cnts]; omega), HM⟩
 case round =>
  clear HM; obtain ⟨n, c, hn, rfl, rfl, hc0, Hc, Hk⟩ := hrel
  by_cases hlt : n < l.length
  ·obtain ⟨b, off, rfl, h⟩ := hE n hlt
   obtain ⟨hM, hN⟩ := held_cnt hlt Hc.out Hlim.out
   clear hE Hc Hlim; generalize l[n] = x at *
   rw [TBound.cnt_flat] at hM hN; have HN := Lib.hid hN; clear hN
   rw [TBound.flat] at h; replace h := Ph_st.1 h
   obtain ⟨P0, h⟩ := PL h
   replace h := PT h
   obtain ⟨P1, h⟩ := PL h
   obtain ⟨P2, h⟩ := PL h
   obtain ⟨c3, P3, Q3, h⟩ := PS h
   clear h
   go_wp2_with fail
   refine (mkt Hk (by omega)).mono ?_; rintro _ w1 ⟨rfl, Hk⟩
   go_wp2_with (with_reducible refine stF rfl 9 _ _ rfl _ _ rfl _ rfl infoW9 rfl Hk P0 (by omega) ?_); intro w2 Hk
   go_wp2_with (with_reducible refine stF rfl 3 _ _ rfl _ _ rfl _ rfl infoW3 rfl Hk P1 (by omega) ?_); intro w3 Hk
   go_wp2_with fail
   refine (mkt Hk (by omega)).mono ?_; rintro _ w4 ⟨rfl, Hk⟩
   go_wp2_with (with_reducible refine stF rfl 9 _ _ rfl _ _ rfl _ rfl infoW9 rfl Hk P2 (by omega) ?_); intro w5 Hk
   have g := mkg Hk P3 (show off + n * 4 + 3 = _ by omega)
   go_wp2_with fail
   refine (mkc (markTypeS_w x.fType.fArgs) Q3 Hk (by omega) (by omega)).mono ?_; clear g; rintro _ w6 ⟨rfl, Hk⟩
   go_wp2
   go_roundw
   case rel => exact ⟨n + 1, _, hlt, by go_num, rfl, by omega, Lib.hid (by have := HN.out; omega), Hk⟩
   case measure => simp [intOf]; omega
  ·obtain rfl : n = l.length := by omega
   have HE := Lib.hid Hc.out; rw [List.take_of_length_le (by simp)] at HE
   go_wp2
   go_ret
   exact ⟨ret_int HE.out, Hk⟩
set_option maxRecDepth 100000 in
set_option maxHeartbeats 1000000 in
theorem markConstructorS_w (l : List TConstructor) : MW 131 (l.map TConstructor.enc) := by
 intro Φ v hv w k hM h0 hlim
 obtain ⟨a, cap, rfl, hcp, hm, hE⟩ := hd_open TConstructor.width hv
 unfold maxLen at hm
 have Hlim := Lib.hid hlim; have HM := Lib.hid (MK.mk hM (Kf.refl Φ w)); clear hlim hM hv
 go_enter Tryz.func131, Tryz.ntmps131
 go_wp2
 go_loopw [5, 1] (MWI k (l.map TConstructor.enc) l.length Φ w) (fun i _ _ => l.length - (intOf i).toNat)
 case atStart => exact ⟨0, k, Nat.zero_le _, rfl, rfl, h0, Lib.hid (by simp only [List.take_zero, cnts]; omega), HM⟩
 case round =>
  clear HM; obtain ⟨n, c, hn, rfl, rfl, hc0, Hc, Hk⟩ := hrel
  by_cases hlt : n < l.length
  ·obtain ⟨b, off, rfl, h⟩ := hE n hlt
   obtain ⟨hM, hN⟩ := held_cnt hlt Hc.out Hlim.out
   clear hE Hc Hlim; generalize l[n] = x at *
   rw [TConstructor.cnt_flat] at hM hN; have HN := Lib.hid hN; clear hN
   rw [TConstructor.flat] at h; replace h := Ph_st.1 h
   obtain ⟨P0, h⟩ := PL h
   obtain ⟨c1, P1, Q1, h⟩ := PS h
   clear h
   go_wp2_with fail
   refine (mkt Hk (by omega)).mono ?_; rintro _ w1 ⟨rfl, Hk⟩
   go_wp2_with (with_reducible refine stF rfl 9 _ _ rfl _ _ rfl _ rfl infoW9 rfl Hk P0 (by omega) ?_); intro w2 Hk
   have g := mkg Hk P1 (show off + n * 2 + 1 = _ by omega)
   go_wp2_with fail
   refine (mkc (markTypeS_w x.fFields) Q1 Hk (by omega) (by omega)).mono ?_; clear g; rintro _ w3 ⟨rfl, Hk⟩
   go_wp2
   go_roundw
   case rel => exact ⟨n + 1, _, hlt, by go_num, rfl, by omega, Lib.hid (by have := HN.out; omega), Hk⟩
   case measure => simp [intOf]; omega
  ·obtain rfl : n = l.length := by omega
   have HE := Lib.hid Hc.out; rw [List.take_of_length_le (by simp)] at HE
   go_wp2
   go_ret
   exact ⟨ret_int HE.out, Hk⟩
set_option maxRecDepth 100000 in
set_option maxHeartbeats 1000000 in
theorem markDataTypeS_w (l : List TDataType) : MW 75 (l.map TDataType.enc) := by
 intro Φ v hv w k hM h0 hlim
 obtain ⟨a, cap, rfl, hcp, hm, hE⟩ := hd_open TDataType.width hv
 unfold maxLen at hm
 have Hlim := Lib.hid hlim; have HM := Lib.hid (MK.mk hM (Kf.refl Φ w)); clear hlim hM hv
 go_enter Tryz.func75, Tryz.ntmps75
 go_wp2
 go_loopw [5, 1] (MWI k (l.map TDataType.enc) l.length Φ w) (fun i _ _ => l.length - (intOf i).toNat)
 case atStart => exact ⟨0, k, Nat.zero_le _, rfl, rfl, h0, Lib.hid (by simp only [List.take_zero, cnts]; omega), HM⟩
 case round =>
  clear HM; obtain ⟨n, c, hn, rfl, rfl, hc0, Hc, Hk⟩ := hrel
  by_cases hlt : n < l.length
  ·obtain ⟨b, off, rfl, h⟩ := hE n hlt
   obtain ⟨hM, hN⟩ := held_cnt hlt Hc.out Hlim.out
   clear hE Hc Hlim; generalize l[n] = x at *
   rw [TDataType.cnt_flat] at hM hN; have HN := Lib.hid hN; clear hN
   rw [TDataType.flat] at h; replace h := Ph_st.1 h
   obtain ⟨P0, h⟩ := PL h
   obtain ⟨c1, P1, Q1, h⟩ := PS h
   obtain ⟨c2, P2, Q2, h⟩ := PS h
   clear h
   go_wp2_with fail
   refine (mkt Hk (by omega)).mono ?_; rintro _ w1 ⟨rfl, Hk⟩
   go_wp2_with (with_reducible refine stF rfl 9 _ _ rfl _ _ rfl _ rfl infoW9 rfl Hk P0 (by omega) ?_); intro w2 Hk
   have g := mkg Hk P1 (show off + n * 3 + 1 = _ by omega)
   go_wp2_with fail
   refine (mkc (markStringS_w x.fVars) Q1 Hk (by omega) (by omega)).mono ?_; clear g; rintro _ w3 ⟨rfl, Hk⟩
   have g := mkg Hk P2 (show off + n * 3 + 2 = _ by omega)
   go_wp2_with fail
   refine (mkc (markConstructorS_w x.fConstructors) Q2 Hk (by omega) (by omega)).mono ?_; clear g; rintro _ w4 ⟨rfl, Hk⟩
   go_wp2
   go_roundw
   case rel => exact ⟨n + 1, _, hlt, by go_num, rfl, by omega, Lib.hid (by have := HN.out; omega), Hk⟩
   case measure => simp [intOf]; omega
  ·obtain rfl : n = l.length := by omega
   have HE := Lib.hid Hc.out; rw [List.take_of_length_le (by simp)] at HE
   go_wp2
   go_ret
   exact ⟨ret_int HE.out, Hk⟩
set_option maxRecDepth 100000 in
set_option maxHeartbeats 1000000 in
theorem markMethodS_w (l : List TMethod) : MW 134 (l.map TMethod.enc) := by
 intro Φ v hv w k hM h0 hlim
 obtain ⟨a, cap, rfl, hcp, hm, hE⟩ := hd_open TMethod.width hv
 unfold maxLen at hm
 have Hlim := Lib.hid hlim; have HM := Lib.hid (MK.mk hM (Kf.refl Φ w)); clear hlim hM hv
 go_enter Tryz.func134, Tryz.ntmps134
 go_wp2
 go_loopw [5, 1] (MWI k (l.map TMethod.enc) l.length Φ w) (fun i _ _ => l.length - (intOf i).toNat)
 case atStart => exact ⟨0, k, Nat.zero_le _, rfl, rfl, h0, Lib.hid (by simp only [List.take_zero, cnts]; omega), HM⟩
 case round =>
  clear HM; obtain ⟨n, c, hn, rfl, rfl, hc0, Hc, Hk⟩ := hrel
  by_cases hlt : n < l.length
  ·obtain ⟨b, off, rfl, h⟩ := hE n hlt
   obtain ⟨hM, hN⟩ := held_cnt hlt Hc.out Hlim.out
   clear hE Hc Hlim; generalize l[n] = x at *
   rw [TMethod.cnt_flat] at hM hN; have HN := Lib.hid hN; clear hN
   rw [TMethod.flat] at h; replace h := Ph_st.1 h
   obtain ⟨P0, h⟩ := PL h
   obtain ⟨c1, P1, Q1, h⟩ := PS h
   replace h := PT h
   obtain ⟨P2, h⟩ := PL h
   obtain ⟨P3, h⟩ := PL h
   obtain ⟨P4, h⟩ := PL h
   obtain ⟨P5, h⟩ := PL h
   replace h := PT h
   obtain ⟨P6, h⟩ := PL h
   obtain ⟨P7, h⟩ := PL h
   obtain ⟨c8, P8, Q8, h⟩ := PS h
   obtain ⟨c9, P9, Q9, h⟩ := PS h
   obtain ⟨c10, P10, Q10, h⟩ := PS h
   clear h
   go_wp2_with fail
   refine (mkt Hk (by omega)).mono ?_; rintro _ w1 ⟨rfl, Hk⟩
   go_wp2_with (with_reducible refine stF rfl 9 _ _ rfl _ _ rfl _ rfl infoW9 rfl Hk P0 (by omega) ?_); intro w2 Hk
   have g := mkg Hk P1 (show off + n * 11 + 1 = _ by omega)
   go_wp2_with fail
   refine (mkc (markStringS_w x.fVars) Q1 Hk (by omega) (by omega)).mono ?_; clear g; rintro _ w3 ⟨rfl, Hk⟩
   go_wp2_with (with_reducible refine stF rfl 3 _ _ rfl _ _ rfl _ rfl infoW3 rfl Hk P2 (by omega) ?_); intro w4 Hk
   go_wp2_with fail
   refine (mkt Hk (by omega)).mono ?_; rintro _ w5 ⟨rfl, Hk⟩
   go_wp2_with (with_reducible refine stF rfl 9 _ _ rfl _ _ rfl _ rfl infoW9 rfl Hk P3 (by omega) ?_); intro w6 Hk
   go_wp2_with fail
   refine (mkt Hk (by omega)).mono ?_; rintro _ w7 ⟨rfl, Hk⟩
   go_wp2_with (with_reducible refine stF rfl 9 _ _ rfl _ _ rfl _ rfl infoW9 rfl Hk P4 (by omega) ?_); intro w8 Hk
   go_wp2_with (with_reducible refine stF rfl 3 _ _ rfl _ _ rfl _ rfl infoW3 rfl Hk P5 (by omega) ?_); intro w9 Hk
   go_wp2_with (with_reducible refine stF rfl 3 _ _ rfl _ _ rfl _ rfl infoW3 rfl Hk P6 (by omega) ?_); intro w10 Hk
   go_wp2_with fail
   refine (mkt Hk (by omega)).mono ?_; rintro _ w11 ⟨rfl, Hk⟩
   go_wp2_with (with_reducible refine stF rfl 9 _ _ rfl _ _ rfl _ rfl infoW9 rfl Hk P7 (by omega) ?_); intro w12 Hk
   have g := mkg Hk P8 (show off + n * 11 + 8 = _ by omega)
   go_wp2_with fail
   refine (mkc (markTypeS_w x.fBody.fType.fArgs) Q8 Hk (by omega) (by omega)).mono ?_; clear g; rintro _ w13 ⟨rfl, Hk⟩
   have g := mkg Hk P9 (show off + n * 11 + 9 = _ by omega)
   go_wp2_with fail
   refine (mkc (markExprS_w x.fBody.fArgs) Q9 Hk (by omega) (by omega)).mono ?_; clear g; rintro _ w14 ⟨rfl, Hk⟩
   have g := mkg Hk P10 (show off + n * 11 + 10 = _ by omega)
   go_wp2_with fail
   refine (mkc (markArmS_w x.fBody.fArms) Q10 Hk (by omega) (by omega)).mono ?_; clear g; rintro _ w15 ⟨rfl, Hk⟩
   go_wp2
   go_roundw
   case rel => exact ⟨n + 1, _, hlt, by go_num, rfl, by omega, Lib.hid (by have := HN.out; omega), Hk⟩
   case measure => simp [intOf]; omega
  ·obtain rfl : n = l.length := by omega
   have HE := Lib.hid Hc.out; rw [List.take_of_length_le (by simp)] at HE
   go_wp2
   go_ret
   exact ⟨ret_int HE.out, Hk⟩
set_option maxRecDepth 100000 in
set_option maxHeartbeats 1000000 in
theorem markInstanceS_w (l : List TInstance) : MW 76 (l.map TInstance.enc) := by
 intro Φ v hv w k hM h0 hlim
 obtain ⟨a, cap, rfl, hcp, hm, hE⟩ := hd_open TInstance.width hv
 unfold maxLen at hm
 have Hlim := Lib.hid hlim; have HM := Lib.hid (MK.mk hM (Kf.refl Φ w)); clear hlim hM hv
 go_enter Tryz.func76, Tryz.ntmps76
 go_wp2
 go_loopw [5, 1] (MWI k (l.map TInstance.enc) l.length Φ w) (fun i _ _ => l.length - (intOf i).toNat)
 case atStart => exact ⟨0, k, Nat.zero_le _, rfl, rfl, h0, Lib.hid (by simp only [List.take_zero, cnts]; omega), HM⟩
 case round =>
  clear HM; obtain ⟨n, c, hn, rfl, rfl, hc0, Hc, Hk⟩ := hrel
  by_cases hlt : n < l.length
  ·obtain ⟨b, off, rfl, h⟩ := hE n hlt
   obtain ⟨hM, hN⟩ := held_cnt hlt Hc.out Hlim.out
   clear hE Hc Hlim; generalize l[n] = x at *
   rw [TInstance.cnt_flat] at hM hN; have HN := Lib.hid hN; clear hN
   rw [TInstance.flat] at h; replace h := Ph_st.1 h
   obtain ⟨P0, h⟩ := PL h
   obtain ⟨c1, P1, Q1, h⟩ := PS h
   replace h := PT h
   obtain ⟨P2, h⟩ := PL h
   obtain ⟨P3, h⟩ := PL h
   obtain ⟨c4, P4, Q4, h⟩ := PS h
   obtain ⟨c5, P5, Q5, h⟩ := PS h
   obtain ⟨P6, h⟩ := PL h
   obtain ⟨P7, h⟩ := PL h
   replace h := PT h
   obtain ⟨P8, h⟩ := PL h
   obtain ⟨P9, h⟩ := PL h
   obtain ⟨c10, P10, Q10, h⟩ := PS h
   obtain ⟨c11, P11, Q11, h⟩ := PS h
   clear h
   go_wp2_with fail
   refine (mkt Hk (by omega)).mono ?_; rintro _ w1 ⟨rfl, Hk⟩
   go_wp2_with (with_reducible refine stF rfl 9 _ _ rfl _ _ rfl _ rfl infoW9 rfl Hk P0 (by omega) ?_); intro w2 Hk
   have g := mkg Hk P1 (show off + n * 12 + 1 = _ by omega)
   go_wp2_with fail
   refine (mkc (markStringS_w x.fVars) Q1 Hk (by omega) (by omega)).mono ?_; clear g; rintro _ w3 ⟨rfl, Hk⟩
   go_wp2_with (with_reducible refine stF rfl 3 _ _ rfl _ _ rfl _ rfl infoW3 rfl Hk P2 (by omega) ?_); intro w4 Hk
   go_wp2_with fail
   refine (mkt Hk (by omega)).mono ?_; rintro _ w5 ⟨rfl, Hk⟩
   go_wp2_with (with_reducible refine stF rfl 9 _ _ rfl _ _ rfl _ rfl infoW9 rfl Hk P3 (by omega) ?_); intro w6 Hk
   have g := mkg Hk P4 (show off + n * 12 + 4 = _ by omega)
   go_wp2_with fail
   refine (mkc (markTypeS_w x.fHead.fArgs) Q4 Hk (by omega) (by omega)).mono ?_; clear g; rintro _ w7 ⟨rfl, Hk⟩
   have g := mkg Hk P5 (show off + n * 12 + 5 = _ by omega)
   go_wp2_with fail
   refine (mkc (markBoundS_w x.fWhere) Q5 Hk (by omega) (by omega)).mono ?_; clear g; rintro _ w8 ⟨rfl, Hk⟩
   go_wp2_with (with_reducible refine stF rfl 4 _ _ rfl _ _ rfl _ rfl infoW4 rfl Hk P6 (by omega) ?_); intro w9 Hk
   go_wp2_with (with_reducible refine stF rfl 4 _ _ rfl _ _ rfl _ rfl infoW4 rfl Hk P7 (by omega) ?_); intro w10 Hk
   go_wp2_with (with_reducible refine stF rfl 3 _ _ rfl _ _ rfl _ rfl infoW3 rfl Hk P8 (by omega) ?_); intro w11 Hk
   go_wp2_with fail
   refine (mkt Hk (by omega)).mono ?_; rintro _ w12 ⟨rfl, Hk⟩
   go_wp2_with (with_reducible refine stF rfl 9 _ _ rfl _ _ rfl _ rfl infoW9 rfl Hk P9 (by omega) ?_); intro w13 Hk
   have g := mkg Hk P10 (show off + n * 12 + 10 = _ by omega)
   go_wp2_with fail
   refine (mkc (markTypeS_w x.fAssoc.fArgs) Q10 Hk (by omega) (by omega)).mono ?_; clear g; rintro _ w14 ⟨rfl, Hk⟩
   have g := mkg Hk P11 (show off + n * 12 + 11 = _ by omega)
   go_wp2_with fail
   refine (mkc (markMethodS_w x.fMethods) Q11 Hk (by omega) (by omega)).mono ?_; clear g; rintro _ w15 ⟨rfl, Hk⟩
   go_wp2
   go_roundw
   case rel => exact ⟨n + 1, _, hlt, by go_num, rfl, by omega, Lib.hid (by have := HN.out; omega), Hk⟩
   case measure => simp [intOf]; omega
  ·obtain rfl : n = l.length := by omega
   have HE := Lib.hid Hc.out; rw [List.take_of_length_le (by simp)] at HE
   go_wp2
   go_ret
   exact ⟨ret_int HE.out, Hk⟩
set_option maxRecDepth 100000 in
set_option maxHeartbeats 1000000 in
theorem markParamS_w (l : List TParam) : MW 135 (l.map TParam.enc) := by
 intro Φ v hv w k hM h0 hlim
 obtain ⟨a, cap, rfl, hcp, hm, hE⟩ := hd_open TParam.width hv
 unfold maxLen at hm
 have Hlim := Lib.hid hlim; have HM := Lib.hid (MK.mk hM (Kf.refl Φ w)); clear hlim hM hv
 go_enter Tryz.func135, Tryz.ntmps135
 go_wp2
 go_loopw [5, 1] (MWI k (l.map TParam.enc) l.length Φ w) (fun i _ _ => l.length - (intOf i).toNat)
 case atStart => exact ⟨0, k, Nat.zero_le _, rfl, rfl, h0, Lib.hid (by simp only [List.take_zero, cnts]; omega), HM⟩
 case round =>
  clear HM; obtain ⟨n, c, hn, rfl, rfl, hc0, Hc, Hk⟩ := hrel
  by_cases hlt : n < l.length
  ·obtain ⟨b, off, rfl, h⟩ := hE n hlt
   obtain ⟨hM, hN⟩ := held_cnt hlt Hc.out Hlim.out
   clear hE Hc Hlim; generalize l[n] = x at *
   rw [TParam.cnt_flat] at hM hN; have HN := Lib.hid hN; clear hN
   rw [TParam.flat] at h; replace h := Ph_st.1 h
   obtain ⟨P0, h⟩ := PL h
   replace h := PT h
   obtain ⟨P1, h⟩ := PL h
   obtain ⟨P2, h⟩ := PL h
   obtain ⟨c3, P3, Q3, h⟩ := PS h
   clear h
   go_wp2_with fail
   refine (mkt Hk (by omega)).mono ?_; rintro _ w1 ⟨rfl, Hk⟩
   go_wp2_with (with_reducible refine stF rfl 9 _ _ rfl _ _ rfl _ rfl infoW9 rfl Hk P0 (by omega) ?_); intro w2 Hk
   go_wp2_with (with_reducible refine stF rfl 3 _ _ rfl _ _ rfl _ rfl infoW3 rfl Hk P1 (by omega) ?_); intro w3 Hk
   go_wp2_with fail
   refine (mkt Hk (by omega)).mono ?_; rintro _ w4 ⟨rfl, Hk⟩
   go_wp2_with (with_reducible refine stF rfl 9 _ _ rfl _ _ rfl _ rfl infoW9 rfl Hk P2 (by omega) ?_); intro w5 Hk
   have g := mkg Hk P3 (show off + n * 4 + 3 = _ by omega)
   go_wp2_with fail
   refine (mkc (markTypeS_w x.fType.fArgs) Q3 Hk (by omega) (by omega)).mono ?_; clear g; rintro _ w6 ⟨rfl, Hk⟩
   go_wp2
   go_roundw
   case rel => exact ⟨n + 1, _, hlt, by go_num, rfl, by omega, Lib.hid (by have := HN.out; omega), Hk⟩
   case measure => simp [intOf]; omega
  ·obtain rfl : n = l.length := by omega
   have HE := Lib.hid Hc.out; rw [List.take_of_length_le (by simp)] at HE
   go_wp2
   go_ret
   exact ⟨ret_int HE.out, Hk⟩
set_option maxRecDepth 100000 in
set_option maxHeartbeats 1000000 in
theorem markFunctionS_w (l : List TFunction) : MW 77 (l.map TFunction.enc) := by
 intro Φ v hv w k hM h0 hlim
 obtain ⟨a, cap, rfl, hcp, hm, hE⟩ := hd_open TFunction.width hv
 unfold maxLen at hm
 have Hlim := Lib.hid hlim; have HM := Lib.hid (MK.mk hM (Kf.refl Φ w)); clear hlim hM hv
 go_enter Tryz.func77, Tryz.ntmps77
 go_wp2
 go_loopw [5, 1] (MWI k (l.map TFunction.enc) l.length Φ w) (fun i _ _ => l.length - (intOf i).toNat)
 case atStart => exact ⟨0, k, Nat.zero_le _, rfl, rfl, h0, Lib.hid (by simp only [List.take_zero, cnts]; omega), HM⟩
 case round =>
  clear HM; obtain ⟨n, c, hn, rfl, rfl, hc0, Hc, Hk⟩ := hrel
  by_cases hlt : n < l.length
  ·obtain ⟨b, off, rfl, h⟩ := hE n hlt
   obtain ⟨hM, hN⟩ := held_cnt hlt Hc.out Hlim.out
   clear hE Hc Hlim; generalize l[n] = x at *
   rw [TFunction.cnt_flat] at hM hN; have HN := Lib.hid hN; clear hN
   rw [TFunction.flat] at h; replace h := Ph_st.1 h
   obtain ⟨P0, h⟩ := PL h
   obtain ⟨c1, P1, Q1, h⟩ := PS h
   obtain ⟨c2, P2, Q2, h⟩ := PS h
   obtain ⟨c3, P3, Q3, h⟩ := PS h
   replace h := PT h
   obtain ⟨P4, h⟩ := PL h
   obtain ⟨P5, h⟩ := PL h
   obtain ⟨c6, P6, Q6, h⟩ := PS h
   replace h := PT h
   obtain ⟨P7, h⟩ := PL h
   obtain ⟨P8, h⟩ := PL h
   obtain ⟨P9, h⟩ := PL h
   obtain ⟨P10, h⟩ := PL h
   replace h := PT h
   obtain ⟨P11, h⟩ := PL h
   obtain ⟨P12, h⟩ := PL h
   obtain ⟨c13, P13, Q13, h⟩ := PS h
   obtain ⟨c14, P14, Q14, h⟩ := PS h
   obtain ⟨c15, P15, Q15, h⟩ := PS h
   clear h
   go_wp2_with fail
   refine (mkt Hk (by omega)).mono ?_; rintro _ w1 ⟨rfl, Hk⟩
   go_wp2_with (with_reducible refine stF rfl 9 _ _ rfl _ _ rfl _ rfl infoW9 rfl Hk P0 (by omega) ?_); intro w2 Hk
   have g := mkg Hk P1 (show off + n * 16 + 1 = _ by omega)
   go_wp2_with fail
   refine (mkc (markStringS_w x.fVars) Q1 Hk (by omega) (by omega)).mono ?_; clear g; rintro _ w3 ⟨rfl, Hk⟩
   have g := mkg Hk P2 (show off + n * 16 + 2 = _ by omega)
   go_wp2_with fail
   refine (mkc (markBoundS_w x.fWhere) Q2 Hk (by omega) (by omega)).mono ?_; clear g; rintro _ w4 ⟨rfl, Hk⟩
   have g := mkg Hk P3 (show off + n * 16 + 3 = _ by omega)
   go_wp2_with fail
   refine (mkc (markParamS_w x.fParams) Q3 Hk (by omega) (by omega)).mono ?_; clear g; rintro _ w5 ⟨rfl, Hk⟩
   go_wp2_with (with_reducible refine stF rfl 3 _ _ rfl _ _ rfl _ rfl infoW3 rfl Hk P4 (by omega) ?_); intro w6 Hk
   go_wp2_with fail
   refine (mkt Hk (by omega)).mono ?_; rintro _ w7 ⟨rfl, Hk⟩
   go_wp2_with (with_reducible refine stF rfl 9 _ _ rfl _ _ rfl _ rfl infoW9 rfl Hk P5 (by omega) ?_); intro w8 Hk
   have g := mkg Hk P6 (show off + n * 16 + 6 = _ by omega)
   go_wp2_with fail
   refine (mkc (markTypeS_w x.fResult.fArgs) Q6 Hk (by omega) (by omega)).mono ?_; clear g; rintro _ w9 ⟨rfl, Hk⟩
   go_wp2_with (with_reducible refine stF rfl 3 _ _ rfl _ _ rfl _ rfl infoW3 rfl Hk P7 (by omega) ?_); intro w10 Hk
   go_wp2_with fail
   refine (mkt Hk (by omega)).mono ?_; rintro _ w11 ⟨rfl, Hk⟩
   go_wp2_with (with_reducible refine stF rfl 9 _ _ rfl _ _ rfl _ rfl infoW9 rfl Hk P8 (by omega) ?_); intro w12 Hk
   go_wp2_with fail
   refine (mkt Hk (by omega)).mono ?_; rintro _ w13 ⟨rfl, Hk⟩
   go_wp2_with (with_reducible refine stF rfl 9 _ _ rfl _ _ rfl _ rfl infoW9 rfl Hk P9 (by omega) ?_); intro w14 Hk
   go_wp2_with (with_reducible refine stF rfl 3 _ _ rfl _ _ rfl _ rfl infoW3 rfl Hk P10 (by omega) ?_); intro w15 Hk
   go_wp2_with (with_reducible refine stF rfl 3 _ _ rfl _ _ rfl _ rfl infoW3 rfl Hk P11 (by omega) ?_); intro w16 Hk
   go_wp2_with fail
   refine (mkt Hk (by omega)).mono ?_; rintro _ w17 ⟨rfl, Hk⟩
   go_wp2_with (with_reducible refine stF rfl 9 _ _ rfl _ _ rfl _ rfl infoW9 rfl Hk P12 (by omega) ?_); intro w18 Hk
   have g := mkg Hk P13 (show off + n * 16 + 13 = _ by omega)
   go_wp2_with fail
   refine (mkc (markTypeS_w x.fBody.fType.fArgs) Q13 Hk (by omega) (by omega)).mono ?_; clear g; rintro _ w19 ⟨rfl, Hk⟩
   have g := mkg Hk P14 (show off + n * 16 + 14 = _ by omega)
   go_wp2_with fail
   refine (mkc (markExprS_w x.fBody.fArgs) Q14 Hk (by omega) (by omega)).mono ?_; clear g; rintro _ w20 ⟨rfl, Hk⟩
   have g := mkg Hk P15 (show off + n * 16 + 15 = _ by omega)
   go_wp2_with fail
   refine (mkc (markArmS_w x.fBody.fArms) Q15 Hk (by omega) (by omega)).mono ?_; clear g; rintro _ w21 ⟨rfl, Hk⟩
   go_wp2
   go_roundw
   case rel => exact ⟨n + 1, _, hlt, by go_num, rfl, by omega, Lib.hid (by have := HN.out; omega), Hk⟩
   case measure => simp [intOf]; omega
  ·obtain rfl : n = l.length := by omega
   have HE := Lib.hid Hc.out; rw [List.take_of_length_le (by simp)] at HE
   go_wp2
   go_ret
   exact ⟨ret_int HE.out, Hk⟩
set_option maxRecDepth 100000 in
set_option maxHeartbeats 1000000 in
theorem markSignatureS_w (l : List TSignature) : MW 130 (l.map TSignature.enc) := by
 intro Φ v hv w k hM h0 hlim
 obtain ⟨a, cap, rfl, hcp, hm, hE⟩ := hd_open TSignature.width hv
 unfold maxLen at hm
 have Hlim := Lib.hid hlim; have HM := Lib.hid (MK.mk hM (Kf.refl Φ w)); clear hlim hM hv
 go_enter Tryz.func130, Tryz.ntmps130
 go_wp2
 go_loopw [5, 1] (MWI k (l.map TSignature.enc) l.length Φ w) (fun i _ _ => l.length - (intOf i).toNat)
 case atStart => exact ⟨0, k, Nat.zero_le _, rfl, rfl, h0, Lib.hid (by simp only [List.take_zero, cnts]; omega), HM⟩
 case round =>
  clear HM; obtain ⟨n, c, hn, rfl, rfl, hc0, Hc, Hk⟩ := hrel
  by_cases hlt : n < l.length
  ·obtain ⟨b, off, rfl, h⟩ := hE n hlt
   obtain ⟨hM, hN⟩ := held_cnt hlt Hc.out Hlim.out
   clear hE Hc Hlim; generalize l[n] = x at *
   rw [TSignature.cnt_flat] at hM hN; have HN := Lib.hid hN; clear hN
   rw [TSignature.flat] at h; replace h := Ph_st.1 h
   obtain ⟨P0, h⟩ := PL h
   obtain ⟨c1, P1, Q1, h⟩ := PS h
   replace h := PT h
   obtain ⟨P2, h⟩ := PL h
   obtain ⟨P3, h⟩ := PL h
   obtain ⟨c4, P4, Q4, h⟩ := PS h
   obtain ⟨P5, h⟩ := PL h
   obtain ⟨c6, P6, Q6, h⟩ := PS h
   replace h := PT h
   obtain ⟨P7, h⟩ := PL h
   obtain ⟨P8, h⟩ := PL h
   obtain ⟨P9, h⟩ := PL h
   obtain ⟨P10, h⟩ := PL h
   replace h := PT h
   obtain ⟨P11, h⟩ := PL h
   obtain ⟨P12, h⟩ := PL h
   obtain ⟨c13, P13, Q13, h⟩ := PS h
   obtain ⟨c14, P14, Q14, h⟩ := PS h
   obtain ⟨c15, P15, Q15, h⟩ := PS h
   clear h
   go_wp2_with fail
   refine (mkt Hk (by omega)).mono ?_; rintro _ w1 ⟨rfl, Hk⟩
   go_wp2_with (with_reducible refine stF rfl 9 _ _ rfl _ _ rfl _ rfl infoW9 rfl Hk P0 (by omega) ?_); intro w2 Hk
   have g := mkg Hk P1 (show off + n * 16 + 1 = _ by omega)
   go_wp2_with fail
   refine (mkc (markTypeS_w x.fParams) Q1 Hk (by omega) (by omega)).mono ?_; clear g; rintro _ w3 ⟨rfl, Hk⟩
   go_wp2_with (with_reducible refine stF rfl 3 _ _ rfl _ _ rfl _ rfl infoW3 rfl Hk P2 (by omega) ?_); intro w4 Hk
   go_wp2_with fail
   refine (mkt Hk (by omega)).mono ?_; rintro _ w5 ⟨rfl, Hk⟩
   go_wp2_with (with_reducible refine stF rfl 9 _ _ rfl _ _ rfl _ rfl infoW9 rfl Hk P3 (by omega) ?_); intro w6 Hk
   have g := mkg Hk P4 (show off + n * 16 + 4 = _ by omega)
   go_wp2_with fail
   refine (mkc (markTypeS_w x.fResult.fArgs) Q4 Hk (by omega) (by omega)).mono ?_; clear g; rintro _ w7 ⟨rfl, Hk⟩
   go_wp2_with (with_reducible refine stF rfl 4 _ _ rfl _ _ rfl _ rfl infoW4 rfl Hk P5 (by omega) ?_); intro w8 Hk
   have g := mkg Hk P6 (show off + n * 16 + 6 = _ by omega)
   go_wp2_with fail
   refine (mkc (markStringS_w x.fVars) Q6 Hk (by omega) (by omega)).mono ?_; clear g; rintro _ w9 ⟨rfl, Hk⟩
   go_wp2_with (with_reducible refine stF rfl 3 _ _ rfl _ _ rfl _ rfl infoW3 rfl Hk P7 (by omega) ?_); intro w10 Hk
   go_wp2_with fail
   refine (mkt Hk (by omega)).mono ?_; rintro _ w11 ⟨rfl, Hk⟩
   go_wp2_with (with_reducible refine stF rfl 9 _ _ rfl _ _ rfl _ rfl infoW9 rfl Hk P8 (by omega) ?_); intro w12 Hk
   go_wp2_with fail
   refine (mkt Hk (by omega)).mono ?_; rintro _ w13 ⟨rfl, Hk⟩
   go_wp2_with (with_reducible refine stF rfl 9 _ _ rfl _ _ rfl _ rfl infoW9 rfl Hk P9 (by omega) ?_); intro w14 Hk
   go_wp2_with (with_reducible refine stF rfl 3 _ _ rfl _ _ rfl _ rfl infoW3 rfl Hk P10 (by omega) ?_); intro w15 Hk
   go_wp2_with (with_reducible refine stF rfl 3 _ _ rfl _ _ rfl _ rfl infoW3 rfl Hk P11 (by omega) ?_); intro w16 Hk
   go_wp2_with fail
   refine (mkt Hk (by omega)).mono ?_; rintro _ w17 ⟨rfl, Hk⟩
   go_wp2_with (with_reducible refine stF rfl 9 _ _ rfl _ _ rfl _ rfl infoW9 rfl Hk P12 (by omega) ?_); intro w18 Hk
   have g := mkg Hk P13 (show off + n * 16 + 13 = _ by omega)
   go_wp2_with fail
   refine (mkc (markTypeS_w x.fBody.fType.fArgs) Q13 Hk (by omega) (by omega)).mono ?_; clear g; rintro _ w19 ⟨rfl, Hk⟩
   have g := mkg Hk P14 (show off + n * 16 + 14 = _ by omega)
   go_wp2_with fail
   refine (mkc (markExprS_w x.fBody.fArgs) Q14 Hk (by omega) (by omega)).mono ?_; clear g; rintro _ w20 ⟨rfl, Hk⟩
   have g := mkg Hk P15 (show off + n * 16 + 15 = _ by omega)
   go_wp2_with fail
   refine (mkc (markArmS_w x.fBody.fArms) Q15 Hk (by omega) (by omega)).mono ?_; clear g; rintro _ w21 ⟨rfl, Hk⟩
   go_wp2
   go_roundw
   case rel => exact ⟨n + 1, _, hlt, by go_num, rfl, by omega, Lib.hid (by have := HN.out; omega), Hk⟩
   case measure => simp [intOf]; omega
  ·obtain rfl : n = l.length := by omega
   have HE := Lib.hid Hc.out; rw [List.take_of_length_le (by simp)] at HE
   go_wp2
   go_ret
   exact ⟨ret_int HE.out, Hk⟩
set_option maxRecDepth 100000 in
set_option maxHeartbeats 1000000 in
theorem markTraitS_w (l : List TTrait) : MW 74 (l.map TTrait.enc) := by
 intro Φ v hv w k hM h0 hlim
 obtain ⟨a, cap, rfl, hcp, hm, hE⟩ := hd_open TTrait.width hv
 unfold maxLen at hm
 have Hlim := Lib.hid hlim; have HM := Lib.hid (MK.mk hM (Kf.refl Φ w)); clear hlim hM hv
 go_enter Tryz.func74, Tryz.ntmps74
 go_wp2
 go_loopw [5, 1] (MWI k (l.map TTrait.enc) l.length Φ w) (fun i _ _ => l.length - (intOf i).toNat)
 case atStart => exact ⟨0, k, Nat.zero_le _, rfl, rfl, h0, Lib.hid (by simp only [List.take_zero, cnts]; omega), HM⟩
 case round =>
  clear HM; obtain ⟨n, c, hn, rfl, rfl, hc0, Hc, Hk⟩ := hrel
  by_cases hlt : n < l.length
  ·obtain ⟨b, off, rfl, h⟩ := hE n hlt
   obtain ⟨hM, hN⟩ := held_cnt hlt Hc.out Hlim.out
   clear hE Hc Hlim; generalize l[n] = x at *
   rw [TTrait.cnt_flat] at hM hN; have HN := Lib.hid hN; clear hN
   rw [TTrait.flat] at h; replace h := Ph_st.1 h
   obtain ⟨P0, h⟩ := PL h
   obtain ⟨c1, P1, Q1, h⟩ := PS h
   obtain ⟨P2, h⟩ := PL h
   obtain ⟨P3, h⟩ := PL h
   obtain ⟨c4, P4, Q4, h⟩ := PS h
   clear h
   go_wp2_with fail
   refine (mkt Hk (by omega)).mono ?_; rintro _ w1 ⟨rfl, Hk⟩
   go_wp2_with (with_reducible refine stF rfl 9 _ _ rfl _ _ rfl _ rfl infoW9 rfl Hk P0 (by omega) ?_); intro w2 Hk
   have g := mkg Hk P1 (show off + n * 5 + 1 = _ by omega)
   go_wp2_with fail
   refine (mkc (markStringS_w x.fSupertraits) Q1 Hk (by omega) (by omega)).mono ?_; clear g; rintro _ w3 ⟨rfl, Hk⟩
   go_wp2_with (with_reducible refine stF rfl 4 _ _ rfl _ _ rfl _ rfl infoW4 rfl Hk P2 (by omega) ?_); intro w4 Hk
   go_wp2_with (with_reducible refine stF rfl 4 _ _ rfl _ _ rfl _ rfl infoW4 rfl Hk P3 (by omega) ?_); intro w5 Hk
   have g := mkg Hk P4 (show off + n * 5 + 4 = _ by omega)
   go_wp2_with fail
   refine (mkc (markSignatureS_w x.fSignatures) Q4 Hk (by omega) (by omega)).mono ?_; clear g; rintro _ w6 ⟨rfl, Hk⟩
   go_wp2
   go_roundw
   case rel => exact ⟨n + 1, _, hlt, by go_num, rfl, by omega, Lib.hid (by have := HN.out; omega), Hk⟩
   case measure => simp [intOf]; omega
  ·obtain rfl : n = l.length := by omega
   have HE := Lib.hid Hc.out; rw [List.take_of_length_le (by simp)] at HE
   go_wp2
   go_ret
   exact ⟨ret_int HE.out, Hk⟩
set_option maxRecDepth 100000 in
set_option maxHeartbeats 1000000 in
theorem markPackageS_w (l : List TPackage) : MW 31 (l.map TPackage.enc) := by
 intro Φ v hv w k hM h0 hlim
 obtain ⟨a, cap, rfl, hcp, hm, hE⟩ := hd_open TPackage.width hv
 unfold maxLen at hm
 have Hlim := Lib.hid hlim; have HM := Lib.hid (MK.mk hM (Kf.refl Φ w)); clear hlim hM hv
 go_enter Tryz.func31, Tryz.ntmps31
 go_wp2
 go_loopw [5, 1] (MWI k (l.map TPackage.enc) l.length Φ w) (fun i _ _ => l.length - (intOf i).toNat)
 case atStart => exact ⟨0, k, Nat.zero_le _, rfl, rfl, h0, Lib.hid (by simp only [List.take_zero, cnts]; omega), HM⟩
 case round =>
  clear HM; obtain ⟨n, c, hn, rfl, rfl, hc0, Hc, Hk⟩ := hrel
  by_cases hlt : n < l.length
  ·obtain ⟨b, off, rfl, h⟩ := hE n hlt
   obtain ⟨hM, hN⟩ := held_cnt hlt Hc.out Hlim.out
   clear hE Hc Hlim; generalize l[n] = x at *
   rw [TPackage.cnt_flat] at hM hN; have HN := Lib.hid hN; clear hN
   rw [TPackage.flat] at h; replace h := Ph_st.1 h
   obtain ⟨P0, h⟩ := PL h
   obtain ⟨c1, P1, Q1, h⟩ := PS h
   obtain ⟨c2, P2, Q2, h⟩ := PS h
   obtain ⟨c3, P3, Q3, h⟩ := PS h
   obtain ⟨c4, P4, Q4, h⟩ := PS h
   obtain ⟨c5, P5, Q5, h⟩ := PS h
   clear h
   go_wp2_with fail
   refine (mkt Hk (by omega)).mono ?_; rintro _ w1 ⟨rfl, Hk⟩
   go_wp2_with (with_reducible refine stF rfl 9 _ _ rfl _ _ rfl _ rfl infoW9 rfl Hk P0 (by omega) ?_); intro w2 Hk
   have g := mkg Hk P1 (show off + n * 6 + 1 = _ by omega)
   go_wp2_with fail
   refine (mkc (markStringS_w x.fDeps) Q1 Hk (by omega) (by omega)).mono ?_; clear g; rintro _ w3 ⟨rfl, Hk⟩
   have g := mkg Hk P2 (show off + n * 6 + 2 = _ by omega)
   go_wp2_with fail
   refine (mkc (markTraitS_w x.fTraits) Q2 Hk (by omega) (by omega)).mono ?_; clear g; rintro _ w4 ⟨rfl, Hk⟩
   have g := mkg Hk P3 (show off + n * 6 + 3 = _ by omega)
   go_wp2_with fail
   refine (mkc (markDataTypeS_w x.fDataTypes) Q3 Hk (by omega) (by omega)).mono ?_; clear g; rintro _ w5 ⟨rfl, Hk⟩
   have g := mkg Hk P4 (show off + n * 6 + 4 = _ by omega)
   go_wp2_with fail
   refine (mkc (markInstanceS_w x.fInstances) Q4 Hk (by omega) (by omega)).mono ?_; clear g; rintro _ w6 ⟨rfl, Hk⟩
   have g := mkg Hk P5 (show off + n * 6 + 5 = _ by omega)
   go_wp2_with fail
   refine (mkc (markFunctionS_w x.fFunctions) Q5 Hk (by omega) (by omega)).mono ?_; clear g; rintro _ w7 ⟨rfl, Hk⟩
   go_wp2
   go_roundw
   case rel => exact ⟨n + 1, _, hlt, by go_num, rfl, by omega, Lib.hid (by have := HN.out; omega), Hk⟩
   case measure => simp [intOf]; omega
  ·obtain rfl : n = l.length := by omega
   have HE := Lib.hid Hc.out; rw [List.take_of_length_le (by simp)] at HE
   go_wp2
   go_ret
   exact ⟨ret_int HE.out, Hk⟩
set_option maxRecDepth 100000 in
set_option maxHeartbeats 1000000 in
theorem markProgram_k (x : TProgram) : ∀ (w : World) (k : Int) (cs : List Value) (bs : List Nat) (_ : Own w x.enc cs bs) (_ : 0 ≤ k) (_ : k + (cnts (x.fPackages.map TPackage.enc) : Nat) ≤ 4611686018427387904),
  Calls Tryz.prog 11 #[.agg cs.toArray, .int .i64 k] w fun e w' => e = .returned (.int .i64 (k + (cnts (x.fPackages.map TPackage.enc) : Nat))) ∧ Kept w w' bs := by
 intro w k cs bs h h0 hlim
 rw [TProgram.flat] at h
 obtain ⟨v, _, r, _, rfl, rfl, o, h⟩ := OwnS_sl.1 (Own_st.1 h)
 obtain ⟨rfl, rfl⟩ := OwnS_nil.1 h
 have hv := own_hd (BS := r ++ []) o (fun x hx => by simp [hx])
 have hk0 := (MK.mk (fi_mm w (r ++ [])) (Kf.refl _ w)).step ((Below.refl _ _).alloc (o := .cells #[v] 30) (Nat.le_refl _))
 clear h o
 have HF : Hid (∀ b, b ∉ r ++ [] → ∀ o, fi w (r ++ []) b o = none) := Lib.hid (fun b hb o => fi_other hb o)
 generalize fi w (r ++ []) = Φ at hv hk0 HF
 go_enter Tryz.func11, Tryz.ntmps11
 go_wp2_with fail
 refine (mkc (markPackageS_w x.fPackages) (Lib.hid hv) (Lib.hid hk0) h0 hlim).mono ?_
 rintro e w1 ⟨rfl, HK⟩
 clear hk0 hv
 go_wp2
 go_ret
 exact ⟨rfl, HK.out.k.kept HF.out⟩
theorem cnts_map_le {α : Type} {enc : α → D} {f : α → Nat} (h : ∀ x, mct (enc x) ≤ 32 + 32 * f x) : ∀ l : List α, cnts (l.map enc) ≤ 32 * szs f l
 | [] => by simp [cnts, szs, szL]
 | x :: l => by
  have h1 := h x
  have h2 := cnts_map_le h l
  simp only [List.map_cons, cnts, szs, szL, List.length_cons] at h2 ⊢
  omega
theorem cntS_le (x : ByteArray) : mct (encS x) ≤ 32 + 32 * ByteArray.size x := by rw [cntS_flat]; omega
mutual
theorem TType.cnt_le : ∀ x : TType, mct x.enc ≤ 2 + 32 * x.sz
 | ⟨fKind, fName, fArgs⟩ => by
  have := TType.cntL_le fArgs
  simp only [TType.enc, TType.sz, mct, cnts, encI, encS]
  omega
theorem TType.cntL_le : ∀ l : List TType, cnts (TType.encL l) ≤ 32 * (l.length + TType.szLs l)
 | [] => by simp [TType.encL, cnts]
 | x :: l => by
  have := TType.cnt_le x
  have := TType.cntL_le l
  simp only [TType.encL, cnts, TType.szLs, List.length_cons]
  omega
end
mutual
theorem TArm.cnt_le : ∀ x : TArm, mct x.enc ≤ 7 + 32 * x.sz
 | ⟨fConstructor, fVars, fBody⟩ => by
  have := cnts_map_le (f := ByteArray.size) cntS_le fVars
  have := TExpr.cnt_le fBody
  simp only [TArm.enc, TArm.sz, mct, cnts, encS]
  omega
theorem TExpr.cnt_le : ∀ x : TExpr, mct x.enc ≤ 6 + 32 * x.sz
 | ⟨fKind, fTrait, fName, fN, fType, fArgs, fArms⟩ => by
  have := TType.cnt_le fType
  have := TExpr.cntL_le fArgs
  have := TArm.cntL_le fArms
  simp only [TExpr.enc, TExpr.sz, mct, cnts, encI, encS]
  omega
theorem TArm.cntL_le : ∀ l : List TArm, cnts (TArm.encL l) ≤ 32 * (l.length + TArm.szLs l)
 | [] => by simp [TArm.encL, cnts]
 | x :: l => by
  have := TArm.cnt_le x
  have := TArm.cntL_le l
  simp only [TArm.encL, cnts, TArm.szLs, List.length_cons]
  omega
theorem TExpr.cntL_le : ∀ l : List TExpr, cnts (TExpr.encL l) ≤ 32 * (l.length + TExpr.szLs l)
 | [] => by simp [TExpr.encL, cnts]
 | x :: l => by
  have := TExpr.cnt_le x
  have := TExpr.cntL_le l
  simp only [TExpr.encL, cnts, TExpr.szLs, List.length_cons]
  omega
end
theorem TBound.cnt_le (x : TBound) : mct x.enc ≤ 3 + 32 * TBound.sz x := by
 have := TType.cnt_le x.fType
 rw [TBound.enc_eq, TBound.sz_eq]
 simp only [mct, cnts, encS]
 omega
theorem TConstructor.cnt_le (x : TConstructor) : mct x.enc ≤ 1 + 32 * TConstructor.sz x := by
 have := cnts_map_le (f := TType.sz) (fun y => Nat.le_trans (TType.cnt_le y) (by omega)) x.fFields
 rw [TConstructor.enc_eq, TConstructor.sz_eq]
 simp only [mct, cnts, encS]
 omega
theorem TDataType.cnt_le (x : TDataType) : mct x.enc ≤ 1 + 32 * TDataType.sz x := by
 have := cnts_map_le (f := ByteArray.size) cntS_le x.fVars
 have := cnts_map_le (f := TConstructor.sz) (fun y => Nat.le_trans (TConstructor.cnt_le y) (by omega)) x.fConstructors
 rw [TDataType.enc_eq, TDataType.sz_eq]
 simp only [mct, cnts, encS]
 omega
theorem TMethod.cnt_le (x : TMethod) : mct x.enc ≤ 7 + 32 * TMethod.sz x := by
 have := cnts_map_le (f := ByteArray.size) cntS_le x.fVars
 have := TExpr.cnt_le x.fBody
 rw [TMethod.enc_eq, TMethod.sz_eq]
 simp only [mct, cnts, encS]
 omega
theorem TInstance.cnt_le (x : TInstance) : mct x.enc ≤ 7 + 32 * TInstance.sz x := by
 have := cnts_map_le (f := ByteArray.size) cntS_le x.fVars
 have := TType.cnt_le x.fHead
 have := cnts_map_le (f := TBound.sz) (fun y => Nat.le_trans (TBound.cnt_le y) (by omega)) x.fWhere
 have := TType.cnt_le x.fAssoc
 have := cnts_map_le (f := TMethod.sz) (fun y => Nat.le_trans (TMethod.cnt_le y) (by omega)) x.fMethods
 rw [TInstance.enc_eq, TInstance.sz_eq]
 simp only [mct, cnts, encS, encB]
 omega
theorem TParam.cnt_le (x : TParam) : mct x.enc ≤ 3 + 32 * TParam.sz x := by
 have := TType.cnt_le x.fType
 rw [TParam.enc_eq, TParam.sz_eq]
 simp only [mct, cnts, encS]
 omega
theorem TFunction.cnt_le (x : TFunction) : mct x.enc ≤ 9 + 32 * TFunction.sz x := by
 have := cnts_map_le (f := ByteArray.size) cntS_le x.fVars
 have := cnts_map_le (f := TBound.sz) (fun y => Nat.le_trans (TBound.cnt_le y) (by omega)) x.fWhere
 have := cnts_map_le (f := TParam.sz) (fun y => Nat.le_trans (TParam.cnt_le y) (by omega)) x.fParams
 have := TType.cnt_le x.fResult
 have := TExpr.cnt_le x.fBody
 rw [TFunction.enc_eq, TFunction.sz_eq]
 simp only [mct, cnts, encS]
 omega
theorem TSignature.cnt_le (x : TSignature) : mct x.enc ≤ 10 + 32 * TSignature.sz x := by
 have := cnts_map_le (f := TType.sz) (fun y => Nat.le_trans (TType.cnt_le y) (by omega)) x.fParams
 have := TType.cnt_le x.fResult
 have := cnts_map_le (f := ByteArray.size) cntS_le x.fVars
 have := TExpr.cnt_le x.fBody
 rw [TSignature.enc_eq, TSignature.sz_eq]
 simp only [mct, cnts, encS, encB]
 omega
theorem TTrait.cnt_le (x : TTrait) : mct x.enc ≤ 3 + 32 * TTrait.sz x := by
 have := cnts_map_le (f := ByteArray.size) cntS_le x.fSupertraits
 have := cnts_map_le (f := TSignature.sz) (fun y => Nat.le_trans (TSignature.cnt_le y) (by omega)) x.fSignatures
 rw [TTrait.enc_eq, TTrait.sz_eq]
 simp only [mct, cnts, encS, encB]
 omega
theorem TPackage.cnt_le (x : TPackage) : mct x.enc ≤ 1 + 32 * TPackage.sz x := by
 have := cnts_map_le (f := ByteArray.size) cntS_le x.fDeps
 have := cnts_map_le (f := TTrait.sz) (fun y => Nat.le_trans (TTrait.cnt_le y) (by omega)) x.fTraits
 have := cnts_map_le (f := TDataType.sz) (fun y => Nat.le_trans (TDataType.cnt_le y) (by omega)) x.fDataTypes
 have := cnts_map_le (f := TInstance.sz) (fun y => Nat.le_trans (TInstance.cnt_le y) (by omega)) x.fInstances
 have := cnts_map_le (f := TFunction.sz) (fun y => Nat.le_trans (TFunction.cnt_le y) (by omega)) x.fFunctions
 rw [TPackage.enc_eq, TPackage.sz_eq]
 simp only [mct, cnts, encS]
 omega
theorem TProgram.cnt_le (x : TProgram) : mct x.enc ≤ 0 + 32 * TProgram.sz x := by
 have := cnts_map_le (f := TPackage.sz) (fun y => Nat.le_trans (TPackage.cnt_le y) (by omega)) x.fPackages
 rw [TProgram.enc_eq, TProgram.sz_eq]
 simp only [mct, cnts]
 omega
end Go.Proofs.YtdooklofebdknaaGreat
