/- Part 46. No condition. -/
import Derived.Test.YtdooklofebdknaaGreatM45
namespace Go.Proofs.YtdooklofebdknaaGreat
open Go.RowKit Tryz
set_option linter.unusedVariables false
set_option maxRecDepth 10000
set_option linter.unusedSimpArgs false
set_option maxHeartbeats 4000000
theorem YW (l:List ByteArray) (s:ByteArray) (hm:l.length≤4294967296) (h:HP):CS cx.P 108 [.d (.sl false .one (l.map dS)),.d (.lf (.string s))] h (.d (.lf (.int .i64 (JN l s)))) h:=by
 refine Ze func108 rfl 8 ?_
 apply Zr;intros
 refine Zo ?_;simp
 exact Zx
 apply Zr;intros
 iterate 2 (refine Zo ?_;simp)
 refine Zl [] rfl func178 (Ra l s hm _) ?_;simp
 refine Zo ?_;simp
 exact Zx
 refine W.ret (Zq ?_)
 simp[f108]
def NSz (l:List ByteArray):Prop:=(∀s∈l,s.size≤134217728)∧l.length≤134217728
theorem NSz.of {l:List ByteArray} (h:szL ByteArray.size l≤134217728) (k:l.length≤134217728):NSz l:=⟨fun s hs=>by have:=Ah ByteArray.size hs;omega,k⟩
theorem NSz.mp {α:Type} (f:α→ByteArray) {l:List α} (h:∀y∈l,(f y).size≤134217728) (k:l.length≤134217728) (j:Nat):NSz (Go.Proofs.YtdooklofebdknaaGreat.mp f l j):=by
  unfold Go.Proofs.YtdooklofebdknaaGreat.mp
  refine⟨fun s hs=> ?_,by simp;omega⟩
  obtain⟨y,hy,rfl⟩:=List.mem_map.1 hs
  exact h y (List.mem_of_mem_take hy)
theorem c6 (t:A0) (h:t.sz≤134217728):(tv t).length≤4294967296:=by have h1:=GV t [];have h2:=DF t;unfold tv;simp at h1;omega
def G2 {α:Type} (p:α→Bool) (l:List α) (k:Nat):Bool:=(l.take k).all p
theorem Sw {α:Type} (p:α→Bool) (l:List α):G2 p l 0=true:=rfl
theorem a8 {α:Type} {p:α→Bool} {l:List α} {k:Nat} (h:k<l.length):G2 p l (k+1)=(G2 p l k && p l[k]):=by unfold G2;rw[Y' h,List.all_append];simp
theorem Fn {α:Type} {p:α→Bool} {l:List α} {k:Nat} (h:l.length≤k):G2 p l k=l.all p:=by unfold G2;rw[List.take_of_length_le h]
theorem sg5 {a b:Nat} {n d y:Bool} (h:b≤4):(decide (a=b+1) && (n && d && y))=(decide (a≤5) && n && d && decide (a=b+1) && y):=by
  by_cases e:a=b+1
  · have:a≤5:=by omega
    rw[decide_eq_true e,decide_eq_true this];simp
  · rw[decide_eq_false e];simp
theorem YH {l:List AC} (h:(l.any fun g=> !FB g)=false):nms (l.map AC.A6)=true:=by
  unfold nms
  rw[List.any_map,Bool.not_eq_true',List.any_eq_false]
  intro g hg
  have h1:=List.any_eq_false.1 h g hg
  have h2:FB g=true:=by simpa using h1
  unfold FB at h2
  simp only[Bool.and_eq_true] at h2
  simp[h2.1.1.1.1]
theorem instOk_sub (x:AJ):instOk x=(inst1 x && sub x.AZ (tv x.Ar) && inst2 x && !(x.Ap.any F4) && CU (x.Ap.map AX.A6) 6):=by unfold instOk;rw[XV]
theorem inst1_k (x:AJ):inst1 x=(BU x.AK && CU x.AZ 3 && Bl x.Ar x.AZ && !Bq x.Ar && (decide (x.Ar.AH=2)||decide (x.Ar.AH=1)) && An x.Af x.AZ):=by
  unfold inst1
  cases h1:Bl x.Ar x.AZ with
  |false=>simp
  |true=>
    cases h2:Bq x.Ar with
    |true=>simp
    |false=>rw[eE h1 h2]
attribute [simp] Sw a8
instance fo (l:List ByteArray):Ct cx 107 [.d (.sl false .one ((l).map (dS)))] (NSz l) (.d (.lf (.bool (dst l && nms l)))):=⟨fk1 func107,fun hp h=>by have q:=GB l hp.1 hp.2 h;first|exact q|simpa using q⟩
instance kD (l:List ByteArray):Ct cx 49 [.d (.sl false .one ((l).map (dS)))] (l.length≤134217728) (.d (.lf (.bool (dst l)))):=⟨fk1 func49,fun hp h=>by have q:=Lk l hp h;first|exact q|simpa using q⟩
instance nB (l all:List ByteArray):Ct cx 48 [.d (.sl false .one ((l).map (dS))),.d (.sl false .one ((all).map (dS)))] (l.length≤134217728∧all.length≤4294967296) (.d (.lf (.bool (sub l all)))):=⟨fk1 func48,fun hp h=>by have q:=EE l all (by omega) (by omega) h;first|exact q|simpa using q⟩
instance mz (k:Int) (n:ByteArray) (l:List A0):Ct cx 182 [.d (uK k n l)] (A0.sz ⟨k,n,l⟩≤134217728) (.d (.lf (.bool (Bq ⟨k,n,l⟩)))):=⟨fk1 func182,fun hp h=>by have q:=az ⟨k,n,l⟩ hp h;first|exact q|simpa using q⟩
instance my (k:Int) (n:ByteArray) (l:List A0):Ct cx 183 [.d (uK k n l)] (A0.sz ⟨k,n,l⟩≤134217728) (.d (.sl true .one (((tv ⟨k,n,l⟩)).map (dS)))):=⟨fk1 func183,fun hp h=>by have q:=Qh ⟨k,n,l⟩ hp h;first|exact q|simpa using q⟩
instance mr (k:Int) (n:ByteArray) (l:List A0):Ct cx 185 [.d (uK k n l)] (True) (.d (.lf (.bool (CJ ⟨k,n,l⟩)))):=⟨fk1 func185,fun hp h=>by have q:=NL ⟨k,n,l⟩ h;first|exact q|simpa using q⟩
instance mq (e:AG):Ct cx 251 [.d (IA e)] (True) (.d (.lf (.bool (Dj e)))):=⟨fk1 func251,fun hp h=>by have q:=ix e h;first|exact q|simpa using q⟩
instance n6 (k:Int) (n:ByteArray) (l:List A0) (v:List ByteArray):Ct cx 181 [.d (uK k n l),.d (.sl false .one ((v).map (dS)))] (v.length≤134217728∧A0.sz ⟨k,n,l⟩≤134217728) (.d (.lf (.bool (Bl ⟨k,n,l⟩ v)))):=⟨fk1 func181,fun hp h=>by have q:=Lj ⟨k,n,l⟩ v hp.1 hp.2 h;first|exact q|simpa using q⟩
instance kC (k:Int) (n:ByteArray) (l:List A0) (s:ByteArray):Ct cx 181 [.d (uK k n l),.d (.sl false .one [.lf (.string s)])] (A0.sz ⟨k,n,l⟩≤134217728) (.d (.lf (.bool (Bl ⟨k,n,l⟩ [s])))):=⟨fk1 func181,fun hp h=>by have q:=Lj ⟨k,n,l⟩ [s] (by simp) hp h;first|exact q|simpa using q⟩
instance kB (l:List A0) (v:List ByteArray):Ct cx 180 [.d (.sl false Ag ((l).map (A0.dd false))),.d (.sl false .one ((v).map (dS)))] (v.length≤134217728∧l.length≤134217728∧∀y∈l,y.sz≤134217728) (.d (.lf (.bool (El l v)))):=⟨fk1 func180,fun hp h=>by have q:=NM l v hp.1 hp.2.1 hp.2.2 h;first|exact q|simpa using q⟩
instance jA (l:List A0) (s:ByteArray):Ct cx 180 [.d (.sl false Ag ((l).map (A0.dd false))),.d (.sl false .one [.lf (.string s)])] (l.length≤134217728∧∀y∈l,y.sz≤134217728) (.d (.lf (.bool (El l [s])))):=⟨fk1 func180,fun hp h=>by have q:=NM l [s] (by simp) hp.1 hp.2 h;first|exact q|simpa using q⟩
instance mu (l:List A9) (v:List ByteArray):Ct cx 184 [.d (.sl false BA ((l).map (A9.dd false))),.d (.sl false .one ((v).map (dS)))] (v.length≤134217728∧l.length≤134217728∧∀y∈l,y.sz≤134217728) (.d (.lf (.bool (An l v)))):=⟨fk1 func184,fun hp h=>by have q:=YY l v hp.1 hp.2.1 hp.2.2 h;first|exact q|simpa using q⟩
instance jB (v:List ByteArray) (e:AG):Ct cx 186 [.d (.sl false .one ((v).map (dS))),.d (IA e)] (NSz v∧e.sz≤134217728) (.d (.lf (.bool (nms v && dst v && body e v)))):=⟨fk1 func186,fun hp h=>by have q:=Yj v hp.1.2 hp.1.1 e hp.2 h;first|exact q|simpa using q⟩
instance n5 (l:List AW):Ct cx 187 [.d (.sl false CX ((l).map (AW.dd false)))] (l.length≤134217728) (.d (.sl true .one (((pNm l)).map (dS)))):=⟨fk1 func187,fun hp h=>by have q:=Ug l hp h;first|exact q|simpa using q⟩

instance n8 (l:List ByteArray) (s:ByteArray):Ct cx 108 [.d (.sl false .one ((l).map (dS))),.d (.lf (.string (s)))] (l.length≤134217728) (.d (.lf (.int .i64 (JN l s)))):=⟨fk1 func108,fun hp h=>by have q:=YW l s (by omega) h;first|exact q|simpa using q⟩
instance n7 (s:ByteArray):Ct cx 106 [.d (.lf (.string (s)))] (True) (.d (.lf (.bool (BU s)))):=by
 refine Xi func106 39 [.tmp 2] [] [] AN (AI @BU.eq_1<|AI @KG.eq_1<|AI @CG.eq_1<|AI @Ay.eq_1<|AI @Bb<|@BK) ?_;intro hp h M G H E
 repeat' (first|exact true|(refine IN.mk ?_;intros)|(refine iTw ?_;refine T2 ?_ ?_<;>((try clear H);intro hb H)<;>try exact hb.elim)|(refine LF.mk ?_;exact LX)|refine BO.mk ?_ ?_|(apply iPJ;exact NPJ)|apply PXs.of|refine GN ?_|(refine XC [0,5] [] 6 (s.size) (fun k0=>KG s.size (CG s)=((List.range s.size).drop k0).all (CG s)) ?_;intro k0 hk0 hi0)|fail)
instance giSig (x:AC):Ct cx 179 [.d (K6 x)] (x.sz≤134217728) (.d (.lf (.bool (FB x)))):=by
 refine Xi func179 53 [.tmp 2] [] [] AN (AI @FB.eq_1<|AI @Q1.eq_1<|@CU.eq_1) ?_;intro hp h M G H E
 have hx:=x.sz_eq;unfold szs at hx
 have hsp:∀y∈x.Al,y.sz≤134217728:=fun y hy=>by have:=Ah A0.sz hy;omega
 replace H:=AI hsp H
 have hv:NSz x.AZ:=NSz.of (by omega) (by omega);replace H:=AI hv H
 have hw:=BF (n:=(x.Al.length:Int)+1) (by omega) (by omega);replace H:=AI hw H
 repeat' (first|exact true|(refine LF.mk ?_;rw[sg5 (by omega)];simp[*];done)|(refine IN.mk ?_;intros)|(refine iTw ?_;refine T2 ?_ ?_<;>((try clear H);intro hb H)<;>try exact hb.elim)|(refine LF.mk ?_;exact LX)|refine BO.mk ?_ ?_|(apply iPJ;exact NPJ)|apply PXs.of|refine GN ?_)

@[simp] theorem fU:IntKind.i64.wrap 0=0:=BF (by decide) (by decide)
theorem WG (v:ByteArray) (y:A0) (c:Nat) (lv k:Nat) (h:HP) (hcap:hpg h lv k=some (.d (.lf (.int .i64 (IntKind.i64.wrap ((c:Nat):Int)))))):CS cx.P 357 [.d (y.dd false),.el (.lf (.string v)),.pt lv k []] h (.tp []) (hps h lv k (some (.d (.lf (.int .i64 (IntKind.i64.wrap ((cnS v y c:Nat):Int))))))):=by
 have hc2:=Df hcap
 have hw:IntKind.i64.wrap (IntKind.i64.wrap (c:Int)+1)=IntKind.i64.wrap ((c+1:Nat):Int):=by rw[Rd];congr 1
 refine Ze func357 rfl 15 ?_
 apply Zr;intros
 refine Zo ?_ (by simp[hc2,hw]<;>omega);simp[hc2,hw]
 exact Zx
 refine W.seq ?_
 refine W.regJ (D:=_) [2] [] [(12,.d (.lf (.bool (decide (y.AH=1) && decide (y.A6=v)))))] [] rfl (fun _ K hD hK=> ?_) fun T hT=> ?_
 iterate 4 (refine Zo ?_ (by simp[hc2,hw]<;>omega);simp[hc2,hw])
 refine WL.split 7 _ rfl (fun g7=> ?_) fun g7=> ?_<;>try simp at g7
 simp[hc2,hw]
 iterate 4 (refine Zg hD rfl rfl ?_ (by simp[hc2,hw]<;>omega);simp[hc2,hw])
 refine Zo ?_ (by simp[hc2,hw]<;>omega);simp[hc2,hw]
 refine WL.nil (hK _ (Wz.to rfl rfl rfl ?_))
 simp[g7]
 simp[hc2,hw]
 iterate 4 (refine Zn hD rfl rfl ?_;simp[hc2,hw])
 refine Zo ?_ (by simp[hc2,hw]<;>omega);simp[hc2,hw]
 refine WL.nil (hK _ (Wz.to rfl rfl rfl ?_))
 simp[g7]
 simp at hT;subst hT
 refine Zc rfl ?_ ?_<;>intro hb0<;>try simp at hb0
 have ht:cnS v y c=c+1:=by unfold cnS;rw[if_pos (by simpa using hb0)]
 have hsm:True:=trivial
 apply Zs;intros
 iterate 3 (refine Zo ?_ (by simp[hc2,hw]<;>omega);simp[hc2,hw])
 exact Zx
 refine⟨.inl rfl,⟨_,congrArg (List.cons _) (by simp[ht,hsm])⟩,?_⟩
 simp[f357,ht]
 have ht:cnS v y c=c:=by unfold cnS;rw[if_neg (by simpa using hb0)]
 have hsm:=EB _ _ _ _ hcap
 refine W.skip ?_
 refine⟨.inl rfl,⟨_,congrArg (List.cons _) (by simp[ht,hsm])⟩,?_⟩
 simp[f357,ht]
theorem Yh (x:A0) (v:ByteArray) (hp:x.wd) (h:HP):CS cx.P 289 [.d ((x).dd false),.d (.lf (.string (v)))] h (.d (.lf (.int .i64 (ocW v x)))) h:=by
 refine Xe func289 rfl 10 [.tmp 4] ?_
 let M:List Nat:=[]
 let G:List Nat:=[]
 have H:=AN
 repeat' (first|(refine W.fzR (id:=2) 3 3 [2,5] [2,5] ?_)|(refine XlH G func255 (H7 x A0.wd (fun x h=>⟨Cz h,Bj h⟩) 357 f357 _ ⟨func357,rfl,rfl⟩ 5 [.lf (.string v)] (fun c=> .lf (.int .i64 (IntKind.i64.wrap ((c:Nat):Int)))) (cnS v) (fun _=>True) (fun _ _ _ _=>trivial) (fun y _ c _ lv h hcap=>WG v y c lv 5 h hcap) hp 0 trivial 0 _ (by simp)) ?_)|refine GO ?_|(refine Two.mk ?_ ?_<;>intro hb<;>(try simp at hb)<;>(try norm_cast at hb)<;>try replace H:=HN hb H)|(refine RG.mk ?_;(try clear hK hD);first|intro _ K hD hK|intro K hD hK)|(refine RF.mk ?_;intro hr)|(refine LF.mk ?_;(try clear hK hD);first|rfl|(simp[Jc,ocW, *];done)|(simp_all [Jc,ocW];done)|grind [Jc,ocW]))
instance (priority:=2000) iCntW (k:Int) (n:ByteArray) (l:List A0) (v:ByteArray):Ct cx 289 [.d (uK k n l),.d (.lf (.string (v)))] (A0.wd (⟨k,n,l⟩:A0)) (.d (.lf (.int .i64 (ocW v (⟨k,n,l⟩:A0))))):=⟨fk1 func289,fun hp h=>by have q:=Yh (⟨k,n,l⟩:A0) v hp h;first|exact q|simpa using q⟩
instance (priority:=2000) iOccW (v:ByteArray) (k:Int) (n:ByteArray) (l:List A0):Ct cx 389 [.d (.lf (.string (v))),.d (uK k n l)] (A0.wd (⟨k,n,l⟩:A0)∧AQ (⟨k,n,l⟩:A0)<4611686018427387904) (.d (.lf (.bool (decide (0<occ v (⟨k,n,l⟩:A0)))))):=by
 refine Xi func389 9 [.tmp 4] [] [] AN trivial ?_;intro hp h M G H E
 have hoe:=Um (v:=v) hp.2;have hwd:=hp.1;replace H:=AI hoe (AI hwd H)
 all_goals exact GA0
theorem dw (x:A0) (hp:x.wd) (h:HP):CS cx.P 182 [.d ((x).dd false)] h (.d (.lf (.bool (Bq x)))) h:=by
 refine Xe func182 rfl 8 [.tmp 2] ?_
 let M:List Nat:=[]
 let G:List Nat:=[]
 have H:=AN
 repeat' (first|(refine XlH G func255 (H7 x A0.wd (fun x h=>⟨Cz h,Bj h⟩) 256 f256 _ ⟨func256,rfl,rfl⟩ 3 [] (fun b=> .lf (.bool b)) pjS (fun _=>True) (fun _ _ _ _=>trivial) (fun y _ c _ lv h hcap=>QF y c lv 3 h hcap) hp false trivial 0 _ (by simp)) ?_)|refine GO ?_|(refine Two.mk ?_ ?_<;>intro hb<;>(try simp at hb)<;>(try norm_cast at hb)<;>try replace H:=HN hb H)|(refine RG.mk ?_;(try clear hK hD);first|intro _ K hD hK|intro K hD hK)|(refine RF.mk ?_;intro hr)|(refine LF.mk ?_;(try clear hK hD);first|rfl|(simp[Nl, *];done)|(simp_all [Nl];done)|grind [Nl]))
instance (priority:=2000) iPjW (k:Int) (n:ByteArray) (l:List A0):Ct cx 182 [.d (uK k n l)] (A0.wd (⟨k,n,l⟩:A0)) (.d (.lf (.bool (Bq (⟨k,n,l⟩:A0))))):=⟨fk1 func182,fun hp h=>by have q:=dw (⟨k,n,l⟩:A0) hp h;first|exact q|simpa using q⟩
theorem Pd {U:List ByteArray} (y:A0) (o:List ByteArray) (h:y.wd∧vin U y) (ho:o.Nodup∧∀v∈o,v∈U):(GW y o).Nodup∧∀v∈GW y o,v∈U:=OK (fun e=>GL h.2 e) ho
theorem Tm {U:List ByteArray} {l:List A0} (h:∀y∈l,y.wd∧vin U y) (k:Nat):(tvJ l [] k).Nodup∧∀v∈tvJ l [] k,v∈U:=IL _ _ (L5 fun x hx=>(h x (List.mem_of_mem_take hx)).2) ⟨by simp,by simp⟩
theorem c7 {l:List A0} {k:Nat} (h:k<l.length):ev GW l[k] (tvJ l [] k)=tvJ l [] (k+1):=by rw[Vl];exact OL h
theorem XE {l:List A0} {k:Nat} (h:l.length≤k):tvJ l [] k=CC l []:=by unfold tvJ;rw[List.take_of_length_le h]
theorem YZ (l:List A0) (U:List ByteArray) (hp:l.length≤134217728∧U.length≤67108864∧∀y∈l,y.wd∧vin U y) (h:HP):CS cx.P 257 [.d (.sl false Ag ((l).map (A0.dd false)))] h (.d (.sl true .one (((CC l [])).map (dS)))) h:=by
 refine Xe func257 rfl 18 [.tmp 2] ?_
 let M:List Nat:=[12,17]
 let G:List Nat:=[]
 have H:=AN
 obtain⟨hll,hul,hyl⟩:=hp
 repeat' (first|(refine XlH G func255 (H7 l[k0] (fun y:A0=>y.wd∧vin U y) (fun x h=>⟨Cz h.1,fun y hy=>⟨Bj h.1 y hy,Dy (Eb h.2) y hy⟩⟩) 324 f324 _ ⟨func324,rfl,rfl⟩ 3 [] (fun (o:List ByteArray)=>DD.sl true .one (o.map dS)) GW (fun o:List ByteArray=>o.Nodup∧∀v∈o,v∈U) Pd (fun y _ o ho lv h hcap=>LH y o (by have:=Bu ho.1 ho.2;omega) lv 3 h hcap) (hyl _ (gm hkk)) (tvJ l [] k0) (Tm hyl k0) 0 _ (by simp)) ?_)|refine GO ?_|(refine Two.mk ?_ ?_<;>intro hb<;>(try simp at hb)<;>(try norm_cast at hb)<;>try replace H:=HN hb H)|(refine RG.mk ?_;(try clear hK hD);first|intro _ K hD hK|intro K hD hK)|(refine RF.mk ?_;intro hr)|(refine LF.mk ?_;(try clear hK hD);first|rfl|(simp[*];done)|(simp_all;done)|grind))
 refine W.loopR [3,7,8] [] (fun k0 _=>[(9,.d (.lf (.int .i64 (k0:Int))))]) (fun k0 _=>[(3,.d (.sl true .one (((tvJ l [] k0)).map (dS))))]) (l.length) (fun _ _=>True) (fun S=>()) rfl (by simp[Mi]) (by first|trivial|rfl|(simp;done)|(simp[];done)|(simp_all [];done)) ?_
 ·intro k0 hk0 s0 hi0 T hT;simp at hT;subst hT
  by_cases hkk:k0<l.length
  rotate_left
  have hse:=XE (show l.length≤k0 by omega);replace H:=AI hse H
  rotate_left
  have hsn:=c7 hkk;replace H:=AI hsn H
  all_goals repeat' (first|(refine XlH G func255 (H7 l[k0] (fun y:A0=>y.wd∧vin U y) (fun x h=>⟨Cz h.1,fun y hy=>⟨Bj h.1 y hy,Dy (Eb h.2) y hy⟩⟩) 324 f324 _ ⟨func324,rfl,rfl⟩ 3 [] (fun (o:List ByteArray)=>DD.sl true .one (o.map dS)) GW (fun o:List ByteArray=>o.Nodup∧∀v∈o,v∈U) Pd (fun y _ o ho lv h hcap=>LH y o (by have:=Bu ho.1 ho.2;omega) lv 3 h hcap) (hyl _ (gm hkk)) (tvJ l [] k0) (Tm hyl k0) 0 _ (by simp)) ?_)|refine GO ?_|(refine Two.mk ?_ ?_<;>intro hb<;>(try simp at hb)<;>(try norm_cast at hb)<;>try replace H:=HN hb H)|(refine RG.mk ?_;(try clear hK hD);first|intro _ K hD hK|intro K hD hK)|(refine RF.mk ?_;intro hr)|(refine LF.mk ?_;(try clear hK hD);first|rfl|(simp[*];done)|(simp_all;done)|grind))
instance (priority:=2000) iy (l:List A0):Ct cx 257 [.d (.sl false Ag ((l).map (A0.dd false)))] (l.length≤134217728∧∃U:List ByteArray,U.length≤67108864∧∀y∈l,y.wd∧vin U y) (.d (.sl true .one (((CC l [])).map (dS)))):=⟨fk1 func257,fun hp h=>by have q:=YZ l hp.2.choose ⟨hp.1,hp.2.choose_spec⟩ h;first|exact q|simpa using q⟩
instance (priority := 2000) iVar1 (k : Int) (n : ByteArray) (l : List A0) : Ct cx 257 [.d (.sl false Ag [(uK k n l)])] (tvO (⟨k, n, l⟩ : A0) []) (.d (.sl true .one (((tv (⟨k, n, l⟩ : A0))).map (dS)))) := ⟨fk1 func257, fun hp h => by
 obtain⟨hw,U,h1,h2, -⟩:=hp
 have q:=(iy [(⟨k,n,l⟩:A0)]).cs ⟨by simp,U,h1,by simpa using⟨hw,h2⟩⟩ h
 simpa[CC,tv] using q⟩
instance (priority:=2000) iTypV (k:Int) (n:ByteArray) (l:List A0):Ct cx 183 [.d (uK k n l)] (tvO (⟨k,n,l⟩:A0) []) (.d (.sl true .one (((tv (⟨k,n,l⟩:A0))).map (dS)))):=by
 refine Xi func183 6 [.tmp 2] [3] [] AN trivial ?_;intro hp h M G H E
 all_goals exact GA0
instance (priority:=2000) iGndW (k:Int) (n:ByteArray) (l:List A0):Ct cx 417 [.d (uK k n l)] (tvO (⟨k,n,l⟩:A0) []) (.d (.lf (.bool (gnd (⟨k,n,l⟩:A0))))):=by
 refine Xi func417 12 [.tmp 2] [] [] AN (@gnd.eq_1) ?_;intro hp h M G H E
 have hwd:=hp.1;have htl:=GX hp;have htv:tv (⟨k,n,l⟩:A0)=tvs (⟨k,n,l⟩:A0) []:=rfl;rw[←htv] at htl;replace H:=AI hwd (AI htl H)
 all_goals exact GA1
instance iCand (w:A1) (g:A9):Ct cx 414 [.d (As w),.d (Dr g)] (vP w∧GT 67108864 g.AM) (.d (.sl true Bc (((C0 w g)).map (A3.dd true)))):=by
 refine Xi func414 9 [.tmp 4] [] [6] AN trivial ?_;intro hp h M G H E
 obtain⟨hv,hgt⟩:=hp;have hvz:=hv.sz;have hvz2:w.sz≤134217728:=(by omega);have hrl:=Dh w;have hrl2:(BD w).length≤134217728:=(by omega);have hin:∀y∈BD w,inR w y:=(fun y hy=>Dw hy);have hca:(BD w).filter (cnd w g)=C0 w g:=rfl;replace H:=AI hvz2 (AI hv (AI hgt (AI hrl2 (AI hin (AI hca H)))))
 repeat' (first|(refine W.fzR (id:=1) 2 2 [3] [3] ?_)|(refine W.fzR (id:=1) 3 3 [2] [] ?_)|(refine iWL ?_;refine Cw G ?_ (h:=C1 (e1:=by simp) (hct:=eC w)))|(refine iWL ?_;refine Xmw M ?_)|(refine iT ?_;refine XmF 4 ?_)|(refine IN.mk ?_;intros)|(refine iTw ?_;refine T2 ?_ ?_<;>((try clear H);intro hb H)<;>try exact hb.elim)|(refine LF.mk ?_;exact LX)|refine GN ?_)
instance iSelC (y:A3) (w:A1) (x:AJ):Ct cx 416 [.d (FR y),.el (As w),.el (E4 x)] (vP w∧inR w y∧x.Ar.sz≤134217727) (.d (.lf (.bool (Gp (Am w y).Ar x.Ar)))):=by
 refine Xi func416 18 [.tmp 4] [] [] AN trivial ?_;intro hp h M G H E
 obtain⟨hv,ho,hxz⟩:=hp;have hvz:=hv.sz;have hvz2:w.sz≤134217728:=(by omega);replace H:=AI hvz2 (AI hxz H)
 have hr:=ho;have hd:=(hv.hd _ hr).1;have hs:=C9 hr;have hw0:(Am w y).Ar.sz≤134217727:=(by have hq:=(Am w y).sz_eq;unfold szs at hq;omega);have ht0:AQ (Am w y).Ar≤134217728:=Nat.le_trans hd.1 (by decide);replace H:=AI hr (AI hd (AI hw0 (AI ht0 H)))
 all_goals exact GA0
instance j3 (w:A1) (g:A9):Ct cx 365 [.d (As w),.d (Dr g)] (vP w∧GT 67108864 g.AM) (.tp [.d (.st [.lf (.int .i64 ((sel w g).1.BI)),.lf (.int .i64 ((sel w g).1.fAt))]),.d (.lf (.int .i64 ((sel w g).2)))]):=by
 refine Xi func365 43 [.cell 4 131,.tmp 5] [] [] AN trivial ?_;intro hp h M G H E
 have hv:=hp.1;have hvz:=hv.sz;have hvz2:w.sz≤134217728:=(by omega);have hgw:=hp.2.wd;have hgv:=hp.2;have hgo:=hp.2.tvO (Nat.le_refl _);have hcl:=O9 w g;replace H:=AI hvz2 (AI hgw (AI hv (AI hgv (AI hgo H))))
 repeat' (first|exact true|(refine W.fzR (id:=2) 2 2 [3,4,6] [3,4] ?_)|(refine W.fzR (id:=6) 9 9 [2,3,4,6,8,15,16,17] [3,4,8] ?_)|(refine IN.mk ?_;intros)|(refine iTw ?_;refine T2 ?_ ?_<;>((try clear H);intro hb H)<;>try (first|exact hb.elim|(exfalso;omega)))|(refine LF.mk ?_;exact LX)|refine BO.mk ?_ ?_|(apply iPJ;exact NPJ)|apply PXs.of|refine GN ?_|(refine XC [2,3,4,6,15,16] [3,4] 17 ((C0 w g).length) (fun k0=>sel w g=J0 w g ((C0 w g).drop k0)) ?_;intro k0 hk0 hi0;have hse:=fun h:(C0 w g).length≤k0=>hi0.trans (Mx w g h);by_cases hkk:k0<(C0 w g).length;rotate_left;have hse2:=hse (by omega);replace H:=AI hse2 H;rotate_left;have hr:=HE (gm hkk);have hd:=(hv.hd _ hr).1;have hs:=C9 hr;have hw0:(Am w (C0 w g)[k0]).Ar.sz≤134217727:=(by have hq:=(Am w (C0 w g)[k0]).sz_eq;unfold szs at hq;omega);have ht0:AQ (Am w (C0 w g)[k0]).Ar≤134217728:=Nat.le_trans hd.1 (by decide);replace H:=AI hr (AI hd (AI hw0 (AI ht0 H)));have hbq:∀y∈(C0 w g),vP w∧inR w y∧(Am w (C0 w g)[k0]).Ar.sz≤134217727:=(fun y hy=>⟨hv,HE hy,hw0⟩);have hbe:((C0 w g).any fun y=>Gp (Am w y).Ar (Am w (C0 w g)[k0]).Ar)= !Js w (C0 w g) (C0 w g)[k0]:=WU w (C0 w g) (C0 w g)[k0];replace H:=AI hbq (AI hbe H);have hsa:=hi0.trans (Q2 w g hkk);replace H:=AI hsa H;rcases hbb:Js w (C0 w g) (C0 w g)[k0] with _|_<;>replace H:=AI hbb H)|fail)
theorem Ye (N:Nat) (ii:∀(k m p q:Int) (l:List A7),Ct cx 409 [.d (.st [.lf (.int .i64 (k)),.lf (.int .i64 (m)),.st [.lf (.int .i64 (p)),.lf (.int .i64 (q))],.sl false Bd ((l).map (A7.dd false))])] (evN (⟨k,m,⟨p,q⟩,l⟩:A7)<N∧A7.wd (⟨k,m,⟨p,q⟩,l⟩:A7)) (.d (((⟨k,m,⟨p,q⟩,l⟩:A7)).dd true))):∀(l:List A7),Ct cx 433 [.d (.sl false Bd ((l).map (A7.dd false)))] (KE l<N∧l.length≤134217728∧(∀y∈l,y.wd)) (.d (.sl true Bd ((l).map (A7.dd true)))):=fun l=>by
 refine Xi func433 23 [.tmp 2] [15,22] [] AN trivial ?_;intro hp h M G H E
 have gx:∀k (hk:k<l.length),evN l[k]<N∧l[k].wd:=fun k hk=>⟨by have:=R2 hk;have:=hp.1;omega,hp.2.2 _ (gm hk)⟩;have ee:=Vn;replace H:=AI gx (AI ee H)
 have hF:TOF (A7.dd true) (.st [.lf (.int .i64 0),.lf (.int .i64 0),.st [.lf (.int .i64 0),.lf (.int .i64 0)],.sl true Bd []]) Bd l:=⟨A7.sh_dd true,rfl,by decide⟩
 repeat' (first|(refine iE ?_;(obtain rfl:k0=l.length:=(by omega));refine XFb 3 8 l ?_;refine GN ?_)|(refine IN.mk ?_;intros)|(refine iTw ?_;refine T2 ?_ ?_<;>((try clear H);intro hb H)<;>try exact hb.elim)|(refine LF.mk ?_;exact LX)|refine GN ?_|(refine XTb [3,9,10] 11 8 l ?_;intro k0 hk0 hr;have hs:=hr.2.2.1;(try simp at hs);replace H:=AI hr (AI hs H))|fail)
theorem e5:∀(N:Nat),∀(k m p q:Int) (l:List A7),Ct cx 409 [.d (.st [.lf (.int .i64 (k)),.lf (.int .i64 (m)),.st [.lf (.int .i64 (p)),.lf (.int .i64 (q))],.sl false Bd ((l).map (A7.dd false))])] (evN (⟨k,m,⟨p,q⟩,l⟩:A7)<N∧A7.wd (⟨k,m,⟨p,q⟩,l⟩:A7)) (.d (((⟨k,m,⟨p,q⟩,l⟩:A7)).dd true)):=by
 intro N
 induction N with
 |zero=>intro k m p q l;exact⟨fk1 func409,fun hp=>absurd hp.1 (Nat.not_lt_zero _)⟩
 |succ N ih=>
 intro k m p q l
 have jj:=Ye N ih
 refine Xi func409 8 [.cell 2 267] [7] [] AN trivial ?_;intro hp h M G H E
 have hla:KE l<N∧l.length≤134217728∧(∀y∈l,y.wd):=⟨by have:=Nm (⟨k,m,⟨p,q⟩,l⟩:A7);have:=hp.1;simp only at*;omega,(Vm (⟨k,m,⟨p,q⟩,l⟩:A7)).1 hp.2⟩;replace H:=AI hla H
 all_goals exact GA0
instance iEvC (k m p q:Int) (l:List A7):Ct cx 409 [.d (.st [.lf (.int .i64 (k)),.lf (.int .i64 (m)),.st [.lf (.int .i64 (p)),.lf (.int .i64 (q))],.sl false Bd ((l).map (A7.dd false))])] (A7.wd (⟨k,m,⟨p,q⟩,l⟩:A7)) (.d (((⟨k,m,⟨p,q⟩,l⟩:A7)).dd true)):=⟨fk1 func409,fun hp h=>(e5 _ k m p q l).cs ⟨Nat.lt_succ_self _,hp⟩ h⟩
instance j9 (k m p q:Int) (l:List A7) (r:List Int):Ct cx 362 [.d (.st [.lf (.int .i64 (k)),.lf (.int .i64 (m)),.st [.lf (.int .i64 (p)),.lf (.int .i64 (q))],.sl false Bd ((l).map (A7.dd false))]),.d (.sl false .one ((r).map (dI)))] (A7.wd (⟨k,m,⟨p,q⟩,l⟩:A7)∧r.length≤134217728) (.d (((apS (⟨k,m,⟨p,q⟩,l⟩:A7) r)).dd true)):=by
 refine Xi func362 22 [.cell 4 267] [17,21] [] AN (@Kx) ?_;intro hp h M G H E
 have hew:=hp.1;replace H:=AI hew H
 repeat' (first|(refine IN.mk ?_;intros)|(refine iTw ?_;refine T2 ?_ ?_<;>((try clear H);intro hb H)<;>try exact hb.elim)|(refine LF.mk ?_;exact LX)|refine GN ?_|(refine XL [4,5,10,11] [4] (fun k0 _=>[(12,.d (.lf (.int .i64 (k0:Int))))]) (fun k0 _=>[(5,.d (((GC (⟨k,m,⟨p,q⟩,l⟩:A7) r k0)).dd true))]) (r.length) (fun _ _=>True) rU ?_;intro k0 hk0 s0 hi0;have hsn:∀h:k0<r.length,GC (⟨k,m,⟨p,q⟩,l⟩:A7) r (k0+1)=⟨3,r[k0],⟨0,0⟩,[GC (⟨k,m,⟨p,q⟩,l⟩:A7) r k0]⟩:=fun h=>RU h;have hse:r.length≤k0→GC (⟨k,m,⟨p,q⟩,l⟩:A7) r k0=apS (⟨k,m,⟨p,q⟩,l⟩:A7) r:=fun h=>OE h)|fail)
instance (priority:=2000) iPth2 (w:A1) (s to:ByteArray):Ct cx 364 [.d (As w),.d (.lf (.string (s))),.d (.lf (.string (to)))] (True) (.tp [.d (.sl true .one ((((pth w to 8 s).getD [])).map (dN))),.d (.lf (.bool ((pth w to 8 s).isSome)))]):=by
 refine Xi func364 14 [.tmp 6,.tmp 7] [12] [] AN trivial ?_;intro hp h M G H E
 all_goals exact GA2
instance iAsm (w:A1) (l:List A9):Ct cx 360 [.d (As w),.d (.sl false BA ((l).map (A9.dd false)))] (w.sz≤134217728∧l.length≤4∧(∀b∈l,b.AM.wd)) (.d (.sl true Bf (((asm w l)).map (AD.dd true)))):=by
 refine Xi func360 62 [.tmp 4] [19,20,40,46,48,55,61] [] AN (AI @Jt<|@Cu) ?_;intro hp h M G H E
 have hzw:=hp.1;have hll:=hp.2.1;have hwt:=fun k (h:k<l.length)=>hp.2.2 _ (gm h);have ho1:=bQ;have ho2:=bP;have ho3:=bO;replace H:=AI hzw (AI hwt (AI ho1 (AI ho2 (AI ho3 H))))
 repeat' (first|(refine iWL ?_;refine Cr M ?_)|(refine iDL ?_;refine CE M ?_)|(refine IN.mk ?_;intros)|(refine iTw ?_;refine T2 ?_ ?_<;>((try clear H);intro hb H)<;>try exact hb.elim)|(refine LF.mk ?_;exact LX)|refine GN ?_|(refine XL [2,13,14] [2] (fun k0 _=>[(15,.d (.lf (.int .i64 (k0:Int)))),(5,.d (.sl true Bf (((asK w l k0)).map (AD.dd true))))]) (fun _ _=>[]) (l.length) (fun _ _=>True) rU ?_;intro k0 hk0 s0 hi0;have hal:=Ig w l k0 hk0;have ham:k0*(1+w.sz)≤4*(1+w.sz):=Nat.mul_le_mul_right _ (by omega);have hae:l.length≤k0→asK w l k0=asm w l:=fun h=>MB h;have han:∀h:k0<l.length,asK w l (k0+1)=(asK w l k0++[⟨l[k0],(k0:Int),[]⟩])++(Cb w l[k0].AK).map (asO w l[k0] k0):=fun h=>P9 h)|(refine XL [2,6,7,13,14,15,34,35] [2,7] (fun k1 _=>[(36,.d (.lf (.int .i64 (k1:Int)))),(5,.d (.sl true Bf ((((asK w l k0++[(⟨l[k0],(k0:Int),[]⟩:AD)])++mp (asO w l[k0] k0) (Cb w l[k0].AK) k1)).map (AD.dd true))))]) (fun _ _=>[]) ((Cb w l[k0].AK).length) (fun _ _=>True) rU ?_;intro k1 hk1 s1 hi1;have hsl:=Ev w l[k0].AK;have hml:=Bh (asO w l[k0] k0) hk1;have hme:(Cb w l[k0].AK).length≤k1→mp (asO w l[k0] k0) (Cb w l[k0].AK) k1=(Cb w l[k0].AK).map (asO w l[k0] k0):=fun h=>Ba h;have hmn:∀h:k1<(Cb w l[k0].AK).length,mp (asO w l[k0] k0) (Cb w l[k0].AK) (k1+1)=mp (asO w l[k0] k0) (Cb w l[k0].AK) k1++[⟨⟨(Cb w l[k0].AK)[k1],l[k0].AM⟩,(k0:Int),((pth w (Cb w l[k0].AK)[k1] 8 l[k0].AK).getD []).map fun (n:Nat)=>(n:Int)⟩]:=fun h=>Ep h)|fail)
theorem TV {a b:List ByteArray} {s:ByteArray} (h:s∈b):s∈unN a b:=PX.2 (.inr h)
instance iRenA (k:Int) (n:ByteArray) (l:List A0) (k2:Int) (n2:ByteArray) (l2:List A0):Ct cx 355 [.d (.sl false Ag [(uK k n l)]),.d (.sl false Ag [(uK k2 n2 l2)])] (hdS (⟨k,n,l⟩:A0)∧hdS (⟨k2,n2,l2⟩:A0)∧tvO (⟨k,n,l⟩:A0) []∧tvO (⟨k2,n2,l2⟩:A0) []∧A0.sz (⟨k,n,l⟩:A0)≤134217727∧A0.sz (⟨k2,n2,l2⟩:A0)≤134217727) (.d (.sl true B9 (((apR (tv (⟨k,n,l⟩:A0)) (tv (⟨k2,n2,l2⟩:A0)))).map (A5.dd true)))):=by
 refine Xi func355 47 [.tmp 4] [34,38,46] [] AN (AI @apR.eq_1<|AI @Kz<|AI @Ky<|@MK) ?_;intro hp h M G H E
 obtain⟨hda,hdb,ho1,ho2,hz1,hz2⟩:=hp;have hv1:=hda.2;have hv2:=hdb.2;have hl1:=GX ho1;have hl2:=GX ho2;have hl1':(tv (⟨k,n,l⟩:A0)).length≤67108864:=hl1;have hl2':(tv (⟨k2,n2,l2⟩:A0)).length≤67108864:=hl2;have hzc:=PK;have hab:(tv (⟨k,n,l⟩:A0)).length+(tv (⟨k2,n2,l2⟩:A0)).length≤536870912:=(by omega);replace H:=AI hab (AI ho1 (AI ho2 (AI hzc H)))
 repeat' (first|(refine IN.mk ?_;intros)|(refine iTw ?_;refine T2 ?_ ?_<;>((try clear H);intro hb H)<;>try (first|exact hb.elim|(exfalso;omega)))|(refine LF.mk ?_;exact LX)|refine GN ?_|(refine XL [0,17,18] [] (fun k0 _=>[(19,.d (.lf (.int .i64 (k0:Int)))),(6,.d (.sl true B9 (((apK (tv (⟨k,n,l⟩:A0)) (unN (tv (⟨k,n,l⟩:A0)) (tv (⟨k2,n2,l2⟩:A0))) (tv (⟨k2,n2,l2⟩:A0)) k0).2).map (A5.dd true)))),(5,.d (.sl true .one (((apK (tv (⟨k,n,l⟩:A0)) (unN (tv (⟨k,n,l⟩:A0)) (tv (⟨k2,n2,l2⟩:A0))) (tv (⟨k2,n2,l2⟩:A0)) k0).1).map (dS))))]) (fun _ _=>[]) ((tv (⟨k2,n2,l2⟩:A0)).length) (fun _ _=>True) rU ?_;intro k0 hk0 s0 hi0;by_cases hkk:k0<(tv (⟨k2,n2,l2⟩:A0)).length;rotate_left;have hke:=@RX (tv (⟨k,n,l⟩:A0)) (tv (⟨k2,n2,l2⟩:A0)) k0 (by omega);replace H:=AI hke H;rotate_left;have hul:=PY (tv (⟨k,n,l⟩:A0)) (tv (⟨k2,n2,l2⟩:A0));have hal:=@RW (tv (⟨k,n,l⟩:A0)) (unN (tv (⟨k,n,l⟩:A0)) (tv (⟨k2,n2,l2⟩:A0))) (tv (⟨k2,n2,l2⟩:A0)) k0;have hvs:=aN (x:=(⟨k2,n2,l2⟩:A0)) hz2 hkk;have hno:=@Wl (tv (⟨k,n,l⟩:A0)) (unN (tv (⟨k,n,l⟩:A0)) (tv (⟨k2,n2,l2⟩:A0))) (tv (⟨k2,n2,l2⟩:A0)) k0 hkk;have hye:=@RV (tv (⟨k,n,l⟩:A0)) (unN (tv (⟨k,n,l⟩:A0)) (tv (⟨k2,n2,l2⟩:A0))) (tv (⟨k2,n2,l2⟩:A0)) k0 hkk;have hvu:(tv (⟨k2,n2,l2⟩:A0))[k0]∈(apK (tv (⟨k,n,l⟩:A0)) (unN (tv (⟨k,n,l⟩:A0)) (tv (⟨k2,n2,l2⟩:A0))) (tv (⟨k2,n2,l2⟩:A0)) k0).1:=a0 k0 _ (TV (gm hkk));rw[←Yz hvu] at hye;replace H:=AI hno (AI hye H))|(refine XL [0,5,6,8,17,18,19] [] (fun k1 _=>[(9,.d (.lf (.string ((zit k1 (tv (⟨k2,n2,l2⟩:A0))[k0])))))]) (fun _ _=>[]) (zN (apK (tv (⟨k,n,l⟩:A0)) (unN (tv (⟨k,n,l⟩:A0)) (tv (⟨k2,n2,l2⟩:A0))) (tv (⟨k2,n2,l2⟩:A0)) k0).1 (tv (⟨k2,n2,l2⟩:A0))[k0]) (fun _ _=>True) rU ?_;intro k1 hk1 s1 hi1;have hzs:=FM k1 (tv (⟨k2,n2,l2⟩:A0))[k0];by_cases hkz:k1<zN (apK (tv (⟨k,n,l⟩:A0)) (unN (tv (⟨k,n,l⟩:A0)) (tv (⟨k2,n2,l2⟩:A0))) (tv (⟨k2,n2,l2⟩:A0)) k0).1 (tv (⟨k2,n2,l2⟩:A0))[k0];rotate_left;have hze:=@PL (apK (tv (⟨k,n,l⟩:A0)) (unN (tv (⟨k,n,l⟩:A0)) (tv (⟨k2,n2,l2⟩:A0))) (tv (⟨k2,n2,l2⟩:A0)) k0).1 (tv (⟨k2,n2,l2⟩:A0))[k0] k1 (by omega);have hzn:=VW (apK (tv (⟨k,n,l⟩:A0)) (unN (tv (⟨k,n,l⟩:A0)) (tv (⟨k2,n2,l2⟩:A0))) (tv (⟨k2,n2,l2⟩:A0)) k0).1 (tv (⟨k2,n2,l2⟩:A0))[k0];replace H:=AI hze (AI hzn H);rotate_left;have hzl:=ML hkz;have hzx:=T5 k1 (tv (⟨k2,n2,l2⟩:A0))[k0];have hzb:(zit k1 (tv (⟨k2,n2,l2⟩:A0))[k0]).size+1≤9223372036854775807:=(by have h1:=aE (apK (tv (⟨k,n,l⟩:A0)) (unN (tv (⟨k,n,l⟩:A0)) (tv (⟨k2,n2,l2⟩:A0))) (tv (⟨k2,n2,l2⟩:A0)) k0).1 (tv (⟨k2,n2,l2⟩:A0))[k0];omega);replace H:=AI hzl (AI hzx (AI hzb H)))|fail)
