/- Part 24. No condition. -/
import Derived.Test.YtgihkamifpmfdaaGreatDoorM20
import Derived.Test.YtgihkamifpmfdaaGreatDoorM23
namespace Go.Proofs.YtgihkamifpmfdaaGreatDoor
open Go.RowKit Tryz
set_option linter.unusedVariables false
set_option maxRecDepth 10000
set_option linter.unusedSimpArgs false
set_option maxHeartbeats 4000000
theorem PA (s:BA') (hs:s.size≤134217728) (h:HP):CS cx.P 222 [dS' s] h (dB' (!BV s)) h:=by
 refine Ze func222 rfl 6 ?_
 refine Zw ?_
 apply Zr;intros
 refine Zo ?_;simp
 refine Zl [] rfl func145 (CW s hs _) ?_;simp
 iterate 2 (refine Zo ?_;simp)
 exact Zx
 refine W.ret (Zq ?_)
 simp[f222]
theorem GH (l:List BA') (hs:∀s∈l,s.size≤134217728) (hm:l.length≤134217728) (h:HP):CS cx.P 146 [.d (.sl false .one (l.map dS))] h (dB' (dst l && nms l)) h:=by
 refine Ze func146 rfl 10 ?_
 refine Zw ?_
 refine W.seq ?_
 refine W.regJ0 (D:=_) rfl fun _ K hD hK=> ?_
 refine Zo ?_;simp
 refine Zl [] rfl func77 (M7 l hm _) ?_;simp
 refine Zo ?_;simp
 refine WL.split 5 _ rfl (fun g5=> ?_) fun g5=> ?_<;>try simp at g5
 simp
 refine ZG' ?_;simp
 refine Zk hD rfl rfl [] rfl func152 (HT l (by omega) 222 f222 _ ⟨func222,rfl,rfl⟩ (fun s=> !BV s) (fun y hy h=>PA y (hs y hy) h) _) ?_;simp
 refine ZG' ?_;simp
 iterate 2 (refine Zo ?_;simp)
 refine WL.nil (hK _ ?_)
 refine W.ret (Zq ?_)
 simp[f146,nms,g5]
 simp
 iterate 3 (refine ZN' ?_;simp)
 iterate 2 (refine Zo ?_;simp)
 refine WL.nil (hK _ ?_)
 refine W.ret (Zq ?_)
 simp[f146,nms,g5]
theorem Pf (all:List BA') (hm:all.length≤4294967296) (s:BA') (lv k:Nat) (h:HP) (hcap:hpg h lv k=some (.d (.sl false .one (all.map dS)))):CS cx.P 153 [dS' s,.pt lv k []] h (dB' (!B7 all s)) h:=by
 have hc2:=Dh hcap
 refine Ze func153 rfl 8 ?_
 refine Zw2 ?_
 apply Zr;intros
 iterate 2 (refine Zo ?_ (by simp[hc2]<;>omega);simp[hc2])
 refine Zl [] rfl func103 (DZ all s hm _) ?_ (by simp[hc2]);simp[hc2]
 iterate 2 (refine Zo ?_ (by simp[hc2]<;>omega);simp[hc2])
 exact Zx
 refine W.ret (Zq ?_)
 simp[f153]
theorem EG (l all:List BA') (hl:l.length≤1073741824) (hm:all.length≤4294967296) (h:HP):CS cx.P 76 [.d (.sl false .one (l.map dS)),.d (.sl false .one (all.map dS))] h (dB' (sub l all)) h:=by
 refine Ze func76 rfl 9 ?_
 refine Zw ?_
 apply Zr;intros
 iterate 2 (refine Zo ?_;simp)
 refine Zl [] rfl func152 (GP l hl 153 f153 _ ⟨func153,rfl,rfl⟩ (fun s=> !B7 all s) 3 (.sl false .one (all.map dS)) 0 (fun y hy lv h hc=>Pf all hm y lv 3 h hc) _ (by simp)) ?_;simp
 iterate 2 (refine Zo ?_;simp)
 exact Zx
 refine W.ret (Zq ?_)
 simp[f76,sub]
mutual
def ev {α:Type} (step:A0→α→α):A0→α→α
 |⟨k,n,l⟩,c=>evs step l (step ⟨k,n,l⟩ c)
def evs {α:Type} (step:A0→α→α):List A0→α→α
 |[],c=>c
 |x::l,c=>evs step l (ev step x c)
end
theorem Ra {α:Type} (step:A0→α→α):∀(a b:List A0) (c:α),evs step (a++b) c=evs step b (evs step a c)
 |[],b,c=>rfl
 |x::a,b,c=>by simp only[List.cons_append,evs,Ra step a b]
def evK {α:Type} (step:A0→α→α) (x:A0) (c:α) (k:Nat):α:=evs step (x.AB.take k) (step x c)
theorem Jw {α:Type} (step:A0→α→α) (x:A0) (c:α):evK step x c 0=step x c:=rfl
theorem Jy {α:Type} (step:A0→α→α) (x:A0) (c:α):evK step x c x.AB.length=ev step x c:=by cases x;simp[evK,ev]
theorem Jx {α:Type} {step:A0→α→α} {x:A0} {c:α} {k:Nat} (h:k<x.AB.length):ev step x.AB[k] (evK step x c k)=evK step x c (k+1):=by
 unfold evK
 rw[Y' h,Ra];rfl
mutual
theorem kz {α:Type} {step:A0→α→α} {sz:α→Nat} (hsz:∀y c,sz (step y c)≤sz c+1):∀(x:A0) (c:α),sz (ev step x c)≤sz c+AR x
 |⟨k,n,l⟩,c=>by
  have h1:=PO hsz l (step ⟨k,n,l⟩ c)
  have h2:=hsz ⟨k,n,l⟩ c
  simp only[ev,AR];omega
theorem PO {α:Type} {step:A0→α→α} {sz:α→Nat} (hsz:∀y c,sz (step y c)≤sz c+1):∀(l:List A0) (c:α),sz (evs step l c)≤sz c+Ag l
 |[],c=>by simp[evs,Ag]
 |x::l,c=>by
  have h1:=PO hsz l (ev step x c)
  have h2:=kz hsz x c
  simp only[evs,Ag];omega
end
theorem WZ {α:Type} {step:A0→α→α} {sz:α→Nat} (hsz:∀y c,sz (step y c)≤sz c+1) {x:A0} {c:α} {k:Nat} (h:k<x.AB.length):sz (evK step x c k)+AR x.AB[k]≤sz c+AR x:=by
 have h1:=PO hsz (x.AB.take k) (step x c)
 have h2:=hsz x c
 have h3:=Le h
 have h4:=Ih x (k+1)
 unfold DF at h3 h4
 unfold evK;omega
def cv {α:Type} (g:Nat) (k:Nat) (val:α→DD) (step:A0→α→α) (sz:α→Nat):Prop:=∀y:A0,y.sz≤134217728→∀c:α,sz c<1073741824→∀(lv:Nat) (h:HP),hpg h lv k=some (.d (val c))→CS cx.P g [.d (y.dd false),.pt lv k []] h (.tp []) (hps h lv k (some (.d (val (step y c)))))
def pjS (y:A0) (b:Bool):Bool:=b||decide (y.AH=3)
def Gb (y:A0) (o:List BA'):List BA':=tvS o y.AH y.A5
mutual
theorem OC:∀(x:A0) (b:Bool),ev pjS x b=(b||Bq x)
 |⟨k,n,l⟩,b=>by simp only[ev,WS l,Bq,pjS];cases b<;>cases D2 l<;>simp
theorem WS:∀(l:List A0) (b:Bool),evs pjS l b=(b||D2 l)
 |[],b=>by simp[evs,D2]
 |x::l,b=>by simp only[evs,D2,OC x,WS l,Bool.or_assoc]
end
mutual
theorem WV:∀(x:A0) (o:List BA'),ev Gb x o=tvs x o
 |⟨k,n,l⟩,o=>by simp only[ev,WQ l,tvs,Gb]
theorem WQ:∀(l:List A0) (o:List BA'),evs Gb l o=CC l o
 |[],o=>rfl
 |x::l,o=>by simp only[evs,CC,WV x,WQ l]
end
theorem PQ {α:Type} (x:A0) (hz:x.sz≤134217728) (g:Nat) (fn:Func) (body:Code) (hg:CU cx.P g fn body) (k:Nat) (val:α→DD) (step:A0→α→α) (sz:α→Nat) (hsz:∀y c,sz (step y c)≤sz c+1) (hv:cv g k val step sz) (c:α) (hc:sz c+AR x≤1073741824) (lv:Nat) (ih:∀y∈x.AB,∀c,sz c+AR y≤1073741824→∀(lv:Nat) (h:HP),hpg h lv k=some (.d (val c))→CS cx.P 250 [.d (y.dd false),.fn g [.pt lv k []]] h (.tp []) (hps h lv k (some (.d (val (ev step y c)))))) (h:HP) (hcap:hpg h lv k=some (.d (val c))):CS cx.P 250 [.d (x.dd false),.fn g [.pt lv k []]] h (.tp []) (hps h lv k (some (.d (val (ev step x c))))):=by
 have hz2:=x.sz_eq;unfold szs at hz2
 have hc2:=Dh hcap
 have hts:0<AR x:=by cases x;simp only[AR];omega
 refine Ze func250 rfl 20 ?_
 refine Zw ?_
 apply Zr;intros
 iterate 2 (refine Zo ?_;simp)
 refine WL.call [] _ _ _ rfl rfl (by simp) (g:=g) (caps:=[.pt (lv+1) k []]) (by simp) (by simp) hg rfl (by simp) (by simp) (by simp) (hv x hz c (by omega) (lv+1) _ (by simpa using hc2)) rfl ?_;simp
 exact Zx
 refine Zw ?_
 refine W.block ?_
 refine W.loopT [1,10,11] [] (fun k0=>[(12,dI' k0)]) (fun _=>[]) x.AB.length (fun k0=>hps h lv k (some (.d (val (evK step x c k0))))) (by simp[Jw]) (by simp) fun k0 hk0 T hT=> ?_
 simp at hT;subst hT
 refine Zw ?_
 refine Zv rfl ?_ ?_<;>intro hb0<;>try simp at hb0
 have hx:=B2 hb0 (by omega)
 have hs:=Jx (step:=step) (c:=c) hb0
 refine W.skip ?_
 refine Zb ?_
 apply Zr;intros
 refine Zo ?_ (by simp[hb0,hx]<;>omega);simp[hb0,hx]
 refine Zm [15] ?_ (by simp[hb0,hx]<;>omega);simp[hb0,hx]
 iterate 2 (refine Zo ?_ (by simp[hb0,hx]<;>omega);simp[hb0,hx])
 exact Zx
 apply Zs;intros
 iterate 2 (refine Zo ?_ (by simp[hb0,hx]<;>omega);simp[hb0,hx])
 refine Zl [] rfl func250 (ih x.AB[k0] (gm hb0) (evK step x c k0) (by have:=WZ hsz (c:=c) hb0;omega) (lv+1) _ (by simpa using Dh (Et hcap))) ?_ (by simp[hb0,hx]);simp[hb0,hx]
 exact Zx
 apply Zs;intros
 iterate 2 (refine Zo ?_ (by simp[hb0,hx]<;>omega);simp[hb0,hx])
 exact Zx
 refine⟨hb0,Wz.toT (by simp[hs]) rfl ?_⟩
 simp
 have hkl:k0=x.AB.length:=by omega
 subst hkl
 simp only[Jy]
 refine W.exit ?_
 refine⟨.inl rfl,⟨_,rfl⟩,?_⟩
 simp[f250]
theorem FA {α:Type} (x:A0) (hz:x.sz≤134217728) (g:Nat) (fn:Func) (body:Code) (hg:CU cx.P g fn body) (k:Nat) (val:α→DD) (step:A0→α→α) (sz:α→Nat) (hsz:∀y c,sz (step y c)≤sz c+1) (hv:cv g k val step sz) (c:α) (hc:sz c+AR x≤1073741824) (lv:Nat) (h:HP) (hcap:hpg h lv k=some (.d (val c))):CS cx.P 250 [.d (x.dd false),.fn g [.pt lv k []]] h (.tp []) (hps h lv k (some (.d (val (ev step x c))))):=PQ x hz g fn body hg k val step sz hsz hv c hc lv (fun y hy c hc lv h hcap=>FA y (by have h1:=Ae A0.sz hy;have h2:=x.sz_eq;unfold szs at h2;omega) g fn body hg k val step sz hsz hv c hc lv h hcap) h hcap
termination_by SizeOf.sizeOf x
decreasing_by have:=List.sizeOf_lt_of_mem hy;have:=x.lt_fArgs;omega
theorem Qe (y:A0) (b:Bool) (lv k:Nat) (h:HP) (hcap:hpg h lv k=some (dB' b)):CS cx.P 316 [.d (y.dd false),.pt lv k []] h (.tp []) (hps h lv k (some (dB' (pjS y b)))):=by
 have hc2:=Dh hcap
 refine Ze func316 rfl 9 ?_
 refine Zw2 ?_
 refine W.regJ0 (D:=_) rfl fun _ K hD hK=> ?_
 iterate 2 (refine Zo ?_ (by simp[hc2]<;>omega);simp[hc2])
 refine WL.split 4 _ rfl (fun g4=> ?_) fun g4=> ?_<;>try simp at g4
 simp[hc2]
 iterate 3 (refine ZN' ?_;simp[hc2])
 iterate 2 (refine Zo ?_ (by simp[hc2]<;>omega);simp[hc2])
 refine WL.nil (hK _ ?_)
 refine⟨.inl rfl,⟨_,congrArg (List.cons _) (by simp[pjS,g4])⟩,?_⟩
 simp[f316,g4]
 simp[hc2]
 iterate 3 (refine ZG' ?_ (by simp[hc2]<;>omega);simp[hc2])
 iterate 2 (refine Zo ?_ (by simp[hc2]<;>omega);simp[hc2])
 refine WL.nil (hK _ ?_)
 refine⟨.inl rfl,⟨_,congrArg (List.cons _) (by simp[pjS,g4])⟩,?_⟩
 simp[f316,g4]
theorem cO (x:A0) (hz:x.sz≤134217728) (h:HP):CS cx.P 226 [.d (x.dd false)] h (dB' (Bq x)) h:=by
 have hts:=DG x
 have he:=OC x false
 refine Ze func226 rfl 8 ?_
 refine Zw ?_
 refine Zw ?_
 apply Zr;intros
 iterate 2 (refine Zo ?_;simp)
 refine Zl [] rfl func250 (FA x hz 316 f316 _ ⟨func316,rfl,rfl⟩ 3 (fun b=> .lf (.bool b)) pjS (fun _=>0) (fun _ _=>by omega) (fun y _ c _ lv h hc=>Qe y c lv 3 h hc) false (by omega) 0 _ (by simp)) ?_;simp
 exact Zx
 refine Zw ?_
 refine W.ret (Zq ?_)
 simp[f226,he]
theorem Ld (y:A0) (o:List BA') (ho:o.length<1073741824) (lv k:Nat) (h:HP) (hcap:hpg h lv k=some (.d (.sl true .one (o.map dS)))):CS cx.P 376 [.d (y.dd false),.pt lv k []] h (.tp []) (hps h lv k (some (.d (.sl true .one ((Gb y o).map dS))))):=by
 have hc2:=Dh hcap
 have hc3:∀x:DD,hpg (upH (hps h lv k (some (.d x)))) lv k=some (.d x):=fun x=>Dh (Et hcap)
 refine Ze func376 rfl 18 ?_
 refine Zw2 ?_
 refine W.seq ?_
 refine W.regJ (D:=_) [1,2] [2] [(12,.d (.lf (.bool (decide (y.AH=1) && !B7 o y.A5))))] [] rfl (fun _ K hD hK=> ?_) fun T hT=> ?_
 iterate 4 (refine Zo ?_ (by simp[hc2,hc3]<;>omega);simp[hc2,hc3])
 refine WL.split 6 _ rfl (fun g6=> ?_) fun g6=> ?_<;>try simp at g6
 simp[hc2,hc3]
 iterate 3 (refine ZG' ?_ (by simp[hc2,hc3]<;>omega);simp[hc2,hc3])
 refine Zk hD rfl rfl [] rfl func103 (DZ o y.A5 (by omega) _) ?_ (by simp[hc2,hc3]);simp[hc2,hc3]
 refine ZG' ?_ (by simp[hc2,hc3]<;>omega);simp[hc2,hc3]
 refine Zo ?_ (by simp[hc2,hc3]<;>omega);simp[hc2,hc3]
 refine WL.nil (hK _ (Wz.to rfl rfl rfl ?_))
 simp[g6]
 simp[hc2,hc3]
 iterate 5 (refine ZN' ?_;simp[hc2,hc3])
 refine Zo ?_ (by simp[hc2,hc3]<;>omega);simp[hc2,hc3]
 refine WL.nil (hK _ (Wz.to rfl rfl rfl ?_))
 simp[g6]
 simp at hT;subst hT
 refine Zc rfl ?_ ?_<;>intro hb0<;>try simp at hb0
 have ht:Gb y o=o++[y.A5]:=by unfold Gb tvS;rw[if_pos (by simpa using hb0)]
 have hsm:True:=trivial
 apply Zs;intros
 refine Zm [13] ?_ (by simp[hc2,hc3]<;>omega);simp[hc2,hc3]
 iterate 5 (refine Zo ?_ (by simp[hc2,hc3]<;>omega);simp[hc2,hc3])
 exact Zx
 refine⟨.inl rfl,⟨_,congrArg (List.cons _) (by simp[ht,hsm])⟩,?_⟩
 simp[f376,ht]
 have ht:Gb y o=o:=by unfold Gb tvS;rw[if_neg (by simpa using hb0)]
 have hsm:=ED _ _ _ _ hcap
 refine W.skip ?_
 refine⟨.inl rfl,⟨_,congrArg (List.cons _) (by simp[ht,hsm])⟩,?_⟩
 simp[f376,ht]
def KS (l:List A0) (k:Nat):List BA':=CC (l.take k) []
theorem SM (l:List A0):KS l 0=[]:=rfl
theorem SO (l:List A0):KS l l.length=CC l []:=by unfold KS;rw[List.take_length]
theorem SN {l:List A0} {k:Nat} (h:k<l.length):tvs l[k] (KS l k)=KS l (k+1):=by
 unfold KS
 rw[Y' h,GZ];rfl
theorem UM {l:List A0} {k:Nat} (h:k<l.length):(KS l k).length+AR l[k]≤Ag l:=by
 have h1:=GY (l.take k) []
 have h2:=Bk (l.take (k+1)) (l.drop (k+1))
 rw[List.take_append_drop,Y' h,Bk] at h2
 simp only[Ag,List.length_nil] at h1 h2
 unfold KS;omega
theorem KP (l:List A0) (hl:l.length≤134217728) (hs:∀y∈l,y.sz≤134217728) (hsz:Ag l≤1073741824) (h:HP):CS cx.P 317 [.d (.sl false Ai (l.map (A0.dd false)))] h (.d (.sl true .one ((CC l []).map dS))) h:=by
 refine Ze func317 rfl 18 ?_
 refine Zw ?_
 refine Zw ?_
 refine W.seq ?_
 refine Zw ?_
 refine W.block ?_
 refine W.loopk [3,7,8] [] (fun k0=>[(9,dI' k0)]) (fun k0=>[(3,.d (.sl true .one ((KS l k0).map dS)))]) l.length rfl (by simp[SM]) fun k0 hk0 T hT=> ?_
 simp at hT;subst hT
 refine Zw ?_
 refine Zv rfl ?_ ?_<;>intro hb0<;>try simp at hb0
 have hx:=B2 hb0 (by omega)
 have hl2:=UM hb0
 refine W.skip ?_
 refine Zb ?_
 apply Zr;intros
 refine Zo ?_ (by simp[hb0,hx]<;>omega);simp[hb0,hx]
 refine Zm [12] ?_ (by simp[hb0,hx]<;>omega);simp[hb0,hx]
 iterate 2 (refine Zo ?_ (by simp[hb0,hx]<;>omega);simp[hb0,hx])
 exact Zx
 apply Zs;intros
 iterate 2 (refine Zo ?_ (by simp[hb0,hx]<;>omega);simp[hb0,hx])
 refine Zl [] rfl func250 (FA l[k0] (hs _ (gm hb0)) 376 f376 _ ⟨func376,rfl,rfl⟩ 3 (fun o=> .sl true .one (o.map dS)) Gb List.length (fun y c=>Lc c y.AH y.A5) (fun y _ c hc lv h hcap=>Ld y c hc lv 3 h hcap) (KS l k0) (by omega) 0 _ (by simp)) ?_ (by simp[hb0,hx]);simp[hb0,hx]
 exact Zx
 apply Zs;intros
 iterate 2 (refine Zo ?_ (by simp[hb0,hx]<;>omega);simp[hb0,hx])
 exact Zx
 refine⟨hb0,Wz.to rfl rfl rfl ?_⟩
 have hs:=SN hb0
 simp[WV,hs]
 have hkl:k0=l.length:=by omega
 subst hkl
 have hres:=SO l
 refine W.exit ?_
 apply Zr;intros
 refine Zm [17] ?_;simp
 refine Zo ?_;simp
 exact Zx
 refine W.ret (Zq ?_)
 simp[f317,hres]
theorem R7 (x:A0) (hz:x.sz≤134217728) (h:HP):CS cx.P 227 [.d (x.dd false)] h (.d (.sl true .one ((tv x).map dS))) h:=by
 have hts:=DG x
 refine Ze func227 rfl 6 ?_
 refine Zw ?_
 apply Zr;intros
 refine Zm [3] ?_;simp
 refine Zo ?_;simp
 refine Zl [] rfl func317 (KP [x] (by simp) (by simpa using hz) (by simp[Ag];omega) _) ?_;simp
 refine Zo ?_;simp
 exact Zx
 refine W.ret (Zq ?_)
 simp[f227,tv,CC]
theorem Pi (l:List BA') (hm:l.length≤1073741824) (h:HP):CS cx.P 427 [.d (.sl false .one (l.map (dS)))] h (.d (.sl true .one (l.map (dS)))) h:=by
 refine Ze func427 rfl 8 ?_
 refine Zw ?_
 refine W.seq ?_
 refine W.seq ?_
 refine W.regJ0 (D:=_) rfl fun _ K hD hK=> ?_
 refine Zo ?_;simp
 refine WL.opNil rfl 39 39 4 _ rfl rfl (by simp) underlying39 rfl trivial fun b4 hnil4=> ?_;simp
 refine WL.nil (hK _ ?_)
 refine Zc rfl ?_ ?_<;>intro hb0<;>try simp at hb0
 have hl:l=[]:=by have:=hnil4 hb0;simpa using this
 subst hl
 refine Zw ?_
 refine W.ret (Zq ?_)
 simp[f427]
 refine W.skip ?_
 apply Zr;intros
 refine Zo ?_;simp
 refine Zm [6] ?_;simp
 iterate 2 (refine Zo ?_;simp)
 exact Zx
 refine W.ret (Zq ?_)
 simp[f427]
def Fy {α:Type} (L:List (List α)) (k:Nat):Nat:=((L.take k).map List.length).sum
def KZ {α:Type} (L:List (List α)) (k:Nat):List α:=(L.take k).flatten
theorem Ss {α:Type} (L:List (List α)):Fy L 0=0:=rfl
theorem TU {α:Type} (L:List (List α)):KZ L 0=[]:=rfl
theorem Qx {α:Type} {L:List (List α)} {k:Nat} (h:k<L.length):Fy L (k+1)=Fy L k+L[k].length:=by
 unfold Fy;rw[Y' h];simp only[List.map_append,List.map_cons,List.map_nil,List.sum_append,List.sum_cons,List.sum_nil,Nat.add_zero]
theorem az {α:Type} {L:List (List α)} {k:Nat} (h:k<L.length):KZ L k++L[k]=KZ L (k+1):=by
 unfold KZ;rw[Y' h];simp only[List.flatten_append,List.flatten_cons,List.flatten_nil,List.append_nil]
theorem LH {α:Type} (L:List (List α)):KZ L L.length=L.flatten:=by unfold KZ;rw[List.take_length]
theorem K9 {α:Type} (L:List (List α)) (k:Nat):(KZ L k).length=Fy L k:=by unfold KZ Fy;rw[List.length_flatten]
theorem Qy {α:Type} (L:List (List α)) (k:Nat):Fy L k≤Fy L L.length:=by
 have h:L.flatten=(L.take k).flatten++(L.drop k).flatten:=by rw[←List.flatten_append,List.take_append_drop]
 have h2:=congrArg List.length h
 rw[List.length_append, ←LH,K9] at h2
 have:=K9 L k
 unfold KZ at this
 omega
def QW (l:List BA'):DD:=.sl false .one (l.map (dS))
theorem JI (l:List BA'):QW l=.sl false .one (l.map (dS)):=rfl
theorem SE (L:List (List BA')):DD.vws (L.map QW)=L.map QW:=B6 (fun x=>by simp[JI]) L
attribute [simp] JI SE
theorem IL (L:List (List BA')) (hm:L.length≤134217728) (hs:Fy L L.length≤1073741824) (h:HP):CS cx.P 428 [.d (.sl false .one (L.map QW))] h (.d (.sl true .one (L.flatten.map (dS)))) h:=by
 refine Ze func428 rfl 36 ?_
 refine Zw ?_
 refine Zw ?_
 refine W.seq ?_
 refine Zw ?_
 refine W.block ?_
 refine W.loopk [0,9,10] [] (fun k0=>[(11,dI' k0),(3,dI' ((Fy L k0:Nat):Int))]) (fun _=>[]) L.length rfl (by simp[Ss]) fun k0 hk0 T hT=> ?_
 simp at hT;subst hT
 refine Zw ?_
 refine Zv rfl ?_ ?_<;>intro hb0<;>try simp at hb0
 have hx:=B2 hb0 (by omega)
 have hnx:=Qx hb0
 have hle:=Qy L (k0+1)
 have hw:=BH (n:=(Fy L k0:Int)+L[k0].length) (by omega) (by omega)
 have hw2:(Fy L (k0+1):Int)=(Fy L k0:Int)+L[k0].length:=by omega
 refine W.skip ?_
 refine Zb ?_
 refine Zw2 ?_
 refine Zw2 ?_
 refine Zw2 ?_
 refine Zc rfl ?_ ?_<;>intro hb1<;>try simp at hb1
 exfalso;omega
 refine W.skip ?_
 apply Zs;intros
 iterate 2 (refine Zo ?_ (by simp[hb0,hx,hw,hw2]<;>omega);simp[hb0,hx,hw,hw2])
 exact Zx
 refine⟨hb0,Wz.to rfl rfl rfl ?_⟩
 simp[hw2]
 have hkl:k0=L.length:=by omega
 subst hkl
 refine W.exit ?_
 apply Zr;intros
 refine Zo ?_;simp
 refine WL.callP [] _ _ _ rfl rfl (by simp) (g:=447) (caps:=[]) (by simp) (by simp) (fn:=f447) ⟨func447,rfl,rfl⟩ rfl (by simp) (by simp) (by simp) (Ir) (fun _ _=>rfl) (bQ (Fy L L.length) hs _) rfl ?_;simp
 refine Zo ?_;simp
 exact Zx
 refine W.seq ?_
 refine Zw ?_
 refine W.block ?_
 refine W.loopk [25,26] [] (fun k1=>[(27,dI' k1),(6,.d (.sl true .one ((KZ L k1).map (dS))))]) (fun _=>[]) L.length rfl (by simp[TU]) fun k1 hk1 T hT=> ?_
 simp at hT;subst hT
 refine Zw ?_
 refine Zv rfl ?_ ?_<;>intro hb2<;>try simp at hb2
 have hx1:=B2 hb2 (by omega)
 have hnx1:=Qx hb2
 have hle1:=Qy L (k1+1)
 have hcl:=K9 L k1
 refine W.skip ?_
 refine Zb ?_
 apply Zr;intros
 refine Zo ?_ (by simp[hb2,hx1]<;>omega);simp[hb2,hx1]
 refine Zm [30] ?_ (by simp[hb2,hx1]<;>omega);simp[hb2,hx1]
 refine Zo ?_ (by simp[hb2,hx1]<;>omega);simp[hb2,hx1]
 exact Zx
 apply Zs;intros
 refine Zm [31] ?_ (by simp[hb2,hx1]<;>omega);simp[hb2,hx1]
 refine Zm [32] ?_ (by simp[hb2,hx1]<;>omega);simp[hb2,hx1]
 iterate 2 (refine Zo ?_ (by simp[hb2,hx1]<;>omega);simp[hb2,hx1])
 exact Zx
 apply Zs;intros
 iterate 2 (refine Zo ?_ (by simp[hb2,hx1]<;>omega);simp[hb2,hx1])
 exact Zx
 refine⟨hb2,Wz.to rfl rfl rfl ?_⟩
 have hs:=az hb2
 rw[←hs]
 simp
 have hkl:k1=L.length:=by omega
 subst hkl
 simp only[LH]
 refine W.exit ?_
 apply Zr;intros
 refine Zm [35] ?_;simp
 refine Zo ?_;simp
 exact Zx
 refine W.ret (Zq ?_)
 simp[f428]
