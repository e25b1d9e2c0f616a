/- Part 27. No condition. -/
import Derived.Test.YtdooklofebdknaaGreatM25
import Derived.Test.YtdooklofebdknaaGreatM26
namespace Go.Proofs.YtdooklofebdknaaGreat
open Go.RowKit Go.MapKept Tryz
set_option maxRecDepth 10000
set_option linter.unusedSimpArgs false
set_option maxHeartbeats 4000000
set_option linter.unusedVariables false
mutual
def ev {α:Type} (step:A0→α→α):A0→α→α
 |⟨k,n,l⟩,c=>evs step l (step ⟨k,n,l⟩ c)
def evs {α:Type} (step:A0→α→α):List A0→α→α
 |[],c=>c
 |x::l,c=>evs step l (ev step x c)
end
theorem R1 {α:Type} (step:A0→α→α):∀(a b:List A0) (c:α),evs step (a++b) c=evs step b (evs step a c)
 |[],b,c=>rfl
 |x::a,b,c=>by simp only[List.cons_append,evs,R1 step a b]
def evK {α:Type} (step:A0→α→α) (x:A0) (c:α) (k:Nat):α:=evs step (x.AB.take k) (step x c)
theorem Jd {α:Type} (step:A0→α→α) (x:A0) (c:α):evK step x c 0=step x c:=rfl
theorem Jf {α:Type} (step:A0→α→α) (x:A0) (c:α):evK step x c x.AB.length=ev step x c:=by cases x;simp[evK,ev]
theorem Je {α:Type} {step:A0→α→α} {x:A0} {c:α} {k:Nat} (h:k<x.AB.length):ev step x.AB[k] (evK step x c k)=evK step x c (k+1):=by
 unfold evK
 rw[Y' h,R1];rfl
mutual
theorem jH {α:Type} {step:A0→α→α} {sz:α→Nat} (hsz:∀y c,sz (step y c)≤sz c+1):∀(x:A0) (c:α),sz (ev step x c)≤sz c+AQ x
 |⟨k,n,l⟩,c=>by
  have h1:=Oy hsz l (step ⟨k,n,l⟩ c)
  have h2:=hsz ⟨k,n,l⟩ c
  simp only[ev,AQ];omega
theorem Oy {α:Type} {step:A0→α→α} {sz:α→Nat} (hsz:∀y c,sz (step y c)≤sz c+1):∀(l:List A0) (c:α),sz (evs step l c)≤sz c+Ae l
 |[],c=>by simp[evs,Ae]
 |x::l,c=>by
  have h1:=Oy hsz l (ev step x c)
  have h2:=jH hsz x c
  simp only[evs,Ae];omega
end
theorem Vp {α:Type} {step:A0→α→α} {sz:α→Nat} (hsz:∀y c,sz (step y c)≤sz c+1) {x:A0} {c:α} {k:Nat} (h:k<x.AB.length):sz (evK step x c k)+AQ x.AB[k]≤sz c+AQ x:=by
 have h1:=Oy hsz (x.AB.take k) (step x c)
 have h2:=hsz x c
 have h3:=LI h
 have h4:=IP x (k+1)
 unfold DE at h3 h4
 unfold evK;omega
def bS {α:Type} (g:Nat) (k:Nat) (val:α→DD) (step:A0→α→α) (sz:α→Nat):Prop:=∀y:A0,y.sz≤134217728→∀c:α,sz c<1073741824→∀(lv:Nat) (h:HP),hpg h lv k=some (.d (val c))→CS cx.P g [.d (y.dd false),.pt lv k []] h (.tp []) (hps h lv k (some (.d (val (step y c)))))
def pjS (y:A0) (b:Bool):Bool:=b||decide (y.AH=3)
def GW (y:A0) (o:List ByteArray):List ByteArray:=tvS o y.AH y.A6
mutual
theorem Nl:∀(x:A0) (b:Bool),ev pjS x b=(b||Bq x)
 |⟨k,n,l⟩,b=>by simp only[ev,Vi l,Bq,pjS];cases b<;>cases D1 l<;>simp
theorem Vi:∀(l:List A0) (b:Bool),evs pjS l b=(b||D1 l)
 |[],b=>by simp[evs,D1]
 |x::l,b=>by simp only[evs,D1,Nl x,Vi l,Bool.or_assoc]
end
mutual
theorem Vl:∀(x:A0) (o:List ByteArray),ev GW x o=tvs x o
 |⟨k,n,l⟩,o=>by simp only[ev,Vh l,tvs,GW]
theorem Vh:∀(l:List A0) (o:List ByteArray),evs GW l o=CC l o
 |[],o=>rfl
 |x::l,o=>by simp only[evs,CC,Vl x,Vh l]
end
theorem P0 {α:Type} (x:A0) (hz:x.sz≤134217728) (g:Nat) (fn:Func) (body:Code) (hg:CT cx.P g fn body) (k:Nat) (val:α→DD) (step:A0→α→α) (sz:α→Nat) (hsz:∀y c,sz (step y c)≤sz c+1) (hv:bS g k val step sz) (c:α) (hc:sz c+AQ x≤1073741824) (lv:Nat) (ih:∀y∈x.AB,∀c,sz c+AQ y≤1073741824→∀(lv:Nat) (h:HP),hpg h lv k=some (.d (val c))→CS cx.P 255 [.d (y.dd false),.fn g [.pt lv k []]] h (.tp []) (hps h lv k (some (.d (val (ev step y c)))))) (h:HP) (hcap:hpg h lv k=some (.d (val c))):CS cx.P 255 [.d (x.dd false),.fn g [.pt lv k []]] h (.tp []) (hps h lv k (some (.d (val (ev step x c))))):=by
 have hz2:=x.sz_eq;unfold szs at hz2
 have hc2:=Df hcap
 have hts:0<AQ x:=by cases x;simp only[AQ];omega
 refine Ze func255 rfl 20 ?_
 apply Zr;intros
 refine Zo ?_;simp
 exact Zx
 apply Zr;intros
 iterate 2 (refine Zo ?_;simp)
 refine WL.call [] _ _ _ rfl rfl (by simp) (g:=g) (caps:=[.pt (lv+1) k []]) (by simp) (by simp) hg rfl (by simp) (by simp) (by simp) (hv x hz c (by omega) (lv+1) _ (by simpa using hc2)) rfl ?_;simp
 exact Zx
 apply Zr;intros
 iterate 4 (refine Zo ?_;simp)
 exact Zx
 refine W.block ?_
 refine W.loopT [1,10,11] [] (fun k0=>[(12,.d (.lf (.int .i64 (k0:Int))))]) (fun _=>[]) x.AB.length (fun k0=>hps h lv k (some (.d (val (evK step x c k0))))) (by simp[Jd]) (by simp) fun k0 hk0 T hT=> ?_
 simp at hT;subst hT
 apply Zr;intros
 refine Zo ?_;simp
 exact Zx
 refine Zv rfl ?_ ?_<;>intro hb0<;>try simp at hb0
 have hx:=B1 hb0 (by omega)
 have hs:=Je (step:=step) (c:=c) hb0
 refine W.skip ?_
 refine Zb ?_
 apply Zr;intros
 refine Zo ?_ (by simp[hb0,hx]<;>omega);simp[hb0,hx]
 refine Zm [15] ?_ (by simp[hb0,hx]<;>omega);simp[hb0,hx]
 iterate 2 (refine Zo ?_ (by simp[hb0,hx]<;>omega);simp[hb0,hx])
 exact Zx
 apply Zs;intros
 iterate 2 (refine Zo ?_ (by simp[hb0,hx]<;>omega);simp[hb0,hx])
 refine Zl [] rfl func255 (ih x.AB[k0] (gm hb0) (evK step x c k0) (by have:=Vp hsz (c:=c) hb0;omega) (lv+1) _ (by simpa using Df (Er hcap))) ?_ (by simp[hb0,hx]);simp[hb0,hx]
 exact Zx
 apply Zs;intros
 iterate 2 (refine Zo ?_ (by simp[hb0,hx]<;>omega);simp[hb0,hx])
 exact Zx
 refine⟨hb0,Wz.toT (by simp[hs]) rfl ?_⟩
 simp
 have hkl:k0=x.AB.length:=by omega
 subst hkl
 simp only[Jf]
 refine W.exit ?_
 refine⟨.inl rfl,⟨_,rfl⟩,?_⟩
 simp[f255]
theorem F8 {α:Type} (x:A0) (hz:x.sz≤134217728) (g:Nat) (fn:Func) (body:Code) (hg:CT cx.P g fn body) (k:Nat) (val:α→DD) (step:A0→α→α) (sz:α→Nat) (hsz:∀y c,sz (step y c)≤sz c+1) (hv:bS g k val step sz) (c:α) (hc:sz c+AQ x≤1073741824) (lv:Nat) (h:HP) (hcap:hpg h lv k=some (.d (val c))):CS cx.P 255 [.d (x.dd false),.fn g [.pt lv k []]] h (.tp []) (hps h lv k (some (.d (val (ev step x c))))):=P0 x hz g fn body hg k val step sz hsz hv c hc lv (fun y hy c hc lv h hcap=>F8 y (by have h1:=Ah A0.sz hy;have h2:=x.sz_eq;unfold szs at h2;omega) g fn body hg k val step sz hsz hv c hc lv h hcap) h hcap
termination_by SizeOf.sizeOf x
decreasing_by have:=List.sizeOf_lt_of_mem hy;have:=x.lt_fArgs;omega
theorem QF (y:A0) (b:Bool) (lv k:Nat) (h:HP) (hcap:hpg h lv k=some (.d (.lf (.bool (b))))):CS cx.P 256 [.d (y.dd false),.pt lv k []] h (.tp []) (hps h lv k (some (.d (.lf (.bool (pjS y b)))))):=by
 have hc2:=Df hcap
 refine Ze func256 rfl 9 ?_
 apply Zr;intros
 refine Zo ?_ (by simp[hc2]<;>omega);simp[hc2]
 exact Zx
 refine W.regJ0 (D:=_) rfl fun _ K hD hK=> ?_
 iterate 2 (refine Zo ?_ (by simp[hc2]<;>omega);simp[hc2])
 refine WL.split 4 _ rfl (fun g4=> ?_) fun g4=> ?_<;>try simp at g4
 simp[hc2]
 iterate 3 (refine Zn hD rfl rfl ?_;simp[hc2])
 iterate 2 (refine Zo ?_ (by simp[hc2]<;>omega);simp[hc2])
 refine WL.nil (hK _ ?_)
 refine⟨.inl rfl,⟨_,congrArg (List.cons _) (by simp[pjS,g4])⟩,?_⟩
 simp[f256,g4]
 simp[hc2]
 iterate 3 (refine Zg hD rfl rfl ?_ (by simp[hc2]<;>omega);simp[hc2])
 iterate 2 (refine Zo ?_ (by simp[hc2]<;>omega);simp[hc2])
 refine WL.nil (hK _ ?_)
 refine⟨.inl rfl,⟨_,congrArg (List.cons _) (by simp[pjS,g4])⟩,?_⟩
 simp[f256,g4]
theorem az (x:A0) (hz:x.sz≤134217728) (h:HP):CS cx.P 182 [.d (x.dd false)] h (.d (.lf (.bool (Bq x)))) h:=by
 have hts:=DF x
 have he:=Nl x false
 refine Ze func182 rfl 8 ?_
 apply Zr;intros
 iterate 2 (refine Zo ?_;simp)
 exact Zx
 apply Zr;intros
 iterate 2 (refine Zo ?_;simp)
 exact Zx
 apply Zr;intros
 iterate 2 (refine Zo ?_;simp)
 refine Zl [] rfl func255 (F8 x hz 256 f256 _ ⟨func256,rfl,rfl⟩ 3 (fun b=> .lf (.bool b)) pjS (fun _=>0) (fun _ _=>by omega) (fun y _ c _ lv h hc=>QF y c lv 3 h hc) false (by omega) 0 _ (by simp)) ?_;simp
 exact Zx
 apply Zr;intros
 iterate 2 (refine Zo ?_;simp)
 exact Zx
 refine W.ret (Zq ?_)
 simp[f182,he]
theorem LH (y:A0) (o:List ByteArray) (ho:o.length<1073741824) (lv k:Nat) (h:HP) (hcap:hpg h lv k=some (.d (.sl true .one (o.map dS)))):CS cx.P 324 [.d (y.dd false),.pt lv k []] h (.tp []) (hps h lv k (some (.d (.sl true .one ((GW y o).map dS))))):=by
 have hc2:=Df hcap
 have hc3:∀x:DD,hpg (upH (hps h lv k (some (.d x)))) lv k=some (.d x):=fun x=>Df (Er hcap)
 refine Ze func324 rfl 18 ?_
 apply Zr;intros
 refine Zo ?_ (by simp[hc2,hc3]<;>omega);simp[hc2,hc3]
 exact Zx
 refine W.seq ?_
 refine W.regJ (D:=_) [1,2] [2] [(12,.d (.lf (.bool (decide (y.AH=1) && !B6 o y.A6))))] [] rfl (fun _ K hD hK=> ?_) fun T hT=> ?_
 iterate 4 (refine Zo ?_ (by simp[hc2,hc3]<;>omega);simp[hc2,hc3])
 refine WL.split 6 _ rfl (fun g6=> ?_) fun g6=> ?_<;>try simp at g6
 simp[hc2,hc3]
 iterate 3 (refine Zg hD rfl rfl ?_ (by simp[hc2,hc3]<;>omega);simp[hc2,hc3])
 refine Zk hD rfl rfl [] rfl func115 (DY o y.A6 (by omega) _) ?_ (by simp[hc2,hc3]);simp[hc2,hc3]
 refine Zg hD rfl rfl ?_ (by simp[hc2,hc3]<;>omega);simp[hc2,hc3]
 refine Zo ?_ (by simp[hc2,hc3]<;>omega);simp[hc2,hc3]
 refine WL.nil (hK _ (Wz.to rfl rfl rfl ?_))
 simp[g6]
 simp[hc2,hc3]
 iterate 5 (refine Zn hD rfl rfl ?_;simp[hc2,hc3])
 refine Zo ?_ (by simp[hc2,hc3]<;>omega);simp[hc2,hc3]
 refine WL.nil (hK _ (Wz.to rfl rfl rfl ?_))
 simp[g6]
 simp at hT;subst hT
 refine Zc rfl ?_ ?_<;>intro hb0<;>try simp at hb0
 have ht:GW y o=o++[y.A6]:=by unfold GW tvS;rw[if_pos (by simpa using hb0)]
 have hsm:True:=trivial
 apply Zs;intros
 refine Zm [13] ?_ (by simp[hc2,hc3]<;>omega);simp[hc2,hc3]
 iterate 5 (refine Zo ?_ (by simp[hc2,hc3]<;>omega);simp[hc2,hc3])
 exact Zx
 refine⟨.inl rfl,⟨_,congrArg (List.cons _) (by simp[ht,hsm])⟩,?_⟩
 simp[f324,ht]
 have ht:GW y o=o:=by unfold GW tvS;rw[if_neg (by simpa using hb0)]
 have hsm:=EB _ _ _ _ hcap
 refine W.skip ?_
 refine⟨.inl rfl,⟨_,congrArg (List.cons _) (by simp[ht,hsm])⟩,?_⟩
 simp[f324,ht]
def K7 (l:List A0) (k:Nat):List ByteArray:=CC (l.take k) []
theorem Rm (l:List A0):K7 l 0=[]:=rfl
theorem Ro (l:List A0):K7 l l.length=CC l []:=by unfold K7;rw[List.take_length]
theorem Rn {l:List A0} {k:Nat} (h:k<l.length):tvs l[k] (K7 l k)=K7 l (k+1):=by
 unfold K7
 rw[Y' h,GS];rfl
theorem Tl {l:List A0} {k:Nat} (h:k<l.length):(K7 l k).length+AQ l[k]≤Ae l:=by
 have h1:=GR (l.take k) []
 have h2:=Bk (l.take (k+1)) (l.drop (k+1))
 rw[List.take_append_drop,Y' h,Bk] at h2
 simp only[Ae,List.length_nil] at h1 h2
 unfold K7;omega
theorem K4 (l:List A0) (hl:l.length≤134217728) (hs:∀y∈l,y.sz≤134217728) (hsz:Ae l≤1073741824) (h:HP):CS cx.P 257 [.d (.sl false Ag (l.map (A0.dd false)))] h (.d (.sl true .one ((CC l []).map dS))) h:=by
 refine Ze func257 rfl 18 ?_
 apply Zr;intros
 refine Zo ?_;simp
 exact Zx
 apply Zr;intros
 iterate 3 (refine Zo ?_;simp)
 exact Zx
 refine W.seq ?_
 apply Zr;intros
 iterate 3 (refine Zo ?_;simp)
 exact Zx
 refine W.block ?_
 refine W.loopk [3,7,8] [] (fun k0=>[(9,.d (.lf (.int .i64 (k0:Int))))]) (fun k0=>[(3,.d (.sl true .one ((K7 l k0).map dS)))]) l.length rfl (by simp[Rm]) fun k0 hk0 T hT=> ?_
 simp at hT;subst hT
 apply Zr;intros
 refine Zo ?_;simp
 exact Zx
 refine Zv rfl ?_ ?_<;>intro hb0<;>try simp at hb0
 have hx:=B1 hb0 (by omega)
 have hl2:=Tl hb0
 refine W.skip ?_
 refine Zb ?_
 apply Zr;intros
 refine Zo ?_ (by simp[hb0,hx]<;>omega);simp[hb0,hx]
 refine Zm [12] ?_ (by simp[hb0,hx]<;>omega);simp[hb0,hx]
 iterate 2 (refine Zo ?_ (by simp[hb0,hx]<;>omega);simp[hb0,hx])
 exact Zx
 apply Zs;intros
 iterate 2 (refine Zo ?_ (by simp[hb0,hx]<;>omega);simp[hb0,hx])
 refine Zl [] rfl func255 (F8 l[k0] (hs _ (gm hb0)) 324 f324 _ ⟨func324,rfl,rfl⟩ 3 (fun o=> .sl true .one (o.map dS)) GW List.length (fun y c=>LG c y.AH y.A6) (fun y _ c hc lv h hcap=>LH y c hc lv 3 h hcap) (K7 l k0) (by omega) 0 _ (by simp)) ?_ (by simp[hb0,hx]);simp[hb0,hx]
 exact Zx
 apply Zs;intros
 iterate 2 (refine Zo ?_ (by simp[hb0,hx]<;>omega);simp[hb0,hx])
 exact Zx
 refine⟨hb0,Wz.to rfl rfl rfl ?_⟩
 have hs:=Rn hb0
 simp[Vl,hs]
 have hkl:k0=l.length:=by omega
 subst hkl
 have hres:=Ro l
 refine W.exit ?_
 apply Zr;intros
 refine Zm [17] ?_;simp
 refine Zo ?_;simp
 exact Zx
 refine W.ret (Zq ?_)
 simp[f257,hres]
theorem Qh (x:A0) (hz:x.sz≤134217728) (h:HP):CS cx.P 183 [.d (x.dd false)] h (.d (.sl true .one ((tv x).map dS))) h:=by
 have hts:=DF x
 refine Ze func183 rfl 6 ?_
 apply Zr;intros
 iterate 2 (refine Zo ?_;simp)
 exact Zx
 apply Zr;intros
 refine Zm [3] ?_;simp
 refine Zo ?_;simp
 refine Zl [] rfl func257 (K4 [x] (by simp) (by simpa using hz) (by simp[Ae];omega) _) ?_;simp
 refine Zo ?_;simp
 exact Zx
 refine W.ret (Zq ?_)
 simp[f183,tv,CC]
theorem PI (l:List ByteArray) (hm:l.length≤1073741824) (h:HP):CS cx.P 386 [.d (.sl false .one (l.map (dS)))] h (.d (.sl true .one (l.map (dS)))) h:=by
 refine Ze func386 rfl 8 ?_
 apply Zr;intros
 refine Zo ?_;simp
 exact Zx
 refine W.seq ?_
 refine W.seq ?_
 refine W.regJ0 (D:=_) rfl fun _ K hD hK=> ?_
 refine Zo ?_;simp
 refine WL.opNil rfl 43 43 4 _ rfl rfl (by simp) underlying43 rfl trivial fun b4 hnil4=> ?_;simp
 refine WL.nil (hK _ ?_)
 refine Zc rfl ?_ ?_<;>intro hb0<;>try simp at hb0
 have hl:l=[]:=by have:=hnil4 hb0;simpa using this
 subst hl
 apply Zr;intros
 refine Zo ?_;simp
 exact Zx
 refine W.ret (Zq ?_)
 simp[f386]
 refine W.skip ?_
 apply Zr;intros
 refine Zo ?_;simp
 refine Zm [6] ?_;simp
 iterate 2 (refine Zo ?_;simp)
 exact Zx
 refine W.ret (Zq ?_)
 simp[f386]
def Fu {α:Type} (L:List (List α)) (k:Nat):Nat:=((L.take k).map List.length).sum
def KF {α:Type} (L:List (List α)) (k:Nat):List α:=(L.take k).flatten
theorem SJ {α:Type} (L:List (List α)):Fu L 0=0:=rfl
theorem Sp {α:Type} (L:List (List α)):KF L 0=[]:=rfl
theorem QY {α:Type} {L:List (List α)} {k:Nat} (h:k<L.length):Fu L (k+1)=Fu L k+L[k].length:=by
 unfold Fu;rw[Y' h];simp only[List.map_append,List.map_cons,List.map_nil,List.sum_append,List.sum_cons,List.sum_nil,Nat.add_zero]
theorem Za {α:Type} {L:List (List α)} {k:Nat} (h:k<L.length):KF L k++L[k]=KF L (k+1):=by
 unfold KF;rw[Y' h];simp only[List.flatten_append,List.flatten_cons,List.flatten_nil,List.append_nil]
theorem Ku {α:Type} (L:List (List α)):KF L L.length=L.flatten:=by unfold KF;rw[List.take_length]
theorem Jq {α:Type} (L:List (List α)) (k:Nat):(KF L k).length=Fu L k:=by unfold KF Fu;rw[List.length_flatten]
theorem QZ {α:Type} (L:List (List α)) (k:Nat):Fu L k≤Fu L L.length:=by
 have h:L.flatten=(L.take k).flatten++(L.drop k).flatten:=by rw[←List.flatten_append,List.take_append_drop]
 have h2:=congrArg List.length h
 rw[List.length_append, ←Ku,Jq] at h2
 have:=Jq L k
 unfold KF at this
 omega
def Q7 (l:List ByteArray):DD:=.sl false .one (l.map (dS))
theorem J1 (l:List ByteArray):Q7 l=.sl false .one (l.map (dS)):=rfl
theorem Rf (L:List (List ByteArray)):DD.vws (L.map Q7)=L.map Q7:=B5 (fun x=>by simp[J1]) L
attribute [simp] J1 Rf
theorem I9 (L:List (List ByteArray)) (hm:L.length≤134217728) (hs:Fu L L.length≤1073741824) (h:HP):CS cx.P 387 [.d (.sl false .one (L.map Q7))] h (.d (.sl true .one (L.flatten.map (dS)))) h:=by
 refine Ze func387 rfl 36 ?_
 apply Zr;intros
 refine Zo ?_;simp
 exact Zx
 apply Zr;intros
 refine Zo ?_;simp
 exact Zx
 refine W.seq ?_
 apply Zr;intros
 iterate 3 (refine Zo ?_;simp)
 exact Zx
 refine W.block ?_
 refine W.loopk [0,9,10] [] (fun k0=>[(11,.d (.lf (.int .i64 (k0:Int)))),(3,.d (.lf (.int .i64 ((Fu L k0:Nat):Int))))]) (fun _=>[]) L.length rfl (by simp[SJ]) fun k0 hk0 T hT=> ?_
 simp at hT;subst hT
 apply Zr;intros
 refine Zo ?_;simp
 exact Zx
 refine Zv rfl ?_ ?_<;>intro hb0<;>try simp at hb0
 have hx:=B1 hb0 (by omega)
 have hnx:=QY hb0
 have hle:=QZ L (k0+1)
 have hw:=BF (n:=(Fu L k0:Int)+L[k0].length) (by omega) (by omega)
 have hw2:(Fu L (k0+1):Int)=(Fu L k0:Int)+L[k0].length:=by omega
 refine W.skip ?_
 refine Zb ?_
 apply Zr;intros
 iterate 3 (refine Zo ?_ (by simp[hb0,hx,hw,hw2]<;>omega);simp[hb0,hx,hw,hw2])
 exact Zx
 apply Zr;intros
 iterate 5 (refine Zo ?_ (by simp[hb0,hx,hw,hw2]<;>omega);simp[hb0,hx,hw,hw2])
 exact Zx
 apply Zr;intros
 iterate 2 (refine Zo ?_ (by simp[hb0,hx,hw,hw2]<;>omega);simp[hb0,hx,hw,hw2])
 exact Zx
 refine Zc rfl ?_ ?_<;>intro hb1<;>try simp at hb1
 exfalso;omega
 refine W.skip ?_
 apply Zs;intros
 iterate 2 (refine Zo ?_ (by simp[hb0,hx,hw,hw2]<;>omega);simp[hb0,hx,hw,hw2])
 exact Zx
 refine⟨hb0,Wz.to rfl rfl rfl ?_⟩
 simp[hw2]
 have hkl:k0=L.length:=by omega
 subst hkl
 refine W.exit ?_
 apply Zr;intros
 refine Zo ?_;simp
 refine WL.callP [] _ _ _ rfl rfl (by simp) (g:=426) (caps:=[]) (by simp) (by simp) (fn:=f426) ⟨func426,rfl,rfl⟩ rfl (by simp) (by simp) (by simp) (Ia) (fun _ _=>rfl) (aC (Fu L L.length) hs _) rfl ?_;simp
 refine Zo ?_;simp
 exact Zx
 refine W.seq ?_
 apply Zr;intros
 iterate 3 (refine Zo ?_;simp)
 exact Zx
 refine W.block ?_
 refine W.loopk [25,26] [] (fun k1=>[(27,.d (.lf (.int .i64 (k1:Int)))),(6,.d (.sl true .one ((KF L k1).map (dS))))]) (fun _=>[]) L.length rfl (by simp[Sp]) fun k1 hk1 T hT=> ?_
 simp at hT;subst hT
 apply Zr;intros
 refine Zo ?_;simp
 exact Zx
 refine Zv rfl ?_ ?_<;>intro hb2<;>try simp at hb2
 have hx1:=B1 hb2 (by omega)
 have hnx1:=QY hb2
 have hle1:=QZ L (k1+1)
 have hcl:=Jq L k1
 refine W.skip ?_
 refine Zb ?_
 apply Zr;intros
 refine Zo ?_ (by simp[hb2,hx1]<;>omega);simp[hb2,hx1]
 refine Zm [30] ?_ (by simp[hb2,hx1]<;>omega);simp[hb2,hx1]
 refine Zo ?_ (by simp[hb2,hx1]<;>omega);simp[hb2,hx1]
 exact Zx
 apply Zs;intros
 refine Zm [31] ?_ (by simp[hb2,hx1]<;>omega);simp[hb2,hx1]
 refine Zm [32] ?_ (by simp[hb2,hx1]<;>omega);simp[hb2,hx1]
 iterate 2 (refine Zo ?_ (by simp[hb2,hx1]<;>omega);simp[hb2,hx1])
 exact Zx
 apply Zs;intros
 iterate 2 (refine Zo ?_ (by simp[hb2,hx1]<;>omega);simp[hb2,hx1])
 exact Zx
 refine⟨hb2,Wz.to rfl rfl rfl ?_⟩
 have hs:=Za hb2
 rw[←hs]
 simp
 have hkl:k1=L.length:=by omega
 subst hkl
 simp only[Ku]
 refine W.exit ?_
 apply Zr;intros
 refine Zm [35] ?_;simp
 refine Zo ?_;simp
 exact Zx
 refine W.ret (Zq ?_)
 simp[f387]
theorem I2 {w:World} {B b:Nat} {o:Obj} (h:b≠B):({ w with heap:=w.heap.setIfInBounds B o }:World).heap[b]? =w.heap[b]? :=by
 have:B≠b:=fun e=>h e.symm
 simp[this]
theorem UP {P:Program} {w:World} {B:Nat} {ks:List ByteArray} (h:ER w B ks) {T k e:TypeId} (hT:P.underlying T=some (.map k e)) (hk:P.underlying k=some .string) (s:ByteArray) (hs:B6 ks s=false):
  ∃o,(Instr.mapUpdate T (.map (some B)) (.string s) (.bool true)).run P w=.ok () { w with heap:=w.heap.setIfInBounds B o }∧ER { w with heap:=w.heap.setIfInBounds B o } B (ks++[s]):=by
 obtain⟨es,clock,hb,he⟩:=h
 obtain⟨-,f2⟩:=H3 s es.toList ks 0 he
 have hc:(Instr.checkKey false 10000 k (.string s)).run P w=.ok () w:=by
  unfold Instr.checkKey
  simp[run_underlying hk]
 have hlt:B<w.heap.size:=(Array.getElem?_eq_some_iff.1 hb).1
 refine⟨.map (es.push ⟨.string s,.bool true,clock⟩) (clock+1),?_,⟨es.push ⟨.string s,.bool true,clock⟩,clock+1,?_,?_⟩⟩
 ·unfold Instr.mapUpdate
  simp only[Sem.run_bind,run_underlying hT,Result.andThen_ok,Go.MapKept.run_getObj_map hb,hc,Instr.findKey,run_underlying hk,f2 hs,Sem.run_pure]
  exact Go.MapKept.run_setObj_map _ hb
 ·simp[hlt]
 ·rw[Array.toList_push,List.map_append,List.map_append,he];rfl
theorem dW {w:World} {F:Nat→Nat} {B:Nat} {o:Obj} {E:Nat→Prop} (h0:F B=0) (hE:E B):Ks w F { w with heap:=w.heap.setIfInBounds B o } F E where
 os:=rfl
 tape:=rfl
 output:=rfl
 size:=by simp
 cell:=fun b q hq=>Ft (I2 (fun e=>by subst e;omega)) q
 mono:=fun _=>Nat.le_refl _
 out:=fun b _ hn=>⟨I2 (fun e=>hn (by rw[e];exact hE)),rfl⟩
theorem dX {w:World} {F:Nat→Nat} {o:Obj} {E:Nat→Prop} (ht:∀b,w.heap.size≤b→F b=0):Ks w F (w.alloc o) F E:=by
 have he:∀b,b<w.heap.size→(w.alloc o).heap[b]? =w.heap[b]? :=fun b hb=>by
  show(w.heap.push o)[b]? =_
  rw[Array.getElem?_push_lt hb,Array.getElem?_eq_getElem hb]
 refine⟨rfl,rfl,rfl,?_,fun b q hq=> ?_,fun _=>Nat.le_refl _,fun b hb _=>⟨he b hb,rfl⟩⟩
 ·show w.heap.size≤(w.heap.push o).size
  simp
 ·rcases Nat.lt_or_ge b w.heap.size with h|h
  ·exact Ft (he b h) q
  ·have:=ht b h;omega
section
variable {c:Cx} {o:Oper} {S:St}
theorem OT (hd:∀k,o.dst=some k→k<S.n) (T:Nat) (ho:o.op=.makeMap T none):Snd c o S ⟨S.n,B0 S.tm o.dst (.mt []),S.hp⟩:=by
 intro w F Θ own a hR
 have hrun:(execOp a.eval o).run c.P w=.ok (.value (.map (some w.heap.size))) (w.alloc (.map #[] 0)):=by
  unfold execOp
  simp[ho,Instr.makeMap]
 have hsz:(w.alloc (.map #[] 0)).heap.size=w.heap.size+1:=by show(w.heap.push _).size=_;simp
 obtain⟨own',g1,g2⟩:=hR.fin (w':=w.alloc (.map #[] 0)) (F':=F) o.dst hd [] (.mt []) (.map (some w.heap.size)) [w.heap.size] (dX hR.top) (fun b hb=>hR.top b (by omega))
  (by simp only[rv];exact⟨fun u h=>(by cases h),_,rfl,rfl,hR.top _ (Nat.le_refl _),ER.new w⟩) (by simp) (fun b hb=>by simp only[List.mem_singleton] at hb;exact .inr (by omega)) (fun b hb=>by simp only[List.mem_singleton] at hb;omega)
 exact⟨_,_,F,Θ,own',.inl hrun,g1,g2⟩
theorem OU (hd:∀k,o.dst=some k→k<S.n) (T:Nat) (x i:Operand) (ho:o.op=.lookup T x i false) {v:Value} {ks:List ByteArray} {t:Nat} {s:ByteArray} (hx:evT c 0 S x=.pv v) (ox:okO c 0 x) (hi:evT c 0 S i=.d (.lf (.string s))) (oi:okO c 0 i) (hm:S.tm t=.mn v ks)
  {k e:Nat} (hT:c.P.underlying T=some (.map k e)) (hk:c.P.underlying k=some .string) (hz:∀w,(zeroValue e).run c.P w=.ok (.bool false) w):Snd c o S ⟨S.n,B0 S.tm o.dst (.d (.lf (.bool (B6 ks s)))),S.hp⟩:=by
 intro w F Θ own a hR
 obtain⟨e2, -⟩:=CN hR hi oi
 have hvx:=BT hR ox
 rw[hx] at hvx
 simp only[rv] at hvx
 obtain⟨-,e1⟩:=hvx
 have hb:=hR.tm t
 rw[hm] at hb
 simp only[rv] at hb
 obtain⟨h0,B,h1,h2,h3,h4⟩:=hb
 have h0:=h0 v rfl
 have hrun:(execOp a.eval o).run c.P w=.ok (.value (.bool (B6 ks s))) w:=by
  unfold execOp
  have e3:a.eval x=.map (some B):=by rw[e1, ←h0,h1]
  simp[ho,e3,e2,LO h4 hT hk hz s]
 obtain⟨own',g1,g2⟩:=hR.pure o.dst hd [] List.nodup_nil (.d (.lf (.bool (B6 ks s)))) _ (Dp trivial)
 exact⟨_,w,F,Θ,own',.inl hrun,g1,g2⟩
theorem OR (hd:o.dst=none) (T:Nat) (x i:Operand) (ho:o.op=.mapUpdate T x i (.const (.bool true))) {v:Value} {ks:List ByteArray} {t:Nat} {s:ByteArray} (hx:evT c 0 S x=.pv v) (ox:okO c 0 x) (hi:evT c 0 S i=.d (.lf (.string s))) (oi:okO c 0 i) (hm:S.tm t=.mn v ks) (htn:t<S.n)
  {k e:Nat} (hT:c.P.underlying T=some (.map k e)) (hk:c.P.underlying k=some .string) (hs:B6 ks s=false):Snd c o S ⟨S.n,upd (BB S.tm [t]) t (.mn v (ks++[s])),S.hp⟩:=by
 intro w F Θ own a hR
 obtain⟨e2, -⟩:=CN hR hi oi
 have hvx:=BT hR ox
 rw[hx] at hvx
 simp only[rv] at hvx
 obtain⟨-,e1⟩:=hvx
 have hb:=hR.tm t
 rw[hm] at hb
 simp only[rv] at hb
 obtain⟨h0,B,h1,h2,h3,h4⟩:=hb
 have h0:=h0 v rfl
 obtain⟨ob,k1,k2⟩:=UP h4 hT hk s hs
 have hrun:(execOp a.eval o).run c.P w=.ok .skip { w with heap:=w.heap.setIfInBounds B ob }:=by
  unfold execOp
  have e3:a.eval x=.map (some B):=by rw[e1, ←h0,h1]
  have e4:a.eval (.const (.bool true))=.bool true:=rfl
  simp[ho,e3,e2,e4,k1]
 have hB:B∈own (.t t):=by rw[h2];simp
 obtain⟨own',w1,w2⟩:=hR.fin (w':={ w with heap:=w.heap.setIfInBounds B ob }) (F':=F) (some t) (fun k hk=>by cases hk;exact htn) [t] (.mn v (ks++[s])) (a.tmps.getD t undef) [B]
  (dW h3 ⟨t, by simp, hB⟩) (fun b hb => hR.top b (by simpa using hb)) (by simp only [rv]; exact ⟨fun u h => (by cases h; exact h0), B, h1, rfl, h3, k2⟩) (by simp) (fun b hb => by simp only [List.mem_singleton] at hb; subst hb; exact .inl ⟨t, by simp, hB⟩) (fun b hb => by
   simp only[List.mem_singleton] at hb;subst hb
   have:=hR.lt _ _ hB
   simpa using this)
 rw[Gk] at w1
 refine⟨undef,_,F,Θ,own',.inr ⟨rfl,hrun⟩,?_,w2⟩
 rw[hd]
 exact w1
theorem Rel.mtOpen {w:World} {F:Nat→Nat} {Θ:Ty} {own:Who→List Nat} {a:Act} (h:Rel w F Θ own S a) {t:Nat} {ks:List ByteArray} (ht:S.tm t=.mt ks):∃v,Rel w F Θ own ⟨S.n,upd S.tm t (.mn v ks),S.hp⟩ a:=by
 have hv:=h.tm t
 rw[ht] at hv
 simp only[rv] at hv
 obtain⟨-,hv⟩:=hv
 refine⟨a.tmps.getD t undef,h.asT t _ ?_⟩
 simp only[rv]
 exact⟨fun u q=>(by cases q;rfl),hv⟩
theorem W.mtOpen {code:Code} {Q:Exit→St→Prop} (t:Nat) {ks:List ByteArray} (k:∀v,W c code ⟨S.n,upd S.tm t (.mn v ks),S.hp⟩ Q) (ht:S.tm t=.mt ks:=by rfl):W c code S Q:=fun w F Θ own a hR=>by
 obtain⟨v,h⟩:=hR.mtOpen ht
 exact k v w F Θ own a h
end
section
variable {c:Cx} {M:List Nat} {ops:Array Oper} {o:Oper} {l:List Oper} {K:St→Prop} {Q:Exit→St→Prop} {code:Code} {n d k t:Nat} {f:Nat→AV} {hp:HP}
theorem il:cx.P.underlying 165=some (.map 9 4):=by kernel_rfl
theorem im:cx.P.underlying 9=some .string:=by kernel_rfl
theorem mA:∀w,(zeroValue 4).run cx.P w=.ok (.bool false) w:=fun w=>by first|exact Tryz.zeroValue4 w|rfl
theorem Fqn {v:Value} {ks:List ByteArray} (ho:o.op=.move (.tmp t):=by rfl) (hx:f t=.mn v ks:=by rfl) (hd:o.dst=some k:=by rfl) (hm:mvB M (some k)=false:=by rfl) (hk:Nat.ble (k+1) n=true:=by rfl):FO c M o ⟨n,f,hp⟩ ⟨n,upn f k (.pv v),hp⟩ ⟨[],.val⟩:=by
 have hk:=B7 hk
 refine⟨?_,?_,?_⟩
 ·simp only[okP,cls,ho,hd,hm,cond_false];exact⟨fun _ h=>by cases h;exact hk,by simp,trivial⟩
 ·simp only[nx,nxP,cls,val,ho,hd,hm,cond_false,Az,evT,hx,AV.vw,BB,B0]
 ·simp only[B4,Fsk.sk,Ef.kd,cls,ho,hd,hm,cond_false]
theorem Fqa {ks:List ByteArray} (ho:o.op=.assign (.tmp t):=by rfl) (hx:f t=.mt ks:=by rfl) (hd:o.dst=some k:=by rfl) (hk:Nat.ble (k+1) n=true:=by rfl):FO c M o ⟨n,f,hp⟩ ⟨n,upn (upn f t .un) k (.mt ks),hp⟩ ⟨[t],.val⟩:=by
 have hk:=B7 hk
 refine⟨?_,?_,?_⟩
 ·simp only[okP,cls,ho,hd,tmO];exact⟨fun _ h=>by cases h;exact hk,by simp,by trivial⟩
 ·simp only[nx,nxP,cls,val,ho,hd,Az,tkT,hx,tmO,BB,B0,AV.vw]
 ·simp only[B4,Fsk.sk,Ef.kd,cls,ho,tmO]
theorem Xqm (M:List Nat) {S S1:St} {sk:Sk} (kk:WL c ops l S1 K) (hg:o.guard=none:=by rfl) (h:FO c M o S S1 sk:=by first|exact Fqn|exact Fqa):WL c ops (o::l) S K:=WL.op M hg h.ok h.nx kk
theorem XqN {T:Nat} (kk:WL c ops l ⟨n,upn f d (.mt []),hp⟩ K) (ho:o.op=.makeMap T none:=by rfl) (hd:o.dst=some d:=by rfl) (hg:o.guard=none:=by rfl) (hk:Nat.ble (d+1) n=true:=by rfl):WL c ops (o::l) ⟨n,f,hp⟩ K:=by
 have hk:=B7 hk
 refine WL.cons (OS.op (by unfold wnt;rw[hg]) (OT (fun q hq=>by rw[hd] at hq;cases hq;exact hk) T ho)) ?_
 simp only[hd,B0]
 rw[Az] at kk;exact kk
theorem XqO (t:Nat) {ks:List ByteArray} (kk:∀v,W c code ⟨n,upn f t (.mn v ks),hp⟩ Q) (ht:f t=.mt ks:=by rfl):W c code ⟨n,f,hp⟩ Q:=
 W.mtOpen t (fun v=>by have h:=kk v;rw[Az] at h;exact h) ht
theorem XqH (t:Nat) {x i:Nat} {v:Value} {ks:List ByteArray} {s:ByteArray} {r:Bool} (kk:WL cx ops l ⟨n,upn f d (.d (.lf (.bool r))),hp⟩ K) (ho:o.op=.lookup 165 (.tmp x) (.tmp i) false:=by rfl) (hx:f x=.pv v:=by rfl) (hi:f i=.d (.lf (.string s)):=by rfl) (ht:f t=.mn v ks:=by rfl) (hd:o.dst=some d:=by rfl) (hg:o.guard=none:=by rfl) (hr:B6 ks s=r:=by rfl) (hk:Nat.ble (d+1) n=true:=by rfl):WL cx ops (o::l) ⟨n,f,hp⟩ K:=by
 have hk:=B7 hk
 subst hr
 refine WL.cons (OS.op (by unfold wnt;rw[hg]) (OU (fun q hq=>by rw[hd] at hq;cases hq;exact hk) _ (.tmp x) (.tmp i) ho (v:=v) (s:=s) (by simp only[evT,hx,AV.vw]) trivial (by simp only[evT,hi,AV.vw,DD.vw]) trivial ht il im mA)) ?_
 simp only[hd,B0]
 rw[Az] at kk;exact kk
theorem XqP (t:Nat) {x i:Nat} {v:Value} {ks ks':List ByteArray} {s:ByteArray} (kk:WL cx ops l ⟨n,upn f t (.mn v ks'),hp⟩ K) (ho:o.op=.mapUpdate 165 (.tmp x) (.tmp i) (.const (.bool true)):=by rfl) (hx:f x=.pv v:=by rfl) (hi:f i=.d (.lf (.string s)):=by rfl) (ht:f t=.mn v ks:=by rfl) (hd:o.dst=none:=by rfl) (hg:o.guard=none:=by rfl) (hs:B6 ks s=false:=by assumption) (hE:ks++[s]=ks':=by rfl) (htn:Nat.ble (t+1) n=true:=by rfl):WL cx ops (o::l) ⟨n,f,hp⟩ K:=by
 have htn:=B7 htn
 subst hE
 refine WL.cons (OS.op (by unfold wnt;rw[hg]) (OR hd _ (.tmp x) (.tmp i) ho (v:=v) (s:=s) (by simp only[evT,hx,AV.vw]) trivial (by simp only[evT,hi,AV.vw,DD.vw]) trivial ht htn il im hs)) ?_
 have e:(upd (BB f [t]) t (.mn v (ks++[s])):Nat→AV)=upn f t (.mn v (ks++[s])):=by
  simp only[Az,BB]
  funext u
  by_cases e:u=t
  ·subst e;rw[Au,Au]
  ·rw[BC _ _ e,BC _ _ e,BC _ _ e]
 show WL cx ops l ⟨n,_,hp⟩ K
 rw[e];exact kk
end
