/- Part 37. No condition. -/
import Derived.Test.YtgihkamifpmfdaaGreatDoorM34
namespace Go.Proofs.YtgihkamifpmfdaaGreatDoor
open Go.RowKit Tryz
set_option linter.unusedVariables false
set_option maxRecDepth 10000
set_option linter.unusedSimpArgs false
set_option maxHeartbeats 4000000
theorem RB (ob:Bool) (x:AG) (b o:List BA') (hz:x.sz≤134217728) (hb:b.length+x.sz≤1073741824) (ho:o.length+szX x≤1073741824) (hc:∀y∈x.AB,∀b o:List BA',b.length+y.sz≤1073741824→o.length+szX y≤1073741824→∀h,CS cx.P 379 [.d (.sl true .one (o.map dS)),.d (y.dd false),.d (.sl false .one (b.map dS))] h (.d (.sl true .one ((fvE y b o).map dS))) h) (hc2:∀a∈x.Af,∀b o:List BA',b.length+a.Ab.sz≤1073741824→o.length+szX a.Ab≤1073741824→∀h,CS cx.P 379 [.d (.sl true .one (o.map dS)),.d (a.Ab.dd false),.d (.sl false .one (b.map dS))] h (.d (.sl true .one ((fvE a.Ab b o).map dS))) h) (h:HP):CS cx.P 379 [.d (.sl true .one (o.map dS)),.d (x.dd false),.d (.sl ob .one (b.map dS))] h (.d (.sl true .one ((fvE x b o).map dS))) h:=by
 have hz2:=x.sz_eq;unfold szs at hz2
 refine Ze func379 rfl 80 ?_
 refine Zw ?_
 refine W.seq ?_
 refine W.seq ?_
 refine W.regJ (D:=_) [0,2,4] [4] [(27,.d (.lf (.bool (decide (x.AH=3) && (!B7 b x.A5 && !B7 o x.A5)))))] [] rfl (fun _ K hD hK=> ?_) fun T hT=> ?_
 iterate 4 (refine Zo ?_;simp)
 refine WL.split 14 _ rfl (fun g14=> ?_) fun g14=> ?_<;>try simp at g14
 simp
 iterate 3 (refine ZG' ?_;simp)
 refine Zk hD rfl rfl [] rfl func103 (DZ b x.A5 (by omega) _) ?_;simp
 refine ZG' ?_;simp
 iterate 2 (refine Zo ?_;simp)
 refine WL.split 21 _ rfl (fun g21=> ?_) fun g21=> ?_<;>try simp at g21
 simp
 iterate 3 (refine ZG' ?_;simp)
 refine Zk hD rfl rfl [] rfl func103 (DZ o x.A5 (by omega) _) ?_;simp
 refine ZG' ?_;simp
 refine Zo ?_;simp
 refine WL.nil (hK _ (Wz.to rfl rfl rfl ?_))
 simp[g14,g21]
 simp
 iterate 5 (refine ZN' ?_;simp)
 refine Zo ?_;simp
 refine WL.nil (hK _ (Wz.to rfl rfl rfl ?_))
 simp[g14,g21]
 simp
 iterate 5 (refine ZN' ?_;simp)
 iterate 2 (refine Zo ?_;simp)
 iterate 5 (refine ZN' ?_;simp)
 refine Zo ?_;simp
 refine WL.nil (hK _ (Wz.to rfl rfl rfl ?_))
 simp[g14]
 simp at hT;subst hT
 refine W.join [2,4] [4] [(0,.d (.sl true .one ((fv0 b o x.AH x.A5).map dS)))] [] ?_ fun T hT=> ?_
 refine Zc rfl ?_ ?_<;>intro hb0<;>try simp at hb0
 have ht:fv0 b o x.AH x.A5=o++[x.A5]:=by unfold fv0;rw[if_pos (by simpa using hb0)]
 apply Zs;intros
 refine Zm [28] ?_;simp
 iterate 5 (refine Zo ?_;simp)
 exact Zx
 refine Wz.to rfl rfl rfl ?_
 simp[ht]
 have ht:fv0 b o x.AH x.A5=o:=by unfold fv0;rw[if_neg (by simpa using hb0)]
 refine W.skip ?_
 refine Wz.to rfl rfl rfl ?_
 simp[ht]
 simp at hT;subst hT
 refine W.seq ?_
 refine Zw ?_
 refine W.block ?_
 refine W.loopk [2,4,34,35] [4] (fun k0=>[(36,dI' k0),(0,.d (.sl true .one ((faK x b o k0).map dS)))]) (fun _=>[]) x.AB.length rfl (by simp[O9]) fun k0 hk0 T hT=> ?_
 simp at hT;subst hT
 refine Zw ?_
 refine Zv rfl ?_ ?_<;>intro hb1<;>try simp at hb1
 have hx:=B2 hb1 (by omega)
 have hl:=RX (b:=b) (o:=o) hb1
 have hy:=Ae AG.sz (gm hb1)
 have hbl:(bIn x b k0).length≤b.length+1:=by unfold bIn;split<;>simp
 refine W.skip ?_
 refine Zb ?_
 apply Zr;intros
 iterate 2 (refine Zo ?_ (by simp[hb1,hx]<;>omega);simp[hb1,hx])
 refine Zm [40] ?_ (by simp[hb1,hx]<;>omega);simp[hb1,hx]
 iterate 3 (refine Zo ?_ (by simp[hb1,hx]<;>omega);simp[hb1,hx])
 exact Zx
 refine W.seq ?_
 refine W.regJ (D:=_) [0,2,4,8,34,35,36] [4,8] [(47,.d (.lf (.bool (decide (x.AH=8) && decide (k0=1)))))] [] rfl (fun _ K hD hK=> ?_) fun T hT=> ?_
 iterate 4 (refine Zo ?_ (by simp[hb1,hx]<;>omega);simp[hb1,hx])
 refine WL.split 44 _ rfl (fun g44=> ?_) fun g44=> ?_<;>try simp at g44
 simp[hb1,hx]
 iterate 2 (refine ZG' ?_ (by simp[hb1,hx]<;>omega);simp[hb1,hx])
 refine Zo ?_ (by simp[hb1,hx]<;>omega);simp[hb1,hx]
 refine WL.nil (hK _ (Wz.to rfl rfl rfl ?_))
 simp[g44]<;>omega
 simp[hb1,hx]
 iterate 2 (refine ZN' ?_;simp[hb1,hx])
 refine Zo ?_ (by simp[hb1,hx]<;>omega);simp[hb1,hx]
 refine WL.nil (hK _ (Wz.to rfl rfl rfl ?_))
 simp[g44]<;>omega
 simp at hT;subst hT
 refine Zc rfl ?_ ?_<;>intro hb2<;>try simp at hb2
 have hbi:bIn x b k0=b++[x.A5]:=by unfold bIn;rw[if_pos (by simpa using hb2)]
 apply W.regSD rfl;intro K hK
 refine Ym [48] ?_ (by simp[hb1,hx,hbi]<;>omega);simp[hb1,hx,hbi]
 iterate 2 (refine Yo ?_ (by simp[hb1,hx,hbi]<;>omega);simp[hb1,hx,hbi])
 refine Yl [] rfl func427 (Pi b (by omega)) ?_ (by simp[hb1,hx,hbi]);simp[hb1,hx,hbi]
 iterate 4 (refine Yo ?_ (by simp[hb1,hx,hbi]<;>omega);simp[hb1,hx,hbi])
 refine Yl [48] rfl func379 (hc x.AB[k0] (gm hb1) (bIn x b k0) (faK x b o k0) (by omega) (by omega)) ?_ (by simp[hb1,hx,hbi]);simp[hb1,hx,hbi]
 refine Yo ?_ (by simp[hb1,hx,hbi]<;>omega);simp[hb1,hx,hbi]
 exact DL.nil rfl hK
 apply Zs;intros
 iterate 2 (refine Zo ?_ (by simp[hb1,hx,hbi]<;>omega);simp[hb1,hx,hbi])
 exact Zx
 refine⟨hb1,Wz.to rfl rfl rfl ?_⟩
 have hs:=HB (b:=b) (o:=o) hb1
 rw[hbi] at hs
 simp[hs]
 have hbi:bIn x b k0=b:=by unfold bIn;rw[if_neg (by simpa using hb2)]
 apply Zs;intros
 refine Zm [57] ?_ (by simp[hb1,hx,hbi]<;>omega);simp[hb1,hx,hbi]
 iterate 2 (refine Zo ?_ (by simp[hb1,hx,hbi]<;>omega);simp[hb1,hx,hbi])
 refine Zl [57] rfl func379 (hc x.AB[k0] (gm hb1) (bIn x b k0) (faK x b o k0) (by omega) (by omega) _) ?_ (by simp[hb1,hx,hbi]);simp[hb1,hx,hbi]
 refine Zo ?_ (by simp[hb1,hx,hbi]<;>omega);simp[hb1,hx,hbi]
 exact Zx
 apply Zs;intros
 iterate 2 (refine Zo ?_ (by simp[hb1,hx,hbi]<;>omega);simp[hb1,hx,hbi])
 exact Zx
 refine⟨hb1,Wz.to rfl rfl rfl ?_⟩
 have hs:=HB (b:=b) (o:=o) hb1
 rw[hbi] at hs
 simp[hs]
 have hkl:k0=x.AB.length:=by omega
 subst hkl
 refine W.exit ?_
 refine W.seq ?_
 refine Zw ?_
 refine W.block ?_
 refine W.loopk [2,63,64] [] (fun k1=>[(65,dI' k1),(0,.d (.sl true .one ((frK x b o k1).map dS)))]) (fun _=>[]) x.Af.length rfl (by simp[O0]) fun k1 hk1 T hT=> ?_
 simp at hT;subst hT
 refine Zw ?_
 refine Zv rfl ?_ ?_<;>intro hb3<;>try simp at hb3
 have hx:=B2 hb3 (by omega)
 have hl:=RT (b:=b) (o:=o) hb3
 have hy:=Ae Ac.sz (gm hb3)
 have hy2:=x.Af[k1].sz_eq;unfold szs at hy2
 refine W.skip ?_
 refine Zb ?_
 apply Zr;intros
 refine Zo ?_ (by simp[hb3,hx]<;>omega);simp[hb3,hx]
 refine Zm [68] ?_ (by simp[hb3,hx]<;>omega);simp[hb3,hx]
 iterate 2 (refine Zo ?_ (by simp[hb3,hx]<;>omega);simp[hb3,hx])
 exact Zx
 apply W.regSD rfl;intro K hK
 refine Ym [69] ?_ (by simp[hb3,hx]<;>omega);simp[hb3,hx]
 iterate 6 (refine Yo ?_ (by simp[hb3,hx]<;>omega);simp[hb3,hx])
 refine Yl [] rfl func428 (IL [b,x.Af[k1].Aa] (by simp) (by simp[Fy];omega)) ?_ (by simp[hb3,hx]);simp[hb3,hx]
 refine Yl [69] rfl func379 (hc2 x.Af[k1] (gm hb3) (b++x.Af[k1].Aa) (frK x b o k1) (by simp;omega) (by omega)) ?_ (by simp[hb3,hx]);simp[hb3,hx]
 refine Yo ?_ (by simp[hb3,hx]<;>omega);simp[hb3,hx]
 exact DL.nil rfl hK
 apply Zs;intros
 iterate 2 (refine Zo ?_ (by simp[hb3,hx]<;>omega);simp[hb3,hx])
 exact Zx
 refine⟨hb3,Wz.to rfl rfl rfl ?_⟩
 have hs:=O1 (b:=b) (o:=o) hb3
 simp[hs]
 have hkl:k1=x.Af.length:=by omega
 subst hkl
 have hres:=O2 x b o
 refine W.exit ?_
 apply Zr;intros
 refine Zm [79] ?_;simp
 refine Zo ?_;simp
 exact Zx
 refine W.ret (Zq ?_)
 simp[f379,hres]
theorem Iq (x:AG) (b o:List BA') (hz:x.sz≤134217728) (hb:b.length+x.sz≤1073741824) (ho:o.length+szX x≤1073741824) (h:HP):CS cx.P 379 [.d (.sl true .one (o.map dS)),.d (x.dd false),.d (.sl false .one (b.map dS))] h (.d (.sl true .one ((fvE x b o).map dS))) h:=RB false x b o hz hb ho (fun y hy b o hb ho h=>Iq y b o (by have h1:=Ae AG.sz hy;have h2:=x.sz_eq;unfold szs at h2;omega) hb ho h) (fun a ha b o hb ho h=>Iq a.Ab b o (by have h1:=Ae Ac.sz ha;have h2:=x.sz_eq;have h3:=a.sz_eq;unfold szs at h2;omega) hb ho h) h
termination_by SizeOf.sizeOf x
decreasing_by
 ·have:=List.sizeOf_lt_of_mem hy;have:=x.lt_fArgs;omega
 ·have:=List.sizeOf_lt_of_mem ha;have:=x.lt_fArms;have:=a.lt_fBody;omega
theorem kW (x:AG) (hz:x.sz≤134217728) (h:HP):CS cx.P 321 [.d (x.dd false)] h (.d (.sl true .one ((fv x).map dS))) h:=by
 have hsx:=Hc x
 refine Ze func321 rfl 6 ?_
 refine Zw ?_
 apply Zr;intros
 iterate 2 (refine Zo ?_;simp)
 refine Zl [3] rfl func379 (RB true x [] [] hz (by simp;omega) (by simp;omega) (fun y hy b o hb ho h=>Iq y b o (by have h1:=Ae AG.sz hy;have h2:=x.sz_eq;unfold szs at h2;omega) hb ho h) (fun a ha b o hb ho h=>Iq a.Ab b o (by have h1:=Ae Ac.sz ha;have h2:=x.sz_eq;have h3:=a.sz_eq;unfold szs at h2;omega) hb ho h) _) ?_;simp
 refine Zo ?_;simp
 exact Zx
 refine W.ret (Zq ?_)
 simp[f321,fv]
theorem Zw' (v:List BA') (hm:v.length≤134217728) (hv:∀s∈v,s.size≤134217728) (x:AG) (hz:x.sz≤134217728) (h:HP):CS cx.P 230 [.d (.sl false .one (v.map dS)),.d (x.dd false)] h (dB' (nms v && dst v && body x v)) h:=by
 have hlen:(fv x).length≤1+x.sz:=by have h1:=MC x [] [];have h2:=Hc x;unfold fv;simp at h1;omega
 refine Ze func230 rfl 17 ?_
 refine Zw ?_
 refine W.seq ?_
 refine W.regJ0 (D:=_) rfl fun _ K hD hK=> ?_
 refine Zo ?_;simp
 refine Zl [] rfl func146 (GH v hv (by omega) _) ?_;simp
 refine Zo ?_;simp
 refine WL.split 7 _ rfl (fun g7=> ?_) fun g7=> ?_<;>try simp at g7
 simp
 refine ZG' ?_;simp
 refine Zk hD rfl rfl [] rfl func320 (TB x hz _) ?_;simp
 iterate 2 (refine Zo ?_;simp)
 refine WL.split 11 _ rfl (fun g11=> ?_) fun g11=> ?_<;>try simp at g11
 simp
 refine ZG' ?_;simp
 refine Zk hD rfl rfl [] rfl func321 (kW x hz _) ?_;simp
 refine ZG' ?_;simp
 refine Zk hD rfl rfl [] rfl func76 (EG (fv x) v (by omega) (by omega) _) ?_;simp
 iterate 2 (refine Zo ?_;simp)
 refine WL.nil (hK _ ?_)
 refine W.ret (Zq ?_)
 simp[f230,body,g7,g11]<;>grind
 simp
 iterate 4 (refine ZN' ?_;simp)
 iterate 2 (refine Zo ?_;simp)
 refine WL.nil (hK _ ?_)
 refine W.ret (Zq ?_)
 simp[f230,body,g7,g11]<;>grind
 simp
 iterate 2 (refine ZN' ?_;simp)
 iterate 2 (refine Zo ?_;simp)
 iterate 4 (refine ZN' ?_;simp)
 iterate 2 (refine Zo ?_;simp)
 refine WL.nil (hK _ ?_)
 refine W.ret (Zq ?_)
 simp[f230,body,g7]<;>grind
theorem Om {x:A0} {v:List BA'} (h:Bl x v=true):CK x=true:=by
 unfold Bl Bx at h
 simp at h
 exact h.1.1.1
theorem f5 (m:AY):F6 m=(decide (m.Aa=[])|| !decide ((m.Aa.length:Int)≤5)|| !(nms m.Aa && dst m.Aa && body m.Ab m.Aa)):=by
 unfold F6 CV
 cases decide (m.Aa=[])<;>cases decide ((m.Aa.length:Int)≤5)<;>cases nms m.Aa<;>cases dst m.Aa<;>cases body m.Ab m.Aa<;>rfl
theorem Jl {l:List BA'} {s:BA'}:B7 l s=true↔s∈l:=by unfold B7;simp
mutual
theorem Ql (v:BA'):∀(x:A0) (o:List BA'),v∈tvs x o↔v∈o∨0<occ v x
 |⟨k,n,l⟩,o=>by
  have h1:=NW v l (tvS o k n)
  have h2:v∈tvS o k n↔v∈o∨(k=1∧n=v):=by
   unfold tvS
   split
   ·rename_i h
    simp only[List.mem_append,List.mem_singleton]
    constructor
    ·rintro (q|q)
     ·exact .inl q
     ·exact .inr ⟨h.1,q.symm⟩
    ·rintro (q|q)
     ·exact .inl q
     ·exact .inr q.2.symm
   ·rename_i h
    constructor
    ·exact .inl
    ·rintro (q|⟨q1,q2⟩)
     ·exact q
     ·subst q2
      have:¬ ¬(B7 o n=true):=fun q=>h ⟨q1,q⟩
      exact Jl.1 (Classical.not_not.1 this)
  rw[tvs,h1,h2]
  simp only[occ]
  by_cases hq:k=1∧n=v
  ·simp[hq];exact .inr (by omega)
  ·simp[hq]
theorem NW (v:BA'):∀(l:List A0) (o:List BA'),v∈CC l o↔v∈o∨0<DW v l
 |[],o=>by simp[CC,DW]
 |x::l,o=>by
  rw[CC,NW v l,Ql v x]
  simp only[DW]
  constructor
  ·rintro ((q|q)|q)
   ·exact .inl q
   ·exact .inr (by omega)
   ·exact .inr (by omega)
  ·rintro (q|q)
   ·exact .inl (.inl q)
   ·by_cases h:0<occ v x
    ·exact .inl (.inr h)
    ·exact .inr (by omega)
end
theorem YX (l:List BA') (x:A0):sub l (tv x)= !(l.any fun v=> !decide (0<occ v x)):=by
 unfold sub
 congr 1
 congr 1
 funext v
 have h:=Ql v x []
 simp only[List.not_mem_nil,false_or] at h
 unfold tv
 by_cases hq:0<occ v x
 ·rw[Jl.2 (h.2 hq)];simp[hq]
 ·have:¬B7 (tvs x []) v=true:=fun q=>hq (h.1 (Jl.1 q))
  simp[hq];simpa using this
theorem On {x:A0} (h:CK x=true):x.AH=1∨x.AH=2∨x.AH=3∨x.AH=4:=by
 cases x with
 |mk k n l=>
  simp only[CK,Bool.and_eq_true] at h
  have h1:=h.1
  unfold Cf at h1
  show k=1∨k=2∨k=3∨k=4
  repeat' split at h1
  all_goals first|omega|simp at h1
theorem fj {x:A0} {v:List BA'} (h:Bl x v=true) (hp:Bq x=false):(decide (x.AH=2)||decide (x.AH=1))= !decide (x.AH=4):=by
 have h1:=Om h
 have h3:¬x.AH=3:=fun q=>by rw[Jo] at hp;simp[q] at hp
 have h2:x.AH=1∨x.AH=2∨x.AH=3∨x.AH=4:=On h1
 rcases h2 with q|q|q|q
 ·simp[q]
 ·simp[q]
 ·exact absurd q h3
 ·simp[q]
def gN (f:A8→List BA') (l:List A8) (k:Nat):List BA':=(l.take k).flatMap f
def apB (a b:List BA'):List BA':=a++b
def nT (p:A8):List BA':=p.Aj.map AU.A5
def nD (p:A8):List BA':=p.AE.map AF.A5
def nF (p:A8):List BA':=p.Ad.map AL.A5
theorem aA (f:A8→List BA') (l:List A8):gN f l 0=[]:=rfl
theorem H6 (f:A8→List BA') (l:List A8):gN f l l.length=l.flatMap f:=by unfold gN;rw[List.take_length]
theorem Nx {f:A8→List BA'} {l:List A8} {k:Nat} (h:k<l.length):apB (gN f l k) (f l[k])=gN f l (k+1):=by
 unfold gN apB
 rw[Y' h,List.flatMap_append];simp
theorem DN {f:A8→List BA'} (hf:∀p,(f p).length≤p.sz) (l:List A8) (k:Nat):(gN f l k).length≤szL A8.sz l:=by
 have key:∀l:List A8,(l.flatMap f).length≤szL A8.sz l:=fun l=>by
  induction l with
  |nil=>simp
  |cons x l ih=>have:=hf x;simp only[List.flatMap_cons,List.length_append,szL];omega
 exact Nat.le_trans (key _) (E7 A8.sz l k)
theorem MA {f:A8→List BA'} (hf:∀p,(f p).length≤p.sz) {l:List A8} {k:Nat} (h:k<l.length):(gN f l k).length+(f l[k]).length≤szL A8.sz l:=by
 have h1:=DN hf l (k+1)
 rw[←Nx h] at h1
 unfold apB at h1
 rw[List.length_append] at h1;exact h1
theorem Qp (p:A8):(nT p).length≤p.sz:=by have:=p.sz_eq;unfold szs at this;unfold nT;simp;omega
theorem Qr (p:A8):(nD p).length≤p.sz:=by have:=p.sz_eq;unfold szs at this;unfold nD;simp;omega
theorem Qq (p:A8):(nF p).length≤p.sz:=by have:=p.sz_eq;unfold szs at this;unfold nF;simp;omega
theorem OM (p:A8):(C7 p).length≤p.sz:=by have h:=Fv p.AE;have:=p.sz_eq;unfold szs at this;unfold C7;omega
theorem KF {α:Type} (a:List BA') (l:List α) (f:α→BA'):apB a (Ep l f 0)=a:=by unfold apB;rw[Hi,List.append_nil]
theorem bL (a:List BA') (p:A8):apB a (ctK p 0)=a:=by unfold apB;rw[Wp,List.append_nil]
theorem Xt (a:List BA') (p:A8) (k:Nat) (d:AF):apB a (ctD p k d 0)=apB a (ctK p k):=by rw[Wr]
theorem KG {α:Type} (a:List BA') {l:List α} (f:α→BA') {k:Nat} (h:k<l.length):(apB a (Ep l f k)).map dS++[.lf (.string (f l[k]))]=(apB a (Ep l f (k+1))).map dS:=by
 unfold apB;rw[List.map_append,List.append_assoc,Hj f h,List.map_append]
theorem bK (a:List BA') {p:A8} {k:Nat} {d:AF} {j:Nat} (h:j<d.A4.length):(apB a (ctD p k d j)).map dS++[.lf (.string d.A4[j].A5)]=(apB a (ctD p k d (j+1))).map dS:=by
 unfold apB;rw[List.map_append,List.append_assoc,Ws h,List.map_append]
theorem bJ (a:List BA') {p:A8} {k:Nat} (h:k<p.AE.length):apB a (ctD p k p.AE[k] p.AE[k].A4.length)=apB a (ctK p (k+1)):=by rw[Wt h]
theorem HO (a b:List BA'):(apB a b).length=a.length+b.length:=by unfold apB;simp
def K1 (l:List A8) (k:Nat):List BA':=if k=0 then l.flatMap nT else if k=1 then l.flatMap nD else if k=2 then l.flatMap C7 else l.flatMap nF
theorem Wl (l:List A8) (k:Nat):(K1 l k).length≤szL A8.sz l:=by
 unfold K1
 repeat' split
 ·rw[←H6];exact DN Qp l _
 ·rw[←H6];exact DN Qr l _
 ·rw[←H6];exact DN OM l _
 ·rw[←H6];exact DN Qq l _
def uq (l:List A8):Bool:=dst (l.flatMap nT) && dst (l.flatMap nD) && dst (l.flatMap C7) && dst (l.flatMap nF)
theorem dE {l:List A8} (h:∀j,j<4→dst (K1 l j)=true):uq l=true:=by
 have h0:=h 0 (by omega)
 have h1:=h 1 (by omega)
 have h2:=h 2 (by omega)
 have h3:=h 3 (by omega)
 simp[K1] at h0 h1 h2 h3
 unfold uq;simp[h0,h1,h2,h3]
theorem ig {l:List A8} {j:Nat} (hj:j<4) (h:dst (K1 l j)=false):uq l=false:=by
 have:j=0∨j=1∨j=2∨j=3:=by omega
 unfold uq
 rcases this with q|q|q|q<;>subst q<;>simp[K1] at h<;>simp[h]
theorem dD (x:A8):uq [x]=pk2 x:=by unfold uq pk2 nT nD nF;simp
theorem l7 (l:List A8) (hl:l.length≤134217728) (hs:szL A8.sz l≤134217728) (h:HP):CS cx.P 162 [.d (.sl false Dw (l.map (A8.dd false)))] h (.d (.st [.sl true .one ((l.flatMap nT).map dS),.sl true .one ((l.flatMap nD).map dS),.sl true .one ((l.flatMap C7).map dS),.sl true .one ((l.flatMap nF).map dS)])) h:=by
 refine Ze func162 rfl 83 ?_
 refine Zw ?_
 apply Zr;intros
 refine WL.opArrZ rfl rfl (by simp) 235 rfl rfl rfl rfl rfl ?_;simp
 iterate 2 (refine Zo ?_;simp)
 exact Zx
 refine W.seq ?_
 refine Zw ?_
 refine W.block ?_
 refine W.loopk [2,3,15,16] [2] (fun k0=>[(17,dI' k0)]) (fun k0=>[(3,.d (.st [.sl true .one ((gN nT l k0).map dS),.sl true .one ((gN nD l k0).map dS),.sl true .one ((gN C7 l k0).map dS),.sl true .one ((gN nF l k0).map dS)]))]) l.length rfl (by simp[aA]) fun k0 hk0 T hT=> ?_
 simp at hT;subst hT
 refine Zw ?_
 refine Zv rfl ?_ ?_<;>intro hb0<;>try simp at hb0
 have hx:=B2 hb0 (by omega)
 have hy:=Ae A8.sz (gm hb0)
 have hy2:=l[k0].sz_eq;unfold szs at hy2
 have hgT:=MA Qp hb0
 have hgD:=MA Qr hb0
 have hgC:=MA OM hb0
 have hgF:=MA Qq hb0
 have eT:(nT l[k0]).length=l[k0].Aj.length:=by unfold nT;simp
 have eD:(nD l[k0]).length=l[k0].AE.length:=by unfold nD;simp
 have eF:(nF l[k0]).length=l[k0].Ad.length:=by unfold nF;simp
 refine W.skip ?_
 refine Zb ?_
 apply Zr;intros
 refine Zo ?_ (by simp[hb0,hx]<;>omega);simp[hb0,hx]
 refine Zm [20] ?_ (by simp[hb0,hx]<;>omega);simp[hb0,hx]
 iterate 2 (refine Zo ?_ (by simp[hb0,hx]<;>omega);simp[hb0,hx])
 exact Zx
 refine W.seq ?_
 refine Zw2 ?_
 refine W.block ?_
 refine W.loopk [2,3,5,15,16,17,22,23] [2,5] (fun k1=>[(24,dI' k1)]) (fun k1=>[(3,.d (.st [.sl true .one ((apB (gN nT l k0) (Ep l[k0].Aj AU.A5 k1)).map dS),.sl true .one ((gN nD l k0).map dS),.sl true .one ((gN C7 l k0).map dS),.sl true .one ((gN nF l k0).map dS)]))]) l[k0].Aj.length rfl (by simp[KF]) fun k1 hk1 T hT=> ?_
 simp at hT;subst hT
 have hl1:=Ff (l:=l[k0].Aj) AU.A5 hk1
 have hl1b:=HO (gN nT l k0) (Ep l[k0].Aj AU.A5 k1)
 refine Zw2 ?_
 refine Zv rfl ?_ ?_<;>intro hb1<;>try simp at hb1
 have hx1:=B2 hb1 (by omega)
 refine W.skip ?_
 refine Zb ?_
 apply Zr;intros
 refine Zo ?_ (by simp[hb0,hx,hb1,hx1]<;>omega);simp[hb0,hx,hb1,hx1]
 refine Zm [27] ?_ (by simp[hb0,hx,hb1,hx1]<;>omega);simp[hb0,hx,hb1,hx1]
 iterate 2 (refine Zo ?_ (by simp[hb0,hx,hb1,hx1]<;>omega);simp[hb0,hx,hb1,hx1])
 exact Zx
 apply Zs;intros
 refine WL.opArr rfl rfl (by simp) 235 _ _ rfl rfl rfl rfl (by simp) 0 rfl (by simp) (by decide) rfl rfl (fun off ho=>by simp[C8] at ho ⊢;subst ho;simp[Sh.ws,Sh.w,C8]) rfl ?_;simp[hb0,hx,hb1,hx1]
 refine Zm [29] ?_ (by simp[hb0,hx,hb1,hx1]<;>omega);simp[hb0,hx,hb1,hx1]
 iterate 4 (refine Zo ?_ (by simp[hb0,hx,hb1,hx1]<;>omega);simp[hb0,hx,hb1,hx1])
 refine WL.opArr rfl rfl (by simp) 235 _ _ rfl rfl rfl rfl (by simp) 0 rfl (by simp) (by decide) rfl rfl (fun off ho=>by simp[C8] at ho ⊢;subst ho;simp[Sh.ws,Sh.w,C8]) rfl ?_;simp[hb0,hx,hb1,hx1]
 refine Zo ?_ (by simp[hb0,hx,hb1,hx1]<;>omega);simp[hb0,hx,hb1,hx1]
 exact Zx
 apply Zs;intros
 iterate 2 (refine Zo ?_ (by simp[hb0,hx,hb1,hx1]<;>omega);simp[hb0,hx,hb1,hx1])
 exact Zx
 refine⟨hb1,Wz.to rfl rfl rfl ?_⟩
 have hs1:=KG (gN nT l k0) AU.A5 hb1
 simp[hs1]
 have hkl:k1=l[k0].Aj.length:=by omega
 subst hkl
 have hT:apB (gN nT l k0) (l[k0].Aj.map AU.A5)=gN nT l (k0+1):=Nx (f:=nT) hb0
 simp only[Eo,hT]
 refine W.exit ?_
 refine W.seq ?_
 refine Zw2 ?_
 refine W.block ?_
 refine W.loopk [2,3,5,15,16,17,37,38] [2,5] (fun k2=>[(39,dI' k2)]) (fun k2=>[(3,.d (.st [.sl true .one ((gN nT l (k0+1)).map dS),.sl true .one ((apB (gN nD l k0) (Ep l[k0].AE AF.A5 k2)).map dS),.sl true .one ((apB (gN C7 l k0) (ctK l[k0] k2)).map dS),.sl true .one ((gN nF l k0).map dS)]))]) l[k0].AE.length rfl (by simp[KF,bL]) fun k2 hk2 T hT=> ?_
 simp at hT;subst hT
 have hl2:=Ff (l:=l[k0].AE) AF.A5 hk2
 have hl2b:=HO (gN nD l k0) (Ep l[k0].AE AF.A5 k2)
 refine Zw2 ?_
 refine Zv rfl ?_ ?_<;>intro hb2<;>try simp at hb2
 have hx2:=B2 hb2 (by omega)
 have hs2:=KG (gN nD l k0) AF.A5 hb2
 have hy3:=Ae AF.sz (gm hb2)
 have hy4:=l[k0].AE[k2].sz_eq;unfold szs at hy4
 have hcl:(ctK l[k0] k2).length≤l[k0].sz:=by have:=ae l[k0] k2;omega
 have hcb:=HO (gN C7 l k0) (ctK l[k0] k2)
 have hgc:=DN OM l k0
 refine W.skip ?_
 refine Zb ?_
 apply Zr;intros
 refine Zo ?_ (by simp[hb0,hx,hb2,hx2,hs2]<;>omega);simp[hb0,hx,hb2,hx2,hs2]
 refine Zm [42] ?_ (by simp[hb0,hx,hb2,hx2,hs2]<;>omega);simp[hb0,hx,hb2,hx2,hs2]
 iterate 2 (refine Zo ?_ (by simp[hb0,hx,hb2,hx2,hs2]<;>omega);simp[hb0,hx,hb2,hx2,hs2])
 exact Zx
 apply Zr;intros
 refine WL.opArr rfl rfl (by simp) 235 _ _ rfl rfl rfl rfl (by simp) 1 rfl (by simp) (by decide) rfl rfl (fun off ho=>by simp[C8] at ho ⊢;subst ho;simp[Sh.ws,Sh.w,C8]) rfl ?_;simp[hb0,hx,hb2,hx2,hs2]
 refine Zm [44] ?_ (by simp[hb0,hx,hb2,hx2,hs2]<;>omega);simp[hb0,hx,hb2,hx2,hs2]
 iterate 4 (refine Zo ?_ (by simp[hb0,hx,hb2,hx2,hs2]<;>omega);simp[hb0,hx,hb2,hx2,hs2])
 refine WL.opArr rfl rfl (by simp) 235 _ _ rfl rfl rfl rfl (by simp) 1 rfl (by simp) (by decide) rfl rfl (fun off ho=>by simp[C8] at ho ⊢;subst ho;simp[Sh.ws,Sh.w,C8]) rfl ?_;simp[hb0,hx,hb2,hx2,hs2]
 refine Zo ?_ (by simp[hb0,hx,hb2,hx2,hs2]<;>omega);simp[hb0,hx,hb2,hx2,hs2]
 exact Zx
 apply Zr;intros
 iterate 4 (refine Zo ?_ (by simp[hb0,hx,hb2,hx2,hs2]<;>omega);simp[hb0,hx,hb2,hx2,hs2])
 exact Zx
 refine W.block ?_
 refine W.loopk [2,3,5,15,16,17,37,38,39,51,52] [2,5] (fun k3=>[(53,dI' k3)]) (fun k3=>[(3,.d (.st [.sl true .one ((gN nT l (k0+1)).map dS),.sl true .one ((apB (gN nD l k0) (Ep l[k0].AE AF.A5 (k2+1))).map dS),.sl true .one ((apB (gN C7 l k0) (ctD l[k0] k2 l[k0].AE[k2] k3)).map dS),.sl true .one ((gN nF l k0).map dS)]))]) l[k0].AE[k2].A4.length rfl (by simp[Xt,hs2]) fun k3 hk3 T hT=> ?_
 simp at hT;subst hT
 have hl3:=af hb2 hk3
 have hl3b:=HO (gN C7 l k0) (ctD l[k0] k2 l[k0].AE[k2] k3)
 apply Zr;intros
 refine Zo ?_ (by simp[hb0,hx,hb2,hx2,hs2]<;>omega);simp[hb0,hx,hb2,hx2,hs2]
 exact Zx
 refine Zv rfl ?_ ?_<;>intro hb3<;>try simp at hb3
 have hx3:=B2 hb3 (by omega)
 refine W.skip ?_
 refine Zb ?_
 apply Zr;intros
 refine Zo ?_ (by simp[hb0,hx,hb2,hx2,hs2,hb3,hx3]<;>omega);simp[hb0,hx,hb2,hx2,hs2,hb3,hx3]
 refine Zm [56] ?_ (by simp[hb0,hx,hb2,hx2,hs2,hb3,hx3]<;>omega);simp[hb0,hx,hb2,hx2,hs2,hb3,hx3]
 iterate 2 (refine Zo ?_ (by simp[hb0,hx,hb2,hx2,hs2,hb3,hx3]<;>omega);simp[hb0,hx,hb2,hx2,hs2,hb3,hx3])
 exact Zx
 apply Zs;intros
 refine WL.opArr rfl rfl (by simp) 235 _ _ rfl rfl rfl rfl (by simp) 2 rfl (by simp) (by decide) rfl rfl (fun off ho=>by simp[C8] at ho ⊢;subst ho;simp[Sh.ws,Sh.w,C8]) rfl ?_;simp[hb0,hx,hb2,hx2,hs2,hb3,hx3]
 refine Zm [58] ?_ (by simp[hb0,hx,hb2,hx2,hs2,hb3,hx3]<;>omega);simp[hb0,hx,hb2,hx2,hs2,hb3,hx3]
 iterate 4 (refine Zo ?_ (by simp[hb0,hx,hb2,hx2,hs2,hb3,hx3]<;>omega);simp[hb0,hx,hb2,hx2,hs2,hb3,hx3])
 refine WL.opArr rfl rfl (by simp) 235 _ _ rfl rfl rfl rfl (by simp) 2 rfl (by simp) (by decide) rfl rfl (fun off ho=>by simp[C8] at ho ⊢;subst ho;simp[Sh.ws,Sh.w,C8]) rfl ?_;simp[hb0,hx,hb2,hx2,hs2,hb3,hx3]
 refine Zo ?_ (by simp[hb0,hx,hb2,hx2,hs2,hb3,hx3]<;>omega);simp[hb0,hx,hb2,hx2,hs2,hb3,hx3]
 exact Zx
 apply Zs;intros
 iterate 2 (refine Zo ?_ (by simp[hb0,hx,hb2,hx2,hs2,hb3,hx3]<;>omega);simp[hb0,hx,hb2,hx2,hs2,hb3,hx3])
 exact Zx
 refine⟨hb3,Wz.to rfl rfl rfl ?_⟩
 have hs3:=bK (gN C7 l k0) (p:=l[k0]) (k:=k2) hb3
 simp[hs3]
 have hkl:k3=l[k0].AE[k2].A4.length:=by omega
 subst hkl
 refine W.exit ?_
 apply Zs;intros
 iterate 2 (refine Zo ?_ (by simp[hb0,hx,hb2,hx2,hs2]<;>omega);simp[hb0,hx,hb2,hx2,hs2])
 exact Zx
 refine⟨hb2,Wz.to rfl rfl rfl ?_⟩
 have hs2:=bJ (gN C7 l k0) hb2
 simp[hs2]
 have hkl:k2=l[k0].AE.length:=by omega
 subst hkl
 have hD:apB (gN nD l k0) (l[k0].AE.map AF.A5)=gN nD l (k0+1):=Nx (f:=nD) hb0
 have hC:=Nx (f:=C7) hb0
 simp only[Eo,hD,Wq,hC]
 refine W.exit ?_
 refine Zw2 ?_
 refine W.block ?_
 refine W.loopk [2,3,15,16,17,67,68] [2] (fun k4=>[(69,dI' k4)]) (fun k4=>[(3,.d (.st [.sl true .one ((gN nT l (k0+1)).map dS),.sl true .one ((gN nD l (k0+1)).map dS),.sl true .one ((gN C7 l (k0+1)).map dS),.sl true .one ((apB (gN nF l k0) (Ep l[k0].Ad AL.A5 k4)).map dS)]))]) l[k0].Ad.length rfl (by simp[KF]) fun k4 hk4 T hT=> ?_
 simp at hT;subst hT
 have hl4:=Ff (l:=l[k0].Ad) AL.A5 hk4
 have hl4b:=HO (gN nF l k0) (Ep l[k0].Ad AL.A5 k4)
 refine Zw2 ?_
 refine Zv rfl ?_ ?_<;>intro hb4<;>try simp at hb4
 have hx4:=B2 hb4 (by omega)
 refine W.skip ?_
 refine Zb ?_
 apply Zr;intros
 refine Zo ?_ (by simp[hb0,hx,hb4,hx4]<;>omega);simp[hb0,hx,hb4,hx4]
 refine Zm [72] ?_ (by simp[hb0,hx,hb4,hx4]<;>omega);simp[hb0,hx,hb4,hx4]
 iterate 2 (refine Zo ?_ (by simp[hb0,hx,hb4,hx4]<;>omega);simp[hb0,hx,hb4,hx4])
 exact Zx
 apply Zs;intros
 refine WL.opArr rfl rfl (by simp) 235 _ _ rfl rfl rfl rfl (by simp) 3 rfl (by simp) (by decide) rfl rfl (fun off ho=>by simp[C8] at ho ⊢;subst ho;simp[Sh.ws,Sh.w,C8]) rfl ?_;simp[hb0,hx,hb4,hx4]
 refine Zm [74] ?_ (by simp[hb0,hx,hb4,hx4]<;>omega);simp[hb0,hx,hb4,hx4]
 iterate 4 (refine Zo ?_ (by simp[hb0,hx,hb4,hx4]<;>omega);simp[hb0,hx,hb4,hx4])
 refine WL.opArr rfl rfl (by simp) 235 _ _ rfl rfl rfl rfl (by simp) 3 rfl (by simp) (by decide) rfl rfl (fun off ho=>by simp[C8] at ho ⊢;subst ho;simp[Sh.ws,Sh.w,C8]) rfl ?_;simp[hb0,hx,hb4,hx4]
 refine Zo ?_ (by simp[hb0,hx,hb4,hx4]<;>omega);simp[hb0,hx,hb4,hx4]
 exact Zx
 apply Zs;intros
 iterate 2 (refine Zo ?_ (by simp[hb0,hx,hb4,hx4]<;>omega);simp[hb0,hx,hb4,hx4])
 exact Zx
 refine⟨hb4,Wz.to rfl rfl rfl ?_⟩
 have hs4:=KG (gN nF l k0) AL.A5 hb4
 simp[hs4]
 have hkl:k4=l[k0].Ad.length:=by omega
 subst hkl
 have hF:apB (gN nF l k0) (l[k0].Ad.map AL.A5)=gN nF l (k0+1):=Nx (f:=nF) hb0
 simp only[Eo,hF]
 refine W.exit ?_
 apply Zs;intros
 iterate 2 (refine Zo ?_ (by simp[hb0,hx]<;>omega);simp[hb0,hx])
 exact Zx
 refine⟨hb0,Wz.to rfl rfl rfl ?_⟩
 simp[hF]
 have hkl:k0=l.length:=by omega
 subst hkl
 simp only[H6]
 refine W.exit ?_
 apply Zr;intros
 refine Zm [82] ?_;simp
 refine Zo ?_;simp
 exact Zx
 refine W.ret (Zq ?_)
 simp[f162]
theorem il (l:List A8) (hl:l.length≤134217728) (hs:szL A8.sz l≤134217728) (h:HP):CS cx.P 99 [.d (.sl false Dw (l.map (A8.dd false)))] h (dB' (uq l)) h:=by
 have hdl:=Wl l
 refine Ze func99 rfl 14 ?_
 refine Zw ?_
 refine W.seq ?_
 apply Zr;intros
 refine Zo ?_;simp
 refine Zl [] rfl func162 (l7 l hl hs _) ?_;simp
 refine Zo ?_;simp
 exact Zx
 refine W.block ?_
 refine W.loopI [6] [] (fun k0=>[(7,dI' k0)]) (fun _=>[]) 4 (fun k0=>∀j,j<k0→dst (K1 l j)=true) rfl (by simp) (by simp) fun k0 hk0 hi0 T hT=> ?_
 simp at hT;subst hT
 refine Zw ?_
 refine Zv rfl ?_ ?_<;>intro hb0<;>try simp at hb0
 have hk4:k0<4:=by omega
 have hx:=B2 hk4 (by omega)
 have hdk:=hdl k0
 have hd9:([.sl false .one ((l.flatMap nT).map dS),.sl false .one ((l.flatMap nD).map dS),.sl false .one ((l.flatMap C7).map dS),.sl false .one ((l.flatMap nF).map dS)]:List DD)[k0]? =some (.sl false .one ((K1 l k0).map dS)):=by rcases(show k0=0∨k0=1∨k0=2∨k0=3 by omega) with q|q|q|q<;>subst q<;>simp[K1]
 refine W.skip ?_
 refine Zb ?_
 apply Zr;intros
 refine WL.opArrV rfl rfl (by simp) 235 _ _ rfl rfl rfl rfl rfl rfl (by simp) (k0) rfl (by simp) (by omega) (by simp[DD.shs,DD.sh,List.replicate]) (d:=.sl false .one ((K1 l k0).map dS)) (by simpa using hd9) rfl ?_;simp[hx]
 refine Zo ?_ (by simp[hx]<;>omega);simp[hx]
 exact Zx
 apply Zr;intros
 refine Zo ?_ (by simp[hx]<;>omega);simp[hx]
 refine Zl [] rfl func77 (M7 (K1 l k0) (by omega) _) ?_ (by simp[hx]);simp[hx]
 refine Zo ?_ (by simp[hx]<;>omega);simp[hx]
 exact Zx
 refine Zc rfl ?_ ?_<;>intro hb1<;>try simp at hb1
 have hres:=ig hk4 (by simpa using hb1)
 refine Zw2 ?_
 refine W.ret (Zq ?_)
 simp[f99,hres]
 refine W.skip ?_
 apply Zs;intros
 iterate 2 (refine Zo ?_ (by simp[hx]<;>omega);simp[hx])
 exact Zx
 refine⟨hk4,FZ hi0 (by simpa using hb1),Wz.to rfl rfl rfl ?_⟩
 simp
 have hkl:k0=4:=by omega
 subst hkl
 have hres:=dE hi0
 refine W.exit ?_
 refine Zw ?_
 refine W.ret (Zq ?_)
 simp[f99,hres]
def fl {α β:Type} (f:α→List β) (l:List α) (k:Nat):List β:=(l.take k).flatMap f
theorem H7 {α β:Type} (f:α→List β) (l:List α):fl f l 0=[]:=rfl
theorem G8 {α β:Type} {f:α→List β} {l:List α} {k:Nat} (h:k<l.length):fl f l (k+1)=fl f l k++f l[k]:=by
 unfold fl;rw[Y' h,List.flatMap_append];simp
def fa {α β:Type} (f:α→List β) (l:List α):List β:=l.flatMap f
theorem EZ {α β:Type} {f:α→List β} {l:List α} {k:Nat} (h:l.length≤k):fl f l k=fa f l:=by
 unfold fl fa;rw[List.take_of_length_le h]
theorem Jq {α β:Type} {f:α→List β} (h:∀x,(f x).length≤1):∀l:List α,(l.flatMap f).length≤l.length
 |[]=>Nat.le_refl _
 |x::l=>by have:=Jq h l;have:=h x;simp only[List.flatMap_cons,List.length_append,List.length_cons];omega
theorem Jt {α β:Type} {f:α→List β} (h:∀x,(f x).length≤1) (l:List α):(fa f l).length≤l.length:=Jq h l
theorem RU {α β:Type} {f:α→List β} (h:∀x,(f x).length≤1) (l:List α) (k:Nat):(fl f l k).length≤l.length:=by
 have h1:=Jq h (l.take k);have h2:=List.length_take_le' k l;unfold fl;omega
def feA (c:Int) (i:Nat) (k s:BA'):List AO:=if c=0 then [] else [⟨c,i,k,s⟩]
theorem DO (c:Int) (i:Nat) (k s:BA'):(feA c i k s).length≤1:=by unfold feA;split<;>simp
def kTr:BA':=⟨#[116,114,97,105,116]⟩
def kDa:BA':=⟨#[100,97,116,97]⟩
def kIn:BA':=⟨#[105,110,115,116]⟩
def kFn:BA':=⟨#[102,110]⟩
def feT (w:A1) (i:Nat) (t:AU):List AO:=feA (FC w (vis w i) t) i kTr t.A5
def feD (w:A1) (i:Nat) (t:AF):List AO:=feA (Fo w (vis w i) t) i kDa t.A5
def feI (w:A1) (i:Nat) (t:AJ):List AO:=feA (I2 w (vis w i) t) i kIn t.AK
def feF (w:A1) (i:Nat) (t:AL):List AO:=feA (TT w (vis w i) t) i kFn t.A5
def feP (w:A1) (i:Nat) (p:A8):List AO:=fa (feT w i) p.Aj++fa (feD w i) p.AE++fa (feI w i) p.AQ++fa (feF w i) p.Ad
def pkE (w:A1) (i:Nat):List AO:=match w.A2[i]? with
 |some p=>feP w i p
 |none=>[]
theorem Lo {w:A1} {i:Nat} (h:i<w.A2.length):pkE w i=feP w i w.A2[i]:=by
 unfold pkE;rw[List.getElem?_eq_getElem h]
def feK (w:A1) (k:Nat):List AO:=(List.range k).flatMap (pkE w)
theorem Js (w:A1):feK w 0=[]:=rfl
theorem MG (w:A1) (k:Nat):feK w (k+1)=feK w k++pkE w k:=by
 unfold feK;rw[List.range_succ,List.flatMap_append];simp
def Ci:AO:=⟨8,0,⟨#[]⟩,⟨#[]⟩⟩
def feE (w:A1):List AO:=if OL DS w then feK w w.A2.length++(if uq w.A2 then [] else [Ci]) else [Ci]
theorem fz (w:A1) (i:Nat) (p:A8):(feP w i p).length≤p.sz:=by
 have h1:=Jq (f:=feT w i) (fun x=>DO _ _ _ _) p.Aj
 have h2:=Jq (f:=feD w i) (fun x=>DO _ _ _ _) p.AE
 have h3:=Jq (f:=feI w i) (fun x=>DO _ _ _ _) p.AQ
 have h4:=Jq (f:=feF w i) (fun x=>DO _ _ _ _) p.Ad
 have h5:=p.sz_eq
 unfold szs at h5
 unfold feP fa;simp only[List.length_append];omega
theorem WJ (w:A1):∀k,k≤w.A2.length→(feK w k).length≤szL A8.sz (w.A2.take k)
 |0,_=>Nat.zero_le _
 |k+1,h=>by
  have h1:=WJ w k (by omega)
  have hk:k<w.A2.length:=by omega
  rw[MG,Lo hk,List.length_append,Y' hk,Gg]
  have h2:=fz w k w.A2[k]
  simp only[szL];omega
theorem PL (w:A1) {k:Nat} (h:k≤w.A2.length):(feK w k).length≤w.sz:=by
 have h1:=WJ w k h
 have h2:=E7 A8.sz w.A2 k
 have h3:=w.sz_eq
 unfold szs at h3
 omega
theorem gA {w:A1} {k:Nat} (h:k<w.A2.length):(feK w k).length+(pkE w k).length≤w.sz:=by
 have:=PL w (k:=k+1) h
 rw[MG,List.length_append] at this;exact this
def suF (w:A1) (V:List Nat) (s:BA'):Int:=if trV w V s then (if (trR w s).1.CP then 7 else 0) else 3
def sgF (w:A1) (V:List Nat) (g:AC):Int:=or0 (fc (ckT w V) g.Am) (or0 (ckT w V g.B9) (if g.BS then ckE w V g.Ab else 0))
def paF (w:A1) (V:List Nat) (p:AX):Int:=ckT w V p.AM
def meF (w:A1) (V:List Nat) (m:AY):Int:=ckE w V m.Ab
def amF (w:A1) (V:List Nat) (a:Ac):Int:=ckE w V a.Ab
theorem K5 (w:A1) (V:List Nat) (t:AU):FC w V t=or0 (fc (suF w V) t.Aq) (fc (sgF w V) t.AW):=rfl
theorem MR (w:A1) (V:List Nat) (f:AL):TT w V f=or0 (fc (ckB w V) f.Ah) (or0 (fc (paF w V) f.Am) (or0 (ckT w V f.B9) (ckE w V f.Ab))):=rfl
theorem Ev (w:A1) (V:List Nat) (x:AJ):I2 w V x=
 if trV w V x.AK then (if (trR w x.AK).1.CP then 7 else
  or0 (ckT w V x.At) (or0 (fc (ckB w V) x.Ah) (or0 (if x.BT=(trR w x.AK).1.B4 then (if x.BT then ckT w V x.B4 else 0) else 4) (or0 (if Cy (trR w x.AK).1 x then 0 else 6) (fc (meF w V) x.Ar))))) else 3:=rfl
theorem CH (w:A1) (V:List Nat) (e:AG):ckE w V e=or0 (FQ w V e) (or0 (fc (ckE w V) e.AB) (fc (amF w V) e.Af)):=by
 rw[ge];unfold or0 amF;by_cases h:FQ w V e=0<;>simp[h]
theorem JR (a b c:Int):or0 (or0 a b) c=or0 a (or0 b c):=by unfold or0;by_cases h:a=0<;>simp[h]
theorem FE (a:Int):or0 a 0=a:=by unfold or0;by_cases h:a=0<;>simp[h]
theorem EA (a:Int):or0 0 a=a:=by simp[or0]
theorem D1 {a b:Int} (h:¬a=0):or0 a b=a:=by simp[or0,h]
theorem Tl (w:A1) (V:List Nat) (e:AG):FQ w V e=
 if e.AH=4 then (if fnV w V e.A5 && decide ((fnR w e.A5).1.Am.length=e.AB.length) then (0:Int) else 9)
 else if e.AH=5 then (if trV w V e.AK then (if (siR (trR w e.AK).1 e.A5).2.2 && decide ((siR (trR w e.AK).1 e.A5).1.Am.length+1=e.AB.length) then (0:Int) else 6) else 3)
 else if e.AH=6 then (if ctV w V e.A5 then (if (((ctR w e.A5).1.A4[(ctR w e.A5).2.1]?).map fun c=>c.Av.length)=some e.AB.length then (0:Int) else 2) else 1)
 else if e.AH=7 then (if h:0<e.Af.length then (if ctV w V e.Af[0].AZ then (if Jr (ctR w e.Af[0].AZ).1 e.Af then (0:Int) else 2) else 1) else 1:Int)
 else if e.AH=11 then ckD w V e.AK
 else if e.AH=12 then ckT w V e.AM
 else 0:=by
 unfold FQ
 have : (match e.Af with
  |[]=>(1:Int)
  |a::_=>if ctV w V a.AZ then (if Jr (ctR w a.AZ).1 e.Af then 0 else 2) else 1)=if h:0<e.Af.length then (if ctV w V e.Af[0].AZ then (if Jr (ctR w e.Af[0].AZ).1 e.Af then 0 else 2) else 1) else 1:=by
  cases e.Af<;>simp
 rw[←this];rfl
theorem gW {w:A1} {s:BA'} (h:(ctR w s).2.2=true):(ctR w s).2.1<(ctR w s).1.A4.length:=by
 unfold ctR at h ⊢
 cases hq:fs (ctH s) 0 w.A2 with
 |none=>rw[hq] at h;simp[DX] at h
 |some x=>
  obtain⟨p,hp,j,h1⟩:=Dm hq
  obtain⟨d,hd,k,h2⟩:=Dm h1
  obtain⟨n,hn,h3, -⟩:=ME h2
  unfold ctF at h3
  split at h3
  ·cases h3;simpa[DX] using hn
  ·cases h3
theorem PV {w:A1} {V:List Nat} {s:BA'} (h:ctV w V s=true):(ctR w s).2.1<(ctR w s).1.A4.length:=by
 unfold ctV at h;simp only[Bool.and_eq_true] at h;exact gW h.1
theorem UV {l:List AG} {k:Nat} (h:k<l.length):szX l[k]≤EH l:=by
 induction l generalizing k with
 |nil=>simp at h
 |cons x l ih=>
  cases k with
  |zero=>simp[EH]
  |succ k=>have:=ih (k:=k) (by simpa using h);simp only[EH,List.getElem_cons_succ];omega
theorem UW {l:List Ac} {k:Nat} (h:k<l.length):szX l[k].Ab≤EW l:=by
 induction l generalizing k with
 |nil=>simp at h
 |cons x l ih=>
  cases k with
  |zero=>obtain⟨a,b,c⟩:=x;simp[EW,KT]
  |succ k=>have:=ih (k:=k) (by simpa using h);simp only[EW,List.getElem_cons_succ];omega
theorem Q6 {x:AG} {k:Nat} (h:k<x.AB.length):szX x.AB[k]<szX x:=by
 obtain⟨a,b,c,d,e,f,g⟩:=x
 have:=UV h;simp only[szX] at this ⊢;omega
theorem Q7 {x:AG} {k:Nat} (h:k<x.Af.length):szX x.Af[k].Ab<szX x:=by
 obtain⟨a,b,c,d,e,f,g⟩:=x
 have:=UW h;simp only[szX] at this ⊢;omega
def nmL {α:Type} (f:α→BA') (l:List α):List BA':=l.map f
theorem ZE {α:Type} (f:α→BA') (l:List α):(nmL f l).length=l.length:=List.length_map ..
def dpF (w:A1) (i:Nat) (p:A8):Bool:=DS p && Wj w i p
def dpD (w:A1) (i:Nat) (d:BA'):Bool:=Ap (pIx w d) 0 ((i:Int) - 1)
theorem OK (w:A1):OL DS w=((fs (bad (dpF w)) 0 w.A2).isNone && decide (w.A2.length≤5)):=rfl
theorem gR (w:A1) (i:Nat) (p:A8):dpF w i p=(DS p && (decide (pIx w p.A5=(i:Int)) && p.Ba.all (dpD w i))):=rfl
def dpI (w:A1) (i:Nat) (p:A8):Bool:=DS p && aZ w i p
theorem OJ (w:A1):IJ DS w=((fs (bad (dpI w)) 0 w.A2).isNone && (decide (w.A2.length≤5) && dst (nmL A8.A5 w.A2))):=rfl
theorem BZ {α:Type}:(none:Option α).isNone=true:=rfl
theorem BX {α:Type} (x:α):(some x).isNone=false:=rfl
