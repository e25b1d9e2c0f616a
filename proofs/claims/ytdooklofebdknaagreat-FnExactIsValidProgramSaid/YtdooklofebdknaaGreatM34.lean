/- Part 34. No condition. -/
import Derived.Test.YtdooklofebdknaaGreatM30
namespace Go.Proofs.YtdooklofebdknaaGreat
open Go.RowKit Tryz
set_option linter.unusedVariables false
set_option maxRecDepth 10000
set_option linter.unusedSimpArgs false
set_option maxHeartbeats 4000000
def ctK (x:A8) (k:Nat):List ByteArray:=(x.AE.take k).flatMap fun d=>d.A4.map AA.A6
def ctD (x:A8) (k:Nat) (d:AF) (j:Nat):List ByteArray:=ctK x k++En d.A4 AA.A6 j
theorem W4 (x:A8):ctK x 0=[]:=rfl
theorem W6 (x:A8) (k:Nat) (d:AF):ctD x k d 0=ctK x k:=by unfold ctD;rw[Ha,List.append_nil]
theorem W7 {x:A8} {k:Nat} {d:AF} {j:Nat} (h:j<d.A4.length):(ctD x k d j).map dS++[.lf (.string d.A4[j].A6)]=(ctD x k d (j+1)).map dS:=by
 unfold ctD;rw[List.map_append,List.append_assoc,Hb AA.A6 h,List.map_append]
theorem W8 {x:A8} {k:Nat} (h:k<x.AE.length):ctD x k x.AE[k] x.AE[k].A4.length=ctK x (k+1):=by
 unfold ctD ctK;rw[Y' h,List.flatMap_append,Em];simp
theorem Fs:∀l:List AF,(l.flatMap fun d=>d.A4.map AA.A6).length≤szL AF.sz l
 |[]=>by simp
 |d::l=>by
  have h1:=Fs l
  have h2:=d.sz_eq
  unfold szs at h2
  simp only[List.flatMap_cons,List.length_append,List.length_map,szL];omega
theorem ZN {x:A8} {k:Nat} (h:k<x.AE.length) {j:Nat} (hj:j≤x.AE[k].A4.length):(ctD x k x.AE[k] j).length≤szL AF.sz x.AE:=by
 have h1:=Fs (x.AE.take (k+1))
 have h2:=E5 AF.sz x.AE (k+1)
 rw[Y' h,List.flatMap_append] at h1
 rw[Y' h] at h2
 simp only[List.length_append,List.flatMap_cons,List.flatMap_nil,List.append_nil,List.length_map] at h1
 unfold ctD ctK
 rw[List.length_append,Fc _ hj];omega
theorem ZM (x:A8) (k:Nat):(ctK x k).length≤szL AF.sz x.AE:=Nat.le_trans (Fs _) (E5 AF.sz x.AE k)
def C7 (x:A8):List ByteArray:=x.AE.flatMap fun d=>d.A4.map AA.A6
theorem W5 (x:A8):ctK x x.AE.length=C7 x:=by unfold ctK C7;rw[List.take_length]
def Ey (x:A8):Bool:= !(x.Ai.any fun t=> !DB t) && !(x.AE.any fun d=> !D2 d) && !(x.AO.any fun i=> !instOk i) && !(x.Ac.any fun g=> !NY g)
def pk1 (x:A8):Bool:=BU x.A6 && CU x.BZ 5 && !B6 x.BZ x.A6 && decide (x.Ai.length+x.AE.length+x.AO.length+x.Ac.length≤24)
def pk2 (x:A8):Bool:=dst (x.Ai.map AS.A6) && dst (x.AE.map AF.A6) && dst (C7 x) && dst (x.Ac.map AL.A6)
def DR (x:A8):Bool:=pk1 x && pk2 x && Ey x
theorem ec (l:List A0) (g:Nat) (h:HP):CS cx.P 406 [.d (.sl false Ag (l.map (A0.dd false))),.d (.sl false Ag []),.fn g []] h (.d (.lf (.bool (decide (l=[]))))) h:=by
 refine Ze func406 rfl 32 ?_
 apply Zr;intros
 refine Zo ?_;simp
 exact Zx
 refine W.seq ?_
 apply Zr;intros
 iterate 5 (refine Zo ?_;simp)
 exact Zx
 refine Zc rfl ?_ ?_<;>intro hb0<;>try simp at hb0
 have hres:¬l=[]:=by simpa using hb0
 apply Zr;intros
 refine Zo ?_;simp
 exact Zx
 refine W.ret (Zq ?_)
 simp[f406,hres]
 have hres:l=[]:=by simpa using hb0
 refine W.skip ?_
 refine W.seq ?_
 apply Zr;intros
 iterate 3 (refine Zo ?_;simp)
 exact Zx
 refine W.block ?_
 refine W.loopk [1,2,15,16] [] (fun k0=>[(17,.d (.lf (.int .i64 (k0:Int))))]) (fun _=>[]) 0 rfl (by simp) fun k0 hk0 T hT=> ?_
 simp at hT;subst hT
 apply Zr;intros
 refine Zo ?_;simp
 exact Zx
 refine Zv rfl ?_ ?_<;>intro hb1<;>try simp at hb1
 exfalso;rw[hres] at hb1;simp at hb1
 refine W.exit ?_
 apply Zr;intros
 refine Zo ?_;simp
 exact Zx
 refine W.ret (Zq ?_)
 simp[f406,hres]
theorem eb (l:List AG) (g:Nat) (h:HP):CS cx.P 376 [.d (.sl false Be (l.map (AG.dd false))),.d (.sl false Be []),.fn g []] h (.d (.lf (.bool (decide (l=[]))))) h:=by
 refine Ze func376 rfl 32 ?_
 apply Zr;intros
 refine Zo ?_;simp
 exact Zx
 refine W.seq ?_
 apply Zr;intros
 iterate 5 (refine Zo ?_;simp)
 exact Zx
 refine Zc rfl ?_ ?_<;>intro hb0<;>try simp at hb0
 have hres:¬l=[]:=by simpa using hb0
 apply Zr;intros
 refine Zo ?_;simp
 exact Zx
 refine W.ret (Zq ?_)
 simp[f376,hres]
 have hres:l=[]:=by simpa using hb0
 refine W.skip ?_
 refine W.seq ?_
 apply Zr;intros
 iterate 3 (refine Zo ?_;simp)
 exact Zx
 refine W.block ?_
 refine W.loopk [1,2,15,16] [] (fun k0=>[(17,.d (.lf (.int .i64 (k0:Int))))]) (fun _=>[]) 0 rfl (by simp) fun k0 hk0 T hT=> ?_
 simp at hT;subst hT
 apply Zr;intros
 refine Zo ?_;simp
 exact Zx
 refine Zv rfl ?_ ?_<;>intro hb1<;>try simp at hb1
 exfalso;rw[hres] at hb1;simp at hb1
 refine W.exit ?_
 apply Zr;intros
 refine Zo ?_;simp
 exact Zx
 refine W.ret (Zq ?_)
 simp[f376,hres]
theorem ed (l:List Ab) (g:Nat) (h:HP):CS cx.P 377 [.d (.sl false BJ (l.map (Ab.dd false))),.d (.sl false BJ []),.fn g []] h (.d (.lf (.bool (decide (l=[]))))) h:=by
 refine Ze func377 rfl 32 ?_
 apply Zr;intros
 refine Zo ?_;simp
 exact Zx
 refine W.seq ?_
 apply Zr;intros
 iterate 5 (refine Zo ?_;simp)
 exact Zx
 refine Zc rfl ?_ ?_<;>intro hb0<;>try simp at hb0
 have hres:¬l=[]:=by simpa using hb0
 apply Zr;intros
 refine Zo ?_;simp
 exact Zx
 refine W.ret (Zq ?_)
 simp[f377,hres]
 have hres:l=[]:=by simpa using hb0
 refine W.skip ?_
 refine W.seq ?_
 apply Zr;intros
 iterate 3 (refine Zo ?_;simp)
 exact Zx
 refine W.block ?_
 refine W.loopk [1,2,15,16] [] (fun k0=>[(17,.d (.lf (.int .i64 (k0:Int))))]) (fun _=>[]) 0 rfl (by simp) fun k0 hk0 T hT=> ?_
 simp at hT;subst hT
 apply Zr;intros
 refine Zo ?_;simp
 exact Zx
 refine Zv rfl ?_ ?_<;>intro hb1<;>try simp at hb1
 exfalso;rw[hres] at hb1;simp at hb1
 refine W.exit ?_
 apply Zr;intros
 refine Zo ?_;simp
 exact Zx
 refine W.ret (Zq ?_)
 simp[f377,hres]
theorem Z8 (x:A0) (h:HP):CS cx.P 359 [.d (x.dd false),.d (zT.dd false)] h (.d (.lf (.bool (CJ x)))) h:=by
 refine Ze func359 rfl 24 ?_
 apply Zr;intros
 iterate 3 (refine Zo ?_ (by simp[zT]<;>omega);simp[zT])
 exact Zx
 refine W.seq ?_
 refine W.regJ0 (D:=_) rfl fun _ K hD hK=> ?_
 iterate 6 (refine Zo ?_ (by simp[zT]<;>omega);simp[zT])
 refine WL.split 10 _ rfl (fun g10=> ?_) fun g10=> ?_<;>try simp at g10
 simp[zT]
 iterate 5 (refine Zg hD rfl rfl ?_ (by simp[zT]<;>omega);simp[zT])
 iterate 2 (refine Zo ?_ (by simp[zT]<;>omega);simp[zT])
 refine WL.split 17 _ rfl (fun g17=> ?_) fun g17=> ?_<;>try simp at g17
 simp[zT]
 iterate 4 (refine Zg hD rfl rfl ?_ (by simp[zT]<;>omega);simp[zT])
 refine Zk hD rfl rfl [] rfl func406 (ec x.AB 359 _) ?_ (by simp[zT]);simp[zT]
 iterate 2 (refine Zo ?_ (by simp[zT]<;>omega);simp[zT])
 refine WL.nil (hK _ ?_)
 refine W.ret (Zq ?_)
 simp[f359,CJ,g10,g17]
 simp[zT]
 iterate 5 (refine Zn hD rfl rfl ?_;simp[zT])
 iterate 2 (refine Zo ?_ (by simp[zT]<;>omega);simp[zT])
 refine WL.nil (hK _ ?_)
 refine W.ret (Zq ?_)
 simp[f359,CJ,g10,g17]
 simp[zT]
 iterate 5 (refine Zn hD rfl rfl ?_;simp[zT])
 iterate 2 (refine Zo ?_ (by simp[zT]<;>omega);simp[zT])
 iterate 5 (refine Zn hD rfl rfl ?_;simp[zT])
 iterate 2 (refine Zo ?_ (by simp[zT]<;>omega);simp[zT])
 refine WL.nil (hK _ ?_)
 refine W.ret (Zq ?_)
 simp[f359,CJ,g10]
theorem Z7 (x:AG) (h:HP):CS cx.P 320 [.d (x.dd false),.d (zX.dd false)] h (.d (.lf (.bool (Dj x)))) h:=by
 refine Ze func320 rfl 52 ?_
 apply Zr;intros
 iterate 3 (refine Zo ?_ (by simp[zX]<;>omega);simp[zX])
 exact Zx
 refine W.seq ?_
 refine W.regJ0 (D:=_) rfl fun _ K hD hK=> ?_
 iterate 6 (refine Zo ?_ (by simp[zX]<;>omega);simp[zX])
 refine WL.split 10 _ rfl (fun g10=> ?_) fun g10=> ?_<;>try simp at g10
 simp[zX]
 iterate 5 (refine Zg hD rfl rfl ?_ (by simp[zX]<;>omega);simp[zX])
 iterate 2 (refine Zo ?_ (by simp[zX]<;>omega);simp[zX])
 refine WL.split 17 _ rfl (fun g17=> ?_) fun g17=> ?_<;>try simp at g17
 simp[zX]
 iterate 5 (refine Zg hD rfl rfl ?_ (by simp[zX]<;>omega);simp[zX])
 iterate 2 (refine Zo ?_ (by simp[zX]<;>omega);simp[zX])
 refine WL.split 24 _ rfl (fun g24=> ?_) fun g24=> ?_<;>try simp at g24
 simp[zX]
 iterate 5 (refine Zg hD rfl rfl ?_ (by simp[zX]<;>omega);simp[zX])
 iterate 2 (refine Zo ?_ (by simp[zX]<;>omega);simp[zX])
 refine WL.split 31 _ rfl (fun g31=> ?_) fun g31=> ?_<;>try simp at g31
 simp[zX]
 iterate 4 (refine Zg hD rfl rfl ?_ (by simp[zX]<;>omega);simp[zX])
 refine Zk hD rfl rfl [] rfl func359 (Z8 x.AM _) ?_ (by simp[zX]);simp[zX]
 iterate 2 (refine Zo ?_ (by simp[zX]<;>omega);simp[zX])
 refine WL.split 38 _ rfl (fun g38=> ?_) fun g38=> ?_<;>try simp at g38
 simp[zX]
 iterate 4 (refine Zg hD rfl rfl ?_ (by simp[zX]<;>omega);simp[zX])
 refine Zk hD rfl rfl [] rfl func376 (eb x.AB 320 _) ?_ (by simp[zX]);simp[zX]
 iterate 2 (refine Zo ?_ (by simp[zX]<;>omega);simp[zX])
 refine WL.split 45 _ rfl (fun g45=> ?_) fun g45=> ?_<;>try simp at g45
 simp[zX]
 iterate 4 (refine Zg hD rfl rfl ?_ (by simp[zX]<;>omega);simp[zX])
 refine Zk hD rfl rfl [] rfl func377 (ed x.Ad 378 _) ?_ (by simp[zX]);simp[zX]
 iterate 2 (refine Zo ?_ (by simp[zX]<;>omega);simp[zX])
 refine WL.nil (hK _ ?_)
 refine W.ret (Zq ?_)
 simp[f320,Dj,noS,g10,g17,g24,g31,g38,g45]
 simp[zX]
 iterate 5 (refine Zn hD rfl rfl ?_;simp[zX])
 iterate 2 (refine Zo ?_ (by simp[zX]<;>omega);simp[zX])
 refine WL.nil (hK _ ?_)
 refine W.ret (Zq ?_)
 simp[f320,Dj,noS,g10,g17,g24,g31,g38,g45]
 simp[zX]
 iterate 5 (refine Zn hD rfl rfl ?_;simp[zX])
 iterate 2 (refine Zo ?_ (by simp[zX]<;>omega);simp[zX])
 iterate 5 (refine Zn hD rfl rfl ?_;simp[zX])
 iterate 2 (refine Zo ?_ (by simp[zX]<;>omega);simp[zX])
 refine WL.nil (hK _ ?_)
 refine W.ret (Zq ?_)
 simp[f320,Dj,noS,g10,g17,g24,g31,g38]
 simp[zX]
 iterate 5 (refine Zn hD rfl rfl ?_;simp[zX])
 iterate 2 (refine Zo ?_ (by simp[zX]<;>omega);simp[zX])
 iterate 5 (refine Zn hD rfl rfl ?_;simp[zX])
 iterate 2 (refine Zo ?_ (by simp[zX]<;>omega);simp[zX])
 iterate 5 (refine Zn hD rfl rfl ?_;simp[zX])
 iterate 2 (refine Zo ?_ (by simp[zX]<;>omega);simp[zX])
 refine WL.nil (hK _ ?_)
 refine W.ret (Zq ?_)
 simp[f320,Dj,noS,g10,g17,g24,g31]
 simp[zX]
 iterate 5 (refine Zn hD rfl rfl ?_;simp[zX])
 iterate 2 (refine Zo ?_ (by simp[zX]<;>omega);simp[zX])
 iterate 5 (refine Zn hD rfl rfl ?_;simp[zX])
 iterate 2 (refine Zo ?_ (by simp[zX]<;>omega);simp[zX])
 iterate 5 (refine Zn hD rfl rfl ?_;simp[zX])
 iterate 2 (refine Zo ?_ (by simp[zX]<;>omega);simp[zX])
 iterate 5 (refine Zn hD rfl rfl ?_;simp[zX])
 iterate 2 (refine Zo ?_ (by simp[zX]<;>omega);simp[zX])
 refine WL.nil (hK _ ?_)
 refine W.ret (Zq ?_)
 simp[f320,Dj,noS,g10,g17,g24]
 simp[zX]
 iterate 5 (refine Zn hD rfl rfl ?_;simp[zX])
 iterate 2 (refine Zo ?_ (by simp[zX]<;>omega);simp[zX])
 iterate 5 (refine Zn hD rfl rfl ?_;simp[zX])
 iterate 2 (refine Zo ?_ (by simp[zX]<;>omega);simp[zX])
 iterate 5 (refine Zn hD rfl rfl ?_;simp[zX])
 iterate 2 (refine Zo ?_ (by simp[zX]<;>omega);simp[zX])
 iterate 5 (refine Zn hD rfl rfl ?_;simp[zX])
 iterate 2 (refine Zo ?_ (by simp[zX]<;>omega);simp[zX])
 iterate 5 (refine Zn hD rfl rfl ?_;simp[zX])
 iterate 2 (refine Zo ?_ (by simp[zX]<;>omega);simp[zX])
 refine WL.nil (hK _ ?_)
 refine W.ret (Zq ?_)
 simp[f320,Dj,noS,g10,g17]
 simp[zX]
 iterate 5 (refine Zn hD rfl rfl ?_;simp[zX])
 iterate 2 (refine Zo ?_ (by simp[zX]<;>omega);simp[zX])
 iterate 5 (refine Zn hD rfl rfl ?_;simp[zX])
 iterate 2 (refine Zo ?_ (by simp[zX]<;>omega);simp[zX])
 iterate 5 (refine Zn hD rfl rfl ?_;simp[zX])
 iterate 2 (refine Zo ?_ (by simp[zX]<;>omega);simp[zX])
 iterate 5 (refine Zn hD rfl rfl ?_;simp[zX])
 iterate 2 (refine Zo ?_ (by simp[zX]<;>omega);simp[zX])
 iterate 5 (refine Zn hD rfl rfl ?_;simp[zX])
 iterate 2 (refine Zo ?_ (by simp[zX]<;>omega);simp[zX])
 iterate 5 (refine Zn hD rfl rfl ?_;simp[zX])
 iterate 2 (refine Zo ?_ (by simp[zX]<;>omega);simp[zX])
 refine WL.nil (hK _ ?_)
 refine W.ret (Zq ?_)
 simp[f320,Dj,noS,g10]
theorem ix (x:AG) (h:HP):CS cx.P 251 [.d (x.dd false)] h (.d (.lf (.bool (Dj x)))) h:=by
 refine Ze func251 rfl 6 ?_
 apply Zr;intros
 iterate 2 (refine Zo ?_ (by simp[zX,zT]<;>omega);simp[zX,zT])
 exact Zx
 apply Zr;intros
 iterate 2 (refine Zo ?_ (by simp[zX,zT]<;>omega);simp[zX,zT])
 refine Zl [] rfl func320 (Z7 x _) ?_ (by simp[zX,zT]);simp[zX,zT]
 refine Zo ?_ (by simp[zX,zT]<;>omega);simp[zX,zT]
 exact Zx
 refine W.ret (Zq ?_)
 simp[f251]
theorem Lj (x:A0) (v:List ByteArray) (hm:v.length≤134217728) (hz:x.sz≤134217728) (h:HP):CS cx.P 181 [.d (x.dd false),.d (.sl false .one (v.map dS))] h (.d (.lf (.bool (Bl x v)))) h:=by
 have hlen:(tv x).length≤1+x.sz:=by have h1:=GV x [];have h2:=DF x;unfold tv;simp at h1;omega
 refine Ze func181 rfl 13 ?_
 apply Zr;intros
 iterate 2 (refine Zo ?_;simp)
 exact Zx
 refine W.seq ?_
 refine W.regJ0 (D:=_) rfl fun _ K hD hK=> ?_
 refine Zo ?_;simp
 refine Zl [] rfl func254 (Hk x hz _) ?_;simp
 refine Zo ?_;simp
 refine WL.split 7 _ rfl (fun g7=> ?_) fun g7=> ?_<;>try simp at g7
 simp
 refine Zg hD rfl rfl ?_;simp
 refine Zk hD rfl rfl [] rfl func183 (Qh x hz _) ?_;simp
 refine Zg hD rfl rfl ?_;simp
 refine Zk hD rfl rfl [] rfl func48 (EE (tv x) v (by omega) (by omega) _) ?_;simp
 iterate 2 (refine Zo ?_;simp)
 refine WL.nil (hK _ ?_)
 refine W.ret (Zq ?_)
 simp[f181,Bl,g7]
 simp
 iterate 4 (refine Zn hD rfl rfl ?_;simp)
 iterate 2 (refine Zo ?_;simp)
 refine WL.nil (hK _ ?_)
 refine W.ret (Zq ?_)
 simp[f181,Bl,g7]
theorem SD (v:List ByteArray) (hm:v.length≤134217728) (x:A0) (hz:x.sz≤134217728) (lv k:Nat) (h:HP) (hcap:hpg h lv k=some (.d (.sl false .one (v.map dS)))):CS cx.P 253 [.d (x.dd false),.pt lv k []] h (.d (.lf (.bool (!Bl x v)))) h:=by
 have hc2:=Df hcap
 refine Ze func253 rfl 8 ?_
 apply Zr;intros
 iterate 2 (refine Zo ?_ (by simp[hc2]<;>omega);simp[hc2])
 exact Zx
 apply Zr;intros
 iterate 2 (refine Zo ?_ (by simp[hc2]<;>omega);simp[hc2])
 refine Zl [] rfl func181 (Lj x v hm hz _) ?_ (by simp[hc2]);simp[hc2]
 iterate 2 (refine Zo ?_ (by simp[hc2]<;>omega);simp[hc2])
 exact Zx
 refine W.ret (Zq ?_)
 simp[f253]
theorem NM (l:List A0) (v:List ByteArray) (hm:v.length≤134217728) (hl:l.length≤134217728) (hs:∀y∈l,y.sz≤134217728) (h:HP):CS cx.P 180 [.d (.sl false Ag (l.map (A0.dd false))),.d (.sl false .one (v.map dS))] h (.d (.lf (.bool (El l v)))) h:=by
 refine Ze func180 rfl 9 ?_
 apply Zr;intros
 iterate 2 (refine Zo ?_;simp)
 exact Zx
 apply Zr;intros
 iterate 2 (refine Zo ?_;simp)
 refine Zl [] rfl func252 (G4 l (by omega) 253 f253 _ ⟨func253,rfl,rfl⟩ (fun y=> !Bl y v) 3 (.sl false .one (v.map dS)) 0 (fun y hy lv h hc=>SD v hm y (hs y hy) lv 3 h hc) _ (by simp)) ?_;simp
 iterate 2 (refine Zo ?_;simp)
 exact Zx
 refine W.ret (Zq ?_)
 simp[f180,El]
def acL (k:Int):Int:=if k=4∨k=6 then 0 else if k=5 then 1 else if k=7∨k=11∨k=12 then 1 else if k=8∨k=10 then 2 else if k=9 then 3 else 0
def acH (k:Int):Int:=if k=4∨k=6 then 300 else if k=5 then 300 else if k=7∨k=11∨k=12 then 1 else if k=8∨k=10 then 2 else if k=9 then 3 else 0
theorem fQ (k:Int):0≤acL k∧acL k≤3∧0≤acH k∧acH k≤300:=by
 unfold acL acH
 repeat' split
 all_goals omega
def if1 (x:AG):Bool:=Ay x.AH 1 12 && decide (acL x.AH≤x.AB.length) && decide ((x.AB.length:Int)≤acH x.AH)
def ifT (x:AG):Bool:=if x.AH=5∨x.AH=11 then BU x.AK else noS x.AK
def ifN (x:AG):Bool:=if x.AH=3∨x.AH=4∨x.AH=6∨x.AH=8∨x.AH=5 then BU x.A6 else if x.AH=10 then B6 D4 x.A6 else noS x.A6
def ifI (x:AG):Bool:=if x.AH=1 then Ay x.fN (-999999) 999999 else if x.AH=2 then Ay x.fN 0 1 else decide (x.fN=0)
def ifY (x:AG):Bool:=(decide (x.AH=12) != !CJ x.AM)||(decide (x.AH=12) && !Bx x.AM)
def iF0 (x:AG):Bool:=if1 x && !ifY x && ifT x && ifN x && ifI x && (decide (x.AH=7)==decide (0<x.Ad.length))
mutual
def iF:AG→Bool
 |⟨k,t,n,i,y,al,rl⟩=>iF0 ⟨k,t,n,i,y,al,rl⟩ && iFs al && iFr rl
def iFs:List AG→Bool
 |[]=>true
 |x::l=>iF x && iFs l
def iFa:Ab→Bool
 |⟨c,vs,b⟩=>BU c && (dst vs && nms vs) && iF b
def iFr:List Ab→Bool
 |[]=>true
 |x::l=>iFa x && iFr l
end
theorem Qj:∀l:List AG,iFs l= !(l.any fun y=> !iF y)
 |[]=>rfl
 |x::l=>by simp only[iFs,Qj l,List.any_cons];cases iF x<;>simp
theorem Qm:∀l:List Ab,iFr l= !(l.any fun y=> !iFa y)
 |[]=>rfl
 |x::l=>by simp only[iFr,Qm l,List.any_cons];cases iFa x<;>simp
theorem b6 (x:AG):iF x=(iF0 x && !(x.AB.any fun y=> !iF y) && !(x.Ad.any fun y=> !iFa y)):=by cases x;simp only[iF,Qj,Qm]
theorem On (x:Ab):iFa x=(BU x.AY && (dst x.AZ && nms x.AZ) && iF x.Aa):=by cases x;simp only[iFa]
theorem fO (n:Int) (h:HP):CS cx.P 423 [.d (.lf (.int .i64 (n)))] h (.tp [.d (.lf (.int .i64 (acL n))),.d (.lf (.int .i64 (acH n)))]) h:=by
 refine Ze func423 rfl 19 ?_
 apply Zr;intros
 iterate 2 (refine Zo ?_;simp)
 exact Zx
 refine W.seq ?_
 apply Zr;intros
 refine Zo ?_;simp
 exact Zx
 refine W.block ?_
 refine W.seq ?_
 apply Zr;intros
 iterate 2 (refine Zo ?_;simp)
 exact Zx
 refine Zc rfl ?_ ?_<;>intro hb0<;>try simp at hb0
 refine W.skip ?_
 refine W.condT (by simp[hb0]) trivial ?_
 apply Zr;intros
 iterate 2 (refine Zo ?_;simp)
 exact Zx
 refine W.ret (Zq ?_)
 simp[f423,acL,acH,hb0]
 apply Zs;intros
 iterate 2 (refine Zo ?_;simp)
 exact Zx
 refine Zc rfl ?_ ?_<;>intro hb1<;>try simp at hb1
 apply Zr;intros
 iterate 2 (refine Zo ?_;simp)
 exact Zx
 refine W.ret (Zq ?_)
 simp[f423,acL,acH,hb0,hb1]
 apply Zr;intros
 iterate 2 (refine Zo ?_;simp)
 exact Zx
 refine Zc rfl ?_ ?_<;>intro hb2<;>try simp at hb2
 apply Zr;intros
 iterate 2 (refine Zo ?_;simp)
 exact Zx
 refine W.ret (Zq ?_)
 simp[f423,acL,acH,hb0,hb1,hb2]
 refine W.seq ?_
 apply Zr;intros
 iterate 2 (refine Zo ?_;simp)
 exact Zx
 refine Zc rfl ?_ ?_<;>intro hb3<;>try simp at hb3
 refine W.skip ?_
 refine W.condT (by simp[hb3]) trivial ?_
 apply Zr;intros
 iterate 2 (refine Zo ?_;simp)
 exact Zx
 refine W.ret (Zq ?_)
 simp[f423,acL,acH,hb0,hb1,hb2,hb3]
 apply Zr;intros
 iterate 2 (refine Zo ?_;simp)
 exact Zx
 refine Zc rfl ?_ ?_<;>intro hb4<;>try simp at hb4
 refine W.skip ?_
 refine W.condT (by simp[hb4]) trivial ?_
 apply Zr;intros
 iterate 2 (refine Zo ?_;simp)
 exact Zx
 refine W.ret (Zq ?_)
 simp[f423,acL,acH,hb0,hb1,hb2,hb3,hb4]
 apply Zs;intros
 iterate 2 (refine Zo ?_;simp)
 exact Zx
 refine Zc rfl ?_ ?_<;>intro hb5<;>try simp at hb5
 apply Zr;intros
 iterate 2 (refine Zo ?_;simp)
 exact Zx
 refine W.ret (Zq ?_)
 simp[f423,acL,acH,hb0,hb1,hb2,hb3,hb4,hb5]
 refine W.seq ?_
 apply Zr;intros
 iterate 2 (refine Zo ?_;simp)
 exact Zx
 refine Zc rfl ?_ ?_<;>intro hb6<;>try simp at hb6
 refine W.skip ?_
 refine W.condT (by simp[hb6]) trivial ?_
 apply Zr;intros
 iterate 2 (refine Zo ?_;simp)
 exact Zx
 refine W.ret (Zq ?_)
 simp[f423,acL,acH,hb0,hb1,hb2,hb3,hb4,hb5,hb6]
 apply Zs;intros
 iterate 2 (refine Zo ?_;simp)
 exact Zx
 refine Zc rfl ?_ ?_<;>intro hb7<;>try simp at hb7
 apply Zr;intros
 iterate 2 (refine Zo ?_;simp)
 exact Zx
 refine W.ret (Zq ?_)
 simp[f423,acL,acH,hb0,hb1,hb2,hb3,hb4,hb5,hb6,hb7]
 apply Zr;intros
 iterate 2 (refine Zo ?_;simp)
 exact Zx
 refine Zc rfl ?_ ?_<;>intro hb8<;>try simp at hb8
 apply Zr;intros
 iterate 2 (refine Zo ?_;simp)
 exact Zx
 refine W.ret (Zq ?_)
 simp[f423,acL,acH,hb0,hb1,hb2,hb3,hb4,hb5,hb6,hb7,hb8]
 refine W.skip ?_
 apply Zr;intros
 iterate 2 (refine Zo ?_;simp)
 exact Zx
 refine W.ret (Zq ?_)
 simp[f423,acL,acH,hb0,hb1,hb2,hb3,hb4,hb5,hb6,hb7,hb8]
theorem WS (v:List ByteArray) (hm:v.length≤134217728) (x:A9) (hz:x.sz≤134217728) (lv k:Nat) (h:HP) (hcap:hpg h lv k=some (.d (.sl false .one (v.map dS)))):CS cx.P 258 [.d (x.dd false),.pt lv k []] h (.d (.lf (.bool (EZ x v)))) h:=by
 have hc2:=Df hcap
 have hz2:=x.sz_eq
 have hlen:(tv x.AM).length≤1+x.AM.sz:=by have h1:=GV x.AM [];have h2:=DF x.AM;unfold tv;simp at h1;omega
 refine Ze func258 rfl 20 ?_
 apply Zr;intros
 iterate 2 (refine Zo ?_ (by simp[hc2]<;>omega);simp[hc2])
 exact Zx
 refine W.seq ?_
 refine W.regDJ0 (D:=_) rfl rfl fun K hD hK=> ?_
 refine Yo ?_ (by simp[hc2]<;>omega);simp[hc2]
 refine Yl [] rfl func259 (SV x (by omega)) ?_ (by simp[hc2]);simp[hc2]
 iterate 2 (refine Yo ?_ (by simp[hc2]<;>omega);simp[hc2])
 refine DL.split 7 _ rfl (fun g7=> ?_) fun g7=> ?_<;>try simp at g7
 simp[hc2]
 iterate 3 (refine Yn hD rfl rfl ?_;simp[hc2])
 iterate 2 (refine Yo ?_ (by simp[hc2]<;>omega);simp[hc2])
 iterate 6 (refine Yn hD rfl rfl ?_;simp[hc2])
 iterate 2 (refine Yo ?_ (by simp[hc2]<;>omega);simp[hc2])
 refine DL.nil rfl (hK _ ?_)
 refine W.ret (Zq ?_)
 simp[f258,EZ,Bl,g7]<;>grind
 simp[hc2]
 iterate 2 (refine Yg hD rfl rfl ?_ (by simp[hc2]<;>omega);simp[hc2])
 refine Yk hD rfl rfl [] rfl func182 (az x.AM (by omega)) ?_ (by simp[hc2]);simp[hc2]
 iterate 2 (refine Yo ?_ (by simp[hc2]<;>omega);simp[hc2])
 refine DL.split 12 _ rfl (fun g12=> ?_) fun g12=> ?_<;>try simp at g12
 simp[hc2]
 iterate 6 (refine Yn hD rfl rfl ?_;simp[hc2])
 iterate 2 (refine Yo ?_ (by simp[hc2]<;>omega);simp[hc2])
 refine DL.nil rfl (hK _ ?_)
 refine W.ret (Zq ?_)
 simp[f258,EZ,Bl,g7,g12]<;>grind
 simp[hc2]
 iterate 2 (refine Yg hD rfl rfl ?_ (by simp[hc2]<;>omega);simp[hc2])
 refine Yk hD rfl rfl [] rfl func183 (Qh x.AM (by omega)) ?_ (by simp[hc2]);simp[hc2]
 refine DL.opGs [] hD 8 12 false rfl rfl (by simp) (by simp[hc2]<;>omega) rfl _ (cQ hc2 rfl rfl rfl rfl) ?_;simp[hc2]
 refine Yk hD rfl rfl [] rfl func48 (EE (tv x.AM) v (by omega) (by omega)) ?_ (by simp[hc2]);simp[hc2]
 refine Yg hD rfl rfl ?_ (by simp[hc2]<;>omega);simp[hc2]
 iterate 2 (refine Yo ?_ (by simp[hc2]<;>omega);simp[hc2])
 refine DL.nil rfl (hK _ ?_)
 refine W.ret (Zq ?_)
 simp[f258,EZ,Bl,g7,g12]<;>grind
theorem YY (l:List A9) (v:List ByteArray) (hm:v.length≤134217728) (hl:l.length≤134217728) (hs:∀y∈l,y.sz≤134217728) (h:HP):CS cx.P 184 [.d (.sl false BA (l.map (A9.dd false))),.d (.sl false .one (v.map dS))] h (.d (.lf (.bool (An l v)))) h:=by
 refine Ze func184 rfl 14 ?_
 apply Zr;intros
 iterate 2 (refine Zo ?_;simp)
 exact Zx
 refine W.seq ?_
 refine W.regJ0 (D:=_) rfl fun _ K hD hK=> ?_
 iterate 4 (refine Zo ?_;simp)
 refine WL.split 8 _ rfl (fun g8=> ?_) fun g8=> ?_<;>try simp at g8
 simp
 iterate 2 (refine Zg hD rfl rfl ?_;simp)
 refine Zk hD rfl rfl [] rfl func214 (Fo l (by omega) 258 f258 _ ⟨func258,rfl,rfl⟩ (fun y=>EZ y v) 3 (.sl false .one (v.map dS)) 0 (fun y hy lv h hc=>WS v hm y (hs y hy) lv 3 h hc) _ (by simp)) ?_;simp
 refine Zg hD rfl rfl ?_;simp
 iterate 2 (refine Zo ?_;simp)
 refine WL.nil (hK _ ?_)
 refine W.ret (Zq ?_)
 simp[f184,An,g8]<;>first|omega|grind
 simp
 iterate 4 (refine Zn hD rfl rfl ?_;simp)
 iterate 2 (refine Zo ?_;simp)
 refine WL.nil (hK _ ?_)
 refine W.ret (Zq ?_)
 simp[f184,An,g8]<;>first|omega|grind
mutual
theorem XR:∀x:AG,0<szX x
 |⟨_,_,_,_,_,_,_⟩=>by simp only[szX];omega
theorem Ml:∀l:List AG,l.length≤EF l
 |[]=>by simp
 |x::l=>by have:=XR x;have:=Ml l;simp only[EF,List.length_cons];omega
end
theorem Fb (s:ByteArray):noS s=s.toList.isEmpty:=by unfold noS;cases s.toList<;>rfl
theorem Ur {s:ByteArray} (h:noS s=true):BU s=false:=by
 unfold noS at h
 have h3:s.toList=[]:=by simpa using h
 have h4:=cD s
 rw[h3] at h4
 have h5:s.size=0:=by simpa using h4.symm
 unfold BU Ay
 simp[h5]
theorem XM {x:A0} (h:CJ x=true):Bx x=false:=by
 unfold CJ at h
 simp at h
 cases x with
 |mk k n l=>
  simp only at h
  obtain⟨⟨h1, -⟩, -⟩:=h
  subst h1
  unfold Bx
  simp[CL,Cc]
theorem Yd {x:AG} (h:x.AB.length≤300):iF0 x=exH x:=by
 by_cases hr:1≤x.AH∧x.AH≤12
 ·have ht:=@Ur x.AK
  have hn:=@Ur x.A6
  have hy:=@XM x.AM
  have hnl:x.AB=[]↔x.AB.length=0:=List.length_eq_zero_iff.symm
  have hk:x.AH=1∨x.AH=2∨x.AH=3∨x.AH=4∨x.AH=5∨x.AH=6∨x.AH=7∨x.AH=8∨x.AH=9∨x.AH=10∨x.AH=11∨x.AH=12:=by omega
  generalize hq1:noS x.AK=q1 at*
  generalize hq2:BU x.AK=q2 at*
  generalize hq3:noS x.A6=q3 at*
  generalize hq4:BU x.A6=q4 at*
  generalize hq5:CJ x.AM=q5 at*
  generalize hq6:Bx x.AM=q6 at*
  generalize hq7:B6 D4 x.A6=q7 at*
  rcases hk with e|e|e|e|e|e|e|e|e|e|e|e<;>simp only[iF0,if1,ifT,ifN,ifI,ifY,exH,xf1,xf2,xf3,xf4,EW,Fx,Fy,G9,Fv,EH,acL,acH,Ay,hq1,hq2,hq3,hq4,hq5,hq6,hq7,e]<;>simp<;>grind
 ·have h1:if1 x=false:=by unfold if1 Ay;simp;omega
  have h2:xf1 x=false:=by unfold xf1 Ay;simp;omega
  unfold iF0 exH;rw[h1,h2];simp
mutual
theorem Oo:∀x:AG,szX x≤300→iF x=exF x
 |⟨k,t,n,i,y,al,rl⟩,h=>by
  simp only[szX] at h
  have h1:=Ml al
  have h2:=Qi al (by omega)
  have h3:=Ql rl (by omega)
  have h4:=Yd (x:=⟨k,t,n,i,y,al,rl⟩) (by show al.length≤300;omega)
  simp only[iF,exF,h2,h3,h4]
theorem Qi:∀l:List AG,EF l≤300→iFs l=Ow l
 |[],_=>by simp only[iFs,Ow]
 |x::l,h=>by
  simp only[EF] at h
  simp only[iFs,Ow,Oo x (by omega),Qi l (by omega)]
theorem Yc:∀x:Ab,K8 x≤300→iFa x=IF x
 |⟨c,vs,b⟩,h=>by
  simp only[K8] at h
  simp only[iFa,IF,Oo b h]
  cases BU c<;>cases dst vs<;>cases nms vs<;>rfl
theorem Ql:∀l:List Ab,EU l≤300→iFr l=Ox l
 |[],_=>by simp only[iFr,Ox]
 |x::l,h=>by
  simp only[EU] at h
  simp only[iFr,Ox,Yc x (by omega),Ql l (by omega)]
end
theorem Vg (x:AG):exV x=(decide (szX x≤300) && iF x):=by
 unfold exV
 by_cases h:szX x≤300
 ·rw[Oo x h]
 ·simp[h]
theorem dm (x:AG) (hz:x.sz≤134217728) (hc:∀y∈x.AB,∀h,CS cx.P 325 [.d (y.dd false)] h (.d (.lf (.int .i64 ((szX y:Nat):Int)))) h) (hc2:∀a∈x.Ad,∀h,CS cx.P 325 [.d (a.Aa.dd false)] h (.d (.lf (.int .i64 ((szX a.Aa:Nat):Int)))) h) (h:HP):CS cx.P 325 [.d (x.dd false)] h (.d (.lf (.int .i64 ((szX x:Nat):Int)))) h:=by
 have hz2:=x.sz_eq;unfold szs at hz2
 have hsx:=HW x
 have hx0:=MM x 0
 refine Ze func325 rfl 34 ?_
 apply Zr;intros
 iterate 2 (refine Zo ?_;simp)
 exact Zx
 apply Zr;intros
 refine Zo ?_;simp
 exact Zx
 refine W.seq ?_
 apply Zr;intros
 iterate 4 (refine Zo ?_;simp)
 exact Zx
 refine W.block ?_
 refine W.loopk [1,9,10] [1] (fun k0=>[(11,.d (.lf (.int .i64 (k0:Int)))),(3,.d (.lf (.int .i64 ((xk x k0:Nat):Int))))]) (fun _=>[]) x.AB.length rfl (by simp[PM]) fun k0 hk0 T hT=> ?_
 simp at hT;subst hT
 apply Zr;intros
 refine Zo ?_;simp
 exact Zx
 refine Zv rfl ?_ ?_<;>intro hb0<;>try simp at hb0
 have hx:=B1 hb0 (by omega)
 have h3:=T9 hb0
 have h4:=TA x (k0+1)
 have hw:IntKind.i64.wrap ((xk x k0:Int)+(szX x.AB[k0]:Int))=(xk x (k0+1):Int):=by rw[BF (by omega) (by omega)];omega
 refine W.skip ?_
 refine Zb ?_
 apply Zr;intros
 refine Zo ?_ (by simp[hb0,hx,hw]<;>omega);simp[hb0,hx,hw]
 refine Zm [14] ?_ (by simp[hb0,hx,hw]<;>omega);simp[hb0,hx,hw]
 iterate 2 (refine Zo ?_ (by simp[hb0,hx,hw]<;>omega);simp[hb0,hx,hw])
 exact Zx
 apply Zs;intros
 iterate 2 (refine Zo ?_ (by simp[hb0,hx,hw]<;>omega);simp[hb0,hx,hw])
 refine Zl [] rfl func325 (hc x.AB[k0] (gm hb0) _) ?_ (by simp[hb0,hx,hw]);simp[hb0,hx,hw]
 iterate 2 (refine Zo ?_ (by simp[hb0,hx,hw]<;>omega);simp[hb0,hx,hw])
 exact Zx
 apply Zs;intros
 iterate 2 (refine Zo ?_ (by simp[hb0,hx,hw]<;>omega);simp[hb0,hx,hw])
 exact Zx
 refine⟨hb0,Wz.to rfl rfl rfl ?_⟩
 simp[hw]
 have hkl:k0=x.AB.length:=by omega
 subst hkl
 refine W.exit ?_
 refine W.seq ?_
 apply Zr;intros
 iterate 4 (refine Zo ?_;simp)
 exact Zx
 refine W.block ?_
 refine W.loopk [21,22] [] (fun k1=>[(23,.d (.lf (.int .i64 (k1:Int)))),(3,.d (.lf (.int .i64 ((xr x k1:Nat):Int))))]) (fun _=>[]) x.Ad.length rfl (by simp[L1]) fun k1 hk1 T hT=> ?_
 simp at hT;subst hT
 apply Zr;intros
 refine Zo ?_;simp
 exact Zx
 refine Zv rfl ?_ ?_<;>intro hb1<;>try simp at hb1
 have hx:=B1 hb1 (by omega)
 have h3:=T8 hb1
 have h4:=MM x (k1+1)
 have hw:IntKind.i64.wrap ((xr x k1:Int)+(szX x.Ad[k1].Aa:Int))=(xr x (k1+1):Int):=by rw[BF (by omega) (by omega)];omega
 refine W.skip ?_
 refine Zb ?_
 apply Zr;intros
 refine Zo ?_ (by simp[hb1,hx,hw]<;>omega);simp[hb1,hx,hw]
 refine Zm [26] ?_ (by simp[hb1,hx,hw]<;>omega);simp[hb1,hx,hw]
 iterate 2 (refine Zo ?_ (by simp[hb1,hx,hw]<;>omega);simp[hb1,hx,hw])
 exact Zx
 apply Zs;intros
 iterate 3 (refine Zo ?_ (by simp[hb1,hx,hw]<;>omega);simp[hb1,hx,hw])
 refine Zl [] rfl func325 (hc2 x.Ad[k1] (gm hb1) _) ?_ (by simp[hb1,hx,hw]);simp[hb1,hx,hw]
 iterate 2 (refine Zo ?_ (by simp[hb1,hx,hw]<;>omega);simp[hb1,hx,hw])
 exact Zx
 apply Zs;intros
 iterate 2 (refine Zo ?_ (by simp[hb1,hx,hw]<;>omega);simp[hb1,hx,hw])
 exact Zx
 refine⟨hb1,Wz.to rfl rfl rfl ?_⟩
 simp[hw]
 have hkl:k1=x.Ad.length:=by omega
 subst hkl
 have hres:=L3 x
 refine W.exit ?_
 apply Zr;intros
 iterate 2 (refine Zo ?_;simp)
 exact Zx
 refine W.ret (Zq ?_)
 simp[f325,hres]
theorem Om (x:AG) (hz:x.sz≤134217728) (h:HP):CS cx.P 325 [.d (x.dd false)] h (.d (.lf (.int .i64 ((szX x:Nat):Int)))) h:=dm x hz (fun y hy h=>Om y (by have h1:=Ah AG.sz hy;have h2:=x.sz_eq;unfold szs at h2;omega) h) (fun a ha h=>Om a.Aa (by have h1:=Ah Ab.sz ha;have h2:=x.sz_eq;have h3:=a.sz_eq;unfold szs at h2;omega) h) h
termination_by SizeOf.sizeOf x
decreasing_by
 ·have:=List.sizeOf_lt_of_mem hy;have:=x.lt_fArgs;omega
 ·have:=List.sizeOf_lt_of_mem ha;have:=x.lt_fArms;have:=a.lt_fBody;omega
def EG:ByteArray:=⟨#[43,45,42,60,61]⟩
def ixO (n:Int):Int:=Lib.indexByte EG.data.toList n.toNat.toUInt8
theorem Qa:∀k:Fin 256,(-1≤ixO (k.val:Int)∧ixO (k.val:Int)<5)∧decide (0≤ixO (k.val:Int))=B6 D4 ⟨#[UInt8.ofNat k.val]⟩:=by decide+kernel
theorem KZ {s:ByteArray} (h:B6 D4 s=true):s.size=1:=by
 unfold B6 D4 at h
 simp at h
 rcases h with h|h|h|h|h<;>subst h<;>rfl
theorem dM {s:ByteArray} (h:s.size=1):s=⟨#[UInt8.ofNat (bt s 0)]⟩:=by
 cases s with
 |mk d=>
  have h1:d.size=1:=h
  have h2:d= #[d[0]]:=by
   refine Array.ext (by simp[h1]) fun i h3 h4=> ?_
   have:i=0:=by omega
   subst this;simp
  have h3:bt ⟨d⟩ 0=d[0].toNat:=by
   unfold bt
   simp[Array.getD_eq_getD_getElem?,Array.getElem?_eq_getElem (show 0<d.size by omega)]
  rw[h3,UInt8.ofNat_toNat]
  exact congrArg ByteArray.mk h2
theorem SS {s:ByteArray} (h:s.size=1):decide (0≤ixO ((bt s 0:Nat):Int))=B6 D4 s:=by
 have:=(Qa ⟨bt s 0,bN s 0⟩).2
 rw[←dM h] at this
 exact this
theorem Ol (k:Fin 256) (h:HP):CS cx.P 444 [.d (.lf (.string EG)),.d (.lf (.int .u8 (k.val:Int)))] h (.d (.lf (.int .i64 (ixO (k.val:Int))))) h:=by
 refine CS.ofVal (c:=cx) (args:=[.lf (.string EG),.lf (.int .u8 (k.val:Int))]) (v:=.int .i64 (ixO (k.val:Int))) (fun w F=>⟨?_,rfl⟩) (fun w vs ⟨F,_,_,hl,hv⟩=> ?_) h
 ·have:=(Qa k).1
  simp only[rp,BL,b8,b7]
  exact⟨trivial,by omega,trivial⟩
 ·obtain⟨c0,h0,e0⟩:=hv 0 _ rfl
  obtain⟨c1,h1,e1⟩:=hv 1 _ rfl
  simp only[DD.vw,rp] at h0 h1
  obtain⟨rfl, -⟩:=h0
  obtain⟨rfl, -⟩:=h1
  match vs,hl,e0,e1 with
  |[a,b],_,e0,e1=>
   simp[DD.mk] at e0 e1
   subst e0;subst e1
   refine(VF EG (k.val:Int) w).mono fun e w' ⟨h1,h2⟩=>⟨h1,?_⟩
   subst h2;exact Below.refl _ _
theorem cP (s:ByteArray) (hs:s.size=1) (h:HP):CS cx.P 443 [.d (.lf (.string EG)),.d (.lf (.string s))] h (.d (.lf (.int .i64 (ixO ((bt s 0:Nat):Int))))) h:=by
 refine Ze func443 rfl 143 ?_
 apply Zr;intros
 refine Zo ?_;simp
 exact Zx
 apply Zr;intros
 iterate 3 (refine Zo ?_;simp)
 exact Zx
 refine Zb ?_
 refine W.seq ?_
 refine W.regJ0 (D:=_) rfl fun _ K hD hK=> ?_
 iterate 3 (refine Zo ?_;simp)
 refine WL.split 19 _ rfl (fun g19=> ?_) fun g19=> ?_<;>try simp at g19
 simp
 iterate 3 (refine Zn hD rfl rfl ?_;simp)
 iterate 2 (refine Zo ?_;simp)
 refine WL.nil (hK _ ?_)
 refine W.condT rfl trivial ?_
 apply Zr;intros
 refine Zo ?_;simp
 exact Zx
 refine W.ret (Zq ?_)
 first|(exfalso;rw[g19] at hs;revert hs;decide)|simp[f443]
 simp
 iterate 3 (refine Zg hD rfl rfl ?_;simp)
 iterate 2 (refine Zo ?_;simp)
 refine WL.nil (hK _ ?_)
 refine Zc rfl ?_ ?_<;>intro hb0<;>try simp at hb0
 exfalso
 subst hb0
 revert hs
 decide
 apply Zr;intros
 iterate 3 (refine Zo ?_;simp)
 exact Zx
 refine Zc rfl ?_ ?_<;>intro hb1<;>try simp at hb1
 apply Zr;intros
 iterate 3 (refine Zo ?_;simp)
 refine Zl [] rfl func444 (Ol ⟨bt s 0,bN s 0⟩ _) ?_;simp
 refine Zo ?_;simp
 exact Zx
 refine W.ret (Zq ?_)
 first|(exfalso;rw[g19] at hs;revert hs;decide)|simp[f443]
 exfalso;omega
theorem XX (s:ByteArray) (hs:s.size=1) (h:HP):CS cx.P 441 [.d (.lf (.string EG)),.d (.lf (.string s))] h (.d (.lf (.int .i64 (ixO ((bt s 0:Nat):Int))))) h:=by
 refine Ze func441 rfl 8 ?_
 apply Zr;intros
 refine Zo ?_;simp
 exact Zx
 apply Zr;intros
 iterate 2 (refine Zo ?_;simp)
 refine Zl [] rfl func443 (cP s hs _) ?_;simp
 refine Zo ?_;simp
 exact Zx
 refine W.ret (Zq ?_)
 simp[f441]
theorem jP (s:ByteArray) (hs:s.size=1) (h:HP):CS cx.P 438 [.d (.lf (.string EG)),.d (.lf (.string s))] h (.d (.lf (.bool (B6 D4 s)))) h:=by
 have hp:=SS hs
 refine Ze func438 rfl 9 ?_
 apply Zr;intros
 refine Zo ?_;simp
 exact Zx
 apply Zr;intros
 iterate 2 (refine Zo ?_;simp)
 refine Zl [] rfl func441 (XX s hs _) ?_;simp
 iterate 2 (refine Zo ?_;simp)
 exact Zx
 refine W.ret (Zq ?_)
 simp[f438,hp]
theorem db (s:ByteArray) (_:s.size≤134217728) (h:HP):CS cx.P 424 [.d (.lf (.string s))] h (.d (.lf (.bool (B6 D4 s)))) h:=by
 refine Ze func424 rfl 10 ?_
 apply Zr;intros
 refine Zo ?_ (by simp[EG]<;>omega);simp[EG]
 exact Zx
 refine W.seq ?_
 refine W.regJ0 (D:=_) rfl fun _ K hD hK=> ?_
 iterate 4 (refine Zo ?_ (by simp[EG]<;>omega);simp[EG])
 refine WL.split 6 _ rfl (fun g6=> ?_) fun g6=> ?_<;>try simp at g6
 simp[EG]
 refine Zg hD rfl rfl ?_ (by simp[EG]<;>omega);simp[EG]
 refine Zk hD rfl rfl [] rfl func438 (jP s (by omega) _) ?_ (by simp[EG]);simp[EG]
 iterate 2 (refine Zo ?_ (by simp[EG]<;>omega);simp[EG])
 refine WL.nil (hK _ ?_)
 refine W.ret (Zq ?_)
 simp[f424]<;>(try (have:=KZ (s:=s);grind))
 simp[EG]
 iterate 2 (refine Zn hD rfl rfl ?_;simp[EG])
 iterate 2 (refine Zo ?_ (by simp[EG]<;>omega);simp[EG])
 refine WL.nil (hK _ ?_)
 refine W.ret (Zq ?_)
 simp[f424]<;>(try (have:=KZ (s:=s);grind))
theorem dp (w:A1) (B:Nat) (hB:B≤134217728):∀(n:Nat) (s:ByteArray) (out:List ByteArray),SP w B n s out→∀h:HP,CS cx.P 210 [.d ((w).dd false),.d (.sl true .one ((out).map (dS))),.d (.lf (.string (s)))] h (.d (.sl true .one (((HX w (Ak w s) out)).map (dS)))) h:=by
 intro n
 induction n with
 |zero=>intro s out hx;obtain⟨m,hm, -⟩:=hx;omega
 |succ n ih=>
 intro s out hx h
 have ii:∀(s:ByteArray) (out:List ByteArray),Ct cx 210 [.d (As w),.d (.sl true .one ((out).map (dS))),.d (.lf (.string (s)))] (SP w B n s out) (.d (.sl true .one (((HX w (Ak w s) out)).map (dS)))):=fun s out=>⟨fk1 func210,fun hp h=>by have q:=ih s out hp h;first|exact q|simpa using q⟩
 have hst:=SP.start hx
 have hsu:∀s,(trR w s).1.Ao=Ak w s:=fun _=>rfl
 have ij:∀(s:ByteArray) (o:List ByteArray) (z:ByteArray),Ct cx 210 [.d (As w),.d (.sl true .one (o.map dS++[.lf (.string z)])),.d (.lf (.string (s)))] (SP w B n s (o++[z])) (.d (.sl true .one (((HX w (Ak w s) (o++[z]))).map (dS)))):=fun s o z=>⟨fk1 func210,fun hp h=>by have q:=ih s (o++[z]) hp h;simpa[dS] using q⟩
 refine Xe func210 rfl 39 [.tmp 6] ?_
 let M:List Nat:=[31,34,38]
 let G:List Nat:=[34]
 have H:=AN
 replace H:=AI hsu H
 repeat' (first|refine GO ?_|(refine Two.mk ?_ ?_<;>intro hb<;>(try simp at hb)<;>(try norm_cast at hb)<;>try replace H:=HN hb H)|(refine RG.mk ?_;(try clear hK hD);first|intro _ K hD hK|intro K hD hK)|(refine RF.mk ?_;intro hr)|(refine LF.mk ?_;(try clear hK hD);first|rfl|(simp[*];done)|(simp_all;done)|grind))
 refine W.loopR [3,20,21] [3] (fun k0 s0=>[(22,.d (.lf (.int .i64 (k0:Int)))),(1,.d (.sl true .one ((s0).map (dS))))]) (fun _ _=>[]) ((Ak w s).length) (fun k0 s0=>SI w B n (Ak w s) (HX w (Ak w s) out) k0 s0) (fun S=>Zu (S.tm 1)) rfl (by simp) (by simpa using hst) ?_
 · intro k0 hk0 s0 hi0 T hT;simp at hT;subst hT
   have hln:=hi0.len
   by_cases hkk:k0<(Ak w s).length
   rotate_left
   have hen:=hi0.end (by omega);replace H:=AI hen H
   rotate_left
   have hha:=hi0.has hkk;have hno:=hi0.not hkk;have hn1:=fun e=>(hno e).1;have hn2:=fun e=>(hno e).2;replace H:=AI hn1 (AI hn2 (AI hha H))
   all_goals repeat' (first|refine GO ?_|(refine Two.mk ?_ ?_<;>intro hb<;>(try simp at hb)<;>(try norm_cast at hb)<;>try replace H:=HN hb H)|(refine RG.mk ?_;(try clear hK hD);first|intro _ K hD hK|intro K hD hK)|(refine RF.mk ?_;intro hr)|(refine LF.mk ?_;(try clear hK hD);first|rfl|(simp[*];done)|(simp_all;done)|grind))
