/- Part 14. No condition. -/
import Derived.Test.YtdooklofebdknaaGreatM13
namespace Go.Proofs.YtdooklofebdknaaGreat
open Go.RowKit Tryz
set_option linter.unusedVariables false
set_option maxRecDepth 10000
set_option linter.unusedSimpArgs false
set_option maxHeartbeats 4000000
def low (n:Int):Bool:=decide (97≤n) && decide (n≤122)
def dig (n:Int):Bool:=decide (48≤n) && decide (n≤57)
def Ay (x lo hi:Int):Bool:=decide (lo≤x) && decide (x≤hi)
def Cp (s:ByteArray):Bool:=s.toList==[105,110,116]||s.toList==[98,111,111,108]
theorem Ki (n:Int) (h:HP):CS cx.P 174 [.d (.lf (.int .u8 (n:Int)))] h (.d (.lf (.bool (low n)))) h:=by
 refine Ze func174 rfl 9 ?_
 apply Zr;intros
 refine Zo ?_;simp
 exact Zx
 refine W.seq ?_
 refine W.regJ0 (D:=_) rfl fun _ K hD hK=> ?_
 iterate 3 (refine Zo ?_;simp)
 refine WL.split 5 _ rfl (fun g5=> ?_) fun g5=> ?_<;>try simp at g5
 simp
 iterate 2 (refine Zg hD rfl rfl ?_;simp)
 iterate 2 (refine Zo ?_;simp)
 refine WL.nil (hK _ ?_)
 refine W.ret (Zq ?_)
 simp[f174,low,g5]<;>omega
 simp
 iterate 2 (refine Zn hD rfl rfl ?_;simp)
 iterate 2 (refine Zo ?_;simp)
 refine WL.nil (hK _ ?_)
 refine W.ret (Zq ?_)
 simp[f174,low,g5]<;>omega
theorem Kj (n:Int) (h:HP):CS cx.P 175 [.d (.lf (.int .u8 (n:Int)))] h (.d (.lf (.bool (dig n)))) h:=by
 refine Ze func175 rfl 9 ?_
 apply Zr;intros
 refine Zo ?_;simp
 exact Zx
 refine W.seq ?_
 refine W.regJ0 (D:=_) rfl fun _ K hD hK=> ?_
 iterate 3 (refine Zo ?_;simp)
 refine WL.split 5 _ rfl (fun g5=> ?_) fun g5=> ?_<;>try simp at g5
 simp
 iterate 2 (refine Zg hD rfl rfl ?_;simp)
 iterate 2 (refine Zo ?_;simp)
 refine WL.nil (hK _ ?_)
 refine W.ret (Zq ?_)
 simp[f175,dig,g5]<;>omega
 simp
 iterate 2 (refine Zn hD rfl rfl ?_;simp)
 iterate 2 (refine Zo ?_;simp)
 refine WL.nil (hK _ ?_)
 refine W.ret (Zq ?_)
 simp[f175,dig,g5]<;>omega
theorem Fe (x lo hi:Int) (h:HP):CS cx.P 38 [.d (.lf (.int .i64 (x))),.d (.lf (.int .i64 (lo))),.d (.lf (.int .i64 (hi)))] h (.d (.lf (.bool (Ay x lo hi)))) h:=by
 refine Ze func38 rfl 15 ?_
 apply Zr;intros
 refine Zo ?_;simp
 exact Zx
 refine W.seq ?_
 refine W.regJ0 (D:=_) rfl fun _ K hD hK=> ?_
 iterate 4 (refine Zo ?_;simp)
 refine WL.split 10 _ rfl (fun g10=> ?_) fun g10=> ?_<;>try simp at g10
 simp
 iterate 3 (refine Zg hD rfl rfl ?_;simp)
 iterate 2 (refine Zo ?_;simp)
 refine WL.nil (hK _ ?_)
 refine W.ret (Zq ?_)
 simp[f38,Ay,g10]<;>omega
 simp
 iterate 3 (refine Zn hD rfl rfl ?_;simp)
 iterate 2 (refine Zo ?_;simp)
 refine WL.nil (hK _ ?_)
 refine W.ret (Zq ?_)
 simp[f38,Ay,g10]<;>omega
theorem EJ (s:ByteArray) (h:HP):CS cx.P 192 [.d (.lf (.string s))] h (.d (.lf (.bool (Cp s)))) h:=by
 refine Ze func192 rfl 9 ?_
 apply Zr;intros
 refine Zo ?_;simp
 exact Zx
 refine W.seq ?_
 refine W.regJ0 (D:=_) rfl fun _ K hD hK=> ?_
 iterate 3 (refine Zo ?_;simp)
 refine WL.split 5 _ rfl (fun g5=> ?_) fun g5=> ?_<;>try simp at g5
 simp
 iterate 2 (refine Zn hD rfl rfl ?_;simp)
 iterate 2 (refine Zo ?_;simp)
 refine WL.nil (hK _ ?_)
 refine W.ret (Zq ?_)
 simp[f192,Cp,g5]
 simp
 iterate 2 (refine Zg hD rfl rfl ?_;simp)
 iterate 2 (refine Zo ?_;simp)
 refine WL.nil (hK _ ?_)
 refine W.ret (Zq ?_)
 simp[f192,Cp,g5]
theorem Gq (s:ByteArray) (h:HP):CS cx.P 239 [.d (.lf (.string s))] h (.d (.lf (.bool (Cp s)))) h:=by
 refine Ze func239 rfl 9 ?_
 apply Zr;intros
 refine Zo ?_;simp
 exact Zx
 refine W.seq ?_
 refine W.regJ0 (D:=_) rfl fun _ K hD hK=> ?_
 iterate 3 (refine Zo ?_;simp)
 refine WL.split 5 _ rfl (fun g5=> ?_) fun g5=> ?_<;>try simp at g5
 simp
 iterate 2 (refine Zn hD rfl rfl ?_;simp)
 iterate 2 (refine Zo ?_;simp)
 refine WL.nil (hK _ ?_)
 refine W.ret (Zq ?_)
 simp[f239,Cp,g5]
 simp
 iterate 2 (refine Zg hD rfl rfl ?_;simp)
 iterate 2 (refine Zo ?_;simp)
 refine WL.nil (hK _ ?_)
 refine W.ret (Zq ?_)
 simp[f239,Cp,g5]
theorem JF {l:List ByteArray} {s:ByteArray} {k:Nat} (h:∀j,j<k→l[j]? ≠some s) (hk:k<l.length) (hn:¬l[k]=s):∀j,j<k+1→l[j]? ≠some s:=fun j hj=>by
 rcases Nat.lt_or_ge j k with q|q
 ·exact h j q
 ·have:j=k:=by omega
  subst this
  rw[List.getElem?_eq_getElem hk];simpa using hn
theorem Kc {l:List ByteArray} {s:ByteArray} (h:∀j,j<l.length→l[j]? ≠some s):s∉l:=fun hs=>by
 obtain⟨j,hj⟩:=List.mem_iff_getElem?.1 hs
 exact h j (List.getElem?_eq_some_iff.1 hj).1 hj
theorem F6 (l:List ByteArray) (s:ByteArray) (hm:l.length≤4294967296) (h:HP):CS cx.P 92 [.d (.sl false .one (l.map dS)),.d (.lf (.string s))] h (.d (.lf (.bool (B6 l s)))) h:=by
 refine Ze func92 rfl 18 ?_
 apply Zr;intros
 refine Zo ?_;simp
 exact Zx
 refine W.seq ?_
 apply Zr;intros
 refine Zo ?_;simp
 exact Zx
 refine W.block ?_
 refine W.loopI [0,1] [] (fun k0=>[(5,.d (.lf (.int .i64 (k0:Int))))]) (fun _=>[]) l.length (fun k0=>∀j,j<k0→l[j]? ≠some s) rfl (by simp) (by simp) fun k0 hk0 hi0 T hT=> ?_
 simp at hT;subst hT
 refine W.seq ?_
 apply Zr;intros
 iterate 4 (refine Zo ?_;simp)
 exact Zx
 refine Zc rfl ?_ ?_<;>intro hb0<;>try simp at hb0
 have hx:=B1 hb0 (by omega)
 refine W.skip ?_
 refine Zb ?_
 apply Zr;intros
 iterate 6 (refine Zo ?_ (by simp[hb0,hx]<;>omega);simp[hb0,hx])
 exact Zx
 refine Zc rfl ?_ ?_<;>intro hb1<;>try simp at hb1
 have hres:=Km (hb1 ▸ gm hb0:s∈l)
 apply Zr;intros
 refine Zo ?_ (by simp[hb0,hx]<;>omega);simp[hb0,hx]
 exact Zx
 refine W.ret (Zq ?_)
 simp[f92,hres]
 refine W.skip ?_
 apply Zs;intros
 iterate 3 (refine Zo ?_ (by simp[hb0,hx]<;>omega);simp[hb0,hx])
 exact Zx
 refine⟨hb0,JF hi0 hb0 hb1,Wz.to rfl rfl rfl ?_⟩
 simp
 have hkl:k0=l.length:=by omega
 subst hkl
 have hres:=JS (Kc hi0)
 refine W.exit ?_
 apply Zr;intros
 refine Zo ?_;simp
 exact Zx
 refine W.ret (Zq ?_)
 simp[f92,hres]
def rsv:List ByteArray:=[⟨#[105,110,116]⟩,⟨#[98,111,111,108]⟩,⟨#[97,115,115,111,99]⟩,⟨#[100,121,110]⟩,⟨#[105,102]⟩,⟨#[108,101,116]⟩,⟨#[99,97,115,101]⟩,⟨#[110,101,119]⟩,⟨#[109,101,116,104,111,100]⟩,⟨#[112,97,99,107]⟩,⟨#[116,114,117,101]⟩,⟨#[102,97,108,115,101]⟩]
def CG (s:ByteArray) (i:Nat):Bool:=low (bt s i)|| !(decide (i=0)) && dig (bt s i)
def BU (s:ByteArray):Bool:=KG s.size (CG s) && Ay s.size 1 8 && !B6 rsv s
theorem YS {s:ByteArray} {k:Nat} (hk:k<s.size) (h:CG s k=false):BU s=false:=by
 unfold BU;rw[GD hk h];rfl
theorem Hz (s:ByteArray) (h:HP):CS cx.P 158 [.d (.lf (.string s))] h (.d (.lf (.bool (B6 rsv s)))) h:=by
 refine Ze func158 rfl 6 ?_
 apply Zr;intros
 refine Zo ?_ (by simp[rsv]<;>omega);simp[rsv]
 exact Zx
 apply Zr;intros
 iterate 2 (refine Zo ?_ (by simp[rsv]<;>omega);simp[rsv])
 refine Zl [] rfl func92 (F6 rsv s (by decide) _) ?_ (by simp[rsv]);simp[rsv]
 refine Zo ?_ (by simp[rsv]<;>omega);simp[rsv]
 exact Zx
 refine W.ret (Zq ?_)
 simp[f158,rsv]
theorem Fq (s:ByteArray) (hs:s.size≤134217728) (h:HP):CS cx.P 90 [.d (.lf (.string s))] h (.d (.lf (.bool (BU s)))) h:=by
 refine Ze func90 rfl 47 ?_
 apply Zr;intros
 refine Zo ?_;simp
 exact Zx
 refine W.seq ?_
 refine W.seq ?_
 refine W.regJ0 (D:=_) rfl fun _ K hD hK=> ?_
 iterate 2 (refine Zo ?_;simp)
 refine Zl [] rfl func38 (Fe s.size 1 8 _) ?_;simp
 iterate 2 (refine Zo ?_;simp)
 refine WL.split 9 _ rfl (fun g9=> ?_) fun g9=> ?_<;>try simp at g9
 have hres:BU s=false:=by simp[BU,g9]
 simp
 iterate 2 (refine Zn hD rfl rfl ?_;simp)
 refine Zo ?_;simp
 refine WL.nil (hK _ ?_)
 refine W.condT rfl trivial ?_
 apply Zr;intros
 refine Zo ?_;simp
 exact Zx
 refine W.ret (Zq ?_)
 simp[f90,hres]
 simp
 refine Zg hD rfl rfl ?_;simp
 refine Zk hD rfl rfl [] rfl func158 (Hz s _) ?_;simp
 refine Zo ?_;simp
 refine WL.nil (hK _ ?_)
 refine Zc rfl ?_ ?_<;>intro hb0<;>try simp at hb0
 have hres:BU s=false:=by simp[BU,hb0]
 apply Zr;intros
 refine Zo ?_;simp
 exact Zx
 refine W.ret (Zq ?_)
 simp[f90,hres]
 refine W.skip ?_
 refine W.seq ?_
 apply Zr;intros
 refine Zo ?_;simp
 exact Zx
 refine W.block ?_
 refine W.loopI [0] [] (fun k0=>[(3,.d (.lf (.int .i64 (k0:Int))))]) (fun _=>[]) s.size (fun k0=>∀j,j<k0→CG s j=true) rfl (by simp) (by simp) fun k0 hk0 hi0 T hT=> ?_
 simp at hT;subst hT
 refine W.seq ?_
 apply Zr;intros
 iterate 4 (refine Zo ?_;simp)
 exact Zx
 refine Zc rfl ?_ ?_<;>intro hb1<;>try simp at hb1
 have hx:=B1 hb1 (by omega)
 refine W.skip ?_
 refine Zb ?_
 refine W.seq ?_
 refine W.regJ (D:=_) [0,3] [] [(4,.d (.lf (.bool (low ((bt s k0:Nat):Int)))))] [] rfl (fun _ K hD hK=> ?_) fun T hT=> ?_
 iterate 5 (refine Zo ?_ (by simp[hb1,hx]<;>omega);simp[hb1,hx])
 refine WL.split 23 _ rfl (fun g23=> ?_) fun g23=> ?_<;>try simp at g23
 simp[hb1,hx]
 iterate 4 (refine Zg hD rfl rfl ?_ (by simp[hb1,hx]<;>omega);simp[hb1,hx])
 iterate 2 (refine Zo ?_ (by simp[hb1,hx]<;>omega);simp[hb1,hx])
 refine WL.nil (hK _ (Wz.to rfl rfl rfl ?_))
 simp[low,g9,g23]<;>omega
 simp[hb1,hx]
 iterate 4 (refine Zn hD rfl rfl ?_;simp[hb1,hx])
 iterate 2 (refine Zo ?_ (by simp[hb1,hx]<;>omega);simp[hb1,hx])
 refine WL.nil (hK _ (Wz.to rfl rfl rfl ?_))
 simp[low,g9,g23]<;>omega
 simp at hT;subst hT
 refine W.seq ?_
 refine W.regJ (D:=_) [0,3] [] [(46,.d (.lf (.bool (!CG s k0))))] [] rfl (fun _ K hD hK=> ?_) fun T hT=> ?_
 iterate 3 (refine Zo ?_ (by simp[hb1,hx]<;>omega);simp[hb1,hx])
 refine WL.split 31 _ rfl (fun g31=> ?_) fun g31=> ?_<;>try simp at g31
 simp[hb1,hx]
 iterate 3 (refine Zg hD rfl rfl ?_ (by simp[hb1,hx]<;>omega);simp[hb1,hx])
 refine WL.split 34 _ rfl (fun g34=> ?_) fun g34=> ?_<;>try simp at g34
 have e0:=g34
 subst e0
 simp[hb1,hx]
 iterate 4 (refine Zn hD rfl rfl ?_;simp[hb1,hx])
 iterate 2 (refine Zg hD rfl rfl ?_ (by simp[hb1,hx]<;>omega);simp[hb1,hx])
 iterate 4 (refine Zn hD rfl rfl ?_;simp[hb1,hx])
 refine Zg hD rfl rfl ?_ (by simp[hb1,hx]<;>omega);simp[hb1,hx]
 refine Zo ?_ (by simp[hb1,hx]<;>omega);simp[hb1,hx]
 refine WL.nil (hK _ (Wz.to rfl rfl rfl ?_))
 simp[CG,dig,g9,g31,g34]<;>first|omega|grind
 simp[hb1,hx]
 iterate 6 (refine Zg hD rfl rfl ?_ (by simp[hb1,hx]<;>omega);simp[hb1,hx])
 refine WL.split 40 _ rfl (fun g40=> ?_) fun g40=> ?_<;>try simp at g40
 simp[hb1,hx]
 iterate 4 (refine Zn hD rfl rfl ?_;simp[hb1,hx])
 refine Zg hD rfl rfl ?_ (by simp[hb1,hx]<;>omega);simp[hb1,hx]
 refine Zo ?_ (by simp[hb1,hx]<;>omega);simp[hb1,hx]
 refine WL.nil (hK _ (Wz.to rfl rfl rfl ?_))
 simp[CG,dig,g9,g31,g34,g40]<;>first|omega|grind
 simp[hb1,hx]
 iterate 5 (refine Zg hD rfl rfl ?_ (by simp[hb1,hx]<;>omega);simp[hb1,hx])
 refine Zo ?_ (by simp[hb1,hx]<;>omega);simp[hb1,hx]
 refine WL.nil (hK _ (Wz.to rfl rfl rfl ?_))
 simp[CG,dig,g9,g31,g34,g40]<;>first|omega|grind
 simp[hb1,hx]
 iterate 14 (refine Zn hD rfl rfl ?_;simp[hb1,hx])
 refine Zo ?_ (by simp[hb1,hx]<;>omega);simp[hb1,hx]
 refine WL.nil (hK _ (Wz.to rfl rfl rfl ?_))
 simp[CG,dig,g9,g31]<;>first|omega|grind
 simp at hT;subst hT
 refine Zc rfl ?_ ?_<;>intro hb2<;>try simp at hb2
 have hres:=YS hb1 (by simpa using hb2)
 apply Zr;intros
 refine Zo ?_ (by simp[hb1,hx]<;>omega);simp[hb1,hx]
 exact Zx
 refine W.ret (Zq ?_)
 simp[f90,hres]
 refine W.skip ?_
 apply Zs;intros
 iterate 3 (refine Zo ?_ (by simp[hb1,hx]<;>omega);simp[hb1,hx])
 exact Zx
 refine⟨hb1,FX hi0 (by simpa using hb2),Wz.to rfl rfl rfl ?_⟩
 simp
 have hkl:k0=s.size:=by omega
 subst hkl
 have hres:BU s=true:=by simp[BU,Hs hi0,g9,hb0]
 refine W.exit ?_
 apply Zr;intros
 refine Zo ?_;simp
 exact Zx
 refine W.ret (Zq ?_)
 simp[f90,hres]
def CR {α:Type} (l:List α) (p:α→Bool):Int:=match l.findIdx? p with
 |some i=>(i:Int)
 |none=> -1
theorem EM {α:Type} {l:List α} {p:α→Bool} {k:Nat} (h:∀j,j<k→∀y,l[j]? =some y→p y=false) (hk:k<l.length) (e:p l[k]=true):CR l p=(k:Int):=by
 have:l.findIdx? p=some k:=by
  rw[List.findIdx?_eq_some_iff_getElem]
  refine⟨hk,e,fun j hj=> ?_⟩
  rw[h j hj l[j] (List.getElem?_eq_getElem (by omega))];simp
 unfold CR;rw[this]
theorem EL {α:Type} {l:List α} {p:α→Bool} (h:∀j,j<l.length→∀y,l[j]? =some y→p y=false):CR l p= -1:=by
 have:l.findIdx? p=none:=by
  rw[List.findIdx?_eq_none_iff]
  intro x hx
  obtain⟨j,hj⟩:=List.mem_iff_getElem?.1 hx
  exact h j (List.getElem?_eq_some_iff.1 hj).1 x hj
 unfold CR;rw[this]
theorem BQ {α:Type} (l:List α) (p:α→Bool):decide (0≤CR l p)=l.any p:=by
 unfold CR
 cases h:l.findIdx? p with
 |none=>
  rw[List.findIdx?_eq_none_iff] at h
  have:l.any p=false:=by rw[List.any_eq_false];intro x hx;simp[h x hx]
  rw[this];rfl
 |some i=>
  rw[List.findIdx?_eq_some_iff_getElem] at h
  obtain⟨h1,h2, -⟩:=h
  have:l.any p=true:=List.any_eq_true.2 ⟨l[i],gm h1,h2⟩
  rw[this];simp
theorem Bv {α:Type} {l:List α} {p:α→Bool} {k:Nat} (h:∀j,j<k→∀y,l[j]? =some y→p y=false) (hk:k<l.length) (hn:p l[k]=false):∀j,j<k+1→∀y,l[j]? =some y→p y=false:=fun j hj y hy=>by
 rcases Nat.lt_or_ge j k with q|q
 ·exact h j q y hy
 ·have:j=k:=by omega
  subst this
  rw[List.getElem?_eq_getElem hk] at hy
  cases hy;exact hn
theorem II (l:List A0) (hm:l.length≤134217728) (g:Nat) (fn:Func) (body:Code) (hg:CT cx.P g fn body) (p:A0→Bool) (hp:∀y∈l,∀h,CS cx.P g [.d (y.dd false)] h (.d (.lf (.bool (p y)))) h) (h:HP):CS cx.P 321 [.d (.sl false Ag (l.map (A0.dd false))),.fn g []] h (.d (.lf (.int .i64 (CR l p)))) h:=by
 refine Ze func321 rfl 19 ?_
 apply Zr;intros
 refine Zo ?_;simp
 exact Zx
 refine W.seq ?_
 apply Zr;intros
 iterate 3 (refine Zo ?_;simp)
 exact Zx
 refine W.block ?_
 refine W.loopI [0,1,7] [] (fun k0=>[(8,.d (.lf (.int .i64 (k0:Int))))]) (fun _=>[]) l.length (fun k0=>∀j,j<k0→∀y,l[j]? =some y→p y=false) rfl (by simp) (by simp) fun k0 hk0 hi0 T hT=> ?_
 simp at hT;subst hT
 apply Zr;intros
 refine Zo ?_;simp
 exact Zx
 refine Zv rfl ?_ ?_<;>intro hb0<;>try simp at hb0
 have hx:=B1 hb0 (by omega)
 refine W.skip ?_
 refine Zb ?_
 apply Zr;intros
 iterate 2 (refine Zo ?_ (by simp[hb0,hx]<;>omega);simp[hb0,hx])
 exact Zx
 apply Zr;intros
 iterate 5 (refine Zo ?_ (by simp[hb0,hx]<;>omega);simp[hb0,hx])
 refine WL.call [] _ _ _ rfl rfl (by simp) (g:=g) (caps:=[]) (by simp) (by simp) hg rfl (by simp[hb0,hx]) (by simp) (by simp[hb0,hx]) (hp l[k0] (gm hb0) _) rfl ?_;simp[hb0,hx]
 exact Zx
 refine Zc rfl ?_ ?_<;>intro hb1<;>try simp at hb1
 have hres:=EM hi0 hb0 hb1
 apply Zr;intros
 iterate 2 (refine Zo ?_ (by simp[hb0,hx]<;>omega);simp[hb0,hx])
 exact Zx
 refine W.ret (Zq ?_)
 simp[f321,hres]
 refine W.skip ?_
 apply Zs;intros
 iterate 2 (refine Zo ?_ (by simp[hb0,hx]<;>omega);simp[hb0,hx])
 exact Zx
 refine⟨hb0,Bv hi0 hb0 hb1,Wz.to rfl rfl rfl ?_⟩
 simp
 have hkl:k0=l.length:=by omega
 subst hkl
 have hres:=EL hi0
 refine W.exit ?_
 apply Zr;intros
 refine Zo ?_;simp
 exact Zx
 refine W.ret (Zq ?_)
 simp[f321,hres]
theorem GH (l:List A0) (hm:l.length≤134217728) (g:Nat) (fn:Func) (body:Code) (hg:CT cx.P g fn body) (p:A0→Bool) (hp:∀y∈l,∀h,CS cx.P g [.d (y.dd false)] h (.d (.lf (.bool (p y)))) h) (h:HP):CS cx.P 252 [.d (.sl false Ag (l.map (A0.dd false))),.fn g []] h (.d (.lf (.bool (l.any p)))) h:=by
 refine Ze func252 rfl 9 ?_
 apply Zr;intros
 refine Zo ?_;simp
 exact Zx
 apply Zr;intros
 iterate 2 (refine Zo ?_;simp)
 refine Zl [] rfl func321 (II l hm g fn body hg p hp _) ?_;simp
 iterate 2 (refine Zo ?_;simp)
 exact Zx
 refine W.ret (Zq ?_)
 simp[f252, ←BQ]
def JN (l:List ByteArray) (s:ByteArray):Int:=match l.findIdx? fun x=>decide (x=s) with
 |some i=>(i:Int)
 |none=> -1
theorem YV {l:List ByteArray} {s:ByteArray} {k:Nat} (h:∀j,j<k→l[j]? ≠some s) (hk:k<l.length) (e:l[k]=s):JN l s=(k:Int):=by
 have:l.findIdx? (fun x=>decide (x=s))=some k:=by
  rw[List.findIdx?_eq_some_iff_getElem]
  refine⟨hk,by simp[e],fun j hj=> ?_⟩
  have:=h j hj
  rw[List.getElem?_eq_getElem (by omega)] at this
  simpa using this
 unfold JN;rw[this]
theorem YT {l:List ByteArray} {s:ByteArray} (h:s∉l):JN l s= -1:=by
 have:l.findIdx? (fun x=>decide (x=s))=none:=by
  rw[List.findIdx?_eq_none_iff]
  intro x hx
  have:x≠s:=fun e=>h (e ▸ hx)
  simpa using this
 unfold JN;rw[this]
theorem NK (l:List ByteArray) (s:ByteArray):decide (0≤JN l s)=B6 l s:=by
 unfold JN
 cases h:l.findIdx? fun x=>decide (x=s) with
 |none=>
  rw[List.findIdx?_eq_none_iff] at h
  rw[JS (fun q=>by simpa using h s q)];rfl
 |some i=>
  rw[List.findIdx?_eq_some_iff_getElem] at h
  obtain⟨h1,h2, -⟩:=h
  have h3:l[i]=s:=by simpa using h2
  rw[Km (h3 ▸ gm h1)]
  simp
theorem Ra (l:List ByteArray) (s:ByteArray) (hm:l.length≤4294967296) (h:HP):CS cx.P 178 [.d (.sl false .one (l.map dS)),.d (.lf (.string s))] h (.d (.lf (.int .i64 (JN l s)))) h:=by
 refine Ze func178 rfl 19 ?_
 apply Zr;intros
 refine Zo ?_;simp
 exact Zx
 refine W.seq ?_
 apply Zr;intros
 iterate 3 (refine Zo ?_;simp)
 exact Zx
 refine W.block ?_
 refine W.loopI [0,1,7] [] (fun k0=>[(8,.d (.lf (.int .i64 (k0:Int))))]) (fun _=>[]) l.length (fun k0=>∀j,j<k0→l[j]? ≠some s) rfl (by simp) (by simp) fun k0 hk0 hi0 T hT=> ?_
 simp at hT;subst hT
 apply Zr;intros
 refine Zo ?_;simp
 exact Zx
 refine Zv rfl ?_ ?_<;>intro hb0<;>try simp at hb0
 have hx:=B1 hb0 (by omega)
 refine W.skip ?_
 refine Zb ?_
 apply Zr;intros
 iterate 2 (refine Zo ?_ (by simp[hb0,hx]<;>omega);simp[hb0,hx])
 exact Zx
 apply Zr;intros
 iterate 6 (refine Zo ?_ (by simp[hb0,hx]<;>omega);simp[hb0,hx])
 exact Zx
 refine Zc rfl ?_ ?_<;>intro hb1<;>try simp at hb1
 have hres:=YV hi0 hb0 hb1.symm
 apply Zr;intros
 iterate 2 (refine Zo ?_ (by simp[hb0,hx]<;>omega);simp[hb0,hx])
 exact Zx
 refine W.ret (Zq ?_)
 simp[f178,hres]
 refine W.skip ?_
 apply Zs;intros
 iterate 2 (refine Zo ?_ (by simp[hb0,hx]<;>omega);simp[hb0,hx])
 exact Zx
 refine⟨hb0,JF hi0 hb0 (fun e=>hb1 e.symm),Wz.to rfl rfl rfl ?_⟩
 simp
 have hkl:k0=l.length:=by omega
 subst hkl
 have hres:=YT (Kc hi0)
 refine W.exit ?_
 apply Zr;intros
 refine Zo ?_;simp
 exact Zx
 refine W.ret (Zq ?_)
 simp[f178,hres]
theorem DY (l:List ByteArray) (s:ByteArray) (hm:l.length≤4294967296) (h:HP):CS cx.P 115 [.d (.sl false .one (l.map dS)),.d (.lf (.string s))] h (.d (.lf (.bool (B6 l s)))) h:=by
 refine Ze func115 rfl 9 ?_
 apply Zr;intros
 refine Zo ?_;simp
 exact Zx
 apply Zr;intros
 iterate 2 (refine Zo ?_;simp)
 refine Zl [] rfl func178 (Ra l s hm _) ?_;simp
 iterate 2 (refine Zo ?_;simp)
 exact Zx
 refine W.ret (Zq ?_)
 simp[f115, ←NK]
theorem I1 (s:ByteArray) (h:HP):CS cx.P 176 [.d (.lf (.string s))] h (.d (.lf (.bool (B6 rsv s)))) h:=by
 refine Ze func176 rfl 6 ?_
 apply Zr;intros
 refine Zo ?_ (by simp[rsv]<;>omega);simp[rsv]
 exact Zx
 apply Zr;intros
 iterate 2 (refine Zo ?_ (by simp[rsv]<;>omega);simp[rsv])
 refine Zl [] rfl func115 (DY rsv s (by decide) _) ?_ (by simp[rsv]);simp[rsv]
 refine Zo ?_ (by simp[rsv]<;>omega);simp[rsv]
 exact Zx
 refine W.ret (Zq ?_)
 simp[f176,rsv]
theorem CV (s:ByteArray) (hs:s.size≤134217728) (h:HP):CS cx.P 106 [.d (.lf (.string s))] h (.d (.lf (.bool (BU s)))) h:=by
 refine Ze func106 rfl 39 ?_
 apply Zr;intros
 refine Zo ?_;simp
 exact Zx
 refine W.seq ?_
 apply Zr;intros
 iterate 3 (refine Zo ?_;simp)
 exact Zx
 refine W.block ?_
 refine W.loopI [0,5] [] (fun k0=>[(6,.d (.lf (.int .i64 (k0:Int))))]) (fun _=>[]) s.size (fun k0=>∀j,j<k0→CG s j=true) rfl (by simp) (by simp) fun k0 hk0 hi0 T hT=> ?_
 simp at hT;subst hT
 apply Zr;intros
 refine Zo ?_;simp
 exact Zx
 refine Zv rfl ?_ ?_<;>intro hb0<;>try simp at hb0
 have hx:=B1 hb0 (by omega)
 refine W.skip ?_
 refine Zb ?_
 apply Zr;intros
 iterate 2 (refine Zo ?_ (by simp[hb0,hx]<;>omega);simp[hb0,hx])
 exact Zx
 refine W.seq ?_
 refine W.regJ (D:=_) [0,5,6] [] [(24,.d (.lf (.bool (!CG s k0))))] [] rfl (fun _ K hD hK=> ?_) fun T hT=> ?_
 iterate 3 (refine Zo ?_ (by simp[hb0,hx]<;>omega);simp[hb0,hx])
 refine Zl [] rfl func174 (Ki ((bt s k0:Nat):Int) _) ?_ (by simp[hb0,hx]);simp[hb0,hx]
 iterate 2 (refine Zo ?_ (by simp[hb0,hx]<;>omega);simp[hb0,hx])
 refine WL.split 14 _ rfl (fun g14=> ?_) fun g14=> ?_<;>try simp at g14
 simp[hb0,hx]
 iterate 3 (refine Zg hD rfl rfl ?_ (by simp[hb0,hx]<;>omega);simp[hb0,hx])
 refine WL.split 17 _ rfl (fun g17=> ?_) fun g17=> ?_<;>try simp at g17
 have e0:=g17
 subst e0
 simp[hb0,hx]
 iterate 5 (refine Zn hD rfl rfl ?_;simp[hb0,hx])
 refine Zg hD rfl rfl ?_ (by simp[hb0,hx]<;>omega);simp[hb0,hx]
 refine Zo ?_ (by simp[hb0,hx]<;>omega);simp[hb0,hx]
 refine WL.nil (hK _ (Wz.to rfl rfl rfl ?_))
 simp[CG,g14,g17]
 simp[hb0,hx]
 iterate 3 (refine Zg hD rfl rfl ?_ (by simp[hb0,hx]<;>omega);simp[hb0,hx])
 refine Zk hD rfl rfl [] rfl func175 (Kj ((bt s k0:Nat):Int) _) ?_ (by simp[hb0,hx]);simp[hb0,hx]
 iterate 2 (refine Zg hD rfl rfl ?_ (by simp[hb0,hx]<;>omega);simp[hb0,hx])
 refine Zo ?_ (by simp[hb0,hx]<;>omega);simp[hb0,hx]
 refine WL.nil (hK _ (Wz.to rfl rfl rfl ?_))
 simp[CG,g14,g17]
 simp[hb0,hx]
 iterate 9 (refine Zn hD rfl rfl ?_;simp[hb0,hx])
 refine Zo ?_ (by simp[hb0,hx]<;>omega);simp[hb0,hx]
 refine WL.nil (hK _ (Wz.to rfl rfl rfl ?_))
 simp[CG,g14]
 simp at hT;subst hT
 refine Zc rfl ?_ ?_<;>intro hb1<;>try simp at hb1
 have hall:=GD (n:=s.size) hb0 (by simpa using hb1:CG s k0=false)
 apply Zr;intros
 refine Zo ?_ (by simp[hb0,hx]<;>omega);simp[hb0,hx]
 exact Zx
 refine W.ret (Zq ?_)
 simp[f106,BU,Ay,hall]<;>omega
 refine W.skip ?_
 apply Zs;intros
 iterate 2 (refine Zo ?_ (by simp[hb0,hx]<;>omega);simp[hb0,hx])
 exact Zx
 refine⟨hb0,FX hi0 (by simpa using hb1),Wz.to rfl rfl rfl ?_⟩
 simp
 have hkl:k0=s.size:=by omega
 subst hkl
 have hall:=Hs hi0
 refine W.exit ?_
 refine W.seq ?_
 refine W.regJ0 (D:=_) rfl fun _ K hD hK=> ?_
 iterate 4 (refine Zo ?_;simp)
 refine WL.split 29 _ rfl (fun g29=> ?_) fun g29=> ?_<;>try simp at g29
 simp
 iterate 3 (refine Zg hD rfl rfl ?_;simp)
 iterate 2 (refine Zo ?_;simp)
 refine WL.split 34 _ rfl (fun g34=> ?_) fun g34=> ?_<;>try simp at g34
 simp
 refine Zg hD rfl rfl ?_;simp
 refine Zk hD rfl rfl [] rfl func176 (I1 s _) ?_;simp
 refine Zg hD rfl rfl ?_;simp
 iterate 2 (refine Zo ?_;simp)
 refine WL.nil (hK _ ?_)
 refine W.ret (Zq ?_)
 simp[f106,BU,Ay,hall,g29,g34]<;>omega
 simp
 iterate 3 (refine Zn hD rfl rfl ?_;simp)
 iterate 2 (refine Zo ?_;simp)
 refine WL.nil (hK _ ?_)
 refine W.ret (Zq ?_)
 simp[f106,BU,Ay,hall,g29,g34]<;>omega
 simp
 iterate 3 (refine Zn hD rfl rfl ?_;simp)
 iterate 2 (refine Zo ?_;simp)
 iterate 3 (refine Zn hD rfl rfl ?_;simp)
 iterate 2 (refine Zo ?_;simp)
 refine WL.nil (hK _ ?_)
 refine W.ret (Zq ?_)
 simp[f106,BU,Ay,hall,g29]<;>omega
mutual
def AQ:A0→Nat
 |⟨_,_,l⟩=>1+Ae l
def Ae:List A0→Nat
 |[]=>0
 |x::l=>AQ x+Ae l
end
mutual
def CA:A0→Nat
 |⟨_,_,l⟩=>Cs l
def Cs:List A0→Nat
 |[]=>0
 |x::l=>max (CA x+1) (Cs l)
end
theorem Bk:∀a b:List A0,Ae (a++b)=Ae a+Ae b
 |[],b=>by simp[Ae]
 |x::a,b=>by simp only[List.cons_append,Ae,Bk a b];omega
theorem Hx:∀a b:List A0,Cs (a++b)=max (Cs a) (Cs b)
 |[],b=>by simp[Cs]
 |x::a,b=>by simp only[List.cons_append,Cs,Hx a b];exact(Nat.max_assoc _ _ _).symm
mutual
theorem DF:∀x:A0,AQ x≤1+x.sz
 |⟨_,_,l⟩=>by simp only[AQ,A0.sz];have:=HU l;omega
theorem HU:∀l:List A0,Ae l≤l.length+A0.szLs l
 |[]=>by simp[Ae,A0.szLs]
 |x::l=>by simp only[Ae,A0.szLs,List.length_cons];have:=DF x;have:=HU l;omega
end
mutual
theorem HV:∀x:A0,CA x≤x.sz
 |⟨_,_,l⟩=>by simp only[CA,A0.sz];have:=Iu l;omega
theorem Iu:∀l:List A0,Cs l≤l.length+A0.szLs l
 |[]=>by simp[Cs,A0.szLs]
 |x::l=>by simp only[Cs,A0.szLs,List.length_cons];have:=HV x;have:=Iu l;omega
end
def DE (l:List A0) (k:Nat):Nat:=1+Ae (l.take k)
theorem HT (l:List A0):DE l 0=1:=rfl
theorem DT (x:A0):DE x.AB x.AB.length=AQ x:=by cases x;simp[DE,AQ]
theorem KN {l:List A0} {k:Nat} (h:k<l.length) (hz:szs A0.sz l≤134217728):IntKind.i64.wrap ((DE l k:Int)+(AQ l[k]:Int))=(DE l (k+1):Int):=by
 have h1:DE l (k+1)=DE l k+AQ l[k]:=by
  unfold DE
  rw[Y' h,Bk];simp[Ae];omega
 have h2:DE l (k+1)≤1+Ae l:=by
  unfold DE
  have:=Bk (l.take (k+1)) (l.drop (k+1))
  rw[List.take_append_drop] at this;omega
 have h3:=HU l
 rw[A0.szLs_eq] at h3
 unfold szs at hz
 rw[BF (by omega) (by omega)];omega
def G7 (l:List A0) (k:Nat):Nat:=Cs (l.take k)
theorem KR (l:List A0):G7 l 0=0:=rfl
theorem KT (x:A0):G7 x.AB x.AB.length=CA x:=by cases x;simp[G7,CA]
theorem KS {l:List A0} {k:Nat} (h:k<l.length):G7 l (k+1)=max (G7 l k) (CA l[k]+1):=by
 unfold G7
 rw[Y' h,Hx];simp[Cs]
theorem PH (x:A0) (hz:x.sz≤134217728) (hc:∀y∈x.AB,∀h,CS cx.P 290 [.d (y.dd false)] h (.d (.lf (.int .i64 ((AQ y:Nat):Int)))) h) (h:HP):CS cx.P 290 [.d (x.dd false)] h (.d (.lf (.int .i64 ((AQ x:Nat):Int)))) h:=by
 have hz2:=x.sz_eq;unfold szs at hz2
 refine Ze func290 rfl 19 ?_
 apply Zr;intros
 iterate 2 (refine Zo ?_;simp)
 exact Zx
 apply Zr;intros
 refine Zo ?_;simp
 exact Zx
 refine W.seq ?_
 apply Zr;intros
 iterate 4 (refine Zo ?_;simp)
 exact Zx
 refine W.block ?_
 refine W.loopk [7,8] [] (fun k0=>[(9,.d (.lf (.int .i64 (k0:Int)))),(3,.d (.lf (.int .i64 ((DE x.AB k0:Nat):Int))))]) (fun _=>[]) x.AB.length rfl (by simp[HT]) fun k0 hk0 T hT=> ?_
 simp at hT;subst hT
 apply Zr;intros
 refine Zo ?_;simp
 exact Zx
 refine Zv rfl ?_ ?_<;>intro hb0<;>try simp at hb0
 have hx:=B1 hb0 (by omega)
 have hw:=KN hb0 (by unfold szs;omega)
 refine W.skip ?_
 refine Zb ?_
 apply Zr;intros
 refine Zo ?_ (by simp[hb0,hx,hw]<;>omega);simp[hb0,hx,hw]
 refine Zm [12] ?_ (by simp[hb0,hx,hw]<;>omega);simp[hb0,hx,hw]
 iterate 2 (refine Zo ?_ (by simp[hb0,hx,hw]<;>omega);simp[hb0,hx,hw])
 exact Zx
 apply Zs;intros
 iterate 2 (refine Zo ?_ (by simp[hb0,hx,hw]<;>omega);simp[hb0,hx,hw])
 refine Zl [] rfl func290 (hc x.AB[k0] (gm hb0) _) ?_ (by simp[hb0,hx,hw]);simp[hb0,hx,hw]
 iterate 2 (refine Zo ?_ (by simp[hb0,hx,hw]<;>omega);simp[hb0,hx,hw])
 exact Zx
 apply Zs;intros
 iterate 2 (refine Zo ?_ (by simp[hb0,hx,hw]<;>omega);simp[hb0,hx,hw])
 exact Zx
 refine⟨hb0,Wz.to rfl rfl rfl ?_⟩
 simp
 have hkl:k0=x.AB.length:=by omega
 subst hkl
 refine W.exit ?_
 apply Zr;intros
 iterate 2 (refine Zo ?_;simp)
 exact Zx
 refine W.ret (Zq ?_)
 simp[f290,DT]
theorem cH {l:List A0} {k:Nat} (h:k<l.length):(if (G7 l k:Int)<(CA l[k]:Int)+1 then (CA l[k]:Int)+1 else (G7 l k:Int))=(G7 l (k+1):Int):=by
 rw[KS h];split<;>omega
theorem cG {l:List A0} {k:Nat} (h:k<l.length):(if 1+(CA l[k]:Int)<(G7 l k:Int) then (G7 l k:Int) else 1+(CA l[k]:Int))=(G7 l (k+1):Int):=by
 rw[KS h];split<;>omega
theorem YQ (x y:Int) (h:HP):CS cx.P 420 [.d (.lf (.int .i64 (x))),.d (.lf (.int .i64 (y)))] h (.d (.lf (.int .i64 (if y<x then x else y)))) h:=by
 refine Ze func420 rfl 10 ?_
 apply Zr;intros
 refine Zo ?_;simp
 exact Zx
 refine W.seq ?_
 apply Zr;intros
 iterate 3 (refine Zo ?_;simp)
 exact Zx
 refine Zc rfl ?_ ?_<;>intro hb0<;>try simp at hb0
 apply Zr;intros
 iterate 2 (refine Zo ?_;simp)
 exact Zx
 refine W.ret (Zq ?_)
 simp[f420]
 omega
 refine W.skip ?_
 apply Zr;intros
 iterate 2 (refine Zo ?_;simp)
 exact Zx
 refine W.ret (Zq ?_)
 simp[f420]
 omega
theorem VK (x:A0) (hz:x.sz≤134217728) (hc:∀y∈x.AB,∀h,CS cx.P 323 [.d (y.dd false)] h (.d (.lf (.int .i64 ((CA y:Nat):Int)))) h) (h:HP):CS cx.P 323 [.d (x.dd false)] h (.d (.lf (.int .i64 ((CA x:Nat):Int)))) h:=by
 have hz2:=x.sz_eq;unfold szs at hz2
 refine Ze func323 rfl 20 ?_
 apply Zr;intros
 iterate 2 (refine Zo ?_;simp)
 exact Zx
 apply Zr;intros
 refine Zo ?_;simp
 exact Zx
 refine W.seq ?_
 apply Zr;intros
 iterate 4 (refine Zo ?_;simp)
 exact Zx
 refine W.block ?_
 refine W.loopk [7,8] [] (fun k0=>[(9,.d (.lf (.int .i64 (k0:Int)))),(3,.d (.lf (.int .i64 ((G7 x.AB k0:Nat):Int))))]) (fun _=>[]) x.AB.length rfl (by simp[KR]) fun k0 hk0 T hT=> ?_
 simp at hT;subst hT
 apply Zr;intros
 refine Zo ?_;simp
 exact Zx
 refine Zv rfl ?_ ?_<;>intro hb0<;>try simp at hb0
 have hx:=B1 hb0 (by omega)
 have hd:=HV x.AB[k0];have hs:=Ah A0.sz (gm hb0)
 have hv:=BF (n:=(CA x.AB[k0]:Int)+1) (by omega) (by omega)
 have hw:=cH hb0
 refine W.skip ?_
 refine Zb ?_
 apply Zr;intros
 refine Zo ?_ (by simp[hb0,hx,hw,hv]<;>omega);simp[hb0,hx,hw,hv]
 refine Zm [12] ?_ (by simp[hb0,hx,hw,hv]<;>omega);simp[hb0,hx,hw,hv]
 iterate 2 (refine Zo ?_ (by simp[hb0,hx,hw,hv]<;>omega);simp[hb0,hx,hw,hv])
 exact Zx
 apply Zs;intros
 iterate 2 (refine Zo ?_ (by simp[hb0,hx,hw,hv]<;>omega);simp[hb0,hx,hw,hv])
 refine Zl [] rfl func323 (hc x.AB[k0] (gm hb0) _) ?_ (by simp[hb0,hx,hw,hv]);simp[hb0,hx,hw,hv]
 iterate 3 (refine Zo ?_ (by simp[hb0,hx,hw,hv]<;>omega);simp[hb0,hx,hw,hv])
 exact Zx
 apply Zs;intros
 iterate 2 (refine Zo ?_ (by simp[hb0,hx,hw,hv]<;>omega);simp[hb0,hx,hw,hv])
 exact Zx
 refine⟨hb0,Wz.to rfl rfl rfl ?_⟩
 simp
 have hkl:k0=x.AB.length:=by omega
 subst hkl
 refine W.exit ?_
 apply Zr;intros
 iterate 2 (refine Zo ?_;simp)
 exact Zx
 refine W.ret (Zq ?_)
 simp[f323,KT]
theorem UL (x:A0) (hz:x.sz≤134217728) (hc:∀y∈x.AB,∀h,CS cx.P 370 [.d (y.dd false)] h (.d (.lf (.int .i64 ((CA y:Nat):Int)))) h) (h:HP):CS cx.P 370 [.d (x.dd false)] h (.d (.lf (.int .i64 ((CA x:Nat):Int)))) h:=by
 have hz2:=x.sz_eq;unfold szs at hz2
 refine Ze func370 rfl 22 ?_
 apply Zr;intros
 iterate 2 (refine Zo ?_;simp)
 exact Zx
 apply Zr;intros
 refine Zo ?_;simp
 exact Zx
 refine W.seq ?_
 apply Zr;intros
 refine Zo ?_;simp
 exact Zx
 refine W.block ?_
 refine W.loopk [1] [1] (fun k0=>[(4,.d (.lf (.int .i64 (k0:Int)))),(3,.d (.lf (.int .i64 ((G7 x.AB k0:Nat):Int))))]) (fun _=>[]) x.AB.length rfl (by simp[KR]) fun k0 hk0 T hT=> ?_
 simp at hT;subst hT
 refine W.seq ?_
 apply Zr;intros
 iterate 5 (refine Zo ?_;simp)
 exact Zx
 refine Zc rfl ?_ ?_<;>intro hb0<;>try simp at hb0
 have hx:=B1 hb0 (by omega)
 have hd:=HV x.AB[k0];have hs:=Ah A0.sz (gm hb0)
 have hv:=BF (n:=1+(CA x.AB[k0]:Int)) (by omega) (by omega)
 have hw:=cG hb0
 refine W.skip ?_
 refine Zb ?_
 apply Zs;intros
 iterate 6 (refine Zo ?_ (by simp[hb0,hx,hw,hv]<;>omega);simp[hb0,hx,hw,hv])
 refine Zl [] rfl func370 (hc x.AB[k0] (gm hb0) _) ?_ (by simp[hb0,hx,hw,hv]);simp[hb0,hx,hw,hv]
 refine Zo ?_ (by simp[hb0,hx,hw,hv]<;>omega);simp[hb0,hx,hw,hv]
 refine Zl [] rfl func420 (YQ (G7 x.AB k0) (1+(CA x.AB[k0]:Int)) _) ?_ (by simp[hb0,hx,hw,hv]);simp[hb0,hx,hw,hv]
 refine Zo ?_ (by simp[hb0,hx,hw,hv]<;>omega);simp[hb0,hx,hw,hv]
 exact Zx
 apply Zs;intros
 iterate 3 (refine Zo ?_ (by simp[hb0,hx,hw,hv]<;>omega);simp[hb0,hx,hw,hv])
 exact Zx
 refine⟨hb0,Wz.to rfl rfl rfl ?_⟩
 simp
 have hkl:k0=x.AB.length:=by omega
 subst hkl
 refine W.exit ?_
 apply Zr;intros
 iterate 2 (refine Zo ?_;simp)
 exact Zx
 refine W.ret (Zq ?_)
 simp[f370,KT]
def Cc (k:Int) (n:ByteArray) (m:Nat):Bool:=if k=1∨k=4 then BU n && decide (m=0) else if k=3 then BU n && decide (m=1) else if k=2 then BU n && decide (m≤3)||Cp n && decide (m=0) else false
mutual
def CL:A0→Bool
 |⟨k,n,l⟩=>Cc k n l.length && DU l
def DU:List A0→Bool
 |[]=>true
 |x::l=>CL x && DU l
end
def FV (l:List A0) (k:Nat):Bool:=DU (l.take k)
theorem Is:∀a b:List A0,DU (a++b)=(DU a && DU b)
 |[],b=>by simp[DU]
 |x::a,b=>by simp only[List.cons_append,DU,Is a b,Bool.and_assoc]
theorem Mk (l:List A0):FV l 0=true:=rfl
theorem Hw (x:A0):(Cc x.AH x.A6 x.AB.length && FV x.AB x.AB.length)=CL x:=by cases x;simp[FV,CL]
theorem Hv {l:List A0} {k:Nat} (h:k<l.length):FV l (k+1)=(FV l k && CL l[k]):=by
 unfold FV
 rw[Y' h,Is];simp[DU]
theorem Y0 (x:A0) (hz:x.sz≤134217728) (hc:∀y∈x.AB,∀h,CS cx.P 371 [.d (y.dd false)] h (.d (.lf (.bool (CL y)))) h) (h:HP):CS cx.P 371 [.d (x.dd false)] h (.d (.lf (.bool (CL x)))) h:=by
 have hz2:=x.sz_eq;unfold szs at hz2
 refine Ze func371 rfl 66 ?_
 apply Zr;intros
 iterate 2 (refine Zo ?_;simp)
 exact Zx
 apply Zr;intros
 iterate 2 (refine Zo ?_;simp)
 refine Zl [] rfl func90 (Fq x.A6 (by omega) _) ?_;simp
 refine Zo ?_;simp
 exact Zx
 refine W.seq ?_
 apply Zr;intros
 iterate 2 (refine Zo ?_;simp)
 exact Zx
 refine W.join [1] [1] [(3,.d (.lf (.bool (Cc x.AH x.A6 x.AB.length))))] [] ?_ fun T hT=> ?_
 refine W.block ?_
 refine W.seq ?_
 apply Zr;intros
 iterate 2 (refine Zo ?_;simp)
 exact Zx
 refine Zc rfl ?_ ?_<;>intro hb0<;>try simp at hb0
 refine W.skip ?_
 refine W.condT (by simp[hb0]) trivial ?_
 refine W.regJ0 (D:=_) rfl fun _ K hD hK=> ?_
 iterate 2 (refine Zo ?_;simp)
 refine WL.split 14 _ rfl (fun g14=> ?_) fun g14=> ?_<;>try simp at g14
 simp
 iterate 4 (refine Zg hD rfl rfl ?_;simp)
 iterate 2 (refine Zo ?_;simp)
 refine WL.nil (hK _ ?_)
 refine Wz.to rfl rfl rfl ?_
 simp[Cc,hb0,g14]<;>first|omega|grind
 simp
 iterate 4 (refine Zn hD rfl rfl ?_;simp)
 iterate 2 (refine Zo ?_;simp)
 refine WL.nil (hK _ ?_)
 refine Wz.to rfl rfl rfl ?_
 simp[Cc,hb0,g14]<;>first|omega|grind
 apply Zs;intros
 iterate 2 (refine Zo ?_;simp)
 exact Zx
 refine Zc rfl ?_ ?_<;>intro hb1<;>try simp at hb1
 refine W.regJ0 (D:=_) rfl fun _ K hD hK=> ?_
 iterate 2 (refine Zo ?_;simp)
 refine WL.split 14 _ rfl (fun g14=> ?_) fun g14=> ?_<;>try simp at g14
 simp
 iterate 4 (refine Zg hD rfl rfl ?_;simp)
 iterate 2 (refine Zo ?_;simp)
 refine WL.nil (hK _ ?_)
 refine Wz.to rfl rfl rfl ?_
 simp[Cc,hb0,hb1,g14]<;>first|omega|grind
 simp
 iterate 4 (refine Zn hD rfl rfl ?_;simp)
 iterate 2 (refine Zo ?_;simp)
 refine WL.nil (hK _ ?_)
 refine Wz.to rfl rfl rfl ?_
 simp[Cc,hb0,hb1,g14]<;>first|omega|grind
 apply Zr;intros
 iterate 2 (refine Zo ?_;simp)
 exact Zx
 refine Zc rfl ?_ ?_<;>intro hb2<;>try simp at hb2
 refine W.regJ0 (D:=_) rfl fun _ K hD hK=> ?_
 iterate 2 (refine Zo ?_;simp)
 refine WL.split 23 _ rfl (fun g23=> ?_) fun g23=> ?_<;>try simp at g23
 simp
 iterate 4 (refine Zg hD rfl rfl ?_;simp)
 iterate 2 (refine Zo ?_;simp)
 refine WL.nil (hK _ ?_)
 refine Wz.to rfl rfl rfl ?_
 simp[Cc,hb0,hb1,hb2,g23]<;>first|omega|grind
 simp
 iterate 4 (refine Zn hD rfl rfl ?_;simp)
 iterate 2 (refine Zo ?_;simp)
 refine WL.nil (hK _ ?_)
 refine Wz.to rfl rfl rfl ?_
 simp[Cc,hb0,hb1,hb2,g23]<;>first|omega|grind
 apply Zr;intros
 iterate 2 (refine Zo ?_;simp)
 exact Zx
 refine Zc rfl ?_ ?_<;>intro hb3<;>try simp at hb3
 refine W.regJ0 (D:=_) rfl fun _ K hD hK=> ?_
 iterate 2 (refine Zo ?_;simp)
 refine WL.split 32 _ rfl (fun g32=> ?_) fun g32=> ?_<;>try simp at g32
 simp
 iterate 4 (refine Zg hD rfl rfl ?_;simp)
 iterate 2 (refine Zo ?_;simp)
 refine WL.split 38 _ rfl (fun g38=> ?_) fun g38=> ?_<;>try simp at g38
 simp
 iterate 9 (refine Zn hD rfl rfl ?_;simp)
 iterate 2 (refine Zo ?_;simp)
 refine WL.nil (hK _ ?_)
 refine Wz.to rfl rfl rfl ?_
 simp[Cc,hb0,hb1,hb2,hb3,g32,g38]<;>first|omega|grind
 simp
 iterate 2 (refine Zg hD rfl rfl ?_;simp)
 refine Zk hD rfl rfl [] rfl func239 (Gq x.A6 _) ?_;simp
 refine Zg hD rfl rfl ?_;simp
 refine WL.split 42 _ rfl (fun g42=> ?_) fun g42=> ?_<;>try simp at g42
 simp
 iterate 5 (refine Zg hD rfl rfl ?_;simp)
 iterate 2 (refine Zo ?_;simp)
 refine WL.nil (hK _ ?_)
 refine Wz.to rfl rfl rfl ?_
 simp[Cc,hb0,hb1,hb2,hb3,g32,g38,g42]<;>first|omega|grind
 simp
 iterate 4 (refine Zn hD rfl rfl ?_;simp)
 refine Zg hD rfl rfl ?_;simp
 iterate 2 (refine Zo ?_;simp)
 refine WL.nil (hK _ ?_)
 refine Wz.to rfl rfl rfl ?_
 simp[Cc,hb0,hb1,hb2,hb3,g32,g38,g42]<;>first|omega|grind
 simp
 iterate 4 (refine Zn hD rfl rfl ?_;simp)
 iterate 2 (refine Zo ?_;simp)
 iterate 2 (refine Zg hD rfl rfl ?_;simp)
 refine Zk hD rfl rfl [] rfl func239 (Gq x.A6 _) ?_;simp
 refine Zg hD rfl rfl ?_;simp
 refine WL.split 42 _ rfl (fun g42=> ?_) fun g42=> ?_<;>try simp at g42
 simp
 iterate 5 (refine Zg hD rfl rfl ?_;simp)
 iterate 2 (refine Zo ?_;simp)
 refine WL.nil (hK _ ?_)
 refine Wz.to rfl rfl rfl ?_
 simp[Cc,hb0,hb1,hb2,hb3,g32,g42]<;>first|omega|grind
 simp
 iterate 4 (refine Zn hD rfl rfl ?_;simp)
 refine Zg hD rfl rfl ?_;simp
 iterate 2 (refine Zo ?_;simp)
 refine WL.nil (hK _ ?_)
 refine Wz.to rfl rfl rfl ?_
 simp[Cc,hb0,hb1,hb2,hb3,g32,g42]<;>first|omega|grind
 have hres:CL x=false:=by rw[←Hw];simp[Cc,hb0,hb1,hb2,hb3]
 apply Zr;intros
 refine Zo ?_;simp
 exact Zx
 refine W.ret (Zq ?_)
 simp[f371,hres]
 simp at hT;subst hT
 refine W.seq ?_
 apply Zr;intros
 refine Zo ?_;simp
 exact Zx
 refine W.block ?_
 refine W.loopk [1] [1] (fun k0=>[(4,.d (.lf (.int .i64 (k0:Int)))),(3,.d (.lf (.bool (Cc x.AH x.A6 x.AB.length && FV x.AB k0))))]) (fun _=>[]) x.AB.length rfl (by simp[Mk]) fun k0 hk0 T hT=> ?_
 simp at hT;subst hT
 refine W.seq ?_
 apply Zr;intros
 iterate 5 (refine Zo ?_;simp)
 exact Zx
 refine Zc rfl ?_ ?_<;>intro hb4<;>try simp at hb4
 have hx:=B1 hb4 (by omega)
 refine W.skip ?_
 refine Zb ?_
 refine W.regJ (D:=_) [1,4] [1] [(3,.d (.lf (.bool (Cc x.AH x.A6 x.AB.length && FV x.AB (k0+1)))))] [] rfl (fun _ K hD hK=> ?_) fun T hT=> ?_
 iterate 2 (refine Zo ?_ (by simp[hb4,hx]<;>omega);simp[hb4,hx])
 refine WL.split 57 _ rfl (fun g57=> ?_) fun g57=> ?_<;>try simp at g57
 simp[hb4,hx]
 iterate 5 (refine Zg hD rfl rfl ?_ (by simp[hb4,hx]<;>omega);simp[hb4,hx])
 refine Zk hD rfl rfl [] rfl func371 (hc x.AB[k0] (gm hb4) _) ?_ (by simp[hb4,hx]);simp[hb4,hx]
 iterate 2 (refine Zo ?_ (by simp[hb4,hx]<;>omega);simp[hb4,hx])
 refine WL.nil (hK _ (Wz.to rfl rfl rfl ?_))
 simp[Hv hb4,g57]<;>grind
 simp[hb4,hx]
 iterate 6 (refine Zn hD rfl rfl ?_;simp[hb4,hx])
 iterate 2 (refine Zo ?_ (by simp[hb4,hx]<;>omega);simp[hb4,hx])
 refine WL.nil (hK _ (Wz.to rfl rfl rfl ?_))
 simp[Hv hb4,g57]<;>grind
 simp at hT;subst hT
 apply Zs;intros
 iterate 3 (refine Zo ?_ (by simp[hb4,hx]<;>omega);simp[hb4,hx])
 exact Zx
 refine⟨hb4,Wz.to rfl rfl rfl ?_⟩
 simp
 have hkl:k0=x.AB.length:=by omega
 subst hkl
 have hres:=Hw x
 refine W.exit ?_
 apply Zr;intros
 iterate 2 (refine Zo ?_;simp)
 exact Zx
 refine W.ret (Zq ?_)
 simp[f371,hres]
