/- Part 19. No condition. -/
import Derived.Test.YtgihkamifpmfdaaGreatDoorM16
namespace Go.Proofs.YtgihkamifpmfdaaGreatDoor
open Go.RowKit
set_option linter.unusedVariables false
set_option linter.unusedSimpArgs false
structure HD (ops:Array Oper) (D:List (Option Nat)):Prop where
  h:ops.toList.map (·.dst)=D
structure HK (Q K:St→Prop):Prop where
  h:∀S',Q S'→K S'
structure HJ (P:St→Prop) (c:Cx) (ops:Array Oper) (l:List Oper) (K:St→Prop):Prop where
  h:∀S',P S'→WL c ops l S' K
structure IN (p:Prop):Prop where
  r:p
structure BO (p q:Prop):Prop where
  l:p
  r:q
section
variable {c:Cx} {ops:Array Oper} {o:Oper} {l:List Oper} {S S1:St} {K:St→Prop} {acc:List Sk} {D:List (Option Nat)} {Q:Exit→St→Prop} {j k:Nat} {b:Bool}
theorem Nnl {Q:St→Prop} (k:Q S) (hK:HK Q K:=by assumption):WL c ops [] S K:=WL.nil (hK.h _ k)
theorem Njn {P:St→Prop} (k:P S) (hJ:HJ P c ops l K:=by assumption):WL c ops ([]++l) S K:=hJ.h _ k
theorem Nn {n d:Nat} {f:Nat→AV} {hp:HP} (kk:WL c ops l ⟨n,upn f d (.tp []),hp⟩ K) (hg:o.guard=some (j,b):=by rfl) (hD:HD ops D:=by assumption) (hj:D[j]? =some (some k):=by rfl) (hk:f k=dB' (!b)∨f k=.tp []:=by first|exact .inl rfl|exact .inr rfl) (hd:o.dst=some d:=by rfl) (hn:Nat.ble (d+1) n=true:=by rfl):WL c ops (o::l) ⟨n,f,hp⟩ K:=
  Xn hD.h hg hj kk hk (fun _ h=>by rw[hd] at h;cases h;exact B8 hn) (by rw[hd,B0];rfl)
theorem Ng (M:List Nat) (kk:WL c ops l S1 K) (hg:o.guard=some (j,b):=by rfl) (hi:Hr o=false:=by rfl) (hD:HD ops D:=by assumption) (hj:D[j]? =some (some k):=by rfl) (hk:S.tm k=dB' b:=by rfl) (h:okP c M o S:=by(simp(disch:=first|(simp;done)|omega) [M,H,BH])<;>first|done|omega|grind) (e:nx c M o S=S1:=by first|(simp(disch:=first|(simp;done)|omega) [M,H,BH];rfl)|rfl):WL c ops (o::l) S K:=Xg M hD.h hg hj kk hi hk h e
theorem Np {lo d n:Nat} {f:Nat→AV} {hp:HP} {q:Bool} {l1 l2:List Oper}
    (h:PXs fun X Y=>BO (Two (q=true→IN (∀l3:List Oper,HJ (PJ ⟨n,upn f k (.d (.lf (.bool true))),hp⟩ lo d X) c ops l3 K→WL c ops (l1++l3) ⟨n,upn f k (.d (.lf (.bool true))),hp⟩ K)) (q=false→IN (∀l3:List Oper,HJ (PJ ⟨n,upn f k (.d (.lf (.bool false))),hp⟩ lo d Y) c ops l3 K→WL c ops (l1++l3) ⟨n,upn f k (.d (.lf (.bool false))),hp⟩ K))) (WL c ops l2 ⟨n,upn (Dy lo d f) d (.d (.lf (.bool (bif q then X else Y)))),hp⟩ K))
    (hg:o.guard=some (j,b):=by rfl) (hD:HD ops D:=by assumption) (hj:D[j]? =some (some k):=by rfl) (hq:f k=.d (.lf (.bool q)):=by rfl) (hs:pkn k (o::l)=some (l1,l2,some d):=by rfl) (hl:o.dst=some lo:=by rfl):WL c ops (o::l) ⟨n,f,hp⟩ K:=by
  obtain⟨X,Y,h⟩:=h.ex
  simp only[B0] at h
  refine XP hD.h hg hj hq hs hl ⟨X,Y,⟨⟨fun hq l3 hp=>(h.l.l hq).r l3 ⟨hp⟩⟩,⟨fun hq l3 hp=>(h.l.r hq).r l3 ⟨hp⟩⟩,⟨fun T' hT=> ?_⟩⟩⟩ rfl rfl
  rw[←hT];exact h.r
theorem NPJ {S S':St} {lo d:Nat} {X:Bool} (x:S'.tm d=dB' X:=by rfl) (tm:Dy lo d S'.tm=Dy lo d S.tm:=by first|rfl|(simp only[K3,HI,K4,Nat.reduceLeDiff,Nat.le_refl];done)|(simp only[K3,HI,K4,Nat.reduceLeDiff,Nat.le_refl];rfl)|(simp[K3,HI,K4,H];done)|fail) (n:S'.n=S.n:=by rfl) (hp:S'.hp=S.hp:=by rfl):PJ S lo d X S':=⟨x,tm,n,hp⟩
theorem Fw (M:List Nat) {sk:Sk} (kk:WL c ops l S1 K) (hg:o.guard=none:=by rfl) (h:FO c M o S S1 sk:=by first|exact Fml|exact FlP|exact FfP|exact Fln|exact FxE|exact Fbi|exact FfE|exact FlE|exact Fac|exact Fmv|exact Fal|exact Fnt|exact Fpt|exact Fpf|exact Fex|exact Fls|exact Fmc|exact Fis|exact Fsl):WL c ops (o::l) S K:=WL.op M hg h.ok h.nx kk
theorem Fg (M:List Nat) {sk:Sk} (kk:WL c ops l S1 K) (hg:o.guard=some (j,b):=by rfl) (hD:HD ops D:=by assumption) (hj:D[j]? =some (some k):=by rfl) (hk:S.tm k=dB' b:=by rfl) (h:FO c M o S S1 sk:=by first|exact Fml|exact FlP|exact FfP|exact Fln|exact FxE|exact Fbi|exact FfE|exact FlE|exact Fac|exact Fmv|exact Fal|exact Fnt|exact Fpt|exact Fpf|exact Fex|exact Fls|exact Fmc|exact Fis|exact Fsl):WL c ops (o::l) S K:=WL.opG M hD.h j k b hg hj hk h.ok h.nx kk
theorem Fd (M:List Nat) {sk:Sk} (kk:DL c ops (acc++[sk]) l S1 K) (hg:o.guard=none:=by rfl) (h:FO c M o S S1 sk:=by first|exact Fml|exact FlP|exact FfP|exact Fln|exact FxE|exact Fbi|exact FfE|exact FlE|exact Fac|exact Fmv|exact Fal|exact Fnt|exact Fpt|exact Fpf|exact Fex|exact Fls|exact Fmc|exact Fis|exact Fsl):DL c ops acc (o::l) S K:=DL.opS M hg h.ok h.nx sk h.sk kk
theorem FDg (M:List Nat) {sk:Sk} (kk:DL c ops (acc++[sk]) l S1 K) (hg:o.guard=some (j,b):=by rfl) (hD:HD ops D:=by assumption) (hj:D[j]? =some (some k):=by rfl) (hk:S.tm k=dB' b:=by rfl) (h:FO c M o S S1 sk:=by first|exact Fml|exact FlP|exact FfP|exact Fln|exact FxE|exact Fbi|exact FfE|exact FlE|exact Fac|exact Fmv|exact Fal|exact Fnt|exact Fpt|exact Fpf|exact Fex|exact Fls|exact Fmc|exact Fis|exact Fsl):DL c ops acc (o::l) S K:=DL.opGs M hD.h j k b hg hj hk h.ok h.nx sk h.sk kk
theorem Flt (M:List Nat) {sk:Sk} {T yT:Nat} {x y:Operand} {n m:Int} (k:IN ((-9223372036854775808≤n∧n≤9223372036854775807)∧(-9223372036854775808≤m∧m≤9223372036854775807)→WL c ops l S1 K)) (ho:o.op=.binOp .lss T x y yT:=by rfl) (hg:o.guard=none:=by rfl) (hx:evT c 0 S x=dI' n:=by rfl) (hy:evT c 0 S y=dI' m:=by rfl) (h:FO c M o S S1 sk:=by exact Fbi):WL c ops (o::l) S K:=by
  have h':=h.ok
  unfold okP at h'
  rw[ho] at h'
  exact WL.got (fun w F Θ own a hR=>⟨Ip hR h'.2.2.1 hx,Ip hR h'.2.2.2.1 hy⟩) fun q=>WL.op M hg h.ok h.nx (k.r q)
theorem Cw (G:List Nat) {sk:Sk} (kk:WL c ops l S1 K) (hg:o.guard=none:=by rfl) (h:CO c G o S S1 sk:=by first|exact C1|exact C2|exact C3|exact C4|exact C5|exact C2f):WL c ops (o::l) S K:=by
  obtain⟨x,args,argTypes,g,caps,fn,body,as',r,ho,hd,hf,of,hfn,hTs,hok,hn,ha,hc,e, -⟩:=h.ex
  exact WL.call G x args argTypes ho hg hd hf of hfn hTs hok hn ha (hc _) e kk
theorem Cg (G:List Nat) {sk:Sk} (kk:WL c ops l S1 K) (hg:o.guard=some (j,b):=by rfl) (hD:HD ops D:=by assumption) (hj:D[j]? =some (some k):=by rfl) (hk:S.tm k=dB' b:=by rfl) (h:CO c G o S S1 sk:=by first|exact C1|exact C2|exact C3|exact C4|exact C5|exact C2f):WL c ops (o::l) S K:=by
  obtain⟨x,args,argTypes,g,caps,fn,body,as',r,ho,hd,hf,of,hfn,hTs,hok,hn,ha,hc,e, -⟩:=h.ex
  exact WL.callG hD.h j k b hg hj hk G x args argTypes ho hd hf of hfn hTs hok hn ha (hc _) e kk
theorem Cd (G:List Nat) {sk:Sk} (kk:DL c ops (acc++[sk]) l S1 K) (hg:o.guard=none:=by rfl) (h:CO c G o S S1 sk:=by first|exact C1|exact C2|exact C3|exact C4|exact C5|exact C2f):DL c ops acc (o::l) S K:=by
  obtain⟨x,args,argTypes,g,caps,fn,body,as',r,ho,hd,hf,of,hfn,hTs,hok,hn,ha,hc,e,rfl⟩:=h.ex
  exact DL.call G x args argTypes ho hg hd hf of hfn hTs hok hn ha hc e kk
theorem CDg (G:List Nat) {sk:Sk} (kk:DL c ops (acc++[sk]) l S1 K) (hg:o.guard=some (j,b):=by rfl) (hD:HD ops D:=by assumption) (hj:D[j]? =some (some k):=by rfl) (hk:S.tm k=dB' b:=by rfl) (h:CO c G o S S1 sk:=by first|exact C1|exact C2|exact C3|exact C4|exact C5|exact C2f):DL c ops acc (o::l) S K:=by
  obtain⟨x,args,argTypes,g,caps,fn,body,as',r,ho,hd,hf,of,hfn,hTs,hok,hn,ha,hc,e,rfl⟩:=h.ex
  exact DL.callG hD.h j k b hg hj hk G x args argTypes ho hd hf of hfn hTs hok hn ha hc e kk
theorem Nd {id:Nat} (h:IN (∀(ops':Array Oper) (K:St→Prop),HD ops' D→HK (Q .normal) K→WL c ops' ops.toList S K)) (hD:ops.toList.map (·.dst)=D:=by rfl):W c (.region id ops false) S Q:=Xd hD ⟨fun ops' K h1 h2=>h.r ops' K ⟨h1⟩ ⟨h2⟩⟩
theorem NDd {id:Nat} (h:IN (∀K:St→Prop,HD ops D→HK (Q .normal) K→DL c ops [] ops.toList S K)) (hm:c.P.follows .mixedOrders=true:=by rfl) (hD:ops.toList.map (·.dst)=D:=by rfl):W c (.region id ops true) S Q:=XDd hm hD ⟨fun K h1 h2=>h.r K ⟨h1⟩ ⟨h2⟩⟩
theorem Nc {g:Operand} {x y:Code} {b:Bool} (h:Two (b=true→W c x S Q) (b=false→W c y S Q)) (hg:evT c 0 S g=dB' b:=by rfl) (og:okO c 0 g:=by trivial):W c (.cond g x y) S Q:=Xc hg h og
theorem pd {Q:St→Prop} (k:Q S) (hK:HK Q K:=by assumption) (hc:OH ops acc=true:=by decide+kernel):DL c ops acc [] S K:=DL.nil hc (hK.h _ k)
theorem NDn {n d:Nat} {f:Nat→AV} {hp:HP} (kk:DL c ops (acc++[⟨[],.val⟩]) l ⟨n,upn f d (.tp []),hp⟩ K) (hg:o.guard=some (j,b):=by rfl) (hD:HD ops D:=by assumption) (hj:D[j]? =some (some k):=by rfl) (hk:f k=dB' (!b)∨f k=.tp []:=by first|exact .inl rfl|exact .inr rfl) (hd:o.dst=some d:=by rfl) (hn:Nat.ble (d+1) n=true:=by rfl):DL c ops acc (o::l) ⟨n,f,hp⟩ K:=
  XDn hD.h hg hj kk hk (fun _ h=>by rw[hd] at h;cases h;exact B8 hn) (by rw[hd,B0];rfl)
theorem NDg (M:List Nat) {sk:Sk} (kk:DL c ops (acc++[sk]) l S1 K) (hg:o.guard=some (j,b):=by rfl) (hi:Hr o=false:=by rfl) (hD:HD ops D:=by assumption) (hj:D[j]? =some (some k):=by rfl) (hk:S.tm k=dB' b:=by rfl) (h:okP c M o S:=by(simp(disch:=first|(simp;done)|omega) [M,H,BH])<;>first|done|omega|grind) (e:nx c M o S=S1:=by first|(simp(disch:=first|(simp;done)|omega) [M,H,BH];rfl)|rfl) (hsk:(B5 c M o S).sk=sk:=by first|(simp[B5,Fsk.sk,Ef.kd,M];done)|(simp[B5,Fsk.sk,Ef.kd,M];rfl)|rfl):DL c ops acc (o::l) S K:=XDg M hD.h hg hj kk hi hk h e hsk
theorem NDs {q:Bool} {S2:St} (hk:Two (q=true→DL c ops acc (o::l) S1 K) (q=false→DL c ops acc (o::l) S2 K)) (hg:o.guard=some (j,b):=by rfl) (hD:HD ops D:=by assumption) (hj:D[j]? =some (some k):=by rfl) (hq:S.tm k=dB' q:=by rfl) (e1:(⟨S.n,upd S.tm k (dB' true),S.hp⟩:St)=S1:=by first|(simp[H];rfl)|rfl) (e2:(⟨S.n,upd S.tm k (dB' false),S.hp⟩:St)=S2:=by first|(simp[H];rfl)|rfl):DL c ops acc (o::l) S K:=XDs hD.h hg hj hq hk e1 e2
theorem nLe {n m:Nat}:((n:Nat):Int)≤(no_index (@OfNat.ofNat Int m instOfNat))↔n≤@OfNat.ofNat Nat m (instOfNatNat m):=by
  show((n:Nat):Int)≤((m:Nat):Int)↔n≤m
  omega
theorem nGe {n m:Nat}:(no_index (@OfNat.ofNat Int m instOfNat))≤((n:Nat):Int)↔@OfNat.ofNat Nat m (instOfNatNat m)≤n:=by
  show((m:Nat):Int)≤((n:Nat):Int)↔m≤n
  omega
theorem nLt {n m:Nat}:((n:Nat):Int)<(no_index (@OfNat.ofNat Int m instOfNat))↔n<@OfNat.ofNat Nat m (instOfNatNat m):=by
  show((n:Nat):Int)<((m:Nat):Int)↔n<m
  omega
theorem nGt {n m:Nat}:(no_index (@OfNat.ofNat Int m instOfNat))<((n:Nat):Int)↔@OfNat.ofNat Nat m (instOfNatNat m)<n:=by
  show((m:Nat):Int)<((n:Nat):Int)↔m<n
  omega
theorem nE1 {a b:Nat}:((a:Nat):Int)=(b:Int)+1↔a=b+1:=by omega
theorem nI {n m:Nat}:((n:Nat):Int)=(no_index (@OfNat.ofNat Int m instOfNat))↔n=@OfNat.ofNat Nat m (instOfNatNat m):=by
  show((n:Nat):Int)=((m:Nat):Int)↔n=m
  omega
theorem T2 {p p1 q q1 R T H0 H1 H2:Prop} (k1:p1→H1→R) (k2:q1→H2→T) (h0:H0:=by exact H)
    (e1:p→p1:=by first|(intro hb;(try simp[Int.ofNat_inj,nI,nLe,nGe,nLt,nGt,nE1] at hb);exact hb)|exact fun hb=>(by simp at hb:False))
    (n1:p1→H0→H1:=by first|exact fun (a:(_:Nat)<_) b=>AI a b|exact fun (a:(_:Int)<_) b=>AI a b|exact fun (a:(_:Bool)=_) b=>AI a b|exact fun (a:¬_) b=>AI a b|exact fun _ b=>b)
    (e2:q→q1:=by first|(intro hb;(try simp[Int.ofNat_inj,nI,nLe,nGe,nLt,nGt,nE1] at hb);exact hb)|exact fun hb=>(by simp at hb:False))
    (n2:q1→H0→H2:=by first|exact fun (a:(_:Nat)<_) b=>AI a b|exact fun (a:(_:Int)<_) b=>AI a b|exact fun (a:(_:Bool)=_) b=>AI a b|exact fun (a:¬_) b=>AI a b|exact fun _ b=>b):Two (p→R) (q→T):=⟨fun h=>k1 (e1 h) (n1 (e1 h) h0),fun h=>k2 (e2 h) (n2 (e2 h) h0)⟩
theorem LX {p:Prop} (h:p:=by first|rfl|(simp[*];done)|(simp[*];intros;omega)|(simp[*];grind)|(simp_all;done)|grind):p:=h
theorem RF.in {p q:Prop} (h:IN (p→q)):RF p q:=⟨h.r⟩
theorem XL {x:Code} {h:HP} {σ:Type} (ts ks:List Nat) (V H:Nat→σ→List (Nat×AV)) (n:Nat) (I:Nat→σ→Prop) (rd:St→σ) {T:Nat→σ→St}
    (hb:∀k,k≤n→∀s,I k s→W c x (T k s) (DE (RE S ts ks V H n I rd k) Q)) (hh:S.hp.tail=upH h:=by rfl) (h0:Ge S (V 0 (rd S)++tls S ts) (H 0 (rd S)++hls (hd S) ks):=by first|(simp;done)|(simp[*];done)|fail)
    (i0:I 0 (rd S):=by first|trivial|rfl|(simp;done)|(simp[*];done)|(simp_all;done)|grind) (e:∀k s,stk S ts ks (V k s) (H k s)=T k s:=by intro k s;first|(simp;rfl)|rfl):W c (.loop x) S Q:=
  W.loopR ts ks V H n I rd hh h0 i0 fun k hk s hi T' hT=>by rw[←hT,e];exact hb k hk s hi
def cV (t:Nat):Nat→Unit→List (Nat×AV):=fun k _=>[(t,.d (.lf (.int .i64 (k:Int))))]
def nH:Nat→Unit→List (Nat×AV):=fun _ _=>[]
def rU:St→Unit:=fun _=>()
theorem XC {x:Code} {h:HP} (ts ks:List Nat) (t n:Nat) (I:Nat→Prop) {T:Nat→St}
    (hb:∀k,k≤n→I k→W c x (T k) (DE (RE S ts ks (cV t) nH n (fun k _=>I k) rU k) Q)) (hh:S.hp.tail=upH h:=by rfl) (h0:Ge S (cV t 0 ()++tls S ts) (hls (hd S) ks):=by first|(simp[cV];done)|(simp[cV, *];done)|fail)
    (i0:I 0:=by first|trivial|rfl|(simp;done)|(simp[*];done)|(simp_all;done)|grind) (e:∀k,stk S ts ks (cV t k ()) []=T k:=by intro k;first|(simp[cV];rfl)|rfl):W c (.loop x) S Q:=
  W.loopR ts ks (cV t) nH n (fun k _=>I k) rU hh h0 i0 fun k hk s hi T' hT=>by rw[←hT,show stk S ts ks (cV t k s) (nH k s)=T k from e k];exact hb k hk hi
attribute [simp] cV nH rU nI nLe nGe nLt nGt nE1 Int.ofNat_inj
theorem Xi {g:Nat} {fn:Func} {body:Code} {args:List AV} {pre H0 E0:Prop} {r:AV} (hget:c.P.funcs[g]? =some fn) (n:Nat) (rs:List ResultVar) (Mv Gv:List Nat) (hH:H0) (hE:E0) (hW:pre→∀h:HP,let M:=Mv;let G:=Gv;H0→E0→W c body ⟨n,tl (mkl 0 args),al []::upH h⟩ (RQ c rs h r))
    (hbd:fn.body=some body:=by rfl) (hrs:fn.results.toList=rs:=by rfl) (hn:fn.ntmps=n:=by rfl) (hlen:args.length≤n:=by simp) (hnm:(fn.name== "runtime.NumGoroutine")=false:=by rfl):Ct c g args pre r:=
  ⟨⟨fn,body,⟨hget,hbd,hnm⟩⟩,fun hp h=>Xe hget hbd n rs (hW hp h hH hE) hrs hn hlen hnm⟩
theorem Xiv {g:Nat} {fn:Func} {body:Code} {args:List AV} {pre H0 E0:Prop} {r:AV} (hget:c.P.funcs[g]? =some fn) (n:Nat) (rs:List ResultVar) (Mv Gv:List Nat) (hH:H0) (hE:E0) (hW:pre→∀h:HP,let M:=Mv;let G:=Gv;H0→E0→W c body ⟨n,tl (mkl 0 args),al []::upH h⟩ (fun e S=>RQ c rs h r e (vwR rs S)))
    (hbd:fn.body=some body:=by rfl) (hrs:fn.results.toList=rs:=by rfl) (hn:fn.ntmps=n:=by rfl) (hlen:args.length≤n:=by simp) (hnm:(fn.name== "runtime.NumGoroutine")=false:=by rfl):Ct c g args pre r:=
  ⟨⟨fn,body,⟨hget,hbd,hnm⟩⟩,fun hp h=>Xev hget hbd n rs (hW hp h hH hE) hrs hn hlen hnm⟩
end
section
variable {c:Cx} {ops:Array Oper} {l:List Oper} {S:St} {K:St→Prop} {acc:List Sk} {Q:Exit→St→Prop}
theorem iWL (h:WL c ops l S K):WL c ops l S K:=h
theorem iDL (h:DL c ops acc l S K):DL c ops acc l S K:=h
theorem iE {i:Nat} (h:W c (.exit i) S Q):W c (.exit i) S Q:=h
theorem iT (h:W c .ret S Q):W c .ret S Q:=h
theorem iC {g:Operand} {x y:Code} (h:W c (.cond g x y) S Q):W c (.cond g x y) S Q:=h
theorem iR {i:Nat} (h:W c (.region i ops false) S Q):W c (.region i ops false) S Q:=h
theorem iD {i:Nat} (h:W c (.region i ops true) S Q):W c (.region i ops true) S Q:=h
theorem iRE {σ:Type} {S0:St} {ts ks:List Nat} {V H:Nat→σ→List (Nat×AV)} {n:Nat} {I:Nat→σ→Prop} {rd:St→σ} {k:Nat} (h:RE S0 ts ks V H n I rd k S):RE S0 ts ks V H n I rd k S:=h
theorem iRL {rs:List ResultVar} {r:AV} (h:RL c rs S r):RL c rs S r:=h
theorem iRQ {rs:List ResultVar} {h':HP} {r:AV} {e:Exit} (h:RQ c rs h' r e S):RQ c rs h' r e S:=h
theorem iPJ {lo d:Nat} {X:Bool} {S':St} (h:PJ S lo d X S'):PJ S lo d X S':=h
theorem iTw {p q:Prop} (h:Two p q):Two p q:=h
end
theorem GN {P A : Prop} (k : A) (h : A → P := by
  first
    |exact fun k=>W.seq k
    | (refine fun k => iWL ?_
       first
         |exact Cw G k
         |exact Flt M k
         |exact Fw M k
         |exact Nnl k
         |exact Njn k
         |exact Nn k
         |exact Cg G k
         |exact Fg M k
         |exact Xl G k
         |exact Xlt M (RF.in k)
         |exact Xo M k
         |exact Ng M k
         |exact Nk G k
         |exact Np k
         |exact Ns k)
    | (refine fun k => iDL ?_
       first
         |exact Cd G k
         |exact Fd M k
         |exact pd k
         |exact NDn k
         |exact CDg G k
         |exact FDg M k
         |exact XDl G k
         |exact XDo M k
         |exact NDg M k
         |exact NDk G k
         |exact NDs k)
    |exact fun k=>W.skip k
    |exact fun k=>Xb k
    |(refine fun k=>iR ?_;exact Nd k)
    |(refine fun k=>iC ?_;exact Nc k)
    |(refine fun k=>iE ?_;exact Xx k)
    |(refine fun k=>iRE ?_;exact Xle k)
    |(refine fun k=>iT ?_;first|exact Xr k|exact Xrv k)
    |(refine fun k=>iRL ?_;exact Xf k)
    |(refine fun k=>iRQ ?_;first|exact Xrvn k|exact Xrn k)
    |(refine fun k=>iD ?_;exact NDd k)):P:=h k
theorem GA0 {P:Prop} (h:P:=by repeat' (first|(refine IN.mk ?_;intros)|(refine iTw ?_;refine T2 ?_ ?_<;>((try clear H);intro hb H)<;>try exact hb.elim)|(refine LF.mk ?_;exact LX)|refine GN ?_)):P:=h
theorem GA1 {P:Prop} (h:P:=by repeat' (first|exact true|(refine IN.mk ?_;intros)|(refine iTw ?_;refine T2 ?_ ?_<;>((try clear H);intro hb H)<;>try exact hb.elim)|(refine LF.mk ?_;exact LX)|refine BO.mk ?_ ?_|(apply iPJ;exact NPJ)|apply PXs.of|refine GN ?_)):P:=h
theorem GA2 {P:Prop} (h:P:=by repeat' (first|(refine iWL ?_;refine Cs M ?_)|(refine IN.mk ?_;intros)|(refine iTw ?_;refine T2 ?_ ?_<;>((try clear H);intro hb H)<;>try exact hb.elim)|(refine LF.mk ?_;exact LX)|refine GN ?_)):P:=h
theorem GA3 {P:Prop} (h:P:=by repeat' (first|refine GO ?_|(refine Two.mk ?_ ?_<;>intro hb<;>(try simp at hb)<;>(try norm_cast at hb)<;>try replace H:=HN hb H)|(refine RG.mk ?_;(try clear hK hD);first|intro _ K hD hK|intro K hD hK)|(refine RF.mk ?_;intro hr)|(refine LF.mk ?_;(try clear hK hD);first|rfl|(simp[Ax,ipF,Ay,As, *];done)|(simp_all [Ax,ipF,Ay,As];done)|grind [Ax,ipF,Ay,As]))):P:=h
theorem GA4 {P:Prop} (h:P:=by repeat' (first|refine GO ?_|(refine Two.mk ?_ ?_<;>intro hb<;>(try simp at hb)<;>(try norm_cast at hb)<;>try replace H:=HN hb H)|(refine RG.mk ?_;(try clear hK hD);first|intro _ K hD hK|intro K hD hK)|(refine RF.mk ?_;intro hr)|(refine LF.mk ?_;(try clear hK hD);first|rfl|(simp[*];done)|(simp_all;done)|grind))):P:=h
theorem GA5 {P:Prop} (h:P:=by repeat' (first|refine GO ?_|(refine Two.mk ?_ ?_<;>intro hb<;>(try simp at hb)<;>(try norm_cast at hb)<;>try replace H:=HN hb H)|(refine RG.mk ?_;(try clear hK hD);first|intro _ K hD hK|intro K hD hK)|(refine RF.mk ?_;intro hr)|(refine LF.mk ?_;(try clear hK hD);first|rfl|(simp[BR,Bi, *];done)|(simp_all [BR,Bi];done)|grind [BR,Bi]))):P:=h
theorem GA6 {P:Prop} (h:P:=by repeat' (first|(refine iWL ?_;refine Cs M ?_)|(refine iDL ?_;refine CE M ?_)|(refine IN.mk ?_;intros)|(refine iTw ?_;refine T2 ?_ ?_<;>((try clear H);intro hb H)<;>try exact hb.elim)|(refine LF.mk ?_;exact LX)|refine GN ?_)):P:=h
section
variable {c:Cx}
theorem XiF {g:Nat} {fn:Func} {body:Code} {args:List AV} {pre H0 E0:Prop} {r:AV} (i:Nat) (d:DD) (hget:c.P.funcs[g]? =some fn) (n:Nat) (rs:List ResultVar) (Mv Gv:List Nat) (hH:H0) (hE:E0) (hW:d.fit→pre→∀h:HP,let M:=Mv;let G:=Gv;H0→E0→W c body ⟨n,tl (mkl 0 args),al []::upH h⟩ (RQ c rs h r))
  (hi:args[i]? =some (.d d):=by rfl) (hbd:fn.body=some body:=by rfl) (hrs:fn.results.toList=rs:=by rfl) (hn:fn.ntmps=n:=by rfl) (hlen:args.length≤n:=by simp) (hnm:(fn.name== "runtime.NumGoroutine")=false:=by rfl):Ct c g args pre r:=
 ⟨⟨fn,body,⟨hget,hbd,hnm⟩⟩,fun hp h=>CS.fitD i d hi fun hf=>Xe hget hbd n rs (hW hf hp h hH hE) hrs hn hlen hnm⟩
theorem oC {n:Nat} {l:Int} {H:Prop} (hb:0≤BW n l) (h:H):(BW n l=l - n∧(n:Int)≤l)∧H:=⟨Va hb,h⟩
theorem oB {n m:Nat} {a:Int} {H:Prop} (hb:0≤BW n (a - (m:Int))) (h:H):(BW n (a - (m:Int))=a - ((m:Int)+(n:Int))∧(n:Int)≤a - (m:Int))∧H:=⟨by have:=Va hb;omega,h⟩
theorem lz1 {n:Nat} {l:Int} (h:l<n):(AV.d (.lf (.int .i64 (-1))):AV)=dI' (BW n l):=by rw[f9 h]
theorem lz2 {n:Nat} {l r:Int} (h:(n:Int)≤l) (e:r=l - n):(AV.d (.lf (.int .i64 r)):AV)=dI' (BW n l):=by rw[fA h,e]
theorem LZ {p:Prop} (h:p:=by first|rfl|exact lz1 (by omega)|exact lz2 (by omega) (by omega)|omega|(simp[H];omega)|grind [BW]):p:=h
theorem DVz {p:Prop} (h:p:=by repeat' (first|(refine iTw ?_;refine T2 ?_ ?_<;>intro hb H<;>first|exact hb.elim|(replace H:=oC hb H;have hj:=H.1)|(have hj:=VZ hb)|skip)|(refine LF.mk ?_;exact LZ)|(refine IN.mk ?_;intros)|refine GN ?_)):p:=h
structure SZF {α:Type} (f:α→Nat) (l:List α):Prop where
 le:l.length≤szs f l
theorem SZF.of {α:Type} (f:α→Nat) (l:List α):SZF f l:=⟨by have:=Oo f l 0;rwa [Gh] at this⟩
def szV {α:Type} (f:α→Nat) (l:List α) (left:Int):Nat→Unit→List (Nat×AV):=fun k _=>[(5,.d (.lf (.int .i64 (k:Int)))),(1,.d (.lf (.int .i64 (left - ((szK f l k:Nat):Int)))))]
theorem XZ {S:St} {Q:Exit→St→Prop} {x:Code} {h:HP} {α:Type} {f:α→Nat} (l:List α) (left:Int) {T:Nat→St}
  (hb:∀k,k≤l.length→((szK f l k:Nat):Int)≤left→(szK f l k≤szs f l∧szK f l (k+1)≤szs f l∧(l.length≤k→szK f l k=szs f l))→(∀h:k<l.length,szK f l (k+1)=szK f l k+f l[k])→W c x (T k) (DE (RE S [0] [] (szV f l left) nH l.length (fun k _=>((szK f l k:Nat):Int)≤left) rU k) Q))
  (hF:SZF f l:=by assumption) (hh:S.hp.tail=upH h:=by rfl) (h0:Ge S (szV f l left 0 ()++tls S [0]) (hls (hd S) []):=by first|(simp[szV,Gh];done)|(simp[szV,Gh, *];done)|fail) (hl:(l.length:Int)≤left:=by omega)
  (e:∀k,stk S [0] [] (szV f l left k ()) []=T k:=by intro k;first|(simp[szV];rfl)|rfl):W c (.loop x) S Q:=
 W.loopR [0] [] (szV f l left) nH l.length (fun k _=>((szK f l k:Nat):Int)≤left) rU hh h0 (by rw[Gh];exact hl) fun k hk s hi T' hT=>by
  rw[←hT,show stk S [0] [] (szV f l left k s) (nH k s)=T k from e k]
  exact hb k hk hi ⟨Oo f l k,Oo f l (k+1),fun h=>by rw[show k=l.length by omega,UY]⟩ (fun h=>dl h)
theorem DVr {p : Prop} (h : p := by
 (simp only[DD.fit,List.length_map,mxl] at hfit;have hw0:=BH (n:=left - (l.length:Int)) (by omega) (by omega);have hl0:=hF.le)
 repeat' (first|(refine iTw ?_;refine T2 ?_ ?_<;>intro hb H<;>first|exact hb.elim|(replace H:=oB hb H;have hj:=H.1)|(have hj:=VZ hb)|skip)|(refine LF.mk ?_;exact LZ)|(refine IN.mk ?_;intros)|refine GN ?_|(refine XZ l left ?_;intro k0 hk0 hi0 hle hnx;try (have hw2:∀(h:k0<l.length),_:=fun h=>BH (n:=left - (((szK ByteArray.size l k0:Nat):Int)+((l[k0].size:Nat):Int))) (by have:=hfs k0 h;omega) (by omega))))):p:=h
theorem DVe {p:Prop} (h:p:=by repeat' (first|(refine IN.mk ?_;intros)|(refine iTw ?_;refine T2 ?_ ?_<;>intro hb H<;>try exact hb.elim)|(refine LF.mk ?_;exact LX)|refine GN ?_|(refine XC [0,1] [] 5 l.length (fun _=>True) ?_;intro k0 hk0 hi0)|fail)):p:=h
end
attribute [simp] szV
structure TOF {α:Type} (f:α→DD) (z:DD) (s:Sh) (l:List α):Prop where
 sh:∀x,(f x).sh=s
 zs:z.sh=s
 pos:0<s.w
def tH {α:Type} (f:α→DD) (l:List α) (z:DD):Nat→Unit→List (Nat×AV):=fun k _=>[(7,.d (.st (E9 f l k z)))]
section
variable {c:Cx} {S:St} {Q:Exit→St→Prop}
theorem XT {x:Code} {h:HP} {α:Type} {f:α→DD} {z:DD} {s:Sh} (l:List α) {T:Nat→St}
  (hb:∀k,k≤l.length→(DD.shs (E9 f l k z)=List.replicate l.length s∧(k<l.length→(E9 f l k z)[k]? =some z)∧(∀h:k<l.length,(E9 f l k z).set k (f l[k])=E9 f l (k+1) z)∧z.sh=s)→W c x (T k) (DE (RE S [0,3] [] (cV 4) (tH f l z) l.length (fun _ _=>True) rU k) Q))
  (hF:TOF f z s l:=by assumption) (hh:S.hp.tail=upH h:=by rfl) (h0:Ge S (cV 4 0 ()++tls S [0,3]) (tH f l z 0 ()++hls (hd S) []):=by first|(simp[tH,cV,Ek];done)|(simp[tH,cV,Ek, *];done)|fail)
  (e:∀k,stk S [0,3] [] (cV 4 k ()) (tH f l z k ())=T k:=by intro k;first|(simp[tH,cV];rfl)|rfl):W c (.loop x) S Q:=
 W.loopR [0,3] [] (cV 4) (tH f l z) l.length (fun _ _=>True) rU hh h0 trivial fun k hk s' hi T' hT=>by
  rw[←hT,show stk S [0,3] [] (cV 4 k s') (tH f l z k s')=T k from e k]
  exact hb k hk ⟨NI hF.sh hF.zs hk,fun h=>QZ h,fun h=>NO h,hF.zs⟩
theorem XF {code:Code} {h:HP} {α:Type} {f:α→DD} {z:DD} {s:Sh} (l:List α) {T:St} (w:W c code T Q) (hF:TOF f z s l:=by assumption) (hh:S.hp.tail=upH h:=by rfl) (h0:S.hp≠[]:=by simp) (ht:S.tm 3=.rw 0 7 l.length:=by rfl) (hk:hd S 7=some (.d (.st (E9 f l l.length z))):=by rfl)
  (e:(⟨S.n,tl [(3,.d (.sl true s (l.map f)))],al []::S.hp.tail⟩:St)=T:=by first|(simp;rfl)|rfl):W c code S Q:=
 W.frz 3 7 l.length (l.map f) s [] [] hh h0 ht (by rw[hk,Kv]) hF.pos (by rw[DD.shs_eq,List.map_map,show DD.sh∘f=fun _=>s from funext hF.sh];simp[List.map_const']) (by simp[tls]) (by simp[hls]) e w
theorem DVo {p:Prop} (h:p:=by repeat' (first|(refine IN.mk ?_;intros)|(refine iTw ?_;refine T2 ?_ ?_<;>intro hb H<;>try exact hb.elim)|(refine iE ?_;(obtain rfl:k0=l.length:=(by omega));refine XF l ?_;refine GN ?_)|(refine LF.mk ?_;exact LX)|refine GN ?_|(refine XT l ?_;intro k0 hk0 hr;have hs:=hr.2.2.1;(try simp at hs);replace H:=AI hr (AI hs H))|fail)):p:=h
end
attribute [simp] tH
def tHb {α:Type} (b:Nat) (f:α→DD) (l:List α) (z:DD):Nat→Unit→List (Nat×AV):=fun k _=>[(b,.d (.st (E9 f l k z)))]
section
variable {c:Cx} {S:St} {Q:Exit→St→Prop}
theorem XTb (ts:List Nat) (tc b:Nat) {x:Code} {h:HP} {α:Type} {f:α→DD} {z:DD} {s:Sh} (l:List α) {T:Nat→St}
  (hb:∀k,k≤l.length→(DD.shs (E9 f l k z)=List.replicate l.length s∧(k<l.length→(E9 f l k z)[k]? =some z)∧(∀h:k<l.length,(E9 f l k z).set k (f l[k])=E9 f l (k+1) z)∧z.sh=s)→W c x (T k) (DE (RE S ts [] (cV tc) (tHb b f l z) l.length (fun _ _=>True) rU k) Q))
  (hF:TOF f z s l:=by assumption) (hh:S.hp.tail=upH h:=by rfl) (h0:Ge S (cV tc 0 ()++tls S ts) (tHb b f l z 0 ()++hls (hd S) []):=by first|(simp[tHb,cV,Ek];done)|(simp[tHb,cV,Ek, *];done)|fail)
  (e:∀k,stk S ts [] (cV tc k ()) (tHb b f l z k ())=T k:=by intro k;first|(simp[tHb,cV];rfl)|rfl):W c (.loop x) S Q:=
 W.loopR ts [] (cV tc) (tHb b f l z) l.length (fun _ _=>True) rU hh h0 trivial fun k hk s' hi T' hT=>by
  rw[←hT,show stk S ts [] (cV tc k s') (tHb b f l z k s')=T k from e k]
  exact hb k hk ⟨NI hF.sh hF.zs hk,fun h=>QZ h,fun h=>NO h,hF.zs⟩
theorem XFb (t b:Nat) {code:Code} {h:HP} {α:Type} {f:α→DD} {z:DD} {s:Sh} (l:List α) {T:St} (w:W c code T Q) (hF:TOF f z s l:=by assumption) (hh:S.hp.tail=upH h:=by rfl) (h0:S.hp≠[]:=by simp) (ht:S.tm t=.rw 0 b l.length:=by rfl) (hk:hd S b=some (.d (.st (E9 f l l.length z))):=by rfl)
  (e:(⟨S.n,tl [(t,.d (.sl true s (l.map f)))],al []::S.hp.tail⟩:St)=T:=by first|(simp;rfl)|rfl):W c code S Q:=
 W.frz t b l.length (l.map f) s [] [] hh h0 ht (by rw[hk,Kv]) hF.pos (by rw[DD.shs_eq,List.map_map,show DD.sh∘f=fun _=>s from funext hF.sh];simp[List.map_const']) (by simp[tls]) (by simp[hls]) e w
end
attribute [simp] tHb
structure RTW (p:Prop):Prop where
 r:p
section
variable {c:Cx} {ops:Array Oper} {o:Oper} {l:List Oper} {S S1:St} {K:St→Prop} {acc:List Sk}
theorem CE (M:List Nat) {t i:Nat} {lv:List AV} (k:DL c ops (acc++[⟨[t],.val⟩]) l S1 K) (ho:o.op=.extract (.tmp t) i:=by rfl) (hm:mvB M o.dst=true:=by rfl) (hg:o.guard=none:=by rfl) (hx:S.tm t=.tp lv:=by rfl) (hi:i<lv.length:=by simp) (hd:∀k,o.dst=some k→k<S.n:=by simp)
  (e:(⟨S.n,B1 (BD S.tm [t]) o.dst (lv.getD i .un),S.hp⟩:St)=S1:=by first|(simp[H];rfl)|rfl):DL c ops acc (o::l) S K:=by
 refine DL.cons (⟨o,[t],lv.getD i .un,.val⟩:Fsk) rfl (fun S' h=> ?_) (fun _ _ q=>by cases q) (fun _ _ q=>by cases q) e k
 have h1:=h.ts t (by simp)
 exact OS.op (by unfold wnt;rw[hg]) (QC (by rw[h.n];exact hd) ho (h1.trans hx) hi)
theorem XkB (t:Nat) {b:Bool} {T:St} {Q:Exit→St→Prop} {h:HP} (k:Two (b=true→RTW (W c .ret S Q)) (b=false→RTW (W c .ret T Q))) (hf:S.tm t=dB' b:=by rfl) (hh:S.hp.tail=upH h:=by rfl) (hk:Jg S [t] []:=by first|(simp;done)|fail) (e:Ho S [t] []=T:=by first|(simp;rfl)|rfl):W c .ret S Q:=by
 cases b with
 |true=>exact(k.l rfl).r
 |false=>exact W.keep [t] [] hh hk e (k.r rfl).r
end
section
variable {c:Cx} {M G:List Nat} {o:Oper} {n:Nat} {f:Nat→AV} {hp:HP} {k t:Nat}
theorem Fmq {v:Value} {s:Sh} {es:List DD} (ho:o.op=.move (.tmp t):=by rfl) (hx:f t=.mb v s es:=by rfl) (hd:o.dst=some k:=by rfl) (hm:mvB M (some k)=false:=by rfl) (hk:Nat.ble (k+1) n=true:=by rfl):FO c M o ⟨n,f,hp⟩ ⟨n,upn f k (.pv v),hp⟩ ⟨[],.val⟩:=by
 have hk:=B8 hk
 refine⟨?_,?_,?_⟩
 ·simp only[okP,cls,ho,hd,hm,cond_false];exact⟨fun _ h=>by cases h;exact hk,by simp,trivial⟩
 ·simp only[nx,nxP,cls,val,ho,hd,hm,cond_false,B0,evT,hx,AV.vw,BD,B1]
 ·simp only[B5,Fsk.sk,Ef.kd,cls,ho,hd,hm,cond_false]
theorem Fmm {s:Sh} {es:List DD} (ho:o.op=.move (.tmp t):=by rfl) (hx:f t=.ms s es:=by rfl) (hd:o.dst=some k:=by rfl) (hm:mvB M (some k)=true:=by rfl) (hk:Nat.ble (k+1) n=true:=by rfl):FO c M o ⟨n,f,hp⟩ ⟨n,upn (upn f t .un) k (.ms s es),hp⟩ ⟨[t],.val⟩:=by
 have hk:=B8 hk
 refine⟨?_,?_,?_⟩
 ·simp only[okP,cls,ho,hd,hm,cond_true,tmO];exact⟨fun _ h=>by cases h;exact hk,by simp,trivial⟩
 ·simp only[nx,nxP,cls,val,ho,hd,hm,cond_true,B0,tkT,hx,tmO,BD,B1,AV.vw]
 ·simp only[B5,Fsk.sk,Ef.kd,cls,ho,hd,hm,cond_true,tmO]
theorem Fma {s:Sh} {es:List DD} (ho:o.op=.assign (.tmp t):=by rfl) (hx:f t=.ms s es:=by rfl) (hd:o.dst=some k:=by rfl) (hk:Nat.ble (k+1) n=true:=by rfl):FO c M o ⟨n,f,hp⟩ ⟨n,upn (upn f t .un) k (.ms s es),hp⟩ ⟨[t],.val⟩:=by
 have hk:=B8 hk
 refine⟨?_,?_,?_⟩
 ·simp only[okP,cls,ho,hd,tmO];exact⟨fun _ h=>by cases h;exact hk,by simp,by trivial⟩
 ·simp only[nx,nxP,cls,val,ho,hd,B0,tkT,hx,tmO,BD,B1,AV.vw]
 ·simp only[B5,Fsk.sk,Ef.kd,cls,ho,hd,tmO]
end
section
variable {c:Cx} {ops:Array Oper} {o:Oper} {l:List Oper} {S S1:St} {K:St→Prop} {acc:List Sk} {Q:Exit→St→Prop} {code:Code} {n k d x i t:Nat} {f:Nat→AV} {hp:HP}
theorem iLp {y:Code} (h:W c (.loop y) S Q):W c (.loop y) S Q:=h
theorem Xmw (M:List Nat) {sk:Sk} (kk:WL c ops l S1 K) (hg:o.guard=none:=by rfl) (h:FO c M o S S1 sk:=by first|exact Fmq|exact Fmm|exact Fma):WL c ops (o::l) S K:=WL.op M hg h.ok h.nx kk
theorem Xmd (M:List Nat) {sk:Sk} (kk:DL c ops (acc++[sk]) l S1 K) (hg:o.guard=none:=by rfl) (h:FO c M o S S1 sk:=by first|exact Fmq|exact Fmm|exact Fma):DL c ops acc (o::l) S K:=DL.opS M hg h.ok h.nx sk h.sk kk
theorem XmO (t:Nat) {s:Sh} {es:List DD} (kk:∀v,SlV v es.length→W c code ⟨n,upn f t (.mb v s es),hp⟩ Q) (ht:f t=.ms s es:=by rfl):W c code ⟨n,f,hp⟩ Q:=
 W.msOpen t (fun v hv=>by have h:=kk v hv;rw[B0] at h;exact h) ht
theorem XmC (t:Nat) {v:Value} {s:Sh} {es:List DD} (kk:W c code ⟨n,upn f t (.ms s es),hp⟩ Q) (ht:f t=.mb v s es:=by rfl):W c code ⟨n,f,hp⟩ Q:=
 W.ahead (Og ht) (by rw[B0] at kk;exact kk)
theorem XmF (t:Nat) {s:Sh} {es:List DD} (kk:W c code ⟨n,upn f t (.d (.sl true s es)),hp⟩ Q) (ht:f t=.ms s es:=by rfl):W c code ⟨n,f,hp⟩ Q:=
 W.ahead (Tn ht) (by rw[B0] at kk;exact kk)
theorem XmN (t:Nat) {s:Sh} (kk:W c code ⟨n,upn f t (.ms s []),hp⟩ Q) (ht:f t=.d (.sl true s []):=by rfl):W c code ⟨n,f,hp⟩ Q:=
 W.ahead (Tm ht) (by rw[B0] at kk;exact kk)
theorem MK {T:Nat} {s:Sh} (h:elS c T=some s):∃ti e,c.ty T=some ti∧ti.kd=.sl e s:=by
 unfold elS at h
 split at h
 ·rename_i hq;cases h;exact⟨_,_,hq,rfl⟩
 ·cases h
theorem fw {T:Nat} {fl:List (Nat×Sh)} (h:fls c T=some fl):∃ti,c.ty T=some ti∧ti.kd=.st fl:=by
 unfold fls at h
 split at h
 ·rename_i hq;cases h;exact⟨_,hq,rfl⟩
 ·cases h
theorem lP {T m j:Nat} {v:Value} {s:Sh} (kk:WL c ops l ⟨n,upn f d (.mp (Ia v) s j []),hp⟩ K) (ho:o.op=.indexAddr T (.tmp x) (.tmp i):=by rfl) (hx:f x=.pv v:=by rfl) (hi:f i=dI' j:=by rfl) (hd:o.dst=some d:=by rfl) (hg:o.guard=none:=by rfl) (hT:elS c T=some s:=by rfl) (hv:SlV v m:=by assumption) (hj:j<m:=by omega) (hk:Nat.ble (d+1) n=true:=by rfl):WL c ops (o::l) ⟨n,f,hp⟩ K:=by
 obtain⟨ti,e,h1,h2⟩:=MK hT
 have hk:=B8 hk
 refine WL.cons (OS.op (by unfold wnt;rw[hg]) (Yb (fun q hq=>by rw[hd] at hq;cases hq;exact hk) T (.tmp x) (.tmp i) ho ti e s h1 h2 (by simp only[evT,hx,AV.vw]) trivial hv .i64 (j:Int) (by simp only[evT,hi,AV.vw,DD.vw]) trivial (by omega) (by simpa using hj))) ?_
 simp only[Int.toNat_natCast,hd,B1]
 rw[B0] at kk;exact kk
theorem lN {T m:Nat} {v:Value} {s:Sh} (kk:WL c ops l ⟨n,upn f d (dI' m),hp⟩ K) (ho:o.op=.call { callee:=.builtin .len,args:= #[.tmp x],argTypes:= #[T] }:=by rfl) (hx:f x=.pv v:=by rfl) (hd:o.dst=some d:=by rfl) (hg:o.guard=none:=by rfl) (hT:elS c T=some s:=by rfl) (hv:SlV v m:=by assumption) (hk:Nat.ble (d+1) n=true:=by rfl):WL c ops (o::l) ⟨n,f,hp⟩ K:=by
 obtain⟨ti,e,h1,h2⟩:=MK hT
 have hk:=B8 hk
 refine WL.cons (OS.op (by unfold wnt;rw[hg]) (Ul (fun q hq=>by rw[hd] at hq;cases hq;exact hk) T (.tmp x) ho (by simp only[evT,hx,AV.vw]) trivial hv ti e s h1 h2)) ?_
 simp only[hd,B1]
 rw[B0] at kk;exact kk
theorem pY {T q j b:Nat} {fl:List (Nat×Sh)} (kk:WL c ops l ⟨n,upn f d (.mp b (.st (fl.map Prod.snd)) j [q]),hp⟩ K) (ho:o.op=.fieldAddr T (.tmp x) q:=by rfl) (hx:f x=.mp b (.st (fl.map Prod.snd)) j []:=by rfl) (hd:o.dst=some d:=by rfl) (hg:o.guard=none:=by rfl) (hT:fls c T=some fl:=by rfl) (hq:Nat.ble (q+1) fl.length=true:=by rfl) (hp2:C8 (.st (fl.map Prod.snd)) [q]=some (Sh.ws ((fl.map Prod.snd).take q)):=by rfl) (hk:Nat.ble (d+1) n=true:=by rfl):WL c ops (o::l) ⟨n,f,hp⟩ K:=by
 obtain⟨ti,h1,h2⟩:=fw hT
 have hk:=B8 hk;have hq:=B8 hq
 refine WL.cons (OS.op (by unfold wnt;rw[hg]) (Um (fun q hq=>by rw[hd] at hq;cases hq;exact hk) T q (.tmp x) ho ti fl h1 h2 (b:=b) (j:=j) (s:=.st (fl.map Prod.snd)) (p:=[]) (by simp only[evT,hx,AV.vw]) trivial (fun off h=>by rw[EB] at h;cases h;rw[Nat.zero_add];exact hp2) hq)) ?_
 simp only[hd,B1]
 rw[B0] at kk;exact kk
theorem lO (t:Nat) {T j b:Nat} {v:Value} {s:Sh} {p:List Nat} {es:List DD} {z y:DD} (kk:WL c ops l ⟨n,upn f d (.d y),hp⟩ K) (ho:o.op=.load T (.tmp x):=by rfl) (hx:f x=.mp b s j p:=by rfl) (ht:f t=.mb v s es:=by rfl) (hb:b=Ia v:=by rfl) (hd:o.dst=some d:=by rfl) (hg:o.guard=none:=by rfl) (hj:j<es.length:=by simp;omega) (hz:D9 (es[j]) p=z:=by simp[D9];rfl) (hr:shT c T=some z.sh:=by rfl) (hy:z.vw=y:=by simp;rfl) (hk:Nat.ble (d+1) n=true:=by rfl):WL c ops (o::l) ⟨n,f,hp⟩ K:=by
 have hk:=B8 hk
 unfold shT at hr
 cases hti:c.ty T with
 |none=>rw[hti] at hr;cases hr
 |some ti=>
  rw[hti] at hr
  simp only[Option.map_some,Option.some.injEq] at hr
  refine WL.cons (OS.op (by unfold wnt;rw[hg]) (SW (fun q hq=>by rw[hd] at hq;cases hq;exact hk) T (.tmp x) ho ti hti trivial (b:=b) (j:=j) (p:=p) (by simp only[evT,hx,AV.vw]) ht hb hj (by rw[hz,hr]))) ?_
  simp only[hd,B1]
  rw[B0, ←hy, ←hz] at kk;exact kk
theorem lM (t:Nat) {T j b y:Nat} {v:Value} {s:Sh} {p:List Nat} {es es':List DD} {z zv:DD} (kk:WL c ops l ⟨n,upn (upn f y (.d zv)) t (.mb v s es'),hp⟩ K) (ho:o.op=.store T (.tmp x) (.tmp y):=by rfl) (hx:f x=.mp b s j p:=by rfl) (ht:f t=.mb v s es:=by rfl) (hb:b=Ia v:=by rfl) (hy:f y=.d z:=by rfl) (hzv:z.vw=zv:=by simp;rfl) (hd:o.dst=none:=by rfl) (hg:o.guard=none:=by rfl) (hj:j<es.length:=by simp;omega) (hr:shT c T=some z.sh:=by rfl) (hrp:(D9 (es[j]) p).sh=z.sh:=by simp[D9];rfl) (hzo:z.ow:=by simp) (hes:DD.ows es:=by simp) (hty:Nat.beq t y=false:=by rfl) (htn:Nat.ble (t+1) n=true:=by rfl) (hE:es.set j (Df (es[j]) p z)=es':=by simp[Df,H]):WL c ops (o::l) ⟨n,f,hp⟩ K:=by
 have htn:=B8 htn
 have hne:t≠y:=fun e=>by rw[e,Nat.beq_refl] at hty;cases hty
 unfold shT at hr
 cases hti:c.ty T with
 |none=>rw[hti] at hr;cases hr
 |some ti=>
  rw[hti] at hr
  simp only[Option.map_some,Option.some.injEq] at hr
  refine WL.cons (OS.op (by unfold wnt;rw[hg]) (Oq hd T (.tmp x) (.tmp y) ho ti hti trivial trivial (b:=b) (j:=j) (p:=p) (by simp only[evT,hx,AV.vw]) ht hb hj (z:=z) (by simp only[tkT,hy]) (by rw[hrp,hr]) hr.symm hzo hes (by simp[tmO,hne]) htn)) ?_
  have e:(upd (BD f (t::tmO (.tmp y))) t (.mb v s (es.set j (Df (es[j]) p z))):Nat→AV)=upn (upn f y (.d zv)) t (.mb v s es'):=by
   subst hE hzv
   simp only[B0]
   funext u
   by_cases e:u=t
   ·subst e;rw[Aw,Aw]
   ·rw[BE _ _ e,BE _ _ e,DQ]
    by_cases e2:u=y
    ·subst e2;rw[Aw,if_pos (by simp[tmO]),hy];rfl
    ·rw[BE _ _ e2,if_neg (by simp[tmO];exact⟨e,e2⟩)]
  show WL c ops l ⟨n,_,hp⟩ K
  rw[e];exact kk
def elB (c:Cx) (T:Nat):Option (Sh×Sh×Nat):=match c.ty T with
 |some { kd:=.sl e s,.. }=>(c.ty e).map fun te=>(s,te.sh,te.bytes)
 |_=>none
theorem gL {T m:Nat} {s s':Sh} (h:elB c T=some (s,s',m)):∃ti te e,c.ty T=some ti∧ti.kd=.sl e s∧c.ty e=some te∧te.sh=s'∧te.bytes=m:=by
 unfold elB at h
 split at h
 ·rename_i e s2 hq
  cases he:c.ty e with
  |none=>rw[he] at h;cases h
  |some te=>rw[he] at h;cases h;exact⟨_,te,_,hq,rfl,he,rfl,rfl⟩
 ·cases h
theorem lR {T y m:Nat} {s:Sh} {ob:Bool} {es ys es':List DD} {yv:DD} (kk:WL c ops l ⟨n,upn (upn (upn f x .un) y (.d yv)) d (.ms s es'),hp⟩ K) (ho:o.op=.call { callee:=.builtin .append,args:= #[.tmp x,.tmp y],argTypes:= #[T,T] }:=by rfl) (hx:f x=.ms s es:=by rfl) (hy:f y=.d (.sl ob s ys):=by rfl) (hyv:(DD.sl ob s ys).vw=yv:=by simp;rfl) (hd:o.dst=some d:=by rfl) (hg:o.guard=none:=by rfl) (hT:elB c T=some (s,s,m):=by rfl) (hxy:Nat.beq x y=false:=by rfl) (hes:DD.ows es:=by simp) (hys:DD.ows ys:=by simp) (hm:es.length+ys.length≤134217728:=by simp;omega) (hB:m≤1048576:=by decide) (hE:es++ys=es':=by simp[H]) (hk:Nat.ble (d+1) n=true:=by rfl):WL c ops (o::l) ⟨n,f,hp⟩ K:=by
 have hk:=B8 hk
 have hne:x≠y:=fun e=>by rw[e,Nat.beq_refl] at hxy;cases hxy
 obtain⟨ti,te,e,h1,h2,h3,h4,h5⟩:=gL hT
 have hbb:(es.length+ys.length)*te.bytes≤140737488355328:=by rw[h5];exact Nat.le_trans (Nat.mul_le_mul hm hB) (by decide)
 refine WL.cons (OS.op (by unfold wnt;rw[hg]) (NG (fun q hq=>by rw[hd] at hq;cases hq;exact hk) T x (.tmp y) ho (by simp[tmO,hne]) ti te e s h1 h2 h3 h4 trivial es ys ob hx (by simp only[tkT,hy]) hes hys (by unfold maxLen;omega) hbb)) ?_
 have e:(B1 (BD f (x::tmO (.tmp y))) o.dst (.ms s (es++ys)):Nat→AV)=upn (upn (upn f x .un) y (.d yv)) d (.ms s es'):=by
  subst hE hyv
  simp only[B0,hd,B1]
  funext u
  by_cases e:u=d
  ·subst e;rw[Aw,Aw]
  ·rw[BE _ _ e,BE _ _ e,DQ]
   by_cases e2:u=y
   ·subst e2;rw[Aw,if_pos (by simp[tmO]),hy];rfl
   ·rw[BE _ _ e2]
    by_cases e3:u=x
    ·subst e3;rw[Aw,if_pos (by simp),hx];rfl
    ·rw[BE _ _ e3,if_neg (by simp[tmO];exact⟨e3,e2⟩)]
 show WL c ops l ⟨n,_,hp⟩ K
 rw[e];exact kk
theorem pb (t:Nat) {g T1 T2 x1:Nat} {x2:Operand} {v:Value} {s:Sh} {es:List DD} {d2 y1 y2:DD} {pre:Prop} {r r':DD} (kk:DL c ops (acc++[⟨[],.bw t⟩]) l ⟨n,upn f d (.d r'),hp⟩ K) (ho:o.op=.call { callee:=.value (.func g),args:= #[.tmp x1,x2],argTypes:= #[T1,T2] }:=by rfl) (ht:f t=.mb v s es:=by rfl) (h1:f x1=.pv v:=by rfl) (hd:o.dst=some d:=by rfl) (hg:o.guard=none:=by rfl) (h2:evT c T2 ⟨n,f,hp⟩ x2=.d d2:=by rfl) (hx2:(match x2 with| .tmp u=>Nat.beq u x1|_=>false)=false:=by rfl) (o2:okO c T2 x2:=by trivial) (e1:DD.sl false s (DD.vws es)=y1:=by simp;rfl) (e2:d2=y2:=by first|(simp(disch:=first|(simp;done)|omega) [-List.map_take,H,BH];rfl)|rfl) (hct:Ct c g [.d y1,.d y2] pre (.d r):=by exact inferInstance) (hp0:pre:=by first|trivial|omega|(simp only[H];done)|(simp only[H];first|trivial|omega|grind)|grind) (er:r=r':=by first|(simp only[H];rfl)|rfl) (hr:r.ow:=by simp) (hk:Nat.ble (d+1) n=true:=by rfl):DL c ops acc (o::l) ⟨n,f,hp⟩ K:=by
 have hk:=B8 hk
 obtain⟨fn,body,hfn⟩:=hct.ok
 subst e1 e2 er
 refine DL.cons (⟨o,[],.d r,.bw t⟩:Fsk) rfl (fun S' h=> ?_) (fun _ _ q=>by cases q) (fun _ _ q=>by cases q) (by show(⟨n,B1 f o.dst (.d r),hp⟩:St)=_;rw[hd,B0];rfl) kk
 have hx1:(S'.tm x1).vw=.pv v:=(h.rd x1 (DK (by rw[ho];simp[Op.operands,Call.operands]))).trans (by show(f x1).vw=_;rw[h1];rfl)
 have hmb:S'.tm t=.mb v s es:=(h.bw t (by simp[Ef.bs])).trans ht
 have hev:evT c T2 S' x2=.d d2:=(I0 (fun u e=>h.rd u (DK (by rw[ho, ←e];simp[Op.operands,Call.operands]))) T2).trans h2
 refine OS.callB (c:=c) (by rw[h.n];exact fun q hq=>by rw[hd] at hq;cases hq;exact hk) ((GR h.rd).trans (by unfold wnt;rw[hg])) (.func g) #[.tmp x1,x2] #[T1,T2] ho g [] rfl trivial fn body hfn rfl (fun x hx=> ?_) t [x1] v s es hmb (fun u hu=>by simp only[List.mem_singleton] at hu;subst hu;exact hx1) (as':=[.d (.sl false s (DD.vws es)),.d d2]) ?_ ⟨trivial,trivial,trivial⟩ (.d r) (fun h=>hct.cs hp0 h) hr
 ·simp only[List.zip_cons_cons,List.zip_nil_right,List.mem_cons,List.not_mem_nil,or_false] at hx
  rcases hx with rfl|rfl
  ·trivial
  ·exact o2
 ·simp only[List.zip_cons_cons,List.zip_nil_right,List.map_cons,List.map_nil,List.append_nil,Pc]
  congr 1
  ·simp
  ·congr 1
   cases x2 with
   |tmp u=>
    have hu:u≠x1:=fun e=>by simp only[e,Nat.beq_refl] at hx2;cases hx2
    simp only[Pc]
    rw[show([x1].contains u)=false by simp[hu]]
    exact hev
   |_=>exact hev
end
theorem Rel.msNil {S:St} {w:World} {F:Nat→Nat} {Θ:Ty} {own:Who→List Nat} {a:Act} (hR:Rel w F Θ own S a) {t:Nat} {s:Sh} (ht:S.tm t=.d (.sl true s [])):Rel w F Θ own ⟨S.n,upd S.tm t (.ms s []),S.hp⟩ a:=by
 refine hR.asT t _ ?_
 have hv:=hR.tm t
 rw[ht] at hv
 simp only[rv] at hv ⊢
 obtain⟨cs,h1,h2⟩:=hv
 have hl:=rp.length _ _ _ h1
 match cs,hl with
 |[v],_=>
  rw[h2]
  refine rms.of (F1:=F) h1 trivial (hR.nd _) (fun _ _ _=>rfl) fun x hx=> ?_
  simp only[rp] at h1
  obtain⟨-, -,a2,cap, -, -, -, -,g⟩:=h1
  rcases g with ⟨g, -, -⟩|⟨b,off,r, -, -, -,g⟩
  ·rw[g] at hx;simp at hx
  ·rcases g with ⟨g, -, -⟩|⟨-,g, -,g2, -⟩
   ·simp at g
   ·rw[g] at hx;simp at hx;subst hx;simpa using g2
theorem CS.nil0 {P:Program} {f:Nat} {s:Sh} {args:List AV} {h h':HP} {r:AV} (k:CS P f (.ms s []::args) h r h'):CS P f (.d (.sl true s [])::args) h r h':=fun w F Θ own vs hR=>by
 refine k w F Θ own vs ?_
 have h1:=hR.msNil (t:=0) (s:=s) rfl
 have e:(⟨(Ck (.d (.sl true s [])::args) h).n,upd (Ck (.d (.sl true s [])::args) h).tm 0 (.ms s []),(Ck (.d (.sl true s [])::args) h).hp⟩:St)=Ck (.ms s []::args) h:=by
  show(⟨_,_,_⟩:St)=⟨_,_,_⟩
  congr 1
  funext t
  cases t with
  |zero=>rw[Aw];rfl
  |succ t=>rw[BE _ _ (by simp)];rfl
 rw[e] at h1
 exact h1
