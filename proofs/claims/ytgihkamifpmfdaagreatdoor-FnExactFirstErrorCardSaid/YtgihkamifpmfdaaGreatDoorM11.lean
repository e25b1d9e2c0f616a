/- Part 11. No condition. -/
import Derived.Test.YtgihkamifpmfdaaGreatDoorM10
import Derived.Lib.BufferMore
namespace Go.Proofs.YtgihkamifpmfdaaGreatDoor
open Go.RowKit
set_option linter.unusedVariables false
theorem WL.split {c:Cx} {ops:Array Oper} {l:List Oper} {S:St} {K:St→Prop} (k:Nat) (q:Bool) (hq:S.tm k=dB' q) (h1:q=true→WL c ops l ⟨S.n,upd S.tm k (dB' true),S.hp⟩ K) (h2:q=false→WL c ops l ⟨S.n,upd S.tm k (dB' false),S.hp⟩ K):WL c ops l S K:=by
 have e:∀b,S.tm k=.d (.lf (.bool b))→(⟨S.n,upd S.tm k (.d (.lf (.bool b))),S.hp⟩:St)=S:=fun b hb=>by
  have:upd S.tm k (.d (.lf (.bool b)))=S.tm:=by
   funext t
   by_cases ht:t=k
   ·subst ht;rw[Aw,hb]
   ·rw[BE _ _ ht]
  rw[this]
 cases q with
 |true=>have:=h1 rfl;rwa [e _ hq] at this
 |false=>have:=h2 rfl;rwa [e _ hq] at this
theorem Iy {ops:Array Oper} {o:Oper} {S:St} {D:List (Option Nat)} (hD:ops.toList.map (·.dst)=D) (j k:Nat) (b q:Bool) (hg:o.guard=some (j,b)) (hj:D[j]? =some (some k)) (hk:S.tm k=dB' q):wnt ops o S=some (q==b):=by
 subst hD
 have e:(ops[j]?).bind (·.dst)=some k:=by
  rw[List.getElem?_map] at hj
  cases ho:ops[j]? with
  |none=>simp[ho] at hj
  |some o=>simp[ho] at hj;simpa using hj
 unfold wnt
 rw[hg]
 simp only[e,hk]
theorem WL.opG {c:Cx} (mv:List Nat) {ops:Array Oper} {o:Oper} {l:List Oper} {S S1:St} {K:St→Prop} {D:List (Option Nat)} (hD:ops.toList.map (·.dst)=D) (j k:Nat) (b:Bool) (hg:o.guard=some (j,b)) (hj:D[j]? =some (some k)) (hk:S.tm k=dB' b) (h:okP c mv o S) (e:nx c mv o S=S1) (kk:WL c ops l S1 K):WL c ops (o::l) S K:=
 WL.cons (OS.op (by rw[Iy hD j k b b hg hj hk];simp) (Lv h)) (by rw[e];exact kk)
theorem OS.no2 {c:Cx} {ops:Array Oper} {o:Oper} {S:St} (hd:∀k,o.dst=some k→k<S.n) (hw:∀{w:World} {F:Nat→Nat} {Θ:Ty} {own:Who→List Nat} {a:Act},Rel w F Θ own S a→Region.wanted o (yielded ops a.tmps)=false):OS c ops o S ⟨S.n,B1 S.tm o.dst (.tp []),S.hp⟩:=by
 intro w F Θ own a hR K Q hK
 rw[if_neg (by rw[hw hR];simp)]
 obtain⟨own',h1,h2⟩:=hR.pure o.dst hd [] List.nodup_nil (.tp []) undef (by simp only[List.flatMap_nil,rv,rvS];refine⟨[],rfl,?_⟩;simp)
 exact hK _ _ _ _ _ h1 h2
theorem Kc {c:Cx} {ops:Array Oper} {o:Oper} {S:St} {D:List (Option Nat)} (hD:ops.toList.map (·.dst)=D) (j k:Nat) (b:Bool) (hg:o.guard=some (j,b)) (hj:D[j]? =some (some k)) (hk:S.tm k=dB' (!b)∨S.tm k=.tp []) {w:World} {F:Nat→Nat} {Θ:Ty} {own:Who→List Nat} {a:Act} (hR:Rel w F Θ own S a):Region.wanted o (yielded ops a.tmps)=false:=by
 rcases hk with hk|hk
 ·have:=Dz (c:=c) hR (Iy hD j k b (!b) hg hj hk)
  rw[this];cases b<;>rfl
 ·subst hD
  have e:(ops[j]?).bind (·.dst)=some k:=by
   rw[List.getElem?_map] at hj
   cases ho:ops[j]? with
   |none=>simp[ho] at hj
   |some o=>simp[ho] at hj;simpa using hj
  have hv:=hR.tm k
  rw[hk] at hv
  simp only[rv,rvS] at hv
  obtain⟨vs,h1,rfl, -⟩:=hv
  have hy:yielded ops a.tmps j=none:=by
   unfold yielded
   rw[e]
   simp only[Option.bind_some]
   rw[Array.getD_eq_getD_getElem?] at h1
   cases ha:a.tmps[k]? with
   |none=>rfl
   |some v=>
    rw[ha] at h1
    simp only[Option.getD_some] at h1
    subst h1;rfl
  unfold Region.wanted
  rw[hg]
  simp only[hy]
  first|rfl|(cases b<;>rfl)
theorem WL.no2 {c:Cx} {ops:Array Oper} {o:Oper} {l:List Oper} {S S1:St} {K:St→Prop} {D:List (Option Nat)} (hD:ops.toList.map (·.dst)=D) (j k:Nat) (b:Bool) (hg:o.guard=some (j,b)) (hj:D[j]? =some (some k)) (hk:S.tm k=dB' (!b)∨S.tm k=.tp []) (hd:∀k,o.dst=some k→k<S.n) (e:(⟨S.n,B1 S.tm o.dst (.tp []),S.hp⟩:St)=S1) (kk:WL c ops l S1 K):WL c ops (o::l) S K:=
 WL.cons (OS.no2 hd (Kc (c:=c) hD j k b hg hj hk)) (by rw[e];exact kk)
theorem WL.callG {c:Cx} {ops:Array Oper} {o:Oper} {l:List Oper} {S:St} {K:St→Prop} {D:List (Option Nat)} (hD:ops.toList.map (·.dst)=D) (j kg:Nat) (bg:Bool) (hg:o.guard=some (j,bg)) (hj:D[j]? =some (some kg)) (hk:S.tm kg=dB' bg) (ts:List Nat) (f:Operand) (args:Array Operand) (argTypes:Array TypeId) (ho:o.op=.call { callee:=.value f,args,argTypes }) (hd:∀k,o.dst=some k→k<S.n)
  {g:Nat} {caps:List AV} (hf:evT c 0 S f=.fn g caps) (of:okO c 0 f) {fn:Func} {body:Code} (hfn:CU c.P g fn body) (hTs:argTypes.toList.length=args.toList.length) (hok:∀x∈argTypes.toList.zip args.toList,okO c x.1 x.2) (hn:(gvn ts args.toList).Nodup)
  {as':List AV} (ha:(argTypes.toList.zip args.toList).map (fun x=>Cr c ts S x.1 x.2)++caps=as') {r:AV} {h':HP} (hc:CS c.P g as' S.hp r h') {S1:St} (e:(⟨S.n,B1 (BD S.tm (gvn ts args.toList)) o.dst r,h'⟩:St)=S1) (k:WL c ops l S1 K):WL c ops (o::l) S K:=by
 subst ha
 exact WL.cons (OS.call hd (by rw[Iy hD j kg bg bg hg hj hk];simp) f args argTypes ho ts g caps hf of fn body hfn argTypes.toList hTs hok hn r h' hc) (by rw[e];exact k)
theorem WL.ahead {c:Cx} {ops:Array Oper} {l:List Oper} {S S1:St} {K:St→Prop} (z:Wz S S1) (h:WL c ops l S1 K):WL c ops l S K:=fun is hi w F Θ own a hR Q hQ=>by
 obtain⟨F1,Θ1,own1,h1,h2⟩:=z w F Θ own a hR
 exact h is hi w F1 Θ1 own1 a h1 Q fun S' a' w' F' Θ' own' k1 k2 k3=>hQ S' a' w' F' Θ' own' k1 k2 (h2.trans k3)
theorem WL.mid {c:Cx} {ops:Array Oper} {l:List Oper} {S:St} {K:St→Prop} (n:Nat) (ts ks:List Nat) (V H:List (Nat×AV)) (h1:(∀S',Wz S' (stk S ts ks V H)→WL c ops (l.drop n) S' K)→WL c ops l S K) (h2:∀T,stk S ts ks V H=T→WL c ops (l.drop n) T K):WL c ops l S K:=
 h1 fun _ hz=>WL.ahead hz (h2 _ rfl)
theorem W.regJ {c:Cx} {id:Nat} {ops:Array Oper} {S:St} {Q:Exit→St→Prop} {D:List (Option Nat)} (ts ks:List Nat) (V H:List (Nat×AV)) (hD:ops.toList.map (·.dst)=D)
  (hb:∀(ops':Array Oper) (K:St→Prop),ops'.toList.map (·.dst)=D→(∀S',Wz S' (stk S ts ks V H)→K S')→WL c ops' ops.toList S K) (k:∀T,stk S ts ks V H=T→Q .normal T):W c (.region id ops false) S Q:=by
 refine W.after (Q':=fun e S1=>e=.normal∧Wz S1 (stk S ts ks V H)) (W.regL fun ops' e=> ?_) fun e S1 ⟨h1,h2⟩=>⟨_,h2,by subst h1;exact k _ rfl⟩
 exact hb ops' _ (by subst e;exact hD) fun S' h=>⟨rfl,h⟩
theorem W.regJ0 {c:Cx} {id:Nat} {ops:Array Oper} {S:St} {Q:Exit→St→Prop} {D:List (Option Nat)} (hD:ops.toList.map (·.dst)=D)
  (hb:∀(ops':Array Oper) (K:St→Prop),ops'.toList.map (·.dst)=D→(∀S',Q .normal S'→K S')→WL c ops' ops.toList S K):W c (.region id ops false) S Q:=
 W.regL fun ops' e=>hb ops' _ (by subst e;exact hD) fun _ h=>h
theorem W.condT {c:Cx} {S:St} {Q:Exit→St→Prop} {g:Operand} {x y:Code} (hg:evT c 0 S g=dB' true) (og:okO c 0 g) (h:W c x S Q):W c (.cond g x y) S Q:=W.cond true hg og (by simpa using h)
theorem W.join {c:Cx} {code:Code} {S:St} {Q:Exit→St→Prop} (ts ks:List Nat) (V H:List (Nat×AV)) (h1:W c code S (DE (fun S1=>Wz S1 (stk S ts ks V H)) Q)) (h2:∀T,stk S ts ks V H=T→Q .normal T):W c code S Q:=
 W.after h1 fun e S1 q=>by
  cases e with
  |normal=>exact⟨_,q,h2 _ rfl⟩
  |exit id=>exact⟨S1,Wz.refl S1,q⟩
  |goto l=>exact⟨S1,Wz.refl S1,q⟩
  |ret=>exact⟨S1,Wz.refl S1,q⟩
  |panic ch=>exact⟨S1,Wz.refl S1,q⟩
  |outgrown=>exact⟨S1,Wz.refl S1,q⟩
theorem W.loopI {c:Cx} {x:Code} {Q:Exit→St→Prop} {S:St} {h:HP} (ts ks:List Nat) (V H:Nat→List (Nat×AV)) (n:Nat) (I:Nat→Prop) (hh:S.hp.tail=upH h) (h0:Ge S (V 0++tls S ts) (H 0++hls (hd S) ks)) (i0:I 0)
  (hb:∀k,k≤n→I k→∀T,stk S ts ks (V k) (H k)=T→W c x T (DE (fun S'=>k<n∧I (k+1)∧Wz S' (stk S ts ks (V (k+1)) (H (k+1)))) Q)):W c (.loop x) S Q:=by
 have key:∀m k,k+m=n→I k→WR c x Q (m+1) (stk S ts ks (V k) (H k)):=by
  intro m
  induction m with
  |zero=>
   intro k hk hi
   refine(hb k (by omega) hi _ rfl).mono fun e S' hq=> ?_
   cases e with
   |normal=>obtain⟨h1, -⟩:=hq;omega
   |_=>exact hq
  |succ m ih=>
   intro k hk hi
   refine W.after (hb k (by omega) hi _ rfl) fun e S1 hq=> ?_
   cases e with
   |normal=>
    obtain⟨-,h2,h3⟩:=hq
    exact⟨_,h3,ih (k+1) (by omega) h2⟩
   |exit id=>exact⟨S1,Wz.refl S1,hq⟩
   |goto l=>exact⟨S1,Wz.refl S1,hq⟩
   |ret=>exact⟨S1,Wz.refl S1,hq⟩
   |panic ch=>exact⟨S1,Wz.refl S1,hq⟩
   |outgrown=>exact⟨S1,Wz.refl S1,hq⟩
 exact W.ahead (Wz.to hh hh rfl h0) (W.rounds _ (key n 0 (by omega) i0))
def Ka (n:Nat) (p:Nat→Bool):Bool:=(List.range n).all p
theorem I4 {n:Nat} {p:Nat→Bool} (h:∀k,k<n→p k=true):Ka n p=true:=by
 unfold Ka
 simpa using h
theorem GJ {n k:Nat} {p:Nat→Bool} (hk:k<n) (h:p k=false):Ka n p=false:=by
 unfold Ka
 rw[Bool.eq_false_iff]
 intro q
 have:=(List.all_eq_true.1 q) k (by simpa using hk)
 rw[h] at this;cases this
theorem FZ {p:Nat→Bool} {k:Nat} (h:∀j,j<k→p j=true) (hk:p k=true):∀j,j<k+1→p j=true:=fun j hj=>by
 rcases Nat.lt_or_ge j k with q|q
 ·exact h j q
 ·have:j=k:=by omega
  subst this;exact hk
theorem CS.ofVal {c:Cx} {f:Nat} {args:List DD} {v:Value} {y:DD} (hv:∀w F,rp w F y [v] []∧y.mk [v]=v) (hc:∀(w:World) (vs:List Value),(∃F:Nat→Nat,(∀b,w.heap.size≤b→F b=0)∧Gl w F∧vs.length=args.length∧∀(i:Nat) (d:DD),args[i]? =some d→∃cs,rp w F d.vw cs []∧vs[i]? =some (d.mk cs))→Calls c.P f vs.toArray w fun e w'=>e=.returned v∧Below w.heap.size w w') (h:HP):
  CS c.P f (args.map .d) h (.d y) h:=by
 intro w F Θ own vs hR
 have hlen:vs.length=args.length:=by have:=hR.n;simpa[Ck] using this
 refine(hc w vs ⟨F,hR.top,hR.gl,hlen,fun i d hd=> ?_⟩).mono fun e w' ⟨h1,h2⟩=> ?_
 ·have h1:=hR.tm i
  have hi:i<args.length:=(List.getElem?_eq_some_iff.1 hd).1
  have e1:(Ck (args.map AV.d) h).tm i=.d d:=by
   simp only[Ck,List.getD_eq_getElem?_getD,List.getElem?_map,hd,Option.map_some,Option.getD_some]
  rw[e1] at h1
  have h3:=rv.view _ _ _ h1
  simp only[AV.vw,rv] at h3
  obtain⟨cs,h4,h5⟩:=h3
  refine⟨cs,h4,?_⟩
  rw[DD.mk_vw] at h5
  have hi2:i<vs.length:=by omega
  simp only[Array.getD_eq_getD_getElem?,List.getElem?_toArray,List.getElem?_eq_getElem hi2,Option.getD_some] at h5
  rw[List.getElem?_eq_getElem hi2,h5]
 ·obtain⟨k1,k2⟩:=hv w' F
  have hF:∀b,w.heap.size≤b→F b=0:=hR.top
  have kp:∀bs:List Nat,(∀b∈bs,b<w.heap.size)→Kp w F w' F bs:=fun bs hbs=>by
   refine⟨fun b o ho=> ?_,fun _=>Nat.le_refl _,fun b hb=>⟨h2.block b (hbs b hb),rfl⟩⟩
   have hb:b<w.heap.size:=by
    rcases Nat.lt_or_ge b w.heap.size with q|q
    ·exact q
    ·have:=hF b q;omega
   exact World.cell?_of_block (a:=⟨b,o,none⟩) (h2.block b hb)
  let own':Who→List Nat:=fun
   | .t _=>[]
   | .h lv k=>own (.h lv k)
   | .l lv k=>own (.l lv k)
  have hsub:∀x b,b∈own' x→b∈own x:=fun x b hb=>by
   cases x with
   |t t=>simp[own'] at hb
   |h lv k=>exact hb
   |l lv k=>exact hb
  refine⟨v,F,own',h1,⟨rfl,rfl,fun t=> ?_,fun lv k q=> ?_,fun lv k cn q=> ?_,fun x=> ?_,fun x z hxz b hb hz=>hR.dj x z hxz b (hsub x b hb) (hsub z b hz),fun x b hb=>Nat.lt_of_lt_of_le (hR.lt x b (hsub x b hb)) h2.size,fun b hb=>hF b (Nat.le_trans h2.size hb),fun p hp=>⟨(hR.gl p hp).1,((kp [] (by simp)).cell _ _ (hR.gl p hp).1).trans (hR.gl p hp).2⟩⟩,⟨⟨h2.os,h2.tape,h2.output,h2.size,fun b o ho=>(kp [] (by simp)).cell b o ho,fun _=>Nat.le_refl _,fun b hb _=>⟨h2.block b hb,rfl⟩⟩,fun x b hb=> .inl ⟨x,hsub x b hb⟩,fun _ _=>rfl⟩⟩
  ·by_cases ht:t=0
   ·subst ht
    show rv w' F Θ (if (0:Nat)=0 then AV.d y else .un) _ _
    rw[if_pos rfl]
    simp only[rv]
    exact⟨[v],k1,by simp[k2]⟩
   ·show rv w' F Θ (if t=0 then AV.d y else .un) _ _
    rw[if_neg ht]
    simp only[rv];rfl
  ·exact hR.hn lv k q
  ·obtain⟨b,s,cur,ty,g1,g2,g3,g4,g5,g6⟩:=hR.hs lv k cn q
   have hb:b<w.heap.size:=hR.lt _ b (by rw[g2];simp)
   exact⟨b,s,cur,ty,g1,g2,g3,g4,(h2.block b hb).trans g5,rc.keep (fun _ _ _ e=>e) _ _ _ g6 (kp _ fun x hx=>hR.lt _ x hx)⟩
  ·cases x with
   |t t=>exact List.nodup_nil
   |h lv k=>exact hR.nd _
   |l lv k=>exact hR.nd _
theorem pU (a b:BA'):(a.toList==b.toList)=decide (a=b):=by
 by_cases h:a=b
 ·subst h;simp
 ·have:a.toList≠b.toList:=fun e=>h (gr e)
  rw[decide_eq_false h]
  simpa using this
def bt (s:BA') (i:Nat):Nat:=(s.data.getD i 0).toNat
theorem lD (s:BA') (i:Nat):(s.data.getD i 0).toNat=bt s i:=rfl
theorem gj (s:BA') (i:Nat):((s.data[i]?).getD 0).toNat=bt s i:=by
 unfold bt
 rw[Array.getD_eq_getD_getElem?]
theorem gi (s:BA') (i:Nat) (h:i<s.data.size):(s.data[i]'h).toNat=bt s i:=by
 unfold bt
 rw[Array.getD_eq_getD_getElem?,Array.getElem?_eq_getElem h];rfl
theorem cp (s:BA') (i:Nat):bt s i<256:=UInt8.toNat_lt _
theorem pV (a b:Int):(a==b)=decide (a=b):=Bool.eq_iff_iff.2 (by simp)
theorem gt (a:Array UInt8):(⟨a⟩:BA').size=a.size:=rfl
def B7 (l:List BA') (s:BA'):Bool:=l.any fun x=>decide (x=s)
theorem LA {l:List BA'} {s:BA'} (h:s∈l):B7 l s=true:=List.any_eq_true.2 ⟨s,h,by simp⟩
theorem Jm {l:List BA'} {s:BA'} (h:s∉l):B7 l s=false:=by
 unfold B7
 rw[Bool.eq_false_iff]
 intro q
 obtain⟨x,hx,e⟩:=List.any_eq_true.1 q
 have:x=s:=by simpa using e
 exact h (this ▸ hx)
attribute [simp] pV AV.bl gt pU lD gj gi
theorem Pt:∀(h:HP) (lv k:Nat) (v:Option AV),hps (upH h) lv k (v.map AV.up)=upH (hps h lv k v)
 |[],_,_,_=>rfl
 |f::h,0,k,v=>by
  show upd (fun k=>(f k).map AV.up) k (v.map AV.up)::upH h=(fun q=>((upd f k v) q).map AV.up)::upH h
  congr 1
  funext q
  simp only[upd]
  cases q==k<;>rfl
 |f::h,lv+1,k,v=>by
  show(fun k=>(f k).map AV.up)::hps (upH h) lv k (v.map AV.up)=(fun k=>(f k).map AV.up)::upH (hps h lv k v)
  rw[Pt h lv k v]
theorem ot (h:HP) (lv k:Nat) (x:DD):hps (upH h) lv k (some (.d x))=upH (hps h lv k (some (.d x))):=Pt h lv k (some (.d x))
theorem Dh {h:HP} {lv k:Nat} {x:DD} (e:hpg h lv k=some (.d x)):hpg (upH h) lv k=some (.d x):=by rw[DM,e];rfl
theorem Et {h:HP} {lv k:Nat} {u v:AV} (e:hpg h lv k=some u):hpg (hps h lv k (some v)) lv k=some v:=by
 rw[CG,if_pos ⟨rfl,rfl,M9 h lv k u e⟩]
theorem RM:∀(h:HP) (lv k:Nat) (u v:Option AV),hps (hps h lv k u) lv k v=hps h lv k v
 |[],_,_,_,_=>rfl
 |f::h,0,k,u,v=>by
  show upd (upd f k u) k v::h=upd f k v::h
  congr 1
  funext q
  simp only[upd]
  cases q==k<;>rfl
 |f::h,lv+1,k,u,v=>by
  show f::hps (hps h lv k u) lv k v=f::hps h lv k v
  rw[RM h lv k u v]
theorem ED:∀(h:HP) (lv k:Nat) (u:AV),hpg h lv k=some u→hps h lv k (some u)=h
 |[],_,_,_,_=>rfl
 |f::h,0,k,u,e=>by
  show upd f k (some u)::h=f::h
  congr 1
  funext q
  simp only[upd]
  by_cases hq:q=k
  ·subst hq;simp;exact e.symm
  ·simp[beq_eq_false_iff_ne.2 hq]
 |f::h,lv+1,k,u,e=>by
  show f::hps h lv k (some u)=f::h
  rw[ED h lv k u e]
def ST (S:St) (ts ks:List Nat) (V H:List (Nat×AV)) (h:HP):St:=⟨S.n,tl (V++tls S ts),al (H++hls (hd S) ks)::upH h⟩
theorem Wz.toT {S S0:St} {h:HP} {ts ks:List Nat} {V H:List (Nat×AV)} (hh:S.hp.tail=upH h) (hn:S.n=S0.n) (k:Ge S (V++tls S0 ts) (H++hls (hd S0) ks)):Wz S (ST S0 ts ks V H h):=by
 have:=bW _ _ hh k
 unfold ST
 rw[←hn]
 exact Wz.of this
theorem W.loopT {c:Cx} {x:Code} {Q:Exit→St→Prop} {S:St} (ts ks:List Nat) (V H:Nat→List (Nat×AV)) (n:Nat) (Th:Nat→HP) (hh:S.hp.tail=upH (Th 0)) (h0:Ge S (V 0++tls S ts) (H 0++hls (hd S) ks))
  (hb:∀k,k≤n→∀T,ST S ts ks (V k) (H k) (Th k)=T→W c x T (DE (fun S'=>k<n∧Wz S' (ST S ts ks (V (k+1)) (H (k+1)) (Th (k+1)))) Q)):W c (.loop x) S Q:=
 W.loopz (fun k=>ST S ts ks (V k) (H k) (Th k)) n (Wz.toT hh rfl h0) fun k hk=>hb k hk _ rfl
theorem P8 {c:Cx} {mv:List Nat} {o:Oper} {S:St} {T:Nat} {x:Operand} {lo hi:Option Operand} (ho:o.op=.slice T x lo hi none) (hd:∀k,o.dst=some k→k<S.n) (hn:(cls mv o).Nodup) (h1:okO c T x) (h2:okX c lo) (h3:okX c hi) {ti:TI} (ht:c.ty T=some ti) {e:Nat} {s':Sh} (hk:ti.kd=.sl e s') {ow:Bool} {s:Sh} {es:List DD} (he:evT c T S x=.d (.sl ow s es)) (hs:s=s')
  (l h:Nat) (kl:IntKind) (hl:loV c S lo=.d (.lf (.int kl (l:Int)))) (hh:hi.map (evT c 0 S)=none∧h=es.length∨∃kh,hi.map (evT c 0 S)=some (.d (.lf (.int kh (h:Int))))) (h4:l≤h) (h5:h≤es.length):okP c mv o S:=by
 obtain⟨sh,z,zc,b,kd⟩:=ti
 simp only at hk
 subst hk
 unfold okP
 refine⟨hd,hn,?_⟩
 rw[ho]
 simp only[ht,he]
 exact⟨h1,h2,h3,hs,l,h,kl,hl,hh,h4,h5⟩
attribute [simp] ST ot RM
theorem DL.split {c:Cx} {ops:Array Oper} {acc:List Sk} {l:List Oper} {S:St} {K:St→Prop} (k:Nat) (q:Bool) (hq:S.tm k=dB' q) (h1:q=true→DL c ops acc l ⟨S.n,upd S.tm k (dB' true),S.hp⟩ K) (h2:q=false→DL c ops acc l ⟨S.n,upd S.tm k (dB' false),S.hp⟩ K):DL c ops acc l S K:=by
 have e:∀b,S.tm k=.d (.lf (.bool b))→(⟨S.n,upd S.tm k (.d (.lf (.bool b))),S.hp⟩:St)=S:=fun b hb=>by
  have:upd S.tm k (.d (.lf (.bool b)))=S.tm:=by
   funext t
   by_cases ht:t=k
   ·subst ht;rw[Aw,hb]
   ·rw[BE _ _ ht]
  rw[this]
 cases q with
 |true=>have:=h1 rfl;rwa [e _ hq] at this
 |false=>have:=h2 rfl;rwa [e _ hq] at this
theorem Nu {ops:Array Oper} {o:Oper} {D:List (Option Nat)} (hD:ops.toList.map (·.dst)=D) (j k:Nat) (b:Bool) (hg:o.guard=some (j,b)) (hj:D[j]? =some (some k)):k∈o.looksAt ops:=by
 subst hD
 have e:(ops[j]?).bind (·.dst)=some k:=by
  rw[List.getElem?_map] at hj
  cases ho:ops[j]? with
  |none=>simp[ho] at hj
  |some o=>simp[ho] at hj;simpa using hj
 unfold Oper.looksAt
 refine List.mem_append_right _ ?_
 simp[hg,e]
theorem Y4 {a:AV} {b:Bool} {x:AV} (h:a.vw=x.vw) (k:x=dB' b∨x=.tp []):a=dB' b∨a=.tp []:=by
 rcases k with k|k
 ·left
  subst k
  cases a<;>simp only[AV.vw,AV.d.injEq,reduceCtorEq] at h
  rename_i y
  cases y<;>simp only[DD.vw,DD.lf.injEq,reduceCtorEq] at h
  subst h;rfl
 ·right
  subst k
  cases a<;>simp only[AV.vw,AV.vws,AV.tp.injEq,reduceCtorEq] at h
  rename_i l
  cases l with
  |nil=>rfl
  |cons x l=>simp only[AV.vws,reduceCtorEq] at h
theorem SJ {c:Cx} {ops:Array Oper} {o:Oper} {S:St} {D:List (Option Nat)} (hd:∀k,o.dst=some k→k<S.n) (hD:ops.toList.map (·.dst)=D) (j k:Nat) (b:Bool) (hg:o.guard=some (j,b)) (hj:D[j]? =some (some k)) (hk:S.tm k=dB' (!b)∨S.tm k=.tp []):(⟨o,[],.tp [],.val⟩:Fsk).valid c ops S:=by
 intro S1 q
 have hk1:=Y4 (q.rd k (Nu hD j k b hg hj)) hk
 exact OS.no2 (c:=c) (ops:=ops) (o:=o) (S:=S1) (by rw[q.n];exact hd) (fun hR=>Kc (c:=c) hD j k b hg hj hk1 hR)
theorem DL.opG {c:Cx} (mv:List Nat) {ops:Array Oper} {acc:List Sk} {o:Oper} {l:List Oper} {S S1:St} {K:St→Prop} {D:List (Option Nat)} (hD:ops.toList.map (·.dst)=D) (j k:Nat) (b:Bool) (hg:o.guard=some (j,b)) (hj:D[j]? =some (some k)) (hk:S.tm k=dB' b) (h:okP c mv o S) (e:nx c mv o S=S1) (kk:DL c ops (acc++[(B5 c mv o S).sk]) l S1 K):DL c ops acc (o::l) S K:=
 DL.cons (B5 c mv o S) (aD c mv o S) (Mp (by rw[Iy hD j k b b hg hj hk];simp) h) (Lm h).1 (Lm h).2 (by rw[←VP h];exact e) kk
theorem DL.no2 {c:Cx} {ops:Array Oper} {acc:List Sk} {o:Oper} {l:List Oper} {S S1:St} {K:St→Prop} {D:List (Option Nat)} (hD:ops.toList.map (·.dst)=D) (j k:Nat) (b:Bool) (hg:o.guard=some (j,b)) (hj:D[j]? =some (some k)) (hk:S.tm k=dB' (!b)∨S.tm k=.tp []) (hd:∀k,o.dst=some k→k<S.n) (e:(⟨S.n,B1 S.tm o.dst (.tp []),S.hp⟩:St)=S1) (kk:DL c ops (acc++[⟨[],.val⟩]) l S1 K):DL c ops acc (o::l) S K:=
 DL.cons ⟨o,[],.tp [],.val⟩ rfl (SJ hd hD j k b hg hj hk) (fun _ _ h=>by cases h) (fun _ _ h=>by cases h) e kk
theorem DL.callG {c:Cx} {ops:Array Oper} {acc:List Sk} {o:Oper} {l:List Oper} {S:St} {K:St→Prop} {D:List (Option Nat)} (hD:ops.toList.map (·.dst)=D) (j kg:Nat) (bg:Bool) (hg:o.guard=some (j,bg)) (hj:D[j]? =some (some kg)) (hk:S.tm kg=dB' bg) (ts:List Nat) (f:Operand) (args:Array Operand) (argTypes:Array TypeId) (ho:o.op=.call { callee:=.value f,args,argTypes }) (hd:∀k,o.dst=some k→k<S.n)
  {g:Nat} {caps:List AV} (hf:evT c 0 S f=.fn g caps) (of:okO c 0 f) {fn:Func} {body:Code} (hfn:CU c.P g fn body) (hTs:argTypes.toList.length=args.toList.length) (hok:∀x∈argTypes.toList.zip args.toList,okO c x.1 x.2) (hn:(gvn ts args.toList).Nodup)
  {as':List AV} (ha:(argTypes.toList.zip args.toList).map (fun x=>Cr c ts S x.1 x.2)++caps=as') {r:AV} (hc:∀h,CS c.P g as' h r h) {S1:St} (e:(⟨S.n,B1 (BD S.tm (gvn ts args.toList)) o.dst r,S.hp⟩:St)=S1) (k:DL c ops (acc++[⟨gvn ts args.toList,.val⟩]) l S1 K):DL c ops acc (o::l) S K:=by
 subst ha
 exact DL.cons ⟨o,gvn ts args.toList,r,.val⟩ rfl (J0 hd (by rw[Iy hD j kg bg bg hg hj hk];simp) f args argTypes ho ts g caps hf of fn body hfn argTypes.toList hTs hok hn r hc) (fun _ _ h=>by cases h) (fun _ _ h=>by cases h) e k
theorem W.regDJ {c:Cx} {id:Nat} {ops:Array Oper} {S:St} {Q:Exit→St→Prop} {D:List (Option Nat)} (hm:c.P.follows .mixedOrders=true) (ts ks:List Nat) (V H:List (Nat×AV)) (hD:ops.toList.map (·.dst)=D)
  (hb:∀K:St→Prop,ops.toList.map (·.dst)=D→(∀S',Wz S' (stk S ts ks V H)→K S')→DL c ops [] ops.toList S K) (k:∀T,stk S ts ks V H=T→Q .normal T):W c (.region id ops true) S Q:=by
 refine W.after (Q':=fun e S1=>e=.normal∧Wz S1 (stk S ts ks V H)) (W.regD hm fun ops' e=> ?_) fun e S1 ⟨h1,h2⟩=>⟨_,h2,by subst h1;exact k _ rfl⟩
 subst e
 exact hb _ hD fun S' h=>⟨rfl,h⟩
theorem W.regDJ0 {c:Cx} {id:Nat} {ops:Array Oper} {S:St} {Q:Exit→St→Prop} {D:List (Option Nat)} (hm:c.P.follows .mixedOrders=true) (hD:ops.toList.map (·.dst)=D)
  (hb:∀K:St→Prop,ops.toList.map (·.dst)=D→(∀S',Q .normal S'→K S')→DL c ops [] ops.toList S K):W c (.region id ops true) S Q:=
 W.regD hm fun ops' e=>by subst e;exact hb _ hD fun _ h=>h
theorem DD.vws_app (a b:List DD):DD.vws (a++b)=DD.vws a++DD.vws b:=by simp only[DD.vws_eq,List.map_append]
attribute [simp] DD.vws_app
theorem WL.callP {c:Cx} {ops:Array Oper} {o:Oper} {l:List Oper} {S:St} {K:St→Prop} (ts:List Nat) (f:Operand) (args:Array Operand) (argTypes:Array TypeId) (ho:o.op=.call { callee:=.value f,args,argTypes }) (hg:o.guard=none) (hd:∀k,o.dst=some k→k<S.n)
  {g:Nat} {caps:List AV} (hf:evT c 0 S f=.fn g caps) (of:okO c 0 f) {fn:Func} {body:Code} (hfn:CU c.P g fn body) (hTs:argTypes.toList.length=args.toList.length) (hok:∀x∈argTypes.toList.zip args.toList,okO c x.1 x.2) (hn:(gvn ts args.toList).Nodup)
  {as':List AV} (ha:(argTypes.toList.zip args.toList).map (fun x=>Cr c ts S x.1 x.2)++caps=as') {r:AV} {h':HP} (p:List Value→Prop) (hp:∀(a:Act) (vc:List Value),p (args.toList.map a.eval++vc)) (hc:CSP c.P g p as' S.hp r h') {S1:St} (e:(⟨S.n,B1 (BD S.tm (gvn ts args.toList)) o.dst r,h'⟩:St)=S1) (k:WL c ops l S1 K):WL c ops (o::l) S K:=by
 subst ha
 exact WL.cons (OS.callP hd (by unfold wnt;rw[hg]) f args argTypes ho ts g caps hf of fn body hfn argTypes.toList hTs hok hn r h' p hp hc) (by rw[e];exact k)
theorem WL.opNil {c:Cx} {ops:Array Oper} {o:Oper} {l:List Oper} {S:St} {K:St→Prop} (hg:o.guard=none) (T yT k0:Nat) (x:Operand) (ho:o.op=.binOp .eql T x (.const (.slice none 0 0)) yT) (hd:o.dst=some k0) (hk:k0<S.n)
  {e:Nat} (hT:c.P.underlying T=some (.slice e)) {ow:Bool} {s:Sh} {es:List DD} (hx:evT c T S x=.d (.sl ow s es)) (ox:okO c T x) (k:∀b:Bool,(b=true→es=[])→WL c ops l ⟨S.n,upd S.tm k0 (.d (.lf (.bool b))),S.hp⟩ K):WL c ops (o::l) S K:=fun is hi=>by
 cases is with
 |nil=>simp at hi
 |cons i is=>
  simp only[List.map_cons,List.cons.injEq] at hi
  intro w F Θ own a hR Q hQ
  simp only[wpOps,hi.1]
  have hv:=BU (T:=T) hR ox
  rw[hx] at hv
  simp only[rv] at hv
  obtain⟨cs,h1,h2⟩:=hv
  simp only[rp] at h1
  obtain⟨-, -,ad,cap,rfl,h3, -,h4, -⟩:=h1
  have hv2:a.eval x=.slice ad es.length cap:=h2
  have hb:∃b:Bool,(b=true→es=[])∧(binOp .eql T (.slice ad es.length cap) (.slice none 0 0)).run c.P w=.ok (.bool b) w:=by
   cases ad with
   |none=>exact⟨true,fun _=>List.eq_nil_of_length_eq_zero (by have:=h4 rfl;omega),Lib.run_eql_slice_nil_nil w _ _ hT⟩
   |some ad=>exact⟨false,nofun,Lib.run_eql_slice_some_nil w ad _ _ hT⟩
  obtain⟨b,hb1,hb2⟩:=hb
  have hrun:(execOp a.eval o).run c.P w=.ok (.value (.bool b)) w:=by
   unfold execOp
   have e2:a.eval (.const (.slice none 0 0))=.slice none 0 0:=rfl
   simp only[ho,hv2,e2,Sem.run_bind]
   simp[eqGuard,hb2]
  have hw:Region.wanted o (yielded ops a.tmps)=true:=Dz (c:=c) hR (by unfold wnt;rw[hg])
  rw[if_pos hw]
  obtain⟨own',hR2,hS2⟩:=Rel.fin hR o.dst (fun q hq=>by rw[hd] at hq;cases hq;exact hk) [] (.d (.lf (.bool b))) (.bool b) [] (Ks.refl _ _ _) hR.top (Dr trivial) List.nodup_nil (by simp) (by simp)
  have e3:(⟨S.n,B1 (BD S.tm []) o.dst (.d (.lf (.bool b))),S.hp⟩:St)=⟨S.n,upd S.tm k0 (.d (.lf (.bool b))),S.hp⟩:=by rw[hd];rfl
  rw[e3] at hR2
  refine .inl ?_
  unfold Oper.wp
  rw[hrun]
  exact k b hb1 is hi.2 w F Θ own' _ hR2 Q fun S' a' w' F' Θ' own'' g1 g2 g3=>hQ S' a' w' F' Θ' own'' g1 g2 (hS2.trans g3)
theorem WL.opVal {c:Cx} {ops:Array Oper} {o:Oper} {l:List Oper} {S:St} {K:St→Prop} (hg:o.guard=none) {k0:Nat} (hd:o.dst=some k0) (hk:k0<S.n) (r:AV)
  (h:∀(w:World) (F:Nat→Nat) (Θ:Ty) (own:Who→List Nat) (a:Act),Rel w F Θ own S a→∃v,(execOp a.eval o).run c.P w=.ok (.value v) w∧rv w F Θ r v [])
  {S1:St} (e:(⟨S.n,upd S.tm k0 r,S.hp⟩:St)=S1) (k:WL c ops l S1 K):WL c ops (o::l) S K:=fun is hi=>by
 subst e
 cases is with
 |nil=>simp at hi
 |cons i is=>
  simp only[List.map_cons,List.cons.injEq] at hi
  intro w F Θ own a hR Q hQ
  simp only[wpOps,hi.1]
  obtain⟨v,hrun,hv⟩:=h w F Θ own a hR
  have hw:Region.wanted o (yielded ops a.tmps)=true:=Dz (c:=c) hR (by unfold wnt;rw[hg])
  rw[if_pos hw]
  obtain⟨own',hR2,hS2⟩:=Rel.fin hR o.dst (fun q hq=>by rw[hd] at hq;cases hq;exact hk) [] r v [] (Ks.refl _ _ _) hR.top hv List.nodup_nil (by simp) (by simp)
  have e3:(⟨S.n,B1 (BD S.tm []) o.dst r,S.hp⟩:St)=⟨S.n,upd S.tm k0 r,S.hp⟩:=by rw[hd];rfl
  rw[e3] at hR2
  refine .inl ?_
  unfold Oper.wp
  rw[hrun]
  exact k is hi.2 w F Θ own' _ hR2 Q fun S' a' w' F' Θ' own'' g1 g2 g3=>hQ S' a' w' F' Θ' own'' g1 g2 (hS2.trans g3)
theorem WL.opArr {c:Cx} {ops:Array Oper} {o:Oper} {l:List Oper} {S:St} {K:St→Prop} (hg:o.guard=none) {k0:Nat} (hd:o.dst=some k0) (hk:k0<S.n) (T:Nat) (x i:Operand) (ho:o.op=.indexAddr T x i)
  {ti:TI} {n e:Nat} {s':Sh} (ht:c.ty T=some ti) (hkd:ti.kd=.ar n e s') {lv k:Nat} {p:List Nat} (hx:evT c T S x=.pt lv k p) (ox:okO c T x) {ki:IntKind} (j:Nat) (hi:evT c 0 S i=.d (.lf (.int ki (j:Int)))) (oi:okO c 0 i) (hj:j<n)
  {cn:AV} (hc:hpg S.hp lv k=some cn) {s:Sh} (hs:cn.csh=some s) (hp:∀off,C8 s p=some off→C8 s (p++[j])=some (off+j*s'.w)) {S1:St} (e1:(⟨S.n,upd S.tm k0 (.pt lv k (p++[j])),S.hp⟩:St)=S1) (kk:WL c ops l S1 K):WL c ops (o::l) S K:=
 WL.opVal hg hd hk (.pt lv k (p ++ [j])) (fun w F Θ own a hR => by
  have hv:=BU (T:=T) hR ox
  rw[hx] at hv
  simp only[rv] at hv
  obtain⟨-,b,s2,off,q1,q2,q3⟩:=hv
  obtain⟨q4, -⟩:=CM hR hi oi
  have hkk:=(c.ok T ti ht).kd
  rw[hkd] at hkk
  obtain⟨-,hn, -,hu,jn,hj1,hj2⟩:=hkk
  obtain⟨b',s3,cur,t,r1, -, -,r2, -⟩:=hR.hs lv k cn hc
  rw[hs] at r2
  cases r2
  rw[q1] at r1
  cases r1
  refine⟨.pointer (some ⟨b,off+j*s'.w,none⟩),?_,?_⟩
  ·unfold execOp
   have hlt:0≤(j:Int)∧(j:Int)<(n:Int):=⟨by omega,by omega⟩
   simp[ho,q3,q4,Go.Instr.indexAt,asIntOf,run_underlying hu,hlt,Go.Instr.sureAddr,sizeOf,typeInfo,hj1,hj2,Addr.add_lit,hj]
  ·simp only[rv]
   exact⟨trivial,b,s,off+j*s'.w,q1,hp off q2,rfl⟩) e1 kk
theorem WL.opArrZ {c:Cx} {ops:Array Oper} {o:Oper} {l:List Oper} {S:St} {K:St→Prop} (hg:o.guard=none) {k0:Nat} (hd:o.dst=some k0) (hk:k0<S.n) (T:Nat) (ho:o.op=.build T #[])
  {ti:TI} {n e:Nat} {s':Sh} (ht:c.ty T=some ti) (hkd:ti.kd=.ar n e s') {fs:List DD} (hz:ti.z=.st fs) {S1:St} (e1:(⟨S.n,upd S.tm k0 (.d (.st fs)),S.hp⟩:St)=S1) (kk:WL c ops l S1 K):WL c ops (o::l) S K:=
 WL.opVal hg hd hk (.d (.st fs)) (fun w F Θ own a hR => by
  have hT:=c.ok T ti ht
  have hkk:=hT.kd
  rw[hkd] at hkk
  obtain⟨-,hn, -,hu,jn,hj1,hj2⟩:=hkk
  obtain⟨i,hi1,hi2,hi3,hi4⟩:=hT.info
  have hzz:=hT.z w F
  rw[hz] at hzz hi4
  refine⟨.agg ti.zc.toArray,?_,?_⟩
  ·unfold execOp
   simp[ho,Go.Instr.build,zeroValue,typeInfo,hi1,hi4,run_underlying hu,sizeOf,hj1,Go.Instr.fill,DD.mk,Value.cells]
  ·simp only[rv]
   exact⟨ti.zc,hzz,rfl⟩) e1 kk
theorem WL.opArrV {c:Cx} {ops:Array Oper} {o:Oper} {l:List Oper} {S:St} {K:St→Prop} (hg:o.guard=none) {k0:Nat} (hd:o.dst=some k0) (hk:k0<S.n) (T:Nat) (x i:Operand) (ho:o.op=.index T x i)
  {ti te:TI} {n e:Nat} (ht:c.ty T=some ti) (hkd:ti.kd=.ar n e .one) (hte:c.ty e=some te) (hes:te.sh=.one) {fs:List DD} (hx:evT c T S x=.d (.st fs)) (ox:okO c T x) {ki:IntKind} (j:Nat) (hi:evT c 0 S i=.d (.lf (.int ki (j:Int)))) (oi:okO c 0 i) (hj:j<n)
  (hf:DD.shs fs=List.replicate n .one) {d:DD} (hd2:fs[j]? =some d) {S1:St} (e1:(⟨S.n,upd S.tm k0 (.d d),S.hp⟩:St)=S1) (kk:WL c ops l S1 K):WL c ops (o::l) S K:=
 WL.opVal hg hd hk (.d d) (fun w F Θ own a hR => by
  have hv:=BU (T:=T) hR ox
  rw[hx] at hv
  simp only[rv,rp] at hv
  obtain⟨cs,h1,h2⟩:=hv
  obtain⟨q4, -⟩:=CM hR hi oi
  have hkk:=(c.ok T ti ht).kd
  rw[hkd] at hkk
  obtain⟨-,hn, -,hu,jn,hj1,hj2⟩:=hkk
  have hag:=Mf (w:=w) (c.ok e te hte)
  rw[hes] at hag
  obtain⟨c1,ce,c2,k1,k2,k3⟩:=Hz h1 hd2
  have hw1:Sh.ws ((DD.shs fs).take j)=j:=by
   rw[hf,FR .one n j (by omega)];simp[Sh.w]
  have hsd:d.sh=.one:=by
   have h5:(DD.shs fs)[j]? =some d.sh:=by rw[DD.shs_eq,List.getElem?_map,hd2];rfl
   rw[hf,List.getElem?_replicate,if_pos hj] at h5
   simpa using h5.symm
  have hl:=rp.length _ _ _ k3
  rw[hsd] at hl
  simp only[Sh.w] at hl
  obtain⟨u,rfl⟩:∃u,ce=[u]:=List.length_eq_one_iff.1 hl
  refine⟨u,?_,?_⟩
  ·unfold execOp
   have hlt:0≤(j:Int)∧(j:Int)<(n:Int):=⟨by omega,by omega⟩
   have hc1:c1.length=j:=by rw[k2,hw1]
   have hj3:jn.size=1:=hj2
   have hget:cs[j]? =some u:=by rw[k1,List.getElem?_append_right (by omega),hc1];simp
   have hag2:(isAgg e).run c.P w=.ok false w:=hag
   simp[ho,h2,q4,Go.Instr.index,asIntOf,run_underlying hu,hlt,DD.mk,sizeOf,typeInfo,hj1,hj3,part,hag2,hget,hj]
  ·simp only[rv]
   refine⟨[u],k3,?_⟩
   cases d with
   |lf v=>simp only[rp] at k3;obtain⟨k3, -⟩:=k3;cases k3;rfl
   |sl o s es=>rfl
   |st gs=>simp[DD.sh] at hsd) e1 kk
theorem DL.opGs {c:Cx} (mv:List Nat) {ops:Array Oper} {acc:List Sk} {o:Oper} {l:List Oper} {S S1:St} {K:St→Prop} {D:List (Option Nat)} (hD:ops.toList.map (·.dst)=D) (j k:Nat) (b:Bool) (hg:o.guard=some (j,b)) (hj:D[j]? =some (some k)) (hk:S.tm k=dB' b) (h:okP c mv o S) (e:nx c mv o S=S1) (sk:Sk) (hsk:(B5 c mv o S).sk=sk) (kk:DL c ops (acc++[sk]) l S1 K):DL c ops acc (o::l) S K:=by
 subst hsk
 exact DL.opG mv hD j k b hg hj hk h e kk
theorem DL.opS {c:Cx} (mv:List Nat) {ops:Array Oper} {acc:List Sk} {o:Oper} {l:List Oper} {S S1:St} {K:St→Prop} (hg:o.guard=none) (h:okP c mv o S) (e:nx c mv o S=S1) (sk:Sk) (hsk:(B5 c mv o S).sk=sk) (kk:DL c ops (acc++[sk]) l S1 K):DL c ops acc (o::l) S K:=by
 subst hsk
 exact DL.op mv hg h e kk
theorem jh {c:Cx} {mv:List Nat} {o:Oper} {S:St} {T:Nat} {x:Operand} (ho:o.op=.load T x) {lv k:Nat} {p:List Nat} (hx:evT c 0 S x=.pt lv k p) {cn:AV} (hc:hpg S.hp lv k=some cn) (hm:mvB mv o.dst=false):(B5 c mv o S).sk=⟨[],.ld lv k⟩:=by
 unfold B5
 rw[ho]
 simp only[hx,hc,hm,cond_false]
 rfl
theorem dw {c:Cx} {mv:List Nat} {o:Oper} {S:St} {T:Nat} {x:Operand} {h:HP} {lv k:Nat} {cn:AV} (hc:hpg (upH h) lv k=some cn) (ho:o.op=.load T x) {f:Nat→Option AV} (hh:S.hp=f::upH h) {p:List Nat} (hx:evT c 0 S x=.pt (lv+1) k p) (hm:mvB mv o.dst=false):(B5 c mv o S).sk=⟨[],.ld (lv+1) k⟩:=
 jh ho hx (by rw[hh];exact hc) hm
theorem CS.vw {P:Program} {f:Nat} {args:List AV} {h h':HP} {r:AV} (k:CS P f args h r h'):CS P f args h r.vw h':=fun w F Θ own vs hR=>(k w F Θ own vs hR).mono fun e w' ⟨v,F',own',h1,h2,h3⟩=>by
 obtain⟨own2,g1,g2⟩:=h2.fin none (by simp) [0] .un v [] (Ks.refl _ _ _) h2.top (by simp only[rv]) List.nodup_nil (by simp) (by simp)
 have e:(⟨(Gr r h').n,B1 (BD (Gr r h').tm [0]) none .un,(Gr r h').hp⟩:St)=Gr r.vw h':=by
  unfold Gr
  congr 1
  funext t
  by_cases ht:t=0
  ·subst ht;simp[B1,BD,upd]
  ·simp only[B1,BD];rw[BE _ _ ht];simp[ht]
 rw[e] at g1
 exact⟨v,F',own2,h1,g1,h3.trans g2⟩
mutual
def DD.fit:DD→Prop
 | .lf v=>BK v
 | .st fs=>DD.fits fs
 | .sl _ _ es=>es.length≤maxLen∧DD.fits es
def DD.fits:List DD→Prop
 |[]=>True
 |d::ds=>d.fit∧DD.fits ds
end
mutual
theorem rp.fit {w:World} {F:Nat→Nat}:∀(d:DD) (cs:List Value) (bs:List Nat),rp w F d cs bs→d.fit
 | .lf v,cs,bs,h=>by
  simp only[rp] at h
  simp only[DD.fit];exact h.2.1
 | .st fs,cs,bs,h=>by
  simp only[rp] at h
  simp only[DD.fit];exact rpS.fit fs cs bs h
 | .sl o s es,cs,bs,h=>by
  simp only[rp] at h
  obtain⟨-, -,a,cap, -,h2,h3, -,h5⟩:=h
  simp only[DD.fit]
  refine⟨Nat.le_trans h2 h3,?_⟩
  rcases h5 with ⟨-,rfl, -⟩|⟨b,off,r, -,he, -⟩
  ·simp only[DD.fits]
  ·exact rpE.fit es b off r he
theorem rpS.fit {w:World} {F:Nat→Nat}:∀(l:List DD) (cs:List Value) (bs:List Nat),rpS w F l cs bs→DD.fits l
 |[],cs,bs,h=>by simp only[DD.fits]
 |d::l,cs,bs,h=>by
  simp only[rpS] at h
  obtain⟨c1,c2,b1,b2, -, -,h3,h4⟩:=h
  simp only[DD.fits];exact⟨rp.fit d c1 b1 h3,rpS.fit l c2 b2 h4⟩
theorem rpE.fit {w:World} {F:Nat→Nat}:∀(l:List DD) (b off:Nat) (bs:List Nat),rpE w F l b off bs→DD.fits l
 |[],_,_,_,_=>by simp only[DD.fits]
 |d::l,b,off,bs,h=>by
  simp only[rpE] at h
  obtain⟨cs,b1,b2, -, -,h3,h4⟩:=h
  simp only[DD.fits];exact⟨rp.fit d cs b1 h3,rpE.fit l b _ b2 h4⟩
end
theorem CS.fitD {P:Program} {f:Nat} {args:List AV} {h h':HP} {r:AV} (i:Nat) (d:DD) (hi:args[i]? =some (.d d)) (k:d.fit→CS P f args h r h'):CS P f args h r h':=fun w F Θ own vs hR=>by
 have hv:=hR.tm i
 have e:(Ck args h).tm i=.d d:=by simp[Ck,List.getD_eq_getElem?_getD,hi]
 rw[e] at hv
 simp only[rv] at hv
 obtain⟨cs,h1, -⟩:=hv
 exact k (rp.fit d cs _ h1) w F Θ own vs hR
theorem O6 {α:Type} {f:α→DD}:∀{l:List α},DD.fits (l.map f)→∀y∈l,(f y).fit
 |[],_,y,hy=>by simp at hy
 |x::l,h,y,hy=>by
  simp only[List.map_cons,DD.fits] at h
  rcases List.mem_cons.1 hy with rfl|hy
  ·exact h.1
  ·exact O6 h.2 y hy
def BW (n:Nat) (left:Int):Int:=if (n:Int)≤left then left - n else -1
theorem Va {n:Nat} {x:Int} (h:0≤BW n x):BW n x=x - n∧(n:Int)≤x:=by
 unfold BW at h ⊢
 split
 ·exact⟨rfl, ‹_›⟩
 ·rename_i q;rw[if_neg q] at h;omega
theorem VZ {n:Nat} {x:Int} (h:BW n x<0):x<n:=by
 unfold BW at h
 split at h<;>omega
theorem fA {n:Nat} {x:Int} (h:(n:Int)≤x):BW n x=x - n:=if_pos h
theorem f9 {n:Nat} {x:Int} (h:x<n):BW n x= -1:=if_neg (by omega)
def szK {α:Type} (g:α→Nat) (l:List α) (k:Nat):Nat:=l.length+szL g (l.take k)
theorem Gh {α:Type} (g:α→Nat) (l:List α):szK g l 0=l.length:=by simp[szK,szL]
theorem UY {α:Type} (g:α→Nat) (l:List α):szK g l l.length=szs g l:=by unfold szK szs;rw[List.take_length]
theorem Gg {α:Type} (g:α→Nat):∀a b:List α,szL g (a++b)=szL g a+szL g b
 |[],b=>by simp[szL]
 |x::a,b=>by simp only[List.cons_append,szL,Gg g a b];omega
theorem dl {α:Type} {g:α→Nat} {l:List α} {k:Nat} (h:k<l.length):szK g l (k+1)=szK g l k+g l[k]:=by
 unfold szK;rw[Y' h,Gg];simp[szL];omega
theorem Oo {α:Type} (g:α→Nat) (l:List α) (k:Nat):szK g l k≤szs g l:=by
 have:=E7 g l k
 unfold szK szs;omega
variable {c:Cx} {ops:Array Oper} {o:Oper} {l:List Oper} {S:St} {K:St→Prop} {acc:List Sk} {D:List (Option Nat)}
theorem fok {g:Nat} {fn:Func} (hget:c.P.funcs[g]? =some fn) (hb:fn.body.isSome=true) (hnm:(fn.name== "runtime.NumGoroutine")=false):∃body,CU c.P g fn body:=by
 cases h:fn.body with
 |none=>rw[h] at hb;cases hb
 |some b=>exact⟨b,hget,h,hnm⟩
theorem Zo (k:WL c ops l (nx c [] o S) K) (h:okP c [] o S:=by simp<;>omega) (hg:o.guard=none:=by rfl):WL c ops (o::l) S K:=WL.op [] hg h rfl k
theorem Zm (mv:List Nat) (k:WL c ops l (nx c mv o S) K) (h:okP c mv o S:=by simp<;>omega) (hg:o.guard=none:=by rfl):WL c ops (o::l) S K:=WL.op mv hg h rfl k
theorem Yo (k:DL c ops (acc++[(B5 c [] o S).sk]) l (nx c [] o S) K) (h:okP c [] o S:=by simp<;>omega) (hg:o.guard=none:=by rfl):DL c ops acc (o::l) S K:=DL.op [] hg h rfl k
theorem Ym (mv:List Nat) (k:DL c ops (acc++[(B5 c mv o S).sk]) l (nx c mv o S) K) (h:okP c mv o S:=by simp<;>omega) (hg:o.guard=none:=by rfl):DL c ops acc (o::l) S K:=DL.op mv hg h rfl k
theorem Zl (ts:List Nat) {f:Operand} {args:Array Operand} {argTypes:Array TypeId} (ho:o.op=.call { callee:=.value f,args,argTypes }) {g:Nat} {fn:Func} (hget:c.P.funcs[g]? =some fn) {as':List AV} {r:AV} {h':HP} (hc:CS c.P g as' S.hp r h') (k:WL c ops l ⟨S.n,B1 (BD S.tm (gvn ts args.toList)) o.dst r,h'⟩ K)
  (ha:(argTypes.toList.zip args.toList).map (fun x=>Cr c ts S x.1 x.2)++[]=as':=by simp) (hf:evT c 0 S f=.fn g []:=by simp) (of:okO c 0 f:=by simp) (hg:o.guard=none:=by rfl) (hd:∀k,o.dst=some k→k<S.n:=by simp) (hTs:argTypes.toList.length=args.toList.length:=by rfl) (hok:∀x∈argTypes.toList.zip args.toList,okO c x.1 x.2:=by simp) (hn:(gvn ts args.toList).Nodup:=by simp) (hb:fn.body.isSome=true:=by rfl) (hnm:(fn.name== "runtime.NumGoroutine")=false:=by rfl):WL c ops (o::l) S K:=by
 obtain⟨body,hfn⟩:=fok (c:=c) hget hb hnm
 exact WL.call ts f args argTypes ho hg hd hf of hfn hTs hok hn ha hc rfl k
theorem Yl (ts:List Nat) {f:Operand} {args:Array Operand} {argTypes:Array TypeId} (ho:o.op=.call { callee:=.value f,args,argTypes }) {g:Nat} {fn:Func} (hget:c.P.funcs[g]? =some fn) {as':List AV} {r:AV} (hc:∀h,CS c.P g as' h r h) (k:DL c ops (acc++[⟨gvn ts args.toList,.val⟩]) l ⟨S.n,B1 (BD S.tm (gvn ts args.toList)) o.dst r,S.hp⟩ K)
  (ha:(argTypes.toList.zip args.toList).map (fun x=>Cr c ts S x.1 x.2)++[]=as':=by simp) (hf:evT c 0 S f=.fn g []:=by simp) (of:okO c 0 f:=by simp) (hg:o.guard=none:=by rfl) (hd:∀k,o.dst=some k→k<S.n:=by simp) (hTs:argTypes.toList.length=args.toList.length:=by rfl) (hok:∀x∈argTypes.toList.zip args.toList,okO c x.1 x.2:=by simp) (hn:(gvn ts args.toList).Nodup:=by simp) (hb:fn.body.isSome=true:=by rfl) (hnm:(fn.name== "runtime.NumGoroutine")=false:=by rfl):DL c ops acc (o::l) S K:=by
 obtain⟨body,hfn⟩:=fok (c:=c) hget hb hnm
 exact DL.call ts f args argTypes ho hg hd hf of hfn hTs hok hn ha hc rfl k
theorem Zk (hD:ops.toList.map (·.dst)=D) {j kg:Nat} {bg:Bool} (hg:o.guard=some (j,bg)) (hj:D[j]? =some (some kg)) (ts:List Nat) {f:Operand} {args:Array Operand} {argTypes:Array TypeId} (ho:o.op=.call { callee:=.value f,args,argTypes }) {g:Nat} {fn:Func} (hget:c.P.funcs[g]? =some fn) {as':List AV} {r:AV} {h':HP} (hc:CS c.P g as' S.hp r h') (k:WL c ops l ⟨S.n,B1 (BD S.tm (gvn ts args.toList)) o.dst r,h'⟩ K)
  (ha:(argTypes.toList.zip args.toList).map (fun x=>Cr c ts S x.1 x.2)++[]=as':=by simp) (hk:S.tm kg=.d (.lf (.bool bg)):=by simp) (hf:evT c 0 S f=.fn g []:=by simp) (of:okO c 0 f:=by simp) (hd:∀k,o.dst=some k→k<S.n:=by simp) (hTs:argTypes.toList.length=args.toList.length:=by rfl) (hok:∀x∈argTypes.toList.zip args.toList,okO c x.1 x.2:=by simp) (hn:(gvn ts args.toList).Nodup:=by simp) (hb:fn.body.isSome=true:=by rfl) (hnm:(fn.name== "runtime.NumGoroutine")=false:=by rfl):WL c ops (o::l) S K:=by
 obtain⟨body,hfn⟩:=fok (c:=c) hget hb hnm
 exact WL.callG hD j kg bg hg hj hk ts f args argTypes ho hd hf of hfn hTs hok hn ha hc rfl k
theorem Yk (hD:ops.toList.map (·.dst)=D) {j kg:Nat} {bg:Bool} (hg:o.guard=some (j,bg)) (hj:D[j]? =some (some kg)) (ts:List Nat) {f:Operand} {args:Array Operand} {argTypes:Array TypeId} (ho:o.op=.call { callee:=.value f,args,argTypes }) {g:Nat} {fn:Func} (hget:c.P.funcs[g]? =some fn) {as':List AV} {r:AV} (hc:∀h,CS c.P g as' h r h) (k:DL c ops (acc++[⟨gvn ts args.toList,.val⟩]) l ⟨S.n,B1 (BD S.tm (gvn ts args.toList)) o.dst r,S.hp⟩ K)
  (ha:(argTypes.toList.zip args.toList).map (fun x=>Cr c ts S x.1 x.2)++[]=as':=by simp) (hk:S.tm kg=.d (.lf (.bool bg)):=by simp) (hf:evT c 0 S f=.fn g []:=by simp) (of:okO c 0 f:=by simp) (hd:∀k,o.dst=some k→k<S.n:=by simp) (hTs:argTypes.toList.length=args.toList.length:=by rfl) (hok:∀x∈argTypes.toList.zip args.toList,okO c x.1 x.2:=by simp) (hn:(gvn ts args.toList).Nodup:=by simp) (hb:fn.body.isSome=true:=by rfl) (hnm:(fn.name== "runtime.NumGoroutine")=false:=by rfl):DL c ops acc (o::l) S K:=by
 obtain⟨body,hfn⟩:=fok (c:=c) hget hb hnm
 exact DL.callG hD j kg bg hg hj hk ts f args argTypes ho hd hf of hfn hTs hok hn ha hc rfl k
theorem Zn (hD:ops.toList.map (·.dst)=D) {j k:Nat} {b:Bool} (hg:o.guard=some (j,b)) (hj:D[j]? =some (some k)) (kk:WL c ops l ⟨S.n,B1 S.tm o.dst (.tp []),S.hp⟩ K) (hk:S.tm k=dB' (!b)∨S.tm k=.tp []:=by simp) (hd:∀k,o.dst=some k→k<S.n:=by simp):WL c ops (o::l) S K:=WL.no2 hD j k b hg hj hk hd rfl kk
theorem Yn (hD:ops.toList.map (·.dst)=D) {j k:Nat} {b:Bool} (hg:o.guard=some (j,b)) (hj:D[j]? =some (some k)) (kk:DL c ops (acc++[⟨[],.val⟩]) l ⟨S.n,B1 S.tm o.dst (.tp []),S.hp⟩ K) (hk:S.tm k=dB' (!b)∨S.tm k=.tp []:=by simp) (hd:∀k,o.dst=some k→k<S.n:=by simp):DL c ops acc (o::l) S K:=DL.no2 hD j k b hg hj hk hd rfl kk
theorem Zg (hD:ops.toList.map (·.dst)=D) {j k:Nat} {b:Bool} (hg:o.guard=some (j,b)) (hj:D[j]? =some (some k)) (kk:WL c ops l (nx c [] o S) K) (h:okP c [] o S:=by simp<;>omega) (hk:S.tm k=dB' b:=by simp):WL c ops (o::l) S K:=WL.opG [] hD j k b hg hj hk h rfl kk
theorem Yg (hD:ops.toList.map (·.dst)=D) {j k:Nat} {b:Bool} (hg:o.guard=some (j,b)) (hj:D[j]? =some (some k)) (kk:DL c ops (acc++[(B5 c [] o S).sk]) l (nx c [] o S) K) (h:okP c [] o S:=by simp<;>omega) (hk:S.tm k=dB' b:=by simp):DL c ops acc (o::l) S K:=DL.opG [] hD j k b hg hj hk h rfl kk
theorem Zc {Q:Exit→St→Prop} {g:Operand} {x y:Code} {b:Bool} (hg:evT c 0 S g=dB' b) (h1:b=true→W c x S Q) (h2:b=false→W c y S Q) (og:okO c 0 g:=by trivial):W c (.cond g x y) S Q:=W.condS b hg og h1 h2
theorem Zs {id:Nat} {S1:St} {Q:Exit→St→Prop} (h:∀K:St→Prop,K S1→∀ops':Array Oper,WL c ops' ops.toList S K) (k:Q .normal S1):W c (.region id ops false) S Q:=W.regS (fun ops' K hK=>h K hK ops') k
theorem Zr {id:Nat} {S1:St} {y:Code} {Q:Exit→St→Prop} (h:∀K:St→Prop,K S1→∀ops':Array Oper,WL c ops' ops.toList S K) (k:W c y S1 Q):W c (.seq (.region id ops false) y) S Q:=W.seq (Zs h k)
theorem Yr {id:Nat} {S1:St} {y:Code} {Q:Exit→St→Prop} (hm:c.P.follows .mixedOrders=true) (h:∀K:St→Prop,K S1→DL c ops [] ops.toList S K) (k:W c y S1 Q):W c (.seq (.region id ops true) y) S Q:=W.seq (W.regSD hm h k)
theorem Zx {K:St→Prop} {S1:St} (h:K S1:=by assumption):WL c ops [] S1 K:=WL.nil h
theorem Zv {Q:Exit→St→Prop} {g:Operand} {x y z:Code} {b:Bool} (hg:evT c 0 S g=dB' b) (h1:b=true→W c x S (DE (fun S'=>W c z S' Q) Q)) (h2:b=false→W c y S (DE (fun S'=>W c z S' Q) Q)) (og:okO c 0 g:=by trivial):W c (.seq (.cond g x y) z) S Q:=W.seq (Zc hg h1 h2 og)
theorem Zb {Q:Exit→St→Prop} {i:Nat} {x z:Code} (h:W c x S (TV i (DE (fun S'=>W c z S' Q) Q))):W c (.seq (.block i x) z) S Q:=W.seq (W.block h)
theorem gm {α:Type} {l:List α} {i:Nat} (h:i<l.length):l[i]∈l:=List.getElem_mem h
theorem Zq {fn:Func} {r:AV} {h':HP} (k:Res c fn S r) (hh:∃f1,S.hp=f1::upH h':=by exact⟨_,rfl⟩):(Exit.ret=.normal∨Exit.ret=.ret)∧(∃f1,S.hp=f1::upH h')∧Res c fn S r:=⟨.inr rfl,hh,k⟩
theorem Ze {f:Nat} {fn:Func} {body:Code} {args:List AV} {h h':HP} {r:AV} (hget:c.P.funcs[f]? =some fn) (hbd:fn.body=some body) (n:Nat) (hW:W c body ⟨n,tl (mkl 0 args),al []::upH h⟩ (fun e S=>(e=.normal∨e=.ret)∧(∃f1,S.hp=f1::upH h')∧Res c fn S r)) (hn:fn.ntmps=n:=by rfl) (hlen:args.length≤n:=by simp) (hnm:(fn.name== "runtime.NumGoroutine")=false:=by rfl):CS c.P f args h r h':=CS.run ⟨hget,hbd,hnm⟩ args h h' r n hn hlen hW
section
variable {c:Cx} {ops:Array Oper} {S:St}
theorem Zw {id:Nat} {S1:St} {y:Code} {Q:Exit→St→Prop} (k:W c y S1 Q) (h:∀K:St→Prop,K S1→∀ops':Array Oper,WL c ops' ops.toList S K:=by intros;repeat (first|exact Zx|(refine Zo ?_;simp))):W c (.seq (.region id ops false) y) S Q:=Zr h k
theorem Zw2 {id:Nat} {S1:St} {y:Code} {Q:Exit→St→Prop} (k:W c y S1 Q) (h:∀K:St→Prop,K S1→∀ops':Array Oper,WL c ops' ops.toList S K:=by intros;repeat (first|exact Zx|(refine Zo ?_ (by simp[*]<;>omega);simp[*]))):W c (.seq (.region id ops false) y) S Q:=Zr h k
end
section
variable {c:Cx} {ops:Array Oper} {o:Oper} {l:List Oper} {S:St} {K:St→Prop} {acc:List Sk} {D:List (Option Nat)}
theorem ZN' {j k:Nat} {b:Bool} (kk:WL c ops l ⟨S.n,B1 S.tm o.dst (.tp []),S.hp⟩ K) (hD:ops.toList.map (·.dst)=D:=by exact hD) (hg:o.guard=some (j,b):=by rfl) (hj:D[j]? =some (some k):=by rfl) (hk:S.tm k=.d (.lf (.bool (!b)))∨S.tm k=.tp []:=by simp) (hd:∀k,o.dst=some k→k<S.n:=by simp):WL c ops (o::l) S K:=Zn hD hg hj kk hk hd
theorem ZG' {j k:Nat} {b:Bool} (kk:WL c ops l (nx c [] o S) K) (h:okP c [] o S:=by simp<;>omega) (hD:ops.toList.map (·.dst)=D:=by exact hD) (hg:o.guard=some (j,b):=by rfl) (hj:D[j]? =some (some k):=by rfl) (hk:S.tm k=.d (.lf (.bool b)):=by simp):WL c ops (o::l) S K:=Zg hD hg hj kk h hk
end
