/- Part 01. No condition. -/
import Derived.Test.YtgihkamifpmfdaaGreatDoorProg
import Derived.JoinedTies
import Derived.KernelRfl
import Derived.Lib.Hide
import Derived.OpenShut
import Derived.ProofKit
import Derived.WalkKit
import GoSem.Claim
import GoSem.ClaimJoined
import GoSem.ClaimMapViews
namespace Go.Proofs.YtgihkamifpmfdaaGreatDoor
open Go.RowKit Go.ChangeShapes Go.WideShapes Go.ChangeAt
set_option linter.unusedVariables false
set_option linter.unusedSimpArgs false
abbrev BA':=ByteArray
theorem AI {a b:Prop} (h:a) (k:b):a∧b:=⟨h,k⟩
theorem Y' {α:Type} {i:Nat} {l:List α} (h:i<l.length):l.take (i+1)=l.take i++[l[i]]:=List.take_succ_eq_append_getElem h
inductive D where
 |lf (v:Value)
 |st (fs:List D)
 |sl (es:List D)

def BK:Value→Prop
 | .int k n=>k.min≤n∧n≤k.max
 | .string s=>s.size≤maxLen
 | .bool _=>True
 |_=>False

mutual
def D.width:D→Nat
 | .lf _=>1
 | .sl _=>1
 | .st fs=>D.widths fs
def D.widths:List D→Nat
 |[]=>0
 |d::ds=>d.width+D.widths ds
end

def CQ (w:World) (b off:Nat) (cs:List Value):Prop:=∀(j:Nat) u,cs[j]? =some u→w.cell? ⟨b,off+j,none⟩=some u

mutual
def Rep (w:World) (K:Nat→Prop):D→List Value→Prop
 | .lf v,cs=>cs=[v]∧BK v
 | .st fs,cs=>B3 w K fs cs
 | .sl es,cs=>∃a cap,cs=[.slice a es.length cap]∧es.length≤cap∧cap≤maxLen∧(a=none→cap=0)∧
   (es=[]∨∃b off,a=some ⟨b,off,none⟩∧K b∧Dp w K es b off)
def B3 (w:World) (K:Nat→Prop):List D→List Value→Prop
 |[],cs=>cs=[]
 |d::ds,cs=>∃c1 c2,cs=c1++c2∧Rep w K d c1∧B3 w K ds c2
def Dp (w:World) (K:Nat→Prop):List D→Nat→Nat→Prop
 |[],_,_=>True
 |d::ds,b,off=>(∃cs,CQ w b off cs∧Rep w K d cs)∧Dp w K ds b (off+d.width)
end

theorem CQ.mono {w w':World} {b off:Nat} {cs:List Value} (h:w'.heap[b]? =w.heap[b]?) (hc:CQ w b off cs):CQ w' b off cs:=by
 intro j u hu
 rw[←hc j u hu]
 exact World.cell?_of_block (w:=w) (a:=⟨b,off+j,none⟩) h

mutual
theorem Rep.mono {w w':World} {K K':Nat→Prop} (hK:∀b,K b→K' b) (hw:∀b,K b→w'.heap[b]? =w.heap[b]?):∀(d:D) (cs:List Value),Rep w K d cs→Rep w' K' d cs
 | .lf v,cs,h=>by simpa only[Rep] using h
 | .st fs,cs,h=>by
  simp only[Rep] at h ⊢
  exact B3.mono hK hw fs cs h
 | .sl es,cs,h=>by
  simp only[Rep] at h ⊢
  obtain⟨a,cap,h1,h2,h3,h4,h5⟩:=h
  refine⟨a,cap,h1,h2,h3,h4,?_⟩
  rcases h5 with h5|⟨b,off,ha,hb,he⟩
  ·exact .inl h5
  ·exact .inr ⟨b,off,ha,hK b hb,Dp.mono hK hw hb es off he⟩
theorem B3.mono {w w':World} {K K':Nat→Prop} (hK:∀b,K b→K' b) (hw:∀b,K b→w'.heap[b]? =w.heap[b]?):∀(ds:List D) (cs:List Value),B3 w K ds cs→B3 w' K' ds cs
 |[],cs,h=>by simpa only[B3] using h
 |d::ds,cs,h=>by
  simp only[B3] at h ⊢
  obtain⟨c1,c2,e,h1,h2⟩:=h
  exact⟨c1,c2,e,Rep.mono hK hw d c1 h1,B3.mono hK hw ds c2 h2⟩
theorem Dp.mono {w w':World} {K K':Nat→Prop} (hK:∀b,K b→K' b) (hw:∀b,K b→w'.heap[b]? =w.heap[b]?) {b:Nat} (hb:K b):∀(ds:List D) (off:Nat),Dp w K ds b off→Dp w' K' ds b off
 |[],_,_=>trivial
 |d::ds,off,h=>by
  simp only[Dp] at h ⊢
  obtain⟨⟨cs,hc,hr⟩,h2⟩:=h
  exact⟨⟨cs,hc.mono (hw b hb),Rep.mono hK hw d cs hr⟩,Dp.mono hK hw hb ds _ h2⟩
end

mutual
theorem Rep.length {w:World} {K:Nat→Prop}:∀(d:D) (cs:List Value),Rep w K d cs→cs.length=d.width
 | .lf v,cs,h=>by
  simp only[Rep] at h
  rw[h.1];simp[D.width]
 | .st fs,cs,h=>by
  simp only[Rep] at h
  simp only[D.width]
  exact B3.length fs cs h
 | .sl es,cs,h=>by
  simp only[Rep] at h
  obtain⟨a,cap,h1, -⟩:=h
  rw[h1];simp[D.width]
theorem B3.length {w:World} {K:Nat→Prop}:∀(ds:List D) (cs:List Value),B3 w K ds cs→cs.length=D.widths ds
 |[],cs,h=>by
  simp only[B3] at h
  rw[h];simp[D.widths]
 |d::ds,cs,h=>by
  simp only[B3] at h
  obtain⟨c1,c2,e,h1,h2⟩:=h
  rw[e,List.length_append,Rep.length d c1 h1,B3.length ds c2 h2];simp[D.widths]
end

theorem Rep.ext {w w':World} {K:Nat→Prop} {B:Nat} {d:D} {cs:List Value} (hB:Below B w w') (hK:∀b,K b→b<B) (h:Rep w K d cs):Rep w' K d cs:=
 Rep.mono (fun _ h=>h) (fun b hb=>hB.block b (hK b hb)) d cs h
theorem CQ.ext {w w':World} {B b off:Nat} {cs:List Value} (hB:Below B w w') (hb:b<B) (h:CQ w b off cs):CQ w' b off cs:=h.mono (hB.block b hb)


def CY (n:Int):D:=.lf (.int .i64 n)
def BI (s:BA'):D:=.lf (.string s)
def FM (b:Bool):D:=.lf (.bool b)
def InR (n:Int):Prop:=IntKind.i64.min≤n∧n≤IntKind.i64.max
theorem InR.lo {n:Int} (h:InR n): -9223372036854775808≤n:=h.1
theorem InR.hi {n:Int} (h:InR n):n≤9223372036854775807:=h.2
theorem PP (n:Int):(CY n).width=1:=by simp only[CY,D.width]
theorem Bs (n:BA'):(BI n).width=1:=by simp only[BI,D.width]
theorem K0 (n:Bool):(FM n).width=1:=by simp only[FM,D.width]

theorem ny {w:World} {K:Nat→Prop} {n:Int} (h:InR n):Rep w K (CY n) [.int .i64 n]:=by simp only[CY,Rep];exact⟨trivial,h⟩
theorem nw {w:World} {K:Nat→Prop} {s:BA'} (h:s.size≤maxLen):Rep w K (BI s) [.string s]:=by simp only[BI,Rep];exact⟨trivial,h⟩
theorem o8 {w:World} {K:Nat→Prop} (b:Bool):Rep w K (FM b) [.bool b]:=by simp only[FM,Rep];exact⟨trivial,trivial⟩

def szL {α:Type} (f:α→Nat):List α→Nat
 |[]=>0
 |x::l=>f x+szL f l
def szs {α:Type} (f:α→Nat) (l:List α):Nat:=l.length+szL f l
theorem Ae {α:Type} (f:α→Nat) {x:α}:∀{l:List α},x∈l→f x≤szL f l
 |y::l,h=>by
  simp only[szL]
  rcases List.mem_cons.1 h with rfl|h
  ·omega
  ·have:=Ae f h;omega
theorem Dp.get {w:World} {K:Nat→Prop} {s b:Nat}:∀(es:List D) (off:Nat),(∀d∈es,d.width=s)→Dp w K es b off→
  ∀(k:Nat) (d:D),es[k]? =some d→∃cs,CQ w b (off+k*s) cs∧Rep w K d cs
 |[],_,_,_,k,d,hd=>by simp at hd
 |e::es,off,hw,h,0,d,hd=>by
  simp only[List.getElem?_cons_zero,Option.some.injEq] at hd
  subst hd
  simp only[Dp] at h
  simpa using h.1
 |e::es,off,hw,h,k+1,d,hd=>by
  simp only[List.getElem?_cons_succ] at hd
  simp only[Dp] at h
  have he:=hw e (by simp)
  have:=Dp.get es (off+e.width) (fun d hd=>hw d (by simp[hd])) h.2 k d hd
  rw[he] at this
  rw[show off+(k+1)*s=off+s+k*s by rw[Nat.add_mul];omega]
  exact this

def lU (w:World) (b:Nat):Prop:=∃cur e,w.heap[b]? =some (.cells cur e (0,0))

mutual
def Own (w:World):D→List Value→List Nat→Prop
 | .lf v,cs,bs=>cs=[v]∧BK v∧bs=[]
 | .st fs,cs,bs=>GL w fs cs bs
 | .sl es,cs,bs=>∃a cap,cs=[.slice a es.length cap]∧es.length≤cap∧cap≤maxLen∧(a=none→cap=0)∧
   ((es=[]∧bs=[])∨∃b off r,a=some ⟨b,off,none⟩∧bs=b::r∧lU w b∧HR w es b off r)
def GL (w:World):List D→List Value→List Nat→Prop
 |[],cs,bs=>cs=[]∧bs=[]
 |d::ds,cs,bs=>∃c1 c2 b1 b2,cs=c1++c2∧bs=b1++b2∧Own w d c1 b1∧GL w ds c2 b2
def HR (w:World):List D→Nat→Nat→List Nat→Prop
 |[],_,_,bs=>bs=[]
 |d::ds,b,off,bs=>∃cs b1 b2,bs=b1++b2∧CQ w b off cs∧Own w d cs b1∧HR w ds b (off+d.width) b2
end

mutual
theorem Own.rep {w:World} {K:Nat→Prop}:∀(d:D) (cs:List Value) (bs:List Nat),Own w d cs bs→(∀b∈bs,K b)→Rep w K d cs
 | .lf v,cs,bs,h,_=>by
  simp only[Own] at h
  simp only[Rep]
  exact⟨h.1,h.2.1⟩
 | .st fs,cs,bs,h,hk=>by
  simp only[Own] at h
  simp only[Rep]
  exact GL.rep fs cs bs h hk
 | .sl es,cs,bs,h,hk=>by
  simp only[Own] at h
  obtain⟨a,cap,h1,h2,h3,h4,h5⟩:=h
  simp only[Rep]
  refine⟨a,cap,h1,h2,h3,h4,?_⟩
  rcases h5 with ⟨h5, -⟩|⟨b,off,r,ha,hb, -,he⟩
  ·exact .inl h5
  ·subst hb
   exact .inr ⟨b,off,ha,hk b (by simp),HR.rep es b off r he (fun x hx=>hk x (by simp[hx]))⟩
theorem GL.rep {w:World} {K:Nat→Prop}:∀(ds:List D) (cs:List Value) (bs:List Nat),GL w ds cs bs→(∀b∈bs,K b)→B3 w K ds cs
 |[],cs,bs,h,_=>by
  simp only[GL] at h
  simp only[B3]
  exact h.1
 |d::ds,cs,bs,h,hk=>by
  simp only[GL] at h
  obtain⟨c1,c2,b1,b2,h1,h2,h3,h4⟩:=h
  subst h2
  simp only[B3]
  exact⟨c1,c2,h1,Own.rep d c1 b1 h3 (fun b hb=>hk b (by simp[hb])),GL.rep ds c2 b2 h4 (fun b hb=>hk b (by simp[hb]))⟩
theorem HR.rep {w:World} {K:Nat→Prop}:∀(ds:List D) (b off:Nat) (bs:List Nat),HR w ds b off bs→(∀b∈bs,K b)→Dp w K ds b off
 |[],_,_,_,_,_=>trivial
 |d::ds,b,off,bs,h,hk=>by
  simp only[HR] at h
  obtain⟨cs,b1,b2,h1,h2,h3,h4⟩:=h
  subst h1
  simp only[Dp]
  exact⟨⟨cs,h2,Own.rep d cs b1 h3 (fun b hb=>hk b (by simp[hb]))⟩,HR.rep ds b _ b2 h4 (fun b hb=>hk b (by simp[hb]))⟩
end

mutual
theorem Own.keep {w w':World}:∀(d:D) (cs:List Value) (bs:List Nat),Own w d cs bs→(∀b∈bs,w'.heap[b]? =w.heap[b]?)→Own w' d cs bs
 | .lf v,cs,bs,h,_=>by
  simp only[Own] at h ⊢
  exact h
 | .st fs,cs,bs,h,hk=>by
  simp only[Own] at h ⊢
  exact GL.keep fs cs bs h hk
 | .sl es,cs,bs,h,hk=>by
  simp only[Own] at h ⊢
  obtain⟨a,cap,h1,h2,h3,h4,h5⟩:=h
  refine⟨a,cap,h1,h2,h3,h4,?_⟩
  rcases h5 with h5|⟨b,off,r,ha,hb,⟨cur,e,hf⟩,he⟩
  ·exact .inl h5
  ·subst hb
   have e1:=hk b (by simp)
   exact .inr ⟨b,off,r,ha,rfl,⟨cur,e,e1.trans hf⟩,HR.keep es b off r he (fun o _=>World.cell?_of_block (w:=w) (a:=⟨b,o,none⟩) e1) (fun x hx=>hk x (by simp[hx]))⟩
theorem GL.keep {w w':World}:∀(ds:List D) (cs:List Value) (bs:List Nat),GL w ds cs bs→(∀b∈bs,w'.heap[b]? =w.heap[b]?)→GL w' ds cs bs
 |[],cs,bs,h,_=>by
  simp only[GL] at h ⊢
  exact h
 |d::ds,cs,bs,h,hk=>by
  simp only[GL] at h ⊢
  obtain⟨c1,c2,b1,b2,h1,h2,h3,h4⟩:=h
  subst h2
  exact⟨c1,c2,b1,b2,h1,rfl,Own.keep d c1 b1 h3 (fun b hb=>hk b (by simp[hb])),GL.keep ds c2 b2 h4 (fun b hb=>hk b (by simp[hb]))⟩
theorem HR.keep {w w':World}:∀(ds:List D) (b off:Nat) (bs:List Nat),HR w ds b off bs→(∀o,o<off+D.widths ds→w'.cell? ⟨b,o,none⟩=w.cell? ⟨b,o,none⟩)→(∀b∈bs,w'.heap[b]? =w.heap[b]?)→HR w' ds b off bs
 |[],_,_,_,h,_,_=>by
  simp only[HR] at h ⊢
  exact h
 |d::ds,b,off,bs,h,hc,hk=>by
  simp only[HR] at h ⊢
  simp only[D.widths] at hc
  obtain⟨cs,b1,b2,h1,h2,h3,h4⟩:=h
  subst h1
  have hl:=Rep.length (K:=fun _=>True) d cs (Own.rep d cs b1 h3 (fun _ _=>trivial))
  refine⟨cs,b1,b2,rfl,?_,Own.keep d cs b1 h3 (fun b hb=>hk b (by simp[hb])),HR.keep ds b _ b2 h4 (fun o ho=>hc o (by omega)) (fun b hb=>hk b (by simp[hb]))⟩
  intro j u hu
  have hj:=(List.getElem?_eq_some_iff.1 hu).1
  rw[hc _ (by omega)]
  exact h2 j u hu
end

mutual
theorem Rep.one {w:World} {K:Nat→Prop}:∀(d:D) (cs:List Value),Rep w K d cs→∀u∈cs,u.oneCell'=true
 | .lf v,cs,h=>by
  simp only[Rep] at h
  obtain⟨rfl,h⟩:=h
  intro u hu
  simp only[List.mem_singleton] at hu
  subst hu
  cases u<;>first|rfl|exact h.elim
 | .st fs,cs,h=>by
  simp only[Rep] at h
  exact B3.one fs cs h
 | .sl es,cs,h=>by
  simp only[Rep] at h
  obtain⟨a,cap,rfl, -⟩:=h
  intro u hu
  simp only[List.mem_singleton] at hu
  subst hu
  rfl
theorem B3.one {w:World} {K:Nat→Prop}:∀(ds:List D) (cs:List Value),B3 w K ds cs→∀u∈cs,u.oneCell'=true
 |[],cs,h=>by
  simp only[B3] at h
  subst h
  intro u hu
  simp at hu
 |d::ds,cs,h=>by
  simp only[B3] at h
  obtain⟨c1,c2,rfl,h1,h2⟩:=h
  intro u hu
  rcases List.mem_append.1 hu with hu|hu
  ·exact Rep.one d c1 h1 u hu
  ·exact B3.one ds c2 h2 u hu
end
structure pc (w w':World) (g off:Nat) (cs:List Value):Prop where
 os:w'.os=w.os
 tape:w'.tape=w.tape
 output:w'.output=w.output
 size:w'.heap.size=w.heap.size
 other:∀b,b≠g→w'.heap[b]? =w.heap[b]?
 Cp:lU w' g
 shape:w'.shape? g=w.shape? g
 at_:CQ w' g off cs
 lo:∀o,o<off→w'.cell? ⟨g,o,none⟩=w.cell? ⟨g,o,none⟩
 hi:∀o,off+cs.length≤o→w'.cell? ⟨g,o,none⟩=w.cell? ⟨g,o,none⟩

def cw (w:World) (g E N:Nat):Prop:=∃cur,w.heap[g]? =some (.cells cur E (0,0))∧cur.size=N
theorem cw.lt {w:World} {g E N:Nat} (h:cw w g E N):g<w.heap.size:=by
 obtain⟨cur,h1, -⟩:=h
 exact(Array.getElem?_eq_some_iff.1 h1).1
structure Up (g:Nat) (w w':World):Prop where
 size:w.heap.size≤w'.heap.size
 block:∀b,g<b→b<w.heap.size→w'.heap[b]? =w.heap[b]?
theorem Up.refl (g:Nat) (w:World):Up g w w:=⟨Nat.le_refl _,fun _ _ _=>rfl⟩
theorem Up.own {g:Nat} {w w':World} (h:Up g w w') {d:D} {cs:List Value} {bs:List Nat} {lo:Nat} (o:Own w d cs bs) (r:∀b∈bs,lo≤b∧b<w.heap.size) (hlo:g<lo):Own w' d cs bs:=
 Own.keep _ _ _ o (fun b hb=>h.block b (by have:=(r b hb).1;omega) (r b hb).2)
theorem gr {s t:BA'} (h:s.toList=t.toList):s=t:=by
 rw[Go.ByteArray.toList_eq,Go.ByteArray.toList_eq] at h
 cases s;cases t;simp at h;rw[h]
theorem lG {B:Nat} {W w1:World} (hb:Below B W w1):(∀b o,b<B→w1.cell? ⟨b,o,none⟩=W.cell? ⟨b,o,none⟩)∧(∀b o,b<B→w1.frozen? ⟨b,o,none⟩=W.frozen? ⟨b,o,none⟩):=
 ⟨fun b o h=>hb.cell (p:=⟨b,o,none⟩) h,fun b o h=>hb.frozen (p:=⟨b,o,none⟩) h⟩
structure Put (w w':World) (g:Nat) (arr:Array Value) (t:TypeId):Prop where
 os:w'.os=w.os
 tape:w'.tape=w.tape
 output:w'.output=w.output
 size:w'.heap.size=w.heap.size
 other:∀b,b≠g→w'.heap[b]? =w.heap[b]?
 row:w'.heap[g]? =some (.cells arr t (0,0))
theorem Up.put {g g':Nat} {w w' w'':World} {arr:Array Value} {t:TypeId} (h:Up g w w') (hp:Put w' w'' g' arr t) (hg:g'≤g):Up g w w'':=
 ⟨by rw[hp.size];exact h.size,fun b hb hl=>by rw[hp.other b (by omega)];exact h.block b hb hl⟩
theorem KI {w:World} {o:Obj} {b:Nat} (hb:b=w.heap.size):(w.alloc o).heap[b]? =some o:=by
 subst hb
 show(w.heap.push o)[w.heap.size]? =some o
 simp
theorem ld {P:Program} {w:World} {ops:Array Oper} {rest:List Oper} {o:Oper} {a:Act} {Q:Exit→Act→World→Prop} (hg:o.guard=none) (ty:TypeId) (x:Operand) (ho:o.op=.load ty x)
  (b off:Nat) (hx:a.eval x=.pointer (some ⟨b,off,none⟩)) (cs:List Value) (hc:CQ w b off cs) (fs:Array Field) (hu:P.underlying ty=some (.struct fs)) (hi:(P.info? ty).map (·.size)=some cs.length)
  (h:wpList P ops Q rest (a.put o.dst (.agg cs.toArray)) w):wpList P ops Q (o::rest) a w:=by
 refine wpList_plain hg fun K hK=> ?_
 have hl:(loadCells ⟨b,off,none⟩ cs.length).run P w=.ok cs.toArray w:=by
  refine run_loadCells_list (P:=P) w ⟨b,off,none⟩ cs (fun j v hv=> ?_)
  rw[Addr.add_lit]
  exact hc j v hv
 cases hq:P.info? ty with
 |none=>simp[hq] at hi
 |some i=>
  have hs:i.size=cs.length:=by simpa[hq] using hi
  have hagg:(isAgg ty).run P w=.ok true w:=by
   unfold isAgg
   rw[Sem.run_bind,run_underlying hu w]
   simp
  have hv:(loadVar ty ⟨b,off,none⟩).run P w=.ok (.agg cs.toArray) w:=by
   simp[loadVar,Sem.run_bind,hagg,sizeOf,typeInfo,hq,hs,hl]
  unfold Oper.wp execOp
  simp only[ho,hx,Instr.loadAt,Instr.sureAddr,Sem.run_bind,Sem.run_pure,Result.andThen_ok,hv]
  exact hK _ _ h
structure AO where
 Dt:Int
 BA:Int
 AH:BA'
 A5:BA'
def AO.enc (x:AO):D:=.st [(CY x.Dt),(CY x.BA),(BI x.AH),(BI x.A5)]
theorem AO.enc_eq (x:AO):x.enc=.st [(CY x.Dt),(CY x.BA),(BI x.AH),(BI x.A5)]:=rfl
def AO.sz (x:AO):Nat:=ByteArray.size x.AH+ByteArray.size x.A5
theorem AO.sz_eq (x:AO):x.sz=ByteArray.size x.AH+ByteArray.size x.A5:=rfl
theorem AO.width (x:AO):x.enc.width=4:=by
 rw[AO.enc_eq];simp only[D.width,D.widths,CY,BI]
structure A3 where
 BA:Int
 fAt:Int
def A3.enc (x:A3):D:=.st [(CY x.BA),(CY x.fAt)]
theorem A3.enc_eq (x:A3):x.enc=.st [(CY x.BA),(CY x.fAt)]:=rfl
theorem A3.width (x:A3):x.enc.width=2:=by
 rw[A3.enc_eq];simp only[D.width,D.widths,CY]
structure AP where
 Dt:Int
 fAt:A3
def AP.enc (x:AP):D:=.st [(CY x.Dt),(A3.enc x.fAt)]
theorem AP.enc_eq (x:AP):x.enc=.st [(CY x.Dt),(A3.enc x.fAt)]:=rfl
theorem AP.width (x:AP):x.enc.width=3:=by
 rw[AP.enc_eq];simp only[D.width,D.widths,CY,A3.width]
structure A7 where
 AH:Int
 fN:Int
 fAt:A3
 AB:List A7
mutual
def A7.enc:A7→D
 |⟨AH,fN,fAt,AB⟩=> .st [(CY AH),(CY fN),(A3.enc fAt),(.sl (A7.encL AB))]
def A7.encL:List A7→List D
 |[]=>[]
 |x::l=>A7.enc x::A7.encL l
end
mutual
def A7.sz:A7→Nat
 |⟨_,_,_,AB⟩=>(AB.length+A7.szLs AB)
def A7.szLs:List A7→Nat
 |[]=>0
 |x::l=>A7.sz x+A7.szLs l
end
theorem A7.encL_eq:∀l:List A7,A7.encL l=l.map A7.enc
 |[]=>rfl
 |x::l=>by simp only[A7.encL,List.map_cons,A7.encL_eq l]
theorem A7.szLs_eq:∀l:List A7,A7.szLs l=szL A7.sz l
 |[]=>rfl
 |x::l=>by simp only[A7.szLs,szL,A7.szLs_eq l]
theorem A7.lt_fArgs (x:A7):SizeOf.sizeOf x.AB<SizeOf.sizeOf x:=by
 cases x;simp;omega
theorem A7.enc_eq (x:A7):x.enc=.st [(CY x.AH),(CY x.fN),(A3.enc x.fAt),(.sl (x.AB.map A7.enc))]:=by
 cases x;simp only[A7.enc,A7.encL_eq]
theorem A7.sz_eq (x:A7):x.sz=szs A7.sz x.AB:=by
 cases x;simp only[A7.sz,szs,A7.szLs_eq]
theorem A7.width (x:A7):x.enc.width=5:=by
 rw[A7.enc_eq];simp only[D.width,D.widths,CY,A3.width]
structure BJ where
 LD:BA'
 Ju:List BJ
mutual
def BJ.enc:BJ→D
 |⟨LD,Ju⟩=> .st [(BI LD),(.sl (BJ.encL Ju))]
def BJ.encL:List BJ→List D
 |[]=>[]
 |x::l=>BJ.enc x::BJ.encL l
end
mutual
def BJ.sz:BJ→Nat
 |⟨LD,Ju⟩=>ByteArray.size LD+(Ju.length+BJ.szLs Ju)
def BJ.szLs:List BJ→Nat
 |[]=>0
 |x::l=>BJ.sz x+BJ.szLs l
end
theorem BJ.encL_eq:∀l:List BJ,BJ.encL l=l.map BJ.enc
 |[]=>rfl
 |x::l=>by simp only[BJ.encL,List.map_cons,BJ.encL_eq l]
theorem BJ.szLs_eq:∀l:List BJ,BJ.szLs l=szL BJ.sz l
 |[]=>rfl
 |x::l=>by simp only[BJ.szLs,szL,BJ.szLs_eq l]
theorem BJ.enc_eq (x:BJ):x.enc=.st [(BI x.LD),(.sl (x.Ju.map BJ.enc))]:=by
 cases x;simp only[BJ.enc,BJ.encL_eq]
theorem BJ.sz_eq (x:BJ):x.sz=ByteArray.size x.LD+szs BJ.sz x.Ju:=by
 cases x;simp only[BJ.sz,szs,BJ.szLs_eq]
theorem BJ.width (x:BJ):x.enc.width=2:=by
 rw[BJ.enc_eq];simp only[D.width,D.widths,BI]
structure A0 where
 AH:Int
 A5:BA'
 AB:List A0
mutual
def A0.enc:A0→D
 |⟨AH,A5,AB⟩=> .st [(CY AH),(BI A5),(.sl (A0.encL AB))]
def A0.encL:List A0→List D
 |[]=>[]
 |x::l=>A0.enc x::A0.encL l
end
mutual
def A0.sz:A0→Nat
 |⟨_,A5,AB⟩=>ByteArray.size A5+(AB.length+A0.szLs AB)
def A0.szLs:List A0→Nat
 |[]=>0
 |x::l=>A0.sz x+A0.szLs l
end
theorem A0.encL_eq:∀l:List A0,A0.encL l=l.map A0.enc
 |[]=>rfl
 |x::l=>by simp only[A0.encL,List.map_cons,A0.encL_eq l]
theorem A0.szLs_eq:∀l:List A0,A0.szLs l=szL A0.sz l
 |[]=>rfl
 |x::l=>by simp only[A0.szLs,szL,A0.szLs_eq l]
theorem A0.lt_fArgs (x:A0):SizeOf.sizeOf x.AB<SizeOf.sizeOf x:=by
 cases x;simp;omega
theorem A0.enc_eq (x:A0):x.enc=.st [(CY x.AH),(BI x.A5),(.sl (x.AB.map A0.enc))]:=by
 cases x;simp only[A0.enc,A0.encL_eq]
theorem A0.sz_eq (x:A0):x.sz=ByteArray.size x.A5+szs A0.sz x.AB:=by
 cases x;simp only[A0.sz,szs,A0.szLs_eq]
theorem A0.width (x:A0):x.enc.width=3:=by
 rw[A0.enc_eq];simp only[D.width,D.widths,CY,BI]
mutual
structure Ac where
 AZ:BA'
 Aa:List BA'
 Ab:AG
structure AG where
 AH:Int
 AK:BA'
 A5:BA'
 fN:Int
 AM:A0
 AB:List AG
 Af:List Ac
end
mutual
def Ac.enc:Ac→D
 |⟨AZ,Aa,Ab⟩=> .st [(BI AZ),(.sl (Aa.map BI)),(AG.enc Ab)]
def AG.enc:AG→D
 |⟨AH,AK,A5,fN,AM,AB,Af⟩=> .st [(CY AH),(BI AK),(BI A5),(CY fN),(A0.enc AM),(.sl (AG.encL AB)),(.sl (Ac.encL Af))]
def Ac.encL:List Ac→List D
 |[]=>[]
 |x::l=>Ac.enc x::Ac.encL l
def AG.encL:List AG→List D
 |[]=>[]
 |x::l=>AG.enc x::AG.encL l
end
mutual
def Ac.sz:Ac→Nat
 |⟨AZ,Aa,Ab⟩=>ByteArray.size AZ+szs ByteArray.size Aa+AG.sz Ab
def AG.sz:AG→Nat
 |⟨_,AK,A5,_,AM,AB,Af⟩=>ByteArray.size AK+ByteArray.size A5+A0.sz AM+(AB.length+AG.szLs AB)+(Af.length+Ac.szLs Af)
def Ac.szLs:List Ac→Nat
 |[]=>0
 |x::l=>Ac.sz x+Ac.szLs l
def AG.szLs:List AG→Nat
 |[]=>0
 |x::l=>AG.sz x+AG.szLs l
end
theorem Ac.encL_eq:∀l:List Ac,Ac.encL l=l.map Ac.enc
 |[]=>rfl
 |x::l=>by simp only[Ac.encL,List.map_cons,Ac.encL_eq l]
theorem Ac.szLs_eq:∀l:List Ac,Ac.szLs l=szL Ac.sz l
 |[]=>rfl
 |x::l=>by simp only[Ac.szLs,szL,Ac.szLs_eq l]
theorem AG.encL_eq:∀l:List AG,AG.encL l=l.map AG.enc
 |[]=>rfl
 |x::l=>by simp only[AG.encL,List.map_cons,AG.encL_eq l]
theorem AG.szLs_eq:∀l:List AG,AG.szLs l=szL AG.sz l
 |[]=>rfl
 |x::l=>by simp only[AG.szLs,szL,AG.szLs_eq l]
theorem Ac.lt_fBody (x:Ac):SizeOf.sizeOf x.Ab<SizeOf.sizeOf x:=by
 cases x;simp;omega
theorem AG.lt_fArgs (x:AG):SizeOf.sizeOf x.AB<SizeOf.sizeOf x:=by
 cases x;simp;omega
theorem AG.lt_fArms (x:AG):SizeOf.sizeOf x.Af<SizeOf.sizeOf x:=by
 cases x;simp;omega
theorem Ac.enc_eq (x:Ac):x.enc=.st [(BI x.AZ),(.sl (x.Aa.map BI)),(AG.enc x.Ab)]:=by
 cases x;simp only[Ac.enc]
theorem Ac.sz_eq (x:Ac):x.sz=ByteArray.size x.AZ+szs ByteArray.size x.Aa+AG.sz x.Ab:=by
 cases x;simp only[Ac.sz,szs]
theorem AG.enc_eq (x:AG):x.enc=.st [(CY x.AH),(BI x.AK),(BI x.A5),(CY x.fN),(A0.enc x.AM),(.sl (x.AB.map AG.enc)),(.sl (x.Af.map Ac.enc))]:=by
 cases x;simp only[AG.enc,Ac.encL_eq,AG.encL_eq]
theorem AG.sz_eq (x:AG):x.sz=ByteArray.size x.AK+ByteArray.size x.A5+A0.sz x.AM+szs AG.sz x.AB+szs Ac.sz x.Af:=by
 cases x;simp only[AG.sz,szs,Ac.szLs_eq,AG.szLs_eq]
theorem AG.width (x:AG):x.enc.width=9:=by
 rw[AG.enc_eq];simp only[D.width,D.widths,CY,BI,A0.width]
theorem Ac.width (x:Ac):x.enc.width=11:=by
 rw[Ac.enc_eq];simp only[D.width,D.widths,BI,AG.width]
structure A6 where
 Fl:BA'
 AM:A0
def A6.enc (x:A6):D:=.st [(BI x.Fl),(A0.enc x.AM)]
theorem A6.enc_eq (x:A6):x.enc=.st [(BI x.Fl),(A0.enc x.AM)]:=rfl
def A6.sz (x:A6):Nat:=ByteArray.size x.Fl+A0.sz x.AM
theorem A6.sz_eq (x:A6):x.sz=ByteArray.size x.Fl+A0.sz x.AM:=rfl
theorem A6.width (x:A6):x.enc.width=4:=by
 rw[A6.enc_eq];simp only[D.width,D.widths,BI,A0.width]
structure A9 where
 AK:BA'
 AM:A0
def A9.enc (x:A9):D:=.st [(BI x.AK),(A0.enc x.AM)]
theorem A9.enc_eq (x:A9):x.enc=.st [(BI x.AK),(A0.enc x.AM)]:=rfl
def A9.sz (x:A9):Nat:=ByteArray.size x.AK+A0.sz x.AM
theorem A9.sz_eq (x:A9):x.sz=ByteArray.size x.AK+A0.sz x.AM:=rfl
theorem A9.width (x:A9):x.enc.width=4:=by
 rw[A9.enc_eq];simp only[D.width,D.widths,BI,A0.width]
structure AD where
 DT:A9
 Eu:Int
 DY:List Int
def AD.enc (x:AD):D:=.st [(A9.enc x.DT),(CY x.Eu),(.sl (x.DY.map CY))]
theorem AD.enc_eq (x:AD):x.enc=.st [(A9.enc x.DT),(CY x.Eu),(.sl (x.DY.map CY))]:=rfl
def AD.sz (x:AD):Nat:=A9.sz x.DT+szs (fun _=>0) x.DY
theorem AD.sz_eq (x:AD):x.sz=A9.sz x.DT+szs (fun _=>0) x.DY:=rfl
theorem AD.width (x:AD):x.enc.width=6:=by
 rw[AD.enc_eq];simp only[D.width,D.widths,CY,A9.width]
structure AA where
 A5:BA'
 Av:List A0
def AA.enc (x:AA):D:=.st [(BI x.A5),(.sl (x.Av.map A0.enc))]
theorem AA.enc_eq (x:AA):x.enc=.st [(BI x.A5),(.sl (x.Av.map A0.enc))]:=rfl
def AA.sz (x:AA):Nat:=ByteArray.size x.A5+szs A0.sz x.Av
theorem AA.sz_eq (x:AA):x.sz=ByteArray.size x.A5+szs A0.sz x.Av:=rfl
theorem AA.width (x:AA):x.enc.width=2:=by
 rw[AA.enc_eq];simp only[D.width,D.widths,BI]
structure AF where
 A5:BA'
 Aa:List BA'
 A4:List AA
def AF.enc (x:AF):D:=.st [(BI x.A5),(.sl (x.Aa.map BI)),(.sl (x.A4.map AA.enc))]
theorem AF.enc_eq (x:AF):x.enc=.st [(BI x.A5),(.sl (x.Aa.map BI)),(.sl (x.A4.map AA.enc))]:=rfl
def AF.sz (x:AF):Nat:=ByteArray.size x.A5+szs ByteArray.size x.Aa+szs AA.sz x.A4
theorem AF.sz_eq (x:AF):x.sz=ByteArray.size x.A5+szs ByteArray.size x.Aa+szs AA.sz x.A4:=rfl
theorem AF.width (x:AF):x.enc.width=3:=by
 rw[AF.enc_eq];simp only[D.width,D.widths,BI]
structure AY where
 A5:BA'
 Aa:List BA'
 Ab:AG
def AY.enc (x:AY):D:=.st [(BI x.A5),(.sl (x.Aa.map BI)),(AG.enc x.Ab)]
theorem AY.enc_eq (x:AY):x.enc=.st [(BI x.A5),(.sl (x.Aa.map BI)),(AG.enc x.Ab)]:=rfl
def AY.sz (x:AY):Nat:=ByteArray.size x.A5+szs ByteArray.size x.Aa+AG.sz x.Ab
theorem AY.sz_eq (x:AY):x.sz=ByteArray.size x.A5+szs ByteArray.size x.Aa+AG.sz x.Ab:=rfl
theorem AY.width (x:AY):x.enc.width=11:=by
 rw[AY.enc_eq];simp only[D.width,D.widths,BI,AG.width]
structure AJ where
 AK:BA'
 Aa:List BA'
 At:A0
 Ah:List A9
 Ca:Bool
 BT:Bool
 B4:A0
 Ar:List AY
def AJ.enc (x:AJ):D:=.st [(BI x.AK),(.sl (x.Aa.map BI)),(A0.enc x.At),(.sl (x.Ah.map A9.enc)),(FM x.Ca),(FM x.BT),(A0.enc x.B4),(.sl (x.Ar.map AY.enc))]
theorem AJ.enc_eq (x:AJ):x.enc=.st [(BI x.AK),(.sl (x.Aa.map BI)),(A0.enc x.At),(.sl (x.Ah.map A9.enc)),(FM x.Ca),(FM x.BT),(A0.enc x.B4),(.sl (x.Ar.map AY.enc))]:=rfl
def AJ.sz (x:AJ):Nat:=ByteArray.size x.AK+szs ByteArray.size x.Aa+A0.sz x.At+szs A9.sz x.Ah+A0.sz x.B4+szs AY.sz x.Ar
theorem AJ.sz_eq (x:AJ):x.sz=ByteArray.size x.AK+szs ByteArray.size x.Aa+A0.sz x.At+szs A9.sz x.Ah+A0.sz x.B4+szs AY.sz x.Ar:=rfl
theorem AJ.width (x:AJ):x.enc.width=12:=by
 rw[AJ.enc_eq];simp only[D.width,D.widths,BI,FM,A0.width]
structure AX where
 A5:BA'
 AM:A0
def AX.enc (x:AX):D:=.st [(BI x.A5),(A0.enc x.AM)]
theorem AX.enc_eq (x:AX):x.enc=.st [(BI x.A5),(A0.enc x.AM)]:=rfl
def AX.sz (x:AX):Nat:=ByteArray.size x.A5+A0.sz x.AM
theorem AX.sz_eq (x:AX):x.sz=ByteArray.size x.A5+A0.sz x.AM:=rfl
theorem AX.width (x:AX):x.enc.width=4:=by
 rw[AX.enc_eq];simp only[D.width,D.widths,BI,A0.width]
structure AL where
 A5:BA'
 Aa:List BA'
 Ah:List A9
 Am:List AX
 B9:A0
 Ab:AG
def AL.enc (x:AL):D:=.st [(BI x.A5),(.sl (x.Aa.map BI)),(.sl (x.Ah.map A9.enc)),(.sl (x.Am.map AX.enc)),(A0.enc x.B9),(AG.enc x.Ab)]
theorem AL.enc_eq (x:AL):x.enc=.st [(BI x.A5),(.sl (x.Aa.map BI)),(.sl (x.Ah.map A9.enc)),(.sl (x.Am.map AX.enc)),(A0.enc x.B9),(AG.enc x.Ab)]:=rfl
def AL.sz (x:AL):Nat:=ByteArray.size x.A5+szs ByteArray.size x.Aa+szs A9.sz x.Ah+szs AX.sz x.Am+A0.sz x.B9+AG.sz x.Ab
theorem AL.sz_eq (x:AL):x.sz=ByteArray.size x.A5+szs ByteArray.size x.Aa+szs A9.sz x.Ah+szs AX.sz x.Am+A0.sz x.B9+AG.sz x.Ab:=rfl
theorem AL.width (x:AL):x.enc.width=16:=by
 rw[AL.enc_eq];simp only[D.width,D.widths,BI,AG.width,A0.width]
structure AC where
 A5:BA'
 Am:List A0
 B9:A0
 BS:Bool
 Aa:List BA'
 Ab:AG
def AC.enc (x:AC):D:=.st [(BI x.A5),(.sl (x.Am.map A0.enc)),(A0.enc x.B9),(FM x.BS),(.sl (x.Aa.map BI)),(AG.enc x.Ab)]
theorem AC.enc_eq (x:AC):x.enc=.st [(BI x.A5),(.sl (x.Am.map A0.enc)),(A0.enc x.B9),(FM x.BS),(.sl (x.Aa.map BI)),(AG.enc x.Ab)]:=rfl
def AC.sz (x:AC):Nat:=ByteArray.size x.A5+szs A0.sz x.Am+A0.sz x.B9+szs ByteArray.size x.Aa+AG.sz x.Ab
theorem AC.sz_eq (x:AC):x.sz=ByteArray.size x.A5+szs A0.sz x.Am+A0.sz x.B9+szs ByteArray.size x.Aa+AG.sz x.Ab:=rfl
theorem AC.width (x:AC):x.enc.width=16:=by
 rw[AC.enc_eq];simp only[D.width,D.widths,BI,FM,AG.width,A0.width]
structure AU where
 A5:BA'
 Aq:List BA'
 CP:Bool
 B4:Bool
 AW:List AC
def AU.enc (x:AU):D:=.st [(BI x.A5),(.sl (x.Aq.map BI)),(FM x.CP),(FM x.B4),(.sl (x.AW.map AC.enc))]
theorem AU.enc_eq (x:AU):x.enc=.st [(BI x.A5),(.sl (x.Aq.map BI)),(FM x.CP),(FM x.B4),(.sl (x.AW.map AC.enc))]:=rfl
def AU.sz (x:AU):Nat:=ByteArray.size x.A5+szs ByteArray.size x.Aq+szs AC.sz x.AW
theorem AU.sz_eq (x:AU):x.sz=ByteArray.size x.A5+szs ByteArray.size x.Aq+szs AC.sz x.AW:=rfl
theorem AU.width (x:AU):x.enc.width=5:=by
 rw[AU.enc_eq];simp only[D.width,D.widths,BI,FM]
structure A8 where
 A5:BA'
 Ba:List BA'
 Aj:List AU
 AE:List AF
 AQ:List AJ
 Ad:List AL
def A8.enc (x:A8):D:=.st [(BI x.A5),(.sl (x.Ba.map BI)),(.sl (x.Aj.map AU.enc)),(.sl (x.AE.map AF.enc)),(.sl (x.AQ.map AJ.enc)),(.sl (x.Ad.map AL.enc))]
theorem A8.enc_eq (x:A8):x.enc=.st [(BI x.A5),(.sl (x.Ba.map BI)),(.sl (x.Aj.map AU.enc)),(.sl (x.AE.map AF.enc)),(.sl (x.AQ.map AJ.enc)),(.sl (x.Ad.map AL.enc))]:=rfl
def A8.sz (x:A8):Nat:=ByteArray.size x.A5+szs ByteArray.size x.Ba+szs AU.sz x.Aj+szs AF.sz x.AE+szs AJ.sz x.AQ+szs AL.sz x.Ad
theorem A8.sz_eq (x:A8):x.sz=ByteArray.size x.A5+szs ByteArray.size x.Ba+szs AU.sz x.Aj+szs AF.sz x.AE+szs AJ.sz x.AQ+szs AL.sz x.Ad:=rfl
theorem A8.width (x:A8):x.enc.width=6:=by
 rw[A8.enc_eq];simp only[D.width,D.widths,BI]
structure A1 where
 A2:List A8
def A1.enc (x:A1):D:=.st [(.sl (x.A2.map A8.enc))]
theorem A1.enc_eq (x:A1):x.enc=.st [(.sl (x.A2.map A8.enc))]:=rfl
def A1.sz (x:A1):Nat:=szs A8.sz x.A2
theorem A1.sz_eq (x:A1):x.sz=szs A8.sz x.A2:=rfl
theorem A1.width (x:A1):x.enc.width=1:=by
 rw[A1.enc_eq];simp only[D.width,D.widths]
section
variable {H:Type} {enc:TypeId×Value→H} {P:Program} {w:World} {spare:Nat→Bool} {held:Bool} {t:TypeId} {fuel:Nat} {cs:List Value} {x:DataW H×List MemPlace}
abbrev Dk (w:World):Nat→Prop:=fun b=>b<w.heap.size
theorem Dp.put {K:Nat→Prop} {s b:Nat}:∀(es:List D) (off:Nat),(∀d∈es,d.width=s)→(∀(k:Nat) (d:D),es[k]? =some d→∃cs,CQ w b (off+k*s) cs∧Rep w K d cs)→Dp w K es b off
 |[],_,_,_=>by simp only[Dp]
 |e::es,off,hw,h=>by
  simp only[Dp]
  refine⟨?_,?_⟩
  ·have:=h 0 e (by simp)
   simpa using this
  ·have he:=hw e (by simp)
   refine Dp.put es _ (fun d hd=>hw d (by simp[hd])) (fun k d hd=> ?_)
   have:=h (k+1) d (by simpa using hd)
   rw[he,show off+s+k*s=off+(k+1)*s by rw[Nat.add_mul];omega]
   exact this
theorem Qw {α:Type} {Q:Nat→α→Prop}:∀n:Nat,(∀i,i<n→∃y,Q i y)→∃l:List α,l.length=n∧∀i (h:i<l.length),Q i l[i]
 |0,_=>⟨[],rfl,fun i h=>absurd h (Nat.not_lt_zero _)⟩
 |n+1,h=>by
  obtain⟨l,hl,hq⟩:=Qw n (fun i hi=>h i (by omega))
  obtain⟨y,hy⟩:=h n (by omega)
  refine⟨l++[y],by simp[hl],fun i hi=> ?_⟩
  by_cases hin:i<l.length
  ·rw[List.getElem_append_left hin];exact hq i hin
  ·have hi':i=l.length:=by simp at hi;omega
   subst hi'
   simp only[List.getElem_concat_length]
   rw[hl];exact hy
theorem P7 (ht:P.underlying t=some (.int .i64)) (h:DataW.trod enc P w 0 spare held fuel t cs=some x):∃n,Rep w (Dk w) (CY n) cs:=by
 obtain⟨n,rfl, -,hw⟩:=DataW.trod_int ht h
 refine⟨n,ny ?_⟩
 simpa[Lit.wf,InR] using hw
theorem Br (ht:P.underlying t=some .string) (h:DataW.trod enc P w 0 spare held fuel t cs=some x):∃s,Rep w (Dk w) (BI s) cs:=by
 obtain⟨s,rfl, -,hw⟩:=DataW.trod_string ht h
 exact⟨s,nw hw⟩
theorem JS (ht:P.underlying t=some .bool) (h:DataW.trod enc P w 0 spare held fuel t cs=some x):∃b,Rep w (Dk w) (FM b) cs:=by
 cases fuel with
 |zero=>simp[DataW.trod] at h
 |succ n=>
  unfold DataW.trod at h
  rw[ht] at h
  split at h
  all_goals first|exact⟨_,o8 _⟩|simp_all
theorem Bg {α:Type} {ea:α→D} {e:TypeId} {s:Nat} (ht:P.underlying t=some (.slice e)) (hs:P.cellsOf e=s) (hs0:0<s) (hw:∀y,(ea y).width=s)
  (he:∀n cs x,n<fuel→DataW.trod enc P w 0 spare held n e cs=some x→∃y:α,Rep w (Dk w) (ea y) cs)
  (h:DataW.trod enc P w 0 spare held fuel t cs=some x):∃l:List α,Rep w (Dk w) (.sl (l.map ea)) cs:=by
 rcases DataW.trod_slice ht h with ⟨rfl, -⟩|⟨a,len,cap,elems,rest,n,rfl,rfl, -, -,hc,hm,hlen,hel, -, -⟩
 ·exact⟨[],by simp only[Rep,List.map_nil];exact⟨none,0,rfl,Nat.le_refl _,Nat.zero_le _,fun _=>rfl,.inl trivial⟩⟩
 ·rw[hs] at hel
  have hq:∀i,i<len→∃y:α,∃c,w.cells? 0 (a.add (i*s)) s=some c∧Rep w (Dk w) (ea y) c:=by
   intro i hi
   have h1:=hel i hi
   have h2:i<elems.length:=by omega
   rw[List.getElem?_eq_getElem h2] at h1
   cases hc:w.cells? 0 (a.add (i*s)) s with
   |none=>rw[hc] at h1;simp at h1
   |some c=>
    rw[hc] at h1
    obtain⟨y,hy⟩:=he n c _ (Nat.lt_succ_self _) h1
    exact⟨y,c,rfl,hy⟩
  obtain⟨l,hl,hl2⟩:=Qw len hq
  refine⟨l,?_⟩
  simp only[Rep,List.length_map]
  refine⟨some a,cap,by rw[hl],by omega,hm,(by simp),?_⟩
  by_cases h0:len=0
  ·left
   rw[List.map_eq_nil_iff]
   exact List.length_eq_zero_iff.1 (by omega)
  ·right
   obtain⟨c,hc0, -⟩:=hl2 0 (by omega)
   have hb:=World.cells?_block hc0 hs0
   obtain⟨-,hcl,hcc⟩:=World.cells?_some hc0
   have hspot:a.spot=none:=by
    have h1:=hcc 0 hs0
    obtain⟨u,hu⟩:∃u,c[0]? =some u:=⟨_,List.getElem?_eq_getElem (by omega)⟩
    rw[hu] at h1
    have h2:=World.cell?_spot h1
    rw[Nat.zero_mul,Addr.add_zero',Addr.add_zero'] at h2
    exact h2
   obtain⟨b,off,spot⟩:=a
   simp only at hspot
   subst hspot
   have hb':b<w.heap.size:=by rw[Nat.zero_mul,Addr.add_zero'] at hb;exact hb
   refine⟨b,off,rfl,hb',Dp.put _ off (by intro d hd;obtain⟨y,_,rfl⟩:=List.mem_map.1 hd;exact hw y) (fun k d hd=> ?_)⟩
   simp only[List.getElem?_map,Option.map_eq_some_iff] at hd
   obtain⟨y,hy,rfl⟩:=hd
   obtain⟨hk,rfl⟩:=List.getElem?_eq_some_iff.1 hy
   obtain⟨c',hc',hr⟩:=hl2 k hk
   obtain⟨-,hcl',hcc'⟩:=World.cells?_some hc'
   refine⟨c',?_,hr⟩
   intro j u hu
   have hj:j<s:=by have:=(List.getElem?_eq_some_iff.1 hu).1;omega
   have:=hcc' j hj
   rw[Addr.add_lit,Addr.add_lit] at this
   rw[this,hu]
theorem Dv (es:List D):(D.sl es).width=1:=by simp only[D.width]
theorem B3.at_ {K:Nat→Prop} {d:D} {ds:List D} {off n:Nat} (_:d.width=n) (h1:Rep w K d ((cs.drop off).take n)) (h2:B3 w K ds (cs.drop (off+n))):B3 w K (d::ds) (cs.drop off):=by
 simp only[B3]
 refine⟨_,_,(List.take_append_drop n (cs.drop off)).symm,h1,?_⟩
 rw[List.drop_drop]
 exact h2
theorem B3.end_ {K:Nat→Prop} {off:Nat} (h:cs.length=off):B3 w K [] (cs.drop off):=by
 simp only[B3]
 exact List.drop_eq_nil_of_le (by omega)
theorem DI {fs:Array Field} (ht:P.underlying t=some (.struct fs)) (h:DataW.trod enc P w 0 spare held fuel t cs=some x):
  cs.length=P.cellsOf t∧∃n,fuel=n+1∧∀(i:Nat) (f:Field),fs[i]? =some f→∃y,DataW.trod enc P w 0 spare held n f.type ((cs.drop f.offset).take (P.cellsOf f.type))=some y:=by
 obtain⟨xs,n,rfl, -,h1,h2,h3⟩:=DataW.trod_struct ht h
 refine⟨h1,n,rfl,fun i f hf=> ?_⟩
 have hi:i<xs.length:=by
  rw[h2]
  exact(Array.getElem?_eq_some_iff.1 hf).1
 exact⟨xs[i],by rw[h3 i f hf,List.getElem?_eq_getElem hi]⟩
end
theorem KU {f:Func} {s:ChangeSpec} {H:Type} {enc:TypeId×Value→H} {P:Program} {apart fresh handsOn again:Bool} {W W':World} {args:Array Value} {v:Value} {ds gs:List (DataW H)} {before pa pv:List MemPlace}
  (hW:DataW.Whole enc P f.params.toList s.vars apart W args.toList ds gs before)
  (hres:∀(b:Nat) (sp:Nat→Bool) (hd:Bool),DataW.TrodAll enc P W' b sp hd f.resultTypes.toList (v.resultList f.resultTypes.size) (s.fn H (ds++gs)).results [])
  (hargs:∀sp:Nat→Bool,(∀p∈before,sp p.block=true)→DataW.TrodAll enc P W' 0 sp true f.params.toList args.toList (s.fn H (ds++gs)).args pa)
  (hvars:∀sp:Nat→Bool,(∀p∈before,sp p.block=true)→DataW.TrodVars enc P W' sp s.vars (s.fn H (ds++gs)).vars pv)
  (hps:before=pa++pv) (hB:Below W.heap.size W W')
  (hok:∀(j:Nat) (t:TypeId) (r:Value),f.resultTypes[j]? =some t→(v.resultList f.resultTypes.size)[j]? =some r→Value.okWide P W' .any 0 t r):
  s.post enc P f apart fresh handsOn again W args v W':=by
 have hlt:=hW.lt
 have hold:∀p∈before,(fun b=>decide (b<W.heap.size)) p.block=true:=fun p hp=>by simpa using hlt p hp
 refine⟨ds,gs,before,[],pa,pv,hW,hres _ _ _,hargs _ hold,hvars _ hold,World.keptBut_mono (fun p hp=>⟨hp,?_⟩) (hB.frame (· ∈before)),fun _=> ?_⟩
 ·rw[hps,List.mem_append] at hp
  exact Or.inr hp
 ·obtain⟨_,_,_,_,_,hz,hn⟩:=hW
  refine⟨hok,_,_,([]++pa)++pv,⟨[]++pa,pv,trodAll_append (hargs _ (fun _ _=>rfl)) (hres _ _ _),hvars _ (fun _ _=>rfl),rfl,?_,?_⟩,?_⟩
  ·intro b off hp
   have hb:(MemPlace.cell b off)∈before:=by rw[hps];simpa using hp
   have:=hlt _ hb
   rw[hB.frozen (p:=⟨b,off,none⟩) this]
   exact hz b off hb
  ·intro ha
   have:=hn ha
   rw[hps] at this
   simpa using this
  ·intro p hp _
   rw[hps]
   simpa using hp
theorem kA {P:Program} {w:World} {Cq:Nat} {t:TypeId} {v:Value} {fs:Array Field} (ht:P.underlying t=some (.struct fs)) (h:Value.okWide P w .any Cq t v):∃cs:List Value,v=.agg cs.toArray:=by
 unfold Value.okWide at h
 rw[ht] at h
 obtain⟨cs,rfl, -, -⟩:=h
 exact⟨cs.toList,by simp⟩
theorem bu {H:Type} {enc:TypeId×Value→H} {P:Program} {t:TypeId} {W W':World} {v:Value} {d:DataW H} {ps:List MemPlace} {sp:Nat→Bool} (h:DataW.Trod enc P W 0 (fun _=>true) true t v d ps) (hrow:t<P.types.size) (hr:P.readableRec t=true) (hl:laidOutB P=true)
  (hB:Below W.heap.size W W') (hlt:∀x∈ps,x.block<W.heap.size) (hsp:∀x∈ps,sp x.block=true):DataW.Trod enc P W' 0 sp true t v d ps:=
 WideElems.Trod_stays hl hr hrow h (fun x hx=>hB.same (hlt x hx)) hsp
