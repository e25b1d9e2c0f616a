/- Part 01. No condition. -/
import Derived.Test.YtdooklofebdknaaGreatProg
import Derived.JoinedTies
import Derived.KernelRfl
import Derived.Lib.Hide
import Derived.OpenShut
import Derived.ProofKit
import Derived.WalkKit
import GoSem.Claim
import GoSem.ClaimJoined
import GoSem.ClaimMapViews
namespace Go.Proofs.YtdooklofebdknaaGreat
open Go.RowKit Go.ChangeShapes Go.WideShapes Go.ChangeAt
set_option linter.unusedSimpArgs false
set_option linter.unusedVariables false
theorem AI {a b:Prop} (h:a) (k:b):a∧b:=⟨h,k⟩
theorem Y' {α:Type} {i:Nat} {l:List α} (h:i<l.length):l.take (i+1)=l.take i++[l[i]]:=List.take_succ_eq_append_getElem h
inductive D where
 |lf (v:Value)
 |st (fs:List D)
 |sl (es:List D)

def BL:Value→Prop
 | .int k n=>k.min≤n∧n≤k.max
 | .string s=>s.size≤maxLen
 | .bool _=>True
 |_=>False

mutual
def D.width:D→Nat
 | .lf _=>1
 | .sl _=>1
 | .st fs=>D.widths fs
def D.widths:List D→Nat
 |[]=>0
 |d::ds=>d.width+D.widths ds
end

def Cf (w:World) (b off:Nat) (cs:List Value):Prop:=∀(j:Nat) u,cs[j]? =some u→w.cell? ⟨b,off+j,none⟩=some u

mutual
def Rep (w:World) (K:Nat→Prop):D→List Value→Prop
 | .lf v,cs=>cs=[v]∧BL v
 | .st fs,cs=>B2 w K fs cs
 | .sl es,cs=>∃a cap,cs=[.slice a es.length cap]∧es.length≤cap∧cap≤maxLen∧(a=none→cap=0)∧
   (es=[]∨∃b off,a=some ⟨b,off,none⟩∧K b∧Dn w K es b off)
def B2 (w:World) (K:Nat→Prop):List D→List Value→Prop
 |[],cs=>cs=[]
 |d::ds,cs=>∃c1 c2,cs=c1++c2∧Rep w K d c1∧B2 w K ds c2
def Dn (w:World) (K:Nat→Prop):List D→Nat→Nat→Prop
 |[],_,_=>True
 |d::ds,b,off=>(∃cs,Cf w b off cs∧Rep w K d cs)∧Dn w K ds b (off+d.width)
end

theorem Cf.mono {w w':World} {b off:Nat} {cs:List Value} (h:w'.heap[b]? =w.heap[b]?) (hc:Cf w b off cs):Cf w' b off cs:=by
 intro j u hu
 rw[←hc j u hu]
 exact World.cell?_of_block (w:=w) (a:=⟨b,off+j,none⟩) h

mutual
theorem Rep.mono {w w':World} {K K':Nat→Prop} (hK:∀b,K b→K' b) (hw:∀b,K b→w'.heap[b]? =w.heap[b]?):∀(d:D) (cs:List Value),Rep w K d cs→Rep w' K' d cs
 | .lf v,cs,h=>by simpa only[Rep] using h
 | .st fs,cs,h=>by
  simp only[Rep] at h ⊢
  exact B2.mono hK hw fs cs h
 | .sl es,cs,h=>by
  simp only[Rep] at h ⊢
  obtain⟨a,cap,h1,h2,h3,h4,h5⟩:=h
  refine⟨a,cap,h1,h2,h3,h4,?_⟩
  rcases h5 with h5|⟨b,off,ha,hb,he⟩
  ·exact .inl h5
  ·exact .inr ⟨b,off,ha,hK b hb,Dn.mono hK hw hb es off he⟩
theorem B2.mono {w w':World} {K K':Nat→Prop} (hK:∀b,K b→K' b) (hw:∀b,K b→w'.heap[b]? =w.heap[b]?):∀(ds:List D) (cs:List Value),B2 w K ds cs→B2 w' K' ds cs
 |[],cs,h=>by simpa only[B2] using h
 |d::ds,cs,h=>by
  simp only[B2] at h ⊢
  obtain⟨c1,c2,e,h1,h2⟩:=h
  exact⟨c1,c2,e,Rep.mono hK hw d c1 h1,B2.mono hK hw ds c2 h2⟩
theorem Dn.mono {w w':World} {K K':Nat→Prop} (hK:∀b,K b→K' b) (hw:∀b,K b→w'.heap[b]? =w.heap[b]?) {b:Nat} (hb:K b):∀(ds:List D) (off:Nat),Dn w K ds b off→Dn w' K' ds b off
 |[],_,_=>trivial
 |d::ds,off,h=>by
  simp only[Dn] at h ⊢
  obtain⟨⟨cs,hc,hr⟩,h2⟩:=h
  exact⟨⟨cs,hc.mono (hw b hb),Rep.mono hK hw d cs hr⟩,Dn.mono hK hw hb ds _ h2⟩
end

mutual
theorem Rep.length {w:World} {K:Nat→Prop}:∀(d:D) (cs:List Value),Rep w K d cs→cs.length=d.width
 | .lf v,cs,h=>by
  simp only[Rep] at h
  rw[h.1];simp[D.width]
 | .st fs,cs,h=>by
  simp only[Rep] at h
  simp only[D.width]
  exact B2.length fs cs h
 | .sl es,cs,h=>by
  simp only[Rep] at h
  obtain⟨a,cap,h1, -⟩:=h
  rw[h1];simp[D.width]
theorem B2.length {w:World} {K:Nat→Prop}:∀(ds:List D) (cs:List Value),B2 w K ds cs→cs.length=D.widths ds
 |[],cs,h=>by
  simp only[B2] at h
  rw[h];simp[D.widths]
 |d::ds,cs,h=>by
  simp only[B2] at h
  obtain⟨c1,c2,e,h1,h2⟩:=h
  rw[e,List.length_append,Rep.length d c1 h1,B2.length ds c2 h2];simp[D.widths]
end

def CW (n:Int):D:=.lf (.int .i64 n)
def BG (s:ByteArray):D:=.lf (.string s)
def FK (b:Bool):D:=.lf (.bool b)
def InR (n:Int):Prop:=IntKind.i64.min≤n∧n≤IntKind.i64.max
theorem Oz (n:Int):(CW n).width=1:=by simp only[CW,D.width]
theorem Bs (n:ByteArray):(BG n).width=1:=by simp only[BG,D.width]
theorem Jh (n:Bool):(FK n).width=1:=by simp only[FK,D.width]

theorem lz {w:World} {K:Nat→Prop} {n:Int} (h:InR n):Rep w K (CW n) [.int .i64 n]:=by simp only[CW,Rep];exact⟨trivial,h⟩
theorem ly {w:World} {K:Nat→Prop} {s:ByteArray} (h:s.size≤maxLen):Rep w K (BG s) [.string s]:=by simp only[BG,Rep];exact⟨trivial,h⟩
theorem m0 {w:World} {K:Nat→Prop} (b:Bool):Rep w K (FK b) [.bool b]:=by simp only[FK,Rep];exact⟨trivial,trivial⟩

def szL {α:Type} (f:α→Nat):List α→Nat
 |[]=>0
 |x::l=>f x+szL f l
def szs {α:Type} (f:α→Nat) (l:List α):Nat:=l.length+szL f l
theorem Ah {α:Type} (f:α→Nat) {x:α}:∀{l:List α},x∈l→f x≤szL f l
 |y::l,h=>by
  simp only[szL]
  rcases List.mem_cons.1 h with rfl|h
  ·omega
  ·have:=Ah f h;omega
theorem Dn.get {w:World} {K:Nat→Prop} {s b:Nat}:∀(es:List D) (off:Nat),(∀d∈es,d.width=s)→Dn w K es b off→
  ∀(k:Nat) (d:D),es[k]? =some d→∃cs,Cf w b (off+k*s) cs∧Rep w K d cs
 |[],_,_,_,k,d,hd=>by simp at hd
 |e::es,off,hw,h,0,d,hd=>by
  simp only[List.getElem?_cons_zero,Option.some.injEq] at hd
  subst hd
  simp only[Dn] at h
  simpa using h.1
 |e::es,off,hw,h,k+1,d,hd=>by
  simp only[List.getElem?_cons_succ] at hd
  simp only[Dn] at h
  have he:=hw e (by simp)
  have:=Dn.get es (off+e.width) (fun d hd=>hw d (by simp[hd])) h.2 k d hd
  rw[he] at this
  rw[show off+(k+1)*s=off+s+k*s by rw[Nat.add_mul];omega]
  exact this

def ji (w:World) (b:Nat):Prop:=∃cur e,w.heap[b]? =some (.cells cur e (0,0))

mutual
def Own (w:World):D→List Value→List Nat→Prop
 | .lf v,cs,bs=>cs=[v]∧BL v∧bs=[]
 | .st fs,cs,bs=>GG w fs cs bs
 | .sl es,cs,bs=>∃a cap,cs=[.slice a es.length cap]∧es.length≤cap∧cap≤maxLen∧(a=none→cap=0)∧
   ((es=[]∧bs=[])∨∃b off r,a=some ⟨b,off,none⟩∧bs=b::r∧ji w b∧HH w es b off r)
def GG (w:World):List D→List Value→List Nat→Prop
 |[],cs,bs=>cs=[]∧bs=[]
 |d::ds,cs,bs=>∃c1 c2 b1 b2,cs=c1++c2∧bs=b1++b2∧Own w d c1 b1∧GG w ds c2 b2
def HH (w:World):List D→Nat→Nat→List Nat→Prop
 |[],_,_,bs=>bs=[]
 |d::ds,b,off,bs=>∃cs b1 b2,bs=b1++b2∧Cf w b off cs∧Own w d cs b1∧HH w ds b (off+d.width) b2
end

mutual
theorem Own.rep {w:World} {K:Nat→Prop}:∀(d:D) (cs:List Value) (bs:List Nat),Own w d cs bs→(∀b∈bs,K b)→Rep w K d cs
 | .lf v,cs,bs,h,_=>by
  simp only[Own] at h
  simp only[Rep]
  exact⟨h.1,h.2.1⟩
 | .st fs,cs,bs,h,hk=>by
  simp only[Own] at h
  simp only[Rep]
  exact GG.rep fs cs bs h hk
 | .sl es,cs,bs,h,hk=>by
  simp only[Own] at h
  obtain⟨a,cap,h1,h2,h3,h4,h5⟩:=h
  simp only[Rep]
  refine⟨a,cap,h1,h2,h3,h4,?_⟩
  rcases h5 with ⟨h5, -⟩|⟨b,off,r,ha,hb, -,he⟩
  ·exact .inl h5
  ·subst hb
   exact .inr ⟨b,off,ha,hk b (by simp),HH.rep es b off r he (fun x hx=>hk x (by simp[hx]))⟩
theorem GG.rep {w:World} {K:Nat→Prop}:∀(ds:List D) (cs:List Value) (bs:List Nat),GG w ds cs bs→(∀b∈bs,K b)→B2 w K ds cs
 |[],cs,bs,h,_=>by
  simp only[GG] at h
  simp only[B2]
  exact h.1
 |d::ds,cs,bs,h,hk=>by
  simp only[GG] at h
  obtain⟨c1,c2,b1,b2,h1,h2,h3,h4⟩:=h
  subst h2
  simp only[B2]
  exact⟨c1,c2,h1,Own.rep d c1 b1 h3 (fun b hb=>hk b (by simp[hb])),GG.rep ds c2 b2 h4 (fun b hb=>hk b (by simp[hb]))⟩
theorem HH.rep {w:World} {K:Nat→Prop}:∀(ds:List D) (b off:Nat) (bs:List Nat),HH w ds b off bs→(∀b∈bs,K b)→Dn w K ds b off
 |[],_,_,_,_,_=>trivial
 |d::ds,b,off,bs,h,hk=>by
  simp only[HH] at h
  obtain⟨cs,b1,b2,h1,h2,h3,h4⟩:=h
  subst h1
  simp only[Dn]
  exact⟨⟨cs,h2,Own.rep d cs b1 h3 (fun b hb=>hk b (by simp[hb]))⟩,HH.rep ds b _ b2 h4 (fun b hb=>hk b (by simp[hb]))⟩
end

mutual
theorem Own.keep {w w':World}:∀(d:D) (cs:List Value) (bs:List Nat),Own w d cs bs→(∀b∈bs,w'.heap[b]? =w.heap[b]?)→Own w' d cs bs
 | .lf v,cs,bs,h,_=>by
  simp only[Own] at h ⊢
  exact h
 | .st fs,cs,bs,h,hk=>by
  simp only[Own] at h ⊢
  exact GG.keep fs cs bs h hk
 | .sl es,cs,bs,h,hk=>by
  simp only[Own] at h ⊢
  obtain⟨a,cap,h1,h2,h3,h4,h5⟩:=h
  refine⟨a,cap,h1,h2,h3,h4,?_⟩
  rcases h5 with h5|⟨b,off,r,ha,hb,⟨cur,e,hf⟩,he⟩
  ·exact .inl h5
  ·subst hb
   have e1:=hk b (by simp)
   exact .inr ⟨b,off,r,ha,rfl,⟨cur,e,e1.trans hf⟩,HH.keep es b off r he (fun o _=>World.cell?_of_block (w:=w) (a:=⟨b,o,none⟩) e1) (fun x hx=>hk x (by simp[hx]))⟩
theorem GG.keep {w w':World}:∀(ds:List D) (cs:List Value) (bs:List Nat),GG w ds cs bs→(∀b∈bs,w'.heap[b]? =w.heap[b]?)→GG w' ds cs bs
 |[],cs,bs,h,_=>by
  simp only[GG] at h ⊢
  exact h
 |d::ds,cs,bs,h,hk=>by
  simp only[GG] at h ⊢
  obtain⟨c1,c2,b1,b2,h1,h2,h3,h4⟩:=h
  subst h2
  exact⟨c1,c2,b1,b2,h1,rfl,Own.keep d c1 b1 h3 (fun b hb=>hk b (by simp[hb])),GG.keep ds c2 b2 h4 (fun b hb=>hk b (by simp[hb]))⟩
theorem HH.keep {w w':World}:∀(ds:List D) (b off:Nat) (bs:List Nat),HH w ds b off bs→(∀o,o<off+D.widths ds→w'.cell? ⟨b,o,none⟩=w.cell? ⟨b,o,none⟩)→(∀b∈bs,w'.heap[b]? =w.heap[b]?)→HH w' ds b off bs
 |[],_,_,_,h,_,_=>by
  simp only[HH] at h ⊢
  exact h
 |d::ds,b,off,bs,h,hc,hk=>by
  simp only[HH] at h ⊢
  simp only[D.widths] at hc
  obtain⟨cs,b1,b2,h1,h2,h3,h4⟩:=h
  subst h1
  have hl:=Rep.length (K:=fun _=>True) d cs (Own.rep d cs b1 h3 (fun _ _=>trivial))
  refine⟨cs,b1,b2,rfl,?_,Own.keep d cs b1 h3 (fun b hb=>hk b (by simp[hb])),HH.keep ds b _ b2 h4 (fun o ho=>hc o (by omega)) (fun b hb=>hk b (by simp[hb]))⟩
  intro j u hu
  have hj:=(List.getElem?_eq_some_iff.1 hu).1
  rw[hc _ (by omega)]
  exact h2 j u hu
end

mutual
theorem Rep.one {w:World} {K:Nat→Prop}:∀(d:D) (cs:List Value),Rep w K d cs→∀u∈cs,u.oneCell'=true
 | .lf v,cs,h=>by
  simp only[Rep] at h
  obtain⟨rfl,h⟩:=h
  intro u hu
  simp only[List.mem_singleton] at hu
  subst hu
  cases u<;>first|rfl|exact h.elim
 | .st fs,cs,h=>by
  simp only[Rep] at h
  exact B2.one fs cs h
 | .sl es,cs,h=>by
  simp only[Rep] at h
  obtain⟨a,cap,rfl, -⟩:=h
  intro u hu
  simp only[List.mem_singleton] at hu
  subst hu
  rfl
theorem B2.one {w:World} {K:Nat→Prop}:∀(ds:List D) (cs:List Value),B2 w K ds cs→∀u∈cs,u.oneCell'=true
 |[],cs,h=>by
  simp only[B2] at h
  subst h
  intro u hu
  simp at hu
 |d::ds,cs,h=>by
  simp only[B2] at h
  obtain⟨c1,c2,rfl,h1,h2⟩:=h
  intro u hu
  rcases List.mem_append.1 hu with hu|hu
  ·exact Rep.one d c1 h1 u hu
  ·exact B2.one ds c2 h2 u hu
end
structure na (w w':World) (g off:Nat) (cs:List Value):Prop where
 os:w'.os=w.os
 tape:w'.tape=w.tape
 output:w'.output=w.output
 size:w'.heap.size=w.heap.size
 other:∀b,b≠g→w'.heap[b]? =w.heap[b]?
 Co:ji w' g
 shape:w'.shape? g=w.shape? g
 at_:Cf w' g off cs
 lo:∀o,o<off→w'.cell? ⟨g,o,none⟩=w.cell? ⟨g,o,none⟩
 hi:∀o,off+cs.length≤o→w'.cell? ⟨g,o,none⟩=w.cell? ⟨g,o,none⟩

def bT (w:World) (g E N:Nat):Prop:=∃cur,w.heap[g]? =some (.cells cur E (0,0))∧cur.size=N
theorem bT.lt {w:World} {g E N:Nat} (h:bT w g E N):g<w.heap.size:=by
 obtain⟨cur,h1, -⟩:=h
 exact(Array.getElem?_eq_some_iff.1 h1).1
structure Up (g:Nat) (w w':World):Prop where
 size:w.heap.size≤w'.heap.size
 block:∀b,g<b→b<w.heap.size→w'.heap[b]? =w.heap[b]?
theorem Up.refl (g:Nat) (w:World):Up g w w:=⟨Nat.le_refl _,fun _ _ _=>rfl⟩
theorem Up.own {g:Nat} {w w':World} (h:Up g w w') {d:D} {cs:List Value} {bs:List Nat} {lo:Nat} (o:Own w d cs bs) (r:∀b∈bs,lo≤b∧b<w.heap.size) (hlo:g<lo):Own w' d cs bs:=
 Own.keep _ _ _ o (fun b hb=>h.block b (by have:=(r b hb).1;omega) (r b hb).2)
theorem fJ {s t:ByteArray} (h:s.toList=t.toList):s=t:=by
 rw[Go.ByteArray.toList_eq,Go.ByteArray.toList_eq] at h
 cases s;cases t;simp at h;rw[h]
theorem jU {B:Nat} {W w1:World} (hb:Below B W w1):(∀b o,b<B→w1.cell? ⟨b,o,none⟩=W.cell? ⟨b,o,none⟩)∧(∀b o,b<B→w1.frozen? ⟨b,o,none⟩=W.frozen? ⟨b,o,none⟩):=
 ⟨fun b o h=>hb.cell (p:=⟨b,o,none⟩) h,fun b o h=>hb.frozen (p:=⟨b,o,none⟩) h⟩
structure Put (w w':World) (g:Nat) (arr:Array Value) (t:TypeId):Prop where
 os:w'.os=w.os
 tape:w'.tape=w.tape
 output:w'.output=w.output
 size:w'.heap.size=w.heap.size
 other:∀b,b≠g→w'.heap[b]? =w.heap[b]?
 row:w'.heap[g]? =some (.cells arr t (0,0))
theorem Up.put {g g':Nat} {w w' w'':World} {arr:Array Value} {t:TypeId} (h:Up g w w') (hp:Put w' w'' g' arr t) (hg:g'≤g):Up g w w'':=
 ⟨by rw[hp.size];exact h.size,fun b hb hl=>by rw[hp.other b (by omega)];exact h.block b hb hl⟩
theorem Jy {w:World} {o:Obj} {b:Nat} (hb:b=w.heap.size):(w.alloc o).heap[b]? =some o:=by
 subst hb
 show(w.heap.push o)[w.heap.size]? =some o
 simp
theorem ld {P:Program} {w:World} {ops:Array Oper} {rest:List Oper} {o:Oper} {a:Act} {Q:Exit→Act→World→Prop} (hg:o.guard=none) (ty:TypeId) (x:Operand) (ho:o.op=.load ty x)
  (b off:Nat) (hx:a.eval x=.pointer (some ⟨b,off,none⟩)) (cs:List Value) (hc:Cf w b off cs) (fs:Array Field) (hu:P.underlying ty=some (.struct fs)) (hi:(P.info? ty).map (·.size)=some cs.length)
  (h:wpList P ops Q rest (a.put o.dst (.agg cs.toArray)) w):wpList P ops Q (o::rest) a w:=by
 refine wpList_plain hg fun K hK=> ?_
 have hl:(loadCells ⟨b,off,none⟩ cs.length).run P w=.ok cs.toArray w:=by
  refine run_loadCells_list (P:=P) w ⟨b,off,none⟩ cs (fun j v hv=> ?_)
  rw[Addr.add_lit]
  exact hc j v hv
 cases hq:P.info? ty with
 |none=>simp[hq] at hi
 |some i=>
  have hs:i.size=cs.length:=by simpa[hq] using hi
  have hagg:(isAgg ty).run P w=.ok true w:=by
   unfold isAgg
   rw[Sem.run_bind,run_underlying hu w]
   simp
  have hv:(loadVar ty ⟨b,off,none⟩).run P w=.ok (.agg cs.toArray) w:=by
   simp[loadVar,Sem.run_bind,hagg,sizeOf,typeInfo,hq,hs,hl]
  unfold Oper.wp execOp
  simp only[ho,hx,Instr.loadAt,Instr.sureAddr,Sem.run_bind,Sem.run_pure,Result.andThen_ok,hv]
  exact hK _ _ h
structure AP where
 H6:Int
 BI:Int
 AH:ByteArray
 A6:ByteArray
def AP.enc (x:AP):D:=.st [(CW x.H6),(CW x.BI),(BG x.AH),(BG x.A6)]
theorem AP.enc_eq (x:AP):x.enc=.st [(CW x.H6),(CW x.BI),(BG x.AH),(BG x.A6)]:=rfl
def AP.sz (x:AP):Nat:=ByteArray.size x.AH+ByteArray.size x.A6
theorem AP.sz_eq (x:AP):x.sz=ByteArray.size x.AH+ByteArray.size x.A6:=rfl
theorem AP.width (x:AP):x.enc.width=4:=by
 rw[AP.enc_eq];simp only[D.width,D.widths,CW,BG]
structure A3 where
 BI:Int
 fAt:Int
def A3.enc (x:A3):D:=.st [(CW x.BI),(CW x.fAt)]
theorem A3.enc_eq (x:A3):x.enc=.st [(CW x.BI),(CW x.fAt)]:=rfl
theorem A3.width (x:A3):x.enc.width=2:=by
 rw[A3.enc_eq];simp only[D.width,D.widths,CW]
structure AR where
 H6:Int
 fAt:A3
def AR.enc (x:AR):D:=.st [(CW x.H6),(A3.enc x.fAt)]
theorem AR.enc_eq (x:AR):x.enc=.st [(CW x.H6),(A3.enc x.fAt)]:=rfl
theorem AR.width (x:AR):x.enc.width=3:=by
 rw[AR.enc_eq];simp only[D.width,D.widths,CW,A3.width]
structure A7 where
 AH:Int
 fN:Int
 fAt:A3
 AB:List A7
mutual
def A7.enc:A7→D
 |⟨AH,fN,fAt,AB⟩=> .st [(CW AH),(CW fN),(A3.enc fAt),(.sl (A7.encL AB))]
def A7.encL:List A7→List D
 |[]=>[]
 |x::l=>A7.enc x::A7.encL l
end
mutual
def A7.sz:A7→Nat
 |⟨_,_,_,AB⟩=>(AB.length+A7.szLs AB)
def A7.szLs:List A7→Nat
 |[]=>0
 |x::l=>A7.sz x+A7.szLs l
end
theorem A7.encL_eq:∀l:List A7,A7.encL l=l.map A7.enc
 |[]=>rfl
 |x::l=>by simp only[A7.encL,List.map_cons,A7.encL_eq l]
theorem A7.szLs_eq:∀l:List A7,A7.szLs l=szL A7.sz l
 |[]=>rfl
 |x::l=>by simp only[A7.szLs,szL,A7.szLs_eq l]
theorem A7.lt_fArgs (x:A7):SizeOf.sizeOf x.AB<SizeOf.sizeOf x:=by
 cases x;simp;omega
theorem A7.enc_eq (x:A7):x.enc=.st [(CW x.AH),(CW x.fN),(A3.enc x.fAt),(.sl (x.AB.map A7.enc))]:=by
 cases x;simp only[A7.enc,A7.encL_eq]
theorem A7.sz_eq (x:A7):x.sz=szs A7.sz x.AB:=by
 cases x;simp only[A7.sz,szs,A7.szLs_eq]
theorem A7.width (x:A7):x.enc.width=5:=by
 rw[A7.enc_eq];simp only[D.width,D.widths,CW,A3.width]
structure BH where
 Kq:ByteArray
 Jb:List BH
mutual
def BH.enc:BH→D
 |⟨Kq,Jb⟩=> .st [(BG Kq),(.sl (BH.encL Jb))]
def BH.encL:List BH→List D
 |[]=>[]
 |x::l=>BH.enc x::BH.encL l
end
mutual
def BH.sz:BH→Nat
 |⟨Kq,Jb⟩=>ByteArray.size Kq+(Jb.length+BH.szLs Jb)
def BH.szLs:List BH→Nat
 |[]=>0
 |x::l=>BH.sz x+BH.szLs l
end
theorem BH.encL_eq:∀l:List BH,BH.encL l=l.map BH.enc
 |[]=>rfl
 |x::l=>by simp only[BH.encL,List.map_cons,BH.encL_eq l]
theorem BH.szLs_eq:∀l:List BH,BH.szLs l=szL BH.sz l
 |[]=>rfl
 |x::l=>by simp only[BH.szLs,szL,BH.szLs_eq l]
theorem BH.enc_eq (x:BH):x.enc=.st [(BG x.Kq),(.sl (x.Jb.map BH.enc))]:=by
 cases x;simp only[BH.enc,BH.encL_eq]
theorem BH.sz_eq (x:BH):x.sz=ByteArray.size x.Kq+szs BH.sz x.Jb:=by
 cases x;simp only[BH.sz,szs,BH.szLs_eq]
theorem BH.width (x:BH):x.enc.width=2:=by
 rw[BH.enc_eq];simp only[D.width,D.widths,BG]
structure A0 where
 AH:Int
 A6:ByteArray
 AB:List A0
mutual
def A0.enc:A0→D
 |⟨AH,A6,AB⟩=> .st [(CW AH),(BG A6),(.sl (A0.encL AB))]
def A0.encL:List A0→List D
 |[]=>[]
 |x::l=>A0.enc x::A0.encL l
end
mutual
def A0.sz:A0→Nat
 |⟨_,A6,AB⟩=>ByteArray.size A6+(AB.length+A0.szLs AB)
def A0.szLs:List A0→Nat
 |[]=>0
 |x::l=>A0.sz x+A0.szLs l
end
theorem A0.encL_eq:∀l:List A0,A0.encL l=l.map A0.enc
 |[]=>rfl
 |x::l=>by simp only[A0.encL,List.map_cons,A0.encL_eq l]
theorem A0.szLs_eq:∀l:List A0,A0.szLs l=szL A0.sz l
 |[]=>rfl
 |x::l=>by simp only[A0.szLs,szL,A0.szLs_eq l]
theorem A0.lt_fArgs (x:A0):SizeOf.sizeOf x.AB<SizeOf.sizeOf x:=by
 cases x;simp;omega
theorem A0.enc_eq (x:A0):x.enc=.st [(CW x.AH),(BG x.A6),(.sl (x.AB.map A0.enc))]:=by
 cases x;simp only[A0.enc,A0.encL_eq]
theorem A0.sz_eq (x:A0):x.sz=ByteArray.size x.A6+szs A0.sz x.AB:=by
 cases x;simp only[A0.sz,szs,A0.szLs_eq]
theorem A0.width (x:A0):x.enc.width=3:=by
 rw[A0.enc_eq];simp only[D.width,D.widths,CW,BG]
mutual
structure Ab where
 AY:ByteArray
 AZ:List ByteArray
 Aa:AG
structure AG where
 AH:Int
 AK:ByteArray
 A6:ByteArray
 fN:Int
 AM:A0
 AB:List AG
 Ad:List Ab
end
mutual
def Ab.enc:Ab→D
 |⟨AY,AZ,Aa⟩=> .st [(BG AY),(.sl (AZ.map BG)),(AG.enc Aa)]
def AG.enc:AG→D
 |⟨AH,AK,A6,fN,AM,AB,Ad⟩=> .st [(CW AH),(BG AK),(BG A6),(CW fN),(A0.enc AM),(.sl (AG.encL AB)),(.sl (Ab.encL Ad))]
def Ab.encL:List Ab→List D
 |[]=>[]
 |x::l=>Ab.enc x::Ab.encL l
def AG.encL:List AG→List D
 |[]=>[]
 |x::l=>AG.enc x::AG.encL l
end
mutual
def Ab.sz:Ab→Nat
 |⟨AY,AZ,Aa⟩=>ByteArray.size AY+szs ByteArray.size AZ+AG.sz Aa
def AG.sz:AG→Nat
 |⟨_,AK,A6,_,AM,AB,Ad⟩=>ByteArray.size AK+ByteArray.size A6+A0.sz AM+(AB.length+AG.szLs AB)+(Ad.length+Ab.szLs Ad)
def Ab.szLs:List Ab→Nat
 |[]=>0
 |x::l=>Ab.sz x+Ab.szLs l
def AG.szLs:List AG→Nat
 |[]=>0
 |x::l=>AG.sz x+AG.szLs l
end
theorem Ab.encL_eq:∀l:List Ab,Ab.encL l=l.map Ab.enc
 |[]=>rfl
 |x::l=>by simp only[Ab.encL,List.map_cons,Ab.encL_eq l]
theorem Ab.szLs_eq:∀l:List Ab,Ab.szLs l=szL Ab.sz l
 |[]=>rfl
 |x::l=>by simp only[Ab.szLs,szL,Ab.szLs_eq l]
theorem AG.encL_eq:∀l:List AG,AG.encL l=l.map AG.enc
 |[]=>rfl
 |x::l=>by simp only[AG.encL,List.map_cons,AG.encL_eq l]
theorem AG.szLs_eq:∀l:List AG,AG.szLs l=szL AG.sz l
 |[]=>rfl
 |x::l=>by simp only[AG.szLs,szL,AG.szLs_eq l]
theorem Ab.lt_fBody (x:Ab):SizeOf.sizeOf x.Aa<SizeOf.sizeOf x:=by
 cases x;simp;omega
theorem AG.lt_fArgs (x:AG):SizeOf.sizeOf x.AB<SizeOf.sizeOf x:=by
 cases x;simp;omega
theorem AG.lt_fArms (x:AG):SizeOf.sizeOf x.Ad<SizeOf.sizeOf x:=by
 cases x;simp;omega
theorem Ab.enc_eq (x:Ab):x.enc=.st [(BG x.AY),(.sl (x.AZ.map BG)),(AG.enc x.Aa)]:=by
 cases x;simp only[Ab.enc]
theorem Ab.sz_eq (x:Ab):x.sz=ByteArray.size x.AY+szs ByteArray.size x.AZ+AG.sz x.Aa:=by
 cases x;simp only[Ab.sz,szs]
theorem AG.enc_eq (x:AG):x.enc=.st [(CW x.AH),(BG x.AK),(BG x.A6),(CW x.fN),(A0.enc x.AM),(.sl (x.AB.map AG.enc)),(.sl (x.Ad.map Ab.enc))]:=by
 cases x;simp only[AG.enc,Ab.encL_eq,AG.encL_eq]
theorem AG.sz_eq (x:AG):x.sz=ByteArray.size x.AK+ByteArray.size x.A6+A0.sz x.AM+szs AG.sz x.AB+szs Ab.sz x.Ad:=by
 cases x;simp only[AG.sz,szs,Ab.szLs_eq,AG.szLs_eq]
theorem AG.width (x:AG):x.enc.width=9:=by
 rw[AG.enc_eq];simp only[D.width,D.widths,CW,BG,A0.width]
theorem Ab.width (x:Ab):x.enc.width=11:=by
 rw[Ab.enc_eq];simp only[D.width,D.widths,BG,AG.width]
structure A5 where
 Fj:ByteArray
 AM:A0
def A5.enc (x:A5):D:=.st [(BG x.Fj),(A0.enc x.AM)]
theorem A5.enc_eq (x:A5):x.enc=.st [(BG x.Fj),(A0.enc x.AM)]:=rfl
def A5.sz (x:A5):Nat:=ByteArray.size x.Fj+A0.sz x.AM
theorem A5.sz_eq (x:A5):x.sz=ByteArray.size x.Fj+A0.sz x.AM:=rfl
theorem A5.width (x:A5):x.enc.width=4:=by
 rw[A5.enc_eq];simp only[D.width,D.widths,BG,A0.width]
structure A9 where
 AK:ByteArray
 AM:A0
def A9.enc (x:A9):D:=.st [(BG x.AK),(A0.enc x.AM)]
theorem A9.enc_eq (x:A9):x.enc=.st [(BG x.AK),(A0.enc x.AM)]:=rfl
def A9.sz (x:A9):Nat:=ByteArray.size x.AK+A0.sz x.AM
theorem A9.sz_eq (x:A9):x.sz=ByteArray.size x.AK+A0.sz x.AM:=rfl
theorem A9.width (x:A9):x.enc.width=4:=by
 rw[A9.enc_eq];simp only[D.width,D.widths,BG,A0.width]
structure AD where
 DS:A9
 Es:Int
 DX:List Int
def AD.enc (x:AD):D:=.st [(A9.enc x.DS),(CW x.Es),(.sl (x.DX.map CW))]
theorem AD.enc_eq (x:AD):x.enc=.st [(A9.enc x.DS),(CW x.Es),(.sl (x.DX.map CW))]:=rfl
def AD.sz (x:AD):Nat:=A9.sz x.DS+szs (fun _=>0) x.DX
theorem AD.sz_eq (x:AD):x.sz=A9.sz x.DS+szs (fun _=>0) x.DX:=rfl
theorem AD.width (x:AD):x.enc.width=6:=by
 rw[AD.enc_eq];simp only[D.width,D.widths,CW,A9.width]
structure AA where
 A6:ByteArray
 At:List A0
def AA.enc (x:AA):D:=.st [(BG x.A6),(.sl (x.At.map A0.enc))]
theorem AA.enc_eq (x:AA):x.enc=.st [(BG x.A6),(.sl (x.At.map A0.enc))]:=rfl
def AA.sz (x:AA):Nat:=ByteArray.size x.A6+szs A0.sz x.At
theorem AA.sz_eq (x:AA):x.sz=ByteArray.size x.A6+szs A0.sz x.At:=rfl
theorem AA.width (x:AA):x.enc.width=2:=by
 rw[AA.enc_eq];simp only[D.width,D.widths,BG]
structure AF where
 A6:ByteArray
 AZ:List ByteArray
 A4:List AA
def AF.enc (x:AF):D:=.st [(BG x.A6),(.sl (x.AZ.map BG)),(.sl (x.A4.map AA.enc))]
theorem AF.enc_eq (x:AF):x.enc=.st [(BG x.A6),(.sl (x.AZ.map BG)),(.sl (x.A4.map AA.enc))]:=rfl
def AF.sz (x:AF):Nat:=ByteArray.size x.A6+szs ByteArray.size x.AZ+szs AA.sz x.A4
theorem AF.sz_eq (x:AF):x.sz=ByteArray.size x.A6+szs ByteArray.size x.AZ+szs AA.sz x.A4:=rfl
theorem AF.width (x:AF):x.enc.width=3:=by
 rw[AF.enc_eq];simp only[D.width,D.widths,BG]
structure AX where
 A6:ByteArray
 AZ:List ByteArray
 Aa:AG
def AX.enc (x:AX):D:=.st [(BG x.A6),(.sl (x.AZ.map BG)),(AG.enc x.Aa)]
theorem AX.enc_eq (x:AX):x.enc=.st [(BG x.A6),(.sl (x.AZ.map BG)),(AG.enc x.Aa)]:=rfl
def AX.sz (x:AX):Nat:=ByteArray.size x.A6+szs ByteArray.size x.AZ+AG.sz x.Aa
theorem AX.sz_eq (x:AX):x.sz=ByteArray.size x.A6+szs ByteArray.size x.AZ+AG.sz x.Aa:=rfl
theorem AX.width (x:AX):x.enc.width=11:=by
 rw[AX.enc_eq];simp only[D.width,D.widths,BG,AG.width]
structure AJ where
 AK:ByteArray
 AZ:List ByteArray
 Ar:A0
 Af:List A9
 CY:Bool
 BS:Bool
 B3:A0
 Ap:List AX
def AJ.enc (x:AJ):D:=.st [(BG x.AK),(.sl (x.AZ.map BG)),(A0.enc x.Ar),(.sl (x.Af.map A9.enc)),(FK x.CY),(FK x.BS),(A0.enc x.B3),(.sl (x.Ap.map AX.enc))]
theorem AJ.enc_eq (x:AJ):x.enc=.st [(BG x.AK),(.sl (x.AZ.map BG)),(A0.enc x.Ar),(.sl (x.Af.map A9.enc)),(FK x.CY),(FK x.BS),(A0.enc x.B3),(.sl (x.Ap.map AX.enc))]:=rfl
def AJ.sz (x:AJ):Nat:=ByteArray.size x.AK+szs ByteArray.size x.AZ+A0.sz x.Ar+szs A9.sz x.Af+A0.sz x.B3+szs AX.sz x.Ap
theorem AJ.sz_eq (x:AJ):x.sz=ByteArray.size x.AK+szs ByteArray.size x.AZ+A0.sz x.Ar+szs A9.sz x.Af+A0.sz x.B3+szs AX.sz x.Ap:=rfl
theorem AJ.width (x:AJ):x.enc.width=12:=by
 rw[AJ.enc_eq];simp only[D.width,D.widths,BG,FK,A0.width]
structure AW where
 A6:ByteArray
 AM:A0
def AW.enc (x:AW):D:=.st [(BG x.A6),(A0.enc x.AM)]
theorem AW.enc_eq (x:AW):x.enc=.st [(BG x.A6),(A0.enc x.AM)]:=rfl
def AW.sz (x:AW):Nat:=ByteArray.size x.A6+A0.sz x.AM
theorem AW.sz_eq (x:AW):x.sz=ByteArray.size x.A6+A0.sz x.AM:=rfl
theorem AW.width (x:AW):x.enc.width=4:=by
 rw[AW.enc_eq];simp only[D.width,D.widths,BG,A0.width]
structure AL where
 A6:ByteArray
 AZ:List ByteArray
 Af:List A9
 Al:List AW
 B8:A0
 Aa:AG
def AL.enc (x:AL):D:=.st [(BG x.A6),(.sl (x.AZ.map BG)),(.sl (x.Af.map A9.enc)),(.sl (x.Al.map AW.enc)),(A0.enc x.B8),(AG.enc x.Aa)]
theorem AL.enc_eq (x:AL):x.enc=.st [(BG x.A6),(.sl (x.AZ.map BG)),(.sl (x.Af.map A9.enc)),(.sl (x.Al.map AW.enc)),(A0.enc x.B8),(AG.enc x.Aa)]:=rfl
def AL.sz (x:AL):Nat:=ByteArray.size x.A6+szs ByteArray.size x.AZ+szs A9.sz x.Af+szs AW.sz x.Al+A0.sz x.B8+AG.sz x.Aa
theorem AL.sz_eq (x:AL):x.sz=ByteArray.size x.A6+szs ByteArray.size x.AZ+szs A9.sz x.Af+szs AW.sz x.Al+A0.sz x.B8+AG.sz x.Aa:=rfl
theorem AL.width (x:AL):x.enc.width=16:=by
 rw[AL.enc_eq];simp only[D.width,D.widths,BG,AG.width,A0.width]
structure AC where
 A6:ByteArray
 Al:List A0
 B8:A0
 BR:Bool
 AZ:List ByteArray
 Aa:AG
def AC.enc (x:AC):D:=.st [(BG x.A6),(.sl (x.Al.map A0.enc)),(A0.enc x.B8),(FK x.BR),(.sl (x.AZ.map BG)),(AG.enc x.Aa)]
theorem AC.enc_eq (x:AC):x.enc=.st [(BG x.A6),(.sl (x.Al.map A0.enc)),(A0.enc x.B8),(FK x.BR),(.sl (x.AZ.map BG)),(AG.enc x.Aa)]:=rfl
def AC.sz (x:AC):Nat:=ByteArray.size x.A6+szs A0.sz x.Al+A0.sz x.B8+szs ByteArray.size x.AZ+AG.sz x.Aa
theorem AC.sz_eq (x:AC):x.sz=ByteArray.size x.A6+szs A0.sz x.Al+A0.sz x.B8+szs ByteArray.size x.AZ+AG.sz x.Aa:=rfl
theorem AC.width (x:AC):x.enc.width=16:=by
 rw[AC.enc_eq];simp only[D.width,D.widths,BG,FK,AG.width,A0.width]
structure AS where
 A6:ByteArray
 Ao:List ByteArray
 CP:Bool
 B3:Bool
 AU:List AC
def AS.enc (x:AS):D:=.st [(BG x.A6),(.sl (x.Ao.map BG)),(FK x.CP),(FK x.B3),(.sl (x.AU.map AC.enc))]
theorem AS.enc_eq (x:AS):x.enc=.st [(BG x.A6),(.sl (x.Ao.map BG)),(FK x.CP),(FK x.B3),(.sl (x.AU.map AC.enc))]:=rfl
def AS.sz (x:AS):Nat:=ByteArray.size x.A6+szs ByteArray.size x.Ao+szs AC.sz x.AU
theorem AS.sz_eq (x:AS):x.sz=ByteArray.size x.A6+szs ByteArray.size x.Ao+szs AC.sz x.AU:=rfl
theorem AS.width (x:AS):x.enc.width=5:=by
 rw[AS.enc_eq];simp only[D.width,D.widths,BG,FK]
structure A8 where
 A6:ByteArray
 BZ:List ByteArray
 Ai:List AS
 AE:List AF
 AO:List AJ
 Ac:List AL
def A8.enc (x:A8):D:=.st [(BG x.A6),(.sl (x.BZ.map BG)),(.sl (x.Ai.map AS.enc)),(.sl (x.AE.map AF.enc)),(.sl (x.AO.map AJ.enc)),(.sl (x.Ac.map AL.enc))]
theorem A8.enc_eq (x:A8):x.enc=.st [(BG x.A6),(.sl (x.BZ.map BG)),(.sl (x.Ai.map AS.enc)),(.sl (x.AE.map AF.enc)),(.sl (x.AO.map AJ.enc)),(.sl (x.Ac.map AL.enc))]:=rfl
def A8.sz (x:A8):Nat:=ByteArray.size x.A6+szs ByteArray.size x.BZ+szs AS.sz x.Ai+szs AF.sz x.AE+szs AJ.sz x.AO+szs AL.sz x.Ac
theorem A8.sz_eq (x:A8):x.sz=ByteArray.size x.A6+szs ByteArray.size x.BZ+szs AS.sz x.Ai+szs AF.sz x.AE+szs AJ.sz x.AO+szs AL.sz x.Ac:=rfl
theorem A8.width (x:A8):x.enc.width=6:=by
 rw[A8.enc_eq];simp only[D.width,D.widths,BG]
structure A1 where
 A2:List A8
def A1.enc (x:A1):D:=.st [(.sl (x.A2.map A8.enc))]
theorem A1.enc_eq (x:A1):x.enc=.st [(.sl (x.A2.map A8.enc))]:=rfl
def A1.sz (x:A1):Nat:=szs A8.sz x.A2
theorem A1.sz_eq (x:A1):x.sz=szs A8.sz x.A2:=rfl
theorem A1.width (x:A1):x.enc.width=1:=by
 rw[A1.enc_eq];simp only[D.width,D.widths]
section
variable {H:Type} {enc:TypeId×Value→H} {P:Program} {w:World} {spare:Nat→Bool} {held:Bool} {t:TypeId} {fuel:Nat} {cs:List Value} {x:DataW H×List MemPlace}
abbrev Di (w:World):Nat→Prop:=fun b=>b<w.heap.size
theorem Dn.put {K:Nat→Prop} {s b:Nat}:∀(es:List D) (off:Nat),(∀d∈es,d.width=s)→(∀(k:Nat) (d:D),es[k]? =some d→∃cs,Cf w b (off+k*s) cs∧Rep w K d cs)→Dn w K es b off
 |[],_,_,_=>by simp only[Dn]
 |e::es,off,hw,h=>by
  simp only[Dn]
  refine⟨?_,?_⟩
  ·have:=h 0 e (by simp)
   simpa using this
  ·have he:=hw e (by simp)
   refine Dn.put es _ (fun d hd=>hw d (by simp[hd])) (fun k d hd=> ?_)
   have:=h (k+1) d (by simpa using hd)
   rw[he,show off+s+k*s=off+(k+1)*s by rw[Nat.add_mul];omega]
   exact this
theorem QX {α:Type} {Q:Nat→α→Prop}:∀n:Nat,(∀i,i<n→∃y,Q i y)→∃l:List α,l.length=n∧∀i (h:i<l.length),Q i l[i]
 |0,_=>⟨[],rfl,fun i h=>absurd h (Nat.not_lt_zero _)⟩
 |n+1,h=>by
  obtain⟨l,hl,hq⟩:=QX n (fun i hi=>h i (by omega))
  obtain⟨y,hy⟩:=h n (by omega)
  refine⟨l++[y],by simp[hl],fun i hi=> ?_⟩
  by_cases hin:i<l.length
  ·rw[List.getElem_append_left hin];exact hq i hin
  ·have hi':i=l.length:=by simp at hi;omega
   subst hi'
   simp only[List.getElem_concat_length]
   rw[hl];exact hy
theorem Oh (ht:P.underlying t=some (.int .i64)) (h:DataW.trod enc P w 0 spare held fuel t cs=some x):∃n,Rep w (Di w) (CW n) cs:=by
 obtain⟨n,rfl, -,hw⟩:=DataW.trod_int ht h
 refine⟨n,lz ?_⟩
 simpa[Lit.wf,InR] using hw
theorem Br (ht:P.underlying t=some .string) (h:DataW.trod enc P w 0 spare held fuel t cs=some x):∃s,Rep w (Di w) (BG s) cs:=by
 obtain⟨s,rfl, -,hw⟩:=DataW.trod_string ht h
 exact⟨s,ly hw⟩
theorem J9 (ht:P.underlying t=some .bool) (h:DataW.trod enc P w 0 spare held fuel t cs=some x):∃b,Rep w (Di w) (FK b) cs:=by
 cases fuel with
 |zero=>simp[DataW.trod] at h
 |succ n=>
  unfold DataW.trod at h
  rw[ht] at h
  split at h
  all_goals first|exact⟨_,m0 _⟩|simp_all
theorem Bg {α:Type} {ea:α→D} {e:TypeId} {s:Nat} (ht:P.underlying t=some (.slice e)) (hs:P.cellsOf e=s) (hs0:0<s) (hw:∀y,(ea y).width=s)
  (he:∀n cs x,n<fuel→DataW.trod enc P w 0 spare held n e cs=some x→∃y:α,Rep w (Di w) (ea y) cs)
  (h:DataW.trod enc P w 0 spare held fuel t cs=some x):∃l:List α,Rep w (Di w) (.sl (l.map ea)) cs:=by
 rcases DataW.trod_slice ht h with ⟨rfl, -⟩|⟨a,len,cap,elems,rest,n,rfl,rfl, -, -,hc,hm,hlen,hel, -, -⟩
 ·exact⟨[],by simp only[Rep,List.map_nil];exact⟨none,0,rfl,Nat.le_refl _,Nat.zero_le _,fun _=>rfl,.inl trivial⟩⟩
 ·rw[hs] at hel
  have hq:∀i,i<len→∃y:α,∃c,w.cells? 0 (a.add (i*s)) s=some c∧Rep w (Di w) (ea y) c:=by
   intro i hi
   have h1:=hel i hi
   have h2:i<elems.length:=by omega
   rw[List.getElem?_eq_getElem h2] at h1
   cases hc:w.cells? 0 (a.add (i*s)) s with
   |none=>rw[hc] at h1;simp at h1
   |some c=>
    rw[hc] at h1
    obtain⟨y,hy⟩:=he n c _ (Nat.lt_succ_self _) h1
    exact⟨y,c,rfl,hy⟩
  obtain⟨l,hl,hl2⟩:=QX len hq
  refine⟨l,?_⟩
  simp only[Rep,List.length_map]
  refine⟨some a,cap,by rw[hl],by omega,hm,(by simp),?_⟩
  by_cases h0:len=0
  ·left
   rw[List.map_eq_nil_iff]
   exact List.length_eq_zero_iff.1 (by omega)
  ·right
   obtain⟨c,hc0, -⟩:=hl2 0 (by omega)
   have hb:=World.cells?_block hc0 hs0
   obtain⟨-,hcl,hcc⟩:=World.cells?_some hc0
   have hspot:a.spot=none:=by
    have h1:=hcc 0 hs0
    obtain⟨u,hu⟩:∃u,c[0]? =some u:=⟨_,List.getElem?_eq_getElem (by omega)⟩
    rw[hu] at h1
    have h2:=World.cell?_spot h1
    rw[Nat.zero_mul,Addr.add_zero',Addr.add_zero'] at h2
    exact h2
   obtain⟨b,off,spot⟩:=a
   simp only at hspot
   subst hspot
   have hb':b<w.heap.size:=by rw[Nat.zero_mul,Addr.add_zero'] at hb;exact hb
   refine⟨b,off,rfl,hb',Dn.put _ off (by intro d hd;obtain⟨y,_,rfl⟩:=List.mem_map.1 hd;exact hw y) (fun k d hd=> ?_)⟩
   simp only[List.getElem?_map,Option.map_eq_some_iff] at hd
   obtain⟨y,hy,rfl⟩:=hd
   obtain⟨hk,rfl⟩:=List.getElem?_eq_some_iff.1 hy
   obtain⟨c',hc',hr⟩:=hl2 k hk
   obtain⟨-,hcl',hcc'⟩:=World.cells?_some hc'
   refine⟨c',?_,hr⟩
   intro j u hu
   have hj:j<s:=by have:=(List.getElem?_eq_some_iff.1 hu).1;omega
   have:=hcc' j hj
   rw[Addr.add_lit,Addr.add_lit] at this
   rw[this,hu]
theorem Ds (es:List D):(D.sl es).width=1:=by simp only[D.width]
theorem B2.at_ {K:Nat→Prop} {d:D} {ds:List D} {off n:Nat} (_:d.width=n) (h1:Rep w K d ((cs.drop off).take n)) (h2:B2 w K ds (cs.drop (off+n))):B2 w K (d::ds) (cs.drop off):=by
 simp only[B2]
 refine⟨_,_,(List.take_append_drop n (cs.drop off)).symm,h1,?_⟩
 rw[List.drop_drop]
 exact h2
theorem B2.end_ {K:Nat→Prop} {off:Nat} (h:cs.length=off):B2 w K [] (cs.drop off):=by
 simp only[B2]
 exact List.drop_eq_nil_of_le (by omega)
theorem DH {fs:Array Field} (ht:P.underlying t=some (.struct fs)) (h:DataW.trod enc P w 0 spare held fuel t cs=some x):
  cs.length=P.cellsOf t∧∃n,fuel=n+1∧∀(i:Nat) (f:Field),fs[i]? =some f→∃y,DataW.trod enc P w 0 spare held n f.type ((cs.drop f.offset).take (P.cellsOf f.type))=some y:=by
 obtain⟨xs,n,rfl, -,h1,h2,h3⟩:=DataW.trod_struct ht h
 refine⟨h1,n,rfl,fun i f hf=> ?_⟩
 have hi:i<xs.length:=by
  rw[h2]
  exact(Array.getElem?_eq_some_iff.1 hf).1
 exact⟨xs[i],by rw[h3 i f hf,List.getElem?_eq_getElem hi]⟩
end
theorem K9 {f:Func} {s:ChangeSpec} {H:Type} {enc:TypeId×Value→H} {P:Program} {apart fresh handsOn again:Bool} {W W':World} {args:Array Value} {v:Value} {ds gs:List (DataW H)} {before pa pv:List MemPlace}
  (hW:DataW.Whole enc P f.params.toList s.vars apart W args.toList ds gs before)
  (hres:∀(b:Nat) (sp:Nat→Bool) (hd:Bool),DataW.TrodAll enc P W' b sp hd f.resultTypes.toList (v.resultList f.resultTypes.size) (s.fn H (ds++gs)).results [])
  (hargs:∀sp:Nat→Bool,(∀p∈before,sp p.block=true)→DataW.TrodAll enc P W' 0 sp true f.params.toList args.toList (s.fn H (ds++gs)).args pa)
  (hvars:∀sp:Nat→Bool,(∀p∈before,sp p.block=true)→DataW.TrodVars enc P W' sp s.vars (s.fn H (ds++gs)).vars pv)
  (hps:before=pa++pv) (hB:Below W.heap.size W W')
  (hok:∀(j:Nat) (t:TypeId) (r:Value),f.resultTypes[j]? =some t→(v.resultList f.resultTypes.size)[j]? =some r→Value.okWide P W' .any 0 t r):
  s.post enc P f apart fresh handsOn again W args v W':=by
 have hlt:=hW.lt
 have hold:∀p∈before,(fun b=>decide (b<W.heap.size)) p.block=true:=fun p hp=>by simpa using hlt p hp
 refine⟨ds,gs,before,[],pa,pv,hW,hres _ _ _,hargs _ hold,hvars _ hold,World.keptBut_mono (fun p hp=>⟨hp,?_⟩) (hB.frame (· ∈before)),fun _=> ?_⟩
 ·rw[hps,List.mem_append] at hp
  exact Or.inr hp
 ·obtain⟨_,_,_,_,_,hz,hn⟩:=hW
  refine⟨hok,_,_,([]++pa)++pv,⟨[]++pa,pv,trodAll_append (hargs _ (fun _ _=>rfl)) (hres _ _ _),hvars _ (fun _ _=>rfl),rfl,?_,?_⟩,?_⟩
  ·intro b off hp
   have hb:(MemPlace.cell b off)∈before:=by rw[hps];simpa using hp
   have:=hlt _ hb
   rw[hB.frozen (p:=⟨b,off,none⟩) this]
   exact hz b off hb
  ·intro ha
   have:=hn ha
   rw[hps] at this
   simpa using this
  ·intro p hp _
   rw[hps]
   simpa using hp
theorem ic {P:Program} {w:World} {Cp:Nat} {t:TypeId} {v:Value} {fs:Array Field} (ht:P.underlying t=some (.struct fs)) (h:Value.okWide P w .any Cp t v):∃cs:List Value,v=.agg cs.toArray:=by
 unfold Value.okWide at h
 rw[ht] at h
 obtain⟨cs,rfl, -, -⟩:=h
 exact⟨cs.toList,by simp⟩
theorem aW {H:Type} {enc:TypeId×Value→H} {P:Program} {t:TypeId} {W W':World} {v:Value} {d:DataW H} {ps:List MemPlace} {sp:Nat→Bool} (h:DataW.Trod enc P W 0 (fun _=>true) true t v d ps) (hrow:t<P.types.size) (hr:P.readableRec t=true) (hl:laidOutB P=true)
  (hB:Below W.heap.size W W') (hlt:∀x∈ps,x.block<W.heap.size) (hsp:∀x∈ps,sp x.block=true):DataW.Trod enc P W' 0 sp true t v d ps:=
 WideElems.Trod_stays hl hr hrow h (fun x hx=>hB.same (hlt x hx)) hsp
