/- Texts of the proof, part 19. -/
import Derived.Test.YtehkcnbodcdijaaGreatDoorA18
namespace Go.Proofs.YtehkcnbodcdijaaGreatDoor
set_option maxHeartbeats 8000000
set_option linter.all false
set_option maxRecDepth 100000
variable{ar:Prop}
open Go.RowKit Go.Lib Go.Maps Go.ChangeShapes Go.WideShapes Go.ChangeAt Go.Proofs.Tryz
variable{a b c d e f g h:Nat}{i j k l:List Nat}{m n o:World}{p q r s:Value}{t u v:List Value}{w x:TypeId}{y z:Nat→Option Nat}{A:Nat→List Nat}{B C:Int}{E F:Option Addr}{H I:Rat}{J:Nat→Nat}{K:Nat→Bool}{L:List Int}{N:Array Bool}{O:Option Nat}{Q:Act}{R S:Bool}{T:List UInt8}
def abw(h:ej B T):T.length<=60:=by
 rcases h with rfl|⟨-,f, -⟩|⟨-,z,rfl,c⟩|⟨-,q,rfl,a⟩
 ·simp
 ·have:=f.2.1;omega
 ·have j:=zf z;have i:=zi c.lt;omega
 ·have j:=zf q.num;have i:=zi a.1.lt;by_cases b:q.den=1
  ·rw[pP b];omega
  ·rw[qz b,bD,cT,decDigits_length];have l:=zi (n:=q.den) (e:=1) (by have:=a.2;omega);omega
def univ(T:List (List Rw)):List aC:=jP ([]::T.flatMap fun l=>l.flatMap fun y=>y.1)
def Fc(T:List (List Rw)):(univ T).Nodup:=SF (IY _)
def S9{T:List (List Rw)}{l:List Rw}{y:Rw}{t:aC}(c:l∈T)(a:y∈l)(b:t∈y.1):t∈univ T:=
 zm.2 (aK.2 (.inr (mS.2 ⟨l,c,mS.2 ⟨y,a,b⟩⟩)))
def ann{T:List (List Rw)}{t:aC}(h:t∈univ T):t= []\/∃l∈T,∃y∈l,t∈y.1:=by
 rcases aK.1 (zm.1 h) with h|h
 ·exact .inl h
 ·obtain⟨l,b,h⟩:=mS.1 h;obtain⟨y,a,h⟩:=mS.1 h;exact .inr ⟨l,b,y,a,h⟩
def anl(T:List (List Rw)):1<=(univ T).length:=by have h:([]:aC)∈univ T:=zm.2 Ou;exact List.length_pos_of_mem h
def Nu{α β:Type}{f:α->List β}{m:Nat}:∀{l:List α},(∀a∈l,(f a).length<=m)->(l.flatMap f).length<=l.length*m
 | [],_=>by simp
 |a::l,h=>by rw[uV,bD,cT,kZ,lX];have i:=h a Ou;have e:=Nu (l:=l) fun b c=>h b ax3;omega
def anm{T:List (List Rw)}(i:T.length<=6)(h:∀l∈T,l.length<=60)(e:∀l∈T,∀y∈l,y.1.length<=6):(univ T).length<=2161:=by
 refine aV (RY _) ?_;rw[cT];have o:=Nu (m:=360) (l:=T) (f:=fun l=>l.flatMap fun y=>y.1) fun l a=>by have n:=Nu (f:=fun y:Rw=>y.1) fun y b=>e l a y b;have c:=h l a;have k:l.length*6<=60*6:=eK _ c;omega
 have j:T.length*360<=6*360:=eK _ i;omega
section
variable{x:aP}{D:List (List Rw)}
theorem Ta{T:List (List Rw)}{y:Rw}(b:y∈bL T a):∃l∈T,y∈l:=by
 unfold bL at b;cases c:T[a]? with
 |none=>rw[c] at b;cases b
 |some l=>rw[c] at b;exact⟨l,pM c,b⟩
theorem Nk(f:ip x D){l:List Rw}(h:l∈aT x D):∃(i:Nat) (j:i<x.ay) (c:i<D),l=k8 x.ay x.ay[i].2 D[i]/\xJ x x.ay[i].2 D[i]:=by
 obtain⟨i,a,e⟩:=iE h;rw[pS] at a;have c:i<D.length:=by rw[f.1];exact a
 have b:=M_ a c;rw[aX (by rw[pS];exact a),e] at b;injection b with b;exact⟨i,a,c,b,f.2 i _ _ (aX c) (aX a)⟩
theorem Nl(c:ip x D){l:List Rw}(b:l∈aT x D):l.length<=60:=by obtain⟨i,f,e,rfl,a⟩:=Nk c b;exact aV (mP _ _) a.len
theorem aoi(n:ip x D){l:List Rw}(m:l∈aT x D){y:Rw}(h:y∈l){t:aC}(k:t∈y.1):(0:UInt8)∉t/\t.length<=1000:=by
 obtain⟨i,q,o,rfl,a⟩:=Nk n m;have c:=a.val y (zt h);obtain⟨j,e,rfl⟩:=iE k;have b:j<x.ay[i].2.length:=by rw[<-c.1];exact e
 have f:=c.2 j _ _ (aX b) (aX e);have:=abw f;exact⟨ai5 f,by omega⟩
theorem T2(e:ip x D):∀h∈bM x,∀y∈bL (aT x D) h,1<=y.2/\y.2<=1000000:=fun h f y a=>by obtain⟨l,c,a⟩:=Ta a;obtain⟨i,k,j,rfl,b⟩:=Nk e c;have:=b.wt y (zt a);omega
theorem aok(c:bV x)(n:x.ai.length<=6)(j:ip x D){l:List Rw}(h:l∈aT x D){y:Rw}(f:y∈l):y.1.length<=6:=by
 obtain⟨i,k,m,rfl,b⟩:=Nk j h;rw[(b.val y (zt f)).1];have e:=a8 k;have a:=FR (c.ra _ e) (c.ri _ e);rcases a with a|a
 ·rw[a];simp
 ·omega
def fZ(x:aP)(d:Nat->Nat):Nat->List Nat:=fun v=>(bM x).filter fun t=>eZ d (bu x t) ((bu x t).headD 0)==v
theorem ap5{p:Nat->Option Nat}{d:Nat->Nat}{g:List Nat}(r:dr a p d)(f:b<a):(oT a p g b).length+1<=a:=by
 have h:(b::oT a p g b).Nodup:=(by refine ic.2 ⟨fun i=> ?_,yX yY tK⟩;unfold oT at i;have j:=(eE.1 i).2;rw[cV,rS] at j;have:=j.2.l8 r b rfl f;omega);exact Fh h fun c e=>by
  rcases aK.1 e with rfl|e
  ·exact f
  ·exact dL.1 (eE.1 e).1
variable{α:Type}{R:SR α}{G:Nat->Nat->α->Prop}{wt:Int->α}{g:Nat->aC->α}{fx:Nat->Option aC}{p:Nat->Option Nat}{d:Nat->Nat}
theorem as1(ok:bV x)(b:ip x D)(r:dr x.ai.length p d)(hW:Whole x.ai.length (bu x) (bM x) (et x.ai.length p (fZ x d) x.ai.length none))(gr:xQ R G)(hg:∀v t,cH fx v t=false->g v t=R.zero)(gg:∀v t,v<x.ai.length->t∈univ (aT x D)->G 1 1 (g v t))(m:∀k:Int,1<=k->k<=1000000->G 1 1 (wt k)):
 Wk R G wt g fx (univ (aT x D)) x (aT x D) p d (fZ x d) where
 gr:=gr
 r:=r
 sc:=ok
 tb:=SG ok b
 hg:=hg
 un:=Fc _
 hU:=fun h _ y a t c=>by obtain⟨l,e,a⟩:=Ta a;exact S9 e a c
 gg:=gg
 hw:=fun h hh y a=>m _ (T2 b h hh y a).1 (T2 b h hh y a).2
 hK:=fun h hh=>by have f:=j6.1 hh;unfold bL;rw[aX (by rw[pS];exact f)];exact Nl b (a8 _)
 whole:=hW.ok
 hh:=fun v h hh=>(eE.1 hh).1
 nd:=fun v=>yX yY tK
 ap:=fun v w h j i=>(beq_iff_eq.1 (eE.1 j).2).symm.trans (beq_iff_eq.1 (eE.1 i).2)
end
def GX.gr{α:Type}{R:SR α}{V:World->Value->α->Prop}{G:Nat->Nat->α->Prop}{wt:Int->α}{a:α->Bool}{f e b c:FuncId}(h:GX R V G wt a f e b c):xQ R G:=⟨h.Vl,h.Vk,h.UD,h.UC,h.gone⟩
noncomputable def VY{α:Type}(R:SR α)(V:World->Value->α->Prop)(G:Nat->Nat->α->Prop)(wt:Int->α)(xV:α->Bool)(fa fm fz fw fl:FuncId)(g:Nat->aC->α)(fx:Nat->Option aC)(fv:Value)(x:aP)(D:List (List Rw))(p:Nat->Option Nat)(d:Nat->Nat)(wl:List Nat)(w0 w1:au)(cs:List Value)(tX:TypeId)(xb jb nb sb kb:Nat):Pw α where
 R:=R
 V:=V
 G:=G
 wt:=wt
 xV:=xV
 fa:=fa
 fm:=fm
 fz:=fz
 fw:=fw
 fl:=fl
 g:=g
 fx:=fx
 fv:=fv
 U:=univ (aT x D)
 x:=x
 T:=aT x D
 p:=p
 d:=d
 homes:=fZ x d
 key:=fun v=>oT x.ai.length p (gX x.ai.length x.ay) v
 ch:=nU x.ai.length p
 ks:=zI (gX x.ai.length x.ay) p
 hs:=Dg x.ai.length d x.ay
 wl:=wl
 w0:=w0
 w1:=w1
 cs:=cs
 tX:=tX
 xb:=xb
 jb:=jb
 nb:=nb
 sb:=sb
 kb:=kb
def aeO{α:Type}{R:SR α}{V:World->Value->α->Prop}{G:Nat->Nat->α->Prop}{wt:Int->α}{H:α->Bool}{W U Q T I:FuncId}{g:Nat->aC->α}{fx:Nat->Option aC}{x:aP}{D:List (List Rw)}{p:Nat->Option Nat}{d:Nat->Nat}{K:Array Value}
 (ring:GX R V G wt H W U Q T) (ok:bV x) (F:ip x D) (X:x.ai.length<=6) (r6:x.ay.length<=6) (r:dr x.ai.length p d) (hW:Whole x.ai.length (bu x) (bM x) (et x.ai.length p (fZ x d) x.ai.length none)) (hg:∀v s,cH fx v s=false->g v s=R.zero) (gg:∀v s,v<x.ai.length->s∈univ (aT x D)->G 1 1 (g v s))
 (pl:PY n t x.ai (nU x.ai p) (zI (gX x.ai x.ay) p) (Dg x.ai d x.ay) i)
 (ca:t[h]? =some (.func (.func W) #[] #[])) (cm:t[h+1]? =some (.func (.func U) #[] #[])) (cz:t[h+2]? =some (.func (.func Q) #[] #[])) (cl:t[h+3]? =some (.func (.func I) #[] K)) (cw:t[h+4]? =some (.func (.func T) #[] #[])) (cf:t[h+5]? =some q) (ck:t[h+8]? =some (.map (some f)))
 (kw:m.heap.size<=f) (kx:a≠f) (kn:c≠f) (L:e≠f) (il:∀C z,(callFunc I C).run prog z= .ok (.enter I C) z)
 (lift:∀z,Ext m z->∀v s,v<x.ai.length->Dv x (aT x D) v s->cH fx v s=true->Calls prog I (#[av v,aM s]++K) z fun k Z=>∃u,k= .returned u/\V Z u (g v s)/\Ext z Z) (J:uQ m q fx):
 iI (VY R V G wt H W U Q T I g fx q x D p d i m n t w a b c e f) h K:=by
 have Y:=as1 ok F r hW ring.gr hg gg ring.gw;have B:=(zn ok.ri).len;have hu:=anm (by rw[pS];exact r6) (fun l E=>Nl F E) (fun l E y M=>aok ok X F E M);refine⟨ring,Y,pl,fun v A=>aor A,akC,fun v A=>amJ A,fun v A=> ?_,fun v A j P=> ?_,fun v A=> ?_,fun v A k e' N=> ?_,ca,cm,cz,cl,cw,cf,ck,kw,kx,kn,L,il,lift,J,r6,aV X Od,fun l E=>Nl F E,T2 F,fun s ht=> ?_,anl _,?_⟩
 ·have o:=aos (g:=gX x.ai x.ay) (p:=p) (show v<(gX x.ai x.ay) by rw[B];exact A);rwa[B] at o
 ·have o:=eE.1 P;exact⟨(cV _ _▸o.2:_/\_).2,dL.1 o.1⟩
 ·have:=ap5 (g:=gX x.ai x.ay) r A;show(oT x.ai p (gX x.ai x.ay) v).length<=5
  omega
 ·obtain⟨S,s1,s2⟩:=Y.DL (d v) v A (aL _);refine anp ok r A (fun o k e' N=>IV o k e' N) s1 (fun j P=>rS.1 ((s2 j).1 P)) (fun o hh=> ?_) N;have O:(eV x.ai p (fZ x d) v).By (fZ x d):=⟨rfl,ze _ _,trivial⟩;obtain⟨z,_,hw⟩:=(O.mem o).1 hh;exact j6.1 (eE.1 hw).1
 ·rcases ann ht with rfl|⟨l,E,y,M,o⟩
  ·simp
  ·exact aoi F E M o
 ·have h1:=QY hu 5;have h2:=wV X h1;have h3:6*2161^5<maxLen:=by unfold maxLen;decide
  exact Bv h2 h3
section
variable{n:Nat}{adj:Nat->Nat->Prop}{perm:List Nat}
theorem acn(z:∀a b,adj a b->adj b a)(d:∀a,a<n->a∈perm){f k:Nat}{u:Option Nat}(s:perm.head? =some f):
 ∀(L:List VS),(∀c∈L,(∀x,c x=true->x<n)/\(∃a,c a=true)/\c.count n<=k+1)->∀p:Nat->Option Nat,((∃c∈L,c f=true)\/p f=u)->(L.foldl (fun p c=>match perm.find? c with
  |some a=>ju n adj perm k (VS.less c (VS.one a)) (some a) (iW p a u)
  |none=>p) p) f=u
 | [],_,p,h=>by
   rcases h with⟨c,D,_⟩|h
   ·cases D
   ·exact h
 |c::L,A,p,h=>by
  obtain⟨v,⟨x,m⟩,E⟩:=A c Ou;rw[y5];refine acn z d s L (fun w j=>A w (by simp [j])) _ ?_;obtain⟨a,r⟩:∃a,perm.find? c=some a:=by
   cases C:perm.find? c with
   |some a=>exact⟨a,rfl⟩
   |none=>exact absurd m (wR.1 C x (d x (v x m)))
  have q:c a=true:=wT r;have B:=tO (n:=n) q (v a q);have o:∀x,(VS.less c (VS.one a)) x=true->c x=true:=fun x m=>by unfold VS.less at m;rw[cV] at m;exact m.1
  obtain⟨y,_⟩:=MW (adj:=adj) z d k (VS.less c (VS.one a)) (some a) (iW p a u) (fun x m=>v x (o x m)) Om;rw[r];simp only;cases i:c f with
  |true=>
   right;have e:a=f:=by
    rcases perm with _|⟨b,l⟩
    ·cases s
    ·injection s with s;subst s;rw[List.find?_cons,i] at r;injection r with r;exact r.symm
   subst e;rw[y a aym];unfold iW;rw[if_pos rfl]
  |false=>
   rcases h with⟨w,j,g⟩|h
   ·rcases aK.1 j with rfl|j
    ·rw[i] at g;cases g
    ·exact .inl ⟨w,j,g⟩
   ·right;have t:f≠a:=fun e=>by rw[e,q] at i;cases i
    rw[y f (by unfold VS.less;rw[i];rfl)];unfold iW;rw[if_neg t,h]
theorem aj9(i:∀d g,adj d g->adj g d)(h:∀d,d<n->d∈perm){rest:VS}(s:perm.head? =some a)(t:a<n)(r:∀x,rest x=true->x<n)(v:rest.count n<=b+1)(q:rest a=true):ju n adj perm (b+1) rest O y a=O:=by
 have l:∀c∈parts adj (List.range n) rest,∀x,c x=true->rest x=true:=fun c m x o=>by obtain⟨d,_,j,rfl⟩:=y9 i m;exact qE i j o
 refine acn i h s _ (fun c m=> ?_) y (.inl ⟨_,EZ (adj:=adj) i t q,fD.2 .refl⟩);obtain⟨d,_,j,e⟩:=y9 i m;refine⟨fun x o=>r x (l c m x o),⟨d,by rw[e];exact fD.2 .refl⟩,?_⟩;have:=wY (n:=n) (l c m);omega
end
def al0{x:aP}(j:bV x){perm:List Nat}(d:∀c,c∈perm↔c<x.ai)(e:perm.head? =some a):nj x perm a=none:=by
 have i:=zn j.ri;have l:∀c b,fF (gX x.ai x.ay) c b->fF (gX x.ai x.ay) b c:=fun c b h=>by obtain⟨r,s,q,p,o⟩:=(i.bit c b).1 h;exact(i.bit b c).2 ⟨r,s,p,q,o.symm⟩
 have g:a<x.ai.length:=(d a).1 (List.mem_of_head? e);exact aj9 (adj:=fF (gX x.ai x.ay)) l (fun c m=>(d c).2 m) e g (fun y k=>of_decide_eq_true k) (by rw[Fi];omega) (decide_eq_true g)
def aeu{x:aP}(q:dy x a m)(k:aZ [a] m n):∃b,Ext b n/\b.heap.size=m.heap.size/\(∀W,Ext b W->aZ [a] m W)/\(∀i,i≠a->b.heap[i]? =m.heap[i]?)/\∀t,Kept t m b:=by
 have r:=q.lt;have l:=cy r k.size;have f:∀i,i≠a->(m.heap.setIfInBounds a n.heap[a])[i]? =m.heap[i]?:=fun i c=>by rw[Array.getElem?_setIfInBounds_ne (gU c)]
 have v:(m.heap.setIfInBounds a n.heap[a])[a]? =n.heap[a]?:=(by rw[Array.getElem?_setIfInBounds_self_of_lt r,Zm l]);refine⟨{m with heap:=m.heap.setIfInBounds a n.heap[a]},⟨k.os,k.tape,k.output,?_,fun i c=> ?_⟩,?_,fun W hW=>⟨hW.os,hW.tape,hW.output,?_,fun i c s=> ?_⟩,f,fun t g A y d=> ?_⟩
 ·rw[Mh];exact k.size
 ·have o:i<m.heap.size:=(by rw[<-(Mh ..)];exact c);by_cases e:i=a
  ·rw[e,v]
  ·rw[f i e];exact k.block i o axO
 ·exact Mh ..
 ·have h:=hW.size;rwa[Mh] at h
 ·have h:=hW.block i (by rw[Mh];exact c);rw[h,f i (by simpa using s)]
 ·have j:g≠a:=fun e=>by subst e;obtain⟨_,_,⟨D,⟨z,p,u,_⟩,_⟩,_⟩:=q;rw[u] at d;injection d with d;cases d
  exact(f g j).trans d
noncomputable def xP(b:Nat->Option aC)(j:Option Nat)(x:aP)(D:List (List Rw))(p:Nat->Option Nat)(d:Nat->Nat)(e:List Nat)(g f:au)(m:List Value)(c l i h k:Nat):Pw Bool:=
 VY dN (fun _ u a=>u= .bool a) (fun _ _ _=>True) (fun _=>true) (fun a=> !a) 273 274 275 230 229 (fun v t=>cH b v t) b (.map j) x D p d e g f m 300 c l i h k
def aeY{x:aP}{D:List (List Rw)}(k:bV x)(n:ip x D)(h:gO x (aT x D) a b m):Y1 m a x (aT x D):=by have g:=h.lt;obtain⟨A,c,B,d,E,e,At,r,C,u,l,i,p,o,_⟩:=h;obtain⟨F,v,z,t,y,s,f,_,j,_⟩:=p;injection f with f;injection f with f;injection f with _ f;injection f with q _;rw[<-q] at j;exact⟨g,⟨B,d,i.cell rfl,j⟩,⟨At,r,i.cell rfl,o⟩,aoj k n⟩
def aez{α:Type}{D:Pw α}(i:Y1 D.w0 D.jb D.x D.T)(g:Ext D.w0 m)(f:D.w1=m)(o:D.w0.heap.size<=D.nb)(n:D.w0.heap.size<=D.sb)(l:D.xb≠D.nb)(k:D.xb≠D.sb)(j:aq m D.xb D.tX D.cs)(r:D.cs[0]? =some (aI D.jb 0))
 (q:D.cs[a]? =some (aG D.nb 0 D.x.ai.length D.x.ai.length)) (p:D.cs[b]? =some (aG D.sb 0 D.x.ai.length D.x.ai.length)) (d:aq m D.nb bC (tV D.x.ai.length fun _=> [])) (c:aq m D.sb fV (fU D.x.ai.length fun _=>false)) (h:dt m bC D.kb 0 fun _=>none):
 ce D a b (fun _=> []) (fun _=>false) m:=by
 refine⟨⟨i,g,o,n,fun e=> ?_,l,k,j,r,q,p,d,c⟩,lM.new h,by rw[f];exact jp _ _,by rw[f];exact jp _ _⟩;rw[e] at d;unfold aq at d c;rw[d] at c;injection c with c;injection c with _ c;revert c
 decide
def Jk{f:Lit->Option Value}(h:aq m a x t)(i:dt m w b c f):a≠b:=fun e=>by obtain⟨D,⟨o,d,j,_⟩,_⟩:=i;unfold aq at h;rw[e,j] at h;injection h with h;cases h
def acC(b k:Nat)(x:aP)(D:List (List Rw))(B:bV x)(T:ip x D)(a6:x.ai.length<=6)(r6:x.ay.length<=6)(first:Int)(l:Option Nat)(z:Nat->Option aC)(w:au)(U:gO x (aT x D) b k w)(S:dy x k w)(u:b≠k)(h1: -1<=first)(h2:first<(x.ai.length:Int))(H:∀W,aZ [k] w W->uQ W (.map l) z):
 Calls prog 172 #[aI b 0,av first,.map l] w fun e r=>∃p d n O E c i g m,e= .returned (aI c 0)/\iI (xP z l x D p d n O r E c b i g m) 7 #[]/\ce (xP z l x D p d n O r E c b i g m) 13 14 (fun _=> []) (fun _=>false) r/\E[5]? =some (.bool false)/\E[6]? =some (.bool true)/\
  dr x.ai p d/\Whole x.ai (bu x) (bM x) (et x.ai p (fZ x d) x.ai none)/\(∀f:Nat,first=f->p f=none)/\(w.heap.size<=c/\w.heap.size<=i/\w.heap.size<=g/\w.heap.size<=m)/\dy x k r/\aZ [k] w r:=by
 have CS:=af (fun W (C:Ext w W)=>ak4 b k x (aT x D) B first l false true 273 274 275 229 230 #[] W (U.ext C) (S.ext C) u h1 h2);have N:=af U;go_enter func172,ntmps172;go_wp2_with fail
 refine(ajP w).mono ?_;rintro X w1 ⟨rfl,o⟩;go_wp2_with fail;refine(CS w1 o).mono ?_;rintro V A ⟨c,i,g,m,p0,p1,p2,p3,rfl,C,hP,R,Q,J,⟨z1,z2,z3,z4⟩,⟨n1,n2,n3⟩,G,I⟩;have hsz:=o.size;have HC:ah (aZ [k] w A):=(gS o).trans I;obtain⟨j,hE,q,M,L,K⟩:=aeu S HC;obtain⟨a,d,n,q1,q2,q3,q4,Y,s,P,A6,Z,q5,q6,q7,q8,q9⟩:=hP;injection q5 with q5;injection q5 with q5;injection q5 with e0 q5;injection q5 with X q5;injection q5 with V q5;injection q5 with e3 _;subst e0 X V e3;have y:iI (xP z l x D (nj x a) d n j A [aI b 0,aG Y 0 (x.ai.length+1) (x.ai.length+1),aG s 0 x.ai x.ai,aG P 0 x.ai x.ai,.slice A6 n Z,.bool false,.bool true,.func (.func 273) #[] #[],.func (.func 274) #[] #[],.func (.func 275) #[] #[],.func (.func 229) #[] #[],.func (.func 230) #[] #[],.map l,aG i 0 x.ai x.ai,aG g 0 x.ai x.ai,.map (some m)] c b i g m) 7 #[]:=
  aeO arP B T a6 r6 q3 q4 (fun v t h=>h) (fun _ _ _ _=>trivial) ⟨Y,s,P,A6,Z,rfl,rfl,rfl,rfl,q6,q7,q8,q9⟩ rfl rfl rfl rfl rfl rfl rfl (by rw[q];omega) n3 (Jk R J) (Jk Q J) (fun _ _=>by rfl) (fun W hW v t _ _ ht=>by refine(am6 v ⟨t.toArray⟩ W).mono ?_;rintro e r ⟨rfl,rfl⟩;exact⟨_,rfl,by rw[ht],aB _⟩) (H j (M j (aB j)))
 have F:ce (xP z l x D (nj x a) d n j A _ c b i g m) 13 14 (fun _=> []) (fun _=>false) A:=aez (aeY B T (N.keep (L b u) K)) hE rfl (show j.heap.size<=i by rw[q];omega) (show j.heap.size<=g by rw[q];omega) n1 n2 C rfl rfl rfl R Q J;go_wp2_with fail;exact bodyPost_ret (v:=aI c 0) (by simp [results,results172,go_sem]) rfl ⟨nj x a,d,n,j,_,c,i,g,m,rfl,y,F,rfl,rfl,q3,q4,fun f hf=>al0 B q1 (q2 f hf),⟨by omega,by omega,by omega,by omega⟩,G,HC⟩
def jQ(x:aP)(D:List (List Rw))(fx:Nat->Option aC):Prop:=om x.ai.length (bM x) (univ (aT x D)) (kP (bu x) (bL (aT x D))) fx
noncomputable def eX(x:aP)(D:List (List Rw))(fx:Nat->Option aC)(a:Nat):List aC:=(univ (aT x D)).filter fun t=> @decide (jQ x D (ew fx a t)) (Classical.propDecidable _)
def Tr(x:aP)(D:List (List Rw))(fx:Nat->Option aC)(a:Nat):(eX x D fx a).Pairwise sJ:=yX yY (IY _)
section
variable{x:aP}{D:List (List Rw)}{p:Nat->Option Nat}{d:Nat->Nat}{fx:Nat->Option aC}
theorem Jv(e:bV x):∀h∈bM x,∀a∈bu x h,a<x.ai.length:=fun h f a i=>by have c:=j6.1 f;have j:=(vq c fun b g=>(e.ri _ (a8 c) b g).1).1 i;have:=(e.ri _ (a8 c) _ j).2;omega
theorem abD(a:bV x)(r:dr x.ai.length p d)(hW:Whole x.ai.length (bu x) (bM x) (et x.ai.length p (fZ x d) x.ai.length none)):
 (dN.prod (kids x.ai.length p none) fun c=>vT dN x (aT x D) p (fZ x d) (fun v t=>cH fx v t) (fun _=>true) (univ (aT x D)) c fun _=> [])=true↔jQ x D fx:=by
 unfold jQ;rw[<-(abE (env:=fun _=> []) (fx:=fx) (U:=univ (aT x D)) (W:=kP (bu x) (bL (aT x D))) Sa hW.wf hW.vd hW.vm hW.hm (Jv a))];show _↔(et x.ai.length p (fZ x d) x.ai.length none).val dN (univ (aT x D)) (fun v t=>cH fx v t) (fH dN (bu x) (bL (aT x D)) fun _=>true) (fun _=> [])=true
 rw[(aai (R:=dN) (U:=univ (aT x D)) (g:=fun v t=>cH fx v t) (W:=fH dN (bu x) (bL (aT x D)) fun _=>true) (homes:=fZ x d) r (fun _=> []))];rfl
theorem apK(f:Wk dN (fun _ _ _=>True) (fun _=>true) (fun v t=>cH fx v t) fx (univ (aT x D)) x (aT x D) p d (fZ x d)){a:Nat}(i:a<x.ai.length)(g:p a=none)(k:fx a=none)(hT:jQ x D fx):
 ((io (bu x) (bL (aT x D)) (bM x) fx (bH p a) (fun _=> []) a).filter fun t=>bT dN x (aT x D) p (fZ x d) (fun v t=>cH fx v t) (fun _=>true) (univ (aT x D)) a t fun _=> [])=eX x D fx a:=by
 refine T1 (yX yY acx) (Tr x D fx a) fun t=> ?_;have s:(eV x.ai.length p (fZ x d) a).By (fZ x d):=⟨rfl,ze _ _,trivial⟩;have e:=apL (env:=fun _=> []) (fx:=fx) (U:=univ (aT x D)) (W:=kP (bu x) (bL (aT x D))) Sa (aaH f.r f.whole a (ig.2 ⟨i,g⟩)) (ML (homes:=fZ x d) f.r i) (fun v H=>by
  rcases(MS f.r i).1 H with rfl|h
  ·exact i
  ·exact h.1) (fun h o=>by
  obtain⟨w,_,G⟩:=(s.mem h).1 o;exact(eE.1 G).1) k t
 have l:(jv x.ai.length p (fZ x d) a).val dN (univ (aT x D)) (cH fx) (kP (bu x) (bL (aT x D))) (put (fun _=> []) a t)=dN.prod (kids x.ai.length p (some a)) fun c=>vT dN x (aT x D) p (fZ x d) (fun v t=>cH fx v t) (fun _=>true) (univ (aT x D)) c (put (fun _=> []) a t):=(by have h:jv x.ai.length p (fZ x d) a=ei (fZ x d) (jv x.ai.length p (fZ x d)) (kids x.ai.length p (some a)):=tN f.r Om;rw[h,M3];rfl);rw[l] at e;have j:cH fx a t=true:=by unfold cH;rw[k]
 have u:bT dN x (aT x D) p (fZ x d) (fun v t=>cH fx v t) (fun _=>true) (univ (aT x D)) a t (fun _=> [])=true↔(∀h∈fZ x d a,kP (bu x) (bL (aT x D)) h (put (fun _=> []) a t)=true)/\(dN.prod (kids x.ai.length p (some a)) fun c=>vT dN x (aT x D) p (fZ x d) (fun v t=>cH fx v t) (fun _=>true) (univ (aT x D)) c (put (fun _=> []) a t))=true:=by
  unfold bT;show((cH fx a t&&dN.prod (fZ x d a) fun h=>hW dN x (aT x D) (fun _=>true) h (put (fun _=> []) a t))&&_)=true↔_
  rw[cV,cV,Q_,j];simp only[true_and];rfl
 rw[eE,u];unfold eX;rw[eE];simp only[decide_eq_true_eq];unfold jQ at hT⊢;constructor
 ·rintro⟨C,n,A⟩;have B:=f.Wi i C;exact⟨B,e.1 ⟨hT,B,n,A⟩⟩
 ·rintro⟨C,n⟩;obtain⟨_,_,A,I⟩:=e.2 n;refine⟨?_,A,I⟩;refine(Nf f.tb (Jf g) (f.ne a i)).2 ⟨j,fun h o=> ?_⟩;obtain⟨E,K,J⟩:=n;have q:E a=t:=by have:=(K a i).2;rw[Jt,beq_iff_eq] at this;exact this.symm
  obtain⟨y,F,L⟩:=Nb.1 (J h (zh.1 o).1);refine mU.2 ⟨y,F,?_⟩;rw[L];rw[Sh (OT:=cW (bH p a) a) (OE:=E) fun b _=>⟨rfl,fun z=> ?_⟩]
  ·exact apd
  ·have m:b=a:=(by unfold cW at z;rw[Jf g,w_,beq_iff_eq] at z;exact z);unfold put;rw[if_pos m,m,q]
end
def ce.fresh{α:Type}{D:Pw α}{f:Nat->aC}(h:ce D a b f K m)(k:Only c m n)(x:D.w0.heap.size<=c)(A:D.w1.heap.size<=c)(s:c≠D.xb)(r:c≠D.nb)(p:c≠D.sb)(o:c≠D.kb)(v:∀{u d},D.V m u d->D.V n u d):ce D a b f K n:=by
 have i:∀t,Kept t D.w1 m->Kept t D.w1 n:=fun t i q z y j=>by have l:=i q z y j;exact(k.block q (ie l) fun e=>by injection e with e;have:=ie j;omega).trans l
 exact⟨h.st.past k x s r p,h.mem.same (k.block _ h.mem.lt (by simpa using o.symm)) v,i _ h.k1,i _ h.k2⟩
def amf{x:aP}{D:List (List Rw)}{c:Nat->Option aC}(b:c a=none)(h:¬jQ x D c):eX x D c a= []:=by unfold eX;refine Zq.2 fun t _=> ?_;simp only[decide_eq_true_eq];exact fun d=>h (om.mono _ _ _ b d)
def an9(g f d a:Nat)(t:aC)(b:Bool)(w:au)(l:aA w g 0 (aI d 0))(k:aA w f 0 (av (a:Int))){I:World->Prop}
 (j:Calls prog 236 #[aI d 0,av a,aM t] w fun e c=>∃u,e= .returned u/\u= .bool b/\I c):
 Calls prog 235 #[aM t,aI g 0,aI f 0] w fun e c=>e= .returned (.bool (!b))/\I c:=by
 go_enter func235,ntmps235;go_wp2_with fail;refine j.mono ?_;rintro e c ⟨u,rfl,h,i⟩;subst h;go_wp2;exact bodyPost_ret (by simp [results,results235,go_sem]) rfl ⟨rfl,i⟩
def apM(N M:Nat)(x:aP)(D:List (List Rw))(ok:bV x)(hD:ip x D)(a6:x.ai.length<=6)(r6:x.ay.length<=6)(a:Nat)(ha:a<x.ai)(P:Option Nat)(n:Nat->Option aC)(KC:n a=none)(w:au)(hB:gO x (aT x D) N M w)(hM:dy x M w)(hne:N≠M)(GI:∀W,aZ [M] w W->uQ W (.map P) n):
 Calls prog 175 #[aI N 0,.map P,av a] w fun e j=>∃A c,e= .returned (.slice A (eX x D n a) c)/\(eX x D n a)<=c/\c<=maxLen/\(eX x D n a≠ []->∃g rest,A=dV g 0/\w.heap.size<=g/\aq j g bC ((eX x D n a).map encStr++rest))/\dy x M j/\aZ [M] w j:=by
 have CA:=af (fun W (hX:Ext w W)=>acC N M x D ok hD a6 r6 a P n W (hB.ext hX) (hM.ext hX) hne Om Om (fun W2 U=>GI W2 ((gS hX).trans U)));have HM:=af hM;have d6:=hB.lt;have hpl:=hM.lt;go_enter func175,ntmps175;go_upto_region 1 with fail
 refine aR fun W HX BA=> ?_;have hba:=BA.lt;have ba0:=BA.aF 0;have L1:=af (CA W HX);go_wp2_with fail
 refine L1.mono ?_;rintro e1 r ⟨p,d,wl,w0,cs,J,y,s,C,rfl,o,m,z5,z6,hr,Z,Pk,⟨s1,s2,s3,s4⟩,jT,hc1⟩;have aN:=af o;have HST:=af m;have Lr:=af hr;have HWH:=af Z;have Wz:=Pk a rfl;have jI:=af ((gS HX).trans hc1);have Bt:=af (BA.bX hc1 Oc);obtain⟨B,E⟩:∃B:(Nat->aC)->World->Prop,B=fun f W=>ce (xP n P x D p d wl w0 r cs J N y s C) 13 14 f (fun _=>false) W:=⟨_,rfl⟩;have F:bH p a=fun _=>false:=funext fun b=>Jf Wz;obtain⟨tb,uo⟩:∃tb,tb=(dN.prod (kids x.ai p none) fun c=>vT dN x (aT x D) p (fZ x d) (fun v t=>cH n v t) (fun _=>true) (univ (aT x D)) c fun _=> []):=⟨_,rfl⟩;have yo:ah (tb=true↔jQ x D n):=by rw[uo];exact abD ok hr Z
 obtain⟨X,dC⟩:∃X:aC->Bool,X=fun t=>bT dN x (aT x D) p (fZ x d) (fun v t=>cH n v t) (fun _=>true) (univ (aT x D)) a t fun _=> []:=⟨_,rfl⟩;obtain⟨H,T⟩:∃H,H=io (bu x) (bL (aT x D)) (bM x) n (fun _=>false) (fun _=> []) a:=⟨_,rfl⟩;have auI:ah (jQ x D n->H.filter X=eX x D n a):=fun h=>by rw[T,dC,<-F];exact apK o.wk ha Wz KC h
 have HT:ah (∀W f,B f W->Calls prog 173 #[aI J 0] W fun e j=>e= .returned (.bool tb)/\(∃q,B q j)/\aZ [y,s,C] W j):=(by rw[E,uo];intro W f h;refine(abp o z6 rfl z5 rfl f W h).mono ?_;rintro e j ⟨u,q,rfl,hu,h3,h4⟩;exact⟨by rw[show u=_ from hu];rfl,⟨q,h3⟩,h4⟩);have avj:ah (∀W f,B f W->Calls prog 234 #[aI J 0,av a] W fun e j=>∃A c,e= .returned (.slice A H c)/\H<=c/\c<=maxLen/\(H≠ []->∃g rest,A=dV g 0/\W.heap.size<=g/\aq j g bC (H.map encStr++rest))/\(∃q,B q j)/\aZ [y,s,C] W j):=(by rw[E];intro W f h;have O:=adT _ cs J N y s a x (aT x D) f (fun _=>false) (.map P) n w0 W h.st rfl ha o.cf o.Vn (o.wk.ne a ha) r6 (aV a6 Od) (fun l hl=>aV (Nl hD hl) Od);rw[RM (e':=fun _=> []) Oe,<-T] at O;refine O.mono ?_;rintro e j ⟨A,c,t,rfl,g1,g2,g3,g4,g5⟩;exact⟨A,c,rfl,g1,g2,g3,⟨_,h.sB o g4 g5⟩,g5.mono fun i G _=>by simp only[aK,bJ,or_false] at G⊢;omega⟩);have ox:ah (∀W f t,B f W->t∈H->Calls prog 236 #[aI J 0,av a,aM t] W fun e j=>∃u,e= .returned u/\u= .bool (X t)/\(∃q,B q j)/\aZ [y,s,C] W j):=by
  rw[E,dC];intro W f t h ht;have O:=(UH o z5 rfl x.ai a ha (Mv _ _)).2 t f W (by rw[show(xP n P x D p d wl w0 r cs J N y s C).p=p from rfl,F];exact h) (fun b R=>by rw[show(xP n P x D p d wl w0 r cs J N y s C).p=p from rfl,F] at R;cases R) (by
   show t∈io (bu x) (bL (aT x D)) (bM x) n (bH p a) f a
   rw[F,RM (e':=fun _=> []) Oe,<-T];exact ht)
  refine O.mono ?_;rintro e j ⟨u,q,rfl,hu,h3,_,h5⟩;rw[show(xP n P x D p d wl w0 r cs J N y s C).p=p from rfl,F] at h3;refine⟨u,rfl,?_,⟨q,h3⟩,h5⟩;rw[o.aeX (e:=fun _=> []) ha (fun b R=>by rw[show(xP n P x D p d wl w0 r cs J N y s C).p=p from rfl,F] at R;cases R)] at hu;exact hu
 have HFR:ah (∀W z f g,B f W->Only g W z->r.heap.size<=g->B f z):=by
  rw[E];intro W z f g h k hg;refine h.fresh k (aV m.st.ex.size hg) hg ?_ ?_ ?_ ?_ (fun hv=>hv)
  ·exact Rt (cy m.st.sx.lt hg)
  ·exact Rt (cy m.st.nc.lt hg)
  ·exact Rt (cy m.st.sc.lt hg)
  ·exact Rt (cy m.mem.lt hg)
 have Yk:ah (∀W f,B f W->Kept cK r W/\Kept aS r W):=(by rw[E];exact fun W f h=>⟨h.k1,h.k2⟩);have dS:ah (∀W z f,B f W->Ext W z->B f z):=(by rw[E];exact fun W z f h k=>h.fL o k);have hx1:J<r.heap.size:=m.st.sx.lt;have hx2:y<r.heap.size:=m.st.nc.lt;have hx3:s<r.heap.size:=m.st.sc.lt;have iL:C<r.heap.size:=m.mem.lt;have bB:ah (B (fun _=> []) r):=by rw[E];exact m
 clear E uo dC T o m z5 z6 hr Z Pk hc1 ba0 BA F Wz;go_upto_region 2 with fail
 refine aR fun w2 bk BX=> ?_;have xN:r.heap.size<w2.heap.size:=BX.lt;have bx0:=BX.aF 0;have awd:W.heap.size<=r.heap.size:=Om;go_wp2_with fail
 refine(HT w2 _ (dS _ _ _ bB bk)).mono ?_;rintro e3 w3 ⟨rfl,⟨cu3,hs3⟩,K⟩;have mM:=af ((gS (S:= [y,s,C]) bk).trans K);have tF:=af (BX.bX K axn);have BA3:=af ((Bt.ext bk).bX K axn);have agY:=mM.size;have JS:=K.size;clear bx0 BX K;have L:ah (∀j f,B f j->aZ [y,s,C] r j->dy x M j/\aZ [M] w j):=fun j f h k=>by obtain⟨k1,k2⟩:=Yk j f h;refine⟨jT.keep (k.block _ jT.lt axn) k1 k2,?_⟩;exact((jI.mono (S':= [M,y,s,C]) fun i G _=>by simp only[aK,bJ,or_false] at G⊢;omega).trans (k.mono fun i G _=>by simp only[aK,bJ,or_false] at G⊢;omega)).mono fun i G hlt=>by simp only[aK,bJ,or_false] at G⊢;omega
 cases tb with
 |false=>
  have ht:¬jQ x D n:=fun h=>by have:=yo.2 h;cases this
  obtain⟨g1,g2⟩:=L w3 cu3 hs3 mM;go_wp2_with fail;exact bodyPost_ret (v:= .slice none 0 0) ax9 rfl (by rw[(amf KC ht)];exact⟨none,0,rfl,aL _,aU _,fun h=>absurd rfl h,g1,g2⟩)
 |true=>
  have HO:ah (H.filter X=eX x D n a):=auI (yo.1 rfl);have bx0:=tF.aF 0;have ba0:=BA3.aF 0;go_wp2_with fail
  refine(avj w3 cu3 hs3).mono ?_;rintro e4 V ⟨A4,c4,rfl,hl4,Q,hb4,⟨cu4,Gw⟩,PI⟩;have pE:=af (mM.trans PI);have oC:=af (tF.bX PI axn);have H6:=af (BA3.bX PI axn);by_cases hcb:H= []
  ·subst hcb;have YE:=af (aoQ 235 (fun _ _=>by rfl) (aI r.heap.size 0) (aI w.heap.size 0) A4 c4 V Q);obtain⟨g1,g2⟩:=L V cu4 Gw pE;go_wp2_with fail
   refine YE.mono ?_;rintro e5 w5 ⟨rfl,rfl⟩;go_wp2_with fail;exact bodyPost_ret (v:= .slice A4 0 c4) ax9 rfl (by rw[HO.symm];exact⟨A4,c4,rfl,aU _,Q,fun h=>absurd rfl h,g1,g2⟩)
  ·obtain⟨g,rest,hA4,sT,sV⟩:=hb4 hcb;subst hA4;have LW:=af sV;obtain⟨I,hI⟩:∃I:World->Prop,I=fun z=>(∃f,B f z)/\aZ [y,s,C,g] V z:=⟨_,rfl⟩;have qp:ah (∀z,I z->(∃f,B f z)/\aZ [y,s,C,g] V z):=by rw[ah,hI];exact fun _ h=>h
   have jh:ah (∀z f,B f z->aZ [y,s,C,g] V z->I z):=by rw[ah,hI];exact fun _ f O U=>⟨⟨f,O⟩,U⟩
   have LP:=af (aoR 235 (fun _ _=>by rfl) (aI r.heap.size 0) (aI w.heap.size 0) (fun t=> !X t) I g c4 H rest V (jh V cu4 Gw (.gV (aB V))) sV hl4 Q
    (fun W1 W2 h ho=>by obtain⟨⟨f,O⟩,U⟩:=qp W1 h;exact jh W2 f (HFR W1 W2 f g O ho Om) (U.only ho (.inl Ou)))
    (fun W1 v ys h hv Gr=>by obtain⟨⟨f,O⟩,U⟩:=qp W1 h;have k1:=(oC.bX U axn).aF 0;have k2:=(H6.bX U axn).aF 0;exact an9 r.heap.size w.heap.size J a v (X v) W1 k1 k2 ((ox W1 f v O hv).mono fun e j hh=>by obtain⟨u,e1,e2,⟨q,e3⟩,e4⟩:=hh;exact⟨u,e1,e2,jh.ae j q e3 (U.trans (e4.mono fun i G _=>by simp only[aK,bJ,or_false] at G⊢;omega)),Gr.bX e4 axn⟩)))
   have uM:ah (H.filter (fun v=> !!X v)=eX x D n a):=(by rw[ah,<-HO.ae];exact EQ fun t _=>Bool.not_not _);rw[uM.ae] at LP;have vO:(eX x D n a)<=c4:=by rw[<-HO.ae];exact aV (mP _ _) hl4
   go_wp2_with fail
   refine LP.mono ?_;rintro e5 w5 ⟨rfl,hi5,Y,qZ⟩;obtain⟨⟨PS,hs5⟩,o9⟩:=qp w5 hi5;have KE:aZ [y,s,C] r w5:=((pE.mono (S':= [y,s,C,g]) fun i G _=>by simp only[aK,bJ,or_false] at G⊢;omega).trans o9).mono fun i G hlt=>by simp only[aK,bJ,or_false] at G⊢;omega
   obtain⟨g1,g2⟩:=L w5 PS hs5 KE;go_wp2_with fail;exact bodyPost_ret ax9 rfl ⟨dV g 0,c4,rfl,vO,Q,fun _=>⟨g,Y,rfl,Om,qZ⟩,g1,g2⟩
def kA(w:au)(b:Nat)(a:Nat->Option aC):Prop:=∃m f,dt w aS b m f/\(∀l,(f l).isSome=true->∃v:Nat,v<100/\l= .int .i64 (v:Int))/\∀v:Nat,v<100->f (.int .i64 (v:Int))=(a v).map fun t=> .string ⟨t.toArray⟩
def kA.fxM{d:Nat->Option aC}(h:kA m a d):L0 m a d:=by obtain⟨c,f,g,_,e⟩:=h;exact⟨c,f,g,e⟩
def kA.same{d:Nat->Option aC}(h:kA m a d)(e:n.heap[a]? =m.heap[a]?):kA n a d:=by obtain⟨c,f,j,i,g⟩:=h;exact⟨c,f,j.same e,i,g⟩
def kA.lt{e:Nat->Option aC}(h:kA m a e):a<m.heap.size:=by obtain⟨c,f,d,_⟩:=h;exact d.lt
structure wa(f g:Lit->Option Value)(a:Nat)(t:aC)(left at4:Lit->Bool):Prop where
 at_:g (.int .i64 (a:Int))=some (.string ⟨t.toArray⟩)
 old:∀l,l≠ .int .i64 (a:Int)->left l=false->g l=f l
 new:∀l,l≠ .int .i64 (a:Int)->left l=true->g l=none
 sub:∀l,left l=true->at4 l=true
def wa.key{f g:Lit->Option Value}{t:aC}{left c:Lit->Bool}(h:wa f g a t left c)(k:a<100)(j:∀l,(f l).isSome=true->∃v:Nat,v<100/\l= .int .i64 (v:Int))(l:Lit)(d:(g l).isSome=true):l∈(List.range 100).map fun v:Nat=>Lit.int .i64 (v:Int):=by
 by_cases e:l= .int .i64 (a:Int)
 ·exact b_.2 ⟨a,dL.2 k,e.symm⟩
 ·cases b:left l with
  |true=>rw[h.new l e b] at d;cases d
  |false=>rw[h.old l e b] at d;obtain⟨v,i,rfl⟩:=j l d;exact b_.2 ⟨v,dL.2 i,rfl⟩
def strike{left:Lit->Bool}{l a:Lit}(h:l≠a):(left l&& !l.sameKey a)=left l:=by
 have c:l.sameKey a=false:=by
  cases b:l.sameKey a with
  |false=>rfl
  |true=>exact absurd (WideAt.sameKey_eq b) h
 rw[c,Bool.not_false,Rm]
def wa.skip{f g:Lit->Option Value}{t:aC}{left b:Lit->Bool}(h:wa f g a t left b):wa f g a t (fun z=>left z&& !z.sameKey (.int .i64 (a:Int))) b:=
 ⟨h.at_,fun l d c=>h.old l d (by rwa[strike d] at c),fun l d c=>h.new l d (by rwa[strike d] at c),fun l c=>h.sub l (by rw[cV] at c;exact c.1)⟩
def wa.take{f g:Lit->Option Value}{t:aC}{left b:Lit->Bool}{kl:Lit}(h:wa f g a t left b)(k:kl≠ .int .i64 (a:Int))(j:f kl=some p)(i:WideAt.IsKeyLit kl):wa f (mr g kl p) a t (fun z=>left z&& !z.sameKey kl) b:=
 ⟨by rw[pR k.symm];exact h.at_,fun l d c=>by
  by_cases e:l=kl
  ·rw[e,xg,j]
  ·rw[pR e];exact h.old l d (by rwa[strike e] at c),fun l d c=>by
  by_cases e:l=kl
  ·rw[e,Zw i] at c;simp at c
  ·rw[pR e];exact h.new l d (by rwa[strike e] at c),fun l c=>h.sub l (by rw[cV] at c;exact c.1)⟩
def ane(b a:Nat)(t:aC)(S:Nat->Option aC)(w:au)(h:kA w b S)(ha:a<100):
 Calls prog 176 #[.map (some b),.int .i64 a,.string ⟨t.toArray⟩] w fun e w'=>∃g,e= .returned (.map (some g))/\kA w' g (ew S a t)/\w.heap.size<=g/\Ext w w':=by
 obtain⟨m,f,hm,n,Q⟩:=h;have hbl:=hm.lt;have hmm:= @run_makeMap prog;obtain⟨Z,o,A,I⟩:=(Ct w aS).put lY Jj axu (FO ha) (.string ⟨t.toArray⟩);have U:=af (((aB w).alloc (.map #[] 0)).only I (aL _));have lC:=af A;obtain⟨E,p,hD⟩:=hm.same (U.block b hbl);have HD:=af hD;have sP:w.heap.size<Z.heap.size:=A.lt;have Ex:ah (wa f (mr (fun _=>none) (.int .i64 (a:Int)) (.string ⟨t.toArray⟩)) a t (Maps.has E) (Maps.has E)):=by
  refine⟨xg _ _ _,fun l M d=> ?_,fun l M _=>pR M,fun _ h=>h⟩;rw[pR M];cases P:f l with
  |none=>rfl
  |some u=>obtain⟨v,j,rfl⟩:=n l (by rw[P];rfl);rw[(hD _ (lY.key (FO j))).1,P] at d;cases d
 clear hm A I hD;go_enter func176,ntmps176;go_wp2_with (at_range;refine wpList_range_own _ rfl _ Jz rfl aS bC lY Jj se b m E rfl p ?_);intro w3 H C hs3;have P8:=af H;have cE:=af (U.trans (SP C));have Hh:ah (dt w3 aS w.heap.size 1 (mr (fun _=>none) (.int .i64 (a:Int)) (.string ⟨t.toArray⟩))):=lC.ext (SP C);clear p H C o;have vN:Z.heap.size≠w.heap.size:=Om;have nA:b≠w.heap.size:=Om;generalize Z.heap.size=r at*;go_upto_region 3 with fail
 go_loopw [8,9] (fun _ _ wr=>∃(left:Lit->Bool) (cnt k:Nat) (g:Lit->Option Value),ah (wr.ranges prog aS se b r m E left cnt)/\ah (dt wr aS w.heap.size k g)/\ah (wa f g a t left (Maps.has E))/\ah (Ext w wr)) (fun _ _ wr=>wr.rangeLeft b r)
 exact⟨_,_,_,_,P8,Hh,Ex,cE⟩;obtain⟨left,cnt,k,g,HR,HM,D,HX⟩:=hrel;go_wp2_with (at_next;refine wpList_next_ranges _ rfl _ rfl aS lY se (Value.int .i64) (fun v:Value=>v) (fun key kl hk=>by obtain⟨x,h,_⟩:=Maps.keyOf_int_inv (q:= .i64) Ok hk;exact⟨x,h⟩) (fun v _ _=>⟨v,rfl⟩) b r m E left cnt rfl HR.ae ?_ ?_)
 ·intro hc0 L;have LG:=af L;clear L;have Yw:ah (kA wr w.heap.size (ew S a t)):=by
   refine⟨_,g,HM,fun l M=> ?_,fun v j=> ?_⟩
   ·obtain⟨v,j,e⟩:=b_.1 (D.key ha n l M);exact⟨v,dL.1 j,e.symm⟩
   ·unfold ew;by_cases e:v=a
    ·rw[e,if_pos rfl];exact D.at_
    ·rw[if_neg e,D.old _ (fun h=>by injection h with _ h;omega) (LG _)];exact Q v j
  go_wp2;exact bodyPost_ret (v:= .map (some w.heap.size)) (by simp [results,results176,go_sem]) rfl ⟨w.heap.size,rfl,Yw,aL _,HX⟩
 ·intro x c kl y1 y2 Y axl y hlk j R i hlt B Gw hen;obtain⟨x',e1,e2,_⟩:=Maps.keyOf_int_inv (q:= .i64) Ok y;injection e1 with _ e1;subst e1;have N:=lY.key y;obtain⟨d1,d2⟩:=HD kl N;rw[D.sub kl hlk] at d1;obtain⟨v,F,X⟩:=n kl d1.symm;rw[e2] at X;injection X with _ X;subst X;subst e2;obtain⟨u,G⟩:∃u,f (.int .i64 (v:Int))=some u:=Ib.1 d1.symm;have hc:c=u:=by have d:=d2 u G (.held u);rw[R] at d;unfold se at j;injection j with j;injection j with j _;rw[<-j] at d;injection d
  subst hc;obtain⟨s,hs,rfl⟩:∃s,S v=some s/\c= .string ⟨s.toArray⟩:=by
   have d:=Q v F;rw[G] at d;cases O:S v with
   |none=>rw[O] at d;cases d
   |some s=>rw[O] at d;injection d with d;exact⟨s,rfl,d⟩
  have W:ah (dt Y aS w.heap.size k g):=HM.kept B Oc;have T:ah (Ext w Y):=HX.only B Om;have K:Y.rangeLeft b r<wr.rangeLeft b r:=by rw[i.left_eq,HR.left_eq];exact hlt
  clear d1 d2 R j B hs;by_cases hva:v=a
  ·subst hva;clear G;go_wp2;go_roundw;exact⟨_,_,_,_,(af i),W,(af D.skip),T⟩;exact K
  ·have wJ:=af (D.take (kl:= .int .i64 (v:Int)) (fun h=>by injection h with _ h;omega) G N);obtain⟨w5,o,Kp,z⟩:=(W.bound lY _ (D.key ha n)).put lY Jj (by rw[bP,i7];unfold maxLen;omega) (FO F) (.string ⟨s.toArray⟩);have hne:((v:Int)==(a:Int))=false:=beq_eq_false_iff_ne.2 Om;have V:=af (i.kept z Oc Oc);have d8:=af (T.only z (aL _));have J:w5.rangeLeft b r<wr.rangeLeft b r:=(by have d:=V.left_eq;have h2:=i.left_eq;omega)
   clear z G K;go_wp2;go_roundw;exact⟨_,_,_,_,V,(af Kp),wJ,d8⟩;exact J
abbrev mm:TypeId:=60
abbrev fh:TypeId:=69
structure fj(S:List Nat)(t:TypeId)(a b:au):Prop where
 os:b.os=a.os
 tape:b.tape=a.tape
 output:b.output=a.output
 size:a.heap.size<=b.heap.size
 block:∀i,i<a.heap.size->i∉S->(∀cu fr,a.heap[i]?≠some (.cells cu t fr))->b.heap[i]? =a.heap[i]?
def fj.of{t:TypeId}{b:au}(h:aZ j o b):fj j t o b:=⟨h.os,h.tape,h.output,h.size,fun i d c _=>h.block i d c⟩
def fj.trans{S:List Nat}{t:TypeId}{b c:au}(h:fj S t o b)(k:fj S t b c):fj S t o c:=⟨k.os.trans h.os,k.tape.trans h.tape,k.output.trans h.output,aV h.size k.size,fun i e d f=>by have j:=h.block i e d f;exact(k.block i (cy e h.size) d fun q p=>by rw[j];exact f q p).trans j⟩
def aq.Dx{t a:TypeId}{w w':au}{g:Nat}{l:List Value}(h:aq w g a l)(k:fj i t w w')(c:g∉i)(b:a≠t):aq w' g a l:=(k.block g h.lt c fun f d e=>by unfold aq at h;rw[h] at e;injection e with e;injection e with _ e;exact b e).trans h
def kA.Dx{t:TypeId}{w w':au}{fx:Nat->Option aC}(h:kA w a fx)(k:fj i t w w')(f:a∉i):kA w' a fx:=h.same (k.block a h.lt f fun p j e=>by obtain⟨_,_,⟨D,⟨o,c,d,_⟩,_⟩,_⟩:=h;rw[d] at e;injection e with e;cases e)
def abz{t:aH}:∀{l:List Nat} {k:List aH} {fx:Nat->Option aH} (h:k.length<l.length),dO fx l (k++ [t])=ew (dO fx l k) l[k.length] t
 | [],_,_,h=>absurd h (Mu _)
 |a::l,[],fx,_=>by cases l<;>rfl
 |a::l,y::k,fx,h=>by
  show dO (ew fx a y) l (k++ [t])=_
  rw[abz axF];rfl
abbrev Ow:TypeId:=183
structure Hv(x:aP)(D:List (List Rw))(jb pb ob:Nat)(attrs:List Nat)(Aa:aQ)(ca b2 b3 b4 b5:Nat)(vf:FuncId)(v1 v2 v3 v4 v5:Value)(I:List (List aC)->World->Prop)(Wg:au):Prop where
 ok:bV x
 hD:ip x D
 a6:x.ai.length<=6
 r6:x.ay.length<=6
 ne:jb≠pb
 hI:∀done W,I done W->fj [pb,ob] fh Wg W
 hK:∀done W W',I done W->fj [pb,ob] fh W W'->∀t,t≠mm->t≠fh->Kept t W W'
 hS:∀done W W',I done W->aZ [pb] W W'->dy x pb W'->I done W'
 hJ:∀done W,I done W->dy x pb W
 hB:∀done W,I done W->gO x (aT x D) jb pb W
 hA:∀done W,I done W->IL W (.slice Aa attrs.length ca) (ints attrs)
 iv:∀args w,(callFunc vf args).run prog w= .ok (.enter vf args) w
 hv:∀done k b W A c,I done W->kA W b (dO (fun _=>none) attrs k)->Wg.heap.size<=b->k.length=attrs.length->done.length<2000->TL W (.slice A k.length c) k->
  Calls prog vf #[.slice A k.length c,.map (some b),v1,v2,v3,v4,v5] W fun e w'=>e= .returned (.bool true)/\I (done++ [k]) w'/\fj [pb,ob] fh W w'
 c2:aq Wg b2 22 [.slice Aa attrs.length ca]
 c3:aq Wg b3 Ow [.func (.func vf) #[] #[v1,v2,v3,v4,v5]]
 c4:aq Wg b4 98 [aI jb 0]
 c5:aq Wg b5 Ow [.func (.func 174) #[] #[aI b2 0,aI b3 0,aI b4 0,aI b5 0]]
 lb:b2<Wg.heap.size/\b3<Wg.heap.size/\b4<Wg.heap.size/\b5<Wg.heap.size
 nb:(b2≠pb/\b2≠ob)/\(b3≠pb/\b3≠ob)/\(b4≠pb/\b4≠ob)/\b5≠pb/\b5≠ob
 lo:pb<Wg.heap.size/\ob<Wg.heap.size
 nd:attrs.Nodup
 lt:∀a∈attrs,a<x.ai.length
 le:attrs.length<=4
section
variable{x:aP}{D:List (List Rw)}{jb pb ob:Nat}{attrs:List Nat}{Aa:aQ}{ca b2 b3 b4 b5:Nat}{vf:FuncId}{v1 v2 v3 v4 v5:Value}{I:List (List aC)->World->Prop}{Wg:au}
theorem Hv.cells(h:Hv x D jb pb ob attrs Aa ca b2 b3 b4 b5 vf v1 v2 v3 v4 v5 I Wg)(k:fj [pb,ob] fh Wg o):aA o b2 0 (.slice Aa attrs.length ca)/\aA o b3 0 (.func (.func vf) #[] #[v1,v2,v3,v4,v5])/\aA o b4 0 (aI jb 0)/\
 aA o b5 0 (.func (.func 174) #[] #[aI b2 0,aI b3 0,aI b4 0,aI b5 0]):=by
 obtain⟨s,r,q,p⟩:=h.lb;obtain⟨⟨j,i⟩,⟨f,e⟩,⟨d,c⟩,b,a⟩:=h.nb;exact⟨(h.c2.Dx k (by simp [j,i]) Od).cell rfl,(h.c3.Dx k (by simp [f,e]) Od).cell rfl,(h.c4.Dx k (by simp [d,c]) Od).cell rfl,(h.c5.Dx k (by simp [b,a]) Od).cell rfl⟩
def OQ(x:aP)(D:List (List Rw))(pb ob:Nat)(attrs:List Nat)(b2 b3 b4 b5:Nat)(I:List (List aC)->World->Prop)(Wg:au)(a:List aC):Prop:=∀done b W A c,I done W->kA W b (dO (fun _=>none) attrs a)->Wg.heap.size<=b->TL W (.slice A a.length c) a->
 done.length+(ik (eX x D) (attrs.drop a.length) (dO (fun _=>none) attrs a)).length<=2000->
 Calls prog 174 #[.slice A a.length c,.map (some b),aI b2 0,aI b3 0,aI b4 0,aI b5 0] W fun e w'=>e= .returned (.bool true)/\I (done++(ik (eX x D) (attrs.drop a.length) (dO (fun _=>none) attrs a)).map fun q=>a++q) w'/\fj [pb,ob] fh W w'
theorem ajO(h:Hv x D jb pb ob attrs Aa ca b2 b3 b4 b5 vf v1 v2 v3 v4 v5 I Wg){a:List aC}(P:a.length=attrs.length):OQ x D pb ob attrs b2 b3 b4 b5 I Wg a:=by
 intro done b W A c hI hF hb hT i;have hd:attrs.drop a.length= []:=Ic Om;have z:ik (eX x D) (attrs.drop a.length) (dO (fun _=>none) attrs a)= [[]]:=by rw[hd];rfl
 rw[z] at i⊢;have e0:([[]]:List (List aC)).map (fun q=>a++q)= [a]:=Ou;rw[e0];have f:done.length<2000:=by have h1:done.length+1<=2000:=i;omega
 have J:=af h;have hW:=h.hI done W hI;obtain⟨d2,d3,d4,d5⟩:=h.cells hW;have a4:=h.le;have Kv:=h.iv;have V:=af (fun d (j:Ext W d)=>abn A a.length c a d (eB hT j) Om);have U:=af (fun d X Q (j:Ext W d) (F:TL d (.slice X a.length Q) a)=>h.hv done a b d X Q (h.hS done W d hI (.gV j) ((h.hJ done W hI).ext j)) (hF.same (j.block _ hF.lt)) hb P f F);rw[P] at V U⊢;go_enter func174,ntmps174;go_upto_region 2 with fail
 refine cG (S:=fun w'=>aA w' b3 0 (.func (.func vf) #[] #[v1,v2,v3,v4,v5])) (T:=fun _=>false) Ok ?_;have bK:ah (∀w':World,aA w' b3 0 (.func (.func vf) #[] #[v1,v2,v3,v4,v5])->aA w' b3 0 (.func (.func vf) #[] #[v1,v2,v3,v4,v5])):=fun _ h=>h;have aJ:ah (aA W.drew b3 0 (.func (.func vf) #[] #[v1,v2,v3,v4,v5])):=d3;have R:=af (aB W).drew;have y:b3<W.drew.heap.size:=cy J.lb.2.1 hW.size;generalize W.drew=Y at*;refine ax 0 17 ?_;refine ax 1 18 ?_;refine ax 3 20 ?_;have N:=af (V Y R);refine aO 2 ?_;intro K G;go_simp;refine N.mono ?_;rintro e3 O ⟨A3,c3,rfl,E,e⟩;have bB:ah (aA O b3 0 (.func (.func vf) #[] #[v1,v2,v3,v4,v5])):=(e.cell (p:=aD b3 0) y).trans aJ.ae;have r:=af (R.trans e);have M:=af (U O A3 c3 r E);refine G.ae _ _ (fun _=>bB.ae) ?_;refine aO 4 ?_;intro K G;go_simp;refine M.mono ?_;rintro e4 Z ⟨rfl,o,C⟩;have H:=af o;have L:=af ((fj.of (gS r)).trans C);have s:=J.hI _ Z o;have aJ:=af ((J.cells s).2.1);refine G.ae _ _ (fun _=>aJ.ae) ?_;refine ax 5 8 ?_;refine bY Ok ?_;go_wp2_with fail
 exact bodyPost_ret (by simp [results,results174,go_sem]) rfl ⟨rfl,H,L⟩
theorem aby:∀{l:List Nat} {k:List aH} {fx:Nat->Option aH},dO fx l k=dO fx (l.take k.length) k
 | [],k,fx=>by rw[List.take_nil]
 |a::l,[],fx=>by rw[uY,kG];rfl
 |a::l,y::k,fx=>by
  rw[cT,QZ];show dO (ew fx a y) l k=dO (ew fx a y) (l.take k.length) k
  exact aby
theorem aa8{b:(Nat->Option aH)->Nat->List aH}{l:List Nat}{fx:Nat->Option aH}:ik b (a::l) fx=(b fx a).flatMap fun x=>(ik b l (ew fx a x)).map fun k=>x::k:=rfl
theorem abe{α β:Type}{f:α->List β}{l:List α}{k:Nat}(a:k<l.length):(l.take (k+1)).flatMap f=(l.take k).flatMap f++f l[k]:=by rw[fR a,EN,uV,ZP,j5]
theorem amQ{α β:Type}{f:α->List β}(l:List α)(k:Nat):((l.take k).flatMap f).length<=(l.flatMap f).length:=by have h:=congrArg (fun l=>(l.flatMap f).length) (tH k l);simp only[EN,bD] at h;omega
theorem ac'{w:au}{B B' k n:Nat}{t:TypeId}{v:Value}{xs:List Value}(h:w.ownsRow B t k v n xs)(i:B'<=B):w.ownsRow B' t k v n xs:=by
 obtain⟨d,a⟩:=h;rcases a with a|⟨g,c,b,e,f,j⟩
 ·exact⟨d,.inl a⟩
 ·exact⟨d,.inr ⟨g,c,b,e,aV i f,j⟩⟩
def J1(l:Bool)(B n:Nat)(xs:List Value)(v:Value)(w:au):Prop:=l=true->w.ownsRow B bC 1 v n xs
def J2(l:Bool)(g:Nat)(t:aC)(w:au):Prop:=l=true->aq w g bC [aM t]
def OS(B n:Nat)(xs:List Value)(v:Value)(w:au):Prop:=w.ownsRow B bC 1 v n xs
def FxQ(B g:Nat)(fx:Nat->Option aC)(w:au):Prop:=kA w g fx/\B<=g
section
variable{w w':au}{l:Bool}{B B' k n m g:Nat}{xs ys:List Value}{v u:Value}{t:aC}{fx:Nat->Option aC}{tt:TypeId}
theorem J1.ext(h:J1 l B n xs v w)(k:Ext w w'):J1 l B n xs v w':=fun e=>C8 (h e) k
theorem J2.ext(h:J2 l g t w)(k:Ext w w'):J2 l g t w':=fun e=>(h e).ext k
theorem OS.ext(h:OS B n xs v w)(k:Ext w w'):OS B n xs v w':=C8 h k
end
theorem aqv{w:au}{B:Nat}{b:List aC}{t:aC}(h:w.ownsRow B bC 1 (.slice E (b.length+1) a) (b.length+1) (b.map encStr++ [aM t])):TL w (.slice E (b++ [t]).length a) (b++ [t]):=by
 have e:b.length+1=(b++ [t]).length:=ayO;rw[e] at h;refine Ng h ?_;clear h e;induction b with
 |nil=>exact⟨[aM t],[],rfl,rfl,rfl⟩
 |cons s b d=>exact⟨[encStr s],b.map encStr++ [aM t],rfl,rfl,d⟩
theorem ajN(h:Hv x D jb pb ob attrs Aa ca b2 b3 b4 b5 vf v1 v2 v3 v4 v5 I Wg){kp:List aC}(Z:kp.length<attrs.length)(ih:∀t,OQ x D pb ob attrs b2 b3 b4 b5 I Wg (kp++ [t])):OQ x D pb ob attrs b2 b3 b4 b5 I Wg kp:=by
 intro done b W A c hI hF hb hT P;have hda:=jK Z;have Xc:=h.lt _ (a8 Z);have J:dO (fun _=>none) attrs kp attrs[kp.length]=none:=by rw[aby];refine abA (fun hm=> ?_) rfl;obtain⟨j,hj,e⟩:=iE hm;rw[EP] at e;rw[cO] at hj;have:=(List.getElem_inj h.nd).1 e;omega
 have hac:attrs[kp.length]<100:=by have:=h.a6;omega
 have N:=af (fun t=>abz (t:=t) (fx:=fun _=>none) Z);rw[hda,aa8] at P⊢;have HE:=af h;have hW:=h.hI done W hI;obtain⟨d2,d3,d4,d5⟩:=h.cells hW;obtain⟨gA,oA,hAa,hcA⟩:=nO (h.hA done W hI) Z (jp aS W);subst hAa;have a4:=h.le;have CO:=af (apM jb pb x D h.ok h.hD h.a6 h.r6 attrs[kp.length] Xc (some b) (dO (fun _=>none) attrs kp) J W (h.hB done W hI) (h.hJ done W hI) h.ne (fun C hc=>L0.look (hF.same (hc.block b hF.lt (by have:=h.lo;simp;omega))).fxM));have U:=af hI;have HF:=af hF;have hdk:((kp.length:Int)==(attrs.length:Int))=false:=beq_eq_false_iff_ne.2 Om;have lR:=(bl (h.hA done W hI)).2;have HIH:ah (∀t done b W A c,I done W->kA W b (ew (dO (fun _=>none) attrs kp) attrs[kp.length] t)->Wg.heap.size<=b->TL W (.slice A (kp++ [t]).length c) (kp++ [t])->done.length+(ik (eX x D) (attrs.drop (kp.length+1)) (ew (dO (fun _=>none) attrs kp) attrs[kp.length] t)).length<=2000->
  Calls prog 174 #[.slice A (kp++ [t]).length c,.map (some b),aI b2 0,aI b3 0,aI b4 0,aI b5 0] W fun e w'=>e= .returned (.bool true)/\I (done++(ik (eX x D) (attrs.drop (kp.length+1)) (ew (dO (fun _=>none) attrs kp) attrs[kp.length] t)).map fun q=>(kp++ [t])++q) w'/\fj [pb,ob] fh W w'):=by
  intro t done b W A c h1 h2 h3 h4 h5;have h6:=ih t done b W A c h1 (by rw[N.ae t];exact h2) h3 h4 (by rw[N.ae t,bD];exact h5);rw[N.ae t] at h6;have e:attrs.drop (kp++ [t]).length=attrs.drop (kp.length+1):=ayO;rw[e] at h6;exact h6
 have awB:kp.length<=4:=Om;obtain⟨-,hTc,hTA,xs,hTs,Q⟩:=adi hT;have hxs:=Up Q;subst hxs;have CL:=af (fun C (hs:Sl C bC A (kp.map encStr))=>abm A kp.length c (kp.map encStr) C hTA hs (by rw[bP,lF]) hTc (fun u hu=>by obtain⟨s,_,rfl⟩:=b_.1 hu;rfl) Om)
 have Lh:=af hTs;generalize dO (fun _=>none) attrs kp=fx at*;generalize attrs.drop (kp.length+1)=R at*;generalize attrs[kp.length]=a at*;generalize eX x D fx a=d at*;obtain⟨G,hG⟩:∃G:aC->List (List aC),G=fun t=>((ik (eX x D) R (ew fx a t)).map fun q=>t::q).map fun q=>kp++q:=⟨_,rfl⟩;have hGL:(d.flatMap G).length=(d.flatMap fun y=>(ik (eX x D) R (ew fx a y)).map fun k=>y::k).length:=(by rw[hG,<-List.map_flatMap,bP])
 have HGE:ah ((d.flatMap fun y=>(ik (eX x D) R (ew fx a y)).map fun k=>y::k).map (fun q=>kp++q)=d.flatMap G):=by rw[ah,hG,List.map_flatMap]
 rw[<-hGL] at P;rw[HGE.ae];have Ys:ah (∀t,(ik (eX x D) R (ew fx a t)).map (fun q=>(kp++ [t])++q)=G t):=fun t=>by rw[hG];simp only[rK];refine kW fun q _=> ?_;simp
 have HGN:ah (∀t,(ik (eX x D) R (ew fx a t)).length=(G t).length):=fun t=>by rw[hG];simp
 go_enter func174,ntmps174;go_wp2_with fail;refine CO.mono ?_;rintro e1 F ⟨A1,c1,rfl,D2,jT,hb1,D3,M⟩;have D1:=HE.lo;have hWs:=hW.size;have awq:d.length<=9223372036854775807:=by unfold maxLen at jT;omega
 have O:ah (fj [pb,ob] fh W F):= .of<|M.mono fun i hi _=>by simp only[aK,bJ,or_false] at hi⊢;omega
 have Ex:ah (I (done++(d.take 0).flatMap G) F):=(by rw[ah,kG,ZP,j5];exact HE.hS done W F U M D3);have Qu:=af hb1;have HCr:ah (fj [pb,ob] fh F F):= .of (.gV (aB F));have awk:=M.size;go_upto_region 5 with fail
 go_loopw [11,32] (fun _ H wr=>∃k:Nat,k<=d.length/\H=av k/\ah (I (done++(d.take k).flatMap G) wr)/\ah (fj [pb,ob] fh F wr)) (fun _ H _=>d.length - (RowKit.intOf H).toNat)
 exact⟨0,aU _,rfl,Ex,HCr⟩;obtain⟨k,Am,rfl,HI,HC⟩:=hrel;by_cases r:k<d.length
 ·obtain⟨g,rest,ko,sT,sV⟩:=Qu (fun e=>by rw[e] at r;exact absurd r (Mu _));subst ko;have PQ:=sV.Dx HC axn Od;have L:(d.map encStr++rest)[k]? =some (aM d[k]):=(by rw[oD (by rw[bP];exact r),dK,aX r];rfl)
  have e3:=PQ.cell L;have fQ:ah (done++(d.take (k+1)).flatMap G=(done++(d.take k).flatMap G)++G d[k]):=by rw[ah,abe r,jk]
  have Ve:(done++(d.take k).flatMap G).length+(G d[k]).length<=2000:=(by have h1:=amQ (f:=G) d (k+1);rw[abe r,bD] at h1;rw[bD];omega);have GM:=HE.hI _ wr HI;obtain⟨d2,d3,d4,d5⟩:=HE.cells GM;have tj:=af (HE.hK done W wr U (O.trans HC) bC Od Od);have V:ah (kA wr b fx):=HF.Dx (O.trans HC) (by simp only[aK,bJ,or_false];have:=HF.lt;omega);generalize d[k]=t at*;generalize done++(d.take k).flatMap G=dn at*;have X:=af (fun C (hX:Ext wr C)=>CL C ((Lh.keep tj).ext hX));have CWr:=af (fun C (hX:Ext wr C)=>ane b a t fx C (V.same (hX.block b V.lt)) hac);go_upto_region 7 with fail
  have bK:ah (∀w':World,aA w' b5 0 (.func (.func 174) #[] #[aI b2 0,aI b3 0,aI b4 0,aI b5 0])->aA w' b5 0 (.func (.func 174) #[] #[aI b2 0,aI b3 0,aI b4 0,aI b5 0])):=fun _ h=>h;have WH:=cy HE.lb.2.2.2 GM.size;have cF:ah (∀w':World,Ext wr w'->aA w' b5 0 (.func (.func 174) #[] #[aI b2 0,aI b3 0,aI b4 0,aI b5 0])):=fun w' h=>(h.cell WH).trans d5;have aJ:=af (cF _ (aB wr).drew);refine cG (S:=fun w'=>aA w' b5 0 (.func (.func 174) #[] #[aI b2 0,aI b3 0,aI b4 0,aI b5 0])) (T:=fun _=>false) Ok ?_;have HX:=af (aB wr).drew;generalize wr.drew=wd at*;refine ax 0 36 ?_;refine ax 1 37 ?_;refine ax 3 39 ?_;refine ax 6 42 ?_;refine ax 7 43 ?_;refine ax 8 44 ?_;have dC:(kp.length+1)*16<=140737488355328:=Om;refine FJ 2 4 Ok ?_ ?_
  ·intro o ho K hK;simp only[eR,dX,dA,dl] at ho;subst ho;go_simp;refine(X _ HX).mono ?_;rintro eC wC ⟨vC,rfl,z,p⟩;have HO:ah (J1 true wr.heap.size kp.length (kp.map encStr) vC wC):=fun _=>ac' z HX.size;have HX:=af (HX.trans p);clear z p;refine hK.ae _ _ (fun _=>cF _ HX) ?_;clear hK;refine jM 4 Ok ?_;intro o ho K hK;simp only[eR,dX,dA,dl] at ho;subst ho;go_simp;refine hK.ae _ _ (fun _=>cF _ (HX.alloc _)) ?_;refine aR fun WZ E Y=> ?_;have HO:=af (HO.ext (E.ae));have BN:ah (J2 true _ t WZ):=fun _=>Y.ae;have HX:=af (HX.trans E);clear hK Y;exact m13
  ·intro o ho K hK;simp only[eR,dX,dA,dl] at ho;subst ho;go_simp;refine hK.ae _ _ (fun _=>cF _ (HX.alloc _)) ?_;refine aR fun WZ E Y=> ?_;have BN:ah (J2 true _ t WZ):=fun _=>Y.ae;have HX:=af (HX.trans E);clear hK Y;refine jM 2 Ok ?_;intro o ho K hK;simp only[eR,dX,dA,dl] at ho;subst ho;go_simp;refine(X _ HX).mono ?_;rintro eC wC ⟨vC,rfl,z,p⟩;have HO:ah (J1 true wr.heap.size kp.length (kp.map encStr) vC wC):=fun _=>ac' z HX.size;have BN:=af (BN.ext (p));have HX:=af (HX.trans p);clear z p;refine hK.ae _ _ (fun _=>cF _ HX) ?_;clear hK;exact m13
 ·obtain rfl:k=d.length:=Om;have d1:=aW;have HIf:ah (I (done++d.flatMap G) wr):=(by have h:=HI.ae;rwa[fB] at h)
  have Bf:=af (O.trans HC);go_wp2_with fail;exact bodyPost_ret (by simp [results,results174,go_sem]) rfl ⟨rfl,HIf,Bf⟩
theorem abo(h:Hv x D jb pb ob attrs Aa ca b2 b3 b4 b5 vf v1 v2 v3 v4 v5 I Wg):∀(n:Nat) (a:List aC),a.length+n=attrs.length->OQ x D pb ob attrs b2 b3 b4 b5 I Wg a
 |0,_,e=>ajO h Om
 |n+1,a,e=>ajN h Om fun t=>abo h n (a++ [t]) (by rw[bD];simp;omega)
end
structure YW(x:aP)(D:List (List Rw))(jb pb ob:Nat)(attrs:List Nat)(Aa:aQ)(ca:Nat)(vf:FuncId)(v1 v2 v3 v4 v5:Value)(I:List (List aC)->World->Prop)(w:au):Prop where
 ok:bV x
 hD:ip x D
 a6:x.ai.length<=6
 r6:x.ay.length<=6
 ne:jb≠pb
 h0:∀W,aZ [pb] w W->dy x pb W->I [] W
 hK:∀done W W',I done W->fj [pb,ob] fh W W'->∀t,t≠mm->t≠fh->Kept t W W'
 hS:∀done W W',I done W->aZ [pb] W W'->dy x pb W'->I done W'
 hJ:∀done W,I done W->dy x pb W
 hB:∀done W,I done W->gO x (aT x D) jb pb W
 hA:∀done W,I done W->IL W (.slice Aa attrs.length ca) (ints attrs)
 iv:∀args w,(callFunc vf args).run prog w= .ok (.enter vf args) w
 hv:∀done k b W A c,I done W->kA W b (dO (fun _=>none) attrs k)->w.heap.size<=b->k.length=attrs.length->done.length<2000->TL W (.slice A k.length c) k->
  Calls prog vf #[.slice A k.length c,.map (some b),v1,v2,v3,v4,v5] W fun e w'=>e= .returned (.bool true)/\I (done++ [k]) w'/\fj [pb,ob] fh W w'
 lo:pb<w.heap.size/\ob<w.heap.size
 nd:attrs.Nodup
 lt:∀a∈attrs,a<x.ai.length
 le:attrs.length<=4
def aq.Vo{w:au}{c:TypeId}(h:aq w a c t)(k:aZ i w m)(e:∀b∈i,b≠a):aq m a c t:=h.bX k fun d=>e a d rfl
section
variable{x:aP}{D:List (List Rw)}{jb pb ob:Nat}{attrs:List Nat}{Aa:aQ}{ca:Nat}{vf:FuncId}{v1 v2 v3 v4 v5:Value}{I:List (List aC)->World->Prop}{w:au}
theorem YW.enter(h:YW x D jb pb ob attrs Aa ca vf v1 v2 v3 v4 v5 I w){b2 b3 b4 b5:Nat}(k:aZ [pb] w m)(L:w.heap.size<=b2)(K:w.heap.size<=b3)(J:w.heap.size<=b4)(H:w.heap.size<=b5)
 (C:aq m b2 22 [.slice Aa attrs.length ca]) (B:aq m b3 Ow [.func (.func vf) #[] #[v1,v2,v3,v4,v5]]) (z:aq m b4 98 [aI jb 0])
 (y:aq m b5 Ow [.func (.func 174) #[] #[aI b2 0,aI b3 0,aI b4 0,aI b5 0]])
 (p:b2<m.heap.size) (o:b3<m.heap.size) (n:b4<m.heap.size) (l:b5<m.heap.size):
 Hv x D jb pb ob attrs Aa ca b2 b3 b4 b5 vf v1 v2 v3 v4 v5 (fun done W=>I done W/\fj [pb,ob] fh m W) m:=by
 obtain⟨G,F⟩:=h.lo;have f:=k.size;refine⟨h.ok,h.hD,h.a6,h.r6,h.ne,fun _ _ q=>q.2,fun d W g q r=>h.hK d W g q.1 r,fun d W g q r s=>⟨h.hS d W g q.1 r s,q.2.trans (.of (r.mono fun i j _=> ?_))⟩,fun d W q=>h.hJ d W q.1,fun d W q=>h.hB d W q.1,fun d W q=>h.hA d W q.1,h.iv,fun d k b W A c q r s t u v=> ?_,C,B,z,y,⟨p,o,n,l⟩,?_,⟨by omega,by omega⟩,h.nd,h.lt,h.le⟩
 ·simp only[aK,bJ,or_false] at j⊢;exact .inl j
 ·refine(h.hv d k b W A c q.1 r (aV f s) t u v).mono ?_;rintro e E ⟨rfl,a,b⟩;exact⟨rfl,⟨a,q.2.trans b⟩,b⟩
 ·exact⟨⟨by omega,by omega⟩,⟨by omega,by omega⟩,⟨by omega,by omega⟩,by omega,by omega⟩
theorem aq.fM{w:au}{t:TypeId}(h:aq w a t [p])(u:Value):∃b,w.setCell (aD a 0) u=b/\aq b a t [u]/\Only a w b:=⟨_,rfl,h.bh 0 u,(gD a w).bh 0 u⟩
theorem SZ{f:Nat->Option aC}:dO f i []=f:=by cases i<;>rfl
theorem akM(h:YW x D jb pb ob attrs Aa ca vf v1 v2 v3 v4 v5 I w)(hB:gO x (aT x D) jb pb w)(hM:dy x pb w)(H:(ik (eX x D) attrs fun _=>none).length<=2000):
 Calls prog 99 #[aI jb 0,.slice Aa attrs.length ca,.func (.func vf) #[] #[v1,v2,v3,v4,v5]] w fun e Y=>e= .returned (.tuple #[])/\(jQ x D (fun _=>none)->I (ik (eX x D) attrs fun _=>none) Y)/\(¬jQ x D (fun _=>none)->I [] Y)/\fj [pb,ob] fh w Y:=by
 have X:=af h;have CA:=af (fun W (M:Ext w W)=>acC jb pb x D h.ok h.hD h.a6 h.r6 (-1) none (fun _=>none) W (hB.ext M) (hM.ext M) h.ne Om Om (fun W2 _=>uQ.nil W2));have HL:=af H;obtain⟨lp,lo⟩:=h.lo;clear hB hM h H;go_enter func99,ntmps99;go_upto_region 1 with fail
 refine vG fun W V B4 B2 B3=> ?_;have hb3:=B3.lt;have b40:=B4.aF 0;have L1:=af (CA W V);go_wp2_with fail
 refine L1.mono ?_;rintro e1 T ⟨p,d,wl,w0,cs,xb,nb,Z,kb,rfl,F,k,z5,z6,hr,C,Pk,⟨s1,s2,s3,s4⟩,G,L⟩;have HT:=af (abp F z6 rfl z5 rfl _ _ k);have HU:=af (fun(u:Value) (U:u=Value.bool _)=>(⟨_,abD X.ok hr C,U⟩:∃tv:Bool,(tv=true↔jQ x D fun _=>none)/\u=Value.bool tv));have S:=af G;have jI:=af L;have D2:nb<T.heap.size/\Z<T.heap.size/\kb<T.heap.size:=⟨k.st.nc.lt,k.st.sc.lt,k.mem.lt⟩;clear F k z5 z6 hr C Pk G L b40;go_wp2_with fail
 refine HT.mono ?_;rintro e2 o ⟨u,axk,rfl,U,j,m⟩;have m:aZ [nb,Z,kb] T o:=m;obtain⟨tv,E,hut⟩:=HU u U;subst hut;have R:ah (dy x pb o):=S.keep (m.block _ S.lt axn) j.k1 j.k2;have f:ah (aZ [pb] W o):=(jI.mono (S':= [pb,nb,Z,kb]) fun i a _=>by simp only[aK,bJ,or_false] at a⊢;omega).trans (m.mono fun i a _=>by simp only[aK,bJ,or_false] at a⊢;omega)|>.mono fun i a hl=>by simp only[aK,bJ,or_false] at a⊢;omega
 have Q:=af E;clear D2 U j m E;cases tv with
 |false=>
  have hI:=X.h0 o ((gS V).trans f.ae) R;have HF:=af hI;have y:ah (fj [pb,ob] fh w o):= .of<|((gS V).trans f.ae).mono fun i a _=>by simp only[aK,bJ,or_false] at a⊢;omega
  clear hI;go_wp2_with fail;exact bodyPost_ret (v:= .tuple #[]) (by simp [results,results99,go_sem]) rfl ⟨rfl,fun ht=>absurd (Q.2 ht) Ou,fun _=>HF.ae,y⟩
 |true=>
  have xN:=f.size;have Q4:=af (B4.Vo f axN);have Q2:=af (B2.Vo f axN);have Q3:=af (B3.Vo f axN);go_upto_region 3 with fail
  refine aR fun W5 g B=> ?_;have zW:=g.size;have qZ:=B.lt;have f5:=B.frozen 0;generalize sU:o.heap.size=b5 at*;have p5:=B.aF 0;obtain⟨n,N,P,r⟩:=B.fM (.func (.func 174) #[] #[aI (w.heap.size+1) 0,aI (w.heap.size+1+1) 0,aI w.heap.size 0,aI b5 0]);have HW6:=af N;have A:=af P;have c:=af r;have xX:=r.size;clear N P r;go_upto_region 4 with fail
  rw[HW6.ae];have h52:o.heap.size<=b5:=Om;have z:ah (aZ [pb] w n):=((((gS V).trans f.ae).ext g.ae).only c.ae (.inr Om));have k4:=(Q4.ext g).only c.ae Om;have k2:=(Q2.ext g).only c.ae Om;have k3:=(Q3.ext g).only c.ae Om;have c5:=A.aF 0;have l5:=A.lt;have hE:=X.enter z (b2:=w.heap.size+1) (b3:=w.heap.size+1+1) (b4:=w.heap.size) (b5:=b5) Om Om Om Om k2 k3 k4 A Om Om Om l5;have s:dy x pb n:=(R.ext g).keep (c.block pb Om Oc) (vo c B Od) (vo c B Od);have O:=X.h0 n z s;have CC:=af (fun W b (M:Ext n W) (hF:kA W b fun _=>none) (hb:n.heap.size<=b)=>abo hE attrs.length [] Ou [] b W none 0 (hE.hS [] n W ⟨O,.of (.gV (aB _))⟩ (.gV M) (s.ext M)) (by rw[SZ];exact hF) hb Ls.nil (by rw[SZ];simpa using HL.ae));clear k2 k3 k4 hE s O p5 f5 B;have hmm:= @run_makeMap prog;have CC2:=af (CC (n.alloc (.map #[] 0)) n.heap.size ((aB n).alloc _) ⟨_,_,Ct n aS,fun l hl=>(by cases hl),fun v hv=>rfl⟩ (aL _));go_wp2_with fail
  refine CC2.mono ?_;rintro e7 w7 ⟨rfl,⟨t,K⟩, -⟩;have J:(ik (eX x D) (attrs.drop ([]:List aC).length) (dO (fun _=>none) attrs [])).map (fun q=>([]:List aC)++q)=ik (eX x D) attrs fun _=>none:=by rw[SZ];exact List.map_id' _
  rw[tL,J] at t;have yE:=af t;have y:ah (fj [pb,ob] fh w w7):=(fj.of (z.mono fun i a _=>by simp only[aK,bJ,or_false] at a⊢;omega)).trans K;clear t K J;go_wp2_with fail
  exact bodyPost_end (results_none rfl _ _ _) rfl ⟨rfl,fun _=>yE.ae,fun hn=>absurd (Q.1 trivial) hn,y⟩
end
end Go.Proofs.YtehkcnbodcdijaaGreatDoor
