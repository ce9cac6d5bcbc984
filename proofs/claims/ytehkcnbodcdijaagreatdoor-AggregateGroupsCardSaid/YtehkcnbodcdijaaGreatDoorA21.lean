/- Texts of the proof, part 21. -/
import Derived.Test.YtehkcnbodcdijaaGreatDoorA20
namespace Go.Proofs.YtehkcnbodcdijaaGreatDoor
set_option maxHeartbeats 8000000
set_option linter.all false
set_option maxRecDepth 100000
variable{ar:Prop}
open Go.RowKit Go.Lib Go.Maps Go.ChangeShapes Go.WideShapes Go.ChangeAt Go.Proofs.Tryz
variable{a b c d e f g h:Nat}{i j k l:List Nat}{m n o:World}{p q r s:Value}{t u v:List Value}{w x:TypeId}{y z:Nat→Option Nat}{A:Nat→List Nat}{B C:Int}{E F:Option Addr}{H I:Rat}{J:Nat→Nat}{K:Nat→Bool}{L:List Int}{N:Array Bool}{O:Option Nat}{Q:Act}{R S:Bool}{T:List UInt8}
section
variable{adj:Nat->Nat->Prop}
noncomputable def iJ(adj:Nat->Nat->Prop):VS->List Nat->(Nat->Option Nat)->(Nat->Option Nat)
 |_,[],p=>p
 |rest,a::l,p=>iJ adj (rest.less (VS.one a)) l fun b=>if b≠a/\part adj rest a b=true then some a else p b
theorem pU{rest:VS}:(rest.less (VS.one a)) b=true↔rest b=true/\b≠a:=by unfold VS.less VS.one;rw[cV,rG,beq_eq_false_iff_ne]
theorem Un(h:a≠b):(a::i).idxOf b=i.idxOf b+1:=axM
theorem TV(f:∀a b,adj a b->adj b a):∀(l:List Nat) (rest:VS) (p:Nat->Option Nat) (b:Nat),(∀a∈l,rest a=true)->l.Nodup->rest b=false->iJ adj rest l p b=p b
 | [],_,_,_,_,_,_=>rfl
 |a::l,rest,p,b,g,d,e=>by
  rw[ic] at d;show iJ adj (rest.less (VS.one a)) l _ b=_
  rw[TV f l _ _ b (fun c i=>pU.2 ⟨g c (gQ _ i),fun j=>d.1 (by rw[<-j];exact i)⟩) d.2 (by rw[<-rI,pU];rintro⟨h, -⟩;rw[e] at h;cases h)];refine if_neg ?_;rintro⟨-,h⟩;rw[qE f (g a eH) h] at e;cases e
theorem aea(m:∀a b,adj a b->adj b a):∀(l:List Nat) (rest:VS) (p:Nat->Option Nat),(∀a,a∈l↔rest a=true)->l.Nodup->∀b∈l,iJ adj rest l p b=p b\/∃a∈l,iJ adj rest l p b=some a/\l.idxOf a<l.idxOf b
 | [],_,_,_,_,b,n=>by cases n
 |a::l,rest,p,q,f,b,n=>by
  rw[ic] at f;have g:∀c,c∈l↔(rest.less (VS.one a)) c=true:=fun c=>by
   rw[pU,<-q c,aK];constructor
   ·exact fun h=>⟨.inr h,fun d=>f.1 (d▸h)⟩
   ·rintro⟨i|i,o⟩
    ·exact absurd i o
    ·exact i
  show iJ adj (rest.less (VS.one a)) l _ b=_\/∃c∈a::l,iJ adj (rest.less (VS.one a)) l _ b=some c/\_
  by_cases e:b=a
  ·subst e;left;rw[TV m l _ _ b (fun c j=>(g c).1 j) f.2 (by rw[<-rI,pU];exact fun h=>h.2 rfl)];exact if_neg fun h=>h.1 rfl
  ·have k:b∈l:=axM;rcases aea m l _ (fun b=>if b≠a/\part adj rest a b=true then some a else p b) g f.2 b k with h|⟨c,j,i,o⟩
   ·rw[h];split
    ·refine .inr ⟨a,eH,rfl,?_⟩;rw[List.idxOf_cons_self,Un (fun d=>e d.symm)];omega
    ·exact .inl rfl
   ·refine .inr ⟨c,gQ _ j,i,?_⟩;rw[Un (fun d=>e d.symm),Un (fun d=>f.1 (by rw[d];exact j))];omega
theorem TW(f:∀a b,adj a b->adj b a):∀(l:List Nat) (rest:VS) (p:Nat->Option Nat),(∀a,a∈l↔rest a=true)->l.Nodup->∀(u:Option Nat) (b:Nat),b∈l->(∀x,part adj rest b x=true->p x=u)->dF (iJ adj rest l p) u b
 | [],_,_,_,_,_,b,w,_=>by cases w
 |a::l,rest,p,v,o,u,b,w,t=>by
  rw[ic] at o;have i:∀c,c∈l↔(rest.less (VS.one a)) c=true:=fun c=>by
   rw[pU,<-v c,aK];constructor
   ·exact fun h=>⟨.inr h,fun C=>o.1 (C▸h)⟩
   ·rintro⟨j|j,A⟩
    ·exact absurd j A
    ·exact j
  have g:rest a=true:=(v a).1 eH;have m:rest b=true:=(v b).1 w;have n:iJ adj rest (a::l) p a=p a:=by
   show iJ adj (rest.less (VS.one a)) l _ a=_
   rw[TV f l _ _ a (fun c D=>(i c).1 D) o.2 (by rw[<-rI,pU];exact fun h=>h.2 rfl)];exact if_neg fun h=>h.1 rfl
  have d:∀{x y},part adj (rest.less (VS.one a)) x y=true->part adj rest x y=true:=fun h=>fD.2 ((fD.1 h).mono fun z B=>(pU.1 B).1);by_cases r:b=a
  ·subst r;have j:p b=u:=t b (fD.2 .refl);rw[<-j,<-n];exact dF.step b
  ·have q:b∈l:=axM;by_cases e:part adj rest a b=true
   ·have j:dF (iJ adj rest (a::l) p) (some a) b:=by
     refine TW f l (rest.less (VS.one a)) (fun b=>if b≠a/\part adj rest a b=true then some a else p b) i o.2 (some a) b q fun x s=>if_pos ⟨?_,?_⟩
     ·exact(pU.1 (qE f (pU.2 ⟨m,r⟩) s)).2
     ·rw[<-C7 f g e];exact d s
    have A:p a=u:=t a (by rw[C7 f g e];exact fD.2 .refl);have E:dF (iJ adj rest (a::l) p) u a:=(by rw[<-A,<-n];exact dF.step a)
    exact E.trans j
   ·refine TW f l (rest.less (VS.one a)) (fun b=>if b≠a/\part adj rest a b=true then some a else p b) i o.2 u b q fun x s=> ?_;have k:=d s;rw[if_neg]
    ·exact t x k
    ·rintro⟨-,h⟩;have G:=C7 f m k;have F:=C7 f g h;rw[<-F,G] at e;exact e (fD.2 .refl)
theorem ad_(k:∀a b,adj a b->adj b a):∀(l:List Nat) (rest:VS) (p:Nat->Option Nat),(∀a,a∈l↔rest a=true)->l.Nodup->∀x∈l,∀y∈l,adj x y->x≠y->dF (iJ adj rest l p) (some x) y\/dF (iJ adj rest l p) (some y) x
 | [],_,_,_,_,x,r,_,_,_,_=>by cases r
 |a::l,rest,p,v,q,x,r,y,u,f,n=>by
  rw[ic] at q;have i:∀c,c∈l↔(rest.less (VS.one a)) c=true:=fun c=>by
   rw[pU,<-v c,aK];constructor
   ·exact fun h=>⟨.inr h,fun B=>q.1 (B▸h)⟩
   ·rintro⟨e|e,d⟩
    ·exact absurd e d
    ·exact e
  have s:rest a=true:=(v a).1 eH;have g:∀{x y},part adj (rest.less (VS.one a)) x y=true->part adj rest x y=true:=fun h=>fD.2 ((fD.1 h).mono fun z o=>(pU.1 o).1);have j:∀b∈l,adj a b->dF (iJ adj rest (a::l) p) (some a) b:=fun b w t=>by have m:=(i b).1 w;have A:part adj rest a b=true:=fD.2 (.step .refl t (pU.1 m).1);refine TW k l (rest.less (VS.one a)) (fun b=>if b≠a/\part adj rest a b=true then some a else p b) i q.2 (some a) b w fun z o=>if_pos ⟨(pU.1 (qE k m o)).2,?_⟩;rw[<-C7 k s A];exact g o
  rcases aK.1 r with e|e
  ·subst e;rcases aK.1 u with d|d
   ·exact absurd d.symm n
   ·exact .inl (j y d f)
  ·rcases aK.1 u with d|d
   ·subst d;exact .inr (j x e (k _ _ f))
   ·exact ad_ k l (rest.less (VS.one a)) (fun b=>if b≠a/\part adj rest a b=true then some a else p b) i q.2 x e y d f n
def oc(p:Nat->Option Nat):Nat->Nat->Nat
 |0,_=>0
 |k+1,v=>match p v with
  |none=>0
  |some a=>oc p k a+1
theorem apA(s:∀d,d∈i↔d<a)(z:i.length=a)(m:∀b∈i,y b=none\/∃d∈i,y b=some d/\i.idxOf d<i.idxOf b):dr a y (oc y a):=by
 have x:∀(k v:Nat),v∈i->i.idxOf v<=k->oc y k v<=i.idxOf v:=by
  intro k;induction k with
  |zero=>exact fun v _ _=>aU _
  |succ k q=>
   intro v j t;rw[oc];rcases m v j with h|⟨d,g,f,o⟩
   ·rw[h];exact aU _
   ·rw[f];have:=q d g Om;show oc y k d+1<=_
    omega
 have r:∀(k v:Nat),v∈i->i.idxOf v<=k->oc y (k+1) v=oc y k v\/k=0/\y v=none:=by
  intro k;induction k with
  |zero=>
   intro v j t;rcases m v j with h|⟨d,g,f,o⟩
   ·exact .inr ⟨rfl,h⟩
   ·omega
  |succ k q=>
   intro v j t;left;rw[oc,oc];rcases m v j with h|⟨d,g,f,o⟩
   ·rw[h]
   ·rw[f];show oc y (k+1) d+1=oc y k d+1
    rcases q d g Om with e|⟨rfl,e⟩
    ·rw[e]
    ·show oc y 1 d+1=0+1
     rw[oc,e]
 refine⟨fun d g=> ?_,fun d g h=> ?_,fun d b g h=> ?_⟩
 ·have f:=(s d).2 g;have o:=QN.2 f;have:=x a d f Om;omega
 ·cases a with
  |zero=>rfl
  |succ a=>rw[oc,h]
 ·have f:=(s d).2 g;rcases m d f with e|⟨c,u,e,A⟩
  ·rw[e] at h;cases h
  ·rw[e] at h;injection h with h;subst h;refine⟨(s c).1 u,?_⟩;cases a with
   |zero=>omega
   |succ a=>
    rw[oc,e];show oc y a c+1=_
    have o:=QN.2 f;rcases r a c u Om with w|⟨rfl,w⟩
    ·rw[w]
    ·omega
theorem ae0(r:dr a y J)(m:c<a)(q:dF y (some b) c):b∈lN y (J c) c:=by
 have i:∀(o:Option Nat) (c:Nat),dF y o c->∀b,o=some b->c<a->b∈lN y (J c) c:=by
  intro o c h;induction h with
  |step e=>intro b j g;rw[(N_ r g).1,j];exact eH
  | @up o f e k s l=>intro b j g;rw[(N_ r g).1,k];exact gQ _ (l b j (r.up e f g k).1)
 exact i _ _ q b rfl m
end
structure Oq(x:aP)(p:Nat->Option Nat)(d:Nat->Nat):Prop where
 UQ:dr x.ai.length p d
 way:∀r∈x.ay,∀a∈r.2,∀b∈r.2,a≠b->a.toNat∈lN p (d b.toNat) b.toNat\/b.toNat∈lN p (d a.toNat) a.toNat
def cC.zero(B N:Nat):cC B N 0:=⟨0,by rw[ME];rfl,aU _⟩
def zw:=@cC.zero
def cC.one:cC 1 1 1:=⟨1,by decide+kernel,by decide⟩
def zB:=@cC.one
def TK{β:Type}{B N:Nat}{f:β->Rat}:∀{l:List β},(∀x∈l,cC B N (f x))->cC B (l*N) (cX.sum l f)
 | [],_=>by rw[uY,IC];exact zw _ _
 |x::l,h=>by have b:=(h x eH).add (TK fun y a=>h y (gQ _ a));have e:cX.sum (x::l) f=f x+cX.sum l f:=rfl;rw[e,cT,oH,nL];exact b
def ac6{β:Type}{c:Nat}{f:β->Rat}:∀{l:List β},(∀x∈l,cC 1 c (f x))->cC 1 (c^l.length) (cX.prod l f)
 | [],_=>zB
 |x::l,h=>by have b:=(h x eH).mul (ac6 fun y a=>h y (gQ _ a));have e:cX.prod (x::l) f=f x*cX.prod l f:=rfl;rw[e,cT,eA,er (c^l.length)];exact b
def TJ{β:Type}{U:List β}{g:Nat->β->Rat}{W:Nat->(Nat->β)->Rat}{a B M c K:Nat}(o:U.length<=K)(m:∀t,cC B M (g a t))(k:∀v t,v≠a->cC 1 1 (g v t))(hW:∀h e,cC 1 c (W h e)):
 ∀(f:Fo) (d:Nat->β),cC (B^f.vars.count a) (K^f.vars.length*M^f.vars.count a*c^f.homes.length) (f.val cX U g W d)
 | .nil,_=>zB
 | .cons v j b n,d=>by
   have p:∀x,cC (B^(if v=a then 1 else 0)) (M^(if v=a then 1 else 0)) (g v x):=fun x=>by
    by_cases h:v=a
    ·rw[if_pos h,rN,rN,h];exact m x
    ·rw[if_neg h];exact k v x h
   have s:=fun x=>((p x).mul (ac6 (l:=j) fun h _=>hW h (put d v x))).mul (TJ o m k hW b (put d v x));have r:=TK (l:=U) (f:=fun x=>g v x*cX.prod j (fun h=>W h (put d v x))*b.val cX U g W (put d v x)) fun x _=>s x;have q:=r.mul (TJ o m k hW n d);have e:(Fo.cons v j b n).val cX U g W d=cX.sum U (fun x=>g v x*cX.prod j (fun h=>W h (put d v x))*b.val cX U g W (put d v x))*n.val cX U g W d:=rfl;rw[e];have y:(Fo.cons v j b n).vars.count a=(if v=a then 1 else 0)+b.vars.count a+n.vars.count a:=by
    show(v::(b.vars++n.vars)).count a=_
    rw[List.count_cons,ZL];by_cases h:v=a
    ·rw[if_pos h,if_pos axF];omega
    ·rw[if_neg h,if_neg axF];omega
   have u:(Fo.cons v j b n).vars.length=1+b.vars.length+n.vars.length:=by
    show(v::(b.vars++n.vars)).length=_
    rw[cT,bD];omega
   have w:(Fo.cons v j b n).homes.length=j.length+b.homes.length+n.homes.length:=by
    show(j++(b.homes++n.homes)).length=_
    rw[bD,bD];omega
   rw[y,u,w];generalize(if v=a then 1 else 0)=i at*;refine cC.mono (B:=B^(i+b.vars.count a+n.vars.count a)) ?_ ?_ (M:=U.length*(M^i*c^j.length*(K^b.vars.length*M^b.vars.count a*c^b.homes.length))*(K^n.vars.length*M^n.vars.count a*c^n.homes.length))
   ·rw[mW,mW];rwa[lF] at q
   ·refine aV (eK _ (eK _ o)) (E6 ?_);simp only[mW,rN];ac_rfl
def cC.up{B N C:Nat}{q:Rat}(h:cC B N q):cC (B*C) (N*C) q:=by have a:=h.mul (show cC C C 1 from⟨(C:Int),by rw[RO],by simp⟩);rwa[E9] at a
def NN{β:Type}:∀{l m:List β},l.Nodup->(∀a∈l,a∈m)->l.length<=m.length
 | [],_,_,_=>aU _
 |a::l,m,d,e=>by
  rw[ic] at d;obtain⟨m1,m2,rfl⟩:=ZF (e a eH);have h:=NN d.2 fun b f=>by
   have c:=e b (gQ _ f);rw[bO,aK] at c;rw[bO];rcases c with c|rfl|c
   ·exact .inl c
   ·exact absurd f d.1
   ·exact .inr c
  rw[bD] at h;rw[bD,cT,cT];omega
section
variable{x:aP}{D:List (List Rw)}
theorem an8(o:bV x){m:Nat}(v:∀l∈aT x D,l.length<=m)(n:Nat->Option aC)(j:a<x.ai.length):(eX x D n a).length<=m:=by
 obtain⟨r,u,g⟩:=o.used a j;obtain⟨i,f,e⟩:=iE u;have h:=(vq f fun b z=>(o.ri _ (a8 f) b z).1).2 (by rw[e];exact g);obtain⟨k,w,E⟩:=iE h;have p:(bL (aT x D) i).length<=m:=by
  unfold bL;cases d:(aT x D)[i]? with
  |none=>exact aU _
  |some l=>exact v l (pM d)
 have c:=NN (l:=eX x D n a) (m:=(bL (aT x D) i).map fun y=>y.1[k]?.getD []) (SF (Tr x D n a)) fun t d=>by obtain⟨F,B,A⟩:=(ada j t).1 d;have q:=(B a j).2;rw[Jt] at q;obtain⟨y,s,C⟩:=Nb.1 (A i (dL.2 f));refine b_.2 ⟨y,s,?_⟩;rw[C,dK,aX w,E];exact(eq_of_beq q).symm
 rw[bP] at c;omega
theorem acg{d:(Nat->Option aH)->Nat->List aH}{m:Nat}:∀(l:List Nat),(∀c,∀a∈l,(d c a).length<=m)->∀c,(ik d l c).length<=m^l.length
 | [],_,_=>aL _
 |a::l,h,c=>by
  rw[aa8];refine aV (Nu (m:=m^l.length) fun x _=> ?_) ?_
  ·rw[bP];exact acg l (fun c b e=>h c b (gQ _ e)) _
  ·rw[cT,eA,er (m^l.length)];exact eK _ (h c a eH)
end
def apa{x:aP}{D:List (List Rw)}(jb pb:Nat)(s:List Fu)(attrs:List Nat)(J Aa:aQ)(H ca:Nat)(z:List aC->Rat){zq:Fu->aC->Rat}{f0:Fo}(ok:bV x)(hD:ip x D)(a6:x.ai.length<=6)(r6:x.ay.length<=6)(x_:0<a)(x9:1000000*a<=b)(x8:b<10^100)(qX:VH x (aT x D) s zq a b)
 (qa:Whole x.ai (bu x) (bM x) f0) (zY:∀k,z k=mn (bu x) (univ (aT x D)) f0 (fun _=> []) (fun v t=>eI v (fun f=>zq f t) s) (bL (aT x D)) (dO (fun _=>none) attrs k)) (zZ:∀k,bR 1000 (z k))
 (nd:attrs.Nodup) (lt:∀g∈attrs,g<x.ai) (le:attrs.length<=4) (hle:(ik (eX x D) attrs fun _=>none).length<=2000) (w:au) (hB:gO x (aT x D) jb pb w) (hM:dy x pb w) (hf:Ls g7 lD w (.slice J s H) s) (hg:IL w (.slice Aa attrs ca) (ints attrs)) (L:d7 w):
 Calls prog 38 #[aI jb 0,.agg #[.slice J s H,.slice Aa attrs ca]] w fun e w'=>∃u G,e= .returned (.tuple #[u,av 0])/\pH w' u G/\(jQ x D (fun _=>none)->G=(ik (eX x D) attrs fun _=>none).map fun k=>(k,z k))/\(¬jQ x D (fun _=>none)->G= [])/\aZ [pb] w w'/\dy x pb w':=by
 have h1:=af (fun W=>by simpa using zy 0 W Om Om);have h2:=af (fun W=>by simpa using zy 1 W Om Om);have d6:=hB.lt;have hpl:=hM.lt;have WK:jb≠pb:=(by obtain⟨A,c,B,d,E,e,At,ct,Al,cl,l,h,_⟩:=hB;exact hM.ne h)
 have HV:=af (fun(y K r M ob:Nat) (F:au) (N:List Value) (done:List (List aC)) (k:List aC) (j:Nat) (W:au) (A:aQ) (c:Nat) (X:mA x D jb pb y K r M ob F N s attrs J H Aa ca z done W) (hF:kA W j (dO (fun _=>none) attrs k)) (hb:F.heap.size<=j) (hd:done.length<2000) (hT:TL W (.slice A k c) k)=>alf X ok hD a6 r6 x_ x9 x8 qX qa zY zZ hF hb hd hT);have CG:=af (fun(y K r M ob:Nat) (F:au) (N:List Value) (S:mA x D jb pb y K r M ob F N s attrs J H Aa ca z [] F)=>akM (x:=x) (D:=D) (jb:=jb) (pb:=pb) (ob:=ob) (attrs:=attrs) (Aa:=Aa) (ca:=ca) (vf:=100) (v1:=aI ob 0) (v2:=aI y 0) (v3:=aI K 0) (v4:=aI r 0) (v5:=aI M 0) (I:=fun done W=>mA x D jb pb y K r M ob F N s attrs J H Aa ca z done W) (w:=F)
  ⟨ok,hD,a6,r6,WK,fun W k hm=>S.Oa k hm,fun d W W' h k t n1 n2=>h.kept k t n1 n2,fun d W W' h k hm=>h.Oa k hm,fun d W h=>h.jm,fun d W h=>h.jB,fun d W h=>h.il,fun _ _=>by rfl,fun d k j W A c h hF hb _ hd hT=>HV y K r M ob F N d k j W A c h hF hb hd hT,⟨S.lt.1,S.lt.2.1⟩,nd,lt,le⟩ S.jB S.jm hle)
 generalize hK:(ik (eX x D) attrs fun _=>none)=ks at*;generalize hTU:jQ x D (fun _=>none)=TU at*;go_enter func38,ntmps38;go_upto_region 1 with fail
 refine gJ fun W HX BJ BA=> ?_;have hba:=BA.lt;go_wp2_with fail
 refine(h1 W).mono ?_;rintro e1 w1 ⟨u0,rfl,Q,C⟩;obtain⟨z0,Z0,z1,Z,y0,Y0,y1,y2,rfl, -, -⟩:=Q.parts;go_wp2_with fail;refine(h2 w1).mono ?_;rintro e2 w2 ⟨u1,rfl,P,p⟩;obtain⟨o0,O0,o1,o2,q0,Q0,q1,q2,rfl, -, -⟩:=P.parts;have bk:=af (HX.trans (C.trans p));have HZ2:=af (Q.ext p);have ey:=af P;have BJ2:=af (BJ.ext (C.trans p));have EL:=af (BA.ext (C.trans p));have hs2:w.heap.size+1<w2.heap.size:=by have:=(C.trans p).size;omega
 go_upto_region 2 with fail
 refine aR fun W3 q BR=> ?_;have HZ3:=af (HZ2.ext q);have fJ:=af (ey.ext q);have hbr:=BR.lt;generalize w2.heap.size=r at*;go_upto_region 3 with fail
 refine aR fun W4 o BO=> ?_;have KG:=BO.lt;generalize W3.heap.size=ob at*;go_upto_region 4 with fail
 refine aR fun Y m BE=> ?_;have T:=af (((BJ2.ext q).ext o.ae).ext m.ae);have U:=af (((EL.ext q).ext o.ae).ext m.ae);have n:=af (((bk.trans q).trans o.ae).trans m.ae);have PK:=BE.lt;generalize W4.heap.size=y at*;have X:mA x D jb pb y w.heap.size r (w.heap.size+1) ob Y [.bool z0,.slice Z0 z1 Z,.bool y0,.slice Y0 y1 y2,.bool o0,.slice O0 o1 o2,.bool q0,.slice Q0 q1 q2] s attrs J H Aa ca z [] Y:=
  ⟨hM.ext n,hB.ext n,BE,T,((BR.ext o).ext m.ae),⟨z0,Z0,z1,Z,y0,Y0,y1,y2,o0,O0,o1,o2,q0,Q0,q1,q2,rfl,((HZ3.ext o).ext m.ae),((fJ.ext o).ext m.ae)⟩,U,bU lZ hf n,iU hg n,⟨_,(BO.ext m),ii⟩,L.ext n,(L.ext n).lt,⟨by omega,by omega,by omega,by omega,by omega,by omega,by omega,aL _⟩,.gV (aB _)⟩
 have HI:=af X;have j0:=T.aF 0;have a1:=U.aF 1;go_wp2_with fail
 refine(CG y w.heap.size r (w.heap.size+1) ob Y _ X).mono ?_;rintro e6 w6 ⟨rfl,L,hn, -⟩;have HR:ah (∃done,mA x D jb pb y w.heap.size r (w.heap.size+1) ob Y [.bool z0,.slice Z0 z1 Z,.bool y0,.slice Y0 y1 y2,.bool o0,.slice O0 o1 o2,.bool q0,.slice Q0 q1 q2] s attrs J H Aa ca z done w6/\(TU->done=ks)/\(¬TU->done= [])):=by
  by_cases h:TU
  ·exact⟨ks,L h,fun _=>rfl,fun hn=>absurd h hn⟩
  ·exact⟨[],hn h,fun L=>absurd L h,fun _=>rfl⟩
 obtain⟨done,V,jf,lw⟩:=HR.ae;obtain⟨v6,b6,O⟩:=V.JN;obtain⟨Ao,co,xs,rfl, -, -, -, -⟩:=O.parts;have e0:=V.be.aF 0;have o6:=b6.aF 0;generalize R:(done.map fun k=>(k,z k))=G at*;go_wp2_with fail
 refine bodyPost_ret (v:= .tuple #[.slice Ao G co,av 0]) (by simp [results,results38,go_sem]) rfl ⟨_,G,rfl,O.ls,fun h=>by rw[<-R,jf h],fun h=>by rw[<-R,lw h];rfl,?_,V.jm⟩;refine((gS n).trans V.ch).mono fun i hi hl=> ?_;simp only[aK,bJ,or_false] at hi⊢;omega
def abf(A B E:aQ)(n c m d k e a:Nat)(b:Int)(j:a<n)(g:n<=maxLen)(w:au):
 Calls prog 65 #[.agg #[.slice A n c,.slice B m d,.slice E k e,av b],av a] w fun e f=>e= .returned (.bool true)/\Ext w f:=by
 have l:n<=9223372036854775807:=g;go_enter func65,ntmps65;go_upto_region 1 with fail
 refine aR fun W h i=> ?_;have o:=i.aF 0;have d1:decide ((0:Int)<=(a:Int))=true:=fN;have d2:decide ((a:Int)<(n:Int))=true:=fN;go_wp2_with fail
 exact bodyPost_ret (v:= .bool true) (by simp [results,results65,go_sem]) rfl ⟨rfl,h⟩
def kh:List Nat->Bool
 |a::b::l=>decide (a<b)&&kh (b::l)
 |_=>true
def adU:∀{l:List Nat} (_:kh l=true) {i:Nat} (c:i+1<l),l[i]<l[i+1]
 | [],_,i,c=>absurd c (Mu _)
 | [_],_,i,c=>by simp at c
 |a::b::l,h,i,c=>by
  rw[kh,cV,decide_eq_true_eq] at h;cases i with
  |zero=>exact h.1
  |succ i=>exact adU (l:=b::l) h.2 axv
def Z_(A:aQ)(c:Nat)(l:List Nat)(h:kh l=true)(w:au)(m:IL w (.slice A l c) (ints l)):
 Calls prog 50 #[.slice A l c] w fun e s=>e= .returned (.bool true)/\Ext w s:=by
 have C:=af (fun i u=>adU h (i:=i) u);have q:=af m;have n:=(bl m).2;go_enter func50,ntmps50;go_upto_region 2 with fail
 go_loopw [3] (fun f r=>∃k:Nat,1<=k/\(k<=l\/k=1)/\f=av k/\ah (Ext w r)) (fun f _=>l - (RowKit.intOf f).toNat)
 exact⟨1,aL _,.inr rfl,rfl,aB w⟩;obtain⟨k,G,F,rfl,d⟩:=hrel;obtain⟨j,rfl⟩:∃j,k=j+1:=⟨k - 1,by omega⟩;by_cases b:j+1<l
 ·obtain⟨g,o,p,D⟩:=nO (q.ext d) (k:=j) Om (jp aS wr);obtain⟨H,E,a,q1⟩:=nO (q.ext d) b (jp aS wr);rw[p] at a;injection a with a;injection a with B z _;subst B z;subst p;have t:=C j b;generalize l[j]=x at*;generalize l[j+1]=y at*;have d0:decide (((j+1:Nat):Int)<(l.length:Int))=true:=fN;have d1:decide ((y:Int)<=(x:Int))=false:=aW;go_upto_region 4 with fail
  go_quiet (fail);go_wp2_with fail;go_roundw;exact⟨j+1+1,by omega,by omega,by go_num,d.drewN _⟩;simp [RowKit.intOf];omega
 ·have d0:decide (((j+1:Nat):Int)<(l.length:Int))=false:=aW;go_wp2_with fail;exact bodyPost_ret (v:= .bool true) (by simp [results,results50,go_sem]) rfl ⟨rfl,d⟩
abbrev UO:TypeId:=30
def adP(A B E:aQ)(n c m d k e a g:Nat)(b:Int)(l:a<n)(j:n<=maxLen)(w:au)(f:aq w g UO [.slice A n c,.slice B m d,.slice E k e,av b]):
 Calls prog 160 #[av a,aI g 0] w fun e h=>e= .returned (.bool false)/\Ext w h:=by
 have C:=af (fun W=>abf A B E n c m d k e a b l j W);have t:=f.aF 0;have s:=f.aF 1;have r:=f.aF 2;have q:=f.aF 3;go_enter func160,ntmps160;go_wp2_with fail
 refine(C _).mono ?_;rintro e p ⟨rfl,i⟩;have o:=af i;go_wp2_with fail
 exact bodyPost_ret (v:= .bool false) (by simp [results,results160,go_sem]) rfl ⟨rfl,o⟩
def aoZ(A B E:aQ)(n c m d k e b i:Nat)(a:Int)(f:Fu)(r:f.1<n)(p:n<=maxLen)(w:au)(o:aq w b UO [.slice A n c,.slice B m d,.slice E k e,av a])(q:aq w i 117 [.func (.func 160) #[] #[aI b 0]]):
 Calls prog 162 #[.agg #[av (f.1:Int),av (f.2.1:Int),aM f.2.2],aI i 0] w fun e j=>e= .returned (.bool false)/\Ext w j:=by
 have C:=af (fun W (s:Ext w W)=>adP A B E n c m d k e f.1 b a r p W (o.ext s));have t:=af q;obtain⟨F,D,z⟩:=f;go_enter func162,ntmps162;go_upto_region 1 with fail
 refine aR fun W h x=> ?_;have t0:=x.aF 0;have G:=(t.ext h).aF 0;have u:=af (C W h);go_wp2_with fail
 refine u.mono ?_;rintro e y ⟨rfl,l⟩;have g:=af (h.trans l);go_wp2_with fail
 exact bodyPost_ret (v:= .bool false) (by simp [results,results162,go_sem]) rfl ⟨rfl,g⟩
def aa'{l:List Int}(h:∀a∈l,0<=a):ints (bZ l)=l:=by
 unfold ints bZ;rw[rK];refine(kW fun a b=> ?_).trans (List.map_id _);have:=h a b;show((a.toNat:Nat):Int)=a
 omega
def adv:(ints i).contains (a:Int)=i.contains a:=by
 rw[lW,oF,oF];unfold ints;rw[b_];constructor
 ·rintro⟨b,c,e⟩;have:b=a:=Om;exact this▸c
 ·exact fun h=>⟨a,h,rfl⟩
def alK(A:aQ)(c n:Nat)(p:Nat->Option Nat)(d:Nat->Nat)(r:dr n p d)(hn:n<=12)(nm:ByteArray)(B:aQ)(e:Nat)(l:List Nat)(hl:∀a∈l,a<n)(hy:∀a∈l,∀b∈l,a≠b->a∈lN p (d b) b\/b∈lN p (d a) a)(w:au)(ho:IL w (.slice A n c) ((List.range n).map (sI p)))(U:IL w (.slice B l e) (ints l)):
 Calls prog 91 #[.agg #[.slice A n c],.agg #[.string nm,.slice B l e]] w fun e G=>e= .returned (.bool true)/\Ext w G:=by
 have HC:=af (fun W u v (P:Ext w W) J=>akJ A c n p d r u v J hn W (ho.ext P));have X:=af U;have Y:=af hl;have HY:ah (∀a∈l,∀b∈l,a≠b->(ints (lN p (d b) b)).contains (a:Int)=true\/(ints (lN p (d a) a)).contains (b:Int)=true):=fun a ha b hb K=>by rw[adv,adv,oF,oF];exact hy a ha b hb K
 obtain⟨up,s⟩:∃up:Nat->List Int,up=fun b=>ints (lN p (d b) b):=⟨_,rfl⟩;have F:ah (∀W (u v:Nat),Ext w W->v<n->Calls prog 158 #[.agg #[.slice A n c],av u,av v] W fun e G=>e= .returned (.bool ((up v).contains (u:Int)))/\Ext W G):=by rw[s];exact fun W u v P J=>HC W u v P J
 have R:ah (∀a∈l,∀b∈l,a≠b->(up b).contains (a:Int)=true\/(up a).contains (b:Int)=true):=by rw[s];exact HY
 have V:=(bl U).2;go_enter func91,ntmps91;go_upto_region 1 with fail
 refine gJ fun W E BO BR=> ?_;have b1:=BR.aF 1;go_upto_region 2 with fail
 go_loopw [6,8,12] (fun _ _ o wr=>∃i:Nat,i<=l/\o=av i/\ah (Ext W wr)) (fun _ _ o _=>l - (RowKit.intOf o).toNat)
 exact⟨0,aU _,rfl,aB W⟩;obtain⟨i,hi,rfl,f⟩:=hrel;by_cases y:i<l
 ·obtain⟨g1,o1,Q,q0⟩:=nO (X.ext (E.trans f)) (k:=i) y (jp aS _);have C:=a8 y;generalize l[i]=a at*;have b1:=(BR.ext f).aF 1;have O:=Y a C;subst Q;go_upto_region 5 with fail
  go_loopw [8,19] (fun _ m wq=>∃j:Nat,j<=l/\m=av j/\ah (Ext W wq)) (fun _ m _=>l - (RowKit.intOf m).toNat)
  exact⟨0,aU _,rfl,f⟩;obtain⟨j,hj,rfl,f⟩:=hrel;by_cases x:j<l
  ·obtain⟨g2,o2,q,q0⟩:=nO (X.ext (E.trans f)) (k:=j) x (jp aS _);have z:=a8 x;generalize l[j]=b at*;have N:=Y b z;injection q with q;injection q with e1 e2 _;subst e1 e2;by_cases D:a=b
   ·subst D;have d1:((a:Int) !=(a:Int))=false:=Ou;go_wp2_with fail
    go_roundw;exact⟨j+1,by omega,by go_num,f⟩;simp [RowKit.intOf];omega
   ·have d1:((a:Int) !=(b:Int))=true:=ayb;have T:=af (R a C b z D);have c0:=(BO.ext f).aF 0;have C1:=af (F wr a b (E.trans f) N);go_wp2_with fail
    refine C1.mono ?_;rintro e5 w5 ⟨rfl,I⟩;have g:=af (f.trans I);have c1:=(BO.ext g).aF 0;have Z:=af (F w5 b a (E.trans g) O);cases M:(up b).contains (a:Int) with
    |true=>
     go_wp2_with fail
     go_roundw;exact⟨j+1,by omega,by go_num,g⟩;simp [RowKit.intOf];omega
    |false=>
     have L:(up a).contains (b:Int)=true:=by
      rcases T.ae with h|h
      ·rw[M] at h;cases h
      ·exact h
     rw[L] at Z;go_wp2_with fail;refine Z.mono ?_;rintro e6 w6 ⟨rfl,H⟩;have S:=af (g.trans H);go_wp2_with fail
     go_roundw;exact⟨j+1,by omega,by go_num,S⟩;simp [RowKit.intOf];omega
  ·have t:j=l.length:=Om;subst t;have d1:decide ((l.length:Int)<(l.length:Int))=false:=aW;go_wp2_with fail
   go_roundw;exact⟨i+1,by omega,by go_num,f⟩;simp [RowKit.intOf];omega
 ·have d1:decide ((i:Int)<(l.length:Int))=false:=aW;go_wp2_with fail;exact bodyPost_ret (v:= .bool true) (by simp [results,results91,go_sem]) rfl ⟨rfl,E.trans f⟩
def an6(A:aQ)(c n h:Nat)(p:Nat->Option Nat)(d:Nat->Nat)(r:dr n p d)(u:n<=12)(i:ByteArray)(B:aQ)(e:Nat)(l:List Nat)(x:∀a∈l,a<n)(o:∀a∈l,∀b∈l,a≠b->a∈lN p (d b) b\/b∈lN p (d a) a)(w:au)(t:IL w (.slice A n c) ((List.range n).map (sI p)))(s:IL w (.slice B l e) (ints l))(y:aq w h sf [.slice A n c]):
 Calls prog 90 #[.agg #[.string i,.slice B l e],aI h 0] w fun e m=>e= .returned (.bool false)/\Ext w m:=by
 have C:=af (fun W (j:Ext w W)=>alK A c n p d r u i B e l x o W (t.ext j) (s.ext j));have z:=af y;go_enter func90,ntmps90;go_upto_region 1 with fail
 refine aR fun W g k=> ?_;have H:=k.aF 0;have G:=k.aF 1;have F:=(z.ext g).aF 0;have D:=af (C W g);go_wp2_with fail
 refine D.mono ?_;rintro e E ⟨rfl,q⟩;have f:=af (g.trans q);go_wp2_with fail
 exact bodyPost_ret (v:= .bool false) (by simp [results,results90,go_sem]) rfl ⟨rfl,f⟩
def aoC(b:FuncId)(hid:∀d w,(callFunc b d).run prog w= .ok (.enter b d) w)(t:Value)(x u:Nat->Value)(P:Nat->Bool)(I:World->Prop)(A:aQ)(n c:Nat)(w:au)(E:I w)(K:n<=c)(z:c<=maxLen)
 (B:∀W k,I W->k<n->∃g o,A=dV g o/\(aA W g (o+k*2) (x k)/\aA W g (o+k*2+1) (u k)))
 (hF:∀W k,I W->k<n->Calls prog b #[.agg #[x k,u k],t] W fun e l=>e= .returned (.bool (P k))/\I l):
 Calls prog 157 #[.slice A n c,.func (.func b) #[] #[t]] w fun e l=>e= .returned (av (je P n))/\I l:=by
 have F:=af B;have G:=af hF;have y:c<=9223372036854775807:=z;have q:=af E;go_enter func157,ntmps157;go_upto_region 2 with fail
 have s:ah (∀k,k<0->P k=false):=fun k hk=>by omega
 go_loopw [5,8] (fun _ m wr=>∃j:Nat,j<=n/\m=av j/\ah (I wr)/\ah (∀k,k<j->P k=false)) (fun _ m _=>n - (RowKit.intOf m).toNat)
 exact⟨0,aU _,rfl,q,s⟩;obtain⟨j,J,rfl,r,HB⟩:=hrel;by_cases f:j<n
 ·obtain⟨g,o,D,p⟩:=F _ _ r f;go_split_ands;have H:=G _ _ r f;subst D;go_wp2_with fail
  refine H.mono ?_;rintro e l ⟨rfl,C⟩;have nH:=af C;cases hp:P j with
  |true=>have a:=I2 f hp HB;go_wp2;exact bodyPost_ret (v:=av j) (by simp [results,results157,go_sem]) rfl ⟨by rw[a],nH⟩
  |false=>exact OX
 ·have d1:decide ((j:Int)<(n:Int))=false:=aW;have i:j=n:=Om;subst i;have a:=I3 HB;go_wp2;exact bodyPost_ret (v:=av (-1)) (by simp [results,results157,go_sem]) rfl ⟨by rw[a],r⟩
def ao0(a:FuncId)(hid:∀d w,(callFunc a d).run prog w= .ok (.enter a d) w)(h:Value)(j i:Nat->Value)(P:Nat->Bool)(I:World->Prop)(A:aQ)(n c:Nat)(w:au)(s:I w)(p:n<=c)(m:c<=maxLen)
 (q:∀W k,I W->k<n->∃g o,A=dV g o/\(aA W g (o+k*2) (j k)/\aA W g (o+k*2+1) (i k)))
 (hF:∀W k,I W->k<n->Calls prog a #[.agg #[j k,i k],h] W fun e f=>e= .returned (.bool (P k))/\I f):
 Calls prog 89 #[.slice A n c,.func (.func a) #[] #[h]] w fun e f=>e= .returned (.bool ((List.range n).any P))/\I f:=by
 have u:=af (aoC a hid h j i P I A n c w s p m q hF);have l:=Nq (P:=P) (n:=n);generalize(List.range n).any P=b at*;generalize je P n=z at*;go_enter func89,ntmps89;go_wp2_with fail
 refine u.mono ?_;rintro e f ⟨rfl,r⟩;have t:=af r;go_wp2;exact bodyPost_ret (v:= .bool b) (by simp [results,results89,go_sem]) rfl ⟨rfl,t⟩
def sF(w:au)(u:Value)(x:aP):Prop:=∃A c p d,u= .agg #[.slice A x.ai.length c]/\IL w (.slice A x.ai.length c) ((List.range x.ai.length).map (sI p))/\Oq x p d
def sF.ext{w':au}{u:Value}{x:aP}(h:sF m u x)(k:Ext m w'):sF w' u x:=by obtain⟨A,c,p,d,e,b,a⟩:=h;exact⟨A,c,p,d,e,b.ext k,a⟩
def an7(v u:Value)(x:aP)(w:au)(h:dP w v x)(ok:bV x)(hu:sF w u x):
 Calls prog 34 #[v,u] w fun e w'=>e= .returned (av 0)/\Ext w w':=by
 have CH:=af (fun W (S:Ext w W)=>I7 v x W (h.ext S) ok);obtain⟨Ao,co,p,dd,rfl,r,V⟩:=hu;obtain⟨A,c,B,d,D,e,rfl,hat,U,D7⟩:=h;have hn:=ok.a12;obtain⟨N,hN⟩:∃N,x.ai.length=N:=⟨_,rfl⟩;have HN:=af hN;have aN:=af ok;have pC:=af V;have C:=af V.UQ;rw[hN] at CH hn r C⊢;have s6:=af U;have Qa:=af r;have iZ:=(bl r).2;have Y:=(bl U).2;obtain⟨Q,K⟩:∃Q:Nat->Int,Q=sI p:=⟨_,rfl⟩;have X_:=af K;have HB:ah (∀a,a<N-> -1<=Q a/\Q a<(N:Int)):=fun a f=>by
  rw[K];unfold sI;cases hp:p a with
  |none=>exact⟨xd _,by show(-1:Int)<_;omega⟩
  |some b=>have:=(C.up a b f hp).1;exact⟨by show(-1:Int)<=(b:Int);omega,by show(b:Int)<_;omega⟩
 have Ys:ah (∀W,Ext w W->∀a,a<N->∃g o,Ao=dV g o/\aA W g (o+a) (av (Q a))):=fun W S a f=>by obtain⟨g,o,h1, -,h2⟩:=ij (r.ext S) (i:=a) (by rw[bP,i7];exact f);rw[ET,Q1] at h2;exact⟨g,o,h1,by rw[K];exact h2⟩
 go_enter func34,ntmps34;go_upto_region 1 with fail
 refine gJ fun W HX BX BO=> ?_;have YY:=af (CH W HX);obtain⟨s0,s1,s2,s3⟩:=BX.four;have KG:=BO.lt;go_wp2_with fail
 refine YY.mono ?_;rintro e1 w1 ⟨rfl,n⟩;obtain⟨t0,t1,t2,t3⟩:=(BX.ext n).four;have qw:=af (BX.ext n);have P:=af (BO.ext n);have t:=af (HX.trans n);have o0:=P.aF 0;go_upto_region 7 with fail
 go_loopw [7,26] (fun _ G wr=>∃i:Nat,i<=N/\G=av i/\wr=w1) (fun _ G _=>N - (RowKit.intOf G).toNat)
 exact⟨0,aU _,rfl,rfl⟩;obtain⟨i,hi,rfl,I⟩:=hrel;have I:=I.symm;subst I;by_cases s:i<N
 ·obtain⟨g1,o1,ko,q0⟩:=Ys w1 t i s;obtain⟨b1,b2⟩:=HB i s;generalize Q i=z at*;subst ko;have d1:decide (z< -1)=false:=aW;have d2:decide ((N:Int)<=z)=false:=aW;exact VZ
 ·obtain rfl:i=N:=Om;have d1:decide ((i:Int)<(i:Int))=false:=aW;go_upto_region 13 with fail
  go_loopw [8,9,10,43] (fun _ _ _ F wq=>∃k:Nat,k<=i/\F=av k/\ah (Ext w1 wq)) (fun _ _ _ F _=>i - (RowKit.intOf F).toNat)
  exact⟨0,aU _,rfl,aB _⟩;obtain⟨k,hk,rfl,O⟩:=hrel;have o0:=(P.ext O).aF 0;by_cases sR:k<i
  ·have CA:=af (acK Ao co i p dd C k sR hn wr (Qa.ext (t.trans O)));go_wp2_with fail;refine CA.mono ?_;rintro e5 w5 ⟨y,rfl, -,H⟩;have M:=af (O.trans H);go_wp2_with fail
   go_roundw;exact⟨k+1,by omega,by go_num,M⟩;simp [RowKit.intOf];omega
  ·obtain rfl:k=i:=Om;have d1:decide ((k:Int)<(k:Int))=false:=aW;obtain⟨t0,t1,t2,t3⟩:=(qw.ext O).four;have qr:ah (Calls prog 89 #[.slice B x.ay d,.func (.func 90) #[] #[aI (w.heap.size+1) 0]] wr fun e w'=>e= .returned (.bool false)/\Ext wr w'):=by
    have S:=t.trans O;have E:=fun j (R:j<x.ay.length)=>rV (bU oJ s6 S) R;obtain⟨T,L⟩:∃T:Nat->Nat->Value,T=fun j q=>(B.map fun a=>(wr.cell? (aD a.block (a.off+q*2+j))).getD undef).getD undef:=⟨_,rfl⟩;have h1:=ao0 90 (fun _ _=>by rfl) (aI (w.heap.size+1) 0) (T 0) (T 1) (fun _=>false) (fun W=>Ext wr W) B x.ay d wr (aB wr) Y.1 Y.2
     (fun W j hW R=>by
       obtain⟨g,o,Bk,m,dk,hA,hg,q1,q2, -⟩:=E j R;subst hA;rw[L];refine⟨g,o,rfl,(hW.cell (p:=aD g (o+j*2)) hg).trans ?_,(hW.cell (p:=aD g (o+j*2+1)) hg).trans ?_⟩
       ·show _=some ((wr.cell? (aD g (o+j*2+0))).getD undef)
        rw[kH,q1];rfl
       ·show _=some ((wr.cell? (aD g (o+j*2+1))).getD undef)
        rw[q2];rfl)
     (fun W j hW R=>by
       obtain⟨g,o,Bk,m,dk,hA,hg,q1,q2,Z⟩:=E j R;have e1:T 0 j=aM x.ay[j].1:=by
        rw[L,hA];show(wr.cell? (aD g (o+j*2+0))).getD undef=_
        rw[kH,q1];rfl
       have e2:T 1 j= .slice Bk m dk:=by
        rw[L,hA];show(wr.cell? (aD g (o+j*2+1))).getD undef=_
        rw[q2];rfl
       rw[e1,e2];have hm:=a8 R;have J:=aN.ri _ hm;have s:=aa' (l:=x.ay[j].2) fun a f=>(J a f).1;obtain⟨o8, -, -⟩:=bl Z;have X:m=(bZ x.ay[j].2).length:=by unfold bZ;rw[bP];exact o8
       subst X;refine(an6 Ao co k (w.heap.size+1) p dd C hn _ Bk dk (bZ x.ay[j].2) (fun a f=> ?_) (fun a f b hb hne=> ?_) W (Qa.ext (S.trans hW)) (by rw[s];exact Z.ext hW) (P.ext (O.trans hW))).mono fun e w' hh=>⟨hh.1,hW.trans hh.2⟩
       ·unfold bZ at f;obtain⟨z,hz,rfl⟩:=b_.1 f;have:=(J z hz).2;have:=(J z hz).1;have:=HN.ae;omega
       ·unfold bZ at f hb;obtain⟨z,hz,rfl⟩:=b_.1 f;obtain⟨y,hy,rfl⟩:=b_.1 hb;exact pC.way _ hm z hz y hy fun e=>hne (by rw[e]))
    have ef:(List.range x.ay).any (fun _=>false)=false:=Q7.2 fun _ _ h=>by cases h
    rw[ef] at h1;exact h1
   go_wp2_with fail
   refine qr.mono ?_;rintro e5 w5 ⟨rfl,H⟩;have M:=af (t.trans (O.trans H));go_wp2_with fail
   exact bodyPost_ret (v:=av 0) (by simp [results,results34,go_sem]) rfl ⟨rfl,M⟩
def nX(x:aP)(f:Fu):Prop:=f.1<x.ai.length/\((f.2.1=1/\kd x f.1≠3/\f.2.2= [])\/(f.2.1=2/\kd x f.1≠3/\f.2.2= [])\/(f.2.1=3/\ej (kd x f.1) f.2.2)\/(f.2.1=4/\kd x f.1≠3/\f.2.2≠ []/\ej (kd x f.1) f.2.2)\/(f.2.1=5/\f.2.2= []))
def Uz{x:aP}(h:a<x.ai):kd x a=x.ai[a].2:=by unfold kd;rw[kX,aX h];rfl
def asy.k51(h:ar:=by
 rcases I.ae with⟨rfl,i,rfl⟩|⟨rfl,i,rfl⟩|⟨rfl,b⟩|⟨rfl,i,l,b⟩|⟨rfl,rfl⟩
 ·have s:(a !=3)=true:=ayx;exact V1
 ·have s:(a !=3)=true:=ayx;exact V1
 ·have EG:=af (t W2 b);exact agy
 ·have s:(a !=3)=true:=ayx;have EG:=af (t W2 b);have E:(q== [])=false:=beq_eq_false_iff_ne.2 l;exact agy
 ·skip
  exact V1):=h
def abq(v:Value)(x:aP)(f:Fu)(w:au)(h:dP w v x)(y:bV x)(G:nX x f):
 Calls prog 66 #[v,.agg #[av (f.1:Int),av (f.2.1:Int),aM f.2.2]] w fun e u=>e= .returned (.bool true)/\Ext w u:=by
 obtain⟨A,c,B,d,D,e,rfl,n,C,F⟩:=h;obtain⟨fa,J,q⟩:=f;obtain⟨k,j⟩:=G;obtain⟨g,o,rfl,hg,q1,q2⟩:=oM n k;have m:=y.ak _ (a8 k);simp only at k j q1 q2 m⊢;rw[Uz k] at j;generalize x.ai[fa]=r at*;obtain⟨z,a⟩:=r;simp only at q1 q2 j m;have t:=af (fun W (b:ej a q)=>Tb z q a W m b);have I:=af j;have H:decide ((fa:Int)<(x.ai.length:Int))=true:=fN;go_enter func66,ntmps66;open asy in exact m51
def aoY(A B D:aQ)(c d e i:Nat)(x:aP)(f:Fu)(w:au)(h:dP w (.agg #[.slice A x.ai c,.slice B x.ay d,.slice D x.a_ e,av x.label]) x)(k:bV x)(n:nX x f)(m:aq w i UO [.slice A x.ai c,.slice B x.ay d,.slice D x.a_ e,av x.label]):
 Calls prog 163 #[.agg #[av (f.1:Int),av (f.2.1:Int),aM f.2.2],aI i 0] w fun e j=>e= .returned (.bool false)/\Ext w j:=by
 have C:=af (fun W (o:Ext w W)=>abq _ x f W (h.ext o) k n);have p:=af m;obtain⟨F,E,z⟩:=f;go_enter func163,ntmps163;go_upto_region 1 with fail
 refine aR fun W b g=> ?_;have f0:=g.aF 0;have f1:=g.aF 1;have f2:=g.aF 2;obtain⟨y,u,t,s⟩:=(p.ext b).four;have q:=af (C W b);go_wp2_with fail
 refine q.mono ?_;rintro e r ⟨rfl,l⟩;have a:=af (b.trans l);go_wp2_with fail
 exact bodyPost_ret (v:= .bool false) (by simp [results,results163,go_sem]) rfl ⟨rfl,a⟩
def aoF(b:FuncId)(hid:∀d w,(callFunc b d).run prog w= .ok (.enter b d) w)(t:Value)(y x u:Nat->Value)(P:Nat->Bool)(I:World->Prop)(A:aQ)(n c:Nat)(w:au)(F:I w)(L:n<=c)(B:c<=maxLen)
 (C:∀W k,I W->k<n->∃g o,A=dV g o/\(aA W g (o+k*3) (y k)/\aA W g (o+k*3+1) (x k)/\aA W g (o+k*3+2) (u k)))
 (hF:∀W k,I W->k<n->Calls prog b #[.agg #[y k,x k,u k],t] W fun e l=>e= .returned (.bool (P k))/\I l):
 Calls prog 224 #[.slice A n c,.func (.func b) #[] #[t]] w fun e l=>e= .returned (av (je P n))/\I l:=by
 have G:=af C;have H:=af hF;have z:c<=9223372036854775807:=B;have q:=af F;go_enter func224,ntmps224;go_upto_region 2 with fail
 have s:ah (∀k,k<0->P k=false):=fun k hk=>by omega
 go_loopw [5,8] (fun _ m wr=>∃j:Nat,j<=n/\m=av j/\ah (I wr)/\ah (∀k,k<j->P k=false)) (fun _ m _=>n - (RowKit.intOf m).toNat)
 exact⟨0,aU _,rfl,q,s⟩;obtain⟨j,K,rfl,r,HB⟩:=hrel;by_cases f:j<n
 ·obtain⟨g,o,E,p⟩:=G _ _ r f;go_split_ands;have J:=H _ _ r f;subst E;go_wp2_with fail
  refine J.mono ?_;rintro e l ⟨rfl,D⟩;have nH:=af D;cases hp:P j with
  |true=>have a:=I2 f hp HB;go_wp2;exact bodyPost_ret (v:=av j) (by simp [results,results224,go_sem]) rfl ⟨by rw[a],nH⟩
  |false=>exact OX
 ·have d1:decide ((j:Int)<(n:Int))=false:=aW;have i:j=n:=Om;subst i;have a:=I3 HB;go_wp2;exact bodyPost_ret (v:=av (-1)) (by simp [results,results224,go_sem]) rfl ⟨by rw[a],r⟩
def ao2(a:FuncId)(hid:∀d w,(callFunc a d).run prog w= .ok (.enter a d) w)(h:Value)(l j i:Nat->Value)(P:Nat->Bool)(I:World->Prop)(A:aQ)(n c:Nat)(w:au)(t:I w)(q:n<=c)(p:c<=maxLen)
 (r:∀W k,I W->k<n->∃g o,A=dV g o/\(aA W g (o+k*3) (l k)/\aA W g (o+k*3+1) (j k)/\aA W g (o+k*3+2) (i k)))
 (hF:∀W k,I W->k<n->Calls prog a #[.agg #[l k,j k,i k],h] W fun e f=>e= .returned (.bool (P k))/\I f):
 Calls prog 161 #[.slice A n c,.func (.func a) #[] #[h]] w fun e f=>e= .returned (.bool ((List.range n).any P))/\I f:=by
 have x:=af (aoF a hid h l j i P I A n c w t q p r hF);have m:=Nq (P:=P) (n:=n);generalize(List.range n).any P=b at*;generalize je P n=z at*;go_enter func161,ntmps161;go_wp2_with fail
 refine x.mono ?_;rintro e f ⟨rfl,s⟩;have u:=af s;go_wp2;exact bodyPost_ret (v:= .bool b) (by simp [results,results161,go_sem]) rfl ⟨rfl,u⟩
def FuL.get{n:Nat}{l:List Fu}(h:Ls g7 lD m (.slice E n a) l){i:Nat}(e:i<l):
 ∃g o,E=dV g o/\g<m.heap.size/\aA m g (o+i*3) (av (l[i].1:Int))/\aA m g (o+i*3+1) (av (l[i].2.1:Int))/\aA m g (o+i*3+2) (aM l[i].2.2):=by
 obtain⟨g,o,d,k,j,f,b⟩:=rY lD.three Od h e;rw[show d=_ from f] at b;exact⟨g,o,k,j,b 0 _ rfl,b 1 _ rfl,b 2 _ rfl⟩
def adK{fid:FuncId}(hid:∀b w,(callFunc fid b).run prog w= .ok (.enter fid b) w)(j:Value)(A:aQ)(c:Nat)(a:List Fu)(w:au)(m:Ls g7 lD w (.slice A a.length c) a)(hF:∀W,Ext w W->∀f∈a,Calls prog fid #[.agg #[av (f.1:Int),av (f.2.1:Int),aM f.2.2],j] W fun e i=>e= .returned (.bool false)/\Ext W i):
 Calls prog 161 #[.slice A a.length c,.func (.func fid) #[] #[j]] w fun e i=>e= .returned (.bool false)/\Ext w i:=by
 obtain⟨-,s,r⟩:=bl m;have h:=ao2 fid hid j (fun k=>av (((a[k]?.getD (0,0,[])).1:Nat):Int)) (fun k=>av (((a[k]?.getD (0,0,[])).2.1:Nat):Int)) (fun k=> .string ⟨(a[k]?.getD (0,0,[])).2.2.toArray⟩) (fun _=>false) (fun W=>Ext w W) A a.length c w (aB w) s r
  (fun W k hW d=>by obtain⟨g,o,q,l,q1,q2,q3⟩:=FuL.get m d;rw[aX d];exact⟨g,o,q,(hW.cell (p:=aD g (o+k*3)) l).trans q1,(hW.cell (p:=aD g (o+k*3+1)) l).trans q2,(hW.cell (p:=aD g (o+k*3+2)) l).trans q3⟩)
  (fun W k hW d=>by rw[aX d];exact(hF W hW _ (a8 d)).mono fun e i n=>⟨n.1,hW.trans n.2⟩)
 rwa[show(List.range a.length).any (fun _=>false)=false from Q7.2 fun _ _ h=>by cases h] at h
def acj{fid:FuncId}(hid:∀b w,(callFunc fid b).run prog w= .ok (.enter fid b) w)(i:Value)(A:aQ)(c:Nat)(l:List Nat)(w:au)(j:IL w (.slice A l c) (ints l))(hF:∀W,Ext w W->∀a∈l,Calls prog fid #[av (a:Int),i] W fun e f=>e= .returned (.bool false)/\Ext W f):
 Calls prog 51 #[.slice A l c,.func (.func fid) #[] #[i]] w fun e f=>e= .returned (.bool false)/\Ext w f:=by
 obtain⟨-,r,p⟩:=bl j;have h:=adQ fid hid i (fun k=>av ((l[k]?.getD 0:Nat):Int)) (fun _=>false) (fun W=>Ext w W) A l c w (aB w) r p
  (fun W k hW d=>by obtain⟨g,o,n,q⟩:=nO (j.ext hW) d (jp aS W);rw[aX d];exact⟨g,o,n,q⟩)
  (fun W k hW d=>by rw[aX d];exact(hF W hW _ (a8 d)).mono fun e f m=>⟨m.1,hW.trans m.2⟩)
 rwa[show(List.range l.length).any (fun _=>false)=false from Q7.2 fun _ _ h=>by cases h] at h
structure jy(x:aP)(fs:List Fu)(attrs:List Nat):Prop where
 fl:fs.length<=6
 al:attrs.length<=3
 fo:∀f∈fs,nX x f
 ao:∀a∈attrs,a<x.ai.length
 ql:kh attrs=true
def ak8(v:Value)(x:aP)(k:List Fu)(b:List Nat)(K L:aQ)(H I:Nat)(w:au)(h:dP w v x)(V:bV x)(s:jy x k b)(q:Ls g7 lD w (.slice K k H) k)(hg:IL w (.slice L b I) (ints b)):
 Calls prog 93 #[v,.agg #[.slice K k H,.slice L b I]] w fun e w'=>e= .returned (av 0)/\Ext w w':=by
 have J:=af s;have HF:=af q;have Z:=af hg;have P:=af V;have O:=af h;obtain⟨A,c,B,d,D,e,rfl,N,kQ,D7⟩:=h;have l1:=s.fl;have l2:=s.al;have hcA:=(bl N).2;have r:x.ai<=maxLen:=by have:=V.a12;unfold maxLen;omega
 have d1:decide ((k.length:Int)>6)=false:=aW;have d2:decide ((b.length:Int)>3)=false:=aW;go_enter func93,ntmps93;go_upto_region 1 with fail
 refine gJ fun W HX BX BG=> ?_;have hbg:=BG.lt;go_upto_region 2 with fail
 refine aR fun W2 l T=> ?_;have E:=af (BX.ext l);have n:=af (BG.ext l);have z:=af (HX.trans l);have hbm:=T.lt;generalize Pr:W.heap.size=X at*;generalize hgb:w.heap.size+1=gb at*;generalize Gt:w.heap.size=o at*;have g0:=n.aF 0;have Y:=n.aF 1;have C1:=af (adK (fid:=162) (fun _ _=>by rfl) (aI X 0) K H k W2 (bU lZ HF z) fun t j f q=>aoZ A B D x.ai c x.ay d x.a_ e o X x.label f (J.fo f q).1 r t (E.ext j) (T.ext j));go_upto_region 4 with fail
 go_wp2_with fail
 refine C1.mono ?_;rintro e3 w3 ⟨rfl,g⟩;have y:=af (z.trans g);have C:=af (E.ext g);have G:=af (n.ext g);have S:=af (T.ext g);have Y:=G.aF 1;have m0:=S.aF 0;have C2:=af (acj (fid:=160) (fun _ _=>by rfl) (aI o 0) L I b w3 (iU Z y) fun t j a s=>adP A B D x.ai c x.ay d x.a_ e a o x.label (J.ao a s) r t (C.ext j));go_wp2_with fail
 refine C2.mono ?_;rintro e4 w4 ⟨rfl,i⟩;have m:=af (y.trans i);have R:=af (C.ext i);have F:=af (G.ext i);have g0:=F.aF 0;have C3:=af (adK (fid:=163) (fun _ _=>by rfl) (aI o 0) K H k w4 (bU lZ HF m) fun t j f q=>aoY A B D c d e o x f t (O.ext (m.trans j)) P (J.fo f q) (R.ext j));go_wp2_with fail
 refine C3.mono ?_;rintro e5 w5 ⟨rfl,p⟩;have u:=af (m.trans p);have U:=af (F.ext p);have Y:=U.aF 1;have C4:=af (Z_ L I b J.ql w5 (iU Z u));go_wp2_with fail
 refine C4.mono ?_;rintro e6 w6 ⟨rfl,M⟩;have Q:=af (u.trans M);go_wp2_with fail
 exact bodyPost_ret (v:=av 0) (by simp [results,results93,go_sem]) rfl ⟨rfl,Q⟩
abbrev Ag:=List Fu×List Nat
def yT(w:au)(c:List Value)(y:Ag):Prop:=∃d a e b,c= [.slice d y.1.length a,.slice e y.2.length b]/\Ls g7 lD w (.slice d y.1.length a) y.1/\IL w (.slice e y.2.length b) (ints y.2)
def yT.iH:jR [g7,aS] yT:=fun _ _ _ _ b ⟨h,f,i,g,e,d,c⟩=>⟨h,f,i,g,e,gF lZ d fun t a=>b t (by simp at a;subst a;simp),gF cJ c fun t a=>b t (by simp at a;subst a;simp)⟩
def yT.two(w:au)(c:List Value)(y:Ag)(h:yT w c y):c.length=2:=by obtain⟨_,_,_,_,rfl,_⟩:=h;rfl
abbrev ry:=Ls ud yT
def ry.get{n:Nat}{l:List Ag}(h:ry m (.slice E n a) l){i:Nat}(p:i<l):
 ∃g o f b j e,E=dV g o/\g<m.heap.size/\aA m g (o+i*2) (.slice f l[i].1 b)/\aA m g (o+i*2+1) (.slice j l[i].2 e)/\ah (Ls g7 lD m (.slice f l[i].1 b) l[i].1)/\ah (IL m (.slice j l[i].2 e) (ints l[i].2)):=by
 obtain⟨g,o,d,t,s,⟨f,b,j,e,rfl,r,q⟩,k⟩:=rY yT.two Od h p;exact⟨g,o,f,b,j,e,t,s,k 0 _ rfl,k 1 _ rfl,r,q⟩
def asx.Kd(h:ar:=by
 have F:=af (BX.ext hx1);have j:=af (HX.trans hx1);go_upto_region 7 with fail
 go_loopw [7,8,19] (fun _ _ b wr=>∃i:Nat,i<=l/\b=av i/\ah (Ext w1 wr)) (fun _ _ b _=>l - (RowKit.intOf b).toNat)
 exact⟨0,aU _,rfl,aB _⟩;obtain⟨i,hi,rfl,C⟩:=hrel;by_cases n:i<l
 ·obtain⟨g,o,G,s,H,t,rfl,J,q1,q2,M,L⟩:=ry.get (bU yT.iH HL (j.trans C)) n;have m:=HA _ (a8 n);generalize l[i]=y at*;obtain⟨r,a⟩:=y;simp only at q1 q2 M L m;have u:=af m;go_upto_region 9 with fail
  refine aR fun Z f N=> ?_;have k:=af (C.trans f);have E:=af (CC Z r a G H s t (j.trans k) u (bU lZ M f) (iU L f));obtain⟨s0,s1,s2,s3⟩:=(F.ext k).four;have g0:=N.aF 0;have g1:=N.aF 1;go_wp2_with fail
  refine E.mono ?_;rintro e3 w3 ⟨rfl,p⟩;have z:=af (k.trans p);go_wp2_with fail
  go_roundw;exact⟨i+1,by omega,by go_num,z⟩;simp [RowKit.intOf];omega
 ·have d1:decide ((i:Int)<(l.length:Int))=false:=aW;go_wp2_with fail;exact bodyPost_ret (v:=av 0) (by simp [results,results36,go_sem]) rfl ⟨rfl,j.trans C⟩):=h
def ak9(v:Value)(x:aP)(O:aQ)(K:Nat)(l:List Ag)(w:au)(h:dP w v x)(I:bV x)(S:ry w (.slice O l K) l)(R:l.length<=40)(X:∀y∈l,jy x y.1 y.2):
 Calls prog 36 #[v,.slice O l K] w fun e P=>e= .returned (av 0)/\Ext w P:=by
 have CH:=af (fun W (q:Ext w W)=>I7 v x W (h.ext q) I);have CC:=af (fun W r a G H s t (q:Ext w W) Y U J=>ak8 v x r a G H s t W (h.ext q) I Y U J);have HL:=af S;have HA:=af X;obtain⟨A,c,B,d,D,e,rfl,V,Q,T⟩:=h;have d0:decide ((l.length:Int)>40)=false:=aW;go_enter func36,ntmps36;open asx in exact Kc
def akw{x:aP}{D:List (List Rw)}(b:a<x.ay)(c:a<D):(aT x D).take (a+1)=(aT x D).take a++ [k8 x.ay x.ay[a].2 D[a]]:=by have h:=M_ b c;obtain⟨e,d⟩:=uU.1 h;rw[fR e,d]
def amS:j7 prog 33 lI 1 24:= .mk' (z:= .slice none 0 0) Ok Ok rfl Od Od
def GZ(n:Nat)(u:Value)(w:au):Prop:=∃A l c,u= .slice A l.length c/\IL w (.slice A l.length c) (ints l)/\l.Nodup/\∀a,a∈l↔a<n
def GY(a:Nat)(u:Value)(w:au):Prop:=∃g,u= .map (some g)/\dt w aS g 0 (fun _=>none)/\a<=g
def GZ.ext{n:Nat}{u:Value}{w':au}(h:GZ n u m)(k:Ext m w'):GZ n u w':=by obtain⟨A,l,c,e,b,a⟩:=h;exact⟨A,l,c,e,b.ext k,a⟩
def GY.ext{n:Nat}{u:Value}{w':au}(h:GY n u m)(k:Ext m w'):GY n u w':=by obtain⟨g,e,a,b⟩:=h;exact⟨g,e,a.same (k.block _ a.lt),b⟩
def asw.Gn(h:ar:=by refine CP.mono ?_;rintro e5 w5 ⟨u5,l5,rfl,V,hn5,Kp,U⟩;obtain⟨A5,c5,rfl, -, -, -⟩:=V.parts;rw[show(ints l5).length=l5.length from by unfold ints;rw[bP]] at V⊢;exact ku _ _ U ⟨A5,l5,c5,rfl,V,hn5,Kp⟩):=h
def asv.Gn(h:ar:=by exact ku _ _ ((aB g).alloc _) ⟨_,rfl,Ct g aS,hsz⟩):=h
def apP(v:Value)(x:aP)(D:List (List Rw))(Ad:aQ)(cd:Nat)(w:au)(h:dP w v x)(ok:bV x)(hD:ip x D)(hd:iO w (.slice Ad D cd) D):
 Calls prog 37 #[v,.slice Ad D cd] w fun e a=>∃m H,e= .returned (aI m 0)/\gO x (aT x D) m H a/\dy x H a/\w.heap.size<=m/\w.heap.size<=H/\Ext w a:=by
 have CL:=af (fun W (hX:Ext w W)=>akf v x W (h.ext hX) ok);have CV:=af (fun W (i:Nat) (A0:aQ) (n0 c0:Nat) (l:List Rw) (r:Rl) (hX:Ext w W) hl hr ht jU=>alU v x i A0 n0 c0 l r W (h.ext hX) ok hl hr ht jU);have HD:=af hd;have HDO:=af hD;have AX:=af h;have mC:= @run_makeMap prog;obtain⟨A,c,B,d,E,e,rfl,hat,kQ,D7⟩:=h;have HLEN:=af hD.1;have Pi:=ok.r6;have Xb:=(bl kQ).2;have hcD:=(bl hd).2;go_enter func37,ntmps37;go_upto_region 1 with fail
 refine aR fun W HX BX=> ?_;have nz:=BX.lt;obtain⟨I,GQ⟩:∃I:World->Prop,I=fun a=>Ext W a:=⟨_,rfl⟩;have qp:ah (∀a,I a->Ext W a):=ayo;have O:ah (∀a,Ext W a->I a):=ayo;have bK:ah (∀a,I a->aA a w.heap.size 0 (.slice A x.ai c)/\aA a w.heap.size 1 (.slice B x.ay d)/\aA a w.heap.size 2 (.slice E x.a_ e)/\aA a w.heap.size 3 (av x.label)):=fun a h=>(BX.ext (qp a h)).four;have aJ:ah (I W.drew):=O _ (aB W).drew;refine cG (S:=I) (T:=fun _=>false) Ok ?_;generalize W.drew=wd at*;refine ax 0 7 ?_;refine ax 1 8 ?_;refine bW.PU [⟨2,9,GZ x.ai⟩,⟨3,10,GY W.heap.size⟩] I (fun _ _=>True) [2,3] [9,10] [[],[]] #[true,true,true,true,false,false,false] 2 3 rfl rfl rfl Od Ok Ok (fun _ h=>h) aJ ?_ ?_
 ·intro k b hb us g hI qg _ o ho K f;have wK:=af (qp g hI);have hsz:W.heap.size<=g.heap.size:=wK.size;have HK:=af (fun v a (hc:Ext g a) (h0:b.R v a)=>f v a (O a (wK.trans hc)) h0 fun j c hj _ u s=>by
   refine⟨?_,trivial,trivial⟩;rcases j with _|_|j;all_goals simp only[dA,dX,ZK,dl,reduceCtorEq] at hj
   all_goals subst hj
   ·exact GZ.ext s hc
   ·exact GY.ext s hc)
  rcases k with _|_|k
  ·have CP:=af (CL g (HX.trans wK));simp only[dA,dl] at hb;subst hb;open asw in exact Gm
  ·skip
   simp only[dA,dX,dl] at hb;subst hb;open asv in exact Gm
  ·simp at hb
 ·intro us g hI hR _;obtain⟨Al,ll,cl,e1,gp,hnd,atD⟩:GZ x.ai (us 0) g:=hR 0 _ rfl;obtain⟨H,e2,Pq,xY⟩:GY W.heap.size (us 1) g:=hR 1 _ rfl;have d_:=af gp;have Eu:=af Pq;have yB:=af hnd;have HME:=af atD;simp only[fc,e1,e2,Act.put,eo,d9,ep];have aJ:ah (I g):=hI;have HI:=af (qp g hI);have hsz:W.heap.size<=g.heap.size:=HI.size;refine ax 4 11 ?_;refine aO 5 ?_;intro K f;go_simp;refine f.ae _ _ (fun _=>O _ (HI.trans ((aB g).alloc _))) ?_;refine aR fun C F BJ=> ?_;have wL:=af (HX.trans (HI.trans F));have oC:=af (BX.ext (HI.trans F));have bB:ah (I C):=O _ (HI.trans F);have au2:=af (iU d_ F);have P:ah (dt C aS H 0 fun _=>none):=Eu.same (F.block _ Eu.lt);have hpl:=Eu.lt;have X:=BJ.lt;have aJ:=bB;generalize hj3:g.heap.size=m at*;refine aO 6 ?_;intro K f;go_simp;refine f.ae _ _ (fun _=>aJ.ae) ?_;refine bY Ok ?_;have hwW:w.heap.size<=W.heap.size:=HX.size;obtain⟨s0,s1,s2,s3⟩:=oC.four;go_upto_region 3 with fail
  go_loopw [6,16] (fun _ Q wr=>∃(i:Nat) (At:aQ) (Z:Nat),i<=x.ay/\Q=av i/\ah (aq wr m Di [.slice A x.ai c,.slice B x.ay d,.slice E x.a_ e,av x.label,.slice At i Z,.slice Al ll cl,.map (some H)])/\ah (bG lI 1 sW C.heap.size wr (.slice At i Z) ((aT x D).take i))/\ah (Only m C wr)) (fun _ Q _=>x.ay - (RowKit.intOf Q).toNat)
  exact⟨0,none,0,aU _,rfl,BJ,by rw[kG];exact ii,gD _ _⟩;obtain⟨i,At,Z,hi,rfl,HJ,HO,HN⟩:=hrel;have KI:Ext w wr:=wL.only HN Om;have M:=af KI;have Ya:=HN.size;obtain⟨A',c',xs,e', -,Vf,HOr,He⟩:=HO.parts;rw[cO,pS,i9 hi] at e' HOr;injection e' with e1 _ e2;subst e1 e2;by_cases J:i<x.ay
  ·have Y:i<D.length:=by rw[HLEN.ae];exact J
   obtain⟨gd,od,Bi,di,rfl,hgd,auQ,ur⟩:=iO.get HD Y;have HLi:=af (zD auQ M);have hq:=(M.cell (p:=aD gd (od+i)) hgd).trans ur;have HT:=af (HDO.2 i _ _ (aX Y) (aX J));have fQ:=af (akw J Y);have gC:ah (x.ay[i]? =some x.ay[i]):=aX J;generalize D[i]=l at*;generalize x.ay[i]=r at*;have awA:=HT.len;have G3:ah (∀y∈l,y.1.length=r.2):=fun y hy=>(HT.val y hy).1;have hJl:=HJ.lt;obtain⟨S,fA⟩:∃S:World->Prop,S=fun a=>aA a m 4 (.slice At i Z)/\aA a gd (od+i) (.slice Bi l di)/\F4 a w.heap.size (.slice A x.ai c) (.slice B x.ay d) (.slice E x.a_ e) (av x.label):=⟨_,rfl⟩;have bK:ah (∀a,S a->aA a m 4 (.slice At i Z)/\aA a gd (od+i) (.slice Bi l di)/\aA a w.heap.size 0 (.slice A x.ai c)/\aA a w.heap.size 1 (.slice B x.ay d)/\aA a w.heap.size 2 (.slice E x.a_ e)/\aA a w.heap.size 3 (av x.label)):=axt;have mH:ah (∀a,Below C.heap.size wr a->S a):=(by rw[ah,fA];exact fun a hx=>⟨(HJ.below hx X).aF 4,(hx.cell (p:=aD gd (od+i)) (show gd<C.heap.size by omega)).trans hq,((oC.only HN Om).below hx (show w.heap.size<C.heap.size by omega)).four⟩)
   have cF:ah (∀a,Ext wr a->S a):=fun a hx=>mH a (Below.mono hx Ya);go_upto_region 5 with fail
   have N:=af (aB wr).drew;have aJ:=af (cF _ N);refine cG (S:=S) (T:=fun j=>decide (16<=j)) Ok ?_;generalize wr.drew=wd at*;refine ax 0 19 ?_;refine ax 1 20 ?_;refine ax 2 21 ?_;refine ax 3 22 ?_;refine ax 4 23 ?_;refine ax 5 24 ?_;refine ax 6 25 ?_;refine ax 7 26 ?_;refine ax 8 27 ?_;refine ax 9 28 ?_;refine ax 10 29 ?_;refine aO 11 ?_;intro K f;go_simp;refine(CV wd i Bi l di l r (M.trans N) (zD HLi N) gC G3 Om).mono ?_;rintro e5 w5 ⟨u,rfl,s,U⟩;obtain⟨Au,cu, -,rfl, -, -, -, -⟩:=s.parts;have qm:=af s.ls;have d8:=af (N.trans U);have mI:=af (cF _ d8);refine f.ae _ _ (fun _=>mI.ae) ?_;generalize k8 x.ay r.2 l=lv at*;refine aO 12 ?_;intro K f;go_simp;refine f.ae _ _ (fun _=>cF _ (d8.alloc _)) ?_;refine aR fun WZ cI BZ=> ?_;have q:=af (d8.trans cI);have Le:=af (zD qm cI);have hwz:=q.size;have HJZ:=af (HJ.ext q);have G:=af (xm HOr q);have YL:=af (FT (fun c x hc=>tR _ _ _ _ (fun _ _=>Iz q) hc) He);have HNZ:ah (Only m C WZ):=HN.trans (.gV q.ae);have dC:(i+1)*24<=140737488355328:=Om;refine aO 13 ?_;intro K f;refine nV rfl ?_;refine rU _ _ 33 rfl C.heap.size amS _ _ _ rfl G.ae _ [.slice Au lv cu] BZ.ae 1 1 rfl rfl rfl dC Om ?_;intro v' w7 qV L _;obtain⟨A7,c7,rfl, -, -, -⟩:=eL qV;have n:=gK HJZ G L X;have kt:=af (mH w7 (qB (Below.mono q Ya) L (aV Ya hwz) fun k hk=>(G.lt k hk).1));obtain⟨w8,O_,B8,K8,N8⟩:=fM (i:=4) n (.slice A7 (i+1) c7);have z:((aT x D).take i)=i:=by rw[cO,pS,i9 hi]
   have hO7:bG lI 1 sW C.heap.size w7 (.slice A7 (i+1) c7) ((aT x D).take i++ [lv]):=iF (R:=sW) (x:=lv) tR (fun u s=>by simp only[aK,bJ,or_false] at s;rcases s with rfl|rfl<;>decide) (by rw[z];exact G) YL ⟨Au,cu,rfl,Le⟩ (by rw[z];exact qV) L;rw[<-fQ.ae] at hO7;have uH:=af (hO7.only tR N8 X fun u s=>by
    simp only[aK,bJ,or_false] at s;rcases s with rfl|rfl
    ·exact N8.kept n Od
    ·exact N8.kept n Od)
   have Qd:ah (Only m C w8):=(HNZ.grown G L).trans N8.ae;have p7:=n.aF 4;have f7:=n.frozen 4;have l7:=n.lt;simp only[Act.put,eo,d9,ep];refine f.ae _ _ (fun _=>kt.ae) ?_;refine aO 14 ?_;intro K f;go_simp;refine f.ae _ _ (fun _=>kt.ae) ?_;refine aO 15 ?_;intro K f;go_simp;refine f.ae _ _ (fun _=>kt.ae) ?_;refine aO 16 ?_;intro K f;go_simp;refine f.ae _ _ Oe ?_;refine bY Ok ?_;go_wp2_with fail
   go_roundw;exact⟨i+1,A7,c7,by omega,by go_num,B8,uH,Qd⟩;simp [RowKit.intOf];omega
  ·have AA:i=x.ay.length:=Om;have d1:decide ((i:Int)<(x.ay.length:Int))=false:=aW;have hTl:(aT x D).take i=aT x D:=dD ayE;have z_:=HO.ls;rw[hTl] at z_;have hLT:(aT x D)=i:=by rw[pS];exact AA.symm
   have LF:ah (iO wr (.slice At (aT x D) Z) (aT x D)):=by rw[hLT];exact z_
   have Hm:ah (gO x (aT x D) m H wr):=⟨A,c,B,d,E,e,At,Z,Al,cl,ll,by rw[hLT];exact HJ.ae,AX.ext KI,LF,gF cJ au2 fun t ht=>(by simp only[aK,bJ,or_false] at ht;subst ht;exact HN.kept BJ Od),yB,HME⟩;have Qk:ah (dy x H wr):=⟨0,fun _=>none,P.same (HN.block H P.lt Oc),fun k u h=>by cases h⟩;go_wp2_with fail;exact bodyPost_ret (v:=aI m 0) (by simp [results,results37,go_sem]) rfl ⟨m,rfl,H,Hm,Qk,by omega,by omega,M⟩
def uf(a b:aC):Int:=if Op.bytesLess a b=true then -1 else if (a==b)=true then 0 else 1
def iG(a b:List aC):Int:=if dU a b=true then -1 else if (a==b)=true then 0 else 1
def aci(a:aC)(w:au):
 Calls prog 257 #[aM a] w fun e b=>e= .returned (.bool false)/\b=w:=by
 have h:(a==a)=true:=Ou;go_enter func257,ntmps257;go_wp2;go_ret;exact⟨rfl,rfl⟩
def ao3(a b:aC)(w:au):
 Calls prog 203 #[aM a,aM b] w fun e i=>e= .returned (av (uf a b))/\i=w:=by
 have c:ah (uf a b=if Op.bytesLess a b=true then -1 else if (a==b)=true then 0 else 1):=rfl;generalize uf a b=f at*;have H1:=af (aci a w);have H2:=af (aci b w);cases d:Op.bytesLess a b with
 |true=>rw[d] at c;have HC:ah (f= -1):=c.ae;exact V9
 |false=>
  cases g:a==b with
  |true=>rw[d,g] at c;have HC:ah (f=0):=c.ae;exact V9
  |false=>rw[d,g] at c;have HC:ah (f=1):=c.ae;exact V9
def ac2(K J:aQ)(F H E G:Nat)(a b:List aC)(w:au)(d:TL w (.slice K F H) a)(f:TL w (.slice J E G) b):
 Calls prog 124 #[.slice K F H,.slice J E G] w fun e L=>e= .returned (av (iG a b))/\L=w:=by
 obtain⟨U,R,N⟩:=bl d;obtain⟨u,Q,M⟩:=bl f;subst U u;have W:=af d;have V:=af f;go_enter func124,ntmps124;go_wp2;go_loopw [11] (fun v wr=>∃i:Nat,i<=a/\i<=b/\v=av i/\ah (a.take i=b.take i)/\wr=w) (fun v _=>a - (RowKit.intOf v).toNat)
 exact⟨0,aU _,aU _,rfl,rfl,rfl⟩;obtain⟨i,P,O,rfl,m,rfl⟩:=hrel;by_cases p:i<a
 ·obtain⟨g,o,rfl,_,s⟩:=rX W p;by_cases l:i<b
  ·obtain⟨Y,X,rfl,_,n⟩:=rX V l;have C:=af (fun h=>aeP p l m h);have z:ah ((a[i]==b[i])=true->a.take (i+1)=b.take (i+1)):=fun h=>by rw[tJ,tJ,m.ae,aX p,aX l,beq_iff_eq.1 h]
   have B:ah ((a[i]==b[i])=false->(a==b)=false):=fun h=>by rw[beq_eq_false_iff_ne] at h⊢;intro e;subst e;exact h rfl
   generalize a[i]=x at*;generalize b[i]=y at*;have q:=af (ao3 x y wr);cases c:x==y with
   |true=>
    have A:=af (z c);have k:uf x y=0:=(by have e:=beq_iff_eq.1 c;unfold uf;rw[if_neg (by rw[e,zo.jD];decide),if_pos c])
    rw[k] at q;go_wp2_with fail;refine q.mono ?_;rintro e D ⟨rfl,rfl⟩;go_wp2;go_roundw;exact⟨i+1,by omega,by omega,by go_num,A,by trivial⟩;simp [RowKit.intOf];omega
   |false=>
    have j:ah (iG a b=uf x y):=(by unfold iG uf;rw[ah,C.ae c,B.ae c,c]);have k:uf x y= -1\/uf x y=1:=by
     unfold uf;rw[c];split
     ·exact .inl rfl
     ·exact .inr rfl
    generalize uf x y=Z at*;rcases k with rfl|rfl
    ·go_wp2_with fail
     refine q.mono ?_;rintro e D ⟨rfl,rfl⟩;go_wp2;go_ret;exact⟨by rw[j.ae];rfl,rfl⟩
    ·go_wp2_with fail
     refine q.mono ?_;rintro e D ⟨rfl,rfl⟩;go_wp2;go_ret;exact⟨by rw[j.ae];rfl,rfl⟩
  ·have j:ah (iG a b=1):=by
    have e:i=b.length:=Om;have d:=m.ae;rw[e] at d;have f:=Tt d;have t:(a==b)=false:=(by rw[beq_eq_false_iff_ne];intro h;rw[h] at p;omega)
    unfold iG;rw[ah,f,t];rfl
   have S:b<=i:=Om;go_wp2;go_ret;exact⟨by rw[j.ae];rfl,rfl⟩
 ·have r:i=a.length:=Om;have I:=af r;have T:a<=i:=Om;by_cases l:a<b.length
  ·have j:ah (iG a b= -1):=(by have d:=m.ae;rw[I.ae] at d;unfold iG;rw[ah,adh l d];rfl);go_wp2;go_ret;exact⟨by rw[j.ae];rfl,rfl⟩
  ·have j:ah (iG a b=0):=by
    have d:=m.ae;have e:i=b.length:=Om;have u:a=b:=(by have f:=d;rw[I.ae,fB] at f;have t:a.length=b.length:=Om;rw[t,fB] at f;exact f)
    unfold iG;rw[ah,u,iR.jD];simp
   go_wp2;go_ret;exact⟨by rw[j.ae];rfl,rfl⟩
def amD(k j:aQ)(f i d g:Nat)(a b:List aC)(w:au)(o:TL w (.slice k f i) a)(n:TL w (.slice j d g) b):
 Calls prog 223 #[.slice k f i,.slice j d g] w fun e m=>e= .returned (.bool (dU a b))/\w=m:=by
 have CS:=af (ac2 k j f i d g a b w o n);cases l:dU a b with
 |true=>
  have c:iG a b= -1:=by unfold iG;rw[if_pos l]
  rw[c] at CS;exact V5
 |false=>
  have c:iG a b=0\/iG a b=1:=by
   unfold iG;rw[l];split
   ·rename_i h;cases h
   ·split
    ·exact .inl rfl
    ·exact .inr rfl
  generalize iG a b=p at*;rcases c with rfl|rfl
  ·exact V5
  ·exact V5
def xJ.lt{x:aP}{l:List Rw}(h:xJ x L l){i:Nat}(a:i+1<l):dU l[i].1 l[i+1].1=true:=(nI.1 h.ord) i (i+1) Om a Om

end Go.Proofs.YtehkcnbodcdijaaGreatDoor
