/- Texts of the proof, part 11. -/
import Derived.Test.YtadbchhdjbghkaaGreatDoorA10
namespace Go.Proofs.YtadbchhdjbghkaaGreatDoor
set_option maxHeartbeats 8000000
set_option linter.all false
set_option maxRecDepth 100000
variable{aq:Prop}
open Go.RowKit Go.Lib Go.Maps Go.ChangeShapes Go.WideShapes Go.ChangeAt Go.Proofs.Tryz
variable{a b c d e f g h:Nat}{i j k l:List Nat}{m n o:World}{p q r s:Value}{t u v:List Value}{w x:TypeId}{y z:Nat→Option Nat}{A:Nat→List Nat}{B C:Int}{E F:Option Addr}{H I:Rat}{J:Nat→Nat}{K:Nat→Bool}{L:List Int}{N:Array Bool}{O:Option Nat}{Q:Act}{R S:Bool}{T:List UInt8}
abbrev VS:=Nat->Bool
def VS.less(s t:VS):VS:=fun a=>s a&& !(t a)
def VS.one(a:Nat):VS:=fun b=>b==a
section
variable{adj:Nat->Nat->Prop}
inductive Reach(adj:Nat->Nat->Prop)(rest:VS)(a:Nat):Nat->Prop
 |refl:Reach adj rest a a
 |step {b c:Nat} (h:Reach adj rest a b) (k:adj b c) (hc:rest c=true):Reach adj rest a c
theorem Reach.trans{rest:VS}(g:Reach adj rest a b)(f:Reach adj rest b c):Reach adj rest a c:=by
 induction f with
 |refl=>exact g
 |step _ k e d=>exact .step d k e
theorem Reach.symm(d:∀a b,adj a b->adj b a){rest:VS}(f:rest a=true)(h:Reach adj rest a b):Reach adj rest b a/\rest b=true:=by
 induction h with
 |refl=>exact⟨.refl,f⟩
 |step _ k e c=>exact⟨(Reach.step .refl (d _ _ k) c.2).trans c.1,e⟩
theorem Reach.mono{rest c:VS}(e:∀x,rest x=true->c x=true)(h:Reach adj rest a b):Reach adj c a b:=by
 induction h with
 |refl=>exact .refl
 |step _ k f d=>exact .step d k (e _ f)
noncomputable def part(adj:Nat->Nat->Prop)(rest:VS)(a:Nat):VS:=fun b=> @decide (Reach adj rest a b) (Classical.propDecidable _)
theorem eV{rest:VS}:part adj rest a b=true↔Reach adj rest a b:=by unfold part;exact @decide_eq_true_iff _ (Classical.propDecidable _)
theorem p4(c:∀a b,adj a b->adj b a){rest:VS}(d:rest a=true)(h:part adj rest a b=true):rest b=true:=((eV.1 h).symm c d).2
theorem Bw(f:∀a b,adj a b->adj b a){rest:VS}(g:rest a=true)(h:part adj rest a b=true):part adj rest b=part adj rest a:=by
 have e:=eV.1 h;have i:=(e.symm f g).1;funext c
 rw[lI,eV,eV];exact⟨fun d=>e.trans d,fun d=>i.trans d⟩
def apC(adj:Nat->Nat->Prop)(rest c:VS):Prop:=∃a,rest a=true/\c=part adj rest a
theorem aa6(o:∀a d,adj a d->adj d a){rest:VS}(n:rest b=true)(i:part adj rest a b=false):part adj (rest.less (part adj rest a)) b=part adj rest b:=by
 funext c
 rw[lI,eV,eV];constructor
 ·intro h;exact h.mono fun y e=>by unfold VS.less at e;rw[cZ] at e;exact e.1
 ·intro h;induction h with
  |refl=>exact .refl
  |step p k j m=>rename_i d c;refine .step m k ?_;unfold VS.less;rw[j,LH,sM,<-sQ,eV];intro g;have f:Reach adj rest b c:= .step p k j;have l:=(g.trans ((f.symm o n).1));rw[<-eV] at l;rw[l] at i;cases i
noncomputable def parts(adj:Nat->Nat->Prop):List Nat->VS->List VS
 | [],_=> []
 |a::l,rest=>if rest a=true then part adj rest a::parts adj l (rest.less (part adj rest a)) else parts adj l rest
theorem Ez(n:∀a b,adj a b->adj b a){rest0:VS}:∀(l:List Nat) (rest:VS),(∀x,rest x=true->rest0 x=true/\part adj rest x=part adj rest0 x)->
 (∀c∈parts adj l rest,apC adj rest0 c/\∃a∈l,rest a=true/\c=part adj rest0 a)/\∀a∈l,rest a=true->part adj rest0 a∈parts adj l rest
 | [],rest,_=>by
   refine⟨fun c k=> ?_,fun a g=> ?_⟩
   ·cases k
   ·cases g
 |a::l,rest,h=>by
  unfold parts;by_cases g:rest a=true
  ·rw[if_pos g];have m:=(h a g).2;have u:∀x,(rest.less (part adj rest a)) x=true->rest0 x=true/\part adj (rest.less (part adj rest a)) x=part adj rest0 x:=fun x d=>by unfold VS.less at d;rw[cZ,sM] at d;refine⟨(h x d.1).1,?_⟩;rw[aa6 n d.1 d.2];exact(h x d.1).2
   obtain⟨q,p⟩:=Ez n l (rest.less (part adj rest a)) u;refine⟨fun c k=> ?_,fun x d f=> ?_⟩
   ·rcases aJ.1 k with rfl|k
    ·exact⟨⟨a,(h a g).1,m⟩,a,by simp,g,m⟩
    ·obtain⟨o,y,r,i,s⟩:=q c k;refine⟨o,y,by simp [r],?_,s⟩;unfold VS.less at i;rw[cZ] at i;exact i.1
   ·by_cases j:part adj rest a x=true
    ·have e:part adj rest0 x=part adj rest a:=by rw[<-(h x f).2];exact Bw n g j
     rw[e];exact lH
    ·rcases aJ.1 d with rfl|d
     ·exact absurd (eV.2 .refl) j
     ·refine oX _ (p x d ?_);unfold VS.less;rw[f,LH,sM];exact sQ _▸j
  ·rw[if_neg g];obtain⟨q,p⟩:=Ez n l rest h;refine⟨fun c k=> ?_,fun x d f=> ?_⟩
   ·obtain⟨o,y,r,t⟩:=q c k;exact⟨o,y,by simp [r],t⟩
   ·rcases aJ.1 d with rfl|d
    ·exact absurd f g
    ·exact p x d f
theorem ahF(r:∀d a,adj d a->adj a d){rest:VS}(s:rest a=true)(p:(rest.less (VS.one a)) b=true):
 (part adj rest a b=false/\part adj (rest.less (VS.one a)) b=part adj rest b)\/(part adj rest a b=true/\part adj (rest.less (VS.one a)) b=part adj ((part adj rest a).less (VS.one a)) b):=by
 have l:rest b=true/\VS.one a b=false:=(by unfold VS.less at p;rwa[cZ,sM] at p);cases n:part adj rest a b with
 |false=>
  refine .inl ⟨rfl,?_⟩;funext c;rw[lI,eV,eV];constructor
  ·intro h;exact h.mono fun y f=>by unfold VS.less at f;rw[cZ] at f;exact f.1
  ·intro h;induction h with
   |refl=>exact .refl
   |step m k g i=>rename_i q c;refine .step i k ?_;unfold VS.less;rw[g,LH,sM];unfold VS.one;rw[beq_eq_false_iff_ne];intro e;subst e;have j:Reach adj rest b c:= .step m k g;rw[eV.2 (j.symm r l.1).1] at n;cases n
 |true=>
  refine .inr ⟨rfl,?_⟩;funext c;rw[lI,eV,eV];constructor
  ·intro h;induction h with
   |refl=>exact .refl
   |step m k g i=>
    rename_i q c;refine .step i k ?_;unfold VS.less at g⊢;rw[cZ] at g⊢;refine⟨eV.2 ?_,g.2⟩;have o:Reach adj rest a q:=(eV.1 n).trans (m.mono fun y f=>by unfold VS.less at f;rw[cZ] at f;exact f.1)
    exact .step o k g.1
  ·intro h;exact h.mono fun y f=>by unfold VS.less at f⊢;rw[cZ] at f⊢;exact⟨p4 r s f.1,f.2⟩
end
def VS.count(n:Nat)(s:VS):Nat:=(List.range n).countP s
def QL{c:VS}{a:Nat}(f:c a=true):∀{l:List Nat},a∈l->l.countP (c.less (VS.one a))<l.countP c
 |x::l,h=>by
  have i:l.countP (c.less (VS.one a))<=l.countP c:=List.countP_mono_left fun x _ d=>by unfold VS.less at d;rw[cZ] at d;exact d.1
  by_cases d:x=a
  ·subst d;have e:(c.less (VS.one x)) x=false:=awG;rw[PS (by rw[e];decide),PR f];omega
  ·have j:a∈l:=by
    rcases aJ.1 h with h|h
    ·exact absurd h.symm d
    ·exact h
   have g:=QL f j;have e:(c.less (VS.one a)) x=c x:=by
    unfold VS.less VS.one;have:(x==a)=false:=by rw[beq_eq_false_iff_ne];exact d
    rw[this];simp
   cases b:c x with
   |true=>rw[PR (by rw[e];exact b),PR b];omega
   |false=>rw[PS (by rw[e,b];decide),PS (by rw[b];decide)];exact g
def VS.at9{n:Nat}{c:VS}(b:c a=true)(d:a<n):(c.less (VS.one a)).count n<c.count n:=QL b (dB.2 d)
def sT:=@VS.at9
def VS.at8{n:Nat}{c s:VS}(h:∀x,c x=true->s x=true):c.count n<=s.count n:=List.countP_mono_left fun x _ a=>h x a
def vH:=@VS.at8
def qo(l:List Nat):Nat:=l.foldl max 0
def foldl_max(l:List Nat):∀m,m<=l.foldl max m/\(∀x∈l,x<=l.foldl max m)/\∀k,m<=k->(∀x∈l,x<=k)->l.foldl max m<=k:=by
 induction l with
 |nil=>intro m;exact⟨aK _,fun x a=>(by cases a),fun k c _=>c⟩
 |cons y l e=>
  intro m;obtain⟨d,g,f⟩:=e (max m y);refine⟨a7 (Nat.le_max_left _ _) d,fun x a=> ?_,fun k c a=>f k (Nat.max_le.2 ⟨c,a y Ou⟩) fun x b=>a x av9⟩;rcases aJ.1 a with rfl|a
  ·exact a7 (Nat.le_max_right _ _) d
  ·exact g x a
def SQ(h:a∈i):a<=qo i:=(foldl_max i 0).2.1 a h
def ac6(h:∀x∈i,x<=a):qo i<=a:=(foldl_max i 0).2.2 a (aV _) h
def ii(c:VS)(f:Nat->Nat)(l:List Nat)(m:Nat):Nat:=l.foldl (fun m a=>if c a=true then min m (f a) else m) m
def Hr{c:VS}{f:Nat->Nat}:∀(l:List Nat) (m:Nat),ii c f l m<=m/\(∀a∈l,c a=true->ii c f l m<=f a)/\(ii c f l m=m\/∃a∈l,c a=true/\ii c f l m=f a)
 | [],m=>⟨aK _,fun a d=>(by cases d),.inl rfl⟩
 |x::l,m=>by
  have e:ii c f (x::l) m=ii c f l (if c x=true then min m (f x) else m):=rfl;rw[e];by_cases i:c x=true
  ·rw[if_pos i];obtain⟨k,j,g⟩:=Hr (c:=c) (f:=f) l (min m (f x));refine⟨by omega,fun a d b=> ?_,?_⟩
   ·rcases aJ.1 d with rfl|d
    ·omega
    ·exact j a d b
   ·rcases g with g|⟨a,d,b,g⟩
    ·rcases Nat.le_total m (f x) with h|h
     ·exact .inl Om
     ·exact .inr ⟨x,by simp,i,by omega⟩
    ·exact .inr ⟨a,by simp [d],b,g⟩
  ·rw[if_neg i];obtain⟨k,j,g⟩:=Hr l m;refine⟨k,fun a d b=> ?_,?_⟩
   ·rcases aJ.1 d with rfl|d
    ·exact absurd b i
    ·exact j a d b
   ·rcases g with g|⟨a,d,b,g⟩
    ·exact .inl g
    ·exact .inr ⟨a,by simp [d],b,g⟩
def QH{c:VS}{f g:Nat->Nat}(h:∀a,c a=true->f a=g a):∀(l:List Nat) (m:Nat),ii c f l m=ii c g l m
 | [],_=>rfl
 |x::l,m=>by
  have e:∀f:Nat->Nat,ii c f (x::l) m=ii c f l (if c x=true then min m (f x) else m):=fun _=>rfl;rw[e,e,QH h l];by_cases b:c x=true
  ·rw[if_pos b,if_pos b,h x b]
  ·rw[if_neg b,if_neg b]
section
variable(n:Nat)(adj:Nat->Nat->Prop)(ky:VS->Nat)
noncomputable def mW:Nat->VS->Nat
 |0,_=>0
 |k+1,rest=>qo ((parts adj (List.range n) rest).map fun c=>max (ii c (fun a=>mW k (c.less (VS.one a))) (List.range n) (n+1)) (ky c+1))
noncomputable def Ce(k:Nat)(c:VS):Nat:=max (ii c (fun a=>mW n adj ky k (c.less (VS.one a))) (List.range n) (n+1)) (ky c+1)
variable{n adj ky}
theorem AK(k:Nat)(rest:VS):mW n adj ky (k+1) rest=qo ((parts adj (List.range n) rest).map (Ce n adj ky k)):=rfl
theorem yl(e:∀a b,adj a b->adj b a){rest c:VS}(f:c∈parts adj (List.range n) rest):∃a,a<n/\rest a=true/\c=part adj rest a:=by obtain⟨_,a,g,i,h⟩:=(Ez e (List.range n) rest fun _ d=>⟨d,rfl⟩).1 c f;exact⟨a,dB.1 g,i,h⟩
theorem Ej(d:∀a b,adj a b->adj b a){rest:VS}(f:a<n)(e:rest a=true):part adj rest a∈parts adj (List.range n) rest:=
 (Ez d (List.range n) rest fun _ c=>⟨c,rfl⟩).2 a (dB.2 f) e
theorem LP(h:∀a b,adj a b->adj b a):∀(k f:Nat) (s:VS),(∀x,s x=true->x<n)->s.count n<=k->s.count n<=f->mW n adj ky k s=mW n adj ky f s
 |0,0,_,_,_,_=>rfl
 |0,f+1,s,e,p,_=>by
  have m:∀x,s x=false:=fun x=>by
   cases q:s x with
   |false=>rfl
   |true=>have o:0<s.count n:=List.countP_pos_iff.2 ⟨x,dB.2 (e x q),q⟩;omega
  have t:parts adj (List.range n) s= []:=by
   rcases r:parts adj (List.range n) s with _|⟨c,l⟩
   ·rfl
   ·obtain⟨a,_,i,_⟩:=yl h (c:=c) (by rw[r];simp);rw[m a] at i;cases i
  rw[AK,t];rfl
 |k+1,0,s,e,p,o=>(LP h 0 (k+1) s e o p).symm
 |k+1,f+1,s,e,p,o=>by rw[AK,AK];congr 1;refine oZ fun c w=> ?_;obtain⟨x,_,j,rfl⟩:=yl h w;unfold Ce;congr 1;refine QH (fun a i=> ?_) _ _;have d:∀y,part adj s x y=true->s y=true:=fun y g=>p4 h j g;have u:=sT i (e a (d a i));have v:=vH (n:=n) d;refine LP h k f _ (fun y g=>e y (d y ?_)) Om Om;unfold VS.less at g;rw[cZ] at g;exact g.1
theorem aaD(g:∀a b,adj a b->adj b a)(i:∀c:VS,(∃a,a<n/\c a=true)->ky c+1<=n):∀(k:Nat) (s:VS),(∀x,s x=true->x<n)->mW n adj ky k s<=n
 |0,_,_=>aV _
 |k+1,s,l=>by rw[AK];refine ac6 fun y j=> ?_;obtain⟨c,m,rfl⟩:=dU.1 j;obtain⟨x,h,f,rfl⟩:=yl g m;have d:part adj s x x=true:=eV.2 .refl;unfold Ce;refine Nat.max_le.2 ⟨a7 ((Hr (List.range n) (n+1)).2.1 x (dB.2 h) d) ?_,i _ ⟨x,h,d⟩⟩;refine aaD g i k _ fun z e=>l z (p4 g f ?_);unfold VS.less at e;rw[cZ] at e;exact e.1
theorem aiy(l:∀d b,adj d b->adj b d)(u:∀c:VS,(∃d,d<n/\c d=true)->ky c+1<=n){k:Nat}{s:VS}(p:∀a,s a=true->a<n)(v:s.count n<=k+1)(m:s a=true):
 ∃d,part adj s a d=true/\mW n adj ky (k+1) ((part adj s d).less (VS.one d))<=mW n adj ky (k+1) s:=by
 have j:=p a m;have o:part adj s a a=true:=eV.2 .refl;have e:∀y,part adj s a y=true->s y=true:=fun y i=>p4 l m i;have t:Ce n adj ky k (part adj s a)<=mW n adj ky (k+1) s:=(by rw[AK];exact SQ (dU.2 ⟨_,Ej l j m,rfl⟩))
 obtain⟨m1,m2,m3⟩:=Hr (f:=fun d=>mW n adj ky k ((part adj s a).less (VS.one d))) (List.range n) (n+1);have g:∀d y,((part adj s a).less (VS.one d)) y=true->y<n:=fun d y i=>p y (e y (by unfold VS.less at i;rw[cZ] at i;exact i.1))
 rcases m3 with m3|⟨d,w,h,m3⟩
 ·have B:=m2 a (dB.2 j) o;have A:=aaD (ky:=ky) l u k ((part adj s a).less (VS.one a)) (g a);omega
 ·refine⟨d,h,?_⟩;rw[Bw l m h];have r:=sT h (p d (e d h));have q:=vH (n:=n) e;rw[LP l (k+1) k _ (g d) Om Om];have z:ii (part adj s a) (fun d=>mW n adj ky k ((part adj s a).less (VS.one d))) (List.range n) (n+1)<=Ce n adj ky k (part adj s a):=Nat.le_max_left _ _;omega
theorem ahj(g:∀d b,adj d b->adj b d){k:Nat}{s:VS}(r:s b=true)(l:mW n adj ky (k+1) s<=a)(j:mW n adj ky (k+1) ((part adj s b).less (VS.one b))<=a):
 mW n adj ky (k+1) (s.less (VS.one b))<=a:=by
 rw[AK] at l j⊢;refine ac6 fun y p=> ?_;obtain⟨c,q,rfl⟩:=dU.1 p;obtain⟨x,i,f,rfl⟩:=yl g q;have e:s x=true/\VS.one b x=false:=by unfold VS.less at f;rwa[cZ,sM] at f
 rcases ahF g r f with⟨o,h⟩|⟨o,h⟩
 ·rw[h];exact a7 (SQ (dU.2 ⟨_,Ej g i e.1,rfl⟩)) l
 ·rw[h];refine a7 (SQ (dU.2 ⟨_,Ej g i ?_,rfl⟩)) j;unfold VS.less;rw[o,e.2];rfl
end
def iZ(s:VS)(p:Nat->Option Nat)(u:Option Nat):Nat->Nat->Prop
 |0,a=>s a=true/\p a=u
 |k+1,a=>s a=true/\∃b,p a=some b/\iZ s p u k b
def iZ.mono{s t:VS}{p q:Nat->Option Nat}{u:Option Nat}(h:∀a,s a=true->t a=true/\q a=p a):∀{k a:Nat},iZ s p u k a->iZ t q u k a
 |0,a,⟨c,d⟩=>⟨(h a c).1,by rw[(h a c).2];exact d⟩
 |_+1,a,⟨c,b,d,e⟩=>⟨(h a c).1,b,by rw[(h a c).2];exact d,iZ.mono h e⟩
def iZ.trans{s:VS}{p:Nat->Option Nat}{u:Option Nat}{j b:Nat}(f:iZ s p u j b):∀{k a:Nat},iZ s p (some b) k a->iZ s p u (j+k+1) a
 |0,_,⟨e,d⟩=>⟨e,b,d,f⟩
 |_+1,_,⟨e,c,d,g⟩=>⟨e,c,d,iZ.trans f g⟩
def iZ.WA{s:VS}{p:Nat->Option Nat}{u:Option Nat}:∀{k a:Nat},iZ s p u k a->dw p u a
 |0,a,⟨_,b⟩=>by have h:=dw.step (p:=p) a;rwa[b] at h
 |_+1,_,⟨_,_,b,c⟩=> .up b c.WA
section
variable(n:Nat)(adj:Nat->Nat->Prop)(perm:List Nat)
def iJ(p:Nat->Option Nat)(a:Nat)(u:Option Nat):Nat->Option Nat:=fun x=>if x=a then u else p x
noncomputable def jh:Nat->VS->Option Nat->(Nat->Option Nat)->(Nat->Option Nat)
 |0,_,_,p=>p
 |k+1,rest,u,p=>(parts adj (List.range n) rest).foldl (fun p c=>match perm.find? c with
  |some a=>jh k (VS.less c (VS.one a)) (some a) (iJ p a u)
  |none=>p) p
variable{n adj perm}
structure nV(adj:Nat->Nat->Prop)(n:Nat)(c:VS)(u:Option Nat)(q:Nat->Option Nat):Prop where
 ch:∀x,c x=true->∃j,j<c.count n/\iZ c q u j x
 way:∀x y,c x=true->c y=true->adj x y->x≠y->(∃j,iZ c q (some x) j y)\/∃j,iZ c q (some y) j x
theorem nV.keep{c:VS}(h:nV adj n c O y)(i:∀x,c x=true->z x=y x):nV adj n c O z:=
 ⟨fun x e=>by
  obtain⟨j,m,l⟩:=h.ch x e;exact⟨j,m,l.mono fun a d=>⟨d,i a d⟩⟩,fun x b e k d f=>by
  rcases h.way x b e k d f with⟨j,g⟩|⟨j,g⟩
  ·exact .inl ⟨j,g.mono fun a d=>⟨d,i a d⟩⟩
  ·exact .inr ⟨j,g.mono fun a d=>⟨d,i a d⟩⟩⟩
theorem QF(f:∀a b,adj a b->adj b a){rest0:VS}:∀(l:List Nat) (rest:VS),(∀x,rest x=true->rest0 x=true/\part adj rest x=part adj rest0 x)->(parts adj l rest).Pairwise fun c p=>∀x,c x=true->p x=false
 | [],_,_=>List.Pairwise.nil
 |a::l,rest,h=>by
  unfold parts;by_cases m:rest a=true
  ·rw[if_pos m];have k:∀x,(rest.less (part adj rest a)) x=true->rest0 x=true/\part adj (rest.less (part adj rest a)) x=part adj rest0 x:=fun x d=>by unfold VS.less at d;rw[cZ,sM] at d;refine⟨(h x d.1).1,?_⟩;rw[aa6 f d.1 d.2];exact(h x d.1).2
   refine mP.2 ⟨fun c o x d=> ?_,QF f l _ k⟩;obtain⟨_,y,q,g,rfl⟩:=(Ez f l (rest.less (part adj rest a)) k).1 c o;have e:=(k y g).2;cases i:part adj rest0 y x with
   |false=>rfl
   |true=>rw[<-e] at i;have j:=p4 f g i;unfold VS.less at j;rw[d] at j;simp at j
  ·rw[if_neg m];exact QF f l rest h
theorem Z5{k:Nat}{u:Option Nat}(e:∀c:VS,(∀x,c x=true->x<n)->(∃a,c a=true)->c.count n<=k+1->∀p:Nat->Option Nat,∃a,perm.find? c=some a/\(∀x,c x=false->jh n adj perm k (VS.less c (VS.one a)) (some a) (iJ p a u) x=p x)/\nV adj n c u (jh n adj perm k (VS.less c (VS.one a)) (some a) (iJ p a u))):
 ∀(L:List VS),(∀c∈L,(∀x,c x=true->x<n)/\(∃a,c a=true)/\c.count n<=k+1)->L.Pairwise (fun c f=>∀x,c x=true->f x=false)->∀p:Nat->Option Nat,
  (∀x,(∀c∈L,c x=false)->(L.foldl (fun p c=>match perm.find? c with
    |some a=>jh n adj perm k (VS.less c (VS.one a)) (some a) (iJ p a u)
    |none=>p) p) x=p x)/\∀c∈L,nV adj n c u (L.foldl (fun p c=>match perm.find? c with
    |some a=>jh n adj perm k (VS.less c (VS.one a)) (some a) (iJ p a u)
    |none=>p) p)
 | [],_,_,p=>⟨fun _ _=>rfl,fun c t=>by cases t⟩
 |c::L,o,r,p=>by
  obtain⟨l,j⟩:=mP.1 r;obtain⟨z,y,w⟩:=o c Ou;obtain⟨a,v,g,i⟩:=e c z y w p;rw[Hh,v];simp only;obtain⟨m,q⟩:=Z5 e L (fun f b=>o f av9) j (jh n adj perm k (VS.less c (VS.one a)) (some a) (iJ p a u));refine⟨fun x h=> ?_,fun f b=> ?_⟩
  ·rw[m x fun f b=>h f av9];exact g x (h c Ou)
  ·rcases aJ.1 b with rfl|b
   ·exact i.keep fun x h=>m x fun d s=>l d s x h
   ·exact q f b
theorem L9(G:∀a b,adj a b->adj b a)(t:∀a,a<n->a∈perm):∀(k:Nat) (rest:VS) (u:Option Nat) (p:Nat->Option Nat),(∀x,rest x=true->x<n)->rest.count n<=k->
 (∀x,rest x=false->jh n adj perm k rest u p x=p x)/\nV adj n rest u (jh n adj perm k rest u p)
 |0,rest,u,p,M,V=>by
  have L:∀x,rest x=false:=fun x=>by
   cases d:rest x with
   |false=>rfl
   |true=>have Z:0<rest.count n:=List.countP_pos_iff.2 ⟨x,dB.2 (M x d),d⟩;omega
  refine⟨fun _ _=>rfl,⟨fun x d=> ?_,fun x y d=> ?_⟩⟩
  ·rw[L x] at d;cases d
  ·rw[L x] at d;cases d
 |k+1,rest,u,p,M,V=>by
  have K:∀c:VS,(∀x,c x=true->x<n)->(∃a,c a=true)->c.count n<=k+1->∀p:Nat->Option Nat,∃a,perm.find? c=some a/\(∀x,c x=false->jh n adj perm k (VS.less c (VS.one a)) (some a) (iJ p a u) x=p x)/\nV adj n c u (jh n adj perm k (VS.less c (VS.one a)) (some a) (iJ p a u)):=by
   intro c E Q X p;obtain⟨a,T⟩:∃a,perm.find? c=some a:=by
    obtain⟨x,d⟩:=Q;cases W:perm.find? c with
    |some a=>exact⟨a,rfl⟩
    |none=>exact absurd d (Az.1 W x (t x (E x d)))
   have A:c a=true:=yh T;have U:=sT (n:=n) A (E a A);have s:∀x,(VS.less c (VS.one a)) x=true->c x=true:=fun x d=>by unfold VS.less at d;rw[cZ] at d;exact d.1
   obtain⟨S,N⟩:=L9 G t k (VS.less c (VS.one a)) (some a) (iJ p a u) (fun x d=>E x (s x d)) Om;have F:(VS.less c (VS.one a)) a=false:=awG;have J:jh n adj perm k (VS.less c (VS.one a)) (some a) (iJ p a u) a=u:=(by rw[S a F];unfold iJ;rw[if_pos rfl])
   refine⟨a,T,?_⟩;generalize jh n adj perm k (VS.less c (VS.one a)) (some a) (iJ p a u)=q at*;have w:∀x,c x=true->x≠a->(VS.less c (VS.one a)) x=true:=fun x d o=>by
    unfold VS.less VS.one;have:(x==a)=false:=by rw[beq_eq_false_iff_ne];exact o
    rw[d,this];rfl
   have r:∀{v:Option Nat} {j x:Nat},iZ (VS.less c (VS.one a)) q v j x->iZ c q v j x:=fun h=>h.mono fun y D=>⟨s y D,rfl⟩;refine⟨fun x d=> ?_,⟨fun x d=> ?_,fun x y d D C o=> ?_⟩⟩
   ·have f:x≠a:=fun e=>by rw[e,A] at d;cases d
    have:(VS.less c (VS.one a)) x=false:=by unfold VS.less;rw[d];rfl
    rw[S x this];unfold iJ;rw[if_neg f]
   ·by_cases f:x=a
    ·subst f;exact⟨0,by omega,A,J⟩
    ·obtain⟨j,B,l⟩:=N.ch x (w x d f);have Y:iZ c q u 0 a:=⟨A,J⟩;exact⟨0+j+1,by omega,Y.trans (r l)⟩
   ·by_cases f:x=a
    ·subst f;obtain⟨j,_,l⟩:=N.ch y (w y D (fun e=>o e.symm));exact .inl ⟨j,r l⟩
    ·by_cases H:y=a
     ·subst H;obtain⟨j,_,l⟩:=N.ch x (w x d f);exact .inr ⟨j,r l⟩
     ·rcases N.way x y (w x d f) (w y D H) C o with⟨j,B⟩|⟨j,B⟩
      ·exact .inl ⟨j,r B⟩
      ·exact .inr ⟨j,r B⟩
  have m:∀c∈parts adj (List.range n) rest,∃a,a<n/\rest a=true/\c=part adj rest a:=fun c g=>yl G g;have i:∀c∈parts adj (List.range n) rest,∀x,c x=true->rest x=true:=fun c g x d=>by obtain⟨a,_,I,rfl⟩:=m c g;exact p4 G I d
  obtain⟨f1,f2⟩:=Z5 (u:=u) K (parts adj (List.range n) rest) (fun c g=>by obtain⟨a,_,I,e⟩:=m c g;refine⟨fun x d=>M x (i c g x d),⟨a,by rw[e];exact eV.2 .refl⟩,?_⟩;have:=vH (n:=n) (i c g);omega) (QF G (List.range n) rest (rest0:=rest) fun _ d=>⟨d,rfl⟩) p;refine⟨fun x d=>f1 x fun c g=> ?_,⟨fun x d=> ?_,fun x y d D C o=> ?_⟩⟩
  ·cases R:c x with
   |false=>rfl
   |true=>rw[i c g x R] at d;cases d
  ·have g:=Ej (adj:=adj) G (M x d) d;obtain⟨j,B,l⟩:=(f2 _ g).ch x (eV.2 .refl);exact⟨j,cF B (vH (i _ g)),l.mono fun y D=>⟨i _ g y D,rfl⟩⟩
  ·have g:=Ej (adj:=adj) G (M x d) d;have P:part adj rest x y=true:=eV.2 (.step .refl C D);rcases(f2 _ g).way x y (eV.2 .refl) P C o with⟨j,B⟩|⟨j,B⟩
   ·exact .inl ⟨j,B.mono fun z O=>⟨i _ g z O,rfl⟩⟩
   ·exact .inr ⟨j,B.mono fun z O=>⟨i _ g z O,rfl⟩⟩
end
def iZ.uniq{s t:VS}{q:Nat->Option Nat}:∀{k j a:Nat},iZ s q none k a->iZ t q none j a->k=j
 |0,0,_,_,_=>rfl
 |0,_+1,_,⟨_,h⟩,⟨_,_,c,_⟩=>by rw[h] at c;cases c
 |_+1,0,_,⟨_,_,h,_⟩,⟨_,c⟩=>by rw[h] at c;cases c
 |k+1,j+1,_,⟨_,b,g,f⟩,⟨_,i,d,e⟩=>by rw[g] at d;injection d with d;subst d;rw[iZ.uniq f e]
def iK(n:Nat):VS:=fun x=>decide (x<n)
def EB(n:Nat):(iK n).count n=n:=by
 unfold VS.count iK;have h:(List.range n).countP (fun x=>decide (x<n))=(List.range n).length:=List.countP_eq_length.2 fun a b=>by simpa using b
 rw[h,iG]
def nV.TK{p:Nat->Nat->Prop}(h:nV p a (iK a) none y):∃d,cX a y d:=by
 have l:∀x,x<a->∃j,j<a/\iZ (iK a) y none j x:=fun x e=>by obtain⟨j,g,f⟩:=h.ch x (decide_eq_true e);rw[EB] at g;exact⟨j,g,f⟩
 refine⟨fun x=>if e:x<a then Classical.choose (l x e) else 0,?_⟩;have o:∀x (e:x<a),(if e:x<a then Classical.choose (l x e) else 0)<a/\iZ (iK a) y none (if e:x<a then Classical.choose (l x e) else 0) x:=fun x e=>by rw[dif_pos e];exact Classical.choose_spec (l x e)
 refine⟨fun c i=>(o c i).1,fun c i t=> ?_,fun c b i r=> ?_⟩
 ·have g:=(o c i).2;have f:iZ (iK a) y none 0 c:=⟨decide_eq_true i,t⟩;exact g.uniq f
 ·have g:=(o c i).2;generalize(if e:c<a then Classical.choose (l c e) else 0)=k at g⊢;cases k with
  |zero=>obtain⟨_,f⟩:=g;rw[r] at f;cases f
  |succ k=>
   obtain⟨_,v,f,s⟩:=g;rw[r] at f;injection f with f;subst f;have m:b<a:=by
    have u:(iK a) b=true:=by cases k<;>exact s.1
    exact of_decide_eq_true u
   exact⟨m,by rw[s.uniq (o b m).2]⟩
def ze(a:Nat->List Nat)(b:List Nat)(x y:Nat):Prop:=∃h∈b,x∈a h/\y∈a h
def alF(c:Nat->List Nat)(d:List Nat):∀a b,ze c d a b->ze c d b a:=fun _ _ ⟨h,g,f,e⟩=>⟨h,g,e,f⟩
def eJ(d:Nat->Nat):List Nat->Nat->Nat
 | [],m=>m
 |a::l,m=>eJ d l (if d a>d m then a else m)
def LJ(d:Nat->Nat):∀(l:List Nat) (m:Nat),(eJ d l m=m\/eJ d l m∈l)/\d m<=d (eJ d l m)/\∀a∈l,d a<=d (eJ d l m)
 | [],m=>⟨.inl rfl,aK _,fun a c=>by cases c⟩
 |x::l,m=>by
  have e:eJ d (x::l) m=eJ d l (if d x>d m then x else m):=rfl;rw[e];obtain⟨b,g,f⟩:=LJ d l (if d x>d m then x else m);by_cases h:d x>d m
  ·rw[if_pos h] at b g f⊢;refine⟨.inr ?_,by omega,fun a c=> ?_⟩
   ·rcases b with b|b
    ·rw[b];simp
    ·simp [b]
   ·rcases aJ.1 c with rfl|c
    ·exact g
    ·exact f a c
  ·rw[if_neg h] at b g f⊢;refine⟨?_,g,fun a c=> ?_⟩
   ·rcases b with b|b
    ·exact .inl b
    ·exact .inr av9
   ·rcases aJ.1 c with rfl|c
    ·omega
    ·exact f a c
def nV.ap2(h:nV (ze A i) a (iK a) none y)(r:cX a y J)(p:∀t∈i,A t≠ [])(c:∀t∈i,∀b∈A t,b<a):
 aeg a y A i (fun t=>eJ J (A t) ((A t).headD 0)):=by
 have e:∀t∈i,eJ J (A t) ((A t).headD 0)∈A t:=fun t f=>by
  rcases u:A t with _|⟨x,l⟩
  ·exact absurd u (p t f)
  ·rcases(LJ J (x::l) x).1 with o|o
   ·show eJ J (x::l) x∈_
    rw[o];simp
   ·exact o
 refine⟨e,c,fun t f b k=> ?_⟩;have w:=(LJ J (A t) ((A t).headD 0)).2.2 b k;have v:=e t f;generalize eJ J (A t) ((A t).headD 0)=m at*;by_cases g:b=m
 ·exact .inl g
 ·right;rcases h.way b m (decide_eq_true (c t f b k)) (decide_eq_true (c t f m v)) ⟨t,f,k,v⟩ g with⟨j,s⟩|⟨j,s⟩
  ·exact s.WA
  ·have o:=s.WA.lQ r m rfl (c t f b k);omega
abbrev Gp:=List (List UInt8)×Rat
def afL(x:Gp):List Gp->List Gp
 | []=> [x]
 |y::l=>if g7 y.1 x.1=true then y::afL x l else if (y.1==x.1)=true then (y.1,y.2+x.2)::l else x::y::l
def Fo.By(H:Nat->List Nat):Fo->Prop
 | .nil=>True
 | .cons v a b n=>a=H v/\b.By H/\n.By H
def abg{H:Nat->List Nat}{f:Nat->Fo}(a:∀c,(f c).By H):∀l:List Nat,(dZ H f l).By H
 | []=>trivial
 |_::l=>⟨rfl,a _,abg a l⟩
def yx{n:Nat}{p:Nat->Option Nat}{H:Nat->List Nat}:∀(k:Nat) (u:Option Nat),(d_ n p H k u).By H
 |0,_=>trivial
 |k+1,_=>abg (fun c=>yx k (some c)) _
def Fo.By.mem{H:Nat->List Nat}:∀{f:Fo},f.By H->∀h,h∈f.homes↔∃v∈f.vars,h∈H v
 | .nil,_,h=>by simp [Fo.homes,Fo.vars]
 | .cons v g b n,⟨e,d,c⟩,h=>by
   simp only[Fo.homes,Fo.vars,bV,aJ,d.mem h,c.mem h,e];constructor
   ·rintro(h|⟨w,a,h⟩|⟨w,a,h⟩)
    ·exact⟨v,.inl rfl,h⟩
    ·exact⟨w,.inr (.inl a),h⟩
    ·exact⟨w,.inr (.inr a),h⟩
   ·rintro⟨w,rfl|a|a,h⟩
    ·exact .inl h
    ·exact .inr (.inl ⟨w,a,h⟩)
    ·exact .inr (.inr ⟨w,a,h⟩)
def Fo.By.nodup{H:Nat->List Nat}(k:∀v,(H v).Nodup)(j:∀v w h,h∈H v->h∈H w->v=w):∀{f:Fo},f.By H->f.vars.Nodup->f.homes.Nodup
 | .nil,_,_=>LC
 | .cons v s b n,⟨e,m,l⟩,p=>by
   obtain⟨d1,d2⟩:=i6.1 p;obtain⟨d3,d4,d5⟩:=qP.1 d2;refine qP.2 ⟨by rw[e];exact k v,qP.2 ⟨m.nodup k j d3,l.nodup k j d4,fun x d y a c=> ?_⟩,fun x d y a c=> ?_⟩
   ·subst c;obtain⟨w,i,r⟩:=(m.mem x).1 d;obtain⟨z,o,q⟩:=(l.mem x).1 a;exact d5 w i z o (j w z x r q)
   ·subst c;rw[e] at d;rcases bV.1 a with a|a
    ·obtain⟨w,i,g⟩:=(m.mem x).1 a;exact d1 (bV.2 (.inl (j v w x d g▸i)))
    ·obtain⟨w,i,g⟩:=(l.mem x).1 a;exact d1 (bV.2 (.inr (j v w x d g▸i)))
def QP:=@Fo.By.nodup
section
variable{α β:Type} [DecidableEq β]{R:SR α}
def Func(l:List (List β×Int)):Prop:=∀y∈l,∀z∈l,y.1=z.1->y=z
theorem ah3{a:List (List β×Int)}(f:Func a){e:Nat->β}{y:List β×Int}:lO i a e=some y↔y∈a/\y.1=i.map e:=by
 constructor
 ·intro h;exact⟨z_ h,beq_iff_eq.1 (yh (p:=fun y:List β×Int=>y.1==i.map e) h)⟩
 ·rintro⟨d,c⟩;cases b:lO i a e with
  |none=>have:=Az.1 b y d;rw[beq_iff_eq] at this;exact absurd c this
  |some z=>have j:=z_ b;have g:=beq_iff_eq.1 (yh (p:=fun y:List β×Int=>y.1==i.map e) b);rw[f y d z j (c.trans g.symm)]
theorem ah4{a:List (List β×Int)}{e:Nat->β}:lO i a e=none↔∀y∈a,y.1≠i.map e:=by unfold lO;rw[Az];exact⟨fun h y b e=>h y b (beq_iff_eq.2 e),fun h y b e=>h y b (beq_iff_eq.1 e)⟩
end
abbrev aM:=List UInt8
def ij(c:Nat->Option aM)(a:Nat)(x:aM):Nat->Option aM:=fun b=>if b=a then some x else c b
def eY(b:Nat->Option aM):List Nat->List aM->Nat->Option aM
 |a::l,x::k=>eY (ij b a x) l k
 |_,_=>b
def jk(U0:(Nat->Option aM)->Nat->List aM):List Nat->(Nat->Option aM)->List (List aM)
 | [],_=> [[]]
 |a::l,b=>(U0 b a).flatMap fun x=>(jk U0 l (ij b a x)).map fun k=>x::k
def ajZ:∀{k:List aM} {c:Nat->Option aM} {a:Nat},a∉i->c a=none->eY c i k a=none:=by
 induction i with
 |nil=>intro k c a _ h;cases k<;>exact h
 |cons b i f=>
  intro k c a d h;cases k with
  |nil=>exact h
  |cons x k=>refine f (fun g=>d aw2) ?_;unfold ij;rw[if_neg (fun e=>d aw3)];exact h
section
variable{U0:(Nat->Option aM)->Nat->List aM}{T:(Nat->Option aM)->Prop}
end
def cL(fx:Nat->Option aM)(v:Nat)(y:aM):Bool:=match fx v with
 |none=>true
 |some z=>z==y
def uV(n:Nat)(b:List Nat)(U:List aM)(W:Nat->(Nat->aM)->Bool)(c:Nat->Option aM):Prop:=∃a,(∀v,v<n->a v∈U/\cL c v (a v)=true)/\∀h∈b,W h a=true
def MK{d:Nat->Option aM}{x:aM}{y:aM}(c:b≠a):cL (ij d a x) b y=cL d b y:=by unfold cL ij;rw[if_neg c]
def IG{b:Nat->Option aM}{x y:aM}:cL (ij b a x) a y=(x==y):=by unfold cL ij;rw[if_pos rfl]
def uV.mono{U:List aM}{W:Nat->(Nat->aM)->Bool}:∀(d:Nat->Option aM) (b:Nat) (y:aM),d b=none->uV a i U W (ij d b y)->uV a i U W d:=by
 rintro d b y g ⟨j,f,h⟩;refine⟨j,fun v e=>⟨(f v e).1,?_⟩,h⟩;by_cases c:v=b
 ·unfold cL;rw[c,g]
 ·rw[<-MK (x:=y) c];exact(f v e).2
def Fo.Ok.back{c:Nat->List Nat}{i:List Nat}:∀{f:Fo} {S:List Nat},f.Ok c i S->∀v∈f.vars,∀h∈i,v∈c h->h∈f.homes
 | .nil,_,_,v,a,_,_,_=>by cases a
 | .cons w m b n,S,⟨_,l,k,j⟩,v,a,h,d,e=>by
   simp only[Fo.vars,aJ,bV] at a;simp only[Fo.homes,bV];rcases a with rfl|a|a
   ·rcases bV.1 (l h d e) with g|g
    ·exact .inl g
    ·exact .inr (.inl g)
   ·exact .inr (.inl (k.back v a h d e))
   ·exact .inr (.inr (j.back v a h d e))
def aaK{U:List aM}{W:Nat->(Nat->aM)->Bool}{f:Fo}{env:Nat->aM}{fx:Nat->Option aM}(hW:∀h e c,(∀b∈A h,c b=e b)->W h c=W h e)
 (j:f.Wf A) (s:f.vars.Nodup) (k:∀v,v∈f.vars↔v<a) (q:∀h,h∈f.homes↔h∈i) (l:∀h∈i,∀b∈A h,b<a):f.val dE U (cL fx) W env=true↔uV a i U W fx:=by
 rw[Ev hW f env j s];constructor
 ·rintro⟨c,_,p,o⟩;exact⟨c,fun v h=>p v ((k v).2 h),fun h g=>o h ((q h).2 g)⟩
 ·rintro⟨c,p,o⟩;refine⟨fun b=>if b<a then c b else env b,fun b m=> ?_,fun v h=> ?_,fun h g=> ?_⟩
  ·simp only;rw[if_neg (fun h=>m ((k b).2 h))]
  ·have d:=(k v).1 h;simp only;rw[if_pos d];exact p v d
  ·have r:=(q h).1 g;rw[hW h c _ fun b m=>by rw[if_pos (l h r b m)]];exact o h r
def aoj{U:List aM}{W:Nat->(Nat->aM)->Bool}{c:Fo}{env:Nat->aM}{fx:Nat->Option aM}(hW:∀h e t,(∀b∈A h,t b=e b)->W h t=W h e)
 (z:(Fo.cons b j c .nil).Ok A i []) (M:(Fo.cons b j c .nil).vars.Nodup) (I:∀v∈(Fo.cons b j c .nil).vars,v<a) (p:∀h∈(Fo.cons b j c .nil).homes,h∈i) (L:fx b=none) (x:aM):
 (uV a i U W fx/\x∈U/\(∀h∈j,W h (put env b x)=true)/\c.val dE U (cL fx) W (put env b x)=true)↔uV a i U W (ij fx b x):=by
 have m:(Fo.cons b j c .nil).vars=b::c.vars:=awC;have k:(Fo.cons b j c .nil).homes=j++c.homes:=by simp [Fo.homes]
 have H:=z.wf M Oe;obtain⟨O,_,_,N,_⟩:=H;have l:∀h∈j++c.homes,∀v∈A h,v=b\/v∈c.vars:=fun h o v d=>by
  rcases z.cover h (by rw[k];exact o) v d with g|g
  ·cases g
  ·rw[m] at g;exact aJ.1 g
 have B:∀h∈i,∀v∈A h,(v=b\/v∈c.vars)->h∈j++c.homes:=fun h o v d f=>by have g:=z.back v (by rw[m];exact aJ.2 f) h o d;rwa[k] at g
 rw[m] at M I;rw[k] at p;obtain⟨d1,d2⟩:=i6.1 M;constructor
 ·rintro⟨⟨G,t1,t2⟩,S,T,X⟩;obtain⟨C,Q,R,Z⟩:=(Ev hW c (put env b x) N d2).1 X;have F:C b=x:=by rw[Q b d1];unfold put;rw[if_pos rfl]
  have E:∀v,(v=b\/v∈c.vars)->(fun v=>if v=b\/v∈c.vars then C v else G v) v=C v:=fun v h=>if_pos h;have r:∀v,¬(v=b\/v∈c.vars)->(fun v=>if v=b\/v∈c.vars then C v else G v) v=G v:=fun v h=>if_neg h;refine⟨fun v=>if v=b\/v∈c.vars then C v else G v,fun v u=> ?_,fun h o=> ?_⟩
  ·by_cases f:v=b\/v∈c.vars
   ·rw[E v f];rcases f with rfl|f
    ·rw[F,IG];exact⟨S,beq_self_eq_true _⟩
    ·rw[MK (show v≠b from fun e=>d1 (e▸f))];exact R v f
   ·rw[r v f,MK (fun e=>f (.inl e))];exact t1 v u
  ·by_cases f:h∈j++c.homes
   ·rw[hW h C _ fun v d=>E v (l h f v d)];rcases bV.1 f with f|f
    ·rw[hW h (put env b x) C fun v d=>Q v (O h f v d)];exact T h f
    ·exact Z h f
   ·rw[hW h G _ fun v d=>r v fun V=>f (B h o v d V)];exact t2 h o
 ·intro P;have J:=uV.mono fx b x L P;obtain⟨t,t1,t2⟩:=P;obtain⟨Y,s⟩:=t1 b (I b Ou);rw[IG] at s;have D:x=t b:=beq_iff_eq.1 s;have q:∀v,v∉c.vars->(v=b\/v∈c.vars)->put env b x v=t v:=fun v K f=>by
   rcases f with rfl|f
   ·unfold put;rw[if_pos rfl,D]
   ·exact absurd f K
  refine⟨J,D▸Y,fun h o=> ?_,(Ev hW c (put env b x) N d2).2 ⟨fun v=>if v∈c.vars then t v else put env b x v,fun v u=> ?_,fun v w=> ?_,fun h o=> ?_⟩⟩
  ·rw[hW h t _ fun v d=>q v (O h o v d) (l h (by simp [o]) v d)];exact t2 h (p h (by simp [o]))
  ·simp only;rw[if_neg u]
  ·simp only;rw[if_pos w];have g:=t1 v (I v (by simp [w]));rw[MK (show v≠b from fun e=>d1 (e▸w))] at g;exact g
  ·rw[hW h t _ fun v d=> ?_]
   ·exact t2 h (p h (by simp [o]))
   ·by_cases y:v∈c.vars
    ·rw[if_pos y]
    ·rw[if_neg y];exact q v y (l h (by simp [o]) v d)
section
variable{α β:Type}{R:SR α}
def Fo.uS(U:List β):Fo->(Nat->β)->List (Nat->β)
 | .nil,a=> [a]
 | .cons v _ b n,a=>U.flatMap fun x=>(b.uS U (put a v x)).flatMap fun e=>n.uS U e
theorem Fo.auf{U:List β}:∀(f:Fo) (c e:Nat->β),e∈f.uS U c->Alike f.vars c e
 | .nil,c,e,h=>by rw[bG.1 h];exact fun _ _=>rfl
 | .cons v m b n,c,e,h=>by obtain⟨x,_,h⟩:=o7.1 h;obtain⟨g,j,i⟩:=o7.1 h;have l:=Fo.auf b _ g j;have k:=Fo.auf n g e i;intro a d;simp only[Fo.vars,aJ,bV,not_or] at d;rw[k a d.2.2,l a d.2.1];unfold put;rw[if_neg d.1]
def pV:=@Fo.auf
theorem SR.sum_append{l m:List β}{f:β->α}:R.sum (l++m) f=R.add (R.sum l f) (R.sum m f):=by
 induction l with
 |nil=>exact(R.az _).symm
 |cons x l a=>rw[sO,jD,jD,a,R.aa]
theorem SR.abS{γ:Type}{l:List β}{k:β->List γ}{f:γ->α}:R.sum (l.flatMap k) f=R.sum l fun x=>R.sum (k x) f:=by
 induction l with
 |nil=>rfl
 |cons x l a=>rw[vB,SR.sum_append,jD,a]
theorem SR.prod_append{γ:Type}{l m:List γ}{f:γ->α}:R.prod (l++m) f=R.mul (R.prod l f) (R.prod m f):=by
 induction l with
 |nil=>exact(R.mo _).symm
 |cons x l a=>rw[sO,k7,k7,a,R.ma]
def Fo.term(R:SR α)(g:Nat->β->α)(W:Nat->(Nat->β)->α)(f:Fo)(e:Nat->β):α:=R.mul (R.prod f.vars fun v=>g v (e v)) (R.prod f.homes fun h=>W h e)
theorem aoq(a b c d e f:α):R.mul (R.mul (R.mul a b) (R.mul c d)) (R.mul e f)=R.mul (R.mul a (R.mul c e)) (R.mul b (R.mul d f)):=by have:Std.Associative R.mul:=⟨R.ma⟩;have:Std.Commutative R.mul:=⟨R.mc⟩;ac_rfl
theorem Fo.auj{U:List β}{g:Nat->β->α}{W:Nat->(Nat->β)->α}{m:Nat->List Nat}(hW:∀h e B,(∀a∈m h,B a=e a)->W h B=W h e):
 ∀(f:Fo) (c:Nat->β),f.Wf m->f.vars.Nodup->f.val R U g W c=R.sum (f.uS U c) (f.term R g W)
 | .nil,c,_,_=>by
   show R.one=R.add (R.mul R.one R.one) R.zero
   rw[R.ac,R.az,R.mo]
 | .cons v k b n,c,⟨E,z,D,C,y⟩,M=>by
   obtain⟨d1,d2⟩:=i6.1 M;obtain⟨d3,d4,d5⟩:=qP.1 d2;have t:v∉b.vars:=fun h=>d1 (bV.2 (.inl h));have s:v∉n.vars:=fun h=>d1 (bV.2 (.inr h));have p:∀x,∀d∈b.uS U (put c v x),R.mul (R.mul (R.mul (g v x) (R.prod k fun h=>W h (put c v x))) (b.term R g W d)) (n.val R U g W c)=R.sum (n.uS U d) ((Fo.cons v k b n).term R g W):=by
    intro x d i;have u:=pV b _ d i;have r:d v=x:=by rw[u v t];unfold put;rw[if_pos rfl]
    have q:n.val R U g W d=n.val R U g W c:=Qy hW n c d y (fun h l a j K=>by have A:=D h l a j;rw[u a (fun N=>A (by simp [N]))];unfold put;rw[if_neg (fun e=>A aw3)]);rw[<-q,Fo.auj hW n d y d4,<-SR.MG];refine vJ fun e L=> ?_;have o:=pV n d e L;have I:R.prod k (fun h=>W h (put c v x))=R.prod k fun h=>W h e:=yo fun h l=>by rw[hW h d e fun a j=>o a (z h (bV.2 (.inl l)) a j),hW h (put c v x) d fun a j=>u a (E h l a j)]
    have H:R.prod b.homes (fun h=>W h d)=R.prod b.homes fun h=>W h e:=yo fun h l=>by rw[hW h d e fun a j=>o a (z h (bV.2 (.inr l)) a j)]
    have G:R.prod b.vars (fun w=>g w (d w))=R.prod b.vars fun w=>g w (e w):=yo fun w J=>by rw[o w (fun q=>d5 w J w q rfl)]
    have F:g v x=g v (e v):=by rw[o v s,r]
    unfold Fo.term;rw[I,H,G,F,aoq];show _=R.mul (R.prod (v::(b.vars++n.vars)) fun w=>g w (e w)) (R.prod (k++(b.homes++n.homes)) fun h=>W h e)
    rw[k7,SR.prod_append,SR.prod_append,SR.prod_append]
   show R.mul (R.sum U fun x=>R.mul (R.mul (g v x) (R.prod k fun h=>W h (put c v x))) (b.val R U g W (put c v x))) (n.val R U g W c)=R.sum (U.flatMap fun x=>(b.uS U (put c v x)).flatMap fun e=>n.uS U e) _
   rw[SR.abS,R.mc,<-SR.MG];refine vJ fun x _=> ?_;rw[Fo.auj hW b (put c v x) C d3,SR.abS,<-SR.MG,<-SR.MG];refine vJ fun d i=> ?_;rw[<-p x d i,R.mc]
def AV:=@Fo.auj
end
def RO(d:Nat)(t:List UInt8)(b:d<=1000:=by decide)(a:aQ (d:Int)=t:=by rfl):fL 1 t:= .inr (.inr (.inl ⟨rfl,(d:Int),a.symm,by unfold gJ;omega⟩))
def abK:pE [114,101,100]:=⟨by decide,by decide,by decide,by decide⟩
def ZQ:pE [103,114,101,101,110]:=⟨by decide,by decide,by decide,by decide⟩
def aaA:pE [98,108,117,101]:=⟨by decide,by decide,by decide,by decide⟩
def dz2:aQ 2= [50]:=k8 Od
def asw:aQ 10= [49,48]:=by have h:=anu (m:=1) (d:=0) Od Od;have b:decDigits 1= [49]:=k8 Od;rw[b] at h;have a:aQ 10=decDigits 10:=p6 10;rw[a];exact h
def smq(q:Rat)(h:decide (q.num.natAbs<=1000/\q.den<=12)=true):lC q:=by have h:=of_decide_eq_true h;exact⟨by unfold gJ;omega,h.2⟩
def aqr:bS (-2:Rat)= [45,50]:=by have a:(-2:Rat).num= -2:=Ok;have b:(-2:Rat).den=1:=Ok;rw[nP b,a,vQ Od,show(-2:Int).natAbs=2 from rfl,k8 Od];rfl
def aqs:bS (5/3:Rat)= [53,47,51]:=by have b:(5/3:Rat).num=((5:Nat):Int):=Ok;have a:(5/3:Rat).den=3:=Ok;rw[o_ (by rw[a];decide),b,a,p6,k8 Od,k8 Od];rfl
def Tc(q:Rat)(t:List UInt8)(a:bS q=t)(h:decide (q.num.natAbs<=1000/\q.den<=12)=true):fL 2 t:= .inr (.inr (.inr ⟨rfl,q,a.symm,smq q h⟩))
def Mp(d:Nat)(h:d<10):fL 2 [UInt8.ofNat (48+d)]:= .inr (.inr (.inr ⟨rfl,((d:Int):Rat),(Ho h).symm,⟨by show gJ (d:Int);unfold gJ;omega,by show 1<=12;decide⟩⟩))
def amO(g:Nat)(q:List UInt8)(b:Int)(w:au)(h:df w g)(K:1<=b/\b<=3):
 Calls prog 110 #[aI g 0,.agg #[aL q,av b]] w fun e n=>∃v,fL b v/\e= .returned (aL v)/\df n g/\Only g w n:=by
 have D:=af h;have L:=h.lt;go_enter func110,ntmps110;go_upto_region 1 with fail
 refine aT fun W p F=> ?_;have E:=af (ru g 9 W (D.ext p) Od Od);have f:w.heap.size≠g:=Om;go_wp2_with fail
 refine E.mono ?_;rintro e G ⟨r,J,rfl,s,o⟩;have m:=af (F.only o f);have a:=af ((ep (g:=g) p).trans o);have bB:=af s;generalize w.heap.size=M at*;obtain⟨I,H⟩:=m.two;have i:b=3\/b=1\/b=2:=Om;have c:r=0\/r=1\/r=2\/r=3\/r=4\/r=5\/r=6\/r=7\/r=8:=Om;have N:∀t,t=([]:List UInt8)->fL b t:=fun t h=> .inl h;rcases i with rfl|rfl|rfl
 ·have j:ah (fL 3 [114,101,100]):= .inr (.inl ⟨rfl,abK,.inl rfl⟩);have k:ah (fL 3 [103,114,101,101,110]):= .inr (.inl ⟨rfl,ZQ,.inr (.inl rfl)⟩);have l:ah (fL 3 [98,108,117,101]):= .inr (.inl ⟨rfl,aaA,.inr (.inr rfl)⟩);have d:ah (fL 3 []):= .inl rfl;rcases c with rfl|rfl|rfl|rfl|rfl|rfl|rfl|rfl|rfl;all_goals go_wp2
  all_goals go_ret
  all_goals (first|exact⟨_,d,rfl,bB,a⟩|exact⟨_,j,rfl,bB.ext ((aB _).alloc _),a.trans (ep ((aB _).alloc _))⟩|exact⟨_,k,rfl,bB.ext ((aB _).alloc _),a.trans (ep ((aB _).alloc _))⟩|exact⟨_,l,rfl,bB.ext ((aB _).alloc _),a.trans (ep ((aB _).alloc _))⟩)
 ·have j:ah (fL 1 [49]):=RO 1 _ Od ui;have k:ah (fL 1 [50]):=RO 2 _ Od dz2;have l:ah (fL 1 [49,48]):=RO 10 _ Od asw;have d:ah (fL 1 []):= .inl rfl;rcases c with rfl|rfl|rfl|rfl|rfl|rfl|rfl|rfl|rfl;all_goals go_wp2
  all_goals go_ret
  all_goals (first|exact⟨_,d,rfl,bB,a⟩|exact⟨_,j,rfl,bB.ext ((aB _).alloc _),a.trans (ep ((aB _).alloc _))⟩|exact⟨_,k,rfl,bB.ext ((aB _).alloc _),a.trans (ep ((aB _).alloc _))⟩|exact⟨_,l,rfl,bB.ext ((aB _).alloc _),a.trans (ep ((aB _).alloc _))⟩)
 ·have C:ah (fL 2 [48]):=Mp 0 Od;have B:ah (fL 2 [49]):=Mp 1 Od;have A:ah (fL 2 [50]):=Mp 2 Od;have z:ah (fL 2 [51]):=Mp 3 Od;have y:ah (fL 2 [45,50]):=Tc (-2) _ aqr Ok;have x:ah (fL 2 [49,47,50]):=Tc (1/2) _ Zn Ok;have u:ah (fL 2 [53,47,51]):=Tc (5/3) _ aqs Ok;have d:ah (fL 2 []):= .inl rfl;rcases c with rfl|rfl|rfl|rfl|rfl|rfl|rfl|rfl|rfl;all_goals go_wp2
  all_goals go_ret
  all_goals (first|exact⟨_,d,rfl,bB,a⟩|exact⟨_,C,rfl,bB.ext ((aB _).alloc _),a.trans (ep ((aB _).alloc _))⟩|exact⟨_,B,rfl,bB.ext ((aB _).alloc _),a.trans (ep ((aB _).alloc _))⟩|exact⟨_,A,rfl,bB.ext ((aB _).alloc _),a.trans (ep ((aB _).alloc _))⟩|exact⟨_,z,rfl,bB.ext ((aB _).alloc _),a.trans (ep ((aB _).alloc _))⟩|exact⟨_,y,rfl,bB.ext ((aB _).alloc _),a.trans (ep ((aB _).alloc _))⟩|exact⟨_,x,rfl,bB.ext ((aB _).alloc _),a.trans (ep ((aB _).alloc _))⟩|exact⟨_,u,rfl,bB.ext ((aB _).alloc _),a.trans (ep ((aB _).alloc _))⟩)
def ZO:∀{t s r q:List UInt8},(0:UInt8)∉t->(0:UInt8)∉s->t++0::r=s++0::q->t=s/\r=q
 | [],[],r,q,_,_,h=>⟨rfl,by simpa using h⟩
 | [],y::s,r,q,_,b,h=>by simp only[vE,sO,Lz] at h;exact absurd (by rw[<-h.1];simp) b
 |x::t,[],r,q,a,_,h=>by simp only[vE,sO,Lz] at h;exact absurd (by rw[h.1];simp) a
 |x::t,y::s,r,q,a,b,h=>by simp only[sO,Lz] at h;obtain⟨e,d⟩:=ZO (fun c=>a awh) (fun c=>b awh) h.2;exact⟨by rw[h.1,e],d⟩
def jW(l:List (List UInt8)):List UInt8:=l.flatMap fun t=>t++ [0]
def acm:∀{l m:List (List UInt8)},l.length=m.length->(∀t∈l,(0:UInt8)∉t)->(∀t∈m,(0:UInt8)∉t)->jW l=jW m->l=m
 | [],[],_,_,_,_=>rfl
 |t::l,s::m,d,c,b,h=>by unfold jW at h;rw[vB,vB,ie,ie] at h;obtain⟨f,e⟩:=ZO (c t Ou) (b s Ou) h;rw[f,acm awq (fun x a=>c x avS) (fun x a=>b x avS) e]
def aat(n:Nat):(0:UInt8)∉decDigits n:=fun a=>Ti aw_ a
def QK(z:Int):(0:UInt8)∉aQ z:=by
 unfold aQ;intro h;rcases bV.1 h with h|h
 ·split at h
  ·rw[bG] at h;cases h
  ·cases h
 ·exact aat _ h
def ahW(h:fL B T):(0:UInt8)∉T:=by
 rcases h with rfl|⟨-,c, -⟩|⟨-,z,rfl, -⟩|⟨-,q,rfl, -⟩
 ·simp
 ·intro a;have d:=c.2.2.2 0 a;revert d
  decide
 ·exact QK z
 ·by_cases b:q.den=1
  ·rw[nP b];exact QK _
  ·rw[o_ b];intro a;rcases bV.1 a with a|a
   ·exact QK _ a
   ·rcases aJ.1 a with a|a
    ·cases a
    ·exact aat _ a
structure Whole(n:Nat)(at_:Nat->List Nat)(hl:List Nat)(f:Fo):Prop where
 ok:f.Ok at_ hl []
 vd:f.vars.Nodup
 vm:∀v,v∈f.vars↔v<n
 hm:∀h,h∈f.homes↔h∈hl
 hd:f.homes.Nodup
def Whole.wf{f:Fo}(w:Whole a A i f):f.Wf A:=w.ok.wf w.vd fun _ _ h=>by cases h
def q73.k65(h:aq:=by
 refine⟨d,r,QJ r w n none [] hu hk (fun a h=> ?_),NX,Vn,fun h=> ?_,?_⟩
 ·rcases h with h|⟨b,h,_⟩<;>cases h
 ·exact afa
 ·refine QP (H:=fun v=>hl.filter fun t=>eJ d (at_ t) ((at_ t).headD 0)==v) (fun v=>x7 x8 e) (fun v l h i g=> ?_) (yx n none) NX;have k:=beq_iff_eq.1 (fp.1 i).2;have j:=beq_iff_eq.1 (fp.1 g).2;exact k.symm.trans j):=h
def aiS{n:Nat}{at_:Nat->List Nat}{hl perm:List Nat}(c:∀a,a<n->a∈perm)(e:hl.Nodup)(hne:∀t∈hl,at_ t≠ [])(hlt:∀t∈hl,∀a∈at_ t,a<n)(p:Nat->Option Nat):
 ∃d,cX n (jh n (ze at_ hl) perm n (iK n) none p) d/\Whole n at_ hl (d_ n (jh n (ze at_ hl) perm n (iK n) none p) (fun v=>hl.filter fun t=>eJ d (at_ t) ((at_ t).headD 0)==v) n none):=by
 obtain⟨_,hpl⟩:=L9 (adj:=ze at_ hl) (alF at_ hl) c n (iK n) none p (fun x f=>of_decide_eq_true f) (by rw[EB];exact aK _);generalize jh n (ze at_ hl) perm n (iK n) none p=q at*;open q73 in exact m65
def Fo.anU{α β:Type}{R:SR α}{U:List β}{g:Nat->β->α}{W:Nat->(Nat->β)->α}{b:Fo}(hW:∀h e d,(∀c∈A h,d c=e c)->W h d=W h e)
 (f:(Fo.cons a j b .nil).Ok A i k) (r:(Fo.cons a j b .nil).vars.Nodup) (s:∀c∈(Fo.cons a j b .nil).vars,c∉k) (m:∀h∈(Fo.cons a j b .nil).homes,∀c∈A h,c∈k->c∈l) {e d:Nat->β} (q:∀c∈l,d c=e c):
 (Fo.cons a j b .nil).val R U g W d=(Fo.cons a j b .nil).val R U g W e:=
 Qy hW _ e d (f.wf r s) fun h o c p n=>q c (m h o c p (by
  rcases f.cover h o c p with g|g
  ·exact g
  ·exact absurd g n))
def dQ:SR Rat where
 zero:=0
 one:=1
 add:=fun a b=>a+b
 mul:=fun a b=>a*b
 aa:=Rat.add_assoc
 ac:=Rat.add_comm
 az:=Rat.zero_add
 ma:=Rat.mul_assoc
 mc:=Rat.mul_comm
 mo:=LX
 mz:=Qr
 ds:=Rat.mul_add
abbrev jZ:=Nat->List (List aM×Int)
def lW(at_:Nat->List Nat)(a:jZ):Nat->(Nat->aM)->Bool:=fC dE at_ a fun _=>true
def jI(at_:Nat->List Nat)(a:jZ):Nat->(Nat->aM)->Rat:=fC dQ at_ a fun w=>(w:Rat)
def aak{at_:Nat->List Nat}{b:jZ}{e:Nat->aM}(c:lW at_ b a e=false):jI at_ b a e=0:=by
 unfold lW fC at c;unfold jI fC;cases d:lO (at_ a) (b a) e with
 |none=>rfl
 |some y=>rw[d] at c;cases c
def L6{β:Type} [DecidableEq β]{a:List (List β×Int)}{e:Nat->β}{y:List β×Int}(h:lO i a e=some y):y∈a/\y.1=i.map e:=⟨z_ h,beq_iff_eq.1 (yh (p:=fun y:List β×Int=>y.1==i.map e) h)⟩
def RG{at_:Nat->List Nat}{b:jZ}{e:Nat->aM}:lW at_ b a e=true↔∃y∈b a,y.1=(at_ a).map e:=by
 unfold lW fC;cases c:lO (at_ a) (b a) e with
 |none=>
  have g:=ah4.1 c;constructor
  ·intro a;cases a
  ·rintro⟨y,d,i⟩;exact absurd i (g y d)
 |some y=>exact⟨fun _=>⟨y,L6 c⟩,fun _=>rfl⟩
def Q8{at_:Nat->List Nat}{b:jZ}:∀h e c,(∀a∈at_ h,c a=e a)->lW at_ b h c=lW at_ b h e:=fun h e c d=>EC h e c d
section
variable{n:Nat}{at_:Nat->List Nat}{hl:List Nat}{U:List aM}{f:Fo}{env:Nat->aM}{lift:Nat->aM->Rat}
def lj(at_:Nat->List Nat)(U:List aM)(f:Fo)(env:Nat->aM)(lift:Nat->aM->Rat)(a:jZ)(b:Nat->Option aM):Rat:=f.val dQ U (fun v x=>if cL b v x=true then lift v x else 0) (jI at_ a) env
theorem aj9(w:Whole n at_ hl f)(c:∀h∈hl,∀a∈at_ h,a<n){b:jZ}{d:Nat->Option aM}(h:¬uV n hl U (lW at_ b) d):lj at_ U f env lift b d=0:=by refine Fo.RP (R:=dQ) (gB:=cL d) (WB:=lW at_ b) (fun v x g=>by rw[g];rfl) (fun h e i=>aak i) f env ?_;rw[<-sQ,aaK (W:=lW at_ b) Q8 w.wf w.vd w.vm w.hm c];exact h
end
def dM(a b:Nat):Nat:=a^^^(a&&&b)
def EN(a b i:Nat):(dM a b).testBit i=(a.testBit i&& !b.testBit i):=by unfold dM;rw[Nat.testBit_xor,Y'];cases a.testBit i<;>cases b.testBit i<;>rfl
def M6{a:Nat}(c:a<4096):a&&&b<4096:=by rw[yu];exact qM (n:=12) _ c
def Ta{a:Nat}(c:a<4096):dM a b<4096:=x9 (n:=12) c (M6 c)
def Cg{a:Nat}(d:a<4096)(c:b<4096):bits .or .u64 (a:Int) (b:Int)=((a|||b:Nat):Int):=bits_or_u64_nat a b Om Om
def Tn{a:Nat}(d:a<4096)(c:b<4096):bits .and .u64 (a:Int) (b:Int)=((a&&&b:Nat):Int):=bits_and_u64_nat a b Om Om
def ag_(a b:Nat)(k:a<18446744073709551616)(j:b<18446744073709551616):bits .andNot .u64 (a:Int) (b:Int)=((dM a b:Nat):Int):=by
 have h:dM a b<2^64:=x9 Om (qM _ Om);have f:(BitVec.ofInt 64 (a:Int)).toNat=a:=(by rw[BitVec.ofInt_natCast,BitVec.toNat_ofNat];exact sN Om)
 have e:(BitVec.ofInt 64 (b:Int)).toNat=b:=(by rw[BitVec.ofInt_natCast,BitVec.toNat_ofNat];exact sN Om);have d:(BitVec.ofInt 64 (a:Int)&&&~~~BitVec.ofInt 64 (b:Int)).toNat=dM a b:=by
  apply PW
  intro i;rw[EN,YO,BitVec.getLsbD_and,BitVec.getLsbD_not,<-YO,<-YO,f,e];by_cases c:i<64
  ·simp [c]
  ·have:a.testBit i=false:=YJ (cF (show a<2^64 by omega) (fN Om Om));simp [this]
 show IntKind.u64.wrap ((BitVec.ofInt 64 (a:Int)&&&~~~BitVec.ofInt 64 (b:Int)).toNat:Int)=_
 rw[d,kh];omega
def yU{a:Nat}(d:a<4096)(c:b<4096):bits .andNot .u64 (a:Int) (b:Int)=((dM a b:Nat):Int):=ag_ a b Om Om
def apF{a:Nat}(b:a<32):IntKind.u64.wrap ((2:Int)^a)=((2^a:Nat):Int):=by have h:2^a<4294967296:=G9 (a:=2) (m:=a) (n:=32) Om b;rw[kh];have:((2:Int)^a)=((2^a:Nat):Int):=Ou;rw[this];generalize(2:Nat)^a=p at*;omega
def Tm(m a:Nat):(m:Int)/ (2:Int)^a=((m/2^a:Nat):Int):=Ou
def B_{a:Nat}(b:a<12):2^a<4096:=G9 (a:=2) Om b
def apG{a:Nat}(c:b<4096):(bits .and .u64 ((b/2^a:Nat):Int) 1==1)=b.testBit a:=by have h:=AE b (2^a);rw[show(1:Int)=((1:Nat):Int) from rfl,bits_and_u64_nat _ 1 Om Om,Nat.testBit,Nat.shiftRight_eq_div_pow,yu 1 (b/2^a)];have d:=qM (b/2^a) (y:=1) (n:=1) Om;generalize b/2^a&&&1=q at*;rcases(show q=0\/q=1 by omega) with rfl|rfl<;>rfl
def p_(a:Nat):(2^a).testBit=VS.one a:=by
 funext b
 rw[Nat.testBit_two_pow,VS.one];by_cases h:a=b
 ·simp [h]
 ·simp [h,fP h]
def yK(a b:Nat):(dM a b).testBit=VS.less a.testBit b.testBit:=by
 funext i
 rw[EN,VS.less]
def rq{n:Nat}(e:b<2^n)(h:b.testBit c=true):c<n:=by
 rcases cA c n with d|d
 ·exact d
 ·rw[YJ (cF e (fN Om d))] at h;cases h
def cnt(m:Nat):Nat:=VS.count 12 m.testBit
def aqi:Bool:=(List.range 4096).all fun m=>m==0||(cnt (m&&&(m - 1))+1==cnt m&&m&&&(m - 1)<4096)
def apx:aqi=true:=Ok
def anw(c:b<4096)(d:b≠0):cnt (b&&&(b - 1))+1=cnt b/\b&&&(b - 1)<4096:=by have h:=sP.1 apx b (dB.2 c);simpa [d] using h
def eZ(g:List Nat)(x y:Nat):Prop:=(g.getD x 0).testBit y=true
structure kI(g:List Nat):Prop where
 le:g.length<=12
 lt:∀x,g.getD x 0<2^g.length
 symm:∀x y,eZ g x y->eZ g y x
 pK:∀x,¬eZ g x x
def kI.jt{g:List Nat}(h:kI g)(c:b<2^g.length):b<4096:=cF c (fN (j:=12) Om h.le)
def gp(g:List Nat)(s:Nat):Nat->Nat
 |0=>0
 |i+1=>if s.testBit i=true then gp g s i|||g.getD i 0 else gp g s i
def EJ{g:List Nat}(b:kI g)(s:Nat):∀i,gp g s i<2^g.length
 |0=>yf _
 |i+1=>by
  unfold gp;split
  ·exact Hb (EJ b s i) (b.lt i)
  ·exact EJ b s i
def Rs{g:List Nat}{s y:Nat}:∀{i:Nat},(gp g s i).testBit y=true↔∃b,b<i/\s.testBit b=true/\eZ g b y
 |0=>by simp [gp]
 |i+1=>by
  have j:=Rs (g:=g) (s:=s) (y:=y) (i:=i);unfold gp;by_cases h:s.testBit i=true
  ·rw[if_pos h,Hk,kE,j];constructor
   ·rintro(⟨b,e,c⟩|e)
    ·exact⟨b,by omega,c⟩
    ·exact⟨i,by omega,h,e⟩
   ·rintro⟨b,e,c,f⟩;rcases cA b i with d|d
    ·exact .inl ⟨b,d,c,f⟩
    ·obtain rfl:b=i:=Om;exact .inr f
  ·rw[if_neg h,j];constructor
   ·rintro⟨b,e,c⟩;exact⟨b,by omega,c⟩
   ·rintro⟨b,e,c,f⟩;refine⟨b,?_,c,f⟩;rcases cA b i with d|d
    ·exact d
    ·obtain rfl:b=i:=Om;exact absurd c h
structure tj(g:List Nat)(rest a ae next:Nat):Prop where
 lo:ae<2^g.length
 ln:next<2^g.length
 sub:∀x,next.testBit x=true->ae.testBit x=true
 reach:∀x,ae.testBit x=true->Reach (eZ g) rest.testBit a x
 self:ae.testBit a=true
 cl:∀x y,ae.testBit x=true->next.testBit x=false->eZ g x y->rest.testBit y=true->ae.testBit y=true
section
variable{g:List Nat}{rest a ae next:Nat}
theorem Mi{a:Nat}(c:a<b):2^a<2^b:=G9 Om c
theorem tj.start(c:a<g.length):tj g rest a (2^a) (2^a):=by
 have h:∀x,(2^a).testBit x=true->x=a:=fun x b=>by rw[p_] at b;simpa [VS.one] using b
 have e:(2^a).testBit a=true:=by rw[p_];simp [VS.one]
 refine⟨Mi c,Mi c,fun _ h=>h,fun x b=> ?_,e,fun x y d f=> ?_⟩
 ·rw[h x b];exact .refl
 ·rw[f] at d;cases d
theorem tj.round(F:kI g)(C:rest<2^g.length)(h:tj g rest a ae next)(_h0:next≠0):
 tj g rest a (ae|||dM (gp g next g.length&&&rest) ae) (dM (gp g next g.length&&&rest) ae)/\
 2*(12 - cnt (ae|||dM (gp g next g.length&&&rest) ae))+(if dM (gp g next g.length&&&rest) ae=0 then 0 else 1)<2*(12 - cnt ae)+1:=by
 have z:dM (gp g next g.length&&&rest) ae<2^g.length:=x9 (qM _ C) (by rw[yu];exact qM _ (qM _ C));have A:∀y,(dM (gp g next g.length&&&rest) ae).testBit y=true↔(∃b,next.testBit b=true/\eZ g b y)/\rest.testBit y=true/\ae.testBit y=false:=fun y=>by
  rw[EN,Y',cZ,cZ,Rs,sM,and_assoc];constructor
  ·rintro⟨⟨b,_,d⟩,k⟩;exact⟨⟨b,d⟩,k⟩
  ·rintro⟨⟨b,f,d⟩,k⟩;exact⟨⟨b,rq h.ln f,f,d⟩,k⟩
 generalize dM (gp g next g.length&&&rest) ae=j at*;have m:∀y,(ae|||j).testBit y=true↔ae.testBit y=true\/j.testBit y=true:=fun y=>by rw[Hk,kE]
 refine⟨⟨Hb h.lo z,z,fun x o=>(m x).2 (.inr o),fun x o=> ?_,(m a).2 (.inl h.self),fun x y f d k t=> ?_⟩,?_⟩
 ·rcases(m x).1 o with f|f
  ·exact h.reach x f
  ·obtain⟨⟨b,d,k⟩,t,_⟩:=(A x).1 f;exact .step (h.reach b (h.sub b d)) k t
 ·rcases(m x).1 f with B|B
  ·by_cases E:next.testBit x=true
   ·cases D:ae.testBit y with
    |true=>exact(m y).2 (.inl D)
    |false=>exact(m y).2 (.inr ((A y).2 ⟨⟨x,E,k⟩,t,D⟩))
   ·exact(m y).2 (.inl (h.cl x y B (by simpa using E) k t))
  ·rw[B] at d;cases d
 ·by_cases r:j=0
  ·rw[if_pos r,r,Nat.or_zero];omega
  ·rw[if_neg r];obtain⟨y,v⟩:∃y,j.testBit y=true:=by
    rcases Classical.em (∃y,j.testBit y=true) with f|f
    ·exact f
    ·exact absurd (PW fun i=>by rw[Ec];simpa using fun d=>f ⟨i,d⟩) r
   have u:=((A y).1 v).2.2;have q:y<12:=cF (rq z v) F.le;have f:cnt ae<cnt (ae|||j):=by
    have d:=sT (n:=12) (c:=(ae|||j).testBit) (a:=y) ((m y).2 (.inr v)) q;have k:=vH (n:=12) (c:=ae.testBit) (s:=VS.less (ae|||j).testBit (VS.one y)) fun x o=>by
     have w:x≠y:=fun e=>by rw[e,u] at o;cases o
     rw[VS.less,(m x).2 (.inl o)];simp [VS.one,w]
    exact Ay k d
   have d:cnt (ae|||j)<=12:=(by have:=Lh (p:=(ae|||j).testBit) (l:=List.range 12);rwa[iG] at this);omega
theorem tj.done(h:tj g rest a ae 0):ae.testBit=part (eZ g) rest.testBit a:=by
 funext x
 rw[lI,eV];refine⟨h.reach x,fun c=> ?_⟩;induction c with
 |refl=>exact h.self
 |step _ k d b=>exact h.cl _ _ b (Ec _) k d
end
end Go.Proofs.YtadbchhdjbghkaaGreatDoor
