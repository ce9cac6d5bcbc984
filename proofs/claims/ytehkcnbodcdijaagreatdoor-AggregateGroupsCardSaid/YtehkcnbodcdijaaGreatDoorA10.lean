/- Texts of the proof, part 10. -/
import Derived.Test.YtehkcnbodcdijaaGreatDoorA9
namespace Go.Proofs.YtehkcnbodcdijaaGreatDoor
set_option maxHeartbeats 8000000
set_option linter.all false
set_option maxRecDepth 100000
variable{ar:Prop}
open Go.RowKit Go.Lib Go.Maps Go.ChangeShapes Go.WideShapes Go.ChangeAt Go.Proofs.Tryz
variable{a b c d e f g h:Nat}{i j k l:List Nat}{m n o:World}{p q r s:Value}{t u v:List Value}{w x:TypeId}{y z:Nat→Option Nat}{A:Nat→List Nat}{B C:Int}{E F:Option Addr}{H I:Rat}{J:Nat→Nat}{K:Nat→Bool}{L:List Int}{N:Array Bool}{O:Option Nat}{Q:Act}{R S:Bool}{T:List UInt8}
section
variable{α β:Type}
def Fo.Ok(c:Nat->List Nat)(d:List Nat):List Nat->Fo->Prop
 |_,.nil=>True
 |S,.cons v e b n=>(∀h∈e,v∈c h/\∀a∈c h,a=v\/a∈S)/\(∀h∈d,v∈c h->h∈e++b.homes)/\b.Ok c d (v::S)/\n.Ok c d S
theorem Fo.Ok.cover{e:Nat->List Nat}{l:List Nat}:∀{f:Fo} {S:List Nat},f.Ok e l S->∀h∈f.homes,∀a∈e h,a∈S\/a∈f.vars
 | .nil,_,_,h,c,_,_=>by cases c
 | .cons v m b n,S,⟨k,_,j,i⟩,h,c,a,g=>by
   simp only[Fo.vars,aK,bO];rcases bO.1 c with c|c
   ·rcases(k h c).2 a g with rfl|d
    ·exact .inr (.inl rfl)
    ·exact .inl d
   ·rcases bO.1 c with c|c
    ·rcases j.cover h c a g with d|d
     ·rcases aK.1 d with rfl|d
      ·exact .inr (.inl rfl)
      ·exact .inl d
     ·exact .inr (.inr (.inl d))
    ·rcases i.cover h c a g with d|d
     ·exact .inl d
     ·exact .inr (.inr (.inr d))
theorem Fo.Ok.wf{j:Nat->List Nat}{y:List Nat}:∀{f:Fo} {S:List Nat},f.Ok j y S->f.vars.Nodup->(∀a∈f.vars,a∉S)->f.Wf j
 | .nil,_,_,_,_=>trivial
 | .cons v x b n,S,⟨w,A,t,s⟩,z,q=>by
   obtain⟨d1,d2⟩:=ic.1 z;obtain⟨d3,d4,d5⟩:=rE.1 d2;have m:v∉b.vars:=fun h=>d1 (bO.2 (.inl h));have i:v∉n.vars:=fun h=>d1 (bO.2 (.inr h));have r:∀a∈b.vars,a∉S:=fun a d=>q a (by simp [Fo.vars,d]);have o:∀a∈n.vars,a∉S:=fun a d=>q a (by simp [Fo.vars,d]);have g:∀h∈x,∀a∈j h,a=v\/a∈S:=fun h e=>(w h e).2;refine⟨fun h e a d u=> ?_,fun h e a d l=> ?_,fun h e a d k=> ?_,t.wf d3 (fun a d p=> ?_),s.wf d4 o⟩
   ·rcases g h e a d with rfl|c
    ·exact m u
    ·exact r a u c
   ·rcases bO.1 e with e|e
    ·rcases g h e a d with rfl|c
     ·exact i l
     ·exact o a l c
    ·rcases t.cover h e a d with c|c
     ·rcases aK.1 c with rfl|c
      ·exact i l
      ·exact o a l c
     ·exact d5 a c a l rfl
   ·rcases s.cover h e a d with c|c
    ·exact q a (by simpa [Fo.vars] using(by
      rcases aK.1 k with rfl|k
      ·exact .inl rfl
      ·exact .inr (.inl k):a=v\/a∈b.vars\/a∈n.vars)) c
    ·rcases aK.1 k with rfl|k
     ·exact i c
     ·exact d5 a k a c rfl
   ·rcases aK.1 p with rfl|p
    ·exact m d
    ·exact r a d p
def rh [DecidableEq β](S:List Nat)(b:Nat->β):List Nat->List β->Bool
 |a::l,x::r=>(!(S.contains a)||b a==x)&&rh S b l r
 |_,_=>true
theorem acG [DecidableEq β]{S:List Nat}{e c:Nat->β}:∀{l:List Nat} {r:List β},(∀a∈l,a∈S->c a=e a)->rh S c l r=rh S e l r
 | [],_,_=>rfl
 |_::_,[],_=>rfl
 |a::l,x::r,h=>by
  unfold rh;rw[acG fun b f=>h b (by simp [f])];cases d:S.contains a with
  |false=>rfl
  |true=>rw[h a Ou axP]
theorem adW [DecidableEq β]{S:List Nat}{e:Nat->β}:∀{l:List Nat},rh S e l (l.map e)=true
 | []=>rfl
 |a::l=>by unfold rh;rw[jc];simp [adW]
def fE [DecidableEq β](l:List Nat)(a:List (List β×Int))(b:Nat->β):Option (List β×Int):=a.find? fun y=>y.1==l.map b
theorem MC [DecidableEq β]{b:List (List β×Int)}{e c:Nat->β}(h:∀a∈i,c a=e a):fE i b c=fE i b e:=by unfold fE;rw[kW h]
theorem aj6 [DecidableEq β]{S:List Nat}{a:List (List β×Int)}{e:Nat->β}{y:List β×Int}(h:fE i a e=some y):y∈a/\rh S e i y.1=true:=by refine⟨yV h,?_⟩;have b:=wT h;rw[beq_iff_eq.1 b];exact adW
variable{R:SR α}
def fH [DecidableEq β](R:SR α)(c:Nat->List Nat)(a:Nat->List (List β×Int))(d:Int->α)(h:Nat)(b:Nat->β):α:=match fE (c h) (a h) b with
 |some y=>d y.2
 |none=>R.zero
theorem IV [DecidableEq β]{b:Nat->List (List β×Int)}{c:Int->α}(h:Nat)(e d:Nat->β)(f:∀a∈A h,d a=e a):fH R A b c h d=fH R A b c h e:=by unfold fH;rw[MC f]
def Fo.FZ [DecidableEq β](d:Nat->List Nat)(f:List Nat)(e:Nat->List (List β×Int))(a:Nat->(Nat->β)->List β)(g:Nat->β->α)(U:List β)(R:SR α):List Nat->Fo->Prop
 |_,.nil=>True
 |S,.cons v _ b n=>(∀c,(a v c).Nodup/\(∀x∈a v c,x∈U)/\∀x∈U,x∉a v c->g v x=R.zero\/∃h∈f,v∈d h/\∀y∈e h,rh (v::S) (put c v x) (d h) y.1=false)/\b.FZ d f e a g U R (v::S)/\n.FZ d f e a g U R S
theorem Fo.Ok.right [DecidableEq β]{U:List β}{d:Nat->List Nat}{u:List Nat}{j:Nat->List (List β×Int)}{z:Int->α}{g:Nat->β->α}{i:Nat->(Nat->β)->List β}:
 ∀{f:Fo} {S:List Nat},f.Ok d u S->f.vars.Nodup->(∀a∈f.vars,a∉S)->f.FZ d u j i g U R S->f.Right U i g (fH R d j z) R
 | .nil,_,_,_,_,_=>trivial
 | .cons v P b n,S,⟨O,C,B,A⟩,J,w,⟨s,N,M⟩=>by
   obtain⟨d1,d2⟩:=ic.1 J;obtain⟨d3,d4,d5⟩:=rE.1 d2;have r:v∉b.vars:=fun h=>d1 (bO.2 (.inl h));have t:∀a∈b.vars,a∉v::S:=fun a l q=>by
    rcases aK.1 q with rfl|q
    ·exact r l
    ·exact w a (by simp [Fo.vars,l]) q
   refine⟨fun c=>⟨(s c).1,(s c).2.1,fun x E o=> ?_⟩,B.right d3 t N,A.right d4 (fun a l=>w a (by simp [Fo.vars,l])) M⟩;rcases(s c).2.2 x E o with H|⟨h,G,F,p⟩
   ·exact .inl H
   ·refine .inr ⟨h,C h G F,fun L I=> ?_⟩;unfold fH;cases m:fE (d h) (j h) L with
    |none=>rfl
    |some y=>obtain⟨D,k⟩:=aj6 (S:=v::S) m;rw[acG (e:=put c v x) (fun a _ l=>I a (fun K=>t a K l))] at k;rw[p y D] at k;cases k
theorem SR.NC{l:List β}{f:β->α}{m:α}:R.sum l (fun x=>R.mul m (f x))=R.mul m (R.sum l f):=by
 induction l with
 |nil=>exact(vz m).symm
 |cons x l a=>rw[iQ,iQ,a,R.ds]
def dN:SR Bool where
 zero:=false
 one:=true
 add:=fun a b=>a||b
 mul:=fun a b=>a&&b
 aa:=fun a b c=>Rk a b c
 ac:=fun a b=>Bool.or_comm a b
 az:=fun a=>IA a
 ma:=fun a b c=>Bool.and_assoc a b c
 mc:=fun a b=>Bool.and_comm a b
 mo:=fun a=>MB a
 mz:=fun a=>Bool.false_and a
 ds:=fun a b c=>Bool.and_or_distrib_left a b c
theorem dN.acS{l:List β}{f:β->Bool}:dN.sum l f=true↔∃x∈l,f x=true:=by
 induction l with
 |nil=>simp [SR.sum,dN]
 |cons x l a=>rw[iQ,show dN.add (f x) (dN.sum l f)=(f x||dN.sum l f) from rfl,kF,a];simp
theorem dN.avO{γ:Type}{l:List γ}{f:γ->Bool}:dN.prod l f=true↔∀x∈l,f x=true:=by
 induction l with
 |nil=>simp [SR.prod,dN]
 |cons x l a=>rw[kY,show dN.mul (f x) (dN.prod l f)=(f x&&dN.prod l f) from rfl,cV,a];simp
def Q_:=@dN.avO
theorem Fo.SY{U:List β}{g:Nat->β->α}{W:Nat->(Nat->β)->α}{gB:Nat->β->Bool}{WB:Nat->(Nat->β)->Bool}(j:∀v x,gB v x=false->g v x=R.zero)(hW:∀h e,WB h e=false->W h e=R.zero):
 ∀(f:Fo) (a:Nat->β),f.val dN U gB WB a=false->f.val R U g W a=R.zero
 | .nil,_,h=>by cases h
 | .cons v d b n,a,h=>by
   unfold Fo.val at h⊢;rcases Zt.1 (show(_&&_)=false from h) with h|h
   ·rw[MR (fun x m=> ?_),R.mz];have c:¬((gB v x&&dN.prod d fun h=>WB h (put a v x))&&b.val dN U gB WB (put a v x))=true:=fun o=>by have s:=(dN.acS (l:=U) (f:=fun x=>dN.mul (dN.mul (gB v x) (dN.prod d fun h=>WB h (put a v x))) (b.val dN U gB WB (put a v x)))).2 ⟨x,m,o⟩;rw[s] at h;cases h
    rw[rI] at c;rcases Zt.1 c with c|c
    ·rcases Zt.1 c with c|c
     ·rw[j v x c,R.mz,R.mz]
     ·have r:∃q∈d,WB q (put a v x)=false:=by
       apply Mg
       intro p;have:=(Q_ (l:=d) (f:=fun h=>WB h (put a v x))).2 (fun q i=>by
        cases k:WB q (put a v x) with
        |true=>rfl
        |false=>exact absurd ⟨q,i,k⟩ p)
       rw[this] at c;cases c
      obtain⟨q,i,k⟩:=r;rw[IB i (hW q _ k),vz,R.mz]
    ·rw[Fo.SY j hW b _ c,vz]
   ·rw[Fo.SY j hW n a h,vz]
end
section
variable{β:Type}
theorem Fo.avR{U:List β}{g:Nat->β->Bool}{W:Nat->(Nat->β)->Bool}{t:Nat->List Nat}(hW:∀h e k,(∀a∈t h,k a=e a)->W h k=W h e):
 ∀(f:Fo) (d:Nat->β),f.Wf t->f.vars.Nodup->(f.val dN U g W d=true↔∃k,Alike f.vars d k/\(∀v∈f.vars,k v∈U/\g v (k v)=true)/\∀h∈f.homes,W h k=true)
 | .nil,d,_,_=>by refine⟨fun _=>⟨d,fun _ _=>rfl,fun v w=>(by cases w),fun h j=>(by cases j)⟩,fun _=>rfl⟩
 | .cons v K b n,d,⟨I,u,H,G,F⟩,S=>by
   obtain⟨d1,d2⟩:=ic.1 S;obtain⟨d3,d4,d5⟩:=rE.1 d2;have E:v∉b.vars:=fun h=>d1 (bO.2 (.inl h));have T:v∉n.vars:=fun h=>d1 (bO.2 (.inr h));have r:(Fo.cons v K b n).val dN U g W d=(dN.sum U (fun x=>(g v x&&dN.prod K fun h=>W h (put d v x))&&b.val dN U g W (put d v x))&&n.val dN U g W d):=rfl;rw[r,cV,dN.acS];constructor
   ·rintro⟨⟨x,P,J⟩,B⟩;rw[cV,cV,Q_] at J;obtain⟨⟨R,Q⟩,s⟩:=J;obtain⟨D,y,O,t1⟩:=(Fo.avR hW b (put d v x) G d3).1 s;obtain⟨L,V,N,t2⟩:=(Fo.avR hW n d F d4).1 B;have C:D v=x:=by rw[y v E];unfold put;rw[if_pos rfl]
    refine⟨fun a=>if a∈n.vars then L a else D a,fun a i=> ?_,fun a i=> ?_,fun h j=> ?_⟩
    ·have c:a∉n.vars:=fun h=>i ax1;have m:a∉b.vars:=fun h=>i ax1;have l:a≠v:=fun h=>i ax1;simp only[if_neg c];rw[y a m];unfold put;rw[if_neg l]
    ·simp only;by_cases c:a∈n.vars
     ·rw[if_pos c];exact N a c
     ·rw[if_neg c];simp only[Fo.vars,aK,bO] at i;rcases i with rfl|i|i
      ·rw[C];exact⟨P,R⟩
      ·exact O a i
      ·exact absurd i c
    ·rcases bO.1 j with j|j
     ·rw[hW h (put d v x) _ fun a i=> ?_]
      ·exact Q h j
      ·have c:=u h (bO.2 (.inl j)) a i;simp only[if_neg c];exact y a (I h j a i)
     ·rcases bO.1 j with j|j
      ·rw[hW h D _ fun a i=> ?_]
       ·exact t1 h j
       ·have c:=u h (bO.2 (.inr j)) a i;simp only[if_neg c]
      ·rw[hW h L _ fun a i=> ?_]
       ·exact t2 h j
       ·have q:=H h j a i;by_cases c:a∈n.vars
        ·rw[if_pos c]
        ·rw[if_neg c,V a c,y a (fun s=>q ayv)];unfold put;rw[if_neg (fun e=>q ayF)]
   ·rintro⟨k,M,z,A⟩;have w:=z v ayf;constructor
    ·refine⟨k v,w.1,?_⟩;rw[cV,cV,Q_];have o:∀a,a∉b.vars->a∉n.vars->put d v (k v) a=k a:=fun a s B=>by
      unfold put;by_cases l:a=v
      ·rw[if_pos l,l]
      ·rw[if_neg l];exact(M a (by simp [Fo.vars,l,s,B])).symm
     refine⟨⟨w.2,fun h j=> ?_⟩,(Fo.avR hW b (put d v (k v)) G d3).2 ⟨fun a=>if a∈b.vars then k a else put d v (k v) a,fun a i=>by simp only[if_neg i],fun a i=> ?_,fun h j=> ?_⟩⟩
     ·rw[hW h k _ fun a i=>o a (I h j a i) (u h (bO.2 (.inl j)) a i)];exact A h ayI
     ·simp only[if_pos i];exact z a ayp
     ·rw[hW h k _ fun a i=> ?_]
      ·exact A h ayI
      ·by_cases m:a∈b.vars
       ·rw[if_pos m]
       ·rw[if_neg m];exact o a m (u h (bO.2 (.inr j)) a i)
    ·refine(Fo.avR hW n d F d4).2 ⟨fun a=>if a∈n.vars then k a else d a,fun a i=>by simp only[if_neg i],fun a i=> ?_,fun h j=> ?_⟩
     ·simp only[if_pos i];exact z a ayp
     ·rw[hW h k _ fun a i=> ?_]
      ·exact A h ayI
      ·have q:=H h j a i;by_cases c:a∈n.vars
       ·rw[if_pos c]
       ·rw[if_neg c];refine(M a fun p=> ?_).symm;simp only[Fo.vars,aK,bO] at p q;rcases p with p|p|p
        ·exact q (.inl p)
        ·exact q (.inr p)
        ·exact c p
def E_:=@Fo.avR
end
inductive dF(p:Nat->Option Nat):Option Nat->Nat->Prop
 |step (a:Nat):dF p (p a) a
 |up {u:Option Nat} {b a:Nat} (h:p a=some b) (k:dF p u b):dF p u a
structure dr(n:Nat)(p:Nat->Option Nat)(d:Nat->Nat):Prop where
 lt:∀a,a<n->d a<n
 root:∀a,a<n->p a=none->d a=0
 up:∀a b,a<n->p a=some b->b<n/\d a=d b+1
def dF.l8(r:dr a y J)(h:dF y O b):∀c,O=some c->b<a->c<a/\J c<J b:=by
 induction h with
 |step b=>intro c f g;have i:=r.up b c g f;exact⟨i.1,by omega⟩
 |up e _ j=>intro c f g;have i:=r.up _ _ g e;have k:=j c f i.1;exact⟨k.1,by omega⟩
def dF.trans{p:Nat->Option Nat}(g:dF p O b)(d:dF p (some b) a):dF p O a:=by
 generalize c:some b=w at d;induction d with
 |step a=>exact .up c.symm g
 |up f _ e=>exact .up f (e c)
def dF.all{n:Nat}{p:Nat->Option Nat}{d:Nat->Nat}(r:dr n p d):∀(k a:Nat),a<n->d a<=k->dF p none a
 |k,a,e,g=>by
  cases c:p a with
  |none=>have h:=dF.step (p:=p) a;rw[c] at h;exact h
  |some b=>
   have f:=r.up a b e c;match k with
   |0=>omega
   |k+1=>exact .up c (dF.all r k b f.1 Om)
def dF.child{p:Nat->Option Nat}(h:dF p O a):∃c,p c=O/\(c=a\/dF p (some c) a):=by
 induction h with
 |step a=>exact⟨a,rfl,.inl rfl⟩
 |up e _ f=>
  rename_i b a _;obtain⟨c,g,h⟩:=f;refine⟨c,g,.inr ?_⟩;rcases h with rfl|h
  ·have d:=dF.step (p:=p) a;rw[e] at d;exact d
  ·have d:=dF.step (p:=p) a;rw[e] at d;exact h.trans d
def dF.inv(h:dF y O a):y a=O\/∃b,y a=some b/\dF y O b:=by
 cases h with
 |step=>exact .inl rfl
 |up c k=>exact .inr ⟨_,c,k⟩
def dF.line{n:Nat}{p:Nat->Option Nat}{d:Nat->Nat}(r:dr n p d){b c:Nat}:∀(k a:Nat),a<n->d a<=k->dF p (some b) a->dF p (some c) a->b=c\/dF p (some b) c\/dF p (some c) b
 |k,a,j,o,m,h=>by
  rcases m.inv with f|⟨x,f,i⟩
  ·rcases h.inv with e|⟨y,e,g⟩
   ·rw[f] at e;injection e with e;exact .inl e
   ·rw[f] at e;injection e with e;subst e;exact .inr (.inr g)
  ·rcases h.inv with e|⟨y,e,g⟩
   ·rw[f] at e;injection e with e;subst e;exact .inr (.inl i)
   ·rw[f] at e;injection e with e;subst e;have l:=r.up a x j f;match k with
    |0=>omega
    |k+1=>exact dF.line r k x l.1 Om i g
def kids(n:Nat)(p:Nat->Option Nat)(u:Option Nat):List Nat:=(List.range n).filter fun a=>p a==u
def ei(b:Nat->List Nat)(f:Nat->Fo):List Nat->Fo
 | []=> .nil
 |a::l=> .cons a (b a) (f a) (ei b f l)
def et(n:Nat)(p:Nat->Option Nat)(b:Nat->List Nat):Nat->Option Nat->Fo
 |0,_=> .nil
 |k+1,u=>ei b (fun a=>et n p b k (some a)) (kids n p u)
def ig{p:Nat->Option Nat}:b∈kids a p O↔b<a/\p b=O:=by unfold kids;rw[eE,dL,beq_iff_eq]
def akB(n:Nat)(p:Nat->Option Nat)(u:Option Nat):(kids n p u).Nodup:=yX yY tK
def RH{b:Nat->List Nat}{f:Nat->Fo}:∀{l:List Nat} {a:Nat},a∈(ei b f l).vars↔∃c∈l,a=c\/a∈(f c).vars
 | [],a=>by simp [ei,Fo.vars]
 |c::l,a=>by
  simp only[ei,Fo.vars,aK,bO,RH (l:=l)];constructor
  ·rintro(h|h|⟨x,d,h⟩)
   ·exact⟨c,.inl rfl,.inl h⟩
   ·exact⟨c,.inl rfl,.inr h⟩
   ·exact⟨x,.inr d,h⟩
  ·rintro⟨x,d,h⟩;rcases d with rfl|d
   ·rcases h with h|h
    ·exact .inl h
    ·exact .inr (.inl h)
   ·exact .inr (.inr ⟨x,d,h⟩)
def aah{homes:Nat->List Nat}{f:Nat->Fo}(d:∀c h,h∈(f c).homes↔∃v∈(f c).vars,h∈homes v):∀{l:List Nat} {h:Nat},h∈(ei homes f l).homes↔∃v∈(ei homes f l).vars,h∈homes v
 | [],h=>by simp [ei,Fo.vars,Fo.homes]
 |c::l,h=>by
  simp only[ei,Fo.vars,Fo.homes,aK,bO,aah d (l:=l),d c];constructor
  ·rintro(a|⟨v,b,a⟩|⟨v,b,a⟩)
   ·exact⟨c,.inl rfl,a⟩
   ·exact⟨v,.inr (.inl b),a⟩
   ·exact⟨v,.inr (.inr b),a⟩
  ·rintro⟨v,rfl|b|b,a⟩
   ·exact .inl a
   ·exact .inr (.inl ⟨v,b,a⟩)
   ·exact .inr (.inr ⟨v,b,a⟩)
def Re{n:Nat}{p:Nat->Option Nat}{homes:Nat->List Nat}:∀(k:Nat) (u:Option Nat) (h:Nat),h∈(et n p homes k u).homes↔∃v∈(et n p homes k u).vars,h∈homes v
 |0,u,h=>by simp [et,Fo.vars,Fo.homes]
 |k+1,u,h=>aah (f:=fun a=>et n p homes k (some a)) (fun c h=>Re k (some c) h)
def f9(d:Nat->Nat):Option Nat->Nat
 |none=>0
 |some a=>d a+1
def wX{n:Nat}{p:Nat->Option Nat}{d:Nat->Nat}{homes:Nat->List Nat}(r:dr n p d):∀(k:Nat) (u:Option Nat) (a:Nat),(∀b,u=some b->b<n)->n<=k+f9 d u->(a∈(et n p homes k u).vars↔a<n/\dF p u a)
 |0,u,a,s,o=>by
  simp only[et,Fo.vars,bJ,false_iff];rintro⟨j,h⟩;cases u with
  |none=>simp only[f9] at o;omega
  |some b=>have t:=h.l8 r b rfl j;have g:=r.lt a j;simp only[f9] at o;omega
 |k+1,u,a,s,o=>by
  have i:∀c,c<n->p c=u->f9 d (some c)=f9 d u+1:=fun c m q=>by
   cases u with
   |none=>simp only[f9];rw[r.root c m q]
   |some b=>simp only[f9];rw[(r.up c b m q).2]
  show a∈(ei homes (fun a=>et n p homes k (some a)) (kids n p u)).vars↔_
  rw[RH];constructor
  ·rintro⟨c,m,h⟩;obtain⟨f,e⟩:=ig.1 m;have hstep:dF p u c:=by have h:=dF.step (p:=p) c;rwa[e] at h
   rcases h with rfl|h
   ·exact⟨f,hstep⟩
   ·obtain⟨j,g⟩:=(wX r k (some c) a (fun b l=>by injection l with l;omega) (by rw[i c f e];omega)).1 h;exact⟨j,hstep.trans g⟩
  ·rintro⟨j,h⟩;obtain⟨c,e,g⟩:=h.child;have f:c<n:=by
    rcases g with rfl|g
    ·exact j
    ·exact(g.l8 r c rfl j).1
   refine⟨c,ig.2 ⟨f,e⟩,?_⟩;rcases g with rfl|g
   ·exact .inl rfl
   ·exact .inr ((wX r k (some c) a (fun b l=>by injection l with l;omega) (by rw[i c f e];omega)).2 ⟨j,g⟩)
def aag{homes:Nat->List Nat}{f:Nat->Fo}:∀{l:List Nat},l.Nodup->(∀c∈l,c∉(f c).vars/\(f c).vars.Nodup)->(∀c∈l,∀m∈l,c≠m->∀a,(a=c\/a∈(f c).vars)->¬(a=m\/a∈(f m).vars))->(ei homes f l).vars.Nodup
 | [],_,_,_=>Ix
 |c::l,j,o,n=>by
  obtain⟨t,j⟩:=ic.1 j;obtain⟨q,p⟩:=o c Ou;have r:=aag (homes:=homes) j (fun x g=>o x ayw) (fun x g y s=>n x ayw y ayv);show(c::((f c).vars++(ei homes f l).vars)).Nodup
  have i:∀a,(a=c\/a∈(f c).vars)->a∉(ei homes f l).vars:=fun a k d=>by obtain⟨x,g,h⟩:=RH.1 d;exact n c Ou x ayw (fun e=>t (e▸g)) a k h
  refine ic.2 ⟨fun d=> ?_,rE.2 ⟨p,r,fun a k b u e=> ?_⟩⟩
  ·rcases bO.1 d with d|d
   ·exact q d
   ·exact i c (.inl rfl) d
  ·subst e;exact i a (.inr k) u
def Iu{n:Nat}{p:Nat->Option Nat}{d:Nat->Nat}{homes:Nat->List Nat}(r:dr n p d):∀(k:Nat) (u:Option Nat),(∀b,u=some b->b<n)->n<=k+f9 d u->(et n p homes k u).vars.Nodup
 |0,_,_,_=>Ix
 |k+1,u,D,F=>by
  have f:∀c,c<n->p c=u->f9 d (some c)=f9 d u+1:=fun c l z=>by
   cases u with
   |none=>simp only[f9];rw[r.root c l z]
   |some b=>simp only[f9];rw[(r.up c b l z).2]
  have x:∀c,c∈kids n p u->∀a,a∈(et n p homes k (some c)).vars->a<n/\dF p (some c) a:=fun c l a w=>by obtain⟨e,i⟩:=ig.1 l;exact(wX r k (some c) a (fun b v=>by injection v with v;omega) (by rw[f c e i];omega)).1 w
  refine aag (akB n p u) (fun c l=> ?_) (fun c l q m s a w g=> ?_)
  ·obtain⟨e,i⟩:=ig.1 l;refine⟨fun h=> ?_,Iu r k (some c) (fun b v=>by injection v with v;omega) (by rw[f c e i];omega)⟩;have o:=(x c l c h).2.l8 r c rfl e;omega
  ·obtain⟨e,i⟩:=ig.1 l;obtain⟨j,t⟩:=ig.1 m;have E:d c=d q:=(by have B:=f c e i;have o:=f q j t;simp only[f9] at B o;omega)
   rcases w with rfl|w
   ·rcases g with rfl|g
    ·exact s rfl
    ·have o:=(x q m a g).2.l8 r q rfl e;omega
   ·obtain⟨y,A⟩:=x c l a w;rcases g with rfl|g
    ·have o:=A.l8 r c rfl j;omega
    ·obtain⟨-,C⟩:=x q m a g;rcases dF.line r (d a) a y (aL _) A C with h|h|h
     ·exact s h
     ·have o:=h.l8 r c rfl j;omega
     ·have o:=h.l8 r q rfl e;omega
structure afq(n:Nat)(p:Nat->Option Nat)(at_:Nat->List Nat)(hl:List Nat)(home:Nat->Nat):Prop where
 mem:∀h∈hl,home h∈at_ h
 lt:∀h∈hl,∀a∈at_ h,a<n
 way:∀h∈hl,∀a∈at_ h,a=home h\/dF p (some a) (home h)
def RI{n:Nat}{p:Nat->Option Nat}{d:Nat->Nat}{o:Nat->List Nat}{q:List Nat}{f:Nat->Nat}(r:dr n p d)(w:afq n p o q f):
 ∀(k:Nat) (u:Option Nat) (S:List Nat),(∀b,u=some b->b<n)->n<=k+f9 d u->(∀a,(u=some a\/∃b,u=some b/\dF p (some a) b)->a∈S)->(et n p (fun v=>q.filter fun h=>f h==v) k u).Ok o q S
 |0,_,_,_,_,_=>trivial
 |k+1,u,S,J,K,I=>by
  have E:∀c,c<n->p c=u->f9 d (some c)=f9 d u+1:=fun c s D=>by
   cases u with
   |none=>simp only[f9];rw[r.root c s D]
   |some b=>simp only[f9];rw[(r.up c b s D).2]
  have t:∀l:List Nat,(∀c∈l,c<n/\p c=u)->(ei (fun v=>q.filter fun h=>f h==v) (fun a=>et n p (fun v=>q.filter fun h=>f h==v) k (some a)) l).Ok o q S:=by
   intro l;induction l with
   |nil=>intro _;trivial
   |cons v l G=>
    intro z;obtain⟨H,x⟩:=z v Ou;have g:n<=k+f9 d (some v):=axM;have y:∀b,some v=some b->b<n:=fun b F=>by injection F with F;omega
    have B:∀a,dF p (some a) v->a∈S:=fun a A=>I a (by
     rcases A.inv with h|⟨b,i,m⟩
     ·exact .inl (x.symm.trans h)
     ·exact .inr ⟨b,x.symm.trans i,m⟩)
    refine⟨fun h j=> ?_,fun h j C=> ?_,RI r w k (some v) (v::S) y g (fun a A=> ?_),G fun c s=>z c ayv⟩
    ·obtain⟨i,m⟩:=eE.1 j;have m:=beq_iff_eq.1 m;subst m;refine⟨w.mem h i,fun a A=> ?_⟩;rcases w.way h i a A with e|e
     ·exact .inl e
     ·exact .inr (B a e)
    ·rcases w.way h j v C with e|e
     ·exact bO.2 (.inl (eE.2 ⟨j,beq_iff_eq.2 e.symm⟩))
     ·refine bO.2 (.inr ((Re k (some v) h).2 ⟨f h,?_,eE.2 ⟨j,beq_self_eq_true _⟩⟩));exact(wX r k (some v) (f h) y g).2 ⟨w.lt h j _ (w.mem h j),e⟩
    ·rcases A with h|⟨b,i,m⟩
     ·injection h with h;rw[h];exact eH
     ·injection i with i;subst i;exact gQ _ (B a m)
  exact t (kids n p u) fun c s=>ig.1 s
abbrev VS:=Nat->Bool
def VS.less(s t:VS):VS:=fun a=>s a&& !(t a)
def VS.one(a:Nat):VS:=fun b=>b==a
section
variable{adj:Nat->Nat->Prop}
inductive Reach(adj:Nat->Nat->Prop)(rest:VS)(a:Nat):Nat->Prop
 |refl:Reach adj rest a a
 |step {b c:Nat} (h:Reach adj rest a b) (k:adj b c) (hc:rest c=true):Reach adj rest a c
theorem Reach.trans{rest:VS}(g:Reach adj rest a b)(f:Reach adj rest b c):Reach adj rest a c:=by
 induction f with
 |refl=>exact g
 |step _ k e d=>exact .step d k e
theorem Reach.symm(d:∀a b,adj a b->adj b a){rest:VS}(f:rest a=true)(h:Reach adj rest a b):Reach adj rest b a/\rest b=true:=by
 induction h with
 |refl=>exact⟨.refl,f⟩
 |step _ k e c=>exact⟨(Reach.step .refl (d _ _ k) c.2).trans c.1,e⟩
theorem Reach.mono{rest c:VS}(e:∀x,rest x=true->c x=true)(h:Reach adj rest a b):Reach adj c a b:=by
 induction h with
 |refl=>exact .refl
 |step _ k f d=>exact .step d k (e _ f)
noncomputable def part(adj:Nat->Nat->Prop)(rest:VS)(a:Nat):VS:=fun b=> @decide (Reach adj rest a b) (Classical.propDecidable _)
theorem fD{rest:VS}:part adj rest a b=true↔Reach adj rest a b:=by unfold part;exact @decide_eq_true_iff _ (Classical.propDecidable _)
theorem qE(c:∀a b,adj a b->adj b a){rest:VS}(d:rest a=true)(h:part adj rest a b=true):rest b=true:=((fD.1 h).symm c d).2
theorem C7(f:∀a b,adj a b->adj b a){rest:VS}(g:rest a=true)(h:part adj rest a b=true):part adj rest b=part adj rest a:=by
 have e:=fD.1 h;have i:=(e.symm f g).1;funext c
 rw[lW,fD,fD];exact⟨fun d=>e.trans d,fun d=>i.trans d⟩
def aqZ(adj:Nat->Nat->Prop)(rest c:VS):Prop:=∃a,rest a=true/\c=part adj rest a
theorem ab0(o:∀a d,adj a d->adj d a){rest:VS}(n:rest b=true)(i:part adj rest a b=false):part adj (rest.less (part adj rest a)) b=part adj rest b:=by
 funext c
 rw[lW,fD,fD];constructor
 ·intro h;exact h.mono fun y e=>by unfold VS.less at e;rw[cV] at e;exact e.1
 ·intro h;induction h with
  |refl=>exact .refl
  |step p k j m=>rename_i d c;refine .step m k ?_;unfold VS.less;rw[j,MB,rG,<-rI,fD];intro g;have f:Reach adj rest b c:= .step p k j;have l:=(g.trans ((f.symm o n).1));rw[<-fD] at l;rw[l] at i;cases i
noncomputable def parts(adj:Nat->Nat->Prop):List Nat->VS->List VS
 | [],_=> []
 |a::l,rest=>if rest a=true then part adj rest a::parts adj l (rest.less (part adj rest a)) else parts adj l rest
theorem Fg(n:∀a b,adj a b->adj b a){rest0:VS}:∀(l:List Nat) (rest:VS),(∀x,rest x=true->rest0 x=true/\part adj rest x=part adj rest0 x)->
 (∀c∈parts adj l rest,aqZ adj rest0 c/\∃a∈l,rest a=true/\c=part adj rest0 a)/\∀a∈l,rest a=true->part adj rest0 a∈parts adj l rest
 | [],rest,_=>by
   refine⟨fun c k=> ?_,fun a g=> ?_⟩
   ·cases k
   ·cases g
 |a::l,rest,h=>by
  unfold parts;by_cases g:rest a=true
  ·rw[if_pos g];have m:=(h a g).2;have u:∀x,(rest.less (part adj rest a)) x=true->rest0 x=true/\part adj (rest.less (part adj rest a)) x=part adj rest0 x:=fun x d=>by unfold VS.less at d;rw[cV,rG] at d;refine⟨(h x d.1).1,?_⟩;rw[ab0 n d.1 d.2];exact(h x d.1).2
   obtain⟨q,p⟩:=Fg n l (rest.less (part adj rest a)) u;refine⟨fun c k=> ?_,fun x d f=> ?_⟩
   ·rcases aK.1 k with rfl|k
    ·exact⟨⟨a,(h a g).1,m⟩,a,by simp,g,m⟩
    ·obtain⟨o,y,r,i,s⟩:=q c k;refine⟨o,y,by simp [r],?_,s⟩;unfold VS.less at i;rw[cV] at i;exact i.1
   ·by_cases j:part adj rest a x=true
    ·have e:part adj rest0 x=part adj rest a:=by rw[<-(h x f).2];exact C7 n g j
     rw[e];exact eH
    ·rcases aK.1 d with rfl|d
     ·exact absurd (fD.2 .refl) j
     ·refine gQ _ (p x d ?_);unfold VS.less;rw[f,MB,rG];exact rI _▸j
  ·rw[if_neg g];obtain⟨q,p⟩:=Fg n l rest h;refine⟨fun c k=> ?_,fun x d f=> ?_⟩
   ·obtain⟨o,y,r,t⟩:=q c k;exact⟨o,y,by simp [r],t⟩
   ·rcases aK.1 d with rfl|d
    ·exact absurd f g
    ·exact p x d f
theorem aiN(r:∀d a,adj d a->adj a d){rest:VS}(s:rest a=true)(p:(rest.less (VS.one a)) b=true):
 (part adj rest a b=false/\part adj (rest.less (VS.one a)) b=part adj rest b)\/(part adj rest a b=true/\part adj (rest.less (VS.one a)) b=part adj ((part adj rest a).less (VS.one a)) b):=by
 have l:rest b=true/\VS.one a b=false:=(by unfold VS.less at p;rwa[cV,rG] at p);cases n:part adj rest a b with
 |false=>
  refine .inl ⟨rfl,?_⟩;funext c;rw[lW,fD,fD];constructor
  ·intro h;exact h.mono fun y f=>by unfold VS.less at f;rw[cV] at f;exact f.1
  ·intro h;induction h with
   |refl=>exact .refl
   |step m k g i=>rename_i q c;refine .step i k ?_;unfold VS.less;rw[g,MB,rG];unfold VS.one;rw[beq_eq_false_iff_ne];intro e;subst e;have j:Reach adj rest b c:= .step m k g;rw[fD.2 (j.symm r l.1).1] at n;cases n
 |true=>
  refine .inr ⟨rfl,?_⟩;funext c;rw[lW,fD,fD];constructor
  ·intro h;induction h with
   |refl=>exact .refl
   |step m k g i=>
    rename_i q c;refine .step i k ?_;unfold VS.less at g⊢;rw[cV] at g⊢;refine⟨fD.2 ?_,g.2⟩;have o:Reach adj rest a q:=(fD.1 n).trans (m.mono fun y f=>by unfold VS.less at f;rw[cV] at f;exact f.1)
    exact .step o k g.1
  ·intro h;exact h.mono fun y f=>by unfold VS.less at f⊢;rw[cV] at f⊢;exact⟨qE r s f.1,f.2⟩
end
def VS.count(n:Nat)(s:VS):Nat:=(List.range n).countP s
def RL{c:VS}{a:Nat}(f:c a=true):∀{l:List Nat},a∈l->l.countP (c.less (VS.one a))<l.countP c
 |x::l,h=>by
  have i:l.countP (c.less (VS.one a))<=l.countP c:=List.countP_mono_left fun x _ d=>by unfold VS.less at d;rw[cV] at d;exact d.1
  by_cases d:x=a
  ·subst d;have e:(c.less (VS.one x)) x=false:=aym;rw[QQ (by rw[e];decide),QP f];omega
  ·have j:a∈l:=axM;have g:=RL f j;have e:(c.less (VS.one a)) x=c x:=(by unfold VS.less VS.one;have:(x==a)=false:=axM;rw[this];simp)
   cases b:c x with
   |true=>rw[QP (by rw[e];exact b),QP b];omega
   |false=>rw[QQ (by rw[e,b];decide),QQ (by rw[b];decide)];exact g
def VS.avI{n:Nat}{c:VS}(b:c a=true)(d:a<n):(c.less (VS.one a)).count n<c.count n:=RL b (dL.2 d)
def tO:=@VS.avI
def VS.avH{n:Nat}{c s:VS}(h:∀x,c x=true->s x=true):c.count n<=s.count n:=List.countP_mono_left fun x _ a=>h x a
def wY:=@VS.avH
def qM(l:List Nat):Nat:=l.foldl max 0
def foldl_max(l:List Nat):∀m,m<=l.foldl max m/\(∀x∈l,x<=l.foldl max m)/\∀k,m<=k->(∀x∈l,x<=k)->l.foldl max m<=k:=by
 induction l with
 |nil=>intro m;exact⟨aL _,fun x a=>(by cases a),fun k c _=>c⟩
 |cons y l e=>
  intro m;obtain⟨d,g,f⟩:=e (max m y);refine⟨aV (Nat.le_max_left _ _) d,fun x a=> ?_,fun k c a=>f k (Nat.max_le.2 ⟨c,a y Ou⟩) fun x b=>a x axK⟩;rcases aK.1 a with rfl|a
  ·exact aV (Nat.le_max_right _ _) d
  ·exact g x a
def T3(h:a∈i):a<=qM i:=(foldl_max i 0).2.1 a h
def aec(h:∀x∈i,x<=a):qM i<=a:=(foldl_max i 0).2.2 a (aU _) h
def iB(c:VS)(f:Nat->Nat)(l:List Nat)(m:Nat):Nat:=l.foldl (fun m a=>if c a=true then min m (f a) else m) m
def IQ{c:VS}{f:Nat->Nat}:∀(l:List Nat) (m:Nat),iB c f l m<=m/\(∀a∈l,c a=true->iB c f l m<=f a)/\(iB c f l m=m\/∃a∈l,c a=true/\iB c f l m=f a)
 | [],m=>⟨aL _,fun a d=>(by cases d),.inl rfl⟩
 |x::l,m=>by
  have e:iB c f (x::l) m=iB c f l (if c x=true then min m (f x) else m):=rfl;rw[e];by_cases i:c x=true
  ·rw[if_pos i];obtain⟨k,j,g⟩:=IQ (c:=c) (f:=f) l (min m (f x));refine⟨by omega,fun a d b=> ?_,?_⟩
   ·rcases aK.1 d with rfl|d
    ·omega
    ·exact j a d b
   ·rcases g with g|⟨a,d,b,g⟩
    ·rcases Nat.le_total m (f x) with h|h
     ·exact .inl Om
     ·exact .inr ⟨x,by simp,i,by omega⟩
    ·exact .inr ⟨a,by simp [d],b,g⟩
  ·rw[if_neg i];obtain⟨k,j,g⟩:=IQ l m;refine⟨k,fun a d b=> ?_,?_⟩
   ·rcases aK.1 d with rfl|d
    ·exact absurd b i
    ·exact j a d b
   ·rcases g with g|⟨a,d,b,g⟩
    ·exact .inl g
    ·exact .inr ⟨a,by simp [d],b,g⟩
def RG{c:VS}{f g:Nat->Nat}(h:∀a,c a=true->f a=g a):∀(l:List Nat) (m:Nat),iB c f l m=iB c g l m
 | [],_=>rfl
 |x::l,m=>by
  have e:∀f:Nat->Nat,iB c f (x::l) m=iB c f l (if c x=true then min m (f x) else m):=fun _=>rfl;rw[e,e,RG h l];by_cases b:c x=true
  ·rw[if_pos b,if_pos b,h x b]
  ·rw[if_neg b,if_neg b]
section
variable(n:Nat)(adj:Nat->Nat->Prop)(ky:VS->Nat)
noncomputable def nP:Nat->VS->Nat
 |0,_=>0
 |k+1,rest=>qM ((parts adj (List.range n) rest).map fun c=>max (iB c (fun a=>nP k (c.less (VS.one a))) (List.range n) (n+1)) (ky c+1))
noncomputable def Dj(k:Nat)(c:VS):Nat:=max (iB c (fun a=>nP n adj ky k (c.less (VS.one a))) (List.range n) (n+1)) (ky c+1)
variable{n adj ky}
theorem Ck(k:Nat)(rest:VS):nP n adj ky (k+1) rest=qM ((parts adj (List.range n) rest).map (Dj n adj ky k)):=rfl
theorem y9(e:∀a b,adj a b->adj b a){rest c:VS}(f:c∈parts adj (List.range n) rest):∃a,a<n/\rest a=true/\c=part adj rest a:=by obtain⟨_,a,g,i,h⟩:=(Fg e (List.range n) rest fun _ d=>⟨d,rfl⟩).1 c f;exact⟨a,dL.1 g,i,h⟩
theorem EZ(d:∀a b,adj a b->adj b a){rest:VS}(f:a<n)(e:rest a=true):part adj rest a∈parts adj (List.range n) rest:=
 (Fg d (List.range n) rest fun _ c=>⟨c,rfl⟩).2 a (dL.2 f) e
theorem MI(h:∀a b,adj a b->adj b a):∀(k f:Nat) (s:VS),(∀x,s x=true->x<n)->s.count n<=k->s.count n<=f->nP n adj ky k s=nP n adj ky f s
 |0,0,_,_,_,_=>rfl
 |0,f+1,s,e,p,_=>by
  have m:∀x,s x=false:=fun x=>by
   cases q:s x with
   |false=>rfl
   |true=>have o:0<s.count n:=List.countP_pos_iff.2 ⟨x,dL.2 (e x q),q⟩;omega
  have t:parts adj (List.range n) s= []:=by
   rcases r:parts adj (List.range n) s with _|⟨c,l⟩
   ·rfl
   ·obtain⟨a,_,i,_⟩:=y9 h (c:=c) (by rw[r];simp);rw[m a] at i;cases i
  rw[Ck,t];rfl
 |k+1,0,s,e,p,o=>(MI h 0 (k+1) s e o p).symm
 |k+1,f+1,s,e,p,o=>by rw[Ck,Ck];congr 1;refine kW fun c w=> ?_;obtain⟨x,_,j,rfl⟩:=y9 h w;unfold Dj;congr 1;refine RG (fun a i=> ?_) _ _;have d:∀y,part adj s x y=true->s y=true:=fun y g=>qE h j g;have u:=tO i (e a (d a i));have v:=wY (n:=n) d;refine MI h k f _ (fun y g=>e y (d y ?_)) Om Om;unfold VS.less at g;rw[cV] at g;exact g.1
theorem abu(g:∀a b,adj a b->adj b a)(i:∀c:VS,(∃a,a<n/\c a=true)->ky c+1<=n):∀(k:Nat) (s:VS),(∀x,s x=true->x<n)->nP n adj ky k s<=n
 |0,_,_=>aU _
 |k+1,s,l=>by rw[Ck];refine aec fun y j=> ?_;obtain⟨c,m,rfl⟩:=b_.1 j;obtain⟨x,h,f,rfl⟩:=y9 g m;have d:part adj s x x=true:=fD.2 .refl;unfold Dj;refine Nat.max_le.2 ⟨aV ((IQ (List.range n) (n+1)).2.1 x (dL.2 h) d) ?_,i _ ⟨x,h,d⟩⟩;refine abu g i k _ fun z e=>l z (qE g f ?_);unfold VS.less at e;rw[cV] at e;exact e.1
theorem ajR(l:∀d b,adj d b->adj b d)(u:∀c:VS,(∃d,d<n/\c d=true)->ky c+1<=n){k:Nat}{s:VS}(p:∀a,s a=true->a<n)(v:s.count n<=k+1)(m:s a=true):
 ∃d,part adj s a d=true/\nP n adj ky (k+1) ((part adj s d).less (VS.one d))<=nP n adj ky (k+1) s:=by
 have j:=p a m;have o:part adj s a a=true:=fD.2 .refl;have e:∀y,part adj s a y=true->s y=true:=fun y i=>qE l m i;have t:Dj n adj ky k (part adj s a)<=nP n adj ky (k+1) s:=(by rw[Ck];exact T3 (b_.2 ⟨_,EZ l j m,rfl⟩))
 obtain⟨m1,m2,m3⟩:=IQ (f:=fun d=>nP n adj ky k ((part adj s a).less (VS.one d))) (List.range n) (n+1);have g:∀d y,((part adj s a).less (VS.one d)) y=true->y<n:=fun d y i=>p y (e y (by unfold VS.less at i;rw[cV] at i;exact i.1))
 rcases m3 with m3|⟨d,w,h,m3⟩
 ·have B:=m2 a (dL.2 j) o;have A:=abu (ky:=ky) l u k ((part adj s a).less (VS.one a)) (g a);omega
 ·refine⟨d,h,?_⟩;rw[C7 l m h];have r:=tO h (p d (e d h));have q:=wY (n:=n) e;rw[MI l (k+1) k _ (g d) Om Om];have z:iB (part adj s a) (fun d=>nP n adj ky k ((part adj s a).less (VS.one d))) (List.range n) (n+1)<=Dj n adj ky k (part adj s a):=Nat.le_max_left _ _;omega
theorem aip(g:∀d b,adj d b->adj b d){k:Nat}{s:VS}(r:s b=true)(l:nP n adj ky (k+1) s<=a)(j:nP n adj ky (k+1) ((part adj s b).less (VS.one b))<=a):
 nP n adj ky (k+1) (s.less (VS.one b))<=a:=by
 rw[Ck] at l j⊢;refine aec fun y p=> ?_;obtain⟨c,q,rfl⟩:=b_.1 p;obtain⟨x,i,f,rfl⟩:=y9 g q;have e:s x=true/\VS.one b x=false:=by unfold VS.less at f;rwa[cV,rG] at f
 rcases aiN g r f with⟨o,h⟩|⟨o,h⟩
 ·rw[h];exact aV (T3 (b_.2 ⟨_,EZ g i e.1,rfl⟩)) l
 ·rw[h];refine aV (T3 (b_.2 ⟨_,EZ g i ?_,rfl⟩)) j;unfold VS.less;rw[o,e.2];rfl
end
def ji(s:VS)(p:Nat->Option Nat)(u:Option Nat):Nat->Nat->Prop
 |0,a=>s a=true/\p a=u
 |k+1,a=>s a=true/\∃b,p a=some b/\ji s p u k b
def ji.mono{s t:VS}{p q:Nat->Option Nat}{u:Option Nat}(h:∀a,s a=true->t a=true/\q a=p a):∀{k a:Nat},ji s p u k a->ji t q u k a
 |0,a,⟨c,d⟩=>⟨(h a c).1,by rw[(h a c).2];exact d⟩
 |_+1,a,⟨c,b,d,e⟩=>⟨(h a c).1,b,by rw[(h a c).2];exact d,ji.mono h e⟩
def ji.trans{s:VS}{p:Nat->Option Nat}{u:Option Nat}{j b:Nat}(f:ji s p u j b):∀{k a:Nat},ji s p (some b) k a->ji s p u (j+k+1) a
 |0,_,⟨e,d⟩=>⟨e,b,d,f⟩
 |_+1,_,⟨e,c,d,g⟩=>⟨e,c,d,ji.trans f g⟩
def ji.Xx{s:VS}{p:Nat->Option Nat}{u:Option Nat}:∀{k a:Nat},ji s p u k a->dF p u a
 |0,a,⟨_,b⟩=>by have h:=dF.step (p:=p) a;rwa[b] at h
 |_+1,_,⟨_,_,b,c⟩=> .up b c.Xx
section
variable(n:Nat)(adj:Nat->Nat->Prop)(perm:List Nat)
def iW(p:Nat->Option Nat)(a:Nat)(u:Option Nat):Nat->Option Nat:=fun x=>if x=a then u else p x
noncomputable def ju:Nat->VS->Option Nat->(Nat->Option Nat)->(Nat->Option Nat)
 |0,_,_,p=>p
 |k+1,rest,u,p=>(parts adj (List.range n) rest).foldl (fun p c=>match perm.find? c with
  |some a=>ju k (VS.less c (VS.one a)) (some a) (iW p a u)
  |none=>p) p
variable{n adj perm}
structure oL(adj:Nat->Nat->Prop)(n:Nat)(c:VS)(u:Option Nat)(q:Nat->Option Nat):Prop where
 ch:∀x,c x=true->∃j,j<c.count n/\ji c q u j x
 way:∀x y,c x=true->c y=true->adj x y->x≠y->(∃j,ji c q (some x) j y)\/∃j,ji c q (some y) j x
theorem oL.keep{c:VS}(h:oL adj n c O y)(i:∀x,c x=true->z x=y x):oL adj n c O z:=
 ⟨fun x e=>by
  obtain⟨j,m,l⟩:=h.ch x e;exact⟨j,m,l.mono fun a d=>⟨d,i a d⟩⟩,fun x b e k d f=>by
  rcases h.way x b e k d f with⟨j,g⟩|⟨j,g⟩
  ·exact .inl ⟨j,g.mono fun a d=>⟨d,i a d⟩⟩
  ·exact .inr ⟨j,g.mono fun a d=>⟨d,i a d⟩⟩⟩
theorem RA(f:∀a b,adj a b->adj b a){rest0:VS}:∀(l:List Nat) (rest:VS),(∀x,rest x=true->rest0 x=true/\part adj rest x=part adj rest0 x)->(parts adj l rest).Pairwise fun c p=>∀x,c x=true->p x=false
 | [],_,_=>List.Pairwise.nil
 |a::l,rest,h=>by
  unfold parts;by_cases m:rest a=true
  ·rw[if_pos m];have k:∀x,(rest.less (part adj rest a)) x=true->rest0 x=true/\part adj (rest.less (part adj rest a)) x=part adj rest0 x:=fun x d=>by unfold VS.less at d;rw[cV,rG] at d;refine⟨(h x d.1).1,?_⟩;rw[ab0 f d.1 d.2];exact(h x d.1).2
   refine iP.2 ⟨fun c o x d=> ?_,RA f l _ k⟩;obtain⟨_,y,q,g,rfl⟩:=(Fg f l (rest.less (part adj rest a)) k).1 c o;have e:=(k y g).2;cases i:part adj rest0 y x with
   |false=>rfl
   |true=>rw[<-e] at i;have j:=qE f g i;unfold VS.less at j;rw[d] at j;simp at j
  ·rw[if_neg m];exact RA f l rest h
theorem aaT{k:Nat}{u:Option Nat}(e:∀c:VS,(∀x,c x=true->x<n)->(∃a,c a=true)->c.count n<=k+1->∀p:Nat->Option Nat,∃a,perm.find? c=some a/\(∀x,c x=false->ju n adj perm k (VS.less c (VS.one a)) (some a) (iW p a u) x=p x)/\oL adj n c u (ju n adj perm k (VS.less c (VS.one a)) (some a) (iW p a u))):
 ∀(L:List VS),(∀c∈L,(∀x,c x=true->x<n)/\(∃a,c a=true)/\c.count n<=k+1)->L.Pairwise (fun c f=>∀x,c x=true->f x=false)->∀p:Nat->Option Nat,
  (∀x,(∀c∈L,c x=false)->(L.foldl (fun p c=>match perm.find? c with
    |some a=>ju n adj perm k (VS.less c (VS.one a)) (some a) (iW p a u)
    |none=>p) p) x=p x)/\∀c∈L,oL adj n c u (L.foldl (fun p c=>match perm.find? c with
    |some a=>ju n adj perm k (VS.less c (VS.one a)) (some a) (iW p a u)
    |none=>p) p)
 | [],_,_,p=>⟨fun _ _=>rfl,fun c t=>by cases t⟩
 |c::L,o,r,p=>by
  obtain⟨l,j⟩:=iP.1 r;obtain⟨z,y,w⟩:=o c Ou;obtain⟨a,v,g,i⟩:=e c z y w p;rw[y5,v];simp only;obtain⟨m,q⟩:=aaT e L (fun f b=>o f axK) j (ju n adj perm k (VS.less c (VS.one a)) (some a) (iW p a u));refine⟨fun x h=> ?_,fun f b=> ?_⟩
  ·rw[m x fun f b=>h f axK];exact g x (h c Ou)
  ·rcases aK.1 b with rfl|b
   ·exact i.keep fun x h=>m x fun d s=>l d s x h
   ·exact q f b
theorem MW(G:∀a b,adj a b->adj b a)(s:∀a,a<n->a∈perm):∀(k:Nat) (rest:VS) (u:Option Nat) (p:Nat->Option Nat),(∀x,rest x=true->x<n)->rest.count n<=k->
 (∀x,rest x=false->ju n adj perm k rest u p x=p x)/\oL adj n rest u (ju n adj perm k rest u p)
 |0,rest,u,p,M,V=>by
  have L:∀x,rest x=false:=fun x=>by
   cases d:rest x with
   |false=>rfl
   |true=>have Z:0<rest.count n:=List.countP_pos_iff.2 ⟨x,dL.2 (M x d),d⟩;omega
  refine⟨fun _ _=>rfl,⟨fun x d=> ?_,fun x y d=> ?_⟩⟩
  ·rw[L x] at d;cases d
  ·rw[L x] at d;cases d
 |k+1,rest,u,p,M,V=>by
  have K:∀c:VS,(∀x,c x=true->x<n)->(∃a,c a=true)->c.count n<=k+1->∀p:Nat->Option Nat,∃a,perm.find? c=some a/\(∀x,c x=false->ju n adj perm k (VS.less c (VS.one a)) (some a) (iW p a u) x=p x)/\oL adj n c u (ju n adj perm k (VS.less c (VS.one a)) (some a) (iW p a u)):=by
   intro c E Q X p;obtain⟨a,T⟩:∃a,perm.find? c=some a:=by
    obtain⟨x,d⟩:=Q;cases W:perm.find? c with
    |some a=>exact⟨a,rfl⟩
    |none=>exact absurd d (wR.1 W x (s x (E x d)))
   have A:c a=true:=wT T;have U:=tO (n:=n) A (E a A);have r:∀x,(VS.less c (VS.one a)) x=true->c x=true:=fun x d=>by unfold VS.less at d;rw[cV] at d;exact d.1
   obtain⟨S,N⟩:=MW G s k (VS.less c (VS.one a)) (some a) (iW p a u) (fun x d=>E x (r x d)) Om;have F:(VS.less c (VS.one a)) a=false:=aym;have J:ju n adj perm k (VS.less c (VS.one a)) (some a) (iW p a u) a=u:=(by rw[S a F];unfold iW;rw[if_pos rfl])
   refine⟨a,T,?_⟩;generalize ju n adj perm k (VS.less c (VS.one a)) (some a) (iW p a u)=q at*;have w:∀x,c x=true->x≠a->(VS.less c (VS.one a)) x=true:=fun x d t=>by unfold VS.less VS.one;have:(x==a)=false:=axM;rw[d,this];rfl
   have o:∀{v:Option Nat} {j x:Nat},ji (VS.less c (VS.one a)) q v j x->ji c q v j x:=fun h=>h.mono fun y D=>⟨r y D,rfl⟩;refine⟨fun x d=> ?_,⟨fun x d=> ?_,fun x y d D C t=> ?_⟩⟩
   ·have f:x≠a:=fun e=>by rw[e,A] at d;cases d
    have:(VS.less c (VS.one a)) x=false:=axM;rw[S x this];unfold iW;rw[if_neg f]
   ·by_cases f:x=a
    ·subst f;exact⟨0,by omega,A,J⟩
    ·obtain⟨j,B,l⟩:=N.ch x (w x d f);have Y:ji c q u 0 a:=⟨A,J⟩;exact⟨0+j+1,by omega,Y.trans (o l)⟩
   ·by_cases f:x=a
    ·subst f;obtain⟨j,_,l⟩:=N.ch y (w y D (fun e=>t e.symm));exact .inl ⟨j,o l⟩
    ·by_cases H:y=a
     ·subst H;obtain⟨j,_,l⟩:=N.ch x (w x d f);exact .inr ⟨j,o l⟩
     ·rcases N.way x y (w x d f) (w y D H) C t with⟨j,B⟩|⟨j,B⟩
      ·exact .inl ⟨j,o B⟩
      ·exact .inr ⟨j,o B⟩
  have m:∀c∈parts adj (List.range n) rest,∃a,a<n/\rest a=true/\c=part adj rest a:=fun c g=>y9 G g;have i:∀c∈parts adj (List.range n) rest,∀x,c x=true->rest x=true:=fun c g x d=>by obtain⟨a,_,I,rfl⟩:=m c g;exact qE G I d
  obtain⟨f1,f2⟩:=aaT (u:=u) K (parts adj (List.range n) rest) (fun c g=>by obtain⟨a,_,I,e⟩:=m c g;refine⟨fun x d=>M x (i c g x d),⟨a,by rw[e];exact fD.2 .refl⟩,?_⟩;have:=wY (n:=n) (i c g);omega) (RA G (List.range n) rest (rest0:=rest) fun _ d=>⟨d,rfl⟩) p;refine⟨fun x d=>f1 x fun c g=> ?_,⟨fun x d=> ?_,fun x y d D C t=> ?_⟩⟩
  ·cases R:c x with
   |false=>rfl
   |true=>rw[i c g x R] at d;cases d
  ·have g:=EZ (adj:=adj) G (M x d) d;obtain⟨j,B,l⟩:=(f2 _ g).ch x (fD.2 .refl);exact⟨j,cy B (wY (i _ g)),l.mono fun y D=>⟨i _ g y D,rfl⟩⟩
  ·have g:=EZ (adj:=adj) G (M x d) d;have P:part adj rest x y=true:=fD.2 (.step .refl C D);rcases(f2 _ g).way x y (fD.2 .refl) P C t with⟨j,B⟩|⟨j,B⟩
   ·exact .inl ⟨j,B.mono fun z O=>⟨i _ g z O,rfl⟩⟩
   ·exact .inr ⟨j,B.mono fun z O=>⟨i _ g z O,rfl⟩⟩
end
def ji.uniq{s t:VS}{q:Nat->Option Nat}:∀{k j a:Nat},ji s q none k a->ji t q none j a->k=j
 |0,0,_,_,_=>rfl
 |0,_+1,_,⟨_,h⟩,⟨_,_,c,_⟩=>by rw[h] at c;cases c
 |_+1,0,_,⟨_,_,h,_⟩,⟨_,c⟩=>by rw[h] at c;cases c
 |k+1,j+1,_,⟨_,b,g,f⟩,⟨_,i,d,e⟩=>by rw[g] at d;injection d with d;subst d;rw[ji.uniq f e]
def iX(n:Nat):VS:=fun x=>decide (x<n)
def Fi(n:Nat):(iX n).count n=n:=by
 unfold VS.count iX;have h:(List.range n).countP (fun x=>decide (x<n))=(List.range n).length:=List.countP_eq_length.2 fun a b=>by simpa using b
 rw[h,i7]
def oL.UQ{p:Nat->Nat->Prop}(h:oL p a (iX a) none y):∃d,dr a y d:=by
 have l:∀x,x<a->∃j,j<a/\ji (iX a) y none j x:=fun x e=>by obtain⟨j,g,f⟩:=h.ch x (decide_eq_true e);rw[Fi] at g;exact⟨j,g,f⟩
 refine⟨fun x=>if e:x<a then Classical.choose (l x e) else 0,?_⟩;have o:∀x (e:x<a),(if e:x<a then Classical.choose (l x e) else 0)<a/\ji (iX a) y none (if e:x<a then Classical.choose (l x e) else 0) x:=fun x e=>by rw[dif_pos e];exact Classical.choose_spec (l x e)
 refine⟨fun c i=>(o c i).1,fun c i t=> ?_,fun c b i r=> ?_⟩
 ·have g:=(o c i).2;have f:ji (iX a) y none 0 c:=⟨decide_eq_true i,t⟩;exact g.uniq f
 ·have g:=(o c i).2;generalize(if e:c<a then Classical.choose (l c e) else 0)=k at g⊢;cases k with
  |zero=>obtain⟨_,f⟩:=g;rw[r] at f;cases f
  |succ k=>
   obtain⟨_,v,f,s⟩:=g;rw[r] at f;injection f with f;subst f;have m:b<a:=by
    have u:(iX a) b=true:=by cases k<;>exact s.1
    exact of_decide_eq_true u
   exact⟨m,by rw[s.uniq (o b m).2]⟩
def zR(a:Nat->List Nat)(b:List Nat)(x y:Nat):Prop:=∃h∈b,x∈a h/\y∈a h
def am_(c:Nat->List Nat)(d:List Nat):∀a b,zR c d a b->zR c d b a:=fun _ _ ⟨h,g,f,e⟩=>⟨h,g,e,f⟩
def eZ(d:Nat->Nat):List Nat->Nat->Nat
 | [],m=>m
 |a::l,m=>eZ d l (if d a>d m then a else m)
def MD(d:Nat->Nat):∀(l:List Nat) (m:Nat),(eZ d l m=m\/eZ d l m∈l)/\d m<=d (eZ d l m)/\∀a∈l,d a<=d (eZ d l m)
 | [],m=>⟨.inl rfl,aL _,fun a c=>by cases c⟩
 |x::l,m=>by
  have e:eZ d (x::l) m=eZ d l (if d x>d m then x else m):=rfl;rw[e];obtain⟨b,g,f⟩:=MD d l (if d x>d m then x else m);by_cases h:d x>d m
  ·rw[if_pos h] at b g f⊢;refine⟨.inr ?_,by omega,fun a c=> ?_⟩
   ·rcases b with b|b
    ·rw[b];simp
    ·simp [b]
   ·rcases aK.1 c with rfl|c
    ·exact g
    ·exact f a c
  ·rw[if_neg h] at b g f⊢;refine⟨?_,g,fun a c=> ?_⟩
   ·rcases b with b|b
    ·exact .inl b
    ·exact .inr axK
   ·rcases aK.1 c with rfl|c
    ·omega
    ·exact f a c
def oL.arq(h:oL (zR A i) a (iX a) none y)(r:dr a y J)(p:∀t∈i,A t≠ [])(c:∀t∈i,∀b∈A t,b<a):
 afq a y A i (fun t=>eZ J (A t) ((A t).headD 0)):=by
 have e:∀t∈i,eZ J (A t) ((A t).headD 0)∈A t:=fun t f=>by
  rcases u:A t with _|⟨x,l⟩
  ·exact absurd u (p t f)
  ·rcases(MD J (x::l) x).1 with o|o
   ·show eZ J (x::l) x∈_
    rw[o];simp
   ·exact o
 refine⟨e,c,fun t f b k=> ?_⟩;have w:=(MD J (A t) ((A t).headD 0)).2.2 b k;have v:=e t f;generalize eZ J (A t) ((A t).headD 0)=m at*;by_cases g:b=m
 ·exact .inl g
 ·right;rcases h.way b m (decide_eq_true (c t f b k)) (decide_eq_true (c t f m v)) ⟨t,f,k,v⟩ g with⟨j,s⟩|⟨j,s⟩
  ·exact s.Xx
  ·have o:=s.Xx.l8 r m rfl (c t f b k);omega
def dY(a b:Nat):Nat:=a^^^(a&&&b)
def Fz(a b i:Nat):(dY a b).testBit i=(a.testBit i&& !b.testBit i):=by unfold dY;rw[Nat.testBit_xor,ZX];cases a.testBit i<;>cases b.testBit i<;>rfl
def N1{a:Nat}(c:a<4096):a&&&b<4096:=by rw[y_];exact rA (n:=12) _ c
def Ud{a:Nat}(c:a<4096):dY a b<4096:=yZ (n:=12) c (N1 c)
def F9{a:Nat}(d:a<4096)(c:b<4096):bits .or .u64 (a:Int) (b:Int)=((a|||b:Nat):Int):=bits_or_u64_nat a b Om Om
def Uu{a:Nat}(d:a<4096)(c:b<4096):bits .and .u64 (a:Int) (b:Int)=((a&&&b:Nat):Int):=bits_and_u64_nat a b Om Om
def aif(a b:Nat)(k:a<18446744073709551616)(j:b<18446744073709551616):bits .andNot .u64 (a:Int) (b:Int)=((dY a b:Nat):Int):=by
 have h:dY a b<2^64:=yZ Om (rA _ Om);have f:(BitVec.ofInt 64 (a:Int)).toNat=a:=(by rw[BitVec.ofInt_natCast,BitVec.toNat_ofNat];exact uW Om)
 have e:(BitVec.ofInt 64 (b:Int)).toNat=b:=(by rw[BitVec.ofInt_natCast,BitVec.toNat_ofNat];exact uW Om);have d:(BitVec.ofInt 64 (a:Int)&&&~~~BitVec.ofInt 64 (b:Int)).toNat=dY a b:=by
  apply QW
  intro i;rw[Fz,Zv,BitVec.getLsbD_and,BitVec.getLsbD_not,<-Zv,<-Zv,f,e];by_cases c:i<64
  ·simp [c]
  ·have:a.testBit i=false:=Zp (cy (show a<2^64 by omega) (fK Om Om));simp [this]
 show IntKind.u64.wrap ((BitVec.ofInt 64 (a:Int)&&&~~~BitVec.ofInt 64 (b:Int)).toNat:Int)=_
 rw[d,kD];omega
def zE{a:Nat}(d:a<4096)(c:b<4096):bits .andNot .u64 (a:Int) (b:Int)=((dY a b:Nat):Int):=aif a b Om Om
def aq2{a:Nat}(b:a<32):IntKind.u64.wrap ((2:Int)^a)=((2^a:Nat):Int):=by have h:2^a<4294967296:=Ih (a:=2) (m:=a) (n:=32) Om b;rw[kD];have:((2:Int)^a)=((2^a:Nat):Int):=Ou;rw[this];generalize(2:Nat)^a=p at*;omega
def Ut(m a:Nat):(m:Int)/ (2:Int)^a=((m/2^a:Nat):Int):=Ou
def Df{a:Nat}(b:a<12):2^a<4096:=Ih (a:=2) Om b
def aq3{a:Nat}(c:b<4096):(bits .and .u64 ((b/2^a:Nat):Int) 1==1)=b.testBit a:=by have h:=Ce b (2^a);rw[show(1:Int)=((1:Nat):Int) from rfl,bits_and_u64_nat _ 1 Om Om,Nat.testBit,Nat.shiftRight_eq_div_pow,y_ 1 (b/2^a)];have d:=rA (b/2^a) (y:=1) (n:=1) Om;generalize b/2^a&&&1=q at*;rcases(show q=0\/q=1 by omega) with rfl|rfl<;>rfl
def qH(a:Nat):(2^a).testBit=VS.one a:=by
 funext b
 rw[Nat.testBit_two_pow,VS.one];by_cases h:a=b
 ·simp [h]
 ·simp [h,gU h]
def zu(a b:Nat):(dY a b).testBit=VS.less a.testBit b.testBit:=by
 funext i
 rw[Fz,VS.less]
def rW{n:Nat}(e:b<2^n)(h:b.testBit c=true):c<n:=by
 rcases cA c n with d|d
 ·exact d
 ·rw[Zp (cy e (fK Om d))] at h;cases h
def cnt(m:Nat):Nat:=VS.count 12 m.testBit
def arN:Bool:=(List.range 4096).all fun m=>m==0||(cnt (m&&&(m - 1))+1==cnt m&&m&&&(m - 1)<4096)
def aqW:arN=true:=Ok
def aoX(c:b<4096)(d:b≠0):cnt (b&&&(b - 1))+1=cnt b/\b&&&(b - 1)<4096:=by have h:=rH.1 aqW b (dL.2 c);simpa [d] using h
def fF(g:List Nat)(x y:Nat):Prop:=(g.getD x 0).testBit y=true
structure k7(g:List Nat):Prop where
 le:g.length<=12
 lt:∀x,g.getD x 0<2^g.length
 symm:∀x y,fF g x y->fF g y x
 jD:∀x,¬fF g x x
def k7.jC{g:List Nat}(h:k7 g)(c:b<2^g.length):b<4096:=cy c (fK (j:=12) Om h.le)
def gG(g:List Nat)(s:Nat):Nat->Nat
 |0=>0
 |i+1=>if s.testBit i=true then gG g s i|||g.getD i 0 else gG g s i
def Fs{g:List Nat}(b:k7 g)(s:Nat):∀i,gG g s i<2^g.length
 |0=>y4 _
 |i+1=>by
  unfold gG;split
  ·exact Im (Fs b s i) (b.lt i)
  ·exact Fs b s i
def SC{g:List Nat}{s y:Nat}:∀{i:Nat},(gG g s i).testBit y=true↔∃b,b<i/\s.testBit b=true/\fF g b y
 |0=>by simp [gG]
 |i+1=>by
  have j:=SC (g:=g) (s:=s) (y:=y) (i:=i);unfold gG;by_cases h:s.testBit i=true
  ·rw[if_pos h,Iw,kF,j];constructor
   ·rintro(⟨b,e,c⟩|e)
    ·exact⟨b,by omega,c⟩
    ·exact⟨i,by omega,h,e⟩
   ·rintro⟨b,e,c,f⟩;rcases cA b i with d|d
    ·exact .inl ⟨b,d,c,f⟩
    ·obtain rfl:b=i:=Om;exact .inr f
  ·rw[if_neg h,j];constructor
   ·rintro⟨b,e,c⟩;exact⟨b,by omega,c⟩
   ·rintro⟨b,e,c,f⟩;refine⟨b,?_,c,f⟩;rcases cA b i with d|d
    ·exact d
    ·obtain rfl:b=i:=Om;exact absurd c h
structure ua(g:List Nat)(rest a ae next:Nat):Prop where
 lo:ae<2^g.length
 ln:next<2^g.length
 sub:∀x,next.testBit x=true->ae.testBit x=true
 reach:∀x,ae.testBit x=true->Reach (fF g) rest.testBit a x
 self:ae.testBit a=true
 cl:∀x y,ae.testBit x=true->next.testBit x=false->fF g x y->rest.testBit y=true->ae.testBit y=true
section
variable{g:List Nat}{rest a ae next:Nat}
theorem M9{a:Nat}(c:a<b):2^a<2^b:=Ih Om c
theorem ua.start(c:a<g.length):ua g rest a (2^a) (2^a):=by
 have h:∀x,(2^a).testBit x=true->x=a:=fun x b=>by rw[qH] at b;simpa [VS.one] using b
 have e:(2^a).testBit a=true:=by rw[qH];simp [VS.one]
 refine⟨M9 c,M9 c,fun _ h=>h,fun x b=> ?_,e,fun x y d f=> ?_⟩
 ·rw[h x b];exact .refl
 ·rw[f] at d;cases d
theorem ua.round(F:k7 g)(C:rest<2^g.length)(h:ua g rest a ae next)(_h0:next≠0):
 ua g rest a (ae|||dY (gG g next g.length&&&rest) ae) (dY (gG g next g.length&&&rest) ae)/\
 2*(12 - cnt (ae|||dY (gG g next g.length&&&rest) ae))+(if dY (gG g next g.length&&&rest) ae=0 then 0 else 1)<2*(12 - cnt ae)+1:=by
 have z:dY (gG g next g.length&&&rest) ae<2^g.length:=yZ (rA _ C) (by rw[y_];exact rA _ (rA _ C));have A:∀y,(dY (gG g next g.length&&&rest) ae).testBit y=true↔(∃b,next.testBit b=true/\fF g b y)/\rest.testBit y=true/\ae.testBit y=false:=fun y=>by
  rw[Fz,ZX,cV,cV,SC,rG,and_assoc];constructor
  ·rintro⟨⟨b,_,d⟩,k⟩;exact⟨⟨b,d⟩,k⟩
  ·rintro⟨⟨b,f,d⟩,k⟩;exact⟨⟨b,rW h.ln f,f,d⟩,k⟩
 generalize dY (gG g next g.length&&&rest) ae=j at*;have m:∀y,(ae|||j).testBit y=true↔ae.testBit y=true\/j.testBit y=true:=fun y=>by rw[Iw,kF]
 refine⟨⟨Im h.lo z,z,fun x o=>(m x).2 (.inr o),fun x o=> ?_,(m a).2 (.inl h.self),fun x y f d k t=> ?_⟩,?_⟩
 ·rcases(m x).1 o with f|f
  ·exact h.reach x f
  ·obtain⟨⟨b,d,k⟩,t,_⟩:=(A x).1 f;exact .step (h.reach b (h.sub b d)) k t
 ·rcases(m x).1 f with B|B
  ·by_cases E:next.testBit x=true
   ·cases D:ae.testBit y with
    |true=>exact(m y).2 (.inl D)
    |false=>exact(m y).2 (.inr ((A y).2 ⟨⟨x,E,k⟩,t,D⟩))
   ·exact(m y).2 (.inl (h.cl x y B (by simpa using E) k t))
  ·rw[B] at d;cases d
 ·by_cases r:j=0
  ·rw[if_pos r,r,Nat.or_zero];omega
  ·rw[if_neg r];obtain⟨y,v⟩:∃y,j.testBit y=true:=by
    rcases Classical.em (∃y,j.testBit y=true) with f|f
    ·exact f
    ·exact absurd (QW fun i=>by rw[ES];simpa using fun d=>f ⟨i,d⟩) r
   have u:=((A y).1 v).2.2;have q:y<12:=cy (rW z v) F.le;have f:cnt ae<cnt (ae|||j):=by
    have d:=tO (n:=12) (c:=(ae|||j).testBit) (a:=y) ((m y).2 (.inr v)) q;have k:=wY (n:=12) (c:=ae.testBit) (s:=VS.less (ae|||j).testBit (VS.one y)) fun x o=>by
     have w:x≠y:=fun e=>by rw[e,u] at o;cases o
     rw[VS.less,(m x).2 (.inl o)];simp [VS.one,w]
    exact Bv k d
   have d:cnt (ae|||j)<=12:=(by have:=Mj (p:=(ae|||j).testBit) (l:=List.range 12);rwa[i7] at this);omega
theorem ua.done(h:ua g rest a ae 0):ae.testBit=part (fF g) rest.testBit a:=by
 funext x
 rw[lW,fD];refine⟨h.reach x,fun c=> ?_⟩;induction c with
 |refl=>exact h.self
 |step _ k d b=>exact h.cl _ _ b (ES _) k d
end
abbrev mh:TypeId:=243
def wm(_:au)(c:List Value)(m:Nat):Prop:=c= [.int .u64 (m:Int)]
def wm.iH:jR [] wm:=fun _ _ _ _ _ h=>h
def qF:=@wm.iH
def wm.one(w:au)(c:List Value)(m:Nat)(h:wm w c m):c.length=1:=aya
abbrev fO:=Ls mh wm
def fO.ext{w':au}(h:fO m p i)(a:Ext m w'):fO w' p i:=bU qF h a
def fO.get{n:Nat}(h:fO m (.slice E n a) j){i:Nat}(b:i<j):∃g o,E=dV g o/\g<m.heap.size/\aA m g (o+i) (.int .u64 ((j.getD i 0:Nat):Int)):=by obtain⟨g,o,d,q,p,k,f⟩:=rY wm.one Od h b;have e:=f 0 _ (by rw[show d=_ from k];rfl);rw[lF,kH] at e;rw[eG,aX b,Option.getD_some];exact⟨g,o,q,p,e⟩
def xD(a:Nat)(w:au)(c:a<32):
 Calls prog 169 #[av a] w fun e b=>e= .returned (.int .u64 ((2^a:Nat):Int))/\b=w:=by
 go_enter func169,ntmps169;go_wp2;go_ret;exact⟨by rw[<-aq2 c];rfl,rfl⟩
def Cv(m a:Nat)(w:au)(c:m<4096)(d:a<32):
 Calls prog 167 #[.int .u64 m,av a] w fun e b=>e= .returned (.bool (m.testBit a))/\b=w:=by
 go_enter func167,ntmps167;go_wp2;go_ret;exact⟨by rw[<-aq3 c,<-Ut];rfl,rfl⟩
def aeC{m:Nat}(a:m<4294967296)(h:m≠0):IntKind.u64.wrap ((m:Int) - 1)=((m - 1:Nat):Int):=by rw[kD];omega
def ab3(m:Nat)(w:au)(t:m<4096):
 Calls prog 324 #[.int .u64 m] w fun e q=>e= .returned (av (cnt m:Nat))/\q=w:=by
 have A:ah (cnt m=0+cnt m):=(jL _).symm;have y:ah (∀x:Nat,cnt x<=12):=fun x=>by have:=Mj (p:=x.testBit) (l:=List.range 12);rwa[i7] at this
 generalize u:cnt m=k at*;have n:=af u;go_enter func324,ntmps324;go_wp2_with fail
 go_loopw [0,3] (fun b r wr=>∃x i:Nat,b= .int .u64 x/\r=av i/\ah (x<4096)/\ah (k=i+cnt x)/\wr=w) (fun b _ _=>cnt (RowKit.intOf b).toNat)
 exact⟨m,0,rfl,rfl,t,by rw[ah,n.ae];omega,rfl⟩;obtain⟨x,i,rfl,rfl,a,g,rfl⟩:=hrel;by_cases d:x=0
 ·subst d;have v:ah (k=i):=by have h:=g.ae;have c:cnt 0=0:=Od;rw[c] at h;exact h
  go_wp2;go_ret;exact⟨by rw[v.ae];rfl,rfl⟩
 ·have s:((x:Int) !=0)=true:=Oc;have f:=af (aoX a d);have j:=af (aeC (Ru a Om) d);have o:=af (Uu a (show x - 1<4096 by have:=a.ae;unfold ah at*;omega));have z:i<=12:=by have h:=g.ae;have c:=y m;rw[n.ae] at c;omega
  go_wp2;go_roundw;exact⟨x&&&(x - 1),i+1,by rw[j.ae,o.ae],by go_num,f.2,by have h:=g.ae;have:=f.1;rw[ah];omega,trivial⟩;rw[j.ae,o.ae];show cnt (((x&&&(x - 1):Nat):Int)).toNat<cnt ((x:Int)).toNat
  rw[kX,kX];have:=f.1;omega
def adb(A:aQ)(n c:Nat)(g:List Nat)(w:au)(h:fO w (.slice A n c) g)(p:g.length<=12):
 Calls prog 165 #[.slice A n c] w fun e f=>e= .returned (.int .u64 ((2^g.length - 1:Nat):Int))/\f=w:=by
 obtain⟨j,i,k⟩:=bl h;subst j;have d:=af (xD g w Om);have b:=af (aeC (Ih (a:=2) (m:=g) (n:=32) Om Om) ayP);generalize 2^g.length=o at d b⊢;go_enter func165,ntmps165;go_wp2_with fail
 refine d.mono ?_;rintro e l ⟨rfl,rfl⟩;go_wp2;go_ret;exact⟨by rw[<-b.ae];rfl,rfl⟩
def ab4(A:aQ)(n c:Nat)(g:List Nat)(rest a:Nat)(w:au)(h:fO w (.slice A n c) g)(x:k7 g)(L:rest<2^g.length)(G:a<g.length):
 Calls prog 168 #[.slice A n c,.int .u64 rest,av a] w fun e J=>∃m:Nat,e= .returned (.int .u64 m)/\m.testBit=part (fF g) rest.testBit a/\m<2^g.length/\J=w:=by
 obtain⟨O,N,Q⟩:=bl h;subst O;have d:=af x;have H:=af L;have X:=af G;have S:=af (xD a w (by have:=x.le;omega));have B:=af (ua.start (rest:=rest) G);have P:=x.le;go_enter func168,ntmps168;go_wp2_with fail
 refine S.mono ?_;rintro e C ⟨rfl,rfl⟩;generalize 2^a=D at*;go_upto_region 3 with fail
 go_loopw [7,8,9,10,11] (fun u t _ _ _ wr=>∃ae next:Nat,u= .int .u64 ae/\t= .int .u64 next/\ah (ua g rest a ae next)/\wr=C) (fun u t _ _ _ _=>2*(12 - cnt (RowKit.intOf u).toNat)+if (RowKit.intOf t).toNat=0 then 0 else 1)
 exact⟨D,D,rfl,rfl,B,rfl⟩;obtain⟨ae,next,rfl,rfl,s,rfl⟩:=hrel;by_cases y:next=0
 ·subst y;go_wp2;go_ret;exact⟨ae,rfl,(ua.done s),s.lo,rfl⟩
 ·have M:((next:Int) !=0)=true:=Oc;have q:=af (ua.round d H s y);have z:=af (d.jC s.ln);have r:=af (d.jC s.lo);go_upto_region 6 with fail
  go_loopw [9,10,11,19] (fun K _ _ j I=>∃i:Nat,i<=g/\j=av i/\K= .int .u64 (gG g next i:Nat)/\I=wr) (fun _ _ _ j _=>g - (RowKit.intOf j).toNat)
  exact⟨0,aU _,rfl,rfl,rfl⟩;obtain⟨i,U,rfl,rfl,rfl⟩:=hrel;by_cases v:i<g
  ·obtain⟨W,o,rfl,_,V⟩:=fO.get h v;have f:ah (gG g next (i+1)=if next.testBit i=true then gG g next i|||g.getD i 0 else gG g next i):=rfl;have lB:=af (d.jC (Fs d next i));have Ey:=af (d.jC (d.lt i));generalize g.getD i 0=R at*;generalize gG g next i=E at*
   go_wp2_with fail
   refine(Cv next i wr z Om).mono ?_;rintro e C ⟨rfl,rfl⟩;cases F:next.testBit i with
   |true=>rw[F] at f;have uJ:ah (gG g next (i+1)=E|||R):=f.ae;exact af0
   |false=>rw[F] at f;have uJ:ah (gG g next (i+1)=E):=f.ae;exact afO
  ·obtain rfl:i=g.length:=Om;have lB:=af (d.jC (Fs d next g));generalize gG g next g.length=T at*
   have l:=af (Uu lB (d.jC H));have k:=af (zE (N1 (b:=rest) lB) r);have p:=af (F9 r (Ud (b:=ae) (N1 (b:=rest) lB)));have d1:decide (g<g)=false:=Ou;go_wp2;go_roundw;exact⟨_,_,by rw[l.ae,k.ae,p.ae],by rw[l.ae,k.ae],q.1,trivial⟩;rw[l.ae,k.ae,p.ae];simp only[RowKit.intOf,kX,y,if_false];exact q.2
def alD:j7 prog 236 mh 1 8:= .mk' (z:= .int .u64 0) Ok Ok rfl Od Od
def akb{adj:Nat->Nat->Prop}(c:b<a)(rest:VS):parts adj ((List.range a).drop b) rest=if rest b=true then part adj rest b::parts adj ((List.range a).drop (b+1)) (rest.less (part adj rest b)) else parts adj ((List.range a).drop (b+1)) rest:=by rw[jK axv,Q1];rfl
structure Ur(g:List Nat)(rest:Nat)(i:Nat)(ms:List Nat)(r:Nat):Prop where
 lt:r<2^g.length
 eq:ms.map Nat.testBit++parts (fF g) ((List.range g.length).drop i) r.testBit=parts (fF g) (List.range g.length) rest.testBit
 ml:∀m∈ms,m<2^g.length
 sz:ms.length<=i
def aaW(A:aQ)(n c:Nat)(g:List Nat)(rest:Nat)(w:au)(h:fO w (.slice A n c) g)(I:k7 g)(O:rest<2^g.length):
 Calls prog 225 #[.slice A n c,.int .u64 rest] w fun e H=>∃(v:Value) (a:List Nat),e= .returned v/\fO H v a/\a.map Nat.testBit=parts (fF g) (List.range g.length) rest.testBit/\(∀m∈a,m<2^g.length)/\Ext w H:=by
 obtain⟨Q,P,U⟩:=bl h;subst Q;have G:=af I;have T:=I.le;go_enter func225,ntmps225;go_upto_region 3 with fail
 go_loopw [1,5,6,7,10] (fun M L _ _ f wr=>∃(r i:Nat) (a:List Nat),M= .int .u64 r/\f=av i/\i<=g/\ah (Ur g rest i a r)/\ah (bG mh 1 wm w.heap.size wr L a)/\ah (Ext w wr)) (fun _ _ _ _ f _=>g - (RowKit.intOf f).toNat)
 exact⟨rest,0,[],rfl,rfl,aU _,(⟨O,rfl,(fun _ h=>nomatch h),aL _⟩),ii,aB _⟩;obtain⟨r,i,a,rfl,rfl,hi,b,D,y⟩:=hrel;by_cases q:i<g
 ·have F:=af (h.ext y);have z:=af (G.jC b.lt);have X:=af (ab4 A _ c g r i wr F G b.lt q);have B:=af (akb (adj:=fF g) q r.testBit);have S:=b.sz;go_wp2_with fail
  refine(Cv r i wr z Om).mono ?_;rintro e w1 ⟨rfl,rfl⟩;cases J:r.testBit i with
  |true=>
   rw[J,if_pos rfl] at B;go_wp2_with fail;refine X.mono ?_;rintro e w2 ⟨m,rfl,p,o,rfl⟩;have E:=af (G.jC o);have j:ah (Ur g rest (i+1) (a++ [m]) (dY r m)):=⟨yZ b.lt (by rw[y_];exact rA _ b.lt),by
    rw[kE,jk,zu,p,<-b.eq,B.ae];simp [p],fun x l=>by
    rcases bO.1 l with l|l
    ·exact b.ml x l
    ·rw[bE.1 l];exact o,by simp;omega⟩
   obtain⟨Y,V,K,rfl,_,t,d,k⟩:=D.parts;go_wp2_with (at_builtin;refine gf rfl _ _ 236 rfl w.heap.size alD _ _ _ rfl d.ae #[.int .u64 (m:Int)] 1 1 rfl rfl rfl Om y.size ?_);intro v' Z C s _;go_wp2;go_roundw;exact⟨dY r m,i+1,a++ [m],by rw[(zE z E)],by go_num,by omega,j,(af (iF (R:=wm) (x:=m) qF Oe d k rfl C s)),(af (kI y d s (aL _)))⟩;simp [RowKit.intOf];omega
  |false=>rw[J] at B;have j:ah (Ur g rest (i+1) a r):=⟨b.lt,by rw[<-b.eq,B.ae];simp,b.ml,by omega⟩;go_wp2;go_roundw;exact⟨r,i+1,a,rfl,by go_num,by omega,j,D,y⟩;simp [RowKit.intOf];omega
 ·obtain rfl:i=g.length:=Om;obtain⟨Y,V,K,rfl,_,t,d,k⟩:=D.parts;have W:ah (a.map Nat.testBit=parts (fF g) (List.range g) rest.testBit):=(by have h:=b.eq;rw[rz Ou] at h;simp only[parts,j5] at h;exact h)
  have d1:decide (g<g)=false:=Ou;go_wp2;go_ret;exact⟨_,a,rfl,(bG.of d k).ls,W,b.ml,y⟩
noncomputable def p_(g:List Nat)(s:VS):Nat:=VS.count 12 fun y=> @decide (∃b,b<g.length/\s b=true/\fF g b y) (Classical.propDecidable _)&& !s y
def aoq(g:List Nat)(c:Nat):cnt (dY (gG g c g) c)=p_ g c.testBit:=by unfold cnt p_;congr 1;funext y;rw[Fz];congr 1;rw[lW,SC];exact(@decide_eq_true_iff _ (Classical.propDecidable _)).symm
def aeS(o:k7 i)(s:VS)(u:∃a,a<i.length/\s a=true):p_ i s+1<=i.length:=by
 obtain⟨a,q,f⟩:=u;have w:p_ i s<VS.count 12 (iX i.length):=by
  have r:=tO (n:=12) (c:=iX i.length) (a:=a) (decide_eq_true q) (cy q o.le);refine Bv (wY fun y m=> ?_) r;rw[cV,rG,@decide_eq_true_iff _ (Classical.propDecidable _)] at m;obtain⟨⟨b,_,_,j⟩,d⟩:=m;have h:y≠a:=fun e=>by rw[e,f] at d;cases d
  simp [VS.less,VS.one,iX,(rW (o.lt b) j),h]
 have r:VS.count 12 (iX i)<=i.length:=by
  have j:∀k,(List.range k).countP (iX i)<=i.length:=fun k=>by
   induction k with
   |zero=>simp
   |succ k t=>
    rw[EW,List.countP_append,List.countP_singleton];by_cases v:k<i
    ·have d:=Mj (p:=iX i) (l:=List.range k);rw[i7] at d;split<;>omega
    ·rw[if_neg (by simp [iX,v])];exact t
  exact j 12
 omega
def an3(A:aQ)(n c:Nat)(g:List Nat)(s:Nat)(w:au)(h:fO w (.slice A n c) g)(k:k7 g)(u:s<2^g.length):
 Calls prog 272 #[.slice A n c,.int .u64 s] w fun e q=>e= .returned (av (p_ g s.testBit:Nat))/\q=w:=by
 obtain⟨x,v,z⟩:=bl h;subst x;have d:=af k;have y:=k.le;have f:=af (k.jC u);have C:=af (aoq g s);generalize p_ g s.testBit=D at*;go_enter func272,ntmps272;go_upto_region 3 with fail
 go_loopw [5,6,7,10] (fun r _ _ b wr=>∃i:Nat,i<=g/\b=av i/\r= .int .u64 (gG g s i:Nat)/\wr=w) (fun _ _ _ b _=>g - (RowKit.intOf b).toNat)
 exact⟨0,aU _,rfl,rfl,rfl⟩;obtain⟨i,E,rfl,rfl,rfl⟩:=hrel;by_cases j:i<g
 ·obtain⟨G,o,rfl,_,F⟩:=fO.get h j;have a:ah (gG g s (i+1)=if s.testBit i=true then gG g s i|||g.getD i 0 else gG g s i):=rfl;have lB:=af (d.jC (Fs d s i));have Ey:=af (d.jC (d.lt i));generalize g.getD i 0=B at*;generalize gG g s i=l at*;go_wp2_with fail
  refine(Cv s i wr f Om).mono ?_;rintro e p ⟨rfl,rfl⟩;cases m:s.testBit i with
  |true=>rw[m] at a;have uJ:ah (gG g s (i+1)=l|||B):=a.ae;exact af0
  |false=>rw[m] at a;have uJ:ah (gG g s (i+1)=l):=a.ae;exact afO
 ·obtain rfl:i=g.length:=Om;have lB:=af (d.jC (Fs d s g));generalize gG g s g.length=t at*;have d1:decide (g<g)=false:=Ou;go_wp2_with fail
  rw[(zE lB f)];refine(ab3 (dY t s) wr (Ud lB)).mono ?_;rintro e p ⟨rfl,rfl⟩;go_wp2;go_ret;exact⟨by rw[<-C.ae];rfl,rfl⟩
end Go.Proofs.YtehkcnbodcdijaaGreatDoor
