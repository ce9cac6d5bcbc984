/- Texts of the proof, part 7. -/
import Derived.Test.YthfffpcmldipgaaGreatDoorA6
namespace Go.Proofs.YthfffpcmldipgaaGreatDoor
set_option maxHeartbeats 8000000
set_option linter.all false
set_option maxRecDepth 100000
variable{ai:Prop}
open Go.RowKit Go.Lib Go.Maps Go.ChangeShapes Go.WideShapes Go.ChangeAt Go.Proofs.Tryz
variable{a b c d e f g h:Nat}{i j k l:List Nat}{m n o:World}{p q r s:Value}{t u v:List Value}{w x:TypeId}{y z:Nat→Option Nat}{A:Nat→List Nat}{B C:Int}{E F:Option Addr}{H I:Rat}{J:Nat→Nat}{K:Nat→Bool}{L:List Int}{N:Array Bool}{O:Option Nat}{Q:Act}{R S:Bool}{T:List UInt8}
def Fo.By(H:Nat->List Nat):Fo->Prop
 | .nil=>True
 | .cons v a b n=>a=H v/\b.By H/\n.By H
def acY{H:Nat->List Nat}{f:Nat->Fo}(a:∀c,(f c).By H):∀l:List Nat,(eD H f l).By H
 | []=>trivial
 |_::l=>⟨rfl,a _,acY a l⟩
def AA{n:Nat}{p:Nat->Option Nat}{H:Nat->List Nat}:∀(k:Nat) (u:Option Nat),(eF n p H k u).By H
 |0,_=>trivial
 |k+1,_=>acY (fun c=>AA k (some c)) _
def Fo.By.mem{H:Nat->List Nat}:∀{f:Fo},f.By H->∀h,h∈f.homes↔∃v∈f.vars,h∈H v
 | .nil,_,h=>by simp [Fo.homes,Fo.vars]
 | .cons v g b n,⟨e,d,c⟩,h=>by
   simp only[Fo.homes,Fo.vars,bQ,aI,d.mem h,c.mem h,e];constructor
   ·rintro(h|⟨w,a,h⟩|⟨w,a,h⟩)
    ·exact⟨v,.inl rfl,h⟩
    ·exact⟨w,.inr (.inl a),h⟩
    ·exact⟨w,.inr (.inr a),h⟩
   ·rintro⟨w,rfl|a|a,h⟩
    ·exact .inl h
    ·exact .inr (.inl ⟨w,a,h⟩)
    ·exact .inr (.inr ⟨w,a,h⟩)
def Fo.By.nodup{H:Nat->List Nat}(k:∀v,(H v).Nodup)(j:∀v w h,h∈H v->h∈H w->v=w):∀{f:Fo},f.By H->f.vars.Nodup->f.homes.Nodup
 | .nil,_,_=>Ox
 | .cons v s b n,⟨e,m,l⟩,p=>by
   obtain⟨d1,d2⟩:=ja.1 p;obtain⟨d3,d4,d5⟩:=ow.1 d2;refine ow.2 ⟨by rw[e];exact k v,ow.2 ⟨m.nodup k j d3,l.nodup k j d4,fun x d y a c=> ?_⟩,fun x d y a c=> ?_⟩
   ·subst c;obtain⟨w,i,r⟩:=(m.mem x).1 d;obtain⟨z,o,q⟩:=(l.mem x).1 a;exact d5 w i z o (j w z x r q)
   ·subst c;rw[e] at d;rcases bQ.1 a with a|a
    ·obtain⟨w,i,g⟩:=(m.mem x).1 a;exact d1 (bQ.2 (.inl (j v w x d g▸i)))
    ·obtain⟨w,i,g⟩:=(l.mem x).1 a;exact d1 (bQ.2 (.inr (j v w x d g▸i)))
def Uf:=@Fo.By.nodup
section
variable{α β:Type} [DecidableEq β]{R:SR α}
def Func(l:List (List β×Int)):Prop:=∀y∈l,∀z∈l,y.1=z.1->y=z
theorem OL{a:List (List β×Int)}(f:Func a){e:Nat->β}{y:List β×Int}:lL i a e=some y↔y∈a/\y.1=i.map e:=by
 constructor
 ·intro h;exact⟨Du h,beq_iff_eq.1 (z7 (p:=fun y:List β×Int=>y.1==i.map e) h)⟩
 ·rintro⟨d,c⟩;cases b:lL i a e with
  |none=>have:=DF.1 b y d;rw[beq_iff_eq] at this;exact absurd c this
  |some z=>have j:=Du b;have g:=beq_iff_eq.1 (z7 (p:=fun y:List β×Int=>y.1==i.map e) b);rw[f y d z j (c.trans g.symm)]
theorem Ha{a:List (List β×Int)}{e:Nat->β}:lL i a e=none↔∀y∈a,y.1≠i.map e:=by unfold lL;rw[DF];exact⟨fun h y b e=>h y b (beq_iff_eq.2 e),fun h y b e=>h y b (beq_iff_eq.1 e)⟩
theorem aqw{l j g:List (List β×Int)}{m:Int->α}(f:Func l)(b:∀y,y∈l↔y∈j\/y∈g)(o:∀y∈j,y∉g)(e:Nat->β):
 dS R (fun _=>i) (fun _=>l) m 0 e=R.add (dS R (fun _=>i) (fun _=>j) m 0 e) (dS R (fun _=>i) (fun _=>g) m 0 e):=by
 have s:Func j:=fun y c z a=>f y ((b y).2 (.inl c)) z ((b z).2 (.inl a));have r:Func g:=fun y c z a=>f y ((b y).2 (.inr c)) z ((b z).2 (.inr a));unfold dS;cases h:lL i l e with
 |none=>have d:=Ha.1 h;rw[Ha.2 fun y c=>d y ((b y).2 (.inl c)),Ha.2 fun y c=>d y ((b y).2 (.inr c))];exact(R.az _).symm
 |some y=>
  obtain⟨d,k⟩:=(OL f).1 h;rcases(b y).1 d with q|p
  ·rw[(OL s).2 ⟨q,k⟩,Ha.2 fun z a n=>o y q (f z ((b z).2 (.inr a)) y d (n.trans k.symm)▸a)];simp only;rw[R.ac,R.az]
  ·rw[(OL r).2 ⟨p,k⟩,Ha.2 fun z a n=>o z a (f y d z ((b z).2 (.inl a)) (k.trans n.symm)▸p)];exact(R.az _).symm
theorem amQ{l:List (List β×Int)}{b:Int->α}(c:∀a,b (a*B)=R.mul (b B) (b a))(e:Nat->β):
 dS R (fun _=>i) (fun _=>l.map fun y=>(y.1,y.2*B)) b 0 e=R.mul (b B) (dS R (fun _=>i) (fun _=>l) b 0 e):=by
 unfold dS lL;rw[List.find?_map];have d:((fun y:List β×Int=>y.1==i.map e)∘fun y:List β×Int=>(y.1,y.2*B))=fun y=>y.1==i.map e:=rfl;rw[d];cases l.find? fun y=>y.1==i.map e with
 |none=>exact(wK _).symm
 |some y=>exact c y.2
def g_(a:Nat->List (List β×Int))(r:Nat)(l:List (List β×Int)):Nat->List (List β×Int):=fun h=>if h=r then l else a h
theorem KY{b:Nat->List (List β×Int)}{c:Int->α}{l:List (List β×Int)}{e:Nat->β}:dS R A (g_ b a l) c a e=dS R (fun _=>A a) (fun _=>l) c 0 e:=by unfold dS g_;rw[if_pos rfl]
theorem Pk{c:Nat->List (List β×Int)}{f:Int->α}{l l':List (List β×Int)}(d:b≠a):dS R A (g_ c a l) f b=dS R A (g_ c a l') f b:=by
 funext e
 unfold dS g_;rw[if_neg d,if_neg d]
theorem Fo.val_two{U:List β}{g:Nat->β->α}{b:Nat->List (List β×Int)}{d:Int->α}{r:Nat}{l j i:List (List β×Int)}(p:Func l)(o:∀y,y∈l↔y∈j\/y∈i)(k:∀y∈j,y∉i)
 (f:Fo) (a:Nat->β) (n:f.homes.Nodup) (m:r∈f.homes):f.val R U g (dS R A (g_ b r l) d) a=R.add (f.val R U g (dS R A (g_ b r j) d) a) (f.val R U g (dS R A (g_ b r i) d) a):=by
 refine Fo.val_add (r:=r) (fun e=> ?_) (fun h c=>⟨Pk c,Pk c⟩) f a n m;rw[KY,KY,KY];exact aqw p o k e
theorem Fo.amx{U:List β}{g:Nat->β->α}{c:Nat->List (List β×Int)}{wt:Int->α}{r:Nat}{l:List (List β×Int)}{m:Int}(i:∀a,wt (a*m)=R.mul (wt m) (wt a))
 (f:Fo) (b:Nat->β) (k:f.homes.Nodup) (j:r∈f.homes):f.val R U g (dS R A (g_ c r (l.map fun y=>(y.1,y.2*m))) wt) b=R.mul (wt m) (f.val R U g (dS R A (g_ c r l) wt) b):=by
 refine Fo.Uz (r:=r) (fun e=> ?_) (fun h d=>Pk d) f b k j;rw[KY,KY];exact amQ i e
end
abbrev aM:=List UInt8
def fC(c:Nat->Option aM)(a:Nat)(x:aM):Nat->Option aM:=fun b=>if b=a then some x else c b
def eO(b:Nat->Option aM):List Nat->List aM->Nat->Option aM
 |a::l,x::k=>eO (fC b a x) l k
 |_,_=>b
def iD(BH:(Nat->Option aM)->Nat->List aM):List Nat->(Nat->Option aM)->List (List aM)
 | [],_=> [[]]
 |a::l,b=>(BH b a).flatMap fun x=>(iD BH l (fC b a x)).map fun k=>x::k
def amy:∀{k:List aM} {c:Nat->Option aM} {a:Nat},a∉i->c a=none->eO c i k a=none:=by
 induction i with
 |nil=>intro k c a _ h;cases k<;>exact h
 |cons b i f=>
  intro k c a d h;cases k with
  |nil=>exact h
  |cons x k=>refine f (fun g=>d az9) ?_;unfold fC;rw[if_neg (fun e=>d aAj)];exact h
section
variable{BH:(Nat->Option aM)->Nat->List aM}{T:(Nat->Option aM)->Prop}
theorem Uq(c:∀d b y,d b=none->T (fC d b y)->T d):∀{l:List Nat} {k:List aM} {d:Nat->Option aM},l.Nodup->(∀a∈l,d a=none)->k.length=l.length->T (eO d l k)->T d
 | [],[],_,_,_,_,h=>h
 |a::l,x::k,d,j,f,i,h=>by obtain⟨d1,d2⟩:=ja.1 j;refine c d a x (f a Ou) (Uq c d2 (fun b g=> ?_) (by simpa using i) h);unfold fC;rw[if_neg (show b≠a from fun e=>d1 (e▸g))];exact f b az9
theorem UY{P:Nat->Prop}(f:∀c a x,P a->c a=none->(x∈BH c a↔T (fC c a x)))(d:∀c b y,c b=none->T (fC c b y)->T c):
 ∀{l:List Nat} {c:Nat->Option aM},(∀a∈l,P a)->l.Nodup->(∀a∈l,c a=none)->T c->∀k,k∈iD BH l c↔k.length=l.length/\T (eO c l k)
 | [],c,_,_,_,hT,k=>by
   constructor
   ·intro h;rw[bG.1 h];exact⟨rfl,hT⟩
   ·rintro⟨h,_⟩;have:k= []:=lH azd;rw[this];exact bG.2 rfl
 |a::l,c,u,A,t,_,k=>by
  have n:=u a Ou;have m:∀b∈l,P b:=fun b p=>u b (by simp [p]);obtain⟨d1,d2⟩:=ja.1 A;have j:=t a Ou;have i:∀x,∀b∈l,fC c a x b=none:=fun x b p=>by unfold fC;rw[if_neg (show b≠a from fun e=>d1 (e▸p))];exact t b (by simp [p])
  unfold iD;rw[ox];constructor
  ·rintro⟨x,w,z⟩;obtain⟨v,s,rfl⟩:=dH.1 z;have g:=(f c a x n j).1 w;obtain⟨r,q⟩:=(UY f d m d2 (i x) g v).1 s;exact⟨by simp [r],q⟩
  ·rintro⟨r,q⟩;cases k with
   |nil=>simp at r
   |cons x k=>
    have o:k.length=l.length:=by simpa using r
    have g:T (fC c a x):=Uq d d2 (i x) o q;exact⟨x,(f c a x n j).2 g,dH.2 ⟨k,(UY f d m d2 (i x) g k).2 ⟨o,q⟩,rfl⟩⟩
theorem ac0{P:Nat->Prop}(f:∀c a,P a->(BH c a).Pairwise fun x y=>Op.bytesLess x y=true):∀(l:List Nat) (c:Nat->Option aM),(∀a∈l,P a)->(iD BH l c).Pairwise fun j k=>eA j k=true
 | [],_,_=>JW _ _
 |a::l,c,g=>by
  unfold iD;have h:=f c a (g a Ou);generalize BH c a=o at h;induction o with
  |nil=>exact List.Pairwise.nil
  |cons x o n=>
   obtain⟨t,s⟩:=jI.1 h;rw[vP];refine Tf.2 ⟨?_,n s,fun j q k d=> ?_⟩
   ·refine zX.2 ((ac0 f l (fC c a x) fun b r=>g b (by simp [r])).imp fun {j k} e=> ?_);show(Op.bytesLess x x||(x==x&&eA j k))=true
    rw[e];simp
   ·obtain⟨m,_,rfl⟩:=dH.1 q;obtain⟨y,p,d⟩:=ox.1 d;obtain⟨i,_,rfl⟩:=dH.1 d;show(Op.bytesLess x y||(x==y&&eA m i))=true
    rw[t y p];rfl
end
def dt(fx:Nat->Option aM)(v:Nat)(y:aM):Bool:=match fx v with
 |none=>true
 |some z=>z==y
def kD(n:Nat)(b:List Nat)(U:List aM)(W:Nat->(Nat->aM)->Bool)(c:Nat->Option aM):Prop:=∃a,(∀v,v<n->a v∈U/\dt c v (a v)=true)/\∀h∈b,W h a=true
def PI{d:Nat->Option aM}{x:aM}{y:aM}(c:b≠a):dt (fC d a x) b y=dt d b y:=by unfold dt fC;rw[if_neg c]
def K_{b:Nat->Option aM}{x y:aM}:dt (fC b a x) a y=(x==y):=by unfold dt fC;rw[if_pos rfl]
def kD.mono{U:List aM}{W:Nat->(Nat->aM)->Bool}:∀(d:Nat->Option aM) (b:Nat) (y:aM),d b=none->kD a i U W (fC d b y)->kD a i U W d:=by
 rintro d b y g ⟨j,f,h⟩;refine⟨j,fun v e=>⟨(f v e).1,?_⟩,h⟩;by_cases c:v=b
 ·unfold dt;rw[c,g]
 ·rw[<-PI (x:=y) c];exact(f v e).2
def Fo.Ok.back{c:Nat->List Nat}{i:List Nat}:∀{f:Fo} {S:List Nat},f.Ok c i S->∀v∈f.vars,∀h∈i,v∈c h->h∈f.homes
 | .nil,_,_,v,a,_,_,_=>by cases a
 | .cons w m b n,S,⟨_,l,k,j⟩,v,a,h,d,e=>by
   simp only[Fo.vars,aI,bQ] at a;simp only[Fo.homes,bQ];rcases a with rfl|a|a
   ·rcases bQ.1 (l h d e) with g|g
    ·exact .inl g
    ·exact .inr (.inl g)
   ·exact .inr (.inl (k.back v a h d e))
   ·exact .inr (.inr (j.back v a h d e))
def aco{U:List aM}{W:Nat->(Nat->aM)->Bool}{f:Fo}{env:Nat->aM}{fx:Nat->Option aM}(hW:∀h e c,(∀b∈A h,c b=e b)->W h c=W h e)
 (j:f.Wf A) (s:f.vars.Nodup) (k:∀v,v∈f.vars↔v<a) (q:∀h,h∈f.homes↔h∈i) (l:∀h∈i,∀b∈A h,b<a):f.val dV U (dt fx) W env=true↔kD a i U W fx:=by
 rw[He hW f env j s];constructor
 ·rintro⟨c,_,p,o⟩;exact⟨c,fun v h=>p v ((k v).2 h),fun h g=>o h ((q h).2 g)⟩
 ·rintro⟨c,p,o⟩;refine⟨fun b=>if b<a then c b else env b,fun b m=> ?_,fun v h=> ?_,fun h g=> ?_⟩
  ·simp only;rw[if_neg (fun h=>m ((k b).2 h))]
  ·have d:=(k v).1 h;simp only;rw[if_pos d];exact p v d
  ·have r:=(q h).1 g;rw[hW h c _ fun b m=>by rw[if_pos (l h r b m)]];exact o h r
def aqL{U:List aM}{W:Nat->(Nat->aM)->Bool}{c:Fo}{env:Nat->aM}{fx:Nat->Option aM}(hW:∀h e t,(∀b∈A h,t b=e b)->W h t=W h e)
 (z:(Fo.cons b j c .nil).Ok A i []) (M:(Fo.cons b j c .nil).vars.Nodup) (I:∀v∈(Fo.cons b j c .nil).vars,v<a) (p:∀h∈(Fo.cons b j c .nil).homes,h∈i) (L:fx b=none) (x:aM):
 (kD a i U W fx/\x∈U/\(∀h∈j,W h (put env b x)=true)/\c.val dV U (dt fx) W (put env b x)=true)↔kD a i U W (fC fx b x):=by
 have m:(Fo.cons b j c .nil).vars=b::c.vars:=azU;have k:(Fo.cons b j c .nil).homes=j++c.homes:=by simp [Fo.homes]
 have H:=z.wf M Oy9;obtain⟨O,_,_,N,_⟩:=H;have l:∀h∈j++c.homes,∀v∈A h,v=b\/v∈c.vars:=fun h o v d=>by
  rcases z.cover h (by rw[k];exact o) v d with g|g
  ·cases g
  ·rw[m] at g;exact aI.1 g
 have B:∀h∈i,∀v∈A h,(v=b\/v∈c.vars)->h∈j++c.homes:=fun h o v d f=>by have g:=z.back v (by rw[m];exact aI.2 f) h o d;rwa[k] at g
 rw[m] at M I;rw[k] at p;obtain⟨d1,d2⟩:=ja.1 M;constructor
 ·rintro⟨⟨G,t1,t2⟩,S,T,X⟩;obtain⟨C,Q,R,Z⟩:=(He hW c (put env b x) N d2).1 X;have F:C b=x:=by rw[Q b d1];unfold put;rw[if_pos rfl]
  have E:∀v,(v=b\/v∈c.vars)->(fun v=>if v=b\/v∈c.vars then C v else G v) v=C v:=fun v h=>if_pos h;have r:∀v,¬(v=b\/v∈c.vars)->(fun v=>if v=b\/v∈c.vars then C v else G v) v=G v:=fun v h=>if_neg h;refine⟨fun v=>if v=b\/v∈c.vars then C v else G v,fun v u=> ?_,fun h o=> ?_⟩
  ·by_cases f:v=b\/v∈c.vars
   ·rw[E v f];rcases f with rfl|f
    ·rw[F,K_];exact⟨S,beq_self_eq_true _⟩
    ·rw[PI (show v≠b from fun e=>d1 (e▸f))];exact R v f
   ·rw[r v f,PI (fun e=>f (.inl e))];exact t1 v u
  ·by_cases f:h∈j++c.homes
   ·rw[hW h C _ fun v d=>E v (l h f v d)];rcases bQ.1 f with f|f
    ·rw[hW h (put env b x) C fun v d=>Q v (O h f v d)];exact T h f
    ·exact Z h f
   ·rw[hW h G _ fun v d=>r v fun V=>f (B h o v d V)];exact t2 h o
 ·intro P;have J:=kD.mono fx b x L P;obtain⟨t,t1,t2⟩:=P;obtain⟨Y,s⟩:=t1 b (I b Ou);rw[K_] at s;have D:x=t b:=beq_iff_eq.1 s;have q:∀v,v∉c.vars->(v=b\/v∈c.vars)->put env b x v=t v:=fun v K f=>by
   rcases f with rfl|f
   ·unfold put;rw[if_pos rfl,D]
   ·exact absurd f K
  refine⟨J,D▸Y,fun h o=> ?_,(He hW c (put env b x) N d2).2 ⟨fun v=>if v∈c.vars then t v else put env b x v,fun v u=> ?_,fun v w=> ?_,fun h o=> ?_⟩⟩
  ·rw[hW h t _ fun v d=>q v (O h o v d) (l h (by simp [o]) v d)];exact t2 h (p h (by simp [o]))
  ·simp only;rw[if_neg u]
  ·simp only;rw[if_pos w];have g:=t1 v (I v (by simp [w]));rw[PI (show v≠b from fun e=>d1 (e▸w))] at g;exact g
  ·rw[hW h t _ fun v d=> ?_]
   ·exact t2 h (p h (by simp [o]))
   ·by_cases y:v∈c.vars
    ·rw[if_pos y]
    ·rw[if_neg y];exact q v y (l h (by simp [o]) v d)
section
variable{α β:Type}{R:SR α}
def Fo.xi(U:List β):Fo->(Nat->β)->List (Nat->β)
 | .nil,a=> [a]
 | .cons v _ b n,a=>U.flatMap fun x=>(b.xi U (put a v x)).flatMap fun e=>n.xi U e
theorem Fo.axh{U:List β}:∀(f:Fo) (c e:Nat->β),e∈f.xi U c->Alike f.vars c e
 | .nil,c,e,h=>by rw[bG.1 h];exact fun _ _=>rfl
 | .cons v m b n,c,e,h=>by obtain⟨x,_,h⟩:=ox.1 h;obtain⟨g,j,i⟩:=ox.1 h;have l:=Fo.axh b _ g j;have k:=Fo.axh n g e i;intro a d;simp only[Fo.vars,aI,bQ,not_or] at d;rw[k a d.2.2,l a d.2.1];unfold put;rw[if_neg d.1]
def rN:=@Fo.axh
theorem SR.sum_append{l m:List β}{f:β->α}:R.sum (l++m) f=R.add (R.sum l f) (R.sum m f):=by
 induction l with
 |nil=>exact(R.az _).symm
 |cons x l a=>rw[uC,ki,ki,a,R.aa]
theorem SR.ady{γ:Type}{l:List β}{k:β->List γ}{f:γ->α}:R.sum (l.flatMap k) f=R.sum l fun x=>R.sum (k x) f:=by
 induction l with
 |nil=>rfl
 |cons x l a=>rw[vP,SR.sum_append,ki,a]
theorem SR.prod_append{γ:Type}{l m:List γ}{f:γ->α}:R.prod (l++m) f=R.mul (R.prod l f) (R.prod m f):=by
 induction l with
 |nil=>exact(R.mo _).symm
 |cons x l a=>rw[uC,k8,k8,a,R.ma]
def Fo.term(R:SR α)(g:Nat->β->α)(W:Nat->(Nat->β)->α)(f:Fo)(e:Nat->β):α:=R.mul (R.prod f.vars fun v=>g v (e v)) (R.prod f.homes fun h=>W h e)
theorem aqR(a b c d e f:α):R.mul (R.mul (R.mul a b) (R.mul c d)) (R.mul e f)=R.mul (R.mul a (R.mul c e)) (R.mul b (R.mul d f)):=by have:Std.Associative R.mul:=⟨R.ma⟩;have:Std.Commutative R.mul:=⟨R.mc⟩;ac_rfl
theorem Fo.PC{U:List β}{g:Nat->β->α}{W:Nat->(Nat->β)->α}{m:Nat->List Nat}(hW:∀h e B,(∀a∈m h,B a=e a)->W h B=W h e):
 ∀(f:Fo) (c:Nat->β),f.Wf m->f.vars.Nodup->f.val R U g W c=R.sum (f.xi U c) (f.term R g W)
 | .nil,c,_,_=>by
   show R.one=R.add (R.mul R.one R.one) R.zero
   rw[R.ac,R.az,R.mo]
 | .cons v k b n,c,⟨E,z,D,C,y⟩,M=>by
   obtain⟨d1,d2⟩:=ja.1 M;obtain⟨d3,d4,d5⟩:=ow.1 d2;have t:v∉b.vars:=fun h=>d1 (bQ.2 (.inl h));have s:v∉n.vars:=fun h=>d1 (bQ.2 (.inr h));have p:∀x,∀d∈b.xi U (put c v x),R.mul (R.mul (R.mul (g v x) (R.prod k fun h=>W h (put c v x))) (b.term R g W d)) (n.val R U g W c)=R.sum (n.xi U d) ((Fo.cons v k b n).term R g W):=by
    intro x d i;have u:=rN b _ d i;have r:d v=x:=by rw[u v t];unfold put;rw[if_pos rfl]
    have q:n.val R U g W d=n.val R U g W c:=TT hW n c d y (fun h l a j K=>by have A:=D h l a j;rw[u a (fun N=>A (by simp [N]))];unfold put;rw[if_neg (fun e=>A aAj)]);rw[<-q,Fo.PC hW n d y d4,<-Kl];refine oC fun e L=> ?_;have o:=rN n d e L;have I:R.prod k (fun h=>W h (put c v x))=R.prod k fun h=>W h e:=rK fun h l=>by rw[hW h d e fun a j=>o a (z h (bQ.2 (.inl l)) a j),hW h (put c v x) d fun a j=>u a (E h l a j)]
    have H:R.prod b.homes (fun h=>W h d)=R.prod b.homes fun h=>W h e:=rK fun h l=>by rw[hW h d e fun a j=>o a (z h (bQ.2 (.inr l)) a j)]
    have G:R.prod b.vars (fun w=>g w (d w))=R.prod b.vars fun w=>g w (e w):=rK fun w J=>by rw[o w (fun q=>d5 w J w q rfl)]
    have F:g v x=g v (e v):=by rw[o v s,r]
    unfold Fo.term;rw[I,H,G,F,aqR];show _=R.mul (R.prod (v::(b.vars++n.vars)) fun w=>g w (e w)) (R.prod (k++(b.homes++n.homes)) fun h=>W h e)
    rw[k8,SR.prod_append,SR.prod_append,SR.prod_append]
   show R.mul (R.sum U fun x=>R.mul (R.mul (g v x) (R.prod k fun h=>W h (put c v x))) (b.val R U g W (put c v x))) (n.val R U g W c)=R.sum (U.flatMap fun x=>(b.xi U (put c v x)).flatMap fun e=>n.xi U e) _
   rw[SR.ady,R.mc,<-Kl];refine oC fun x _=> ?_;rw[Fo.PC hW b (put c v x) C d3,SR.ady,<-Kl,<-Kl];refine oC fun d i=> ?_;rw[<-p x d i,R.mc]
end
def Pl(d:Nat)(t:List UInt8)(b:d<=1000:=by decide)(a:aR (d:Int)=t:=by rfl):eL 1 t:= .inr (.inr (.inl ⟨rfl,(d:Int),a.symm,by unfold ib;omega⟩))
def aoj:qW [114,101,100]:=⟨by decide,by decide,by decide,by decide⟩
def akY:qW [103,114,101,101,110]:=⟨by decide,by decide,by decide,by decide⟩
def amo:qW [98,108,117,101]:=⟨by decide,by decide,by decide,by decide⟩
def dz2:aR 2= [50]:=l_ Od
def avF:aR 10= [49,48]:=by have h:=apZ (m:=1) (d:=0) Od Od;have b:decDigits 1= [49]:=l_ Od;rw[b] at h;have a:aR 10=decDigits 10:=rS 10;rw[a];exact h
def smq(q:Rat)(h:decide (q.num.natAbs<=1000/\q.den<=12)=true):mG q:=by have h:=of_decide_eq_true h;exact⟨by unfold ib;omega,h.2⟩
def asX:cL (-2:Rat)= [45,50]:=by have a:(-2:Rat).num= -2:=Ok;have b:(-2:Rat).den=1:=Ok;rw[pG b,a,x6 Od,show(-2:Int).natAbs=2 from rfl,l_ Od];rfl
def asY:cL (5/3:Rat)= [53,47,51]:=by have b:(5/3:Rat).num=((5:Nat):Int):=Ok;have a:(5/3:Rat).den=3:=Ok;rw[qH (by rw[a];decide),b,a,rS,l_ Od,l_ Od];rfl
def Wa(q:Rat)(t:List UInt8)(a:cL q=t)(h:decide (q.num.natAbs<=1000/\q.den<=12)=true):eL 2 t:= .inr (.inr (.inr ⟨rfl,q,a.symm,smq q h⟩))
def KF(d:Nat)(h:d<10):eL 2 [UInt8.ofNat (48+d)]:= .inr (.inr (.inr ⟨rfl,((d:Int):Rat),(OM h).symm,⟨by show ib (d:Int);unfold ib;omega,by show 1<=12;decide⟩⟩))
def adV(g:Nat)(q:List UInt8)(b:Int)(w:au)(h:cJ w g)(K:1<=b/\b<=3):
 Calls prog 29 #[aJ g 0,.agg #[aO q,av b]] w fun e n=>∃v,eL b v/\e= .returned (aO v)/\cJ n g/\Only g w n:=by
 have D:=af h;have L:=h.lt;go_enter func29,ntmps29;go_upto_region 1 with fail
 refine aP fun W p F=> ?_;have E:=af (oM g 9 W (D.ext p) Od Od);have f:w.heap.size≠g:=Om;go_wp2_with fail
 refine E.mono ?_;rintro e G ⟨r,J,rfl,s,o⟩;have m:=af (F.only o f);have a:=af ((ei (g:=g) p).trans o);have bB:=af s;generalize w.heap.size=M at*;obtain⟨I,H⟩:=m.two;have i:b=3\/b=1\/b=2:=Om;have c:r=0\/r=1\/r=2\/r=3\/r=4\/r=5\/r=6\/r=7\/r=8:=Om;have N:∀t,t=([]:List UInt8)->eL b t:=fun t h=> .inl h;rcases i with rfl|rfl|rfl
 ·have j:ah (eL 3 [114,101,100]):= .inr (.inl ⟨rfl,aoj⟩);have k:ah (eL 3 [103,114,101,101,110]):= .inr (.inl ⟨rfl,akY⟩);have l:ah (eL 3 [98,108,117,101]):= .inr (.inl ⟨rfl,amo⟩);have d:ah (eL 3 []):= .inl rfl;rcases c with rfl|rfl|rfl|rfl|rfl|rfl|rfl|rfl|rfl;all_goals go_wp2
  all_goals go_ret
  all_goals (first|exact⟨_,d,rfl,bB,a⟩|exact⟨_,j,rfl,bB.ext ((aC _).alloc _),a.trans (ei ((aC _).alloc _))⟩|exact⟨_,k,rfl,bB.ext ((aC _).alloc _),a.trans (ei ((aC _).alloc _))⟩|exact⟨_,l,rfl,bB.ext ((aC _).alloc _),a.trans (ei ((aC _).alloc _))⟩)
 ·have j:ah (eL 1 [49]):=Pl 1 _ Od td;have k:ah (eL 1 [50]):=Pl 2 _ Od dz2;have l:ah (eL 1 [49,48]):=Pl 10 _ Od avF;have d:ah (eL 1 []):= .inl rfl;rcases c with rfl|rfl|rfl|rfl|rfl|rfl|rfl|rfl|rfl;all_goals go_wp2
  all_goals go_ret
  all_goals (first|exact⟨_,d,rfl,bB,a⟩|exact⟨_,j,rfl,bB.ext ((aC _).alloc _),a.trans (ei ((aC _).alloc _))⟩|exact⟨_,k,rfl,bB.ext ((aC _).alloc _),a.trans (ei ((aC _).alloc _))⟩|exact⟨_,l,rfl,bB.ext ((aC _).alloc _),a.trans (ei ((aC _).alloc _))⟩)
 ·have C:ah (eL 2 [48]):=KF 0 Od;have B:ah (eL 2 [49]):=KF 1 Od;have A:ah (eL 2 [50]):=KF 2 Od;have z:ah (eL 2 [51]):=KF 3 Od;have y:ah (eL 2 [45,50]):=Wa (-2) _ asX Ok;have x:ah (eL 2 [49,47,50]):=Wa (1/2) _ aa2 Ok;have u:ah (eL 2 [53,47,51]):=Wa (5/3) _ asY Ok;have d:ah (eL 2 []):= .inl rfl;rcases c with rfl|rfl|rfl|rfl|rfl|rfl|rfl|rfl|rfl;all_goals go_wp2
  all_goals go_ret
  all_goals (first|exact⟨_,d,rfl,bB,a⟩|exact⟨_,C,rfl,bB.ext ((aC _).alloc _),a.trans (ei ((aC _).alloc _))⟩|exact⟨_,B,rfl,bB.ext ((aC _).alloc _),a.trans (ei ((aC _).alloc _))⟩|exact⟨_,A,rfl,bB.ext ((aC _).alloc _),a.trans (ei ((aC _).alloc _))⟩|exact⟨_,z,rfl,bB.ext ((aC _).alloc _),a.trans (ei ((aC _).alloc _))⟩|exact⟨_,y,rfl,bB.ext ((aC _).alloc _),a.trans (ei ((aC _).alloc _))⟩|exact⟨_,x,rfl,bB.ext ((aC _).alloc _),a.trans (ei ((aC _).alloc _))⟩|exact⟨_,u,rfl,bB.ext ((aC _).alloc _),a.trans (ei ((aC _).alloc _))⟩)
def abt:∀{t s r q:List UInt8},(0:UInt8)∉t->(0:UInt8)∉s->t++0::r=s++0::q->t=s/\r=q
 | [],[],r,q,_,_,h=>⟨rfl,by simpa using h⟩
 | [],y::s,r,q,_,b,h=>by simp only[vR,uC,Ov] at h;exact absurd (by rw[<-h.1];simp) b
 |x::t,[],r,q,a,_,h=>by simp only[vR,uC,Ov] at h;exact absurd (by rw[h.1];simp) a
 |x::t,y::s,r,q,a,b,h=>by simp only[uC,Ov] at h;obtain⟨e,d⟩:=abt (fun c=>a azz) (fun c=>b azz) h.2;exact⟨by rw[h.1,e],d⟩
def kO(l:List (List UInt8)):List UInt8:=l.flatMap fun t=>t++ [0]
def ad4:∀{l m:List (List UInt8)},l.length=m.length->(∀t∈l,(0:UInt8)∉t)->(∀t∈m,(0:UInt8)∉t)->kO l=kO m->l=m
 | [],[],_,_,_,_=>rfl
 |t::l,s::m,d,c,b,h=>by unfold kO at h;rw[vP,vP,iB,iB] at h;obtain⟨f,e⟩:=abt (c t Ou) (b s Ou) h;rw[f,ad4 azH (fun x a=>c x ay5) (fun x a=>b x ay5) e]
def ab8(n:Nat):(0:UInt8)∉decDigits n:=fun a=>Wn aAs a
def T9(z:Int):(0:UInt8)∉aR z:=by
 unfold aR;intro h;rcases bQ.1 h with h|h
 ·split at h
  ·rw[bG] at h;cases h
  ·cases h
 ·exact ab8 _ h
def akj(h:eL B T):(0:UInt8)∉T:=by
 rcases h with rfl|⟨-,c⟩|⟨-,z,rfl, -⟩|⟨-,q,rfl, -⟩
 ·simp
 ·intro a;have d:=c.2.2.2 0 a;revert d
  decide
 ·exact T9 z
 ·by_cases b:q.den=1
  ·rw[pG b];exact T9 _
  ·rw[qH b];intro a;rcases bQ.1 a with a|a
   ·exact T9 _ a
   ·rcases aI.1 a with a|a
    ·cases a
    ·exact ab8 _ a
structure Whole(n:Nat)(at_:Nat->List Nat)(hl:List Nat)(f:Fo):Prop where
 ok:f.Ok at_ hl []
 vd:f.vars.Nodup
 vm:∀v,v∈f.vars↔v<n
 hm:∀h,h∈f.homes↔h∈hl
 hd:f.homes.Nodup
def Whole.wf{f:Fo}(w:Whole a A i f):f.Wf A:=w.ok.wf w.vd fun _ _ h=>by cases h
def q77.k78(h:ai:=by
 refine⟨d,r,T8 r w n none [] hu hk (fun a h=> ?_),QU,YE,fun h=> ?_,?_⟩
 ·rcases h with h|⟨b,h,_⟩<;>cases h
 ·exact ag4
 ·refine Uf (H:=fun v=>hl.filter fun t=>fu d (at_ t) ((at_ t).headD 0)==v) (fun v=>zT zU e) (fun v l h i g=> ?_) (AA n none) QU;have k:=beq_iff_eq.1 (fI.1 i).2;have j:=beq_iff_eq.1 (fI.1 g).2;exact k.symm.trans j):=h
def ali{n:Nat}{at_:Nat->List Nat}{hl perm:List Nat}(c:∀a,a<n->a∈perm)(e:hl.Nodup)(hne:∀t∈hl,at_ t≠ [])(hlt:∀t∈hl,∀a∈at_ t,a<n)(p:Nat->Option Nat):
 ∃d,dp n (jZ n (Bw at_ hl) perm n (jC n) none p) d/\Whole n at_ hl (eF n (jZ n (Bw at_ hl) perm n (jC n) none p) (fun v=>hl.filter fun t=>fu d (at_ t) ((at_ t).headD 0)==v) n none):=by
 obtain⟨_,hpl⟩:=OZ (adj:=Bw at_ hl) (aog at_ hl) c n (jC n) none p (fun x f=>of_decide_eq_true f) (by rw[Hl];exact aK _);generalize jZ n (Bw at_ hl) perm n (jC n) none p=q at*;open q77 in exact m78
def Fo.aqm{α β:Type}{R:SR α}{U:List β}{g:Nat->β->α}{W:Nat->(Nat->β)->α}{b:Fo}(hW:∀h e d,(∀c∈A h,d c=e c)->W h d=W h e)
 (f:(Fo.cons a j b .nil).Ok A i k) (r:(Fo.cons a j b .nil).vars.Nodup) (s:∀c∈(Fo.cons a j b .nil).vars,c∉k) (m:∀h∈(Fo.cons a j b .nil).homes,∀c∈A h,c∈k->c∈l) {e d:Nat->β} (q:∀c∈l,d c=e c):
 (Fo.cons a j b .nil).val R U g W d=(Fo.cons a j b .nil).val R U g W e:=
 TT hW _ e d (f.wf r s) fun h o c p n=>q c (m h o c p (by
  rcases f.cover h o c p with g|g
  ·exact g
  ·exact absurd g n))
def gm:SR Rat where
 zero:=0
 one:=1
 add:=fun a b=>a+b
 mul:=fun a b=>a*b
 aa:=GY
 ac:=TK
 az:=Aj
 ma:=Rat.mul_assoc
 mc:=Rat.mul_comm
 mo:=Uc
 mz:=Rat.zero_mul
 ds:=Rat.mul_add
abbrev iT:=Nat->List (List aM×Int)
def iF(at_:Nat->List Nat)(a:iT):Nat->(Nat->aM)->Bool:=dS dV at_ a fun _=>true
def oT(at_:Nat->List Nat)(a:iT):Nat->(Nat->aM)->Rat:=dS gm at_ a fun w=>(w:Rat)
def alW{at_:Nat->List Nat}{b:iT}{e:Nat->aM}(c:iF at_ b a e=false):oT at_ b a e=0:=by
 unfold iF dS at c;unfold oT dS;cases d:lL (at_ a) (b a) e with
 |none=>rfl
 |some y=>rw[d] at c;cases c
def Um{β:Type} [DecidableEq β]{a:List (List β×Int)}{e:Nat->β}{y:List β×Int}(h:lL i a e=some y):y∈a/\y.1=i.map e:=⟨Du h,beq_iff_eq.1 (z7 (p:=fun y:List β×Int=>y.1==i.map e) h)⟩
def Hr{at_:Nat->List Nat}{b:iT}{e:Nat->aM}:iF at_ b a e=true↔∃y∈b a,y.1=(at_ a).map e:=by
 unfold iF dS;cases c:lL (at_ a) (b a) e with
 |none=>
  have g:=Ha.1 c;constructor
  ·intro a;cases a
  ·rintro⟨y,d,i⟩;exact absurd i (g y d)
 |some y=>exact⟨fun _=>⟨y,Um c⟩,fun _=>rfl⟩
def Ur{at_:Nat->List Nat}{b:iT}:∀h e c,(∀a∈at_ h,c a=e a)->iF at_ b h c=iF at_ b h e:=fun h e c d=>Pc h e c d
section
variable{n:Nat}{at_:Nat->List Nat}{hl:List Nat}{U:List aM}{f:Fo}{env:Nat->aM}{lift:Nat->aM->Rat}
def oU(at_:Nat->List Nat)(U:List aM)(f:Fo)(env:Nat->aM)(lift:Nat->aM->Rat)(a:iT)(b:Nat->Option aM):Rat:=f.val gm U (fun v x=>if dt b v x=true then lift v x else 0) (oT at_ a) env
theorem amG(w:Whole n at_ hl f)(c:∀h∈hl,∀a∈at_ h,a<n){b:iT}{d:Nat->Option aM}(h:¬kD n hl U (iF at_ b) d):oU at_ U f env lift b d=0:=by refine Fo.U5 (R:=gm) (gB:=dt d) (WB:=iF at_ b) (fun v x g=>by rw[g];rfl) (fun h e i=>alW i) f env ?_;rw[<-uE,aco (W:=iF at_ b) Ur w.wf w.vd w.vm w.hm c];exact h
theorem arA{g:iT}{l v u:List (List aM×Int)}(s:∀y,y∈l↔y∈v\/y∈u)(t:Nat->Option aM):kD n hl U (iF at_ (g_ g a l)) t↔kD n hl U (iF at_ (g_ g a v)) t\/kD n hl U (iF at_ (g_ g a u)) t:=by
 have d:∀{h:Nat} {q z:List (List aM×Int)} {e:Nat->aM},h≠a->iF at_ (g_ g a q) h e=true->iF at_ (g_ g a z) h e=true:=fun b w=>by unfold iF at w⊢;rwa[Pk (l':=_) b] at w
 have c:∀{q:List (List aM×Int)} {e:Nat->aM},iF at_ (g_ g a q) a e=true↔∃y∈q,y.1=(at_ a).map e:=fun {q e}=>by rw[Hr];unfold g_;rw[if_pos rfl]
 constructor
 ·rintro⟨o,m,j⟩;by_cases x:a∈hl
  ·obtain⟨y,k,p⟩:=c.1 (j a x);rcases(s y).1 k with k|k
   ·refine .inl ⟨o,m,fun h i=> ?_⟩;by_cases b:h=a
    ·rw[b];exact c.2 ⟨y,k,p⟩
    ·exact d b (j h i)
   ·refine .inr ⟨o,m,fun h i=> ?_⟩;by_cases b:h=a
    ·rw[b];exact c.2 ⟨y,k,p⟩
    ·exact d b (j h i)
  ·exact .inl ⟨o,m,fun h i=>d (fun e=>x (e▸i)) (j h i)⟩
 ·rintro(⟨o,m,j⟩|⟨o,m,j⟩)
  ·refine⟨o,m,fun h i=> ?_⟩;by_cases b:h=a
   ·obtain⟨y,k,p⟩:=c.1 (b▸j h i);rw[b];exact c.2 ⟨y,(s y).2 (.inl k),p⟩
   ·exact d b (j h i)
  ·refine⟨o,m,fun h i=> ?_⟩;by_cases b:h=a
   ·obtain⟨y,k,p⟩:=c.1 (b▸j h i);rw[b];exact c.2 ⟨y,(s y).2 (.inr k),p⟩
   ·exact d b (j h i)
structure oH(n:Nat)(at_:Nat->List Nat)(hl:List Nat)(U:List aM)(f:Fo)(env:Nat->aM)(lift:Nat->aM->Rat)(attrs:List Nat)(tab:iT)(G:List Gp):Prop where
 ord:G.Pairwise rj
 mem:∀k,(∃y∈G,y.1=k)↔k.length=attrs.length/\kD n hl U (iF at_ tab) (eO (fun _=>none) attrs k)
 sum:∀y∈G,y.2=oU at_ U f env lift tab (eO (fun _=>none) attrs y.1)
theorem oH.fD{d:iT}{G:List Gp}(g:oH n at_ hl U f env lift i d G)(w:Whole n at_ hl f)(o:∀h∈hl,∀a∈at_ h,a<n){k:List aM}(v:k.length=i.length):
 Go.Proofs.YthfffpcmldipgaaGreatDoor.fD k G=oU at_ U f env lift d (eO (fun _=>none) i k):=by
 by_cases c:∃y∈G,y.1=k
 ·obtain⟨y,b,e⟩:=c;have m:=g.sum y b;rw[e] at m;rw[<-m];have j:=g.ord;clear m g;induction G with
  |nil=>cases b
  |cons z G s=>
   obtain⟨p,r⟩:=jI.1 j;unfold Go.Proofs.YthfffpcmldipgaaGreatDoor.fD;rcases aI.1 b with rfl|b
   ·rw[if_pos e,v_ fun q u A=> ?_,TJ];have l:=p q u;rw[rj,A,<-e,qP.lm] at l;cases l
   ·rw[if_neg (fun x=> ?_),Aj]
    ·exact s b r
    ·have l:=p y b;rw[rj,x,<-e,qP.lm] at l;cases l
 ·rw[v_ fun y b e=>c ⟨y,b,e⟩];exact(amG w o fun t=>c ((g.mem k).2 ⟨v,t⟩)).symm
theorem alZ{c:iT}{l s q:List (List aM×Int)}{G x v:List Gp}(w:Whole n at_ hl f)(d:∀h∈hl,∀b∈at_ h,b<n)(A:a∈hl)(hd:Func l)(hm:∀y,y∈l↔y∈s\/y∈q)(z:∀y∈s,y∉q)
 (g:oH n at_ hl U f env lift i (g_ c a l) G) (u:oH n at_ hl U f env lift i (g_ c a s) x) (t:oH n at_ hl U f env lift i (g_ c a q) v):kM (x++v)=G:=by
 refine anx g.ord (fun k=> ?_) (fun k=> ?_)
 ·rw[g.mem,u.mem,t.mem,arA hm];constructor
  ·rintro⟨o,j|j⟩
   ·exact .inl ⟨o,j⟩
   ·exact .inr ⟨o,j⟩
  ·rintro(⟨o,j⟩|⟨o,j⟩)
   ·exact⟨o,.inl j⟩
   ·exact⟨o,.inr j⟩
 ·by_cases m:k.length=i.length
  ·rw[g.fD w d m,u.fD w d m,t.fD w d m];exact Fo.val_two (R:=gm) hd hm z f env w.hd ((w.hm a).2 A)
  ·rw[v_ fun y p e=>m ((g.mem k).1 ⟨y,p,e⟩).1,v_ fun y p e=>m ((u.mem k).1 ⟨y,p,e⟩).1,v_ fun y p e=>m ((t.mem k).1 ⟨y,p,e⟩).1,Aj]
theorem alV{c:iT}{l:List (List aM×Int)}:iF at_ (g_ c a (l.map fun y=>(y.1,y.2*B)))=iF at_ (g_ c a l):=by
 funext h e
 rw[lZ,Hr,Hr];unfold g_;by_cases b:h=a
 ·rw[if_pos b,if_pos b];constructor
  ·rintro⟨y,d,g⟩;obtain⟨z,i,rfl⟩:=dH.1 d;exact⟨z,i,g⟩
  ·rintro⟨y,d,g⟩;exact⟨_,dH.2 ⟨y,d,rfl⟩,g⟩
 ·rw[if_neg b,if_neg b]
theorem aby(m:Rat)(k:List (List UInt8)):∀G:List Gp,Go.Proofs.YthfffpcmldipgaaGreatDoor.fD k (G.map fun y=>(y.1,m*y.2))=m*Go.Proofs.YthfffpcmldipgaaGreatDoor.fD k G
 | []=>(Rat.mul_zero m).symm
 |y::G=>by
  rw[sW];unfold Go.Proofs.YthfffpcmldipgaaGreatDoor.fD;rw[aby m k G,Rat.mul_add];congr 1;split
  ·rfl
  ·exact(Rat.mul_zero m).symm
theorem aka{d:iT}{l:List (List aM×Int)}{m:Int}{G q:List Gp}(w:Whole n at_ hl f)(j:∀h∈hl,∀b∈at_ h,b<n)(t:a∈hl)
 (g:oH n at_ hl U f env lift i (g_ d a l) G) (p:oH n at_ hl U f env lift i (g_ d a (l.map fun y=>(y.1,y.2*m))) q):q=G.map fun y=>(y.1,(m:Rat)*y.2):=by
 refine Ut p.ord (zX.2 (g.ord.imp fun h=>h)) (fun k=> ?_) (fun k=> ?_)
 ·rw[p.mem,alV,<-g.mem];constructor
  ·rintro⟨y,c,e⟩;exact⟨_,dH.2 ⟨y,c,rfl⟩,e⟩
  ·rintro⟨y,c,e⟩;obtain⟨z,s,rfl⟩:=dH.1 c;exact⟨z,s,e⟩
 ·rw[aby];by_cases o:k.length=i.length
  ·rw[p.fD w j o,g.fD w j o];exact Fo.amx (R:=gm) (wt:=fun b:Int=>(b:Rat)) (m:=m) (fun b=>by
    show((b*m:Int):Rat)=(m:Rat)*(b:Rat)
    rw[GP,Rat.mul_comm]) f env w.hd ((w.hm a).2 t)
  ·rw[v_ fun y c e=>o ((p.mem k).1 ⟨y,c,e⟩).1,v_ fun y c e=>o ((g.mem k).1 ⟨y,c,e⟩).1,Rat.mul_zero]
theorem al1{b:iT}{c:(Nat->Option aM)->Nat->List aM}(l:i.Nodup)(d:∀g a x,a∈i->g a=none->(x∈c g a↔kD n hl U (iF at_ b) (fC g a x)))(o:∀g a,a∈i->(c g a).Pairwise fun x y=>Op.bytesLess x y=true)(hT:kD n hl U (iF at_ b) fun _=>none):
 oH n at_ hl U f env lift i b ((iD c i fun _=>none).map fun k=>(k,oU at_ U f env lift b (eO (fun _=>none) i k))):=by
 refine⟨zX.2 (ac0 o i _ fun _ h=>h),fun k=> ?_,fun y j=> ?_⟩
 ·rw[<-UY d kD.mono (fun _ h=>h) l (fun _ _=>rfl) hT k];constructor
  ·rintro⟨y,j,e⟩;obtain⟨z,m,rfl⟩:=dH.1 j;rw[<-e];exact m
  ·intro h;exact⟨_,dH.2 ⟨k,h,rfl⟩,rfl⟩
 ·obtain⟨z,_,rfl⟩:=dH.1 j;rfl
theorem akQ{a:iT}(c:i.Nodup)(hT:¬kD n hl U (iF at_ a) fun _=>none):oH n at_ hl U f env lift i a []:=
 ⟨List.Pairwise.nil,fun k=>⟨fun⟨y,b,_⟩=>(by cases b),fun⟨e,d⟩=>absurd (Uq kD.mono c (fun _ _=>rfl) e d) hT⟩,fun y b=>(by cases b)⟩
end
section
variable{n:Nat}{p:Nat->Option Nat}{d:Nat->Nat}{homes:Nat->List Nat}
theorem Vi(r:dp n p d)(f:a<n)(e:p a=O):gH d (some a)=gH d O+1:=by
 cases O with
 |none=>simp only[gH];rw[r.root a f e]
 |some b=>simp only[gH];rw[(r.up a b f e).2]
theorem Vr(r:dp n p d)(h:n<=gH d O):kids n p O= []:=by
 rcases e:kids n p O with _|⟨a,l⟩
 ·rfl
 ·exfalso;obtain⟨b,c⟩:=iC.1 (show a∈kids n p O by rw[e];simp);have hl:=r.lt a b;have:=Vi r b c;simp only[gH] at this h;cases O<;>simp only at this h<;>omega
theorem TH{homes:Nat->List Nat}{f g:Nat->Fo}:∀{l:List Nat},(∀a∈l,f a=g a)->eD homes f l=eD homes g l
 | [],_=>rfl
 |a::l,h=>by unfold eD;rw[h a Ou,TH fun b c=>h b azz]
theorem aaU(r:dp n p d):∀(k b:Nat) (u:Option Nat),n<=k+gH d u->n<=b+gH d u->eF n p homes k u=eF n p homes b u
 |0,0,_,_,_=>rfl
 |0,b+1,u,h,_=>by
  show Fo.nil=eD homes (fun a=>eF n p homes b (some a)) (kids n p u)
  rw[Vr r Om];rfl
 |k+1,0,u,_,h=>by
  show eD homes (fun a=>eF n p homes k (some a)) (kids n p u)=Fo.nil
  rw[Vr r Om];rfl
 |k+1,b+1,u,h,g=>TH fun a c=>by obtain⟨f,e⟩:=iC.1 c;have:=Vi r f e;exact aaU r k b (some a) Om Om
def j4(n:Nat)(p:Nat->Option Nat)(homes:Nat->List Nat)(v:Nat):Fo:=eF n p homes n (some v)
def fj(n:Nat)(p:Nat->Option Nat)(homes:Nat->List Nat)(v:Nat):Fo:= .cons v (homes v) (j4 n p homes v) .nil
theorem uF(r:dp n p d)(h:n<=a+gH d O):eF n p homes a O=eD homes (j4 n p homes) (kids n p O):=by
 match a with
 |0=>rw[Vr r Om];rfl
 |a+1=>refine TH fun b c=> ?_;obtain⟨f,e⟩:=iC.1 c;have:=Vi r f e;exact aaU r a n (some b) Om Om
theorem O_{α β:Type}{R:SR α}{U:List β}{g:Nat->β->α}{W:Nat->(Nat->β)->α}{f:Nat->Fo}:∀(l:List Nat) (env:Nat->β),(eD homes f l).val R U g W env=R.prod l fun a=>(Fo.cons a (homes a) (f a) .nil).val R U g W env
 | [],_=>rfl
 |a::l,env=>by
  show R.mul _ ((eD homes f l).val R U g W env)=R.mul (R.mul _ R.one) (R.prod l _)
  rw[SR.Ca,O_ l env]
theorem axd(r:dp n p d){α β:Type}{R:SR α}{U:List β}{g:Nat->β->α}{W:Nat->(Nat->β)->α}(v:Nat)(env:Nat->β):
 (fj n p homes v).val R U g W env=R.sum U fun x=>R.mul (R.mul (g v x) (R.prod (homes v) fun h=>W h (put env v x))) (R.prod (kids n p (some v)) fun c=>(fj n p homes c).val R U g W (put env v x)):=by
 show R.mul (R.sum U _) R.one=_
 rw[SR.Ca];refine oC fun x _=> ?_;have h:j4 n p homes v=eD homes (j4 n p homes) (kids n p (some v)):=uF r Om;rw[h,O_];rfl
theorem OU(r:dp n p d){v:Nat}(e:v<n):a∈(fj n p homes v).vars↔a=v\/(a<n/\dM p (some v) a):=by have h:=xO (homes:=homes) r n (some v) a (fun b c=>by injection c with c;omega) Om;simp only[fj,Fo.vars,aI,kG,j4,h]
theorem OJ(r:dp n p d){v:Nat}(e:v<n):(fj n p homes v).vars.Nodup:=by
 have a:∀b,some v=some b->b<n:=fun b c=>by injection c with c;omega
 have f:=J_ (homes:=homes) r n (some v) a Om;simp only[fj,Fo.vars,kG,j4];refine ja.2 ⟨fun h=> ?_,f⟩;have g:=((xO r n (some v) v a Om).1 h).2.mW r v rfl e;omega
theorem UW{at_:Nat->List Nat}{hl:List Nat}{f:Nat->Fo}{S:List Nat}:∀{l:List Nat},(eD homes f l).Ok at_ hl S->∀c∈l,(Fo.cons c (homes c) (f c) .nil).Ok at_ hl S
 | [],_,c,b=>by cases b
 |a::l,⟨i,h,g,e⟩,c,b=>by
  rcases aI.1 b with rfl|b
  ·exact⟨i,h,g,trivial⟩
  ·exact UW e c b
end
def ey(sb:Nat->Bool)(env:Nat->aM):List Nat->List aM->Bool
 |a::l,x::r=>(!(sb a)||env a==x)&&ey sb env l r
 |_,_=>true
def tL(sb:Nat->Bool)(env:Nat->aM)(l:List Nat)(a:List (List aM×Int)):Bool:=a.any fun y=>ey sb env l y.1
def cV(sb:Nat->Bool)(v:Nat):Nat->Bool:=fun a=>a==v||sb a
def x7{sb:Nat->Bool}{env:Nat->aM}:∀{l:List Nat} {r:List aM},ey sb env l r=true↔∀(i a:Nat) (x:aM),l[i]?=some a->r[i]?=some x->sb a=true->env a=x
 | [],r=>by simp [ey]
 |a::l,[]=>by simp [ey]
 |a::l,x::r=>by
  unfold ey;rw[cZ,x7];constructor
  ·rintro⟨g,k⟩ i b y e c f;cases i with
   |zero=>simp only[dR,dG] at e c;subst e c;rw[f] at g;simpa using g
   |succ i=>exact k i b y azm ay7 f
  ·intro h;refine⟨?_,fun i b y e c f=>h (i+1) b y azm ay7 f⟩;cases j:sb a with
   |false=>rfl
   |true=>simpa using h 0 a x rfl rfl j
def adn{sb:Nat->Bool}{env:Nat->aM}{r:List aM}(hl:r.length=i.length)(j:∀a∈i,sb a=true):ey sb env i r=true↔r=i.map env:=by
 rw[x7];constructor
 ·intro h;refine uz fun b=> ?_;rw[dY];rcases cA b i.length with c|c
  ·have g:r[b]?=some (r[b]'Om):=aV Om;have f:i[b]?=some i[b]:=aV c;rw[g,f];exact congrArg some (h b _ _ f g (j _ (aZ c))).symm
  ·rw[fH Om,fH c];rfl
 ·rintro rfl b a x c e _;rw[dY,c] at e;injection e
def aqh{sb:Nat->Bool}{env:Nat->aM}:ey sb env i (i.map env)=true:=x7.2 fun b a x e c _=>by rw[dY,e] at c;injection c
def Ux{sb QJ:Nat->Bool}{env Qu:Nat->aM}{r:List aM}(h:∀a∈i,sb a=QJ a/\(sb a=true->env a=Qu a)):ey sb env i r=ey QJ Qu i r:=by
 rw[lZ,x7,x7];constructor
 ·intro g b a x e j c;have f:=h a (uy e);rw[<-f.1] at c;rw[<-f.2 c];exact g b a x e j c
 ·intro g b a x e j c;have f:=h a (uy e);rw[f.2 c];rw[f.1] at c;exact g b a x e j c
def pT(x:aM):List aM->List aM
 | []=> [x]
 |y::l=>if Op.bytesLess y x=true then y::pT x l else if (y==x)=true then y::l else x::y::l
def kr(l:List aM):List aM:=l.foldr pT []
abbrev tP(x y:aM):Prop:=Op.bytesLess x y=true
def Vt{x z:aM}:∀{l:List aM},z∈pT x l↔z=x\/z∈l
 | []=>by simp [pT]
 |y::l=>by
  unfold pT;split
  ·rw[aI,Vt,aI];constructor
   ·rintro(h|h|h)
    ·exact .inr (.inl h)
    ·exact .inl h
    ·exact .inr (.inr h)
   ·rintro(h|h|h)
    ·exact .inr (.inl h)
    ·exact .inl h
    ·exact .inr (.inr h)
  ·split
   ·rename_i a;have a:=beq_iff_eq.1 a;rw[aI];constructor
    ·exact fun h=> .inr h
    ·rintro(h|h)
     ·exact .inl (h.trans a.symm)
     ·exact h
   ·rw[aI]
def ad7{x:aM}:∀{l:List aM},l.Pairwise tP->(pT x l).Pairwise tP
 | [],_=>by simp [pT]
 |y::l,h=>by
  obtain⟨g,j⟩:=jI.1 h;unfold pT;split
  ·rename_i c;refine jI.2 ⟨fun z a=> ?_,ad7 j⟩;rcases Vt.1 a with rfl|a
   ·exact c
   ·exact g z a
  ·rename_i c;split
   ·exact h
   ·rename_i f;have b:Op.bytesLess x y=true:=by
     cases i:Op.bytesLess x y with
     |true=>rfl
     |false=>have e:=xW.EZ x y i ay7;rw[e] at f;simp at f
    refine jI.2 ⟨fun z a=> ?_,h⟩;rcases aI.1 a with rfl|a
    ·exact b
    ·exact xW.tr _ _ _ b (g z a)
def Ko:∀l,(kr l).Pairwise tP
 | []=>List.Pairwise.nil
 |_::l=>ad7 (Ko l)
def xS{x:aM}:∀{l},x∈kr l↔x∈l
 | []=>by simp [kr]
 |y::l=>by
  show x∈pT y (kr l)↔_
  rw[Vt,xS,aI]
def UV{l:List aM}(h:l.Pairwise tP):l.Nodup:=h.imp fun {a b} c e=>by rw[tP,e,xW.lm] at c;cases c
def VW:∀{l m:List aM},l.Pairwise tP->m.Pairwise tP->(∀x,x∈l↔x∈m)->l=m
 | [],[],_,_,_=>rfl
 | [],y::m,_,_,h=>by have:=(h y).2 Ou;cases this
 |x::l,[],_,_,h=>by have:=(h x).1 Ou;cases this
 |x::l,y::m,hl,q,h=>by
  obtain⟨f,j⟩:=jI.1 hl;obtain⟨m1,m2⟩:=jI.1 q;have b:x=y:=by
   rcases aI.1 ((h x).1 Ou) with e|o
   ·exact e
   ·rcases aI.1 ((h y).2 Ou) with e|k
    ·exact e.symm
    ·have i:=m1 x o;have c:=f y k;rw[tP] at i c;rw[xW.asym i] at c;cases c
  subst b;have lm:∀z,tP x z->z≠x:=fun z a e=>by rw[tP,e,xW.lm] at a;cases a
  rw[VW j m2 fun z=> ?_];constructor
  ·intro a;rcases aI.1 ((h z).1 ay5) with e|g
   ·exact absurd e (lm z (f z a))
   ·exact g
  ·intro a;rcases aI.1 ((h z).2 ay5) with e|g
   ·exact absurd e (lm z (m1 z a))
   ·exact g
def gQ(at_:Nat->List Nat)(hl:List Nat)(v:Nat):List Nat:=hl.filter fun h=>(at_ h).contains v
def EQ(l:List Nat)(v:Nat)(y:List aM):aM:=y.getD (l.idxOf v) []
def ym(at_:Nat->List Nat)(tab:iT)(hl:List Nat)(fx:Nat->Option aM)(sb:Nat->Bool)(env:Nat->aM)(v:Nat):List aM:=match gQ at_ hl v with
 | []=> []
 |h::_=>((tab h).filter fun y=>ey sb env (at_ h) y.1&&dt fx v (EQ (at_ h) v y.1)).map fun y=>EQ (at_ h) v y.1
def iE(at_:Nat->List Nat)(tab:iT)(hl:List Nat)(fx:Nat->Option aM)(sb:Nat->Bool)(env:Nat->aM)(v:Nat):List aM:=
 (kr (ym at_ tab hl fx sb env v)).filter fun x=>(gQ at_ hl v).all fun h=>tL (cV sb v) (put env v x) (at_ h) (tab h)
def adc{at_:Nat->List Nat}{tab:iT}{hl:List Nat}{fx:Nat->Option aM}{sb:Nat->Bool}{env:Nat->aM}{v:Nat}:(iE at_ tab hl fx sb env v).Pairwise tP:=zT zU (Ko _)
structure Bb(at_:Nat->List Nat)(tab:iT)(hl:List Nat):Prop where
 nd:∀h∈hl,(at_ h).Nodup
 len:∀h∈hl,∀y∈tab h,y.1.length=(at_ h).length
 ap:∀h∈hl,(tab h).Pairwise fun y z=>y.1≠z.1
section
variable{at_:Nat->List Nat}{tab:iT}{hl:List Nat}{fx:Nat->Option aM}{sb:Nat->Bool}{env:Nat->aM}{v:Nat}
theorem AD:a∈gQ at_ hl v↔a∈hl/\v∈at_ a:=by unfold gQ;rw[fI,pD]
theorem aeX{v:Nat}(h:v∈i):i[i.idxOf v]?=some v:=by have a:=S9 h;rw[aV a,List.getElem_idxOf]
theorem Pj(B:Bb at_ tab hl)(o:sb v=false)(r:gQ at_ hl v≠ []){x:aM}:
 x∈iE at_ tab hl fx sb env v↔dt fx v x=true/\∀h∈gQ at_ hl v,tL (cV sb v) (put env v x) (at_ h) (tab h)=true:=by
 unfold iE;rw[fI,xS,uD];unfold ym;rcases w:gQ at_ hl v with _|⟨f,l⟩
 ·exact absurd w r
 ·obtain⟨G,u⟩:=AD.1 (show f∈gQ at_ hl v by rw[w];simp);simp only;rw[dH];constructor
  ·rintro⟨⟨y,k,rfl⟩,m⟩;obtain⟨c,A⟩:=fI.1 k;rw[cZ] at A;exact⟨A.2,m⟩
  ·rintro⟨H,m⟩;refine⟨?_,m⟩;obtain⟨y,k,j⟩:=qG.1 (m f Ou);have F:=aeX u;have D:=B.len f G y k;have E:=S9 u;have g:y.1[(at_ f).idxOf v]?=some (y.1[(at_ f).idxOf v]'Om):=aV Om;have b:EQ (at_ f) v y.1=x:=by have c:=x7.1 j _ _ _ F g (by simp [cV]);unfold put at c;rw[if_pos rfl] at c;unfold EQ;rw[fG,g,c];rfl
   refine⟨y,fI.2 ⟨k,?_⟩,b⟩;rw[cZ,b];refine⟨x7.2 fun i a z s C q=> ?_,H⟩;have t:a≠v:=fun e=>by rw[e,o] at q;cases q
   have c:=x7.1 j i a z s C (by simp [cV,q]);unfold put at c;rwa[if_neg t] at c
theorem apM(A:Bb at_ tab hl)(D:a∈hl)(F:∀c∈at_ a,sb c=true)(hit:tL sb env (at_ a) (tab a)=true){α:Type}(R:SR α)(E:Int->α):
 ∃y,y∈tab a/\(tab a).filter (fun y=>ey sb env (at_ a) y.1)= [y]/\dS R at_ tab E a env=E y.2:=by
 obtain⟨y,o,w⟩:=qG.1 hit;have u:=(adn (A.len a D y o) F).1 w;have m:=A.ap a D;have g:=A.len a D;have hF:Func (tab a):=fun c M b L x=>by
  rcases ju M with⟨i,H,rfl⟩;rcases ju L with⟨j,G,rfl⟩;rcases Tk i j with k|k|k
  ·exact absurd x (rH.1 m i j H G k)
  ·subst k;rfl
  ·exact absurd x.symm (rH.1 m j i G H k)
 refine⟨y,o,?_,?_⟩
 ·have f:∀z∈tab a,ey sb env (at_ a) z.1=true->z=y:=fun z r B=>hF z r y o (((adn (g z r) F).1 B).trans u.symm);revert m g f o;generalize tab a=t;intro o m g f;induction t with
  |nil=>cases o
  |cons z l K=>
   obtain⟨J,I⟩:=jI.1 m;by_cases r:ey sb env (at_ a) z.1=true
   ·have e:=f z Ou r;subst e;rw[List.filter_cons_of_pos (p:=fun y:List aM×Int=>ey sb env (at_ a) y.1) r,aal.2 fun q s C=>J q s (by rw[f q aAi C])]
   ·rw[List.filter_cons_of_neg (p:=fun y:List aM×Int=>ey sb env (at_ a) y.1) r];rcases aI.1 o with rfl|o
    ·exact absurd w r
    ·exact K o I (fun q s=>g q aAi) (fun q s=>f q aAi)
 ·unfold dS;rw[(OL hF).2 ⟨o,u⟩]
end
abbrev uW:TypeId:=32
abbrev Lx:TypeId:=203
abbrev Iq:TypeId:=338
def tM:Option Nat->Int
 |none=> -1
 |some a=>a
def je(n:Nat)(q:Nat->Option Nat):List Value:=(List.range n).map fun a=>av (tM (q a))
def O1(n:Nat)(q:Nat->Option Nat):(je n q).length=n:=by unfold je;simp
def DY(h:b<a):(je a y)[b]?=some (av (tM (y b))):=by unfold je;rw[dY,lX h];rfl
def abK(h:b<a):(je a y).set b (av (tM O))=je a (jA y b O):=by
 refine uz fun i=> ?_;rw[qF,O1];by_cases e:b=i
 ·subst e;rw[if_pos rfl,if_pos h,DY h];unfold jA;rw[if_pos rfl]
 ·rw[if_neg e];rcases cA i a with c|c
  ·rw[DY c,DY c];unfold jA;rw[if_neg (fM e)]
  ·rw[fH (by rw[O1];exact c),fH (by rw[O1];exact c)]
def an4{c:VS}(d:a<i.length)(h:(i.take a).find? c=none):(c i[a]=true->i.find? c=some i[a])/\(c i[a]=false->(i.take (a+1)).find? c=none):=by
 constructor
 ·intro b;have e:i.find? c=(i.take a++i.drop a).find? c:=by rw[sQ]
  rw[e,List.find?_append,h,i6 d,List.find?_cons,b];rfl
 ·intro b;rw[g9 d,List.find?_append,h];simp [b]
def wO(d a c b:Nat):Value:= .func (.func 285) #[] #[aJ d 0,aJ a 0,aJ c 0,aJ b 0]
def Only.kept{u:TypeId}(f:Only a m n)(h:ar m a w t)(d:w≠u):Kept u m n:=fun g i j c=>(f.block g (ie c) fun e=>by injection e with e;subst e;unfold ar at h;rw[h] at c;injection c with c;injection c with _ c;exact d c).trans c
def wn:=@Only.kept
structure MP(g:List Nat)(gb Yk ob pb QL:Nat)(w0 W:au)(q:Nat->Option Nat):Prop where
 ext:Ext w0 W
 o:ar W ob uW [aG pb 0 g.length g.length]
 pl:ar W QL Iq [wO gb Yk ob QL]
 p:ar W pb aU (je g.length q)
structure R3(g perm:List Nat)(A B:aS)(c gb Yk ob pb QL:Nat)(w0:au):Prop where
 gl:fY w0 (.slice A g.length g.length) g
 gx:ar w0 gb Lx [.slice A g.length g.length]
 il:IL w0 (.slice B perm.length c) (ints perm)
 px:ar w0 Yk 22 [.slice B perm.length c]
 hp:w0.heap.size<=pb
 ho:ob≠pb
 hl:QL≠pb
noncomputable def uS(g b:List Nat)(k:Nat)(u:Option Nat)(p:Nat->Option Nat)(c:VS):Nat->Option Nat:=match b.find? c with
 |some a=>jZ g.length (fP g) b k (VS.less c (VS.one a)) (some a) (jA p a u)
 |none=>p
def aku{g perm:List Nat}{k:Nat}{rest:VS}{u:Option Nat}{p:Nat->Option Nat}:jZ g.length (fP g) perm (k+1) rest u p=(parts (fP g) (List.range g.length) rest).foldl (uS g perm k u) p:=rfl
def P8(g c:List Nat)(h a f d b:Nat)(i:au)(k m:Nat)(u:Option Nat):Prop:=∀W q,MP g h a f d b i W q->
 Calls prog 285 #[.int .u64 (m:Int),av (tM u),aJ h 0,aJ a 0,aJ f 0,aJ b 0] W fun e j=>
  e= .returned (.tuple #[])/\MP g h a f d b i j (jZ g.length (fP g) c k m.testBit u q)/\Only d W j
def aoT{g perm:List Nat}(hg:mV g)(hN:R3 g perm E F a b c d e f m)(X:∀l∈perm,l<g.length){k rest:Nat}{u:Option Nat}(hr:rest<2^g.length)
 (hC:∀s l,s.testBit∈parts (fP g) (List.range g.length) rest.testBit->s.testBit l=true->P8 g perm b c d e f m k (ej s (2^l)) (some l)):P8 g perm b c d e f m (k+1) rest u:=by
 intro W q hS;obtain⟨M,L,r,U,hhp,hho,Rm⟩:=hN;obtain⟨he,ho,Y,hp⟩:=hS;have HG:=af hg;have hle:=hg.le;have HR:=af hr;have C8:=af X;have sO:=af hC;have HGL:=af M;have HGX:=af L;have d_:=af r;have HPX:=af U;have HE:=af he;have HO:=af ho;have Nh:=af Y;have HP:=af hp;have HPF:=af (aku (g:=g) (perm:=perm) (k:=k) (rest:=rest.testBit) (u:=u) (p:=q));have yC:=(bE r).2;have w:perm.length=(ints perm).length:=(bE r).1;have CO:=af (abL E g.length g.length g rest W (M.ext he) hg hr);have s0:=(L.ext he).aD 0;have y:=af w;clear hg hr X hC M L r U he ho Y hp w;go_enter func285,ntmps285;go_wp2_with fail
 refine CO.mono ?_;rintro e1 w1 ⟨v,n,rfl,hv,H,A,O⟩;obtain⟨A',c',rfl,hc1,hc2,HV⟩:=hv.parts;unfold maxLen at hc2;rw[<-H] at HPF;have HMS:ah (∀j,j<n.length->(n.getD j 0).testBit∈parts (fP g) (List.range g.length) rest.testBit/\n.getD j 0<2^g.length):=fun j J=>by rw[fG,aV J,<-H];exact⟨dH.2 ⟨_,aZ J,rfl⟩,A _ (aZ J)⟩
 have Gg:ah (∀j,j<n.length->((n.map Nat.testBit).take (j+1)).foldl (uS g perm k u) q=uS g perm k u (((n.map Nat.testBit).take j).foldl (uS g perm k u) q) (n.getD j 0).testBit):=fun j J=>by rw[fold_succ _ _ (by simpa using J),DK,fG,aV J];rfl
 have bB:ah (MP g b c d e f m w1 (((n.map Nat.testBit).take 0).foldl (uS g perm k u) q)):=⟨HE.trans O,HO.ext O,Nh.ext O,HP.ext O⟩;have HY1:ah (Only e W w1):=ei O;clear s0 hv H A O;go_upto_region 1 with fail
 go_loopw [9,11,16] (fun _ _ D wr=>∃j:Nat,j<=n.length/\D=av j/\ah (MP g b c d e f m wr (((n.map Nat.testBit).take j).foldl (uS g perm k u) q))/\ah (Only e W wr)/\ah (fY wr (.slice A' n.length c') n)) (fun _ _ D _=>n.length - (RowKit.intOf D).toNat)
 exact⟨0,aT _,rfl,bB,HY1,HV⟩;obtain⟨j,J,rfl,t,HY,HV⟩:=hrel;by_cases I:j<n.length
 ·obtain⟨gg,o,rfl,_,hc⟩:=fY.get HV I;have HM:=af (HMS j I);have HF:=af (Gg j I);generalize((n.map Nat.testBit).take j).foldl (uS g perm k u) q=qj at*;generalize n.getD j 0=s at*;have zw:=af (HG.ku HM.2);have hp0:=(HPX.ext t.ext).aD 0;have zC:ah ((perm.take 0).find? s.testBit=none):=rfl;obtain⟨wo,rfl⟩:∃wo:World,wo=wr:=⟨_,rfl⟩;go_upto_region 4 with fail
  clear hp0 hc;go_loopw [11,22] (fun _ C wq=>∃i:Nat,i<=perm.length/\C=av i/\ah ((perm.take i).find? s.testBit=none)/\wq=wo) (fun _ C _=>perm.length - (RowKit.intOf C).toNat);exact⟨0,aT _,rfl,zC,rfl⟩;obtain⟨i,hi,rfl,HI,rfl⟩:=hrel;by_cases r:i<perm.length
  ·obtain⟨g2,o2,rfl,_,hc⟩:=io (bX cI d_ t.ext) (i:=i) (by rw[<-y.ae];exact r);have Z:(ints perm)[i]'(by rw[<-y.ae];exact r)=((perm[i]:Nat):Int):=azT;rw[Z] at hc;have V:=C8 _ (aZ r);have HNX:=af (an4 r HI);clear Z;generalize perm[i]=l at*;have HH:=af (D8 s l wr zw Om);go_wp2_with fail
   refine HH.mono ?_;rintro e2 w2 ⟨rfl,rfl⟩;cases B:s.testBit l with
   |true=>
    have HFD:=af (HNX.1 B);have HQ:ah (P8 g perm b c d e f m k (ej s (2^l)) (some l)):=sO s l HM.1 B;have N:ah (uS g perm k u qj s.testBit=jZ g.length (fP g) perm k (ej s (2^l)).testBit (some l) (jA qj l u)):=(by unfold uS;rw[HFD.ae];simp only;rw[AU,rU];exact rfl)
    have s1:=t.o.aD 0;have s2:=t.p.frozen l;have s3:=t.p.cell (DY V);have gX:=t.p.lt;obtain⟨W',jp,B7,K7,P⟩:=gp (i:=l) t.p (av (tM u));rw[abK V] at B7;have FO:=af jp;clear B jp;go_upto_region 8 with fail
    rw[FO.ae];have F8:=af (t.o.only P hho);have awb:=af (t.pl.only P Rm);have JB:=af (t.ext.only P hhp);have za:=af (HY.trans P);have zh:ah (fY W' (aG gg o n.length c') n):=HV.keep rT fun u R=>by simp only[bG] at R;rw[R];exact wn P t.p Od
    clear s1 s2 s3 K7 hc gX P;have bL:ah (∀Q,ar Q f Iq [wO b c d f]->ay Q f 0 (wO b c d f)):=fun Q h=>h.cell rfl;have z:=af awb.drew;have HB8:=af B7.drew;have qs:=af F8.drew;have Gl:=af JB.drew;have MS:=af za.drew;have FQ:=af (bX rT zh (aC W').drew);clear B7;have zu:=af (ye l W'.drew Om);refine b9 (S:=fun Q=>ar Q f Iq [wO b c d f]) (T:=fun _=>false) Ok ?_;generalize W'.drew=wd at*;have aH:=z;refine ax 0 34 ?_;refine ax 1 35 ?_;refine ax 2 36 ?_;refine ax 5 39 ?_;refine aL 3 ?_;intro K hK;go_simp;refine zu.mono ?_;rintro e3 w3 ⟨rfl,rfl⟩;refine hK.ae _ _ (fun _=>aH.ae) ?_;clear hK;have HW:=af (A_ zw (Ew (show l<12 by omega)));generalize 2^l=pa at*;refine ax 4 38 ?_;rw[HW.ae];have rE:=af (HQ w3 _ ⟨Gl,qs,z,HB8⟩);rw[<-N.ae] at rE;refine aL 6 ?_;intro K hK;go_simp;refine rE.mono ?_;rintro e4 w4 ⟨rfl,x,G⟩;refine hK.ae _ _ (fun _=>x.pl) ?_;refine bY Ok ?_;rw[<-HF.ae] at x;have rD:=af x;have ZQ:=af (MS.trans G);have Jn:ah (fY w4 (aG gg o n.length c') n):=FQ.keep rT fun u R=>by simp only[bG] at R;rw[R];exact wn G HB8 Od
    clear hK x G;go_wp2;go_roundw;exact⟨j+1,by omega,by go_num,rD,ZQ,Jn⟩;simp [RowKit.intOf];omega
   |false=>have vG:=af (HNX.2 B);clear B;go_wp2;go_roundw;exact⟨i+1,by omega,by go_num,vG,trivial⟩;simp [RowKit.intOf];omega
  ·obtain rfl:i=perm.length:=Om;have N:ah (uS g perm k u qj s.testBit=qj):=(by have h:=HI.ae;rw[f9] at h;unfold uS;rw[ah,h])
   rw[N.ae] at HF;have d1:decide (perm.length<perm.length)=false:=Ou;go_wp2;go_roundw;exact⟨j+1,by omega,by go_num,by rw[HF.ae];exact t,HY,HV⟩;simp [RowKit.intOf];omega
 ·obtain rfl:j=n.length:=Om;have d1:decide (n.length<n.length)=false:=Ou;have d9:ah (MP g b c d e f m wr (jZ g.length (fP g) perm (k+1) rest.testBit u q)):=(by have h:=t.ae;rw[show n.length=(n.map Nat.testBit).length by simp,f9] at h;rw[HPF.ae];exact h)
  go_wp2;refine bodyPost_end (results_none rfl _ _ _) rfl ?_;exact⟨rfl,d9,HY⟩
def acI{g b:List Nat}{A B:aS}{c C h v t j:Nat}{s:au}(o:mV g)(z:R3 g b A B c C h v t j s)(l:∀a∈b,a<g.length):∀(k m:Nat) (u:Option Nat),m<2^g.length->VS.count g.length m.testBit<=k->P8 g b C h v t j s (k+1) m u
 |k,m,u,w,H=>aoT o z l w fun p a E r=>by
  obtain⟨x,G,q,e⟩:=z_ o.symm E;have f:∀y,p.testBit y=true->m.testBit y=true:=fun y D=>rR o.symm q (by rw[<-e];exact D);have d:p<2^g.length:=by
   refine Nat.lt_pow_two_of_testBit _ fun i I=> ?_;cases F:p.testBit i with
   |false=>rfl
   |true=>exact absurd (tk w (f i F)) Om
  have K:=xP (n:=g.length) f;have J:=uG (n:=g.length) r (tk d r);match k with
  |0=>omega
  |k+1=>exact acI o z l k _ _ (zV d aAg) (aem d r k Om)
def O9(n:Nat)(h:n<=1000)(w:au):
 (Instr.makeSlice 22 (av (n:Int)) (av (n:Int))).run prog w= .ok (aG w.heap.size 0 n n) (w.alloc (.cells (je n fun _=>some 0).toArray aU)):=by
 obtain⟨g,a,d,c,b⟩:=info_parts (show(prog.info? aU).map (fun i=>(i.zero,i.size,i.bytes))=some (some (av 0),1,8) by kernel_rfl);have f:=run_make (P:=prog) w 22 aU g (av 0) underlying22 a d .i64 .i64 (n:Int) (n:Int) Om (AB _) (by rw[b];omega) Om;simp only[kF,c,l8,Value.cells,Ai] at f;rw[f];have e:List.replicate n (Value.int .i64 0)=je n fun _=>some 0:=by
  refine uz fun i=> ?_;rcases cA i n with a|a
  ·rw[DY a,Dv,if_pos a];rfl
  ·rw[fH aza,fH (by rw[O1];exact a)]
 rw[e]
noncomputable def nN(x:aQ)(a:List Nat):Nat->Option Nat:=jZ x.aq.length (fP (ik x.aq.length x.aA)) a (x.aq.length+1) (jC x.aq.length) none fun _=>some 0
def q78.Xi(h:ai:=by
 have BP1:=af (BP.ext hx);have vM:=af (BR.ext hx);clear s0 s1 s2 s3 hx hv BX BP BR;go_upto_region 2 with fail
 refine aP fun r l BG=> ?_;have s0:=BG.aD 0;go_upto_region 3 with fail
 refine fX fun W3 bZ BPA BO=> ?_;clear s0 lR;go_upto_region 4 with fail
 refine aP fun W4 H BL=> ?_;have f0:=BL.frozen 0;have s0:=BL.aD 0;obtain⟨E,U,B5,K5,N5⟩:=gp (i:=0) BL (wO w1.heap.size (w.heap.size+1) (r.heap.size+1) W3.heap.size);have X:=af U;unfold wO at X;clear U;go_upto_region 5 with fail
 rw[X.ae];have h21:=BO.lt;have h12:=BG.lt;have h01:=vM.lt;have hws:=bW.size;have n:ah (Ext r E):=(bZ.trans H).only N5.ae Om;have xL:=af ((BO.ext H).only N5.ae Om);have aw4:=af ((BPA.ext H).only N5.ae Om);have HPN:ah (R3 g b A1 B c w1.heap.size (w.heap.size+1) (r.heap.size+1) r.heap.size W3.heap.size r):=
  ⟨bX rT uk l,BG,bX cI d_ (bW.trans l),BP1.ext l,aK _,by omega,by omega⟩
 have Z:=af (HPC _ _ _ _ _ _ _ HPN);have HG5:=af (BG.ext n);have HL5:=af (bX rT uk (l.trans n));have kh:=af (vM.ext (l.trans n));have nY:ah (Ext w E):=bW.trans (l.trans n);have O:w.heap.size<=r.heap.size:=Om;have F:w.heap.size+1+1≠r.heap.size:=Om;have Za:w1.heap.size≠r.heap.size:=Om;clear f0 s0 K5 N5 BL BO BPA BG h21 h12 h01;obtain⟨rb,M⟩:∃rb,w.heap.size+1+1=rb:=⟨_,rfl⟩;have L:w.heap.size<=rb:=Om;rw[M] at kh F⊢;clear M;generalize w1.heap.size=q at*;generalize w.heap.size+1=k at*;generalize W3.heap.size=f at*;obtain⟨C,P⟩:∃C,r.heap.size+1=C:=⟨_,rfl⟩;rw[P] at xL Z B5⊢;clear P;generalize r.heap.size=s at*;have bL:ah (∀j,(ar j f Iq [wO q k C f]/\ar j q Lx [.slice A1 g.length g.length])->ay j f 0 (wO q k C f)/\ay j q 0 (.slice A1 g.length g.length)):=fun j h=>⟨h.1.cell rfl,h.2.cell rfl⟩;have aH:ah (ar E.drew f Iq [wO q k C f]/\ar E.drew q Lx [.slice A1 g.length g.length]):=⟨B5.drew,HG5.drew⟩;have SL:=af (HAX A1 E.drew (bX rT HL5 (aC E).drew));have Y:=af (Z E.drew _ ⟨n.drew,xL.drew,B5.drew,aw4.drew⟩);rw[<-I.ae] at Y;have en:=af nY.drew;have qA:=af kh.drew;clear B5;refine b9 (S:=fun j=>ar j f Iq [wO q k C f]/\ar j q Lx [.slice A1 g.length g.length]) (T:=fun _=>false) Ok ?_;generalize E.drew=wd at*;refine ax 0 15 ?_;refine ax 1 16 ?_;refine aL 2 ?_;intro K V;go_simp;refine SL.mono ?_;rintro e2 w2 ⟨rfl,rfl⟩;refine V.ae _ _ (fun _=>aH.ae) ?_;clear V;refine aL 3 ?_;intro K V;go_simp;refine Y.mono ?_;rintro e3 w3 ⟨rfl,u,t⟩;refine V.ae _ _ (fun _=>⟨u.pl,aH.2.only t Za⟩) ?_;refine bY Ok ?_;have J:=af (qA.only t F);have iy:=af (en.only t O);have BP7:=af u.p;have s0:=u.o.aD 0;have r0:=J.aD 0;have f0:=J.frozen 0;obtain⟨W8,R,B8,K8,N8⟩:=gp (i:=0) J (aG s 0 g.length g.length);have MW:=af R;have jS:=af (iy.only N8 L);have NV:=af (BP7.only N8 (fM F));clear V u t R K8 N8;go_wp2_with fail
 rw[MW.ae];exact bodyPost_ret (results_cell_row rfl _ _ rb uW #[aG s 0 g.length g.length] (0,0) _ rfl B8.ae underlying32 rfl Ok) rfl ⟨s,rfl,NV,O,jS⟩):=h
def ao6(v:Value)(x:aQ)(B:aS)(c:Nat)(b:List Nat)(w:au)(h:dK w v x)(ok:cF x)(hp:IL w (.slice B b.length c) (ints b))(z:∀a∈b,a<x.aq.length):
 Calls prog 257 #[v,.slice B b.length c] w fun e j=>∃s,e= .returned (.agg #[aG s 0 x.aq.length x.aq.length])/\ar j s aU (je x.aq.length (nN x b))/\w.heap.size<=s/\Ext w j:=by
 have CN:=af (fun W (hx:Ext w W)=>Vm v x W (h.ext hx) ok);have G:=AJ ok.ri;have hg:=G.ok ok.a12;have Q:=G.len;have I:ah (nN x b=jZ x.aq.length (fP (ik x.aq.length x.aA)) b (x.aq.length+1) (jC x.aq.length) none fun _=>some 0):=rfl;generalize nN x b=pF at*;generalize ik x.aq.length x.aA=g at*;obtain⟨A,c1,B1,d,D,e,rfl,ha,hr,hf⟩:=h;obtain⟨N,hN⟩:∃N,x.aq.length=N:=⟨_,rfl⟩;rw[hN] at CN Q I z⊢;subst Q;have hle:=hg.le;have HG:=af hg;have d_:=af hp;have C8:=af z;have lR:=O9 g.length Om;have HAX:=af (fun A j (h:fY j (.slice A g.length g.length) g)=>adS A g.length g.length g j h hle);have m:(2^g.length - 1).testBit=jC g.length:=by
  funext y
  rw[aju];rfl
 have HPC:=af (fun(A:aS) (q k C s f:Nat) (w0:au) (hN:R3 g b A B c q k C s f w0)=>acI (A:=A) hg hN z g.length (2^g.length - 1) none az' (by rw[m,Hl];exact aK _));rw[<-m] at I;generalize 2^g.length - 1=all at*;clear hg hp z G ha hr hf ok hN m;go_enter func257,ntmps257;go_upto_region 1 with fail
 refine sf fun W HX BX BP BR=> ?_;open q78 in exact WX
def aoS{b:Act}(h:b.tmps[a]?=some p):b.put (some a) p=b:=by
 obtain⟨tmps,c⟩:=b;simp only[Act.put,Act.mk.injEq,and_true];apply Array.ext
 ·simp
 ·intro i g f;rw[Array.getElem_setIfInBounds];split
  ·rename_i e;subst e;rw[aae f] at h;injection h with h;exact h.symm
  ·rfl
def aqF(a:Act)(d:Nat)(u v:Value):(a.put (some d) u).put (some d) v=a.put (some d) v:=by obtain⟨c,b⟩:=a;simp [Act.put,Array.setIfInBounds_setIfInBounds]
section
variable{P:Program}{ops:Array Oper}{Q:Exit->Act->World->Prop}{md:Region.Mode}{S:World->Prop}{T:Nat->Bool}
section
variable{fT i1 d1 i2 d2 base:Nat}{t1 t2:TypeId}{z1 z2:List Value}
end
end
def fA(a:Act):List Nat->Nat->(Nat->Value)->Act
 | [],_,_=>a
 |d::ds,k,b=>(fA a ds (k+1) b).put (some d) (b k)
def yr(a:Nat->Value)(k:Nat)(v:Value):Nat->Value:=fun j=>if j=k then v else a j
def aa3{a:Act}{b Yf:Nat->Value}:∀{ds:List Nat} {k:Nat},(∀j,k<=j->b j=Yf j)->fA a ds k b=fA a ds k Yf
 | [],_,_=>rfl
 |d::ds,k,h=>by unfold fA;rw[aa3 (ds:=ds) (k:=k+1) fun j c=>h j Om,h k (aK _)]
def abH{a:Act}{f:Nat->Value}{v:Value}:∀{ds:List Nat} {b i d:Nat},ds.Nodup->ds[i]?=some d->(fA a ds b f).put (some d) v=fA a ds b (yr f (b+i) v)
 | [],_,_,_,_,h=>by simp at h
 |c::ds,b,0,d,l,h=>by simp only[dR,dG] at h;subst h;unfold fA;rw[aqF,aa3 (Yf:=yr f (b+0) v) fun j q=>by unfold yr;rw[if_neg Om]];congr 1;unfold yr;rw[if_pos Om]
 |c::ds,b,i+1,d,l,h=>by
  obtain⟨o,n⟩:=ja.1 l;have m:ds[i]?=some d:=azd;have g:c≠d:=fun e=>o (e▸uy m);unfold fA;rw[Act.put_comm _ _ _ (fun e k=>by injection k with k;simp [<-k,fM g]),abH n m];have p:yr f (b+(i+1)) v b=f b:=by unfold yr;rw[if_neg Om]
  rw[p,show b+1+i=b+(i+1) by omega]
def abg{a:Act}{e:Nat->Value}:∀{ds:List Nat} {b:Nat},(∀i d,ds[i]?=some d->a.tmps[d]?=some (e (b+i)))->fA a ds b e=a
 | [],_,_=>rfl
 |d::ds,b,h=>by unfold fA;rw[abg fun i c f=>by have:=h (i+1) c azG;rwa[show b+1+i=b+(i+1) by omega]];exact aoS (by simpa using h 0 d rfl)
structure uQ where
 i:Nat
 d:Nat
 R:Value->World->Prop
section
variable{P:Program}{ops:Array Oper}{Q:Exit->Act->World->Prop}{md:Region.Mode}{S:World->Prop}{T:Nat->Bool}
def Ld(md:Region.Mode)(ops:Array Oper)(is:List Nat)(deps:List (List Nat))(Lf:Array Bool):Nat->List Nat->Array Bool->Bool
 |0,a,L=>a.isEmpty&&L==Lf
 |f+1,a,L=> !(Region.ready md ops L).isEmpty&&(Region.ready md ops L).all fun i=>a.any fun k=>is.getD k 0==i&&(deps.getD k []).all (fun j=> !a.contains j&&decide (j<is.length))&&Ld md ops is deps Lf f (a.erase k) (L.setIfInBounds (is.getD k 0) true)
variable{items:List uQ}{I:World->Prop}{D:Value->Value->Prop}{a0:Act}{ds is:List Nat}{deps:List (List Nat)}{Lf:Array Bool}{fT:Nat}
theorem cG.aft(y:items.map (·.i)=is)(H:items.map (·.d)=ds)(hn:ds.Nodup)(J:∀w,I w->S w)
 (hstep:∀(k:Nat) (b:uQ),items[k]?=some b->∀(g:Nat->Value) (w:au),I w->(∀j∈deps.getD k [],∀(c:uQ),items[j]?=some c->c.R (g j) w)->(∀j∈deps.getD k [],∀p∈deps.getD k [],j≠p->D (g j) (g p))->∀o,ops[b.i]?=some o->∀K:Act->World->Prop,ah (∀v E,I E->b.R v E->(∀(j:Nat) (c:uQ),items[j]?=some c->j≠k->∀u,c.R u w->c.R u E/\D u v/\D v u)->K ((fA a0 ds 0 g).put (some b.d) v) E)->if Region.wanted o (yielded ops (fA a0 ds 0 g).tmps)=true then o.wp P (fA a0 ds 0 g) w K Q else K ((fA a0 ds 0 g).put o.dst undef) w)
 (A:∀(g:Nat->Value) (w:au),I w->(∀(k:Nat) (b:uQ),items[k]?=some b->b.R (g k) w)->(∀(j k:Nat),j<items.length->k<items.length->j≠k->D (g j) (g k))->cG P md ops Q S T fT Lf (fA a0 ds 0 g) w):
 ∀(f:Nat) (a:List Nat) (L:Array Bool) (g:Nat->Value) (w:au),Ld md ops is deps Lf f a L=true->a.Nodup->(∀k∈a,k<items.length)->I w->(∀(k:Nat) (b:uQ),items[k]?=some b->k∉a->b.R (g k) w)->
  (∀(j k:Nat),j<items.length->k<items.length->j∉a->k∉a->j≠k->D (g j) (g k))->cG P md ops Q S T (f+fT) L (fA a0 ds 0 g) w
 |0,a,L,g,w,z,_,_,W,F,N=>by
  unfold Ld at z;rw[cZ,beq_iff_eq] at z;obtain⟨G,rfl⟩:=z;have G:a= []:=by simpa using G
  subst G;rw[jc];exact A g w W (fun k b C=>F k b C Ou) (fun j k n U=>N j k n U Ou Ou)
 |f+1,a,L,g,w,z,hr,hl,W,F,N=>by
  unfold Ld at z;rw[cZ] at z;obtain⟨G,h2⟩:=z;rw[show f+1+fT=(f+fT)+1 by omega];refine⟨fun h0=>by rw[h0] at G;simp at G,fun i hi=> ?_⟩;rw[uD] at h2;obtain⟨k,U,q⟩:=qG.1 (h2 i hi);rw[cZ,cZ] at q;obtain⟨⟨q,r⟩,h4⟩:=q;have r:∀j∈deps.getD k [],j∉a/\j<items.length:=fun j n=>by have h:=uD.1 r j n;rw[cZ,uA,<-uE,pD,decide_eq_true_eq,<-y,cy] at h;exact h
  have O:=hl k U;have C:items[k]?=some items[k]:=aV O;have q:i=items[k].i:=(by rw[beq_iff_eq] at q;rw[<-q,<-y,fG,dY,C];rfl)
  subst q;have V:ds[k]?=some items[k].d:=by rw[<-H,dY,C];rfl
  rw[show is.getD k 0=items[k].i by rw[<-y,fG,dY,C];rfl] at h4;refine cG.of (items[k].i) hi fun o ho K hK=> ?_;refine hstep k _ C g w W (fun j n c z=>F j c z (r j n).1) (fun j n p t l=>N j p (r j n).2 (r p t).2 (r j n).1 (r p t).1 l) o ho K fun v E M hv B=> ?_;rw[abH hn V,jc];refine hK.ae _ _ (fun _=>J _ M) ?_;have m:∀j,j∉a.erase k->j≠k->j∉a:=fun j n l hm=>n ((List.mem_erase_of_ne l).2 hm);refine cG.aft y H hn J hstep A f (a.erase k) _ (yr g k v) E h4 (hr.erase k) (fun j n=>hl j (List.mem_of_mem_erase n)) M (fun j b s n=> ?_) (fun j p n t Z Y l=> ?_)
  ·unfold yr;by_cases e:j=k
   ·subst e;rw[if_pos rfl];rw[C] at s;injection s with s;rw[<-s];exact hv
   ·rw[if_neg e];exact(B j b s e _ (F j b s (m j n e))).1
  ·unfold yr;by_cases e:j=k
   ·subst e;rw[if_pos rfl,if_neg (fM l)];have x:items[p]?=some items[p]:=aV t;exact(B p _ x (fM l) _ (F p _ x (m p Y (fM l)))).2.2
   ·by_cases X:p=k
    ·subst X;rw[if_neg e,if_pos rfl];have x:items[j]?=some items[j]:=aV n;exact(B j _ x e _ (F j _ x (m j Z e))).2.1
    ·rw[if_neg e,if_neg X];exact N j p n t (m j Z e) (m p Y X) l
theorem cG.RR(items:List uQ)(I:World->Prop)(D:Value->Value->Prop)(is ds:List Nat)(deps:List (List Nat))(Lf:Array Bool)(f fT:Nat){g:Act}(y:a=f+fT)
 (p:items.map (·.i)=is) (z:items.map (·.d)=ds) (G:ds.Nodup) (s:ds.all (fun d=>decide (d<g.tmps.size))=true) (A:Ld md ops is deps Lf f (List.range is.length) N=true) (B:∀m,I m->S m) (M:I m)
 (hstep:∀(k:Nat) (b:uQ),items[k]?=some b->∀(l:Nat->Value) (m:au),I m->(∀j∈deps.getD k [],∀(c:uQ),items[j]?=some c->c.R (l j) m)->(∀j∈deps.getD k [],∀E∈deps.getD k [],j≠E->D (l j) (l E))->∀o,ops[b.i]?=some o->∀K:Act->World->Prop,ah (∀v r,I r->b.R v r->(∀(j:Nat) (c:uQ),items[j]?=some c->j≠k->∀u,c.R u m->c.R u r/\D u v/\D v u)->K ((fA g ds 0 l).put (some b.d) v) r)->if Region.wanted o (yielded ops (fA g ds 0 l).tmps)=true then o.wp P (fA g ds 0 l) m K Q else K ((fA g ds 0 l).put o.dst undef) m)
 (q:∀(l:Nat->Value) (m:au),I m->(∀(k:Nat) (b:uQ),items[k]?=some b->b.R (l k) m)->(∀(j k:Nat),j<items.length->k<items.length->j≠k->D (l j) (l k))->cG P md ops Q S T fT Lf (fA g ds 0 l) m):
 cG P md ops Q S T a N g m:=by
 have n:is.length=items.length:=by rw[<-p];simp
 have e:fA g ds 0 (fun k=>g.tmps.getD (ds.getD k 0) undef)=g:=abg fun i d F=>by
  rw[jc,fG,F];have C:=uD.1 s d (uy F);have C:d<g.tmps.size:=by simpa using C
  simp [Array.getD,C]
 rw[y];have h:=cG.aft p z G B hstep q f (List.range is.length) N (fun k=>g.tmps.getD (ds.getD k 0) undef) m A sV (fun k t=>by rw[<-n];exact dP.1 t) M
  (fun k b J t=>absurd (dP.2 (by rw[n];exact(vO.1 J).1)) t) (fun j k H _ x _ _=>absurd (dP.2 (by rw[n];exact H)) x)
 rwa[e] at h
end
abbrev cO:TypeId:=22
structure cU(w:au)(base:Nat)(vs:List Value)(ls:List (List Nat)):Prop where
 len:vs.length=ls.length
 own:∀(i:Nat) (v:Value) (l:List Nat),vs[i]?=some v->ls[i]?=some l->bH aU 1 dr base w v (ints l)
 ap:∀(i j:Nat) (v u:Value),vs[i]?=some v->vs[j]?=some u->i≠j->∀b,v.ownBlock=some b->u.ownBlock≠some b
def kI(l:List Nat):(ints l).length=l.length:=by unfold ints;simp
def Ku(l:List Nat)(a:Nat):ints (l++ [a])=ints l++ [(a:Int)]:=by unfold ints;rw[mL];rfl
section
variable{w w':au}{base:Nat}{vs:List Value}{ls:List (List Nat)}
theorem bH.blk{α:Type}{R:World->List Value->α->Prop}{l:List α}(h:bH x a R base w p l)(d:p.ownBlock=some b):base<=b/\b<w.heap.size/\∃c,w.heap[b]?=some (.cells c x (0,0)):=by
 obtain⟨j,f,_⟩:=h;have e:=f.lt b d;refine⟨e.1,e.2,?_⟩;rcases f.2 with⟨rfl,_⟩|⟨m,i,c,rfl,_,g,_⟩
 ·cases d
 ·simp only[Value.ownBlock,dG] at d;subst d;exact⟨c,g⟩
theorem bH.lower{α:Type}{R:World->List Value->α->Prop}{l:List α}(h:bH x a R c w p l)(n:b<=c):bH x a R b w p l:=by
 obtain⟨j,⟨r,d⟩,q⟩:=h;refine⟨j,⟨r,?_⟩,q⟩;rcases d with d|⟨g,i,f,e,m,o⟩
 ·exact .inl d
 ·exact .inr ⟨g,i,f,e,a8 n m,o⟩
theorem cU.at_(h:cU w base vs ls)(c:a<ls.length):∃v,vs[a]?=some v/\bH aU 1 dr base w v (ints ls[a]):=by have b:vs[a]?=some (vs[a]'(by rw[h.len];exact c)):=aV _;exact⟨_,b,h.own a _ _ b (aV c)⟩
theorem cU.grown(h:cU w base vs ls)(f:w.grownBy w' O)(c:∀k,O=some k->∀v∈vs,v.ownBlock≠some k):cU w' base vs ls:=
 ⟨h.len,fun i v l a d=>(h.own i v l a d).grown cI f (fun k e=>c k e v (uy a)) Oy9,h.ap⟩
theorem cU.ext(h:cU w base vs ls)(a:Ext w w'):cU w' base vs ls:=h.grown (Ph a) fun k b=>by cases b
theorem cU.only(h:cU w base vs ls){l:List Value}(m:Only g w w')(e:ar w g x l)(j:x≠aU):cU w' base vs ls:=h.grown m fun k b v f n=>by
 injection b with b;subst b;obtain⟨i,d⟩:=List.getElem?_of_mem f;have c:i<ls.length:=by rw[<-h.len];exact(vO.1 d).1
 obtain⟨_,_,o,a⟩:=(h.own i v _ d (aV c)).blk n;unfold ar at e;rw[e] at a;injection a with a;injection a with _ a;exact j a
theorem cU.low(h:cU w base vs ls)(f:Only a w w')(l:a<base):cU w' base vs ls:=h.grown f fun k b v e j=>by
 injection b with b;subst b;obtain⟨i,d⟩:=List.getElem?_of_mem e;have c:i<ls.length:=by rw[<-h.len];exact(vO.1 d).1
 have:=((h.own i v _ d (aV c)).blk j).1;omega
theorem cU.app(h:cU w base vs ls){i x:Nat}(B:vs[i]?=some p)(r:i<ls.length)(n:w.ownsRow base aU 1 p (ints ls[i]).length t)(F:Ch (dr w) t (ints ls[i]))
 (D:w'.ownsRow base aU 1 q ((ints ls[i]).length+1) (t++ [av (x:Int)])) (C:w.grownBy w' p.ownBlock) (hb:q.ownBlock=p.ownBlock\/∃k,q.ownBlock=some k/\w.heap.size<=k):cU w' base (vs.set i q) (ls.set i (ls[i]++ [x])):=by
 have y:∀(j:Nat) (u:Value),vs[j]?=some u->∀b,u.ownBlock=some b->b<w.heap.size:=fun j u hu b hb=>by exact agC
 have o:∀(j:Nat) (u:Value),vs[j]?=some u->i≠j->∀b,q.ownBlock=some b->u.ownBlock≠some b:=fun j u hu c b d m=>by
  rcases hb with hb|⟨k,z,E⟩
  ·exact h.ap i j p u B hu c b (by rw[<-hb];exact d) m
  ·rw[z] at d;injection d with d;have:=y j u hu b m;omega
 refine⟨by rw[lY,lY,h.len],fun j u l hu g=> ?_,fun j s u A hu a e=> ?_⟩
 ·rw[qF] at hu g;by_cases c:i=j
  ·subst c;rw[if_pos rfl,if_pos aAo] at hu;rw[if_pos rfl,if_pos r] at g;injection hu with hu;injection g with g;subst hu g;rw[Ku];exact iN (R:=dr) (x:=(x:Int)) cI Oy9 n F rfl D C
  ·rw[if_neg c] at hu g;exact(h.own j u l hu g).grown cI C (fun k z m=>h.ap i j p u B hu c k z m) Oy9
 ·rw[qF] at hu a;by_cases c:i=j
  ·subst c;rw[if_pos rfl,if_pos aAo] at hu;rw[if_neg e] at a;injection hu with hu;subst hu;exact o s A a e
  ·rw[if_neg c] at hu;by_cases f:i=s
   ·subst f;rw[if_pos rfl,if_pos aAo] at a;injection a with a;subst a;exact fun b hb m=>o j u hu (fM e) b m hb
   ·rw[if_neg f] at a;exact h.ap j s u A hu a e
theorem cU.put(h:cU w base vs ls){i:Nat}(x:Ext w w')(m:i<ls.length)(t:bH aU 1 dr w.heap.size w' p (ints k))(hb:base<=w.heap.size):cU w' base (vs.set i p) (ls.set i k):=by
 have q:∀(j:Nat) (u:Value),vs[j]?=some u->∀b,u.ownBlock=some b->b<w.heap.size:=fun j u hu b hb=>by exact agC
 have f:∀(j:Nat) (u:Value),vs[j]?=some u->∀b,p.ownBlock=some b->u.ownBlock≠some b:=fun j u hu b o r=>by have y:=(t.blk o).1;have v:=q j u hu b r;omega
 have v:=h.ext x;refine⟨by rw[lY,lY,h.len],fun j u l hu e=> ?_,fun j n u s hu a g=> ?_⟩
 ·rw[qF] at hu e;by_cases c:i=j
  ·subst c;rw[if_pos rfl,if_pos aAp] at hu;rw[if_pos rfl,if_pos m] at e;injection hu with hu;injection e with e;subst hu e;exact t.lower hb
  ·rw[if_neg c] at hu e;exact v.own j u l hu e
 ·rw[qF] at hu a;by_cases c:i=j
  ·subst c;rw[if_pos rfl,if_pos aAp] at hu;rw[if_neg g] at a;injection hu with hu;subst hu;exact f n s a
  ·rw[if_neg c] at hu;by_cases d:i=n
   ·subst d;rw[if_pos rfl,if_pos aAp] at a;injection a with a;subst a;exact fun b hb r=>f j u hu b r hb
   ·rw[if_neg d] at a;exact h.ap j n u s hu a g
theorem cU.WW(w:au)(base n:Nat):cU w base (List.replicate n (.slice none 0 0)) (List.replicate n []):=
 ⟨by simp,fun i v l a c=>by
  have a:=(sU.1 (uy a)).2;have c:=(sU.1 (uy c)).2;subst a c;exact f_,fun i j v u a _ _ b d=>by
  have a:=(sU.1 (uy a)).2;subst a;cases d⟩
end
def cU.RT{w:au}{base:Nat}{vs:List Value}{ls:List (List Nat)}(h:cU w base vs ls)(g:ls[a]?=some i):∃A c b,vs[a]?=some (.slice A i.length c)/\ah (w.ownsRow base aU 1 (.slice A i.length c) i.length b)/\ah (Ch (dr w) b (ints i)):=by obtain⟨j,rfl⟩:=vO.1 g;obtain⟨v,d,f⟩:=h.at_ j;obtain⟨A,c,b,rfl,_,_,e,k⟩:=f.parts;rw[kI] at d e;exact⟨A,c,b,d,e,k⟩
def cU.aiS{w w':au}{base:Nat}{vs:List Value}{ls:List (List Nat)}(h:cU w base vs ls)(d:vs[a]?=some p)(f:ls[a]?=some i)(c:w.ownsRow base aU 1 p i.length t)(m:Ch (dr w) t (ints i))
 (e:w'.ownsRow base aU 1 q (i.length+1) (t++ [av (b:Int)])) (j:w.grownBy w' p.ownBlock) (n:q.ownBlock=p.ownBlock\/∃k,q.ownBlock=some k/\w.heap.size<=k):cU w' base (vs.set a q) (ls.set a (i++ [b])):=by
 obtain⟨g,rfl⟩:=vO.1 f;exact h.app d g (by rw[kI];exact c) m (by rw[kI];exact e) j n
abbrev sI:=Ls cO (oV aU dr)
def sI.jN:j7 [aU,aU] (oV aU dr):=fun w w' c x b h=>oV.jN (T:= []) cI w w' c x (fun t a=>b t aza) h
def cU.ch{w:au}{base:Nat}:∀{vs:List Value} {ls:List (List Nat)},cU w base vs ls->Ch (oV aU dr w) vs (ls.map ints)
 | [],[],_=>rfl
 | [],_::_,h=>by have:=h.len;simp at this
 |_::_,[],h=>by have:=h.len;simp at this
 |v::vs,l::ls,h=>by have b:=h.own 0 v l rfl rfl;obtain⟨A,c,g,rfl,_,_,_,_⟩:=b.parts;refine⟨[.slice A (ints l).length c],vs,rfl,⟨A,c,rfl,b.ls⟩,?_⟩;exact cU.ch ⟨by have:=h.len;simpa using this,fun i v l a e=>h.own (i+1) v l aza azm,fun i j v u a d f=>h.ap (i+1) (j+1) v u aza azH Om⟩
def cU.Yv{w:au}{base:Nat}{vs:List Value}{ls:List (List Nat)}(h:cU w base vs ls)(d:ar w a cO vs)(c:ls.length=b)(e:b<=1000):sI w (aG a 0 b b) (ls.map ints):=by have:=mf (R:=oV aU dr) d h.ch Oc;simpa [c] using this
def Li(m:Nat):List Nat:=(List.range 12).filter m.testBit
def ad0(d:a<2^b)(g:b<=12):Li a=(List.range b).filter a.testBit:=by
 unfold Li;have e:List.range 12=List.range b++(List.range (12 - b)).map (b+·):=by rw[<-List.range_add];congr 1;omega
 have f:((List.range (12 - b)).map (b+·)).filter a.testBit= []:=aal.2 fun x c=>by obtain⟨y,_,rfl⟩:=dH.1 c;rw[aaj (cE d (gM Om Om))];decide
 rw[e,rI,f,kG]
def anm(m:Nat)(w:au)(E:m<4096):
 Calls prog 284 #[.int .u64 m] w fun e w'=>∃v,e= .returned v/\bH aU 1 dr w.heap.size w' v (ints (Li m))/\Ext w w':=by
 have A:=af E;go_enter func284,ntmps284;go_upto_region 3 with fail
 go_loopw [3,4] (fun B k wr=>∃a:Nat,a<=12/\k=av a/\ah (bH aU 1 dr w.heap.size wr B (ints ((List.range a).filter m.testBit)))/\ah (Ext w wr)) (fun _ k _=>12 - (RowKit.intOf k).toNat)
 exact⟨0,aT _,rfl,f_,aC _⟩;obtain⟨a,G,rfl,g,f⟩:=hrel;by_cases q:m/2^a=0
 ·have o:m<2^a:=by
   rcases cA m (2^a) with h|h
   ·exact h
   ·have:=Nat.div_pos h (zZ a);omega
  have J:ah ((List.range a).filter m.testBit=Li m):=(ad0 o G).symm;rw[J.ae] at g;have d1:((m:Int)/2^a !=0)=false:=by rw[Wu,q];rfl
  go_wp2;go_ret;exact⟨_,rfl,g,f⟩
 ·have y:a<12:=by
   rcases cA a 12 with h|h
   ·exact h
   ·exact absurd (Oq (cE A (gM (n:=2) (i:=12) Om h))) q
  have d1:((m:Int)/2^a !=0)=true:=by rw[Wu,bne_iff_ne];exact Int.natCast_ne_zero.2 q
  have I:=af (D8 m a wr A Om);have j:ah ((List.range (a+1)).filter m.testBit=(List.range a).filter m.testBit++if m.testBit a=true then [a] else []):=(by rw[ah,GQ,rI];congr 1;by_cases d:m.testBit a=true<;>simp [d])
  have F:((List.range a).filter m.testBit).length<=a:=by have:=mK m.testBit (List.range a);simpa using this
  go_wp2_with fail
  refine I.mono ?_;rintro P N ⟨rfl,rfl⟩;cases d:m.testBit a with
  |false=>
   rw[d] at j;have r:ah ((List.range (a+1)).filter m.testBit=(List.range a).filter m.testBit):=by rw[ah,j.ae];simp
   go_wp2;go_roundw;exact⟨a+1,by omega,by go_num,by rw[r.ae];exact g,f⟩;simp [RowKit.intOf];omega
  |true=>
   rw[d,if_pos rfl] at j;generalize(List.range a).filter m.testBit=H at*;obtain⟨S,Q,L,rfl,_,t,b,s⟩:=g.parts;have C:=f.size;have p:((ints H).length+1)*8<=140737488355328:=by rw[kI];omega
   go_wp2_with (at_builtin;refine gG rfl _ _ cO rfl w.heap.size jy _ _ _ rfl b.ae #[av (a:Int)] 1 1 rfl rfl rfl p C ?_)
   intro O M l c _;have z:=af (iN (R:=dr) (x:=(a:Int)) cI Oy9 b s rfl l c);rw[<-Ku,<-j.ae] at z;have K:=af (jV f b c (aK _));go_wp2;go_roundw;exact⟨a+1,by omega,by go_num,z,K⟩;simp [RowKit.intOf];omega
def tv(n:Nat)(p:Nat->Option Nat)(v:Nat):List Nat:=(fj n p (fun _=> []) v).vars
def J4{a:Nat->List Nat}{f:Nat->Fo}:∀l:List Nat,(eD a f l).vars=l.flatMap fun c=>c::(f c).vars
 | []=>rfl
 |c::l=>by
  show c::((f c).vars++(eD a f l).vars)=_
  rw[J4 l,vP];rfl
def afC(r:dp a y J)(v:Nat):tv a y v=v::(kids a y (some v)).flatMap (tv a y):=by have h:j4 a y (fun _=> []) v=eD (fun _=> []) (j4 a y (fun _=> [])) (kids a y (some v)):=uF r Om;unfold tv fj;simp only[Fo.vars,kG];rw[h,J4]
def aaA{n:Nat}{p:Nat->Option Nat}{b h2:Nat->List Nat}:∀(k:Nat) (u:Option Nat),(eF n p b k u).vars=(eF n p h2 k u).vars
 |0,_=>rfl
 |k+1,u=>by
  show(eD b (fun a=>eF n p b k (some a)) (kids n p u)).vars=(eD h2 (fun a=>eF n p h2 k (some a)) (kids n p u)).vars
  rw[J4,J4];congr 1;funext c;rw[aaA k (some c) (h2:=h2)]
def aqp(v:Nat):(fj a y A v).vars=tv a y v:=by unfold tv fj j4;simp only[Fo.vars];rw[aaA a (some v) (h2:=fun _=> [])]
def qT(n:Nat)(p:Nat->Option Nat)(g:List Nat)(v:Nat):VS:=fun y=>(tv n p v).any fun b=>(g.getD b 0).testBit y
def apf{g:List Nat}(r:dp a y J)(v b:Nat):qT a y g v b=((g.getD v 0).testBit b||(kids a y (some v)).any fun c=>qT a y g c b):=by unfold qT;rw[afC r v,TA,List.any_flatMap]
noncomputable def bK(p:Nat->Option Nat)(v:Nat):VS:=fun a=> @decide (dM p (some a) v) (Classical.propDecidable _)
def th:bK y a b=true↔dM y (some b) a:=by unfold bK;exact @decide_eq_true_iff _ (Classical.propDecidable _)
noncomputable def pS(n:Nat)(p:Nat->Option Nat)(g:List Nat)(v:Nat):List Nat:=(List.range n).filter fun a=>qT n p g v a&&bK p v a
def AW{p:Nat->Option Nat}(h:p b=some a):bK p b=fun d=>bK p a d||VS.one a d:=by
 funext d
 rw[lZ,th,lK,th];unfold VS.one;rw[beq_iff_eq];constructor
 ·intro k;rcases k.inv with e|⟨f,e,k⟩
  ·rw[h] at e;injection e with e;exact .inr e.symm
  ·rw[h] at e;injection e with e;subst e;exact .inl k
 ·rintro(k|k)
  ·exact .up h k
  ·subst k;have:=dM.step (p:=p) b;rwa[h] at this
def adk(h:y a=none):bK y a=fun _=>false:=by
 funext d
 rw[<-uE,th];intro k;rcases k.inv with e|⟨b,e,k⟩
 ·rw[h] at e;cases e
 ·rw[h] at e;cases e
def aaW{c:VS}{v:Nat}(g:c v=false):∀{l:List Nat},l.Nodup->v∈l->l.countP (fun a=>c a||VS.one v a)=l.countP c+1
 |x::l,j,h=>by
  obtain⟨n,m⟩:=ja.1 j;have d:∀l:List Nat,v∉l->l.countP (fun a=>c a||VS.one v a)=l.countP c:=fun l f=>List.countP_congr fun a k=>by
   have:VS.one v a=false:=by unfold VS.one;rw[beq_eq_false_iff_ne];exact fun e=>f (e▸k)
   rw[this,xQ]
  by_cases e:x=v
  ·subst e;have b:VS.one x x=true:=by simp [VS.one]
   rw[Ta (by rw[b];simp),Tb (by rw[g];decide),d l n]
  ·have f:v∈l:=by
    rcases aI.1 h with h|h
    ·exact absurd h.symm e
    ·exact h
   have b:VS.one v x=false:=by unfold VS.one;rw[beq_eq_false_iff_ne];exact e
   have i:=aaW g m f;rw[List.countP_cons,List.countP_cons,i,b,xQ];omega
def abF{n m:Nat}{p:Nat->Option Nat}{d:Nat->Nat}(r:dp n p d)(i:n<=m):∀(k v:Nat),v<n->d v=k->VS.count m (bK p v)=k
 |0,v,a,j=>by
  have g:p v=none:=by
   cases h:p v with
   |none=>rfl
   |some b=>have:=(r.up v b a h).2;omega
  rw[adk g];exact List.countP_eq_zero.2 fun _ _=>by decide
 |k+1,v,a,j=>by
  obtain⟨b,e⟩:∃b,p v=some b:=by
   cases h:p v with
   |none=>have:=r.root v a h;omega
   |some b=>exact⟨b,rfl⟩
  obtain⟨f,l⟩:=r.up v b a e;have c:=abF r i k b f Om;rw[AW e];unfold VS.count at c⊢;rw[aaW _ sV (dP.2 Om),c];rw[<-uE,th];intro k;have:=(k.mW r b rfl f).2;omega
def abB(r:dp a y J):((kids a y none).flatMap (tv a y)).Nodup/\∀f,f∈(kids a y none).flatMap (tv a y)↔f<a:=by
 have g:∀b,(none:Option Nat)=some b->b<a:=fun b h=>by cases h
 have e:(eF a y (fun _=> []) a none).vars=(kids a y none).flatMap (tv a y):=(by rw[uF r aAe,J4];congr 1;funext c;unfold tv fj;simp only[Fo.vars,kG]);rw[<-e];refine⟨J_ r a none g aAe,fun f=> ?_⟩;rw[xO r a none f g aAe];exact⟨fun h=>h.1,fun h=>⟨h,dM.all r (J f) f h (aK _)⟩⟩
def anr{L:List Nat}(f:i.Nodup)(h:∀x∈i,x∈L):i.length<=L.length:=by
 induction i generalizing L with
 |nil=>exact aT _
 |cons x i d=>
  obtain⟨j,g⟩:=ja.1 f;obtain⟨A,B,rfl⟩:=aay (h x Ou);have:=d (L:=A++B) g fun y c=>by
   have a:=h y azz;have b:y≠x:=fun e=>j (e▸c);simp only[bQ,aI] at a⊢;rcases a with a|a|a
   ·exact .inl a
   ·exact absurd a b
   ·exact .inr a
  simp only[cW,bC] at this⊢;omega
def amR(r:dp a y J):((kids a y none).flatMap (tv a y)).length<=a:=by obtain⟨e,c⟩:=abB r;have:=anr (L:=List.range a) e fun x b=>dP.2 ((c x).1 b);rwa[gN] at this
def nO(m:Nat)(f:Nat->Nat)(j:Nat):List (List Nat):=(List.range m).map fun u=>(List.range j).filter fun a=>f a==u
def KI(h:c<a):(nO a J b)[c]?=some ((List.range b).filter fun d=>J d==c):=by unfold nO;rw[dY,lX h];rfl
def Pr(m j:Nat)(f:Nat->Nat):(nO m f j).length=m:=by unfold nO;simp
def ac9{m j:Nat}{f:Nat->Nat}(h:f j<m):nO m f (j+1)=(nO m f j).set (f j) (((List.range j).filter fun a=>f a==f j)++ [j]):=by
 refine uz fun u=> ?_;rw[qF,Pr];rcases cA u m with c|c
 ·rw[KI c,KI c];have e:(List.range (j+1)).filter (fun a=>f a==u)=(List.range j).filter (fun a=>f a==u)++if f j=u then [j] else []:=by rw[GQ,rI];congr 1;by_cases b:f j=u<;>simp [b]
  rw[e];by_cases b:f j=u
  ·rw[if_pos b,if_pos b,if_pos Om,b]
  ·rw[if_neg b,if_neg b,kG]
 ·rw[fH (by rw[Pr];omega),if_neg Om,fH (by rw[Pr];omega)]
def ac8(m:Nat)(f:Nat->Nat):nO m f 0=List.replicate m []:=by
 unfold nO;refine uz fun i=> ?_;rw[dY,Dv];rcases cA i m with h|h
 ·rw[lX h,if_pos h];rfl
 ·rw[fH azd,if_neg Om];rfl
def aa8{d:Nat->Nat}{a:Nat}:∀{l:List Nat} {m:Nat},fu d (l++ [a]) m=if d a>d (fu d l m) then a else fu d l m
 | [],_=>rfl
 |x::l,m=>aa8 (l:=l) (m:=if d x>d m then x else m)
def ab7{d:Nat->Nat}(f:∀c∈i,c<a)(e:b<a):fu d i b<a:=by
 rcases(OC d i b).1 with h|h
 ·rw[h];exact e
 ·exact f _ h
structure a7(S:List Nat)(w w':au):Prop where
 os:w'.os=w.os
 tape:w'.tape=w.tape
 output:w'.output=w.output
 size:w.heap.size<=w'.heap.size
 block:∀i,i<w.heap.size->i∉S->w'.heap[i]?=w.heap[i]?
section
variable{S:List Nat}{a b c w w':au}{g:Nat}{t:TypeId}{l:List Value}
theorem a7.ij(h:Ext a b):a7 S a b:=⟨h.os,h.tape,h.output,h.size,fun i e _=>h.block i e⟩
def ig:=@a7.ij
theorem a7.trans(h:a7 S a b)(k:a7 S b c):a7 S a c:=⟨k.os.trans h.os,k.tape.trans h.tape,k.output.trans h.output,a8 h.size k.size,fun i f e=>(k.block i (cE f h.size) e).trans (h.block i f e)⟩
theorem a7.only(h:a7 S a b)(k:Only g b c)(f:g∈S\/a.heap.size<=g):a7 S a c:=⟨k.os.trans h.os,k.tape.trans h.tape,k.output.trans h.output,a8 h.size k.size,fun i m j=>(k.block i (cE m h.size) (fun e=>by
 injection e with e;subst e;rcases f with f|f
 ·exact j f
 ·omega)).trans (h.block i m j)⟩
theorem a7.ext(h:a7 S a b)(k:Ext b c):a7 S a c:=h.trans (.ij k)
theorem a7.grown{base:Nat}(h:a7 S a b)(j:b.ownsRow base x e q f u)(m:b.grownBy c q.ownBlock)(hb:a.heap.size<=base):a7 S a c:=
 ⟨m.os.trans h.os,m.tape.trans h.tape,m.output.trans h.output,a8 h.size m.size,fun i o r=>(m.block i (cE o h.size) (fun x=>by have:=(j.lt i x.symm).1;omega)).trans (h.block i o r)⟩
theorem a7.drew(h:a7 S a b):a7 S a b.drew:=⟨h.os,h.tape,h.output,h.size,h.block⟩
theorem a7.mono{S':List Nat}(h:a7 S a b)(f:∀i∈S,i<a.heap.size->i∈S'):a7 S' a b:=⟨h.os,h.tape,h.output,h.size,fun i e j=>h.block i e fun k=>j (f i k e)⟩
theorem ar.bP(h:ar w g t l)(k:a7 S w w')(e:g∉S):ar w' g t l:=(k.block g h.lt e).trans h
theorem a7.kept(k:a7 S w w'){u:TypeId}(m:∀i∈S,∃t l,ar w i t l/\t≠u):Kept u w w':=fun g n o e=>(k.block g (ie e) fun j=>by obtain⟨t,l,h,f⟩:=m g j;unfold ar at h;rw[h] at e;injection e with e;injection e with _ e;exact f e).trans e
end
abbrev gT:TypeId:=271
abbrev We:TypeId:=269
abbrev WP:TypeId:=337
def EE(eV eM gb fQ:Nat):Value:= .func (.func 283) #[] #[aJ eV 0,aJ eM 0,aJ gb 0,aJ fQ 0]
def pW(n u:Nat):Option Nat:=if u=n then none else some u
def wJ(n:Nat)(d:Nat->Nat)(wl:List Nat):List Value:=(List.range n).map fun a=>av (if a∈wl then d a else 0:Nat)
noncomputable def oK(g:List Nat)(p:Nat->Option Nat)(dk:Nat->Bool):List (List Nat):=(List.range g.length).map fun a=>if dk a=true then pS g.length p g a else []
def Pa{a:Nat}{d:Nat->Nat}{wl:List Nat}(h:a<e):(wJ e d wl)[a]?=some (av (if a∈wl then d a else 0:Nat)):=by unfold wJ;rw[dY,lX h];rfl
def amc{d:Nat->Nat}{wl:List Nat}(h:f<e):(wJ e d wl).set f (av (d f:Nat))=wJ e d (wl++ [f]):=by
 refine uz fun i=> ?_;have m:∀wl,(wJ e d wl).length=e:=fun wl=>by unfold wJ;simp
 rw[qF,m];by_cases j:f=i
 ·subst j;rw[if_pos rfl,if_pos h,Pa h];simp
 ·rw[if_neg j];rcases cA i e with k|k
  ·rw[Pa k,Pa k];simp [fM j]
  ·rw[fH (by rw[m];exact k),fH (by rw[m];exact k)]
def alM{g:List Nat}{p:Nat->Option Nat}{dk:Nat->Bool}{v:Nat}(h:∀a,K a=(dk a||a==v)):(oK g p dk).set v (pS g.length p g v)=oK g p K:=by
 have j:∀dk,(oK g p dk).length=g.length:=fun dk=>by unfold oK;simp
 refine uz fun i=> ?_;rw[qF,j];have k:∀(dk:Nat->Bool) (a:Nat),a<g.length->(oK g p dk)[a]?=some (if dk a=true then pS g.length p g a else []):=fun dk a n=>by unfold oK;rw[dY,lX n];rfl
 by_cases e:v=i
 ·subst e;rw[if_pos rfl];split
  ·rename_i m;rw[k _ _ m,h];simp
  ·rename_i m;rw[fH (by rw[j];omega)]
 ·rw[if_neg e];rcases cA i g.length with f|f
  ·have:(i==v)=false:=by rw[beq_eq_false_iff_ne];exact fM e
   rw[k _ _ f,k _ _ f,h,this,xQ]
  ·rw[fH (by rw[j];exact f),fH (by rw[j];exact f)]
structure Jf(g:List Nat)(p:Nat->Option Nat)(A:aS)(cb kb eV gb eM fQ db base:Nat)(y7:List Value)(w0:au):Prop where
 gl:fY w0 (.slice A g.length g.length) g
 gx:ar w0 gb Lx [.slice A g.length g.length]
 cx:ar w0 cb cO y7
 cr:∀u,u<=g.length->∃B c,y7[u]?=some (.slice B (ints (kids g.length p (pW g.length u))).length c)/\IL w0 (.slice B (ints (kids g.length p (pW g.length u))).length c) (ints (kids g.length p (pW g.length u)))
 kx:∃l,ar w0 kb cO l
 px:∃l,ar w0 eV gT l
 hk:cb≠kb
 h1:w0.heap.size<=db/\w0.heap.size<=eM/\w0.heap.size<=fQ
 h2:db<base/\eM<base/\fQ<base
 h3:eM≠db/\fQ≠db
structure o_(g:List Nat)(p:Nat->Option Nat)(d:Nat->Nat)(cb kb hb eV gb eM fQ db base:Nat)(w0 W:au)(wl:List Nat)(dk:Nat->Bool)(wv:Value)(oZ:List Value):Prop where
 bP:a7 [eV,kb] w0 W
 sz:base<=W.heap.size
 pp:ar W eV gT [aG cb 0 (g.length+1) (g.length+1),aG kb 0 g.length g.length,aG hb 0 g.length g.length,wv]
 dx:ar W eM cO [aG db 0 g.length g.length]
 vx:ar W fQ WP [EE eV eM gb fQ]
 db:ar W db aU (wJ g.length d wl)
 kb:ar W kb cO oZ
 MI:cU W base (wv::oZ) (wl::oK g p dk)
section
variable{g:List Nat}{p:Nat->Option Nat}{d:Nat->Nat}{A:aS}{cb kb hb eV gb eM fQ db base:Nat}{y7:List Value}{w0 W:au}{wl:List Nat}{dk:Nat->Bool}{wv:Value}{oZ:List Value}
theorem o_.Qd(f:Jf g p A cb kb eV gb eM fQ db base y7 w0)(h:a7 [eV,kb] w0 W)(k:gT≠x)(j:cO≠x):Kept x w0 W:=h.kept fun i e=>by
 rcases aI.1 e with rfl|e
 ·obtain⟨l,h⟩:=f.px;exact⟨_,l,h,k⟩
 ·rw[bG] at e;subst e;obtain⟨l,h⟩:=f.kx;exact⟨_,l,h,j⟩
theorem Jf.ne(i:Jf g p A cb kb eV gb eM fQ db base y7 w0):gb∉ [eV,kb]/\cb∉ [eV,kb]:=by
 have f:∀{x y:Nat} {t u:TypeId} {l m:List Value},ar w0 x t l->ar w0 y u m->t≠u->x≠y:=fun n h j e=>by subst e;unfold ar at n h;rw[n] at h;injection h with h;injection h with _ h;exact j h
 obtain⟨l,hk⟩:=i.kx;obtain⟨m,k⟩:=i.px;constructor
 ·simp only[aI,bF,or_false,not_or];exact⟨f i.gx k Od,f i.gx hk Od⟩
 ·simp only[aI,bF,or_false,not_or];exact⟨f i.cx k Od,i.hk⟩
theorem o_.ext(h:o_ g p d cb kb hb eV gb eM fQ db base w0 W wl dk wv oZ)(e:Ext W m):o_ g p d cb kb hb eV gb eM fQ db base w0 m wl dk wv oZ:=
 ⟨h.bP.ext e,a8 h.sz e.size,h.pp.ext e,h.dx.ext e,h.vx.ext e,h.db.ext e,h.kb.ext e,h.MI.ext e⟩
end
def Ky{α β:Type}{f:α->List β}{k:List α}(h:e<k.length):((k.take e).flatMap f).length+(f k[e]).length<=(k.flatMap f).length/\(k.take (e+1)).flatMap f=(k.take e).flatMap f++f k[e]:=by
 have m:(k.take (e+1)).flatMap f=(k.take e).flatMap f++f k[e]:=by rw[g9 h,GF];simp
 refine⟨?_,m⟩;have j:k.flatMap f=(k.take (e+1)).flatMap f++(k.drop (e+1)).flatMap f:=by rw[<-GF,sQ]
 rw[j,m];simp only[bC];omega
def Qw(g:List Nat)(p:Nat->Option Nat)(d:Nat->Nat)(cb kb hb eV gb eM fQ db base:Nat)(w0:au)(v j:Nat):Prop:=∀W wl dk wv oZ,o_ g p d cb kb hb eV gb eM fQ db base w0 W wl dk wv oZ->wl.length+(tv g.length p v).length<=12->
 Calls prog 283 #[av (v:Int),.int .u64 (j:Int),aJ eV 0,aJ eM 0,aJ gb 0,aJ fQ 0] W fun e w'=>
  ∃m i f h,e= .returned (.int .u64 (m:Nat))/\m<2^g.length/\m.testBit=qT g.length p g v/\(∀a,h a=(dk a||(tv g.length p v).contains a))/\o_ g p d cb kb hb eV gb eM fQ db base w0 w' (wl++tv g.length p v) h i f
def arC{g:List Nat}{p:Nat->Option Nat}{d:Nat->Nat}{A:aS}{cb kb hb eV gb eM fQ db base:Nat}{y7:List Value}{w0:au}(hg:mV g)(hr:dp g.length p d)(H:Jf g p A cb kb eV gb eM fQ db base y7 w0){v:Nat}(hv:v<g.length)(hab:e<2^g.length)(Zm:e.testBit=bK p v)
 (hC:∀c∈kids g.length p (some v),Qw g p d cb kb hb eV gb eM fQ db base w0 c (e|||2^v)):Qw g p d cb kb hb eV gb eM fQ db base w0 v e:=by
 intro W wl dk wv oZ hS YD;have HG:=af hg;have hle:=hg.le;have M_:=af hr;have P:=af H;have HAB:=af hab;have sO:=af hC;have htv:=afC hr v;have X:cnt e=d v:=by unfold cnt;rw[Zm];exact abF hr hg.le (d v) v hv rfl
 have awP:=af X;have Z3:=af htv;have HKL:ah (∀m:Nat,m.testBit=qT g.length p g v->Li (m&&&e)=pS g.length p g v):=fun m hm=>by rw[ad0 (sT _ hab) hg.le];unfold pS;refine GJ fun a _=> ?_;rw[aaN,hm,Zm]
 obtain⟨hh1,O,hh3⟩:=And.intro H.h1 (And.intro H.h2 H.h3);obtain⟨q1,q2,q3,q4,q5,q6,q7,q8⟩:=hS;have HCH:=af q1;have HP:=af q3;have HDX:=af q4;have HVX:=af q5;have HDB:=af q6;have Gc:=af q7;have HF:=af q8;have HO:=af (q8.own 0 wv wl rfl rfl);have asG:wl.length<=12:=Om;have yP:eV<base:=(by obtain⟨l,h⟩:=H.px;have:=h.lt;have:=H.h1.2.1;have:=H.h2.2.1;omega)
 have hkb:kb<base:=(by obtain⟨l,h⟩:=H.kx;have:=h.lt;have:=H.h1.2.1;have:=H.h2.2.1;omega);have E8:w0.heap.size<=base:=Om;have axW:eV<w0.heap.size:=(by obtain⟨l,h⟩:=H.px;exact h.lt)
 have aya:kb<w0.heap.size:=(by obtain⟨l,h⟩:=H.kx;exact h.lt);clear hg hr H hab Zm hC htv X q1 q3 q4 q5 q6 q7 q8;obtain⟨Aw,cw,xs,rfl,_,hcw,C,NE⟩:=HO.parts;have cK:((ints wl).length+1)*8<=140737488355328:=by rw[kI];omega
 obtain⟨s0,s1,s2,s3⟩:=HP.four;have f3:=HP.frozen 3;go_enter func283,ntmps283;go_wp2_with (at_builtin;refine gG rfl _ _ cO rfl base jy _ _ _ rfl C.ae #[av (v:Int)] 1 1 rfl rfl rfl cK q2 ?_)
 intro v' w3 E r hb3;have HF3:ah (cU w3 base (v'::oZ) ((wl++ [v])::oK g p dk)):=cU.app (i:=0) HF rfl Ou C NE E r (hb3.imp id fun h=>⟨_,h,by omega⟩);obtain⟨Ax,cx,rfl,_,_,_⟩:=dZ E;have J:=af (ip HP C r yP);have awK:=af (ip HDX C r O.2.1);have avS:=af (ip HVX C r O.2.2);have awN:=af (ip HDB C r O.1);have ajb:=af (ip Gc C r hkb);have awR:=af (HCH.grown C r E8);have q3:base<=w3.heap.size:=a8 q2 r.size;clear E r hb3 cK s0 s1 s2 s3 f3 q2;have s3:=J.aD 3;have f3:=J.frozen 3;obtain⟨Y,I9,B4,K4,Z⟩:=gp (i:=3) J (.slice Ax ((ints wl).length+1) cx);have HW4:=af I9;clear I9;go_upto_region 2 with fail
 rw[HW4.ae];have HP4:ah (ar Y eV gT [aG cb 0 (g.length+1) (g.length+1),aG kb 0 g.length g.length,aG hb 0 g.length g.length,.slice Ax ((ints wl).length+1) cx]):=B4;have HF4:=af (HF3.only Z J Od);have awJ:=af (awK.only Z Om);have avR:=af (avS.only Z Om);have awM:=af (awN.only Z Om);have aww:ah (ar Y kb cO oZ):=ajb.only Z (fun k=>by have h1:=ajb.ae;have h2:=J.ae;unfold ar at h1 h2;rw[k,h2] at h1;injection h1 with h1;injection h1 with _ h1;exact absurd h1 Od)
 have XY:=af (awR.only Z (.inl Ou));have q4:base<=Y.heap.size:=a8 q3 Z.size;clear s3 f3 B4 K4 Z q3;have qp:=af (acQ e Y.drew (HG.ku HAB));rw[awP.ae] at qp;have HP5:=af HP4.drew;have HF5:ah (cU Y.drew base (.slice Ax ((ints wl).length+1) cx::oZ) ((wl++ [v])::oK g p dk)):=HF4.ext (aC Y).drew;have ajk:=af awJ.drew;have avQ:=af avR.drew;have M:=af awM.drew;have awv:=af aww.drew;have awQ:=af XY.drew;have q5:base<=Y.drew.heap.size:=q4;have bL:ah (∀w',ar w' eM cO [aG db 0 g.length g.length]->ay w' eM 0 (aG db 0 g.length g.length)):=fun w' h=>h.cell rfl;have aH:=ajk;clear q4;refine b9 (S:=fun w'=>ar w' eM cO [aG db 0 g.length g.length]) (T:=fun j=>decide (5<=j)) Ok ?_;generalize Y.drew=wd at*;refine ax 0 18 ?_;refine ax 1 19 ?_;refine ax 2 20 ?_;refine aL 3 ?_;intro K q;go_simp;refine qp.mono ?_;rintro e2 w2 ⟨rfl,rfl⟩;refine q.ae _ _ (fun _=>aH.ae) ?_;clear q;refine ax 4 22 ?_;obtain⟨W6,Cn,B6,K6,x⟩:=gp (i:=v) M (av (d v:Nat));rw[amc hv] at B6;have s1:=M.cell (Pa hv);have f1:=M.frozen v;refine aL 5 ?_;intro K q;go_simp;refine q.ae _ _ Oy9 ?_;refine bY Ok ?_;have HP6:=af (HP5.only x Om);have HF6:=af (HF5.low x O.1);have awI:=af (ajk.only x hh3.1);have avP:=af (avQ.only x hh3.2);have awu:=af (awv.only x Om);have G:=af (awQ.only x (.inr hh1.1));have q6:base<=W6.heap.size:=a8 q5 x.size;clear q Cn K6 x s1 f1 q5;have j8:fY W6 (.slice A g.length g.length) g:=P.gl.keep rT fun u R=>by simp only[bG] at R;rw[R];exact o_.Qd P G Od Od
 obtain⟨gg,og,rfl,_,hc⟩:=fY.get j8 hv;have g0:=(P.gx.bP G P.ne.1).aD 0;clear j8;obtain⟨Bc,cc,hcv,o⟩:=P.cr v (qI hv);have c0:=(P.cx.bP G P.ne.2).cell hcv;rw[show pW g.length v=some v by unfold pW;rw[if_neg Om]] at c0 o;have d_:=af (fN cI o (fun u R=>by simp only[bG] at R;rw[R];exact o_.Qd P (ig (aC w0)) Od Od))
 have dE:(ints (kids g.length p (some v))).length=(kids g.length p (some v)).length:=kI _;have awt:=af dE;rw[dE] at c0 d_;clear dE hcv o;obtain⟨s0,s1,s2,s3⟩:=HP6.four;have Jq:ah (wl.length+1+((kids g.length p (some v)).flatMap (tv g.length p)).length<=12):=(by rw[Z3.ae] at YD;simp only[cW] at YD;rw[ah];omega)
 have HKN:ah (∀c∈kids g.length p (some v),c<g.length):=fun c hc=>(iC.1 hc).1;have ayb:(kids g.length p (some v)).length<=12:=(by have:=mK (fun a=>p a==some v) (List.range g.length);rw[gN] at this;exact a8 this hle)
 have HNV:=af (fun y=>apf (g:=g) M_ v y);clear YD asG;have HGV:=af (HG.lt v);generalize g.getD v 0=gv at*;generalize Fl:kids g.length p (some v)=n at*;clear Fl;have qr:ah (o_ g p d cb kb hb eV gb eM fQ db base w0 W6 (wl++v::(n.take 0).flatMap (tv g.length p)) dk (.slice Ax ((ints wl).length+1) cx) oZ):=⟨G,q6,HP6,awI,avP,B6,awu,HF6⟩;have HM0:ah (∀y,gv.testBit y=(gv.testBit y||(n.take 0).any fun c=>qT g.length p g c y)):=fun y=>by simp
 have NC:ah (∀a,dk a=(dk a||((n.take 0).flatMap (tv g.length p)).contains a)):=fun a=>by simp
 go_upto_region 5 with fail
 clear hc g0 c0 s0 s1 s2 s3 B6 q6;go_loopw [9,11,33] (fun v9 _ v33 wr=>∃(i m:Nat) (F:Nat->Bool) (D:Value) (s:List Value),i<=n.length/\v33=av i/\v9= .int .u64 m/\ah (m<2^g.length)/\ah (∀y,m.testBit y=(gv.testBit y||(n.take i).any fun c=>qT g.length p g c y))/\ah (∀a,F a=(dk a||((n.take i).flatMap (tv g.length p)).contains a))/\ah (o_ g p d cb kb hb eV gb eM fQ db base w0 wr (wl++v::(n.take i).flatMap (tv g.length p)) F D s)) (fun _ _ v33 _=>n.length - (RowKit.intOf v33).toNat);exact⟨0,gv,dk,_,_,aT _,rfl,rfl,HGV,HM0,NC,qr⟩;obtain⟨i,m,F,D,s,hi,rfl,rfl,L,HM,HD,HS⟩:=hrel;by_cases o:i<n.length
 ·have L6:=af (Ky (f:=tv g.length p) o);have Q:=Ky (f:=tv g.length p) o;have pu:=af Q.2;clear Q;have U:i<(ints n).length:=by rw[awt.ae];exact o
  have sA:IL wr (.slice Bc n.length cc) (ints n):=d_.keep cI fun u R=>by simp only[bG] at R;rw[R];exact o_.Qd P HS.bP Od Od
  obtain⟨g2,o2,rfl,_,hc⟩:=io sA U;have vo:(ints n)[i]=((n[i]:Nat):Int):=azT;rw[vo] at hc;have lT:=HKN _ (aZ o);have HQ:=af (sO _ (aZ o));have HTA:ah (∀y,((n.take (i+1)).any fun c=>qT g.length p g c y)=(((n.take i).any fun c=>qT g.length p g c y)||qT g.length p g n[i] y)):=fun y=>by rw[g9 o,aaP];simp
  clear vo sA U;generalize n[i]=c at*;have uj:ah ((wl++v::(n.take i).flatMap (tv g.length p)).length+(tv g.length p c).length<=12):=by have h1:=L6.1;have h2:=Jq.ae;rw[ah];simp only[bC,cW];unfold ah at h2;omega
  go_upto_region 7 with fail
  have B:=af (HS.ext (aC wr).drew);have bL:ah (∀w',ar w' fQ WP [EE eV eM gb fQ]->ay w' fQ 0 (EE eV eM gb fQ)):=fun w' h=>h.cell rfl;have aH:=af B.vx;have zu:=af (ye v wr.drew Om);clear hc;refine b9 (S:=fun w'=>ar w' fQ WP [EE eV eM gb fQ]) (T:=fun j=>decide (j=9)) Ok ?_;generalize wr.drew=wd at*;refine ax 0 37 ?_;refine ax 1 38 ?_;refine ax 2 39 ?_;refine ax 3 40 ?_;refine ax 4 41 ?_;refine aL 5 ?_;intro K q;go_simp;refine zu.mono ?_;rintro e3 w3 ⟨rfl,rfl⟩;refine q.ae _ _ (fun _=>aH.ae) ?_;clear q;have HW:=af (ED (HG.ku HAB) (Ew (show v<12 by omega)));have rE:=af (HQ w3 _ _ _ _ B uj);generalize 2^v=pv at*;refine ax 6 43 ?_;rw[HW.ae];refine aL 7 ?_;intro K q;go_simp;refine rE.mono ?_;rintro e4 w4 ⟨mc,Ya,Xh,MJ,rfl,kA,nt,V,I⟩;refine q.ae _ _ (fun _=>I.vx) ?_;clear q;have aH:=af I.vx;have sJ:=af (ED (HG.ku L) (HG.ku kA));refine ax 8 45 ?_;rw[sJ.ae];refine aL 9 ?_;intro K q;go_simp;refine q.ae _ _ Oy9 ?_;refine bY Ok ?_;have iA:ah (∀y,(m|||mc).testBit y=(gv.testBit y||(n.take (i+1)).any fun c=>qT g.length p g c y)):=fun y=>by rw[HTA.ae,<-TC,<-HM.ae,Ka,nt]
  have awm:ah (m|||mc<2^g.length):=J3 L kA;rw[iB,uC,<-pu.ae] at I;have d9:=af I;have NB:ah (∀a,MJ a=(dk a||((n.take (i+1)).flatMap (tv g.length p)).contains a)):=fun a=>by rw[V,HD.ae,pu.ae,TC];congr 1;simp
  clear q I V kA nt;go_wp2;go_roundw;exact⟨i+1,m|||mc,MJ,Ya,Xh,by omega,by go_num,rfl,awm,iA,NB,d9⟩;simp [RowKit.intOf];omega
 ·obtain rfl:i=n.length:=Om;rw[f9] at HM HD HS;have HMV:ah (m.testBit=qT g.length p g v):=funext fun y=>by rw[HM.ae,HNV.ae]
  rw[<-Z3.ae] at HS;have d1:decide (n.length<n.length)=false:=Ou;have HDT:ah (∀a,(F a||a==v)=(dk a||(tv g.length p v).contains a)):=fun a=>by rw[HD.ae,Z3.ae,List.contains_cons,TC,Bool.or_comm _ (a==v)]
  have HKY:=af (HKL m HMV);go_upto_region 9 with fail
  have B:=af (HS.ext (aC wr).drew);have Jz:=af (anm (m&&&e) wr.drew (P7 (HG.ku L)));rw[HKY.ae] at Jz;have bL:ah (∀w',ar w' eV gT [aG cb 0 (g.length+1) (g.length+1),aG kb 0 g.length g.length,aG hb 0 g.length g.length,D]->ay w' eV 1 (aG kb 0 g.length g.length)):=fun w' h=>h.cell rfl;have aH:=af B.pp;refine b9 (S:=fun w'=>ar w' eV gT [aG cb 0 (g.length+1) (g.length+1),aG kb 0 g.length g.length,aG hb 0 g.length g.length,D]) (T:=fun j=>decide (8<=j)) Ok ?_;generalize wr.drew=wd at*;have HW:=af (Wv (HG.ku L) (HG.ku HAB));refine ax 0 47 ?_;refine ax 1 48 ?_;refine ax 2 49 ?_;refine ax 3 50 ?_;refine ax 4 51 ?_;refine ax 5 52 ?_;rw[HW.ae];refine aL 6 ?_;intro K q;go_simp;refine Jz.mono ?_;rintro e3 w3 ⟨v',rfl,E,hx3⟩;have hf3:=B.MI.put (i:=v+1) hx3 (by simp [oK];omega) E B.sz;have z:=af (B.ext hx3);refine q.ae _ _ (fun _=>z.pp) ?_;clear q;have aH:=af z.pp;obtain⟨Al,cl,xl,rfl,_,_,_,_⟩:=E.parts;generalize(ints (pS g.length p g v)).length=nl at*;refine ax 7 54 ?_;have L9:v<s.length:=(by have h:=B.MI.len;simp only[cW,oK,cy,gN] at h;omega)
  obtain⟨W6,Cn,B6,K6,x⟩:=gp (i:=v) z.kb (.slice Al nl cl);have s1:=z.kb.cell (aV L9);have f1:=z.kb.frozen v;have N:kb≠eM/\kb≠fQ/\kb≠db:=Om;have Mi:eV≠kb:=fun k=>by have h1:=z.kb;have h2:=z.pp;unfold ar at h1 h2;rw[<-k,h2] at h1;injection h1 with h1;injection h1 with _ h1;exact absurd h1 Od
  have rD:ah (o_ g p d cb kb hb eV gb eM fQ db base w0 W6 (wl++tv g.length p v) (fun a=>F a||a==v) D (s.set v (.slice Al nl cl))):=by
   have h8:=z.ae;have hf:cU W6 base (D::s.set v (.slice Al nl cl)) ((wl++tv g.length p v)::oK g p fun a=>F a||a==v):=(by have h:=hf3.only x h8.kb Od;rw[<-alM (p:=p) (dk:=F) (v:=v) fun a=>rfl];exact h)
   exact⟨h8.bP.only x (.inl Ou),a8 h8.sz x.size,h8.pp.only x Mi,h8.dx.only x (fM N.1),h8.vx.only x (fM N.2.1),h8.db.only x (fM N.2.2),B6,hf⟩
  clear hf3 E hx3 N Mi B6 K6 x;refine aL 8 ?_;intro K q;go_simp;refine q.ae _ _ Oy9 ?_;refine bY Ok ?_;clear q Cn s1 f1 L9;go_wp2;go_ret;exact⟨m,D,_,_,rfl,L,HMV,HDT,rD⟩
def aez{g:List Nat}{p:Nat->Option Nat}{d:Nat->Nat}{A:aS}{cb kb hb eV gb eM fQ db base:Nat}{y7:List Value}{w0:au}(m:mV g)(i:dp g.length p d)(n:Jf g p A cb kb eV gb eM fQ db base y7 w0):∀(k v j:Nat),v<g.length->g.length<=k+d v->j<2^g.length->j.testBit=bK p v->Qw g p d cb kb hb eV gb eM fQ db base w0 v j
 |0,v,_,h,r,_,_=>by have:=i.lt v h;omega
 |k+1,v,j,h,r,e,f=>arC m i n h e f fun c s=>by
  obtain⟨q,o⟩:=iC.1 s;have u:=(i.up c v q o).2;refine aez m i n k c _ q Om (J3 e (Pg h)) ?_;rw[AW o];funext a
  rw[Ka,f,rU]
end Go.Proofs.YthfffpcmldipgaaGreatDoor
