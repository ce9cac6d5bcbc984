/- Texts of the proof, part 6. -/
import Derived.Test.YthfffpcmldipgaaGreatDoorA5
namespace Go.Proofs.YthfffpcmldipgaaGreatDoor
set_option maxHeartbeats 8000000
set_option linter.all false
set_option maxRecDepth 100000
variable{ai:Prop}
open Go.RowKit Go.Lib Go.Maps Go.ChangeShapes Go.WideShapes Go.ChangeAt Go.Proofs.Tryz
variable{a b c d e f g h:Nat}{i j k l:List Nat}{m n o:World}{p q r s:Value}{t u v:List Value}{w x:TypeId}{y z:Nat→Option Nat}{A:Nat→List Nat}{B C:Int}{E F:Option Addr}{H I:Rat}{J:Nat→Nat}{K:Nat→Bool}{L:List Int}{N:Array Bool}{O:Option Nat}{Q:Act}{R S:Bool}{T:List UInt8}
structure Cu{α:Type}(lt:α->α->Bool):Prop where
 lm:∀a,lt a a=false
 tr:∀a b c,lt a b=true->lt b c=true->lt a c=true
 EZ:∀a b,lt a b=false->lt b a=false->a=b
def lexB{α:Type} [BEq α](c:α->α->Bool):List α->List α->Bool
 |_,[]=>false
 | [],_::_=>true
 |a::x,b::y=>c a b||(a==b&&lexB c x y)
def Cu.lex{α:Type} [BEq α] [LawfulBEq α]{i:α->α->Bool}(h:Cu i):Cu (lexB i) where
 lm:=fun a=>by
  induction a with
  |nil=>rfl
  |cons x l g=>simp [lexB,h.lm,g]
 tr:=fun a=>by
  induction a with
  |nil=>
   intro b c f d;cases c with
   |nil=>simp [lexB] at d
   |cons z m=>rfl
  |cons x l g=>
   intro b c f d;cases b with
   |nil=>simp [lexB] at f
   |cons y m=>
    cases c with
    |nil=>simp [lexB] at d
    |cons z n=>
     simp only[lexB,lK,cZ,beq_iff_eq] at f d⊢;rcases f with f|⟨rfl,f⟩
     ·rcases d with d|⟨rfl,d⟩
      ·exact .inl (h.tr _ _ _ f d)
      ·exact .inl f
     ·rcases d with d|⟨rfl,d⟩
      ·exact .inl d
      ·exact .inr ⟨rfl,g _ _ f d⟩
 EZ:=fun a=>by
  induction a with
  |nil=>
   intro b f d;cases b with
   |nil=>rfl
   |cons y m=>simp [lexB] at f
  |cons x l g=>
   intro b f d;cases b with
   |nil=>simp [lexB] at d
   |cons y m=>simp only[lexB,Bool.or_eq_false_iff] at f d;have e:=h.EZ _ _ f.1 d.1;subst e;have k:=f.2;have j:=d.2;simp only[beq_self_eq_true,OB] at k j;rw[g _ k j]
def Cu.asym{α:Type}{c:α->α->Bool}(h:Cu c){a b:α}(e:c a b=true):c b a=false:=by
 cases d:c b a with
 |false=>rfl
 |true=>rw[<-h.lm a,h.tr _ _ _ e d]
def an':Op.bytesLess=lexB (fun a b:UInt8=>decide (a<b)):=by
 funext x
 induction x with
 |nil=>funext y;cases y<;>rfl
 |cons a l c=>funext y;cases y with
  |nil=>rfl
  |cons b m=>simp [Op.bytesLess,lexB,c]
def ap_:Cu (fun a b:UInt8=>decide (a<b)) where
 lm:=fun a=>by simp
 tr:=fun a b c e d=>by simp only[decide_eq_true_eq] at e d⊢;exact UInt8.lt_trans e d
 EZ:=fun a b e d=>by simp only[decide_eq_false_iff_not] at e d;exact UInt8.le_antisymm (UInt8.not_lt.1 d) (UInt8.not_lt.1 e)
def eA:List (List UInt8)->List (List UInt8)->Bool:=lexB Op.bytesLess
def xW:Cu Op.bytesLess:=by rw[an'];exact ap_.lex
def qP:Cu eA:=xW.lex
def Pn:∀{a b:List (List UInt8)} {i:Nat},a.take i=b.take i->eA a b=eA (a.drop i) (b.drop i)
 |a,b,0,_=>rfl
 | [],b,i+1,h=>by
   cases b with
   |nil=>rfl
   |cons y m=>simp at h
 |x::l,[],i+1,h=>by simp at h
 |x::l,y::m,i+1,h=>by
  simp only[Th,Ov] at h;obtain⟨rfl,h⟩:=h;rw[aas,aas,<-Pn h];show(Op.bytesLess x x||(x==x&&eA l m))=_
  rw[xW.lm];simp
def afk{c b:List (List UInt8)}(f:a<c.length)(e:a<b.length)(h:c.take a=b.take a)(d:(c[a]==b[a])=false):eA c b=Op.bytesLess c[a] b[a]:=by
 rw[Pn h,i6 f,i6 e];show(Op.bytesLess c[a] b[a]||(c[a]==b[a]&&_))=_
 rw[d];simp
def adW{a b:List (List UInt8)}(c:a.length<b.length)(h:a.take a.length=b.take a.length):eA a b=true:=by rw[Pn h,Tn,i6 c];rfl
def Vp{a b:List (List UInt8)}(h:a.take b.length=b.take b.length):eA a b=false:=by rw[Pn h,Tn];cases a.drop b.length<;>rfl
structure SR(α:Type) where
 zero:α
 one:α
 add:α->α->α
 mul:α->α->α
 aa:∀a b c,add (add a b) c=add a (add b c)
 ac:∀a b,add a b=add b a
 az:∀a,add zero a=a
 ma:∀a b c,mul (mul a b) c=mul a (mul b c)
 mc:∀a b,mul a b=mul b a
 mo:∀a,mul one a=a
 mz:∀a,mul zero a=zero
 ds:∀a b c,mul a (add b c)=add (mul a b) (mul a c)
inductive Fo where
 |nil:Fo
 |cons (v:Nat) (homes:List Nat) (below next:Fo):Fo
def Fo.vars:Fo->List Nat
 | .nil=> []
 | .cons v _ b n=>v::(b.vars++n.vars)
def Fo.homes:Fo->List Nat
 | .nil=> []
 | .cons _ a b n=>a++(b.homes++n.homes)
section
variable{α β:Type}(R:SR α)
def SR.sum(l:List β)(f:β->α):α:=l.foldr (fun x s=>R.add (f x) s) R.zero
def SR.prod{γ:Type}(l:List γ)(f:γ->α):α:=l.foldr (fun x s=>R.mul (f x) s) R.one
def put(b:Nat->β)(v:Nat)(x:β):Nat->β:=fun a=>if a=v then x else b a
def Fo.val(U:List β)(g:Nat->β->α)(W:Nat->(Nat->β)->α):Fo->(Nat->β)->α
 | .nil,_=>R.one
 | .cons v c b n,a=>R.mul (R.sum U fun x=>R.mul (R.mul (g v x) (R.prod c fun h=>W h (put a v x))) (b.val U g W (put a v x))) (n.val U g W a)
def Fo.yG(a:Nat->(Nat->β)->List β)(g:Nat->β->α)(W:Nat->(Nat->β)->α):Fo->(Nat->β)->α
 | .nil,_=>R.one
 | .cons v d b n,c=>R.mul (R.sum (a v c) fun x=>R.mul (R.mul (g v x) (R.prod d fun h=>W h (put c v x))) (b.yG a g W (put c v x))) (n.yG a g W c)
variable{R}
theorem SR.mz'(a:α):R.mul a R.zero=R.zero:=by rw[R.mc,R.mz]
def wK:=@SR.mz'
theorem SR.Ca(a:α):R.mul a R.one=a:=by rw[R.mc,R.mo]
theorem SR.RL(a b c:α):R.mul (R.add a b) c=R.add (R.mul a c) (R.mul b c):=by rw[R.mc,R.ds,R.mc c a,R.mc c b]
theorem SR.sum_cons{x:β}{l:List β}{f:β->α}:R.sum (x::l) f=R.add (f x) (R.sum l f):=rfl
def ki:=@SR.sum_cons
theorem SR.axe{l:List β}{f h:β->α}(e:∀x∈l,f x=h x):R.sum l f=R.sum l h:=by
 induction l with
 |nil=>rfl
 |cons x l a=>rw[ki,ki,e x Ou,a fun y b=>e y azo]
def oC:=@SR.axe
theorem SR.axj{l:List β}{f:β->α}(e:∀x∈l,f x=R.zero):R.sum l f=R.zero:=by
 induction l with
 |nil=>rfl
 |cons x l a=>rw[ki,e x Ou,R.az,a fun y b=>e y azo]
def Ub:=@SR.axj
theorem SR.adx{l m:List β}{f:β->α}(h:l.Perm m):R.sum l f=R.sum m f:=by
 induction h with
 |nil=>rfl
 |cons x _ b=>rw[ki,ki,b]
 |swap x y l=>rw[ki,ki,ki,ki,<-R.aa,<-R.aa,R.ac (f y)]
 |trans _ _ d c=>rw[d,c]
theorem SR.sum_add{l:List β}{f h:β->α}:R.sum l (fun x=>R.add (f x) (h x))=R.add (R.sum l f) (R.sum l h):=by
 induction l with
 |nil=>exact(R.az _).symm
 |cons x l a=>rw[ki,ki,ki,a,R.aa,R.aa,<-R.aa (h x),R.ac (h x),R.aa]
theorem SR.prod_cons{γ:Type}{x:γ}{l:List γ}{f:γ->α}:R.prod (x::l) f=R.mul (f x) (R.prod l f):=rfl
def k8:=@SR.prod_cons
theorem SR.aw'{γ:Type}{l:List γ}{f h:γ->α}(e:∀x∈l,f x=h x):R.prod l f=R.prod l h:=by
 induction l with
 |nil=>rfl
 |cons x l a=>rw[k8,k8,e x Ou,a fun y b=>e y azo]
def rK:=@SR.aw'
theorem SR.UL{γ:Type}{l:List γ}{f:γ->α}{x:γ}(a:x∈l)(e:f x=R.zero):R.prod l f=R.zero:=by
 induction l with
 |nil=>cases a
 |cons y l b=>
  rw[k8];rcases aI.1 a with rfl|a
  ·rw[e,R.mz]
  ·rw[b a,wK]
theorem SR.aqr [DecidableEq β]{U:List β}{f:β->α}(k:U.Nodup):∀{c:List β},c.Nodup->(∀x∈c,x∈U)->(∀x∈U,x∉c->f x=R.zero)->R.sum U f=R.sum c f:=by
 intro c;induction c generalizing U with
 |nil=>intro _ _ h;exact Ub fun x g=>h x g Ou
 |cons x c l=>
  intro j a m;obtain⟨g,j⟩:=ja.1 j;have n:=List.perm_cons_erase (a x Ou);rw[SR.adx n,ki,ki,l (k.erase x) j (fun y d=>by
   have b:y≠x:=fun e=>g (e▸d);exact(List.mem_erase_of_ne b).2 (a y azy)) (fun y d i=>by
   have b:y≠x:=fun e=>by subst e;exact(List.Nodup.not_mem_erase k) d
   exact m y (List.mem_of_mem_erase d) (by simp [b,i]))]
def Alike(l:List Nat)(e b:Nat->β):Prop:=∀a,a∉l->b a=e a
theorem Fo.val_zero{U:List β}{g:Nat->β->α}{W:Nat->(Nat->β)->α}{h:Nat}:∀(f:Fo) (d:Nat->β),h∈f.homes->(∀j,Alike f.vars d j->W h j=R.zero)->f.val R U g W d=R.zero
 | .nil,_,c,_=>by cases c
 | .cons v o b n,d,c,k=>by
   unfold Fo.val;rcases bQ.1 c with c|c
   ·rw[Ub (fun x _=> ?_),R.mz];have m:W h (put d v x)=R.zero:=k _ fun a i=>if_neg (fun e=>i (by simp [Fo.vars,e]));rw[SR.UL c m,wK,R.mz]
   ·rcases bQ.1 c with c|c
    ·rw[Ub (fun x _=> ?_),R.mz];rw[Fo.val_zero b _ c (fun j l=>k j fun a i=> ?_),wK];rw[l a (fun h=>i azJ)];unfold put;rw[if_neg (fun e=>i (by simp [Fo.vars,e]))]
    ·rw[Fo.val_zero n d c (fun j l=>k j fun a i=>l a (fun h=>i azJ)),wK]
def Fo.Right(U:List β)(a:Nat->(Nat->β)->List β)(g:Nat->β->α)(W:Nat->(Nat->β)->α)(R:SR α):Fo->Prop
 | .nil=>True
 | .cons v e b n=>(∀c,(a v c).Nodup/\(∀x∈a v c,x∈U)/\∀x∈U,x∉a v c->g v x=R.zero\/∃h∈e++b.homes,∀d,Alike b.vars (put c v x) d->W h d=R.zero)/\b.Right U a g W R/\n.Right U a g W R
theorem Fo.axn [DecidableEq β]{U:List β}{d:Nat->(Nat->β)->List β}{g:Nat->β->α}{W:Nat->(Nat->β)->α}(j:U.Nodup):∀(f:Fo) (c:Nat->β),f.Right U d g W R->f.yG R d g W c=f.val R U g W c
 | .nil,_,_=>rfl
 | .cons v l b n,c,⟨r,q,p⟩=>by
   unfold Fo.yG Fo.val;obtain⟨u,t,s⟩:=r c;rw[Fo.axn j n c p,oC (h:=fun x=>R.mul (R.mul (g v x) (R.prod l fun h=>W h (put c v x))) (b.val R U g W (put c v x))) (fun x _=>by rw[Fo.axn j b _ q]),
    SR.aqr (R:=R) (f:=fun x=>R.mul (R.mul (g v x) (R.prod l fun h=>W h (put c v x))) (b.val R U g W (put c v x))) j u t (fun x m i=> ?_)]
   rcases s x m i with o|⟨h,e,k⟩
   ·rw[o,R.mz,R.mz]
   ·rcases bQ.1 e with e|e
    ·rw[SR.UL e (k _ fun a _=>rfl),wK,R.mz]
    ·rw[Fo.val_zero b _ e k,wK]
def Km:=@Fo.axn
def Fo.Wf(c:Nat->List Nat):Fo->Prop
 | .nil=>True
 | .cons v d b n=>(∀h∈d,∀a∈c h,a∉b.vars)/\(∀h∈d++b.homes,∀a∈c h,a∉n.vars)/\(∀h∈n.homes,∀a∈c h,a∉v::b.vars)/\b.Wf c/\n.Wf c
theorem Fo.axc{U:List β}{g:Nat->β->α}{W:Nat->(Nat->β)->α}{o:Nat->List Nat}(hW:∀h e t,(∀a∈o h,t a=e a)->W h t=W h e):
 ∀(f:Fo) (j i:Nat->β),f.Wf o->(∀h∈f.homes,∀a∈o h,a∉f.vars->i a=j a)->f.val R U g W i=f.val R U g W j
 | .nil,_,_,_,_=>rfl
 | .cons v B b n,j,i,⟨z,s,y,w,u⟩,p=>by
   unfold Fo.val;rw[Fo.axc hW n j i u (fun h k a l m=>p h aAl a l (fun c=>by
    have q:=y h k a l;simp only[Fo.vars,aI,bQ] at c q;rcases c with c|c|c
    ·exact q (.inl c)
    ·exact q (.inr c)
    ·exact m c))]
   congr 1
   refine oC fun x _=> ?_;rw[rK (fun h k=>hW h (put j v x) (put i v x) fun a l=> ?_),Fo.axc hW b (put j v x) (put i v x) w (fun h k a l m=> ?_)]
   ·unfold put;by_cases d:a=v
    ·rw[if_pos d,if_pos d]
    ·rw[if_neg d,if_neg d];refine p h aAl a l fun c=> ?_;have r:=s h (by simp [k]) a l;simp only[Fo.vars,aI,bQ] at c;rcases c with c|c|c
     ·exact d c
     ·exact m c
     ·exact r c
   ·unfold put;by_cases d:a=v
    ·rw[if_pos d,if_pos d]
    ·rw[if_neg d,if_neg d];refine p h aAl a l fun c=> ?_;have A:=z h k a l;have r:=s h (by simp [k]) a l;simp only[Fo.vars,aI,bQ] at c;rcases c with c|c|c
     ·exact d c
     ·exact A c
     ·exact r c
def TT:=@Fo.axc
theorem Fo.axl{U:List β}{g:Nat->β->α}{W d:Nat->(Nat->β)->α}:∀(f:Fo) (a:Nat->β),(∀h∈f.homes,W h=d h)->f.val R U g W a=f.val R U g d a
 | .nil,_,_=>rfl
 | .cons v e b n,a,h=>by unfold Fo.val;rw[Fo.axl n a fun q c=>h q aAn];congr 1;refine oC fun x _=> ?_;rw[Fo.axl b _ fun q c=>h q aAn,rK fun q c=>by rw[h q aAn]]
def Pb:=@Fo.axl
theorem SR.adM{γ:Type}{r:γ}{f fa fb:γ->α}:∀{l:List γ},l.Nodup->r∈l->f r=R.add (fa r) (fb r)->(∀h∈l,h≠r->f h=fa h/\f h=fb h)->R.prod l f=R.add (R.prod l fa) (R.prod l fb)
 | [],_,h,_,_=>by cases h
 |x::l,i,h,j,c=>by
  obtain⟨g,i⟩:=ja.1 i;rw[k8,k8,k8];rcases aI.1 h with rfl|h
  ·rw[rK (h:=f) (f:=fa) (fun y a=>((c y ay5 (fun e=>g (e▸a))).1).symm),rK (h:=f) (f:=fb) (fun y a=>((c y ay5 (fun e=>g (e▸a))).2).symm),j,SR.RL]
  ·have b:x≠r:=fun e=>g (e▸h);rw[SR.adM i h j (fun y a d=>c y ay5 d),R.ds,<-(c x Ou b).1,<-(c x Ou b).2]
theorem Fo.val_add{U:List β}{g:Nat->β->α}{W s p:Nat->(Nat->β)->α}{r:Nat}(u:∀e,W r e=R.add (s r e) (p r e))(m:∀h,h≠r->W h=s h/\W h=p h):
 ∀(f:Fo) (c:Nat->β),f.homes.Nodup->r∈f.homes->f.val R U g W c=R.add (f.val R U g s c) (f.val R U g p c)
 | .nil,_,_,h=>by cases h
 | .cons v o b n,c,y,h=>by
   have w:=ow.1 y;obtain⟨d1,d2,d3⟩:=w;obtain⟨d4,d5,d6⟩:=ow.1 d2;unfold Fo.val;have a:∀(q:Fo),r∉q.homes->∀e,q.val R U g s e=q.val R U g W e/\q.val R U g p e=q.val R U g W e:=fun q l e=>
    ⟨Pb q e fun h i=>((m h (fun e=>l (e▸i))).1).symm,Pb q e fun h i=>((m h (fun e=>l (e▸i))).2).symm⟩
   have d:r∉o->∀e,R.prod o (fun h=>s h e)=R.prod o (fun h=>W h e)/\R.prod o (fun h=>p h e)=R.prod o (fun h=>W h e):=fun l e=>
    ⟨rK fun h i=>by rw[(m h (fun e=>l (e▸i))).1],rK fun h i=>by rw[(m h (fun e=>l (e▸i))).2]⟩
   rcases bQ.1 h with h|h
   ·have t:r∉b.homes:=fun i=>d3 r h r (by simp [i]) rfl;have j:r∉n.homes:=fun i=>d3 r h r (by simp [i]) rfl;rw[(a n j c).1,(a n j c).2,<-SR.RL,<-SR.sum_add];congr 1
    refine oC fun x _=> ?_;rw[(a b t _).1,(a b t _).2,SR.adM (fa:=fun h=>s h (put c v x)) (fb:=fun h=>p h (put c v x)) d1 h (u _) (fun q _ l=>⟨by rw[(m q l).1],by rw[(m q l).2]⟩),R.ds,SR.RL]
   ·have k:r∉o:=fun i=>d3 r i r h rfl;rcases bQ.1 h with h|h
    ·have j:r∉n.homes:=fun i=>d6 r h r i rfl;rw[(a n j c).1,(a n j c).2,<-SR.RL,<-SR.sum_add];congr 1;refine oC fun x _=> ?_;rw[(d k _).1,(d k _).2,Fo.val_add u m b _ d4 h,R.ds]
    ·have t:r∉b.homes:=fun i=>d6 r i r h rfl;rw[Fo.val_add u m n c d5 h,R.ds];congr 2
     ·refine oC fun x _=> ?_;rw[(d k _).1,(a b t _).1]
     ·refine oC fun x _=> ?_;rw[(d k _).2,(a b t _).2]
end
section
variable{α β:Type}
def Fo.Ok(c:Nat->List Nat)(d:List Nat):List Nat->Fo->Prop
 |_,.nil=>True
 |S,.cons v e b n=>(∀h∈e,v∈c h/\∀a∈c h,a=v\/a∈S)/\(∀h∈d,v∈c h->h∈e++b.homes)/\b.Ok c d (v::S)/\n.Ok c d S
theorem Fo.Ok.cover{e:Nat->List Nat}{l:List Nat}:∀{f:Fo} {S:List Nat},f.Ok e l S->∀h∈f.homes,∀a∈e h,a∈S\/a∈f.vars
 | .nil,_,_,h,c,_,_=>by cases c
 | .cons v m b n,S,⟨k,_,j,i⟩,h,c,a,g=>by
   simp only[Fo.vars,aI,bQ];rcases bQ.1 c with c|c
   ·rcases(k h c).2 a g with rfl|d
    ·exact .inr (.inl rfl)
    ·exact .inl d
   ·rcases bQ.1 c with c|c
    ·rcases j.cover h c a g with d|d
     ·rcases aI.1 d with rfl|d
      ·exact .inr (.inl rfl)
      ·exact .inl d
     ·exact .inr (.inr (.inl d))
    ·rcases i.cover h c a g with d|d
     ·exact .inl d
     ·exact .inr (.inr (.inr d))
theorem Fo.Ok.wf{j:Nat->List Nat}{y:List Nat}:∀{f:Fo} {S:List Nat},f.Ok j y S->f.vars.Nodup->(∀a∈f.vars,a∉S)->f.Wf j
 | .nil,_,_,_,_=>trivial
 | .cons v x b n,S,⟨w,A,t,s⟩,z,q=>by
   obtain⟨d1,d2⟩:=ja.1 z;obtain⟨d3,d4,d5⟩:=ow.1 d2;have m:v∉b.vars:=fun h=>d1 (bQ.2 (.inl h));have i:v∉n.vars:=fun h=>d1 (bQ.2 (.inr h));have r:∀a∈b.vars,a∉S:=fun a d=>q a (by simp [Fo.vars,d]);have o:∀a∈n.vars,a∉S:=fun a d=>q a (by simp [Fo.vars,d]);have g:∀h∈x,∀a∈j h,a=v\/a∈S:=fun h e=>(w h e).2;refine⟨fun h e a d u=> ?_,fun h e a d l=> ?_,fun h e a d k=> ?_,t.wf d3 (fun a d p=> ?_),s.wf d4 o⟩
   ·rcases g h e a d with rfl|c
    ·exact m u
    ·exact r a u c
   ·rcases bQ.1 e with e|e
    ·rcases g h e a d with rfl|c
     ·exact i l
     ·exact o a l c
    ·rcases t.cover h e a d with c|c
     ·rcases aI.1 c with rfl|c
      ·exact i l
      ·exact o a l c
     ·exact d5 a c a l rfl
   ·rcases s.cover h e a d with c|c
    ·exact q a (by simpa [Fo.vars] using(by
      rcases aI.1 k with rfl|k
      ·exact .inl rfl
      ·exact .inr (.inl k):a=v\/a∈b.vars\/a∈n.vars)) c
    ·rcases aI.1 k with rfl|k
     ·exact i c
     ·exact d5 a k a c rfl
   ·rcases aI.1 p with rfl|p
    ·exact m d
    ·exact r a d p
def sH [DecidableEq β](S:List Nat)(b:Nat->β):List Nat->List β->Bool
 |a::l,x::r=>(!(S.contains a)||b a==x)&&sH S b l r
 |_,_=>true
theorem adm [DecidableEq β]{S:List Nat}{e c:Nat->β}:∀{l:List Nat} {r:List β},(∀a∈l,a∈S->c a=e a)->sH S c l r=sH S e l r
 | [],_,_=>rfl
 |_::_,[],_=>rfl
 |a::l,x::r,h=>by
  unfold sH;rw[adm fun b f=>h b (by simp [f])];cases d:S.contains a with
  |false=>rfl
  |true=>rw[h a Ou azH]
theorem aeu [DecidableEq β]{S:List Nat}{e:Nat->β}:∀{l:List Nat},sH S e l (l.map e)=true
 | []=>rfl
 |a::l=>by unfold sH;rw[sW];simp [aeu]
def lL [DecidableEq β](l:List Nat)(a:List (List β×Int))(b:Nat->β):Option (List β×Int):=a.find? fun y=>y.1==l.map b
theorem ajW [DecidableEq β]{b:List (List β×Int)}{e c:Nat->β}(h:∀a∈i,c a=e a):lL i b c=lL i b e:=by unfold lL;rw[qE h]
theorem alb [DecidableEq β]{S:List Nat}{a:List (List β×Int)}{e:Nat->β}{y:List β×Int}(h:lL i a e=some y):y∈a/\sH S e i y.1=true:=by refine⟨Du h,?_⟩;have b:=z7 h;rw[beq_iff_eq.1 b];exact aeu
variable{R:SR α}
def dS [DecidableEq β](R:SR α)(b:Nat->List Nat)(a:Nat->List (List β×Int))(c:Int->α)(h:Nat)(env:Nat->β):α:=match lL (b h) (a h) env with
 |some y=>c y.2
 |none=>R.zero
theorem Pc [DecidableEq β]{b:Nat->List (List β×Int)}{c:Int->α}(h:Nat)(e d:Nat->β)(f:∀a∈A h,d a=e a):dS R A b c h d=dS R A b c h e:=by unfold dS;rw[ajW f]
def Fo.Ii [DecidableEq β](d:Nat->List Nat)(f:List Nat)(e:Nat->List (List β×Int))(a:Nat->(Nat->β)->List β)(g:Nat->β->α)(U:List β)(R:SR α):List Nat->Fo->Prop
 |_,.nil=>True
 |S,.cons v _ b n=>(∀c,(a v c).Nodup/\(∀x∈a v c,x∈U)/\∀x∈U,x∉a v c->g v x=R.zero\/∃h∈f,v∈d h/\∀y∈e h,sH (v::S) (put c v x) (d h) y.1=false)/\b.Ii d f e a g U R (v::S)/\n.Ii d f e a g U R S
theorem Fo.Ok.right [DecidableEq β]{U:List β}{d:Nat->List Nat}{u:List Nat}{j:Nat->List (List β×Int)}{z:Int->α}{g:Nat->β->α}{i:Nat->(Nat->β)->List β}:
 ∀{f:Fo} {S:List Nat},f.Ok d u S->f.vars.Nodup->(∀a∈f.vars,a∉S)->f.Ii d u j i g U R S->f.Right U i g (dS R d j z) R
 | .nil,_,_,_,_,_=>trivial
 | .cons v P b n,S,⟨O,C,B,A⟩,J,w,⟨s,N,M⟩=>by
   obtain⟨d1,d2⟩:=ja.1 J;obtain⟨d3,d4,d5⟩:=ow.1 d2;have r:v∉b.vars:=fun h=>d1 (bQ.2 (.inl h));have t:∀a∈b.vars,a∉v::S:=fun a l q=>by
    rcases aI.1 q with rfl|q
    ·exact r l
    ·exact w a (by simp [Fo.vars,l]) q
   refine⟨fun c=>⟨(s c).1,(s c).2.1,fun x E o=> ?_⟩,B.right d3 t N,A.right d4 (fun a l=>w a (by simp [Fo.vars,l])) M⟩;rcases(s c).2.2 x E o with H|⟨h,G,F,p⟩
   ·exact .inl H
   ·refine .inr ⟨h,C h G F,fun L I=> ?_⟩;unfold dS;cases m:lL (d h) (j h) L with
    |none=>rfl
    |some y=>obtain⟨D,k⟩:=alb (S:=v::S) m;rw[adm (e:=put c v x) (fun a _ l=>I a (fun K=>t a K l))] at k;rw[p y D] at k;cases k
theorem SR.axm{l:List β}{f:β->α}{m:α}:R.sum l (fun x=>R.mul m (f x))=R.mul m (R.sum l f):=by
 induction l with
 |nil=>exact(wK m).symm
 |cons x l a=>rw[ki,ki,a,R.ds]
def Kl:=@SR.axm
theorem SR.abI{γ:Type}{r:γ}{m:α}{f f':γ->α}:∀{l:List γ},l.Nodup->r∈l->f r=R.mul m (f' r)->(∀h∈l,h≠r->f h=f' h)->R.prod l f=R.mul m (R.prod l f')
 | [],_,h,_,_=>by cases h
 |x::l,d,h,j,g=>by
  obtain⟨i,d⟩:=ja.1 d;rw[k8,k8];rcases aI.1 h with rfl|h
  ·rw[rK (h:=f') (f:=f) (fun y a=>g y ay5 (fun e=>i (e▸a))),j,R.ma]
  ·have c:x≠r:=fun e=>i (e▸h);rw[SR.abI d h j (fun y a b=>g y ay5 b),g x Ou c,<-R.ma,<-R.ma,R.mc m]
theorem Fo.Uz{U:List β}{g:Nat->β->α}{W k:Nat->(Nat->β)->α}{r:Nat}{m:α}(s:∀e,W r e=R.mul m (k r e))(l:∀h,h≠r->W h=k h):
 ∀(f:Fo) (a:Nat->β),f.homes.Nodup->r∈f.homes->f.val R U g W a=R.mul m (f.val R U g k a)
 | .nil,_,_,h=>by cases h
 | .cons v p b n,a,w,h=>by
   obtain⟨d1,d2,d3⟩:=ow.1 w;obtain⟨d4,d5,d6⟩:=ow.1 d2;unfold Fo.val;have c:∀(q:Fo),r∉q.homes->∀e,q.val R U g W e=q.val R U g k e:=fun q t e=>Pb q e fun h d=>l h (fun e=>t (e▸d));rcases bQ.1 h with h|h
   ·have u:r∉b.homes:=fun d=>d3 r h r azy rfl;have j:r∉n.homes:=fun d=>d3 r h r azy rfl;rw[c n j a,<-R.ma,<-Kl];congr 1
    refine oC fun x _=> ?_;rw[c b u _,SR.abI (f':=fun h=>k h (put a v x)) (m:=m) d1 h (s _) (fun q _ t=>by rw[l q t]),<-R.ma,<-R.ma,R.mc (g v x) m,R.ma m,R.ma]
   ·have o:r∉p:=fun d=>d3 r d r h rfl;have i:∀e,R.prod p (fun h=>W h e)=R.prod p (fun h=>k h e):=fun e=>rK fun h d=>by rw[l h (fun e=>o (e▸d))]
    rcases bQ.1 h with h|h
    ·have j:r∉n.homes:=fun d=>d6 r h r d rfl;rw[c n j a,<-R.ma,<-Kl];congr 1;refine oC fun x _=> ?_;rw[i,Fo.Uz s l b _ d4 h,<-R.ma,R.mc _ m,R.ma]
    ·have u:r∉b.homes:=fun d=>d6 r d r h rfl;rw[Fo.Uz s l n a d5 h,<-R.ma,R.mc _ m,R.ma];congr 2;refine oC fun x _=> ?_;rw[i,c b u _]
def dV:SR Bool where
 zero:=false
 one:=true
 add:=fun a b=>a||b
 mul:=fun a b=>a&&b
 aa:=fun a b c=>TC a b c
 ac:=fun a b=>Bool.or_comm a b
 az:=fun a=>Kb a
 ma:=fun a b c=>Bool.and_assoc a b c
 mc:=fun a b=>Bool.and_comm a b
 mo:=fun a=>OB a
 mz:=fun a=>Bool.false_and a
 ds:=fun a b c=>Bool.and_or_distrib_left a b c
theorem dV.adw{l:List β}{f:β->Bool}:dV.sum l f=true↔∃x∈l,f x=true:=by
 induction l with
 |nil=>simp [SR.sum,dV]
 |cons x l a=>rw[ki,show dV.add (f x) (dV.sum l f)=(f x||dV.sum l f) from rfl,lK,a];simp
theorem dV.axf{γ:Type}{l:List γ}{f:γ->Bool}:dV.prod l f=true↔∀x∈l,f x=true:=by
 induction l with
 |nil=>simp [SR.prod,dV]
 |cons x l a=>rw[k8,show dV.mul (f x) (dV.prod l f)=(f x&&dV.prod l f) from rfl,cZ,a];simp
def Tr:=@dV.axf
theorem Fo.U5{U:List β}{g:Nat->β->α}{W:Nat->(Nat->β)->α}{gB:Nat->β->Bool}{WB:Nat->(Nat->β)->Bool}(j:∀v x,gB v x=false->g v x=R.zero)(hW:∀h e,WB h e=false->W h e=R.zero):
 ∀(f:Fo) (a:Nat->β),f.val dV U gB WB a=false->f.val R U g W a=R.zero
 | .nil,_,h=>by cases h
 | .cons v d b n,a,h=>by
   unfold Fo.val at h⊢;rcases aam.1 (show(_&&_)=false from h) with h|h
   ·rw[Ub (fun x m=> ?_),R.mz];have c:¬((gB v x&&dV.prod d fun h=>WB h (put a v x))&&b.val dV U gB WB (put a v x))=true:=fun o=>by have s:=(dV.adw (l:=U) (f:=fun x=>dV.mul (dV.mul (gB v x) (dV.prod d fun h=>WB h (put a v x))) (b.val dV U gB WB (put a v x)))).2 ⟨x,m,o⟩;rw[s] at h;cases h
    rw[uE] at c;rcases aam.1 c with c|c
    ·rcases aam.1 c with c|c
     ·rw[j v x c,R.mz,R.mz]
     ·have r:∃q∈d,WB q (put a v x)=false:=by
       apply S_
       intro p;have:=(Tr (l:=d) (f:=fun h=>WB h (put a v x))).2 (fun q i=>by
        cases k:WB q (put a v x) with
        |true=>rfl
        |false=>exact absurd ⟨q,i,k⟩ p)
       rw[this] at c;cases c
      obtain⟨q,i,k⟩:=r;rw[SR.UL i (hW q _ k),wK,R.mz]
    ·rw[Fo.U5 j hW b _ c,wK]
   ·rw[Fo.U5 j hW n a h,wK]
end
section
variable{β:Type}
theorem Fo.axi{U:List β}{g:Nat->β->Bool}{W:Nat->(Nat->β)->Bool}{t:Nat->List Nat}(hW:∀h e k,(∀a∈t h,k a=e a)->W h k=W h e):
 ∀(f:Fo) (d:Nat->β),f.Wf t->f.vars.Nodup->(f.val dV U g W d=true↔∃k,Alike f.vars d k/\(∀v∈f.vars,k v∈U/\g v (k v)=true)/\∀h∈f.homes,W h k=true)
 | .nil,d,_,_=>by refine⟨fun _=>⟨d,fun _ _=>rfl,fun v w=>(by cases w),fun h j=>(by cases j)⟩,fun _=>rfl⟩
 | .cons v K b n,d,⟨I,u,H,G,F⟩,S=>by
   obtain⟨d1,d2⟩:=ja.1 S;obtain⟨d3,d4,d5⟩:=ow.1 d2;have E:v∉b.vars:=fun h=>d1 (bQ.2 (.inl h));have T:v∉n.vars:=fun h=>d1 (bQ.2 (.inr h));have r:(Fo.cons v K b n).val dV U g W d=(dV.sum U (fun x=>(g v x&&dV.prod K fun h=>W h (put d v x))&&b.val dV U g W (put d v x))&&n.val dV U g W d):=rfl;rw[r,cZ,dV.adw];constructor
   ·rintro⟨⟨x,P,J⟩,B⟩;rw[cZ,cZ,Tr] at J;obtain⟨⟨R,Q⟩,s⟩:=J;obtain⟨D,y,O,t1⟩:=(Fo.axi hW b (put d v x) G d3).1 s;obtain⟨L,V,N,t2⟩:=(Fo.axi hW n d F d4).1 B;have C:D v=x:=by rw[y v E];unfold put;rw[if_pos rfl]
    refine⟨fun a=>if a∈n.vars then L a else D a,fun a i=> ?_,fun a i=> ?_,fun h j=> ?_⟩
    ·have c:a∉n.vars:=fun h=>i azJ;have m:a∉b.vars:=fun h=>i azJ;have l:a≠v:=fun h=>i azJ;simp only[if_neg c];rw[y a m];unfold put;rw[if_neg l]
    ·simp only;by_cases c:a∈n.vars
     ·rw[if_pos c];exact N a c
     ·rw[if_neg c];simp only[Fo.vars,aI,bQ] at i;rcases i with rfl|i|i
      ·rw[C];exact⟨P,R⟩
      ·exact O a i
      ·exact absurd i c
    ·rcases bQ.1 j with j|j
     ·rw[hW h (put d v x) _ fun a i=> ?_]
      ·exact Q h j
      ·have c:=u h (bQ.2 (.inl j)) a i;simp only[if_neg c];exact y a (I h j a i)
     ·rcases bQ.1 j with j|j
      ·rw[hW h D _ fun a i=> ?_]
       ·exact t1 h j
       ·have c:=u h (bQ.2 (.inr j)) a i;simp only[if_neg c]
      ·rw[hW h L _ fun a i=> ?_]
       ·exact t2 h j
       ·have q:=H h j a i;by_cases c:a∈n.vars
        ·rw[if_pos c]
        ·rw[if_neg c,V a c,y a (fun s=>q aAi)];unfold put;rw[if_neg (fun e=>q aAj)]
   ·rintro⟨k,M,z,A⟩;have w:=z v azU;constructor
    ·refine⟨k v,w.1,?_⟩;rw[cZ,cZ,Tr];have o:∀a,a∉b.vars->a∉n.vars->put d v (k v) a=k a:=fun a s B=>by
      unfold put;by_cases l:a=v
      ·rw[if_pos l,l]
      ·rw[if_neg l];exact(M a (by simp [Fo.vars,l,s,B])).symm
     refine⟨⟨w.2,fun h j=> ?_⟩,(Fo.axi hW b (put d v (k v)) G d3).2 ⟨fun a=>if a∈b.vars then k a else put d v (k v) a,fun a i=>by simp only[if_neg i],fun a i=> ?_,fun h j=> ?_⟩⟩
     ·rw[hW h k _ fun a i=>o a (I h j a i) (u h (bQ.2 (.inl j)) a i)];exact A h aAm
     ·simp only[if_pos i];exact z a az1
     ·rw[hW h k _ fun a i=> ?_]
      ·exact A h aAm
      ·by_cases m:a∈b.vars
       ·rw[if_pos m]
       ·rw[if_neg m];exact o a m (u h (bQ.2 (.inr j)) a i)
    ·refine(Fo.axi hW n d F d4).2 ⟨fun a=>if a∈n.vars then k a else d a,fun a i=>by simp only[if_neg i],fun a i=> ?_,fun h j=> ?_⟩
     ·simp only[if_pos i];exact z a az1
     ·rw[hW h k _ fun a i=> ?_]
      ·exact A h aAm
      ·have q:=H h j a i;by_cases c:a∈n.vars
       ·rw[if_pos c]
       ·rw[if_neg c];refine(M a fun p=> ?_).symm;simp only[Fo.vars,aI,bQ] at p q;rcases p with p|p|p
        ·exact q (.inl p)
        ·exact q (.inr p)
        ·exact c p
def He:=@Fo.axi
end
inductive dM(p:Nat->Option Nat):Option Nat->Nat->Prop
 |step (a:Nat):dM p (p a) a
 |up {u:Option Nat} {b a:Nat} (h:p a=some b) (k:dM p u b):dM p u a
structure dp(n:Nat)(p:Nat->Option Nat)(d:Nat->Nat):Prop where
 lt:∀a,a<n->d a<n
 root:∀a,a<n->p a=none->d a=0
 up:∀a b,a<n->p a=some b->b<n/\d a=d b+1
def dM.mW(r:dp a y J)(h:dM y O b):∀c,O=some c->b<a->c<a/\J c<J b:=by
 induction h with
 |step b=>intro c f g;have i:=r.up b c g f;exact⟨i.1,by omega⟩
 |up e _ j=>intro c f g;have i:=r.up _ _ g e;have k:=j c f i.1;exact⟨k.1,by omega⟩
def dM.trans{p:Nat->Option Nat}(g:dM p O b)(d:dM p (some b) a):dM p O a:=by
 generalize c:some b=w at d;induction d with
 |step a=>exact .up c.symm g
 |up f _ e=>exact .up f (e c)
def dM.all{n:Nat}{p:Nat->Option Nat}{d:Nat->Nat}(r:dp n p d):∀(k a:Nat),a<n->d a<=k->dM p none a
 |k,a,e,g=>by
  cases c:p a with
  |none=>have h:=dM.step (p:=p) a;rw[c] at h;exact h
  |some b=>
   have f:=r.up a b e c;match k with
   |0=>omega
   |k+1=>exact .up c (dM.all r k b f.1 Om)
def dM.child{p:Nat->Option Nat}(h:dM p O a):∃c,p c=O/\(c=a\/dM p (some c) a):=by
 induction h with
 |step a=>exact⟨a,rfl,.inl rfl⟩
 |up e _ f=>
  rename_i b a _;obtain⟨c,g,h⟩:=f;refine⟨c,g,.inr ?_⟩;rcases h with rfl|h
  ·have d:=dM.step (p:=p) a;rw[e] at d;exact d
  ·have d:=dM.step (p:=p) a;rw[e] at d;exact h.trans d
def dM.inv(h:dM y O a):y a=O\/∃b,y a=some b/\dM y O b:=by
 cases h with
 |step=>exact .inl rfl
 |up c k=>exact .inr ⟨_,c,k⟩
def dM.line{n:Nat}{p:Nat->Option Nat}{d:Nat->Nat}(r:dp n p d){b c:Nat}:∀(k a:Nat),a<n->d a<=k->dM p (some b) a->dM p (some c) a->b=c\/dM p (some b) c\/dM p (some c) b
 |k,a,j,o,m,h=>by
  rcases m.inv with f|⟨x,f,i⟩
  ·rcases h.inv with e|⟨y,e,g⟩
   ·rw[f] at e;injection e with e;exact .inl e
   ·rw[f] at e;injection e with e;subst e;exact .inr (.inr g)
  ·rcases h.inv with e|⟨y,e,g⟩
   ·rw[f] at e;injection e with e;subst e;exact .inr (.inl i)
   ·rw[f] at e;injection e with e;subst e;have l:=r.up a x j f;match k with
    |0=>omega
    |k+1=>exact dM.line r k x l.1 Om i g
def kids(n:Nat)(p:Nat->Option Nat)(u:Option Nat):List Nat:=(List.range n).filter fun a=>p a==u
def eD(b:Nat->List Nat)(f:Nat->Fo):List Nat->Fo
 | []=> .nil
 |a::l=> .cons a (b a) (f a) (eD b f l)
def eF(n:Nat)(p:Nat->Option Nat)(b:Nat->List Nat):Nat->Option Nat->Fo
 |0,_=> .nil
 |k+1,u=>eD b (fun a=>eF n p b k (some a)) (kids n p u)
def iC{p:Nat->Option Nat}:b∈kids a p O↔b<a/\p b=O:=by unfold kids;rw[fI,dP,beq_iff_eq]
def alN(n:Nat)(p:Nat->Option Nat)(u:Option Nat):(kids n p u).Nodup:=zT zU sV
def T7{b:Nat->List Nat}{f:Nat->Fo}:∀{l:List Nat} {a:Nat},a∈(eD b f l).vars↔∃c∈l,a=c\/a∈(f c).vars
 | [],a=>by simp [eD,Fo.vars]
 |c::l,a=>by
  simp only[eD,Fo.vars,aI,bQ,T7 (l:=l)];constructor
  ·rintro(h|h|⟨x,d,h⟩)
   ·exact⟨c,.inl rfl,.inl h⟩
   ·exact⟨c,.inl rfl,.inr h⟩
   ·exact⟨x,.inr d,h⟩
  ·rintro⟨x,d,h⟩;rcases d with rfl|d
   ·rcases h with h|h
    ·exact .inl h
    ·exact .inr (.inl h)
   ·exact .inr (.inr ⟨x,d,h⟩)
def aa5{homes:Nat->List Nat}{f:Nat->Fo}(d:∀c h,h∈(f c).homes↔∃v∈(f c).vars,h∈homes v):∀{l:List Nat} {h:Nat},h∈(eD homes f l).homes↔∃v∈(eD homes f l).vars,h∈homes v
 | [],h=>by simp [eD,Fo.vars,Fo.homes]
 |c::l,h=>by
  simp only[eD,Fo.vars,Fo.homes,aI,bQ,aa5 d (l:=l),d c];constructor
  ·rintro(a|⟨v,b,a⟩|⟨v,b,a⟩)
   ·exact⟨c,.inl rfl,a⟩
   ·exact⟨v,.inr (.inl b),a⟩
   ·exact⟨v,.inr (.inr b),a⟩
  ·rintro⟨v,rfl|b|b,a⟩
   ·exact .inl a
   ·exact .inr (.inl ⟨v,b,a⟩)
   ·exact .inr (.inr ⟨v,b,a⟩)
def Tw{n:Nat}{p:Nat->Option Nat}{homes:Nat->List Nat}:∀(k:Nat) (u:Option Nat) (h:Nat),h∈(eF n p homes k u).homes↔∃v∈(eF n p homes k u).vars,h∈homes v
 |0,u,h=>by simp [eF,Fo.vars,Fo.homes]
 |k+1,u,h=>aa5 (f:=fun a=>eF n p homes k (some a)) (fun c h=>Tw k (some c) h)
def gH(d:Nat->Nat):Option Nat->Nat
 |none=>0
 |some a=>d a+1
def xO{n:Nat}{p:Nat->Option Nat}{d:Nat->Nat}{homes:Nat->List Nat}(r:dp n p d):∀(k:Nat) (u:Option Nat) (a:Nat),(∀b,u=some b->b<n)->n<=k+gH d u->(a∈(eF n p homes k u).vars↔a<n/\dM p u a)
 |0,u,a,s,o=>by
  simp only[eF,Fo.vars,bF,false_iff];rintro⟨j,h⟩;cases u with
  |none=>simp only[gH] at o;omega
  |some b=>have t:=h.mW r b rfl j;have g:=r.lt a j;simp only[gH] at o;omega
 |k+1,u,a,s,o=>by
  have i:∀c,c<n->p c=u->gH d (some c)=gH d u+1:=fun c m q=>by
   cases u with
   |none=>simp only[gH];rw[r.root c m q]
   |some b=>simp only[gH];rw[(r.up c b m q).2]
  show a∈(eD homes (fun a=>eF n p homes k (some a)) (kids n p u)).vars↔_
  rw[T7];constructor
  ·rintro⟨c,m,h⟩;obtain⟨f,e⟩:=iC.1 m;have hstep:dM p u c:=by have h:=dM.step (p:=p) c;rwa[e] at h
   rcases h with rfl|h
   ·exact⟨f,hstep⟩
   ·obtain⟨j,g⟩:=(xO r k (some c) a (fun b l=>by injection l with l;omega) (by rw[i c f e];omega)).1 h;exact⟨j,hstep.trans g⟩
  ·rintro⟨j,h⟩;obtain⟨c,e,g⟩:=h.child;have f:c<n:=by
    rcases g with rfl|g
    ·exact j
    ·exact(g.mW r c rfl j).1
   refine⟨c,iC.2 ⟨f,e⟩,?_⟩;rcases g with rfl|g
   ·exact .inl rfl
   ·exact .inr ((xO r k (some c) a (fun b l=>by injection l with l;omega) (by rw[i c f e];omega)).2 ⟨j,g⟩)
def aa4{homes:Nat->List Nat}{f:Nat->Fo}:∀{l:List Nat},l.Nodup->(∀c∈l,c∉(f c).vars/\(f c).vars.Nodup)->(∀c∈l,∀m∈l,c≠m->∀a,(a=c\/a∈(f c).vars)->¬(a=m\/a∈(f m).vars))->(eD homes f l).vars.Nodup
 | [],_,_,_=>Ox
 |c::l,j,o,n=>by
  obtain⟨t,j⟩:=ja.1 j;obtain⟨q,p⟩:=o c Ou;have r:=aa4 (homes:=homes) j (fun x g=>o x az9) (fun x g y s=>n x az9 y aAi);show(c::((f c).vars++(eD homes f l).vars)).Nodup
  have i:∀a,(a=c\/a∈(f c).vars)->a∉(eD homes f l).vars:=fun a k d=>by obtain⟨x,g,h⟩:=T7.1 d;exact n c Ou x az9 (fun e=>t (e▸g)) a k h
  refine ja.2 ⟨fun d=> ?_,ow.2 ⟨p,r,fun a k b u e=> ?_⟩⟩
  ·rcases bQ.1 d with d|d
   ·exact q d
   ·exact i c (.inl rfl) d
  ·subst e;exact i a (.inr k) u
def J_{n:Nat}{p:Nat->Option Nat}{d:Nat->Nat}{homes:Nat->List Nat}(r:dp n p d):∀(k:Nat) (u:Option Nat),(∀b,u=some b->b<n)->n<=k+gH d u->(eF n p homes k u).vars.Nodup
 |0,_,_,_=>Ox
 |k+1,u,D,F=>by
  have f:∀c,c<n->p c=u->gH d (some c)=gH d u+1:=fun c l z=>by
   cases u with
   |none=>simp only[gH];rw[r.root c l z]
   |some b=>simp only[gH];rw[(r.up c b l z).2]
  have x:∀c,c∈kids n p u->∀a,a∈(eF n p homes k (some c)).vars->a<n/\dM p (some c) a:=fun c l a w=>by obtain⟨e,i⟩:=iC.1 l;exact(xO r k (some c) a (fun b v=>by injection v with v;omega) (by rw[f c e i];omega)).1 w
  refine aa4 (alN n p u) (fun c l=> ?_) (fun c l q m s a w g=> ?_)
  ·obtain⟨e,i⟩:=iC.1 l;refine⟨fun h=> ?_,J_ r k (some c) (fun b v=>by injection v with v;omega) (by rw[f c e i];omega)⟩;have o:=(x c l c h).2.mW r c rfl e;omega
  ·obtain⟨e,i⟩:=iC.1 l;obtain⟨j,t⟩:=iC.1 m;have E:d c=d q:=(by have B:=f c e i;have o:=f q j t;simp only[gH] at B o;omega)
   rcases w with rfl|w
   ·rcases g with rfl|g
    ·exact s rfl
    ·have o:=(x q m a g).2.mW r q rfl e;omega
   ·obtain⟨y,A⟩:=x c l a w;rcases g with rfl|g
    ·have o:=A.mW r c rfl j;omega
    ·obtain⟨-,C⟩:=x q m a g;rcases dM.line r (d a) a y (aK _) A C with h|h|h
     ·exact s h
     ·have o:=h.mW r c rfl j;omega
     ·have o:=h.mW r q rfl e;omega
structure afW(n:Nat)(p:Nat->Option Nat)(at_:Nat->List Nat)(hl:List Nat)(home:Nat->Nat):Prop where
 mem:∀h∈hl,home h∈at_ h
 lt:∀h∈hl,∀a∈at_ h,a<n
 way:∀h∈hl,∀a∈at_ h,a=home h\/dM p (some a) (home h)
def T8{n:Nat}{p:Nat->Option Nat}{d:Nat->Nat}{q:Nat->List Nat}{s:List Nat}{f:Nat->Nat}(r:dp n p d)(w:afW n p q s f):
 ∀(k:Nat) (u:Option Nat) (S:List Nat),(∀b,u=some b->b<n)->n<=k+gH d u->(∀a,(u=some a\/∃b,u=some b/\dM p (some a) b)->a∈S)->(eF n p (fun v=>s.filter fun h=>f h==v) k u).Ok q s S
 |0,_,_,_,_,_=>trivial
 |k+1,u,S,J,K,I=>by
  have A:∀c,c<n->p c=u->gH d (some c)=gH d u+1:=fun c t F=>by
   cases u with
   |none=>simp only[gH];rw[r.root c t F]
   |some b=>simp only[gH];rw[(r.up c b t F).2]
  have x:∀l:List Nat,(∀c∈l,c<n/\p c=u)->(eD (fun v=>s.filter fun h=>f h==v) (fun a=>eF n p (fun v=>s.filter fun h=>f h==v) k (some a)) l).Ok q s S:=by
   intro l;induction l with
   |nil=>intro _;trivial
   |cons v l H=>
    intro z;obtain⟨D,j⟩:=z v Ou;have g:n<=k+gH d (some v):=by rw[A v D j];omega
    have y:∀b,some v=some b->b<n:=fun b G=>by injection G with G;omega
    have C:∀a,dM p (some a) v->a∈S:=fun a B=>I a (by
     rcases B.inv with h|⟨b,i,o⟩
     ·exact .inl (j.symm.trans h)
     ·exact .inr ⟨b,j.symm.trans i,o⟩)
    refine⟨fun h m=> ?_,fun h m E=> ?_,T8 r w k (some v) (v::S) y g (fun a B=> ?_),H fun c t=>z c (by simp [t])⟩
    ·obtain⟨i,o⟩:=fI.1 m;have o:=beq_iff_eq.1 o;subst o;refine⟨w.mem h i,fun a B=> ?_⟩;rcases w.way h i a B with e|e
     ·exact .inl e
     ·exact .inr (C a e)
    ·rcases w.way h m v E with e|e
     ·exact bQ.2 (.inl (fI.2 ⟨m,beq_iff_eq.2 e.symm⟩))
     ·refine bQ.2 (.inr ((Tw k (some v) h).2 ⟨f h,?_,fI.2 ⟨m,beq_self_eq_true _⟩⟩));exact(xO r k (some v) (f h) y g).2 ⟨w.lt h m _ (w.mem h m),e⟩
    ·rcases B with h|⟨b,i,o⟩
     ·injection h with h;rw[h];exact lI
     ·injection i with i;subst i;exact sS _ (C a o)
  exact x (kids n p u) fun c t=>iC.1 t
abbrev VS:=Nat->Bool
def VS.less(s t:VS):VS:=fun a=>s a&& !(t a)
def VS.one(a:Nat):VS:=fun b=>b==a
section
variable{adj:Nat->Nat->Prop}
inductive Reach(adj:Nat->Nat->Prop)(rest:VS)(a:Nat):Nat->Prop
 |refl:Reach adj rest a a
 |step {b c:Nat} (h:Reach adj rest a b) (k:adj b c) (hc:rest c=true):Reach adj rest a c
theorem Reach.trans{rest:VS}(g:Reach adj rest a b)(f:Reach adj rest b c):Reach adj rest a c:=by
 induction f with
 |refl=>exact g
 |step _ k e d=>exact .step d k e
theorem Reach.symm(d:∀a b,adj a b->adj b a){rest:VS}(f:rest a=true)(h:Reach adj rest a b):Reach adj rest b a/\rest b=true:=by
 induction h with
 |refl=>exact⟨.refl,f⟩
 |step _ k e c=>exact⟨(Reach.step .refl (d _ _ k) c.2).trans c.1,e⟩
theorem Reach.mono{rest c:VS}(e:∀x,rest x=true->c x=true)(h:Reach adj rest a b):Reach adj c a b:=by
 induction h with
 |refl=>exact .refl
 |step _ k f d=>exact .step d k (e _ f)
noncomputable def part(adj:Nat->Nat->Prop)(rest:VS)(a:Nat):VS:=fun b=> @decide (Reach adj rest a b) (Classical.propDecidable _)
theorem fK{rest:VS}:part adj rest a b=true↔Reach adj rest a b:=by unfold part;exact @decide_eq_true_iff _ (Classical.propDecidable _)
theorem rR(c:∀a b,adj a b->adj b a){rest:VS}(d:rest a=true)(h:part adj rest a b=true):rest b=true:=((fK.1 h).symm c d).2
theorem Em(f:∀a b,adj a b->adj b a){rest:VS}(g:rest a=true)(h:part adj rest a b=true):part adj rest b=part adj rest a:=by
 have e:=fK.1 h;have i:=(e.symm f g).1;funext c
 rw[lZ,fK,fK];exact⟨fun d=>e.trans d,fun d=>i.trans d⟩
def ar5(adj:Nat->Nat->Prop)(rest c:VS):Prop:=∃a,rest a=true/\c=part adj rest a
theorem acK(o:∀a d,adj a d->adj d a){rest:VS}(n:rest b=true)(i:part adj rest a b=false):part adj (rest.less (part adj rest a)) b=part adj rest b:=by
 funext c
 rw[lZ,fK,fK];constructor
 ·intro h;exact h.mono fun y e=>by unfold VS.less at e;rw[cZ] at e;exact e.1
 ·intro h;induction h with
  |refl=>exact .refl
  |step p k j m=>rename_i d c;refine .step m k ?_;unfold VS.less;rw[j,OB,uA,<-uE,fK];intro g;have f:Reach adj rest b c:= .step p k j;have l:=(g.trans ((f.symm o n).1));rw[<-fK] at l;rw[l] at i;cases i
noncomputable def parts(adj:Nat->Nat->Prop):List Nat->VS->List VS
 | [],_=> []
 |a::l,rest=>if rest a=true then part adj rest a::parts adj l (rest.less (part adj rest a)) else parts adj l rest
theorem Hj(n:∀a b,adj a b->adj b a){rest0:VS}:∀(l:List Nat) (rest:VS),(∀x,rest x=true->rest0 x=true/\part adj rest x=part adj rest0 x)->
 (∀c∈parts adj l rest,ar5 adj rest0 c/\∃a∈l,rest a=true/\c=part adj rest0 a)/\∀a∈l,rest a=true->part adj rest0 a∈parts adj l rest
 | [],rest,_=>by
   refine⟨fun c k=> ?_,fun a g=> ?_⟩
   ·cases k
   ·cases g
 |a::l,rest,h=>by
  unfold parts;by_cases g:rest a=true
  ·rw[if_pos g];have m:=(h a g).2;have u:∀x,(rest.less (part adj rest a)) x=true->rest0 x=true/\part adj (rest.less (part adj rest a)) x=part adj rest0 x:=fun x d=>by unfold VS.less at d;rw[cZ,uA] at d;refine⟨(h x d.1).1,?_⟩;rw[acK n d.1 d.2];exact(h x d.1).2
   obtain⟨q,p⟩:=Hj n l (rest.less (part adj rest a)) u;refine⟨fun c k=> ?_,fun x d f=> ?_⟩
   ·rcases aI.1 k with rfl|k
    ·exact⟨⟨a,(h a g).1,m⟩,a,by simp,g,m⟩
    ·obtain⟨o,y,r,i,s⟩:=q c k;refine⟨o,y,by simp [r],?_,s⟩;unfold VS.less at i;rw[cZ] at i;exact i.1
   ·by_cases j:part adj rest a x=true
    ·have e:part adj rest0 x=part adj rest a:=by rw[<-(h x f).2];exact Em n g j
     rw[e];exact lI
    ·rcases aI.1 d with rfl|d
     ·exact absurd (fK.2 .refl) j
     ·refine sS _ (p x d ?_);unfold VS.less;rw[f,OB,uA];exact uE _▸j
  ·rw[if_neg g];obtain⟨q,p⟩:=Hj n l rest h;refine⟨fun c k=> ?_,fun x d f=> ?_⟩
   ·obtain⟨o,y,r,t⟩:=q c k;exact⟨o,y,by simp [r],t⟩
   ·rcases aI.1 d with rfl|d
    ·exact absurd f g
    ·exact p x d f
theorem aj3(r:∀d a,adj d a->adj a d){rest:VS}(s:rest a=true)(p:(rest.less (VS.one a)) b=true):
 (part adj rest a b=false/\part adj (rest.less (VS.one a)) b=part adj rest b)\/(part adj rest a b=true/\part adj (rest.less (VS.one a)) b=part adj ((part adj rest a).less (VS.one a)) b):=by
 have l:rest b=true/\VS.one a b=false:=(by unfold VS.less at p;rwa[cZ,uA] at p);cases n:part adj rest a b with
 |false=>
  refine .inl ⟨rfl,?_⟩;funext c;rw[lZ,fK,fK];constructor
  ·intro h;exact h.mono fun y f=>by unfold VS.less at f;rw[cZ] at f;exact f.1
  ·intro h;induction h with
   |refl=>exact .refl
   |step m k g i=>rename_i q c;refine .step i k ?_;unfold VS.less;rw[g,OB,uA];unfold VS.one;rw[beq_eq_false_iff_ne];intro e;subst e;have j:Reach adj rest b c:= .step m k g;rw[fK.2 (j.symm r l.1).1] at n;cases n
 |true=>
  refine .inr ⟨rfl,?_⟩;funext c;rw[lZ,fK,fK];constructor
  ·intro h;induction h with
   |refl=>exact .refl
   |step m k g i=>
    rename_i q c;refine .step i k ?_;unfold VS.less at g⊢;rw[cZ] at g⊢;refine⟨fK.2 ?_,g.2⟩;have o:Reach adj rest a q:=(fK.1 n).trans (m.mono fun y f=>by unfold VS.less at f;rw[cZ] at f;exact f.1)
    exact .step o k g.1
  ·intro h;exact h.mono fun y f=>by unfold VS.less at f⊢;rw[cZ] at f⊢;exact⟨rR r s f.1,f.2⟩
end
def VS.count(n:Nat)(s:VS):Nat:=(List.range n).countP s
def T_{c:VS}{a:Nat}(f:c a=true):∀{l:List Nat},a∈l->l.countP (c.less (VS.one a))<l.countP c
 |x::l,h=>by
  have i:l.countP (c.less (VS.one a))<=l.countP c:=List.countP_mono_left fun x _ d=>by unfold VS.less at d;rw[cZ] at d;exact d.1
  by_cases d:x=a
  ·subst d;have e:(c.less (VS.one x)) x=false:=azY;rw[Tb (by rw[e];decide),Ta f];omega
  ·have j:a∈l:=by
    rcases aI.1 h with h|h
    ·exact absurd h.symm d
    ·exact h
   have g:=T_ f j;have e:(c.less (VS.one a)) x=c x:=by
    unfold VS.less VS.one;have:(x==a)=false:=by rw[beq_eq_false_iff_ne];exact d
    rw[this];simp
   cases b:c x with
   |true=>rw[Ta (by rw[e];exact b),Ta b];omega
   |false=>rw[Tb (by rw[e,b];decide),Tb (by rw[b];decide)];exact g
def VS.axa{n:Nat}{c:VS}(b:c a=true)(d:a<n):(c.less (VS.one a)).count n<c.count n:=T_ b (dP.2 d)
def uG:=@VS.axa
def VS.aw_{n:Nat}{c s:VS}(h:∀x,c x=true->s x=true):c.count n<=s.count n:=List.countP_mono_left fun x _ a=>h x a
def xP:=@VS.aw_
def se(l:List Nat):Nat:=l.foldl max 0
def foldl_max(l:List Nat):∀m,m<=l.foldl max m/\(∀x∈l,x<=l.foldl max m)/\∀k,m<=k->(∀x∈l,x<=k)->l.foldl max m<=k:=by
 induction l with
 |nil=>intro m;exact⟨aK _,fun x a=>(by cases a),fun k c _=>c⟩
 |cons y l e=>
  intro m;obtain⟨d,g,f⟩:=e (max m y);refine⟨a8 (Nat.le_max_left _ _) d,fun x a=> ?_,fun k c a=>f k (Nat.max_le.2 ⟨c,a y Ou⟩) fun x b=>a x azo⟩;rcases aI.1 a with rfl|a
  ·exact a8 (Nat.le_max_right _ _) d
  ·exact g x a
def V3(h:a∈i):a<=se i:=(foldl_max i 0).2.1 a h
def aeO(h:∀x∈i,x<=a):se i<=a:=(foldl_max i 0).2.2 a (aT _) h
def iQ(c:VS)(f:Nat->Nat)(l:List Nat)(m:Nat):Nat:=l.foldl (fun m a=>if c a=true then min m (f a) else m) m
def Ki{c:VS}{f:Nat->Nat}:∀(l:List Nat) (m:Nat),iQ c f l m<=m/\(∀a∈l,c a=true->iQ c f l m<=f a)/\(iQ c f l m=m\/∃a∈l,c a=true/\iQ c f l m=f a)
 | [],m=>⟨aK _,fun a d=>(by cases d),.inl rfl⟩
 |x::l,m=>by
  have e:iQ c f (x::l) m=iQ c f l (if c x=true then min m (f x) else m):=rfl;rw[e];by_cases i:c x=true
  ·rw[if_pos i];obtain⟨k,j,g⟩:=Ki (c:=c) (f:=f) l (min m (f x));refine⟨by omega,fun a d b=> ?_,?_⟩
   ·rcases aI.1 d with rfl|d
    ·omega
    ·exact j a d b
   ·rcases g with g|⟨a,d,b,g⟩
    ·rcases Nat.le_total m (f x) with h|h
     ·exact .inl Om
     ·exact .inr ⟨x,by simp,i,by omega⟩
    ·exact .inr ⟨a,by simp [d],b,g⟩
  ·rw[if_neg i];obtain⟨k,j,g⟩:=Ki l m;refine⟨k,fun a d b=> ?_,?_⟩
   ·rcases aI.1 d with rfl|d
    ·exact absurd b i
    ·exact j a d b
   ·rcases g with g|⟨a,d,b,g⟩
    ·exact .inl g
    ·exact .inr ⟨a,by simp [d],b,g⟩
def T5{c:VS}{f g:Nat->Nat}(h:∀a,c a=true->f a=g a):∀(l:List Nat) (m:Nat),iQ c f l m=iQ c g l m
 | [],_=>rfl
 |x::l,m=>by
  have e:∀f:Nat->Nat,iQ c f (x::l) m=iQ c f l (if c x=true then min m (f x) else m):=fun _=>rfl;rw[e,e,T5 h l];by_cases b:c x=true
  ·rw[if_pos b,if_pos b,h x b]
  ·rw[if_neg b,if_neg b]
section
variable(n:Nat)(adj:Nat->Nat->Prop)(ky:VS->Nat)
noncomputable def oI:Nat->VS->Nat
 |0,_=>0
 |k+1,rest=>se ((parts adj (List.range n) rest).map fun c=>max (iQ c (fun a=>oI k (c.less (VS.one a))) (List.range n) (n+1)) (ky c+1))
noncomputable def EB(k:Nat)(c:VS):Nat:=max (iQ c (fun a=>oI n adj ky k (c.less (VS.one a))) (List.range n) (n+1)) (ky c+1)
variable{n adj ky}
theorem DW(k:Nat)(rest:VS):oI n adj ky (k+1) rest=se ((parts adj (List.range n) rest).map (EB n adj ky k)):=rfl
theorem z_(e:∀a b,adj a b->adj b a){rest c:VS}(f:c∈parts adj (List.range n) rest):∃a,a<n/\rest a=true/\c=part adj rest a:=by obtain⟨_,a,g,i,h⟩:=(Hj e (List.range n) rest fun _ d=>⟨d,rfl⟩).1 c f;exact⟨a,dP.1 g,i,h⟩
theorem GX(d:∀a b,adj a b->adj b a){rest:VS}(f:a<n)(e:rest a=true):part adj rest a∈parts adj (List.range n) rest:=
 (Hj d (List.range n) rest fun _ c=>⟨c,rfl⟩).2 a (dP.2 f) e
theorem OG(h:∀a b,adj a b->adj b a):∀(k f:Nat) (s:VS),(∀x,s x=true->x<n)->s.count n<=k->s.count n<=f->oI n adj ky k s=oI n adj ky f s
 |0,0,_,_,_,_=>rfl
 |0,f+1,s,e,p,_=>by
  have m:∀x,s x=false:=fun x=>by
   cases q:s x with
   |false=>rfl
   |true=>have o:0<s.count n:=List.countP_pos_iff.2 ⟨x,dP.2 (e x q),q⟩;omega
  have t:parts adj (List.range n) s= []:=by
   rcases r:parts adj (List.range n) s with _|⟨c,l⟩
   ·rfl
   ·obtain⟨a,_,i,_⟩:=z_ h (c:=c) (by rw[r];simp);rw[m a] at i;cases i
  rw[DW,t];rfl
 |k+1,0,s,e,p,o=>(OG h 0 (k+1) s e o p).symm
 |k+1,f+1,s,e,p,o=>by rw[DW,DW];congr 1;refine qE fun c w=> ?_;obtain⟨x,_,j,rfl⟩:=z_ h w;unfold EB;congr 1;refine T5 (fun a i=> ?_) _ _;have d:∀y,part adj s x y=true->s y=true:=fun y g=>rR h j g;have u:=uG i (e a (d a i));have v:=xP (n:=n) d;refine OG h k f _ (fun y g=>e y (d y ?_)) Om Om;unfold VS.less at g;rw[cZ] at g;exact g.1
theorem acg(g:∀a b,adj a b->adj b a)(i:∀c:VS,(∃a,a<n/\c a=true)->ky c+1<=n):∀(k:Nat) (s:VS),(∀x,s x=true->x<n)->oI n adj ky k s<=n
 |0,_,_=>aT _
 |k+1,s,l=>by rw[DW];refine aeO fun y j=> ?_;obtain⟨c,m,rfl⟩:=dH.1 j;obtain⟨x,h,f,rfl⟩:=z_ g m;have d:part adj s x x=true:=fK.2 .refl;unfold EB;refine Nat.max_le.2 ⟨a8 ((Ki (List.range n) (n+1)).2.1 x (dP.2 h) d) ?_,i _ ⟨x,h,d⟩⟩;refine acg g i k _ fun z e=>l z (rR g f ?_);unfold VS.less at e;rw[cZ] at e;exact e.1
theorem akZ(l:∀d b,adj d b->adj b d)(u:∀c:VS,(∃d,d<n/\c d=true)->ky c+1<=n){k:Nat}{s:VS}(p:∀a,s a=true->a<n)(v:s.count n<=k+1)(m:s a=true):
 ∃d,part adj s a d=true/\oI n adj ky (k+1) ((part adj s d).less (VS.one d))<=oI n adj ky (k+1) s:=by
 have j:=p a m;have o:part adj s a a=true:=fK.2 .refl;have e:∀y,part adj s a y=true->s y=true:=fun y i=>rR l m i;have t:EB n adj ky k (part adj s a)<=oI n adj ky (k+1) s:=(by rw[DW];exact V3 (dH.2 ⟨_,GX l j m,rfl⟩))
 obtain⟨m1,m2,m3⟩:=Ki (f:=fun d=>oI n adj ky k ((part adj s a).less (VS.one d))) (List.range n) (n+1);have g:∀d y,((part adj s a).less (VS.one d)) y=true->y<n:=fun d y i=>p y (e y (by unfold VS.less at i;rw[cZ] at i;exact i.1))
 rcases m3 with m3|⟨d,w,h,m3⟩
 ·have B:=m2 a (dP.2 j) o;have A:=acg (ky:=ky) l u k ((part adj s a).less (VS.one a)) (g a);omega
 ·refine⟨d,h,?_⟩;rw[Em l m h];have r:=uG h (p d (e d h));have q:=xP (n:=n) e;rw[OG l (k+1) k _ (g d) Om Om];have z:iQ (part adj s a) (fun d=>oI n adj ky k ((part adj s a).less (VS.one d))) (List.range n) (n+1)<=EB n adj ky k (part adj s a):=Nat.le_max_left _ _;omega
theorem ajF(g:∀d b,adj d b->adj b d){k:Nat}{s:VS}(r:s b=true)(l:oI n adj ky (k+1) s<=a)(j:oI n adj ky (k+1) ((part adj s b).less (VS.one b))<=a):
 oI n adj ky (k+1) (s.less (VS.one b))<=a:=by
 rw[DW] at l j⊢;refine aeO fun y p=> ?_;obtain⟨c,q,rfl⟩:=dH.1 p;obtain⟨x,i,f,rfl⟩:=z_ g q;have e:s x=true/\VS.one b x=false:=by unfold VS.less at f;rwa[cZ,uA] at f
 rcases aj3 g r f with⟨o,h⟩|⟨o,h⟩
 ·rw[h];exact a8 (V3 (dH.2 ⟨_,GX g i e.1,rfl⟩)) l
 ·rw[h];refine a8 (V3 (dH.2 ⟨_,GX g i ?_,rfl⟩)) j;unfold VS.less;rw[o,e.2];rfl
end
def jU(s:VS)(p:Nat->Option Nat)(u:Option Nat):Nat->Nat->Prop
 |0,a=>s a=true/\p a=u
 |k+1,a=>s a=true/\∃b,p a=some b/\jU s p u k b
def jU.mono{s t:VS}{p q:Nat->Option Nat}{u:Option Nat}(h:∀a,s a=true->t a=true/\q a=p a):∀{k a:Nat},jU s p u k a->jU t q u k a
 |0,a,⟨c,d⟩=>⟨(h a c).1,by rw[(h a c).2];exact d⟩
 |_+1,a,⟨c,b,d,e⟩=>⟨(h a c).1,b,by rw[(h a c).2];exact d,jU.mono h e⟩
def jU.trans{s:VS}{p:Nat->Option Nat}{u:Option Nat}{j b:Nat}(f:jU s p u j b):∀{k a:Nat},jU s p (some b) k a->jU s p u (j+k+1) a
 |0,_,⟨e,d⟩=>⟨e,b,d,f⟩
 |_+1,_,⟨e,c,d,g⟩=>⟨e,c,d,jU.trans f g⟩
def jU.ZK{s:VS}{p:Nat->Option Nat}{u:Option Nat}:∀{k a:Nat},jU s p u k a->dM p u a
 |0,a,⟨_,b⟩=>by have h:=dM.step (p:=p) a;rwa[b] at h
 |_+1,_,⟨_,_,b,c⟩=> .up b c.ZK
section
variable(n:Nat)(adj:Nat->Nat->Prop)(perm:List Nat)
def jA(p:Nat->Option Nat)(a:Nat)(u:Option Nat):Nat->Option Nat:=fun x=>if x=a then u else p x
noncomputable def jZ:Nat->VS->Option Nat->(Nat->Option Nat)->(Nat->Option Nat)
 |0,_,_,p=>p
 |k+1,rest,u,p=>(parts adj (List.range n) rest).foldl (fun p c=>match perm.find? c with
  |some a=>jZ k (VS.less c (VS.one a)) (some a) (jA p a u)
  |none=>p) p
variable{n adj perm}
structure pK(adj:Nat->Nat->Prop)(n:Nat)(c:VS)(u:Option Nat)(q:Nat->Option Nat):Prop where
 ch:∀x,c x=true->∃j,j<c.count n/\jU c q u j x
 way:∀x y,c x=true->c y=true->adj x y->x≠y->(∃j,jU c q (some x) j y)\/∃j,jU c q (some y) j x
theorem pK.keep{c:VS}(h:pK adj n c O y)(i:∀x,c x=true->z x=y x):pK adj n c O z:=
 ⟨fun x e=>by
  obtain⟨j,m,l⟩:=h.ch x e;exact⟨j,m,l.mono fun a d=>⟨d,i a d⟩⟩,fun x b e k d f=>by
  rcases h.way x b e k d f with⟨j,g⟩|⟨j,g⟩
  ·exact .inl ⟨j,g.mono fun a d=>⟨d,i a d⟩⟩
  ·exact .inr ⟨j,g.mono fun a d=>⟨d,i a d⟩⟩⟩
theorem T1(f:∀a b,adj a b->adj b a){rest0:VS}:∀(l:List Nat) (rest:VS),(∀x,rest x=true->rest0 x=true/\part adj rest x=part adj rest0 x)->(parts adj l rest).Pairwise fun c p=>∀x,c x=true->p x=false
 | [],_,_=>List.Pairwise.nil
 |a::l,rest,h=>by
  unfold parts;by_cases m:rest a=true
  ·rw[if_pos m];have k:∀x,(rest.less (part adj rest a)) x=true->rest0 x=true/\part adj (rest.less (part adj rest a)) x=part adj rest0 x:=fun x d=>by unfold VS.less at d;rw[cZ,uA] at d;refine⟨(h x d.1).1,?_⟩;rw[acK f d.1 d.2];exact(h x d.1).2
   refine jI.2 ⟨fun c o x d=> ?_,T1 f l _ k⟩;obtain⟨_,y,q,g,rfl⟩:=(Hj f l (rest.less (part adj rest a)) k).1 c o;have e:=(k y g).2;cases i:part adj rest0 y x with
   |false=>rfl
   |true=>rw[<-e] at i;have j:=rR f g i;unfold VS.less at j;rw[d] at j;simp at j
  ·rw[if_neg m];exact T1 f l rest h
theorem abJ{k:Nat}{u:Option Nat}(e:∀c:VS,(∀x,c x=true->x<n)->(∃a,c a=true)->c.count n<=k+1->∀p:Nat->Option Nat,∃a,perm.find? c=some a/\(∀x,c x=false->jZ n adj perm k (VS.less c (VS.one a)) (some a) (jA p a u) x=p x)/\pK adj n c u (jZ n adj perm k (VS.less c (VS.one a)) (some a) (jA p a u))):
 ∀(L:List VS),(∀c∈L,(∀x,c x=true->x<n)/\(∃a,c a=true)/\c.count n<=k+1)->L.Pairwise (fun c f=>∀x,c x=true->f x=false)->∀p:Nat->Option Nat,
  (∀x,(∀c∈L,c x=false)->(L.foldl (fun p c=>match perm.find? c with
    |some a=>jZ n adj perm k (VS.less c (VS.one a)) (some a) (jA p a u)
    |none=>p) p) x=p x)/\∀c∈L,pK adj n c u (L.foldl (fun p c=>match perm.find? c with
    |some a=>jZ n adj perm k (VS.less c (VS.one a)) (some a) (jA p a u)
    |none=>p) p)
 | [],_,_,p=>⟨fun _ _=>rfl,fun c t=>by cases t⟩
 |c::L,o,r,p=>by
  obtain⟨l,j⟩:=jI.1 r;obtain⟨z,y,w⟩:=o c Ou;obtain⟨a,v,g,i⟩:=e c z y w p;rw[J7,v];simp only;obtain⟨m,q⟩:=abJ e L (fun f b=>o f azo) j (jZ n adj perm k (VS.less c (VS.one a)) (some a) (jA p a u));refine⟨fun x h=> ?_,fun f b=> ?_⟩
  ·rw[m x fun f b=>h f azo];exact g x (h c Ou)
  ·rcases aI.1 b with rfl|b
   ·exact i.keep fun x h=>m x fun d s=>l d s x h
   ·exact q f b
theorem OZ(G:∀a b,adj a b->adj b a)(t:∀a,a<n->a∈perm):∀(k:Nat) (rest:VS) (u:Option Nat) (p:Nat->Option Nat),(∀x,rest x=true->x<n)->rest.count n<=k->
 (∀x,rest x=false->jZ n adj perm k rest u p x=p x)/\pK adj n rest u (jZ n adj perm k rest u p)
 |0,rest,u,p,M,V=>by
  have L:∀x,rest x=false:=fun x=>by
   cases d:rest x with
   |false=>rfl
   |true=>have Z:0<rest.count n:=List.countP_pos_iff.2 ⟨x,dP.2 (M x d),d⟩;omega
  refine⟨fun _ _=>rfl,⟨fun x d=> ?_,fun x y d=> ?_⟩⟩
  ·rw[L x] at d;cases d
  ·rw[L x] at d;cases d
 |k+1,rest,u,p,M,V=>by
  have K:∀c:VS,(∀x,c x=true->x<n)->(∃a,c a=true)->c.count n<=k+1->∀p:Nat->Option Nat,∃a,perm.find? c=some a/\(∀x,c x=false->jZ n adj perm k (VS.less c (VS.one a)) (some a) (jA p a u) x=p x)/\pK adj n c u (jZ n adj perm k (VS.less c (VS.one a)) (some a) (jA p a u)):=by
   intro c E Q X p;obtain⟨a,T⟩:∃a,perm.find? c=some a:=by
    obtain⟨x,d⟩:=Q;cases W:perm.find? c with
    |some a=>exact⟨a,rfl⟩
    |none=>exact absurd d (DF.1 W x (t x (E x d)))
   have A:c a=true:=z7 T;have U:=uG (n:=n) A (E a A);have s:∀x,(VS.less c (VS.one a)) x=true->c x=true:=fun x d=>by unfold VS.less at d;rw[cZ] at d;exact d.1
   obtain⟨S,N⟩:=OZ G t k (VS.less c (VS.one a)) (some a) (jA p a u) (fun x d=>E x (s x d)) Om;have F:(VS.less c (VS.one a)) a=false:=azY;have J:jZ n adj perm k (VS.less c (VS.one a)) (some a) (jA p a u) a=u:=(by rw[S a F];unfold jA;rw[if_pos rfl])
   refine⟨a,T,?_⟩;generalize jZ n adj perm k (VS.less c (VS.one a)) (some a) (jA p a u)=q at*;have w:∀x,c x=true->x≠a->(VS.less c (VS.one a)) x=true:=fun x d o=>by
    unfold VS.less VS.one;have:(x==a)=false:=by rw[beq_eq_false_iff_ne];exact o
    rw[d,this];rfl
   have r:∀{v:Option Nat} {j x:Nat},jU (VS.less c (VS.one a)) q v j x->jU c q v j x:=fun h=>h.mono fun y D=>⟨s y D,rfl⟩;refine⟨fun x d=> ?_,⟨fun x d=> ?_,fun x y d D C o=> ?_⟩⟩
   ·have f:x≠a:=fun e=>by rw[e,A] at d;cases d
    have:(VS.less c (VS.one a)) x=false:=by unfold VS.less;rw[d];rfl
    rw[S x this];unfold jA;rw[if_neg f]
   ·by_cases f:x=a
    ·subst f;exact⟨0,by omega,A,J⟩
    ·obtain⟨j,B,l⟩:=N.ch x (w x d f);have Y:jU c q u 0 a:=⟨A,J⟩;exact⟨0+j+1,by omega,Y.trans (r l)⟩
   ·by_cases f:x=a
    ·subst f;obtain⟨j,_,l⟩:=N.ch y (w y D (fun e=>o e.symm));exact .inl ⟨j,r l⟩
    ·by_cases H:y=a
     ·subst H;obtain⟨j,_,l⟩:=N.ch x (w x d f);exact .inr ⟨j,r l⟩
     ·rcases N.way x y (w x d f) (w y D H) C o with⟨j,B⟩|⟨j,B⟩
      ·exact .inl ⟨j,r B⟩
      ·exact .inr ⟨j,r B⟩
  have m:∀c∈parts adj (List.range n) rest,∃a,a<n/\rest a=true/\c=part adj rest a:=fun c g=>z_ G g;have i:∀c∈parts adj (List.range n) rest,∀x,c x=true->rest x=true:=fun c g x d=>by obtain⟨a,_,I,rfl⟩:=m c g;exact rR G I d
  obtain⟨f1,f2⟩:=abJ (u:=u) K (parts adj (List.range n) rest) (fun c g=>by obtain⟨a,_,I,e⟩:=m c g;refine⟨fun x d=>M x (i c g x d),⟨a,by rw[e];exact fK.2 .refl⟩,?_⟩;have:=xP (n:=n) (i c g);omega) (T1 G (List.range n) rest (rest0:=rest) fun _ d=>⟨d,rfl⟩) p;refine⟨fun x d=>f1 x fun c g=> ?_,⟨fun x d=> ?_,fun x y d D C o=> ?_⟩⟩
  ·cases R:c x with
   |false=>rfl
   |true=>rw[i c g x R] at d;cases d
  ·have g:=GX (adj:=adj) G (M x d) d;obtain⟨j,B,l⟩:=(f2 _ g).ch x (fK.2 .refl);exact⟨j,cE B (xP (i _ g)),l.mono fun y D=>⟨i _ g y D,rfl⟩⟩
  ·have g:=GX (adj:=adj) G (M x d) d;have P:part adj rest x y=true:=fK.2 (.step .refl C D);rcases(f2 _ g).way x y (fK.2 .refl) P C o with⟨j,B⟩|⟨j,B⟩
   ·exact .inl ⟨j,B.mono fun z O=>⟨i _ g z O,rfl⟩⟩
   ·exact .inr ⟨j,B.mono fun z O=>⟨i _ g z O,rfl⟩⟩
end
def jU.uniq{s t:VS}{q:Nat->Option Nat}:∀{k j a:Nat},jU s q none k a->jU t q none j a->k=j
 |0,0,_,_,_=>rfl
 |0,_+1,_,⟨_,h⟩,⟨_,_,c,_⟩=>by rw[h] at c;cases c
 |_+1,0,_,⟨_,_,h,_⟩,⟨_,c⟩=>by rw[h] at c;cases c
 |k+1,j+1,_,⟨_,b,g,f⟩,⟨_,i,d,e⟩=>by rw[g] at d;injection d with d;subst d;rw[jU.uniq f e]
def jC(n:Nat):VS:=fun x=>decide (x<n)
def Hl(n:Nat):(jC n).count n=n:=by
 unfold VS.count jC;have h:(List.range n).countP (fun x=>decide (x<n))=(List.range n).length:=List.countP_eq_length.2 fun a b=>by simpa using b
 rw[h,gN]
def pK.WS{p:Nat->Nat->Prop}(h:pK p a (jC a) none y):∃d,dp a y d:=by
 have l:∀x,x<a->∃j,j<a/\jU (jC a) y none j x:=fun x e=>by obtain⟨j,g,f⟩:=h.ch x (decide_eq_true e);rw[Hl] at g;exact⟨j,g,f⟩
 refine⟨fun x=>if e:x<a then Classical.choose (l x e) else 0,?_⟩;have o:∀x (e:x<a),(if e:x<a then Classical.choose (l x e) else 0)<a/\jU (jC a) y none (if e:x<a then Classical.choose (l x e) else 0) x:=fun x e=>by rw[dif_pos e];exact Classical.choose_spec (l x e)
 refine⟨fun c i=>(o c i).1,fun c i t=> ?_,fun c b i r=> ?_⟩
 ·have g:=(o c i).2;have f:jU (jC a) y none 0 c:=⟨decide_eq_true i,t⟩;exact g.uniq f
 ·have g:=(o c i).2;generalize(if e:c<a then Classical.choose (l c e) else 0)=k at g⊢;cases k with
  |zero=>obtain⟨_,f⟩:=g;rw[r] at f;cases f
  |succ k=>
   obtain⟨_,v,f,s⟩:=g;rw[r] at f;injection f with f;subst f;have m:b<a:=by
    have u:(jC a) b=true:=by cases k<;>exact s.1
    exact of_decide_eq_true u
   exact⟨m,by rw[s.uniq (o b m).2]⟩
def Bw(a:Nat->List Nat)(b:List Nat)(x y:Nat):Prop:=∃h∈b,x∈a h/\y∈a h
def aog(c:Nat->List Nat)(d:List Nat):∀a b,Bw c d a b->Bw c d b a:=fun _ _ ⟨h,g,f,e⟩=>⟨h,g,e,f⟩
def fu(d:Nat->Nat):List Nat->Nat->Nat
 | [],m=>m
 |a::l,m=>fu d l (if d a>d m then a else m)
def OC(d:Nat->Nat):∀(l:List Nat) (m:Nat),(fu d l m=m\/fu d l m∈l)/\d m<=d (fu d l m)/\∀a∈l,d a<=d (fu d l m)
 | [],m=>⟨.inl rfl,aK _,fun a c=>by cases c⟩
 |x::l,m=>by
  have e:fu d (x::l) m=fu d l (if d x>d m then x else m):=rfl;rw[e];obtain⟨b,g,f⟩:=OC d l (if d x>d m then x else m);by_cases h:d x>d m
  ·rw[if_pos h] at b g f⊢;refine⟨.inr ?_,by omega,fun a c=> ?_⟩
   ·rcases b with b|b
    ·rw[b];simp
    ·simp [b]
   ·rcases aI.1 c with rfl|c
    ·exact g
    ·exact f a c
  ·rw[if_neg h] at b g f⊢;refine⟨?_,g,fun a c=> ?_⟩
   ·rcases b with b|b
    ·exact .inl b
    ·exact .inr azo
   ·rcases aI.1 c with rfl|c
    ·omega
    ·exact f a c
def pK.asx(h:pK (Bw A i) a (jC a) none y)(r:dp a y J)(p:∀t∈i,A t≠ [])(c:∀t∈i,∀b∈A t,b<a):
 afW a y A i (fun t=>fu J (A t) ((A t).headD 0)):=by
 have e:∀t∈i,fu J (A t) ((A t).headD 0)∈A t:=fun t f=>by
  rcases u:A t with _|⟨x,l⟩
  ·exact absurd u (p t f)
  ·rcases(OC J (x::l) x).1 with o|o
   ·show fu J (x::l) x∈_
    rw[o];simp
   ·exact o
 refine⟨e,c,fun t f b k=> ?_⟩;have w:=(OC J (A t) ((A t).headD 0)).2.2 b k;have v:=e t f;generalize fu J (A t) ((A t).headD 0)=m at*;by_cases g:b=m
 ·exact .inl g
 ·right;rcases h.way b m (decide_eq_true (c t f b k)) (decide_eq_true (c t f m v)) ⟨t,f,k,v⟩ g with⟨j,s⟩|⟨j,s⟩
  ·exact s.ZK
  ·have o:=s.ZK.mW r m rfl (c t f b k);omega
def ej(a b:Nat):Nat:=a^^^(a&&&b)
def Hy(a b i:Nat):(ej a b).testBit i=(a.testBit i&& !b.testBit i):=by unfold ej;rw[Nat.testBit_xor,aaN];cases a.testBit i<;>cases b.testBit i<;>rfl
def P7{a:Nat}(c:a<4096):a&&&b<4096:=by rw[Az];exact sT (n:=12) _ c
def V'{a:Nat}(c:a<4096):ej a b<4096:=zV (n:=12) c (P7 c)
def ED{a:Nat}(d:a<4096)(c:b<4096):bits .or .u64 (a:Int) (b:Int)=((a|||b:Nat):Int):=bits_or_u64_nat a b Om Om
def Wv{a:Nat}(d:a<4096)(c:b<4096):bits .and .u64 (a:Int) (b:Int)=((a&&&b:Nat):Int):=bits_and_u64_nat a b Om Om
def ajv(a b:Nat)(k:a<18446744073709551616)(j:b<18446744073709551616):bits .andNot .u64 (a:Int) (b:Int)=((ej a b:Nat):Int):=by
 have h:ej a b<2^64:=zV Om (sT _ Om);have f:(BitVec.ofInt 64 (a:Int)).toNat=a:=(by rw[BitVec.ofInt_natCast,BitVec.toNat_ofNat];exact uB Om)
 have e:(BitVec.ofInt 64 (b:Int)).toNat=b:=(by rw[BitVec.ofInt_natCast,BitVec.toNat_ofNat];exact uB Om);have d:(BitVec.ofInt 64 (a:Int)&&&~~~BitVec.ofInt 64 (b:Int)).toNat=ej a b:=by
  apply Te
  intro i;rw[Hy,aap,BitVec.getLsbD_and,BitVec.getLsbD_not,<-aap,<-aap,f,e];by_cases c:i<64
  ·simp [c]
  ·have:a.testBit i=false:=aaj (cE (show a<2^64 by omega) (gM Om Om));simp [this]
 show IntKind.u64.wrap ((BitVec.ofInt 64 (a:Int)&&&~~~BitVec.ofInt 64 (b:Int)).toNat:Int)=_
 rw[d,k7];omega
def A_{a:Nat}(d:a<4096)(c:b<4096):bits .andNot .u64 (a:Int) (b:Int)=((ej a b:Nat):Int):=ajv a b Om Om
def ar8{a:Nat}(b:a<32):IntKind.u64.wrap ((2:Int)^a)=((2^a:Nat):Int):=by have h:2^a<4294967296:=JZ (a:=2) (m:=a) (n:=32) Om b;rw[k7];have:((2:Int)^a)=((2^a:Nat):Int):=Ou;rw[this];generalize(2:Nat)^a=p at*;omega
def Wu(m a:Nat):(m:Int)/ (2:Int)^a=((m/2^a:Nat):Int):=Ou
def Ew{a:Nat}(b:a<12):2^a<4096:=JZ (a:=2) Om b
def ar9{a:Nat}(c:b<4096):(bits .and .u64 ((b/2^a:Nat):Int) 1==1)=b.testBit a:=by have h:=DN b (2^a);rw[show(1:Int)=((1:Nat):Int) from rfl,bits_and_u64_nat _ 1 Om Om,Nat.testBit,Nat.shiftRight_eq_div_pow,Az 1 (b/2^a)];have d:=sT (b/2^a) (y:=1) (n:=1) Om;generalize b/2^a&&&1=q at*;rcases(show q=0\/q=1 by omega) with rfl|rfl<;>rfl
def rU(a:Nat):(2^a).testBit=VS.one a:=by
 funext b
 rw[Nat.testBit_two_pow,VS.one];by_cases h:a=b
 ·simp [h]
 ·simp [h,fM h]
def AU(a b:Nat):(ej a b).testBit=VS.less a.testBit b.testBit:=by
 funext i
 rw[Hy,VS.less]
def tk{n:Nat}(e:b<2^n)(h:b.testBit c=true):c<n:=by
 rcases cA c n with d|d
 ·exact d
 ·rw[aaj (cE e (gM Om d))] at h;cases h
def cnt(m:Nat):Nat:=VS.count 12 m.testBit
def asO:Bool:=(List.range 4096).all fun m=>m==0||(cnt (m&&&(m - 1))+1==cnt m&&m&&&(m - 1)<4096)
def ar2:asO=true:=Ok
def ap2(c:b<4096)(d:b≠0):cnt (b&&&(b - 1))+1=cnt b/\b&&&(b - 1)<4096:=by have h:=uD.1 ar2 b (dP.2 c);simpa [d] using h
def fP(g:List Nat)(x y:Nat):Prop:=(g.getD x 0).testBit y=true
structure mV(g:List Nat):Prop where
 le:g.length<=12
 lt:∀x,g.getD x 0<2^g.length
 symm:∀x y,fP g x y->fP g y x
 lm:∀x,¬fP g x x
theorem mV.ku{g:List Nat}(h:mV g){m:Nat}(hm:m<2^g.length):m<4096:=Nat.lt_of_lt_of_le hm (Nat.pow_le_pow_right (j:=12) (by omega) h.le)
def hZ(g:List Nat)(s:Nat):Nat->Nat
 |0=>0
 |i+1=>if s.testBit i=true then hZ g s i|||g.getD i 0 else hZ g s i
def Hu{g:List Nat}(b:mV g)(s:Nat):∀i,hZ g s i<2^g.length
 |0=>zZ _
 |i+1=>by
  unfold hZ;split
  ·exact J3 (Hu b s i) (b.lt i)
  ·exact Hu b s i
def UQ{g:List Nat}{s y:Nat}:∀{i:Nat},(hZ g s i).testBit y=true↔∃b,b<i/\s.testBit b=true/\fP g b y
 |0=>by simp [hZ]
 |i+1=>by
  have j:=UQ (g:=g) (s:=s) (y:=y) (i:=i);unfold hZ;by_cases h:s.testBit i=true
  ·rw[if_pos h,Ka,lK,j];constructor
   ·rintro(⟨b,e,c⟩|e)
    ·exact⟨b,by omega,c⟩
    ·exact⟨i,by omega,h,e⟩
   ·rintro⟨b,e,c,f⟩;rcases cA b i with d|d
    ·exact .inl ⟨b,d,c,f⟩
    ·obtain rfl:b=i:=Om;exact .inr f
  ·rw[if_neg h,j];constructor
   ·rintro⟨b,e,c⟩;exact⟨b,by omega,c⟩
   ·rintro⟨b,e,c,f⟩;refine⟨b,?_,c,f⟩;rcases cA b i with d|d
    ·exact d
    ·obtain rfl:b=i:=Om;exact absurd c h
structure uV(g:List Nat)(rest a ae next:Nat):Prop where
 lo:ae<2^g.length
 ln:next<2^g.length
 sub:∀x,next.testBit x=true->ae.testBit x=true
 reach:∀x,ae.testBit x=true->Reach (fP g) rest.testBit a x
 self:ae.testBit a=true
 cl:∀x y,ae.testBit x=true->next.testBit x=false->fP g x y->rest.testBit y=true->ae.testBit y=true
section
variable{g:List Nat}{rest a ae next:Nat}
theorem Pg{a:Nat}(c:a<b):2^a<2^b:=JZ Om c
theorem uV.start(c:a<g.length):uV g rest a (2^a) (2^a):=by
 have h:∀x,(2^a).testBit x=true->x=a:=fun x b=>by rw[rU] at b;simpa [VS.one] using b
 have e:(2^a).testBit a=true:=by rw[rU];simp [VS.one]
 refine⟨Pg c,Pg c,fun _ h=>h,fun x b=> ?_,e,fun x y d f=> ?_⟩
 ·rw[h x b];exact .refl
 ·rw[f] at d;cases d
theorem uV.round(F:mV g)(C:rest<2^g.length)(h:uV g rest a ae next)(_h0:next≠0):
 uV g rest a (ae|||ej (hZ g next g.length&&&rest) ae) (ej (hZ g next g.length&&&rest) ae)/\
 2*(12 - cnt (ae|||ej (hZ g next g.length&&&rest) ae))+(if ej (hZ g next g.length&&&rest) ae=0 then 0 else 1)<2*(12 - cnt ae)+1:=by
 have z:ej (hZ g next g.length&&&rest) ae<2^g.length:=zV (sT _ C) (by rw[Az];exact sT _ (sT _ C));have A:∀y,(ej (hZ g next g.length&&&rest) ae).testBit y=true↔(∃b,next.testBit b=true/\fP g b y)/\rest.testBit y=true/\ae.testBit y=false:=fun y=>by
  rw[Hy,aaN,cZ,cZ,UQ,uA,and_assoc];constructor
  ·rintro⟨⟨b,_,d⟩,k⟩;exact⟨⟨b,d⟩,k⟩
  ·rintro⟨⟨b,f,d⟩,k⟩;exact⟨⟨b,tk h.ln f,f,d⟩,k⟩
 generalize ej (hZ g next g.length&&&rest) ae=j at*;have m:∀y,(ae|||j).testBit y=true↔ae.testBit y=true\/j.testBit y=true:=fun y=>by rw[Ka,lK]
 refine⟨⟨J3 h.lo z,z,fun x o=>(m x).2 (.inr o),fun x o=> ?_,(m a).2 (.inl h.self),fun x y f d k t=> ?_⟩,?_⟩
 ·rcases(m x).1 o with f|f
  ·exact h.reach x f
  ·obtain⟨⟨b,d,k⟩,t,_⟩:=(A x).1 f;exact .step (h.reach b (h.sub b d)) k t
 ·rcases(m x).1 f with B|B
  ·by_cases E:next.testBit x=true
   ·cases D:ae.testBit y with
    |true=>exact(m y).2 (.inl D)
    |false=>exact(m y).2 (.inr ((A y).2 ⟨⟨x,E,k⟩,t,D⟩))
   ·exact(m y).2 (.inl (h.cl x y B (by simpa using E) k t))
  ·rw[B] at d;cases d
 ·by_cases r:j=0
  ·rw[if_pos r,r,Nat.or_zero];omega
  ·rw[if_neg r];obtain⟨y,v⟩:∃y,j.testBit y=true:=by
    rcases Classical.em (∃y,j.testBit y=true) with f|f
    ·exact f
    ·exact absurd (Te fun i=>by rw[GL];simpa using fun d=>f ⟨i,d⟩) r
   have u:=((A y).1 v).2.2;have q:y<12:=cE (tk z v) F.le;have f:cnt ae<cnt (ae|||j):=by
    have d:=uG (n:=12) (c:=(ae|||j).testBit) (a:=y) ((m y).2 (.inr v)) q;have k:=xP (n:=12) (c:=ae.testBit) (s:=VS.less (ae|||j).testBit (VS.one y)) fun x o=>by
     have w:x≠y:=fun e=>by rw[e,u] at o;cases o
     rw[VS.less,(m x).2 (.inl o)];simp [VS.one,w]
    exact DC k d
   have d:cnt (ae|||j)<=12:=(by have:=Ob (p:=(ae|||j).testBit) (l:=List.range 12);rwa[gN] at this);omega
theorem uV.done(h:uV g rest a ae 0):ae.testBit=part (fP g) rest.testBit a:=by
 funext x
 rw[lZ,fK];refine⟨h.reach x,fun c=> ?_⟩;induction c with
 |refl=>exact h.self
 |step _ k d b=>exact h.cl _ _ b (GL _) k d
end
abbrev mY:TypeId:=209
def xm(_:au)(c:List Value)(m:Nat):Prop:=c= [.int .u64 (m:Int)]
def xm.jN:j7 [] xm:=fun _ _ _ _ _ h=>h
def rT:=@xm.jN
def xm.one(w:au)(c:List Value)(m:Nat)(h:xm w c m):c.length=1:=azQ
abbrev fY:=Ls mY xm
def fY.ext{w':au}(h:fY m p l)(a:Ext m w'):fY w' p l:=bX rT h a
def fY.get{n:Nat}(h:fY m (.slice E n a) j){i:Nat}(b:i<j.length):∃g o,E=cT g o/\g<m.heap.size/\ay m g (o+i) (.int .u64 ((j.getD i 0:Nat):Int)):=by obtain⟨g,o,d,q,p,k,f⟩:=qR xm.one Od h b;have e:=f 0 _ (by rw[show d=_ from k];rfl);rw[l8,jK] at e;rw[fG,aV b,aaF];exact⟨g,o,q,p,e⟩
def ye(a:Nat)(w:au)(c:a<32):
 Calls prog 139 #[av a] w fun e b=>e= .returned (.int .u64 ((2^a:Nat):Int))/\b=w:=by
 go_enter func139,ntmps139;go_wp2;go_ret;exact⟨by rw[<-ar8 c];rfl,rfl⟩
def D8(m a:Nat)(w:au)(c:m<4096)(d:a<32):
 Calls prog 137 #[.int .u64 m,av a] w fun e b=>e= .returned (.bool (m.testBit a))/\b=w:=by
 go_enter func137,ntmps137;go_wp2;go_ret;exact⟨by rw[<-ar9 c,<-Wu];rfl,rfl⟩
def afb(b:a<4294967296)(h:a≠0):IntKind.u64.wrap ((a:Int) - 1)=((a - 1:Nat):Int):=by rw[k7];omega
def acQ(m:Nat)(w:au)(t:m<4096):
 Calls prog 276 #[.int .u64 m] w fun e q=>e= .returned (av (cnt m:Nat))/\q=w:=by
 have A:ah (cnt m=0+cnt m):=(jc _).symm;have y:ah (∀x:Nat,cnt x<=12):=fun x=>by have:=Ob (p:=x.testBit) (l:=List.range 12);rwa[gN] at this
 generalize u:cnt m=k at*;have n:=af u;go_enter func276,ntmps276;go_wp2_with fail
 go_loopw [0,3] (fun b r wr=>∃x i:Nat,b= .int .u64 x/\r=av i/\ah (x<4096)/\ah (k=i+cnt x)/\wr=w) (fun b _ _=>cnt (RowKit.intOf b).toNat)
 exact⟨m,0,rfl,rfl,t,by rw[ah,n.ae];omega,rfl⟩;obtain⟨x,i,rfl,rfl,a,g,rfl⟩:=hrel;by_cases d:x=0
 ·subst d;have v:ah (k=i):=by have h:=g.ae;have c:cnt 0=0:=Od;rw[c] at h;exact h
  go_wp2;go_ret;exact⟨by rw[v.ae];rfl,rfl⟩
 ·have s:((x:Int) !=0)=true:=Oc;have f:=af (ap2 a d);have j:=af (afb (TQ a Om) d);have o:=af (Wv a (show x - 1<4096 by have:=a.ae;unfold ah at*;omega));have z:i<=12:=by have h:=g.ae;have c:=y m;rw[n.ae] at c;omega
  go_wp2;go_roundw;exact⟨x&&&(x - 1),i+1,by rw[j.ae,o.ae],by go_num,f.2,by have h:=g.ae;have:=f.1;rw[ah];omega,trivial⟩;rw[j.ae,o.ae];show cnt (((x&&&(x - 1):Nat):Int)).toNat<cnt ((x:Int)).toNat
  rw[kF,kF];have:=f.1;omega
def adS(A:aS)(n c:Nat)(g:List Nat)(w:au)(h:fY w (.slice A n c) g)(q:g.length<=12):
 Calls prog 135 #[.slice A n c] w fun e f=>e= .returned (.int .u64 ((2^g.length - 1:Nat):Int))/\f=w:=by
 obtain⟨j,i,k⟩:=bE h;subst j;have d:=af (ye g.length w Om);have l:2^g.length<4294967296:=JZ (a:=2) (m:=g.length) (n:=32) Om Om;have b:=af (afb l az');generalize 2^g.length=p at d b⊢;go_enter func135,ntmps135;go_wp2_with fail
 refine d.mono ?_;rintro e o ⟨rfl,rfl⟩;go_wp2;go_ret;exact⟨by rw[<-b.ae];rfl,rfl⟩
def acS(A:aS)(n c:Nat)(g:List Nat)(rest a:Nat)(w:au)(h:fY w (.slice A n c) g)(y:mV g)(O:rest<2^g.length)(J:a<g.length):
 Calls prog 138 #[.slice A n c,.int .u64 rest,av a] w fun e M=>∃m:Nat,e= .returned (.int .u64 m)/\m.testBit=part (fP g) rest.testBit a/\m<2^g.length/\M=w:=by
 obtain⟨R,Q,T⟩:=bE h;subst R;have W:=af h;have f:=af y;have K:=af O;have HA:=af J;have V:=af (ye a w (by have:=y.le;omega));have D:=af (uV.start (rest:=rest) J);have S:=y.le;go_enter func138,ntmps138;go_wp2_with fail
 refine V.mono ?_;rintro e F ⟨rfl,rfl⟩;generalize 2^a=G at*;go_upto_region 3 with fail
 go_loopw [7,8,9,10,11] (fun v u _ _ _ wr=>∃ae next:Nat,v= .int .u64 ae/\u= .int .u64 next/\ah (uV g rest a ae next)/\wr=F) (fun v u _ _ _ _=>2*(12 - cnt (RowKit.intOf v).toNat)+if (RowKit.intOf u).toNat=0 then 0 else 1)
 exact⟨G,G,rfl,rfl,D,rfl⟩;obtain⟨ae,next,rfl,rfl,t,rfl⟩:=hrel;by_cases z:next=0
 ·subst z;have Y:=af (uV.done t);go_wp2;go_ret;exact⟨ae,rfl,Y,t.lo,rfl⟩
 ·have P:((next:Int) !=0)=true:=Oc;have r:=af (uV.round f K t z);have C:=af (f.ku t.ln);have s:=af (f.ku t.lo);have B:=af (f.ku K);go_upto_region 6 with fail
  go_loopw [9,10,11,19] (fun N _ _ k L=>∃i:Nat,i<=g.length/\k=av i/\N= .int .u64 (hZ g next i:Nat)/\L=wr) (fun _ _ _ k _=>g.length - (RowKit.intOf k).toNat)
  exact⟨0,aT _,rfl,rfl,rfl⟩;obtain⟨i,hi,rfl,rfl,rfl⟩:=hrel;by_cases x:i<g.length
  ·obtain⟨gg,o,rfl,_,hc⟩:=fY.get W x;have X:=af (D8 next i wr C Om);have j:ah (hZ g next (i+1)=if next.testBit i=true then hZ g next i|||g.getD i 0 else hZ g next i):=rfl;have d:=af (f.ku (Hu f next i));have E:=af (f.ku (f.lt i));generalize g.getD i 0=U at*;generalize hZ g next i=H at*
   go_wp2_with fail
   refine X.mono ?_;rintro e F ⟨rfl,rfl⟩;cases I:next.testBit i with
   |true=>rw[I] at j;have HW:=af (ED d E);have vG:ah (hZ g next (i+1)=H|||U):=j.ae;exact agq
   |false=>rw[I] at j;have vG:ah (hZ g next (i+1)=H):=j.ae;exact agi
  ·obtain rfl:i=g.length:=Om;have d:=af (f.ku (Hu f next g.length));generalize hZ g next g.length=Z at*
   have p:=af (Wv d B);have l:=af (A_ (P7 (b:=rest) d) s);have q:=af (ED s (V' (b:=ae) (P7 (b:=rest) d)));have d1:decide (g.length<g.length)=false:=Ou;go_wp2;go_roundw;exact⟨_,_,by rw[p.ae,l.ae,q.ae],by rw[p.ae,l.ae],r.1,trivial⟩;rw[p.ae,l.ae,q.ae];simp only[RowKit.intOf,kF,z,if_false];exact r.2
def amK:ko prog 202 mY 1 8:= .mk' (z:= .int .u64 0) Ok Ok rfl Od Od
def aln{adj:Nat->Nat->Prop}(c:b<a)(rest:VS):parts adj ((List.range a).drop b) rest=if rest b=true then part adj rest b::parts adj ((List.range a).drop (b+1)) (rest.less (part adj rest b)) else parts adj ((List.range a).drop (b+1)) rest:=by rw[i6 ay7,J2];rfl
structure P9(g:List Nat)(rest:Nat)(i:Nat)(ms:List Nat)(r:Nat):Prop where
 lt:r<2^g.length
 eq:ms.map Nat.testBit++parts (fP g) ((List.range g.length).drop i) r.testBit=parts (fP g) (List.range g.length) rest.testBit
 ml:∀m∈ms,m<2^g.length
 sz:ms.length<=i
def abL(A:aS)(n c:Nat)(g:List Nat)(rest:Nat)(w:au)(h:fY w (.slice A n c) g)(K:mV g)(S:rest<2^g.length):
 Calls prog 187 #[.slice A n c,.int .u64 rest] w fun e J=>∃(v:Value) (a:List Nat),e= .returned v/\fY J v a/\a.map Nat.testBit=parts (fP g) (List.range g.length) rest.testBit/\(∀m∈a,m<2^g.length)/\Ext w J:=by
 obtain⟨U,T,X⟩:=bE h;subst U;have HL:=af h;have I:=af K;have W:=K.le;have H:ah (P9 g rest 0 [] rest):=⟨S,rfl,(fun _ h=>nomatch h),aK _⟩;go_enter func187,ntmps187;go_upto_region 3 with fail
 go_loopw [1,5,6,7,10] (fun O N _ _ f wr=>∃(r i:Nat) (a:List Nat),O= .int .u64 r/\f=av i/\i<=g.length/\ah (P9 g rest i a r)/\ah (bH mY 1 xm w.heap.size wr N a)/\ah (Ext w wr)) (fun _ _ _ _ f _=>g.length - (RowKit.intOf f).toNat)
 exact⟨rest,0,[],rfl,rfl,aT _,H,f_,aC _⟩;obtain⟨r,i,a,rfl,rfl,hi,b,E,y⟩:=hrel;by_cases q:i<g.length
 ·have G:=af (HL.ext y);have z:=af (I.ku b.lt);have HH:=af (D8 r i wr z Om);have HC:=af (acS A _ c g r i wr G I b.lt q);have B:=af (aln (adj:=fP g) q r.testBit);have V:=b.sz;go_wp2_with fail
  refine HH.mono ?_;rintro e w1 ⟨rfl,rfl⟩;cases L:r.testBit i with
  |true=>
   rw[L,if_pos rfl] at B;go_wp2_with fail;refine HC.mono ?_;rintro e w2 ⟨m,rfl,p,o,rfl⟩;have F:=af (I.ku o);have j:ah (P9 g rest (i+1) (a++ [m]) (ej r m)):=⟨zV b.lt (by rw[Az];exact sT _ b.lt),by
    rw[mL,iB,AU,p,<-b.eq,B.ae];simp [p],fun x l=>by
    rcases bQ.1 l with l|l
    ·exact b.ml x l
    ·rw[bG.1 l];exact o,by simp;omega⟩
   have HW:=af (A_ z F);obtain⟨A',Y,M,rfl,_,t,d,k⟩:=E.parts;have P:=y.size;have D:(a.length+1)*8<=140737488355328:=Om;go_wp2_with (at_builtin;refine gG rfl _ _ 202 rfl w.heap.size amK _ _ _ rfl d.ae #[.int .u64 (m:Int)] 1 1 rfl rfl rfl D P ?_)
   intro v' w3 C s _;have Z:=af (iN (R:=xm) (x:=m) rT Oy9 d k rfl C s);have E3:=af (jV y d s (aK _));go_wp2;go_roundw;exact⟨ej r m,i+1,a++ [m],by rw[HW.ae],by go_num,by omega,j,Z,E3⟩;simp [RowKit.intOf];omega
  |false=>rw[L] at B;have j:ah (P9 g rest (i+1) a r):=⟨b.lt,by rw[<-b.eq,B.ae];simp,b.ml,by omega⟩;go_wp2;go_roundw;exact⟨r,i+1,a,rfl,by go_num,by omega,j,E,y⟩;simp [RowKit.intOf];omega
 ·obtain rfl:i=g.length:=Om;obtain⟨A',Y,M,rfl,_,t,d,k⟩:=E.parts;have HE:ah (a.map Nat.testBit=parts (fP g) (List.range g.length) rest.testBit):=(by have h:=b.eq;rw[qD Ou] at h;simp only[parts,kG] at h;exact h)
  have d1:decide (g.length<g.length)=false:=Ou;go_wp2;go_ret;exact⟨_,a,rfl,(AZ d k).ls,HE,b.ml,y⟩
noncomputable def ro(g:List Nat)(s:VS):Nat:=VS.count 12 fun y=> @decide (∃b,b<g.length/\s b=true/\fP g b y) (Classical.propDecidable _)&& !s y
def apu(g:List Nat)(c:Nat):cnt (ej (hZ g c g.length) c)=ro g c.testBit:=by unfold cnt ro;congr 1;funext y;rw[Hy];congr 1;rw[lZ,UQ];exact(@decide_eq_true_iff _ (Classical.propDecidable _)).symm
def afl(q:mV i)(s:VS)(v:∃a,a<i.length/\s a=true):ro i s+1<=i.length:=by
 obtain⟨a,r,h⟩:=v;have x:ro i s<VS.count 12 (jC i.length):=by
  have t:=uG (n:=12) (c:=jC i.length) (a:=a) (decide_eq_true r) (cE r q.le);refine DC (xP fun y o=> ?_) t;rw[cZ,uA,@decide_eq_true_iff _ (Classical.propDecidable _)] at o;obtain⟨⟨b,_,_,m⟩,d⟩:=o;have f:y<i.length:=tk (q.lt b) m;have j:y≠a:=fun e=>by rw[e,h] at d;cases d
  simp [VS.less,VS.one,jC,f,j]
 have t:VS.count 12 (jC i.length)<=i.length:=by
  have m:∀k,(List.range k).countP (jC i.length)<=i.length:=fun k=>by
   induction k with
   |zero=>simp
   |succ k u=>
    rw[GQ,List.countP_append,List.countP_singleton];by_cases w:k<i.length
    ·have d:=Ob (p:=jC i.length) (l:=List.range k);rw[gN] at d;split<;>omega
    ·rw[if_neg (by simp [jC,w])];exact u
  exact m 12
 omega
def ao8(A:aS)(n c:Nat)(g:List Nat)(s:Nat)(w:au)(h:fY w (.slice A n c) g)(l:mV g)(y:s<2^g.length):
 Calls prog 238 #[.slice A n c,.int .u64 s] w fun e u=>e= .returned (av (ro g s.testBit:Nat))/\u=w:=by
 obtain⟨B,z,D⟩:=bE h;subst B;have G:=af h;have f:=af l;have C:=l.le;have j:=af (l.ku y);have H:=af (apu g s);generalize ro g s.testBit=J at*;go_enter func238,ntmps238;go_upto_region 3 with fail
 go_loopw [5,6,7,10] (fun v _ _ d wr=>∃i:Nat,i<=g.length/\d=av i/\v= .int .u64 (hZ g s i:Nat)/\wr=w) (fun _ _ _ d _=>g.length - (RowKit.intOf d).toNat)
 exact⟨0,aT _,rfl,rfl,rfl⟩;obtain⟨i,K,rfl,rfl,rfl⟩:=hrel;by_cases k:i<g.length
 ·obtain⟨M,o,rfl,_,L⟩:=fY.get G k;have I:=af (D8 s i wr j Om);have b:ah (hZ g s (i+1)=if s.testBit i=true then hZ g s i|||g.getD i 0 else hZ g s i):=rfl;have a:=af (f.ku (Hu f s i));have p:=af (f.ku (f.lt i));generalize g.getD i 0=E at*;generalize hZ g s i=q at*;go_wp2_with fail
  refine I.mono ?_;rintro e t ⟨rfl,rfl⟩;cases r:s.testBit i with
  |true=>rw[r] at b;have HW:=af (ED a p);have vG:ah (hZ g s (i+1)=q|||E):=b.ae;exact agq
  |false=>rw[r] at b;have vG:ah (hZ g s (i+1)=q):=b.ae;exact agi
 ·obtain rfl:i=g.length:=Om;have a:=af (f.ku (Hu f s g.length));generalize hZ g s g.length=x at*;have m:=af (A_ a j);have F:=af (acQ (ej x s) wr (V' a));have d1:decide (g.length<g.length)=false:=Ou;go_wp2_with fail
  rw[m.ae];refine F.mono ?_;rintro e t ⟨rfl,rfl⟩;go_wp2;go_ret;exact⟨by rw[<-H.ae];rfl,rfl⟩
def nP(l:List Int):Nat:=l.foldl (fun m a=>m|||2^a.toNat) 0
def nM(b:Nat)(g:List Nat)(l:List Int):List Nat:=l.foldl (fun g a=>g.set a.toNat (g.getD a.toNat 0|||ej b (2^a.toNat))) g
def ik(n:Nat)(a:List Rl):List Nat:=a.foldl (fun g r=>nM (nP r.2) g r.2) (List.replicate n 0)
def fold_succ{α β:Type}(f:β->α->β)(b:β){l:List α}(h:a<l.length):(l.take (a+1)).foldl f b=f ((l.take a).foldl f b) l[a]:=by rw[g9 h,DI];rfl
def adl(l:List Int)(a:Int):nP (l++ [a])=nP l|||2^a.toNat:=by unfold nP;rw[DI];rfl
def aet:∀{k:Nat} {l:List Int} {y:Nat},l.length=k->(∀a∈l,0<=a)->((nP l).testBit y=true↔(y:Int)∈l)
 |0,l,y,b,_=>by rw[lH b];simp [nP]
 |k+1,l,y,b,h=>by
  obtain⟨d,a,rfl⟩:∃d a,l=d++ [a]:=⟨l.dropLast,l.getLast (by intro e;rw[e] at b;cases b),(ajt _).symm⟩;have g:=h a Ou;rw[adl,Ka,lK,aet (k:=k) azn (fun x f=>h x (by simp [f])),rU,VS.one,beq_iff_eq,bQ,bG];constructor
  ·rintro(c|c)
   ·exact .inl c
   ·exact .inr Om
  ·rintro(c|c)
   ·exact .inl c
   ·exact .inr Om
def KV{n:Nat}:∀{k:Nat} {l:List Int},l.length=k->(∀a∈l,0<=a/\a<n)->nP l<2^n
 |0,l,b,_=>by rw[lH b];exact zZ _
 |k+1,l,b,h=>by obtain⟨c,a,rfl⟩:∃c a,l=c++ [a]:=⟨l.dropLast,l.getLast (by intro e;rw[e] at b;cases b),(ajt _).symm⟩;have f:=h a Ou;rw[adl];exact J3 (KV (k:=k) azn (fun x d=>h x azy)) (Pg Om)
structure vK(n:Nat)(P:Nat->Nat->Prop)(g:List Nat):Prop where
 len:g.length=n
 lt:∀x,g.getD x 0<2^n
 bit:∀x y,(g.getD x 0).testBit y=true↔P x y
def aeg(d:a<i.length):(i.set a c).getD b 0=if b=a then c else i.getD b 0:=by
 rw[fG,fG,qF];by_cases h:a=b
 ·subst h;simp [d]
 ·rw[if_neg h,if_neg (fM h)]
def Vh{n c:Nat}(d:c<2^n):∀(l:List Int) {P:Nat->Nat->Prop} {g:List Nat},vK n P g->(∀a∈l,0<=a/\a<n)->vK n (fun x y=>P x y\/((x:Int)∈l/\c.testBit y=true/\y≠x)) (nM c g l)
 | [],P,g,h,_=>⟨h.len,h.lt,fun x y=>by rw[show nM c g []=g from rfl,h.bit];simp⟩
 |a::l,P,g,h,m=>by
  have p:=m a Ou;have k:a.toNat<g.length:=by rw[h.len];omega
  have o:vK n (fun x y=>P x y\/(x=a.toNat/\c.testBit y=true/\y≠x)) (g.set a.toNat (g.getD a.toNat 0|||ej c (2^a.toNat))):=by
   refine⟨by rw[lY,h.len],fun x=> ?_,fun x y=> ?_⟩
   ·rw[aeg k];split
    ·exact J3 (h.lt _) (zV d aAg)
    ·exact h.lt x
   ·rw[aeg k];by_cases f:x=a.toNat
    ·rw[if_pos f,Ka,lK,Hy,rU,VS.one,h.bit,f];simp
    ·rw[if_neg f,h.bit];simp [f]
  have j:=Vh d l o fun x f=>m x (by simp [f]);refine⟨j.len,j.lt,fun x y=> ?_⟩;rw[show nM c g (a::l)=nM c (g.set a.toNat (g.getD a.toNat 0|||ej c (2^a.toNat))) l from rfl,j.bit,or_assoc];have e:(x:Int)=a↔x=a.toNat:=Om;rw[aI,e];constructor
  ·rintro(b|⟨b,i⟩|⟨b,i⟩)
   ·exact .inl b
   ·exact .inr ⟨.inl b,i⟩
   ·exact .inr ⟨.inr b,i⟩
  ·rintro(b|⟨b|b,i⟩)
   ·exact .inl b
   ·exact .inr (.inl ⟨b,i⟩)
   ·exact .inr (.inr ⟨b,i⟩)
def ab2{n:Nat}:∀(b:List Rl) {P:Nat->Nat->Prop} {g:List Nat},vK n P g->(∀r∈b,∀a∈r.2,0<=a/\a<n)->vK n (fun x y=>P x y\/∃r∈b,(x:Int)∈r.2/\(y:Int)∈r.2/\y≠x) (b.foldl (fun g r=>nM (nP r.2) g r.2) g)
 | [],P,g,h,_=>⟨h.len,h.lt,fun x y=>by rw[List.foldl_nil,h.bit];simp⟩
 |r::b,P,g,h,e=>by have c:=e r Ou;have j:=Vh (KV rfl c) r.2 h c;have d:=ab2 b j fun x f=>e x (by simp [f]);refine⟨d.len,d.lt,fun x y=> ?_⟩;rw[J7,d.bit,or_assoc,aet rfl fun a i=>(c a i).1];simp
def AJ{c:List Rl}(e:∀r∈c,∀b∈r.2,0<=b/\b<a):vK a (fun x y=>∃r∈c,(x:Int)∈r.2/\(y:Int)∈r.2/\y≠x) (ik a c):=by have f:vK a (fun _ _=>False) (List.replicate a 0):=⟨Oa,fun x=>by rw[fG,Dv];split<;>exact zZ _,fun x y=>by rw[fG,Dv];split<;>simp⟩;have d:=ab2 c f e;exact⟨d.len,d.lt,fun x y=>by rw[ik,d.bit,false_or]⟩
def vK.ok{n:Nat}{a:List Rl}{g:List Nat}(h:vK n (fun x y=>∃r∈a,(x:Int)∈r.2/\(y:Int)∈r.2/\y≠x) g)(d:n<=12):mV g:=
 ⟨by rw[h.len];exact d,fun x=>by rw[h.len];exact h.lt x,fun x y b=>by
  obtain⟨r,i,f,e,c⟩:=(h.bit x y).1 b;exact(h.bit y x).2 ⟨r,i,e,f,c.symm⟩,fun x b=>by
  obtain⟨_,_,_,_,c⟩:=(h.bit x x).1 b;exact c rfl⟩
def si(g:List Nat):List Value:=g.map fun m:Nat=>Value.int .u64 (m:Int)
def aqj(g:List Nat)(i m:Nat):(si g).set i (.int .u64 (m:Int))=si (g.set i m):=by simp [si,G8]
def aqk(h:a<i.length):(si i)[a]?=some (.int .u64 ((i.getD a 0:Nat):Int)):=by unfold si;rw[dY,fG,aV h];rfl
def afa{w:au}:∀(g:List Nat),Ch (xm w) (si g) g
 | []=>rfl
 |m::g=>⟨[.int .u64 (m:Int)],si g,rfl,rfl,afa g⟩
def aoE:(prog.info? mY).map (fun i=>(i.zero,i.size,i.bytes))=some (some (.int .u64 0),1,8):=Ok
def alF(n:Nat)(h:n<=1000)(w:au):
 (Instr.makeSlice 203 (av (n:Int)) (av (n:Int))).run prog w= .ok (aG w.heap.size 0 n n) (w.alloc (.cells (si (List.replicate n 0)).toArray mY)):=by
 obtain⟨e,f,c,b,a⟩:=info_parts aoE;have d:=run_make (P:=prog) w 203 mY e (.int .u64 0) underlying203 f c .i64 .i64 (n:Int) (n:Int) Om (AB _) azC Om;simp only[kF,b,l8,Value.cells,Ai] at d;rw[d];simp [si]
def Vm(v:Value)(x:aQ)(w:au)(h:dK w v x)(ok:cF x):
 Calls prog 134 #[v] w fun e H=>∃A,e= .returned (.slice A x.aq.length x.aq.length)/\fY H (.slice A x.aq.length x.aq.length) (ik x.aq.length x.aA)/\Ext w H:=by
 obtain⟨A,c,B,d,D,e,rfl,I,y,hf⟩:=h;obtain⟨-,iY,kB⟩:=bE y;have HR:=af y;have r6:=ok.r6;have a12:=ok.a12;have fZ:=af ok.ri;have lR:=alF x.aq.length Om;have j_:ah (∀r∈x.aA,r.2.length<=12):=fun r y=>by
  have h1:=Ib (k:=0) (n:=x.aq.length) (ok.ra r y) (ok.ri r y);rcases h1 with h1|h1
  ·rw[h1];simp
  ·omega
 have Z:ah (∀l:List Rl,(∀r∈l,r∈x.aA)->∃P,vK x.aq.length P (ik x.aq.length l)):=fun l hl=>⟨_,AJ fun r y=>ok.ri r (hl r y)⟩;have Sy:ah (ik x.aq.length (x.aA.take 0)=List.replicate x.aq.length 0):=rfl;obtain⟨RN,rz⟩:∃RN,x.aA.length=RN:=⟨_,rfl⟩;have j9:=af rz;obtain⟨N,hN⟩:∃N,x.aq.length=N:=⟨_,rfl⟩;rw[rz] at iY HR r6⊢;rw[hN] at a12 fZ lR Z Sy⊢;go_enter func134,ntmps134;go_upto_region 1 with fail
 refine aP fun W HX BX=> ?_;obtain⟨s0,s1,s2,s3⟩:=BX.four;go_upto_region 2 with fail
 refine aP fun W2 aY BG=> ?_;have js:=af (BX.ext aY);have zE:=af (HX.trans aY);have hbg:=BX.lt;have hgb:=BG.lt;obtain⟨s0,s1,s2,s3⟩:=js.four;generalize W.heap.size=L at*;have BG0:ah (ar W2 L mY (si (ik N (x.aA.take 0)))):=by rw[Sy.ae];exact BG
 go_upto_region 3 with fail
 go_loopw [18] (fun U wr=>∃i:Nat,i<=RN/\U=av i/\ah (ar wr L mY (si (ik N (x.aA.take i))))/\ah (Ext w wr)) (fun U _=>RN - (RowKit.intOf U).toNat)
 exact⟨0,aT _,rfl,BG0,zE⟩;obtain⟨i,hi,rfl,F,HE⟩:=hrel;by_cases Cj:i<RN
 ·have E:i<x.aA.length:=aAk;obtain⟨g,o,Bi,mi,di,rfl,_,dD,eH,s⟩:=qQ (bX oF HR HE) E;have hm:=(bE s).1;subst hm;have s:=af s;have f:=af (fZ _ (aZ E));have Nv:ah (ik N (x.aA.take (i+1))=nM (nP x.aA[i].2) (ik N (x.aA.take i)) x.aA[i].2):=fold_succ _ _ E;have HGP:=af (Z (x.aA.take i) fun r y=>sR y);have MD:=j_ _ (aZ E);generalize ik N (x.aA.take i)=t at*;generalize x.aA[i]=r at*;obtain⟨rn,ra⟩:=r;simp only at dD eH s f Nv MD;obtain⟨M,hM⟩:∃M,ra.length=M:=⟨_,rfl⟩;have HM:=af hM;rw[hM] at eH s MD;go_upto_region 5 with fail
  refine aP fun W3 V BR=> ?_;have X:=af (iP s V);have g7:=af (F.ext V);have Nz:=af (HE.trans V);obtain⟨b0,b1⟩:=BR.two;go_upto_region 7 with fail
  go_loopw [6,25] (fun v6 Q wq=>∃j:Nat,j<=M/\Q=av j/\v6= .int .u64 (nP (ra.take j):Nat)/\wq=W3) (fun _ Q _=>M - (RowKit.intOf Q).toNat)
  exact⟨0,aT _,rfl,rfl,rfl⟩;obtain⟨j,hj,rfl,rfl,rfl⟩:=hrel;by_cases sw:j<M
  ·have C:j<ra.length:=by rw[HM.ae];exact sw
   obtain⟨g2,o2,rfl,_,hc⟩:=io X C;obtain⟨q,hq⟩:∃q:Nat,ra[j]=(q:Int):=⟨ra[j].toNat,by have:=(f _ (aZ C)).1;omega⟩;have tU:q<N:=by have:=(f _ (aZ C)).2;omega
   have HA:ah (nP (ra.take (j+1))=nP (ra.take j)|||2^q):=(by have h:=fold_succ (fun m a=>m|||2^a.toNat) 0 C;rw[hq] at h;exact h);have G:ah (nP (ra.take j)<4096):=cE (KV rfl fun a I=>f a (sR I)) (gM (j:=12) Om a12);have HO:=af (ye q wr Om);have HQ:=af (Ew (show q<12 by omega));rw[hq] at hc;generalize nP (ra.take j)=p at*;go_wp2_with fail
   refine HO.mono ?_;rintro e1 w1 ⟨rfl,rfl⟩;generalize 2^q=pq at*;have HW:=af (ED G HQ);go_wp2;go_roundw;exact⟨j+1,by omega,by go_num,by rw[HW.ae,HA.ae],trivial⟩;simp [RowKit.intOf];omega
  ·obtain rfl:j=M:=Om;have HT:ah (ra.take j=ra):=by rw[ah,<-HM.ae];exact f9
   rw[HT.ae];have d1:decide (j<j)=false:=Ou;have G:ah (nP ra<4096):=cE (KV rfl fun a I=>f a I) (gM (j:=12) Om a12);have zw:ah (ra.length=j):=(bE X).1.symm;have HAP:ah (nP ra<2^N):=KV rfl fun a I=>f a I;generalize nP ra=p at*;have CY:ah (nM p t (ra.take 0)=t):=rfl;have nG:ah (ar wr L mY (si (nM p t (ra.take 0)))):=by rw[CY.ae];exact g7
   go_upto_region 12 with fail
   go_loopw [37] (fun O wq=>∃j':Nat,j'<=j/\O=av j'/\ah (ar wq L mY (si (nM p t (ra.take j'))))/\ah (Ext w wq)/\ah (IL wq (.slice Bi j di) ra)) (fun O _=>j - (RowKit.intOf O).toNat)
   exact⟨0,aT _,rfl,nG,Nz,X⟩;obtain⟨k,hk,rfl,F,HE,HI⟩:=hrel;by_cases hkM:k<j
   ·have z:k<ra.length:=by rw[zw.ae];exact hkM
    obtain⟨g2,o2,rfl,_,hc⟩:=io HI z;obtain⟨q,hq⟩:∃q:Nat,ra[k]=(q:Int):=⟨ra[k].toNat,by have:=(f _ (aZ z)).1;omega⟩;have tU:q<N:=by have:=(f _ (aZ z)).2;omega
    have HS:ah (nM p t (ra.take (k+1))=(nM p t (ra.take k)).set q ((nM p t (ra.take k)).getD q 0|||ej p (2^q))):=(by have h:=fold_succ (fun g (a:Int)=>g.set a.toNat (g.getD a.toNat 0|||ej p (2^a.toNat))) t z;rw[hq] at h;exact h);have Dj:ah (∃P,vK N P (nM p t (ra.take k))):=(by obtain⟨P,J⟩:=HGP.ae;exact⟨_,Vh HAP _ J fun a I=>f a (sR I)⟩);have Y:ah ((nM p t (ra.take k)).getD q 0<4096):=(by obtain⟨P,J⟩:=Dj.ae;exact cE (J.lt q) (gM (j:=12) Om a12));have hcg:ay wr L q (.int .u64 (((nM p t (ra.take k)).getD q 0:Nat):Int)):=(by obtain⟨P,J⟩:=Dj.ae;exact F.cell (aqk (by rw[J.len];exact tU)));have HO:=af (ye q wr.drew Om);have HQ:=af (Ew (show q<12 by omega));have Mp:=F.frozen q;rw[hq] at hc;generalize nM p t (ra.take k)=gk at*;generalize gk.getD q 0=gq at*;generalize 2^q=pq at*;have FL:=af (A_ G HQ);have sJ:=af (ED Y (V' (b:=pq) G));go_upto_region 14 with fail
    have bL:ah (∀H,H=wr.drew->ay H L q (.int .u64 (gq:Int))):=fun H h=>by rw[h];exact hcg
    have aH:ah (wr.drew=wr.drew):=rfl;have HBd:=af F.drew;have Sz:=af HE.drew;have HId:=af (bX cI HI (aC wr).drew);have ayB:ay wr.drew L q (.int .u64 (gq:Int)):=hcg;have ayv:wr.drew.frozen? (aB L q)=false:=Mp;refine b9 (S:=fun H=>H=wr.drew) (T:=fun j=>decide (10<=j)) Ok ?_;generalize wr.drew=wd at*;refine ax 0 41 ?_;refine ax 1 42 ?_;refine ax 2 43 ?_;refine ax 3 44 ?_;refine ax 4 45 ?_;refine ax 5 46 ?_;refine aL 6 ?_;intro K hK;go_simp;refine HO.mono ?_;rintro e1 w1 ⟨rfl,rfl⟩;refine hK.ae _ _ (fun _=>rfl) ?_;refine ax 7 48 ?_;refine ax 8 49 ?_;refine ax 9 50 ?_;obtain⟨W',jp,B7,K7,N7⟩:=gp (i:=q) HBd (.int .u64 ((gq|||ej p pq:Nat):Int));rw[aqj,<-HS.ae] at B7;have zB:=af (Ls.kept cI HId K7 ⟨by decide,fun u hu=>by cases hu⟩);have JB:=af (Ext.only Sz N7 (qI hbg));refine aL 10 ?_;intro K hK;go_simp;rw[FL.ae,sJ.ae,jp];refine hK.ae _ _ Oy9 ?_;refine bY Ok ?_;go_wp2;go_roundw;exact⟨k+1,by omega,by go_num,B7,JB,zB⟩;simp [RowKit.intOf];omega
   ·obtain rfl:k=j:=Om;have HT:ah (ra.take k=ra):=by rw[ah,<-zw.ae];exact f9
    rw[HT.ae,<-Nv.ae] at F;have d2:decide (k<k)=false:=Ou;go_wp2;go_roundw;exact⟨i+1,by omega,by go_num,F,HE⟩;simp [RowKit.intOf];omega
 ·obtain rfl:i=RN:=Om;have HT:ah (x.aA.take i=x.aA):=by rw[ah,<-j9.ae];exact f9
  rw[HT.ae] at F;have Y:=af (Z x.aA fun _ h=>h);have d1:decide (i<i)=false:=Ou;go_wp2;go_ret;refine⟨_,rfl,?_,HE⟩;obtain⟨P,J⟩:=Y.ae;have h:=mf (R:=xm) F (afa _) (by rw[J.len];omega);rwa[J.len] at h
def wN(v:Value):Option (DataW Value×List MemPlace):=some (.held v,[])
def d7(w:au)(k:TypeId)(b n:Nat)(f:Lit->Option Value):Prop:=
 ∃D:DataW Value,w.ownsMap prog k wN b n D/\∀l,WideAt.IsKeyLit l->has D l=(f l).isSome/\∀v,f l=some v->∀z,D.atKey l z= .held v
noncomputable def m_(f:Lit->Option Value)(a:Lit)(v:Value):Lit->Option Value:=fun l=> @ite _ (l=a) (Classical.propDecidable _) (some v) (f l)
def D3(f:Lit->Option Value)(a:Lit)(v:Value):m_ f a v a=some v:=by unfold m_;rw[if_pos rfl]
def vY{f:Lit->Option Value}{a l:Lit}(h:l≠a):m_ f a p l=f l:=by unfold m_;rw[if_neg h]
section
variable{w w':au}{k b n:Nat}{f:Lit->Option Value}
theorem d7.made(w:au)(k:TypeId):d7 (w.alloc (.map #[] 0)) k w.heap.size 0 fun _=>none:=
 ⟨_,World.ownsMap_made w _ _ _,fun _ _=>⟨rfl,fun v h=>by cases h⟩⟩
def KB:=@d7.made
theorem d7.lt(h:d7 w k b n f):b<w.heap.size:=by obtain⟨D,h,_⟩:=h;exact h.lt
theorem d7.kept(h:d7 w k b n f)(c:w.grownBy w' O)(a:some b≠O):d7 w' k b n f:=by obtain⟨D,h,d⟩:=h;exact⟨D,h.kept c a,d⟩
theorem d7.ext(h:d7 w k b n f)(a:Ext w w'):d7 w' k b n f:=h.kept (Ph a) Ou
theorem d7.put{e:TypeId}(h:d7 w k b n f)(K:Keyed prog k)(j:prog.underlying x=some (.map k e))(m:n<maxLen){key:Value}{g:Lit}(c:keyOf prog k key=some g)(val:Value):
 ∃w',(Instr.mapUpdate x (.map (some b)) key val).run prog w= .ok () w'/\d7 w' k b (n+1) (m_ f g val)/\Only b w w':=by
 obtain⟨D,h,u⟩:=h;obtain⟨w',s,r,q⟩:=h.update K j m c (show wN val=some (.held val,[]) from rfl);refine⟨w',s,⟨_,r,fun l i=> ?_⟩,q⟩;by_cases d:l=g
 ·subst d;rw[D3];refine⟨has_put_same h.isMap i _,fun v a z=> ?_⟩;injection a with a;rw[<-a];exact atKey_put_same h.isMap i _ z
 ·rw[vY d];obtain⟨p,o⟩:=u l i;exact⟨by rw[has_put_other d,p],fun v a z=>by rw[atKey_put_other d,o v a z]⟩
theorem d7.look{e:TypeId}(h:d7 w k b n f)(K:Keyed prog k)(l:prog.underlying x=some (.map k e))(j:(zeroValue e).run prog w= .ok p w){key:Value}{d:Lit}(c:keyOf prog k key=some d):
 (Instr.lookup x (.map (some b)) key true).run prog w= .ok (.tuple #[(f d).getD p,.bool (f d).isSome]) w:=by
 obtain⟨D,h,q⟩:=h;obtain⟨g,m⟩:=q d (K.key c);obtain⟨v,s,o,a⟩:=h.look_ok K l j (show wN p=some (.held p,[]) from rfl) c;have r:v=(f d).getD p:=by
  unfold wN at a;injection a with a;injection a with a _;cases i:f d with
  |some u=>rw[m u i] at a;injection a with a
  |none=>rw[i] at g;rw[atKey_of_not_has g] at a;injection a with a
 rw[o,g,r]
theorem d7.get{e:TypeId}(h:d7 w k b n f)(K:Keyed prog k)(l:prog.underlying x=some (.map k e)){z:Value}(j:(zeroValue e).run prog w= .ok z w){key:Value}{d:Lit}(c:keyOf prog k key=some d):
 (Instr.lookup x (.map (some b)) key false).run prog w= .ok ((f d).getD z) w:=by
 obtain⟨D,h,p⟩:=h;obtain⟨i,m⟩:=p d (K.key c);obtain⟨v,r,o,a⟩:=h.lookup K l j (show wN z=some (.held z,[]) from rfl) c;have q:v=(f d).getD z:=by
  unfold wN at a;injection a with a;injection a with a _;cases g:f d with
  |some u=>rw[m u g] at a;injection a with a
  |none=>rw[g] at i;rw[atKey_of_not_has i] at a;injection a with a
 rw[o,q]
theorem acU{α:Type}:∀{l L:List α},l.Pairwise (·≠·)->(∀x∈l,x∈L)->l.length<=L.length
 | [],_,_,_=>aT _
 |x::l,L,d,h=>by
  obtain⟨j,i⟩:=jI.1 d;obtain⟨A,B,rfl⟩:=aay (h x Ou);have g:=acU (L:=A++B) i fun y c=>by
   have a:=h y azz;have e:=j y c;simp only[bQ,aI] at a⊢;rcases a with a|a|a
   ·exact .inl a
   ·exact absurd a.symm e
   ·exact .inr a
  simp only[cW,bC] at g⊢;omega
theorem d7.bound(h:d7 w k b n f)(K:Keyed prog k)(L:List Lit)(t:∀l,(f l).isSome=true->l∈L):d7 w k b L.length f:=by
 obtain⟨D,h,i⟩:=h;refine⟨D,?_,i⟩;have q:=h.tidy K;obtain⟨j,c,u,F,_,rfl⟩:=h;refine⟨j,c,u,F,?_,rfl⟩;obtain⟨e,d,r⟩:=q;injection d with d;have s:e.length=j.size:=by rw[<-d,length_sorted];simp
 rw[<-s,<-cy (f:=Prod.fst)];refine acU (zX.2 r) fun x m=> ?_;obtain⟨p,a,rfl⟩:=dH.1 m;have g:WideAt.IsKeyLit p.1:=by rw[<-d] at a;obtain⟨v,o⟩:=fit_keys F p ((Go.WideShapes.sorted_perm _).mem_iff.1 a);exact K.key o
 refine t _ ?_;rw[<-(i _ g).1,d,has_eq];exact qG.2 ⟨p,a,WideAt.sameKey_self g⟩
end
def ajE(w:au){g:Array Oper}{rest:List Oper}{o:Oper}{c:Exit->Act->World->Prop}
 (D:o.guard=none) (m d v:Operand) (t:TypeId) (p:o.op=Op.mapUpdate t m d v) {k:TypeId} (K:Keyed prog k) (A:prog.underlying t=some (.map k x)) {b n:Nat} {f:Lit->Option Value}
 (C:Q.eval m= .map (some b)) (h:d7 w k b n f) (B:n<maxLen) (i val:Value) (r:Lit) (y:Q.eval d=i) (z:Q.eval v=val) (l:keyOf prog k i=some r)
 (E:∀w',d7 w' k b (n+1) (m_ f r val)->Only b w w'->wpList prog g c rest (Q.put o.dst undef) w'):
 wpList prog g c (o::rest) Q w:=by
 refine wpList_plain D fun F q=> ?_;obtain⟨w',j,u,s⟩:=h.put K A B l val;unfold Oper.wp;simp [execOp,p,C,y,z,j,Result.andThen];exact q _ _ (E w' u s)
abbrev Bo:TypeId:=207
noncomputable def mq(g:List Nat)(m:Nat):Nat:=EB g.length (fP g) (ro g) g.length m.testBit
noncomputable def kK(g:List Nat)(m:Nat):Nat:=oI g.length (fP g) (ro g) (g.length+1) m.testBit
def asB:List Lit:=(List.range 4096).map fun m:Nat=>Lit.int .u64 (m:Int)
def iV(g:List Nat)(w:au)(b:Nat):Prop:=∃f,d7 w mY b 4096 f/\∀l v,f l=some v->∃m:Nat,l= .int .u64 (m:Int)/\m<4096/\v=av (mq g m:Nat)
def UF:Keyed prog mY:=int_keyed (q:= .u64) Ok
def ar7(h:a<4096):(Lit.int .u64 (a:Int)).wf=true:=by have c:IntKind.min .u64=0:=Od;have b:IntKind.max .u64=18446744073709551615:=Od;simp only[Lit.wf,c,b,cZ,decide_eq_true_eq];omega
def ae_(h:a<4096):keyOf prog mY (.int .u64 (a:Int))=some (.int .u64 (a:Int)):=keyOf_int_mk Ok (ar7 h)
def apA(w:au):(zeroValue aU).run prog w= .ok (av 0) w:=Ok
def ad2:prog.underlying 205=some (.map mY aU):=Ok
def UN{f:Lit->Option Value}(h:d7 m a b c f)(j:Only b m n)(t:TypeId):Kept t m n:=fun g o p d=>(j.block g (ie d) fun e=>by injection e with e;subst e;obtain⟨D,⟨q,i,l,_⟩,_⟩:=h;rw[l] at d;injection d with d;cases d).trans d
def iV.step{f:Lit->Option Value}(s:∀l v,f l=some v->∃b:Nat,l= .int .u64 (b:Int)/\b<4096/\v=av (mq i b:Nat))(p:b<4096)(r:d7 m mY a c (m_ f (.int .u64 (b:Int)) (av (mq i b:Nat)))):iV i m a:=by
 have j:∀l v,m_ f (.int .u64 (b:Int)) (av (mq i b:Nat)) l=some v->∃b:Nat,l= .int .u64 (b:Int)/\b<4096/\v=av (mq i b:Nat):=fun l v d=>by
  by_cases h:l= .int .u64 (b:Int)
  ·rw[h,D3] at d;injection d with d;exact⟨b,h,p,d.symm⟩
  ·rw[vY h] at d;exact s l v d
 refine⟨_,r.bound UF asB fun l d=> ?_,j⟩;obtain⟨v,o⟩:=JT.1 d;obtain⟨k,e,q,_⟩:=j l v o;rw[e];exact dH.2 ⟨k,dP.2 q,rfl⟩
def iV.ext{g:List Nat}{w':au}(h:iV g m b)(a:Ext m w'):iV g w' b:=by obtain⟨f,d,c⟩:=h;exact⟨f,d.ext a,c⟩
def iV.wd(h:iV i m a)(c:Only a m n)(d:fY m p l):fY n p l:=by obtain⟨f,e,_⟩:=h;exact d.keep rT fun u _=>UN e c u
def iV.lt(h:iV i m a):a<m.heap.size:=by obtain⟨f,c,_⟩:=h;exact c.lt
def Qj(g:List Nat)(A:aS)(c b:Nat)(m:Nat):Prop:=∀w,fY w (.slice A g.length c) g->iV g w b->
 Calls prog 188 #[.agg #[.slice A g.length c,.map (some b)],.int .u64 (m:Int)] w fun e a=>e= .returned (av (mq g m:Nat))/\iV g a b/\Only b w a
def Le(g:List Nat)(A:aS)(c b:Nat)(m:Nat):Prop:=∀w,fY w (.slice A g.length c) g->iV g w b->
 Calls prog 136 #[.agg #[.slice A g.length c,.map (some b)],.int .u64 (m:Int)] w fun e a=>e= .returned (av (kK g m:Nat))/\iV g a b/\Only b w a
def anz(l:List Nat)(x:Nat):se (l++ [x])=max (se l) x:=by unfold se;rw[DI];rfl
def amp(h:j.map Nat.testBit=parts (fP i) (List.range i.length) a.testBit):kK i a=se (j.map (mq i)):=by unfold kK;rw[DW,<-h,G9];rfl
def aol{g:List Nat}(S:mV g){rest:Nat}(hr:rest<2^g.length)(hP:∀m,m<2^g.length->(∀x,m.testBit x=true->rest.testBit x=true)->m≠0->Qj g E a b m):Le g E a b rest:=by
 intro w h hM;have U:=bE h;have s:=af h;have n:=af hM;have HC:=af (fun W (f:Ext w W)=>abL E g.length a g rest W (h.ext f) S hr);have C:=af hP;have Z:=af S;go_enter func136,ntmps136;go_upto_region 1 with fail
 refine aP fun W q p=> ?_;have O:=af (HC W q);obtain⟨s0,c⟩:=p.two;go_wp2_with fail
 refine O.mono ?_;rintro e1 w1 ⟨v,e,rfl,hv,T,u,f⟩;obtain⟨A',c',rfl,hc1,z,r⟩:=hv.parts;unfold maxLen at z;have HE:=af (amp T);have Q:=af (p.ext f);have J:=af (n.ext (q.trans f));have L:=af (s.ext (q.trans f));have G:=af (ei (g:=b) (q.trans f));have sG:b<w.heap.size:=n.lt;have D:ah (∀m∈e,Qj g E a b m):=fun m R=>by
  have h1:m.testBit∈parts (fP g) (List.range g.length) rest.testBit:=by rw[<-T];exact dH.2 ⟨m,R,rfl⟩
  obtain⟨_,d,_,h2,X⟩:=(Hj Z.symm (List.range g.length) rest.testBit (rest0:=rest.testBit) fun _ f=>⟨f,rfl⟩).1 _ h1;refine C.ae m (u m R) (fun x f=>rR Z.symm h2 (by rw[<-X];exact f)) fun e0=> ?_;have V:m.testBit d=true:=by rw[X];exact fK.2 .refl
  rw[e0,GL] at V;cases V
 have H:ah (∀i,i<e.length->se ((e.take (i+1)).map (mq g))=max (se ((e.take i).map (mq g))) (mq g (e.getD i 0))):=fun i y=>by rw[g9 y,mL,Oh,anz,fG,aV y];rfl
 go_upto_region 3 with fail
 go_loopw [5,13] (fun A l wr=>∃i:Nat,i<=e.length/\l=av i/\A=av (se ((e.take i).map (mq g)):Nat)/\ah (iV g wr b)/\ah (Only b w wr)/\ah (ar wr w.heap.size Bo [.slice E g.length a,.map (some b)])/\ah (fY wr (.slice A' e.length c') e)/\ah (fY wr (.slice E g.length a) g)) (fun _ l _=>e.length - (RowKit.intOf l).toNat)
 exact⟨0,aT _,rfl,rfl,J,G,Q,r,L⟩;obtain⟨i,y,rfl,rfl,n,Y,p,r,s⟩:=hrel;by_cases k:i<e.length
 ·obtain⟨gg,o,rfl,_,hc⟩:=fY.get r k;have HI:=af (H i k);have HQ:ah (Qj g E a b (e.getD i 0)):=D _ (by rw[fG,aV k];exact aZ k);generalize e.getD i 0=m at*;generalize se ((e.take i).map (mq g))=mx at*;have N:=af (HQ wr s n);generalize mq g m=pm at*;obtain⟨s0,c⟩:=p.two;go_wp2_with fail
  refine N.mono ?_;rintro e2 w2 ⟨rfl,t,j⟩;have I:=af t;have F:=af (Y.trans j);have P:=af (p.only j Om);have B:=af (n.wd j r);have K:=af (n.wd j s);go_wp2;go_roundw;exact⟨i+1,by omega,by go_num,by rw[HI.ae];exact congrArg _ Om,I,F,P,B,K⟩;simp [RowKit.intOf];omega
 ·obtain rfl:i=e.length:=Om;have M:ah (se ((e.take e.length).map (mq g))=kK g rest):=by rw[f9];exact HE.symm
  rw[M.ae];have d1:decide (e.length<e.length)=false:=Ou;go_wp2;go_ret;exact⟨rfl,n,Y⟩
def alE{c:VS}(m:Nat)(_hi:b<a):iQ c J (List.range (b+1)) m=if c b=true then min (iQ c J (List.range b) m) (J b) else iQ c J (List.range b) m:=by unfold iQ;rw[GQ,DI];rfl
def aem{n:Nat}(c:a<2^n)(h:a.testBit b=true)(k:Nat)(d:VS.count n a.testBit<=k+1):VS.count n (ej a (2^b)).testBit<=k:=by rw[AU,rU];have:=uG (n:=n) h (tk c h);omega
def aoV{g:List Nat}(f:mV g)(d:a<2^g.length):mq g a=max (iQ a.testBit (fun b=>kK g (ej a (2^b))) (List.range g.length) (g.length+1)) (ro g a.testBit+1):=by
 unfold mq EB;rw[T5 (g:=fun b=>kK g (ej a (2^b))) fun b e=> ?_];unfold kK;rw[AU,rU];have i:=uG (n:=g.length) e (tk d e);have h:VS.count g.length a.testBit<=g.length:=by have:=Ob (p:=a.testBit) (l:=List.range g.length);rwa[gN] at this
 exact OG f.symm _ _ _ (fun x c=>by unfold VS.less at c;rw[cZ] at c;exact tk d c.1) Om Om
def aqG{g:List Nat}(t:mV g)(J:c<2^g.length)(h0:∃d,d<g.length/\c.testBit d=true)(hW:∀d,c.testBit d=true->Le g E a b (ej c (2^d))):Qj g E a b c:=by
 intro w h hM;have yC:=bE h;have F:=af h;have l:=af hM;have A:=af hW;have HG:=af t;have hle:=t.le;have HR:=af J;have zw:=af (t.ku J);have e:=t.ku J;have hky:=afl t c.testBit h0;have z:ah (mq g c=max (iQ c.testBit (fun d=>kK g (ej c (2^d))) (List.range g.length) (g.length+1)) (ro g c.testBit+1)):=aoV t J;have B:ah (∀i,i<g.length->∀k,iQ c.testBit (fun d=>kK g (ej c (2^d))) (List.range (i+1)) k=if c.testBit i=true then min (iQ c.testBit (fun d=>kK g (ej c (2^d))) (List.range i) k) (kK g (ej c (2^i))) else iQ c.testBit (fun d=>kK g (ej c (2^d))) (List.range i) k):=fun i hi k=>alE k hi;have C:ah (iQ c.testBit (fun d=>kK g (ej c (2^d))) (List.range 0) (g.length+1)=g.length+1):=rfl;have r:ah (∀i,iQ c.testBit (fun d=>kK g (ej c (2^d))) (List.range i) (g.length+1)<=g.length+1):=fun i=>(Ki _ _).1;generalize(fun d=>kK g (ej c (2^d)))=I at z B C r;have sM:ah (∀W,iV g W b->∃v:Option Value,(Instr.lookup 205 (.map (some b)) (.int .u64 (c:Int)) true).run prog W= .ok (.tuple #[v.getD (av 0),.bool v.isSome]) W/\(v=none\/v=some (av (mq g c:Nat)))):=fun W ⟨f,h1,h2⟩=>by
  refine⟨f (.int .u64 (c:Int)),h1.look UF ad2 (apA W) (ae_ e),?_⟩;cases hf:f (.int .u64 (c:Int)) with
  |none=>exact .inl rfl
  |some v=>obtain⟨m',h3,_,h4⟩:=h2 _ _ hf;injection h3 with _ h3;have h5:m'=c:=Om;rw[h5] at h4;exact .inr (by rw[h4])
 go_enter func188,ntmps188;go_upto_region 1 with fail
 refine aP fun W u n=> ?_;obtain⟨v,hlk,hv⟩:=sM W (l.ext u);obtain⟨s0,s1⟩:=n.two;have sG:b<w.heap.size:=l.lt;rcases hv with rfl|rfl
 ·have po:=af (l.ext u);have uk:=af (F.ext u);have gZ:=af (ei (g:=b) u);have lU:=n.lt;go_upto_region 6 with fail
  go_loopw [7,25] (fun v7 o wr=>∃i:Nat,i<=g.length/\o=av i/\v7=av (iQ c.testBit I (List.range i) (g.length+1):Nat)/\ah (iV g wr b)/\ah (Only b w wr)/\ah (ar wr w.heap.size Bo [.slice E g.length a,.map (some b)])/\ah (fY wr (.slice E g.length a) g)) (fun _ o _=>g.length - (RowKit.intOf o).toNat)
  exact⟨0,aT _,rfl,by rw[C.ae];rfl,po,gZ,n,uk⟩;obtain⟨i,hi,rfl,rfl,l,HO,n,F⟩:=hrel;by_cases V:i<g.length
  ·have HH:=af (D8 c i wr e Om);have L:=af (B i V (g.length+1));have R:=r i;generalize iQ c.testBit I (List.range i) (g.length+1)=N at*;obtain⟨s0,s1⟩:=n.two;go_wp2_with fail
   refine HH.mono ?_;rintro e1 x ⟨rfl,rfl⟩;cases Z:c.testBit i with
   |true=>
    rw[Z,if_pos rfl] at L;have HQ:ah (Le g E a b (ej c (2^i))):=A i Z;have HP:=af (Ew (show i<12 by omega));go_upto_region 9 with fail
    have zu:=af (ye i x.drew Om);have H:=af n.drew;have j:=af (l.ext (aC x).drew);have D:=af (F.ext (aC x).drew);have q:=af HO.drew;refine b9 (S:=fun s=>ar s w.heap.size Bo [.slice E g.length a,.map (some b)]) (T:=fun _=>false) Ok ?_;generalize x.drew=wd at*;have bL:ah (∀s,ar s w.heap.size Bo [.slice E g.length a,.map (some b)]->ay s w.heap.size 0 (.slice E g.length a)/\ay s w.heap.size 1 (.map (some b))):=fun s h=>h.two;have aH:=H;refine ax 0 31 ?_;refine ax 1 32 ?_;refine ax 2 33 ?_;refine ax 3 34 ?_;refine aL 4 ?_;intro K y;go_simp;refine zu.mono ?_;rintro e2 M ⟨rfl,rfl⟩;refine y.ae _ _ (fun _=>aH.ae) ?_;have HW:=af (A_ zw HP);have m:=af (HQ M D j);generalize 2^i=pi at*;generalize kK g (ej c pi)=wv at*;refine ax 5 36 ?_;rw[HW.ae];refine aL 6 ?_;intro K y;go_simp;refine m.mono ?_;rintro e3 w3 ⟨rfl,U,p⟩;have mI:=af U;have gL:=af (q.trans p);have G:=af (H.only p Om);have Dg:=af (j.wd p D);have aH:=G;refine y.ae _ _ (fun _=>aH.ae) ?_;refine ax 7 38 ?_;refine aL 8 ?_;intro K y;go_simp;refine y.ae _ _ (fun _=>aH.ae) ?_;refine bY Ok ?_;go_wp2;go_roundw;exact⟨i+1,by omega,by go_num,by rw[L.ae];exact congrArg _ Om,mI,gL,G,Dg⟩;simp [RowKit.intOf];omega
   |false=>rw[Z] at L;have d9:ah (iQ c.testBit I (List.range (i+1)) (g.length+1)=N):=L.ae;go_wp2;go_roundw;exact⟨i+1,by omega,by go_num,by rw[d9.ae],l,HO,n,F⟩;simp [RowKit.intOf];omega
  ·obtain rfl:i=g.length:=Om;have R:=r g.length;generalize iQ c.testBit I (List.range g.length) (g.length+1)=N at*;have HK:=af (ao8 E g.length a g c wr F HG HR);generalize ro g c.testBit=ky at*;obtain⟨s0,s1⟩:=n.two;have d1:decide (g.length<g.length)=false:=Ou;go_wp2_with fail
   refine HK.mono ?_;rintro e1 x ⟨rfl,rfl⟩;have HV:ah (max (N:Int) ((ky:Int)+1)=(mq g c:Nat)):=by rw[ah,z.ae];omega
   go_upto_region 12 with fail
   rw[HV.ae];obtain⟨f,Y,X⟩:=l.ae;have HF:=af Y;have Q:4096<maxLen:=ay';go_wp2_with (at_mapUpdate;refine ajE _ rfl _ _ _ 205 rfl UF ad2 rfl HF.ae Q _ _ (.int .u64 (c:Int)) rfl rfl (ae_ e) ?_)
   intro M O P;have j:ah (iV g M b):=iV.step X e O;have q:=af (HO.trans P);go_wp2;go_ret;exact⟨rfl,j,q⟩
 ·go_wp2;go_ret;exact⟨rfl,l.ext u,ei u⟩
def ace{g:List Nat}(p:mV g)(A:aS)(c b:Nat):∀(k m:Nat),m<2^g.length->VS.count g.length m.testBit<=k->Le g A c b m
 |k,m,s,t=>aol p s fun h d e o=>by
  have f:VS.count g.length h.testBit<=VS.count g.length m.testBit:=xP e;obtain⟨a,r⟩:∃a,h.testBit a=true:=by
   rcases Classical.em (∃y,h.testBit y=true) with f|f
   ·exact f
   ·exact absurd (Te fun i=>by rw[GL];simpa using fun q=>f ⟨i,q⟩) o
  refine aqG p d ⟨a,tk d r,r⟩ fun x j=> ?_;have q:=uG (n:=g.length) j (tk d j);match k with
  |0=>exact absurd q Om
  |k+1=>exact ace p A c b k _ (zV d aAg) (aem d j k Om)
def acf{g:List Nat}(e:mV g)(A:aS)(c b:Nat)(d:a<2^g.length):Le g A c b a:=ace e A c b _ a d (aK _)
def ints(l:List Nat):List Int:=l.map fun a:Nat=>(a:Int)
structure uT(g:List Nat)(most:Nat)(l:List Nat)(rest:Nat):Prop where
 lt:rest<2^g.length
 bit:∀x,rest.testBit x=true↔x<g.length/\x∉l
 nd:l.Nodup
 mem:∀x∈l,x<g.length
 wd:kK g rest<=most
 sz:l.length+VS.count g.length rest.testBit<=g.length
noncomputable def yi(g:List Nat)(rest a:Nat):Nat:=oI g.length (fP g) (ro g) (g.length+1) (VS.less (part (fP g) rest.testBit a) (VS.one a))
section
variable{g:List Nat}{most rest:Nat}{l:List Nat}
theorem uT.step(j:mV g)(h:uT g most l rest)(d:rest.testBit a=true)(i:yi g rest a<=most):uT g most (l++ [a]) (ej rest (2^a)):=by
 have c:=(h.bit a).1 d;have m:=uG (n:=g.length) d c.1;refine⟨zV h.lt (by rw[Az];exact sT _ h.lt),fun x=> ?_,?_,fun x b=> ?_,?_,?_⟩
 ·rw[Hy,rU,cZ,h.bit,uA,VS.one];simp only[bQ,bG,beq_eq_false_iff_ne,not_or,and_assoc]
 ·refine ow.2 ⟨h.nd,by simp,fun x b y f=> ?_⟩;rw[bG.1 f];intro e;exact c.2 (e▸b)
 ·rcases bQ.1 b with b|b
  ·exact h.mem x b
  ·rw[bG.1 b];exact c.1
 ·have:=ajF (n:=g.length) (ky:=ro g) j.symm (k:=g.length) d h.wd i;unfold kK;rwa[AU,rU]
 ·rw[AU,rU,bC,iM];have:=h.sz;omega
theorem uT.some(e:mV g)(h:uT g most l rest)(o:rest≠0):∃a,a<g.length/\rest.testBit a=true/\yi g rest a<=most:=by
 obtain⟨x,d⟩:∃y,rest.testBit y=true:=by
  rcases Classical.em (∃y,rest.testBit y=true) with b|b
  ·exact b
  ·exact absurd (Te fun i=>by rw[GL];simpa using fun f=>b ⟨i,f⟩) o
 have j:VS.count g.length rest.testBit<=g.length:=(by have:=Ob (p:=rest.testBit) (l:=List.range g.length);rwa[gN] at this);obtain⟨a,b,f⟩:=akZ (n:=g.length) (ky:=ro g) e.symm (fun c j=>afl e c j) (k:=g.length) (s:=rest.testBit) (fun x d=>tk h.lt d) Om d;have m:=rR e.symm d b;exact⟨a,tk h.lt m,m,a8 f h.wd⟩
theorem uT.done(h:uT g most l 0):l.Nodup/\∀x,x∈l↔x<g.length:=
 ⟨h.nd,fun x=>⟨h.mem x,fun a=>S_ fun b=>by have:=(h.bit x).2 ⟨a,b⟩;rw[GL] at this;cases this⟩⟩
end
def avI{P:World->Prop}{k:TypeId}{l:List Value}(h:∀W,ah (Ext m W)->ah (d7 W k m.heap.size 0 fun _=>none)->ah (ar W (m.heap.size+1) w l)->P W):P ((m.alloc (.map #[] 0)).alloc (.cells l.toArray w)):=
 h _ (((aC m).alloc _).alloc _) ((KB m k).ext ((aC _).alloc _)) (mm (m.alloc (.map #[] 0)) w l _ Ou)
def iV.new{g:List Nat}(h:d7 m mY a 0 fun _=>none):iV g m a:=by obtain⟨D,d,c⟩:=h;exact⟨_,⟨D,d.mono Om,c⟩,fun l v h=>by cases h⟩
def iV.grown{g:List Nat}(h:iV g m b)(e:m.ownsRow a w c p d t)(i:m.grownBy n p.ownBlock)(r:b<a):iV g n b:=by obtain⟨f,q,o⟩:=h;exact⟨f,q.kept i (fun j=>by have:=(e.lt b j.symm).1;omega),o⟩
def uT.start{g:List Nat}:uT g (kK g (2^g.length - 1)) [] (2^g.length - 1):=by
 have a:(2^g.length - 1).testBit=jC g.length:=by
  funext x
  rw[aju];rfl
 refine⟨by have:=zZ g.length;omega,fun x=> ?_,Ox,(fun x b=>nomatch b),aK _,?_⟩
 ·rw[a,jC,decide_eq_true_eq];simp
 ·rw[a,Hl];simp
def q75.ahJ(h:ai:=by
 have nU:l.length<=12:=(by have:=M.sz;omega);have d_:ah (ints (l++ [i])=ints l++ [(i:Int)]):=by unfold ints;rw[ah,mL];rfl
 have ayf:(ints l).length<=12:=by unfold ints;rw[cy];exact nU
 obtain⟨A',c',xs,rfl,_,Xw,o,NE⟩:=gL.parts;have cK:((ints l).length+1)*8<=140737488355328:=Om;go_wp2_with (at_builtin;refine gG rfl _ _ 22 rfl bs jy _ _ _ rfl o.ae #[av (i:Int)] 1 1 rfl rfl rfl cK hs3 ?_)
 intro v' w6 IW j _;have O6:=af (iN (R:=dr) (x:=(i:Int)) cI Oy9 o NE rfl IW j);rw[<-d_.ae] at O6;have qx:=af (ip g7 o j sG);have HL6:ah (fY w6 (.slice A1 g.length g.length) g):=Dg.keep rT fun u hu=>jW o j (by simp only[bG] at hu;rw[hu];decide);have Dl:=af (jV r o j hws);have Sj:ah (iV g w6 b):=q.grown o j Om;have Fb:bs<=w6.heap.size:=a8 hs3 j.size;go_wp2_with fail
 refine(awg w6).mono ?_;rintro e7 w7 ⟨rfl,rfl⟩;go_wp2;go_roundw;exact⟨ej rest pi,l++ [i],by rw[sJ.ae],uh,O6,Sj,qx,HL6,Dl,Fb⟩;rw[sJ.ae];simp only[RowKit.intOf,kF];exact NF):=h
def q76.ahJ(h:ai:=by go_wp2;go_roundw;exact⟨i+1,by omega,by go_num,rfl,H,gL,q,g7,Dg,r,hs3⟩;simp [RowKit.intOf];omega):=h
def q74.Xi(h:ai:=by
 go_upto_region 2 with fail
 refine avI (k:=mY) fun W2 aY zx C=> ?_;have iA:ah (iV g W2 w1.heap.size):=iV.new zx;have mJ:=af (uk.ext aY);have t:=af (bW.trans aY);have G:=bW.size;have hb2:=C.lt;have zI:=af (HAX A1 W2 mJ);have avM:=af (HWA A1 _ W2 mJ iA);generalize w1.heap.size=b at*;obtain⟨s0,s1⟩:=C.two;go_wp2_with fail
 refine zI.mono ?_;rintro e1 w2 ⟨rfl,rfl⟩;go_wp2_with fail;refine avM.mono ?_;rintro e1 P ⟨rfl,p,eX⟩;rw[HMO.ae];have q:=af p;have hb4:b<w2.heap.size:=iA.lt;have BF3:=af (C.only eX Om);have Dg:=af (iA.wd eX mJ);have r:=af (t.only eX G);have hz3:w2.heap.size<=P.heap.size:=eX.size;obtain⟨bs,vu⟩:∃bs,P.heap.size=bs:=⟨_,rfl⟩;have sG:b+1<bs:=Om;have hws:w.heap.size<=bs:=Om;have V:bs<=P.heap.size:=G7 vu.symm;have FK:=af (fun(m:Nat) (hm:m<2^g.length)=>acf O A1 g.length b hm);go_upto_region 5 with fail
 go_loopw [4,6,7] (fun Q v6 _ wr=>∃(rest:Nat) (l:List Nat),Q= .int .u64 rest/\ah (uT g most l rest)/\ah (bH aU 1 dr bs wr v6 (ints l))/\ah (iV g wr b)/\ah (ar wr (b+1) Bo [.slice A1 g.length g.length,.map (some b)])/\ah (fY wr (.slice A1 g.length g.length) g)/\ah (Ext w wr)/\bs<=wr.heap.size) (fun Q _ _ _=>cnt (RowKit.intOf Q).toNat)
 exact⟨all,[],rfl,Sg,f_,q,BF3,Dg,r,V⟩;obtain⟨rest,l,rfl,M,HO,HM,C,HL,HE,hsz⟩:=hrel;by_cases h0:rest=0
 ·subst h0;have HD:=af M.done;go_wp2;go_ret;exact⟨_,l,rfl,HO.ls,HD.1,HD.2,HE⟩
 ·have hne:((rest:Int) !=0)=true:=Oc;have Ng:=af (M.some O h0);have jT:=af (O.ku M.lt);have lT:=xP (n:=12) (c:=rest.testBit) (s:=rest.testBit) fun _ h=>h;obtain⟨s0,s1⟩:=C.two;obtain⟨wo,rfl⟩:∃wo:World,wo=wr:=⟨_,rfl⟩;have C_:ah (∀a,a<0->rest.testBit a=true->¬yi g rest a<=most):=fun a ha=>by omega
  go_upto_region 7 with fail
  go_loopw [4,6,7,23] (fun Q v6 _ E I=>∃i:Nat,i<=g.length/\E=av i/\Q= .int .u64 rest/\ah (∀a,a<i->rest.testBit a=true->¬yi g rest a<=most)/\ah (bH aU 1 dr bs I v6 (ints l))/\ah (iV g I b)/\ah (ar I (b+1) Bo [.slice A1 g.length g.length,.map (some b)])/\ah (fY I (.slice A1 g.length g.length) g)/\ah (Ext w I)/\bs<=I.heap.size) (fun _ _ _ E _=>g.length - (RowKit.intOf E).toNat)
  exact⟨0,aT _,rfl,rfl,C_,HO,HM,C,HL,HE,hsz⟩;obtain⟨i,hi,rfl,rfl,HN,HO,HM,C,HL,HE,QW⟩:=hrel;by_cases gV:i<g.length
  ·go_upto_region 9 with fail
   have HH:=af (D8 rest i wr.drew jT Om);have eE:=af C.drew;have iA:=af (HM.ext (aC wr).drew);have mJ:=af (bX rT HL (aC wr).drew);have t:=af HE.drew;have et:=af (HO.ext cI (aC wr).drew);have hsd:bs<=wr.drew.heap.size:=QW;refine b9 (S:=fun f=>ar f (b+1) Bo [.slice A1 g.length g.length,.map (some b)]) (T:=fun _=>false) Ok ?_;generalize wr.drew=wd at*;have bL:ah (∀f,ar f (b+1) Bo [.slice A1 g.length g.length,.map (some b)]->ay f (b+1) 0 (.slice A1 g.length g.length)/\ay f (b+1) 1 (.map (some b))):=fun f h=>h.two;have aH:=eE;refine ax 0 26 ?_;refine ax 1 27 ?_;refine aL 2 ?_;intro K hK;go_simp;refine HH.mono ?_;rintro e2 w2 ⟨rfl,rfl⟩;refine hK.ae _ _ (fun _=>aH.ae) ?_;cases hb:rest.testBit i with
   |true=>
    have HB:=af hb;refine ax 3 29 ?_;refine ax 4 30 ?_;refine ax 5 31 ?_;refine ax 6 32 ?_;refine ax 7 33 ?_;refine ax 8 34 ?_;refine ax 10 36 ?_;refine ax 14 40 ?_;have HC:=af (acS A1 _ g.length g rest i w2 mJ O M.lt gV);refine aL 9 ?_;intro K hK;go_simp;refine HC.mono ?_;rintro e3 P ⟨m,rfl,kA,F,rfl⟩;refine hK.ae _ _ (fun _=>aH.ae) ?_;have zu:=af (ye i P Om);refine aL 11 ?_;intro K hK;go_simp;refine zu.mono ?_;rintro e4 w4 ⟨rfl,rfl⟩;refine hK.ae _ _ (fun _=>aH.ae) ?_;have HW:=af (A_ (O.ku F) (Ew (show i<12 by omega)));have zw:=af (show ej m (2^i)<2^g.length from zV F (by rw[Az];exact sT _ F));have HQ:=af (FK _ zw w4 mJ iA);have y:ah (kK g (ej m (2^i))=yi g rest i):=(by unfold kK yi;rw[ah,AU,rU,kA])
    rw[y.ae] at HQ;obtain⟨U,z⟩:∃U,yi g rest i=U:=⟨_,rfl⟩;have y:=af z;rw[z] at HQ;by_cases X:U<=most
    ·have uh:=af (M.step O HB (by rw[y.ae];exact X));have d1:decide ((U:Int)<=(most:Int))=true:=fF;have awg:=af (fun f=>ye i f (show i<32 by omega));have sJ:=af (A_ jT (Ew (show i<12 by omega)));have NF:ah (cnt (ej rest (2^i))<cnt rest):=(by have h:=uG (n:=12) (c:=rest.testBit) HB (show i<12 by omega);unfold cnt;rwa[AU,rU])
     generalize 2^i=pi at*;refine ax 12 38 ?_;rw[HW.ae];refine aL 13 ?_;intro K hK;go_simp;refine HQ.mono ?_;rintro e5 w5 ⟨rfl,p,eX⟩;have q:=af p;have Zj:w.heap.size<=b:=G;have r:=af (t.only eX Zj);open q75 in exact ag0
    ·have d1:decide ((U:Int)<=(most:Int))=false:=aW;have H:ah (∀a,a<i+1->rest.testBit a=true->¬yi g rest a<=most):=fun a ha J=>by
      rcases cA a i with L|L
      ·exact HN a L J
      ·obtain rfl:a=i:=Om;rw[y.ae];exact X
     generalize 2^i=pi at*;refine ax 12 38 ?_;rw[HW.ae];refine aL 13 ?_;intro K hK;go_simp;refine HQ.mono ?_;rintro e5 w5 ⟨rfl,p,eX⟩;have q:=af p;have r:=af (t.only eX G);open q76 in exact ag0
   |false=>
    refine ax 3 29 ?_;refine mn 4 30 ?_;refine mn 5 31 ?_;refine mn 6 32 ?_;refine mn 7 33 ?_;refine mn 8 34 ?_;refine mn 9 35 ?_;refine mn 10 36 ?_;refine mn 11 37 ?_;refine mn 12 38 ?_;refine mn 13 39 ?_;refine mn 14 40 ?_;refine mn 15 41 ?_;refine ax 16 42 ?_;refine bY Ok ?_;have H:ah (∀a,a<i+1->rest.testBit a=true->¬yi g rest a<=most):=fun a ha J=>by
     rcases cA a i with L|L
     ·exact HN a L J
     ·obtain rfl:a=i:=Om;rw[hb] at J;cases J
    go_wp2;go_roundw;exact⟨i+1,by omega,by go_num,rfl,H,et,iA,eE,mJ,t,hsd⟩;simp [RowKit.intOf];omega
  ·have Jv:=af Ng.ae;exfalso;obtain⟨a,L,h2,h3⟩:=Ng.ae;exact HN a Om h2 h3):=h
def alr(v:Value)(x:aQ)(w:au)(h:dK w v x)(ok:cF x):
 Calls prog 72 #[v] w fun e f=>∃u l,e= .returned u/\IL f u (ints l)/\l.Nodup/\(∀a,a∈l↔a<x.aq.length)/\Ext w f:=by
 have CN:=af (fun W (hx:Ext w W)=>Vm v x W (h.ext hx) ok);have Z:=AJ ok.ri;have hg:=Z.ok ok.a12;have I3:=Z.len;generalize ik x.aq.length x.aA=g at*;have O:=af hg;have hle:=hg.le;obtain⟨A,c,B,d,D,e,rfl,ha,J,hf⟩:=h;obtain⟨N,hN⟩:∃N,x.aq.length=N:=⟨_,rfl⟩;rw[hN] at CN I3⊢;subst I3;have Sg:=af (uT.start (g:=g));have eH:2^g.length - 1<2^g.length:=az';have HWA:=af (fun A b=>acf hg A g.length b eH);have HAX:=af (fun A f (h:fY f (.slice A g.length g.length) g)=>adS A g.length g.length g f h hle);generalize 2^g.length - 1=all at*;obtain⟨most,Y⟩:∃most,kK g all=most:=⟨_,rfl⟩;have HMO:=af Y;rw[Y] at Sg;have hmm:= @run_makeMap prog;go_enter func72,ntmps72;go_upto_region 1 with fail
 refine aP fun W HX BX=> ?_;open q74 in exact WX
abbrev Gp:=List (List UInt8)×Rat
abbrev rj(a b:Gp):Prop:=eA a.1 b.1=true
def eK(x:Gp):List Gp->List Gp
 | []=> [x]
 |y::l=>if eA y.1 x.1=true then y::eK x l else if (y.1==x.1)=true then (y.1,y.2+x.2)::l else x::y::l
def fD(k:List (List UInt8)):List Gp->Rat
 | []=>0
 |y::l=>(if y.1=k then y.2 else 0)+fD k l
def ad9(x:Gp)(k:List (List UInt8)):∀l,fD k (eK x l)=(if x.1=k then x.2 else 0)+fD k l
 | []=>rfl
 |y::l=>by
  unfold eK;split
  ·simp only[fD];rw[ad9 x k l];rw[<-GY,<-GY,TK (if y.1=k then y.2 else 0)]
  ·split
   ·rename_i b;have b:=beq_iff_eq.1 b;simp only[fD,<-b];by_cases a:y.1=k
    ·rw[if_pos a,if_pos a,if_pos a,TK y.2 x.2,GY]
    ·rw[if_neg a,if_neg a,if_neg a,Aj,Aj]
   ·rfl
def Vw(x:Gp)(k:List (List UInt8)):∀l,(∃y∈eK x l,y.1=k)↔x.1=k\/∃y∈l,y.1=k
 | []=>by simp [eK]
 |y::l=>by
  unfold eK;split
  ·have d:=Vw x k l;constructor
   ·rintro⟨z,a,b⟩;rcases aI.1 a with rfl|a
    ·exact .inr ⟨z,by simp,b⟩
    ·rcases d.1 ⟨z,a,b⟩ with h|⟨w,c,h⟩
     ·exact .inl h
     ·exact .inr ⟨w,by simp [c],h⟩
   ·rintro(h|⟨z,a,b⟩)
    ·obtain⟨w,c,h⟩:=d.2 (.inl h);exact⟨w,by simp [c],h⟩
    ·rcases aI.1 a with rfl|a
     ·exact⟨z,by simp,b⟩
     ·obtain⟨w,c,h⟩:=d.2 (.inr ⟨z,a,b⟩);exact⟨w,by simp [c],h⟩
  ·split
   ·rename_i e;have e:=beq_iff_eq.1 e;constructor
    ·rintro⟨z,a,b⟩;rcases aI.1 a with rfl|a
     ·exact .inr ⟨y,by simp,b⟩
     ·exact .inr ⟨z,by simp [a],b⟩
    ·rintro(h|⟨z,a,b⟩)
     ·exact⟨_,lI,e.trans h⟩
     ·rcases aI.1 a with rfl|a
      ·exact⟨_,lI,b⟩
      ·exact⟨z,by simp [a],b⟩
   ·constructor
    ·rintro⟨z,a,b⟩;rcases aI.1 a with rfl|a
     ·exact .inl b
     ·exact .inr ⟨z,a,b⟩
    ·rintro(h|⟨z,a,b⟩)
     ·exact⟨x,by simp,h⟩
     ·exact⟨z,by simp only[aI] at a⊢;exact .inr a,b⟩
def apH{x:Gp}{Q:List (List UInt8)->Prop}(c:Q x.1):∀{l:List Gp},(∀y∈l,Q y.1)->∀y∈eK x l,Q y.1:=fun {l} h y b=>by
 rcases(Vw x y.1 l).1 ⟨y,b,rfl⟩ with e|⟨z,a,e⟩
 ·rw[<-e];exact c
 ·rw[<-e];exact h z a
def ad'{x:Gp}:∀{l:List Gp},l.Pairwise rj->(eK x l).Pairwise rj
 | [],_=>by simp [eK]
 |z::l,h=>by
  obtain⟨d,g⟩:=jI.1 h;unfold eK;split
  ·rename_i b;exact jI.2 ⟨apH (Q:=fun t=>eA z.1 t=true) b d,ad' g⟩
  ·rename_i b;split
   ·exact jI.2 ⟨d,g⟩
   ·rename_i f;have a:eA x.1 z.1=true:=by
     cases i:eA x.1 z.1 with
     |true=>rfl
     |false=>have e:=qP.EZ x.1 z.1 i azn;rw[e] at f;simp at f
    refine jI.2 ⟨fun y c=> ?_,h⟩;rcases aI.1 c with rfl|c
    ·exact a
    ·exact qP.tr _ _ _ a (d y c)
def kM(l:List Gp):List Gp:=l.foldl (fun o x=>eK x o) []
def abj:∀(l o:List Gp),o.Pairwise rj->(l.foldl (fun o x=>eK x o) o).Pairwise rj/\(∀k,fD k (l.foldl (fun o x=>eK x o) o)=fD k l+fD k o)/\∀k,(∃y∈l.foldl (fun o x=>eK x o) o,y.1=k)↔(∃y∈l,y.1=k)\/∃y∈o,y.1=k
 | [],o,h=>⟨h,fun k=>by simp [fD,Aj],fun k=>by simp⟩
 |x::l,o,h=>by
  obtain⟨d,c,b⟩:=abj l (eK x o) (ad' h);refine⟨d,fun k=> ?_,fun k=> ?_⟩
  ·rw[J7,c,ad9];simp only[fD];rw[<-GY,TK (fD k l)]
  ·rw[J7,b,Vw];constructor
   ·rintro(⟨y,a,e⟩|e|⟨y,a,e⟩)
    ·exact .inl ⟨y,by simp [a],e⟩
    ·exact .inl ⟨x,by simp,e⟩
    ·exact .inr ⟨y,a,e⟩
   ·rintro(⟨y,a,e⟩|⟨y,a,e⟩)
    ·rcases aI.1 a with rfl|a
     ·exact .inr (.inl e)
     ·exact .inl ⟨y,a,e⟩
    ·exact .inr (.inr ⟨y,a,e⟩)
def v_{k:List (List UInt8)}:∀{l:List Gp},(∀y∈l,y.1≠k)->fD k l=0
 | [],_=>rfl
 |y::l,h=>by unfold fD;rw[if_neg (h y Ou),v_ fun z a=>h z ay5,Aj]
def aa_(k:List (List UInt8))(m:List Gp):∀l,fD k (l++m)=fD k l+fD k m
 | []=>by simp [fD,Aj]
 |y::l=>by rw[uC];simp only[fD];rw[aa_ k m l,GY]
def Ut:∀{l m:List Gp},l.Pairwise rj->m.Pairwise rj->(∀k,(∃y∈l,y.1=k)↔∃y∈m,y.1=k)->(∀k,fD k l=fD k m)->l=m
 | [],[],_,_,_,_=>rfl
 | [],y::m,_,_,h,_=>by obtain⟨z,a,_⟩:=(h y.1).2 ⟨y,by simp,rfl⟩;cases a
 |x::l,[],_,_,h,_=>by obtain⟨z,a,_⟩:=(h x.1).1 ⟨x,by simp,rfl⟩;cases a
 |x::l,y::m,A,v,h,q=>by
  obtain⟨p,u⟩:=jI.1 A;obtain⟨m1,m2⟩:=jI.1 v;have c:x.1=y.1:=by
   obtain⟨z,a,s⟩:=(h x.1).1 ⟨x,by simp,rfl⟩;obtain⟨w,b,d⟩:=(h y.1).2 ⟨y,by simp,rfl⟩;rcases aI.1 a with rfl|a
   ·exact s.symm
   ·rcases aI.1 b with rfl|b
    ·exact d
    ·have r:=m1 z a;have f:=p w b;rw[rj,s] at r;rw[rj,d] at f;have:=qP.asym r;rw[this] at f;cases f
  have n:∀z∈l,z.1≠x.1:=fun z a e=>by have g:=p z a;rw[rj,e,qP.lm] at g;cases g
  have j:∀z∈m,z.1≠y.1:=fun z a e=>by have g:=m1 z a;rw[rj,e,qP.lm] at g;cases g
  have i:x.2=y.2:=(by have g:=q x.1;simp only[fD] at g;rw[if_pos trivial,if_pos c.symm,v_ n,c,v_ j,TJ,TJ] at g;exact g);have o:x=y:=Prod.ext c i;subst o;rw[Ut u m2 (fun k=> ?_) (fun k=> ?_)]
  ·constructor
   ·rintro⟨z,a,e⟩;obtain⟨w,b,d⟩:=(h k).1 ⟨z,by simp [a],e⟩;rcases aI.1 b with rfl|b
    ·exact absurd (e.trans d.symm) (n z a)
    ·exact⟨w,b,d⟩
   ·rintro⟨z,a,e⟩;obtain⟨w,b,d⟩:=(h k).2 ⟨z,by simp [a],e⟩;rcases aI.1 b with rfl|b
    ·exact absurd (e.trans d.symm) (j z a)
    ·exact⟨w,b,d⟩
  ·have g:=q k;simp only[fD] at g;have f:=congrArg (fun t=> -(if x.1=k then x.2 else 0)+t) g;simp only[<-GY,Rat.neg_add_cancel,Aj] at f;exact f
def anx{a b c:List Gp}(h:c.Pairwise rj)(g:∀k,(∃y∈c,y.1=k)↔(∃y∈a,y.1=k)\/∃y∈b,y.1=k)(f:∀k,fD k c=fD k a+fD k b):kM (a++b)=c:=by
 obtain⟨m,l,j⟩:=abj (a++b) [] List.Pairwise.nil;refine Ut m h (fun k=> ?_) (fun k=> ?_)
 ·have i:=j k;unfold kM;rw[i,g];constructor
  ·rintro(⟨y,d,e⟩|⟨y,d,_⟩)
   ·rcases bQ.1 d with d|d
    ·exact .inl ⟨y,d,e⟩
    ·exact .inr ⟨y,d,e⟩
   ·cases d
  ·rintro(⟨y,d,e⟩|⟨y,d,e⟩)
   ·exact .inl ⟨y,by simp [d],e⟩
   ·exact .inl ⟨y,by simp [d],e⟩
 ·unfold kM;rw[l,aa_,f];simp [fD,TJ]
end Go.Proofs.YthfffpcmldipgaaGreatDoor
