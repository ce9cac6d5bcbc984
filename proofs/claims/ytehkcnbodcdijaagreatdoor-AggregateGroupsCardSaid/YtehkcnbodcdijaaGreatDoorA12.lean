/- Texts of the proof, part 12. -/
import Derived.Test.YtehkcnbodcdijaaGreatDoorA11
namespace Go.Proofs.YtehkcnbodcdijaaGreatDoor
set_option maxHeartbeats 8000000
set_option linter.all false
set_option maxRecDepth 100000
variable{ar:Prop}
open Go.RowKit Go.Lib Go.Maps Go.ChangeShapes Go.WideShapes Go.ChangeAt Go.Proofs.Tryz
variable{a b c d e f g h:Nat}{i j k l:List Nat}{m n o:World}{p q r s:Value}{t u v:List Value}{w x:TypeId}{y z:Nat→Option Nat}{A:Nat→List Nat}{B C:Int}{E F:Option Addr}{H I:Rat}{J:Nat→Nat}{K:Nat→Bool}{L:List Int}{N:Array Bool}{O:Option Nat}{Q:Act}{R S:Bool}{T:List UInt8}
def Nh(d:Nat)(t:List UInt8)(b:d<=1000:=by decide)(a:aY (d:Int)=t:=by rfl):ej 1 t:= .inr (.inr (.inl ⟨rfl,(d:Int),a.symm,by unfold gM;omega⟩))
def anb:pZ [114,101,100]:=⟨by decide,by decide,by decide,by decide⟩
def ajQ:pZ [103,114,101,101,110]:=⟨by decide,by decide,by decide,by decide⟩
def ak_:pZ [98,108,117,101]:=⟨by decide,by decide,by decide,by decide⟩
def dz2:aY 2= [50]:=lG Od
def at8:aY 10= [49,48]:=by have h:=aoT (m:=1) (d:=0) Od Od;have b:decDigits 1= [49]:=lG Od;rw[b] at h;have a:aY 10=decDigits 10:=rR 10;rw[a];exact h
def smq(q:Rat)(h:decide (q.num.natAbs<=1000/\q.den<=12)=true):lS q:=by have h:=of_decide_eq_true h;exact⟨by unfold gM;omega,h.2⟩
def arW:cP (-2:Rat)= [45,50]:=by have a:(-2:Rat).num= -2:=Ok;have b:(-2:Rat).den=1:=Ok;rw[pP b,a,xz Od,show(-2:Int).natAbs=2 from rfl,lG Od];rfl
def arX:cP (5/3:Rat)= [53,47,51]:=by have b:(5/3:Rat).num=((5:Nat):Int):=Ok;have a:(5/3:Rat).den=3:=Ok;rw[qz (by rw[a];decide),b,a,rR,lG Od,lG Od];rfl
def Uf(q:Rat)(t:List UInt8)(a:cP q=t)(h:decide (q.num.natAbs<=1000/\q.den<=12)=true):ej 2 t:= .inr (.inr (.inr ⟨rfl,q,a.symm,smq q h⟩))
def I'(d:Nat)(h:d<10):ej 2 [UInt8.ofNat (48+d)]:= .inr (.inr (.inr ⟨rfl,((d:Int):Rat),(MN h).symm,⟨by show gM (d:Int);unfold gM;omega,by show 1<=12;decide⟩⟩))
def adg(g:Nat)(q:List UInt8)(b:Int)(w:au)(h:cL w g)(K:1<=b/\b<=3):
 Calls prog 49 #[aI g 0,.agg #[aM q,av b]] w fun e n=>∃v,ej b v/\e= .returned (aM v)/\cL n g/\Only g w n:=by
 have D:=af h;have L:=h.lt;go_enter func49,ntmps49;go_upto_region 1 with fail
 refine aR fun W p F=> ?_;have E:=af (oP g 9 W (D.ext p) Od Od);have f:w.heap.size≠g:=Om;go_wp2_with fail
 refine E.mono ?_;rintro e G ⟨r,J,rfl,s,o⟩;have m:=af (F.only o f);have a:=af ((dM (g:=g) p).trans o);have bB:=af s;generalize w.heap.size=M at*;obtain⟨I,H⟩:=m.two;have i:b=3\/b=1\/b=2:=Om;have c:r=0\/r=1\/r=2\/r=3\/r=4\/r=5\/r=6\/r=7\/r=8:=Om;have N:∀t,t=([]:List UInt8)->ej b t:=fun t h=> .inl h;rcases i with rfl|rfl|rfl
 ·have j:ah (ej 3 [114,101,100]):= .inr (.inl ⟨rfl,anb,.inl rfl⟩);have k:ah (ej 3 [103,114,101,101,110]):= .inr (.inl ⟨rfl,ajQ,.inr (.inl rfl)⟩);have l:ah (ej 3 [98,108,117,101]):= .inr (.inl ⟨rfl,ak_,.inr (.inr rfl)⟩);have d:ah (ej 3 []):= .inl rfl;rcases c with rfl|rfl|rfl|rfl|rfl|rfl|rfl|rfl|rfl;all_goals go_wp2
  all_goals go_ret
  all_goals (first|exact⟨_,d,rfl,bB,a⟩|exact⟨_,j,rfl,bB.ext ((aB _).alloc _),a.trans (dM ((aB _).alloc _))⟩|exact⟨_,k,rfl,bB.ext ((aB _).alloc _),a.trans (dM ((aB _).alloc _))⟩|exact⟨_,l,rfl,bB.ext ((aB _).alloc _),a.trans (dM ((aB _).alloc _))⟩)
 ·have j:ah (ej 1 [49]):=Nh 1 _ Od xt;have k:ah (ej 1 [50]):=Nh 2 _ Od dz2;have l:ah (ej 1 [49,48]):=Nh 10 _ Od at8;have d:ah (ej 1 []):= .inl rfl;rcases c with rfl|rfl|rfl|rfl|rfl|rfl|rfl|rfl|rfl;all_goals go_wp2
  all_goals go_ret
  all_goals (first|exact⟨_,d,rfl,bB,a⟩|exact⟨_,j,rfl,bB.ext ((aB _).alloc _),a.trans (dM ((aB _).alloc _))⟩|exact⟨_,k,rfl,bB.ext ((aB _).alloc _),a.trans (dM ((aB _).alloc _))⟩|exact⟨_,l,rfl,bB.ext ((aB _).alloc _),a.trans (dM ((aB _).alloc _))⟩)
 ·have C:ah (ej 2 [48]):=I' 0 Od;have B:ah (ej 2 [49]):=I' 1 Od;have A:ah (ej 2 [50]):=I' 2 Od;have z:ah (ej 2 [51]):=I' 3 Od;have y:ah (ej 2 [45,50]):=Uf (-2) _ arW Ok;have x:ah (ej 2 [49,47,50]):=Uf (1/2) _ aad Ok;have u:ah (ej 2 [53,47,51]):=Uf (5/3) _ arX Ok;have d:ah (ej 2 []):= .inl rfl;rcases c with rfl|rfl|rfl|rfl|rfl|rfl|rfl|rfl|rfl;all_goals go_wp2
  all_goals go_ret
  all_goals (first|exact⟨_,d,rfl,bB,a⟩|exact⟨_,C,rfl,bB.ext ((aB _).alloc _),a.trans (dM ((aB _).alloc _))⟩|exact⟨_,B,rfl,bB.ext ((aB _).alloc _),a.trans (dM ((aB _).alloc _))⟩|exact⟨_,A,rfl,bB.ext ((aB _).alloc _),a.trans (dM ((aB _).alloc _))⟩|exact⟨_,z,rfl,bB.ext ((aB _).alloc _),a.trans (dM ((aB _).alloc _))⟩|exact⟨_,y,rfl,bB.ext ((aB _).alloc _),a.trans (dM ((aB _).alloc _))⟩|exact⟨_,x,rfl,bB.ext ((aB _).alloc _),a.trans (dM ((aB _).alloc _))⟩|exact⟨_,u,rfl,bB.ext ((aB _).alloc _),a.trans (dM ((aB _).alloc _))⟩)
def aaF:∀{t s r q:List UInt8},(0:UInt8)∉t->(0:UInt8)∉s->t++0::r=s++0::q->t=s/\r=q
 | [],[],r,q,_,_,h=>⟨rfl,by simpa using h⟩
 | [],y::s,r,q,_,b,h=>by simp only[tL,nK,wU] at h;exact absurd (by rw[<-h.1];simp) b
 |x::t,[],r,q,a,_,h=>by simp only[tL,nK,wU] at h;exact absurd (by rw[h.1];simp) a
 |x::t,y::s,r,q,a,b,h=>by simp only[nK,wU] at h;obtain⟨e,d⟩:=aaF (fun c=>a ax3) (fun c=>b ax3) h.2;exact⟨by rw[h.1,e],d⟩
def kf(l:List (List UInt8)):List UInt8:=l.flatMap fun t=>t++ [0]
def ads:∀{l m:List (List UInt8)},l.length=m.length->(∀t∈l,(0:UInt8)∉t)->(∀t∈m,(0:UInt8)∉t)->kf l=kf m->l=m
 | [],[],_,_,_,_=>rfl
 |t::l,s::m,d,c,b,h=>by unfold kf at h;rw[uV,uV,jk,jk] at h;obtain⟨f,e⟩:=aaF (c t Ou) (b s Ou) h;rw[f,ads axP (fun x a=>c x axx) (fun x a=>b x axx) e]
def abk(n:Nat):(0:UInt8)∉decDigits n:=fun a=>Ul ayN a
def RJ(z:Int):(0:UInt8)∉aY z:=by
 unfold aY;intro h;rcases bO.1 h with h|h
 ·split at h
  ·rw[bE] at h;cases h
  ·cases h
 ·exact abk _ h
def ai5(h:ej B T):(0:UInt8)∉T:=by
 rcases h with rfl|⟨-,c, -⟩|⟨-,z,rfl, -⟩|⟨-,q,rfl, -⟩
 ·simp
 ·intro a;have d:=c.2.2.2 0 a;revert d
  decide
 ·exact RJ z
 ·by_cases b:q.den=1
  ·rw[pP b];exact RJ _
  ·rw[qz b];intro a;rcases bO.1 a with a|a
   ·exact RJ _ a
   ·rcases aK.1 a with a|a
    ·cases a
    ·exact abk _ a
structure Whole(n:Nat)(at_:Nat->List Nat)(hl:List Nat)(f:Fo):Prop where
 ok:f.Ok at_ hl []
 vd:f.vars.Nodup
 vm:∀v,v∈f.vars↔v<n
 hm:∀h,h∈f.homes↔h∈hl
 hd:f.homes.Nodup
def Whole.wf{f:Fo}(w:Whole a A i f):f.Wf A:=w.ok.wf w.vd fun _ _ h=>by cases h
def q55.k65(h:ar:=by
 refine⟨d,r,RI r w n none [] hu hk (fun a h=> ?_),Pb,Wq,fun h=> ?_,?_⟩
 ·rcases h with h|⟨b,h,_⟩<;>cases h
 ·exact agl
 ·refine RR (H:=fun v=>hl.filter fun t=>eZ d (at_ t) ((at_ t).headD 0)==v) (fun v=>yX yY e) (fun v l h i g=> ?_) (ze n none) Pb;have k:=beq_iff_eq.1 (eE.1 i).2;have j:=beq_iff_eq.1 (eE.1 g).2;exact k.symm.trans j):=h
def aj8{n:Nat}{at_:Nat->List Nat}{hl perm:List Nat}(c:∀a,a<n->a∈perm)(e:hl.Nodup)(hne:∀t∈hl,at_ t≠ [])(hlt:∀t∈hl,∀a∈at_ t,a<n)(p:Nat->Option Nat):
 ∃d,dr n (ju n (zR at_ hl) perm n (iX n) none p) d/\Whole n at_ hl (et n (ju n (zR at_ hl) perm n (iX n) none p) (fun v=>hl.filter fun t=>eZ d (at_ t) ((at_ t).headD 0)==v) n none):=by
 obtain⟨_,hpl⟩:=MW (adj:=zR at_ hl) (am_ at_ hl) c n (iX n) none p (fun x f=>of_decide_eq_true f) (by rw[Fi];exact aL _);generalize ju n (zR at_ hl) perm n (iX n) none p=q at*;open q55 in exact m65
def Fo.apj{α β:Type}{R:SR α}{U:List β}{g:Nat->β->α}{W:Nat->(Nat->β)->α}{b:Fo}(hW:∀h e d,(∀c∈A h,d c=e c)->W h d=W h e)
 (f:(Fo.cons a j b .nil).Ok A i k) (r:(Fo.cons a j b .nil).vars.Nodup) (s:∀c∈(Fo.cons a j b .nil).vars,c∉k) (m:∀h∈(Fo.cons a j b .nil).homes,∀c∈A h,c∈k->c∈l) {e d:Nat->β} (q:∀c∈l,d c=e c):
 (Fo.cons a j b .nil).val R U g W d=(Fo.cons a j b .nil).val R U g W e:=
 Rx hW _ e d (f.wf r s) fun h o c p n=>q c (m h o c p (by
  rcases f.cover h o c p with g|g
  ·exact g
  ·exact absurd g n))
def cX:SR Rat where
 zero:=0
 one:=1
 add:=fun a b=>a+b
 mul:=fun a b=>a*b
 aa:=uZ
 ac:=E4
 az:=pO
 ma:=Rat.mul_assoc
 mc:=Rat.mul_comm
 mo:=RO
 mz:=ME
 ds:=Rat.mul_add
abbrev fG:=Nat->List (List aH×Int)
def kP(at_:Nat->List Nat)(a:fG):Nat->(Nat->aH)->Bool:=fH dN at_ a fun _=>true
def mf(at_:Nat->List Nat)(a:fG):Nat->(Nat->aH)->Rat:=fH cX at_ a fun w=>(w:Rat)
def aba{at_:Nat->List Nat}{b:fG}{e:Nat->aH}(c:kP at_ b a e=false):mf at_ b a e=0:=by
 unfold kP fH at c;unfold mf fH;cases d:fE (at_ a) (b a) e with
 |none=>rfl
 |some y=>rw[d] at c;cases c
def R4{β:Type} [DecidableEq β]{a:List (List β×Int)}{e:Nat->β}{y:List β×Int}(h:fE i a e=some y):y∈a/\y.1=i.map e:=⟨yV h,beq_iff_eq.1 (wT (p:=fun y:List β×Int=>y.1==i.map e) h)⟩
def Nb{at_:Nat->List Nat}{b:fG}{e:Nat->aH}:kP at_ b a e=true↔∃y∈b a,y.1=(at_ a).map e:=by
 unfold kP fH;cases c:fE (at_ a) (b a) e with
 |none=>
  have g:=aje.1 c;constructor
  ·intro a;cases a
  ·rintro⟨y,d,i⟩;exact absurd i (g y d)
 |some y=>exact⟨fun _=>⟨y,R4 c⟩,fun _=>rfl⟩
def Sa{at_:Nat->List Nat}{b:fG}:∀h e c,(∀a∈at_ h,c a=e a)->kP at_ b h c=kP at_ b h e:=fun h e c d=>IV h e c d
section
variable{n:Nat}{at_:Nat->List Nat}{hl:List Nat}{U:List aH}{f:Fo}{env:Nat->aH}{lift:Nat->aH->Rat}
def mn(at_:Nat->List Nat)(U:List aH)(f:Fo)(env:Nat->aH)(lift:Nat->aH->Rat)(a:fG)(b:Nat->Option aH):Rat:=f.val cX U (fun v x=>if cH b v x=true then lift v x else 0) (mf at_ a) env
theorem alw(w:Whole n at_ hl f)(c:∀h∈hl,∀a∈at_ h,a<n){b:fG}{d:Nat->Option aH}(h:¬om n hl U (kP at_ b) d):mn at_ U f env lift b d=0:=by refine Fo.SY (R:=cX) (gB:=cH d) (WB:=kP at_ b) (fun v x g=>by rw[g];rfl) (fun h e i=>aba i) f env ?_;rw[<-rI,abE (W:=kP at_ b) Sa w.wf w.vd w.vm w.hm c];exact h
structure zA(n:Nat)(at_:Nat->List Nat)(hl:List Nat)(U:List aH)(f:Fo)(env:Nat->aH)(lift:Nat->aH->Rat)(attrs:List Nat)(tab:fG)(G:List Gp):Prop where
 ord:G.Pairwise lO
 mem:∀k,(∃y∈G,y.1=k)↔k.length=attrs.length/\om n hl U (kP at_ tab) (dO (fun _=>none) attrs k)
 sum:∀y∈G,y.2=mn at_ U f env lift tab (dO (fun _=>none) attrs y.1)
theorem zA.cM{d:fG}{G:List Gp}(g:zA n at_ hl U f env lift i d G)(w:Whole n at_ hl f)(o:∀h∈hl,∀a∈at_ h,a<n){k:List aH}(v:k.length=i.length):
 Go.Proofs.YtehkcnbodcdijaaGreatDoor.cM k G=mn at_ U f env lift d (dO (fun _=>none) i k):=by
 by_cases c:∃y∈G,y.1=k
 ·obtain⟨y,b,e⟩:=c;have m:=g.sum y b;rw[e] at m;rw[<-m];have j:=g.ord;clear m g;induction G with
  |nil=>cases b
  |cons z G s=>
   obtain⟨p,r⟩:=iP.1 j;unfold Go.Proofs.YtehkcnbodcdijaaGreatDoor.cM;rcases aK.1 b with rfl|b
   ·rw[if_pos e,zk fun q u A=> ?_,xc];have l:=p q u;rw[lO,A,<-e,iR.jD] at l;cases l
   ·rw[if_neg (fun x=> ?_),pO]
    ·exact s b r
    ·have l:=p y b;rw[lO,x,<-e,iR.jD] at l;cases l
 ·rw[zk fun y b e=>c ⟨y,b,e⟩];exact(alw w o fun t=>c ((g.mem k).2 ⟨v,t⟩)).symm
theorem akN{b:fG}{c:(Nat->Option aH)->Nat->List aH}(l:i.Nodup)(d:∀g a x,a∈i->g a=none->(x∈c g a↔om n hl U (kP at_ b) (ew g a x)))(o:∀g a,a∈i->(c g a).Pairwise fun x y=>Op.bytesLess x y=true)(hT:om n hl U (kP at_ b) fun _=>none):
 zA n at_ hl U f env lift i b ((ik c i fun _=>none).map fun k=>(k,mn at_ U f env lift b (dO (fun _=>none) i k))):=by
 refine⟨rD.2 (acf o i _ fun _ h=>h),fun k=> ?_,fun y j=> ?_⟩
 ·rw[<-SJ d om.mono (fun _ h=>h) l (fun _ _=>rfl) hT k];constructor
  ·rintro⟨y,j,e⟩;obtain⟨z,m,rfl⟩:=b_.1 j;rw[<-e];exact m
  ·intro h;exact⟨_,b_.2 ⟨k,h,rfl⟩,rfl⟩
 ·obtain⟨z,_,rfl⟩:=b_.1 j;rfl
theorem ajG{a:fG}(c:i.Nodup)(hT:¬om n hl U (kP at_ a) fun _=>none):zA n at_ hl U f env lift i a []:=
 ⟨List.Pairwise.nil,fun k=>⟨fun⟨y,b,_⟩=>(by cases b),fun⟨e,d⟩=>absurd (R_ om.mono c (fun _ _=>rfl) e d) hT⟩,fun y b=>(by cases b)⟩
end
section
variable{n:Nat}{p:Nat->Option Nat}{d:Nat->Nat}{homes:Nat->List Nat}
theorem Tj(r:dr n p d)(f:a<n)(e:p a=O):f9 d (some a)=f9 d O+1:=by
 cases O with
 |none=>simp only[f9];rw[r.root a f e]
 |some b=>simp only[f9];rw[(r.up a b f e).2]
theorem Tu(r:dr n p d)(h:n<=f9 d O):kids n p O= []:=by
 rcases e:kids n p O with _|⟨a,l⟩
 ·rfl
 ·exfalso;obtain⟨b,c⟩:=ig.1 (show a∈kids n p O by rw[e];simp);have hl:=r.lt a b;have:=Tj r b c;simp only[f9] at this h;cases O<;>simp only at this h<;>omega
theorem Rp{homes:Nat->List Nat}{f g:Nat->Fo}:∀{l:List Nat},(∀a∈l,f a=g a)->ei homes f l=ei homes g l
 | [],_=>rfl
 |a::l,h=>by unfold ei;rw[h a Ou,Rp fun b c=>h b ax3]
theorem Z7(r:dr n p d):∀(k b:Nat) (u:Option Nat),n<=k+f9 d u->n<=b+f9 d u->et n p homes k u=et n p homes b u
 |0,0,_,_,_=>rfl
 |0,b+1,u,h,_=>by
  show Fo.nil=ei homes (fun a=>et n p homes b (some a)) (kids n p u)
  rw[Tu r Om];rfl
 |k+1,0,u,_,h=>by
  show ei homes (fun a=>et n p homes k (some a)) (kids n p u)=Fo.nil
  rw[Tu r Om];rfl
 |k+1,b+1,u,h,g=>Rp fun a c=>by obtain⟨f,e⟩:=ig.1 c;have:=Tj r f e;exact Z7 r k b (some a) Om Om
def jv(n:Nat)(p:Nat->Option Nat)(homes:Nat->List Nat)(v:Nat):Fo:=et n p homes n (some v)
def eV(n:Nat)(p:Nat->Option Nat)(homes:Nat->List Nat)(v:Nat):Fo:= .cons v (homes v) (jv n p homes v) .nil
theorem tN(r:dr n p d){k:Nat}(h:n<=k+f9 d O):et n p homes k O=ei homes (jv n p homes) (kids n p O):=by
 match k with
 |0=>rw[Tu r Om];rfl
 |k+1=>refine Rp fun a b=> ?_;obtain⟨e,c⟩:=ig.1 b;have:=Tj r e c;exact Z7 r k n (some a) Om Om
theorem M3{α β:Type}{R:SR α}{U:List β}{g:Nat->β->α}{W:Nat->(Nat->β)->α}{f:Nat->Fo}:∀(l:List Nat) (env:Nat->β),(ei homes f l).val R U g W env=R.prod l fun a=>(Fo.cons a (homes a) (f a) .nil).val R U g W env
 | [],_=>rfl
 |a::l,env=>by
  show R.mul _ ((ei homes f l).val R U g W env)=R.mul (R.mul _ R.one) (R.prod l _)
  rw[SR.zV,M3 l env]
theorem avK(r:dr n p d){α β:Type}{R:SR α}{U:List β}{g:Nat->β->α}{W:Nat->(Nat->β)->α}(v:Nat)(env:Nat->β):
 (eV n p homes v).val R U g W env=R.sum U fun x=>R.mul (R.mul (g v x) (R.prod (homes v) fun h=>W h (put env v x))) (R.prod (kids n p (some v)) fun c=>(eV n p homes c).val R U g W (put env v x)):=by
 show R.mul (R.sum U _) R.one=_
 rw[SR.zV];refine u_ fun x _=> ?_;have h:jv n p homes v=ei homes (jv n p homes) (kids n p (some v)):=tN r Om;rw[h,M3];rfl
theorem MS(r:dr n p d){v:Nat}(e:v<n):a∈(eV n p homes v).vars↔a=v\/(a<n/\dF p (some v) a):=by have h:=wX (homes:=homes) r n (some v) a (fun b c=>by injection c with c;omega) Om;simp only[eV,Fo.vars,aK,j5,jv,h]
theorem ML(r:dr n p d){v:Nat}(e:v<n):(eV n p homes v).vars.Nodup:=by
 have a:∀b,some v=some b->b<n:=fun b c=>by injection c with c;omega
 have f:=Iu (homes:=homes) r n (some v) a Om;simp only[eV,Fo.vars,j5,jv];refine ic.2 ⟨fun h=> ?_,f⟩;have g:=((wX r n (some v) v a Om).1 h).2.l8 r v rfl e;omega
theorem SI{at_:Nat->List Nat}{hl:List Nat}{f:Nat->Fo}{S:List Nat}:∀{l:List Nat},(ei homes f l).Ok at_ hl S->∀c∈l,(Fo.cons c (homes c) (f c) .nil).Ok at_ hl S
 | [],_,c,b=>by cases b
 |a::l,⟨i,h,g,e⟩,c,b=>by
  rcases aK.1 b with rfl|b
  ·exact⟨i,h,g,trivial⟩
  ·exact SI e c b
end
def eh(sb:Nat->Bool)(env:Nat->aH):List Nat->List aH->Bool
 |a::l,x::r=>(!(sb a)||env a==x)&&eh sb env l r
 |_,_=>true
def sw(sb:Nat->Bool)(env:Nat->aH)(l:List Nat)(a:List (List aH×Int)):Bool:=a.any fun y=>eh sb env l y.1
def cW(sb:Nat->Bool)(v:Nat):Nat->Bool:=fun a=>a==v||sb a
def xA{sb:Nat->Bool}{env:Nat->aH}:∀{l:List Nat} {r:List aH},eh sb env l r=true↔∀(i a:Nat) (x:aH),l[i]? =some a->r[i]? =some x->sb a=true->env a=x
 | [],r=>by simp [eh]
 |a::l,[]=>by simp [eh]
 |a::l,x::r=>by
  unfold eh;rw[cV,xA];constructor
  ·rintro⟨g,k⟩ i b y e c f;cases i with
   |zero=>simp only[dA,dl] at e c;subst e c;rw[f] at g;simpa using g
   |succ i=>exact k i b y axO axv f
  ·intro h;refine⟨?_,fun i b y e c f=>h (i+1) b y axO axv f⟩;cases j:sb a with
   |false=>rfl
   |true=>simpa using h 0 a x rfl rfl j
def acH{sb:Nat->Bool}{env:Nat->aH}{r:List aH}(hl:r.length=i.length)(j:∀a∈i,sb a=true):eh sb env i r=true↔r=i.map env:=by
 rw[xA];constructor
 ·intro h;refine rF fun b=> ?_;rw[dK];rcases cA b i.length with c|c
  ·have g:r[b]? =some (r[b]'Om):=aX Om;have f:i[b]? =some i[b]:=aX c;rw[g,f];exact congrArg some (h b _ _ f g (j _ (a8 c))).symm
  ·rw[eT Om,eT c];rfl
 ·rintro rfl b a x c e _;rw[dK,c] at e;injection e
def apd{sb:Nat->Bool}{env:Nat->aH}:eh sb env i (i.map env)=true:=xA.2 fun b a x e c _=>by rw[dK,e] at c;injection c
def Sh{sb OT:Nat->Bool}{env OE:Nat->aH}{r:List aH}(h:∀a∈i,sb a=OT a/\(sb a=true->env a=OE a)):eh sb env i r=eh OT OE i r:=by
 rw[lW,xA,xA];constructor
 ·intro g b a x e j c;have f:=h a (pM e);rw[<-f.1] at c;rw[<-f.2 c];exact g b a x e j c
 ·intro g b a x e j c;have f:=h a (pM e);rw[f.2 c];rw[f.1] at c;exact g b a x e j c
def oU(x:aH):List aH->List aH
 | []=> [x]
 |y::l=>if Op.bytesLess y x=true then y::oU x l else if (y==x)=true then y::l else x::y::l
def jP(l:List aH):List aH:=l.foldr oU []
abbrev sJ(x y:aH):Prop:=Op.bytesLess x y=true
def Tv{x z:aH}:∀{l:List aH},z∈oU x l↔z=x\/z∈l
 | []=>by simp [oU]
 |y::l=>by
  unfold oU;split
  ·rw[aK,Tv,aK];constructor
   ·rintro(h|h|h)
    ·exact .inr (.inl h)
    ·exact .inl h
    ·exact .inr (.inr h)
   ·rintro(h|h|h)
    ·exact .inr (.inl h)
    ·exact .inl h
    ·exact .inr (.inr h)
  ·split
   ·rename_i a;have a:=beq_iff_eq.1 a;rw[aK];constructor
    ·exact fun h=> .inr h
    ·rintro(h|h)
     ·exact .inl (h.trans a.symm)
     ·exact h
   ·rw[aK]
def adx{x:aH}:∀{l:List aH},l.Pairwise sJ->(oU x l).Pairwise sJ
 | [],_=>by simp [oU]
 |y::l,h=>by
  obtain⟨g,j⟩:=iP.1 h;unfold oU;split
  ·rename_i c;refine iP.2 ⟨fun z a=> ?_,adx j⟩;rcases Tv.1 a with rfl|a
   ·exact c
   ·exact g z a
  ·rename_i c;split
   ·exact h
   ·rename_i f;have b:Op.bytesLess x y=true:=by
     cases i:Op.bytesLess x y with
     |true=>rfl
     |false=>have e:=zo.vI x y i axv;rw[e] at f;simp at f
    refine iP.2 ⟨fun z a=> ?_,h⟩;rcases aK.1 a with rfl|a
    ·exact b
    ·exact zo.tr _ _ _ b (g z a)
def IY:∀l,(jP l).Pairwise sJ
 | []=>List.Pairwise.nil
 |_::l=>adx (IY l)
def zm{x:aH}:∀{l},x∈jP l↔x∈l
 | []=>by simp [jP]
 |y::l=>by
  show x∈oU y (jP l)↔_
  rw[Tv,zm,aK]
def SF{l:List aH}(h:l.Pairwise sJ):l.Nodup:=h.imp fun {a b} c e=>by rw[sJ,e,zo.jD] at c;cases c
def T1:∀{l m:List aH},l.Pairwise sJ->m.Pairwise sJ->(∀x,x∈l↔x∈m)->l=m
 | [],[],_,_,_=>rfl
 | [],y::m,_,_,h=>by have:=(h y).2 Ou;cases this
 |x::l,[],_,_,h=>by have:=(h x).1 Ou;cases this
 |x::l,y::m,hl,q,h=>by
  obtain⟨f,j⟩:=iP.1 hl;obtain⟨m1,m2⟩:=iP.1 q;have b:x=y:=by
   rcases aK.1 ((h x).1 Ou) with e|o
   ·exact e
   ·rcases aK.1 ((h y).2 Ou) with e|k
    ·exact e.symm
    ·have i:=m1 x o;have c:=f y k;rw[sJ] at i c;rw[zo.asym i] at c;cases c
  subst b;have jD:∀z,sJ x z->z≠x:=fun z a e=>by rw[sJ,e,zo.jD] at a;cases a
  rw[T1 j m2 fun z=> ?_];constructor
  ·intro a;rcases aK.1 ((h z).1 axx) with e|g
   ·exact absurd e (jD z (f z a))
   ·exact g
  ·intro a;rcases aK.1 ((h z).2 axx) with e|g
   ·exact absurd e (jD z (m1 z a))
   ·exact g
def gm(at_:Nat->List Nat)(hl:List Nat)(v:Nat):List Nat:=hl.filter fun h=>(at_ h).contains v
def nY(l:List Nat)(v:Nat)(y:List aH):aH:=y.getD (l.idxOf v) []
def xI(at_:Nat->List Nat)(tab:fG)(hl:List Nat)(fx:Nat->Option aH)(sb:Nat->Bool)(env:Nat->aH)(v:Nat):List aH:=match gm at_ hl v with
 | []=> []
 |h::_=>((tab h).filter fun y=>eh sb env (at_ h) y.1&&cH fx v (nY (at_ h) v y.1)).map fun y=>nY (at_ h) v y.1
def io(at_:Nat->List Nat)(tab:fG)(hl:List Nat)(fx:Nat->Option aH)(sb:Nat->Bool)(env:Nat->aH)(v:Nat):List aH:=
 (jP (xI at_ tab hl fx sb env v)).filter fun x=>(gm at_ hl v).all fun h=>sw (cW sb v) (put env v x) (at_ h) (tab h)
def acx{at_:Nat->List Nat}{tab:fG}{hl:List Nat}{fx:Nat->Option aH}{sb:Nat->Bool}{env:Nat->aH}{v:Nat}:(io at_ tab hl fx sb env v).Pairwise sJ:=yX yY (IY _)
structure zF(at_:Nat->List Nat)(tab:fG)(hl:List Nat):Prop where
 nd:∀h∈hl,(at_ h).Nodup
 len:∀h∈hl,∀y∈tab h,y.1.length=(at_ h).length
 ap:∀h∈hl,(tab h).Pairwise fun y z=>y.1≠z.1
section
variable{at_:Nat->List Nat}{tab:fG}{hl:List Nat}{fx:Nat->Option aH}{sb:Nat->Bool}{env:Nat->aH}{v:Nat}
theorem zh:a∈gm at_ hl v↔a∈hl/\v∈at_ a:=by unfold gm;rw[eE,oF]
theorem aek{v:Nat}(h:v∈i):i[i.idxOf v]? =some v:=axM
theorem Nf(B:zF at_ tab hl)(o:sb v=false)(r:gm at_ hl v≠ []){x:aH}:
 x∈io at_ tab hl fx sb env v↔cH fx v x=true/\∀h∈gm at_ hl v,sw (cW sb v) (put env v x) (at_ h) (tab h)=true:=by
 unfold io;rw[eE,zm,rH];unfold xI;rcases w:gm at_ hl v with _|⟨f,l⟩
 ·exact absurd w r
 ·obtain⟨G,u⟩:=zh.1 (show f∈gm at_ hl v by rw[w];simp);simp only;rw[b_];constructor
  ·rintro⟨⟨y,k,rfl⟩,m⟩;obtain⟨c,A⟩:=eE.1 k;rw[cV] at A;exact⟨A.2,m⟩
  ·rintro⟨H,m⟩;refine⟨?_,m⟩;obtain⟨y,k,j⟩:=mU.1 (m f Ou);have F:=aek u;have D:=B.len f G y k;have E:=Zh u;have g:y.1[(at_ f).idxOf v]? =some (y.1[(at_ f).idxOf v]'Om):=aX Om;have b:nY (at_ f) v y.1=x:=by have c:=xA.1 j _ _ _ F g (by simp [cW]);unfold put at c;rw[if_pos rfl] at c;unfold nY;rw[eG,g,c];rfl
   refine⟨y,eE.2 ⟨k,?_⟩,b⟩;rw[cV,b];refine⟨xA.2 fun i a z s C q=> ?_,H⟩;have t:a≠v:=fun e=>by rw[e,o] at q;cases q
   have c:=xA.1 j i a z s C (by simp [cW,q]);unfold put at c;rwa[if_neg t] at c
theorem aoH(A:zF at_ tab hl)(D:a∈hl)(F:∀c∈at_ a,sb c=true)(hit:sw sb env (at_ a) (tab a)=true){α:Type}(R:SR α)(E:Int->α):
 ∃y,y∈tab a/\(tab a).filter (fun y=>eh sb env (at_ a) y.1)= [y]/\fH R at_ tab E a env=E y.2:=by
 obtain⟨y,o,w⟩:=mU.1 hit;have u:=(acH (A.len a D y o) F).1 w;have m:=A.ap a D;have g:=A.len a D;have hF:Func (tab a):=fun c M b L x=>by
  rcases iE M with⟨i,H,rfl⟩;rcases iE L with⟨j,G,rfl⟩;rcases Mo i j with k|k|k
  ·exact absurd x (nI.1 m i j H G k)
  ·subst k;rfl
  ·exact absurd x.symm (nI.1 m j i G H k)
 refine⟨y,o,?_,?_⟩
 ·have f:∀z∈tab a,eh sb env (at_ a) z.1=true->z=y:=fun z r B=>hF z r y o (((acH (g z r) F).1 B).trans u.symm);revert m g f o;generalize tab a=t;intro o m g f;induction t with
  |nil=>cases o
  |cons z l K=>
   obtain⟨J,I⟩:=iP.1 m;by_cases r:eh sb env (at_ a) z.1=true
   ·have e:=f z Ou r;subst e;rw[List.filter_cons_of_pos (p:=fun y:List aH×Int=>eh sb env (at_ a) y.1) r,Zq.2 fun q s C=>J q s (by rw[f q ayv C])]
   ·rw[List.filter_cons_of_neg (p:=fun y:List aH×Int=>eh sb env (at_ a) y.1) r];rcases aK.1 o with rfl|o
    ·exact absurd w r
    ·exact K o I (fun q s=>g q ayv) (fun q s=>f q ayv)
 ·unfold fH;rw[(ajd hF).2 ⟨o,u⟩]
end
abbrev sf:TypeId:=32
abbrev JM:TypeId:=237
abbrev Gb:TypeId:=373
def sA:Option Nat->Int
 |none=> -1
 |some a=>a
def iT(n:Nat)(q:Nat->Option Nat):List Value:=(List.range n).map fun a=>av (sA (q a))
def MX(n:Nat)(q:Nat->Option Nat):(iT n q)=n:=by unfold iT;simp
def Cl(h:b<a):(iT a y)[b]? =some (av (sA (y b))):=by unfold iT;rw[dK,lV h];rfl
def aaV(h:b<a):(iT a y).set b (av (sA O))=iT a (iW y b O):=by
 refine rF fun i=> ?_;rw[pN,MX];by_cases e:b=i
 ·subst e;rw[if_pos rfl,if_pos h,Cl h];unfold iW;rw[if_pos rfl]
 ·rw[if_neg e];rcases cA i a with c|c
  ·rw[Cl c,Cl c];unfold iW;rw[if_neg (gU e)]
  ·rw[eT (by rw[MX];exact c),eT (by rw[MX];exact c)]
def amR{c:VS}(d:a<i)(h:(i.take a).find? c=none):(c i[a]=true->i.find? c=some i[a])/\(c i[a]=false->(i.take (a+1)).find? c=none):=by
 constructor
 ·intro b;have e:i.find? c=(i.take a++i.drop a).find? c:=by rw[tH]
  rw[e,List.find?_append,h,jK d,List.find?_cons,b];rfl
 ·intro b;rw[fR d,List.find?_append,h];simp [b]
def vF(d a c b:Nat):Value:= .func (.func 330) #[] #[aI d 0,aI a 0,aI c 0,aI b 0]
def Only.kept{u:TypeId}(f:Only a m n)(h:aq m a w t)(d:w≠u):Kept u m n:=fun g i j c=>(f.block g (ie c) fun e=>by injection e with e;subst e;unfold aq at h;rw[h] at c;injection c with c;injection c with _ c;exact d c).trans c
def vo:=@Only.kept
structure KW(g:List Nat)(gb VW ob pb OV:Nat)(w0 W:au)(q:Nat->Option Nat):Prop where
 ext:Ext w0 W
 o:aq W ob sf [aG pb 0 g.length g.length]
 pl:aq W OV Gb [vF gb VW ob OV]
 p:aq W pb aS (iT g.length q)
structure PZ(g perm:List Nat)(A B:aQ)(c gb VW ob pb OV:Nat)(w0:au):Prop where
 gl:fO w0 (.slice A g.length g.length) g
 gx:aq w0 gb JM [.slice A g.length g.length]
 il:IL w0 (.slice B perm.length c) (ints perm)
 px:aq w0 VW 22 [.slice B perm.length c]
 hp:w0.heap.size<=pb
 ho:ob≠pb
 hl:OV≠pb
noncomputable def tY(g b:List Nat)(k:Nat)(u:Option Nat)(p:Nat->Option Nat)(c:VS):Nat->Option Nat:=match b.find? c with
 |some a=>ju g.length (fF g) b k (VS.less c (VS.one a)) (some a) (iW p a u)
 |none=>p
def ajl{g perm:List Nat}{k:Nat}{rest:VS}{u:Option Nat}{p:Nat->Option Nat}:ju g (fF g) perm (k+1) rest u p=(parts (fF g) (List.range g) rest).foldl (tY g perm k u) p:=rfl
def N2(g c:List Nat)(h a f d b:Nat)(i:au)(k m:Nat)(u:Option Nat):Prop:=∀W q,KW g h a f d b i W q->
 Calls prog 330 #[.int .u64 (m:Int),av (sA u),aI h 0,aI a 0,aI f 0,aI b 0] W fun e j=>
  e= .returned (.tuple #[])/\KW g h a f d b i j (ju g.length (fF g) c k m.testBit u q)/\Only d W j
def anO{g perm:List Nat}(hg:k7 g)(hN:PZ g perm E F a b c d e f m)(X:∀l∈perm,l<g.length){k rest:Nat}{u:Option Nat}(hr:rest<2^g.length)
 (hC:∀s l,s.testBit∈parts (fF g) (List.range g) rest.testBit->s.testBit l=true->N2 g perm b c d e f m k (dY s (2^l)) (some l)):N2 g perm b c d e f m (k+1) rest u:=by
 intro W q hS;obtain⟨M,L,r,U,hhp,hho,Py⟩:=hN;obtain⟨he,ho,Y,hp⟩:=hS;have HG:=af hg;have hle:=hg.le;have HR:=af hr;have AZ:=af X;have ru:=af hC;have Ey:=af M;have HGX:=af L;have d_:=af r;have HPX:=af U;have HE:=af he;have HO:=af ho;have pB:=af Y;have HP:=af hp;have HPF:=af (ajl (g:=g) (perm:=perm) (k:=k) (rest:=rest.testBit) (u:=u) (p:=q));have xO:=(bl r).2;have w:perm=(ints perm).length:=(bl r).1;have CO:=af (aaW E g g g rest W (M.ext he) hg hr);have s0:=(L.ext he).aF 0;have y:=af w;clear hg hr X hC M L r U he ho Y hp w;go_enter func330,ntmps330;go_wp2_with fail
 refine CO.mono ?_;rintro e1 w1 ⟨v,n,rfl,hv,H,A,O⟩;obtain⟨A',c',rfl,hc1,hc2,HV⟩:=hv.parts;unfold maxLen at hc2;rw[<-H] at HPF;have HMS:ah (∀j,j<n.length->(n.getD j 0).testBit∈parts (fF g) (List.range g.length) rest.testBit/\n.getD j 0<2^g.length):=fun j J=>by rw[eG,aX J,<-H];exact⟨b_.2 ⟨_,a8 J,rfl⟩,A _ (a8 J)⟩
 have Yx:ah (∀j,j<n.length->((n.map Nat.testBit).take (j+1)).foldl (tY g perm k u) q=tY g perm k u (((n.map Nat.testBit).take j).foldl (tY g perm k u) q) (n.getD j 0).testBit):=fun j J=>by rw[fold_succ _ _ (by simpa using J),ET,eG,aX J];rfl
 have bB:ah (KW g b c d e f m w1 (((n.map Nat.testBit).take 0).foldl (tY g perm k u) q)):=⟨HE.trans O,HO.ext O,pB.ext O,HP.ext O⟩;have HY1:ah (Only e W w1):=dM O;clear s0 hv H A O;go_upto_region 1 with fail
 go_loopw [9,11,16] (fun _ _ D wr=>∃j:Nat,j<=n/\D=av j/\ah (KW g b c d e f m wr (((n.map Nat.testBit).take j).foldl (tY g perm k u) q))/\ah (Only e W wr)/\ah (fO wr (.slice A' n c') n)) (fun _ _ D _=>n - (RowKit.intOf D).toNat)
 exact⟨0,aU _,rfl,bB,HY1,HV⟩;obtain⟨j,J,rfl,t,HY,HV⟩:=hrel;by_cases I:j<n.length
 ·obtain⟨gg,o,rfl,_,hc⟩:=fO.get HV I;have HM:=af (HMS j I);have HF:=af (Yx j I);generalize((n.map Nat.testBit).take j).foldl (tY g perm k u) q=qj at*;generalize n.getD j 0=s at*;have yC:=af (HG.jC HM.2);have hp0:=(HPX.ext t.ext).aF 0;have Ex:ah ((perm.take 0).find? s.testBit=none):=rfl;obtain⟨wo,rfl⟩:∃wo:World,wo=wr:=⟨_,rfl⟩;go_upto_region 4 with fail
  clear hp0 hc;go_loopw [11,22] (fun _ C wq=>∃i:Nat,i<=perm/\C=av i/\ah ((perm.take i).find? s.testBit=none)/\wq=wo) (fun _ C _=>perm - (RowKit.intOf C).toNat);exact⟨0,aU _,rfl,Ex,rfl⟩;obtain⟨i,hi,rfl,HI,rfl⟩:=hrel;by_cases r:i<perm
  ·obtain⟨g2,o2,rfl,_,hc⟩:=ij (bU cJ d_ t.ext) (i:=i) (by rw[<-y.ae];exact r);have Z:(ints perm)[i]'(by rw[<-y.ae];exact r)=((perm[i]:Nat):Int):=ayd;rw[Z] at hc;have V:=AZ _ (a8 r);have HNX:=af (amR r HI);clear Z;generalize perm[i]=l at*;have HH:=af (Cv s l wr yC Om);go_wp2_with fail
   refine HH.mono ?_;rintro e2 w2 ⟨rfl,rfl⟩;cases B:s.testBit l with
   |true=>
    have HFD:=af (HNX.1 B);have HQ:ah (N2 g perm b c d e f m k (dY s (2^l)) (some l)):=ru s l HM.1 B;have N:ah (tY g perm k u qj s.testBit=ju g (fF g) perm k (dY s (2^l)).testBit (some l) (iW qj l u)):=(by unfold tY;rw[HFD.ae];simp only;rw[zu,qH];exact rfl)
    have s1:=t.o.aF 0;have s2:=t.p.frozen l;have s3:=t.p.cell (Cl V);have jE:=t.p.lt;obtain⟨W',hW',B7,K7,P⟩:=fM (i:=l) t.p (av (sA u));rw[aaV V] at B7;have Ej:=af hW';clear B hW';go_upto_region 8 with fail
    rw[Ej.ae];have rr:=af (t.o.only P hho);have auD:=af (t.pl.only P Py);have Ho:=af (t.ext.only P hhp);have ro:=af (HY.trans P);have Ek:ah (fO W' (aG gg o n c') n):=HV.keep qF fun u R=>by simp only[bE] at R;rw[R];exact vo P t.p Od
    clear s1 s2 s3 K7 hc jE P;have bK:ah (∀Q,aq Q f Gb [vF b c d f]->aA Q f 0 (vF b c d f)):=fun Q h=>h.cell rfl;have z:=af auD.drew;have Ht:=af B7.drew;have uH:=af rr.drew;have LN:=af Ho.drew;have KZ:=af ro.drew;have Lb:=af (bU qF Ek (aB W').drew);clear B7;have yx:=af (xD l W'.drew Om);refine cG (S:=fun Q=>aq Q f Gb [vF b c d f]) (T:=fun _=>false) Ok ?_;generalize W'.drew=wd at*;have aJ:=z;refine ax 0 34 ?_;refine ax 1 35 ?_;refine ax 2 36 ?_;refine ax 5 39 ?_;refine aO 3 ?_;intro K hK;go_simp;refine yx.mono ?_;rintro e3 w3 ⟨rfl,rfl⟩;refine hK.ae _ _ (fun _=>aJ.ae) ?_;clear hK;have HW:=af (zE yC (Df (show l<12 by omega)));generalize 2^l=pa at*;refine ax 4 38 ?_;rw[HW.ae];have qr:=af (HQ w3 _ ⟨LN,uH,z,Ht⟩);rw[<-N.ae] at qr;refine aO 6 ?_;intro K hK;go_simp;refine qr.mono ?_;rintro e4 w4 ⟨rfl,x,G⟩;refine hK.ae _ _ (fun _=>x.pl) ?_;refine bY Ok ?_;rw[<-HF.ae] at x;have nD:=af x;have XE:=af (KZ.trans G);have G6:ah (fO w4 (aG gg o n c') n):=Lb.keep qF fun u R=>by simp only[bE] at R;rw[R];exact vo G Ht Od
    clear hK x G;go_wp2;go_roundw;exact⟨j+1,by omega,by go_num,nD,XE,G6⟩;simp [RowKit.intOf];omega
   |false=>have uJ:=af (HNX.2 B);clear B;go_wp2;go_roundw;exact⟨i+1,by omega,by go_num,uJ,trivial⟩;simp [RowKit.intOf];omega
  ·obtain rfl:i=perm.length:=Om;have N:ah (tY g perm k u qj s.testBit=qj):=(by have h:=HI.ae;rw[fB] at h;unfold tY;rw[ah,h])
   rw[N.ae] at HF;have d1:decide (perm<perm)=false:=Ou;go_wp2;go_roundw;exact⟨j+1,by omega,by go_num,by rw[HF.ae];exact t,HY,HV⟩;simp [RowKit.intOf];omega
 ·obtain rfl:j=n.length:=Om;have d1:decide (n<n)=false:=Ou;have en:ah (KW g b c d e f m wr (ju g (fF g) perm (k+1) rest.testBit u q)):=(by have h:=t.ae;rw[show n.length=(n.map Nat.testBit).length by simp,fB] at h;rw[HPF.ae];exact h)
  go_wp2;refine bodyPost_end (results_none rfl _ _ _) rfl ?_;exact⟨rfl,en,HY⟩
def abW{g b:List Nat}{A B:aQ}{c C h v t j:Nat}{s:au}(o:k7 g)(z:PZ g b A B c C h v t j s)(l:∀a∈b,a<g.length):∀(k m:Nat) (u:Option Nat),m<2^g.length->VS.count g.length m.testBit<=k->N2 g b C h v t j s (k+1) m u
 |k,m,u,w,H=>anO o z l w fun p a E r=>by
  obtain⟨x,G,q,e⟩:=y9 o.symm E;have f:∀y,p.testBit y=true->m.testBit y=true:=fun y D=>qE o.symm q (by rw[<-e];exact D);have d:p<2^g.length:=by
   refine Nat.lt_pow_two_of_testBit _ fun i I=> ?_;cases F:p.testBit i with
   |false=>rfl
   |true=>exact absurd (rW w (f i F)) Om
  have K:=wY (n:=g) f;have J:=tO (n:=g.length) r (rW d r);match k with
  |0=>omega
  |k+1=>exact abW o z l k _ _ (yZ d ayD) (adO d r k Om)
def M2(n:Nat)(h:n<=1000)(w:au):
 (Instr.makeSlice 22 (av (n:Int)) (av (n:Int))).run prog w= .ok (aG w.heap.size 0 n n) (w.alloc (.cells (iT n fun _=>some 0).toArray aS)):=by
 obtain⟨g,a,d,c,b⟩:=info_parts (show(prog.info? aS).map (fun i=>(i.zero,i.size,i.bytes))=some (some (av 0),1,8) by kernel_rfl);have f:=run_make (P:=prog) w 22 aS g (av 0) underlying22 a d .i64 .i64 (n:Int) (n:Int) Om (xd _) (by rw[b];omega) Om;simp only[kX,c,lF,Value.cells,Cf] at f;rw[f];have e:List.replicate n (Value.int .i64 0)=iT n fun _=>some 0:=by
  refine rF fun i=> ?_;rcases cA i n with a|a
  ·rw[Cl a,Bu,if_pos a];rfl
  ·rw[eT axB,eT (by rw[MX];exact a)]
 rw[e]
noncomputable def nj(x:aP)(a:List Nat):Nat->Option Nat:=ju x.ai.length (fF (gX x.ai.length x.ay)) a (x.ai.length+1) (iX x.ai.length) none fun _=>some 0
def an1(v:Value)(x:aP)(B:aQ)(c:Nat)(b:List Nat)(w:au)(h:dP w v x)(ok:bV x)(hp:IL w (.slice B b c) (ints b))(z:∀a∈b,a<x.ai):
 Calls prog 288 #[v,.slice B b c] w fun e j=>∃s,e= .returned (.agg #[aG s 0 x.ai x.ai])/\aq j s aS (iT x.ai (nj x b))/\w.heap.size<=s/\Ext w j:=by
 have CN:=af (fun W (O:Ext w W)=>Tp v x W (h.ext O) ok);have G:=zn ok.ri;have hg:=G.ok ok.a12;have X:=G.len;have J:ah (nj x b=ju x.ai (fF (gX x.ai x.ay)) b (x.ai.length+1) (iX x.ai) none fun _=>some 0):=rfl;generalize nj x b=pF at*;generalize gX x.ai.length x.ay=g at*;obtain⟨A,c1,B1,d,D,e,rfl,ha,hr,hf⟩:=h;obtain⟨N,hN⟩:∃N,x.ai.length=N:=⟨_,rfl⟩;rw[hN] at CN X J z⊢;subst X;have hle:=hg.le;have HG:=af hg;have d_:=af hp;have AZ:=af z;have mC:=M2 g Om;have YR:=af (fun A j (h:fO j (.slice A g g) g)=>adb A g g g j h hle);have m:(2^g.length - 1).testBit=iX g.length:=by
  funext y
  rw[aie];rfl
 have HPC:=af (fun(A:aQ) (q k C s f:Nat) (w0:au) (hN:PZ g b A B c q k C s f w0)=>abW (A:=A) hg hN z g (2^g.length - 1) none ayP (by rw[m,Fi];exact aL _));rw[<-m] at J;generalize 2^g.length - 1=all at*;clear hg hp z G ha hr hf ok hN m;go_enter func288,ntmps288;go_upto_region 1 with fail
 refine vG fun W HX BX BP BR=> ?_;obtain⟨M,s1,s2,s3⟩:=BX.four;go_wp2_with fail;refine(CN W HX).mono ?_;rintro e1 w1 ⟨P,rfl,hv,O⟩;have I:=af (HX.trans O);have th:=af hv;have Y':=af (BP.ext O);have yR:=af (BR.ext O);clear M s1 s2 s3 O hv BX BP BR;go_upto_region 2 with fail
 refine aR fun r l BG=> ?_;have M:=BG.aF 0;go_upto_region 3 with fail
 refine gJ fun W3 cE BPA BO=> ?_;clear M mC;go_upto_region 4 with fail
 refine aR fun W4 H BL=> ?_;have f0:=BL.frozen 0;have M:=BL.aF 0;obtain⟨E,Z,B5,K5,N5⟩:=fM (i:=0) BL.ae (vF w1.heap.size (w.heap.size+1) (r.heap.size+1) W3.heap.size);have HW5:=af Z;unfold vF at HW5;clear Z;go_upto_region 5 with fail
 rw[HW5.ae];have h21:=BO.lt;have h12:=BG.lt;have h01:=yR.lt;have hws:=I.size;have n:ah (Ext r E):=(cE.trans H).only N5.ae Om;have Bn:=af ((BO.ext H).only N5.ae Om);have avC:=af ((BPA.ext H).only N5.ae Om);have HPN:ah (PZ g b P B c w1.heap.size (w.heap.size+1) (r.heap.size+1) r.heap.size W3.heap.size r):=
  ⟨bU qF th l,BG,bU cJ d_ (I.trans l),Y'.ext l,aL _,by omega,by omega⟩
 have Hr:=af (HPC _ _ _ _ _ _ _ HPN);have Yt:=af (BG.ext n);have HL5:=af (bU qF th (l.trans n));have kB:=af (yR.ext (l.trans n));have sX:ah (Ext w E):=I.trans (l.trans n);have U:w.heap.size<=r.heap.size:=Om;have F:w.heap.size+1+1≠r.heap.size:=Om;have WT:w1.heap.size≠r.heap.size:=Om;clear f0 M K5 N5 BL BO BPA BG h21 h12 h01;obtain⟨rb,R⟩:∃rb,w.heap.size+1+1=rb:=⟨_,rfl⟩;have Q:w.heap.size<=rb:=Om;rw[R] at kB F⊢;clear R;generalize w1.heap.size=q at*;generalize w.heap.size+1=k at*;generalize W3.heap.size=f at*;obtain⟨C,V⟩:∃C,r.heap.size+1=C:=⟨_,rfl⟩;rw[V] at Bn Hr B5⊢;clear V;generalize r.heap.size=s at*;have bK:ah (∀j,(aq j f Gb [vF q k C f]/\aq j q JM [.slice P g g])->aA j f 0 (vF q k C f)/\aA j q 0 (.slice P g g)):=fun j h=>⟨h.1.cell rfl,h.2.cell rfl⟩;have aJ:ah (aq E.drew f Gb [vF q k C f]/\aq E.drew q JM [.slice P g g]):=⟨B5.drew,Yt.drew⟩;have Qz:=af (YR P E.drew (bU qF HL5 (aB E).drew));have mL:=af (Hr E.drew _ ⟨n.drew,Bn.drew,B5.drew,avC.drew⟩);rw[<-J.ae] at mL;have d8:=af sX.drew;have pK:=af kB.drew;clear B5;refine cG (S:=fun j=>aq j f Gb [vF q k C f]/\aq j q JM [.slice P g g]) (T:=fun _=>false) Ok ?_;generalize E.drew=wd at*;refine ax 0 15 ?_;refine ax 1 16 ?_;refine aO 2 ?_;intro K hK;go_simp;refine Qz.mono ?_;rintro e2 w2 ⟨rfl,rfl⟩;refine hK.ae _ _ (fun _=>aJ.ae) ?_;clear hK;refine aO 3 ?_;intro K hK;go_simp;refine mL.mono ?_;rintro e3 w3 ⟨rfl,u,t⟩;refine hK.ae _ _ (fun _=>⟨u.pl,aJ.2.only t WT⟩) ?_;refine bY Ok ?_;have L:=af (pK.only t F);have f_:=af (d8.only t U);have BP7:=af u.p;have M:=u.o.aF 0;have r0:=L.aF 0;have f0:=L.frozen 0;obtain⟨W8,Y,B8,K8,N8⟩:=fM (i:=0) L.ae (aG s 0 g g);have La:=af Y;have lz:=af (f_.only N8 Q);have L_:=af (BP7.only N8 (gU F));clear hK u t Y K8 N8;go_wp2_with fail
 rw[La.ae];exact bodyPost_ret (results_cell_row rfl _ _ rb sf #[aG s 0 g g] (0,0) _ rfl B8.ae underlying32 rfl Ok) rfl ⟨s,rfl,L_,U,lz⟩
def anM{b:Act}(h:b.tmps[a]? =some p):b.put (some a) p=b:=by
 obtain⟨tmps,c⟩:=b;simp only[Act.put,Act.mk.injEq,and_true];apply Array.ext
 ·simp
 ·intro i g f;rw[Array.getElem_setIfInBounds];split
  ·rename_i e;subst e;rw[Zm f] at h;injection h with h;exact h.symm
  ·rfl
def apD(a:Act)(d:Nat)(u v:Value):(a.put (some d) u).put (some d) v=a.put (some d) v:=by obtain⟨c,b⟩:=a;simp [Act.put,Array.setIfInBounds_setIfInBounds]
section
variable{P:Program}{ops:Array Oper}{Q:Exit->Act->World->Prop}{md:Region.Mode}{S:World->Prop}{T:Nat->Bool}
section
variable{fT i1 d1 i2 d2 base:Nat}{t1 t2:TypeId}{z1 z2:List Value}
end
end
def fc(a:Act):List Nat->Nat->(Nat->Value)->Act
 | [],_,_=>a
 |d::ds,k,b=>(fc a ds (k+1) b).put (some d) (b k)
def xL(a:Nat->Value)(k:Nat)(v:Value):Nat->Value:=fun j=>if j=k then v else a j
def aae{a:Act}{b VR:Nat->Value}:∀{ds:List Nat} {k:Nat},(∀j,k<=j->b j=VR j)->fc a ds k b=fc a ds k VR
 | [],_,_=>rfl
 |d::ds,k,h=>by unfold fc;rw[aae (ds:=ds) (k:=k+1) fun j c=>h j Om,h k (aL _)]
def aaR{a:Act}{f:Nat->Value}{v:Value}:∀{ds:List Nat} {b i d:Nat},ds.Nodup->ds[i]? =some d->(fc a ds b f).put (some d) v=fc a ds b (xL f (b+i) v)
 | [],_,_,_,_,h=>by simp at h
 |c::ds,b,0,d,l,h=>by simp only[dA,dl] at h;subst h;unfold fc;rw[apD,aae (VR:=xL f (b+0) v) fun j q=>by unfold xL;rw[if_neg Om]];congr 1;unfold xL;rw[if_pos Om]
 |c::ds,b,i+1,d,l,h=>by
  obtain⟨o,n⟩:=ic.1 l;have m:ds[i]? =some d:=axF;have g:c≠d:=fun e=>o (e▸pM m);unfold fc;rw[Act.put_comm _ _ _ (fun e k=>by injection k with k;simp [<-k,gU g]),aaR n m];have p:xL f (b+(i+1)) v b=f b:=by unfold xL;rw[if_neg Om]
  rw[p,show b+1+i=b+(i+1) by omega]
def aav{a:Act}{e:Nat->Value}:∀{ds:List Nat} {b:Nat},(∀i d,ds[i]? =some d->a.tmps[d]? =some (e (b+i)))->fc a ds b e=a
 | [],_,_=>rfl
 |d::ds,b,h=>by unfold fc;rw[aav fun i c f=>by have:=h (i+1) c ayh;rwa[show b+1+i=b+(i+1) by omega]];exact anM (by simpa using h 0 d rfl)
structure tU where
 i:Nat
 d:Nat
 R:Value->World->Prop
section
variable{P:Program}{ops:Array Oper}{Q:Exit->Act->World->Prop}{md:Region.Mode}{S:World->Prop}{T:Nat->Bool}
def Jx(md:Region.Mode)(ops:Array Oper)(is:List Nat)(deps:List (List Nat))(Lf:Array Bool):Nat->List Nat->Array Bool->Bool
 |0,a,L=>a.isEmpty&&L==Lf
 |f+1,a,L=> !(Region.ready md ops L).isEmpty&&(Region.ready md ops L).all fun i=>a.any fun k=>is.getD k 0==i&&(deps.getD k []).all (fun j=> !a.contains j&&decide (j<is.length))&&Jx md ops is deps Lf f (a.erase k) (L.setIfInBounds (is.getD k 0) true)
variable{items:List tU}{I:World->Prop}{D:Value->Value->Prop}{a0:Act}{ds is:List Nat}{deps:List (List Nat)}{Lf:Array Bool}{fT:Nat}
theorem bW.aeZ(y:items.map (·.i)=is)(H:items.map (·.d)=ds)(hn:ds.Nodup)(J:∀w,I w->S w)
 (hstep:∀(k:Nat) (b:tU),items[k]? =some b->∀(g:Nat->Value) (w:au),I w->(∀j∈deps.getD k [],∀(c:tU),items[j]? =some c->c.R (g j) w)->(∀j∈deps.getD k [],∀p∈deps.getD k [],j≠p->D (g j) (g p))->∀o,ops[b.i]? =some o->∀K:Act->World->Prop,ah (∀v E,I E->b.R v E->(∀(j:Nat) (c:tU),items[j]? =some c->j≠k->∀u,c.R u w->c.R u E/\D u v/\D v u)->K ((fc a0 ds 0 g).put (some b.d) v) E)->if Region.wanted o (yielded ops (fc a0 ds 0 g).tmps)=true then o.wp P (fc a0 ds 0 g) w K Q else K ((fc a0 ds 0 g).put o.dst undef) w)
 (A:∀(g:Nat->Value) (w:au),I w->(∀(k:Nat) (b:tU),items[k]? =some b->b.R (g k) w)->(∀(j k:Nat),j<items->k<items->j≠k->D (g j) (g k))->bW P md ops Q S T fT Lf (fc a0 ds 0 g) w):
 ∀(f:Nat) (a:List Nat) (L:Array Bool) (g:Nat->Value) (w:au),Jx md ops is deps Lf f a L=true->a.Nodup->(∀k∈a,k<items)->I w->(∀(k:Nat) (b:tU),items[k]? =some b->k∉a->b.R (g k) w)->
  (∀(j k:Nat),j<items->k<items->j∉a->k∉a->j≠k->D (g j) (g k))->bW P md ops Q S T (f+fT) L (fc a0 ds 0 g) w
 |0,a,L,g,w,z,_,_,W,F,N=>by
  unfold Jx at z;rw[cV,beq_iff_eq] at z;obtain⟨G,rfl⟩:=z;have G:a= []:=by simpa using G
  subst G;rw[jL];exact A g w W (fun k b C=>F k b C Ou) (fun j k n U=>N j k n U Ou Ou)
 |f+1,a,L,g,w,z,hr,hl,W,F,N=>by
  unfold Jx at z;rw[cV] at z;obtain⟨G,h2⟩:=z;rw[show f+1+fT=(f+fT)+1 by omega];refine⟨fun h0=>by rw[h0] at G;simp at G,fun i hi=> ?_⟩;rw[rH] at h2;obtain⟨k,U,q⟩:=mU.1 (h2 i hi);rw[cV,cV] at q;obtain⟨⟨q,r⟩,h4⟩:=q;have r:∀j∈deps.getD k [],j∉a/\j<items.length:=fun j n=>by have h:=rH.1 r j n;rw[cV,rG,<-rI,oF,decide_eq_true_eq,<-y,bP] at h;exact h
  have O:=hl k U;have C:items[k]? =some items[k]:=aX O;have q:i=items[k].i:=(by rw[beq_iff_eq] at q;rw[<-q,<-y,eG,dK,C];rfl)
  subst q;have V:ds[k]? =some items[k].d:=by rw[<-H,dK,C];rfl
  rw[show is.getD k 0=items[k].i by rw[<-y,eG,dK,C];rfl] at h4;refine bW.of (items[k].i) hi fun o ho K hK=> ?_;refine hstep k _ C g w W (fun j n c z=>F j c z (r j n).1) (fun j n p t l=>N j p (r j n).2 (r p t).2 (r j n).1 (r p t).1 l) o ho K fun v E M hv B=> ?_;rw[aaR hn V,jL];refine hK.ae _ _ (fun _=>J _ M) ?_;have m:∀j,j∉a.erase k->j≠k->j∉a:=fun j n l hm=>n ((List.mem_erase_of_ne l).2 hm);refine bW.aeZ y H hn J hstep A f (a.erase k) _ (xL g k v) E h4 (hr.erase k) (fun j n=>hl j (List.mem_of_mem_erase n)) M (fun j b s n=> ?_) (fun j p n t Z Y l=> ?_)
  ·unfold xL;by_cases e:j=k
   ·subst e;rw[if_pos rfl];rw[C] at s;injection s with s;rw[<-s];exact hv
   ·rw[if_neg e];exact(B j b s e _ (F j b s (m j n e))).1
  ·unfold xL;by_cases e:j=k
   ·subst e;rw[if_pos rfl,if_neg (gU l)];have x:items[p]? =some items[p]:=aX t;exact(B p _ x (gU l) _ (F p _ x (m p Y (gU l)))).2.2
   ·by_cases X:p=k
    ·subst X;rw[if_neg e,if_pos rfl];have x:items[j]? =some items[j]:=aX n;exact(B j _ x e _ (F j _ x (m j Z e))).2.1
    ·rw[if_neg e,if_neg X];exact N j p n t (m j Z e) (m p Y X) l
theorem bW.PU(items:List tU)(I:World->Prop)(D:Value->Value->Prop)(is ds:List Nat)(deps:List (List Nat))(Lf:Array Bool)(f fT:Nat){g:Act}(y:a=f+fT)
 (p:items.map (·.i)=is) (z:items.map (·.d)=ds) (G:ds.Nodup) (s:ds.all (fun d=>decide (d<g.tmps.size))=true) (A:Jx md ops is deps Lf f (List.range is.length) N=true) (B:∀m,I m->S m) (M:I m)
 (hstep:∀(k:Nat) (b:tU),items[k]? =some b->∀(l:Nat->Value) (m:au),I m->(∀j∈deps.getD k [],∀(c:tU),items[j]? =some c->c.R (l j) m)->(∀j∈deps.getD k [],∀E∈deps.getD k [],j≠E->D (l j) (l E))->∀o,ops[b.i]? =some o->∀K:Act->World->Prop,ah (∀v r,I r->b.R v r->(∀(j:Nat) (c:tU),items[j]? =some c->j≠k->∀u,c.R u m->c.R u r/\D u v/\D v u)->K ((fc g ds 0 l).put (some b.d) v) r)->if Region.wanted o (yielded ops (fc g ds 0 l).tmps)=true then o.wp P (fc g ds 0 l) m K Q else K ((fc g ds 0 l).put o.dst undef) m)
 (q:∀(l:Nat->Value) (m:au),I m->(∀(k:Nat) (b:tU),items[k]? =some b->b.R (l k) m)->(∀(j k:Nat),j<items.length->k<items.length->j≠k->D (l j) (l k))->bW P md ops Q S T fT Lf (fc g ds 0 l) m):
 bW P md ops Q S T a N g m:=by
 have n:is.length=items.length:=by rw[<-p];simp
 have e:fc g ds 0 (fun k=>g.tmps.getD (ds.getD k 0) undef)=g:=aav fun i d F=>by
  rw[jL,eG,F];have C:=rH.1 s d (pM F);have C:d<g.tmps.size:=by simpa using C
  simp [Array.getD,C]
 rw[y];have h:=bW.aeZ p z G B hstep q f (List.range is.length) N (fun k=>g.tmps.getD (ds.getD k 0) undef) m A tK (fun k t=>by rw[<-n];exact dL.1 t) M
  (fun k b J t=>absurd (dL.2 (by rw[n];exact(uU.1 J).1)) t) (fun j k H _ x _ _=>absurd (dL.2 (by rw[n];exact H)) x)
 rwa[e] at h
end
abbrev cK:TypeId:=22
structure cU(w:au)(base:Nat)(vs:List Value)(ls:List (List Nat)):Prop where
 len:vs.length=ls.length
 own:∀(i:Nat) (v:Value) (l:List Nat),vs[i]? =some v->ls[i]? =some l->bG aS 1 dw base w v (ints l)
 ap:∀(i j:Nat) (v u:Value),vs[i]? =some v->vs[j]? =some u->i≠j->∀b,v.ownBlock=some b->u.ownBlock≠some b
def jt(l:List Nat):(ints l).length=l.length:=by unfold ints;simp
def Na(l:List Nat)(a:Nat):ints (l++ [a])=ints l++ [(a:Int)]:=by unfold ints;rw[kE];rfl
section
variable{w w':au}{base:Nat}{vs:List Value}{ls:List (List Nat)}
theorem bG.blk{α:Type}{R:World->List Value->α->Prop}{l:List α}(h:bG x a R base w p l)(d:p.ownBlock=some b):base<=b/\b<w.heap.size/\∃c,w.heap[b]? =some (.cells c x (0,0)):=by
 obtain⟨j,f,_⟩:=h;have e:=f.lt b d;refine⟨e.1,e.2,?_⟩;rcases f.2 with⟨rfl,_⟩|⟨m,i,c,rfl,_,g,_⟩
 ·cases d
 ·simp only[Value.ownBlock,dl] at d;subst d;exact⟨c,g⟩
theorem bG.lower{α:Type}{R:World->List Value->α->Prop}{l:List α}(h:bG x a R c w p l)(n:b<=c):bG x a R b w p l:=by
 obtain⟨j,⟨r,d⟩,q⟩:=h;refine⟨j,⟨r,?_⟩,q⟩;rcases d with d|⟨g,i,f,e,m,o⟩
 ·exact .inl d
 ·exact .inr ⟨g,i,f,e,aV n m,o⟩
theorem cU.at_(h:cU w base vs ls)(c:a<ls):∃v,vs[a]? =some v/\bG aS 1 dw base w v (ints ls[a]):=by have b:vs[a]? =some (vs[a]'(by rw[h.len];exact c)):=aX _;exact⟨_,b,h.own a _ _ b (aX c)⟩
theorem cU.grown(h:cU w base vs ls)(f:w.grownBy w' O)(c:∀k,O=some k->∀v∈vs,v.ownBlock≠some k):cU w' base vs ls:=
 ⟨h.len,fun i v l a d=>(h.own i v l a d).grown cJ f (fun k e=>c k e v (pM a)) Oe,h.ap⟩
theorem cU.ext(h:cU w base vs ls)(a:Ext w w'):cU w' base vs ls:=h.grown (Nc a) fun k b=>by cases b
theorem cU.only(h:cU w base vs ls){l:List Value}(m:Only g w w')(e:aq w g x l)(j:x≠aS):cU w' base vs ls:=h.grown m fun k b v f n=>by
 injection b with b;subst b;obtain⟨i,d⟩:=List.getElem?_of_mem f;have c:i<ls.length:=by rw[<-h.len];exact(uU.1 d).1
 obtain⟨_,_,o,a⟩:=(h.own i v _ d (aX c)).blk n;unfold aq at e;rw[e] at a;injection a with a;injection a with _ a;exact j a
theorem cU.low(h:cU w base vs ls)(f:Only a w w')(l:a<base):cU w' base vs ls:=h.grown f fun k b v e j=>by
 injection b with b;subst b;obtain⟨i,d⟩:=List.getElem?_of_mem e;have c:i<ls.length:=by rw[<-h.len];exact(uU.1 d).1
 have:=((h.own i v _ d (aX c)).blk j).1;omega
theorem cU.app(h:cU w base vs ls){i x:Nat}(B:vs[i]? =some p)(r:i<ls.length)(n:w.ownsRow base aS 1 p (ints ls[i]).length t)(F:Ch (dw w) t (ints ls[i]))
 (D:w'.ownsRow base aS 1 q ((ints ls[i]).length+1) (t++ [av (x:Int)])) (C:w.grownBy w' p.ownBlock) (hb:q.ownBlock=p.ownBlock\/∃k,q.ownBlock=some k/\w.heap.size<=k):cU w' base (vs.set i q) (ls.set i (ls[i]++ [x])):=by
 have y:∀(j:Nat) (u:Value),vs[j]? =some u->∀b,u.ownBlock=some b->b<w.heap.size:=fun j u hu b hb=>by exact afX
 have o:∀(j:Nat) (u:Value),vs[j]? =some u->i≠j->∀b,q.ownBlock=some b->u.ownBlock≠some b:=fun j u hu c b d m=>by
  rcases hb with hb|⟨k,z,E⟩
  ·exact h.ap i j p u B hu c b (by rw[<-hb];exact d) m
  ·rw[z] at d;injection d with d;have:=y j u hu b m;omega
 refine⟨by rw[tM,tM,h.len],fun j u l hu g=> ?_,fun j s u A hu a e=> ?_⟩
 ·rw[pN] at hu g;by_cases c:i=j
  ·subst c;rw[if_pos rfl,if_pos ayJ] at hu;rw[if_pos rfl,if_pos r] at g;injection hu with hu;injection g with g;subst hu g;rw[Na];exact iF (R:=dw) (x:=(x:Int)) cJ Oe n F rfl D C
  ·rw[if_neg c] at hu g;exact(h.own j u l hu g).grown cJ C (fun k z m=>h.ap i j p u B hu c k z m) Oe
 ·rw[pN] at hu a;by_cases c:i=j
  ·subst c;rw[if_pos rfl,if_pos ayJ] at hu;rw[if_neg e] at a;injection hu with hu;subst hu;exact o s A a e
  ·rw[if_neg c] at hu;by_cases f:i=s
   ·subst f;rw[if_pos rfl,if_pos ayJ] at a;injection a with a;subst a;exact fun b hb m=>o j u hu (gU e) b m hb
   ·rw[if_neg f] at a;exact h.ap j s u A hu a e
theorem cU.put(h:cU w base vs ls){i:Nat}(x:Ext w w')(m:i<ls.length)(t:bG aS 1 dw w.heap.size w' p (ints k))(hb:base<=w.heap.size):cU w' base (vs.set i p) (ls.set i k):=by
 have q:∀(j:Nat) (u:Value),vs[j]? =some u->∀b,u.ownBlock=some b->b<w.heap.size:=fun j u hu b hb=>by exact afX
 have f:∀(j:Nat) (u:Value),vs[j]? =some u->∀b,p.ownBlock=some b->u.ownBlock≠some b:=fun j u hu b o r=>by have y:=(t.blk o).1;have v:=q j u hu b r;omega
 have v:=h.ext x;refine⟨by rw[tM,tM,h.len],fun j u l hu e=> ?_,fun j n u s hu a g=> ?_⟩
 ·rw[pN] at hu e;by_cases c:i=j
  ·subst c;rw[if_pos rfl,if_pos ayK] at hu;rw[if_pos rfl,if_pos m] at e;injection hu with hu;injection e with e;subst hu e;exact t.lower hb
  ·rw[if_neg c] at hu e;exact v.own j u l hu e
 ·rw[pN] at hu a;by_cases c:i=j
  ·subst c;rw[if_pos rfl,if_pos ayK] at hu;rw[if_neg g] at a;injection hu with hu;subst hu;exact f n s a
  ·rw[if_neg c] at hu;by_cases d:i=n
   ·subst d;rw[if_pos rfl,if_pos ayK] at a;injection a with a;subst a;exact fun b hb r=>f j u hu b r hb
   ·rw[if_neg d] at a;exact h.ap j n u s hu a g
theorem cU.UU(w:au)(base n:Nat):cU w base (List.replicate n (.slice none 0 0)) (List.replicate n []):=
 ⟨by simp,fun i v l a c=>by
  have a:=(Bw.1 (pM a)).2;have c:=(Bw.1 (pM c)).2;subst a c;exact ii,fun i j v u a _ _ b d=>by
  have a:=(Bw.1 (pM a)).2;subst a;cases d⟩
end
def cU.PV{w:au}{base:Nat}{vs:List Value}{ls:List (List Nat)}(h:cU w base vs ls)(g:ls[a]? =some i):∃A c b,vs[a]? =some (.slice A i c)/\ah (w.ownsRow base aS 1 (.slice A i c) i b)/\ah (Ch (dw w) b (ints i)):=by obtain⟨j,rfl⟩:=uU.1 g;obtain⟨v,d,f⟩:=h.at_ j;obtain⟨A,c,b,rfl,_,_,e,k⟩:=f.parts;rw[jt] at d e;exact⟨A,c,b,d,e,k⟩
def cU.ahI{w w':au}{base:Nat}{vs:List Value}{ls:List (List Nat)}(h:cU w base vs ls)(d:vs[a]? =some p)(f:ls[a]? =some i)(c:w.ownsRow base aS 1 p i t)(m:Ch (dw w) t (ints i))
 (e:w'.ownsRow base aS 1 q (i.length+1) (t++ [av (b:Int)])) (j:w.grownBy w' p.ownBlock) (n:q.ownBlock=p.ownBlock\/∃k,q.ownBlock=some k/\w.heap.size<=k):cU w' base (vs.set a q) (ls.set a (i++ [b])):=by
 obtain⟨g,rfl⟩:=uU.1 f;exact h.app d g (by rw[jt];exact c) m (by rw[jt];exact e) j n
abbrev rj:=Ls cK (nZ aS dw)
def rj.iH:jR [aS,aS] (nZ aS dw):=fun w w' c x b h=>nZ.iH (T:= []) cJ w w' c x (fun t a=>b t axB) h
def cU.ch{w:au}{base:Nat}:∀{vs:List Value} {ls:List (List Nat)},cU w base vs ls->Ch (nZ aS dw w) vs (ls.map ints)
 | [],[],_=>rfl
 | [],_::_,h=>by have:=h.len;simp at this
 |_::_,[],h=>by have:=h.len;simp at this
 |v::vs,l::ls,h=>by have b:=h.own 0 v l rfl rfl;obtain⟨A,c,g,rfl,_,_,_,_⟩:=b.parts;refine⟨[.slice A (ints l) c],vs,rfl,⟨A,c,rfl,b.ls⟩,?_⟩;exact cU.ch ⟨by have:=h.len;simpa using this,fun i v l a e=>h.own (i+1) v l axB axO,fun i j v u a d f=>h.ap (i+1) (j+1) v u axB axP Om⟩
def cU.V_{w:au}{base:Nat}{vs:List Value}{ls:List (List Nat)}(h:cU w base vs ls)(d:aq w a cK vs)(c:ls.length=b)(e:b<=1000):rj w (aG a 0 b b) (ls.map ints):=by have:=mY (R:=nZ aS dw) d h.ch Oc;simpa [c] using this
def JB(m:Nat):List Nat:=(List.range 12).filter m.testBit
def adm(d:a<2^b)(g:b<=12):JB a=(List.range b).filter a.testBit:=by
 unfold JB;have e:List.range 12=List.range b++(List.range (12 - b)).map (b+·):=by rw[<-List.range_add];congr 1;omega
 have f:((List.range (12 - b)).map (b+·)).filter a.testBit= []:=Zq.2 fun x c=>by obtain⟨y,_,rfl⟩:=b_.1 c;rw[Zp (cy d (fK Om Om))];decide
 rw[e,rB,f,j5]
def amd(m:Nat)(w:au)(E:m<4096):
 Calls prog 329 #[.int .u64 m] w fun e w'=>∃v,e= .returned v/\bG aS 1 dw w.heap.size w' v (ints (JB m))/\Ext w w':=by
 have A:=af E;go_enter func329,ntmps329;go_upto_region 3 with fail
 go_loopw [3,4] (fun B k wr=>∃a:Nat,a<=12/\k=av a/\ah (bG aS 1 dw w.heap.size wr B (ints ((List.range a).filter m.testBit)))/\ah (Ext w wr)) (fun _ k _=>12 - (RowKit.intOf k).toNat)
 exact⟨0,aU _,rfl,ii,aB _⟩;obtain⟨a,G,rfl,g,f⟩:=hrel;by_cases q:m/2^a=0
 ·have o:m<2^a:=by
   rcases cA m (2^a) with h|h
   ·exact h
   ·have:=Nat.div_pos h (y4 a);omega
  have J:ah ((List.range a).filter m.testBit=JB m):=(adm o G).symm;rw[J.ae] at g;have d1:((m:Int)/2^a !=0)=false:=by rw[Ut,q];rfl
  go_wp2;go_ret;exact⟨_,rfl,g,f⟩
 ·have y:a<12:=by
   rcases cA a 12 with h|h
   ·exact h
   ·exact absurd (Mr (cy A (fK (n:=2) (i:=12) Om h))) q
  have d1:((m:Int)/2^a !=0)=true:=by rw[Ut,bne_iff_ne];exact Int.natCast_ne_zero.2 q
  have I:=af (Cv m a wr A Om);have j:ah ((List.range (a+1)).filter m.testBit=(List.range a).filter m.testBit++if m.testBit a=true then [a] else []):=(by rw[ah,EW,rB];congr 1;by_cases d:m.testBit a=true<;>simp [d])
  have F:((List.range a).filter m.testBit)<=a:=by have:=mP m.testBit (List.range a);simpa using this
  go_wp2_with fail
  refine I.mono ?_;rintro P N ⟨rfl,rfl⟩;cases d:m.testBit a with
  |false=>
   rw[d] at j;have r:ah ((List.range (a+1)).filter m.testBit=(List.range a).filter m.testBit):=by rw[ah,j.ae];simp
   go_wp2;go_roundw;exact⟨a+1,by omega,by go_num,by rw[r.ae];exact g,f⟩;simp [RowKit.intOf];omega
  |true=>
   rw[d,if_pos rfl] at j;generalize(List.range a).filter m.testBit=H at*;obtain⟨S,Q,L,rfl,_,t,b,s⟩:=g.parts;have C:=f.size;have p:((ints H).length+1)*8<=140737488355328:=by rw[jt];omega
   go_wp2_with (at_builtin;refine gf rfl _ _ cK rfl w.heap.size jo _ _ _ rfl b.ae #[av (a:Int)] 1 1 rfl rfl rfl p C ?_)
   intro O M l c _;have z:=af (iF (R:=dw) (x:=(a:Int)) cJ Oe b s rfl l c);rw[<-Na,<-j.ae] at z;have K:=af (kI f b c (aL _));go_wp2;go_roundw;exact⟨a+1,by omega,by go_num,z,K⟩;simp [RowKit.intOf];omega
def tv(n:Nat)(p:Nat->Option Nat)(v:Nat):List Nat:=(eV n p (fun _=> []) v).vars
def Io{a:Nat->List Nat}{f:Nat->Fo}:∀l:List Nat,(ei a f l).vars=l.flatMap fun c=>c::(f c).vars
 | []=>rfl
 |c::l=>by
  show c::((f c).vars++(ei a f l).vars)=_
  rw[Io l,uV];rfl
def ae8(r:dr a y J)(v:Nat):tv a y v=v::(kids a y (some v)).flatMap (tv a y):=by have h:jv a y (fun _=> []) v=ei (fun _=> []) (jv a y (fun _=> [])) (kids a y (some v)):=tN r Om;unfold tv eV;simp only[Fo.vars,j5];rw[h,Io]
def ZG{n:Nat}{p:Nat->Option Nat}{b h2:Nat->List Nat}:∀(k:Nat) (u:Option Nat),(et n p b k u).vars=(et n p h2 k u).vars
 |0,_=>rfl
 |k+1,u=>by
  show(ei b (fun a=>et n p b k (some a)) (kids n p u)).vars=(ei h2 (fun a=>et n p h2 k (some a)) (kids n p u)).vars
  rw[Io,Io];congr 1;funext c;rw[ZG k (some c) (h2:=h2)]
def apm(v:Nat):(eV a y A v).vars=tv a y v:=by unfold tv eV jv;simp only[Fo.vars];rw[ZG a (some v) (h2:=fun _=> [])]
def pV(n:Nat)(p:Nat->Option Nat)(g:List Nat)(v:Nat):VS:=fun y=>(tv n p v).any fun b=>(g.getD b 0).testBit y
def aob{g:List Nat}(r:dr a y J)(v b:Nat):pV a y g v b=((g.getD v 0).testBit b||(kids a y (some v)).any fun c=>pV a y g c b):=by unfold pV;rw[ae8 r v,Ri,List.any_flatMap]
noncomputable def bH(p:Nat->Option Nat)(v:Nat):VS:=fun a=> @decide (dF p (some a) v) (Classical.propDecidable _)
def rS:bH y a b=true↔dF y (some b) a:=by unfold bH;exact @decide_eq_true_iff _ (Classical.propDecidable _)
noncomputable def oT(n:Nat)(p:Nat->Option Nat)(g:List Nat)(v:Nat):List Nat:=(List.range n).filter fun a=>pV n p g v a&&bH p v a
def zv{p:Nat->Option Nat}(h:p b=some a):bH p b=fun d=>bH p a d||VS.one a d:=by
 funext d
 rw[lW,rS,kF,rS];unfold VS.one;rw[beq_iff_eq];constructor
 ·intro k;rcases k.inv with e|⟨f,e,k⟩
  ·rw[h] at e;injection e with e;exact .inr e.symm
  ·rw[h] at e;injection e with e;subst e;exact .inl k
 ·rintro(k|k)
  ·exact .up h k
  ·subst k;have:=dF.step (p:=p) b;rwa[h] at this
def acE(h:y a=none):bH y a=fun _=>false:=by
 funext d
 rw[<-rI,rS];intro k;rcases k.inv with e|⟨b,e,k⟩
 ·rw[h] at e;cases e
 ·rw[h] at e;cases e
def Z9{c:VS}{v:Nat}(g:c v=false):∀{l:List Nat},l.Nodup->v∈l->l.countP (fun a=>c a||VS.one v a)=l.countP c+1
 |x::l,i,h=>by
  obtain⟨m,k⟩:=ic.1 i;have d:∀l:List Nat,v∉l->l.countP (fun a=>c a||VS.one v a)=l.countP c:=fun l f=>List.countP_congr fun a j=>by
   have:VS.one v a=false:=by unfold VS.one;rw[beq_eq_false_iff_ne];exact fun e=>f (e▸j)
   rw[this,w_]
  by_cases e:x=v
  ·subst e;have b:VS.one x x=true:=by simp [VS.one]
   rw[QP (by rw[b];simp),QQ (by rw[g];decide),d l m]
  ·have f:v∈l:=axM;have b:VS.one v x=false:=by unfold VS.one;rw[beq_eq_false_iff_ne];exact e
   rw[List.countP_cons,List.countP_cons,(Z9 g k f),b,w_];omega
def aaP{n m:Nat}{p:Nat->Option Nat}{d:Nat->Nat}(r:dr n p d)(i:n<=m):∀(k v:Nat),v<n->d v=k->VS.count m (bH p v)=k
 |0,v,a,j=>by
  have g:p v=none:=by
   cases h:p v with
   |none=>rfl
   |some b=>have:=(r.up v b a h).2;omega
  rw[acE g];exact List.countP_eq_zero.2 fun _ _=>by decide
 |k+1,v,a,j=>by
  obtain⟨b,e⟩:∃b,p v=some b:=by
   cases h:p v with
   |none=>have:=r.root v a h;omega
   |some b=>exact⟨b,rfl⟩
  obtain⟨f,l⟩:=r.up v b a e;have c:=aaP r i k b f Om;rw[zv e];unfold VS.count at c⊢;rw[Z9 _ tK (dL.2 Om),c];rw[<-rI,rS];intro k;have:=(k.l8 r b rfl f).2;omega
def aaM(r:dr a y J):((kids a y none).flatMap (tv a y)).Nodup/\∀f,f∈(kids a y none).flatMap (tv a y)↔f<a:=by
 have g:∀b,(none:Option Nat)=some b->b<a:=fun b h=>by cases h
 have e:(et a y (fun _=> []) a none).vars=(kids a y none).flatMap (tv a y):=(by rw[tN r ayC,Io];congr 1;funext c;unfold tv eV;simp only[Fo.vars,j5]);rw[<-e];refine⟨Iu r a none g ayC,fun f=> ?_⟩;rw[wX r a none f g ayC];exact⟨fun h=>h.1,fun h=>⟨h,dF.all r (J f) f h (aL _)⟩⟩
def amj{L:List Nat}(d:i.Nodup)(h:∀x∈i,x∈L):i<=L.length:=by
 induction i generalizing L with
 |nil=>exact aU _
 |cons x i c=>
  obtain⟨g,f⟩:=ic.1 d;obtain⟨A,B,rfl⟩:=ZF (h x Ou);have:=c (L:=A++B) f fun y b=>by
   have a:=h y axK;simp only[bO,aK] at a⊢;rcases a with a|a|a
   ·exact .inl a
   ·exact absurd a (fun e=>g (e▸b))
   ·exact .inr a
  simp only[cT,bD] at this⊢;omega
def alI(r:dr a y J):((kids a y none).flatMap (tv a y))<=a:=by obtain⟨e,c⟩:=aaM r;have:=amj (L:=List.range a) e fun x b=>dL.2 ((c x).1 b);rwa[i7] at this
def np(m:Nat)(f:Nat->Nat)(j:Nat):List (List Nat):=(List.range m).map fun u=>(List.range j).filter fun a=>f a==u
def Jd(h:c<a):(np a J b)[c]? =some ((List.range b).filter fun d=>J d==c):=by unfold np;rw[dK,lV h];rfl
def Np(m j:Nat)(f:Nat->Nat):(np m f j)=m:=by unfold np;simp
def acr{m j:Nat}{f:Nat->Nat}(h:f j<m):np m f (j+1)=(np m f j).set (f j) (((List.range j).filter fun a=>f a==f j)++ [j]):=by
 refine rF fun u=> ?_;rw[pN,Np];rcases cA u m with c|c
 ·rw[Jd c,Jd c];have e:(List.range (j+1)).filter (fun a=>f a==u)=(List.range j).filter (fun a=>f a==u)++if f j=u then [j] else []:=by rw[EW,rB];congr 1;by_cases b:f j=u<;>simp [b]
  rw[e];by_cases b:f j=u
  ·rw[if_pos b,if_pos b,if_pos Om,b]
  ·rw[if_neg b,if_neg b,j5]
 ·rw[eT (by rw[Np];omega),if_neg Om,eT (by rw[Np];omega)]
def acq(m:Nat)(f:Nat->Nat):np m f 0=List.replicate m []:=by
 unfold np;refine rF fun i=> ?_;rw[dK,Bu];rcases cA i m with h|h
 ·rw[lV h,if_pos h];rfl
 ·rw[eT axF,if_neg Om];rfl
def aal{d:Nat->Nat}{a:Nat}:∀{l:List Nat} {m:Nat},eZ d (l++ [a]) m=if d a>d (eZ d l m) then a else eZ d l m
 | [],_=>rfl
 |x::l,m=>aal (l:=l) (m:=if d x>d m then x else m)
def abj{d:Nat->Nat}(f:∀c∈i,c<a)(e:b<a):eZ d i b<a:=by
 rcases(MD d i b).1 with h|h
 ·rw[h];exact e
 ·exact f _ h
end Go.Proofs.YtehkcnbodcdijaaGreatDoor
