/- Texts of the proof, part 20. -/
import Derived.Test.YtehkcnbodcdijaaGreatDoorA19
namespace Go.Proofs.YtehkcnbodcdijaaGreatDoor
set_option maxHeartbeats 8000000
set_option linter.all false
set_option maxRecDepth 100000
variable{ar:Prop}
open Go.RowKit Go.Lib Go.Maps Go.ChangeShapes Go.WideShapes Go.ChangeAt Go.Proofs.Tryz
variable{a b c d e f g h:Nat}{i j k l:List Nat}{m n o:World}{p q r s:Value}{t u v:List Value}{w x:TypeId}{y z:Nat→Option Nat}{A:Nat→List Nat}{B C:Int}{E F:Option Addr}{H I:Rat}{J:Nat→Nat}{K:Nat→Bool}{L:List Int}{N:Array Bool}{O:Option Nat}{Q:Act}{R S:Bool}{T:List UInt8}
noncomputable def afE(s r:Nat)(o:FuncId)(g:Nat->aC->Rat)(n:Nat->Option aC)(j:Option Nat)(x:aP)(D:List (List Rw))(p:Nat->Option Nat)(d:Nat->Nat)(c:List Nat)(f e:au)(q:List Value)(b m i h l:Nat):Pw Rat:=
 VY cX bQ (hZ s r) (fun k=>(k:Rat)) (fun a=>a==0) 61 96 97 60 o g n (.map j) x D p d c f e q 306 b m i h l
def apu(r f:Nat)(x:aP)(D:List (List Rw))(ok:bV x)(hD:ip x D)(a6:x.ai.length<=6)(r6:x.ay.length<=6)(U S:Nat)(x_:0<U)(x9:1000000*U<=S)(x8:S<10^100)(F:Option Nat)(R:Nat->Option aC)(g:Nat->aC->Rat)(s:FuncId)(H:Value)
 (Y:Bool) (Z0:aQ) (X V:Nat) (y0:Bool) (Y0:aQ) (y1 Z:Nat) (o0:Bool) (O0:aQ) (o1 o2:Nat) (q0:Bool) (Q0:aQ) (q1 q2:Nat) (w:au) (hB:gO x (aT x D) r f w) (hM:dy x f w) (K:r≠f) (GI:∀W,aZ [f] w W->uQ W (.map F) R)
 (hz:bQ w (.agg #[.bool Y,.slice Z0 X V,.bool y0,.slice Y0 y1 Z]) 0) (ho:bQ w (.agg #[.bool o0,.slice O0 o1 o2,.bool q0,.slice Q0 q1 q2]) 1) (hg:∀v t,cH R v t=false->g v t=0) (gg:∀v t,v<x.ai.length->t∈univ (aT x D)->hZ U S 1 1 (g v t)) (il:∀y w,(callFunc s y).run prog w= .ok (.enter s y) w)
 (lift:∀W,aZ [f] w W->∀v t,v<x.ai.length->Dv x (aT x D) v t->cH R v t=true->Calls prog s #[av v,aM t,H] W fun e E=>∃u,e= .returned u/\bQ E u (g v t)/\Ext W E):
 Calls prog 101 #[aI r 0,.map F,.agg #[.bool Y,.slice Z0 X V,.bool y0,.slice Y0 y1 Z,.bool o0,.slice O0 o1 o2,.bool q0,.slice Q0 q1 q2,.func (.func 61) #[] #[],.func (.func 96) #[] #[],.func (.func 97) #[] #[]],.func (.func s) #[] #[H],.func (.func 60) #[] #[]] w fun e E=>
  ∃u p d,e= .returned u/\dr x.ai p d/\Whole x.ai (bu x) (bM x) (et x.ai p (fZ x d) x.ai none)/\bQ E u (cX.prod (kids x.ai p none) fun c=>vT cX x (aT x D) p (fZ x d) g (fun k=>(k:Rat)) (univ (aT x D)) c fun _=> [])/\dy x f E/\aZ [f] w E:=by
 have HBw:=af hB;have CS:=af (fun W (O:Ext w W)=>akP r f x (aT x D) ok (-1) F Y Z0 X V y0 Y0 y1 Z o0 O0 o1 o2 q0 Q0 q1 q2 61 96 97 s 60 #[H] W (hB.ext O) (hM.ext O) K Om Om);clear hB;go_enter func101,ntmps101;go_upto_region 1 with fail
 refine gJ fun W HX l BT=> ?_;have dC:=BT.lt;have r0:=l.aF 0;have r1:=l.aF 1;have r2:=l.aF 2;have r3:=l.aF 3;have r4:=l.aF 4;have r5:=l.aF 5;have r6:=l.aF 6;have r7:=l.aF 7;have r8:=l.aF 8;have r9:=l.aF 9;have VV:=l.aF 10;have hpl:=hM.lt;generalize vN:w.heap.size=rb at*;go_wp2_with fail
 refine(CS W HX).mono ?_;rintro e2 o ⟨xb,A,z,G,p0,p1,p2,p3,rfl,O,hP,hN,hS,hK,⟨s1,s2,s3,s4⟩,⟨n1,n2,n3⟩,L,B⟩;clear r0 r1 r2 r3 r4 r5 r6 r7 r8 r9 VV;have hsz:=HX.size;have yQ:=af (BT.bX B axn);obtain⟨m,hE,C,n,Q,P⟩:=aeu hM ((gS HX).trans B);obtain⟨q,d,wl,t1,t2,t3,t4,cb,I,hb,A6,c6,t5,t6,t7,t8,t9⟩:=hP;injection t5 with t5;injection t5 with t5;injection t5 with e0 t5;injection t5 with e1 t5;injection t5 with e2 t5;injection t5 with e3 _;subst e0 e1 e2 e3;have J:iI (afE U S s g R F x D (nj x q) d wl m o [aI r 0,aG cb 0 (x.ai.length+1) (x.ai.length+1),aG I 0 x.ai x.ai,aG hb 0 x.ai x.ai,.slice A6 wl c6,.bool Y,.slice Z0 X V,.bool y0,.slice Y0 y1 Z,.bool o0,.slice O0 o1 o2,.bool q0,.slice Q0 q1 q2,.func (.func 61) #[] #[],.func (.func 96) #[] #[],.func (.func 97) #[] #[],.func (.func s) #[] #[H],.func (.func 60) #[] #[],.map F,aG A 0 x.ai x.ai,aG z 0 x.ai x.ai,.map (some G)] xb r A z G) 13 #[H]:=
  aeO (arJ x_ x9 x8 as8) ok hD a6 r6 t3 t4 hg gg ⟨cb,I,hb,A6,c6,rfl,rfl,rfl,rfl,t6,t7,t8,t9⟩ rfl rfl rfl rfl rfl rfl rfl (by rw[C];omega) n3 (Jk hN hK) (Jk hS hK) il (fun W hW v t hv ht M=>lift W (n W hW) v t hv ht M) (GI m (n m (aB m)))
 have a:ce (afE U S s g R F x D (nj x q) d wl m o _ xb r A z G) 19 20 (fun _=> []) (fun _=>false) o:=aez (aeY ok hD (HBw.keep (Q r K) P)) hE rfl (show m.heap.size<=A by rw[C];omega) (show m.heap.size<=z by rw[C];omega) n1 n2 O rfl rfl rfl hN hS hK;have M:Kept qL w m:=hM.kept (n m (aB m)) _;have CT:=af (akO J rfl rfl rfl rfl rfl (hz.keep M) rfl rfl rfl rfl (ho.keep M) _ _ a);have D2:A<o.heap.size/\z<o.heap.size/\G<o.heap.size/\xb<o.heap.size:=⟨a.st.nc.lt,a.st.sc.lt,a.mem.lt,a.st.sx.lt⟩;clear O hN hS hK a J M hE n Q P t1 t2 t6 t7 t8 t9;go_wp2_with fail
 refine CT.mono ?_;rintro e3 w3 ⟨u,axj,rfl,hu,h,b⟩;have b:aZ [A,z,G] o w3:=b;have T:ah (dy x f w3):=L.keep (b.block _ L.lt axn) h.k1 h.k2;have mM:ah (aZ [f] w w3):=(((gS HX).trans (B.mono (S':= [f,A,z,G]) fun i N _=>by simp only[aK,bJ,or_false] at N⊢;omega)).trans (b.mono fun i N _=>by simp only[aK,bJ,or_false] at N⊢;omega)).mono fun i N hl=>by simp only[aK,bJ,or_false] at N⊢;omega
 have j:=af (yQ.bX b axn);have hu:bQ w3 u _:=hu;obtain⟨a0,A0,a1,a2,b0,B0,b1,b2,rfl, -, -⟩:=hu.parts;obtain⟨k0,k1,k2,k3⟩:=j.four;obtain⟨f0,f1,f2,f3⟩:=j.fX;clear h b;go_wp2_with fail
 refine rQ rfl rfl rfl j.ae hu fun v W' h1 h2=> ?_;exact⟨v,_,_,rfl,t3,t4,h1,T.keep (h2.block _ T.lt Oc) (vo h2 j Od) (vo h2 j Od),mM.only h2 (.inr Om)⟩
section
variable{x:aP}{D:List (List Rw)}{p:Nat->Option Nat}{d:Nat->Nat}{fx:Nat->Option aC}
def xH(fx:Nat->Option aC)(lift:Nat->aC->Rat)(v:Nat)(t:aC):Rat:=if cH fx v t=true then lift v t else 0
theorem aky(lift:Nat->aC->Rat)(v:Nat)(t:aC)(h:cH fx v t=false):xH fx lift v t=0:=by unfold xH;rw[h];rfl
theorem akx(lift:Nat->aC->Rat)(v:Nat)(t:aC)(h:cH fx v t=true):xH fx lift v t=lift v t:=by unfold xH;rw[if_pos h]
theorem apt(r:dr x.ai p d)(lift:Nat->aC->Rat):
 (cX.prod (kids x.ai p none) fun c=>vT cX x (aT x D) p (fZ x d) (xH fx lift) (fun k=>(k:Rat)) (univ (aT x D)) c fun _=> [])=mn (bu x) (univ (aT x D)) (et x.ai p (fZ x d) x.ai none) (fun _=> []) lift (bL (aT x D)) fx:=by
 have a:=aai (R:=cX) (U:=univ (aT x D)) (g:=xH fx lift) (W:=mf (bu x) (bL (aT x D))) (homes:=fZ x d) r (fun _=> []);unfold mn;exact a.symm
end
section
variable{α β:Type}{R:SR α}{U U':List β}{at_:Nat->List Nat}{hl:List Nat}{g:Nat->β->α}{W:Nat->(Nat->β)->α}
theorem Fo.avF(j:U.Nodup)(d:∀x∈U,x∈U')(hW:∀h∈hl,∀e,(∃a∈at_ h,e a∉U)->W h e=R.zero):∀(f:Fo) (S:List Nat),f.Ok at_ hl S->f.vars.Nodup->(∀v∈f.vars,∃h∈hl,v∈at_ h)->f.Right U' (fun _ _=>U) g W R
 | .nil,_,_,_,_=>trivial
 | .cons v p b n,S,⟨y,t,s,r⟩,m,c=>by simp only[Fo.vars,ic,bO,not_or] at m;obtain⟨⟨d1,_⟩,d2⟩:=m;have d3:=rE.1 d2;refine⟨fun u=>⟨j,d,fun x _ o=> .inr ?_⟩,Fo.avF j d hW b _ s d3.1 fun a i=>c a ayp,Fo.avF j d hW n _ r d3.2.1 fun a i=>c a ayp⟩;obtain⟨h,l,k⟩:=c v ayf;refine⟨h,t h l k,fun w q=>hW h l w ⟨v,k,?_⟩⟩;rw[q v d1];unfold put;rw[if_pos rfl];exact o
def Rj:=@Fo.avF
theorem Fo.anh [DecidableEq β](d:U.Nodup)(c:U'.Nodup)(m:∀x∈U,x∈U')(hW:∀h∈hl,∀e,(∃a∈at_ h,e a∉U)->W h e=R.zero){f:Fo}(b:Nat->β)(j:f.Ok at_ hl i)(l:f.vars.Nodup)(k:∀v∈f.vars,∃h∈hl,v∈at_ h):f.val R U g W b=f.val R U' g W b:=by have o:=IU (R:=R) d f b (Rj (U':=U) d (fun _ h=>h) hW f i j l k (g:=g));have n:=IU (R:=R) c f b (Rj d m hW f i j l k (g:=g));rw[<-o,<-n]
end
def ang{α β:Type} [DecidableEq β]{R:SR α}{U:List β}{at_:Nat->List Nat}{hl:List Nat}{b:Nat->List (List β×Int)}{c:Int->α}(k:∀h∈hl,∀y∈b h,∀t∈y.1,t∈U):∀h∈hl,∀e:Nat->β,(∃a∈at_ h,e a∉U)->fH R at_ b c h e=R.zero:=by
 rintro h i e ⟨a,j,f⟩;unfold fH;cases d:fE (at_ h) (b h) e with
 |none=>rfl
 |some y=>obtain⟨m,l⟩:=R4 d;exact absurd (k h i y m (e a) (by rw[l];exact List.mem_map_of_mem j)) f
section
variable{α β:Type}{R:SR α}{U:List β}
theorem Fo.av0:∀(f:Fo) (d e:Nat->β),f.vars.Nodup->(e∈f.v_ U d↔Alike f.vars d e/\∀v∈f.vars,e v∈U)
 | .nil,d,e,_=>by refine⟨fun h=>⟨qA .nil d e h,fun v q=>by cases q⟩,fun h=>bE.2 (funext fun a=>h.1 a ayf)⟩
 | .cons v u b n,d,e,r=>by
   obtain⟨d1,d2⟩:=ic.1 r;obtain⟨d3,d4,d5⟩:=rE.1 d2;simp only[bO,not_or] at d1;constructor
   ·intro h;refine⟨qA _ d e h,fun a c=> ?_⟩;obtain⟨x,p,h⟩:=mS.1 h;obtain⟨m,k,j⟩:=mS.1 h;obtain⟨t,s⟩:=(Fo.av0 b _ m d3).1 k;obtain⟨l,o⟩:=(Fo.av0 n m e d4).1 j;simp only[Fo.vars,aK,bO] at c;rcases c with rfl|c|c
    ·rw[l a d1.2,t a d1.1];unfold put;rw[if_pos rfl];exact p
    ·rw[l a fun g=>d5 a c a g rfl];exact s a c
    ·exact o a c
   ·rintro⟨k,j⟩;refine mS.2 ⟨e v,j v ayf,mS.2 ⟨fun a=>if a∈n.vars then d a else e a,(Fo.av0 b _ _ d3).2 ⟨fun a c=> ?_,fun a c=> ?_⟩,(Fo.av0 n _ e d4).2 ⟨fun a c=> ?_,fun a c=>j a (by simp [Fo.vars,c])⟩⟩⟩
    ·unfold put;by_cases i:a=v
     ·subst i;simp only[if_neg d1.2,if_true]
     ·simp only[if_neg i];by_cases g:a∈n.vars
      ·simp only[if_pos g]
      ·simp only[if_neg g];exact k a (by simp only[Fo.vars,aK,bO,not_or];exact⟨i,c,g⟩)
    ·simp only[if_neg fun g=>d5 a c a g rfl];exact j a (by simp [Fo.vars,c])
    ·simp only[if_neg c]
def Fp:=@Fo.av0
theorem Fo.avP(o:U.Nodup):∀(f:Fo) (c:Nat->β),f.vars.Nodup->(f.v_ U c).Nodup
 | .nil,c,_=>ic.2 ⟨by simp,Ix⟩
 | .cons v D b n,c,A=>by
   obtain⟨d1,d2⟩:=ic.1 A;obtain⟨d3,d4,d5⟩:=rE.1 d2;simp only[bO,not_or] at d1;refine Zr.2 ⟨fun x _=>Zr.2 ⟨fun e _=>Fo.avP o n e d4,?_⟩,?_⟩
   ·refine QO (fun {h g} q p d=>fun y u z t j=>d (funext fun a=> ?_)) (Fo.avP o b (put c v x) d3);subst j;by_cases k:a∈n.vars
    ·have i:a∉b.vars:=fun i=>d5 a i a k rfl;rw[qA b _ h q a i,qA b _ g p a i]
    ·rw[<-qA n h y u a k,<-qA n g y t a k]
   ·refine List.Pairwise.imp (fun {x y} d=>fun e w E m l=>d ?_) o;subst l;obtain⟨h,q,p⟩:=mS.1 w;obtain⟨g,C,B⟩:=mS.1 m;have s:=qA n h e p v d1.2;have r:=qA n g e B v d1.2;rw[qA b _ h q v d1.1] at s;rw[qA b _ g C v d1.1,s] at r;simpa [put] using r
def MG:=@Fo.avP
theorem SR.Sv{γ:Type}{l m:List γ}{f:γ->α}(h:l.Perm m):R.prod l f=R.prod m f:=by
 induction h with
 |nil=>rfl
 |cons x _ c=>rw[kY,kY,c]
 |swap x y l=>rw[kY,kY,kY,kY,<-R.ma,<-R.ma,R.mc (f y)]
 |trans _ _ b a=>rw[b,a]
theorem xh{γ:Type}{l m:List γ}(c:l.Nodup)(b:m.Nodup)(h:∀a,a∈l↔a∈m):l.Perm m:=by
 classical
 exact(List.perm_ext_iff_of_nodup c b).2 h
theorem Fo.alg{f j:Fo}(w:Whole a A i f)(d:Whole a A i j)(p:U.Nodup){g:Nat->β->α}{W:Nat->(Nat->β)->α}(hW:∀h e q,(∀b∈A h,q b=e b)->W h q=W h e)(c:Nat->β):f.val R U g W c=j.val R U g W c:=by
 have k:∀v,v∈f.vars↔v∈j.vars:=fun v=>(w.vm v).trans (d.vm v).symm;have r:∀v,v∈f.homes↔v∈j.homes:=fun v=>(w.hm v).trans (d.hm v).symm;rw[M5 hW f c w.wf w.vd,M5 hW j c d.wf d.vd,SR.Tc (xh (MG p f c w.vd) (MG p j c d.vd) fun e=> ?_)]
 ·refine u_ fun e _=> ?_;unfold Fo.term;rw[SR.Sv (xh w.vd d.vd k),SR.Sv (xh w.hd d.hd r)]
 ·rw[Fp f c e w.vd,Fp j c e d.vd];constructor
  ·exact fun⟨o,m⟩=>⟨fun b l=>o b fun h=>l ((k b).1 h),fun v h=>m v ((k v).2 h)⟩
  ·exact fun⟨o,m⟩=>⟨fun b l=>o b fun h=>l ((k b).2 h),fun v h=>m v ((k v).1 h)⟩
end
section
variable{n:Nat}{at_:Nat->List Nat}{hl:List Nat}{U U':List aH}{f f':Fo}{env:Nat->aH}{lift:Nat->aH->Rat}{tab:fG}{fx:Nat->Option aH}
theorem alv(w:Whole n at_ hl f)(a:Whole n at_ hl f')(c:U.Nodup)(b:U'.Nodup)(g:∀x∈U,x∈U')(i:∀h∈hl,∀y∈tab h,∀t∈y.1,t∈U)(d:∀v,v<n->∃h∈hl,v∈at_ h):mn at_ U f env lift tab fx=mn at_ U' f' env lift tab fx:=by unfold mn;refine(Fo.alg w a c (W:=mf at_ tab) (fun h e k j=>IV h e k j) env).trans ?_;exact Fo.anh c b g (ang i) env a.ok a.vd fun v h=>d v ((a.vm v).1 h)
end
section
variable{x:aP}{D:List (List Rw)}{f:Fo}{env:Nat->aH}{lift:Nat->aH->Rat}{attrs:List Nat}
theorem ada{c:Nat->Option aC}(d:a<x.ai)(t:aC):t∈eX x D c a↔jQ x D (ew c a t):=by unfold eX;rw[eE];refine⟨fun h=> @of_decide_eq_true _ (Classical.propDecidable _) h.2,fun h=>⟨?_,@decide_eq_true _ (Classical.propDecidable _) h⟩⟩;obtain⟨e,i,_⟩:=h;obtain⟨g,b⟩:=i a d;rw[Jt,beq_iff_eq] at b;rw[b];exact g
theorem ap'(b:attrs.Nodup)(c:∀a∈attrs,a<x.ai)(hT:jQ x D fun _=>none):
 zA x.ai (bu x) (bM x) (univ (aT x D)) f env lift attrs (bL (aT x D)) ((ik (eX x D) attrs fun _=>none).map fun k=>(k,mn (bu x) (univ (aT x D)) f env lift (bL (aT x D)) (dO (fun _=>none) attrs k))):=
 akN b (fun _ a t d _=>ada (c a d) t) (fun _ a _=>Tr x D _ a) hT
theorem ajF(a:attrs.Nodup)(hT:¬jQ x D fun _=>none):zA x.ai (bu x) (bM x) (univ (aT x D)) f env lift attrs (bL (aT x D)) []:=ajG a hT
end
def lN(p:Nat->Option Nat):Nat->Nat->List Nat
 |0,_=> []
 |k+1,v=>match p v with
  |none=> []
  |some a=>a::lN p k a
def sI(p:Nat->Option Nat)(v:Nat):Int:=match p v with
 |none=> -1
 |some a=>(a:Int)
def VT(p:Nat->Option Nat)(d:Nat->Nat):Option Nat->List Nat
 |none=> []
 |some a=>a::lN p (d a) a
def OU(d:Nat->Nat):Option Nat->Nat
 |none=>0
 |some a=>d a+1
def xT:Option Nat->Int
 |none=> -1
 |some a=>(a:Int)
def N_(r:dr a y J)(g:b<a):lN y (J b) b=VT y J (y b)/\OU J (y b)=J b/\sI y b=xT (y b)/\∀c,y b=some c->c<a:=by
 cases e:y b with
 |none=>refine⟨by rw[r.root b g e];rfl,by rw[r.root b g e];rfl,by unfold sI;rw[e];rfl,fun c f=>by cases f⟩
 |some c=>obtain⟨i,h⟩:=r.up b c g e;refine⟨by rw[h];show(match y b with|none=> []|some b=>b::lN y (J c) b)=_;rw[e];rfl,by rw[h];rfl,by unfold sI;rw[e];rfl,fun j f=>by injection f with f;subst f;exact i⟩
def Ka(d:Nat->Nat)(z:Int):Nat:=if z<0 then 0 else d z.toNat+1
def aeN(d:Nat->Nat)(c:Option Nat):Ka d (xT c)=OU d c:=by
 cases c with
 |none=>rfl
 |some a=>unfold Ka xT OU;simp only[kX];exact if_neg Om
def an0:xT none= -1:=rfl
def anZ(a:Nat):xT (some a)=(a:Int):=rfl
def acK(A:aQ)(c n:Nat)(p:Nat->Option Nat)(d:Nat->Nat)(r:dr n p d)(v:Nat)(U:v<n)(hn:n<=12)(w:au)(V:IL w (.slice A n c) ((List.range n).map (sI p))):
 Calls prog 88 #[.agg #[.slice A n c],av v] w fun e w'=>∃u,e= .returned (.tuple #[u,.bool true])/\IL w' u (ints (lN p (d v) v))/\Ext w w':=by
 have xO:=(bl V).2;have B:=af (fun(a:Nat) (Q:a<n) W (hX:Ext w W)=>by have h:=ij (V.ext hX) (i:=a) (by rw[bP,i7];exact Q);rwa[ET,Q1,(N_ r Q).2.2.1] at h)
 have M:=af (fun(a:Nat) (Q:a<n)=>N_ r Q);have hdv:=r.lt v U;clear V r;obtain⟨g,o,k, -,D⟩:=B v U w (aB w);subst k;obtain⟨F,C,y3,E⟩:=M v U;generalize X:p v=c0 at*;have rp:=af F;have Lg:=af C;generalize lN p (d v) v=z at*;have huv:(ints ([]:List Nat)).length=0:=rfl;clear F y3 X;go_enter func88,ntmps88;go_upto_region 1 with fail
 refine aR fun W S BO=> ?_;have b0:=BO.aF 0;have q1:=(S.cell (p:=aD g (o+v)) (Lib.lt_of_cell D)).trans D;go_upto_region 3 with fail
 have HB:=af BO.ae;have Es:ah (bG aS 1 dw W.heap.size W (.slice none 0 0) (ints [])):=ii;have HE0:=af (aB W);clear b0 q1 D BO;go_loopw [6,7] (fun v6 T wr=>∃(f:List Nat) (j:Option Nat),T=av (xT j)/\(∀b,j=some b->b<n)/\f.length+OU d j=d v/\ah (z=f++VT p d j)/\ah (bG aS 1 dw W.heap.size wr v6 (ints f))/\ah (Ext W wr)) (fun _ T _=>Ka d (RowKit.intOf T))
 exact⟨[],c0,rfl,E,by simpa using C,rp,Es,HE0⟩;clear C E;obtain⟨f,j,rfl,J,I,HA,HO,N⟩:=hrel;obtain⟨A',c',xs,rfl,_,H,l,O⟩:=HO.parts;have m:(ints f).length=f.length:=axJ;cases j with
 |none=>
  have HF:ah (z=f):=by have h:=HA.ae;rw[ah,h];exact j5 _
  have Y:=af (Ng l O);have d0:decide ((0:Int)<= -1)=false:=Od;rw[an0];clear m;go_wp2_with fail
  exact bodyPost_ret (v:= .tuple #[.slice A' (ints f).length c',.bool true]) (by simp [results,results88,go_sem]) rfl ⟨_,rfl,by rw[HF.ae];exact Y.ae,S.trans N⟩
 |some a=>
  have y:=J a rfl;obtain⟨g',o',k, -,D⟩:=B a y wr (S.trans N);injection k with k;injection k with e1 Z _;subst e1 Z;obtain⟨F,C, -,E⟩:=M a y;have P:ah (z=(f++ [a])++VT p d (p a)):=(by have h:=HA.ae;rw[ah,h,jk,<-F];rfl)
  obtain⟨L,t⟩:∃L,p a=L:=⟨_,rfl⟩;rw[t] at D C E P;have YN:=af t;clear t;have Pg:f.length+(d a+1)=d v:=I;have d0:decide ((0:Int)<=(a:Int))=true:=fN;have hne:(((ints f).length:Int)==(n:Int))=false:=beq_eq_false_iff_ne.2 Om;have K:((ints f).length+1)*8<=140737488355328:=Om;have hw:=N.size;have b0:=(HB.ext N).aF 0;rw[anZ];have d_:=af m;clear J I F m;go_wp2_with (at_builtin;refine gf rfl _ _ cK rfl W.heap.size jo _ _ _ rfl l.ae #[av (a:Int)] 1 1 rfl rfl rfl K hw ?_)
  intro v' w3 G s _;have O3:=af (iF (R:=dw) (x:=(a:Int)) cJ Oe l O rfl G s);rw[<-Na] at O3;have E3:=af (kI N l s (aL _));have q3:aA w3 g (o+a) (av (xT L)):=by obtain⟨g',o',k, -,q⟩:=B a y w3 (S.trans E3);injection k with k;injection k with e1 Z _;subst e1 Z;rw[YN.ae] at q;exact q
  have b3:=(HB.ext E3).aF 0;have uv:(f++ [a]).length=f.length+1:=ayO;clear G s K b0 D H;go_wp2_with fail
  go_roundw;exact⟨f++ [a],L,rfl,E,by omega,P,O3,E3⟩;show Ka d (xT L)<Ka d (xT (some a))
  rw[aeN,aeN,C];exact ZN _
def akJ(A:aQ)(c n:Nat)(p:Nat->Option Nat)(d:Nat->Nat)(r:dr n p d)(u v:Nat)(o:v<n)(q:n<=12)(w:au)(s:IL w (.slice A n c) ((List.range n).map (sI p))):
 Calls prog 158 #[.agg #[.slice A n c],av u,av v] w fun e j=>e= .returned (.bool ((ints (lN p (d v) v)).contains (u:Int)))/\Ext w j:=by
 have C:=af (fun W (t:Ext w W)=>acK A c n p d r v o q W (s.ext t));generalize ints (lN p (d v) v)=l at*;go_enter func158,ntmps158;go_upto_region 1 with fail
 refine aR fun W h E=> ?_;have I:=E.aF 0;have D:=af (C W h);go_wp2_with fail
 refine D.mono ?_;rintro e i ⟨y,rfl,k,m⟩;obtain⟨F,x,rfl,_,_,z⟩:=k.parts;have f:=af (h.trans m);have B:=af (adM F l.length x l u i z);go_wp2_with fail
 refine B.mono ?_;rintro H G ⟨rfl,rfl⟩;obtain⟨b,a⟩:∃b,l.contains (u:Int)=b:=⟨_,rfl⟩;rw[a];have g:=af a;go_wp2_with fail
 exact bodyPost_ret (v:= .bool b) (by simp [results,results158,go_sem]) rfl ⟨by rw[g.ae],f⟩
def Sn(b:Bool)(w:au):Calls prog 143 #[.bool b] w fun e a=>∃u,e= .returned u/\bQ a u (if b then 1 else 0)/\Ext w a:=by
 have d:=af (fun W=>zy 0 W Om Om);go_enter func143,ntmps143;go_upto_region 1 with fail
 refine aR fun W HX BT=> ?_;have c:=BT.lt;cases b with
 |true=>
  go_wp2_with fail
  refine((fun W=>zy 1 W Om Om) W).mono ?_;exact m70
 |false=>
  go_wp2_with fail
  refine(d W).mono ?_;exact m70
def aqg(s t:aC)(w:au):Calls prog 142 #[aM s,aM t] w fun e a=>∃u,e= .returned u/\bQ a u (if s=t then 1 else 0)/\Ext w a:=by
 have c:=af (fun W=>by have h:=Sn (s==t) W;simpa only[beq_iff_eq] using h);generalize(if s=t then (1:Rat) else 0)=q at*;go_enter func142,ntmps142;go_upto_region 1 with fail
 refine aR fun W HX BT=> ?_;have b:=BT.lt;go_wp2_with fail
 refine(c W).mono ?_;exact m24
def aoN(s t:aC)(w:au):Calls prog 146 #[aM s,aM t] w fun e b=>∃u,e= .returned u/\bQ b u (if s= [] then 0 else 1)/\Ext w b:=by
 have d:ah (∀W,Calls prog 143 #[.bool (!s.isEmpty)] W fun e b=>∃u,e= .returned u/\bQ b u (if s= [] then 0 else 1)/\Ext W b):=fun W=>by
  have h:=Sn (!s.isEmpty) W;cases s with
  |nil=>simpa using h
  |cons a s=>simpa using h
 generalize(if s= [] then (0:Rat) else 1)=q at*;go_enter func146,ntmps146;go_upto_region 1 with fail
 refine aR fun W HX BT=> ?_;have c:=BT.lt;go_wp2_with fail
 refine(d W).mono ?_;exact m24
def qP(t:aC)(q:Rat):Prop:=(t= []/\q=0)\/(t≠ []/\t=cP q/\∃e,e<=100000/\bR (e+1) q)
def Nr{t:aC}(h:qP t H)(w:au):Calls prog 139 #[aM t] w fun e f=>∃u,e= .returned u/\bQ f u H/\Ext w f:=by
 rcases h with⟨rfl,rfl⟩|⟨c,rfl,e,j,i⟩
 ·go_enter func139,ntmps139;go_upto_region 1 with fail
  refine aR fun W HX BT=> ?_;have d:=BT.lt;go_wp2_with fail
  refine((fun W=>zy 0 W Om Om) W).mono ?_;exact m24
 ·have g:(cP H).isEmpty=false:=by
   cases b:cP H with
   |nil=>exact absurd b c
   |cons a s=>rfl
  have b:=af (fun W=>SL H W i j);generalize cP H=t at*;go_enter func139,ntmps139;go_upto_region 1 with fail
  refine aR fun W HX BT=> ?_;have d:=BT.lt;go_wp2_with fail
  refine(b W).mono ?_;exact m24
def aoK{s t:aC}(h:qP s H)(w:au)(c:aq w a 222 [.func (.func 139) #[] #[]]):Calls prog 140 #[aM s,aM t,aI a 0] w fun e b=>∃u,e= .returned u/\bQ b u H/\Ext w b:=by
 go_enter func140,ntmps140;go_upto_region 1 with fail
 refine aR fun W HX BT=> ?_;have d:=BT.lt;have f:=(c.ext HX).aF 0;go_wp2_with fail
 refine((fun W=>Nr h W) W).mono ?_;exact m24
def qP.fit{t:aC}(h:qP t H):∃e,e<=100001/\bR e H:=by
 rcases h with⟨_,rfl⟩|⟨_,_,e,b,a⟩
 ·exact⟨1,by omega,by decide,by decide⟩
 ·exact⟨e+1,by omega,a⟩
abbrev AK:Value:= .func (.func 139) #[] #[]
def asA.agN(h:ar:=by
 refine cG (S:=fun w'=>aA w' bn 0 AK) (T:=fun j=>decide (7<=j)) Ok ?_;have l:=af (aB W).drew;generalize W.drew=r at*;have C:=af (p r);refine ax 0 6 ?_;refine ax 1 7 ?_;refine ax 3 9 ?_;refine ax 4 10 ?_;refine aO 2 ?_;intro K a;go_simp;refine C.mono ?_;rintro U y ⟨u,rfl,f,d⟩;have E:=af f;have i:=af (l.trans d);have bB:=af (cF _ i);have G:=af (p y);refine a.ae _ _ (fun _=>bB.ae) ?_;refine aO 5 ?_;intro K a;go_simp;refine G.mono ?_;rintro R x ⟨u2,rfl,f,d⟩;have n:=af f;have o:=af (E.ext d);have g:=af (i.trans d);have aJ:=af (cF _ g);have F:=af (TB u u2 H H x o n k k Om);refine a.ae _ _ (fun _=>aJ.ae) ?_;refine aO 6 ?_;intro K a;go_simp;refine F.mono ?_;rintro Q I ⟨u3,rfl,f,d⟩;obtain⟨a0,A0,q,Z,Y,B0,X,V,rfl, -, -⟩:=f.parts;have m:=af f;have b:=af (g.trans d);have bB:=af (cF _ b);have c:=af (BT.ext b);refine a.ae _ _ (fun _=>bB.ae) ?_;obtain⟨N,M,L,J⟩:=c.four;obtain⟨f0,f1,f2,f3⟩:=c.fX;refine aO 7 ?_;intro K a;go_simp;refine a.ae _ _ Oe ?_;refine bY Ok ?_;go_wp2_with fail
 exact rQ rfl rfl rfl c.ae m fun v W' D B=>⟨v,rfl,D,(HX.trans b).only B Om⟩):=h
def aqa{s t:aC}{bn:Nat}(h:qP s H)(w:au)(z:aq w bn 222 [AK]):Calls prog 141 #[aM s,aM t,aI bn 0] w fun e w'=>∃u,e= .returned u/\bQ w' u (H*H)/\Ext w w':=by have p:=af (fun W=>Nr h W);obtain⟨P,O,A⟩:=h.fit;have k:=af A;have HN:=af z;go_enter func141,ntmps141;open asA in exact agn
def asz.agN(h:ar:=by
 refine cG (S:=fun w'=>aA w' bn 0 AK) (T:=fun j=>decide (13<=j)) Ok ?_;have o:=af (aB W).drew;generalize W.drew=L at*;cases m:s with
 |nil=>
  subst m;have i:z=0:=by rw[<-y.ae];simp
  subst i;have C:=af (P false L);refine ax 0 6 ?_;refine ax 1 7 ?_;refine ax 2 8 ?_;refine lH 3 9 ?_;refine lH 4 10 ?_;refine lH 5 11 ?_;refine lH 6 12 ?_;refine lH 7 13 ?_;refine lH 8 14 ?_;refine lH 9 15 ?_;refine lH 10 16 ?_;refine ax 11 17 ?_;refine aO 12 ?_;intro K a;go_simp;refine C.mono ?_;rintro e4 M ⟨u3,rfl,f,c⟩;obtain⟨a0,A0,a1,a2,b0,B0,b1,b2,rfl, -, -⟩:=f.parts;have l:=af f;have g:=af (o.trans c);have bB:=af (cF _ g);have d:=af (BT.ext g);refine a.ae _ _ (fun _=>bB.ae) ?_;obtain⟨Z,Y,X,V⟩:=d.four;obtain⟨f0,f1,f2,f3⟩:=d.fX;clear a f c BT;refine aO 13 ?_;intro K a;go_simp;refine a.ae _ _ Oe ?_;refine bY Ok ?_;go_wp2_with fail
  exact rQ rfl rfl rfl d.ae l fun v W' E D=>⟨v,rfl,by simpa using E,(HX.trans g).only D Om⟩
 |cons a0 s0=>
  have q:s.isEmpty=false:=by rw[m];rfl
  have i:z=if decide (Dw H I<0) then 1 else 0:=by rw[<-y.ae,m];simp
  rw[<-m];clear m;have C:=af (h1 L);refine ax 0 6 ?_;refine ax 1 7 ?_;refine ax 2 8 ?_;refine ax 3 9 ?_;refine ax 4 10 ?_;refine ax 6 12 ?_;refine ax 7 13 ?_;refine aO 5 ?_;intro K a;go_simp;refine C.mono ?_;rintro e2 U ⟨u,rfl,f,c⟩;have HU:=af f;have x:=af (o.trans c);have bB:=af (cF _ x);have C2:=af (h2 U);refine a.ae _ _ (fun _=>bB.ae) ?_;clear a f c;refine aO 8 ?_;intro K a;go_simp;refine C2.mono ?_;rintro e3 R ⟨u2,rfl,f,c⟩;have F:=af (HU.ext c);have p:=af (x.trans c);have aJ:=af (cF _ p);have C3:=af (aiY u u2 H I R F f J G Om);refine a.ae _ _ (fun _=>aJ.ae) ?_;clear a f c;generalize Dw H I=Q at*;refine aO 9 ?_;intro K a;go_simp;refine C3.mono ?_;rintro e4 M ⟨rfl,c⟩;have g:=af (p.trans c);have aJ:=af (cF _ g);have C4:=af (P (decide (Q<0)) M);refine a.ae _ _ (fun _=>aJ.ae) ?_;clear a c;refine ax 10 16 ?_;refine ax 11 17 ?_;generalize decide (Q<0)=bq at*;have y:=af i;clear i;refine aO 12 ?_;intro K a;go_simp;refine C4.mono ?_;rintro e5 w5 ⟨u3,rfl,f,c⟩;obtain⟨a1,A0,a2,a3,b0,B0,b1,b2,rfl, -, -⟩:=f.parts;rw[<-y.ae] at f;have l:=af f;have k:=af (g.trans c);have bB:=af (cF _ k);have d:=af (BT.ext k);refine a.ae _ _ (fun _=>bB.ae) ?_;obtain⟨Z,Y,X,V⟩:=d.four;obtain⟨f0,f1,f2,f3⟩:=d.fX;clear a f c BT;refine aO 13 ?_;intro K a;go_simp;refine a.ae _ _ Oe ?_;refine bY Ok ?_;go_wp2_with fail
  exact rQ rfl rfl rfl d.ae l fun v W' E D=>⟨v,rfl,E,(HX.trans k).only D Om⟩):=h
def amP{s t:aC}{bn:Nat}(h:qP s H)(B:qP t I)(w:au)(N:aq w bn 222 [AK]):Calls prog 144 #[aM s,aM t,aI bn 0] w fun e w'=>∃u,e= .returned u/\bQ w' u (if s≠ []/\Dw H I<0 then 1 else 0)/\Ext w w':=by have h1:=af (fun W=>Nr h W);have h2:=af (fun W=>Nr B W);have P:=af (fun b W=>Sn b W);obtain⟨ee,he,O⟩:=h.fit;obtain⟨ef,r,n⟩:=B.fit;have J:=af O;have G:=af n;have HN:=af N;obtain⟨z,A⟩:∃z:Rat,(if s≠ []/\Dw H I<0 then (1:Rat) else 0)=z:=⟨_,rfl⟩;rw[A];have y:=af A;clear h N O B n A;go_enter func144,ntmps144;open asz in exact agn
abbrev arY:TypeId:=225
abbrev afC:TypeId:=138
def FV:prog.underlying arY=some (.map aS afC):=Ok
def aqb(w:au):(zeroValue afC).run prog w= .ok .nilFunc w:=Ok
def Vm(a:Nat):Nat->Value
 |1=> .func (.func 140) #[] #[aI a 0]
 |2=> .func (.func 141) #[] #[aI a 0]
 |3=> .func (.func 142) #[] #[]
 |4=> .func (.func 144) #[] #[aI a 0]
 |5=> .func (.func 146) #[] #[]
 |_=> .nilFunc
def vw{f:Lit->Option Value}(h:B≠C):mr f (.int .i64 C) p (.int .i64 B)=f (.int .i64 B):=pR fun e=>by injection e with _ e;exact h e
def put_eq{f:Lit->Option Value}(h:B=C):mr f (.int .i64 C) p (.int .i64 B)=some p:=by rw[h,xg]
def aiW(k:Nat)(G:1<=k)(F:k<=5)(w:au):Calls prog 68 #[.int .i64 k] w fun e h=>∃a,e= .returned (Vm a k)/\aq h a 222 [AK]/\Ext w h:=by
 go_enter func68,ntmps68;go_upto_region 1 with fail
 go_upto_region 2 with fail
 refine aR fun W t p=> ?_;have s:=p.lt;generalize w.heap.size=a at*;have r:= @run_makeMap prog;obtain⟨z,E,m1,n⟩:=(Ct W aS).put lY FV axu (key:= .int .i64 1) Ok (.func (.func 140) #[] #[aI a 0]);obtain⟨y,D,m2,m⟩:=m1.put lY FV axu (key:= .int .i64 2) Ok (.func (.func 141) #[] #[aI a 0]);obtain⟨x,C,m3,l⟩:=m2.put lY FV axu (key:= .int .i64 3) Ok (.func (.func 142) #[] #[]);obtain⟨u,B,m4,j⟩:=m3.put lY FV axu (key:= .int .i64 4) Ok (.func (.func 144) #[] #[aI a 0]);obtain⟨q,A,m5,i⟩:=m4.put lY FV axu (key:= .int .i64 5) Ok (.func (.func 146) #[] #[]);have d:=af ((((((aB W).alloc (.map #[] 0)).only n (aL _)).only m (aL _)).only l (aL _)).only j (aL _)|>.only i (aL _));have o:=m5.get lY FV (aqb q) (FO (v:=k) Om);have c:(mr (mr (mr (mr (mr (fun _=>none) (.int .i64 1) (.func (.func 140) #[] #[aI a 0])) (.int .i64 2) (.func (.func 141) #[] #[aI a 0])) (.int .i64 3) (.func (.func 142) #[] #[])) (.int .i64 4) (.func (.func 144) #[] #[aI a 0])) (.int .i64 5) (.func (.func 146) #[] #[]) (.int .i64 (k:Int))).getD .nilFunc=Vm a k:=by
  obtain rfl|rfl|rfl|rfl|rfl:k=1\/k=2\/k=3\/k=4\/k=5:=Om
  ·rw[vw Od,vw Od,vw Od,vw Od,put_eq Od];rfl
  ·rw[vw Od,vw Od,vw Od,put_eq Od];rfl
  ·rw[vw Od,vw Od,put_eq Od];rfl
  ·rw[vw Od,put_eq Od];rfl
  ·rw[put_eq Od];rfl
 rw[c] at o;obtain⟨f,b⟩:∃f,Vm a k=f:=⟨_,rfl⟩;rw[b] at o;have g:=af b;clear b;clear m1 m2 m3 m4 m5 n m l j i c;go_wp2_with fail
 exact bodyPost_ret (v:=f) (by simp [results,results68,go_sem]) rfl ⟨a,by rw[g.ae],p.ext d,t.trans d⟩
def yM(k:Nat)(s t:aC)(z:Rat):Prop:=
 (k=1/\qP s z)\/(k=2/\∃q,qP s q/\z=q*q)\/(k=3/\z=if s=t then 1 else 0)\/(k=4/\∃q r,qP s q/\qP t r/\z=if s≠ []/\Dw q r<0 then 1 else 0)\/(k=5/\z=if s= [] then 0 else 1)
def yM.kind{s t:aC}(h:yM a s t H):1<=a/\a<=5:=by rcases h with h|h|h|h|h<;>omega
def aem{s t:aC}(h:yM a s t H)(w:au):Calls prog 68 #[av a] w fun e i=>∃b c,e= .returned (.func (.func b) #[] c)/\ah (∀d w,(callFunc b d).run prog w= .ok (.enter b d) w)/\
 ah (∀W,Ext i W->Calls prog b (#[aM s,aM t]++c) W fun e l=>∃u,e= .returned u/\bQ l u H/\Ext W l)/\ah (Ext w i):=by
 refine(aiW a h.kind.1 h.kind.2 w).mono ?_;rintro e i ⟨n,rfl,j,g⟩;rcases h with⟨rfl,h⟩|⟨rfl,q,h,rfl⟩|⟨rfl,rfl⟩|⟨rfl,q,r,h,m,rfl⟩|⟨rfl,rfl⟩
 ·exact⟨_,_,rfl,fun _ _=>by rfl,fun W f=>aoK h W (j.ext f),g⟩
 ·exact⟨_,_,rfl,fun _ _=>by rfl,fun W f=>aqa h W (j.ext f),g⟩
 ·exact⟨_,_,rfl,fun _ _=>by rfl,fun W f=>aqg s t W,g⟩
 ·exact⟨_,_,rfl,fun _ _=>by rfl,fun W f=>amP h m W (j.ext f),g⟩
 ·exact⟨_,_,rfl,fun _ _=>by rfl,fun W f=>aoN s t W,g⟩
abbrev g7:TypeId:=57
abbrev Fu:=Nat×Nat×aC
def lD(_:au)(c:List Value)(f:Fu):Prop:=c= [av (f.1:Int),av (f.2.1:Int),aM f.2.2]
def lD.iH:jR [] lD:=fun _ _ _ _ _ h=>h
def lZ:=@lD.iH
def lD.three(w:au)(c:List Value)(f:Fu)(h:lD w c f):c.length=3:=aya
def eI(a:Nat)(b:Fu->Rat)(l:List Fu):Rat:=(l.map fun f=>if f.1=a then b f else 1).foldl (·*·) 1
def R5(a:Nat)(b:Fu->Rat)(l:List Fu)(f:Fu):eI a b (l++ [f])=eI a b l*if f.1=a then b f else 1:=by unfold eI;rw[kE,wS];rfl
def ajk(A:aQ)(c:Nat)(l:List Fu)(a:Nat)(s:aC)(n:Fu->Rat)(w:au)(hl:Ls g7 lD w (.slice A l.length c) l)(hz:∀f∈l,f.1=a->yM f.2.1 s f.2.2 (n f))(hp:∀i,i<=l.length->bR 100000 (eI a n (l.take i)))(hf:∀f∈l,f.1=a->bR 100000 (n f))(ha:a<100):
 Calls prog 103 #[.slice A l c,av a,aM s] w fun e p=>∃u,e= .returned u/\bQ p u (eI a n l)/\Ext w p:=by
 have h1:=af (fun W=>by simpa using zy 1 W Om Om);have HL:=af hl;have HZ:=af hz;have HP:=af hp;have HF:=af hf;have xO:=(bl hl).2;clear hl hz hp hf;go_enter func103,ntmps103;go_upto_region 1 with fail
 refine aR fun W HX P=> ?_;have vZ:=P.lt;generalize vN:w.heap.size=rb at*;have C:=af (h1 W);go_wp2_with fail
 refine C.mono ?_;rintro e1 w1 ⟨u,rfl,hu,hx⟩;obtain⟨a0,A0,a1,a2,b0,B0,b1,b2,rfl, -, -⟩:=hu.parts;have HU:=af hu;have Y:=af hx;have sN:=hx.size;clear hu hx;go_upto_region 2 with fail
 refine FU HU fun w2 v V _=> ?_;have Pm:rb<w1.heap.size:=Om;generalize w1.heap.size=q at*;have Eg:=af (HX.trans (Y.trans v));have oB:=af (P.ext (Y.trans v));have rp:ah (dI w2 q (eI a n (l.take 0))):=by rw[kG];exact V
 clear P;go_upto_region 3 with fail
 go_loopw [9,13] (fun _ Q wq=>∃k:Nat,k<=l/\Q=av k/\ah (aq wq rb cY zG)/\ah (dI wq q (eI a n (l.take k)))/\ah (Ext w wq)) (fun _ Q _=>l - (RowKit.intOf Q).toNat)
 exact⟨0,aU _,rfl,oB,rp,Eg⟩;obtain⟨k,hk,rfl,P,HU,HX⟩:=hrel;have iq:q<wr.heap.size:=HU.lt;by_cases H:k<l.length
 ·obtain⟨g,o,d,hA,mE,hd,I⟩:=rY lD.three Od (HL.ext lZ HX) H;subst hA;have hsn:l.take (k+1)=l.take k++ [l[k]]:=fR H;have x:ah (eI a n (l.take (k+1))=eI a n (l.take k)*if l[k].1=a then n l[k] else 1):=by rw[ah,hsn,R5]
  have HZk:=af (HZ l[k] (a8 H));have HFk:=af (HF l[k] (a8 H));have yr:=af (HP k hk);unfold lD at hd;generalize l[k]=f at*;obtain⟨y,L,J⟩:=f;subst hd;have c0:aA wr g (o+k*3) (av (y:Int)):=I 0 _ rfl;have c1:aA wr g (o+k*3+1) (av (L:Int)):=I 1 _ rfl;have c2:aA wr g (o+k*3+2) (aM J):=I 2 _ rfl;simp only at x HZk HFk;clear I hsn;generalize eI a n (l.take k)=acc at*;generalize n (y,L,J)=zq at*;go_upto_region 5 with fail
  refine aR fun X U BE=> ?_;have heb:=BE.lt;have hes:wr.heap.size=wr.heap.size:=rfl;generalize atN:wr.heap.size=M at*;clear c0 c1 c2 hes;have e0:=BE.aF 0;have v:=af (HX.trans U);have L5:=af (P.ext U);have uF:=af (HU.ext U);clear P;by_cases KC:y=a
  ·subst KC;rw[if_pos rfl] at x;obtain⟨G,O,F,E,D,N,B,z,BO,VO⟩:=uF.parts;have HQ:=af (HZk rfl);have Kt:=HQ.kind;have CF:=af (fun W=>aem HQ W);go_upto_region 6 with fail
   clear e0;have aJ:ah (aq X.drew q cY [.bool G,.slice O F E,.bool D,.slice N B z]/\aq X.drew M g7 [av (y:Int),av (L:Int),aM J]):=⟨BO.drew,BE.drew⟩;have bK:ah (∀p,(aq p q cY [.bool G,.slice O F E,.bool D,.slice N B z]/\aq p M g7 [av (y:Int),av (L:Int),aM J])->(aA p M 1 (av (L:Int))/\aA p M 2 (aM J))/\F4 p q (.bool G) (.slice O F E) (.bool D) (.slice N B z)):=fun p h=>⟨⟨h.2.aF 1,h.2.aF 2⟩,h.1.four⟩;unfold F4 at bK;refine cG (S:=fun p=>aq p q cY [.bool G,.slice O F E,.bool D,.slice N B z]/\aq p M g7 [av (y:Int),av (L:Int),aM J]) (T:=fun j=>decide (9<=j)) Ok ?_;have yi:=af v.drew;have Y3:=af L5.drew;have VOd:ah (bQ X.drew (.agg #[.bool G,.slice O F E,.bool D,.slice N B z]) acc):=VO.ext (aB X).drew;have hed:M<X.drew.heap.size:=heb;clear BO VO BE;generalize X.drew=wd at*;have CF2:=af (CF wd);refine ax 0 21 ?_;refine ax 1 22 ?_;refine ax 2 23 ?_;refine ax 4 25 ?_;refine ax 5 26 ?_;refine ax 6 27 ?_;refine aO 3 ?_;intro K t;go_simp;refine CF2.mono ?_;rintro e4 w4 ⟨fid,at9,rfl,Kv,HC,m⟩;have hif:=Kv.ae;have dW:=af (yi.trans m);have Hx:=af (Y3.ext m);have VO4:=af (VOd.ext m);have bB:ah (aq w4 q cY [.bool G,.slice O F E,.bool D,.slice N B z]/\aq w4 M g7 [av (y:Int),av (L:Int),aM J]):=⟨aJ.1.ext m,aJ.2.ext m⟩;have C4:=af (HC w4 (aB w4));refine t.ae _ _ (fun _=>bB.ae) ?_;clear t m Kv;refine aO 7 ?_;intro K t;go_simp;refine C4.mono ?_;rintro e5 w5 ⟨u5,rfl,Z,b⟩;have d8:=af (dW.trans b);have wN:=af (Hx.ext b);have aJ:ah (aq w5 q cY [.bool G,.slice O F E,.bool D,.slice N B z]/\aq w5 M g7 [av (y:Int),av (L:Int),aM J]):=⟨bB.1.ext b,bB.2.ext b⟩;have CM:=af (TB _ u5 acc zq w5 (VO4.ext b) Z yr (HFk rfl) Om);refine t.ae _ _ (fun _=>aJ.ae) ?_;clear t Z b hif;refine aO 8 ?_;intro K t;go_simp;refine CM.mono ?_;rintro e6 w6 ⟨u6,rfl,R,r⟩;obtain⟨r0,R0,r1,r2,s0,S0,s1,s2,rfl,_,_⟩:=R.parts;have dR:=af (d8.trans r);have qu:=af (wN.ext r);have bB:ah (aq w6 q cY [.bool G,.slice O F E,.bool D,.slice N B z]/\aq w6 M g7 [av (y:Int),av (L:Int),aM J]):=⟨aJ.1.ext r,aJ.2.ext r⟩;refine t.ae _ _ (fun _=>bB.ae) ?_;obtain⟨k0,k1,k2,k3⟩:=bB.1.four;obtain⟨f0,f1,f2,f3⟩:=bB.1.fX;obtain⟨W',hW',tx,_,po,jY⟩:=dI.put bB.1 R dR Om;have HW:=af hW';have yP:=af (qu.only jY Om);clear t R r hW';refine aO 9 ?_;intro K t;go_simp;refine t.ae _ _ Oe ?_;refine bY Ok ?_;rw[HW.ae];clear k0 k1 k2 k3 f0 f1 f2 f3 t;go_wp2_with fail
   go_roundw;exact⟨k+1,by omega,by go_num,yP,by rw[x.ae];exact tx,po⟩;simp [RowKit.intOf];omega
  ·rw[if_neg KC,E9] at x;have KB:((y:Int)==(a:Int))=false:=beq_eq_false_iff_ne.2 Om;go_wp2_with fail
   go_roundw;exact⟨k+1,by omega,by go_num,L5,by rw[x.ae];exact uF,v⟩;simp [RowKit.intOf];omega
 ·obtain rfl:k=l.length:=Om;have d1:decide ((l.length:Int)<(l.length:Int))=false:=aW;have V:ah (dI wr q (eI a n l)):=(by have h:=HU.ae;rwa[fB] at h)
  obtain⟨G,O,F,E,D,N,B,z,BO,VO⟩:=V.parts;obtain⟨q0,q1,q2,q3⟩:=BO.four;obtain⟨f0,f1,f2,f3⟩:=P.fX;obtain⟨j0,j1,j2,j3⟩:=P.four;go_wp2_with fail;exact rQ rfl rfl rfl P.ae VO fun u W' h1 h2=>⟨u,rfl,h1,HX.only h2 Om⟩
abbrev ud:TypeId:=45
def aol(A:aQ)(c n:Nat)(E:Value)(l:List Fu)(a:Nat)(s:aC)(d:Fu->Rat)(w:au)(y:aq w n ud [.slice A l.length c,E])(r:Ls g7 lD w (.slice A l.length c) l)(p:∀f∈l,f.1=a->yM f.2.1 s f.2.2 (d f))(q:∀i,i<=l.length->bR 100000 (eI a d (l.take i)))(t:∀f∈l,f.1=a->bR 100000 (d f))(z:a<100):
 Calls prog 102 #[av a,aM s,aI n 0] w fun e j=>∃u,e= .returned u/\bQ j u (eI a d l)/\Ext w j:=by
 have D:=af (fun W (B:Ext w W)=>ajk A c l a s d W (bU lZ r B) p q t z);have J:=af y;go_enter func102,ntmps102;go_upto_region 1 with fail
 refine aR fun W h o=> ?_;have x:=o.lt;have H:=(J.ext h).aF 0;have C:=af (D W h);go_wp2_with fail
 refine C.mono ?_;rintro e K ⟨u,rfl,m,k⟩;obtain⟨T,X,S,R,H,V,Q,P,rfl, -, -⟩:=m.parts;have I:=af m;have g:=af (h.trans k);have b:=af (o.ext k);obtain⟨O,N,M,L⟩:=b.four;obtain⟨f0,f1,f2,f3⟩:=b.fX;go_wp2_with fail
 exact rQ rfl rfl rfl b.ae I fun v U G F=>⟨v,rfl,G,g.only F Om⟩
abbrev tEn:TypeId:=38
abbrev tJp:TypeId:=98
abbrev tRg:TypeId:=176
def sG(w:au)(c:List Value)(y:Gp):Prop:=∃A d,c= [.slice A y.1.length d,aM (cP y.2)]/\TL w (.slice A y.1.length d) y.1
def sG.iH:jR [bC] sG:=fun _ _ _ _ f ⟨A,d,e,h⟩=>⟨A,d,e,gF jO h f⟩
def jq:=@sG.iH
def sG.two(w:au)(c:List Value)(x:Gp)(h:sG w c x):c.length=2:=ayg
abbrev pH:=Ls fh sG
def aco:j7 prog mm fh 2 40:= .mk' (z:= .agg #[.slice none 0 0,.string ⟨#[]⟩]) Ok Ok rfl Od Od
section
variable{S:List Nat}{t:TypeId}{a b c:au}
theorem fj.only(h:fj S t a b)(k:Only g b c)(d:g∈S\/a.heap.size<=g):fj S t a c:=⟨k.os.trans h.os,k.tape.trans h.tape,k.output.trans h.output,aV h.size k.size,fun i j f l=>(k.block i (cy j h.size) (fun e=>by
 injection e with e;subst e;rcases d with d|d
 ·exact f d
 ·omega)).trans (h.block i j f l)⟩
theorem fj.grow(h:fj S t a b)(j:b.ownsRow d t e p f u)(l:b.grownBy c p.ownBlock):fj S t a c:=⟨l.os.trans h.os,l.tape.trans h.tape,l.output.trans h.output,aV h.size l.size,fun i m s q=>by
 have r:=h.block i m s q;refine(l.block i (cy m h.size) fun g=> ?_).trans r;rcases j.2 with⟨rfl,_⟩|⟨w,A,z,rfl,_,o,_⟩
 ·simp [Value.ownBlock] at g
 ·have y:i=w:=by simpa [Value.ownBlock] using g
  subst y;rw[r] at o;exact q _ _ o⟩
theorem aZ.NV(h:aZ [d] a b):Only d a b:=⟨h.os,h.tape,h.output,h.size,fun i f e=>h.block i f axO⟩
theorem d7.ars(h:d7 a)(j:aq a d w [p])(k:Only d a b):d7 b:=by
 unfold d7 Lib.TabIs World.var? at*;cases i:prog.globalNamed "internal/strconv.uint64pow10" with
 |none=>simp [i] at h
 |some q=>
  simp only[i,Mp] at h⊢;have f:q<a.heap.size:=by exact UW
  rw[k.block q f]
  ·exact h
  ·intro e;injection e with e;subst e;unfold aq at j;rw[j] at h;simp only[dl] at h;have l:=congrArg Array.size h;simp [Lib.pow10Tab] at l
theorem d7.afd{f:Lit->Option Value}(h:d7 a)(l:dt a w d e f)(p:Only d a b):d7 b:=by
 unfold d7 Lib.TabIs World.var? at*;cases o:prog.globalNamed "internal/strconv.uint64pow10" with
 |none=>simp [o] at h
 |some q=>
  simp only[o,Mp] at h⊢;have j:q<a.heap.size:=by exact UW
  rw[p.block q j]
  ·exact h
  ·intro i;injection i with i;subst i;obtain⟨D,⟨r,m,l,_⟩,_⟩:=l;rw[l] at h;simp at h
theorem d7.grow(h:d7 a)(i:a.ownsRow d t e p f u)(o:a.grownBy b p.ownBlock)(m:∀q,prog.globalNamed "internal/strconv.uint64pow10" =some q->q<d):d7 b:=by
 unfold d7 Lib.TabIs World.var? at*;cases j:prog.globalNamed "internal/strconv.uint64pow10" with
 |none=>simp [j] at h
 |some q=>
  simp only[j,Mp] at h⊢;have l:q<a.heap.size:=by exact UW
  rw[o.block q l]
  ·exact h
  ·intro g;have:=(i.lt q g.symm).1;have:=m q j;omega
theorem d7.lt(h:d7 a):∀q,prog.globalNamed "internal/strconv.uint64pow10" =some q->q<a.heap.size:=fun q e=>by
 unfold d7 Lib.TabIs World.var? at h;simp only[e,Mp] at h;rcases cA q a.heap.size with d|d
 ·exact d
 ·simp [wQ d] at h
end
structure VH(x:aP)(T:List (List Rw))(fs:List Fu)(zq:Fu->aC->Rat)(DD MM:Nat):Prop where
 hz:∀f∈fs,∀t,Dv x T f.1 t->yM f.2.1 t f.2.2 (zq f t)
 gg:∀v t,hZ DD MM 1 1 (eI v (fun f=>zq f t) fs)
 hp:∀v t i,i<=fs.length->bR 100000 (eI v (fun f=>zq f t) (fs.take i))
 hf:∀f∈fs,∀t,bR 100000 (zq f t)
structure mA(x:aP)(D:List (List Rw))(jb pb eb jx rb ab ob:Nat)(wB:au)(zs:List Value)(fs:List Fu)(attrs:List Nat)(Af:aQ)(cf:Nat)(Aa:aQ)(ca:Nat)(vl:List aC->Rat)(done:List (List aC))(W:au):Prop where
 jm:dy x pb W
 jB:gO x (aT x D) jb pb W
 be:aq W eb tEn [av 0]
 bj:aq W jx tJp [aI jb 0]
 br:aq W rb tRg (zs++ [.func (.func 61) #[] #[],.func (.func 96) #[] #[],.func (.func 97) #[] #[]])
 hz:∃z0 Z0 z1 z2 y0 Y0 y1 y2 o0 O0 o1 o2 q0 Q0 q1 q2,zs= [.bool z0,.slice Z0 z1 z2,.bool y0,.slice Y0 y1 y2,.bool o0,.slice O0 o1 o2,.bool q0,.slice Q0 q1 q2]/\bQ W (.agg #[.bool z0,.slice Z0 z1 z2,.bool y0,.slice Y0 y1 y2]) 0/\bQ W (.agg #[.bool o0,.slice O0 o1 o2,.bool q0,.slice Q0 q1 q2]) 1
 ba:aq W ab ud [.slice Af fs.length cf,.slice Aa attrs.length ca]
 fl:Ls g7 lD W (.slice Af fs.length cf) fs
 il:IL W (.slice Aa attrs.length ca) (ints attrs)
 JN:∃v,aq W ob mm [v]/\bG fh 2 sG wB.heap.size W v (done.map fun k=>(k,vl k))
 tab:d7 W
 tl:∀q,prog.globalNamed "internal/strconv.uint64pow10" =some q->q<wB.heap.size
 lt:pb<wB.heap.size/\ob<wB.heap.size/\eb<wB.heap.size/\jx<wB.heap.size/\rb<wB.heap.size/\ab<wB.heap.size/\jb<wB.heap.size/\wB.heap.size<=W.heap.size
 ch:aZ [pb,ob] wB W
section
variable{x:aP}{D:List (List Rw)}{jb pb eb jx rb ab ob:Nat}{wB:au}{zs:List Value}{fs:List Fu}{attrs:List Nat}{Af:aQ}{cf:Nat}{Aa:aQ}{ca:Nat}{vl:List aC->Rat}{done:List (List aC)}{W W':au}
theorem dy.ne(h:dy x pb W){t:TypeId}(i:aq W d t u):d≠pb:=by obtain⟨m,f,e,_⟩:=h;exact Jk i e
theorem gO.arC{T:List (List Rw)}(h:gO x T jb pb W)(k:W'.heap[jb]? =W.heap[jb]?)(i:∀t,t≠mm->t≠fh->Kept t W W'):gO x T jb pb W':=by
 have i:∀t:TypeId,(t !=mm&&t !=fh)=true->Kept t W W':=fun t f=>by rw[cV,bne_iff_ne,bne_iff_ne] at f;exact i t f.1 f.2
 have g:∀l:List TypeId,(l.all fun t=>t !=mm&&t !=fh)=true->∀t∈l,Kept t W W':=fun l j t f=>i t (rH.1 j t f);obtain⟨A,c,B,d,E,e,At,C,J,F,l,r,q,p,o,n,m⟩:=h;refine⟨A,c,B,d,E,e,At,C,J,F,l,k.trans r,?_,gF tR p (g _ Od),gF cJ o (g _ Od),n,m⟩;obtain⟨K,G,I,z,H,y,w,v,u,s⟩:=q;exact⟨K,G,I,z,H,y,w,gF nM v (g _ Od),gF oJ u (g _ Od),gF vp s (g _ Od)⟩
theorem mA.Oa(h:mA x D jb pb eb jx rb ab ob wB zs fs attrs Af cf Aa ca vl done W)(k:aZ [pb] W W')(I:dy x pb W'):mA x D jb pb eb jx rb ab ob wB zs fs attrs Af cf Aa ca vl done W':=by
 have j:∀t,Kept t W W':=fun t=>h.jm.kept k t;have g:=k.NV;obtain⟨s,M,r,q,z,N,y,w,H,P,G,F,C,O,q1,q2,e,f1,f2⟩:=h.hz;obtain⟨v,p,L⟩:=h.JN;have o:jb≠pb:=(by obtain⟨A,c,B,d,E,e,At,Q,T,R,l,K,_⟩:=h.jB;exact h.jm.ne K)
 obtain⟨m,f,n,_⟩:=h.jm;exact⟨I,h.jB.bX h.jm o k,h.be.only g (h.jm.ne h.be),h.bj.only g (h.jm.ne h.bj),h.br.only g (h.jm.ne h.br),⟨s,M,r,q,z,N,y,w,H,P,G,F,C,O,q1,q2,e,f1.keep (j _),f2.keep (j _)⟩,h.ba.only g (h.jm.ne h.ba),gF lZ h.fl (fun u _=>j u),gF cJ h.il (fun u _=>j u),
  ⟨v,p.only g (h.jm.ne p),L.only jq g h.lt.1 (fun u _=>j u)⟩,h.tab.afd n g,h.tl,⟨h.lt.1,h.lt.2.1,h.lt.2.2.1,h.lt.2.2.2.1,h.lt.2.2.2.2.1,h.lt.2.2.2.2.2.1,h.lt.2.2.2.2.2.2.1,aV h.lt.2.2.2.2.2.2.2 k.size⟩,h.ch.trans (k.mono fun i J _=>by rw[bE.1 J];simp)⟩
theorem mA.ext(h:mA x D jb pb eb jx rb ab ob wB zs fs attrs Af cf Aa ca vl done W)(k:Ext W W'):mA x D jb pb eb jx rb ab ob wB zs fs attrs Af cf Aa ca vl done W':=h.Oa (.gV k) (h.jm.ext k)
theorem mA.kept(h:mA x D jb pb eb jx rb ab ob wB zs fs attrs Af cf Aa ca vl done W)(k:fj [pb,ob] fh W W')(t:TypeId)(p:t≠mm)(o:t≠fh):Kept t W W':=fun g w s d=>by
 refine(k.block g (ie d) (fun j=> ?_) fun r q e=> ?_).trans d
 ·simp only[aK,bJ,or_false] at j;rcases j with rfl|rfl
  ·obtain⟨m,f,⟨D,⟨u,i,n,_⟩,_⟩,_⟩:=h.jm;rw[n] at d;injection d with d;cases d
  ·obtain⟨v,l,_⟩:=h.JN;unfold aq at l;rw[l] at d;injection d with d;injection d with _ d;exact p d.symm
 ·rw[e] at d;injection d with d;injection d with _ d;exact o d.symm
theorem mA.more(h:mA x D jb pb eb jx rb ab ob wB zs fs attrs Af cf Aa ca vl done W){k:List aC}(F:aq W ob mm [p])(i:W.ownsRow wB.heap.size fh 2 p (done.map fun k=>(k,vl k)).length u)(hc:Ch (sG W) u (done.map fun k=>(k,vl k)))(Y:sG W v (k,vl k))
 (Z:m.ownsRow wB.heap.size fh 2 q ((done.map fun k=>(k,vl k)).length+1) (u++v)) (y:W.grownBy m p.ownBlock) (e:m.setCell (aD ob 0) q=n):mA x D jb pb eb jx rb ab ob wB zs fs attrs Af cf Aa ca vl (done++ [k]) n/\fj [pb,ob] fh W n:=by
 subst e;have hk:∀t,t≠mm->t≠fh->Kept t W m:=fun t _ s=>tP i y (gU s);obtain⟨O,Z0,N,M,R,Y0,Q,P,X,O0,V,U,T,Q0,q1,q2,ez,f1,f2⟩:=h.hz;have H:∀{g:Nat} {t:TypeId} {l:List Value},aq W g t l->g<wB.heap.size->aq m g t l:=fun j C=>gK j i y C;have I:=H F h.lt.2.1;have s:Only ob m (m.setCell (aD ob 0) q):=(gD ob m).bh 0 q;have o:∀t,t≠mm->t≠fh->Kept t W (m.setCell (aD ob 0) q):=fun t a b=>(hk t a b).trans (s.kept I a.symm);have z:∀{g:Nat} {t:TypeId} {l:List Value},aq W g t l->t≠mm->g<wB.heap.size->aq (m.setCell (aD ob 0) q) g t l:=fun j hn C=>(H j C).only s fun e=>by subst e;unfold aq at j F;rw[F] at j;injection j with j;injection j with _ j;exact hn j.symm
 have G:∀{g:Nat},g<wB.heap.size->g<W.heap.size:=fun C=>cy C h.lt.2.2.2.2.2.2.2;have J:pb≠ob:=(h.jm.ne F).symm;have L:jb≠ob:=fun e=>by obtain⟨A,c,B,d,E,e',At,ct,Al,cl,l,j,_⟩:=h.jB;subst e;unfold aq at j F;rw[F] at j;injection j with j;injection j with _ j;exact absurd j Od
 have r:∀{g:Nat},g<wB.heap.size->g≠ob->(m.setCell (aD ob 0) q).heap[g]? =W.heap[g]?:=fun {g} C K=>(s.block g (cy (G C) y.size) (by simpa using K)).trans (y.block g (G C) fun e=>by have:=(i.lt g e.symm).1;omega);have hJ:gO x (aT x D) jb pb (m.setCell (aD ob 0) q):=(by exact h.jB.arC (r h.lt.2.2.2.2.2.2.1 L) o)
 refine⟨⟨?_,hJ,z h.be Od h.lt.2.2.1,z h.bj Od h.lt.2.2.2.1,z h.br Od h.lt.2.2.2.2.1,⟨O,Z0,N,M,R,Y0,Q,P,X,O0,V,U,T,Q0,q1,q2,ez,f1.keep (o _ Od Od),f2.keep (o _ Od Od)⟩,z h.ba Od h.lt.2.2.2.2.2.1,gF lZ h.fl (fun f w=> ?_),gF cJ h.il (fun f w=> ?_),⟨q,I.bh 0 q,?_⟩,(h.tab.grow i y h.tl).ars I s,h.tl,?_,(h.ch.grown i y (aL _)).only s (.inl Ou)⟩,(((fj.of (.gV (aB W))).grow i y).only s (.inl Ou))⟩
 ·exact h.jm.keep (r h.lt.1 J) (o _ Od Od) (o _ Od Od)
 ·exact o f axQ axQ
 ·exact o f axQ axQ
 ·rw[kE];exact(iF jq (fun f w=>by rw[bE.1 w];decide) i hc Y Z y).only jq s h.lt.2.1 fun f w=>by rw[bE.1 w];exact s.kept I Od
 ·exact⟨h.lt.1,h.lt.2.1,h.lt.2.2.1,h.lt.2.2.2.1,h.lt.2.2.2.2.1,h.lt.2.2.2.2.2.1,h.lt.2.2.2.2.2.2.1,aV h.lt.2.2.2.2.2.2.2 (aV y.size s.size)⟩
theorem alf{zq:Fu->aC->Rat}{b c:Nat}{k:List aC}{f0:Fo}(h:mA x D jb pb eb jx rb ab ob wB zs fs attrs Af cf Aa ca vl done W)(ok:bV x)(hD:ip x D)(a6:x.ai.length<=6)(r6:x.ay.length<=6)(x_:0<d)(x9:1000000*d<=e)(x8:e<10^100)(s:VH x (aT x D) fs zq d e)
 (hw:Whole x.ai.length (bu x) (bM x) f0) (zY:∀k,vl k=mn (bu x) (univ (aT x D)) f0 (fun _=> []) (fun v t=>eI v (fun f=>zq f t) fs) (bL (aT x D)) (dO (fun _=>none) attrs k)) (zZ:∀k,bR 1000 (vl k))
 (hF:kA W b (dO (fun _=>none) attrs k)) (hb:wB.heap.size<=b) (hd:done.length<2000) (hT:TL W (.slice E k.length c) k):
 Calls prog 100 #[.slice E k.length c,.map (some b),aI ob 0,aI eb 0,aI jx 0,aI rb 0,aI ab 0] W fun n o=>n= .returned (.bool true)/\mA x D jb pb eb jx rb ab ob wB zs fs attrs Af cf Aa ca vl (done++ [k]) o/\fj [pb,ob] fh W o:=by
 have HI:=af h;obtain⟨z0,Z0,z1,z2,y0,Y0,y1,y2,o0,O0,o1,o2,q0,Q0,q1,q2,rfl,f1,f2⟩:=h.hz;obtain⟨v,KG,hOw⟩:=h.JN;have hlen:(done.map fun k=>(k,vl k)).length=done.length:=bP ..;obtain⟨Ao0,co0,uh,rfl,_,_, -, -⟩:=hOw.parts;have kR:jb≠pb:=(by obtain⟨E,c,B,m,g,n,At,ct,Al,cl,l,hB,_⟩:=h.jB;exact h.jm.ne hB)
 have hbp:b≠pb:=by have:=h.lt.1;omega
 have CR:=af (fun W' (Q:Ext W W')=>apu jb pb x D ok hD a6 r6 d e x_ x9 x8 (some b) (dO (fun _=>none) attrs k) (xH (dO (fun _=>none) attrs k) (fun v t=>eI v (fun f=>zq f t) fs)) 102 (aI ab 0) z0 Z0 z1 z2 y0 Y0 y1 y2 o0 O0 o1 o2 q0 Q0 q1 q2 W' (h.jB.ext Q) (h.jm.ext Q) kR
  (fun W2 hc=>L0.look (hF.same ((hc.block b (cy hF.lt Q.size) (by simpa using hbp)).trans (Q.block b hF.lt))).fxM) (f1.ext Q) (f2.ext Q) (fun v t ht=>aky _ v t ht) (fun v t _ _=>by
    unfold xH;split
    ·exact s.gg v t
    ·exact hZ.zero.mono Om (aU _) (aU _)) (fun _ _=>by rfl)
  (fun W2 hc v t hv atP qU=>by rw[akx _ v t qU];have h2:=h.ext Q;exact aol Af cf ab (.slice Aa attrs.length ca) fs v t (fun f=>zq f t) W2 (h2.ba.only hc.NV (h2.jm.ne h2.ba)) (gF lZ h2.fl fun u _=>h2.jm.kept hc u) (fun f hf n=>s.hz f hf t (by rw[n];exact atP)) (fun i O=>s.hp v t i O) (fun f hf _=>s.hf f hf t) Om))
 have HV:ah (∀p m,dr x.ai.length p m->Whole x.ai.length (bu x) (bM x) (et x.ai.length p (fZ x m) x.ai.length none)->(cX.prod (kids x.ai.length p none) fun c=>vT cX x (aT x D) p (fZ x m) (xH (dO (fun _=>none) attrs k) (fun v t=>eI v (fun f=>zq f t) fs)) (fun k=>(k:Rat)) (univ (aT x D)) c fun _=> [])=vl k):=fun p m r w=>by rw[apt r,zY k];exact alv w hw (Fc _) (Fc _) (fun _ h=>h) (fun h _ y hy t ht=>by obtain⟨l,hl,hy⟩:=Ta hy;exact S9 hl hy ht) fun v hv=>by obtain⟨r,hr,hm⟩:=ok.used v hv;obtain⟨i,O,n⟩:=iE hr;exact⟨i,dL.2 O,(vq O fun b hb=>(ok.ri _ (a8 O) b hb).1).2 (by rw[n];exact hm)⟩
 have HVF:=af (zZ k);have HT:=af hT;have c2:=KG.aF 0;have c4:=h.bj.aF 0;have r0:=h.br.aF 0;have r1:=h.br.aF 1;have r2:=h.br.aF 2;have r3:=h.br.aF 3;have r4:=h.br.aF 4;have r5:=h.br.aF 5;have r6':=h.br.aF 6;have r7:=h.br.aF 7;have r8:=h.br.aF 8;have r9:=h.br.aF 9;have VV:=h.br.aF 10;have hlt:=h.lt;have QD:=af (CR W (aB W));clear h KG hOw f1 f2 hF zY zZ s hw x_ x9 x8 hT;generalize hG:(done.map fun k=>(k,vl k))=G at*;have HG:=af hG;have hn:((G.length:Int)==2000)=false:=beq_eq_false_iff_ne.2 Om;have hGl:G.length<=2000:=Om;clear hG hlen;go_enter func100,ntmps100;go_upto_region 4 with fail
 go_wp2_with fail
 refine QD.mono ?_;rintro e1 w1 ⟨u,p,m,rfl,hr,qa,hu,L,F⟩;rw[HV.ae p m hr qa] at hu;have wK:=af (HI.Oa F L);have jI:=af F;have Ha:=af (gF jO HT fun u _=>HI.jm.kept F u);have rp:=af hu;obtain⟨a0,A0,a1,a2,b0,B0,b1,b2,rfl, -, -⟩:=hu.parts;clear hr qa hu L F c2 c4 r0 r1 r2 r3 r4 r5 r6' r7 r8 r9 VV;go_upto_region 5 with fail
 refine FU rp fun w2 Y Lg _=> ?_;obtain⟨a0,A0,a1,a2,b0,B0,b1,b2,V,hF2⟩:=Lg.ae;have J:=af (wK.ext Y);have iA:=af (jI.ext Y);have py:=af (eB Ha Y);have z7:w1.heap.size<w2.heap.size:=V.lt;have awm:=jI.size;generalize w1.heap.size=sb at*;have iN:=af V;have EA:=af hF2;clear V hF2;obtain⟨v2,KF,M⟩:=J.JN;rw[HG.ae] at M;obtain⟨Ao,co,xs,rfl,_,_,HOr,He⟩:=M.parts;have HBO:=af KF;have hgb:=J.lt.2.2.2.2.2.2.2;clear KF M;obtain⟨S,R⟩:∃S:World->Prop,S=fun o=>aA o ob 0 (.slice Ao G.length co)/\F4 o sb (.bool a0) (.slice A0 a1 a2) (.bool b0) (.slice B0 b1 b2):=⟨_,rfl⟩;have bK:ah (∀o,S o->aA o ob 0 (.slice Ao G.length co)/\aA o sb 0 (.bool a0)/\aA o sb 1 (.slice A0 a1 a2)/\aA o sb 2 (.bool b0)/\aA o sb 3 (.slice B0 b1 b2)):=by rw[ah,R];exact fun _ h=>h
 have Z:ah (∀o,Ext w2 o->S o):=(by rw[ah,R];exact fun o hx=>⟨(HBO.ext hx).aF 0,(iN.ext hx).four⟩);clear R;have I:=af (aB w2).drew;have aJ:=af (Z _ I);refine cG (S:=S) (T:=fun j=>decide (6<=j)) Ok ?_;generalize w2.drew=wd at*;refine ax 0 19 ?_;refine ax 1 20 ?_;refine ax 2 21 ?_;refine aO 3 ?_;intro K C;go_simp;refine(TA _ _ wd (EA.ext I) HVF Od (J.tab.ext I)).mono ?_;rintro e3 w3 ⟨rfl,hx3⟩;have X:=af (I.trans hx3);have qo:=af (Z _ X);refine C.ae _ _ (fun _=>qo.ae) ?_;clear C hx3;have aJ:=qo;refine ax 4 23 ?_;refine aO 5 ?_;intro K C;go_simp;refine C.ae _ _ (fun _=>Z _ (X.alloc _)) ?_;refine aR fun WZ cI BZ=> ?_;have q:=af (X.trans cI);have hwz:=q.size;have HIZ:=af (J.ext q);have Em:=af (eB py q);have A:=af (xm HOr q);have YL:=af (FT (fun c x hc=>jq _ _ _ _ (fun _ _=>Iz q) hc) He);clear C;have dC:(G.length+1)*40<=140737488355328:=Om;refine aO 6 ?_;intro K C;refine nV rfl ?_;refine rU _ _ mm rfl wB.heap.size aco _ _ _ rfl A.ae _ [.slice E k.length c,aM (cP (vl k))] BZ.ae 1 1 rfl rfl rfl dC Om ?_;intro v' w5 N P _;obtain⟨A5,c5,rfl, -, -, -⟩:=eL N;obtain⟨w6,Pa⟩:∃w6,w5.setCell (aD ob 0) (.slice A5 (G.length+1) c5)=w6:=⟨_,rfl⟩;have U:=HBO.ext q;have H:=gK U A P hlt.2.1;have hG:=HG.ae;subst hG;have z:=HIZ.more U A YL (k:=k) ⟨E,c,rfl,Em⟩ N P Pa;have Ew:=af z.1;have rv:=af ((fj.of (iA.mono fun i O _=>aK.2 (.inl (bE.1 O)))).trans ((fj.of (.gV q.ae)).trans z.2));rw[bP] at Pa;have p5:=H.aF 0;have q5:=H.frozen 0;have WH:=H.lt;clear z U H N P;simp only[Act.put,eo,d9,ep];refine C.ae _ _ Oe ?_;clear C;refine aO 7 ?_;intro K C;go_simp;refine C.ae _ _ Oe ?_;refine bY Ok ?_;clear C;go_wp2_with fail
 exact bodyPost_ret (v:= .bool true) (by simp [results,results100,go_sem]) rfl ⟨rfl,Ew,rv⟩
end

def gZ(a:List aC)(b:List Nat):List aC:=b.map fun k=>a.getD k []
def aj'{b:List aC}(hi:a<i)(hk:i[a]<b):gZ b (i.take (a+1))=gZ b (i.take a)++ [b[i[a]]]:=by unfold gZ;exact afL
def abY(b:List aC)(a:List Nat):(gZ b a).length=a.length:=by unfold gZ;rw[bP]
abbrev Pt:=(Nat->aH)×Int
def mv(e:Nat->aH)(l:List Nat)(y:List aH):Nat->aH:=fun b=>if b∈l then nY l b y else e b
def zQ(S:Nat->Bool)(e:Nat->aH):List Nat->List aH->Bool
 |a::l,t::y=>(!S a||e a==t)&&zQ S e l y
 |_,_=>true
def k9(at_:Nat->List Nat)(b:List Nat)(a:Nat):Bool:=b.any fun r=>(at_ r).contains a
def JE(S:Nat->Bool)(l:List Nat)(a:List (List aH×Int))(b:List Pt):List Pt:=b.flatMap fun t=>(a.filter fun y=>zQ S t.1 l y.1).map fun y=>(mv t.1 l y.1,t.2*y.2)
def wI(at_:Nat->List Nat)(R:fG)(r:Nat)(e:Nat->aH):Int:=match fE (at_ r) (R r) e with
 |some y=>y.2
 |none=>0
def pI:List Int->Int:=fun l=>l.foldr (·*·) 1
section
variable{at_:Nat->List Nat}{R:fG}
structure l_(at_:Nat->List Nat)(R:fG)(dn:List Nat)(ts:List Pt):Prop where
 J8:∀t∈ts,∀a,k9 at_ dn a=false->t.1 a= []
 row:∀t∈ts,∀r∈dn,fE (at_ r) (R r) t.1≠none
 wt:∀t∈ts,t.2=pI (dn.map fun r=>wI at_ R r t.1)
 all:∀e:Nat->aH,(∀a,k9 at_ dn a=false->e a= [])->(∀r∈dn,fE (at_ r) (R r) e≠none)->∃t∈ts,t.1=e
 ne:ts.Pairwise fun s t=>s.1≠t.1
theorem l_.start:l_ at_ R [] [(fun _=> [],1)] where
 J8:=fun t b a _=>by rw[bE.1 b]
 row:=fun t _ r c=>by cases c
 wt:=fun t b=>by rw[bE.1 b];rfl
 all:=fun e d _=>⟨_,bE.2 rfl,funext fun a=>(d a rfl).symm⟩
 ne:=EM _ _
theorem Sr:k9 at_ i a=true↔∃r∈i,a∈at_ r:=by unfold k9;simp only[mU,List.contains_eq_mem,decide_eq_true_eq]
theorem I6{t:aH}{y:List aH}:nY (a::i) b (t::y)=if a=b then t else nY i b y:=by
 unfold nY;by_cases h:a=b
 ·subst h;simp
 ·rw[if_neg h,Rb,show(a==b)=false from beq_eq_false_iff_ne.2 h];rfl
theorem Ts:∀{l:List Nat} {y:List aH},l.Nodup->y.length=l.length->l.map (fun a=>nY l a y)=y
 | [],[],_,_=>rfl
 |a::l,t::y,c,d=>by obtain⟨h,g⟩:=ic.1 c;rw[jc,I6,if_pos rfl];congr 1;refine Eq.trans (kW fun b f=> ?_) (Ts g (Nat.succ.inj d));rw[I6,if_neg fun e:a=b=>h (e▸f)]
theorem TQ{e:Nat->aH}{y:List aH}(a:i.Nodup)(c:y.length=i.length):i.map (mv e i y)=y:=by refine Eq.trans (kW fun b d=> ?_) (Ts a c);unfold mv;rw[if_pos d]
theorem TP{e:Nat->aH}{y:List aH}(h:a∉i):mv e i y a=e a:=if_neg h
theorem TC{S:Nat->Bool}{e:Nat->aH}:∀{l:List Nat} {y:List aH},l.Nodup->y.length=l.length->(zQ S e l y=true↔∀b∈l,S b=true->e b=nY l b y)
 | [],[],_,_=>by simp [zQ]
 |a::l,t::y,j,k=>by
  obtain⟨i,n⟩:=ic.1 j;unfold zQ;rw[cV,TC n (Nat.succ.inj k),kF,rG,beq_iff_eq];constructor
  ·rintro⟨f,m⟩ b c d;rw[I6];rcases aK.1 c with rfl|c
   ·rw[if_pos rfl];rcases f with f|f
    ·rw[d] at f;cases f
    ·exact f
   ·rw[if_neg fun e:a=b=>i (e▸c)];exact m b c d
  ·intro h;refine⟨?_,fun b c d=> ?_⟩
   ·cases d:S a with
    |false=>exact .inl rfl
    |true=>have g:=h a eH d;rw[I6,if_pos rfl] at g;exact .inr g
   ·have g:=h b (gQ _ c) d;rwa[I6,if_neg fun e:a=b=>i (e▸c)] at g
theorem Ff{a:List (List aH×Int)}{e:Nat->aH}{y:List aH×Int}(h:fE i a e=some y):y∈a/\y.1=i.map e:=by refine⟨yV h,?_⟩;have b:=wT h;simpa using b
def Uq(at_:Nat->List Nat)(R:fG):Prop:=∀r,(at_ r).Nodup/\(∀y∈R r,y.1.length=(at_ r).length)/\(R r).Pairwise fun y z=>y.1≠z.1
theorem aj5(h:Uq at_ R){y:List aH×Int}(g:y∈R a){e:Nat->aH}(n:(at_ a).map e=y.1):fE (at_ a) (R a) e=some y:=by
 cases d:fE (at_ a) (R a) e with
 |none=>unfold fE at d;have:=wR.1 d y g;simp [n] at this
 |some z=>
  obtain⟨o,f⟩:=Ff d;rw[n] at f;by_cases c:y=z
  ·rw[c]
  ·have k:=(h a).2.2;exfalso;obtain⟨i,m,rfl⟩:=iE g;obtain⟨j,l,rfl⟩:=iE o;rcases Mo i j with b|b|b
   ·exact(nI.1 k i j m l b) f.symm
   ·subst b;exact c rfl
   ·exact(nI.1 k j i l m b) f
theorem al4:pI (L++ [B])=pI L*B:=by
 induction L with
 |nil=>show B*1=1*B;omega
 |cons b L c=>show b*pI (L++ [B])=b*pI L*B;rw[c,Int.mul_assoc]
theorem l_.step(O:Uq at_ R){D:List Pt}(h:l_ at_ R i D)(r:Nat):l_ at_ R (i++ [r]) (JE (k9 at_ i) (at_ r) (R r) D):=by
 obtain⟨C,f, -⟩:=O r;have w:∀a,k9 at_ (i++ [r]) a=(k9 at_ i a||(at_ r).contains a):=fun a=>by unfold k9;rw[Rc];simp
 have o:∀t∈D,∀y∈R r,zQ (k9 at_ i) t.1 (at_ r) y.1=true->(∀a,k9 at_ i a=true->mv t.1 (at_ r) y.1 a=t.1 a)/\fE (at_ r) (R r) (mv t.1 (at_ r) y.1)=some y/\∀q∈i,fE (at_ q) (R q) (mv t.1 (at_ r) y.1)=fE (at_ q) (R q) t.1:=by
  intro t d y c n;have S:∀a,k9 at_ i a=true->mv t.1 (at_ r) y.1 a=t.1 a:=fun a m=>by
   by_cases j:a∈at_ r
   ·unfold mv;rw[if_pos j,(TC C (f y c)).1 n a j m]
   ·exact TP j
  exact⟨S,aj5 O c (TQ C (f y c)),fun q g=>MC fun a m=>S a (Sr.2 ⟨q,g,m⟩)⟩
 have mem:∀u,u∈JE (k9 at_ i) (at_ r) (R r) D↔∃t∈D,∃y∈R r,zQ (k9 at_ i) t.1 (at_ r) y.1=true/\u=(mv t.1 (at_ r) y.1,t.2*y.2):=by
  intro u;unfold JE;simp only[mS,b_,eE];constructor
  ·rintro⟨t,d,y,⟨c,n⟩,rfl⟩;exact⟨t,d,y,c,n,rfl⟩
  ·rintro⟨t,d,y,c,n,rfl⟩;exact⟨t,d,y,⟨c,n⟩,rfl⟩
 refine⟨?_,?_,?_,?_,?_⟩
 ·intro u B a m;obtain⟨t,d,y,c,n,rfl⟩:=(mem u).1 B;rw[w,Bool.or_eq_false_iff] at m;have j:a∉at_ r:=fun j=>by have:=m.2;simp [j] at this
  show mv t.1 (at_ r) y.1 a= []
  rw[TP j];exact h.J8 t d a m.1
 ·intro u B q g;obtain⟨t,d,y,c,n,rfl⟩:=(mem u).1 B;obtain⟨T,I,H⟩:=o t d y c n;rcases bO.1 g with g|g
  ·rw[H q g];exact h.row t d q g
  ·rw[bE.1 g,I];exact fun e=>by cases e
 ·intro u B;obtain⟨t,d,y,c,n,rfl⟩:=(mem u).1 B;obtain⟨T,I,H⟩:=o t d y c n;rw[kE,Il,al4,h.wt t d];have Y:(i.map fun q=>wI at_ R q (mv t.1 (at_ r) y.1))=i.map fun q=>wI at_ R q t.1:=kW fun q g=>by unfold wI;rw[H q g]
  show _=pI (i.map fun q=>wI at_ R q (mv t.1 (at_ r) y.1))*wI at_ R r (mv t.1 (at_ r) y.1)
  rw[Y];congr 1;unfold wI;rw[I]
 ·intro e V Q;obtain⟨y,c⟩:=Ia.1 (Q r (bO.2 (.inr (bE.2 rfl))));obtain⟨p,A⟩:=Ff c;obtain⟨t,d,G⟩:=h.all (fun a=>if k9 at_ i a=true then e a else []) (fun a m=>if_neg (by rw[m];exact Bool.false_ne_true)) fun q g=>by rw[MC (e:=e) fun a m=>if_pos (Sr.2 ⟨q,g,m⟩)];exact Q q (bO.2 (.inl g))
  have x:∀b∈at_ r,nY (at_ r) b y.1=e b:=fun b N=>by rw[A];have W:=Ts (l:=at_ r) (y:=(at_ r).map e) C (bP _);exact List.map_inj_left.1 W b N
  have F:zQ (k9 at_ i) t.1 (at_ r) y.1=true:=(TC C (f y p)).2 fun b N k=>by rw[G,x b N];exact if_pos k
  refine⟨_,(mem _).2 ⟨t,d,y,p,F,rfl⟩,funext fun a=> ?_⟩;show mv t.1 (at_ r) y.1 a=e a
  by_cases j:a∈at_ r
  ·unfold mv;rw[if_pos j,x a j]
  ·rw[TP j,G];show(if k9 at_ i a=true then e a else [])=e a
   by_cases k:k9 at_ i a=true
   ·exact if_pos k
   ·rw[if_neg k];exact(V a (by rw[w,Q8.2 k];simpa using j)).symm
 ·unfold JE;refine Zr.2 ⟨fun t d=> ?_,?_⟩
  ·refine rD.2 (QO (fun {y z} c E L e=>L ?_) ((O r).2.2.filter _));have c:=(eE.1 c).1;have E:=(eE.1 E).1;have X:mv t.1 (at_ r) y.1=mv t.1 (at_ r) z.1:=e;rw[<-TQ (e:=t.1) C (f y c),X,TQ C (f z E)]
  ·refine QO (fun {s t} P d M u B v U e=>M (funext fun a=> ?_)) h.ne;obtain⟨y,c,rfl⟩:=b_.1 B;obtain⟨z,E,rfl⟩:=b_.1 U;obtain⟨p,A⟩:=eE.1 c;obtain⟨K,J⟩:=eE.1 E;by_cases k:k9 at_ i a=true
   ·rw[<-(o s P y p A).1 a k,<-(o t d z K J).1 a k];exact congrFun e a
   ·have k:=Q8.2 k;rw[h.J8 s P a k,h.J8 t d a k]
end
section
variable{at_:Nat->List Nat}{R R':fG}
structure Less(at_:Nat->List Nat)(m:Nat)(R R':fG):Prop where
 sub:∀r,(R' r).Sublist (R r)
 keep:∀e:Nat->aH,(∀r,r<m->fE (at_ r) (R r) e≠none)->∀r,r<m->fE (at_ r) (R' r) e≠none
end
section
variable{at_:Nat->List Nat}{R R':fG}{m:Nat}
end
end Go.Proofs.YtehkcnbodcdijaaGreatDoor
