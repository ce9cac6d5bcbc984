/- Texts of the proof, part 22. -/
import Derived.Test.YtadbchhdjbghkaaGreatDoorA21
namespace Go.Proofs.YtadbchhdjbghkaaGreatDoor
set_option maxHeartbeats 8000000
set_option linter.all false
set_option maxRecDepth 100000
variable{aq:Prop}
open Go.RowKit Go.Lib Go.Maps Go.ChangeShapes Go.WideShapes Go.ChangeAt Go.Proofs.Tryz
variable{a b c d e f g h:Nat}{i j k l:List Nat}{m n o:World}{p q r s:Value}{t u v:List Value}{w x:TypeId}{y z:Nat→Option Nat}{A:Nat→List Nat}{B C:Int}{E F:Option Addr}{H I:Rat}{J:Nat→Nat}{K:Nat→Bool}{L:List Int}{N:Array Bool}{O:Option Nat}{Q:Act}{R S:Bool}{T:List UInt8}
def aai{l:List Int}(h:∀a∈l,0<=a):ints (b9 l)=l:=by
 unfold ints b9;rw[Ep];refine(oZ fun a b=> ?_).trans (List.map_id _);have:=h a b;show((a.toNat:Nat):Int)=a
 omega
def aco:(ints i).contains (a:Int)=i.contains a:=by
 rw[lI,nN,nN];unfold ints;rw[dU];constructor
 ·rintro⟨b,c,e⟩;have:b=a:=Om;exact this▸c
 ·exact fun h=>⟨a,h,rfl⟩
def akk(A:aR)(c n:Nat)(p:Nat->Option Nat)(d:Nat->Nat)(r:cX n p d)(hn:n<=12)(nm:ByteArray)(B:aR)(e:Nat)(l:List Nat)(hl:∀a∈l,a<n)(hy:∀a∈l,∀b∈l,a≠b->a∈ly p (d b) b\/b∈ly p (d a) a)(w:au)(ho:IL w (.slice A n c) ((List.range n).map (rH p)))(U:IL w (.slice B l e) (ints l)):
 Calls prog 56 #[.agg #[.slice A n c],.agg #[.string nm,.slice B l e]] w fun e G=>e= .returned (.bool true)/\Ext w G:=by
 have HC:=af (fun W u v (P:Ext w W) J=>ajp A c n p d r u v J hn W (ho.ext P));have X:=af U;have Y:=af hl;have HY:ah (∀a∈l,∀b∈l,a≠b->(ints (ly p (d b) b)).contains (a:Int)=true\/(ints (ly p (d a) a)).contains (b:Int)=true):=fun a ha b hb K=>by rw[aco,aco,nN,nN];exact hy a ha b hb K
 obtain⟨up,s⟩:∃up:Nat->List Int,up=fun b=>ints (ly p (d b) b):=⟨_,rfl⟩;have F:ah (∀W (u v:Nat),Ext w W->v<n->Calls prog 113 #[.agg #[.slice A n c],av u,av v] W fun e G=>e= .returned (.bool ((up v).contains (u:Int)))/\Ext W G):=by rw[s];exact fun W u v P J=>HC W u v P J
 have R:ah (∀a∈l,∀b∈l,a≠b->(up b).contains (a:Int)=true\/(up a).contains (b:Int)=true):=by rw[s];exact HY
 have V:=(bD U).2;go_enter func56,ntmps56;go_upto_region 1 with fail
 refine fR fun W E BO BR=> ?_;have b1:=BR.aF 1;go_upto_region 2 with fail
 go_loopw [6,8,12] (fun _ _ o wr=>∃i:Nat,i<=l/\o=av i/\ah (Ext W wr)) (fun _ _ o _=>l - (RowKit.intOf o).toNat)
 exact⟨0,aV _,rfl,aB W⟩;obtain⟨i,hi,rfl,f⟩:=hrel;by_cases y:i<l
 ·obtain⟨g1,o1,Q,q0⟩:=qb (X.ext (E.trans f)) (k:=i) y (kj aS _);have C:=a_ y;generalize l[i]=a at*;have b1:=(BR.ext f).aF 1;have O:=Y a C;subst Q;go_upto_region 5 with fail
  go_loopw [8,19] (fun _ m wq=>∃j:Nat,j<=l/\m=av j/\ah (Ext W wq)) (fun _ m _=>l - (RowKit.intOf m).toNat)
  exact⟨0,aV _,rfl,f⟩;obtain⟨j,hj,rfl,f⟩:=hrel;by_cases x:j<l
  ·obtain⟨g2,o2,q,q0⟩:=qb (X.ext (E.trans f)) (k:=j) x (kj aS _);have z:=a_ x;generalize l[j]=b at*;have N:=Y b z;injection q with q;injection q with e1 e2 _;subst e1 e2;by_cases D:a=b
   ·subst D;have d1:((a:Int) !=(a:Int))=false:=Ou;go_wp2_with fail
    go_roundw;exact⟨j+1,by omega,by go_num,f⟩;simp [RowKit.intOf];omega
   ·have d1:((a:Int) !=(b:Int))=true:=awV;have T:=af (R a C b z D);have c0:=(BO.ext f).aF 0;have C1:=af (F wr a b (E.trans f) N);go_wp2_with fail
    refine C1.mono ?_;rintro e5 w5 ⟨rfl,I⟩;have g:=af (f.trans I);have c1:=(BO.ext g).aF 0;have Z:=af (F w5 b a (E.trans g) O);cases M:(up b).contains (a:Int) with
    |true=>
     go_wp2_with fail
     go_roundw;exact⟨j+1,by omega,by go_num,g⟩;simp [RowKit.intOf];omega
    |false=>
     have L:(up a).contains (b:Int)=true:=by
      rcases T.ae with h|h
      ·rw[M] at h;cases h
      ·exact h
     rw[L] at Z;go_wp2_with fail;refine Z.mono ?_;rintro e6 w6 ⟨rfl,H⟩;have S:=af (g.trans H);go_wp2_with fail
     go_roundw;exact⟨j+1,by omega,by go_num,S⟩;simp [RowKit.intOf];omega
  ·have t:j=l.length:=Om;subst t;have d1:decide ((l.length:Int)<(l.length:Int))=false:=aY;go_wp2_with fail
   go_roundw;exact⟨i+1,by omega,by go_num,f⟩;simp [RowKit.intOf];omega
 ·have d1:decide ((i:Int)<(l.length:Int))=false:=aY;go_wp2_with fail;exact bodyPost_ret (v:= .bool true) (by simp [results,results56,go_sem]) rfl ⟨rfl,E.trans f⟩
def amE(A:aR)(c n h:Nat)(p:Nat->Option Nat)(d:Nat->Nat)(r:cX n p d)(u:n<=12)(i:ByteArray)(B:aR)(e:Nat)(l:List Nat)(x:∀a∈l,a<n)(o:∀a∈l,∀b∈l,a≠b->a∈ly p (d b) b\/b∈ly p (d a) a)(w:au)(t:IL w (.slice A n c) ((List.range n).map (rH p)))(s:IL w (.slice B l e) (ints l))(y:ar w h uB [.slice A n c]):
 Calls prog 55 #[.agg #[.string i,.slice B l e],aI h 0] w fun e m=>e= .returned (.bool false)/\Ext w m:=by
 have C:=af (fun W (j:Ext w W)=>akk A c n p d r u i B e l x o W (t.ext j) (s.ext j));have z:=af y;go_enter func55,ntmps55;go_upto_region 1 with fail
 refine aT fun W g k=> ?_;have H:=k.aF 0;have G:=k.aF 1;have F:=(z.ext g).aF 0;have D:=af (C W g);go_wp2_with fail
 refine D.mono ?_;rintro e E ⟨rfl,q⟩;have f:=af (g.trans q);go_wp2_with fail
 exact bodyPost_ret (v:= .bool false) (by simp [results,results55,go_sem]) rfl ⟨rfl,f⟩
def ana(b:FuncId)(hid:∀d w,(callFunc b d).run prog w= .ok (.enter b d) w)(t:Value)(x u:Nat->Value)(P:Nat->Bool)(I:World->Prop)(A:aR)(n c:Nat)(w:au)(E:I w)(K:n<=c)(z:c<=maxLen)
 (B:∀W k,I W->k<n->∃g o,A=dC g o/\(aA W g (o+k*2) (x k)/\aA W g (o+k*2+1) (u k)))
 (hF:∀W k,I W->k<n->Calls prog b #[.agg #[x k,u k],t] W fun e l=>e= .returned (.bool (P k))/\I l):
 Calls prog 112 #[.slice A n c,.func (.func b) #[] #[t]] w fun e l=>e= .returned (av (iW P n))/\I l:=by
 have F:=af B;have G:=af hF;have y:c<=9223372036854775807:=z;have q:=af E;go_enter func112,ntmps112;go_upto_region 2 with fail
 have s:ah (∀k,k<0->P k=false):=fun k hk=>by omega
 go_loopw [5,8] (fun _ m wr=>∃j:Nat,j<=n/\m=av j/\ah (I wr)/\ah (∀k,k<j->P k=false)) (fun _ m _=>n - (RowKit.intOf m).toNat)
 exact⟨0,aV _,rfl,q,s⟩;obtain⟨j,J,rfl,r,HB⟩:=hrel;by_cases f:j<n
 ·obtain⟨g,o,D,p⟩:=F _ _ r f;go_split_ands;have H:=G _ _ r f;subst D;go_wp2_with fail
  refine H.mono ?_;rintro e l ⟨rfl,C⟩;have mL:=af C;cases hp:P j with
  |true=>have a:=H7 f hp HB;go_wp2;exact bodyPost_ret (v:=av j) (by simp [results,results112,go_sem]) rfl ⟨by rw[a],mL⟩
  |false=>exact NN
 ·have d1:decide ((j:Int)<(n:Int))=false:=aY;have i:j=n:=Om;subst i;have a:=H8 HB;go_wp2;exact bodyPost_ret (v:=av (-1)) (by simp [results,results112,go_sem]) rfl ⟨by rw[a],r⟩
def anA(a:FuncId)(hid:∀d w,(callFunc a d).run prog w= .ok (.enter a d) w)(h:Value)(j i:Nat->Value)(P:Nat->Bool)(I:World->Prop)(A:aR)(n c:Nat)(w:au)(s:I w)(p:n<=c)(m:c<=maxLen)
 (q:∀W k,I W->k<n->∃g o,A=dC g o/\(aA W g (o+k*2) (j k)/\aA W g (o+k*2+1) (i k)))
 (hF:∀W k,I W->k<n->Calls prog a #[.agg #[j k,i k],h] W fun e f=>e= .returned (.bool (P k))/\I f):
 Calls prog 54 #[.slice A n c,.func (.func a) #[] #[h]] w fun e f=>e= .returned (.bool ((List.range n).any P))/\I f:=by
 have u:=af (ana a hid h j i P I A n c w s p m q hF);have l:=Mw (P:=P) (n:=n);generalize(List.range n).any P=b at*;generalize iW P n=z at*;go_enter func54,ntmps54;go_wp2_with fail
 refine u.mono ?_;rintro e f ⟨rfl,r⟩;have t:=af r;go_wp2;exact bodyPost_ret (v:= .bool b) (by simp [results,results54,go_sem]) rfl ⟨rfl,t⟩
def rG(w:au)(u:Value)(x:aP):Prop:=∃A c p d,u= .agg #[.slice A x.ai.length c]/\IL w (.slice A x.ai.length c) ((List.range x.ai.length).map (rH p))/\Ni x p d
def rG.ext{w':au}{u:Value}{x:aP}(h:rG m u x)(k:Ext m w'):rG w' u x:=by obtain⟨A,c,p,d,e,b,a⟩:=h;exact⟨A,c,p,d,e,b.ext k,a⟩
def amF(v u:Value)(x:aP)(w:au)(h:dN w v x)(ok:bR x)(hu:rG w u x):
 Calls prog 21 #[v,u] w fun e w'=>e= .returned (av 0)/\Ext w w':=by
 have CH:=af (fun W (S:Ext w W)=>Ia v x W (h.ext S) ok);obtain⟨Ao,co,p,dd,rfl,r,V⟩:=hu;obtain⟨A,c,B,d,D,e,rfl,hat,U,F0⟩:=h;have hn:=ok.a12;obtain⟨N,hN⟩:∃N,x.ai.length=N:=⟨_,rfl⟩;have HN:=af hN;have aN:=af ok;have kC:=af V;have C:=af V.TK;rw[hN] at CH hn r C⊢;have pP:=af U;have HOL:=af r;have iB:=(bD r).2;have Y:=(bD U).2;obtain⟨Q,K⟩:∃Q:Nat->Int,Q=rH p:=⟨_,rfl⟩;have HOV:=af K;have HB:ah (∀a,a<N-> -1<=Q a/\Q a<(N:Int)):=fun a f=>by
  rw[K];unfold rH;cases hp:p a with
  |none=>exact⟨yz _,by show(-1:Int)<_;omega⟩
  |some b=>have:=(C.up a b f hp).1;exact⟨by show(-1:Int)<=(b:Int);omega,by show(b:Int)<_;omega⟩
 have XF:ah (∀W,Ext w W->∀a,a<N->∃g o,Ao=dC g o/\aA W g (o+a) (av (Q a))):=fun W S a f=>by obtain⟨g,o,h1, -,h2⟩:=gX (r.ext S) (i:=a) (by rw[bW,iG];exact f);rw[vD,P3] at h2;exact⟨g,o,h1,by rw[K];exact h2⟩
 go_enter func21,ntmps21;go_upto_region 1 with fail
 refine fR fun W HX BX BO=> ?_;have Yg:=af (CH W HX);obtain⟨s0,s1,s2,s3⟩:=BX.four;have JL:=BO.lt;go_wp2_with fail
 refine Yg.mono ?_;rintro e1 w1 ⟨rfl,n⟩;obtain⟨t0,t1,t2,t3⟩:=(BX.ext n).four;have kZ:=af (BX.ext n);have P:=af (BO.ext n);have t:=af (HX.trans n);have o0:=P.aF 0;go_upto_region 7 with fail
 go_loopw [7,26] (fun _ G wr=>∃i:Nat,i<=N/\G=av i/\wr=w1) (fun _ G _=>N - (RowKit.intOf G).toNat)
 exact⟨0,aV _,rfl,rfl⟩;obtain⟨i,hi,rfl,I⟩:=hrel;have I:=I.symm;subst I;by_cases s:i<N
 ·obtain⟨g1,o1,j5,q0⟩:=XF w1 t i s;obtain⟨b1,b2⟩:=HB i s;generalize Q i=z at*;subst j5;have d1:decide (z< -1)=false:=aY;have d2:decide ((N:Int)<=z)=false:=aY;exact U4
 ·obtain rfl:i=N:=Om;have d1:decide ((i:Int)<(i:Int))=false:=aY;go_upto_region 13 with fail
  go_loopw [8,9,10,43] (fun _ _ _ F wq=>∃k:Nat,k<=i/\F=av k/\ah (Ext w1 wq)) (fun _ _ _ F _=>i - (RowKit.intOf F).toNat)
  exact⟨0,aV _,rfl,aB _⟩;obtain⟨k,hk,rfl,O⟩:=hrel;have o0:=(P.ext O).aF 0;by_cases Jx:k<i
  ·have CA:=af (abJ Ao co i p dd C k Jx hn wr (HOL.ext (t.trans O)));go_wp2_with fail;refine CA.mono ?_;rintro e5 w5 ⟨y,rfl, -,H⟩;have M:=af (O.trans H);go_wp2_with fail
   go_roundw;exact⟨k+1,by omega,by go_num,M⟩;simp [RowKit.intOf];omega
  ·obtain rfl:k=i:=Om;have d1:decide ((k:Int)<(k:Int))=false:=aY;obtain⟨t0,t1,t2,t3⟩:=(kZ.ext O).four;have pQ:ah (Calls prog 54 #[.slice B x.ay d,.func (.func 55) #[] #[aI (w.heap.size+1) 0]] wr fun e w'=>e= .returned (.bool false)/\Ext wr w'):=by
    have S:=t.trans O;have E:=fun j (R:j<x.ay.length)=>rp (bU nS pP S) R;obtain⟨T,L⟩:∃T:Nat->Nat->Value,T=fun j q=>(B.map fun a=>(wr.cell? (aC a.block (a.off+q*2+j))).getD undef).getD undef:=⟨_,rfl⟩;have h1:=anA 55 (fun _ _=>by rfl) (aI (w.heap.size+1) 0) (T 0) (T 1) (fun _=>false) (fun W=>Ext wr W) B x.ay d wr (aB wr) Y.1 Y.2
     (fun W j hW R=>by
       obtain⟨g,o,Bk,m,dk,hA,hg,q1,q2, -⟩:=E j R;subst hA;rw[L];refine⟨g,o,rfl,(hW.cell (p:=aC g (o+j*2)) hg).trans ?_,(hW.cell (p:=aC g (o+j*2+1)) hg).trans ?_⟩
       ·show _=some ((wr.cell? (aC g (o+j*2+0))).getD undef)
        rw[iq,q1];rfl
       ·show _=some ((wr.cell? (aC g (o+j*2+1))).getD undef)
        rw[q2];rfl)
     (fun W j hW R=>by
       obtain⟨g,o,Bk,m,dk,hA,hg,q1,q2,Z⟩:=E j R;have e1:T 0 j=aL x.ay[j].1:=by
        rw[L,hA];show(wr.cell? (aC g (o+j*2+0))).getD undef=_
        rw[iq,q1];rfl
       have e2:T 1 j= .slice Bk m dk:=by
        rw[L,hA];show(wr.cell? (aC g (o+j*2+1))).getD undef=_
        rw[q2];rfl
       rw[e1,e2];have hm:=a_ R;have J:=aN.ri _ hm;have s:=aai (l:=x.ay[j].2) fun a f=>(J a f).1;obtain⟨rQ, -, -⟩:=bD Z;have X:m=(b9 x.ay[j].2).length:=by unfold b9;rw[bW];exact rQ
       subst X;refine(amE Ao co k (w.heap.size+1) p dd C hn _ Bk dk (b9 x.ay[j].2) (fun a f=> ?_) (fun a f b hb hne=> ?_) W (HOL.ext (S.trans hW)) (by rw[s];exact Z.ext hW) (P.ext (O.trans hW))).mono fun e w' hh=>⟨hh.1,hW.trans hh.2⟩
       ·unfold b9 at f;obtain⟨z,hz,rfl⟩:=dU.1 f;have:=(J z hz).2;have:=(J z hz).1;have:=HN.ae;omega
       ·unfold b9 at f hb;obtain⟨z,hz,rfl⟩:=dU.1 f;obtain⟨y,hy,rfl⟩:=dU.1 hb;exact kC.way _ hm z hz y hy fun e=>hne (by rw[e]))
    have ef:(List.range x.ay).any (fun _=>false)=false:=P8.2 fun _ _ h=>by cases h
    rw[ef] at h1;exact h1
   go_wp2_with fail
   refine pQ.mono ?_;rintro e5 w5 ⟨rfl,H⟩;have M:=af (t.trans (O.trans H));go_wp2_with fail
   exact bodyPost_ret (v:=av 0) (by simp [results,results21,go_sem]) rfl ⟨rfl,M⟩
def qi(x:aP)(f:Fu):Prop:=f.1<x.ai.length/\((f.2.1=1/\kd x f.1≠3/\f.2.2= [])\/(f.2.1=2/\kd x f.1≠3/\f.2.2= [])\/(f.2.1=3/\fL (kd x f.1) f.2.2)\/(f.2.1=4/\kd x f.1≠3/\f.2.2≠ []/\fL (kd x f.1) f.2.2)\/(f.2.1=5/\f.2.2= []))
def Tt{x:aP}(h:a<x.ai):kd x a=x.ai[a].2:=by unfold kd;rw[kg,aX h];rfl
def aaz(v:Value)(x:aP)(f:Fu)(w:au)(h:dN w v x)(J:bR x)(O:qi x f):
 Calls prog 43 #[v,.agg #[av (f.1:Int),av (f.2.1:Int),aL f.2.2]] w fun e I=>e= .returned (.bool true)/\Ext w I:=by
 obtain⟨A,c,B,d,D,e,rfl,s,L,N⟩:=h;obtain⟨n,fk,t⟩:=f;obtain⟨m,l⟩:=O;obtain⟨g,o,rfl,E,q1,q2⟩:=pz s m;have r:=J.ak _ (a_ m);simp only at m l q1 q2 r⊢;rw[Tt m] at l;generalize x.ai[n]=u at*;obtain⟨K,a⟩:=u;simp only at q1 q2 l r;have G:=af (fun W (b:fL a t)=>RU K t a W r b);have R:=af l;have P:decide ((n:Int)<(x.ai.length:Int))=true:=fU;go_enter func43,ntmps43;go_upto_region 1 with fail
 refine fR fun W y S z=> ?_;have Q:=z.lt;obtain⟨X,V,U,T⟩:=S.four;have f0:=z.aF 0;have Z:=(y.cell (p:=aC g (o+n*2)) E).trans q1;have Y:=(y.cell (p:=aC g (o+n*2+1)) E).trans q2;go_upto_region 2 with fail
 refine aT fun F j H=> ?_;have k:=af (z.ext j);have Ds:=af (y.trans j);generalize W.heap.size=ab at*;generalize w.heap.size+1=fb at*;have a0:=H.aF 0;have a1:=H.aF 1;have f1:=k.aF 1;have f2:=k.aF 2;rcases R.ae with⟨rfl,i,rfl⟩|⟨rfl,i,rfl⟩|⟨rfl,b⟩|⟨rfl,i,q,b⟩|⟨rfl,rfl⟩
 ·have C:(a !=3)=true:=awT;exact U5
 ·have C:(a !=3)=true:=awT;exact U5
 ·have PG:=af (G F b);exact afn
 ·have C:(a !=3)=true:=awT;have PG:=af (G F b);have M:(t== [])=false:=beq_eq_false_iff_ne.2 q;exact afn
 ·skip
  exact U5
def anx(A B D:aR)(c d e i:Nat)(x:aP)(f:Fu)(w:au)(h:dN w (.agg #[.slice A x.ai c,.slice B x.ay d,.slice D x.bf e,av x.label]) x)(k:bR x)(n:qi x f)(m:ar w i TI [.slice A x.ai c,.slice B x.ay d,.slice D x.bf e,av x.label]):
 Calls prog 119 #[.agg #[av (f.1:Int),av (f.2.1:Int),aL f.2.2],aI i 0] w fun e j=>e= .returned (.bool false)/\Ext w j:=by
 have C:=af (fun W (o:Ext w W)=>aaz _ x f W (h.ext o) k n);have p:=af m;obtain⟨F,E,z⟩:=f;go_enter func119,ntmps119;go_upto_region 1 with fail
 refine aT fun W b g=> ?_;have f0:=g.aF 0;have f1:=g.aF 1;have f2:=g.aF 2;obtain⟨y,u,t,s⟩:=(p.ext b).four;have q:=af (C W b);go_wp2_with fail
 refine q.mono ?_;rintro e r ⟨rfl,l⟩;have a:=af (b.trans l);go_wp2_with fail
 exact bodyPost_ret (v:= .bool false) (by simp [results,results119,go_sem]) rfl ⟨rfl,a⟩
def anf(b:FuncId)(hid:∀d w,(callFunc b d).run prog w= .ok (.enter b d) w)(t:Value)(y x u:Nat->Value)(P:Nat->Bool)(I:World->Prop)(A:aR)(n c:Nat)(w:au)(F:I w)(L:n<=c)(B:c<=maxLen)
 (C:∀W k,I W->k<n->∃g o,A=dC g o/\(aA W g (o+k*3) (y k)/\aA W g (o+k*3+1) (x k)/\aA W g (o+k*3+2) (u k)))
 (hF:∀W k,I W->k<n->Calls prog b #[.agg #[y k,x k,u k],t] W fun e l=>e= .returned (.bool (P k))/\I l):
 Calls prog 179 #[.slice A n c,.func (.func b) #[] #[t]] w fun e l=>e= .returned (av (iW P n))/\I l:=by
 have G:=af C;have H:=af hF;have z:c<=9223372036854775807:=B;have q:=af F;go_enter func179,ntmps179;go_upto_region 2 with fail
 have s:ah (∀k,k<0->P k=false):=fun k hk=>by omega
 go_loopw [5,8] (fun _ m wr=>∃j:Nat,j<=n/\m=av j/\ah (I wr)/\ah (∀k,k<j->P k=false)) (fun _ m _=>n - (RowKit.intOf m).toNat)
 exact⟨0,aV _,rfl,q,s⟩;obtain⟨j,K,rfl,r,HB⟩:=hrel;by_cases f:j<n
 ·obtain⟨g,o,E,p⟩:=G _ _ r f;go_split_ands;have J:=H _ _ r f;subst E;go_wp2_with fail
  refine J.mono ?_;rintro e l ⟨rfl,D⟩;have mL:=af D;cases hp:P j with
  |true=>have a:=H7 f hp HB;go_wp2;exact bodyPost_ret (v:=av j) (by simp [results,results179,go_sem]) rfl ⟨by rw[a],mL⟩
  |false=>exact NN
 ·have d1:decide ((j:Int)<(n:Int))=false:=aY;have i:j=n:=Om;subst i;have a:=H8 HB;go_wp2;exact bodyPost_ret (v:=av (-1)) (by simp [results,results179,go_sem]) rfl ⟨by rw[a],r⟩
def anC(a:FuncId)(hid:∀d w,(callFunc a d).run prog w= .ok (.enter a d) w)(h:Value)(l j i:Nat->Value)(P:Nat->Bool)(I:World->Prop)(A:aR)(n c:Nat)(w:au)(t:I w)(q:n<=c)(p:c<=maxLen)
 (r:∀W k,I W->k<n->∃g o,A=dC g o/\(aA W g (o+k*3) (l k)/\aA W g (o+k*3+1) (j k)/\aA W g (o+k*3+2) (i k)))
 (hF:∀W k,I W->k<n->Calls prog a #[.agg #[l k,j k,i k],h] W fun e f=>e= .returned (.bool (P k))/\I f):
 Calls prog 116 #[.slice A n c,.func (.func a) #[] #[h]] w fun e f=>e= .returned (.bool ((List.range n).any P))/\I f:=by
 have x:=af (anf a hid h l j i P I A n c w t q p r hF);have m:=Mw (P:=P) (n:=n);generalize(List.range n).any P=b at*;generalize iW P n=z at*;go_enter func116,ntmps116;go_wp2_with fail
 refine x.mono ?_;rintro e f ⟨rfl,s⟩;have u:=af s;go_wp2;exact bodyPost_ret (v:= .bool b) (by simp [results,results116,go_sem]) rfl ⟨rfl,u⟩
def FuL.get{n:Nat}{l:List Fu}(h:Ls eO lF m (.slice E n a) l){i:Nat}(e:i<l):
 ∃g o,E=dC g o/\g<m.heap.size/\aA m g (o+i*3) (av (l[i].1:Int))/\aA m g (o+i*3+1) (av (l[i].2.1:Int))/\aA m g (o+i*3+2) (aL l[i].2.2):=by
 obtain⟨g,o,d,k,j,f,b⟩:=qd lF.three Od h e;rw[show d=_ from f] at b;exact⟨g,o,k,j,b 0 _ rfl,b 1 _ rfl,b 2 _ rfl⟩
def acA{fid:FuncId}(hid:∀b w,(callFunc fid b).run prog w= .ok (.enter fid b) w)(j:Value)(A:aR)(c:Nat)(a:List Fu)(w:au)(m:Ls eO lF w (.slice A a.length c) a)(hF:∀W,Ext w W->∀f∈a,Calls prog fid #[.agg #[av (f.1:Int),av (f.2.1:Int),aL f.2.2],j] W fun e i=>e= .returned (.bool false)/\Ext W i):
 Calls prog 116 #[.slice A a.length c,.func (.func fid) #[] #[j]] w fun e i=>e= .returned (.bool false)/\Ext w i:=by
 obtain⟨-,s,r⟩:=bD m;have h:=anC fid hid j (fun k=>av (((a[k]?.getD (0,0,[])).1:Nat):Int)) (fun k=>av (((a[k]?.getD (0,0,[])).2.1:Nat):Int)) (fun k=> .string ⟨(a[k]?.getD (0,0,[])).2.2.toArray⟩) (fun _=>false) (fun W=>Ext w W) A a.length c w (aB w) s r
  (fun W k hW d=>by obtain⟨g,o,q,l,q1,q2,q3⟩:=FuL.get m d;rw[aX d];exact⟨g,o,q,(hW.cell (p:=aC g (o+k*3)) l).trans q1,(hW.cell (p:=aC g (o+k*3+1)) l).trans q2,(hW.cell (p:=aC g (o+k*3+2)) l).trans q3⟩)
  (fun W k hW d=>by rw[aX d];exact(hF W hW _ (a_ d)).mono fun e i n=>⟨n.1,hW.trans n.2⟩)
 rwa[show(List.range a.length).any (fun _=>false)=false from P8.2 fun _ _ h=>by cases h] at h
def ala{fid:FuncId}(hid:∀b w,(callFunc fid b).run prog w= .ok (.enter fid b) w)(i:Value)(A:aR)(c:Nat)(l:List Nat)(w:au)(j:IL w (.slice A l c) (ints l))(hF:∀W,Ext w W->∀a∈l,Calls prog fid #[av (a:Int),i] W fun e f=>e= .returned (.bool false)/\Ext W f):
 Calls prog 118 #[.slice A l c,.func (.func fid) #[] #[i]] w fun e f=>e= .returned (.bool false)/\Ext w f:=by
 obtain⟨-,r,p⟩:=bD j;have h:=acH fid hid i (fun k=>av ((l[k]?.getD 0:Nat):Int)) (fun _=>false) (fun W=>Ext w W) A l c w (aB w) r p
  (fun W k hW d=>by obtain⟨g,o,n,q⟩:=qb (j.ext hW) d (kj aS W);rw[aX d];exact⟨g,o,n,q⟩)
  (fun W k hW d=>by rw[aX d];exact(hF W hW _ (a_ d)).mono fun e f m=>⟨m.1,hW.trans m.2⟩)
 rwa[show(List.range l.length).any (fun _=>false)=false from P8.2 fun _ _ h=>by cases h] at h
structure ql(x:aP)(fs:List Fu)(attrs:List Nat):Prop where
 fl:fs.length<=6
 al:attrs.length<=3
 fo:∀f∈fs,qi x f
 ao:∀a∈attrs,a<x.ai.length
 tK:Cs attrs=true
def ajN(v:Value)(x:aP)(k:List Fu)(b:List Nat)(K L:aR)(H I:Nat)(w:au)(h:dN w v x)(V:bR x)(s:ql x k b)(q:Ls eO lF w (.slice K k H) k)(hg:IL w (.slice L b I) (ints b)):
 Calls prog 58 #[v,.agg #[.slice K k H,.slice L b I]] w fun e w'=>e= .returned (av 0)/\Ext w w':=by
 have J:=af s;have HF:=af q;have Z:=af hg;have P:=af V;have O:=af h;obtain⟨A,c,B,d,D,e,rfl,N,oz,F0⟩:=h;have l1:=s.fl;have l2:=s.al;have hcA:=(bD N).2;have r:x.ai<=maxLen:=by have:=V.a12;unfold maxLen;omega
 have d1:decide ((k.length:Int)>6)=false:=aY;have d2:decide ((b.length:Int)>3)=false:=aY;go_enter func58,ntmps58;go_upto_region 1 with fail
 refine fR fun W HX BX BG=> ?_;have hbg:=BG.lt;go_upto_region 2 with fail
 refine aT fun W2 l T=> ?_;have E:=af (BX.ext l);have n:=af (BG.ext l);have z:=af (HX.trans l);have hbm:=T.lt;generalize Ov:W.heap.size=X at*;generalize hgb:w.heap.size+1=gb at*;generalize FE:w.heap.size=o at*;have g0:=n.aF 0;have Y:=n.aF 1;have C1:=af (acA (fid:=117) (fun _ _=>by rfl) (aI X 0) K H k W2 (bU uj HF z) fun t j f q=>anz A B D x.ai c x.ay d x.bf e o X x.label f (J.fo f q).1 r t (E.ext j) (T.ext j));go_upto_region 4 with fail
 go_wp2_with fail
 refine C1.mono ?_;rintro e3 w3 ⟨rfl,g⟩;have y:=af (z.trans g);have C:=af (E.ext g);have G:=af (n.ext g);have S:=af (T.ext g);have Y:=G.aF 1;have m0:=S.aF 0;have C2:=af (ala (fid:=115) (fun _ _=>by rfl) (aI o 0) L I b w3 (kJ Z y) fun t j a s=>acG A B D x.ai c x.ay d x.bf e a o x.label (J.ao a s) r t (C.ext j));go_wp2_with fail
 refine C2.mono ?_;rintro e4 w4 ⟨rfl,i⟩;have m:=af (y.trans i);have R:=af (C.ext i);have F:=af (G.ext i);have g0:=F.aF 0;have C3:=af (acA (fid:=119) (fun _ _=>by rfl) (aI o 0) K H k w4 (bU uj HF m) fun t j f q=>anx A B D c d e o x f t (O.ext (m.trans j)) P (J.fo f q) (R.ext j));go_wp2_with fail
 refine C3.mono ?_;rintro e5 w5 ⟨rfl,p⟩;have u:=af (m.trans p);have U:=af (F.ext p);have Y:=U.aF 1;have C4:=af (ahu L I b J.tK w5 (kJ Z u));go_wp2_with fail
 refine C4.mono ?_;rintro e6 w6 ⟨rfl,M⟩;have Q:=af (u.trans M);go_wp2_with fail
 exact bodyPost_ret (v:=av 0) (by simp [results,results58,go_sem]) rfl ⟨rfl,Q⟩
abbrev adZ:TypeId:=43
abbrev Ag:=List Fu×List Nat
def tZ(w:au)(c:List Value)(y:Ag):Prop:=∃d a e b,c= [.slice d y.1.length a,.slice e y.2.length b]/\Ls eO lF w (.slice d y.1.length a) y.1/\IL w (.slice e y.2.length b) (ints y.2)
def tZ.iI:js [eO,aS] tZ:=fun _ _ _ _ b ⟨h,f,i,g,e,d,c⟩=>⟨h,f,i,g,e,gm uj d fun t a=>b t (by simp at a;subst a;simp),gm cK c fun t a=>b t (by simp at a;subst a;simp)⟩
def yO:=@tZ.iI
def tZ.two(w:au)(c:List Value)(y:Ag)(h:tZ w c y):c.length=2:=by obtain⟨_,_,_,_,rfl,_⟩:=h;rfl
abbrev sH:=Ls n9 tZ
def sH.get{n:Nat}{l:List Ag}(h:sH m (.slice E n a) l){i:Nat}(p:i<l):
 ∃g o f b j e,E=dC g o/\g<m.heap.size/\aA m g (o+i*2) (.slice f l[i].1 b)/\aA m g (o+i*2+1) (.slice j l[i].2 e)/\ah (Ls eO lF m (.slice f l[i].1 b) l[i].1)/\ah (IL m (.slice j l[i].2 e) (ints l[i].2)):=by
 obtain⟨g,o,d,t,s,⟨f,b,j,e,rfl,r,q⟩,k⟩:=qd tZ.two Od h p;exact⟨g,o,f,b,j,e,t,s,k 0 _ rfl,k 1 _ rfl,r,q⟩
def aqJ.Ve(h:aq:=by
 go_upto_region 7 with fail
 go_loopw [7,8,19] (fun _ _ b wr=>∃i:Nat,i<=l/\b=av i/\ah (Ext w1 wr)) (fun _ _ b _=>l - (RowKit.intOf b).toNat)
 exact⟨0,aV _,rfl,aB _⟩;obtain⟨i,hi,rfl,z⟩:=hrel;by_cases m:i<l
 ·obtain⟨g,o,E,r,F,s,rfl,H,q1,q2,K,J⟩:=sH.get (bU yO Y (bQ.trans z)) m;have k:=Z _ (a_ m);generalize l[i]=y at*;obtain⟨q,a⟩:=y;simp only at q1 q2 K J k;have t:=af k;go_upto_region 9 with fail
  refine aT fun X f L=> ?_;have j:=af (z.trans f);have C:=af (CC X q a E F r s (bQ.trans j) t (bU uj K f) (kJ J f));obtain⟨s0,s1,s2,s3⟩:=(kZ.ext j).four;have g0:=L.aF 0;have g1:=L.aF 1;go_wp2_with fail
  refine C.mono ?_;rintro e3 w3 ⟨rfl,n⟩;have u:=af (j.trans n);go_wp2_with fail
  go_roundw;exact⟨i+1,by omega,by go_num,u⟩;simp [RowKit.intOf];omega
 ·have d1:decide ((i:Int)<(l.length:Int))=false:=aY;go_wp2_with fail;exact bodyPost_ret (v:=av 0) (by simp [results,results23,go_sem]) rfl ⟨rfl,bQ.trans z⟩):=h
def ajO(v:Value)(x:aP)(M:aR)(I:Nat)(l:List Ag)(w:au)(h:dN w v x)(G:bR x)(Q:sH w (.slice M l I) l)(P:l.length<=40)(U:∀y∈l,ql x y.1 y.2):
 Calls prog 23 #[v,.slice M l I] w fun e N=>e= .returned (av 0)/\Ext w N:=by
 have CH:=af (fun W (p:Ext w W)=>Ia v x W (h.ext p) G);have CC:=af (fun W q a E F r s (p:Ext w W) V S H=>ajN v x q a E F r s W (h.ext p) G V S H);have Y:=af Q;have Z:=af U;obtain⟨A,c,B,d,D,e,rfl,T,O,R⟩:=h;have d0:decide ((l.length:Int)>40)=false:=aY;go_enter func23,ntmps23;open aqJ in exact U8
def aje{x:aP}{D:List (List Rw)}(b:a<x.ay)(c:a<D):(aU x D).take (a+1)=(aU x D).take a++ [kL x.ay x.ay[a].2 D[a]]:=by have h:=Mj b c;obtain⟨e,d⟩:=t_.1 h;rw[fg e,d]
def alq:jG prog 33 kK 1 24:= .mk' (z:= .slice none 0 0) Ok Ok rfl Od Od
def Gl(n:Nat)(u:Value)(w:au):Prop:=∃A l c,u= .slice A l.length c/\IL w (.slice A l.length c) (ints l)/\l.Nodup/\∀a,a∈l↔a<n
def Gk(a:Nat)(u:Value)(w:au):Prop:=∃g,u= .map (some g)/\dH w aS g 0 (fun _=>none)/\a<=g
def Gl.ext{n:Nat}{u:Value}{w':au}(h:Gl n u m)(k:Ext m w'):Gl n u w':=by obtain⟨A,l,c,e,b,a⟩:=h;exact⟨A,l,c,e,b.ext k,a⟩
def Gk.ext{n:Nat}{u:Value}{w':au}(h:Gk n u m)(k:Ext m w'):Gk n u w':=by obtain⟨g,e,a,b⟩:=h;exact⟨g,e,a.same (k.block _ a.lt),b⟩
def aqI.Fw(h:aq:=by refine CP.mono ?_;rintro e5 w5 ⟨u5,l5,rfl,V,hn5,VG,U⟩;obtain⟨A5,c5,rfl, -, -, -⟩:=V.parts;rw[show(ints l5).length=l5.length from by unfold ints;rw[bW]] at V⊢;exact j9 _ _ U ⟨A5,l5,c5,rfl,V,hn5,VG⟩):=h
def aqH.Fw(h:aq:=by exact j9 _ _ ((aB g).alloc _) ⟨_,rfl,Ic g aS,hsz⟩):=h
def aoo(v:Value)(x:aP)(D:List (List Rw))(Ad:aR)(cd:Nat)(w:au)(h:dN w v x)(ok:bR x)(hD:gc x D)(hd:iP w (.slice Ad D cd) D):
 Calls prog 24 #[v,.slice Ad D cd] w fun e a=>∃m H,e= .returned (aI m 0)/\fW x (aU x D) m H a/\dl x H a/\w.heap.size<=m/\w.heap.size<=H/\Ext w a:=by
 have CL:=af (fun W (hX:Ext w W)=>aiZ v x W (h.ext hX) ok);have CV:=af (fun W (i:Nat) (A0:aR) (n0 c0:Nat) (l:List Rw) (r:Rl) (hX:Ext w W) hl hr ht oC=>akx v x i A0 n0 c0 l r W (h.ext hX) ok hl hr ht oC);have HD:=af hd;have HDO:=af hD;have zM:=af h;have kR:= @run_makeMap prog;obtain⟨A,c,B,d,E,e,rfl,hat,oz,F0⟩:=h;have HLEN:=af hD.1;have Og:=ok.r6;have V5:=(bD oz).2;have hcD:=(bD hd).2;go_enter func24,ntmps24;go_upto_region 1 with fail
 refine aT fun W HX BX=> ?_;have l6:=BX.lt;obtain⟨I,Gc⟩:∃I:World->Prop,I=fun a=>Ext W a:=⟨_,rfl⟩;have su:ah (∀a,I a->Ext W a):=awI;have O:ah (∀a,Ext W a->I a):=awI;have bO:ah (∀a,I a->aA a w.heap.size 0 (.slice A x.ai c)/\aA a w.heap.size 1 (.slice B x.ay d)/\aA a w.heap.size 2 (.slice E x.bf e)/\aA a w.heap.size 3 (av x.label)):=fun a h=>(BX.ext (su a h)).four;have aH:ah (I W.drew):=O _ (aB W).drew;refine cD (S:=I) (T:=fun _=>false) Ok ?_;generalize W.drew=wd at*;refine ax 0 7 ?_;refine ax 1 8 ?_;refine bZ.O8 [⟨2,9,Gl x.ai⟩,⟨3,10,Gk W.heap.size⟩] I (fun _ _=>True) [2,3] [9,10] [[],[]] #[true,true,true,true,false,false,false] 2 3 rfl rfl rfl Od Ok Ok (fun _ h=>h) aH ?_ ?_
 ·intro k b hb us g hI pN _ o ho K f;have vh:=af (su g hI);have hsz:W.heap.size<=g.heap.size:=vh.size;have HK:=af (fun v a (hc:Ext g a) (h0:b.R v a)=>f v a (O a (vh.trans hc)) h0 fun j c hj _ u s=>by
   refine⟨?_,trivial,trivial⟩;rcases j with _|_|j;all_goals simp only[dy,dS,Y2,cY,reduceCtorEq] at hj
   all_goals subst hj
   ·exact Gl.ext s hc
   ·exact Gk.ext s hc)
  rcases k with _|_|k
  ·have CP:=af (CL g (HX.trans vh));simp only[dy,cY] at hb;subst hb;open aqI in exact Fv
  ·skip
   simp only[dy,dS,cY] at hb;subst hb;open aqH in exact Fv
  ·simp at hb
 ·intro us g hI hR _;obtain⟨Al,ll,cl,e1,iM,hnd,arZ⟩:Gl x.ai (us 0) g:=hR 0 _ rfl;obtain⟨H,e2,hmf,wU⟩:Gk W.heap.size (us 1) g:=hR 1 _ rfl;have dA:=af iM;have Kv:=af hmf;have DK:=af hnd;have HME:=af arZ;simp only[eK,e1,e2,Act.put,d8,dP,d9];have aH:ah (I g):=hI;have HI:=af (su g hI);have hsz:W.heap.size<=g.heap.size:=HI.size;refine ax 4 11 ?_;refine aO 5 ?_;intro K f;go_simp;refine f.ae _ _ (fun _=>O _ (HI.trans ((aB g).alloc _))) ?_;refine aT fun C F BJ=> ?_;have vn:=af (HX.trans (HI.trans F));have oU:=af (BX.ext (HI.trans F));have bB:ah (I C):=O _ (HI.trans F);have atv:=af (kJ dA F);have P:ah (dH C aS H 0 fun _=>none):=Kv.same (F.block _ Kv.lt);have hpl:=Kv.lt;have X:=BJ.lt;have aH:=bB;generalize hj3:g.heap.size=m at*;refine aO 6 ?_;intro K f;go_simp;refine f.ae _ _ (fun _=>aH.ae) ?_;refine b_ Ok ?_;have hwW:w.heap.size<=W.heap.size:=HX.size;obtain⟨s0,s1,s2,s3⟩:=oU.four;go_upto_region 3 with fail
  go_loopw [6,16] (fun _ Q wr=>∃(i:Nat) (At:aR) (Z:Nat),i<=x.ay/\Q=av i/\ah (ar wr m Cc [.slice A x.ai c,.slice B x.ay d,.slice E x.bf e,av x.label,.slice At i Z,.slice Al ll cl,.map (some H)])/\ah (bI kK 1 qC C.heap.size wr (.slice At i Z) ((aU x D).take i))/\ah (Only m C wr)) (fun _ Q _=>x.ay - (RowKit.intOf Q).toNat)
  exact⟨0,none,0,aV _,rfl,BJ,by rw[kF];exact jf,ig _ _⟩;obtain⟨i,At,Z,hi,rfl,HJ,HO,HN⟩:=hrel;have JN:Ext w wr:=vn.only HN Om;have M:=af JN;have Xn:=HN.size;obtain⟨A',c',xs,e', -,Uf,HOr,Gw⟩:=HO.parts;rw[cJ,qY,iR hi] at e' HOr;injection e' with e1 _ e2;subst e1 e2;by_cases J:i<x.ay
  ·have Y:i<D.length:=by rw[HLEN.ae];exact J
   obtain⟨gd,od,Bi,di,rfl,hgd,atd,tF⟩:=iP.get HD Y;have HLi:=af (yT atd M);have hq:=(M.cell (p:=aC gd (od+i)) hgd).trans tF;have HT:=af (HDO.2 i _ _ (aX Y) (aX J));have gh:=af (aje J Y);have ic:ah (x.ay[i]? =some x.ay[i]):=aX J;generalize D[i]=l at*;generalize x.ay[i]=r at*;have au5:=HT.len;have zJ:ah (∀y∈l,y.1.length=r.2):=fun y hy=>(HT.val y hy).1;have hJl:=HJ.lt;obtain⟨S,eQ⟩:∃S:World->Prop,S=fun a=>aA a m 4 (.slice At i Z)/\aA a gd (od+i) (.slice Bi l di)/\F4 a w.heap.size (.slice A x.ai c) (.slice B x.ay d) (.slice E x.bf e) (av x.label):=⟨_,rfl⟩;have bO:ah (∀a,S a->aA a m 4 (.slice At i Z)/\aA a gd (od+i) (.slice Bi l di)/\aA a w.heap.size 0 (.slice A x.ai c)/\aA a w.heap.size 1 (.slice B x.ay d)/\aA a w.heap.size 2 (.slice E x.bf e)/\aA a w.heap.size 3 (av x.label)):=avQ;have l9:ah (∀a,Below C.heap.size wr a->S a):=(by rw[ah,eQ];exact fun a hx=>⟨(HJ.below hx X).aF 4,(hx.cell (p:=aC gd (od+i)) (show gd<C.heap.size by omega)).trans hq,((oU.only HN Om).below hx (show w.heap.size<C.heap.size by omega)).four⟩)
   have cC:ah (∀a,Ext wr a->S a):=fun a hx=>l9 a (Below.mono hx Xn);go_upto_region 5 with fail
   have N:=af (aB wr).drew;have aH:=af (cC _ N);refine cD (S:=S) (T:=fun j=>decide (16<=j)) Ok ?_;generalize wr.drew=wd at*;refine ax 0 19 ?_;refine ax 1 20 ?_;refine ax 2 21 ?_;refine ax 3 22 ?_;refine ax 4 23 ?_;refine ax 5 24 ?_;refine ax 6 25 ?_;refine ax 7 26 ?_;refine ax 8 27 ?_;refine ax 9 28 ?_;refine ax 10 29 ?_;refine aO 11 ?_;intro K f;go_simp;refine(CV wd i Bi l di l r (M.trans N) (yT HLi N) ic zJ Om).mono ?_;rintro e5 w5 ⟨u,rfl,s,U⟩;obtain⟨Au,cu, -,rfl, -, -, -, -⟩:=s.parts;have pO:=af s.ls;have dX:=af (N.trans U);have kB:=af (cC _ dX);refine f.ae _ _ (fun _=>kB.ae) ?_;generalize kL x.ay r.2 l=lv at*;refine aO 12 ?_;intro K f;go_simp;refine f.ae _ _ (fun _=>cC _ (dX.alloc _)) ?_;refine aT fun WZ cG BZ=> ?_;have q:=af (dX.trans cG);have Kc:=af (yT pO cG);have hwz:=q.size;have HJZ:=af (HJ.ext q);have G:=af (vO HOr q);have XW:=af (EW (fun c x hc=>rh _ _ _ _ (fun _ _=>Hl q) hc) Gw);have HNZ:ah (Only m C WZ):=HN.trans (.gV q.ae);have cM:(i+1)*24<=140737488355328:=Om;refine aO 13 ?_;intro K f;refine nh rfl ?_;refine ro _ _ 33 rfl C.heap.size alq _ _ _ rfl G.ae _ [.slice Au lv cu] BZ.ae 1 1 rfl rfl rfl cM Om ?_;intro v' w7 zn L _;obtain⟨A7,c7,rfl, -, -, -⟩:=ej zn;have n:=gH HJZ G L X;have oL:=af (l9 w7 (ud (Below.mono q Xn) L (a7 Xn hwz) fun k hk=>(G.lt k hk).1));obtain⟨w8,zi,B8,K8,N8⟩:=gG (i:=4) n (.slice A7 (i+1) c7);have z:((aU x D).take i)=i:=by rw[cJ,qY,iR hi]
   have hO7:bI kK 1 qC C.heap.size w7 (.slice A7 (i+1) c7) ((aU x D).take i++ [lv]):=jc (R:=qC) (x:=lv) rh (fun u s=>by simp only[aJ,bL,or_false] at s;rcases s with rfl|rfl<;>decide) (by rw[z];exact G) XW ⟨Au,cu,rfl,Kc⟩ (by rw[z];exact zn) L;rw[<-gh.ae] at hO7;have nE:=af (hO7.only rh N8 X fun u s=>by
    simp only[aJ,bL,or_false] at s;rcases s with rfl|rfl
    ·exact N8.kept n Od
    ·exact N8.kept n Od)
   have Po:ah (Only m C w8):=(HNZ.grown G L).trans N8.ae;have p7:=n.aF 4;have f7:=n.frozen 4;have l7:=n.lt;simp only[Act.put,d8,dP,d9];refine f.ae _ _ (fun _=>oL.ae) ?_;refine aO 14 ?_;intro K f;go_simp;refine f.ae _ _ (fun _=>oL.ae) ?_;refine aO 15 ?_;intro K f;go_simp;refine f.ae _ _ (fun _=>oL.ae) ?_;refine aO 16 ?_;intro K f;go_simp;refine f.ae _ _ Oe ?_;refine b_ Ok ?_;go_wp2_with fail
   go_roundw;exact⟨i+1,A7,c7,by omega,by go_num,B8,nE,Po⟩;simp [RowKit.intOf];omega
  ·have zw:i=x.ay.length:=Om;have d1:decide ((i:Int)<(x.ay.length:Int))=false:=aY;have hTl:(aU x D).take i=aU x D:=dz (by rw[qY];omega);have zr:=HO.ls;rw[hTl] at zr;have hLT:(aU x D)=i:=by rw[qY];exact zw.symm
   have sf:ah (iP wr (.slice At (aU x D) Z) (aU x D)):=by rw[hLT];exact zr
   have GG:ah (fW x (aU x D) m H wr):=⟨A,c,B,d,E,e,At,Z,Al,cl,ll,by rw[hLT];exact HJ.ae,zM.ext JN,sf,gm cK atv fun t ht=>(by simp only[aJ,bL,or_false] at ht;subst ht;exact HN.kept BJ Od),DK,HME⟩;have Ps:ah (dl x H wr):=⟨0,fun _=>none,P.same (HN.block H P.lt Oc),fun k u h=>by cases h⟩;go_wp2_with fail;exact bodyPost_ret (v:=aI m 0) (by simp [results,results24,go_sem]) rfl ⟨m,rfl,H,GG,Ps,by omega,by omega,M⟩
def tu(a b:aD):Int:=if Op.bytesLess a b=true then -1 else if (a==b)=true then 0 else 1
def nY(a b:List aD):Int:=if g7 a b=true then -1 else if (a==b)=true then 0 else 1
def abj(a:aD)(w:au):
 Calls prog 285 #[aL a] w fun e b=>e= .returned (.bool false)/\b=w:=by
 have h:(a==a)=true:=Ou;go_enter func285,ntmps285;go_wp2;go_ret;exact⟨rfl,rfl⟩
def anD(a b:aD)(w:au):
 Calls prog 261 #[aL a,aL b] w fun e i=>e= .returned (av (tu a b))/\i=w:=by
 have c:ah (tu a b=if Op.bytesLess a b=true then -1 else if (a==b)=true then 0 else 1):=rfl;generalize tu a b=f at*;have H1:=af (abj a w);have H2:=af (abj b w);cases d:Op.bytesLess a b with
 |true=>rw[d] at c;have HC:ah (f= -1):=c.ae;exact Va
 |false=>
  cases g:a==b with
  |true=>rw[d,g] at c;have HC:ah (f=0):=c.ae;exact Va
  |false=>rw[d,g] at c;have HC:ah (f=1):=c.ae;exact Va
def al_(K J:aR)(F H E G:Nat)(a b:List aD)(w:au)(d:TL w (.slice K F H) a)(f:TL w (.slice J E G) b):
 Calls prog 219 #[.slice K F H,.slice J E G] w fun e L=>e= .returned (av (nY a b))/\L=w:=by
 obtain⟨U,R,N⟩:=bD d;obtain⟨u,Q,M⟩:=bD f;subst U u;have W:=af d;have V:=af f;go_enter func219,ntmps219;go_wp2;go_loopw [11] (fun v wr=>∃i:Nat,i<=a/\i<=b/\v=av i/\ah (a.take i=b.take i)/\wr=w) (fun v _=>a - (RowKit.intOf v).toNat)
 exact⟨0,aV _,aV _,rfl,rfl,rfl⟩;obtain⟨i,P,O,rfl,m,rfl⟩:=hrel;by_cases p:i<a
 ·obtain⟨g,o,rfl,_,s⟩:=s6 W p;by_cases l:i<b
  ·obtain⟨Y,X,rfl,_,n⟩:=s6 V l;have C:=af (fun h=>adF p l m h);have z:ah ((a[i]==b[i])=true->a.take (i+1)=b.take (i+1)):=fun h=>by rw[ya,ya,m.ae,aX p,aX l,beq_iff_eq.1 h]
   have B:ah ((a[i]==b[i])=false->(a==b)=false):=fun h=>by rw[beq_eq_false_iff_ne] at h⊢;intro e;subst e;exact h rfl
   generalize a[i]=x at*;generalize b[i]=y at*;have q:=af (anD x y wr);cases c:x==y with
   |true=>
    have A:=af (z c);have k:tu x y=0:=(by have e:=beq_iff_eq.1 c;unfold tu;rw[if_neg (by rw[e,vN.pK];decide),if_pos c])
    rw[k] at q;go_wp2_with fail;refine q.mono ?_;rintro e D ⟨rfl,rfl⟩;go_wp2;go_roundw;exact⟨i+1,by omega,by omega,by go_num,A,by trivial⟩;simp [RowKit.intOf];omega
   |false=>
    have j:ah (nY a b=tu x y):=(by unfold nY tu;rw[ah,C.ae c,B.ae c,c]);have k:tu x y= -1\/tu x y=1:=by
     unfold tu;rw[c];split
     ·exact .inl rfl
     ·exact .inr rfl
    generalize tu x y=Z at*;rcases k with rfl|rfl
    ·go_wp2_with fail
     refine q.mono ?_;rintro e D ⟨rfl,rfl⟩;go_wp2;go_ret;exact⟨by rw[j.ae];rfl,rfl⟩
    ·go_wp2_with fail
     refine q.mono ?_;rintro e D ⟨rfl,rfl⟩;go_wp2;go_ret;exact⟨by rw[j.ae];rfl,rfl⟩
  ·have j:ah (nY a b=1):=by
    have e:i=b.length:=Om;have d:=m.ae;rw[e] at d;have f:=Sg d;have t:(a==b)=false:=(by rw[beq_eq_false_iff_ne];intro h;rw[h] at p;omega)
    unfold nY;rw[ah,f,t];rfl
   have S:b<=i:=Om;go_wp2;go_ret;exact⟨by rw[j.ae];rfl,rfl⟩
 ·have r:i=a.length:=Om;have I:=af r;have T:a<=i:=Om;by_cases l:a<b.length
  ·have j:ah (nY a b= -1):=(by have d:=m.ae;rw[I.ae] at d;unfold nY;rw[ah,ace l d];rfl);go_wp2;go_ret;exact⟨by rw[j.ae];rfl,rfl⟩
  ·have j:ah (nY a b=0):=by
    have d:=m.ae;have e:i=b.length:=Om;have u:a=b:=(by have f:=d;rw[I.ae,fj] at f;have t:a.length=b.length:=Om;rw[t,fj] at f;exact f)
    unfold nY;rw[ah,u,MO.pK];simp
   go_wp2;go_ret;exact⟨by rw[j.ae];rfl,rfl⟩
def ak_(k j:aR)(f i d g:Nat)(a b:List aD)(w:au)(o:TL w (.slice k f i) a)(n:TL w (.slice j d g) b):
 Calls prog 178 #[.slice k f i,.slice j d g] w fun e m=>e= .returned (.bool (g7 a b))/\w=m:=by
 have CS:=af (al_ k j f i d g a b w o n);cases l:g7 a b with
 |true=>
  have c:nY a b= -1:=by unfold nY;rw[if_pos l]
  rw[c] at CS;exact U7
 |false=>
  have c:nY a b=0\/nY a b=1:=by
   unfold nY;rw[l];split
   ·rename_i h;cases h
   ·split
    ·exact .inl rfl
    ·exact .inr rfl
  generalize nY a b=p at*;rcases c with rfl|rfl
  ·exact U7
  ·exact U7
def wn.lt{x:aP}{l:List Rw}(h:wn x L l){i:Nat}(a:i+1<l):g7 l[i].1 l[i+1].1=true:=(pT.1 h.ord) i (i+1) Om a Om

def ajn(v:Value)(x:aP)(rn:List UInt8)(Bi:aR)(mi di:Nat)(g:List Int)(Bk:aR)(nk dk:Nat)(z:List aD)(yw:Int)(w:au)(h:dN w v x)(ok:bR x)(Y:IL w (.slice Bi mi di) g)(Q:TL w (.slice Bk nk dk) z)(hr:∀a∈g,0<=a/\a<x.ai)(R:nU x g z):
 Calls prog 177 #[v,.agg #[aL rn,.slice Bi mi di],.agg #[.slice Bk nk dk,av yw]] w fun e b=>e= .returned (.bool true)/\Ext w b:=by
 obtain⟨A,c,B,d,Dd,e,rfl,ha,U,hf⟩:=h;obtain⟨X,af3,af2⟩:=bD Y;obtain⟨V,F,auX⟩:=bD Q;subst X V;have HA:=af ha;have aN:=af ok;have dA:=af Y;have L:=af Q;have N:=af hr;have HVk:=af R;have l:z.length=g.length:=R.1;have zJ:=af l;obtain⟨O,n⟩:∃O,x.ai.length=O:=⟨_,rfl⟩;have xR:=af n;rw[n] at HA N⊢;rw[l] at L⊢;obtain⟨-,ha1,ha2⟩:=bD ha;rw[n] at ha1;generalize x.ay.length=RN at*;generalize x.bf.length=FN at*;rw[l] at F;clear ha U hf ok Y Q hr R l n;go_enter func177,ntmps177;go_upto_region 1 with fail
 refine qq fun W HX BX BR BY=> ?_;obtain⟨r0,r1⟩:=BR.two;go_upto_region 2 with fail
 clear r0 r1;go_loopw [12] (fun o wr=>∃j:Nat,j<=g/\o=av j/\ah (Ext W wr)) (fun o _=>g - (RowKit.intOf o).toNat);exact⟨0,aV _,rfl,aB _⟩;obtain⟨j,hj,rfl,k⟩:=hrel;by_cases m:j<g.length
 ·have G:j<z.length:=by rw[zJ.ae];exact m
  have y:=af (HX.trans k);obtain⟨gv,P,rfl,Z,hcv⟩:=s6 (fu L y) G;obtain⟨gi,oi,rfl,lB,zy⟩:=gX (kJ dA y) m;have avG:=N _ (a_ m);have u:ah (fL (kd x g[j]) z[j]):=HVk.2 j _ _ (aX m) (aX G);generalize g[j]=a at*;generalize z[j]=t at*;obtain⟨i,rfl⟩:∃i:Nat,a=i:=⟨a.toNat,by omega⟩;have I:i<O:=Om;have f:i<x.ai.length:=by rw[xR.ae];exact I
  obtain⟨J,C,rfl,H,s,r⟩:=pz (bU mq HA y) f;have q:=aN.ak _ (a_ f);have zT:ah (kd x i=x.ai[i].2):=by unfold kd;simp [ah,f]
  rw[zT.ae] at u;generalize x.ai[i]=Wz at*;obtain⟨nm,ak⟩:=Wz;simp only at s r q u;have RV:=af (fun b=>RU nm t ak b q u);have Ym:=af (BY.ext k);have BXj:=af (BX.ext k);clear q;go_upto_region 4 with fail
  have bO:ah (∀b,Ext wr b->aA b w.heap.size 0 (aG J C O c)/\aA b (w.heap.size+1+1) 0 (aG gv P g dk)/\aA b gv (P+j) (aL t)/\aA b J (C+i*2) (aL nm)/\aA b J (C+i*2+1) (av ak)):=fun b E=>⟨(BXj.ext E).aF 0,(Ym.ext E).aF 0,(E.cell (p:=aC gv (P+j)) Z).trans hcv,(E.cell (p:=aC J (C+i*2)) H).trans s,(E.cell (p:=aC J (C+i*2+1)) H).trans r⟩;have aH:ah (Ext wr wr.drew):=(aB wr).drew;clear hcv zy s r;refine cD (S:=fun b=>Ext wr b) (T:=fun _=>false) Ok ?_;generalize wr.drew=wd at*;refine ax 0 17 ?_;refine ax 1 18 ?_;refine ax 2 19 ?_;refine ax 3 20 ?_;refine ax 4 21 ?_;refine ax 5 22 ?_;refine ax 6 23 ?_;refine ax 7 24 ?_;refine ax 8 25 ?_;refine ax 9 26 ?_;refine aO 10 ?_;intro K hK;go_simp;refine(RV wd).mono ?_;rintro e7 w7 ⟨rfl,D⟩;have M:=af (aH.trans D);refine hK.ae _ _ (fun _=>M.ae) ?_;clear hK D;have aH:=M;refine ax 11 28 ?_;refine b_ Ok ?_;have kV:=af (k.trans aH);go_wp2_with fail
  go_roundw;exact⟨j+1,by omega,by go_num,kV⟩;simp [RowKit.intOf];omega
 ·have d1:decide ((j:Int)<(g.length:Int))=false:=aY;go_wp2;go_ret;exact⟨rfl,HX.trans k⟩
def aqG.Ve(h:aq:=by
 have b:=(bQ.cell (p:=aC gr (Z+i*2)) D).trans b;have f:=(bQ.cell (p:=aC gr (Z+i*2+1)) D).trans f;have avf:=cF D bQ.size;clear s0 s1 s2 s3 BX hx1 D;obtain⟨s0,s1,s2,s3⟩:=kZ.four;have l6:=kZ.lt;have d1:decide ((i:Int)<0)=false:=aY;have d2:decide (RN<=i)=false:=aY;have d3:decide (j<l)=false:=aY;generalize Dj:w.heap.size=bs at*;go_upto_region 8 with fail
 refine aT fun W2 aZ BR=> ?_;have ke:=af (kZ.ext aZ);have cH:=af (bQ.trans aZ);have hrx:=BR.lt;clear s0 s1 s2 s3 d1 d2 d3 b f;generalize w1.heap.size=br at*;go_upto_region 9 with fail
 go_loopw [42] (fun K wr=>∃k:Nat,k<=l/\K=av k/\ah (Ext W2 wr)) (fun K _=>l - (RowKit.intOf K).toNat)
 exact⟨0,aV _,rfl,aB _⟩;obtain⟨k,hk,rfl,G⟩:=hrel;by_cases N:k<l
 ·have HE:=af (cH.trans G);obtain⟨gl,ol,Bk,dk,hA0,oD,b,f,I⟩:=yS (yT HL HE) N;have Xi:ah (∀g,Ext w g->∀q (hq:q<l.length),∃X V,gl<g.heap.size/\aA g gl (ol+q*2) (.slice X l[q].1.length V)/\ah (TL g (.slice X l[q].1.length V) l[q].1)):=fun g hx q hq=>by obtain⟨g',o',X,V,e',oF,F,_,h2⟩:=yS (yT HL hx) hq;rw[hA0] at e';injection e' with e';injection e' with e1 e2;subst e1 e2;exact⟨X,V,oF,F,h2⟩
  subst hA0;have H:=af (HT.val _ (a_ N));obtain⟨uI,hw2⟩:=HT.wt _ (a_ N);have Xs:ah (∀q (hq:q+1<l.length),g7 l[q].1 l[q+1].1=true):=fun q hq=>HT.lt hq;obtain⟨y,hy⟩:∃y,y=l[k]:=⟨_,rfl⟩;have HY:=af hy;rw[<-hy] at b f I H uI hw2;clear hy;obtain⟨yv,yw⟩:=y;simp only at b f I H uI hw2;have L:yv.length=Q.length:=H.1;have zJ:=af L;rw[L] at b I;clear L;go_upto_region 11 with fail
  refine aT fun W4 R BY=> ?_;have T:=af (HE.trans R);have o:=af (G.trans R);have J:=af (fu I R);have hwr:W2.heap.size<=wr.heap.size:=G.size;have hyx:=BY.lt;have vu:=af (BR.ext o);have oU:=af (ke.ext o);obtain⟨y0,y1⟩:=BY.two;obtain⟨r0,r1⟩:=vu.two;obtain⟨s0,s1,s2,s3⟩:=oU.four;have JV:=af (ajn _ x rn Bi Q di Q Bk Q dk yv yw W4 (HV.ext T) UB (kJ dA T) J (by rw[xR.ae];exact ic) H);clear b f oD;go_wp2_with fail
  refine JV.mono ?_;rintro e7 Y ⟨rfl,t⟩;have kV:=af (o.trans t);have HEn:=af (T.trans t);have HTn:=af (fu J t);have Ym:=af (BY.ext t);clear y0 y1 r0 r1 s0 s1 s2 s3 BY;obtain⟨y0,y1⟩:=Ym.two;have w1:decide (yw<low)=false:=aY;have w2:decide (yw>100)=false:=aY;have w3:(yw==0)=false:=avM;cases k with
  |zero=>
   go_wp2_with fail
   go_quiet (fail);go_wp2;go_roundw;exact⟨1,by omega,by go_num,kV.drewN _⟩;simp [RowKit.intOf];omega
  |succ q=>
   obtain⟨X,V,iX,wV,HTq⟩:=Xi Y HEn q Om;have S:=af (Xs q Om);rw[<-HY.ae] at S;simp only at S;generalize l[q]=z at*;have sf:ah (∀n,Calls prog 178 #[.slice X z.1 V,.slice Bk Q dk] (Y.drewN n) fun e g=>e= .returned (.bool true)/\∃m,g=Y.drewN m):=fun n=>by refine(ak_ _ _ _ _ _ _ z.1 yv _ (fu HTq ((aB Y).drewN n)) (fu HTn ((aB Y).drewN n))).mono ?_;rintro e g ⟨F,rfl⟩;rw[S.ae] at F;exact⟨F,_,rfl⟩
   have k1:decide (((q+1:Nat):Int)>0)=true:=fU;go_upto_region 17 with fail
   go_quiet ((go_at_call 178;exact sf _));go_wp2;go_roundw;exact⟨q+2,by omega,by go_num,kV.drewN _⟩;simp [RowKit.intOf];omega
 ·have hke:k=l.length:=Om;have d1:decide ((k:Int)<(l.length:Int))=false:=aY;clear hke;go_wp2;go_ret;exact⟨rfl,cH.trans G⟩):=h
def ak9(v:Value)(x:aP)(i:Nat)(A0:aR)(n0 c0:Nat)(l:List Rw)(r:Rl)(low:Int)(j:Nat)(w:au)(h:dN w v x)(s:bR x)(hl:mH w (.slice A0 n0 c0) l)(hr:x.ay[i]? =some r)(ht:wn x r.2 l)(af7:low<=1)(aux:60<=j):
 Calls prog 114 #[v,av i,.slice A0 n0 c0,av j,av low] w fun e g=>e= .returned (av 0)/\Ext w g:=by
 have CH:=af (fun g (hx:Ext w g)=>Ia v x g (h.ext hx) s);have HV:=af h;have UB:=af s;obtain⟨A,c,B,d,Dd,e,rfl,ha,M,hf⟩:=h;obtain⟨-,ha1,ha2⟩:=bD ha;obtain⟨-,iN,j4⟩:=bD M;obtain⟨zo,arW,ase⟩:=bD hl;subst zo;have HA:=af ha;have HR:=af M;have HL:=af hl;have HT:=af ht;have aN:=af s;have C:i<x.ay.length:=(by exact Nr)
 have u:x.ay[i]=r:=by rw[aX C] at hr;injection hr
 have pP:=af u;obtain⟨rn,Q⟩:=r;have jv:Q.length<=12:=by
  have U:=a_ C;rw[u] at U;rcases EU (k:=0) (n:=x.ai) (s.ra _ U) (s.ri _ U) with F|F
  ·simp only at F;rw[F];simp
  ·have:=s.a12;simp only at F;omega
 have ic:ah (∀a∈Q,0<=a/\a<x.ai):=(by have U:=a_ C;rw[u] at U;exact s.ri _ U);simp only at HT;have hlen:=ht.len;have r6:=s.r6;obtain⟨RN,O⟩:∃RN,x.ay.length=RN:=⟨_,rfl⟩;have jN:=af O;have VQ:i<RN:=Om;rw[O] at iN HR r6 CH HV⊢;obtain⟨AN,P⟩:∃AN,x.ai.length=AN:=⟨_,rfl⟩;have xR:=af P;rw[P] at ha1 HA CH HV ic⊢;clear O ha M hf s P hl ht u hr;obtain⟨gr,Z,Bi,mi,di,hB,D,b,f,E⟩:=rp HR C;rw[pP.ae] at b E;subst hB;obtain⟨rR,af3,af2⟩:=bD E;have dA:=af E;simp only at b f rR dA;subst rR;clear E;go_enter func114,ntmps114;open aqG in exact U8
def am6(v:Value)(x:aP)(i:Nat)(m:aR)(b j:Nat)(l:List Rw)(r:Rl)(w:au)(h:dN w v x)(n:bR x)(s:mH w (.slice m b j) l)(q:x.ay[i]? =some r)(p:wn x r.2 l):
 Calls prog 57 #[v,av i,.slice m b j] w fun e a=>e= .returned (av 0)/\Ext w a:=by
 have z:=af (fun a (o:Ext w a)=>ak9 v x i m b j l r 1 60 a (h.ext o) n (yT s o) q p Od Od);obtain⟨A,c,B,d,L,e,rfl,y,g,u⟩:=h;clear s p q y g u n;generalize x.ai.length=M at*;generalize x.ay.length=J at*;generalize x.bf.length=K at*;go_enter func57,ntmps57;go_upto_region 1 with fail
 refine aT fun W t C=> ?_;have k:=af (z W t);obtain⟨H,G,F,E⟩:=C.four;go_wp2_with fail
 refine k.mono ?_;rintro I D ⟨rfl,f⟩;go_wp2;go_ret;exact⟨rfl,t.trans f⟩
def aqF.Ve(h:aq:=by
 clear s0 s1 s2 s3 BX hx1;obtain⟨s0,s1,s2,s3⟩:=kZ.four;go_upto_region 7 with fail
 clear s0 s1 s2 s3;go_loopw [22] (fun f wr=>∃k:Nat,k<=D/\f=av k/\ah (Ext w1 wr)) (fun f _=>D - (RowKit.intOf f).toNat);exact⟨0,aV _,rfl,aB _⟩;obtain⟨k,hk,rfl,a⟩:=hrel;by_cases g:k<D
 ·have N:=af (bQ.trans a);obtain⟨g0,o0,Bk,Y,rfl,T,G,z⟩:=iP.get (iP.ext HL N) g;have o:k<x.ay.length:=by rw[<-H.ae];exact g
  have E:=af (HD k _ _ (aX g) (aX o));have F:ah (x.ay[k]? =some x.ay[k]):=aX o;have I:=af (kZ.ext a);generalize x.ay[k]=r at*;generalize D[k]=t at*;have Z:=af (O wr N k Bk t Y t r G F E);obtain⟨s0,s1,s2,s3⟩:=I.four;go_wp2_with fail
  refine Z.mono ?_;rintro e7 w7 ⟨rfl,q⟩;have kV:=af (a.trans q);clear s0 s1 s2 s3 z;exact NL
 ·have d1:decide ((k:Int)<(D.length:Int))=false:=aY;go_wp2;go_ret;exact⟨rfl,bQ.trans a⟩):=h
def aoE(v:Value)(x:aP)(Q:aR)(J M:Nat)(D:List (List Rw))(w:au)(h:dN w v x)(p:bR x)(n:iP w (.slice Q J M) D)(C:gc x D):
 Calls prog 22 #[v,.slice Q J M] w fun e b=>e= .returned (av 0)/\Ext w b:=by
 have CH:=af (fun b (s:Ext w b)=>Ia v x b (h.ext s) p);have O:=af (fun b (s:Ext w b) (i:Nat) (P:aR) (m0 d0:Nat) (l:List Rw) (r:Rl) (n:mH b (.slice P m0 d0) l) (S:x.ay[i]? =some r) (R:wn x r.2 l)=>am6 v x i P m0 d0 l r b (h.ext s) p n S R);obtain⟨u,K,L⟩:=bD n;subst u;have HL:=af n;have HD:=af C.2;have r6:=p.r6;obtain⟨A,c,B,d,Dd,e,rfl,X,m,U⟩:=h;obtain⟨-,y,V⟩:=bD m;have j:=C.1;have H:=af j;rw[<-j] at CH O r6 y⊢;clear n X m U p C j;generalize x.ai.length=AN at*;generalize x.bf.length=FN at*;go_enter func22,ntmps22;open aqF in exact U8
def alu(g n c:Nat)(p:n<=c)(m:c<=maxLen)(w:au)(f:∀k,k<n->aA w g k (av 0)):
 Calls prog 20 #[aG g 0 n c] w fun e j=>e= .returned (av 0)/\w=j:=by
 have o:=af f;have l:c<=9223372036854775807:=m;clear f;go_enter func20,ntmps20;go_upto_region 3 with fail
 go_loopw [5,8] (fun _ b wr=>∃i:Nat,i<=n/\b=av i/\wr=w) (fun _ b _=>n - (RowKit.intOf b).toNat)
 exact⟨0,aV _,rfl,rfl⟩;obtain⟨i,r,rfl,a⟩:=hrel;have a:=a.symm;subst a;by_cases d:i<n
 ·have q:=o i d;exact U4
 ·have d1:decide ((i:Int)<(n:Int))=false:=aY;go_wp2_with fail;exact bodyPost_ret (v:=av 0) (by simp [results,results20,go_sem]) rfl ⟨rfl,rfl⟩
abbrev adY:TypeId:=47
abbrev KQ:=np ew pH
abbrev tT:=Ls kM KQ
def KQ.iI:js [ew,bJ] KQ:=np.iI km
def vV:=@KQ.iI
def aiY:jG prog adY kM 1 24:= .mk' (z:= .slice none 0 0) Ok Ok rfl Od Od
def acO:∀{l:List Nat},Cs l=true->l.Pairwise (·<·)
 | [],_=>List.Pairwise.nil
 | [_],_=>Ld _ _
 |a::b::l,h=>by
  rw[Cs,cZ,decide_eq_true_eq] at h;have e:=acO (l:=b::l) h.2;refine mP.2 ⟨fun c d=> ?_,e⟩;rcases aJ.1 d with rfl|d
  ·exact h.1
  ·exact Qv h.1 ((mP.1 e).1 c d)
structure Ny(x:aP)(D:List (List Rw))(f0:Fo)(zq:Fu->aD->Rat)(DD MM:Nat)(vl:Ag->List aD->Rat)(y:Ag):Prop where
 ag:ql x y.1 y.2
 fs:UJ x (aU x D) y.1 zq DD MM
 vle:∀k,vl y k=lj (bh x) (univ (aU x D)) f0 (fun _=> []) (fun v t=>eL v (fun f=>zq f t) y.1) (bY (aU x D)) (eY (fun _=>none) y.2 k)
 vf:∀k,bF 1000 (vl y k)
 hle:(jk (ey x D) y.2 fun _=>none).length<=2000
def Fh(x:aP)(D:List (List Rw))(a:Ag->List aD->Rat)(y:Ag)(G:List Gp):Prop:=(jY x D (fun _=>none)->G=(jk (ey x D) y.2 fun _=>none).map fun k=>(k,a y k))/\(¬jY x D (fun _=>none)->G= [])
def dl.tab{x:aP}{a:au}(h:dl x b a)(k:a8 [b] a m)(d:dW a):dW m:=by obtain⟨c,f,e,_⟩:=h;exact d.ad4 e k.MX
def ado(v o:Value)(x:aP)(D:List (List Rw))(Ad A0:aR)(cd c0:Nat)(l:List Ag){f0:Fo}{zq:Fu->aD->Rat}{DD MM:Nat}(vl:Ag->List aD->Rat)(w:au)(h:dN w v x)(M:bR x)(ho:rG w o x)(hD:gc x D)(hd:iP w (.slice Ad D cd) D)(a6:x.ai.length<=6)(w_:0<DD)(wZ:1000000*DD<=MM)(wY:MM<10^100)
 (kQ:Whole x.ai (bh x) (bM x) f0) (hl:sH w (.slice A0 l c0) l) (oC:l.length<=40) (H:∀y∈l,Ny x D f0 zq DD MM vl y) (ht:dW w):
 Calls prog 8 #[v,o,.slice Ad D.length cd,.slice A0 l.length c0] w fun e b=>∃u f,e= .returned (.tuple #[u,av 0])/\tT b u f/\f.length=l.length/\(∀i (P:i<l.length) (h2:i<f.length),Fh x D vl l[i] f[i])/\Ext w b:=by
 have r6:=M.r6;have C1:=af (fun W (C:Ext w W)=>amF v o x W (h.ext C) M (ho.ext C));have C2:=af (fun W (C:Ext w W)=>aoE v x Ad D cd D W (h.ext C) M (iP.ext hd C) hD);have C3:=af (fun W (C:Ext w W)=>ajO v x A0 c0 l W (h.ext C) M (bU yO hl C) oC fun y s=>(H y s).ag);have C4:=af (fun W (C:Ext w W)=>aoo v x D Ad cd W (h.ext C) M hD (iP.ext hd C));have CR:=af (fun(jb r:Nat) (y:Ag) (s:y∈l) (Af Aa:aR) (cf ca:Nat) (W:au) (hB:fW x (aU x D) jb r W) (hM:dl x r W) (hf:Ls eO lF W (.slice Af y.1 cf) y.1) (hg:IL W (.slice Aa y.2 ca) (ints y.2)) (ht:dW W)=>
  anL jb r y.1 y.2 Af Aa cf ca (vl y) M hD a6 r6 w_ wZ wY (H y s).fs kQ (H y s).vle (H y s).vf ((acO (H y s).ag.tK).imp fun h=>Nat.ne_of_lt h) (H y s).ag.ao (a7 (H y s).ag.al Od) (H y s).hle W hB hM hf hg ht)
 have HL:=af hl;have HT:=af ht;obtain⟨Ao,co,p,dd,rfl, -, -⟩:=ho;obtain⟨A,c,B,d,E,e,rfl, -, -, -⟩:=h;clear kQ hl H ht hd hD w_ wZ wY M;have jv:=(bD HL).2;go_enter func8,ntmps8;go_upto_region 1 with fail
 refine fR fun W HX BX BO=> ?_;have JL:=BO.lt;obtain⟨S,O⟩:∃S:World->Prop,S=fun b=>aA b w.heap.size 0 (.slice A x.ai c)/\aA b w.heap.size 1 (.slice B x.ay d)/\aA b w.heap.size 2 (.slice E x.bf e)/\aA b w.heap.size 3 (av x.label)/\aA b (w.heap.size+1) 0 (.slice Ao x.ai co):=⟨_,rfl⟩;have bO:ah (∀b,S b->aA b w.heap.size 0 (.slice A x.ai c)/\aA b w.heap.size 1 (.slice B x.ay d)/\aA b w.heap.size 2 (.slice E x.bf e)/\aA b w.heap.size 3 (av x.label)/\aA b (w.heap.size+1) 0 (.slice Ao x.ai co)):=by rw[ah,O];exact fun _ h=>h
 have q:ah (∀b,Ext W b->S b):=(by rw[ah,O];exact fun b hx=>by obtain⟨a0,a1,a2,a3⟩:=(BX.ext hx).four;exact⟨a0,a1,a2,a3,(BO.ext hx).aF 0⟩);clear O;have U:=af (aB W).drew;have aH:=af (q _ U);refine cD (S:=S) (T:=fun _=>false) Ok ?_;generalize W.drew=wd at*;refine ax 0 17 ?_;refine ax 1 18 ?_;refine ax 3 20 ?_;refine ax 4 21 ?_;refine ax 6 23 ?_;refine ax 7 24 ?_;refine aO 2 ?_;intro K m;go_simp;refine(C1 wd (HX.trans U)).mono ?_;rintro e2 w2 ⟨rfl,hx2⟩;have a:=af (U.trans hx2);refine m.ae _ _ (fun _=>q _ a) ?_;clear m hx2;refine aO 5 ?_;intro K m;go_simp;refine(C2 w2 (HX.trans a)).mono ?_;rintro e3 w3 ⟨rfl,hx3⟩;have X:=af (a.trans hx3);refine m.ae _ _ (fun _=>q _ X) ?_;clear m hx3;refine aO 8 ?_;intro K m;go_simp;refine(C3 w3 (HX.trans X)).mono ?_;rintro e4 w4 ⟨rfl,g_⟩;have V:=af (X.trans g_);refine m.ae _ _ (fun _=>q _ V) ?_;clear m g_;refine aO 9 ?_;intro K m;go_simp;refine m.ae _ _ (fun _=>q _ (V.alloc _)) ?_;refine aT fun W5 cG BZ=> ?_;have I:=af (V.trans cG);clear m;have C6:=af (alu w4.heap.size 3 3 (aK _) avW W5 fun k hk=>BZ.cell (by
  rcases k with _|_|_|k
  ·rfl
  ·rfl
  ·rfl
  ·omega))
 refine aO 10 ?_;intro K m;go_simp;refine C6.mono ?_;rintro e6 w6 ⟨rfl,rfl⟩;refine m.ae _ _ (fun _=>q _ I) ?_;clear m BZ;refine aO 11 ?_;intro K m;go_simp;refine m.ae _ _ (fun _=>q _ I) ?_;refine b_ Ok ?_;clear m;obtain⟨s0,s1,s2,s3⟩:=(BX.ext I).four;have Z:=af (HX.trans I);have C5:=af (C4 W5 Z);clear BX BO;go_wp2_with fail
 refine C5.mono ?_;rintro e7 w7 ⟨jb,r,rfl,N,F,Jv,hl2,uH⟩;have GH:=af (Z.trans uH);have tN:=af (HT.ext GH);have GG:=af N;have Ps:=af F;have hpl:=F.lt;have Jo:w.heap.size<=r:=a7 Z.size hl2;have VJ:jb≠r:=by obtain⟨A,c,B,d,E,e,At,ct,Al,cl,l,h,_⟩:=N;exact F.ne h
 clear s0 s1 s2 s3 N F Jv hl2 uH;go_upto_region 7 with fail
 go_loopw [12,14,15,16,36] (fun v12 _ _ _ L wr=>∃(i:Nat) (f:List (List Gp)),i<=l.length/\L=av i/\ah (bI kM 1 KQ w7.heap.size wr v12 f)/\ah (f.length=i)/\ah (∀j (P:j<l.length) (h2:j<f.length),Fh x D vl l[j] f[j])/\ah (dl x r wr)/\ah (dW wr)/\ah (a8 [r] w7 wr)) (fun _ _ _ _ L _=>l.length - (RowKit.intOf L).toNat)
 exact⟨0,[],aV _,rfl,jf,rfl,fun j _ h=>absurd h (Lv _),Ps,tN,.gV (aB _)⟩;obtain⟨i,f,hi,rfl,HO,Y,DC,HM,HTr,HC⟩:=hrel;have JN:=GH.cy HC fun i hi=>by rw[bG.1 hi];exact Jo
 have rW:=af JN;clear JN;by_cases iM:i<l
 ·obtain⟨g,o,Af,cf,Aa,ca,rfl,hg,q1,q2,HF,HG⟩:=sH.get (bU yO HL rW) iM;have GS:=af (CR jb r l[i] (a_ iM) Af Aa cf ca);have Pp:ah (∀y,l[i]=y->∀j (P:j<l.length),j=i->l[j]=y):=fun y e j P e2=>by subst e2;exact e
  generalize s:l[i]=y at*;have atj:=af (Pp y rfl);obtain⟨fs,Q⟩:=y;simp only at q1 q2 HF HG GS;clear s;go_upto_region 9 with fail
  refine aT fun W2 a BG=> ?_;have hbg:=BG.lt;have J:fW x (aU x D) jb r wr:=GG.cy Ps VJ HC;have CR2:=af (GS W2 (J.ext a) (HM.ext a) (bU uj HF a) (kJ HG a) (HTr.ext a));have gD:=af (HC.ext a);have gN:=af (HM.ext a);have mI:=af (HTr.ext a);have dY:=af (HO.ext vV a);have g0:=BG.aF 0;have g1:=BG.aF 1;clear q1 q2 J BG;go_wp2_with fail
  refine CR2.mono ?_;rintro e3 w3 ⟨u,G,rfl,hu,hG1,hG2,z,FO⟩;have Ki:=af (gN.tab z mI);have jy:=af (gD.trans z);have hk3:∀t,Kept t W2 w3:=fun t=>gN.kept z t;have fX:=af (dY.only vV z.MX hpl fun u _=>hk3 u);have lD:=af FO;have tM:=af hu;have HG3:ah (Fh x D vl (fs,Q) G):=⟨hG1,hG2⟩;obtain⟨Au,cu,eu⟩:∃Au cu,u= .slice Au G cu:=by obtain⟨A,c,_,e,_⟩:=hu;exact⟨A,c,e⟩
  subst eu;clear hu hG1 hG2 z FO hk3 g0 g1;obtain⟨A',c',xs,rfl, -,Uf,HOr,Gw⟩:=fX.parts;have oD:=Y.ae;have hw:=jy.size;have cM:(f.length+1)*24<=140737488355328:=Om;have HN4:ah (∀(G':List (List Gp)),G'=f++ [G]->∀j (P:j<l.length) (h2:j<G'.length),Fh x D vl l[j] G'[j]):=by
   rintro G' rfl j P h2;by_cases hj:j<f.length
   ·rw[YF hj];exact DC j P hj
   ·have hj2:j=i:=by rw[bC,iE] at h2;omega
    have e1:(f++ [G])[j]=G:=(by rw[YC Om];simp);rw[e1,atj.ae j P hj2];exact HG3
  clear oD;go_wp2_with (at_builtin;refine gQ rfl _ _ adY rfl w7.heap.size aiY _ _ _ rfl HOr.ae #[.slice Au G cu] 1 1 rfl rfl rfl cM hw ?_);intro v' w5 mF n _;have O5:=af (jc (R:=KQ) (x:=G) vV (fun u hu=>by simp only[aJ,bL,or_false] at hu;rcases hu with rfl|rfl<;>decide) HOr Gw ⟨Au,cu,rfl,tM⟩ mF n)
  have oP:=af (jy.grown HOr n (aK _));have hXX:Ext w7 w7:=aB _;have se:ah (dl x r w5):=lD.keep (n.block r lD.lt fun e=>by have:=(HOr.lt r e.symm).1;omega) (pZ HOr n Od) (pZ HOr n Od);have HT5:ah (dW w5):=Ki.grow HOr n tN.lt;have atx:ah ((f++ [G]).length=i+1):=by rw[ah,bC,Y.ae];rfl
  clear mF n hXX;go_wp2_with fail;go_roundw;exact⟨i+1,_,by omega,by go_num,O5,atx,HN4.ae _ rfl,se,HT5,oP⟩;simp [RowKit.intOf];omega
 ·have d1:decide ((i:Int)<(l.length:Int))=false:=aY;obtain⟨A',c',xs,rfl, -,Uf,HOr,Gw⟩:=HO.parts;have sf:=af HO.ls;have xJ:ah (f.length=l):=by rw[ah,Y.ae];omega
  go_wp2_with fail
  exact bodyPost_ret (v:= .tuple #[.slice A' f c',av 0]) (by simp [results,results8,go_sem]) rfl ⟨_,f,rfl,sf,xJ,DC,rW⟩
def aqE.k53(h:aq:=by
 have o:f.vars=n:=(by have j:=(vK w.vd (qQ (n:=n)) fun v=>by rw[w.vm,dB]).length_eq;rwa[iG] at j);have m:f.homes.length=i.length:=(vK w.hd hd w.hm).length_eq;rw[o,m] at h;show dt B _ (f.val dQ U _ (jI at_ tab) env)
 have p:=List.nodup_iff_count.1 w.vd a;generalize f.val dQ U _ (jI at_ tab) env=q at*;rcases ip (f.vars.count a) with l|l
 ·rw[l,yr,yr] at h;have k:=h.up (C:=B);rw[nQ] at k;refine k.mono ?_;rw[kG,fO,ed _ B,<-fO];exact eT _ (iF _ d)
 ·have j:f.vars.count a=1:=Om;rw[j,po,po] at h;exact h):=h
def aaN{n:Nat}{at_:Nat->List Nat}{f:Fo}{U:List aM}{env:Nat->aM}{lift:Nat->aM->Rat}{tab:jZ}{fx:Nat->Option aM}{B M:Nat}(w:Whole n at_ i f)(hd:i.Nodup)(hK:U<=b)(ha:∀t,dt B M (lift a t))(d:B<=M)(hb:∀v t,v≠a->dt 1 1 (lift v t))(hW:∀h,∀y∈tab h,y.2.natAbs<=c):
 dt B (b^n*M*c^i.length) (lj at_ U f env lift tab fx):=by
 open aqE in exact m53
noncomputable def lm(t:aD):Rat:= @dite _ (∃q:Rat,lC q/\t=bS q) (Classical.propDecidable _) (fun h=>h.choose) (fun _=>0)
def MN(t:aD):lC (lm t):=by
 unfold lm;split
 ·rename_i h;exact h.choose_spec.1
 ·exact⟨by unfold gJ;decide,by decide⟩
def SK{t:aD}(h:∃q:Rat,lC q/\t=bS q):t=bS (lm t):=by unfold lm;rw[dif_pos h];exact h.choose_spec.2
def amK:lm []=0:=by unfold lm;rw[dif_neg];rintro⟨q, -,h⟩;exact QX q h.symm
def ML{t:aD}(h:fL B t)(d:B≠3):qr t (lm t):=by
 have a:(∃q:Rat,lC q/\t=bS q)->qr t (lm t):=fun h=>by have e:=SK h;exact .inr ⟨by rw[e];exact QX _,e,399,by decide,(MN t).fit⟩
 rcases h with rfl|⟨h, -⟩|⟨-,z,rfl,b⟩|⟨-,q,rfl,c⟩
 ·exact .inl ⟨rfl,amK⟩
 ·exact absurd h d
 ·exact a ⟨(z:Rat),⟨b,by rw[Rat.den_intCast];decide⟩,(nP (q:=(z:Rat)) rfl).symm⟩
 ·exact a ⟨q,c,rfl⟩
noncomputable def gf(f:Fu)(t:aD):Rat:=if f.2.1=1 then lm t else if f.2.1=2 then lm t*lm t else if f.2.1=3 then (if t=f.2.2 then 1 else 0) else if f.2.1=4 then (if t≠ []/\wJ (lm t) (lm f.2.2)<0 then 1 else 0) else if t= [] then 0 else 1
def adq{x:aP}{f:Fu}{t:aD}(h:qi x f)(c:fL (kd x f.1) t):xS f.2.1 t f.2.2 (gf f t):=by
 obtain⟨-,h⟩:=h;unfold gf;rcases h with⟨a,b, -⟩|⟨a,b, -⟩|⟨a, -⟩|⟨a,b,e,d⟩|⟨a, -⟩
 ·rw[a];exact .inl ⟨rfl,ML c b⟩
 ·rw[a];exact .inr (.inl ⟨rfl,_,ML c b,rfl⟩)
 ·rw[a];exact .inr (.inr (.inl ⟨rfl,rfl⟩))
 ·rw[a];exact .inr (.inr (.inr (.inl ⟨rfl,_,_,ML c b,ML d b,rfl⟩)))
 ·rw[a];exact .inr (.inr (.inr (.inr ⟨rfl,rfl⟩)))
def mO:Nat:=27720*27720
def oI:Nat:=27720*1000000000*(27720*1000000000)
def aei:mO<=oI:=Od
def aku(q:Rat):q*((q.den:Int):Rat)=(q.num:Rat):=by
 have a:(q.den:Int)≠0:=awU;rw[<-QZ];show Rat.divInt (q.num*(q.den:Int)) ((q.den:Int)*1)=_
 rw[Int.mul_comm (q.den:Int) 1,Rat.divInt_mul_right a];exact Rat.num_divInt_den (q.num:Rat)
def Tg(h:lC H):dt 27720 (27720*1000000000) H:=by
 obtain⟨⟨l,j⟩,i⟩:=h;have c:=H.den_pos;have d:H.den∣27720:=(by have g:H.den=1\/H.den=2\/H.den=3\/H.den=4\/H.den=5\/H.den=6\/H.den=7\/H.den=8\/H.den=9\/H.den=10\/H.den=11\/H.den=12:=Om;rcases g with h|h|h|h|h|h|h|h|h|h|h|h<;>rw[h]<;>decide)
 obtain⟨k,b⟩:=d;have a:k<=27720:=by rw[b];exact Nat.le_mul_of_pos_left _ c
 refine⟨H.num*k,?_,?_⟩
 ·have e:H*((H.den:Int):Rat)=(H.num:Rat):=aku H;rw[show((27720:Nat):Int)=(H.den:Int)*(k:Int) by rw[<-k6,<-b],He,<-Rat.mul_assoc,e,He]
 ·rw[yj,fY];have f:H.num.natAbs<=1000000000:=Om;calc H.num.natAbs*k<=1000000000*27720:=vF f a
   _=27720*1000000000:=Od
def adm{p:Prop} [Decidable p]:dt mO oI (if p then (1:Rat) else 0):=by
 split
 ·exact(Bz.up (C:=mO)).mono Od
 ·exact EO _ _
def Sz(f:Fu)(t:aD):dt mO oI (gf f t):=by
 unfold gf;split
 ·exact((Tg (MN t)).up (C:=27720)).mono Od
 split
 ·exact(Tg (MN t)).mul (Tg (MN t))
 split
 ·exact adm
 split
 ·exact adm
 split
 ·exact EO _ _
 ·exact(Bz.up (C:=mO)).mono Od
def SG:dt mO oI 1:=(Bz.up (C:=mO)).mono Od
def aa2(v:Nat)(g:Fu->Rat):eL v g []=1:=rfl
def Hz(v:Nat)(g:Fu->Rat)(f:Fu):eL v g [f]=if f.1=v then g f else 1:=by
 show(1:Rat)*_=_
 rw[LX]
def Rm(v:Nat)(t:aD):∀l:List Fu,l.length<=1->dt mO oI (eL v (fun f=>gf f t) l)
 | [],_=>SG
 | [f],_=>by
   rw[Hz];split
   ·exact Sz f t
   ·exact SG
 |_::_::_,h=>by simp at h
def MF(h:dt mO oI H):bF 100000 H:=(dt.fit h Od (e:=27) Od Od).mono Od
def xU(x:aP)(D:List (List Rw)):Prop:=gc x D/\∀l∈D,l.length<=4
def aan(x:aP)(b:bR x):∃f0,Whole x.ai.length (bh x) (bM x) f0:=by obtain⟨d, -,h⟩:=aiS (n:=x.ai.length) (at_:=bh x) (hl:=bM x) (perm:=List.range x.ai.length) (fun a f=>dB.2 f) qQ (fun t e=>by have c:=lN.1 e;intro h;rw[sY c] at h;exact b.rn _ (a_ c) (List.map_eq_nil_iff.1 h)) (M4 b) (fun _=>none);exact⟨_,h⟩
end Go.Proofs.YtadbchhdjbghkaaGreatDoor
