/- Texts of the proof, part 23. -/
import Derived.Test.YtadbchhdjbghkaaGreatDoorA22
namespace Go.Proofs.YtadbchhdjbghkaaGreatDoor
set_option maxHeartbeats 8000000
set_option linter.all false
set_option maxRecDepth 100000
variable{aq:Prop}
open Go.RowKit Go.Lib Go.Maps Go.ChangeShapes Go.WideShapes Go.ChangeAt Go.Proofs.Tryz
variable{a b c d e f g h:Nat}{i j k l:List Nat}{m n o:World}{p q r s:Value}{t u v:List Value}{w x:TypeId}{y z:Nat→Option Nat}{A:Nat→List Nat}{B C:Int}{E F:Option Addr}{H I:Rat}{J:Nat→Nat}{K:Nat→Bool}{L:List Int}{N:Array Bool}{O:Option Nat}{Q:Act}{R S:Bool}{T:List UInt8}
def akW(g o N:Nat)(v:Value)(x:aP)(w:au)(h:df w g)(hv:dN w v x)(ok:bR x)(hi:N<x.ay)(h8:o<=8):
 Calls prog 52 #[aI g 0,v,av N,av o] w fun e f=>∃l u,l.length<=o/\Cf x x.ay[N].2 5 l/\e= .returned u/\bI eM 2 eI w.heap.size f u (yY l)/\df f g/\Only g w f:=by
 obtain⟨A,c,B,d,Dd,e,rfl,ha,hr,hf⟩:=hv;obtain⟨-,ha1,ha2⟩:=bD ha;obtain⟨-,iN,j4⟩:=bD hr;have HA:=af ha;have aN:=af ok;have HS:=af h;have hg:=h.lt;obtain⟨gr,M,Bi,mi,di,rfl,hgr, -,gz,jL⟩:=rp hr hi;have dA:=af jL;have ic:=af (ok.ri _ (a_ hi));obtain⟨rR,af3,af2⟩:=bD jL;have Wa:x.ay[N].2.length<=12:=by
  rcases EU (k:=0) (n:=x.ai.length) (ok.ra _ (a_ hi)) (ok.ri _ (a_ hi)) with h1|h1
  ·rw[h1];simp
  ·have:=ok.a12;omega
 have HKP:ah (∀W f,Ext w W->df W g->Only g W f->aA f gr (M+N*2+1) (.slice Bi mi di)):=fun W f hX hs O=>by have h1:=Ls.cells zF.two (bU nS hr hX) (p:=N*2+1) Om (Im hs O Od);rw[<-yq] at h1;exact h1.trans ((hX.cell (p:=aC gr (M+N*2+1)) hgr).trans gz)
 generalize x.ay[N]=rel at*;obtain⟨rn,F⟩:=rel;simp only at gz dA ic rR Wa jL⊢;subst rR;obtain⟨AN,hAN⟩:∃AN,x.ai.length=AN:=⟨_,rfl⟩;have xR:=af hAN;rw[hAN] at ha1 HA⊢;generalize x.ay.length=RN at*;have au_:N<9223372036854775807:=Om;go_enter func52,ntmps52;go_upto_region 2 with fail
 refine aT fun W HX BX=> ?_;have hgW:g<W.heap.size:=cF hg HX.size;have I:=af (HS.ext HX);have atr:=af (kJ dA HX);have HAW:=af (bU mq HA HX);have HKW:=af (fun f O=>HKP W f HX I O);have hbg:w.heap.size≠g:=Om;have V9:=BX.lt;have hwW:=HX.size;generalize Dj:w.heap.size=bs at*;have DZ:=af Dj;have CN:=af (ru g (o+1) W I Om Om);go_wp2_with fail
 refine CN.mono ?_;rintro e2 w2 ⟨r0,Oh,rfl,hs3,eD⟩;have X:=af eD;have ei:=af hs3;have hw2:=X.size;go_upto_region 3 with fail
 go_loopw [9,10] (fun v9 v10 wr=>∃(k:Nat) (ls:List Rw),v10=av k/\ls.length+k<=o/\ah (Cf x F 5 ls)/\ah (bI eM 2 eI w2.heap.size wr v9 ls)/\ah (df wr g)/\ah (Only g w2 wr)) (fun _ v10 _=>(RowKit.intOf v10).toNat)
 exact⟨r0,[],rfl,by simp;omega,Oe,jf,ei,ig _ _⟩;obtain⟨k,ls,rfl,hk,L,ve,mJ,G⟩:=hrel;obtain⟨La,c10,auC,rfl,_,_,_,_⟩:=ve.parts;generalize wr=w4 at*;have hw4:=G.size;by_cases zu:0<k
 ·have asp:w4.heap.size≠g:=Om;go_wp2_with fail;refine(Ru g _ [1,1,2,5] _ (mJ.ext ((aB _).alloc _)) (iT _ aS (eG [1,1,2,5])) asp Od Od).mono ?_;rintro e5 w5 ⟨wt,hwt,rfl,hs5,mF⟩;have afO:1<=wt/\wt<=5:=by simp only[aJ,bL,or_false] at hwt;omega
  have V:ah (Only g w4 w5):=(ep ((aB _).alloc _)).trans mF;have kB:=af hs5;go_upto_region 6 with fail
  refine aT fun W6 dG BW=> ?_;have nB:=af (V.trans (ep dG));have oM:=af (kB.ext dG);have V7:w4.heap.size<=w5.heap.size:=V.size;have agn:=BW.lt;generalize w5.heap.size=bw at*;have HYW:=af (X.trans (G.trans nB));have qK:=af (BX.only HYW hbg);have q1:=HKW W6 HYW;obtain⟨s0,s1,s2,s3⟩:=qK.four;go_upto_region 7 with fail
  go_loopw [33] (fun v33 wr=>∃(j:Nat) (C:List aD) (vv:Value),j<=F.length/\v33=av j/\ah (nU x (F.take j) C)/\ah (ar wr bw eM [vv,av wt])/\ah (bI bJ 1 jM W6.heap.size wr vv C)/\ah (df wr g)/\ah (Only g w4 wr)/\W6.heap.size<=wr.heap.size) (fun v33 _=>F.length - (RowKit.intOf v33).toNat)
  exact⟨0,[],_,aV _,rfl,nU.nil,BW,jf,oM,nB,aK _⟩;obtain⟨j,C,vv,hj,rfl,iO,Yo,Xm,HSr,U,hsz⟩:=hrel;by_cases VL:j<F.length
  ·have s:=af (X.trans (G.trans U));obtain⟨gi,oi,rfl,_,Di⟩:=gX (IL.past atr I s) VL;have FU:=ic _ (a_ VL);have gh:ah (F.take (j+1)=F.take j++ [F[j]]):=fg VL;generalize F[j]=a at*;obtain⟨r,rfl⟩:∃r:Nat,a=r:=⟨a.toNat,by omega⟩;have q:r<x.ai.length:=Om;have avF:r<AN:=by rw[<-xR.ae];exact q
   obtain⟨ga,oa,rfl,OH, -, -⟩:=pz (AL.past HAW I s) q;have HCK:ah (∀f,Only g W f->aA f ga (oa+r*2) (aL x.ai[r].1)/\aA f ga (oa+r*2+1) (av x.ai[r].2)):=fun f O=>by obtain⟨ga',oa',ee,h1,h2,h3⟩:=pz (AL.past HAW I O) q;injection ee with ee;injection ee with e1 e2;subst e1 e2;exact⟨h2,h3⟩
   have zT:ah (kd x r=x.ai[r].2):=by unfold kd;simp [ah,q]
   have zt:=aN.ak _ (a_ q);generalize x.ai[r]=Wz at*;obtain⟨nm,ak⟩:=Wz;simp only at zT zt HCK;obtain⟨Av,cv,xv,rfl,_,_, -, -⟩:=Xm.parts;have agm:bw≠g:=Om;obtain⟨S,eQ⟩:∃S:World->Prop,S=fun f=>aA f bw 0 (.slice Av C cv)/\F4 f bs (aG ga oa AN c) (aG gr M RN d) (.slice Dd x.bf e) (av x.label)/\aA f ga (oa+r*2) (aL nm)/\aA f ga (oa+r*2+1) (av ak):=⟨_,rfl⟩;have bO:ah (∀f,S f->aA f bw 0 (.slice Av C cv)/\(aA f bs 0 (aG ga oa AN c)/\aA f bs 1 (aG gr M RN d)/\aA f bs 2 (.slice Dd x.bf e)/\aA f bs 3 (av x.label))/\aA f ga (oa+r*2) (aL nm)/\aA f ga (oa+r*2+1) (av ak)):=avQ;have Y:ah (∀f,Only g wr f->S f):=(by rw[ah,eQ];exact fun f O=>⟨(Yo.only O agm).aF 0,(BX.only (s.trans O) hbg).four,HCK.ae f (s.trans O)⟩)
   go_upto_region 9 with fail
   have HOd:ah (Only g wr wr.drew):=(ig g wr).drew;have HSd:=af (HSr.ext (aB wr).drew);have aH:=af (Y _ HOd);refine cD (S:=S) (T:=fun j=>decide (10<=j)) Ok ?_;generalize wr.drew=wd at*;refine ax 0 37 ?_;refine ax 1 38 ?_;refine ax 2 39 ?_;refine ax 3 40 ?_;refine ax 4 41 ?_;refine ax 5 42 ?_;refine ax 6 43 ?_;refine ax 7 44 ?_;refine aO 8 ?_;intro K P;go_simp;refine(amO g nm ak wd HSd zt).mono ?_;rintro e7 w7 ⟨t,ht,rfl,FK,zn⟩;have r_:=af (HOd.trans zn);have oL:=af FK;have HVT:=af ht;refine P.ae _ _ (fun _=>Y _ r_) ?_;have aH:=af (Y _ r_);refine aO 9 ?_;intro K P;go_simp;refine P.ae _ _ (fun _=>Y _ (r_.trans (ep ((aB w7).alloc _)))) ?_;refine aT fun WZ cG BZ=> ?_;have nE:=af (r_.trans (ep cG));have fE:=af (oL.ext cG);have asY:ah (nU x (F.take (j+1)) (C++ [t])):=(by rw[ah,gh.ae];exact iO.snoc (by rw[zT.ae];exact HVT))
   have as4:=af (akH Xm nE Om);have BW2:=af (Yo.only nE agm);have asC:=af (U.trans nE);have wH:W6.heap.size<=WZ.heap.size:=a7 hsz nE.size;have zk:C.length<=12:=by have h:=iO.1;rw[cJ] at h;omega
   obtain⟨_,_,xv,ee,_,_,z,vo⟩:=as4.parts;injection ee with xc _ Do;subst xc Do;have cM:(C.length+1)*16<=140737488355328:=Om;refine aO 10 ?_;intro K P;refine nh rfl ?_;refine ro _ _ rr rfl W6.heap.size str_slice _ _ _ rfl z.ae _ [aL t] BZ.ae 1 1 rfl rfl rfl cM wH ?_;intro v' Fm D m _;obtain⟨at3,asy,rfl,_,_,_⟩:=ej D;have xi:=af (jc (R:=jM) (x:=t) jS Oe z vo rfl D m);have E:=af (gH BW2 z m agn);have J:=af (fE.grown m (fun k hk=>by have:=(z.lt k hk).1;omega));have H:=af (Eu asC z m Om);have aqb:W6.heap.size<=Fm.heap.size:=a7 wH m.size;have v0:=E.aF 0;have ku:=E.frozen 0;have hlw:=E.lt;obtain⟨J0,Uj,Yz,K11,Q⟩:=gG (i:=0) E.ae (.slice at3 (C.length+1) asy);have ar9:g<bw:=Om;have WG:=af (xi.only jS Q agn Oe);have asW:=af (J.past Q ar9);have asD:=af (H.fresh Q V7);have aqa:W6.heap.size<=J0.heap.size:=a7 aqb Q.size;simp only[Act.put,d8,dP,d9];refine P.ae _ _ Oe ?_;refine aO 11 ?_;intro K P;go_simp;refine P.ae _ _ Oe ?_;refine aO 12 ?_;intro K P;go_simp;refine P.ae _ _ Oe ?_;refine b_ Ok ?_;go_wp2_with fail
   go_roundw;exact⟨j+1,_,_,by omega,by go_num,asY,Yz,WG,asW,asD,aqa⟩;simp [RowKit.intOf];omega
  ·have JB:F.take j=F:=dz Om;rw[JB] at iO;have d1:decide ((j:Int)<(F.length:Int))=false:=aY;have kC:=af (akJ ve mJ U Om);obtain⟨_,_,xsR,ee,_,_,Z,HCl⟩:=kC.parts;injection ee with xc _ Do;subst xc Do;obtain⟨Av,cv,xv,rfl,_,_,z,vo⟩:=Xm.parts;have HTv:ah (TL wr (.slice Av C cv) C):=(bI.of z vo).ls;obtain⟨v0,v1⟩:=Yo.two;have cM:(ls.length+1)*32<=140737488355328:=Om;have s:=af (G.trans U);have hwz:w2.heap.size<=wr.heap.size:=s.size;go_wp2_with (at_builtin;refine gQ rfl _ _ kK rfl w2.heap.size AY _ _ _ rfl Z.ae #[.slice Av C cv,av wt] 1 1 rfl rfl rfl cM hwz ?_)
   intro v' Fm D m _;have xi:=af (jc (R:=eI) (x:=(C,wt)) kH (fun u hu=>by rw[bG.1 hu];decide) Z HCl ⟨Av,cv,rfl,HTv⟩ D m);have J:=af (HSr.grown m (fun k hk=>by have:=(Z.lt k hk).1;omega));have H:=af (Eu s Z m (aK _));go_wp2;go_roundw;exact⟨k - 1,ls++ [(C,wt)],by rw[Int.natCast_sub Om];rfl,by simp;omega,L.snoc iO afO.1 afO.2,xi,J,H⟩;simp [RowKit.intOf];omega
 ·obtain rfl:k=0:=Om;have HLs:ah (mH w4 (.slice La ls c10) ls):=ve.ls;have HLw:ah (∀y∈ls,y.2.natAbs<=1000000):=fun y hy=>by have:=L y hy;omega
  have Pi:=af (ake La ls c10 ls w4 HLs Om HLw);go_wp2_with fail;refine Pi.mono ?_;rintro e5 w5 ⟨vS,rfl,hoS,fM⟩;have HSo:=af (hoS.weaken (b:=bs) Om);obtain⟨AS,cS,xsS,rfl,_,_,HRx,HCx⟩:=hoS.parts;have kB:=af (mJ.ext fM);have V:ah (Only g w w5):=(ep (g:=g) HX).trans (X.trans (G.trans (ep fM)));go_wp2_with fail
  exact bodyPost_ret (v:= .slice AS (yY ls) cS) (by simp [results,results52,go_sem]) rfl ⟨ls,_,by omega,L,rfl,by rw[DZ.ae];exact HSo.ae,kB,V⟩
structure agC(x:aP)(cs:List Int)(l:List Rw):Prop where
 ok:wn x cs l
 len:l.length<=4
 wt:∀y∈l,y.2<=20
def apM{x:aP}{l:List Rw}(h:Cf x L 5 l)(g:l.length<=4):agC x L (yY l):=by
 obtain⟨k,f,b,d⟩:=acz Od h l (aK _);have e:yY l=jo l l.length:=(by unfold yY qg;rw[fj];refine Lj.2 fun y a=> ?_;have:=(b y a).1;rw[bne_iff_ne];omega)
 rw[e];have c:∀y∈jo l l,y.2<=20:=fun y a=>by have j:=(b y a).2;have i:(l.length:Int)*5<=4*5:=Int.mul_le_mul_of_nonneg_right Om Om;omega
 exact⟨⟨by omega,f,fun y a=>⟨(b y a).1,by have:=c y a;omega⟩,d⟩,by omega,c⟩
def GR(x:aP)(D:List (List Rw))(i:Nat):Prop:=D.length=i/\∀(k:Nat) (t:List Rw) (r:Rl),D[k]? =some t->x.ay[k]? =some r->agC x r.2 t
def aot(g:Nat)(v:Value)(x:aP)(w:au)(h:df w g)(L:dN w v x)(ok:bR x):
 Calls prog 18 #[aI g 0,v,av 4] w fun e M=>∃D u,GR x D x.ay/\e= .returned u/\bI kK 1 qC w.heap.size M u D/\df M g/\Only g w M:=by
 have HV:=af L;have CR:=af (fun(ir:Nat) (W:au) (h:df W g) (L:dN W v x) (hi:ir<x.ay)=>akW g 4 ir v x W h L ok hi Od);obtain⟨A,c,B,d,Dd,e,rfl,ha,hr,hf⟩:=L;obtain⟨-,iN,j4⟩:=bD hr;have HS:=af h;have hg:=h.lt;have r6:=ok.r6;go_enter func18,ntmps18;go_upto_region 2 with fail
 refine aT fun W G BX=> ?_;have U:g<W.heap.size:=cF hg G.size;have H:=af (HS.ext G);have HVW:=af (HV.ext G);have Y:w.heap.size≠g:=Om;have V9:=BX.lt;have O:=G.size;generalize X:w.heap.size=bs at*;obtain⟨s0,s1,s2,s3⟩:=BX.four;go_upto_region 3 with fail
 go_loopw [7,12] (fun v7 n wr=>∃(i:Nat) (a:List (List Rw)),i<=x.ay/\n=av i/\ah (GR x a i)/\ah (bI kK 1 qC W.heap.size wr v7 a)/\ah (df wr g)/\ah (Only g W wr)) (fun _ n _=>x.ay - (RowKit.intOf n).toNat)
 exact⟨0,[],aV _,rfl,⟨rfl,fun k t r h=>(by cases h)⟩,jf,H,ig _ _⟩;obtain⟨i,a,hi,rfl,J,HO,bB,j⟩:=hrel;obtain⟨A7,c7,xs7,rfl,_,_, -, -⟩:=HO.parts;have FM:a.length<=6:=by have:=J.1;omega
 by_cases z:i<x.ay.length
 ·have kZ:=af (BX.only j Y);have xx:=af (HVW.past H j);have GS:=af (CR i wr bB xx z);obtain⟨s0,s1,s2,s3⟩:=kZ.four;have pP:ah (x.ay[i]? =some (x.ay[i]'z)):=aX _;go_wp2_with fail
  refine GS.mono ?_;rintro e5 w5 ⟨l,u,hl,p,rfl,o,P,q⟩;have HT:=af (apM p hl);have Kt:=af (akI HO bB q U);have kB:=af P;have E:=af (j.trans q);obtain⟨Au,cu, -,rfl, -, -, -, -⟩:=o.parts;have HU:=af o.ls;generalize yY l=K at*;have se:ah (GR x (a++ [K]) (i+1)):=by
   refine⟨by rw[bC,J.1];rfl,fun k t r f C=> ?_⟩;rcases cA k a with y|y
   ·rw[nM y] at f;exact J.2 k t r f C
   ·rw[x4 y] at f;have S:k - a.length=0:=by
     rcases ip (k - a) with h0|h0
     ·exact h0
     ·rw[fF (by rw[iE];omega)] at f;cases f
    rw[S] at f;have Q:k=i:=by have:=J.1;omega
    subst Q;rw[pP.ae] at C;injection f with f;injection C with C;subst f C;exact HT
  obtain⟨_,_,xsD,ee,_,_,m,XU⟩:=Kt.parts;injection ee with xc _ Z;subst xc Z;have N:W.heap.size<=w5.heap.size:=E.size;have V:(a.length+1)*24<=140737488355328:=Om;go_wp2_with (at_builtin;refine gQ rfl _ _ tDb rfl W.heap.size aiK _ _ _ rfl m.ae #[.slice Au K cu] 1 1 rfl rfl rfl V N ?_)
  intro v' Fm s b _;have xi:=af (jc (R:=qC) (x:=K) rh (fun u o=>by
   rcases aJ.1 o with rfl|o
   ·decide
   ·rw[bG.1 o];decide) m XU ⟨Au,cu,rfl,HU⟩ s b)
  have I:=af (kB.grown b (fun k y=>by have:=(m.lt k y).1;omega));have F:=af (Eu E m b (aK _));go_wp2_with fail
  go_roundw;exact⟨i+1,a++ [K],by omega,by go_num,se,xi,I,F⟩;simp [RowKit.intOf];omega
 ·have T:i=x.ay.length:=Om;have d1:decide ((i:Int)<(x.ay.length:Int))=false:=aY;have gN:ah (GR x a x.ay):=by rw[<-T];exact J
  have HOw:ah (bI kK 1 qC bs wr (.slice A7 a c7) a):=HO.weaken O;have HYw:=af ((ep (g:=g) G).trans j.ae);go_wp2_with fail
  exact bodyPost_ret (v:= .slice A7 a c7) (by simp [results,results18,go_sem]) rfl ⟨a,_,gN,rfl,by rw[X];exact HOw.ae,bB,HYw⟩
section
variable{x:aP}{D:List (List Rw)}{y:Ag}{f0:Fo}
theorem S8(n:bR x)(w:gc x D){t:aD}(h:qp x (aU x D) a t):fL (kd x a) t:=by
 obtain⟨k,r,j,y,g,rfl⟩:=h;obtain⟨m,A,e,o⟩:=IC w r;rw[e] at g;obtain⟨p,c⟩:=o.val y (yJ g);have q:=n.ri _ (a_ m);rw[sY m] at j⊢;unfold uD;have l:=PQ.2 j;have u:=YV l;generalize(b9 x.ay[k].2).idxOf a=i at*;have z:(b9 x.ay[k].2).length=x.ay[k].2.length:=by unfold b9;rw[bW]
 have b:i<x.ay[k].2.length:=Om;refine c i (a:Int) _ ?_ ?_
 ·rw[aX b];have s:(x.ay[k].2[i]).toNat=a:=by
   have f:(b9 x.ay[k].2)[i]? =some a:=by rw[aX l,u]
   unfold b9 at f;rw[dL,aX b] at f;injection f
  have:=(q _ (a_ b)).1;congr 1;omega
 ·have d:i<y.1.length:=Om;rw[fh,aX d];rfl
theorem Ss{α β:Type}{f:α->List β}{c:Nat}:∀{l:List α},(∀a∈l,(f a).length<=c)->(l.flatMap f).length<=l.length*c
 | [],_=>by simp
 |a::l,h=>by rw[vB,bC,cP,qT];have g:=h a lH;have e:=Ss fun b d=>h b (oX _ d);omega
theorem abf(b:xU x D):∀l∈aU x D,l.length<=4:=fun l a=>by
 unfold aU at a;obtain⟨i,c,rfl⟩:=dU.1 a;refine a7 (mm _ _) ?_;cases h:D[i]? with
 |none=>exact aV _
 |some l=>exact b.2 l (sK h)
theorem ZR(f:bR x)(v:x.ai.length<=5)(r:x.ay.length<=3)(j:xU x D):(univ (aU x D)).length<=61:=by
 have q:=MQ (L0 (aU x D)) (fun t m=>yF.1 m);have hT:=abe f j.1;have p:((aU x D).flatMap fun l:List Rw=>l.flatMap fun y:Rw=>y.1).length<=(aU x D).length*20:=Ss fun l g=>by
  have u:=abf j l g;refine a7 (Ss (c:=5) fun y k=> ?_) Om;obtain⟨i,h,rfl⟩:=iQ g;have d:i<x.ay.length:=by rwa[qY] at h
  have b:=lN.2 d;have e:bY (aU x D) i=(aU x D)[i]:=by unfold bY;rw[aX h];rfl
  have s:=hT.len i b y (by rw[e];exact k);have o:=MQ (hT.nd i b) fun a n=>dB.2 (M4 f i b a n);rw[iG] at o;omega
 rw[qY] at p;rw[cP] at q;omega
theorem adv(d:gc x D):∀h,∀y∈bY (aU x D) h,y.2.natAbs<=100:=fun h y a=>by
 by_cases c:h<x.ay
 ·obtain⟨g,f,e,b⟩:=IC d (lN.2 c);rw[e] at a;have:=b.wt y (yJ a);omega
 ·unfold bY at a;rw[fF (by rw[qY];omega)] at a;cases a
noncomputable def ou(x:aP)(D:List (List Rw))(f0:Fo)(y:Ag)(k:List aD):Rat:=lj (bh x) (univ (aU x D)) f0 (fun _=> []) (fun v t=>eL v (fun f=>gf f t) y.1) (bY (aU x D)) (eY (fun _=>none) y.2 k)
theorem acx(x:aP):(bM x).Nodup:=qQ
theorem anT(i:bR x)(a5:x.ai.length<=5)(r3:x.ay.length<=3)(g:xU x D)(w:Whole x.ai (bh x) (bM x) f0)(c:y.1.length<=1)(k:List aD):bF 42 (ou x D f0 y k):=by
 have h:=aaN (env:=fun _=> []) (lift:=fun v t=>eL v (fun f=>gf f t) y.1) (tab:=bY (aU x D)) (fx:=eY (fun _=>none) y.2 k) (a:=(y.1.head?.map (·.1)).getD 0) (B:=mO) (M:=oI) w (acx x) (ZR i a5 r3 g) (fun t=>Rm _ t _ c) aei (fun v t d=>by
  rcases b:y.1 with _|⟨f,l⟩
  ·exact Bz
  ·rw[b] at c d;obtain rfl:=mh avT;rw[Hz,if_neg]
   ·exact Bz
   ·exact fun e=>d e.symm) (adv g.1)
 exact m71
theorem adG(ok:bR x)(g:x.ai.length<=5)(c:x.ay.length<=3)(hB:xU x D)(w:Whole x.ai (bh x) (bM x) f0)(hy:ql x y.1 y.2)(b:y.1.length<=1):Ny x D f0 gf mO oI (ou x D f0) y:=by
 refine⟨hy,⟨fun f e t d=>adq (hy.fo f e) (S8 ok hB.1 d),fun v t=> ?_,fun v t i _=>MF (Rm v t _ avU),fun f _ t=>MF (Sz f t)⟩,fun k=>rfl,fun k=>(anT ok g c hB w b k).mono Od,?_⟩
 ·have h:=Rm v t y.1 b;unfold gP;rwa[po,po,nQ]
 ·exact arB
theorem apw(c:bR x):∀v,v<x.ai.length->∃h∈bM x,v∈bh x h:=fun v d=>by obtain⟨r,e,f⟩:=c.used v d;obtain⟨i,a,rfl⟩:=iQ e;exact⟨i,lN.2 a,(uo a fun b g=>(c.ri _ (a_ a) b g).1).2 f⟩
theorem aqh(h:GR x D x.ay):xU x D:=by
 refine⟨⟨h.1,fun k t r d b=>(h.2 k t r d b).ok⟩,fun l c=> ?_⟩;obtain⟨i,e,rfl⟩:=iQ c;have a:i<x.ay.length:=by have:=h.1;omega
 exact(h.2 i _ _ (aX e) (aX a)).len
end
section
variable{n:Nat}{at_:Nat->List Nat}{hl:List Nat}{U:List aM}{f:Fo}{env:Nat->aM}
theorem aoX(h:a∈i)(e:Nat->aM):uD i a (i.map e)=e a:=by unfold uD;have b:=PQ.2 h;have c:=YV b;rw[fh,dL,aX b,c];rfl
theorem Fo.Rh{g:Nat->aM->Rat}{b:jZ}{e:Nat->aM}(c:a∈f.homes)(d:lW at_ b a e=false):f.term dQ g (jI at_ b) e=0:=by unfold Fo.term;rw[Qq (R:=dQ) c (aak d)];exact ux (R:=dQ) _
theorem aiD(w:Whole n at_ hl f)(o:∀v,v<n->∃h∈hl,v∈at_ h){b:jZ}{c:Nat->Option aM}(q:a<n){l k j:Nat->aM->Rat}(B:∀v t,v≠a->l v t=k v t/\l v t=j v t)
 (x:∀t,(∃h∈hl,a∈at_ h/\∃y∈b h,uD (at_ h) a y.1=t)->l a t=k a t+j a t):
 lj at_ U f env l b c=lj at_ U f env k b c+lj at_ U f env j b c:=by
 have hW:∀h (e m:Nat->aM),(∀a∈at_ h,m a=e a)->jI at_ b h m=jI at_ b h e:=fun h e m p=>EC h e m p;unfold lj;rw[AV hW f env w.wf w.vd,AV hW f env w.wf w.vd,AV hW f env w.wf w.vd];refine Eq.trans (vJ (R:=dQ) fun e p=> ?_) (SR.sum_add (R:=dQ));by_cases i:∃h∈f.homes,lW at_ b h e=false
 ·obtain⟨h,g,i⟩:=i;rw[Fo.Rh g i,Fo.Rh g i,Fo.Rh g i];exact(dQ.az 0).symm
 ·have C:l a (e a)=k a (e a)+j a (e a):=x _ (by
   obtain⟨h,g,hm⟩:=o a q;have u:lW at_ b h e=true:=by
    cases z:lW at_ b h e with
    |true=>rfl
    |false=>exact absurd ⟨h,(w.hm h).2 g,z⟩ i
   obtain⟨y,r,F⟩:=RG.1 u;exact⟨h,g,hm,y,r,by rw[F];exact aoX hm e⟩)
  have A:dQ.prod f.vars (fun v=>if cL c v (e v)=true then l v (e v) else 0)=dQ.add (dQ.prod f.vars fun v=>if cL c v (e v)=true then k v (e v) else 0) (dQ.prod f.vars fun v=>if cL c v (e v)=true then j v (e v) else 0):=
   SR.ab6 w.vd ((w.vm a).2 q) (by
    by_cases d:cL c a (e a)=true
    ·rw[if_pos d,if_pos d,if_pos d,C];rfl
    ·rw[if_neg d,if_neg d,if_neg d];exact(dQ.az 0).symm) fun v _ s=>by
    obtain⟨E,D⟩:=B v (e v) s;rw[<-E,<-D];exact⟨rfl,rfl⟩
  unfold Fo.term;rw[A];exact SR.ds' (R:=dQ) _ _ _
end
section
variable{x:aP}{D:List (List Rw)}{f0:Fo}{a:Nat}
theorem Z1{β:Type}{f:β->Rat}:∀{l:List β},(∀y∈l,0<=f y)->0<=dQ.sum l f
 | [],_=>LY
 |y::_,h=>Rat.add_nonneg (h y lH) (Z1 fun z b=>h z (oX _ b))
theorem QD{β:Type}{f:β->Rat}:∀{l:List β},(∀y∈l,0<=f y)->0<=dQ.prod l f
 | [],_=>by show(0:Rat)<=1;decide+kernel
 |y::_,h=>Rat.mul_nonneg (h y lH) (QD fun z b=>h z (oX _ b))
theorem alM(i:gc x D)(g:b∈bM x)(e:Nat->aM):0<=jI (bh x) (bY (aU x D)) b e:=by
 unfold jI fC;split
 ·rename_i y d;obtain⟨l,k,j,f⟩:=IC i g;have c:=(L6 d).1;rw[j] at c;have:=(f.wt y (yJ c)).1;exact Rat.intCast_nonneg.2 Om
 ·exact LY
noncomputable def fS(x:aP)(D:List (List Rw))(f0:Fo)(a:Nat)(q:aD->Rat):Rat:=lj (bh x) (univ (aU x D)) f0 (fun _=> []) (fun v t=>if v=a then q t else 1) (bY (aU x D)) (fun _=>none)
theorem Bt(c:bR x)(w:Whole x.ai.length (bh x) (bM x) f0)(e:a<x.ai.length){q q1 q2:aD->Rat}(h:∀t,qp x (aU x D) a t->q t=q1 t+q2 t):fS x D f0 a q=fS x D f0 a q1+fS x D f0 a q2:=by
 unfold fS;refine aiD w (apw c) e (fun v t b=> ?_) fun t d=> ?_
 ·rw[if_neg b,if_neg b,if_neg b];exact⟨rfl,rfl⟩
 ·rw[if_pos rfl,if_pos rfl,if_pos rfl];exact h t d
theorem abU(b:bR x)(w:Whole x.ai.length (bh x) (bM x) f0)(d:a<x.ai.length){q:aD->Rat}(h:∀t,qp x (aU x D) a t->q t=0):fS x D f0 a q=0:=by
 have e:=Bt (D:=D) b w d (q:=q) (q1:=q) (q2:=q) fun t c=>by rw[h t c,Qs]
 grind
theorem Mq(b:bR x)(w:Whole x.ai.length (bh x) (bM x) f0)(c:a<x.ai.length){q q':aD->Rat}(h:∀t,qp x (aU x D) a t->q t=q' t):fS x D f0 a q=fS x D f0 a q':=by
 have e:=Bt (D:=D) b w c (q:=q) (q1:=q') (q2:=fun _=>0) fun t d=>by rw[h t d,Qs]
 rw[e,abU b w c fun _ _=>rfl,Qs]
theorem an0(d:bR x)(k:gc x D)(w:Whole x.ai.length (bh x) (bM x) f0)(j:a<x.ai.length){q:aD->Rat}(h:∀t,qp x (aU x D) a t->0<=q t):0<=fS x D f0 a q:=by
 rw[Mq d w j (q':=fun t=>if 0<=q t then q t else 0) fun t f=>(if_pos (h t f)).symm];unfold fS lj;have hW:∀h (e c:Nat->aM),(∀b∈bh x h,c b=e b)->jI (bh x) (bY (aU x D)) h c=jI (bh x) (bY (aU x D)) h e:=fun h e c i=>EC h e c i;rw[AV hW f0 _ w.wf w.vd];refine Z1 fun e _=>Rat.mul_nonneg (QD fun v _=> ?_) (QD fun h g=>alM k ((w.hm h).1 g) e);dsimp only;split
 ·split
  ·split
   ·assumption
   ·exact LY
  ·decide+kernel
 ·exact LY
theorem ao'(c:bR x)(g:gc x D)(w:Whole x.ai.length (bh x) (bM x) f0)(d:a<x.ai.length){q b:aD->Rat}(h:∀t,qp x (aU x D) a t->q t<=b t):fS x D f0 a q<=fS x D f0 a b:=by
 have e:=Bt (D:=D) c w d (q:=b) (q1:=q) (q2:=fun t=>b t - q t) fun t _=>by grind
 have p:=an0 c g w d (q:=fun t=>b t - q t) fun t f=>by have:=h t f;grind
 rw[e];grind
end
section
variable{x:aP}{D:List (List Rw)}{f0:Fo}{a:Nat}{fs:List Fu}
theorem mul_ones{l:List Rat}(h:∀q∈l,q=1):∀c:Rat,l.foldl (·*·) c=c:=by
 induction l with
 |nil=>intro c;rfl
 |cons q l b=>intro c;rw[Hh,h q lH,Et];exact b (fun r d=>h r (oX _ d)) c
theorem amP{l:List Rat}(h:∀q∈l,q=0\/q=1):∀c:Rat,(c=0\/c=1)->l.foldl (·*·) c=0\/l.foldl (·*·) c=1:=by
 induction l with
 |nil=>intro c b;exact b
 |cons q l d=>
  intro c b;rw[Hh];refine d (fun r e=>h r (oX _ e)) _ ?_;rcases h q lH with rfl|rfl
  ·exact .inl (Rat.mul_zero _)
  ·rw[Et];exact b
def nW(a:Nat)(fs:List Fu):Prop:=∀f∈fs,f.1=a/\3<=f.2.1
theorem nW.take(h:nW a fs)(i:Nat):nW a (fs.take i):=fun f b=>h f (oW b)
theorem anP{f:Fu}(h:3<=f.2.1)(t:aD):gf f t=0\/gf f t=1:=by
 unfold gf;rw[if_neg Om,if_neg Om];split
 ·split
  ·exact .inr rfl
  ·exact .inl rfl
 split
 ·split
  ·exact .inr rfl
  ·exact .inl rfl
 split
 ·exact .inl rfl
 ·exact .inr rfl
theorem amm(h:nW a fs)(c:b≠a)(g:Fu->Rat):eL b g fs=1:=by unfold eL;refine mul_ones (fun q d=> ?_) 1;obtain⟨f,i,rfl⟩:=dU.1 d;exact if_neg fun e=>c (e.symm.trans (h f i).1)
theorem Rn(h:nW a fs)(v:Nat)(t:aD):eL v (fun f=>gf f t) fs=0\/eL v (fun f=>gf f t) fs=1:=by
 unfold eL;refine amP (fun q b=> ?_) 1 (.inr rfl);obtain⟨f,c,rfl⟩:=dU.1 b;dsimp only;split
 ·exact anP (h f c).2 t
 ·exact .inr rfl
theorem Sx(h:H=0\/H=1):dt mO oI H:=by
 rcases h with rfl|rfl
 ·exact EO _ _
 ·exact SG
noncomputable def iU(a:Nat)(fs:List Fu)(t:aD):Rat:=eL a (fun f=>gf f t) fs
theorem alQ(b:Nat->Option aM)(k:List aM):eY b [] k=b:=by cases k<;>rfl
theorem vlB(h:nW a fs)(k:List aD):ou x D f0 (fs,[]) k=fS x D f0 a (iU a fs):=by
 unfold ou fS;show lj _ _ _ _ (fun v t=>eL v (fun f=>gf f t) fs) _ (eY (fun _=>none) [] k)=_
 rw[alQ];congr 1;funext v t;by_cases b:v=a
 ·subst b;rw[if_pos rfl];rfl
 ·rw[if_neg b];exact amm h b _
theorem SD(c:bR x)(a5:x.ai.length<=5)(r3:x.ay.length<=3)(b:xU x D)(w:Whole x.ai.length (bh x) (bM x) f0)(h:nW a fs):bF 42 (fS x D f0 a (iU a fs)):=by have h:=aaN (env:=fun _=> []) (lift:=fun v t=>if v=a then iU a fs t else 1) (tab:=bY (aU x D)) (fx:=fun _=>none) (a:=a) (B:=mO) (M:=oI) w (acx x) (ZR c a5 r3 b) (fun t=>by rw[if_pos rfl];exact Sx (Rn h a t)) aei (fun v t d=>by rw[if_neg d];exact Bz) (adv b.1);exact m71
theorem ao8(b:bR x)(n:x.ai.length<=5)(e:x.ay.length<=3)(d:xU x D)(w:Whole x.ai.length (bh x) (bM x) f0)(c:ql x fs [])(h:nW a fs):Ny x D f0 gf mO oI (ou x D f0) (fs,[]):=by
 refine⟨c,⟨fun f j t g=>adq (c.fo f j) (S8 b d.1 g),fun v t=> ?_,fun v t i _=>MF (Sx (Rn (h.take i) v t)),fun f _ t=>MF (Sz f t)⟩,fun k=>rfl,fun k=> ?_,?_⟩
 ·have h:=Sx (Rn h v t);unfold gP;rwa[po,po,nQ]
 ·rw[vlB h];exact(SD b n e d w h).mono Od
 ·exact a7 (RA (m:=0) ([]:List Nat) Oe _) Od
def iV(G:List Gp):Rat:=(G.map (·.2)).foldl (·+·) 0
theorem alG(b:bR x)(w:Whole x.ai.length (bh x) (bM x) f0)(h:¬jY x D fun _=>none)(q:aD->Rat):fS x D f0 a q=0:=aj9 w (M4 b) h
theorem acL(t:aD):iU a [] t=1:=rfl
theorem vR(k:Nat)(c t:aD):iU a [(a,k,c)] t=gf (a,k,c) t:=by unfold iU;rw[Hz,if_pos rfl]
theorem acJ(k b:Nat)(c d t:aD):iU a [(a,k,c),(a,b,d)] t=gf (a,k,c) t*gf (a,b,d) t:=by
 show(1:Rat)*(if a=a then gf (a,k,c) t else 1)*(if a=a then gf (a,b,d) t else 1)=_
 rw[if_pos rfl,if_pos rfl,LX]
theorem E5(a:Nat)(c t:aD):gf (a,3,c) t=if t=c then 1 else 0:=rfl
theorem Mo(a:Nat)(t:aD):gf (a,5,[]) t=if t= [] then 0 else 1:=rfl
theorem an1(e:bR x)(w:Whole x.ai.length (bh x) (bM x) f0)(f:a<x.ai.length){c1 c2 c3:aD}(i:c1≠ [])(h:c2≠ [])(g:c3≠ [])(d:c1≠c2)(c:c1≠c3)(b:c2≠c3)
 (k:∀t,qp x (aU x D) a t->t= []\/t=c1\/t=c2\/t=c3):
 fS x D f0 a (iU a [])=fS x D f0 a (iU a [(a,3,[])])+fS x D f0 a (iU a [(a,3,c1)])+fS x D f0 a (iU a [(a,3,c2)])+fS x D f0 a (iU a [(a,3,c3)]):=by
 rw[<-Bt e w f (fun _ _=>rfl),<-Bt e w f (fun _ _=>rfl),<-Bt e w f (fun _ _=>rfl)];refine Mq e w f fun t j=> ?_;rw[acL,vR,vR,vR,vR,E5,E5,E5,E5];rcases k t j with rfl|rfl|rfl|rfl
 ·rw[if_pos rfl,if_neg i.symm,if_neg h.symm,if_neg g.symm];decide+kernel
 ·rw[if_neg i,if_pos rfl,if_neg d,if_neg c];decide+kernel
 ·rw[if_neg h,if_neg d.symm,if_pos rfl,if_neg b];decide+kernel
 ·rw[if_neg g,if_neg c.symm,if_neg b.symm,if_pos rfl];decide+kernel
theorem aj_(b:bR x)(w:Whole x.ai.length (bh x) (bM x) f0)(c:a<x.ai.length):fS x D f0 a (iU a [])=fS x D f0 a (iU a [(a,5,[])])+fS x D f0 a (iU a [(a,3,[])]):=by
 rw[<-Bt b w c (fun _ _=>rfl)];refine Mq b w c fun t d=> ?_;rw[acL,vR,vR,E5,Mo];by_cases h:t= []
 ·rw[if_pos h,if_pos h];decide+kernel
 ·rw[if_neg h,if_neg h];decide+kernel
theorem al3(b:bR x)(w:Whole x.ai.length (bh x) (bM x) f0)(d:a<x.ai.length)(c:aD):fS x D f0 a (iU a [(a,4,c)])=fS x D f0 a (iU a [(a,4,c),(a,5,[])]):=by
 refine Mq b w d fun t f=> ?_;rw[vR,acJ,Mo];by_cases h:t= []
 ·rw[if_pos h,Rat.mul_zero];show(if t≠ []/\wJ (lm t) (lm c)<0 then (1:Rat) else 0)=0
  exact if_neg fun e=>e.1 h
 ·rw[if_neg h,Et]
theorem ao9(b:bR x)(f:gc x D)(w:Whole x.ai.length (bh x) (bM x) f0)(d:a<x.ai.length)(c:aD):fS x D f0 a (iU a [(a,4,c)])<=fS x D f0 a (iU a [(a,5,[])]):=by
 refine ao' b f w d fun t g=> ?_;rw[vR,vR,Mo];show(if t≠ []/\wJ (lm t) (lm c)<0 then (1:Rat) else 0)<=_
 by_cases h:t= []
 ·rw[if_pos h,if_neg fun e=>e.1 h];exact LY
 ·rw[if_neg h];split<;>decide+kernel
theorem al4(b:bR x)(w:Whole x.ai.length (bh x) (bM x) f0)(c:a<x.ai.length):fS x D f0 a (iU a [(a,3,[]),(a,5,[])])=0:=by
 refine abU b w c fun t d=> ?_;rw[acJ,E5,Mo];by_cases h:t= []
 ·rw[if_pos h,if_pos h,Rat.mul_zero]
 ·rw[if_neg h,if_neg h,Qr]
end
section
variable{x:aP}{D:List (List Rw)}{fo:Fo}{a:Nat}{fs:List Fu}
open Classical in
noncomputable def jp(x:aP)(D:List (List Rw))(fo:Fo)(a:Nat)(fs:List Fu):List Gp:=if jY x D (fun _=>none) then [([],fS x D fo a (iU a fs))] else []
theorem al5(h:nW a fs){G:List Gp}(c:Fh x D (ou x D fo) (fs,[]) G):G=jp x D fo a fs:=by
 unfold jp;by_cases b:jY x D fun _=>none
 ·rw[if_pos b,c.1 b];simp only[jk,nO,Hn,vlB h]
 ·rw[if_neg b,c.2 b]
theorem RZ:(jp x D fo a fs).length<=1:=by
 unfold jp;split
 ·exact aK _
 ·exact aV _
theorem L3(b:bR x)(w:Whole x.ai.length (bh x) (bM x) fo)(c:Rat):((jp x D fo a fs).map (·.2)).foldl (·+·) c=c+fS x D fo a (iU a fs):=by
 unfold jp;split
 ·rfl
 ·rename_i d;rw[alG b w d];exact(Qs c).symm
theorem RY(b:bR x)(w:Whole x.ai.length (bh x) (bM x) fo):iV (jp x D fo a fs)=fS x D fo a (iU a fs):=by unfold iV;rw[L3 b w,Rat.zero_add]
theorem al6(h:bF 42 (fS x D fo a (iU a fs))):∀y∈jp x D fo a fs,bF 42 y.2:=by
 unfold jp;split
 ·exact fun y b=>by rw[bG.1 b];exact h
 ·exact fun y b=>by cases b
theorem Zv(l m:List Gp):iV (l++m)=(m.map (·.2)).foldl (·+·) (iV l):=by unfold iV;rw[kD,vz]
end
def an2{x:aP}{D:List (List Rw)}{L:List (List Fu)}{a:Nat}{fo:Fo}(h:dN m p x)(B:bR x)(T:rG m q x)(I:xU x D)(U:D.length=b)(Y:iP m (.slice E b d) D)(Z:x.ai.length<=5)(M:x.ay.length<=3)
 (l:Whole x.ai.length (bh x) (bM x) fo) (V:L.length=c) (W:sH m (.slice F c e) (L.map fun fs=>(fs,[]))) (s:c<=40) (z:∀fs∈L,ql x fs []/\nW a fs) (Q:dW m):
 Calls prog 8 #[p,q,.slice E b d,.slice F c e] m fun g k=>∃A f,g= .returned (.tuple #[.slice A c f,av 0])/\tT k (.slice A c f) (L.map (jp x D fo a))/\Ext m k:=by
 subst U V;have j:(L.map fun fs=>((fs,[]):Ag)).length=L.length:=bW _;have S:∀y∈L.map fun fs=>((fs,[]):Ag),Ny x D fo gf mO oI (ou x D fo) y:=fun y N=>by obtain⟨fs,H,rfl⟩:=dU.1 N;exact ao8 B Z M I l (z fs H).1 (z fs H).2
 suffices C:Calls prog 8 #[p,q,.slice E D.length d,.slice F (L.map fun fs=>((fs,[]):Ag)).length e] m fun g k=>∃A f,g= .returned (.tuple #[.slice A L.length f,av 0])/\tT k (.slice A L.length f) (L.map (jp x D fo a))/\Ext m k by rw[j] at C;exact C
 refine(ado (zq:=gf) (DD:=mO) (MM:=oI) p q x D E F d e (L.map fun fs=>((fs,[]):Ag)) (ou x D fo) m h B T I.1 Y Om Od Od Od l (by rw[j];exact W) (by rw[j];exact s) S Q).mono ?_;rintro g k ⟨u,v,rfl,P,X,R,O⟩;obtain rfl:v=L.map (jp x D fo a):=by
  refine List.ext_getElem (by rw[X,bW,bW]) fun i t J=> ?_;have G:i<L.length:=by rw[bW] at J;exact J
  have r:=R i (by rw[j];exact G) t;simp only[vD] at r⊢;exact al5 (z _ (a_ G)).2 r
 obtain⟨A,f,K,rfl,t⟩:=P;rw[bW] at t⊢;exact⟨A,f,rfl,⟨A,f,K,by rw[bW],by rw[bW];exact t⟩,O⟩
section
variable{x:aP}{a:Nat}
theorem TB{fs:List Fu}(b:fs.length<=2)(h:∀f∈fs,qi x f):ql x fs []:=⟨by omega,by decide,h,Oe,rfl⟩
theorem aoK(e:a<x.ai.length)(b:kd x a=3){c:aD}(d:c= []\/UL c):qi x (a,3,c):=
 ⟨e,.inr (.inr (.inl ⟨rfl,d.imp id fun h=> .inl ⟨b,by rcases h with rfl|rfl|rfl;exact abK;exact ZQ;exact aaA,h⟩⟩))⟩
theorem anl(b:a<x.ai.length):qi x (a,3,[]):=⟨b,.inr (.inr (.inl ⟨rfl,.inl rfl⟩))⟩
theorem alh(b:a<x.ai.length):qi x (a,5,[]):=⟨b,.inr (.inr (.inr (.inr ⟨rfl,rfl⟩)))⟩
theorem ap9(c:bR x)(b:a<x.ai.length)(d:kd x a≠3):kd x a=1\/kd x a=2:=by have h:=c.ak _ (a_ b);rw[<-Tt b] at h;omega
theorem ank(f:bR x)(d:a<x.ai.length)(e:kd x a≠3)(g:b<5):qi x (a,4,aQ b):=by
 have c:gJ (b:Int):=by unfold gJ;omega
 refine⟨d,.inr (.inr (.inr (.inl ⟨rfl,e,SZ _,?_⟩)))⟩;rcases ap9 f d e with h|h
 ·exact .inr (.inr (.inl ⟨h,_,rfl,c⟩))
 ·exact .inr (.inr (.inr ⟨h,((b:Int):Rat),by rw[nP (ZK _),ZJ],by rw[lC,ZJ,ZK];exact⟨c,by decide⟩⟩))
abbrev nj:List aD:= [[],[114,101,100],[103,114,101,101,110],[98,108,117,101]]
abbrev TJ(a:Nat):List (List Fu):= []::nj.map fun c=> [(a,3,c)]
abbrev ww(a:Nat)(c:aD):List (List Fu):= [[],[(a,4,c)],[(a,4,c),(a,5,[])],[(a,5,[])],[(a,3,[])],[(a,3,[]),(a,5,[])]]
theorem apz(g:a<x.ai.length)(e:kd x a=3):∀fs∈TJ a,ql x fs []/\nW a fs:=by
 intro fs b;rcases aJ.1 b with rfl|b
 ·exact⟨TB Od Oe,fun f b=>by cases b⟩
 ·obtain⟨c,d,rfl⟩:=dU.1 b;have h:c= []\/UL c:=(by simp only[nj,aJ,bL,or_false] at d;exact d)
  exact⟨TB Ou (fun f b=>by rw[bG.1 b];exact aoK g e h),fun f b=>by rw[bG.1 b];exact⟨rfl,aK 3⟩⟩
theorem api{c:aD}(g:a<x.ai.length)(j:qi x (a,4,c)):∀fs∈ww a c,ql x fs []/\nW a fs:=by
 intro fs b;have i:=alh g;have h:=anl g;have d:∀f:Fu,f=(a,4,c)\/f=(a,5,[])\/f=(a,3,[])->qi x f/\(f.1=a/\3<=f.2.1):=by
  rintro f (rfl|rfl|rfl)
  ·exact⟨j,rfl,(by decide:3<=4)⟩
  ·exact⟨i,rfl,(by decide:3<=5)⟩
  ·exact⟨h,rfl,aK 3⟩
 simp only[ww,aJ,bL,or_false] at b;have e:fs.length<=2/\∀f∈fs,f=(a,4,c)\/f=(a,5,[])\/f=(a,3,[]):=by
  rcases b with rfl|rfl|rfl|rfl|rfl|rfl<;>refine⟨by simp,fun f b=> ?_⟩<;>simp only[aJ,bL,or_false] at b
  ·exact .inl b
  ·exact b.imp id .inl
  ·exact .inr (.inl b)
  ·exact .inr (.inr b)
  ·exact .inr b.symm
 exact⟨TB e.1 (fun f b=>(d f (e.2 f b)).1),fun f b=>(d f (e.2 f b)).2⟩
theorem aoW{D:List (List Rw)}(c:bR x)(d:gc x D)(b:kd x a=3){t:aD}(h:qp x (aU x D) a t):t= []\/t= [114,101,100]\/t= [103,114,101,101,110]\/t= [98,108,117,101]:=by
 rcases S8 c d h with h|⟨-, -,h⟩|⟨h, -⟩|⟨h, -⟩
 ·exact .inl h
 ·exact .inr h
 ·rw[b] at h;cases h
 ·rw[b] at h;cases h
end
def aar(v:Value)(z:Int)(w:au)(h:cj w v z)(F:d6 z)(H:dW w):
 Calls prog 81 #[v] w fun e G=>e= .returned (av (nDigits z.natAbs:Int))/\Ext w G:=by
 obtain⟨s,rfl,A,c,rfl,L,l⟩:=h;unfold d6 Fit at F;by_cases j:z.natAbs=0
 ·have m:(aW z.natAbs).length=0:=by rw[j];rfl
  have D:nDigits z.natAbs=1:=by rw[j,nDigits_small Od]
  have P:=af D;clear D l;rw[m];go_enter func81,ntmps81;go_wp2;go_ret;exact⟨by rw[P.ae];rfl,(aB w).alloc _⟩
 ·have t:aW z.natAbs≠ []:=fun h=>j (qW.1 h);have m:0<(aW z.natAbs).length:=D6.2 t;have b:=Qp (cW z.natAbs) t;rw[dm,YI] at b;have B:=af b;obtain⟨k,n⟩:∃k,(aW z.natAbs).length=k+1:=⟨_,(Nat.succ_pred_eq_of_pos m).symm⟩;have a:(aW z.natAbs)[(aW z.natAbs).length - 1]<B9:=(cW z.natAbs).1.getElem Om;obtain⟨x,q⟩:∃x,(aW z.natAbs)[(aW z.natAbs).length - 1]=x:=⟨_,rfl⟩;rw[q] at b a;rw[n] at b;simp only[Nat.add_sub_cancel] at b;have f:x<18446744073709551616:=by unfold B9 at a;omega
  obtain⟨g,o,rfl,K,r⟩:=l.at_ (ko (show 0<(aW z.natAbs).length by omega));have i:(aW z.natAbs)[k]'Om=x:=by rw[<-q];congr 1;omega
  obtain⟨S,R,u,_,d⟩:=(l.ext ((aB w).alloc (Obj.cells #[.bool (decide (z<0)),aG g o (k+1) c] cV))).at_ (ko (show k<(aW z.natAbs).length by omega));injection u with u;injection u with N M;subst N M;rw[i] at d;have C:=af b;have y:=af f;have J:k<=1000000:=Om;have I:nDigits x<=9:=(y_ a).1;clear r b q l a i B f t j m K;rw[n];have T:=af n;clear n F L;have O:ah (dW (w.alloc (Obj.cells #[.bool (decide (z<0)),aG g o (k+1) c] cV))):=H.ext ((aB w).alloc _);go_enter func81,ntmps81;go_wp2_with fail
  refine(adg x y _ O).mono ?_;rintro e Q ⟨rfl,p⟩;have E:(ByteArray.mk (decDigits x).toArray).size=nDigits x:=by rw[<-decDigits_length];simp [ByteArray.size]
  go_wp2;go_ret;exact⟨mV (by rw[C.ae,LA,k6];rfl),((aB w).alloc _).trans p⟩
def alp(v:Value)(q:Rat)(w:au)(h:bX w v q)(j:bF 400 q)(k:dW w):
 Calls prog 31 #[v] w fun e u=>e= .returned (.tuple #[aL (bS q),av 0])/\Ext w u:=by
 have C:=af (fun(w:au) (h:bX w v q) (k:dW w)=>Sq v q w h j Od k);obtain⟨b,A,n,c,O,Q,K,N,rfl,H,F⟩:=h.parts;have G:=af (j.num Od).wide;have I:=af (j.den Od).wide;have D:=af h;have o:=af k;have L:(nDigits q.num.natAbs:Int)<=400:=by have:=j.dn;omega
 have M:(nDigits q.den:Int)<=400:=by have:=j.dd;omega
 have E:ah ((q.den:Int).natAbs=q.den):=fY _;clear h j k;go_enter func31,ntmps31;go_wp2_with fail;refine aT (P:=fun W=>Calls _ _ _ W _) fun W l r=> ?_;refine(aar _ q.num W (H.ext l) G (o.ext l)).mono ?_;rintro e t ⟨rfl,f⟩;have a:=af (l.trans f);have i:=af (r.ext f);obtain⟨B,z,y,x⟩:=i.four;generalize nDigits q.num.natAbs=dn at*;clear f l r;go_wp2_with fail
 refine(aar _ q.den t (F.ext a) I (o.ext a)).mono ?_;rintro e s ⟨rfl,d⟩;rw[E.ae];have g:=af (a.trans d);have p:=af (i.ext d);obtain⟨B,z,y,x⟩:=p.four;generalize nDigits q.den=dd at*;clear d a i;go_wp2_with fail
 refine(C s (D.ext g) (o.ext g)).mono ?_;rintro e J ⟨rfl,m⟩;go_wp2;go_ret2;exact⟨rfl,g.trans m⟩
def aqD.k61(h:aq:=by refine(G _ w5 tD).mono ?_;rintro e l ⟨rfl,c⟩;go_wp2;go_ret2;exact⟨rfl,hx1.trans (hx2.trans (hx3.trans (g_.trans (fM.trans c))))⟩):=h
def aks(p q:Rat)(w:au)(b:bF 400 p)(a:bF 400 q)(g:bF 400 (p+q)):
 Calls prog 12 #[aL (bS p),aL (bS q)] w fun e i=>e= .returned (.tuple #[aL (bS (p+q)),av 0])/\Ext w i:=by
 have G:=af (fun(v:Value) (w:au) (h:fI w v (p+q))=>aiO v (p+q) w h g);clear g;have V1:=af (fun w=>LV p w b);have V2:=af (fun w=>LV q w a);have R1:=af (fun w=>L8 p w (e:=399) b Od);have R2:=af (fun w=>L8 q w (e:=399) a Od);have OP:=af (fun(f d:Value) (w:au) (k:fI w f p) (j:fI w d q)=>akm f d p q w k j b a Od);clear b a;generalize bS p=n at*;generalize bS q=m at*;go_enter func12,ntmps12;open aqD in exact m61

def nJ.get{n:Nat}{l:List Gp}(h:nJ m (.slice E n a) l){i:Nat}(e:i<l):
 ∃g o B d,E=dC g o/\g<m.heap.size/\aA m g (o+i*2) (.slice B l[i].1 d)/\aA m g (o+i*2+1) (aL (bS l[i].2))/\ah (TL m (.slice B l[i].1 d) l[i].1):=by
 obtain⟨g,o,d,k,j,⟨B,p,rfl,f⟩,b⟩:=qd pH.two Od h e;exact⟨g,o,B,p,k,j,b 0 _ rfl,b 1 _ rfl,f⟩
def Cq(q:Rat):Nat:=max (nDigits q.num.natAbs) (nDigits q.den)
def aoT(h:bF (a+1) H):Cq H<=a+1:=by have c:=h.dn;have b:=h.dd;unfold Cq;omega
def amk(q:Rat)(w:au)(l:bF 400 q):
 Calls prog 72 #[aL (bS q)] w fun e k=>e= .returned (av (Cq q:Int))/\Ext w k:=by
 have P:=af (fun w=>aa5 q w l);have h:(decDigits q.num.natAbs).length=nDigits q.num.natAbs:=decDigits_length _;have g:(aQ q.den).length=nDigits q.den:=by rw[p6,decDigits_length]
 have f:ah (trimPrefix (aQ q.num) [45]=decDigits q.num.natAbs):=(Mg q.num).1;have i:ah ((max (nDigits q.num.natAbs:Int) (nDigits q.den:Int))=(Cq q:Int)):=by rw[ah];unfold Cq;omega
 rw[<-h,<-g] at i;clear h g;generalize bS q=t at*;generalize aQ q.num=a at*;generalize aQ q.den=b at*;generalize decDigits q.num.natAbs=c at*;go_enter func72,ntmps72;go_wp2_with fail;refine(P w).mono ?_;rintro e j ⟨rfl,d⟩;go_wp2_with fail;refine(Tryz.strings_TrimPrefix _ _ j).mono ?_;rintro e m ⟨rfl,rfl⟩;simp only[f.ae];go_wp2;go_ret;exact⟨by rw[<-i.ae];rfl,d⟩
def amL(v:Value)(q:Rat)(w:au)(c:bF 400 q):
 Calls prog 70 #[.agg #[v,aL (bS q)]] w fun e b=>e= .returned (.bool false)/\Ext w b:=by
 have C:=af (fun w=>ZW q w c);generalize bS q=t at*;go_enter func70,ntmps70;go_upto_region 1 with fail
 refine aT fun W d f=> ?_;have h:=f.aF 1;go_wp2_with fail
 refine(C W).mono ?_;rintro e g ⟨rfl,a⟩;go_wp2;go_ret;exact⟨rfl,d.trans a⟩
def ane{l:List Gp}(k:nJ m (.slice E a b) l)(s:∀y∈l,bF 400 y.2):
 Calls prog 136 #[.slice E a b,.func (.func 70) #[] #[]] m fun e q=>e= .returned (av (-1))/\Ext m q:=by
 obtain⟨z,x,C⟩:=bD k;subst z;have D:=af k;have F:=af s;clear k s;go_enter func136,ntmps136;go_upto_region 2 with fail
 go_loopw [5,8] (fun _ i wr=>∃j:Nat,j<=l/\i=av j/\ah (Ext m wr)) (fun _ i _=>l - (RowKit.intOf i).toNat)
 exact⟨0,aV _,rfl,aB _⟩;obtain⟨j,G,rfl,h⟩:=hrel;by_cases f:j<l
 ·obtain⟨g,o,B,d,rfl,H,q1,q2,I⟩:=nJ.get (bU km D h) f;have u:=af (fun v W=>amL v l[j].2 W (F _ (a_ f)));generalize l[j]=y at*;generalize bS y.2=t at*;go_wp2_with fail
  refine(u _ _).mono ?_;rintro e q ⟨rfl,r⟩;have p:=af (h.trans r);clear r u h;go_wp2;go_roundw;exact⟨j+1,by omega,by go_num,p⟩;simp [RowKit.intOf];omega
 ·have d1:decide ((j:Int)<(l.length:Int))=false:=aY;go_wp2;exact bodyPost_ret (v:=av (-1)) (by simp [results,results136,go_sem]) rfl ⟨rfl,h⟩
def amJ{l:List Gp}(j:nJ m (.slice E a b) l)(i:∀y∈l,bF 400 y.2):
 Calls prog 26 #[.slice E a b] m fun e d=>e= .returned (.bool true)/\Ext m d:=by
 have h:=af (fun W (f:Ext m W)=>ane (bU km j f) i);clear j i;have k:ah (∀W,Ext m W->Calls prog 69 #[.slice E a b,.func (.func 70) #[] #[]] W fun e d=>e= .returned (.bool false)/\Ext W d):=fun W f=>by have C:=af (h W f);clear h;go_enter func69,ntmps69;go_wp2_with fail;refine C.mono ?_;rintro e d ⟨rfl,g⟩;go_wp2;go_ret;exact⟨rfl,g⟩
 clear h;go_enter func26,ntmps26;go_wp2_with fail;refine(k _ (aB _)).mono ?_;rintro e d ⟨rfl,g⟩;go_wp2;go_ret;exact⟨rfl,g⟩
def ak4{l:List Gp}{e0:Nat}(F:nJ m (.slice E a b) l)(D:l*(e0+1)<=6000)(N:e0+1<=400)(M:∀y∈l,bF (e0+1) y.2):
 Calls prog 27 #[.slice E a b] m fun e G=>e= .returned (.bool true)/\Ext m G:=by
 obtain⟨J,I,P⟩:=bD F;subst J;have Q:=af F;have R:=af M;have L:l.length<=6000:=a7 (G7 _ (Nat.succ_pos e0)) D;have C:ah (∀f:Nat,f<=e0+1->l*f<=6000):=fun f q=>a7 (iF _ q) D;go_enter func27,ntmps27;go_upto_region 3 with fail
 go_loopw [3,8] (fun H k wr=>∃i f:Nat,i<=l/\f<=e0+1/\H=av f/\k=av i/\ah (Ext m wr)) (fun _ k _=>l - (RowKit.intOf k).toNat)
 exact⟨0,0,aV _,aV _,rfl,rfl,aB _⟩;obtain⟨i,f,V,q,rfl,rfl,x⟩:=hrel;by_cases h:i<l
 ·obtain⟨g,o,B,d,rfl,X,q1,q2,Z⟩:=nJ.get (bU km Q x) h;have j:=R _ (a_ h);have O:Cq l[i].2<=e0+1:=aoT j;have S:=af (fun m=>amk l[i].2 m (j.mono N));generalize l[i]=y at*;generalize Cq y.2=z at*;generalize bS y.2=t at*;go_upto_region 5 with fail
  refine aT fun W r T=> ?_;have Y:=T.aF 1;have u:=af (x.trans r);go_wp2_with fail
  refine(S W).mono ?_;rintro e U ⟨rfl,p⟩;have s:=af (u.trans p);go_wp2_with fail
  go_roundw;exact⟨i+1,max f z,by omega,by omega,by first|rfl|(congr 1;omega),by go_num,s⟩;simp [RowKit.intOf];omega
 ·have d1:decide ((i:Int)<(l.length:Int))=false:=aY;have K:=C f q;have d2:decide ((l.length:Int)*(f:Int)<=(6000:Int))=true:=decide_eq_true av5;go_wp2_with fail
  exact bodyPost_ret (v:= .bool true) (by simp [results,results27,go_sem]) rfl ⟨rfl,x⟩
def aj4(l:List Gp)(y:Gp):iV (l++ [y])=iV l+y.2:=by rw[Zv];rfl
def acB:∀(l:List Gp) {c:Rat} {d:Nat},bF d c->(∀y∈l,bF 42 y.2)->bF (d+43*l.length) ((l.map (·.2)).foldl (·+·) c)
 | [],_,_,h,_=>h
 |y::l,c,d,h,a=>by have e:=acB l (h.add (a y lH)) fun z b=>a z (oX _ b);exact e.mono (by rw[cP];omega)
def aoO{l:List Gp}(h:∀y∈l,bF 42 y.2):bF (1+43*l.length) (iV l):=acB l (c:=0) (d:=1) ⟨by decide,by decide⟩ h
def aj3{l:List Gp}(V:nJ m (.slice E a b) l)(hl:l.length<=4)(R:∀y∈l,bF 42 y.2)(I:dW m):
 Calls prog 9 #[.slice E a b] m fun e f=>e= .returned (.tuple #[aL (bS (iV l)),av 0])/\Ext m f:=by
 obtain⟨hn,Ot,hcm⟩:=bD V;subst hn;have HL:=af V;have HF:=af R;have HT:=af I;have C1:=af (amJ V fun y hy=>(R y hy).mono Od);have C2:=af (fun W (hX:Ext m W)=>ak4 (e0:=41) (bU km V hX) Om Od R);have h1:=af (fun W=>by simpa using yR 0 W Om Om);have HQ:ah (∀k,k<=l.length->bF 400 (iV (l.take k))):=fun k hk=>(aoO fun y hy=>R y (oW hy)).mono avU;clear V R I;go_enter func9,ntmps9;go_wp2_with fail
 refine C1.mono ?_;rintro e w1 ⟨rfl,r⟩;go_wp2_with fail;refine(C2 w1 r).mono ?_;rintro e w2 ⟨rfl,O⟩;have aZ:=af (r.trans O);clear C1 C2 r O;have C:=af (h1 w2);go_wp2_with fail
 refine C.mono ?_;rintro e1 w3 ⟨u,rfl,hu,hx⟩;obtain⟨a0,A0,a1,a2,b0,B0,b1,b2,rfl, -, -⟩:=hu.parts;have w:=af hu;have Z:=af (aZ.trans hx);clear hu hx;go_upto_region 6 with fail
 refine EX w fun w4 dD A _=> ?_;have Oo:m.heap.size<=w3.heap.size:=Z.size;generalize w3.heap.size=L at*;have F:=af (Z.trans dD);have c:ah (dK w4 L (iV (l.take 0))):=A.ae;clear A;go_upto_region 7 with fail
 go_loopw [18] (fun q wq=>∃k:Nat,k<=l/\q=av k/\ah (dK wq L (iV (l.take k)))/\ah (Ext m wq)) (fun q _=>l - (RowKit.intOf q).toNat)
 exact⟨0,aV _,rfl,c,F⟩;clear F c;obtain⟨k,hk,rfl,w,F⟩:=hrel;have hZ:L<wr.heap.size:=w.lt;by_cases v:k<l.length
 ·obtain⟨g,o,B,d,rfl,hg,q1,q2, -⟩:=nJ.get (bU km HL F) v;have Q:l.take (k+1)=l.take k++ [l[k]]:=fg v;have xB:ah (iV (l.take (k+1))=iV (l.take k)+l[k].2):=by rw[ah,Q,aj4]
  have i:=HF l[k] (a_ v);have xD:=af (HQ k hk);have CR:=af (fun W=>abt l[k].2 W (e:=41) i Od);have i:=af i;generalize l[k]=y at*;generalize iV (l.take k)=acc at*;generalize bS y.2=t at*;clear Q;go_upto_region 9 with fail
  refine aT fun J Y BE=> ?_;have heb:=BE.lt;generalize ar':wr.heap.size=eb at*;clear q1 q2;have dG:=af (F.trans Y);have pO:=af (w.ext Y);obtain⟨o0,O0,o1,o2,p0,P0,p1,p2,BO,VO⟩:=pO.parts;obtain⟨S,x⟩:∃S:World->Prop,S=fun f=>ar f L dp [.bool o0,.slice O0 o1 o2,.bool p0,.slice P0 p1 p2]/\ar f eb ew [.slice B y.1 d,aL t]:=⟨_,rfl⟩;have bO:ah (∀f,S f->aA f eb 1 (aL t)/\F4 f L (.bool o0) (.slice O0 o1 o2) (.bool p0) (.slice P0 p1 p2)):=by rw[x];exact fun f h=>⟨h.2.aF 1,h.1.four⟩
  unfold F4 at bO;have G:ah (∀f,Ext J f->S f):=by rw[x];exact fun f h=>⟨BO.ext h,BE.ext h⟩
  clear x;have X:ah (Ext J J.drew):=(aB J).drew;have aH:=af (G _ X);refine cD (S:=S) (T:=fun j=>decide (5<=j)) Ok ?_;generalize J.drew=wd at*;refine ax 0 22 ?_;refine ax 1 23 ?_;refine ax 2 24 ?_;refine aO 3 ?_;intro K p;go_simp;refine(CR wd).mono ?_;rintro e6 w6 ⟨u6,rfl,P,N⟩;have D:=af (X.trans N);have CM:=af (acC _ u6 acc y.2 w6 (VO.ext D) P xD i Om);refine p.ae _ _ (fun _=>G _ D) ?_;clear p P N;refine aO 4 ?_;intro K p;go_simp;refine CM.mono ?_;rintro e7 w7 ⟨u7,rfl,s,M⟩;obtain⟨r0,R0,r1,r2,s0,S0,s1,s2,rfl,_,_⟩:=s.parts;have z:=af (D.trans M);have Dr:=af (dG.trans z);refine p.ae _ _ (fun _=>G _ z) ?_;have H:=BO.ext z;obtain⟨k0,k1,k2,k3⟩:=H.four;obtain⟨f0,f1,f2,f3⟩:=H.eX;obtain⟨W',U,vp,_,uW,jP⟩:=dK.put H s Dr Oo;have HW:=af U;clear p s M U;refine aO 5 ?_;intro K p;go_simp;refine p.ae _ _ Oe ?_;refine b_ Ok ?_;rw[HW.ae];clear k0 k1 k2 k3 f0 f1 f2 f3 p;go_wp2_with fail
  go_roundw;exact⟨k+1,by omega,by go_num,by rw[xB.ae];exact vp,uW⟩;simp [RowKit.intOf];omega
 ·obtain rfl:k=l.length:=Om;have d1:decide ((l.length:Int)<(l.length:Int))=false:=aY;have HQl:=af (HQ l.length (aK _));have n:=w.ae;rw[fj] at n HQl;obtain⟨o0,O0,o1,o2,p0,P0,p1,p2,BO,VO⟩:=n.parts;have CT:=af (alp _ _ wr VO HQl (HT.ext F));obtain⟨q0,q1,q2,q3⟩:=BO.four;obtain⟨t,I⟩:∃t,t=bS (iV l):=⟨_,rfl⟩;have Ke:=af I;rw[<-I] at CT;clear I;go_wp2_with fail
  refine CT.mono ?_;rintro e9 w9 ⟨rfl,jJ⟩;go_wp2;go_ret2;exact⟨by rw[<-Ke.ae];rfl,F.trans jJ⟩
def aqg{wr:au}(h:∃q,wr=m.drewN q)(n:Nat):∃q,wr.drewN n=m.drewN q:=by obtain⟨q,rfl⟩:=h;exact⟨_,Bb _ _ _⟩
def Tx{wr:au}(h:∃q,wr=m.drewN q):Ext m wr:=by obtain⟨q,rfl⟩:=h;exact(aB m).drewN q
def Zz{l:List Gp}(x:nJ m (.slice E a c) l)(u:nJ m (.slice F b d) l):
 Calls prog 11 #[.slice E a c,.slice F b d] m fun e k=>e= .returned (.bool true)/\∃q,k=m.drewN q:=by
 obtain⟨I,H,N⟩:=bD x;obtain⟨K,J,M⟩:=bD u;subst I;subst K;have T:=af x;have S:=af u;go_enter func11,ntmps11;go_upto_region 4 with fail
 go_loopw [13] (fun f wr=>∃i:Nat,i<=l/\f=av i/\ah (∃q,wr=m.drewN q)) (fun f _=>l - (RowKit.intOf f).toNat)
 exact⟨0,aV _,rfl,⟨0,rfl⟩⟩;obtain⟨i,V,rfl,HQ⟩:=hrel;have z:=af (Tx HQ);by_cases j:i<l
 ·obtain⟨g,o,P,p,rfl,W,q1,q2,R⟩:=nJ.get (bU km T z) j;obtain⟨X,U,Q,G,rfl,L,D,C,s⟩:=nJ.get (bU km S z) j;have r:ah (∀a,Calls prog 34 #[.slice P l[i].1 p,.slice Q l[i].1 G] (wr.drewN a) fun e k=>e= .returned (.bool true)/\∃b,k=wr.drewN b):=fun a=>by refine(QW _ _ _ _ _ _ l[i].1 l[i].1 _ (fu R ((aB wr).drewN a)) (fu s ((aB wr).drewN a))).mono ?_;rintro e k ⟨O,b,rfl⟩;exact⟨by rw[O,beq_self_eq_true],_,Bb _ _ _⟩
  generalize l[i]=y at*;generalize bS y.2=t at*;have d2:(t.toArray==t.toArray)=true:=beq_self_eq_true _;go_upto_region 6 with fail
  go_quiet ((go_at_call 34;exact r _));exact aeC
 ·have d1:decide ((i:Int)<(l.length:Int))=false:=aY;go_wp2_with fail;exact bodyPost_ret (v:= .bool true) (by simp [results,results11,go_sem]) rfl ⟨rfl,HQ⟩
def ahC{l:List (List Gp)}(u:tT m (.slice E a c) l)(t:tT m (.slice F b d) l):
 Calls prog 15 #[.slice E a c,.slice F b d] m fun e k=>e= .returned (.bool true)/\∃q,k=m.drewN q:=by
 obtain⟨G,D,L⟩:=bD u;obtain⟨I,H,K⟩:=bD t;subst G;subst I;have R:=af u;have Q:=af t;go_enter func15,ntmps15;go_upto_region 4 with fail
 go_loopw [13] (fun f wr=>∃i:Nat,i<=l/\f=av i/\ah (∃q,wr=m.drewN q)) (fun f _=>l - (RowKit.intOf f).toNat)
 exact⟨0,aV _,rfl,⟨0,rfl⟩⟩;obtain⟨i,T,rfl,HQ⟩:=hrel;have x:=af (Tx HQ);by_cases j:i<l
 ·obtain⟨g,o,P,p,rfl,U,O,q1⟩:=yN (bU vV R x) j;obtain⟨V,S,N,C,rfl,J,s,z⟩:=yN (bU vV Q x) j;have r:ah (∀a,Calls prog 11 #[.slice P l[i] p,.slice N l[i] C] (wr.drewN a) fun e k=>e= .returned (.bool true)/\∃b,k=wr.drewN b):=fun a=>by refine(Zz (bU km O ((aB wr).drewN a)) (bU km s ((aB wr).drewN a))).mono ?_;rintro e k ⟨M,b,rfl⟩;exact⟨M,_,Bb _ _ _⟩
  generalize l[i]=y at*;go_upto_region 6 with fail
  go_quiet ((go_at_call 11;exact r _));exact aeC
 ·have d1:decide ((i:Int)<(l.length:Int))=false:=aY;go_wp2_with fail;exact bodyPost_ret (v:= .bool true) (by simp [results,results15,go_sem]) rfl ⟨rfl,HQ⟩
def auD.afw(h:aq:=by refine acR s x t f T b n v c e a d ?_;have:=h v w avY (YS w _);exact this):=h
def mX(c:List Rl)(a b:Int):Bool:=c.any fun r=>r.2.contains a&&r.2.contains b
abbrev iy(ay:List Rl)(a b:Nat):Prop:=mX ay a b=true
def abI(c:List Rl):∀a b,iy c a b->iy c b a:=fun a b h=>by unfold iy mX at*;rw[o9] at*;obtain⟨r,e,d⟩:=h;exact⟨r,e,by rw[Bool.and_comm];exact d⟩
def aiH{d:List Rl}{a b:Int}(h:c<d.length):mX (d.take (c+1)) a b=(mX (d.take c) a b||(d[c].2.contains a&&d[c].2.contains b)):=by unfold mX;rw[fg h,Za];simp only[Qh,Qw,vI]
def akb(v:Value)(x:aP)(a b:Int)(w:au)(h:dN w v x):
 Calls prog 217 #[v,av a,av b] w fun e Y=>e= .returned (.bool (mX x.ay a b))/\Ext w Y:=by
 obtain⟨A,c,B,d,D,e,rfl,ha,Q,hf⟩:=h;obtain⟨-,J,j4⟩:=bD Q;have U:=af Q;obtain⟨n,u⟩:∃n,x.ay.length=n:=⟨_,rfl⟩;have y:=af u;rw[u] at J U⊢;go_enter func217,ntmps217;go_upto_region 1 with fail
 refine aT fun W HX BX=> ?_;obtain⟨s0,s1,s2,s3⟩:=BX.four;have Z:mX (x.ay.take 0) a b=false:=rfl;have HZ:=af Z;go_upto_region 2 with fail
 go_loopw [8,12] (fun _ j wr=>∃i:Nat,i<=n/\j=av i/\ah (mX (x.ay.take i) a b=false)/\ah (Ext w wr)) (fun _ j _=>n - (RowKit.intOf j).toNat)
 exact⟨0,aV _,rfl,HZ,HX⟩;obtain⟨i,hi,rfl,L,k⟩:=hrel;by_cases I:i<n
 ·have s:i<x.ay.length:=by rw[y.ae];exact I
  obtain⟨g,o,V,P,R,rfl,hg,H,G,f⟩:=rp (bU nS U k) s;have m:=af (aiH (a:=a) (b:=b) s);have HT:ah (mX (x.ay.take (i+1)) a b=true->mX x.ay a b=true):=fun h=>by unfold mX at*;rw[o9] at*;obtain⟨r,h1,h2⟩:=h;exact⟨r,oW h1,h2⟩
  have f:=af f;generalize x.ay[i]=rel at*;obtain⟨rn,q⟩:=rel;simp only at H G f m;go_upto_region 4 with fail
  refine aT fun T l X=> ?_;have K:=af (R6 V P R q a T (kJ f l));have N:=af (k.trans l);obtain⟨b0,b1⟩:=X.two;go_wp2_with fail
  refine K.mono ?_;rintro e2 w2 ⟨rfl,F,rfl⟩;have E:=af (N.drewN F);have z:=af (kJ f (l.drewN F));obtain⟨c0,c1⟩:=(X.drewN F).two;generalize T.drewN F=S at*;cases t:q.contains a with
  |false=>
   have p:ah (mX (x.ay.take (i+1)) a b=false):=by rw[ah,m.ae,L.ae,t];rfl
   go_wp2_with fail
   go_roundw;exact⟨i+1,by omega,by go_num,p,E⟩;simp [RowKit.intOf];omega
  |true=>
   have K:=af (R6 V P R q b S z);have p:ah (mX (x.ay.take (i+1)) a b=q.contains b):=by rw[ah,m.ae,L.ae,t];simp
   go_wp2_with fail
   refine K.mono ?_;rintro e4 w4 ⟨rfl,O,rfl⟩;have C:=af (E.drewN O);generalize S.drewN O=W4 at*;cases t:q.contains b with
   |false=>rw[t] at p;go_wp2_with fail;go_roundw;exact⟨i+1,by omega,by go_num,p,C⟩;simp [RowKit.intOf];omega
   |true=>
    rw[t] at p;have M:=af (HT p);go_wp2_with fail
    exact bodyPost_ret (v:= .bool true) (by simp [results,results217,go_sem]) rfl ⟨by rw[M.ae],C⟩
 ·have M:ah (mX x.ay a b=false):=(by have h:=L.ae;rwa[dz (by rw[y.ae];omega)] at h);have d1:decide ((i:Int)<(n:Int))=false:=aY;go_wp2_with fail;exact bodyPost_ret (v:= .bool false) (by simp [results,results217,go_sem]) rfl ⟨by rw[M.ae],k⟩
structure xV(adj:Nat->Nat->Prop)(rest:VS)(a n:Nat)(on:VS):Prop where
 sub:∀b,on b=true->b<n/\Reach adj rest a b
 self:on a=true
def KS(adj:Nat->Nat->Prop)(rest:VS)(n:Nat)(on:VS):Prop:=∀x y,x<n->y<n->on x=true->on y=false->rest y=true->¬adj x y
def xV.done{adj:Nat->Nat->Prop}{rest:VS}{n:Nat}{on:VS}(h:xV adj rest a n on)(l:KS adj rest n on)(g:∀b,rest b=true->b<n)(b:Nat):on b=true↔Reach adj rest a b:=by
 refine⟨fun d=>(h.sub b d).2,fun d=> ?_⟩;induction d with
 |refl=>exact h.self
 |step o k f e=>
  rename_i x y;cases c:on y with
  |true=>rfl
  |false=>exact absurd k (l x y (h.sub x e).1 (g y f) e c f)
def rB(n:Nat)(on:VS):Nat:=(List.range n).countP fun b=> !on b
def lz(on:VS)(j:Nat):VS:=fun b=>if b=j then true else on b
def amC{n j:Nat}{on:VS}(g:j<n)(h:on j=false):rB n (lz on j)<rB n on:=by
 have f:=QL (c:=fun b=> !on b) (a:=j) awn (dB.2 g);have e:VS.less (fun b=> !on b) (VS.one j)=fun b=> !lz on j b:=by
  funext b
  unfold VS.less VS.one lz;by_cases d:b=j
  ·subst d;simp
  ·rw[if_neg d,beq_eq_false_iff_ne.2 d];simp
 rw[e] at f;exact f
def TP:Value->Bool
 | .bool false=>true
 |_=>false
def I1(w:au)(g:Nat):Nat:=match w.heap[g]? with
 |some (.cells a _ _)=>a.toList.countP TP
 |_=>0
def ac3{n:Nat}{on:VS}(h:ar o a fH (fG n on)):I1 o a=rB n on:=by
 unfold ar at h;unfold I1;rw[h];show(fG n on).countP TP=_
 unfold fG rB;rw[List.countP_map];congr 1;funext b;show TP (.bool (on b))=_
 cases on b<;>rfl
def bN:Value->Nat
 | .bool true=>1
 |_=>0
structure nK(adj:Nat->Nat->Prop)(rest:VS)(n i j:Nat)(m:Bool)(qu on:VS):Prop where
 eq:m=false->on=qu/\∀x y,(x<i\/(x=i/\y<j))->x<n->y<n->qu x=true->qu y=false->rest y=true->¬adj x y
 lt:m=true->rB n on<rB n qu
 le:rB n on<=rB n qu
section
variable{adj:Nat->Nat->Prop}{rest:VS}{n i j:Nat}{m:Bool}{qu on:VS}
theorem nK.start:nK adj rest n 0 0 false on on:=⟨fun _=>⟨rfl,fun x y h=>by omega⟩,fun h=>(by cases h),aK _⟩
theorem nK.skip(h:nK adj rest n i j m qu on)(d:on i=true->on j=false->rest j=true->¬adj i j):nK adj rest n i (j+1) m qu on:=⟨fun f=>by
 obtain⟨rfl,g⟩:=h.eq f;refine⟨rfl,fun x y b c a=> ?_⟩;by_cases e:x=i/\y=j
 ·obtain⟨rfl,rfl⟩:=e;exact d
 ·exact g x y Om c a,h.lt,h.le⟩
theorem nK.put(h:nK adj rest n i j m qu on)(c:j<n)(a:on j=false):nK adj rest n i (j+1) true qu (lz on j):=by have:=amC c a;have:=h.le;exact⟨fun b=>(by cases b),fun _=>by omega,by omega⟩
theorem nK.row(h:nK adj rest n i n m qu on):nK adj rest n (i+1) 0 m qu on:=⟨fun d=>by obtain⟨rfl,e⟩:=h.eq d;exact⟨rfl,fun x y b c a=>e x y Om c a⟩,h.lt,h.le⟩
theorem nK.all(h:nK adj rest n n 0 false qu on):KS adj rest n on:=by obtain⟨rfl,c⟩:=h.eq rfl;exact fun x y a b=>c x y (.inl a) a b
theorem xV.put(h:xV adj rest a n on)(f:j<n)(g:on i=true)(d:rest j=true)(k:adj i j):xV adj rest a n (lz on j):=⟨fun b c=>by
 unfold lz at c;split at c
 ·rename_i e;subst e;exact⟨f,.step (h.sub i g).2 k d⟩
 ·exact h.sub b c,by
 unfold lz;split
 ·rfl
 ·exact h.self⟩
end
def anv(v:Value)(x:aP)(n a M:Nat)(rest:VS)(w:au)(h:dN w v x)(hN:x.ai=n)(hn:n<=12)(U:a<n)(hr:∀b,rest b=true->b<n)(Q:ar w M fH (fG n fun b=> !rest b)):
 Calls prog 174 #[v,aG M 0 n n,av a] w fun e w'=>∃g on,e= .returned (aG g 0 n n)/\ar w' g fH (fG n on)/\w.heap.size<=g/\(∀b,on b=true↔Reach (iy x.ay) rest a b)/\Ext w w':=by
 have CS:=af (fun W i j (hX:Ext w W)=>akb v x i j W (h.ext hX));obtain⟨A,c,B,d,D,e,rfl,hat,oz,F0⟩:=h;have HR:=af hr;have HRM:=af Q;subst hN;generalize zo:x.ai.length=n at*;have R:=Hs n Om;have e0:List.replicate n (Value.bool false)=fG n fun _=>false:=(LU (n:=n) (v:= .bool false)).symm;rw[e0] at R;go_enter func174,ntmps174;go_upto_region 1 with fail
 refine aT fun W l BX=> ?_;have s0:=BX.aF 0;go_upto_region 2 with fail
 refine aT fun W2 aZ N=> ?_;have ke:=af (BX.ext aZ);have Z:=af (l.trans aZ);have E:w.heap.size<=W.heap.size:=l.size;have hgx:w.heap.size<W.heap.size:=BX.lt;generalize W.heap.size=k at*;have q0:=N.cell (pX U);have f0:=N.frozen a;obtain⟨X,V,B3,K3,N3⟩:=gG (i:=a) N (.bool true);have HW3:=af V;have hli:k<W2.heap.size:=N.lt;go_upto_region 3 with fail
 have e3:(fG n fun _=>false).set a (.bool true)=fG n (lz (fun _=>false) a):=L5 U;have B30:ah (ar X k fH (fG n (lz (fun _=>false) a))):=by rw[<-e3];exact B3
 have I:ah (Ext w X):=Z.only N3 E;have L:ah (ar X w.heap.size kq [.slice A n c,.slice B x.ay d,.slice D x.bf e,av x.label]):=ke.only N3 Om;have xI:ah (xV (iy x.ay) rest a n (lz (fun _=>false) a)):=by
  refine⟨fun b T=> ?_,by unfold lz;rw[if_pos rfl]⟩;unfold lz at T;split at T
  ·rename_i e;subst e;exact⟨U,.refl⟩
  ·cases T
 have KO:ah (true=false->KS (iy x.ay) rest n (lz (fun _=>false) a)):=fun h=>by cases h
 go_upto_region 4 with fail
 go_loopw [8,9,10] (fun u _ _ wr=>∃(m:Bool) (on:VS),u= .bool m/\ah (ar wr k fH (fG n on))/\ah (xV (iy x.ay) rest a n on)/\ah (m=false->KS (iy x.ay) rest n on)/\ah (ar wr w.heap.size kq [.slice A n c,.slice B x.ay d,.slice D x.bf e,av x.label])/\ah (Ext w wr)) (fun u _ _ wr=>2*I1 wr k+bN u)
 exact⟨true,_,rfl,B30,xI,KO,L,I⟩;obtain⟨m,on,rfl,HB,HI,HC,BX,HE⟩:=hrel;cases m with
 |false=>
  have H:=HI.done (HC rfl) HR;have HF:=af H;go_wp2_with fail
  exact bodyPost_ret (v:=aG k 0 n n) (by simp [results,results174,go_sem]) rfl ⟨k,rfl,on,HB,E,HF,HE⟩
 |true=>
  have HM:ah (2*I1 wr k+1=2*rB n on+1):=by rw[ah,ac3 HB.ae]
  have Y:ah (nK (iy x.ay) rest n 0 0 false on on):= .start;go_upto_region 7 with fail
  go_loopw [8,9,10,21] (fun u _ _ z P=>∃(i:Nat) (m:Bool) (p:VS),i<=n/\z=av i/\u= .bool m/\ah (ar P k fH (fG n p))/\ah (xV (iy x.ay) rest a n p)/\ah (nK (iy x.ay) rest n i 0 m on p)/\ah (ar P w.heap.size kq [.slice A n c,.slice B x.ay d,.slice D x.bf e,av x.label])/\ah (Ext w P)) (fun _ _ _ z _=>n - (RowKit.intOf z).toNat)
  exact⟨0,false,on,aV _,rfl,rfl,HB,HI,Y,BX,HE⟩;obtain⟨i,m,p,hi,rfl,rfl,HB,HI,l,BX,HE⟩:=hrel;by_cases S:i<n
  ·go_upto_region 10 with fail
   go_loopw [8,10,26] (fun u _ y O=>∃(j:Nat) (m:Bool) (o3:VS),j<=n/\y=av j/\u= .bool m/\ah (ar O k fH (fG n o3))/\ah (xV (iy x.ay) rest a n o3)/\ah (nK (iy x.ay) rest n i j m on o3)/\ah (ar O w.heap.size kq [.slice A n c,.slice B x.ay d,.slice D x.bf e,av x.label])/\ah (Ext w O)) (fun _ _ y _=>n - (RowKit.intOf y).toNat)
   exact⟨0,m,p,aV _,rfl,rfl,HB,HI,l,BX,HE⟩;obtain⟨j,m,o3,hj,rfl,rfl,HB,HI,l,BX,HE⟩:=hrel;by_cases f:j<n
   ·have pi:=HB.cell (pX S);have pj:=HB.cell (pX f);have F:=(HRM.ext HE).cell (pX f);have Ye:=af (CS wr i j HE);have hw:=HB.lt;have t:=af l.skip;go_upto_region 12 with fail
    cases s:o3 i with
    |false=>rw[s] at pi;have aZ:=af (t fun h=>by rw[s] at h;cases h);exact U6
    |true=>
     rw[s] at pi;cases r:o3 j with
     |true=>rw[r] at pj;have aZ:=af (t fun _ h=>by rw[r] at h;cases h);exact U6
     |false=>
      rw[r] at pj;cases q:rest j with
      |false=>rw[q] at F;have F:aA wr M j (.bool true):=F;have aZ:=af (t fun _ _ h=>by rw[q] at h;cases h);exact U6
      |true=>
       rw[q] at F;have F:aA wr M j (.bool false):=F;obtain⟨s0,s1,s2,s3⟩:=BX.four;have HOI:=af s;have HOJ:=af r;have HRJ:=af q;go_wp2_with fail
       refine Ye.mono ?_;rintro e5 w5 ⟨rfl,C⟩;have o:=af (HB.ext C);have K:=af (BX.ext C);have J:=af (HE.trans C);cases G:mX x.ay i j with
       |false=>have aZ:=af (t fun _ _ _ h=>by rw[iy,G] at h;cases h);go_wp2_with fail;go_roundw;exact⟨j+1,m,o3,by omega,by go_num,by first|rfl|trivial,o,HI,aZ,K,J⟩;simp [RowKit.intOf];omega
       |true=>
        have aZ:=af (l.put f HOJ);have qH:=af (HI.put f HOI HRJ G);have q0:=o.cell (pX f);have f0:=o.frozen j;have zj:=o.lt;obtain⟨W6,OS,B6,K6,N6⟩:=gG (i:=j) o (.bool true);have e6:(fG n o3).set j (.bool true)=fG n (lz o3 j):=L5 f;have B60:ah (ar W6 k fH (fG n (lz o3 j))):=by rw[<-e6];exact B6
        have qK:=af (K.only N6 Om);have zW:ah (Ext w W6):=J.only N6 E;go_wp2_with fail
        go_roundw;exact⟨j+1,true,lz o3 j,by omega,by go_num,by first|rfl|trivial,B60,qH,aZ,qK,zW⟩;simp [RowKit.intOf];omega
   ·obtain rfl:j=n:=Om;have aZ:=af l.row;have d1:decide ((j:Int)<(j:Int))=false:=aY;go_wp2_with fail
    go_roundw;exact⟨i+1,m,o3,by omega,by go_num,by first|rfl|trivial,HB,HI,aZ,BX,HE⟩;simp [RowKit.intOf];omega
  ·obtain rfl:i=n:=Om;have d1:decide ((i:Int)<(i:Int))=false:=aY;have XY:ah (m=false->KS (iy x.ay) rest i p):=fun hm=>by have h:=l.ae;rw[hm] at h;exact h.all
   have Xs:ah (2*I1 wr k+bN (.bool m)<2*rB i on+1):=by
    rw[ah,ac3 HB.ae];cases m with
    |false=>
     have:=l.le;show 2*rB i p+0<_
     omega
    |true=>
     have:=l.lt rfl;show 2*rB i p+1<_
     omega
   go_wp2_with fail
   go_roundw;exact⟨m,p,rfl,HB,HI,XY,BX,HE⟩;have h1:=Xs.ae;rw[<-HM.ae] at h1;exact h1
end Go.Proofs.YtadbchhdjbghkaaGreatDoor
