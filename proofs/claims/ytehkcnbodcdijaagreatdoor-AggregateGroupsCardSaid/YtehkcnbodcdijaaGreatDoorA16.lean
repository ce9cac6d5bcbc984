/- Texts of the proof, part 16. -/
import Derived.Test.YtehkcnbodcdijaaGreatDoorA15
namespace Go.Proofs.YtehkcnbodcdijaaGreatDoor
set_option maxHeartbeats 8000000
set_option linter.all false
set_option maxRecDepth 100000
variable{ar:Prop}
open Go.RowKit Go.Lib Go.Maps Go.ChangeShapes Go.WideShapes Go.ChangeAt Go.Proofs.Tryz
variable{a b c d e f g h:Nat}{i j k l:List Nat}{m n o:World}{p q r s:Value}{t u v:List Value}{w x:TypeId}{y z:Nat→Option Nat}{A:Nat→List Nat}{B C:Int}{E F:Option Addr}{H I:Rat}{J:Nat→Nat}{K:Nat→Bool}{L:List Int}{N:Array Bool}{O:Option Nat}{Q:Act}{R S:Bool}{T:List UInt8}
def q67.agH(h:ar:=by
 clear hall HU bs;generalize wr=w3 at*;go_upto_region 43 with fail
 go_loopw [14,158] (fun _ V wr=>∃j:Nat,j<=N/\V= .int .i64 j/\ah (Ext w3 wr)) (fun _ V _=>N - (RowKit.intOf V).toNat)
 exact⟨0,aU _,rfl,aB _⟩;obtain⟨j,hj,rfl,C⟩:=hrel;by_cases WM:j<N
 ·have D9:=(BU.ext C).cell (i:=j) (u:= .bool true) (by rw[Bu,if_pos WM]);go_wp2_with fail;go_roundw;exact⟨j+1,by omega,by go_num,C⟩;simp [RowKit.intOf];omega
 ·obtain rfl:N=j:=Om;have dW:=af (s.trans C);clear BU s C;generalize wr=w4 at*;have oC:=af (qw.ext dW);obtain⟨s0,s1,s2,s3⟩:=oC.four;go_upto_region 49 with fail
  clear s0 s1 s2 s3;go_loopw [15,16,17,18,19,168] (fun _ _ _ _ _ U wr=>∃i:Nat,i<=M/\U= .int .i64 i/\ah (Ext w4 wr)) (fun _ _ _ _ _ U _=>M - (RowKit.intOf U).toNat);exact⟨0,aU _,rfl,aB _⟩;obtain⟨i,hi,rfl,kr⟩:=hrel;by_cases D4:i<M
  ·have n:i<x.a_.length:=by rw[HM.ae];exact D4
   have O:=af (J.trans (dW.trans kr));obtain⟨g,o,rfl,Q,b,m,eY⟩:=yN.get HF n;have HP:ah (∀w',Ext w w'->∀k (E:k<x.a_.length),aA w' g (o+k*3) (.int .i64 x.a_[k].1)):=fun w' hx k E=>by obtain⟨g',o',F,vV,h',_⟩:=yN.get HF E;injection F with F;injection F with e1 e2;subst e1 e2;exact(hx.cell (p:=aD g (o+k*3)) Q).trans h'
   have b:=(O.cell (p:=aD g (o+i*3)) Q).trans b;have m:=(O.cell (p:=aD g (o+i*3+1)) Q).trans m;have eY:=(O.cell (p:=aD g (o+i*3+2)) Q).trans eY;have f:=a8 n;have x4:=aN.fo _ f;have mF:=aN.fl _ f;rw[Yi.ae] at mF;have yH:ah (∀k (E:k<i),((x.a_[k]'Om).1==x.a_[i].1)=false):=fun k E=>by rw[beq_eq_false_iff_ne];exact nI.1 aN.fd k i Om n E
   clear f;generalize x.a_[i]=fe at*;obtain⟨fa,fk,fm⟩:=fe;simp only at b m eY mF yH;obtain⟨km,y,hy,x4⟩:=x4;simp only at km hy x4;obtain⟨q,rfl⟩:=Int.eq_ofNat_of_zero_le km;rw[kX] at hy;obtain⟨H,hye⟩:=uU.1 hy;obtain⟨ga,oa,rfl,Kw, -,qh⟩:=oM HA H;rw[hye] at qh;have H:q<N:=by rw[<-HN.ae];exact H
   have hlq:((q:Int)==t)=false:=by rw[beq_eq_false_iff_ne];exact mF
   have Z:decide ((q:Int)<0)=false:=aW;have hqd:decide (N<=q)=false:=aW;clear hy hye mF km;generalize wr=wo at*;go_upto_region 51 with fail
   refine aR fun w6 dR BA=> ?_;have kr:=af (kr.trans dR);have Hp:=af (O.trans dR);have uS:=af (oC.ext kr);obtain⟨s0,s1,s2,s3⟩:=uS.four;have q0:=BA.aF 0;have q1:=BA.aF 1;have q2:=BA.aF 2;have qh:=(Hp.cell (p:=aD ga (oa+q*2+1)) Kw).trans qh;clear b m eY O dR;rcases x4 with⟨rfl,Gs,rfl|rfl⟩|⟨rfl,Gs,rfl⟩
   ·rw[Gs] at qh;exact m8
   ·rw[Gs] at qh;exact m8
   ·rw[Gs] at qh;exact m8
  ·obtain rfl:M=i:=Om;have dQ:=af (J.trans (dW.trans kr));have BX9:=af (oC.ext kr);obtain⟨s0,s1,s2,s3⟩:=BX9.four;have l1:decide (t< -1)=false:=aW;by_cases hl0:0<=t
   ·obtain⟨a,ha,E⟩:=aN.lk (by rw[Yi.ae];exact hl0);rw[Yi.ae] at ha;obtain⟨q,rfl⟩:∃q:Nat,t=(q:Int):=⟨t.toNat,by omega⟩;rw[kX] at ha;obtain⟨H,hqe⟩:=uU.1 ha;obtain⟨g,o,rfl, -, -,hp⟩:=oM (bU nM HA dQ) H;rw[hqe,E] at hp;have atz:q<N:=by rw[<-HN.ae];exact H
    have l2:decide ((q:Int)≥(N:Int))=false:=aW;have l2':decide (N<=q)=false:=aW;have l3:decide ((q:Int)≥0)=true:=fN;clear ha hqe hl0;go_wp2;go_ret;exact⟨rfl,dQ⟩
   ·have l2:decide (t≥(N:Int))=false:=aW;have l2':decide ((N:Int)<=t)=false:=aW;have l3:decide (t≥0)=false:=aW;have l3':decide (0<=t)=false:=aW;go_wp2;go_ret;exact⟨rfl,dQ⟩):=h
def aaO(v:Value)(x:aP)(w:au)(h:dP w v x)(ok:bV x):
 Calls prog 31 #[v] w fun e w'=>e= .returned (.int .i64 0)/\Ext w w':=by
 have aN:=af ok;obtain⟨A,c,B,d,D,e,rfl,ha,hr,hf⟩:=h;obtain⟨-,ko,GS⟩:=bl ha;obtain⟨-,jf,lw⟩:=bl hr;obtain⟨-,he1,he2⟩:=bl hf;have HA:=af ha;have HR:=af hr;have HF:=af hf;have a1:=ok.a1;have a12:=ok.a12;have r1:=ok.r1;have r6:=ok.r6;have f8:=ok.f8;have lb:=ok.lb;clear ha hr hf ok;obtain⟨t,U9⟩:∃t,x.label=t:=⟨_,rfl⟩;have Yi:=af U9;rw[U9] at lb⊢;clear U9;obtain⟨N,hN⟩:∃N,x.ai.length=N:=⟨_,rfl⟩;have HN:=af hN;rw[hN] at HA a1 a12 lb ko⊢;clear hN;obtain⟨R,hR⟩:∃R,x.ay.length=R:=⟨_,rfl⟩;have jW:=af hR;rw[hR] at HR r1 r6 jf⊢;clear hR;obtain⟨M,hM⟩:∃M,x.a_.length=M:=⟨_,rfl⟩;have HM:=af hM;rw[hM] at HF f8 he1⊢;clear hM;have d1:decide ((N:Int)>12)=false:=aW;have d2:decide ((R:Int)>6)=false:=aW;have d3:decide ((M:Int)>8)=false:=aW;have b1:((N:Int)==0)=false:=axo;have b2:((R:Int)==0)=false:=axo;go_enter func31,ntmps31;go_upto_region 1 with fail
 refine aR fun W HX BX=> ?_;obtain⟨s0,s1,s2,s3⟩:=BX.four;go_upto_region 4 with fail
 clear s0 s1 s2 s3 d1 d2 d3 b1 b2;go_loopw [3,4,5,51] (fun _ _ _ v51 wr=>∃i:Nat,i<=N/\v51= .int .i64 i/\ah (Ext W wr)) (fun _ _ _ v51 _=>N - (RowKit.intOf v51).toNat);exact⟨0,aU _,rfl,aB _⟩;obtain⟨i,hi,rfl,s⟩:=hrel;by_cases WP:i<N
 ·have n:i<x.ai.length:=by rw[HN.ae];exact WP
  have O:=af (HX.trans s);obtain⟨g,o,rfl,Q,b,m⟩:=oM HA n;have HP:ah (∀w',Ext w w'->∀k (E:k<x.ai.length),aA w' g (o+k*2) (.string ⟨x.ai[k].1.toArray⟩)):=fun w' hx k E=>by obtain⟨g',o',F,vV,h',_⟩:=oM HA E;injection F with F;injection F with e1 e2;subst e1 e2;exact(hx.cell (p:=aD g (o+k*2)) Q).trans h'
  have b:=(O.cell (p:=aD g (o+i*2)) Q).trans b;have m:=(O.cell (p:=aD g (o+i*2+1)) Q).trans m;have WR:=af (fun w'=>Ss x.ai[i].1 w' (aN.aw _ (a8 n)));have E:=aN.ak _ (a8 n);have yH:ah (∀k (E:k<i),((x.ai[k]'Om).1==x.ai[i].1)=false):=fun k E=>by rw[beq_eq_false_iff_ne];intro h;exact nI.1 aN.ad k i Om n E h
  obtain⟨sn,Y⟩:∃sn,x.ai[i].1=sn:=⟨_,rfl⟩;obtain⟨kd,Kt⟩:∃kd,x.ai[i].2=kd:=⟨_,rfl⟩;rw[Y] at b WR yH;rw[Kt] at m E;clear Y Kt;have k1:decide (kd<1)=false:=aW;have k3:decide (kd>3)=false:=aW;generalize wr=wo at*;go_upto_region 6 with fail
  refine aR fun W3 L BA=> ?_;have Z:=BA.aF 0;clear b m;go_wp2_with fail
  refine(WR _).mono ?_;rintro F w4 ⟨rfl,G⟩;have I:=af (s.trans (L.trans G));have P:=af (BA.ext G);clear Z L BA G O s;go_upto_region 9 with fail
  go_loopw [5] (fun v5 wr=>∃k:Nat,k<=i/\v5= .int .i64 k/\ah (Ext w4 wr)) (fun v5 _=>i - (RowKit.intOf v5).toNat)
  exact⟨0,aU _,rfl,aB _⟩;obtain⟨k,vR,rfl,iy⟩:=hrel;by_cases GF:k<i
  ·have df:k<x.ai.length:=Om;have hkN:k<N:=Om;have PK:=yH k GF;have yr:=af (fun w' hx=>HP w' hx k df);generalize x.ai[k].1=sk at*;clear df;have EI:=af (BX.ext (I.trans iy));have pL:=af (P.ext iy);have EB:=af (HX.trans (I.trans iy));go_upto_region 11 with fail
   have bK:ah (∀w',Ext wr w'->aA w' w.heap.size 0 (aG g o N c)/\aA w' g (o+k*2) (.string ⟨sk.toArray⟩)/\aA w' wo.heap.size 0 (.string ⟨sn.toArray⟩)):=fun w' hx=>⟨(EI.ext hx).aF 0,yr.ae w' (EB.trans hx),(pL.ext hx).aF 0⟩;have aJ:ah (Ext wr wr.drew):=(aB wr).drew;refine cG (S:=fun w'=>Ext wr w') (T:=fun _=>false) Ok ?_;refine ax 0 65 ?_;refine ax 1 66 ?_;refine ax 2 67 ?_;refine ax 3 68 ?_;refine ax 4 69 ?_;refine ax 5 70 ?_;refine ax 6 71 ?_;refine ax 7 72 ?_;refine ax 8 73 (v:= .bool false) ?_;refine bY Ok ?_;have jG:=af (iy.trans aJ);clear bK aJ;exact OW
  ·obtain rfl:k=i:=Om;have pL:=af (P.ext iy);have K:=pL.aF 1;have jG:=af (I.trans iy);exact OW
 ·obtain rfl:N=i:=Om;generalize wr=w1 at*;have qw:=af (BX.ext s);have J:=af (HX.trans s);clear BX HX s;obtain⟨s0,s1,s2,s3⟩:=qw.four;have hgx:w.heap.size<w1.heap.size:=qw.lt;have mC:=IR N Om w1;go_upto_region 17 with fail
  refine aR fun W2 bk BU=> ?_;clear mC s0 s1 s2 s3;have mO:=af (qw.ext bk);obtain⟨s0,s1,s2,s3⟩:=mO.four;have sY:ah (Us (List.replicate N false) N ([]:List Int)):=⟨by simp,fun a h=>by cases h⟩;have EJ:ah (aq W2 w1.heap.size fV (pY (List.replicate N false))):=by rw[pY,Bx];exact BU
  clear BU mO;go_upto_region 18 with fail
  clear s0 s1 s2 s3;go_loopw [7,8,9,11,12,90] (fun _ _ _ _ _ VQ wr=>∃(i:Nat) (bs:List Bool),i<=R/\VQ= .int .i64 i/\ah (Us bs N ((x.ay.take i).flatMap (·.2)))/\ah (aq wr w1.heap.size fV (pY bs))/\ah (Ext w1 wr)) (fun _ _ _ _ _ VQ _=>R - (RowKit.intOf VQ).toNat);exact⟨0,_,aU _,rfl,sY,EJ,bk⟩;clear sY EJ bk;obtain⟨i,bs,hi,rfl,HU,BU,s⟩:=hrel;by_cases AA:i<R
  ·have n:i<x.ay.length:=ayG;have O:=af (J.trans s);obtain⟨g,o,Bi,mi,di,rfl,Q,b,m,jV⟩:=rV HR n;have HP:ah (∀w',Ext w w'->∀k (E:k<x.ay.length),aA w' g (o+k*2) (.string ⟨x.ay[k].1.toArray⟩)):=fun w' hx k E=>by obtain⟨g',o',B',m',d',F,vV,h',_,_⟩:=rV HR E;injection F with F;injection F with e1 e2;subst e1 e2;exact(hx.cell (p:=aD g (o+k*2)) Q).trans h'
   have b:=(O.cell (p:=aD g (o+i*2)) Q).trans b;have m:=(O.cell (p:=aD g (o+i*2+1)) Q).trans m;have d_:ah (∀w',Ext w w'->IL w' (.slice Bi mi di) x.ay[i].2):=fun w' hx=>iU jV hx;have f:=a8 n;have WR:=af (fun w'=>Ss x.ay[i].1 w' (aN.rw' _ f));have yH:ah (∀k (E:k<i),((x.ay[k]'Om).1==x.ay[i].1)=false):=fun k E=>by rw[beq_eq_false_iff_ne];intro h;exact nI.1 aN.rd k i Om n E h
   have hne:=aN.rn _ f;have gC:=af (aN.ri _ f);have ou:=af (aN.ra _ f);have Ez:ah ((x.ay.take (i+1)).flatMap (·.2)=(x.ay.take i).flatMap (·.2)++x.ay[i].2):=(by rw[ah,Fj n,EN,List.flatMap_singleton])
   rw[HN.ae] at gC;obtain⟨o8,WD,hdm⟩:=bl jV;have jT:0<mi:=by rw[o8];exact Ik.2 hne
   have Pr:((mi:Int)==0)=false:=axo;have Bb:=af o8;clear jV f o8 hne;obtain⟨sn,Y⟩:∃sn,x.ay[i].1=sn:=⟨_,rfl⟩;obtain⟨l,ahv⟩:∃l,x.ay[i].2=l:=⟨_,rfl⟩;rw[Y] at b WR yH;rw[ahv] at d_ gC ou Ez Bb;clear Y ahv;generalize hLF:(x.ay.take i).flatMap (·.2)=lf at*;clear hLF;generalize wr=wo at*;have Pz:w1.heap.size<wo.heap.size:=BU.lt;go_upto_region 20 with fail
   refine aR fun W3 L BA=> ?_;have Z:=BA.aF 0;clear b m;go_wp2_with fail
   refine(WR _).mono ?_;rintro F w4 ⟨rfl,G⟩;have I:=af (s.trans (L.trans G));have L8:=af (BU.ext (L.trans G));have P:=af (BA.ext G);clear Z L BA G O s BU;go_upto_region 23 with fail
   go_loopw [9] (fun v9 wr=>∃k:Nat,k<=i/\v9= .int .i64 k/\ah (Ext w4 wr)) (fun v9 _=>i - (RowKit.intOf v9).toNat)
   exact⟨0,aU _,rfl,aB _⟩;obtain⟨k,vR,rfl,iy⟩:=hrel;by_cases GF:k<i
   ·have df:k<x.ay.length:=Om;have Pu:k<R:=Om;have PK:=yH k GF;have yr:=af (fun w' hx=>HP w' hx k df);generalize x.ay[k].1=sk at*;clear df;have EI:=af (qw.ext (I.trans iy));have pL:=af (P.ext iy);have EB:=af (J.trans (I.trans iy));go_upto_region 25 with fail
    have bK:ah (∀w',Ext wr w'->aA w' w.heap.size 1 (aG g o R d)/\aA w' g (o+k*2) (.string ⟨sk.toArray⟩)/\aA w' wo.heap.size 0 (.string ⟨sn.toArray⟩)):=fun w' hx=>⟨(EI.ext hx).aF 1,yr.ae w' (EB.trans hx),(pL.ext hx).aF 0⟩;have aJ:ah (Ext wr wr.drew):=(aB wr).drew;refine cG (S:=fun w'=>Ext wr w') (T:=fun _=>false) Ok ?_;refine ax 0 104 ?_;refine ax 1 105 ?_;refine ax 2 106 ?_;refine ax 3 107 ?_;refine ax 4 108 ?_;refine ax 5 109 ?_;refine ax 6 110 ?_;refine ax 7 111 ?_;refine ax 8 112 (v:= .bool false) ?_;refine bY Ok ?_;have jG:=af (iy.trans aJ);clear bK aJ;exact OW
   ·obtain rfl:i=k:=Om;have yS:=af (P.ext iy);have L6:=af (L8.ext iy);have HE5:=af (I.trans iy);clear P L8 I iy WR yH HP;generalize wr=w5 at*;have K:=yS.aF 1;go_upto_region 30 with fail
    clear K;have qm:ah (Us bs N (lf++l.take 0)):=by rw[kG,j5];exact HU
    go_loopw [11,120] (fun _ X wr=>∃(j:Nat) (bs:List Bool),j<=mi/\X= .int .i64 j/\ah (Us bs N (lf++l.take j))/\ah (aq wr w1.heap.size fV (pY bs))/\ah (aq wr wo.heap.size ub [.string ⟨sn.toArray⟩,.slice Bi mi di])/\ah (Ext w1 wr)) (fun _ X _=>mi - (RowKit.intOf X).toNat)
    exact⟨0,bs,aU _,rfl,qm,L6,yS,HE5⟩;clear qm L6 HU bs yS HE5;obtain⟨j,bs,hj,rfl,HU,BU,BA,C⟩:=hrel;by_cases WL:j<mi
    ·have d6:j<l.length:=by rw[<-Bb.ae];exact WL
     obtain⟨gi,oi,rfl,_,GJ⟩:=ij (d_ _ (J.trans C)) d6;have o7:=gC _ (a8 d6);have XO:=af (Fj d6);generalize l[j]=y at*;clear d6;obtain⟨q,rfl⟩:∃q:Nat,y=(q:Int):=⟨y.toNat,by omega⟩;have H:q<N:=Om;have Z:decide ((q:Int)<0)=false:=aW;have hqd:decide (N<=q)=false:=aW;have awn:decide ((q:Int)≥(N:Int))=false:=aW;have hfz:=BU.frozen q;have x6:∃u,wr.cell? (aD w1.heap.size q)=some u:=(by exact afM)
     obtain⟨uq,x6⟩:=x6;obtain⟨W7,iM,B7,K7,N7⟩:=fM (i:=q) BU (.bool true);rw[adS] at B7;have Ld:=af (HU.set H);rw[jk,<-XO.ae] at Ld;have Zd:=af (BA.only N7 Om);have f_:=af (C.only N7 (aL _));clear o7 K7 N7 BA C BU;go_wp2_with fail
     go_roundw;exact⟨j+1,_,by omega,by go_num,Ld,B7,Zd,f_⟩;simp [RowKit.intOf];omega
    ·obtain rfl:j=mi:=Om;rw[dD (by rw[<-Bb.ae];exact aL _),<-Ez.ae] at HU;generalize wr=w6 at*;have K:=BA.aF 1;go_upto_region 37 with fail
     clear K;go_loopw [12] (fun v12 wr=>∃k:Nat,1<=k/\k<=j/\v12= .int .i64 k/\ah (Ext w6 wr)) (fun v12 _=>j - (RowKit.intOf v12).toNat);exact⟨1,aL _,jT,rfl,aB _⟩;obtain⟨k,lm,hkj,rfl,iy⟩:=hrel;have pL:=af (BA.ext iy);have K:=pL.aF 1;by_cases Aj:k<j
     ·obtain⟨z,hz⟩:∃z,k=z+1:=⟨k - 1,by omega⟩;have hz1:k<l.length:=by rw[<-Bb.ae];exact Aj
      have hz0:z<l.length:=Om;have hlt:l[z]<l[k]:=nI.1 ou z k hz0 hz1 Om;obtain⟨gi,oi,rfl, -, -⟩:=ij (d_ _ (J.trans C)) hz1;have ru:ah (∀w',Ext w w'->aA w' gi (oi+k) (.int .i64 l[k])/\aA w' gi (oi+z) (.int .i64 l[z])):=fun w' hx=>by
       refine⟨?_,?_⟩
       ·obtain⟨g',o',F,_,h⟩:=ij (d_ _ hx) hz1;injection F with F;injection F with e1 e2;subst e1 e2;exact h
       ·obtain⟨g',o',F,_,h⟩:=ij (d_ _ hx) hz0;injection F with F;injection F with e1 e2;subst e1 e2;exact h
      have EB:=af (J.trans (C.trans iy));generalize l[k]=y1 at*;generalize l[z]=y0 at*;clear hz0 hz1;have hwz:IntKind.i64.wrap ((k:Int) - 1)=(z:Int):=ax5;have O1:z<j:=Om;clear hz;go_upto_region 39 with fail
      clear K;have bK:ah (∀w',Ext wr w'->aA w' wo.heap.size 1 (aG gi oi j di)/\aA w' gi (oi+k) (.int .i64 y1)/\aA w' gi (oi+z) (.int .i64 y0)):=fun w' hx=>⟨(pL.ext hx).aF 1,ru.ae w' (EB.trans hx)⟩;have aJ:ah (Ext wr wr.drew):=(aB wr).drew;refine cG (S:=fun w'=>Ext wr w') (T:=fun _=>false) Ok ?_;refine ax 0 143 ?_;refine ax 1 144 ?_;refine ax 2 145 ?_;refine ax 3 146 ?_;refine ax 4 147 ?_;refine ax 5 148 ?_;refine ax 6 149 ?_;refine ax 7 150 ?_;refine ax 8 151 (v:= .int .i64 z) ?_;refine ax 9 152 ?_;refine ax 10 153 ?_;refine ax 11 154 (v:= .bool false) ?_;refine bY Ok ?_;have jG:=af (iy.trans aJ);clear bK aJ ru;go_wp2_with fail
      go_roundw;exact⟨k+1,by omega,by omega,by go_num,jG⟩;simp [RowKit.intOf];omega
     ·have Kt:decide (k<j)=false:=decide_eq_false Aj;have Y7:=af (BU.ext iy);have f_:=af (C.trans iy);go_wp2_with fail
      go_roundw;exact⟨i+1,bs,by omega,by go_num,HU,Y7,f_⟩;simp [RowKit.intOf];omega
  ·obtain rfl:R=i:=Om;open q67 in exact af_
def aiD{c b:List aC}(f:a<c)(e:a<b)(h:c.take a=b.take a)(d:c[a]=b[a]):c.take (a+1)=b.take (a+1):=by rw[tJ,tJ,h,aX f,aX e,d]
def R3(H G:aQ)(A F z E:Nat)(a b:List aC)(w:au)(t:TL w (.slice H A F) a)(s:TL w (.slice G z E) b):
 Calls prog 63 #[.slice H A F,.slice G z E] w fun e I=>e= .returned (.bool (a==b))/\∃n,I=w.drewN n:=by
 obtain⟨R,P,K⟩:=bl t;obtain⟨Q,O,J⟩:=bl s;subst R Q;have U:=af t;have T:=af s;clear t s;by_cases j:a.length=b
 ·have S:=af j;have p:((a.length:Int) !=(b.length:Int))=false:=by simp [j]
  have M:a<=b.length:=Om;have L:b<=a.length:=Om;clear j;go_enter func63,ntmps63;go_wp2;go_loopw [13] (fun v wr=>∃i:Nat,i<=a/\v= .int .i64 i/\ah (a.take i=b.take i)/\∃q,wr=w.drewN q) (fun v _=>a - (RowKit.intOf v).toNat)
  exact⟨0,aU _,rfl,rfl,0,rfl⟩;obtain⟨i,N,rfl,m,q,rfl⟩:=hrel;by_cases D:i<a
  ·have C:i<b.length:=Om;obtain⟨g,o,rfl,_,r⟩:=rX U D;obtain⟨W,V,rfl,_,l⟩:=rX T C;have d:=af (fun h=>aiD D C m h);have f:ah (a[i]≠b[i]->(a==b)=false):=fun h=>by rw[beq_eq_false_iff_ne];intro e;subst e;exact h rfl
   generalize a[i]=x at*;generalize b[i]=y at*;by_cases c:(x==y)=true
   ·have u:=af (d (beq_iff_eq.1 c));clear d f m;go_wp2;go_quiet (fail);go_wp2;go_roundw;exact⟨i+1,by omega,by go_num,u,_,rfl⟩;simp [RowKit.intOf];omega
   ·have B:(x==y)=false:=axv;have k:=af (f axv);clear c d f m;go_wp2;go_quiet (fail);go_wp2;go_ret;exact⟨by rw[k.ae];rfl,JF _ _ _⟩
  ·obtain rfl:i=a.length:=Om;have k:ah ((a==b)=true):=(by have h:=m.ae;rw[fB,S.ae,fB] at h;exact beq_iff_eq.2 h)
   have d1:decide (a<a)=false:=Ou;go_wp2;go_ret;exact⟨by rw[k.ae];rfl,_,rfl⟩
 ·have p:((a.length:Int) !=(b.length:Int))=true:=Oc;have k:ah ((a==b)=false):=(by rw[ah,beq_eq_false_iff_ne];intro e;exact j (by rw[e]))
  clear j;go_enter func63,ntmps63;go_wp2;go_ret;exact⟨by rw[k.ae];rfl,0,rfl⟩
def Th(A:aQ)(n c:Nat)(l:List Int)(z:Int)(w:au)(h:IL w (.slice A n c) l):
 Calls prog 148 #[.slice A n c,.int .i64 z] w fun e u=>e= .returned (.bool (l.contains z))/\∃n,u=w.drewN n:=by
 obtain⟨x,v,B⟩:=bl h;subst x;have C:=af h;have p:ah (z∉l.take 0):=by simp [ah]
 clear h;go_enter func148,ntmps148;go_wp2_with fail;go_loopw [6,9] (fun _ f wr=>∃i:Nat,i<=l/\f= .int .i64 i/\ah (z∉l.take i)/\∃q,wr=w.drewN q) (fun _ f _=>l - (RowKit.intOf f).toNat);exact⟨0,aU _,rfl,p,0,rfl⟩;obtain⟨i,D,rfl,r,q,rfl⟩:=hrel;by_cases a:i<l
 ·obtain⟨g,o,rfl,_,E⟩:=ij C a;have t:ah (l[i]≠z->z∉l.take (i+1)):=fun j b=>by
   rw[fR a] at b;rcases bO.1 b with b|b
   ·exact r b
   ·exact j (bE.1 b).symm
  have k:ah (l[i]=z->l.contains z=true):=fun h=>by rw[oF,<-h];exact a8 a
  generalize l[i]=y at*;by_cases d:y=z
  ·have m:=af (k d);subst d;clear k t r;go_wp2;go_ret;exact⟨by rw[m.ae];rfl,_,rfl⟩
  ·have F:(y==z)=false:=by rw[beq_eq_false_iff_ne];exact d
   have s:=af (t d);clear k;go_wp2;go_roundw;exact⟨i+1,by omega,by go_num,s,_,rfl⟩;simp [RowKit.intOf];omega
 ·obtain rfl:i=l.length:=Om;have m:ah (l.contains z=false):=(by have h:=r.ae;rw[fB] at h;rw[ah,<-rI,oF];exact h)
  have d1:decide (l<l)=false:=Ou;go_wp2;go_ret;exact⟨by rw[m.ae];rfl,_,rfl⟩
def fY(x:Rw):List Rw->List Rw
 | []=> [x]
 |y::l=>if dU y.1 x.1=true then y::fY x l else if (y.1==x.1)=true then (y.1,y.2+x.2)::l else x::y::l
def jw(l:List Rw)(i:Nat):List Rw:=(l.take i).foldl (fun o x=>fY x o) []
def Sc{l:List Rw}(h:a<l):jw l (a+1)=fY l[a] (jw l a):=by unfold jw;rw[tJ,aX h,wS];rfl
def tZ(l:List Rw)(i:Nat):List Rw:=(l.take i).filter fun x=>x.2 !=0
def akG{l:List Rw}(h:a<l):tZ l (a+1)=if (l[a].2 !=0)=true then tZ l a++ [l[a]] else tZ l a:=by unfold tZ;rw[tJ,aX h,rB];simp only[Option.toList,qy,Mw];split<;>simp
def zH(l:List Rw):List Rw:=tZ (jw l l.length) (jw l l.length).length
def amF{x:Rw}{o:List Rw}(b:a<o)(h:fY x o=o.take a++fY x (o.drop a))(c:dU o[a].1 x.1=true):fY x o=o.take (a+1)++fY x (o.drop (a+1)):=by
 rw[h,jK b];show o.take a++(if dU o[a].1 x.1=true then o[a]::fY x (o.drop (a+1)) else _)=_
 rw[if_pos c,tJ,aX b,jk];rfl
def aoy{x:Rw}{o:List Rw}{k:Nat}(a:k<o)(h:fY x o=o.take k++fY x (o.drop k))(hl:dU o[k].1 x.1=false)(he:(o[k].1==x.1)=false):fY x o=o.take k++x::o.drop k:=by rw[h,jK a];exact afT
def aox{x:Rw}{o:List Rw}{k:Nat}(a:k<o)(h:fY x o=o.take k++fY x (o.drop k))(hl:dU o[k].1 x.1=false)(he:(o[k].1==x.1)=true):fY x o=o.set k (o[k].1,o[k].2+x.2):=by rw[h,aib,if_pos a,jK a];exact afT
def aoz{x:Rw}{o:List Rw}(h:fY x o=o.take o++fY x (o.drop o)):fY x o=o.take o++x::o.drop o.length:=by rw[h,ZQ];rfl
def Tx(x:Rw):∀o:List Rw,(fY x o)<=o.length+1
 | []=>aL _
 |y::l=>by
  unfold fY;have h:=Tx x l;split
  ·simp only[cT];omega
  ·split<;>simp only[cT]<;>omega
def aeT{x:Rw}{m:Nat}(b:x.2.natAbs<=1000000):∀{o:List Rw},(∀y∈o,y.2.natAbs<=m)->∀y∈fY x o,y.2.natAbs<=m+1000000
 | [],_,y,a=>by rw[bE.1 a];omega
 |z::l,h,y,a=>by
  have d:=h z Ou;have c:=aeT (o:=l) b (fun y a=>h y axx);unfold fY at a;split at a
  ·rcases aK.1 a with rfl|a
   ·omega
   ·exact c y a
  ·split at a
   ·rcases aK.1 a with rfl|a
    ·simp only;omega
    ·have:=h y axx;omega
   ·rcases aK.1 a with rfl|a
    ·omega
    ·have:=h y a;omega
def ael{l:List Rw}(a:∀y∈l,y.2.natAbs<=1000000):∀i,i<=l.length->(jw l i).length<=i/\∀y∈jw l i,y.2.natAbs<=i*1000000
 |0,_=>⟨by simp [jw],fun y b=>by simp [jw] at b⟩
 |i+1,h=>by obtain⟨d,c⟩:=ael a i Om;rw[Sc Om];refine⟨aV (Tx _ _) Om,?_⟩;rw[oH];exact aeT (a _ (a8 _)) c
def aeM(h:m.ownsRow a w b (aG c 0 d e) d t):c<m.heap.size:=(h.lt c rfl).2
def Sx(h:m.ownsRow a w b (aG c 0 d e) d t)(p:f<=d):m.ownsRow a w b (aG c 0 f e) f (t.take (f*b)):=by
 obtain⟨y,x|⟨C,A,l,o,r,q,B,v,u,s⟩⟩:=h
 ·cases x.1
 ·injection o with i D z;injection i with i;injection i with i;subst i z;have j:f*b<=d*b:=eK _ p;refine⟨by rw[cO,y];omega,.inr ⟨c,e,l,rfl,r,q,by omega,v,u,?_⟩⟩;rw[<-s,My,i9 j]
def al5(h:m.ownsRow a w b (aG c 0 d e) d t):Sl m w (dV c f) (t.drop f):=by intro j u p;obtain⟨y,o,l,s,i,q,r⟩:=I8 h (f+j) u (by rw[<-p,EO]);injection i with i;injection i with x v;subst x v;exact⟨c,f,l,s,rfl,q,by rw[<-r,jL]⟩
def NB{P:Program}{o:Oper}{K:Act->World->Prop}{b:Exit->Act->World->Prop}(s f:Operand)(t:TypeId)
 (ho:o.op= .call {callee:= .builtin .append,args:= #[s,f],argTypes:= #[t,t]})
 (l:Nat) {size bytes:Nat} (T:j7 P t w size bytes)
 (v:Value) (n:Nat) (B:List Value) (hs:Q.eval s=v) (y:m.ownsRow l w size v n B)
 (A:Addr) (d c:Nat) (k:List Value) (hx:Q.eval f= .slice (some A) d c) (M:k.length=d*size) (q:Sl m x (some A) k) (S:∀u∈k,u.oneCell'=true)
 (p:(n+d)*bytes<=140737488355328) (r:l<=m.heap.size)
 (h:∀v' w',w'.ownsRow l w size v' (n+d) (B++k)->m.grownBy w' v.ownBlock->(v'.ownBlock=v.ownBlock\/v'.ownBlock=some m.heap.size)->K (Q.put o.dst v') w'):o.wp P Q m K b:=by
 obtain⟨i,z,N,I,E,D,C⟩:=T.inf;have G:n+d<=maxLen:=(by have L:=T.Vq;have:=Mi (n+d) L;unfold maxLen;omega)
 have F:∀j u,k[j]? =some u->m.cell? (A.add j)=some u:=(by intro j u J;obtain⟨g,V,U,W,H,O,R⟩:=q j u J;injection H with H;subst H;rw[MH];simp [World.cell?,O,R]);obtain⟨v',w',hr,h2,h3,_,h5⟩:=run_append_own_at (P:=P) m l t o.type w i z size bytes T.ht N I E D C T.pos v n B y A d c k M F S G p r;exact agc
def Ch.drop{α:Type}{R:List Value->α->Prop}{k:Nat}(b:∀c x,R c x->c=k):∀{a:List Value} {l:List α} (_:Ch R a l) (n:Nat),Ch R (a.drop (n*k)) (l.drop n)
 |a,l,h,0=>by simpa using h
 |a,[],h,n+1=>by rw[show a= [] from h];simp [Ch]
 |a,x::l,⟨c,r,e,g,f⟩,n+1=>by
  subst e;have d:=b _ _ g;have e:(n+1)*k=c+n*k:=by rw[d,oH];omega
  rw[e,<-y6,List.drop_left];exact Ch.drop b f n
def ad7(h:aq m a w t)(e:t.length=d*c)(f:b<=a)(i:d<=1000):m.ownsRow b w c (aG a 0 d d) d t:=
 ⟨e,.inr ⟨a,d,t.toArray,rfl,f,h,aL _,by unfold maxLen;omega,by simp [e],by simp [<-e]⟩⟩
def anW{o:List Rw}(h:n.ownsRow a fg 2 (aG b 0 c d) c t)(D:Ch (fP n) t o)(C:o.length=c)(r:e<o.length)(z:Int):
 bG fg 2 fP a (n.setCell (aD b (e*2+1)) (av z)) (aG b 0 c d) (o.set e (o[e].1,z))/\n.grownBy (n.setCell (aD b (e*2+1)) (av z)) (some b):=by
 obtain⟨H,s⟩:=h.stored (e*2+1) (av z);refine⟨⟨_,by rw[tM,C];exact H,?_⟩,s⟩;have E:Kept bC n (n.setCell (aD b (e*2+1)) (av z)):=tP h s Od;have p:Ch (fP (n.setCell (aD b (e*2+1)) (av z))) t o:=D.mono fun d x y=>k6 _ _ _ _ (fun u A=>by rw[bE.1 A];exact E) y;obtain⟨j,J,q,rfl,v,G,⟨B,f,rfl,hT⟩,F⟩:=Ch.split (fP.two _) p r;have I:(j++([Value.slice B o[e].1.length f,av o[e].2]++q)).set (e*2+1) (av z)=j++([Value.slice B o[e].1.length f,av z]++q):=(by rw[QT _ _ Om];have i:e*2+1 - j.length=1:=Om;rw[i];rfl)
 rw[I,aib,if_pos r];exact Ch.append (l:=o.take e) (m:=(o[e].1,z)::o.drop (e+1)) ⟨_,_,rfl,⟨B,f,rfl,hT⟩,F⟩ G
def ape{P:Program}{o:Oper}{w:au}{K:Act->World->Prop}{b:Exit->Act->World->Prop}(s c:Operand)(t:TypeId)
 (r:o.op= .call {callee:= .builtin .append,args:= #[s,c],argTypes:= #[t,t]})
 {size bytes:Nat} (T:j7 P t x size bytes)
 (d n:Nat) (v:Value) (j:List Value) (q:Q.eval s=v) (g:w.ownsRow d x size v n j) (p:Q.eval c= .slice none 0 0)
 (h:K (Q.put o.dst v) w):o.wp P Q w K b:=by
 obtain⟨i,z,u,y,m,l,k⟩:=T.inf;have f:=run_append_owned_none (P:=P) (w:=w) d t o.type x i size T.ht u v n j g;unfold Oper.wp;simp [execOp,r,resolve,invoke,builtin,q,p,f,Result.andThen];exact h
def al_(h:m.ownsRow a w b (.slice E c d) c t):(E=none/\c=0/\d=0)\/∃g,E=dV g 0/\a<=g/\g<m.heap.size:=by
 rcases h.2 with⟨f,o⟩|⟨g,r,q,f,l,j,_⟩
 ·injection f with f p i;exact .inl ⟨f,o,i⟩
 ·injection f with f p i;exact .inr ⟨g,f,l,ie j⟩
def ac3{l:List Rw}(h:Ch (fP m) t l):∀u∈t,u.oneCell'=true:=
 Ch.all (fun c x b u a=>by
  obtain⟨B,d,rfl,_⟩:=b;rcases aK.1 a with rfl|a
  ·rfl
  ·rw[bE.1 a];rfl) h
def aqX{o:List Rw}{k:Nat}{x:Rw}(h:Ch (fP n) t o)(b:TL n (.slice E x.1.length a) x.1):
 Ch (fP n) (t.take (k*2)++([.slice E x.1.length a,av x.2]++t.drop (k*2))) (o.take k++x::o.drop k):=
 Ch.append (l:=o.take k) (m:=x::o.drop k) ⟨_,_,rfl,⟨E,a,rfl,b⟩,Ch.drop (fP.two _) h k⟩ (Ch.take (fP.two _) h k)
def Ch.ND{l:List Rw}(h:Ch (fP m) t l)(b:Kept bC m n):Ch (fP n) t l:=h.mono fun c x d=>k6 _ _ _ _ (fun u a=>by rw[bE.1 a];exact b) d
def TL.Oi{l:List aC}(h:TL m p l)(b:Kept bC m n):TL n p l:=gF jO h (fun u a=>by rw[bE.1 a];exact b)
def bG.weaken{α:Type}{b':Nat}{R:World->List Value->α->Prop}{l:List α}(h:bG w a R b' m p l)(r:b<=b'):bG w a R b m p l:=by
 obtain⟨f,⟨n,c⟩,j⟩:=h;refine⟨f,⟨n,?_⟩,j⟩;rcases c with c|⟨g,e,d,o,q,i⟩
 ·exact .inl c
 ·exact .inr ⟨g,e,d,o,by omega,i⟩
def aot(l:List Rw)(i:Nat):(tZ l i)<=i:=by unfold tZ;have h:=mP (fun x:Rw=>x.2 !=0) (l.take i);rw[cO] at h;omega
def own_rw{o:List Rw}(h:bG fg 2 fP a m (aG b 0 c d) o)(p:e<o):
 ∃B f,b<m.heap.size/\aA m b (e*2) (.slice B o[e].1 f)/\aA m b (e*2+1) (av o[e].2)/\ah (TL m (.slice B o[e].1 f) o[e].1):=by
 obtain⟨t,s,B,f,i,r,l,j,q⟩:=zC h.ls p;injection i with i;cases i;rw[jL] at l j;exact⟨B,f,r,l,j,q⟩
def q70.k45(h:ar:=by
 refine bW.ld 7 63 (.slice (if co=k then dV go' 0 else dV go' (k*2)) (o - k) (co - k)) _ rfl rfl Ok (fun _ _ _ h=>h) aJ rfl ?_ ?_;focus (intro w' O;go_simp)
 exact m7):=h
def q69.k95(h:ar:=by
 have aun:=af (eB H bS);have s:=(bS.cell (p:=aD go' (k*2)) G).trans s;have a:=(bS.cell (p:=aD go' (k*2+1)) G).trans a;have B:=cy G bS.size;obtain⟨b0,b1⟩:=mO.two;have r:ah (∀n,Calls prog 63 #[.slice Bk y.1 dk,.slice Bi xv di] (W2.drewN n) fun e w'=>e= .returned (.bool (y.1==xv))/\∃m,w'=W2.drewN m):=fun n=>by refine(R3 _ _ _ _ _ _ y.1 xv _ (eB aun ((aB W2).drewN n)) (eB py ((aB W2).drewN n))).mono ?_;rintro e w' ⟨h1,m,rfl⟩;exact⟨h1,_,Fm _ _ _⟩
 clear BX G;cases g:y.1==xv with
 |true=>
  rw[g] at r;have HN:=af (Qb g);clear g;go_quiet ((go_at_call 63;exact r _));go_upto_region 9 with fail
  have bS:ah (Ext W2 (W2.drewN nq).drew):=((aB W2).drewN nq).drew;generalize hW3:W2.drewN nq=W3 at*;clear hW3;have fJ:=af (ey.ext k6 bS);have nE:=af (xm nG bS);have a:=(bS.cell (p:=aD go' (k*2+1)) B).trans a;have XG:ah (IntKind.i64.wrap (y.2+xw)=y.2+xw):=by have:=HWk.ae;have:=HWi.ae;rw[ah,Cb];omega
  clear s B b0 b1;have bK:ah (∀w',Ext W3.drew w'->aA w' bx 1 (av xw)/\aA w' go' (k*2+1) (av y.2)):=fun w' hx=>⟨((mO.ext bS).ext hx).aF 1,(hx.cell (p:=aD go' (k*2+1)) (by have:=Z.2;have:=hx.size;exact aeM nE)).trans a⟩;have aJ:ah (Ext W3.drew W3.drew):=aB _;refine cG (S:=fun w'=>Ext W3.drew w') (T:=fun j=>decide (10<=j)) Ok ?_;generalize W3.drew=wd at*;refine ax 0 46 ?_;refine ax 1 47 ?_;refine ax 2 48 ?_;refine ax 3 49 ?_;refine ax 4 50 ?_;refine ax 5 51 ?_;refine ax 6 52 ?_;refine bW.ld 7 53 (av (y.2+xw)) _ rfl rfl Ok (fun _ _ _ h=>h) aJ rfl ?_ ?_;focus (intro w' O;have hs:=bK w' O;go_split_ands;go_simp;exact XG)
  simp only[Act.put,eo,d9,ep];refine ax 8 54 ?_;refine ax 9 55 ?_;obtain⟨hS9,hG9⟩:=anW nE (FT (fun c x hc=>k6 _ _ _ _ (fun _ _=>Iz bS) hc) iA) rfl d (y.2+xw);have WY:wd.frozen? (aD go' (k*2+1))=false:=nE.frozenAt _;have YC:=af (kI (bk.trans bS) nE hG9 (aL _));rw[<-HY.ae] at hS9;clear hG9;refine aO 10 ?_;intro K hK;go_simp;refine hK.ae _ _ Oe ?_;generalize wd.setCell (aD go' (k*2+1)) (av (y.2+xw))=W9 at*;refine bY Ok ?_;clear a WY hK;go_wp2_with fail
  go_roundw;exact⟨i+1,by omega,by go_num,by rw[mK.ae,HN.ae];exact(af hS9),YC⟩;simp [RowKit.intOf];omega
 |false=>
  rw[g] at r;have HN:=af (LB g);clear g;go_quiet ((go_at_call 63;exact r _));go_upto_region 10 with fail
  clear s a B b0 b1;open q70 in exact m45):=h
def q72.k45(h:ar:=by
 refine bW.ld 7 63 (.slice (if co=k then dV go' 0 else dV go' (k*2)) (o - k) (co - k)) _ rfl rfl Ok (fun _ _ _ h=>h) aJ rfl ?_ ?_;focus (intro w' O;go_simp)
 exact m7):=h
def q71.k95(h:ar:=by
 clear BX b0 b1;go_quiet (fail);go_upto_region 10 with fail
 clear d1;rcases al_ nG with⟨rfl,h0,rfl⟩|⟨go',rfl,Z⟩
 ·have h0:o= []:=lU h0;subst h0;have uu:k=0:=by simpa using hk
  subst uu;have bS:ah (Ext W2 (W2.drewN nq).drew):=((aB W2).drewN nq).drew;generalize hW3:W2.drewN nq=W3 at*;clear hW3;have fJ:=af (ey.ext k6 bS);have cE:=af (bk.trans bS);have bK:ah (∀w',Ext W3.drew w'->aA w' bx 0 (.slice Bi xv di)/\aA w' bx 1 (av xw)):=fun w' hx=>((mO.ext bS).ext hx).two;have aJ:ah (Ext W3.drew W3.drew):=aB _;have hzw:w.heap.size<=W3.drew.heap.size:=cE.size;refine cG (S:=fun w'=>Ext W3.drew w') (T:=fun j=>decide (9<=j)) Ok ?_;generalize W3.drew=wd at*;refine ax 0 56 ?_;refine ax 1 57 ?_;refine ax 2 58 ?_;refine ax 3 59 ?_;refine ax 5 61 ?_;refine ax 6 62 ?_;refine ax 7 63 ?_;refine aO 4 ?_;intro K hK;go_simp;refine hK.ae _ _ (fun _=>aJ.alloc _) ?_;refine aR fun WZ cI BZ=> ?_;have P9:=af (xm (xm nG bS) cI);have pE:=af ((FT (fun c x hc=>k6 _ _ _ _ (fun _ _=>Iz bS) hc) iA).ND (.jN cI.ae));have dW:=af (cE.trans cI);have Ef:ah (WZ.ownsRow wd.heap.size fg 2 (aG wd.heap.size 0 1 1) 1 [.slice Bi xv di,av xw]):=ad7 BZ rfl (aL _) Od;have hzz:wd.heap.size<=WZ.heap.size:=cI.size;clear hK;refine jM 8 Ok ?_;intro oo nx K hK;simp only[eR,dX,dA,dl] at nx;subst nx;refine nV rfl ?_;refine ape _ _ lI rfl Cq wd.heap.size 1 _ _ rfl Ef.ae rfl ?_;simp only[Act.put,eo,d9,ep];refine hK.ae _ _ (fun _=>cI.ae) ?_;clear hK;refine jM 9 Ok ?_;intro oo nx K hK;simp only[eR,dX,dA,dl] at nx;subst nx;refine nV rfl ?_;refine NB _ _ lI rfl w.heap.size Cq _ 0 [] rfl (mQ _ _ _ _) ⟨wd.heap.size,0,none⟩ 1 1 [.slice Bi xv di,av xw] rfl rfl (I8 Ef) ?_ Od dW.size ?_
  ·intro u hu;rcases aK.1 hu with rfl|hu
   ·rfl
   ·rw[bE.1 hu];rfl
  intro v9 w9 DX JT _;have D6:Ext WZ w9:=SP JT;clear JT;have dQ:=af (dW.trans D6);have lA:ah (bG fg 2 fP w.heap.size w9 v9 [(xv,xw)]):=⟨_,DX,⟨_,[],rfl,⟨Bi,di,rfl,eB (eB (eB py bS) cI) D6⟩,rfl⟩⟩;obtain⟨A9,c9,rfl,_,_,_⟩:=eL DX;clear DX D6 BZ;simp only[Act.put,eo,d9,ep];refine hK.ae _ _ Oe ?_;clear hK;refine aO 10 ?_;intro K hK;go_simp;refine hK.ae _ _ Oe ?_;refine bY Ok ?_;clear hK;go_wp2_with fail
  go_roundw;exact⟨i+1,by omega,by go_num,by rw[mK.ae,HN.ae];exact lA,dQ⟩;simp [RowKit.intOf];omega
 ·clear Ko;open q72 in exact m45):=h
def alG(A:aQ)(n c:Nat)(l:List Rw)(w:au)(h:oq w (.slice A n c) l)(hl:l.length<=1000)(hw:∀y∈l,y.2.natAbs<=1000000):
 Calls prog 150 #[.slice A n c] w fun e w'=>∃v,e= .returned v/\bG fg 2 fP w.heap.size w' v (zH l)/\Ext w w':=by
 obtain⟨hn,DZ,hcm⟩:=bl h;subst hn;have HF:=af (ael hw);go_enter func150,ntmps150;go_upto_region 3 with fail
 go_loopw [3,5,6,12] (fun v3 _ _ L wr=>∃i:Nat,i<=l/\L=av i/\ah (bG fg 2 fP w.heap.size wr v3 (jw l i))/\ah (Ext w wr)) (fun _ _ _ L _=>l - (RowKit.intOf L).toNat)
 exact⟨0,aU _,rfl,ii,aB _⟩;obtain⟨i,hi,rfl,Q,HX⟩:=hrel;by_cases M:i<l
 ·obtain⟨gi,oi,Bi,di,rfl,kj,z,t,HTi⟩:=zC (zD h HX) M;have mK:=af (Sc M);have HWi:=af (hw _ (a8 M));obtain⟨hf1,hf2⟩:=HF i hi;generalize l[i]=x at*;generalize jw l i=o at*;obtain⟨xv,xw⟩:=x;simp only at z t HTi HWi;obtain⟨Ao,co,xs,rfl,hoc,atQ,HR,HC⟩:=Q.parts;go_upto_region 5 with fail
  refine aR fun W f BX=> ?_;have AD:=BX.lt;have Gv:w.heap.size<=wr.heap.size:=HX.size;generalize wr.heap.size=bx at*;clear z t;have auY:ah (fY (xv,xw) o=o.take 0++fY (xv,xw) (o.drop 0)):=rfl;go_upto_region 6 with fail
  go_loopw [6] (fun v6 wr=>∃k:Nat,k<=o/\v6=av k/\ah (fY (xv,xw) o=o.take k++fY (xv,xw) (o.drop k))/\ah (bG fg 2 fP w.heap.size wr (.slice Ao o co) o)/\ah (aq wr bx fg [.slice Bi xv di,av xw])/\ah (TL wr (.slice Bi xv di) xv)/\ah (Ext w wr)) (fun v6 _=>o - (RowKit.intOf v6).toNat)
  exact⟨0,aU _,rfl,auY,(af (Q.ext k6 f)),BX,(af (eB HTi f)),(af (HX.trans f))⟩;clear BX AD;obtain⟨k,hk,rfl,I,i5,BX,Ha,cD⟩:=hrel;obtain⟨b0,b1⟩:=BX.two;have AD:=BX.lt;generalize wr=W at*;by_cases d:k<o
  ·obtain⟨_,_,xs,e,_,_,HR,HC⟩:=i5.parts;cases e;obtain⟨go',rfl,Z⟩:=Tm HR Om;obtain⟨Bk,dk,G,s,a,H⟩:=own_rw i5 d;have D:ah (∀n,Calls prog 86 #[.slice Bk o[k].1 dk,.slice Bi xv di] (W.drewN n) fun e w'=>e= .returned (.bool (dU o[k].1 xv))/\∃m,w'=W.drewN m):=fun n=>by refine(alJ _ _ _ _ _ _ o[k].1 xv _ (eB H ((aB W).drewN n)) (eB Ha ((aB W).drewN n))).mono ?_;rintro e w' ⟨h1,m,rfl⟩;exact⟨h1,_,Fm _ _ _⟩
   have r:ah (∀n,Calls prog 63 #[.slice Bk o[k].1 dk,.slice Bi xv di] (W.drewN n) fun e w'=>e= .returned (.bool (o[k].1==xv))/\∃m,w'=W.drewN m):=fun n=>by refine(R3 _ _ _ _ _ _ o[k].1 xv _ (eB H ((aB W).drewN n)) (eB Ha ((aB W).drewN n))).mono ?_;rintro e w' ⟨h1,m,rfl⟩;exact⟨h1,_,Fm _ _ _⟩
   have bB:=af (fun h=>amF d I h);have en:=af (fun h h'=>aoy d I h h');have P:=af (fun h h'=>aox d I h h');have HWk:=af (hf2 _ (a8 d));simp only at bB en P;obtain⟨y,hy⟩:∃y,y=o[k]:=⟨_,rfl⟩;have HY:=af hy;rw[<-hy] at D r bB en P HWk s a H;clear hy;cases b:dU y.1 xv with
   |true=>
    rw[b] at D;have HN:=af (bB b);clear b;go_wp2_with fail
    go_quiet ((go_at_call 86;exact D _));go_wp2;go_roundw;exact⟨k+1,by omega,by go_num,HN,i5.ext k6 ((aB W).drewN _),BX.drewN _,eB Ha ((aB W).drewN _),cD.drewN _⟩;simp [RowKit.intOf];omega
   |false=>
    rw[b] at D;have LB:=af (en b);have Qb:=af (P b);clear b;go_wp2_with fail
    go_quiet ((go_at_call 86;exact D _));open q69 in exact m95
  ·have Ko:o<=k:=Om;obtain⟨_,_,xs,e,_,_,HR,HC⟩:=i5.parts;cases e;have HN:ah (fY (xv,xw) o=o.take k++(xv,xw)::o.drop k):=(by have e:k=o.length:=Om;rw[ah,e];exact aoz (by rw[<-e];exact I))
   have d1:decide ((k:Int)<(o.length:Int))=false:=aW;go_wp2_with fail;go_quiet (fail);open q71 in exact m95
 ·obtain rfl:i=l.length:=Om;have hFL:=(HF l (aL _)).1;have Ll:ah (zH l=tZ (jw l l) (jw l l)):=rfl;have d1:decide (l.length<l.length)=false:=Ou;generalize jw l l.length=F at*;have HFo:ah (oq wr u3 F):=Q.ls;obtain⟨Ao,co,xs,rfl,hoc,atQ,_,_⟩:=Q.parts;go_upto_region 14 with fail
  clear d1;go_loopw [7,9,69] (fun v7 _ J w2=>∃j:Nat,j<=F/\J=av j/\ah (bG fg 2 fP wr.heap.size w2 v7 (tZ F j))/\ah (Ext wr w2)) (fun _ _ J _=>F - (RowKit.intOf J).toNat);exact⟨0,aU _,rfl,ii,aB _⟩;generalize wr=wF at*;obtain⟨j,hj,rfl,Q,HE⟩:=hrel;by_cases Y:j<F
  ·obtain⟨gj,oj,Bj,dj,rfl,hgj,z,t,HTj⟩:=zC (zD HFo HE) Y;have E:=af (akG Y);have d:=aot F j;generalize F[j]=x at*;generalize tZ F j=o at*;obtain⟨xv,xw⟩:=x;simp only at z t HTj E;go_upto_region 16 with fail
   refine aR fun W f BX=> ?_;have i5:=af (Q.ext k6 f);have U:=af (HE.trans f);obtain⟨b0,b1⟩:=BX.two;have nz:=BX.lt;clear z t BX;cases hc:xw !=0 with
   |false=>rw[hc] at E;go_wp2;go_roundw;exact⟨j+1,by omega,by go_num,by rw[E.ae];exact i5,U⟩;simp [RowKit.intOf];omega
   |true=>rw[hc] at E;obtain⟨A7,c7,xs7,rfl,_,_,C,V⟩:=i5.parts;go_wp2_with (at_builtin;refine gf rfl _ _ lI rfl _ Cq _ _ _ rfl C.ae #[.slice Bj xv dj,av xw] 1 1 rfl rfl rfl Om U.size ?_);intro v' w3 X N _;have O3:=af (iF (R:=fP) (x:=(xv,xw)) k6 (fun u hu=>by rw[bE.1 hu];decide) C V ⟨Bj,dj,rfl,(eB HTj f)⟩ X N);have E3:=af (kI U C N (aL _));clear X N;go_wp2;go_roundw;exact⟨j+1,by omega,by go_num,by rw[E.ae];exact O3,E3⟩;simp [RowKit.intOf];omega
  ·obtain rfl:j=F.length:=Om;have d1:decide (F.length<F.length)=false:=Ou;obtain⟨A7,c7,xs7,rfl,_,_,C,V⟩:=Q.parts;go_wp2;go_ret;exact⟨_,rfl,by rw[Ll.ae];exact(bG.of C V).weaken HX.size,HX.trans HE⟩
def kd(x:aP)(a:Int):Int:=(x.ai[a.toNat]?.getD ([],1)).2
def oK(x:aP)(c:List Int)(b:List aC):Prop:=b.length=c.length/\∀(i:Nat) (a:Int) (t:aC),c[i]? =some a->b[i]? =some t->ej (kd x a) t
def oK.nil{x:aP}:oK x [] []:=⟨rfl,fun i a t h=>by simp at h⟩
def oK.snoc{x:aP}{f:List aC}{t:aC}(h:oK x L f)(l:ej (kd x B) t):oK x (L++ [B]) (f++ [t]):=by
 refine⟨by rw[bD,bD,h.1];rfl,fun i b u c d=> ?_⟩;rcases cA i L with e|e
 ·rw[oD e] at c;rw[oD (by rw[h.1];exact e)] at d;exact h.2 i b u c d
 ·rw[yU e] at c;rw[yU (by rw[h.1];exact e),h.1] at d;rcases k:i - L with _|j
  ·rw[k] at c d;simp only[dA,dl] at c d;subst c d;exact l
  ·rw[k] at c;simp at c
def Dk(x:aP)(a:List Int)(m:Int)(l:List Rw):Prop:=∀y∈l,oK x a y.1/\1<=y.2/\y.2<=m
def Dk.snoc{x:aP}{m:Int}{l:List Rw}{y:Rw}(h:Dk x L m l)(d:oK x L y.1)(c:1<=y.2)(b:y.2<=m):Dk x L m (l++ [y]):=by
 intro z a;rcases bO.1 a with a|a
 ·exact h z a
 ·rw[bE.1 a];exact⟨d,c,b⟩
section
variable{w w':au}{g:Nat}{v:Value}
theorem dP.past{x:aP}(h:dP w v x)(a:cL w g)(b:Only g w w'):dP w' v x:=h.kept (Src.Oh a b) Od Od Od Od
theorem AL.past{l:List kC}(h:AL w v l)(b:cL w g)(c:Only g w w'):AL w' v l:=Ls.kept nM h (Src.Oh b c) ⟨by decide,fun u a=>by cases a⟩
theorem IL.past(h:IL w v L)(b:cL w g)(c:Only g w w'):IL w' v L:=Ls.kept cJ h (Src.Oh b c) ⟨by decide,fun u a=>by cases a⟩
theorem al8{l:List Rw}(h:bG fg 2 fP a w v l)(e:cL w g)(c:Only g w w')(f:g<a):bG fg 2 fP a w' v l:=h.only k6 c f (fun u d=>by rw[bE.1 d];exact Jg e c Od)
theorem al7{l:List (List Rw)}(h:bG lI 1 sW a w v l)(e:cL w g)(d:Only g w w')(f:g<a):bG lI 1 sW a w' v l:=h.only tR d f (fun u c=>by
 rcases aK.1 c with rfl|c
 ·exact Jg e d Od
 ·rw[bE.1 c];exact Jg e d Od)
theorem al6{l:List aC}(h:bG bC 1 i3 a w v l)(d:Only g w w')(e:g<a):bG bC 1 i3 a w' v l:=h.only jO d e Oe
end
abbrev OY(a b:Rw):Prop:=dU a.1 b.1=true
structure xJ(x:aP)(cs:List Int)(l:List Rw):Prop where
 len:l.length<=60
 val:∀y∈l,oK x cs y.1
 wt:∀y∈l,1<=y.2/\y.2<=100
 ord:l.Pairwise OY
def ip(x:aP)(D:List (List Rw)):Prop:=D.length=x.ay.length/\∀(k:Nat) (t:List Rw) (r:Rl),D[k]? =some t->x.ay[k]? =some r->xJ x r.2 t
def Tw{x:Rw}{Q:List aC->Prop}(b:Q x.1):∀{o:List Rw},(∀y∈o,Q y.1)->∀y∈fY x o,Q y.1
 | [],_,y,a=>by rw[bE.1 a];exact b
 |z::l,h,y,a=>by
  have c:=h z Ou;have d:=Tw (o:=l) b (fun y a=>h y axx);unfold fY at a;split at a
  ·rcases aK.1 a with rfl|a
   ·exact c
   ·exact d y a
  ·split at a
   ·rcases aK.1 a with rfl|a
    ·exact c
    ·exact h y axx
   ·rcases aK.1 a with rfl|a
    ·exact b
    ·exact h y a
def aei{x:Rw}{m k:Int}(b:1<=x.2/\x.2<=k)(c:0<=m):∀{o:List Rw},(∀y∈o,1<=y.2/\y.2<=m)->∀y∈fY x o,1<=y.2/\y.2<=m+k
 | [],_,y,a=>by rw[bE.1 a];omega
 |z::l,h,y,a=>by
  have e:=h z Ou;have d:=aei (o:=l) b c (fun y a=>h y axx);unfold fY at a;split at a
  ·rcases aK.1 a with rfl|a
   ·omega
   ·exact d y a
  ·split at a
   ·rcases aK.1 a with rfl|a
    ·simp only;omega
    ·have:=h y axx;omega
   ·rcases aK.1 a with rfl|a
    ·omega
    ·have:=h y a;omega
def ady{x:Rw}:∀{o:List Rw},o.Pairwise OY->(fY x o).Pairwise OY
 | [],_=>by simp [fY]
 |z::l,h=>by
  obtain⟨d,g⟩:=iP.1 h;unfold fY;split
  ·rename_i b;exact iP.2 ⟨Tw (Q:=fun t=>dU z.1 t=true) b d,ady g⟩
  ·rename_i b;split
   ·exact iP.2 ⟨d,g⟩
   ·rename_i f;have a:dU x.1 z.1=true:=by
     cases i:dU x.1 z.1 with
     |true=>rfl
     |false=>have e:=iR.vI x.1 z.1 i axG;rw[e] at f;simp at f
    refine iP.2 ⟨fun y c=> ?_,h⟩;rcases aK.1 c with rfl|c
    ·exact a
    ·exact iR.tr _ _ _ a (d y c)
def adJ{x:aP}{b:List Int}{m:Int}{l:List Rw}(c:0<=m)(h:Dk x b m l):∀i:Nat,i<=l->(jw l i)<=i/\(∀y∈jw l i,oK x b y.1)/\(∀y∈jw l i,1<=y.2/\y.2<=(i:Int)*m)/\(jw l i).Pairwise OY
 |0,_=>⟨by simp [jw],fun y a=>by simp [jw] at a,fun y a=>by simp [jw] at a,by simp [jw]⟩
 |i+1,j=>by
  obtain⟨k,g,f,d⟩:=adJ c h i Om;have a:=h _ (a8 (show i<l by omega));rw[Sc Om];refine⟨aV (Tx _ _) Om,Tw (Q:=fun t=>oK x b t) a.1 g,?_,ady d⟩;have e:((i+1:Nat):Int)*m=(i:Int)*m+m:=(by rw[Z2,Int.add_mul];omega)
  rw[e];exact aei a.2 (Iy Om c) f
def aT(x:aP)(D:List (List Rw)):List (List Rw):=(List.range x.ay.length).map fun i=>k8 x.ay ((x.ay[i]?.map (·.2)).getD []) (D[i]?.getD [])
def pS(x:aP)(D:List (List Rw)):(aT x D).length=x.ay.length:=by unfold aT;simp
def M_{x:aP}{D:List (List Rw)}(b:a<x.ay)(c:a<D):(aT x D)[a]? =some (k8 x.ay x.ay[a].2 D[a]):=by unfold aT;rw[dK,lV b];simp only[Option.map_some,aX b,aX c,Option.getD_some]
def zt{a:List Rl}{l:List Rw}{y:Rw}(h:y∈k8 a L l):y∈l:=(eE.1 h).1
section
variable{x:aP}{D:List (List Rw)}
theorem Jq(d:ip x D)(e:a∈bM x):∃(b:a<x.ay) (c:a<D),bL (aT x D) a=k8 x.ay x.ay[a].2 D[a]/\xJ x x.ay[a].2 D[a]:=by
 have b:=j6.1 e;have c:a<D.length:=by rw[d.1];exact b
 refine⟨b,c,?_,d.2 a _ _ (aX c) (aX b)⟩;unfold bL;rw[M_ b c];rfl
theorem SG(i:bV x)(m:ip x D):zF (bu x) (bL (aT x D)) (bM x):=by
 refine⟨fun h c=> ?_,fun h c y j=> ?_,fun h c=> ?_⟩
 ·have f:=j6.1 c;rw[tT f];unfold bZ;have k:=a8 f;have l:=i.ri _ k;refine rD.2 ((i.ra _ k).imp_of_mem fun {a b} q p d=> ?_);have:=l a q;have:=l b p;omega
 ·obtain⟨f,r,e,g⟩:=Jq m c;rw[e] at j;rw[tT f];unfold bZ;rw[bP];exact(g.val y (zt j)).1
 ·obtain⟨f,r,e,g⟩:=Jq m c;rw[e];refine yX yY (g.ord.imp fun {a b} d o=> ?_);have n:dU a.1 b.1=true:=d;rw[o,iR.jD] at n;cases n
theorem aoj(g:bV x)(f:ip x D):PX x (aT x D):=by
 refine⟨pS x D,fun i r hr a j=>g.ri r (pM hr) a j,fun i r l hr b y c=> ?_⟩;have d:i<x.ay.length:=by exact UV
 have e:i<D.length:=by rw[f.1];exact d
 rw[M_ d e] at b;injection b with b;rw[<-b] at c;exact((f.2 i _ r (aX e) hr).val y (zt c)).1
theorem apz(d:bV x)(f:a<x.ai.length):gm (bu x) (bM x) a≠ []:=by obtain⟨r,g,i⟩:=d.used a f;obtain⟨t,c,rfl⟩:=iE g;intro e;have h:t∈gm (bu x) (bM x) a:=zh.2 ⟨j6.2 c,(vq c fun b j=>(d.ri _ (a8 c) b j).1).2 i⟩;rw[e] at h;cases h
end
def aai{homes:Nat->List Nat}{α β:Type}{R:SR α}{U:List β}{g:Nat->β->α}{W:Nat->(Nat->β)->α}(r:dr a y J)(b:Nat->β):
 (et a y homes a none).val R U g W b=R.prod (kids a y none) fun c=>(eV a y homes c).val R U g W b:=by
 rw[tN r (Mq _ _),M3];rfl
structure xQ{α:Type}(R:SR α)(G:Nat->Nat->α->Prop):Prop where
 add:∀{s j j':Nat} {a b:α},G s j a->G s j' b->G s (j+j') (R.add a b)
 mul:∀{s s' j j':Nat} {a b:α},G s j a->G s' j' b->G (s+s') (j*j') (R.mul a b)
 mono:∀{s s' j j':Nat} {a:α},G s j a->s<=s'->j<=j'->G s' j' a
 zero:G 0 0 R.zero
 one:G 0 1 R.one
section
variable{α:Type}{R:SR α}{G:Nat->Nat->α->Prop}
theorem xQ.sum{β:Type}{s j:Nat}{f:β->α}(g:xQ R G):∀{l:List β},(∀x∈l,G s j (f x))->G s (l*j) (R.sum l f)
 | [],_=>g.mono g.zero (aU _) (aU _)
 |x::l,h=>by rw[iQ];refine g.mono (g.add (h x Ou) (g.sum fun y a=>h y axx)) (aL _) ?_;rw[cT,kZ,lX,nL];exact aL _
theorem xQ.prod{β:Type}{K:Nat}{s e:β->Nat}{f:β->α}(g:xQ R G):∀{l:List β},(∀x∈l,G (s x) (K^e x) (f x))->G (l.map s).sum (K^(l.map e).sum) (R.prod l f)
 | [],_=>g.one
 |x::l,h=>by rw[kY,jc,jc,E0,E0,mW];exact g.mul (h x Ou) (g.prod fun y a=>h y axx)
end
def ack(t:aH):∀l:List aH,(oU t l)<=l.length+1
 | []=>by simp [oU]
 |y::l=>by
  have:=ack t l;unfold oU;split
  ·simp only[cT];omega
  ·split<;>simp
def RY:∀l:List aH,(jP l)<=l.length
 | []=>by simp [jP]
 |t::l=>aV (ack t (jP l)) (by have:=RY l;simp only[cT];omega)
def acy{at_:Nat->List Nat}{tab:fG}{hl:List Nat}{fx:Nat->Option aH}{c:Nat->Bool}{b:Nat->aH}{K:Nat}(i:∀h∈hl,(tab h)<=K):(io at_ tab hl fx c b a).length<=K:=by
 unfold io;refine aV (mP _ _) (aV (RY _) ?_);unfold xI;rcases e:gm at_ hl a with _|⟨h,l⟩
 ·simp
 ·have f:=(zh.1 (show h∈gm at_ hl a by rw[e];simp)).1;simp only[bP];exact aV (mP _ _) (i h f)
def Ro{homes:Nat->List Nat}{f:Nat->Fo}:∀(l:List Nat),(ei homes f l).vars.length=(l.map fun a=>(Fo.cons a (homes a) (f a) .nil).vars.length).sum
 | []=>rfl
 |a::l=>by
  rw[jc,E0,<-Ro l];show(a::((f a).vars++(ei homes f l).vars)).length=(a::((f a).vars++ [])).length+_
  simp only[cT,bD,uY];omega
def Rh{homes:Nat->List Nat}{f:Nat->Fo}:∀(l:List Nat),(ei homes f l).homes.length=(l.map fun a=>(Fo.cons a (homes a) (f a) .nil).homes.length).sum
 | []=>rfl
 |a::l=>by
  rw[jc,E0,<-Rh l];show(homes a++((f a).homes++(ei homes f l).homes)).length=(homes a++((f a).homes++ [])).length+_
  simp only[bD,uY];omega
section
variable{n:Nat}{p:Nat->Option Nat}{d:Nat->Nat}{homes:Nat->List Nat}{at_:Nat->List Nat}{hl:List Nat}{tab:fG}{fx:Nat->Option aH}{α:Type}{R:SR α}{g:Nat->aH->α}{U:List aH}{G:Nat->Nat->α->Prop}{K:Nat}{wt:Int->α}
def nT(n:Nat)(p:Nat->Option Nat)(homes:Nat->List Nat)(v:Nat):Nat:=(eV n p homes v).vars.length
def hT(n:Nat)(p:Nat->Option Nat)(homes:Nat->List Nat)(v:Nat):Nat:=(eV n p homes v).homes.length
def dT(n:Nat)(p:Nat->Option Nat)(homes:Nat->List Nat)(v:Nat):Nat:=nT n p homes v+hT n p homes v
theorem Td{f h:Nat->Nat}:∀l:List Nat,(l.map fun a=>f a+h a).sum=(l.map f).sum+(l.map h).sum
 | []=>rfl
 |a::l=>by simp only[jc,E0,Td l];omega
theorem TY(r:dr n p d)(v:Nat):nT n p homes v=1+((kids n p (some v)).map (nT n p homes)).sum:=by have h:jv n p homes v=ei homes (jv n p homes) (kids n p (some v)):=tN r Om;have e:nT n p homes v=(v::((jv n p homes v).vars++ [])).length:=rfl;rw[e,h,cT,j5,Ro,nL];rfl
theorem ap9(r:dr n p d)(v:Nat):hT n p homes v=(homes v)+((kids n p (some v)).map (hT n p homes)).sum:=by have h:jv n p homes v=ei homes (jv n p homes) (kids n p (some v)):=tN r Om;have e:hT n p homes v=(homes v++((jv n p homes v).homes++ [])).length:=rfl;rw[e,h,j5,bD,Rh];rfl
theorem aep(r:dr n p d)(v:Nat):dT n p homes v=1+(homes v)+((kids n p (some v)).map (dT n p homes)).sum:=by have e:((kids n p (some v)).map (dT n p homes)).sum=((kids n p (some v)).map (nT n p homes)).sum+((kids n p (some v)).map (hT n p homes)).sum:=Td _;unfold dT at e⊢;rw[e,TY r v,ap9 r v];omega
theorem abv(c:xQ R G)(e:∀a∈hl,∀y∈tab a,G 1 1 (wt y.2))(i:a∈hl)(b:Nat->aH):G 1 1 (fH R at_ tab wt a b):=by
 unfold fH;cases f:fE (at_ a) (tab a) b with
 |none=>exact c.mono c.zero Om Om
 |some y=>exact e a i y (yV f)
theorem RT{β:Type}:∀l:List β,(l.map fun _=>(1:Nat)).sum=l
 | []=>rfl
 |a::l=>by rw[jc,E0,RT l,cT,nL]
theorem RU{β:Type}:∀l:List β,(l.map fun _=>(0:Nat)).sum=0
 | []=>rfl
 |a::l=>by rw[jc,E0,RU l]
theorem aaI(i:xQ R G)(r:dr n p d)(z:zF at_ tab hl)(A:∀v x,cH fx v x=false->g v x=R.zero)(w:U.Nodup)(B:∀h∈hl,∀y∈tab h,∀t∈y.1,t∈U)(j:∀v,v<n->gm at_ hl v≠ [])
 (u:∀v t,v<n->t∈U->G 1 1 (g v t)) (H:∀h∈hl,∀y∈tab h,G 1 1 (wt y.2)) (q:∀v h,h∈homes v->h∈hl) (J:∀h∈hl,(tab h).length<=K):
 ∀(m v:Nat) (S:List Nat) (b:Nat->aH),v<n->n<=d v+m->(eV n p homes v).Ok at_ hl S->(∀a,a∈S↔bH p v a=true)->G (dT n p homes v) (K^nT n p homes v) ((eV n p homes v).val R U g (fH R at_ tab wt) b)
 |0,v,S,b,k,O,_,_=>by have:=r.lt v k;omega
 |m+1,v,S,b,k,O,o,C=>by
  rw[abC r z A w B j k o C b];obtain⟨W,T,_⟩:=Nd (fx:=fx) r k z A B (j v k) C b;have Q:∀x∈zJ at_ tab hl fx p v b,G (dT n p homes v) (K^((kids n p (some v)).map (nT n p homes)).sum) (R.mul (R.mul (g v x) (R.prod (homes v) fun h=>fH R at_ tab wt h (put b v x))) (R.prod (kids n p (some v)) fun c=>(eV n p homes c).val R U g (fH R at_ tab wt) (put b v x))):=fun x N=>by
   have M:=u v x k (T x N);have D:=i.prod (K:=K) (s:=fun _=>1) (e:=fun _=>0) (l:=homes v) (f:=fun h=>fH R at_ tab wt h (put b v x)) fun h P=>abv i H (q v h P) _;have L:=i.prod (K:=K) (s:=dT n p homes) (e:=nT n p homes) (l:=kids n p (some v)) (f:=fun c=>(eV n p homes c).val R U g (fH R at_ tab wt) (put b v x)) fun c I=>by obtain⟨F,E⟩:=ig.1 I;have V:=(r.up c v F E).2;refine aaI i r z A w B j u H q J m c (v::S) _ F Om (Sp r o c I) fun a=> ?_;rw[aK,C a,zv E,kF];unfold VS.one;rw[beq_iff_eq];exact Or.comm
   rw[RT,RU] at D;refine i.mono (i.mul (i.mul M D) L) ?_ ?_
   ·rw[aep r v];exact aL _
   ·simp only[E5,lX];exact aL _
  refine i.mono (i.sum Q) (aL _) ?_;rw[TY r v,mW,rN];exact eK _ (acy J)
end
abbrev lh:Nat:=60^12
structure GX{α:Type}(R:SR α)(V:World->Value->α->Prop)(G:Nat->Nat->α->Prop)(wt:Int->α)(xV:α->Bool)(fa fm fz fw:FuncId):Prop where
 ia:∀args w,(callFunc fa args).run prog w= .ok (.enter fa args) w
 im:∀args w,(callFunc fm args).run prog w= .ok (.enter fm args) w
 iz:∀args w,(callFunc fz args).run prog w= .ok (.enter fz args) w
 iw:∀args w,(callFunc fw args).run prog w= .ok (.enter fw args) w
 vk:∀{w w':au} {u:Value} {a:α},V w u a->Kept qL w w'->V w' u a
 add:∀(w:au) (u1 u2:Value) (a b:α) (s j j':Nat),V w u1 a->V w u2 b->G s j a->G s j' b->s<=40->j+j'<=lh->Calls prog fa #[u1,u2] w fun e w'=>∃u,e= .returned u/\V w' u (R.add a b)/\Ext w w'
 mul:∀(w:au) (u1 u2:Value) (a b:α) (s s' j j':Nat),V w u1 a->V w u2 b->G s j a->G s' j' b->s+s'<=40->j<=lh->j'<=lh->Calls prog fm #[u1,u2] w fun e w'=>∃u,e= .returned u/\V w' u (R.mul a b)/\Ext w w'
 OZ:∀(w:au) (u:Value) (a:α) (s j:Nat),V w u a->G s j a->s<=40->j<=lh->Calls prog fz #[u] w fun e w'=>e= .returned (.bool (xV a))/\Ext w w'
 VM:∀(w:au) (k:Int),1<=k->k<=1000000->Calls prog fw #[av k] w fun e w'=>∃u,e= .returned u/\V w' u (wt k)/\Ext w w'
 gw:∀k:Int,1<=k->k<=1000000->G 1 1 (wt k)
 Vl:∀{s j j':Nat} {a b:α},G s j a->G s j' b->G s (j+j') (R.add a b)
 Vk:∀{s s' j j':Nat} {a b:α},G s j a->G s' j' b->G (s+s') (j*j') (R.mul a b)
 UD:∀{s s' j j':Nat} {a:α},G s j a->s<=s'->j<=j'->G s' j' a
 UC:G 0 0 R.zero
 gone:G 0 1 R.one
 z0:∀a,xV a=true->a=R.zero
def arP:GX dN (fun _ u a=>u= .bool a) (fun _ _ _=>True) (fun _=>true) (fun a=> !a) 273 274 275 230 where
 ia:=fun _ _=>by rfl
 im:=fun _ _=>by rfl
 iz:=fun _ _=>by rfl
 iw:=fun _ _=>by rfl
 vk:=fun h _=>h
 add:=fun w u1 u2 a b _ _ _ f d _ _ _ _=>by subst f d;refine(aqp a b w).mono ?_;rintro e c ⟨rfl,rfl⟩;exact⟨_,rfl,rfl,aB _⟩
 mul:=fun w u1 u2 a b _ _ _ _ f d _ _ _ _ _=>by subst f d;refine(ao_ a b w).mono ?_;rintro e c ⟨rfl,rfl⟩;exact⟨_,rfl,rfl,aB _⟩
 OZ:=fun w u a _ _ h _ _ _=>by subst h;refine(ao9 a w).mono ?_;rintro e c ⟨rfl,rfl⟩;exact⟨rfl,aB _⟩
 VM:=fun w k _ _=>by refine(aqo k w).mono ?_;rintro e c ⟨rfl,rfl⟩;exact⟨_,rfl,rfl,aB _⟩
 gw:=fun _ _ _=>trivial
 Vl:=fun _ _=>trivial
 Vk:=fun _ _=>trivial
 UD:=fun _ _ _=>trivial
 UC:=trivial
 gone:=trivial
 z0:=fun a h=>by
  cases a with
  |false=>rfl
  |true=>cases h
def cC(B N:Nat)(q:Rat):Prop:=∃z:Int,q*(B:Int)=(z:Rat)/\z.natAbs<=N
def cC.add(h:cC a b H)(k:cC a c I):cC a (b+c) (H+I):=by obtain⟨x,e,g⟩:=h;obtain⟨y,d,f⟩:=k;exact⟨x+y,by rw[Rat.intCast_add,<-e,<-d];grind,by omega⟩
def cC.mul(h:cC a c H)(k:cC b d I):cC (a*b) (c*d) (H*I):=by
 obtain⟨x,i,g⟩:=h;obtain⟨y,f,e⟩:=k;refine⟨x*y,?_,?_⟩
 ·rw[EU,<-i,<-f,oG,EU];grind
 ·rw[y8];exact wV g e
def cC.mono{B M N:Nat}(h:cC B M H)(b:M<=N):cC B N H:=by obtain⟨x,a,c⟩:=h;exact⟨x,a,by omega⟩
def cC.fit{B N:Nat}(h:cC B N H)(g:0<B)(i:N<10^e)(b:B<10^e):bR e H:=by
 obtain⟨x,f,j⟩:=h;have a:¬(((B:Int):Rat))=0:=fun c=>by have:=Rat.intCast_inj.1 (show(((B:Int)):Rat)=((0:Int):Rat) from c);omega
 have d:H=Rat.divInt x (B:Int):=(by rw[ZH,<-f,Rat.mul_div_cancel a]);rw[d];exact abg Om Om (by rw[ib];exact b)
def hZ(D M s j:Nat)(q:Rat):Prop:=cC (D^s) (j*M^s) q
def hZ.add(h:hZ a b c d H)(k:hZ a b c e I):hZ a b c (d+e) (H+I):=by have f:=cC.add h k;unfold hZ;rwa[kZ]
def hZ.mul{s:Nat}(h:hZ a b s d H)(k:hZ a b c e I):hZ a b (s+c) (d*e) (H*I):=by have f:=cC.mul h k;unfold hZ;rw[mW,mW];rwa[Nat.mul_mul_mul_comm] at f
def hZ.mono{M:Nat}(f:a<=M)(h:hZ a M b d H)(i:b<=c)(k:d<=e):hZ a M c e H:=by obtain⟨t,rfl⟩:=Nat.le.dest i;have l:cC (a^t) (a^t) 1:=⟨((a^t:Nat):Int),by rw[RO],by simp⟩;have g:=cC.mul h l;rw[E9,<-mW] at g;refine g.mono ?_;rw[mW,<-fS];exact wV (eK _ k) (QY f t)
def hZ.fit(f:0<a)(h:hZ a b c d H)(i:d*b^c<10^e)(g:a^c<10^e):bR e H:=cC.fit h (Nat.pow_pos f) i g
def hZ.zero:hZ a b 0 0 0:=⟨0,by rw[ME];rfl,by simp⟩
def hZ.one:hZ a b 0 1 1:=⟨1,by rw[E5];decide+kernel,by simp⟩
def aoL(v:Value)(q:Rat)(w:au)(h:bQ w v q)(k:bR a q)(s:a<=1000000):
 Calls prog 97 #[v] w fun a g=>a= .returned (.bool (q==0))/\Ext w g:=by
 have y:=af (fun W (t:Ext w W)=>amO v q W (h.ext t) k s);have i:(q.num.sign==0)=(q==0):=(by rw[lW,beq_iff_eq,beq_iff_eq,Zl,Rat.num_eq_zero])
 have u:=af i;obtain⟨b,A,n,c,D,E,B,C,rfl,_,_⟩:=h.parts;generalize q.num.sign=z at*;clear i k;go_enter func97,ntmps97;go_upto_region 1 with fail
 refine aR fun W d l=> ?_;obtain⟨r,p,o,m⟩:=l.four;have f:=af (y W d);go_wp2_with fail
 refine f.mono ?_;rintro a g ⟨rfl,j⟩;have x:=af (d.trans j);clear j r p o m l;go_wp2;exact bodyPost_ret (v:= .bool (z==0)) (by simp [results,results97,go_sem]) rfl ⟨by rw[u.ae],x⟩
def Jm(p:0<a)(f:a<=b)(i:b<10^e)(n:lh<10^e)(h:hZ a b c d H)(m:c<=40)(o:d<=lh):bR (e+e*40) H:=by
 have t:hZ a b 40 lh H:=h.mono f m o;have g:∀{x:Nat},x<10^e->x^40<10^(e*40):=fun {x} l=>by have r:=Nat.pow_lt_pow_left l (show(40:Nat)≠0 by decide);rwa[<-Nat.pow_mul] at r
 refine t.fit p ?_ ?_
 ·have q:lh*b^40<10^e*10^(e*40):=Nat.mul_lt_mul'' n (g i);rwa[<-mW] at q
 ·exact cy (g (Bv f i)) (fK Od (Mv _ _))
def as8:lh<10^100:=axq
def arJ(m:0<a)(q:1000000*a<=b)(l:b<10^100)(i:lh<10^100):GX cX bQ (hZ a b) (fun k=>(k:Rat)) (fun c=>c==0) 61 96 97 60 where
 ia:=fun _ _=>by rfl
 im:=fun _ _=>by rfl
 iz:=fun _ _=>by rfl
 iw:=fun _ _=>by rfl
 vk:=fun h k=>h.keep k
 add:=fun w u1 u2 c d s j v o n t r e f=>TE u1 u2 c d w o n (Jm m Om l i t e Om) (Jm m Om l i r e Om) Om
 mul:=fun w u1 u2 c d s x j v o n t r e f p=>TB u1 u2 c d w o n (Jm m Om l i t Om f) (Jm m Om l i r Om p) Om
 OZ:=fun w u c s j h g e f=>aoL u c w h (Jm m Om l i g e f) Om
 VM:=fun w k o n=>zy k w Om Om
 gw:=fun k o n=>⟨k*(a:Int),by rw[rN,EU],by rw[y8,ib,lX,rN];exact aV (eK _ Om) q⟩
 Vl:=fun h k=>h.add k
 Vk:=fun h k=>h.mul k
 UD:=fun h e f=>h.mono Om e f
 UC:=hZ.zero
 gone:=hZ.one
 z0:=fun c h=>beq_iff_eq.1 h
def Jj:prog.underlying Jz=some (.map aS bC):=underlying179
def acY(w:au):(zeroValue bC).run prog w= .ok (.string ⟨#[]⟩) w:=Ok
def lY:Keyed prog aS:=int_keyed (q:= .i64) Ok
def aqP(h:a<100):(Lit.int .i64 (a:Int)).wf=true:=by have c:IntKind.min .i64= -9223372036854775808:=Od;have b:IntKind.max .i64=9223372036854775807:=Od;simp only[Lit.wf,c,b,cV,decide_eq_true_eq];omega
def FO{v:Nat}(h:v<100):keyOf prog aS (.int .i64 (v:Int))=some (.int .i64 (v:Int)):=keyOf_int_mk Ok (aqP h)
def uQ.nil(w:au):uQ w (.map none) fun _=>none:=fun W _ _ a=>Maps.look_nil true lY Jj (acY W) (FO a)
def L0(w:au)(b:Nat)(a:Nat->Option aC):Prop:=∃n f,dt w aS b n f/\∀v:Nat,v<100->f (.int .i64 (v:Int))=(a v).map fun t=> .string ⟨t.toArray⟩
def L0.look{w:au}{b:Nat}{a:Nat->Option aC}(h:L0 w b a):uQ w (.map (some b)) a:=fun W g v c=>by
 obtain⟨n,f,d,e⟩:=h;have i:=(d.ext g).look lY Jj (acY W) (FO c);rw[i,e v c];cases a v with
 |none=>rfl
 |some t=>rfl
def m_(v:Nat)(a:List Nat)(e:Nat->aC):aC:=UInt8.ofNat v::kf (a.map e)
def aml{e g:Nat->aC}(x:a<256)(l:b<256)(m:a=b->i=j)(s:∀c∈i,(0:UInt8)∉e c)(r:∀c∈j,(0:UInt8)∉g c)(h:m_ a i e=m_ b j g):a=b/\∀c∈i,e c=g c:=by
 unfold m_ at h;injection h with q p;have k:a=b:=by have:=congrArg UInt8.toNat q;simp at this;omega
 have u:=m k;subst u;have o:=ads Ou (fun t f=>by
  obtain⟨c,d,rfl⟩:=b_.1 f;exact s c d) (fun t f=>by
  obtain⟨c,d,rfl⟩:=b_.1 f;exact r c d) p
 exact⟨k,fun c d=>List.map_inj_left.1 o c d⟩
def tQ:Keyed prog bC:=string_keyed Ok
def zO(U:List aC):Nat->List (List aC)
 |0=> [[]]
 |k+1=>U.flatMap fun t=>(zO U k).map fun l=>t::l
def ac0{U:List aC}:∀{l:List aC},(∀t∈l,t∈U)->l∈zO U l.length
 | [],_=>by simp [zO]
 |t::l,h=>by unfold zO;exact mS.2 ⟨t,h t Ou,b_.2 ⟨l,ac0 fun s a=>h s axx,rfl⟩⟩
def ac1(U:List aC):∀k,(zO U k).length=U.length^k
 |0=>rfl
 |k+1=>by unfold zO;rw[List.length_flatMap];simp only[bP,ac1 U k,List.map_const',List.sum_replicate_nat];rw[eA,er]
def lM{α:Type}(V:World->Value->α->Prop)(n:Nat)(keys:Nat->List Nat)(U:List aC)(val:Nat->(Nat->aC)->α)(w:au)(kb:Nat):Prop:=
 ∃m f,dt w bC kb m f/\∀l u,f l=some u->∃v e,v<n/\l= .string (m_ v (keys v) e)/\(∀a∈keys v,(0:UInt8)∉e a/\e a∈U)/\V w u (val v e)
section
variable{α:Type}{V:World->Value->α->Prop}{n:Nat}{keys:Nat->List Nat}{U:List aC}{val:Nat->(Nat->aC)->α}{w w':au}{kb:Nat}
theorem lM.new(h:dt w bC kb 0 fun _=>none):lM V n keys U val w kb:=⟨0,_,h,fun l u a=>by cases a⟩
theorem lM.hit{f:Lit->Option Value}(o:∀l p,f l=some p->∃a e,a<n/\l= .string (m_ a (keys a) e)/\(∀b∈keys a,(0:UInt8)∉e b/\e b∈U)/\V w p (val a e))(z:n<=256)
 (c:∀e d,(∀b∈keys a,d b=e b)->val a d=val a e) (y:a<n) {e:Nat->aC} (q:∀b∈keys a,(0:UInt8)∉e b) (m:f (.string (m_ a (keys a) e))=some p):V w p (val a e):=by
 obtain⟨x,d,k,g,t,j⟩:=o _ _ m;injection g with g;obtain⟨s,r⟩:=aml Om Om (fun h=>by rw[h]) q (fun b i=>(t b i).1) g;subst s;rw[c e d fun b i=>(r b i).symm] at j;exact j
theorem lM.bound{m:Nat}{f:Lit->Option Value}(h:dt w bC kb m f)(q:∀l u,f l=some u->∃v e,v<n/\l= .string (m_ v (keys v) e)/\(∀b∈keys v,(0:UInt8)∉e b/\e b∈U)/\V w u (val v e))(p:∀v,v<n->(keys v).length<=a)(s:1<=U.length):
 ∃g,g<=n*U.length^a/\dt w bC kb g f:=by
 refine⟨_,?_,h.bound tQ ((List.range n).flatMap fun v=>(zO U (keys v).length).map fun l=>Lit.string (UInt8.ofNat v::kf l)) fun l o=> ?_⟩
 ·have d:=T5 (l:=List.range n) (f:=fun v=>(zO U (keys v).length).map fun l=>Lit.string (UInt8.ofNat v::kf l)) (m:=U.length^a) fun v c=>by rw[bP,ac1];exact fK s (p v (dL.1 c))
  rwa[i7] at d
 ·obtain⟨u,i⟩:=Ib.1 o;obtain⟨v,e,c,rfl,d,_⟩:=q l u i;refine mS.2 ⟨v,dL.2 c,b_.2 ⟨(keys v).map e,?_,rfl⟩⟩;have x:=ac0 (U:=U) (l:=(keys v).map e) fun t j=>by obtain⟨b,r,rfl⟩:=b_.1 j;exact(d b r).2
  rwa[bP] at x
theorem zx(t:aC)(h:t.length<=100000):keyOf prog bC (aM t)=some (.string t):=by
 have a:(⟨t.toArray⟩:ByteArray).size<=maxLen:=by
  show t.toArray.size<=maxLen
  rw[ZJ];unfold maxLen;omega
 have b:prog.underlying bC=some .string:=Ok;simp [keyOf,b,mapKey,a]
theorem lM.put{I:TypeId}(h:lM V n keys U val w kb)(z:prog.underlying x=some (.map bC I))(D:∀v,v<n->(keys v).length<=a)(F:1<=U.length)(P:n*U.length^a<maxLen)(j:∀{p b w'},V w p b->Only kb w w'->V w' p b)
 {v:Nat} (s:v<n) {e:Nat->aC} (E:∀b∈keys v,(0:UInt8)∉e b/\e b∈U) (C:(m_ v (keys v) e).length<=100000) (y:V w p (val v e)):
 ∃w',(Instr.mapUpdate x (.map (some kb)) (aM (m_ v (keys v) e)) p).run prog w= .ok () w'/\lM V n keys U val w' kb/\Only kb w w':=by
 obtain⟨m,f,B,i⟩:=h;obtain⟨O,A,d⟩:=lM.bound B i D F;obtain⟨w',H,G,g⟩:=d.put tQ z Om (zx _ C) p;refine⟨w',H,⟨_,_,G,fun l r c=> ?_⟩,g⟩;by_cases o:l= .string (m_ v (keys v) e)
 ·subst o;rw[xg] at c;injection c with c;subst c;exact⟨v,e,s,rfl,E,j y g⟩
 ·rw[pR o] at c;obtain⟨q,J,N,M,L,K⟩:=i l r c;exact⟨q,J,N,M,L,j K g⟩
end
end Go.Proofs.YtehkcnbodcdijaaGreatDoor
