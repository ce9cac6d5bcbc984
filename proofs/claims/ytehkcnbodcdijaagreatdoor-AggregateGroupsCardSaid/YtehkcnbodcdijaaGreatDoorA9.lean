/- Texts of the proof, part 9. -/
import Derived.Test.YtehkcnbodcdijaaGreatDoorA8
namespace Go.Proofs.YtehkcnbodcdijaaGreatDoor
set_option maxHeartbeats 8000000
set_option linter.all false
set_option maxRecDepth 100000
variable{ar:Prop}
open Go.RowKit Go.Lib Go.Maps Go.ChangeShapes Go.WideShapes Go.ChangeAt Go.Proofs.Tryz
variable{a b c d e f g h:Nat}{i j k l:List Nat}{m n o:World}{p q r s:Value}{t u v:List Value}{w x:TypeId}{y z:Nat→Option Nat}{A:Nat→List Nat}{B C:Int}{E F:Option Addr}{H I:Rat}{J:Nat→Nat}{K:Nat→Bool}{L:List Int}{N:Array Bool}{O:Option Nat}{Q:Act}{R S:Bool}{T:List UInt8}
def am5:(prog.info? fV).map (fun i=>(i.zero,i.size,i.bytes))=some (some (.bool false),1,1):=Ok
def IR(n:Nat)(h:n<=1000000)(w:au):
 (Instr.makeSlice 86 (.int .i64 (n:Int)) (.int .i64 (n:Int))).run prog w= .ok (aG w.heap.size 0 n n) (w.alloc (.cells (List.replicate n (.bool false)).toArray fV)):=by
 obtain⟨e,f,c,b,a⟩:=info_parts am5;have d:=run_make (P:=prog) w 86 fV e (.bool false) underlying86 f c .i64 .i64 (n:Int) (n:Int) Om (xd _) aye Om;simp only[kX,b,Value.cells,lF] at d;rw[d,<-Cf]
def pY(a:List Bool):List Value:=a.map Value.bool
def adS(b:List Bool)(a:Nat):(pY b).set a (.bool true)=pY (b.set a true):=by simp [pY,E7]
def ao'{c:List Bool}(f:c.length=a)(h:∀b,b<a->c[b]? =some true):pY c=List.replicate a (.bool true):=by
 have e:c=List.replicate a true:=by
  apply rF
  intro i;rcases cA i a with d|d
  ·rw[h i d];simp [d]
  ·rw[eT Om,eT Oc]
 rw[e,pY,Bx]
def Us(b:List Bool)(n:Nat)(l:List Int):Prop:=b.length=n/\∀a∈l,b[a.toNat]? =some true
def Us.set{e:List Bool}(h:Us e a L)(f:b<a):Us (e.set b true) a (L++ [(b:Int)]):=by
 refine⟨by rw[tM];exact h.1,fun c d=> ?_⟩;have g:=h.1;rcases bO.1 d with d|d
 ·have:=h.2 c d;rw[pN];split
  ·rw[if_pos Om]
  ·exact this
 ·rw[bE.1 d,kX,pN,if_pos rfl,if_pos Om]
def q52.agH(h:ar:=by
 go_wp2_with fail
 refine(aiz _ N N wr BU Om).mono ?_;rintro e w7 ⟨rfl,vK⟩;go_wp2;go_ret;exact⟨rfl,jg.trans vK⟩):=h
def ais(v:Value)(x:aP)(w:au)(h:dP w v x)(ok:bV x):
 Calls prog 133 #[v] w fun e m=>e= .returned (.int .i64 0)/\Ext w m:=by
 obtain⟨A,c,B,d,D,e,rfl,_,hr,_⟩:=h;have HR:=af hr;have aN:=af ok;have ag6:=ok.a12;have Pi:=ok.r6;obtain⟨-,hec,hem⟩:=bl hr;obtain⟨H,L⟩:∃H,x.ay.map (·.1)=H:=⟨_,rfl⟩;have I:ah (H.length=x.ay.length):=by rw[ah,<-L,bP]
 have uI:ah (∀i (h:i<x.ay.length),H[i]? =some x.ay[i].1):=fun i h=>by rw[<-L,dK,aX h];rfl
 have Yc:ah (∀t∈H,pZ t):=fun t ht=>by rw[<-L] at ht;obtain⟨y,hy,rfl⟩:=b_.1 ht;exact ok.rw' y hy
 have yB:ah (H.Pairwise fun a b=>a≠b):=(by rw[ah,<-L,rD];exact ok.rd);clear hr ok L;generalize x.a_.length=fl at*;generalize x.label=Wa at*;obtain⟨N,hN⟩:∃N,x.ai.length=N:=⟨_,rfl⟩;have HN:=af hN;rw[hN] at ag6⊢;clear hN;obtain⟨R,Xj⟩:∃R,x.ay.length=R:=⟨_,rfl⟩;have jW:=af Xj;rw[Xj] at HR I Pi hec⊢;clear Xj;go_enter func133,ntmps133;go_upto_region 1 with fail
 refine aR fun W nC BX=> ?_;have hc0:=BX.aF 0;have mC:=IR N Om W;go_upto_region 3 with fail
 refine aR fun X bk BU=> ?_;clear mC hc0;have mO:=af (BX.ext bk);have hc1:=mO.aF 1;have hgx:w.heap.size<W.heap.size:=BX.lt;have Pz:W.heap.size<X.heap.size:=BU.lt;have sX:=af (nC.trans bk);have sY:ah (Us (List.replicate N false) N []):=⟨by simp,fun a h=>by cases h⟩;have EJ:ah (aq X W.heap.size fV (pY (List.replicate N false))):=by rw[pY,Bx];exact BU
 clear BU BX nC bk;go_upto_region 4 with fail
 go_loopw [3,5,6,7,9,10,18] (fun v3 _ _ _ _ _ v18 wr=>∃(i:Nat) (bs:List Bool),i<=R/\v18= .int .i64 i/\ah (bG bC 1 i3 X.heap.size wr v3 (H.take i))/\ah (Us bs N ((x.ay.take i).flatMap (·.2)))/\ah (aq wr W.heap.size fV (pY bs))/\ah (aq wr w.heap.size kM [.slice A N c,.slice B R d,.slice D fl e,.int .i64 Wa])/\ah (Ext w wr)/\X.heap.size<=wr.heap.size) (fun _ _ _ _ _ _ v18 _=>R - (RowKit.intOf v18).toNat)
 exact⟨0,_,aU _,rfl,ii,sY,EJ,mO,sX,aL _⟩;clear hc1 sY EJ mO sX;obtain⟨i,bs,hi,rfl,HO,HU,BU,BX,jg,hwr⟩:=hrel;by_cases AA:i<R
 ·have O:i<x.ay.length:=ayG;obtain⟨g,o,Bi,mi,di,rfl,_,dZ,eY,s⟩:=rV (bU oJ HR jg) O;have F:=a8 O;have M:=aN.rn _ F;have gC:=af (aN.ri _ F);have ou:=af (aN.ra _ F);have vU:i<H.length:=by rw[I.ae];exact AA
  have hng:H[i]=x.ay[i].1:=(by have h:=uI i O;rw[aX vU] at h;injection h);have fQ:=af (Fj vU);rw[hng] at fQ;have Ez:ah ((x.ay.take (i+1)).flatMap (·.2)=(x.ay.take i).flatMap (·.2)++x.ay[i].2):=(by rw[ah,Fj O,EN,List.flatMap_singleton])
  have NM:=af (fun A c m h=>aa1 A c H i m h vU Yc yB (by rw[I.ae];omega));rw[HN.ae] at gC;clear hng F;generalize x.ay[i]=rl_ at*;clear O vU;obtain⟨nm,f⟩:=rl_;simp only at dZ eY s M gC ou fQ Ez;obtain⟨o8,WD,hdm⟩:=bl s;have jT:0<mi:=by
   rw[o8];rcases f with _|⟨y,f⟩
   ·exact absurd rfl M
   ·simp
  have Pr:((mi:Int)==0)=false:=axo;have Bb:=af o8;clear o8 M;have hlt:(H.take i).length=i:=by rw[cO,I.ae];omega
  obtain⟨A3,c3,xs,rfl,_,_,G,HC⟩:=HO.parts;rw[hlt] at G⊢;clear hlt;generalize wr=wo at*;go_upto_region 6 with fail;refine aR fun W3 C BA=> ?_;have E:=af (C8 G C);have M:(Value.slice A3 i c3).ownBlock≠some wo.heap.size:=fun hh=>by have:=(G.lt _ hh).2;omega
  have Gh:=af (jg.trans C);have hw3:X.heap.size<=W3.heap.size:=aV hwr C.size;have dC:(i+1)*16<=140737488355328:=Om;have ur:=BA.aF 0;have BU3:=af (BU.ext C);have tF:=af (BX.ext C);have HI3:=af (iU s C);clear dZ eY G C BU BX s;go_wp2_with (at_builtin;refine gf rfl _ _ 67 rfl X.heap.size str_slice _ _ _ rfl E.ae #[.string ⟨nm.toArray⟩] 1 1 rfl rfl rfl dC hw3 ?_)
  intro v' w4 DY p _;obtain⟨A4,c4,rfl,_,_,_⟩:=eL DY;have H6:=af (ahD BA p M);have L8:=af (gK BU3 E p Pz);have oC:=af (gK tF E p Om);have wJ:ah (IL w4 (.slice Bi mi di) f):=Ls.kept cJ HI3 (fun u U=>tP E p U) Od;have O4:ah (bG bC 1 i3 X.heap.size w4 (.slice A4 (i+1) c4) (H.take (i+1))):=by rw[fQ.ae];exact iF (R:=i3) jO Oe (by rw[cO,I.ae,i9 hi];exact E) (HC.mono fun c x hc=>jO _ _ _ _ Oe hc) rfl (by rw[cO,I.ae,i9 hi];exact DY) p
  have dW:ah (Ext w w4):=kI Gh E p Om;have z_:Ee w4 (.slice A4 (i+1) c4) (H.take (i+1)):=O4.ls;have NM4:=af (NM A4 c4 w4 z_);have hw4:X.heap.size<=w4.heap.size:=aV hw3 p.size;clear DY p z_ ur E BA BU3 tF HI3;go_wp2_with fail
  refine NM4.mono ?_;rintro e w5 ⟨rfl,n⟩;have yS:=af (H6.ext n);have K:=yS.aF 1;have O5:=af (O4.ext jO n);have d8:=af (dW.trans n);have L6:=af (L8.ext n);have QF:=af (oC.ext n);have Yo:=af (iU wJ n);have zW:X.heap.size<=w5.heap.size:=aV hw4 n.size;have Kw:W.heap.size<wo.heap.size:=Om;clear n O4 dW L8 oC wJ H6 hw4;go_upto_region 13 with fail
  clear K;generalize hFL:(x.ay.take i).flatMap (·.2)=lf at*;clear hFL;have qm:ah (Us bs N (lf++f.take 0)):=by rw[kG,j5];exact HU
  have HST:=af (aL w5.heap.size);go_loopw [9,41] (fun _ v41 wr=>∃(j:Nat) (bs:List Bool),j<=mi/\v41= .int .i64 j/\ah (Us bs N (lf++f.take j))/\ah (aq wr W.heap.size fV (pY bs))/\ah (Only W.heap.size w5 wr)/\ah (∀u,fV≠u->Kept u w5 wr)) (fun _ v41 _=>mi - (RowKit.intOf v41).toNat);exact⟨0,bs,aU _,rfl,qm,L6,gD _ _,fun u _=>jp u _⟩;clear qm L6 HU bs;obtain⟨j,bs,hj,rfl,HU,BU,P,J⟩:=hrel;by_cases WL:j<mi
  ·have Z:j<f.length:=by rw[<-Bb.ae];exact WL
   have s:IL wr (.slice Bi mi di) f:=Ls.kept cJ Yo J Od;obtain⟨V,Q,rfl,_,GJ⟩:=ij s Z;have o7:=gC _ (a8 Z);have XO:=af (Fj Z);clear s;generalize f[j]=y at*;clear Z;obtain⟨q,rfl⟩:∃q:Nat,y=(q:Int):=⟨y.toNat,by omega⟩;have sO:q<N:=Om;have ur:decide ((q:Int)<0)=false:=aW;have hqd:decide (N<=q)=false:=aW;have hfz:=BU.frozen q;have x6:∃u,wr.cell? (aD W.heap.size q)=some u:=(by exact afM)
   obtain⟨uq,x6⟩:=x6;obtain⟨W7,iM,B7,K7,N7⟩:=fM (i:=q) BU (.bool true);rw[adS] at B7;have kT:=af iM;have Ld:=af (HU.set sO);rw[jk,<-XO.ae] at Ld;have auE:=af (P.trans N7);have auT:ah (∀u,fV≠u->Kept u w5 W7):=fun u U=>(J u U).trans (K7 u U);clear iM o7;go_upto_region 18 with fail
   rw[kT.ae];clear x6 hfz GJ kT K7 N7;go_wp2_with fail;go_roundw;exact⟨j+1,_,by omega,by go_num,Ld,B7,auE,auT⟩;simp [RowKit.intOf];omega
  ·obtain rfl:j=mi:=Om;rw[dD (by rw[<-Bb.ae];exact aL _)] at HU;rw[<-Ez.ae] at HU;have QJ:ah (aq wr wo.heap.size ub [.string ⟨nm.toArray⟩,.slice Bi j di]):=J ub Od _ _ _ yS;have uS:ah (aq wr w.heap.size kM [.slice A N c,aG g o R d,.slice D fl e,.int .i64 Wa]):=J kM Od _ _ _ QF;have Ew:ah (IL wr (.slice Bi j di) f):=Ls.kept cJ Yo J Od;have O6:=af (O5.only jO P Pz Oe);have dR:=af (d8.only P Om);have Pa:X.heap.size<=wr.heap.size:=aV zW P.size;clear yS QF Yo O5 d8 P J zW hj;generalize wr=w6 at*;have K:=QJ.aF 1;go_upto_region 20 with fail
   clear K;go_loopw [10] (fun v10 wr=>∃k:Nat,1<=k/\k<=j/\v10= .int .i64 k/\ah (Ext w6 wr)) (fun v10 _=>j - (RowKit.intOf v10).toNat);exact⟨1,aL _,jT,rfl,aB _⟩;obtain⟨k,lm,hkj,rfl,l⟩:=hrel;have pL:=af (QJ.ext l);have K:=pL.aF 1;by_cases Aj:k<j
   ·obtain⟨z,rfl⟩:∃z,k=z+1:=⟨k - 1,by omega⟩;have Y:z+1<f.length:=by rw[<-Bb.ae];exact Aj
    have hz0:z<f.length:=Om;have jI:ah (∃V Q,Bi=dV V Q/\∀m,Ext w6 m->m.cell? (aD V (Q+(z+1)))=some (.int .i64 f[z+1])/\m.cell? (aD V (Q+z))=some (.int .i64 f[z])):=by
     obtain⟨V,Q,e,_,_⟩:=ij Ew Y;refine⟨V,Q,e,fun m hx=>⟨?_,?_⟩⟩
     ·obtain⟨g',o',e',_,h⟩:=ij (iU Ew hx) Y;rw[e] at e';injection e' with e';injection e' with e1 e2;subst e1 e2;exact h
     ·obtain⟨g',o',e',_,h⟩:=ij (iU Ew hx) hz0;rw[e] at e';injection e' with e';injection e' with e1 e2;subst e1 e2;exact h
    obtain⟨V,Q,rfl,hcc⟩:=jI.ae;have ru:=af hcc;have hlt:f[z]<f[z+1]:=nI.1 ou z (z+1) hz0 Y Om;clear hcc jI;generalize f[z+1]=y1 at*;generalize f[z]=y0 at*;clear hz0 Y;have hwz:IntKind.i64.wrap (z:Int)=(z:Int):=ax5;have hzz:((z+1:Nat):Int) - 1=(z:Int):=Om;have O1:z<j:=Om;go_upto_region 22 with fail
    clear K;have bK:ah (∀m,Ext wr m->aA m wo.heap.size 1 (aG V Q j di)/\aA m V (Q+(z+1)) (.int .i64 y1)/\aA m V (Q+z) (.int .i64 y0)):=fun m hx=>⟨(pL.ext hx).aF 1,(ru m (l.trans hx)).1,(ru m (l.trans hx)).2⟩;have aJ:ah (Ext wr wr.drew):=(aB wr).drew;refine cG (S:=fun m=>Ext wr m) (T:=fun _=>false) Ok ?_;refine ax 0 64 ?_;refine ax 1 65 ?_;refine ax 2 66 ?_;refine ax 3 67 ?_;refine ax 4 68 ?_;refine ax 5 69 ?_;refine ax 6 70 ?_;refine ax 7 71 ?_;refine ax 8 72 (v:= .int .i64 z) ?_;refine ax 9 73 ?_;refine ax 10 74 ?_;refine ax 11 75 (v:= .bool false) ?_;refine bY Ok ?_;have jG:=af (l.trans aJ);clear bK aJ ru;go_wp2_with fail
    go_roundw;exact⟨z+1+1,by omega,by omega,by go_num,jG⟩;simp [RowKit.intOf];omega
   ·have Kt:decide (k<j)=false:=decide_eq_false Aj;have hwk:w6.heap.size<=wr.heap.size:=l.size;have O7:=af (O6.ext jO l);have Y7:=af (BU.ext l);have BX7:=af (uS.ext l);have f_:=af (dR.trans l);go_wp2_with fail
    go_roundw;exact⟨i+1,bs,by omega,by go_num,O7,HU,Y7,BX7,f_,by omega⟩;simp [RowKit.intOf];omega
 ·obtain rfl:i=R:=Om;open q52 in exact af_
def I7(v:Value)(x:aP)(w:au)(h:dP w v x)(l:bV x):
 Calls prog 64 #[v] w fun e p=>e= .returned (.int .i64 0)/\Ext w p:=by
 have Q:=af (fun p G=>ain v x p (h.ext G) l);have P:=af (fun p G=>ais v x p (h.ext G) l);have O:=af (fun p G=>aiX v x p (h.ext G) l);obtain⟨A,c,B,d,D,e,rfl,y,_,_⟩:=h;have Z:=af y;have a1:=l.a1;have a12:=l.a12;have r1:=l.r1;have r6:=l.r6;have f8:=l.f8;have lb:=l.lb;have t:=af l.lk;clear y l;obtain⟨f,n⟩:∃f,x.label=f:=⟨_,rfl⟩;rw[n] at lb t Q P O⊢;clear n;obtain⟨N,L⟩:∃N,x.ai.length=N:=⟨_,rfl⟩;have HN:=af L;rw[L] at Z a1 a12 lb Q P O⊢;clear L;generalize x.ay.length=R at*;generalize x.a_.length=M at*;have d1:decide (N>12)=false:=aW;have d2:decide (R>6)=false:=aW;have d3:decide (M>8)=false:=aW;have b1:((N:Int)==0)=false:=axo;have b2:((R:Int)==0)=false:=axo;have l1:decide (f< -1)=false:=aW;have l2:decide (f≥(N:Int))=false:=aW;have l2':decide ((N:Int)<=f)=false:=aW;go_enter func64,ntmps64;go_upto_region 1 with fail
 refine aR fun W Y U=> ?_;obtain⟨F,E,C,z⟩:=U.four;go_upto_region 4 with fail
 refine aR fun W2 s BF=> ?_;have T:=af (U.ext s);have k:=af (Y.trans s);clear F E C z U Y s;go_loopw [4,5,36] (fun _ _ r wr=>∃i:Nat,i<=3/\r= .int .i64 i/\ah (Ext W2 wr)) (fun _ _ r _=>3 - (RowKit.intOf r).toNat)
 exact⟨0,by omega,rfl,aB _⟩;obtain⟨i,hi,rfl,b⟩:=hrel;have S:=af (T.ext b);have u:=af (BF.ext b);obtain⟨F,E,C,z⟩:=S.four;rcases i with _|_|_|_|i
 ·have K:=u.aF 0;go_wp2_with fail;refine(Q _ (k.trans b)).mono ?_;rintro e V ⟨rfl,j⟩;have m:=af (b.trans j);clear F E C z K j;go_wp2_with fail
  go_roundw;exact⟨1,by omega,by go_num,m⟩;simp [RowKit.intOf]
 ·have K:=u.aF 1;go_wp2_with fail;refine(P _ (k.trans b)).mono ?_;rintro e V ⟨rfl,j⟩;have m:=af (b.trans j);clear F E C z K j;go_wp2_with fail
  go_roundw;exact⟨2,by omega,by go_num,m⟩;simp [RowKit.intOf]
 ·have K:=u.aF 2;go_wp2_with fail;refine(O _ (k.trans b)).mono ?_;rintro e V ⟨rfl,j⟩;have m:=af (b.trans j);clear F E C z K j;go_wp2_with fail
  go_roundw;exact⟨3,by omega,by go_num,m⟩;simp [RowKit.intOf]
 ·by_cases J:0<=f
  ·obtain⟨a,y,hk⟩:=t J;obtain⟨q,rfl⟩:∃q:Nat,f=(q:Int):=⟨f.toNat,by omega⟩;rw[kX] at y;obtain⟨I,H⟩:=uU.1 y;obtain⟨g,o,rfl, -, -,hp⟩:=oM (bU nM Z (k.trans b)) I;rw[H,hk] at hp;have X:q<N:=by rw[<-HN.ae];exact I
   have l3:decide ((q:Int)≥0)=true:=fN;have l4:decide (N<=q)=false:=aW;clear y H J t;go_wp2;go_ret;exact⟨rfl,k.trans b⟩
  ·have l3:decide (f≥0)=false:=aW;have l3':decide (0<=f)=false:=aW;go_wp2;go_ret;exact⟨rfl,k.trans b⟩
 ·omega

section
variable{P:Program}{ops:Array Oper}{Q:Exit->Act->World->Prop}{md:Region.Mode}{S:World->Prop}{T:Nat->Bool}
end

def acB:j7 prog 26 Dm 2 24:= .mk' (z:= .agg #[.string ⟨#[]⟩,av 0]) Ok Ok rfl Od Od
def abO:j7 prog 27 ub 2 40:= .mk' (z:= .agg #[.string ⟨#[]⟩,.slice none 0 0]) Ok Ok rfl Od Od
def acu:j7 prog 28 Gc 3 24:= .mk' (z:= .agg #[av 0,av 0,av 0]) Ok Ok rfl Od Od
abbrev yg(wz:au):World->List Value->Rl->Prop:=fun _=>AO wz
def yg.iH(wz:au):jR [] (yg wz):=fun _ _ _ _ _ h=>h
structure SB(w0:au)(g b base:Nat)(z cs:List Value)(wz:au)(va vr vf:Value)(ai:List kC)(ay:List Rl)(a_:List Fe)(w:au):Prop where
 blk:aq w (b+1) kM cs
 res:aq w b kM z
 oa:bG Dm 2 xR base w va ai
 ol:bG ub 2 (yg wz) base w vr ay
 of:bG Gc 3 wM base w vf a_
 src:cL w g
 on:Only g w0 w
 kz:Kept aS wz w
 sz:base<=w.heap.size
 zz:wz.heap.size<=w.heap.size
section
variable{w0 w w' wz:au}{g b base n k:Nat}{z cs xs:List Value}{va vr vf v va' VN VP:Value}{ai:List kC}{ay:List Rl}{a_:List Fe}
structure Bs(w0:au)(g b base:Nat):Prop where
 g0:g<w0.heap.size
 b0:w0.heap.size<=b
 bb:b+1<base
theorem SB.ext(h:SB w0 g b base z cs wz va vr vf ai ay a_ w)(a:Ext w w'):SB w0 g b base z cs wz va vr vf ai ay a_ w':=
 ⟨h.blk.ext a,h.res.ext a,h.oa.ext nM a,h.ol.ext (yg.iH wz) a,h.of.ext vp a,h.src.ext a,h.on.trans (dM a),h.kz.trans (.jN a),aV h.sz a.size,aV h.zz a.size⟩
theorem SB.call(q:Bs w0 g b base)(h:SB w0 g b base z cs wz va vr vf ai ay a_ w)(a:Only g w w')(d:cL w' g):SB w0 g b base z cs wz va vr vf ai ay a_ w':=
 have q1:=q.g0;have q2:=q.b0;have q3:=q.bb;⟨h.blk.only a Om,h.res.only a Om,h.oa.only nM a Om Oe,h.ol.only (yg.iH wz) a Om Oe,h.of.only vp a Om Oe,d,h.on.trans a,h.kz.trans (Jg h.src a Od),aV h.sz a.size,aV h.zz a.size⟩
theorem SB.NW(h:SB w0 g b base z cs wz va vr vf ai ay a_ w):SB w0 g b base z cs w va vr vf ai ay a_ w:=
 ⟨h.blk,h.res,h.oa,(by obtain⟨xs,f,e⟩:=h.ol;exact⟨xs,f,e.mono fun c x d=>oJ _ _ _ _ (fun u a=>by rw[bE.1 a];exact h.kz) d⟩),h.of,h.src,h.on,jp _ _,h.sz,aL _⟩
theorem SB.put(q:Bs w0 g b base)(h:SB w0 g b base z cs wz va vr vf ai ay a_ w)(i:Nat)(x:Value):∃W,w.setCell (aD (b+1) i) x=W/\ah (SB w0 g b base z (cs.set i x) wz va vr vf ai ay a_ W)/\ah (Only (b+1) w W):=by have q1:=q.g0;have q2:=q.b0;have q3:=q.bb;obtain⟨W,hW,e,d,a⟩:=fM (i:=i) h.blk x;refine⟨W,hW,⟨e,h.res.only a Om,h.oa.only nM a Om Oe,h.ol.only (yg.iH wz) a Om Oe,h.of.only vp a Om Oe,h.src.past a Om,h.on.fresh a Om,h.kz.trans (d _ Od),aV h.sz a.size,aV h.zz a.size⟩,a⟩
theorem SB.ahH(q:Bs w0 g b base)(h:SB w0 g b base z cs wz va vr vf ai ay a_ w){x:kC}(d:ai=n)(hown:w.ownsRow base Dm 2 va n xs)(f:Ch (xR w) xs ai)(c:w'.ownsRow base Dm 2 va' (n+1) (xs++ [aM x.1,av x.2]))(hg:w.grownBy w' va.ownBlock):
 SB w0 g b base z cs wz va' vr vf (ai++ [x]) ay a_ w':=by
 have q1:=q.g0;have q2:=q.b0;have q3:=q.bb;subst d;refine⟨gK h.blk hown hg q3,gK h.res hown hg Om,iF (R:=xR) nM Oe hown f rfl c hg,?_,?_,h.src.grown hg (fun j e=>by have:=(hown.lt j e).1;omega),zg h.on hown hg Om,h.kz.trans (tP hown hg Od),aV h.sz hg.size,aV h.zz hg.size⟩
 ·exact UY
 ·exact U1
theorem SB.ahE(q:Bs w0 g b base)(h:SB w0 g b base z cs wz va vr vf ai ay a_ w){x:Rl}(l:ay=n)(hown:w.ownsRow base ub 2 vr n xs)(p:Ch (yg wz w) xs ay)(e:IL wz (.slice E a c) x.2)(i:w'.ownsRow base ub 2 VN (n+1) (xs++ [aM x.1,.slice E a c]))(hg:w.grownBy w' vr.ownBlock):
 SB w0 g b base z cs wz va VN vf ai (ay++ [x]) a_ w':=by
 have q1:=q.g0;have q2:=q.b0;have q3:=q.bb;subst l;refine⟨gK h.blk hown hg q3,gK h.res hown hg Om,?_,iF (R:=yg wz) (yg.iH wz) Oe hown p ⟨E,a,c,rfl,e⟩ i hg,?_,h.src.grown hg (fun j o=>by have:=(hown.lt j o).1;omega),zg h.on hown hg Om,h.kz.trans (tP hown hg Od),aV h.sz hg.size,aV h.zz hg.size⟩
 ·exact UX
 ·exact U1
theorem SB.ahG(q:Bs w0 g b base)(h:SB w0 g b base z cs wz va vr vf ai ay a_ w){x:Fe}(d:a_=n)(hown:w.ownsRow base Gc 3 vf n xs)(f:Ch (wM w) xs a_)(c:w'.ownsRow base Gc 3 VP (n+1) (xs++ [av x.1,av x.2.1,av x.2.2]))(hg:w.grownBy w' vf.ownBlock):
 SB w0 g b base z cs wz va vr VP ai ay (a_++ [x]) w':=by
 have q1:=q.g0;have q2:=q.b0;have q3:=q.bb;subst d;refine⟨gK h.blk hown hg q3,gK h.res hown hg Om,?_,?_,iF (R:=wM) vp Oe hown f rfl c hg,h.src.grown hg (fun j e=>by have:=(hown.lt j e).1;omega),zg h.on hown hg Om,h.kz.trans (tP hown hg Od),aV h.sz hg.size,aV h.zz hg.size⟩
 ·exact UX
 ·exact UY
theorem SB.ahF(q:Bs w0 g b base)(h:SB w0 g b base z cs wz va vr vf ai ay a_ w)(h2:base<=a)(c:wz.heap.size<=a)(hown:w.ownsRow a aS 1 v n xs)(hg:w.grownBy w' v.ownBlock):SB w0 g b base z cs wz va vr vf ai ay a_ w':=by
 have q1:=q.g0;have q2:=q.b0;have q3:=q.bb;refine⟨gK h.blk hown hg Om,gK h.res hown hg Om,?_,?_,?_,h.src.grown hg (fun j d=>by have:=(hown.lt j d).1;omega),zg h.on hown hg Om,Kept.base h.kz hown hg c,aV h.sz hg.size,aV h.zz hg.size⟩
 ·exact UX
 ·exact UY
 ·exact U1
end
def MN{n:Nat}(h:n<10):cP ((n:Int):Rat)= [UInt8.ofNat (48+n)]:=by rw[alN,rR,lG h]
def aad:cP (1/2:Rat)= [49,47,50]:=by have b:((1:Rat)/2).num=((1:Nat):Int):=Ok;have a:((1:Rat)/2).den=2:=Ok;rw[qz (by rw[a];decide),b,a,rR,lG Od,lG Od];rfl
def Ls.avV{α:Type}{R:World->List Value->α->Prop}{l:List α}(c:aq m a w t)(b:Ch (R m) t l)(d:l.length<=1000):Ls w R m (aG a 0 l l) l:=
 ⟨dV a 0,l,t,rfl,aL _,by unfold maxLen;omega,Oe,c.sl 0,b⟩
def mY:=@Ls.avV
def UM:cP (1:Rat)= [49]:=MN (n:=1) Od
def UL:cP (2:Rat)= [50]:=MN (n:=2) Od
def arV:cP (4:Rat)= [52]:=MN (n:=4) Od
def Tf(h:decide (H.num.natAbs<100/\H.den<100)=true):bR 400 H:=by have h:=of_decide_eq_true h;exact(show bR 2 H from h).mono Od
def F8(l:List kC):Prop:=∀i (h:i<l.length),l[i].1= [97,UInt8.ofNat (97+i)]/\1<=l[i].2/\l[i].2<=3
def F8.snoc{l:List kC}{k:Int}(h:F8 l)(d:1<=k)(c:k<=3):F8 (l++ [([97,UInt8.ofNat (97+l.length)],k)]):=by
 intro i b;rcases cA i l.length with a|a
 ·rw[Zn a];exact h i a
 ·have:i=l.length:=by rw[bD,gc] at b;omega
  subst this;rw[Zk (aL _)];simp only[MF,List.getElem_singleton];exact⟨trivial,d,c⟩
def r_(n:Nat)(l:List Rl):Prop:=∀i (h:i<l.length),l[i].1= [114,UInt8.ofNat (97+i)]/\l[i].2≠ []/\(∀a∈l[i].2,0<=a/\a<(n:Int))/\l[i].2.Pairwise (·<·)
def r_.mono{l:List Rl}(h:r_ a l)(o:a<=b):r_ b l:=fun i d=>by obtain⟨k,j,g,f⟩:=h i d;exact⟨k,j,fun c e=>by have:=g c e;omega,f⟩
def r_.snoc{l:List Rl}{x:List Int}(h:r_ a l)(g:x≠ [])(f:∀b∈x,0<=b/\b<(a:Int))(e:x.Pairwise (·<·)):r_ a (l++ [([114,UInt8.ofNat (97+l.length)],x)]):=by
 intro i d;rcases cA i l.length with c|c
 ·rw[Zn c];exact h i c
 ·have:i=l.length:=by rw[bD,gc] at d;omega
  subst this;rw[Zk (aL _)];simp only[MF,List.getElem_singleton];exact⟨trivial,g,f,e⟩
def Ol(n:Nat)(l:List Rl):Prop:=∀a:Nat,a<n->∃r∈l,(a:Int)∈r.2
structure LI(n0 n:Nat)(l:List Int):Prop where
 ql:l.Pairwise (·<·)
 vJ:∀a∈l,0<=a/\a<(n:Int)
 all:∀a:Nat,n0<=a->a<n->(a:Int)∈l
 len:l.length<=n
def LI.snoc(h:LI a b L):LI a (b+1) (L++ [(b:Int)]):=by
 refine⟨Zu.2 ⟨h.ql,EM _ _,fun c e d g=> ?_⟩,fun c e=> ?_,fun c i j=> ?_,by rw[bD,gc];have:=h.len;omega⟩
 ·rw[bE.1 g];exact(h.vJ c e).2
 ·rcases bO.1 e with e|e
  ·have:=h.vJ c e;omega
  ·rw[bE.1 e];omega
 ·rcases cA c b with f|f
  ·exact bO.2 (.inl (h.all c i f))
  ·obtain rfl:c=b:=Om;exact bO.2 (.inr (bE.2 rfl))
def LI.skip(h:LI a b L)(e:b<a):LI a (b+1) L:=
 ⟨h.ql,fun c d=>by have:=h.vJ c d;omega,fun c g f=>by omega,by have:=h.len;omega⟩
def LI.start(b:Nat):LI b 0 []:=⟨List.Pairwise.nil,Oe,(fun a _ h=>by omega),aL _⟩
structure FI(ai:List kC)(j:Nat)(a_:List Fe)(label:Int):Prop where
 vJ:∀f∈a_,f.1<(j:Int)
 ok:∀f∈a_,aia ai f
 ql:a_.Pairwise fun f h=>f.1<h.1
 len:a_.length<=j
 ne:∀f∈a_,f.1≠label
 lb:label= -1\/∃q:Nat,label=(q:Int)/\q<j/\∃a,ai[q]? =some a/\a.2=2
def FI.start(a:List kC):FI a 0 [] (-1):=⟨Oe,Oe,List.Pairwise.nil,aL _,Oe,.inl rfl⟩
def FI.skip{c:List kC}{b:List Fe}(h:FI c a b B):FI c (a+1) b B:=
 ⟨fun f d=>by have:=h.vJ f d;omega,h.ok,h.ql,by have:=h.len;omega,h.ne,h.lb.imp id fun⟨q,g,i,e⟩=>⟨q,g,by omega,e⟩⟩
def FI.label{d:List kC}{c:List Fe}{label:Int}(h:FI d a c label){b:kC}(g:d[a]? =some b)(i:b.2=2):FI d (a+1) c a:=
 ⟨fun f e=>by have:=h.vJ f e;omega,h.ok,h.ql,by have:=h.len;omega,fun f e=>by have:=h.vJ f e;omega,.inr ⟨a,rfl,by omega,b,g,i⟩⟩
def FI.snoc{e:List kC}{d:List Fe}(h:FI e a d B){k m:Int}{b:kC}(n:e[a]? =some b)(l:(k=1/\b.2=2/\(m=0\/m=1))\/(k=2/\b.2=3/\m=0)):FI e (a+1) (d++ [((a:Int),k,m)]) B:=by
 refine⟨fun f c=> ?_,fun f c=> ?_,?_,by rw[bD,gc];have:=h.len;omega,fun f c=> ?_,h.lb.imp id fun⟨q,g,p,o⟩=>⟨q,g,by omega,o⟩⟩
 ·rcases bO.1 c with c|c
  ·have:=h.vJ f c;omega
  ·rw[bE.1 c];show(a:Int)<_;omega
 ·rcases bO.1 c with c|c
  ·exact h.ok f c
  ·rw[bE.1 c];exact⟨by show(0:Int)<=(a:Int);omega,b,n,l⟩
 ·refine Zu.2 ⟨h.ql,EM _ _,fun f c x i=> ?_⟩;rw[bE.1 i];exact h.vJ f c
 ·rcases bO.1 c with c|c
  ·exact h.ne f c
  ·rw[bE.1 c];rcases h.lb with r|⟨q,g,p,_⟩
   ·rw[r];show(a:Int)≠ -1;omega
   ·rw[g];show(a:Int)≠(q:Int);omega
def ofNat_inj(d:a<150)(c:b<150)(h:UInt8.ofNat (97+a)=UInt8.ofNat (97+b)):a=b:=by have h:=congrArg UInt8.toNat h;rw[ZA,ZA] at h;omega
def ab7{c:UInt8}(d:FL c)(h:a<7):pZ [c,UInt8.ofNat (97+a)]:=by
 refine⟨by simp,by simp,fun x b=> ?_,fun x b=> ?_⟩
 ·simp only[dA,dl] at b;rw[<-b];exact d
 ·simp only[aK,bJ,or_false] at b;rcases b with rfl|rfl
  ·exact .inl d
  ·rcases a with _|_|_|_|_|_|_|a;all_goals first|omega|decide
def apV{b:List kC}{c:List Rl}{f:List Fe}(n:F8 b)(k:r_ b.length c)(t:Ol b.length c)(l:FI b b.length f B)(x:1<=b.length)(z:b.length<=6)(s:1<=c.length)(y:c.length<=3):bV ⟨b,c,f,B⟩:=by
 refine⟨x,by show b.length<=12;omega,s,by show c.length<=6;omega,by show f.length<=8;have:=l.len;omega,fun a h=> ?_,?_,fun a h=> ?_,fun r h=> ?_,?_,fun r h=> ?_,fun r h=> ?_,fun r h=> ?_,t,l.ok,?_,l.ne,?_,fun h=> ?_⟩
 ·obtain⟨i,d,rfl⟩:=iE h;have g:i<b.length:=d;rw[(n i d).1];exact ab7 Od Om
 ·refine nI.2 fun i j d m p e=> ?_;have g:i<b.length:=d;have o:j<b.length:=m;rw[(n i d).1,(n j m).1] at e;injection e with _ e;injection e with e _;have:=ofNat_inj Om Om e;omega
 ·obtain⟨i,d,rfl⟩:=iE h;exact(n i d).2
 ·obtain⟨i,d,rfl⟩:=iE h;have g:i<c.length:=d;rw[(k i d).1];exact ab7 Od Om
 ·refine nI.2 fun i j d m p e=> ?_;have g:i<c.length:=d;have o:j<c.length:=m;rw[(k i d).1,(k j m).1] at e;injection e with _ e;injection e with e _;have:=ofNat_inj Om Om e;omega
 ·obtain⟨i,d,rfl⟩:=iE h;exact(k i d).2.1
 ·obtain⟨i,d,rfl⟩:=iE h;exact(k i d).2.2.1
 ·obtain⟨i,d,rfl⟩:=iE h;exact(k i d).2.2.2
 ·exact l.ql.imp fun h e=>by omega
 ·rcases l.lb with h|⟨q,e,u,_⟩
  ·show -1<=B/\B<b.length
   omega
  ·show -1<=B/\B<b.length
   omega
 ·have C:0<=B:=h;rcases l.lb with A|⟨q,e,u,a,w,v⟩
  ·omega
  ·refine⟨a,?_,v⟩;show b[B.toNat]? =some a
   rw[e];exact w
def apx{d:Func}{R:Ending->World->Prop}(c:d.results= #[.cell a kM])(e:Q.tmps.getD a undef=aI b 0)(f:Q.defers= [])
 (i:aq m b kM [p,q,r,s]) (h:R (.returned (.agg #[p,q,r,s])) m):bodyPost prog d R .ret Q m:=
 bodyPost_ret (results_cell_row c Q.tmps _ b kM #[p,q,r,s] (0,0) _ e i underlying30 rfl Ok) f h
def Uv:Value->Nat
 | .slice _ n _=>n
 |_=>0
def JL:List Value:= [.slice none 0 0,.slice none 0 0,.slice none 0 0,av 0]
def aiQ(g b:Nat)(w:au)(h:cL w g)(h1:1<=b)(h6:b<=6):
 Calls prog 23 #[aI g 0,av b] w fun e w'=>∃x v,bV x/\x.ai.length<=b/\x.a_.length<=b/\x.ay.length<=3/\e= .returned v/\dP w' v x/\cL w' g/\Only g w w':=by
 have HS:=af h;have hg:=h.lt;clear h;go_enter func23,ntmps23;go_upto_region 2 with fail
 refine gJ fun W nC B1 B2=> ?_;have PL:w.heap.size+1<W.heap.size:=B2.lt;have QB:Bs w g w.heap.size W.heap.size:=⟨hg,aL _,PL⟩;have HQ:=af QB;have mH:ah (SB w g w.heap.size W.heap.size JL [.slice none 0 0,.slice none 0 0,.slice none 0 0,av (-1)] W (.slice none 0 0) (.slice none 0 0) (.slice none 0 0) [] [] [] W):=
  ⟨B2,B1,ii,ii,ii,HS.ext nC,dM nC,jp _ _,aL _,aL _⟩
 clear B1 B2 QB;go_wp2_with fail;refine(abQ g 1 3 W mH.src Od Od).mono ?_;rintro e w1 ⟨n,hn1,hn3,rfl,U,Z⟩;have auu:=af (mH.call HQ Z U);clear U Z;go_wp2_with fail
 go_loopw [7] (fun v7 wr=>∃(i:Nat) (va vr:Value) (ai:List kC) (ay:List Rl) (wz:au),i<=n/\v7=av i/\ay.length=i/\ai.length<=b/\(0<i->1<=ai.length)/\ah (F8 ai)/\ah (r_ ai.length ay)/\ah (Ol ai.length ay)/\ah (SB w g w.heap.size W.heap.size JL [va,vr,.slice none 0 0,av (-1)] wz va vr (.slice none 0 0) ai ay [] wr)) (fun v7 _=>n - (RowKit.intOf v7).toNat)
 exact⟨0,_,_,[],[],W,aU _,rfl,rfl,aU _,fun h=>by omega,Oe,Oe,Oe,auu⟩;obtain⟨i,va,vr,ai,ay,wz,hi,rfl,I,B,ha1,O,gC,XM,aut⟩:=hrel;have c:=af aut.NW;obtain⟨E,D,uh,rfl,_,_,_,_⟩:=c.oa.parts;obtain⟨A1,c1,xs1,rfl,_,_,_,_⟩:=c.ol.parts;have jH:=af I;rw[I] at c;clear I;have hb0:=c.blk.aF 0;have GM:W.heap.size<=wr.heap.size:=c.sz;generalize wr=wo at*;have hgo:g<wo.heap.size:=Om;by_cases vU:i<n
 ·go_upto_region 8 with fail
  go_loopw [8,24] (fun P H w2=>∃(j:Nat) (l:List Int),j<=ai.length/\H=av j/\ah (LI ai.length j l)/\ah (bG aS 1 dw wo.heap.size w2 P l)/\ah (SB w g w.heap.size W.heap.size JL [.slice E ai.length D,.slice A1 i c1,.slice none 0 0,av (-1)] wo (.slice E ai.length D) (.slice A1 i c1) (.slice none 0 0) ai ay [] w2)) (fun _ H _=>ai.length - (RowKit.intOf H).toNat)
  exact⟨0,[],aU _,rfl,LI.start _,ii,c⟩;obtain⟨j,l,hj,rfl,t,HOl,en⟩:=hrel;by_cases hja:j<ai.length
  ·go_wp2_with fail
   refine(oP g 3 wr en.src Od Od).mono ?_;rintro e w3 ⟨r,hr,rfl,p,d⟩;have f:=af (en.call HQ d p);have C:=af (HOl.only cJ d hgo Oe);obtain⟨Al,cl,xl,rfl,_,_,HR,HC⟩:=C.parts;have jU:=t.len;clear p d;by_cases s:r=0
   ·have hb:((r:Int)==0)=true:=ayc;have dC:(l.length+1)*8<=140737488355328:=Om;have hw:wo.heap.size<=w3.heap.size:=f.zz;clear s;go_wp2_with (at_builtin;refine gf rfl _ _ 22 rfl wo.heap.size jo _ _ _ rfl HR.ae #[av j] 1 1 rfl rfl rfl dC hw ?_)
    intro v' w4 Y M _;have O4:=af (iF (R:=dw) (x:=(j:Int)) cJ Oe HR HC rfl Y M);have S4:=af (f.ahF HQ GM (aL _) HR M);clear Y M;go_wp2;go_roundw;exact⟨j+1,l++ [(j:Int)],by omega,by go_num,t.snoc,O4,S4⟩;simp [RowKit.intOf];omega
   ·have hb:((r:Int)==0)=false:=axo;clear s;go_wp2;go_roundw;exact⟨j+1,l,by omega,by go_num,t.skip hja,C,f⟩;simp [RowKit.intOf];omega
  ·obtain rfl:j=ai.length:=Om;go_wp2_with fail;refine(oP g 3 wr en.src Od Od).mono ?_;rintro e w3 ⟨k,hk,rfl,p,d⟩;have f:=af (en.call HQ d p);have C:=af (HOl.only cJ d hgo Oe);clear p d;go_upto_region 14 with fail
   obtain⟨n0,J⟩:∃n0,ai.length=n0:=⟨_,rfl⟩;have A_:=af J;rw[J] at f t⊢;clear J;go_loopw [8,10] (fun P v10 w4=>∃(l2:List Int) (l9:List kC) (F:Value) (k2:Int),n0<=l9.length/\l9.length<=b/\0<=k2+l2.length/\k2<=2/\v10=av k2/\ah (F8 l9)/\ah (LI n0 l9.length l2)/\ah (bG aS 1 dw wo.heap.size w4 P l2)/\ah (SB w g w.heap.size W.heap.size JL [F,.slice A1 i c1,.slice none 0 0,av (-1)] wo F (.slice A1 i c1) (.slice none 0 0) l9 ay [] w4)) (fun P _ _=>b - Uv P)
   exact⟨l,ai,_,(k:Int),by rw[A_.ae];exact aL _,B,by omega,by omega,rfl,O,by rw[A_.ae];exact t,C,f⟩;obtain⟨l2,l9,F,k2,sQ,n_,lm,L,rfl,QA,lT,ey,mJ⟩:=hrel;obtain⟨Al,cl,xl,rfl,_,_,HR,HC⟩:=ey.parts;obtain⟨Aa,ca,xa,rfl,_,_,_,_⟩:=mJ.oa.parts;have hb0:=mJ.blk.aF 0;have jU:=lT.len;by_cases hm:l9.length<b
   ·by_cases uu:0<k2
    ·skip
     exact m1
    ·by_cases hl0:l2.length=0
     ·have z:((l2.length:Int)==0)=true:=ayc;clear hl0;exact m1
     ·have z:((l2.length:Int)==0)=false:=axo;exact m3
   ·by_cases hl0:l2.length=0
    ·obtain rfl:l2= []:=lU hl0;clear hl0;by_cases uu:0<k2
     ·exact m9
     ·exact m9
    ·have z:((l2.length:Int)==0)=false:=axo;by_cases uu:0<k2
     ·skip
      exact m3
     ·skip
      exact m3
 ·obtain rfl:i=n:=Om;go_upto_region 22 with fail;obtain⟨N,hN⟩:∃N,ai.length=N:=⟨_,rfl⟩;have HN:=af hN;rw[hN] at c hb0 B ha1⊢;clear hN hb0 hi;go_loopw [88] (fun G wr=>∃(j:Nat) (vf:Value) (a_:List Fe) (label:Int),j<=N/\G=av j/\ah (FI ai j a_ label)/\ah (SB w g w.heap.size W.heap.size JL [.slice E N D,.slice A1 i c1,vf,av label] wo (.slice E N D) (.slice A1 i c1) vf ai ay a_ wr)) (fun G _=>N - (RowKit.intOf G).toNat)
  exact⟨0,_,[], -1,aU _,rfl,FI.start _,c⟩;obtain⟨j,vf,a_,label,hj,rfl,uN,dS⟩:=hrel;obtain⟨Af,cf,xf,rfl,_,_,_,_⟩:=dS.of.parts;by_cases WM:j<N
  ·have A:j<ai.length:=by rw[HN.ae];exact WM
   have hAL:AL wr (.slice E N D) ai:=dS.oa.ls;obtain⟨ga,oa,rfl,_,X,V⟩:=oM hAL A;have YS:ah (ai[j]? =some ai[j]):=aX A;have atK:=(O j A).2;clear hAL;generalize ai[j]=at_ at*;clear A;obtain⟨nm,kd⟩:=at_;simp only at X V atK;have z:label= -1\/0<=label:=by
    rcases uN.lb with h|⟨q,h,_,_⟩
    ·exact .inl h
    ·exact .inr Om
   have hgr:g<wr.heap.size:=by have:=dS.zz;omega
   go_upto_region 24 with fail
   refine aR fun W3 cE BA=> ?_;have dS:=af (dS.ext cE);have wP:=af BA.ae;have lm:=wP.aF 1;have hc3:=dS.blk.aF 3;clear X V BA;by_cases L:kd=2
   ·subst L;rcases z with rfl|hl0
    ·skip
     go_wp2_with fail
     refine(oP g 2 _ (dS.ae).src Od Od).mono ?_;rintro e wx ⟨r,hr,rfl,sN,qc⟩;have dS:=af ((dS.ae).call HQ qc sN);have wP:=af (wP.only qc Om);clear sN qc lm;have lm:=wP.aF 1;clear hc3;by_cases s:r=0
     ·have hb:((r:Int)==0)=true:=ayc;have hc0:=dS.blk.aF 3;have km:=dS.blk.frozen 3;obtain⟨W7,iM,S7,o_⟩:=dS.put HQ 3 (av j);have kT:=af iM;have mK:=af (uN.label YS rfl);clear iM s;go_upto_region 30 with fail
      rw[kT.ae];clear hc0 km lm o_;go_wp2_with fail;go_roundw;exact⟨j+1,_,a_,(j:Int),by omega,by go_num,mK,S7⟩;simp [RowKit.intOf];omega
     ·have hb:((r:Int)==0)=false:=axo;clear s;exact m10
    ·have hlt:decide (label<0)=false:=aW;exact m10
   ·have hb:(kd==2)=false:=by rw[beq_eq_false_iff_ne];exact L
    clear hc3;by_cases hk3:kd=3
    ·subst hk3;clear hb;go_wp2_with fail;refine(oP g 4 _ (dS.ae).src Od Od).mono ?_;rintro e wx ⟨r3,hr3,rfl,sN,qc⟩;have dS:=af ((dS.ae).call HQ qc sN);have wP:=af (wP.only qc Om);clear sN qc lm;have lm:=wP.aF 1;by_cases hr3:0<r3
     ·have hb3:decide ((r3:Int)>0)=true:=fN;obtain⟨xf2,rf,cf2⟩:=dS.of;have RF:=af rf;have CF:=af cf2;clear rf cf2;have hc2:=dS.blk.aF 2;have dC:(a_.length+1)*24<=140737488355328:=by have:=uN.len;omega
      have Q:=dS.sz;go_wp2_with (at_builtin;refine gf rfl _ _ 28 rfl W.heap.size acu _ _ _ rfl RF.ae #[av j,av 2,av 0] 1 1 rfl rfl rfl dC Q ?_);intro v' wq iq kS _;obtain⟨Aq,cq,rfl,_,_,_⟩:=eL iq;have S6:=af (dS.ahG HQ (x:=((j:Int),2,0)) rfl RF.ae CF iq kS);clear iq kS hc2 dC Q;have hc0:=S6.blk.aF 2;have km:=S6.blk.frozen 2;obtain⟨W7,iM,S7,o_⟩:=S6.put HQ 2 (.slice Aq (a_.length+1) cq);have kT:=af iM;have mK:=af (uN.snoc YS (k:=2) (m:=0) (.inr ⟨rfl,rfl,rfl⟩));clear iM;go_upto_region 30 with fail
      rw[kT.ae];clear hc0 km lm o_;go_wp2_with fail;go_roundw;exact⟨j+1,_,a_++ [((j:Int),2,0)],label,by omega,by go_num,mK,S7⟩;simp [RowKit.intOf];omega
     ·have hb3:decide ((r3:Int)>0)=false:=aW;exact afV
    ·have hb3:(kd==3)=false:=by rw[beq_eq_false_iff_ne];exact hk3
     exact afV
  ·obtain rfl:j=N:=Om;have mK:ah (FI ai ai.length a_ label):=by rw[HN.ae];exact uN
   rw[<-HN.ae] at dS B ha1⊢;have hf8:¬(8<a_.length):=by have:=mK.len;omega
   have awY:decide (a_.length>8)=false:=decide_eq_false hf8;have aN:=af (apV O gC XM mK Om Om (by rw[jH.ae];omega) (by rw[jH.ae];omega));have AX:ah (dP wr (.agg #[.slice E ai.length D,.slice A1 i c1,.slice Af a_.length cf,av label]) ⟨ai,ay,a_,label⟩):=by
    refine⟨E,D,A1,c1,Af,cf,?_,dS.oa.ls,?_,dS.of.ls⟩
    ·show _=Value.agg #[_,.slice A1 ay.length c1,_,_]
     rw[jH.ae]
    ·have h:=dS.NW.ol.ls;show yh wr (.slice A1 ay.length c1) ay
     rw[jH.ae];exact h
   obtain⟨k0,k1,k2,k3⟩:=dS.blk.four;obtain⟨j0,j1,j2,j3⟩:=dS.res.four;obtain⟨f0,f1,f2,f3⟩:=dS.res.fX;obtain⟨W',hW',B7,K7,N7⟩:=Do dS.res (.slice E ai.length D) (.slice A1 i c1) (.slice Af a_.length cf) (av label);have HW:=af hW';have kt:=af (dS.src.past N7 Om);have rr:=af (dS.on.fresh N7 (aL _));have Ek:=af (AX.kept K7 Od Od Od Od);have mF:a_.length<=b:=by have:=mK.len;omega
   clear hW';go_wp2;rw[HW.ae];exact apx rfl rfl rfl B7.ae ⟨_,_,aN,B,mF,by show ay.length<=3;have h:=jH.ae;omega,rfl,Ek,kt,rr⟩
def ak1(A:aQ)(n c:Nat)(xs:List Value)(w:au)(x:A=none->c=0)(o:Sl w aS A xs)(s:xs=n*1)(r:n<=c)(y:∀u∈xs,u.oneCell'=true)(E:n<=1000000):
 Calls prog 284 #[.slice A n c] w fun e w'=>∃d,e= .returned d/\w'.ownsRow w.heap.size aS 1 d n xs/\Ext w w':=by
 have C:=af o;have D:=af y;have l:=af s;rcases A with _|j
 ·have v:=x rfl;subst v;obtain rfl:n=0:=Om;have m:xs= []:=lU (by rw[l.ae]);subst m;have p:=fun w=>QV w 22 aS none 0 0 0 0 jo.ht;go_enter func284,ntmps284;go_wp2;go_ret;exact⟨_,rfl,mQ _ _ _ _,aB w⟩
 ·have k:=af (ab2 w aS 1);have g:=af (C.ext ((aB w).alloc (.cells #[] aS)));have f:(0+n)*8<=140737488355328:=Om;have p:=fun w=>QV w 22 aS (some j) n c 0 0 jo.ht;go_enter func284,ntmps284;go_wp2_with (at_builtin;refine IJ rfl _ _ 22 rfl w.heap.size jo _ _ _ rfl k.ae (some j) n c xs rfl Oe l g D f Ou ?_)
  intro d w' q t _;have B:ah (Ext w w'):=kI ((aB w).alloc _) k t (aL _);have i:ah (w'.ownsRow w.heap.size aS 1 d n xs):=by rw[ah];simpa using q
  go_wp2;go_ret;exact⟨_,rfl,i,B⟩
def adi{α:Type}{R:World->List Value->α->Prop}{w:au}{n:Nat}{l:List α}(h:Ls x R w (.slice E n c) l):
 n=l/\n<=c/\(E=none->c=0)/\∃xs,Sl w x E xs/\Ch (R w) xs l:=by
 obtain⟨q,p,xs,e,i,o,g,f,d⟩:=h;injection e with m k j;subst m k j;exact⟨rfl,i,g,xs,f,d⟩
def aqC{α:Type}{k:Nat}{R:World->List Value->α->Prop}{w:au}{base n:Nat}{xs:List Value}{l:List α}(h:w.ownsRow base x k p n xs)(d:n=l)(e:Ch (R w) xs l):∃A c,p= .slice A n c/\Ls x R w (.slice A n c) l:=by subst d;obtain⟨A,c,rfl,_,_,_⟩:=eL h;exact⟨A,c,rfl,bG.ls (base:=base) (k:=k) ⟨xs,h,e⟩⟩
section
variable{a w w':au}{b bo base n:Nat}{ss z cs xs:List Value}{va vr vf VN VP:Value}{ai:List kC}{ay:List Rl}{a_:List Fe}
end
def FR{n:Int}:∀{l:List Int} {k:Int},l.Pairwise (·<·)->(∀a∈l,k<=a/\a<n)->l= []\/(l.length:Int)+k<=n
 | [],_,_,_=> .inl rfl
 |x::l,k,f,h=>by
  have g:=h x Ou;have c:=iP.1 f;right;rcases FR (k:=x+1) c.2 (fun a d=>⟨by have:=c.1 a d;omega,(h a ayi).2⟩) with e|e
  ·subst e;simp only[cT,uY];omega
  ·simp only[cT];omega
def Ss(s:List UInt8)(w:au)(h:pZ s):
 Calls prog 87 #[aM s] w fun e z=>e= .returned (.bool true)/\Ext w z:=by
 obtain⟨d,C,u,v⟩:=h;have D:=af u;have F:=af v;clear u v;have b:∀(i:Nat) (h:i<s),(⟨s.toArray⟩:ByteArray)[i]'h=s[i]:=fun i h=>rfl;have E:=af b;have k:=b 0 Om;have a:=D _ (aX (show 0<s.length by omega));clear b;generalize s[0]=r at k a;have p:97<=r.toNat/\r.toNat<=122:=⟨tG.1 a.1,tG.1 a.2⟩;obtain⟨t,g⟩:∃n,r.toNat=n:=⟨_,rfl⟩;rw[g] at p;clear a;have A:((s.length:Int)==0)=false:=axo;have l:decide ((s.length:Int)>12)=false:=aW;have d97:decide ((t:Int)<97)=false:=aW;have d122:decide ((t:Int)>122)=false:=aW;go_enter func87,ntmps87;go_upto_region 3 with fail
 go_wp2_with fail
 clear k g A l d97 d122;go_loopw [3] (fun o wr=>∃i:Nat,i<=s/\o=av i/\ah (Ext w wr)) (fun o _=>s - (RowKit.intOf o).toNat);exact⟨0,aU _,rfl,aB _⟩;obtain⟨i,G,rfl,jg⟩:=hrel;by_cases j:i<s
 ·have B:=E i j;have a:=F _ (a8 j);generalize s[i]=c at B a;obtain⟨m,q⟩:∃m,c.toNat=m:=⟨_,rfl⟩;have p:(97<=m/\m<=122)\/(m<97/\(m=45\/(48<=m/\m<=57))):=by
   rcases a with a|a|a
   ·have d:=tG.1 a.1;have f:=tG.1 a.2;rw[q] at d f;exact .inl ⟨d,f⟩
   ·have d:=tG.1 a.1;have f:=tG.1 a.2;rw[q] at d f;have y:m<=57:=f;have x:48<=m:=d;exact .inr ⟨by omega,.inr ⟨x,y⟩⟩
   ·have d:m=45:=by rw[<-q,a];rfl
    exact .inr ⟨by omega,.inl d⟩
  clear a;rcases p with⟨f,y⟩|⟨f,rfl|⟨x,H⟩⟩
  ·have d1:decide ((m:Int)≥97)=true:=fN;have d2:decide ((m:Int)<=122)=true:=fN;go_wp2;exact Gl
  ·go_wp2;exact Gl
  ·have d1:decide ((m:Int)≥97)=false:=aW;have d2:decide ((m:Int)≥48)=true:=fN;have d3:decide ((m:Int)<=57)=true:=fN;go_wp2;exact Gl
 ·obtain rfl:i=s.length:=Om;go_wp2;go_ret;exact⟨rfl,jg⟩
def gM(z:Int):Prop:= -1000000000<=z/\z<=1000000000
def gM.lt{z:Int}(h:gM z):z.natAbs<10^10:=by unfold gM at h;omega
def gM.ya(h:gM B):nDigits B.natAbs<=400:=aV (zi (e:=9) h.lt) Od
def gM.ahB(h:gM B):cQ B:=⟨10,by decide,h.lt⟩
def gM.two(h:gM B):(a7 B.natAbs).length<=2:=by have:=Rf h.lt;omega
def akl(v:Value)(z:Int)(w:au)(h:cj w v z)(b:gM z):
 Calls prog 216 #[v] w fun e a=>e= .returned (.tuple #[av z,.bool true])/\Ext w a:=by
 obtain⟨s,rfl,A,c,rfl,G,o⟩:=h;have q:=b.two;have x:=dG z.natAbs;have y:=(dE z.natAbs).1;have f:=rL q;have F:z.natAbs<=1000000000:=by unfold gM at b;omega
 have p:=af (fun a (l:Ext w a)=>FW A c (a7 z.natAbs) 2 a Om Od (o.ext l));have g:=af (fun a (l:Ext w a)=>IZ A c (a7 z.natAbs) a q y (o.ext l));rw[f] at p;rw[x] at g;have H:=af o;generalize(a7 z.natAbs).length=n at*;have d:z=if decide (z<0) then -(z.natAbs:Int) else (z.natAbs:Int):=by
  by_cases h:z<0
  ·rw[decide_eq_true h];simp;omega
  ·rw[decide_eq_false h];simp;omega
 have i:=af d;clear d;generalize decide (z<0)=k at*;generalize z.natAbs=m at*;have d3:decide ((n:Int)>3)=false:=aW;have d62:decide ((m:Int)>4611686018427387904)=false:=aW;have u:IntKind.i64.wrap (m:Int)=(m:Int):=ax5;have t:IntKind.i64.wrap (-(m:Int))= -(m:Int):=ax5;have r:IntKind.u64.wrap (m:Int)=(m:Int):=axy;go_enter func216,ntmps216;go_upto_region 1 with fail
 refine aR fun W j B=> ?_;obtain⟨E,D⟩:=B.two;go_wp2_with fail;refine(p _ j).mono ?_;rintro e C ⟨rfl,rfl⟩;go_upto_region 3 with fail
 go_quiet (first|(go_at_call 258;exact NX (p _ (j.drewN _)))|(go_at_call 265;exact NX (g _ (j.drewN _))));cases k with
 |true=>
  have b:z= -(m:Int):=by simpa using i.ae
  subst b;go_wp2;go_ret2;exact⟨rfl,j.drewN _⟩
 |false=>
  have b:z=(m:Int):=by simpa using i.ae
  subst b;go_wp2;go_ret2;exact⟨rfl,j.drewN _⟩
def adu(z:Int)(w:au)(b:gM z):
 Calls prog 137 #[aM (aY z)] w fun e a=>e= .returned (.tuple #[av z,.bool true])/\Ext w a:=by
 have V:=af (fun a=>IW z a b.ya);have R:=af (fun a=>SK z a b.ahB.wide);have k:=af (fun v a (h:cj a v z)=>akl v z a h b);generalize aY z=t at*;go_enter func137,ntmps137;go_wp2_with fail
 refine(V w).mono ?_;rintro e i ⟨rfl,f⟩;go_wp2_with fail;refine(R i).mono ?_;rintro e g ⟨v,rfl,j,d⟩;go_wp2_with fail;refine(k v g j).mono ?_;rintro e l ⟨rfl,c⟩;go_wp2;go_ret2;exact⟨rfl,f.trans (d.trans c)⟩
def aa9(w:au):Calls prog 188 #[.string ⟨#[]⟩] w fun e a=>e= .returned (.bool false)/\Ext w a:=by have b:ah (trimPrefix [] [45]= []):=rfl;go_enter func188,ntmps188;go_wp2_with fail;refine(Tryz.strings_TrimPrefix _ _ w).mono ?_;rintro e c ⟨rfl,rfl⟩;simp only[b.ae];go_wp2;go_ret;exact⟨rfl,aB _⟩
def aov(w:au):Calls prog 137 #[.string ⟨#[]⟩] w fun e b=>e= .returned (.tuple #[av 0,.bool false])/\Ext w b:=by go_enter func137,ntmps137;go_wp2_with fail;refine(aa9 w).mono ?_;rintro e c ⟨rfl,a⟩;go_wp2;go_ret2;exact⟨rfl,a⟩
def aes(z:Int)(w:au)(b:gM z):
 Calls prog 135 #[aM (aY z)] w fun e a=>e= .returned (.bool true)/\Ext w a:=by
 have S:=af (fun a=>adu z a b);have d1:=decide_eq_true b.1;have d2:=decide_eq_true b.2;generalize aY z=t at*;go_enter func135,ntmps135;go_wp2_with fail
 refine(S w).mono ?_;rintro e d ⟨rfl,c⟩;go_wp2;go_ret;exact⟨rfl,c⟩
def aj2(w:au):Calls prog 114 #[.string ⟨#[]⟩] w fun e d=>e= .returned (.bool false)/\Ext w d:=by go_enter func114,ntmps114;go_wp2_with fail;refine(Nw [] w Od Ou).mono ?_;rintro e c ⟨rfl,b⟩;go_wp2_with fail;refine(aa9 c).mono ?_;rintro e f ⟨rfl,a⟩;go_wp2;go_ret;exact⟨rfl,b.trans a⟩
def alX(w:au):Calls prog 136 #[.string ⟨#[]⟩] w fun e b=>e= .returned (.tuple #[.string ⟨#[]⟩,.string ⟨#[]⟩,.bool false])/\Ext w b:=by go_enter func136,ntmps136;go_wp2_with fail;refine(aj2 w).mono ?_;rintro e c ⟨rfl,a⟩;go_wp2;go_ret3;exact⟨rfl,a⟩
def abZ(q:Rat)(w:au)(i:bR 400 q):
 Calls prog 136 #[aM (cP q)] w fun e g=>e= .returned (.tuple #[aM (aY q.num),aM (aY q.den),.bool true])/\Ext w g:=by
 have V:=af (fun g=>aaK q g i);have o:=zf q.num;have n:=i.dn;have p:=i.dd;by_cases l:q.den=1
 ·have m:=af (pP l);have k:aY q.den= [49]:=by rw[l];exact xt
  rw[m.ae] at V⊢;rw[k];have c:=vh q.num;generalize aY q.num=a at*;have HC:=af (fun w=>Nw a w Om c);exact m99
 ·have m:=af (qz l);have j:decDigits q.den=aY q.den:=(rR _).symm;have c:=vh q.num;have d:=Co q.den;have f:(aY q.num).length+(decDigits q.den).length<=10000000:=ayn;rw[m.ae] at V⊢;rw[j] at d f V⊢;generalize aY q.num=a at*;generalize aY q.den=b at*;have HC:=af (fun w=>TG a b w f d c);generalize a++47::b=r at*;exact m99
def lS(q:Rat):Prop:=gM q.num/\q.den<=12
def lS.fit(h:lS H):bR 400 H:=bR.mono (e:=10) ⟨h.1.lt,by have:=h.2;omega⟩ Od
def lS.den(h:lS H):gM (H.den:Int):=by have:=h.2;unfold gM;omega
def avx(v:List UInt8):Prop:=v= [114,101,100]\/v= [103,114,101,101,110]\/v= [98,108,117,101]
def ej(a:Int)(v:List UInt8):Prop:=v= []\/(a=3/\pZ v/\avx v)\/(a=1/\∃z:Int,v=aY z/\gM z)\/(a=2/\∃q:Rat,v=cP q/\lS q)
def aeo(z:Int):aY z≠ []:=by intro h;have a:=(M7 z).1;rw[h] at a;exact Co z.natAbs (a.symm.trans rfl)
def MV(q:Rat):cP q≠ []:=by
 by_cases h:q.den=1
 ·rw[pP h];exact aeo _
 ·rw[qz h];simp
def Tb(n v:List UInt8)(a:Int)(w:au)(y:1<=a/\a<=3)(h:ej a v):
 Calls prog 67 #[.agg #[aM n,av a],aM v] w fun e b=>e= .returned (.bool true)/\Ext w b:=by
 have g:a=1\/a=2\/a=3:=Om;rcases h with rfl|⟨rfl,l, -⟩|⟨rfl,z,rfl,o⟩|⟨rfl,q,rfl,d⟩
 ·rcases g with rfl|rfl|rfl
  ·go_enter func67,ntmps67;exact V2
  ·go_enter func67,ntmps67;go_upto_region 1 with fail
   refine aR fun W HX BX=> ?_;obtain⟨s0,s1⟩:=BX.two;go_wp2_with fail;refine(alX W).mono ?_;rintro e w1 ⟨rfl,hx1⟩;go_wp2_with fail;refine(aov w1).mono ?_;rintro e k ⟨rfl,c⟩;go_wp2;go_ret;exact⟨rfl,HX.trans (hx1.trans c)⟩
  ·go_enter func67,ntmps67;exact V2
 ·have WA:=af (fun b=>acM v b l);have f:(v== [])=false:=(by rw[beq_eq_false_iff_ne];intro h;have:=l.1;rw[h] at this;cases this)
  go_enter func67,ntmps67;exact agu
 ·have j:=af (fun b=>aes z b o);have f:(aY z== [])=false:=by rw[beq_eq_false_iff_ne];exact aeo z
  generalize aY z=v at*;go_enter func67,ntmps67;go_upto_region 1 with fail
  refine aR fun W HX BX=> ?_;obtain⟨s0,s1⟩:=BX.two;go_wp2_with fail;refine(j W).mono ?_;rintro e w1 ⟨rfl,hx1⟩;go_wp2;go_ret;exact⟨rfl,HX.trans hx1⟩
 ·have s:=af (fun b=>abZ q b d.fit);have j:=af (fun b=>aes q.num b d.1);have r:=af (fun b=>adu q.den b d.den);have f:(cP q== [])=false:=by rw[beq_eq_false_iff_ne];exact MV q
  have p:=q.den_pos;have m:=d.2;have d1:=fN;have d2:decide ((q.den:Int)<=12)=true:=fN;generalize cP q=v at*;generalize aY q.num=u at*;generalize aY q.den=x at*;generalize q.den=A at*;clear d g;go_enter func67,ntmps67;go_upto_region 1 with fail
  refine aR fun W HX BX=> ?_;obtain⟨s0,s1⟩:=BX.two;go_wp2_with fail;refine(s W).mono ?_;rintro e w1 ⟨rfl,hx1⟩;go_wp2_with fail;refine(r w1).mono ?_;rintro e k ⟨rfl,c⟩;go_wp2_with fail;refine(j k).mono ?_;rintro e t ⟨rfl,i⟩;go_wp2;go_ret;exact⟨rfl,HX.trans (hx1.trans (c.trans i))⟩
def aan:∀(l:List Nat) (k:Nat),val (l.drop k)<=val l
 | [],k=>by simp
 |x::l,0=>aL _
 |x::l,k+1=>by have h:=aan l k;have e:val (x::l)=x+B9*val l:=rfl;rw[Zz,e];unfold B9;omega
def aiB(h:a<i.length):val (i.drop a)=val (i.drop (a+1))*1000000000+i[a]:=by rw[jK h];have e:val (i[a]::i.drop (a+1))=i[a]+B9*val (i.drop (a+1)):=rfl;rw[e];unfold B9;omega
def aau(z:Int)(w:au)(d:gM z):
 Calls prog 105 #[aM (aY z)] w fun e p=>e= .returned (.tuple #[av z,.bool true])/\Ext w p:=by
 have V:=af (fun p=>MP z p d.ya);have RD:=af (fun p=>Su z p d.ahB.wide);generalize aY z=t at*;go_enter func105,ntmps105;go_wp2_with fail
 refine(V w).mono ?_;rintro e w1 ⟨rfl,rfl⟩;go_wp2_with fail;refine(RD w).mono ?_;rintro e w2 ⟨v,rfl,hv,B⟩;obtain⟨A,c,rfl,hc,R⟩:=hv;go_upto_region 4 with fail
 refine aR fun W HX BX=> ?_;go_wp2_with fail;refine(apw 4611686018427387904 W Od Od).mono ?_;rintro e w3 ⟨v',rfl,Q,b⟩;obtain⟨A',c',rfl,T,E⟩:=Q;have Z:=af (B.trans (HX.trans b));have tF:=af (BX.ext b);have qo:=af (R.ext (HX.trans b));have s:=d.two;have r:(4611686018427387904:Int).natAbs=4611686018427387904:=rfl;have D:(a7 (4611686018427387904:Int).natAbs).length<=1000:=by have:=Rf (n:=(4611686018427387904:Int).natAbs) (e:=19) Od;omega
 have I:eM (val (a7 z.natAbs)) (val (a7 (4611686018427387904:Int).natAbs))= -1:=(by rw[dG,dG,r];exact Da (by unfold gM at d;omega));have RS:=af (fun p (hx:Ext w3 p)=>abM A A' c c' (a7 z.natAbs) (a7 (4611686018427387904:Int).natAbs) p Om Om (dE _) (dE _) (R.ext (HX.trans (b.trans hx))) (E.ext hx));rw[I] at RS;have C:val (a7 z.natAbs)=z.natAbs:=dG _;have F:z.natAbs<=1000000000:=by unfold gM at d;omega
 have L:=af C;have x:z=if decide (z<0) then -(z.natAbs:Int) else (z.natAbs:Int):=by
  by_cases h:z<0
  ·rw[decide_eq_true h];simp;omega
  ·rw[decide_eq_false h];simp;omega
 have J:=af x;clear x C I r D E T R hc d B b BX;generalize a7 (4611686018427387904:Int).natAbs=l2 at*;generalize a7 z.natAbs=l at*;generalize decide (z<0)=P at*;generalize z.natAbs=m at*;go_upto_region 5 with fail
 refine aR fun W4 j BY=> ?_;have N:=af (tF.ext j);obtain⟨s0,s1⟩:=N.two;obtain⟨t0,t1⟩:=BY.two;have Y:=af (Z.trans j);have LS:=af (qo.ext j);have U:=af (RS W4 j);have lT:=af s;have M:=af F;clear s F;go_wp2_with fail
 refine U.mono ?_;rintro e w5 ⟨rfl,O,rfl⟩;have K:=af (Y.drewN O);have X:=af (LS.ext ((aB _).drewN O));have uS:=af (N.drewN O);generalize W4.drewN O=W5 at*;clear s0 s1 t0 t1 BY;obtain⟨s0,s1⟩:=uS.two;generalize w2.heap.size=gx at*;have s:=lT.ae;go_wp2;go_loopw [6,7] (fun a i wr=>∃k:Nat,k<=l.length/\i=av ((k:Int) - 1)/\a=av (val (l.drop k):Nat)/\∃q,wr=W5.drewN q) (fun _ i _=>(Lib.intOf i+1).toNat)
 exact⟨l.length,aL _,rfl,by rw[rz (aL _)];rfl,0,rfl⟩;obtain⟨k,hk,rfl,rfl,q,rfl⟩:=hrel;cases k with
 |succ k=>have H:k<l.length:=Om;obtain⟨g,o,rfl,_,S⟩:=X.at_ (oI H);have f:=aiB H;have G:=aan l k;rw[L.ae] at G;have h9:=M.ae;have HVK:=af f;have hb1:val (l.drop (k+1))<=1:=Om;have hb2:l[k]<=1000000000:=Om;clear f G h9;generalize val (l.drop (k+1))=u at*;generalize l[k]=y at*;go_wp2;go_roundw;exact⟨k,by omega,by go_num,by rw[HVK.ae];go_num,_,rfl⟩;simp [Lib.intOf]
 |zero=>
  have f:val (l.drop 0)=m:=L.ae;rw[f];have h9:=M.ae;cases P with
  |true=>
   have d:z= -(m:Int):=by simpa using J.ae
   subst d;go_wp2;go_ret2;exact⟨rfl,K.drewN _⟩
  |false=>
   have d:z=(m:Int):=by simpa using J.ae
   subst d;go_wp2;go_ret2;exact⟨rfl,K.drewN _⟩
def anD(n v:List UInt8)(a:Int)(w:au)(y:1<=a/\a<=3)(h:ej a v):
 Calls prog 40 #[.agg #[aM n,av a],aM v] w fun e b=>e= .returned (.bool true)/\Ext w b:=by
 rcases h with rfl|⟨rfl,l, -⟩|h
 ·go_enter func40,ntmps40;exact V2
 ·have WA:=af (fun b=>Ss v b l);have i:(v== [])=false:=(by rw[beq_eq_false_iff_ne];intro h;have:=l.1;rw[h] at this;cases this)
  go_enter func40,ntmps40;exact agu
 ·obtain⟨q,rfl,c,d⟩:∃q:Rat,v=cP q/\lS q/\(a=1/\q.den=1\/a=2):=by
   rcases h with⟨rfl,z,rfl,o⟩|⟨rfl,q,rfl,c⟩
   ·exact⟨(z:Rat),(pP (q:=(z:Rat)) rfl).symm,⟨o,by show 1<=12;decide⟩,.inl ⟨rfl,rfl⟩⟩
   ·exact⟨q,rfl,c,.inr rfl⟩
  have PA:=af (fun b=>aj3 q b c.fit);have BA:=af (fun b=>aau q.num b c.1);have SA:=af (fun b=>aau q.den b c.den);have i:(cP q== [])=false:=by rw[beq_eq_false_iff_ne];exact MV q
  rw[<-rR] at PA;have m:=c.2;have k:=c.1.1;have j:=c.1.2;have d2:decide ((q.den:Int)<=12)=true:=fN;have d3:decide (q.num≥ -1000000000)=true:=decide_eq_true k;have d4:decide (q.num<=1000000000)=true:=decide_eq_true j;have p:a=1->aY q.den= [49]:=by
   intro h;rcases d with⟨_,g⟩|g
   ·rw[g];exact xt
   ·omega
  have f:a=1\/a=2:=by
   rcases d with⟨r,_⟩|g
   ·exact .inl r
   ·exact .inr g
  generalize cP q=v at*;generalize aY q.num=t at*;generalize aY q.den=u at*;generalize q.den=A at*;generalize q.num=x at*;rcases f with rfl|rfl
  ·obtain rfl:=p rfl;go_enter func40,ntmps40;go_upto_region 1 with fail;refine aR fun W HX BX=> ?_;obtain⟨s0,s1⟩:=BX.two;have s:=BX;exact m85
  ·skip
   go_enter func40,ntmps40;go_upto_region 1 with fail
   refine aR fun W HX BX=> ?_;obtain⟨s0,s1⟩:=BX.two;exact m85
structure AQ{α:Type}(lt:α->α->Bool):Prop where
 jD:∀a,lt a a=false
 tr:∀a b c,lt a b=true->lt b c=true->lt a c=true
 vI:∀a b,lt a b=false->lt b a=false->a=b
def lexB{α:Type} [BEq α](c:α->α->Bool):List α->List α->Bool
 |_,[]=>false
 | [],_::_=>true
 |a::x,b::y=>c a b||(a==b&&lexB c x y)
def AQ.lex{α:Type} [BEq α] [LawfulBEq α]{i:α->α->Bool}(h:AQ i):AQ (lexB i) where
 jD:=fun a=>by
  induction a with
  |nil=>rfl
  |cons x l g=>simp [lexB,h.jD,g]
 tr:=fun a=>by
  induction a with
  |nil=>
   intro b c f d;cases c with
   |nil=>simp [lexB] at d
   |cons z m=>rfl
  |cons x l g=>
   intro b c f d;cases b with
   |nil=>simp [lexB] at f
   |cons y m=>
    cases c with
    |nil=>simp [lexB] at d
    |cons z n=>
     simp only[lexB,kF,cV,beq_iff_eq] at f d⊢;rcases f with f|⟨rfl,f⟩
     ·rcases d with d|⟨rfl,d⟩
      ·exact .inl (h.tr _ _ _ f d)
      ·exact .inl f
     ·rcases d with d|⟨rfl,d⟩
      ·exact .inl d
      ·exact .inr ⟨rfl,g _ _ f d⟩
 vI:=fun a=>by
  induction a with
  |nil=>
   intro b f d;cases b with
   |nil=>rfl
   |cons y m=>simp [lexB] at f
  |cons x l g=>
   intro b f d;cases b with
   |nil=>simp [lexB] at d
   |cons y m=>simp only[lexB,Bool.or_eq_false_iff] at f d;have e:=h.vI _ _ f.1 d.1;subst e;have k:=f.2;have j:=d.2;simp only[beq_self_eq_true,MB] at k j;rw[g _ k j]
def AQ.asym{α:Type}{c:α->α->Bool}(h:AQ c){a b:α}(e:c a b=true):c b a=false:=by
 cases d:c b a with
 |false=>rfl
 |true=>rw[<-h.jD a,h.tr _ _ _ e d]
def am0:Op.bytesLess=lexB (fun a b:UInt8=>decide (a<b)):=by
 funext x
 induction x with
 |nil=>funext y;cases y<;>rfl
 |cons a l c=>funext y;cases y with
  |nil=>rfl
  |cons b m=>simp [Op.bytesLess,lexB,c]
def ao6:AQ (fun a b:UInt8=>decide (a<b)) where
 jD:=fun a=>by simp
 tr:=fun a b c e d=>by simp only[decide_eq_true_eq] at e d⊢;exact UInt8.lt_trans e d
 vI:=fun a b e d=>by simp only[decide_eq_false_iff_not] at e d;exact UInt8.le_antisymm (UInt8.not_lt.1 d) (UInt8.not_lt.1 e)
def dU:List (List UInt8)->List (List UInt8)->Bool:=lexB Op.bytesLess
def zo:AQ Op.bytesLess:=by rw[am0];exact ao6.lex
def iR:AQ dU:=zo.lex
def Nj:∀{a b:List (List UInt8)} {i:Nat},a.take i=b.take i->dU a b=dU (a.drop i) (b.drop i)
 |a,b,0,_=>rfl
 | [],b,i+1,h=>by
   cases b with
   |nil=>rfl
   |cons y m=>simp at h
 |x::l,[],i+1,h=>by simp at h
 |x::l,y::m,i+1,h=>by
  simp only[QZ,wU] at h;obtain⟨rfl,h⟩:=h;rw[Zz,Zz,<-Nj h];show(Op.bytesLess x x||(x==x&&dU l m))=_
  rw[zo.jD];simp
def aeP{c b:List (List UInt8)}(f:a<c)(e:a<b)(h:c.take a=b.take a)(d:(c[a]==b[a])=false):dU c b=Op.bytesLess c[a] b[a]:=by
 rw[Nj h,jK f,jK e];show(Op.bytesLess c[a] b[a]||(c[a]==b[a]&&_))=_
 rw[d];simp
def adh{a b:List (List UInt8)}(c:a<b.length)(h:a.take a.length=b.take a.length):dU a b=true:=by rw[Nj h,ZQ,jK c];rfl
def Tt{a b:List (List UInt8)}(h:a.take b=b.take b):dU a b=false:=by rw[Nj h,ZQ];cases a.drop b<;>rfl
structure SR(α:Type) where
 zero:α
 one:α
 add:α->α->α
 mul:α->α->α
 aa:∀a b c,add (add a b) c=add a (add b c)
 ac:∀a b,add a b=add b a
 az:∀a,add zero a=a
 ma:∀a b c,mul (mul a b) c=mul a (mul b c)
 mc:∀a b,mul a b=mul b a
 mo:∀a,mul one a=a
 mz:∀a,mul zero a=zero
 ds:∀a b c,mul a (add b c)=add (mul a b) (mul a c)
inductive Fo where
 |nil:Fo
 |cons (v:Nat) (homes:List Nat) (below next:Fo):Fo
def Fo.vars:Fo->List Nat
 | .nil=> []
 | .cons v _ b n=>v::(b.vars++n.vars)
def Fo.homes:Fo->List Nat
 | .nil=> []
 | .cons _ a b n=>a++(b.homes++n.homes)
section
variable{α β:Type}(R:SR α)
def SR.sum(l:List β)(f:β->α):α:=l.foldr (fun x s=>R.add (f x) s) R.zero
def SR.prod{γ:Type}(l:List γ)(f:γ->α):α:=l.foldr (fun x s=>R.mul (f x) s) R.one
def put(b:Nat->β)(v:Nat)(x:β):Nat->β:=fun a=>if a=v then x else b a
def Fo.val(U:List β)(g:Nat->β->α)(W:Nat->(Nat->β)->α):Fo->(Nat->β)->α
 | .nil,_=>R.one
 | .cons v c b n,a=>R.mul (R.sum U fun x=>R.mul (R.mul (g v x) (R.prod c fun h=>W h (put a v x))) (b.val U g W (put a v x))) (n.val U g W a)
def Fo.xS(a:Nat->(Nat->β)->List β)(g:Nat->β->α)(W:Nat->(Nat->β)->α):Fo->(Nat->β)->α
 | .nil,_=>R.one
 | .cons v d b n,c=>R.mul (R.sum (a v c) fun x=>R.mul (R.mul (g v x) (R.prod d fun h=>W h (put c v x))) (b.xS a g W (put c v x))) (n.xS a g W c)
variable{R}
theorem SR.mz'(a:α):R.mul a R.zero=R.zero:=by rw[R.mc,R.mz]
def vz:=@SR.mz'
theorem SR.zV(a:α):R.mul a R.one=a:=by rw[R.mc,R.mo]
theorem SR.sum_cons{x:β}{l:List β}{f:β->α}:R.sum (x::l) f=R.add (f x) (R.sum l f):=rfl
def iQ:=@SR.sum_cons
theorem SR.avL{l:List β}{f h:β->α}(e:∀x∈l,f x=h x):R.sum l f=R.sum l h:=by
 induction l with
 |nil=>rfl
 |cons x l a=>rw[iQ,iQ,e x Ou,a fun y b=>e y axK]
def u_:=@SR.avL
theorem SR.avS{l:List β}{f:β->α}(e:∀x∈l,f x=R.zero):R.sum l f=R.zero:=by
 induction l with
 |nil=>rfl
 |cons x l a=>rw[iQ,e x Ou,R.az,a fun y b=>e y axK]
def MR:=@SR.avS
theorem SR.Tc{l m:List β}{f:β->α}(h:l.Perm m):R.sum l f=R.sum m f:=by
 induction h with
 |nil=>rfl
 |cons x _ a=>rw[iQ,iQ,a]
 |swap x y l=>rw[iQ,iQ,iQ,iQ,<-R.aa,<-R.aa,R.ac (f y)]
 |trans _ _ c b=>rw[c,b]
theorem SR.prod_cons{γ:Type}{x:γ}{l:List γ}{f:γ->α}:R.prod (x::l) f=R.mul (f x) (R.prod l f):=rfl
def kY:=@SR.prod_cons
theorem SR.avG{γ:Type}{l:List γ}{f h:γ->α}(e:∀x∈l,f x=h x):R.prod l f=R.prod l h:=by
 induction l with
 |nil=>rfl
 |cons x l a=>rw[kY,kY,e x Ou,a fun y b=>e y axK]
def wZ:=@SR.avG
theorem SR.avN{γ:Type}{l:List γ}{f:γ->α}{x:γ}(a:x∈l)(e:f x=R.zero):R.prod l f=R.zero:=by
 induction l with
 |nil=>cases a
 |cons y l b=>
  rw[kY];rcases aK.1 a with rfl|a
  ·rw[e,R.mz]
  ·rw[b a,vz]
def IB:=@SR.avN
theorem SR.apq [DecidableEq β]{U:List β}{f:β->α}(k:U.Nodup):∀{c:List β},c.Nodup->(∀x∈c,x∈U)->(∀x∈U,x∉c->f x=R.zero)->R.sum U f=R.sum c f:=by
 intro c;induction c generalizing U with
 |nil=>intro _ _ h;exact MR fun x g=>h x g Ou
 |cons x c l=>
  intro j a m;obtain⟨g,j⟩:=ic.1 j;have n:=List.perm_cons_erase (a x Ou);rw[SR.Tc n,iQ,iQ,l (k.erase x) j (fun y d=>by
   have b:y≠x:=fun e=>g (e▸d);exact(List.mem_erase_of_ne b).2 (a y ayi)) (fun y d i=>by
   have b:y≠x:=fun e=>by subst e;exact(List.Nodup.not_mem_erase k) d
   exact m y (List.mem_of_mem_erase d) (by simp [b,i]))]
def Alike(l:List Nat)(e b:Nat->β):Prop:=∀a,a∉l->b a=e a
theorem Fo.val_zero{U:List β}{g:Nat->β->α}{W:Nat->(Nat->β)->α}{h:Nat}:∀(f:Fo) (d:Nat->β),h∈f.homes->(∀j,Alike f.vars d j->W h j=R.zero)->f.val R U g W d=R.zero
 | .nil,_,c,_=>by cases c
 | .cons v o b n,d,c,k=>by
   unfold Fo.val;rcases bO.1 c with c|c
   ·rw[MR (fun x _=> ?_),R.mz];have m:W h (put d v x)=R.zero:=k _ fun a i=>if_neg (fun e=>i (by simp [Fo.vars,e]));rw[IB c m,vz,R.mz]
   ·rcases bO.1 c with c|c
    ·rw[MR (fun x _=> ?_),R.mz];rw[Fo.val_zero b _ c (fun j l=>k j fun a i=> ?_),vz];rw[l a (fun h=>i ax1)];unfold put;rw[if_neg (fun e=>i (by simp [Fo.vars,e]))]
    ·rw[Fo.val_zero n d c (fun j l=>k j fun a i=>l a (fun h=>i ax1)),vz]
def Fo.Right(U:List β)(a:Nat->(Nat->β)->List β)(g:Nat->β->α)(W:Nat->(Nat->β)->α)(R:SR α):Fo->Prop
 | .nil=>True
 | .cons v e b n=>(∀c,(a v c).Nodup/\(∀x∈a v c,x∈U)/\∀x∈U,x∉a v c->g v x=R.zero\/∃h∈e++b.homes,∀d,Alike b.vars (put c v x) d->W h d=R.zero)/\b.Right U a g W R/\n.Right U a g W R
theorem Fo.avU [DecidableEq β]{U:List β}{d:Nat->(Nat->β)->List β}{g:Nat->β->α}{W:Nat->(Nat->β)->α}(j:U.Nodup):∀(f:Fo) (c:Nat->β),f.Right U d g W R->f.xS R d g W c=f.val R U g W c
 | .nil,_,_=>rfl
 | .cons v l b n,c,⟨r,q,p⟩=>by
   unfold Fo.xS Fo.val;obtain⟨u,t,s⟩:=r c;rw[Fo.avU j n c p,u_ (h:=fun x=>R.mul (R.mul (g v x) (R.prod l fun h=>W h (put c v x))) (b.val R U g W (put c v x))) (fun x _=>by rw[Fo.avU j b _ q]),
    SR.apq (R:=R) (f:=fun x=>R.mul (R.mul (g v x) (R.prod l fun h=>W h (put c v x))) (b.val R U g W (put c v x))) j u t (fun x m i=> ?_)]
   rcases s x m i with o|⟨h,e,k⟩
   ·rw[o,R.mz,R.mz]
   ·rcases bO.1 e with e|e
    ·rw[IB e (k _ fun a _=>rfl),vz,R.mz]
    ·rw[Fo.val_zero b _ e k,vz]
def IU:=@Fo.avU
def Fo.Wf(c:Nat->List Nat):Fo->Prop
 | .nil=>True
 | .cons v d b n=>(∀h∈d,∀a∈c h,a∉b.vars)/\(∀h∈d++b.homes,∀a∈c h,a∉n.vars)/\(∀h∈n.homes,∀a∈c h,a∉v::b.vars)/\b.Wf c/\n.Wf c
theorem Fo.avJ{U:List β}{g:Nat->β->α}{W:Nat->(Nat->β)->α}{o:Nat->List Nat}(hW:∀h e t,(∀a∈o h,t a=e a)->W h t=W h e):
 ∀(f:Fo) (j i:Nat->β),f.Wf o->(∀h∈f.homes,∀a∈o h,a∉f.vars->i a=j a)->f.val R U g W i=f.val R U g W j
 | .nil,_,_,_,_=>rfl
 | .cons v B b n,j,i,⟨z,s,y,w,u⟩,p=>by
   unfold Fo.val;rw[Fo.avJ hW n j i u (fun h k a l m=>p h ayH a l (fun c=>by
    have q:=y h k a l;simp only[Fo.vars,aK,bO] at c q;rcases c with c|c|c
    ·exact q (.inl c)
    ·exact q (.inr c)
    ·exact m c))]
   congr 1
   refine u_ fun x _=> ?_;rw[wZ (fun h k=>hW h (put j v x) (put i v x) fun a l=> ?_),Fo.avJ hW b (put j v x) (put i v x) w (fun h k a l m=> ?_)]
   ·unfold put;by_cases d:a=v
    ·rw[if_pos d,if_pos d]
    ·rw[if_neg d,if_neg d];refine p h ayH a l fun c=> ?_;have r:=s h (by simp [k]) a l;simp only[Fo.vars,aK,bO] at c;rcases c with c|c|c
     ·exact d c
     ·exact m c
     ·exact r c
   ·unfold put;by_cases d:a=v
    ·rw[if_pos d,if_pos d]
    ·rw[if_neg d,if_neg d];refine p h ayH a l fun c=> ?_;have A:=z h k a l;have r:=s h (by simp [k]) a l;simp only[Fo.vars,aK,bO] at c;rcases c with c|c|c
     ·exact d c
     ·exact A c
     ·exact r c
def Rx:=@Fo.avJ
end
end Go.Proofs.YtehkcnbodcdijaaGreatDoor
