/- Texts of the proof, part 14. -/
import Derived.Test.YtehkcnbodcdijaaGreatDoorA13
namespace Go.Proofs.YtehkcnbodcdijaaGreatDoor
set_option maxHeartbeats 8000000
set_option linter.all false
set_option maxRecDepth 100000
variable{ar:Prop}
open Go.RowKit Go.Lib Go.Maps Go.ChangeShapes Go.WideShapes Go.ChangeAt Go.Proofs.Tryz
variable{a b c d e f g h:Nat}{i j k l:List Nat}{m n o:World}{p q r s:Value}{t u v:List Value}{w x:TypeId}{y z:Nat→Option Nat}{A:Nat→List Nat}{B C:Int}{E F:Option Addr}{H I:Rat}{J:Nat→Nat}{K:Nat→Bool}{L:List Int}{N:Array Bool}{O:Option Nat}{Q:Act}{R S:Bool}{T:List UInt8}
def N9(b:List Rl)(a:Int):Nat:=(b.flatMap fun r=>r.2).count a
def Ux(a:List Rl)(c:List Int)(b:List aC):Bool:=(c.zip b).all fun q=>(q.2 != [])||N9 a q.1==1
def k8(a:List Rl)(b:List Int)(l:List Rw):List Rw:=l.filter fun y=>Ux a b y.1
def qI(n:Nat)(L:List Int):List Value:=(List.range n).map fun a:Nat=>av (L.count (a:Int):Nat)
def IM(h:b<a):(qI a L)[b]? =some (av (L.count (b:Int):Nat)):=by unfold qI;rw[dK,lV h];rfl
def ajU(h:b<a):(qI a L).set b (av ((L.count (b:Int):Nat)+1))=qI a (L++ [(b:Int)]):=by
 have d:∀L,(qI a L)=a:=fun L=>by unfold qI;simp
 refine rF fun i=> ?_;rw[pN,d];by_cases e:b=i
 ·subst e;rw[if_pos rfl,if_pos h,IM h];simp [ZL]
 ·rw[if_neg e];rcases cA i a with c|c
  ·rw[IM c,IM c,ZL];have:List.count (i:Int) [(b:Int)]=0:=List.count_eq_zero.2 axH;rw[this,kH]
  ·rw[eT (by rw[d];exact c),eT (by rw[d];exact c)]
def ai6(n:Nat):iT n (fun _=>some 0)=qI n []:=by unfold iT qI;refine kW fun a _=> ?_;simp [sA]
def T5{α β:Type}{f:α->List β}{m:Nat}:∀{l:List α},(∀x∈l,(f x).length<=m)->(l.flatMap f).length<=l.length*m
 | [],_=>by simp
 |x::l,h=>by have c:=T5 (l:=l) fun y a=>h y axx;have b:=h x Ou;rw[uV,bD,cT,oH];omega
def ana{α β:Type}{l:List α}{m:List β}(c:a<l)(b:a<m):(l.zip m).take (a+1)=(l.zip m).take a++ [(l[a],m[a])]:=by rw[fR Oc,List.getElem_zip]
def alU(v:Value)(x:aP)(i:Nat)(A0:aQ)(n0 c0:Nat)(l:List Rw)(r:Rl)(w:au)(h:dP w v x)(ok:bV x)(hl:oq w (.slice A0 n0 c0) l)(hr:x.ay[i]? =some r)(ht:∀y∈l,y.1.length=r.2)(jU:l.length<=1000):
 Calls prog 95 #[v,av i,.slice A0 n0 c0] w fun e E=>∃u,e= .returned u/\bG fg 2 fP w.heap.size E u (k8 x.ay r.2 l)/\Ext w E:=by
 obtain⟨A,c,B,d,D,e,rfl,ha,gL,hf⟩:=h;obtain⟨-,jf,lw⟩:=bl gL;obtain⟨vQ,ag4,ahp⟩:=bl hl;subst vQ;have HR:=af gL;have HL:=af hl;have HT:=af ht;have gC:=af ok.ri;have r6:=ok.r6;have a12:=ok.a12;have gp:i<x.ay.length:=(by exact UV)
 have kQ:x.ay[i]=r:=ayj;have s6:=af kQ;have qr:ah (∀r∈x.ay,r.2.length<=12):=fun r hr=>by
  have P:=FR (k:=0) (n:=x.ai.length) (ok.ra r hr) (ok.ri r hr);rcases P with P|P
  ·rw[P];simp
  ·omega
 have mF:(x.ay.flatMap fun r=>r.2).length<=72:=aV (T5 qr) Om;have sY:ah (∀a,N9 x.ay a=(x.ay.flatMap fun r=>r.2).count a):=fun _=>rfl;have mC:=M2 x.ai Om;obtain⟨RN,qi⟩:∃RN,x.ay.length=RN:=⟨_,rfl⟩;have jW:=af qi;have WP:i<RN:=Om;rw[qi] at jf HR r6⊢;obtain⟨N,hN⟩:∃N,x.ai.length=N:=⟨_,rfl⟩;rw[hN] at a12 gC mC⊢;clear qi ha gL hf ok hN hl ht kQ hr;go_enter func95,ntmps95;go_upto_region 1 with fail
 refine aR fun W HX BX=> ?_;obtain⟨s0,s1,s2,s3⟩:=BX.four;go_upto_region 2 with fail
 clear mC;refine aR fun W2 bk z=> ?_;have yG:=af (HX.trans bk);have mO:=af (BX.ext bk);have hbg:=BX.lt;clear s0 s1 s2 s3;obtain⟨s0,s1,s2,s3⟩:=mO.four;have EJ:ah (aq W2 W.heap.size aS (qI N ((x.ay.take 0).flatMap fun r=>r.2))):=by have h:=z.ae;rw[ai6] at h;exact h
 clear z BX;have Wn:w.heap.size<=W.heap.size:=Om;generalize W.heap.size=gu at*;go_upto_region 3 with fail
 clear s0 s1 s2 s3;have Hd:=af (fun k (hk:k<x.ay.length)=>rV HR hk);have HY0:ah (Only gu W2 W2):=gD gu W2;go_loopw [11,25] (fun _ v25 wr=>∃k:Nat,k<=RN/\v25=av k/\ah (aq wr gu aS (qI N ((x.ay.take k).flatMap fun r=>r.2)))/\ah (Only gu W2 wr)) (fun _ v25 _=>RN - (RowKit.intOf v25).toNat)
 exact⟨0,aU _,rfl,EJ,HY0⟩;obtain⟨k,hk,rfl,z,HY⟩:=hrel;have HE:=af (yG.only HY Wn);by_cases Pu:k<RN
 ·have t:k<x.ay.length:=by rw[jW.ae];exact Pu
  obtain⟨g,o,Bi,mi,di,hB,sT,U,Q,m⟩:=Hd k t;have G:=(HE.cell (p:=aD g (o+k*2)) sT).trans U;have F:=(HE.cell (p:=aD g (o+k*2+1)) sT).trans Q;have hm:=(bl m).1;subst hm;have X:=(bl m).2;have I:=af m;have Ev:=af (gC _ (a8 t));have KO:=qr _ (a8 t);have ow:=af (I4 (f:=fun r:Rl=>r.2) t).2;have Kz:=(I4 (f:=fun r:Rl=>r.2) t).1;clear U Q m;generalize(x.ay.take k).flatMap (fun r=>r.2)=Lk at*;generalize x.ay[k]=rk at*;obtain⟨rn,ra⟩:=rk;simp only at G F I Ev KO ow X Kz;obtain⟨M,hM⟩:∃M,ra.length=M:=⟨_,rfl⟩;have HM:=af hM;rw[hM] at F I KO X;clear hM;subst hB;go_upto_region 5 with fail
  refine aR fun W3 cE BR=> ?_;have gP:ah (aq W3 gu aS (qI N (Lk++ra.take 0))):=by rw[kG,j5];exact z.ext cE
  have HY3:=af (HY.trans (dM cE));obtain⟨b0,b1⟩:=BR.two;clear z G F;go_upto_region 6 with fail
  clear b0 b1 BR;go_loopw [11,32] (fun _ v32 wq=>∃j:Nat,j<=M/\v32=av j/\ah (aq wq gu aS (qI N (Lk++ra.take j)))/\ah (Only gu W2 wq)) (fun _ v32 _=>M - (RowKit.intOf v32).toNat);exact⟨0,aU _,rfl,gP,HY3⟩;obtain⟨j,hj,rfl,z,HY⟩:=hrel;by_cases C:j<M
  ·have d6:j<ra.length:=by rw[HM.ae];exact C
   obtain⟨g2,o2,GS,_,hc⟩:=ij (bU cJ I (yG.only HY Wn)) d6;obtain⟨q,hq⟩:∃q:Nat,ra[j]=(q:Int):=⟨ra[j].toNat,by have:=(Ev _ (a8 d6)).1;omega⟩;have sO:q<N:=by have:=(Ev _ (a8 d6)).2;omega
   have fQ:ah (Lk++ra.take (j+1)=(Lk++ra.take j)++ [(q:Int)]):=by rw[ah,fR d6,hq,jk]
   rw[hq] at hc;have hu:=z.cell (IM sO);have hf:=z.frozen q;have Ve:List.count (q:Int) (Lk++ra.take j)<=1000:=by have P:=List.count_le_length (a:=(q:Int)) (l:=Lk++ra.take j);have h2:=List.length_take_le j ra;rw[bD] at P;omega
   have HUS:=af (ajU (L:=Lk++ra.take j) sO);generalize List.count (q:Int) (Lk++ra.take j)=cn at*;obtain⟨W',hW',B7,K7,N7⟩:=fM (i:=q) z (av ((cn:Int)+1));rw[HUS.ae,<-fQ.ae] at B7;have Ej:=af hW';have ro:=af (HY.trans N7);subst GS;clear hW' K7 N7 z;go_upto_region 9 with fail
   rw[Ej.ae];clear hc hu hf;go_wp2;go_roundw;exact⟨j+1,by omega,by go_num,B7,ro⟩;simp [RowKit.intOf];omega
  ·have hT:ra.take j=ra:=dD (by have h:=HM.ae;unfold ah at h;omega);rw[hT,<-ow.ae] at z;have d1:decide ((j:Int)<(M:Int))=false:=aW;clear hT;go_wp2;go_roundw;exact⟨k+1,by omega,by go_num,z,HY⟩;simp [RowKit.intOf];omega
 ·have hT:x.ay.take k=x.ay:=dD (by have h:=jW.ae;unfold ah at h;omega);rw[hT] at z;have d1:decide ((k:Int)<(RN:Int))=false:=aW;clear hT;have HYd:ah (Only gu W2 wr):=HY;have hwz:w.heap.size<=wr.heap.size:=aV yG.size HY.size;obtain⟨wb,Gv⟩:∃b,wr.heap.size=b:=⟨_,rfl⟩;have awM:gu<wb:=by rw[<-Gv];exact z.lt
  have agZ:wb<=wr.heap.size:=E6 Gv.symm;have agT:w.heap.size<=wb:=Om;clear Gv;obtain⟨w3,rfl⟩:∃w3:World,w3=wr:=⟨_,rfl⟩;have Y5:=af (mO.only HY Om);have HRi:=af (Hd i gp);have LO:=af HE;obtain⟨gi,oi,Bi,mi,di,hB,kj,mD,sS,m⟩:=HRi.ae;have xZ:=(bl m).1;subst xZ hB;obtain⟨Dt,ahl⟩:=(bl m).2;rw[s6.ae] at mD sS m Dt;have I:=af m;have aty:=qr r (by rw[<-s6.ae];exact a8 gp);have LJ:=af (fun a (ha:a∈r.2)=>gC r (by rw[<-s6.ae];exact a8 gp) a ha);have jI:=af mD;have iA:=af sS;clear m mD sS;obtain⟨rn,ra⟩:=r;simp only at Dt aty LJ jI iA I HT⊢;go_upto_region 13 with fail
  have Es:ah (bG fg 2 fP wb w3 (.slice none 0 0) (k8 x.ay ra (l.take 0))):=ii;have bS:ah (Ext w3 w3):=aB w3;go_loopw [12,15,16,17,46] (fun v12 _ _ _ v46 wr=>∃k:Nat,k<=l/\v46=av k/\ah (bG fg 2 fP wb wr v12 (k8 x.ay ra (l.take k)))/\ah (Ext w wr)/\ah (aq wr gu aS (qI N (x.ay.flatMap fun r=>r.2)))/\ah (aq wr w.heap.size kM [.slice A N c,aG gi oi RN d,.slice D x.a_ e,av x.label])/\wb<=wr.heap.size) (fun _ _ _ _ v46 _=>l - (RowKit.intOf v46).toNat)
  exact⟨0,aU _,rfl,Es,LO,z,Y5,agZ⟩;clear z agZ;obtain⟨k,hk,rfl,HO,HX,z,BX,hsz⟩:=hrel;by_cases t:k<l
  ·obtain⟨gl,ol,Bk,dk,hAk,mE,U,Q,sZ⟩:=zC HL t;have G:=(HX.cell (p:=aD gl (ol+k*2)) mE).trans U;have F:=(HX.cell (p:=aD gl (ol+k*2+1)) mE).trans Q;have H:=HT _ (a8 t);have fQ:ah (k8 x.ay ra (l.take (k+1))=k8 x.ay ra (l.take k)++k8 x.ay ra [l[k]]):=by rw[ah,fR t];exact rB ..
   have hlk:(k8 x.ay ra (l.take k)).length<=1000:=aV (mP _ _) axw;obtain⟨Vd,OC⟩:=(bl sZ).2;clear U Q;generalize k8 x.ay ra (l.take k)=lo at*;generalize l[k]=y at*;obtain⟨O,yw⟩:=y;simp only at G F sZ H fQ Vd;subst hAk;rw[H] at G sZ Vd;go_upto_region 15 with fail
   refine aR fun W6 dR BY=> ?_;have pD:=af (HO.ext k6 dR);have J:=af (HX.trans dR);have Y8:=af (z.ext dR);have uS:=af (BX.ext dR);have hby:=BY.lt;have awg:wb<=wr.heap.size:=hsz;have P6:=af (eB sZ J);clear z BX hsz G F;generalize aw8:wr.heap.size=Z at*;obtain⟨s0,s1,s2,s3⟩:=uS.four;have q1:=(J.cell (p:=aD gi (oi+i*2)) kj).trans jI.ae;have q2:=(J.cell (p:=aD gi (oi+i*2+1)) kj).trans iA.ae;go_upto_region 17 with fail
   clear s0 s1 s2 s3 q1 q2;obtain⟨p0,p1⟩:=BY.two;go_loopw [15,16,17,57] (fun v15 _ _ v57 wq=>∃(j:Nat) (b:Bool),j<=ra/\v57=av j/\v15= .bool b/\wq=W6/\ah (b=((ra.zip O).take j).all fun q=>(q.2 != [])||N9 x.ay q.1==1)) (fun _ _ _ v57 _=>ra - (RowKit.intOf v57).toNat);exact⟨0,true,aU _,rfl,rfl,rfl,rfl⟩;obtain⟨j,b,hj,rfl,rfl,O9,Qv⟩:=hrel;have O9:=O9.symm;subst O9;by_cases C:j<ra
   ·have Ay:j<O.length:=by rw[H];exact C
    obtain⟨g2,o2,GS,_,hc⟩:=ij (bU cJ I J) C;obtain⟨g3,o3,KR,_,hv⟩:=rX P6 Ay;obtain⟨q,hq⟩:∃q:Nat,ra[j]=(q:Int):=⟨ra[j].toNat,by have:=(LJ _ (a8 C)).1;omega⟩;have sO:q<N:=by have:=(LJ _ (a8 C)).2;omega
    have hu:=Y8.cell (IM sO);have Ve:List.count (q:Int) (x.ay.flatMap fun r=>r.2)<=72:=aV List.count_le_length mF;have HZ:=af (ana C Ay);rw[hq] at HZ hc;have HUQ:=af (sY q);generalize List.count (q:Int) (x.ay.flatMap fun r=>r.2)=cn at*;generalize O[j]=v at*;subst GS KR;clear hq;have iN:ah (((ra.zip O).take (j+1)).all (fun q=>(q.2 != [])||N9 x.ay q.1==1)=(b&&((v != [])||cn==1))):=by rw[ah,HZ.ae,List.all_append,<-Qv.ae];simp only[List.all_cons,List.all_nil,Rm,HUQ.ae]
    go_upto_region 19 with fail
    cases b
    ·go_wp2;go_roundw;exact⟨j+1,false,by omega,by go_num,by first|rfl|trivial,by first|rfl|trivial,by rw[ah,iN.ae];rfl⟩;simp [RowKit.intOf];omega
    ·by_cases hv0:v= []
     ·subst hv0;by_cases P:cn=1
      ·subst P;go_wp2;go_roundw;exact⟨j+1,true,by omega,by go_num,by first|rfl|trivial,by first|rfl|trivial,by rw[ah,iN.ae];rfl⟩;simp [RowKit.intOf];omega
      ·have h2:((cn:Int)==1)=false:=beq_eq_false_iff_ne.2 Om;go_wp2;go_roundw;exact⟨j+1,false,by omega,by go_num,by first|rfl|trivial,by first|rfl|trivial,by rw[ah,iN.ae,show(cn==1)=false from beq_eq_false_iff_ne.2 P];rfl⟩;simp [RowKit.intOf];omega
     ·have hv2:(v== [])=false:=beq_eq_false_iff_ne.2 hv0;go_wp2;go_roundw;exact⟨j+1,true,by omega,by go_num,by first|rfl|trivial,by first|rfl|trivial,by rw[ah,iN.ae,bne,hv2];rfl⟩;simp [RowKit.intOf];omega
   ·have hz:(ra.zip O).take j=ra.zip O:=dD (by simp only[List.length_zip];omega);rw[hz] at Qv;have d1:decide ((j:Int)<(ra.length:Int))=false:=aW;clear hz;cases b
    ·have Vu:ah (k8 x.ay ra (l.take (k+1))=lo):=by rw[ah,fQ.ae,k8,qy,show Ux x.ay ra O=false from Qv.symm];simp
     go_wp2;go_roundw;exact⟨k+1,by omega,by go_num,by rw[Vu.ae];exact pD,J,Y8,uS,by omega⟩;simp [RowKit.intOf];omega
    ·have Vu:ah (k8 x.ay ra (l.take (k+1))=lo++ [(O,yw)]):=by rw[ah,fQ.ae,k8,qy,show Ux x.ay ra O=true from Qv.symm];simp
     go_upto_region 22 with fail
     have CT:=af (abn Bk ra dk O);obtain⟨A0,c0',xsO,rfl,hoc,hom,_,_⟩:=pD.parts;obtain⟨S,fA⟩:∃S:World->Prop,S=fun E=>aA E Z 0 (.slice Bk ra dk)/\aA E Z 1 (av yw):=⟨_,rfl⟩;have bK:ah (∀E,S E->aA E Z 0 (.slice Bk ra dk)/\aA E Z 1 (av yw)):=axt;have cF:ah (∀E,aq E Z fg [.slice Bk ra dk,av yw]->S E):=by rw[ah,fA];exact fun E P=>⟨P.aF 0,P.aF 1⟩
     clear fA;have yi:ah (Ext W6 W6.drew):=(aB W6).drew;have aJ:ah (S W6.drew):=cF _ (BY.ext yi);refine cG (S:=S) (T:=fun j=>decide (8<=j)) Ok ?_;generalize W6.drew=wd at*;refine ax 0 80 ?_;refine ax 1 81 ?_;refine ax 2 82 ?_;refine ax 4 84 ?_;refine ax 5 85 ?_;refine aO 3 ?_;intro K Y;go_simp;refine(CT wd (eB P6 yi) Om).mono ?_;rintro e8 w8 ⟨A8,c8,rfl,hT8,fp⟩;have Vr:=af (yi.trans fp);have eQ:=af (cF _ (BY.ext Vr));have XQ:=af hT8;refine Y.ae _ _ (fun _=>eQ.ae) ?_;clear Y fp hT8;have aJ:=eQ;refine ax 6 86 ?_;refine aO 7 ?_;intro K Y;go_simp;refine Y.ae _ _ (fun _=>cF _ (BY.ext (Vr.alloc _))) ?_;refine aR fun WZ cI BZ=> ?_;have pz:=af (Vr.trans cI);have BUZ:=af (Y8.ext pz);have BXZ:=af (uS.ext pz);have HEZ:=af (J.trans pz);have HOZ:=af (pD.ext k6 pz);have Em:=af (eB XQ cI);clear Y;obtain⟨_,_,xsO,ee,_,_,i4,tk⟩:=HOZ.parts;injection ee with uy _ ux;subst uy ux;have dC:(lo.length+1)*32<=140737488355328:=Om;have hwz:wb<=WZ.heap.size:=by have:=pz.size;omega
     refine jM 8 Ok ?_;intro oo nx K Y;simp only[eR,dX,dA,dl] at nx;subst nx;refine nV rfl ?_;refine rU _ _ lI rfl wb Cq _ _ _ rfl i4.ae _ [.slice A8 ra c8,av yw] BZ.ae 1 1 rfl rfl rfl dC hwz ?_;intro v' DI V s _;obtain⟨H_,c12,rfl,_,_,_⟩:=eL V;have hTe:(A8,ra.length)=(A8,O.length):=by rw[H]
     have O12:=af (iF (R:=fP) (x:=(O,yw)) k6 (fun u hu=>by rw[bE.1 hu];decide) i4 tk ⟨A8,c8,by rw[H],by rw[H];exact Em.ae⟩ V s);have avA:=af (gK BUZ i4 s Om);have avz:=af (gK BXZ i4 s Om);have au9:=af (kI HEZ i4 s agT);have Ds:wb<=DI.heap.size:=aV hwz s.size;clear V s hTe;simp only[Act.put,eo,d9,ep];refine Y.ae _ _ Oe ?_;clear Y BZ;refine aO 9 ?_;intro K Y;go_simp;refine Y.ae _ _ Oe ?_;refine bY Ok ?_;clear Y;go_wp2_with fail
     go_roundw;exact⟨k+1,by omega,by go_num,by rw[Vu.ae];exact O12,au9,avA,avz,Ds⟩;simp [RowKit.intOf];omega
  ·have hT:l.take k=l:=dD Om;rw[hT] at HO;have d1:decide ((k:Int)<(l.length:Int))=false:=aW;clear hT;have yx:=af (HO.lower agT);obtain⟨Ao,co,xo,rfl,_,_,_,_⟩:=HO.parts;go_wp2;exact bodyPost_ret (v:= .slice Ao (k8 x.ay ra l) co) (by simp [results,results95,go_sem]) rfl ⟨_,rfl,yx,HX⟩
def bZ(l:List Int):List Nat:=l.map Int.toNat
def tV(n:Nat)(b:Nat->aC):List Value:=(List.range n).map fun a=>aM (b a)
def fU(n:Nat)(b:Nat->Bool):List Value:=(List.range n).map fun a=> .bool (b a)
def M0{cur:Nat->aC}(h:b<a):(tV a cur)[b]? =some (aM (cur b)):=by unfold tV;rw[dK,lV h];rfl
def qC{on:Nat->Bool}(h:b<a):(fU a on)[b]? =some (.bool (on b)):=by unfold fU;rw[dK,lV h];rfl
def abP{f g:Nat->Value}(h:b<a)(j:∀c,c≠b->g c=f c):((List.range a).map f).set b (g b)=(List.range a).map g:=by
 refine rF fun i=> ?_;rw[pN,bP,i7];by_cases e:b=i
 ·subst e;rw[if_pos rfl,if_pos h,dK,lV h];rfl
 ·rw[if_neg e,dK,dK];rcases cA i a with d|d
  ·rw[lV d];show some (f i)=some (g i)
   rw[j i fun h=>e h.symm]
  ·rw[eT (by rw[i7];exact d)];rfl
def akn{d:Nat->aC}{t:aC}(h:b<a):(tV a d).set b (aM t)=tV a (put d b t):=by
 have j:put d b t b=t:=by simp [put]
 have e:=abP (f:=fun c=>Value.string ⟨(d c).toArray⟩) (g:=fun c=>Value.string ⟨(put d b t c).toArray⟩) h fun c i=>by simp [put,i]
 simp only[j] at e;exact e
def MU(h:b<a):(fU a K).set b (.bool R)=fU a (fun c=>if c=b then R else K c):=by
 have d:=abP (f:=fun c=>Value.bool (K c)) (g:=fun c=>Value.bool (if c=b then R else K c)) h fun c e=>by rw[if_neg e]
 simp only[if_pos] at d;exact d
structure yf(oN oS:Nat)(w:au)(xb jb nb sb:Nat)(x:aP)(cur:Nat->aC)(on:Nat->Bool):Prop where
 xl:xb<w.heap.size
 jl:jb<w.heap.size
 jn:aA w xb 0 (aI jb 0)
 nw:aA w xb oN (aG nb 0 x.ai.length x.ai.length)
 st:aA w xb oS (aG sb 0 x.ai.length x.ai.length)
 nc:aq w nb bC (tV x.ai.length cur)
 sc:aq w sb fV (fU x.ai.length on)
 jr:∃B d,aA w jb 1 (.slice B x.ay.length d)/\ah (yh w (.slice B x.ay.length d) x.ay)
def yf.ext{w':au}{x:aP}{cur:Nat->aC}{on:Nat->Bool}(h:yf a b m c d e f x cur on)(i:Ext m w'):yf a b w' c d e f x cur on:=
 ⟨cy h.xl i.size,cy h.jl i.size,(i.cell h.xl).trans h.jn,(i.cell h.xl).trans h.nw,(i.cell h.xl).trans h.st,h.nc.ext i,h.sc.ext i,by obtain⟨B,g,k,j⟩:=h.jr;exact⟨B,g,(i.cell h.jl).trans k,bU oJ j i⟩⟩
def afo(h:ar:=by
 have gp:i<x.ay.length:=(by exact UV);have kQ:x.ay[i]=r:=ayj;obtain⟨rn,ra⟩:=r;have ou:=af o7;simp only at hv ou⊢;rw[hv] at hT⊢;obtain⟨Vd,OC⟩:=(bl hT).2;have HT:=af hT;obtain⟨sM,d6,kR,hnw,hst,DZ,hsc,B,d,D3,HR⟩:=h;have HNC:=af DZ;have mH:=af hsc;obtain⟨gi,oi,Bi,mi,di,hB,kj,mD,sS,jV⟩:=rV HR gp;have xZ:=(bl jV).1;obtain⟨-,jf,lw⟩:=bl HR;subst xZ hB;obtain⟨Dt,ahl⟩:=(bl jV).2;rw[kQ] at mD sS jV Dt;have d_:=af jV;simp only at mD sS d_ Dt;clear kQ hr o7 hT DZ hsc jV;generalize x.ay.length=RN at*;generalize x.ai.length=N at*;have hL:ah (∀j:Nat,j<=ra->True):=fun _ _=>trivial;go_enter zL,zK;go_upto_region 1 with fail
 refine aR fun W HX BY=> ?_;obtain⟨q0,q1⟩:=BY.two;have c1:=(HX.cell (p:=aD xb 0) sM).trans kR;have c2:=(HX.cell (p:=aD xb oX) sM).trans hnw;have c3:=(HX.cell (p:=aD xb oW) sM).trans hst;have c4:=(HX.cell (p:=aD jb 1) d6).trans D3;have c5:=(HX.cell (p:=aD gi (oi+i*2)) kj).trans mD;have c6:=(HX.cell (p:=aD gi (oi+i*2+1)) kj).trans sS;clear kR hnw hst D3 mD sS;go_upto_region 2 with fail
 clear c1 c4 c5 c6;have LY:ah (eh on cur (bZ ra) vs=eh on cur (bZ (ra.drop 0)) (vs.drop 0)):=rfl;go_loopw [7,8,22] (fun _ _ v22 wr=>∃j:Nat,j<=ra/\v22=av j/\(∃m,wr=W.drewN m)/\ah (eh on cur (bZ ra) vs=eh on cur (bZ (ra.drop j)) (vs.drop j))) (fun _ _ v22 _=>ra - (RowKit.intOf v22).toNat)
 exact⟨0,aU _,rfl,⟨0,rfl⟩,LY⟩;obtain⟨j,hj,rfl,⟨m,rfl⟩,HA⟩:=hrel;by_cases qW:j<ra
 ·have Ay:j<vs.length:=by rw[hv];exact qW
  obtain⟨g2,o2,GS,_,hc⟩:=ij (bU cJ d_ HX) qW;obtain⟨g3,o3,KR,hg3,hv3⟩:=rX (n:=ra) (bU jO HT HX) Ay;obtain⟨q,hq⟩:∃q:Nat,ra[j]=(q:Int):=⟨ra[j].toNat,by have:=(ou _ (a8 qW)).1;omega⟩;have sO:q<N:=by have:=(ou _ (a8 qW)).2;omega
  have HAS:ah (eh on cur (bZ (ra.drop j)) (vs.drop j)=((!(on q)||cur q==vs[j])&&eh on cur (bZ (ra.drop (j+1))) (vs.drop (j+1)))):=(by rw[ah,jK qW,jK Ay,hq];rfl);rw[hq] at hc;have hs:=(mH.ext HX).cell (qC (on:=on) sO);have hn:=(HNC.ext HX).cell (M0 (cur:=cur) sO);generalize vs[j]=v at*;generalize cur q=u at*;generalize on q=b at*;subst GS KR;clear hq;cases b
  ·go_upto_region 4 with fail
   exact af'
  ·by_cases he:u=v
   ·subst he;go_upto_region 4 with fail
    exact af'
   ·have he2:(u==v)=false:=beq_eq_false_iff_ne.2 he;have HF:ah (eh on cur (bZ ra) vs=false):=by rw[ah,HA.ae,HAS.ae,he2];rfl
    go_upto_region 4 with fail
    go_quiet (fail);go_wp2;exact bodyPost_ret (v:= .bool false) axX rfl ⟨by rw[HF.ae],(HX.drewN _).drewN _⟩
 ·have d1:decide ((j:Int)<(ra.length:Int))=false:=aW;have HF:ah (eh on cur (bZ ra) vs=true):=by rw[ah,HA.ae,Ic Om];rfl
  go_wp2;exact bodyPost_ret (v:= .bool true) axX rfl ⟨by rw[HF.ae],HX.drewN _⟩):=h
abbrev Js.zL:= @func278
abbrev Js.zK:= @ntmps278
abbrev Js.vE:= @results278
abbrev Js.oX:=(13:Nat)
abbrev Js.oW:=(14:Nat)
open Js in
def TH(xb jb nb sb i:Nat)(x:aP)(cur:Nat->aC)(on:Nat->Bool)(r:Rl)(Bk:aQ)(dk:Nat)(vs:List aC)(wt:Int)(w:au)(h:yf 13 14 w xb jb nb sb x cur on)(hr:x.ay[i]? =some r)(o7:∀a∈r.2,0<=a/\a<(x.ai.length:Int))(hv:vs.length=r.2)(hT:TL w (.slice Bk vs dk) vs):
 Calls prog 278 #[aI xb 0,av i,.agg #[.slice Bk vs dk,av wt]] w fun e w'=>e= .returned (.bool (eh on cur (bZ r.2) vs))/\Ext w w':=afo
abbrev Jr.zL:= @func331
abbrev Jr.zK:= @ntmps331
abbrev Jr.vE:= @results331
abbrev Jr.oX:=(19:Nat)
abbrev Jr.oW:=(20:Nat)
open Jr in
def TD(xb jb nb sb i:Nat)(x:aP)(cur:Nat->aC)(on:Nat->Bool)(r:Rl)(Bk:aQ)(dk:Nat)(vs:List aC)(wt:Int)(w:au)(h:yf 19 20 w xb jb nb sb x cur on)(hr:x.ay[i]? =some r)(o7:∀a∈r.2,0<=a/\a<(x.ai.length:Int))(hv:vs.length=r.2)(hT:TL w (.slice Bk vs dk) vs):
 Calls prog 331 #[aI xb 0,av i,.agg #[.slice Bk vs dk,av wt]] w fun e w'=>e= .returned (.bool (eh on cur (bZ r.2) vs))/\Ext w w':=afo
def je(P:Nat->Bool)(n:Nat):Int:=match (List.range n).find? P with
 |some k=>(k:Int)
 |none=> -1
def akT(e:b<a)(c:K b=true)(f:∀k,k<b->K k=false):(List.range a).find? K=some b:=by rw[Zo];exact⟨c,by simpa using e,fun k d=>by rw[f k d];rfl⟩
def aqf(c:∀k,k<a->K k=false):(List.range a).find? K=none:=by rw[wR];intro k b;rw[c k axG];simp
def I2(d:b<a)(c:K b=true)(e:∀k,k<b->K k=false):je K a=(b:Int):=by unfold je;rw[akT d c e]
def I3(b:∀k,k<a->K k=false):je K a= -1:=by unfold je;rw[aqf b]
def Nq{P:Nat->Bool}{n:Nat}:decide (je P n≥0)=(List.range n).any P:=by
 unfold je;cases h:(List.range n).find? P with
 |some k=>have a:=yV h;have b:=wT h;rw[mU.2 ⟨k,a,b⟩];exact decide_eq_true (Int.natCast_nonneg k)
 |none=>have a:=wR.1 h;rw[show(List.range n).any P=false from Q7.2 a];rfl
def adF(a:FuncId)(hid:∀d w,(callFunc a d).run prog w= .ok (.enter a d) w)(i f:Value)(b:Nat->Value)(P:Nat->Bool)(I:World->Prop)(A:aQ)(n c:Nat)(w:au)(h0:I w)(l:n<=c)(hm:c<=maxLen)
 (hV:∀W k,I W->k<n->∃g o,A=some ⟨g,o,none⟩/\W.cell? ⟨g,o+k,none⟩=some (b k))
 (hF:∀W k,I W->k<n->Calls prog a #[b k,i,f] W fun e w'=>e= .returned (.bool (P k))/\I w'):
 Calls prog 277 #[.slice A n c,.func (.func a) #[] #[i,f]] w fun e w'=>e= .returned (.int .i64 (je P n))/\I w':=by
 exact m17
def adE(a:FuncId)(hid:∀d w,(callFunc a d).run prog w= .ok (.enter a d) w)(l i f:Value)(b:Nat->Value)(P:Nat->Bool)(I:World->Prop)(A:aQ)(n c:Nat)(w:au)(h0:I w)(m:n<=c)(hm:c<=maxLen)
 (hV:∀W k,I W->k<n->∃g o,A=some ⟨g,o,none⟩/\W.cell? ⟨g,o+k,none⟩=some (b k))
 (hF:∀W k,I W->k<n->Calls prog a #[b k,l,i,f] W fun e w'=>e= .returned (.bool (P k))/\I w'):
 Calls prog 277 #[.slice A n c,.func (.func a) #[] #[l,i,f]] w fun e w'=>e= .returned (.int .i64 (je P n))/\I w':=by
 exact m17
def adG(d:FuncId)(hid:∀i w,(callFunc d i).run prog w= .ok (.enter d i) w)(x:Value)(f:Nat->Value)(P:Nat->Bool)(I:World->Prop)(A:aQ)(n c:Nat)(w:au)(B:I w)(K:n<=c)(E:c<=maxLen)
 (y:∀W k,I W->k<n->∃g o,A=some ⟨g,o,none⟩/\W.cell? ⟨g,o+k,none⟩=some (f k))
 (hF:∀W k,I W->k<n->Calls prog d #[f k,x] W fun e p=>e= .returned (.bool (P k))/\I p):
 Calls prog 111 #[.slice A n c,.func (.func d) #[] #[x]] w fun e p=>e= .returned (.int .i64 (je P n))/\I p:=by
 have G:=af y;have H:=af hF;have D:c<=9223372036854775807:=E;have s:=af B;clear y hF B;go_enter func111,ntmps111;go_upto_region 2 with fail
 have u:ah (∀k,k<0->P k=false):=fun k hk=>by omega
 go_loopw [5,8] (fun _ r wr=>∃j:Nat,j<=n/\r= .int .i64 j/\ah (I wr)/\ah (∀k,k<j->P k=false)) (fun _ r _=>n - (RowKit.intOf r).toNat)
 exact⟨0,aU _,rfl,s,u⟩;obtain⟨j,J,rfl,t,HB⟩:=hrel;by_cases l:j<n
 ·obtain⟨g,o,F,a⟩:=G _ _ t l;try obtain⟨a,q⟩:=a
  have C:=H _ _ t l;subst F;go_wp2_with fail;refine C.mono ?_;rintro e p ⟨rfl,z⟩;have nH:=af z;clear z C a;cases hp:P j with
  |true=>have b:=I2 l hp HB;go_wp2;exact bodyPost_ret (v:= .int .i64 j) (by simp [results,results111,go_sem]) rfl ⟨by rw[b],nH⟩
  |false=>clear hid;exact OX
 ·have d1:decide ((j:Int)<(n:Int))=false:=aW;have m:j=n:=Om;subst m;have b:=I3 HB;go_wp2;exact bodyPost_ret (v:= .int .i64 (-1)) (by simp [results,results111,go_sem]) rfl ⟨by rw[b],t⟩
def aoD(d:FuncId)(hid:∀f w,(callFunc d f).run prog w= .ok (.enter d f) w)(x u:Value)(D C:Nat->Value)(P:Nat->Bool)(I:World->Prop)(A:aQ)(n c:Nat)(w:au)(B:I w)(M:n<=c)(G:c<=maxLen)
 (y:∀W k,I W->k<n->∃g o,A=some ⟨g,o,none⟩/\(W.cell? ⟨g,o+k*2,none⟩=some (D k)/\W.cell? ⟨g,o+k*2+1,none⟩=some (C k)))
 (hF:∀W k,I W->k<n->Calls prog d #[.agg #[D k,C k],x,u] W fun e m=>e= .returned (.bool (P k))/\I m):
 Calls prog 364 #[.slice A n c,.func (.func d) #[] #[x,u]] w fun e m=>e= .returned (.int .i64 (je P n))/\I m:=by
 have J:=af y;have K:=af hF;have F:c<=9223372036854775807:=G;have r:=af B;clear y hF B;go_enter func364,ntmps364;go_upto_region 2 with fail
 have t:ah (∀k,k<0->P k=false):=fun k hk=>by omega
 go_loopw [5,8] (fun _ q wr=>∃j:Nat,j<=n/\q= .int .i64 j/\ah (I wr)/\ah (∀k,k<j->P k=false)) (fun _ q _=>n - (RowKit.intOf q).toNat)
 exact⟨0,aU _,rfl,r,t⟩;obtain⟨j,L,rfl,s,HB⟩:=hrel;by_cases i:j<n
 ·obtain⟨g,o,H,a⟩:=J _ _ s i;try obtain⟨a,p⟩:=a
  have E:=K _ _ s i;subst H;go_wp2_with fail;refine E.mono ?_;rintro e m ⟨rfl,z⟩;have nH:=af z;clear z E a;cases hp:P j with
  |true=>have b:=I2 i hp HB;go_wp2;exact bodyPost_ret (v:= .int .i64 j) (by simp [results,results364,go_sem]) rfl ⟨by rw[b],nH⟩
  |false=>clear hid;exact OX
 ·have d1:decide ((j:Int)<(n:Int))=false:=aW;have l:j=n:=Om;subst l;have b:=I3 HB;go_wp2;exact bodyPost_ret (v:= .int .i64 (-1)) (by simp [results,results364,go_sem]) rfl ⟨by rw[b],s⟩
def ao1(a:FuncId)(hid:∀d w,(callFunc a d).run prog w= .ok (.enter a d) w)(i h:Value)(l j:Nat->Value)(P:Nat->Bool)(I:World->Prop)(A:aQ)(n c:Nat)(w:au)(r:I w)(t:n<=c)(s:c<=maxLen)
 (p:∀W k,I W->k<n->∃g o,A=some ⟨g,o,none⟩/\(W.cell? ⟨g,o+k*2,none⟩=some (l k)/\W.cell? ⟨g,o+k*2+1,none⟩=some (j k)))
 (hF:∀W k,I W->k<n->Calls prog a #[.agg #[l k,j k],i,h] W fun e f=>e= .returned (.bool (P k))/\I f):
 Calls prog 326 #[.slice A n c,.func (.func a) #[] #[i,h]] w fun e f=>e= .returned (.bool ((List.range n).any P))/\I f:=by
 have x:=af (aoD a hid i h l j P I A n c w r t s p hF);clear p hF r hid;have m:=Nq (P:=P) (n:=n);generalize(List.range n).any P=b at*;generalize je P n=z at*;go_enter func326,ntmps326;go_wp2_with fail
 refine x.mono ?_;rintro e f ⟨rfl,q⟩;have u:=af q;clear q;go_wp2;exact bodyPost_ret (v:= .bool b) (by simp [results,results326,go_sem]) rfl ⟨rfl,u⟩
def SU{g:Nat}{t:TypeId}:∀(b:List Value) {w:au} {o:Nat} {l:List Value},aq w g t l->∃a,aq (w.setCells g o b) g t a/\a.length=l/\a.take o=l.take o/\Only g w (w.setCells g o b)
 | [],w,o,l,h=>⟨l,h,rfl,rfl,gD g w⟩
 |v::r,w,o,l,h=>by obtain⟨a,i,f,e,d⟩:=SU r (o:=o+1) (h.bh o v);refine⟨a,i,by rw[f,tM],?_,((gD g w).bh o v).trans d⟩;have c:=congrArg (List.take o) e;rw[My,My,i9 (mX o),List.take_set_of_le (aL _)] at c;exact c
def abG{v:Value}(b:a<t):(t.set a v).take (a+1)=t.take a++ [v]:=by rw[fR (by rw[tM];exact b),List.getElem_set_self,List.take_set_of_le (aL _)]
def alx(w:au)(a:TypeId)(b o n c:Nat)(d:0<n)(f:∀j,j<n->(w.cell? ⟨b,o+j,none⟩).isSome=true)(e:∀j,j<n->w.frozen? ⟨b,o+j,none⟩=false):
 (Builtin.clear_ #[nS] a #[.slice (some ⟨b,o,none⟩) n c]).run prog w= .ok (.tuple #[]) (w.setCells b o (List.replicate n (.string ⟨#[]⟩))):=
 Lib.run_clear_slice w nS bC a (.string ⟨#[]⟩) underlying67 (fun w=>by kernel_rfl) rfl rfl b o n c d f e
def q62.k66(h:ar:=by
 have CI:=adE a hid n m f (fun k=>((l.map (fun v:aC=>Value.string ⟨v.toArray⟩))[k]?).getD undef) pr (fun W=>I W/\aq W g bC (l.map (fun v:aC=>Value.string ⟨v.toArray⟩)++rest)) (some ⟨g,0,none⟩) l.length c w ⟨h0,hB⟩ q hm
  (fun W k h hk=>⟨g,0,rfl,by rw[jL,AC W k h.2 hk,dK,aX hk];rfl⟩)
  (fun W k h hk=>by have h1:=hF W l[k] _ h.1 (a8 hk) h.2;rw[dK,aX hk,DW k hk];exact h1.mono fun e w' p=>⟨p.1,p.2.1,p.2.2⟩)
 exact m2):=h
def aoP(a:FuncId)(hid:∀b w,(callFunc a b).run prog w= .ok (.enter a b) w)(n m f:Value)(Q:aC->Bool)(I:World->Prop)(g c:Nat)(l:List aC)(rest:List Value)(w:au)(h0:I w)(hB:aq w g bC (l.map (fun v:aC=>Value.string ⟨v.toArray⟩)++rest))(q:l<=c)(hm:c<=maxLen)
 (hC:∀W W',I W->Only g W W'->I W')
 (hF:∀W v ys,I W->v∈l->aq W g bC ys->Calls prog a #[(fun v:aC=>Value.string ⟨v.toArray⟩) v,n,m,f] W fun e w'=>e= .returned (.bool (Q v))/\I w'/\aq w' g bC ys):
 Calls prog 233 #[.slice (some ⟨g,0,none⟩) l c,.func (.func a) #[] #[n,m,f]] w fun e w'=>e= .returned (.slice (some ⟨g,0,none⟩) (l.filter fun v=> !Q v) c)/\I w'/\∃d,aq w' g bC ((l.filter fun v=> !Q v).map (fun v:aC=>Value.string ⟨v.toArray⟩)++d):=by
 open q62 in exact m66
def adQ(d:FuncId)(hid:∀f w,(callFunc d f).run prog w= .ok (.enter d f) w)(i:Value)(a:Nat->Value)(P:Nat->Bool)(I:World->Prop)(A:aQ)(n c:Nat)(w:au)(p:I w)(r:n<=c)(q:c<=maxLen)
 (l:∀W k,I W->k<n->∃g o,A=some ⟨g,o,none⟩/\W.cell? ⟨g,o+k,none⟩=some (a k))
 (hF:∀W k,I W->k<n->Calls prog d #[a k,i] W fun e h=>e= .returned (.bool (P k))/\I h):
 Calls prog 51 #[.slice A n c,.func (.func d) #[] #[i]] w fun e h=>e= .returned (.bool ((List.range n).any P))/\I h:=by
 have t:=af (adG d hid i a P I A n c w p r q l hF);clear l hF p hid;have j:=Nq (P:=P) (n:=n);generalize(List.range n).any P=b at*;generalize je P n=z at*;go_enter func51,ntmps51;go_wp2_with fail
 refine t.mono ?_;rintro e h ⟨rfl,m⟩;have s:=af m;clear m;go_wp2;exact bodyPost_ret (v:= .bool b) (by simp [results,results51,go_sem]) rfl ⟨rfl,s⟩
def q63.k66(h:ar:=by
 have CI:=adF a hid m f (fun k=>((l.map (fun v:aC=>Value.string ⟨v.toArray⟩))[k]?).getD undef) pr (fun W=>I W/\aq W g bC (l.map (fun v:aC=>Value.string ⟨v.toArray⟩)++rest)) (some ⟨g,0,none⟩) l.length c w ⟨h0,hB⟩ p hm
  (fun W k h hk=>⟨g,0,rfl,by rw[jL,AC W k h.2 hk,dK,aX hk];rfl⟩)
  (fun W k h hk=>by have h1:=hF W l[k] _ h.1 (a8 hk) h.2;rw[dK,aX hk,DW k hk];exact h1.mono fun e w' n=>⟨n.1,n.2.1,n.2.2⟩)
 exact m2):=h
def aoR(a:FuncId)(hid:∀b w,(callFunc a b).run prog w= .ok (.enter a b) w)(m f:Value)(Q:aC->Bool)(I:World->Prop)(g c:Nat)(l:List aC)(rest:List Value)(w:au)(h0:I w)(hB:aq w g bC (l.map (fun v:aC=>Value.string ⟨v.toArray⟩)++rest))(p:l<=c)(hm:c<=maxLen)
 (hC:∀W W',I W->Only g W W'->I W')
 (hF:∀W v ys,I W->v∈l->aq W g bC ys->Calls prog a #[(fun v:aC=>Value.string ⟨v.toArray⟩) v,m,f] W fun e w'=>e= .returned (.bool (Q v))/\I w'/\aq w' g bC ys):
 Calls prog 233 #[.slice (some ⟨g,0,none⟩) l c,.func (.func a) #[] #[m,f]] w fun e w'=>e= .returned (.slice (some ⟨g,0,none⟩) (l.filter fun v=> !Q v) c)/\I w'/\∃d,aq w' g bC ((l.filter fun v=> !Q v).map (fun v:aC=>Value.string ⟨v.toArray⟩)++d):=by
 open q63 in exact m66
def amE(w:au)(a:TypeId)(b o n c:Nat)(d:0<n)(f:∀j,j<n->(w.cell? ⟨b,o+j,none⟩).isSome=true)(e:∀j,j<n->w.frozen? ⟨b,o+j,none⟩=false):
 (Builtin.clear_ #[cK] a #[.slice (some ⟨b,o,none⟩) n c]).run prog w= .ok (.tuple #[]) (w.setCells b o (List.replicate n (.int .i64 0))):=
 Lib.run_clear_slice w cK aS a (.int .i64 0) underlying22 (fun w=>by kernel_rfl) rfl rfl b o n c d f e
def aoS(r:FuncId)(hid:∀A w,(callFunc r A).run prog w= .ok (.enter r A) w)(p1:Value)(Q:Int->Bool)(I:World->Prop)(g c:Nat)(l:List Int)(rest:List Value)(w:au)(h0:I w)(hB:aq w g aS (l.map (fun v:Int=>Value.int .i64 v)++rest))(hc:l<=c)(hm:c<=maxLen)
 (hC:∀W W',I W->Only g W W'->I W')
 (hF:∀W v J,I W->v∈l->aq W g aS J->Calls prog r #[(fun v:Int=>Value.int .i64 v) v,p1] W fun e z=>e= .returned (.bool (Q v))/\I z/\aq z g aS J):
 Calls prog 285 #[.slice (some ⟨g,0,none⟩) l c,.func (.func r) #[] #[p1]] w fun e z=>e= .returned (.slice (some ⟨g,0,none⟩) (l.filter fun v=> !Q v) c)/\I z/\∃B,aq z g aS ((l.filter fun v=> !Q v).map (fun v:Int=>Value.int .i64 v)++B):=by
 obtain⟨C,E⟩:∃C:Nat->Bool,C=fun k=>(l[k]?.map Q).getD false:=⟨_,rfl⟩;have p:∀k (a:k<l.length),C k=Q l[k]:=fun k a=>by rw[E];simp only[aX a];rfl
 have U:∀W k,aq W g aS (l.map (fun v:Int=>Value.int .i64 v)++rest)->(a:k<l.length)->W.cell? ⟨g,k,none⟩=some ((fun v:Int=>Value.int .i64 v) l[k]):=fun W k h a=>h.cell (by rw[oD (by rw[bP];exact a),dK,aX a];rfl);have CI:=adG r hid p1 (fun k=>((l.map (fun v:Int=>Value.int .i64 v))[k]?).getD undef) C (fun W=>I W/\aq W g aS (l.map (fun v:Int=>Value.int .i64 v)++rest)) (some ⟨g,0,none⟩) l.length c w ⟨h0,hB⟩ hc hm
  (fun W k h a=>⟨g,0,rfl,by rw[jL,U W k h.2 a,dK,aX a];rfl⟩)
  (fun W k h a=>by have x:=hF W l[k] _ h.1 (a8 a) h.2;rw[dK,aX a,p k a];exact x.mono fun e z hh=>⟨hh.1,hh.2.1,hh.2.2⟩)
 have H:=af CI;have HF:=af hF;have HW:=af hC;have n_:c<=9223372036854775807:=hm;have KN:(l.map (fun v:Int=>Value.int .i64 v)++rest).length=(l.map (fun v:Int=>Value.int .i64 v)++rest).length:=rfl;clear CI hF hC U;generalize D:l.map (fun v:Int=>Value.int .i64 v)++rest=b at*;have G:=af D;have hL0:l<=b.length:=by rw[<-D,bD,bP];omega
 clear D KN;rcases d:(List.range l).find? C with _|n
 ·have N:je C l= -1:=by unfold je;rw[d]
  have S:l.filter (fun v=> !Q v)=l:=Ml.2 fun v hv=>by obtain⟨k,a,rfl⟩:=iE hv;have x:=wR.1 d k axB;rw[p k a] at x;simpa using x
  rw[N] at H;have uM:=af S;clear d N E p S;go_enter func285,ntmps285;go_wp2_with fail
  refine H.mono ?_;rintro e z ⟨rfl,Z,f⟩;have s:=af Z;have u:=af f;clear Z f;go_wp2;exact bodyPost_ret (v:= .slice (some ⟨g,0,none⟩) l c) (by simp [results,results285,go_sem]) rfl ⟨by rw[uM.ae],s,rest,by rw[uM.ae,G.ae];exact u.ae⟩
 ·have P:n<l.length:=by simpa using yV d
  have N:je C l.length=(n:Int):=by unfold je;rw[d]
  have O:Q l[n]=true:=by rw[<-p n P];exact wT d
  have V:∀k (a:k<l.length),k<n->Q l[k]=false:=fun k a q=>by have x:=(Zo.1 d).2.2 k q;rw[p k a] at x;simpa using x
  have T:(l.take (n+1)).filter (fun v=> !Q v)=l.take n:=(by rw[fR P,rB,qy,O];simp only[E2,Q5,if_false,Mw,j5];refine Ml.2 fun v hv=> ?_;obtain⟨k,a,rfl⟩:=iE hv;rw[cO] at a;rw[EP,V k Om Om];rfl);have hne:((n:Int)== -1)=false:=beq_eq_false_iff_ne.2 Om;rw[N] at H;have LM:=af T;clear d N E p O V T h0 hB;go_enter func285,ntmps285;go_wp2_with fail
  refine H.mono ?_;rintro e z ⟨rfl,Z,f⟩;have s:=af Z;have u:=af f;clear Z f;go_upto_region 5 with fail
  have LY:ah (b.take n=((l.take (n+1)).filter fun v=> !Q v).map (fun v:Int=>Value.int .i64 v)):=(by rw[ah,LM.ae,<-G.ae,QM axL,E1]);have LG:ah (((l.take (n+1)).filter fun v=> !Q v)=n):=by rw[ah,LM.ae,cO];omega
  go_loopw [5,6,7] (fun v5 v6 _ wr=>∃(i j:Nat) (m:List Value),i<j/\j<=l/\v5= .int .i64 i/\v6= .int .i64 j/\m.length=b/\ah (m.take i=((l.take j).filter fun v=> !Q v).map (fun v:Int=>Value.int .i64 v))/\ah (((l.take j).filter fun v=> !Q v)=i)/\ah (m.drop j=b.drop j)/\ah (aq wr g aS m)/\ah (I wr)) (fun _ v6 _ _=>l - (RowKit.intOf v6).toNat)
  exact⟨n,n+1,b,by omega,by omega,rfl,by go_num,rfl,LY,LG,rfl,u,s⟩;obtain⟨i,j,m,WO,kR,rfl,rfl,L,HA,HL,HD,HB,H⟩:=hrel;by_cases q:j<l
  ·have M:m[j]? =some ((fun v:Int=>Value.int .i64 v) l[j]):=by
    have x:(m.drop j)[0]? =(b.drop j)[0]?:=by rw[HD.ae]
    rw[EO,EO] at x;rw[show m[j]? =b[j]? from x,<-G.ae,oD (by rw[bP];exact q),dK,aX q];rfl
   have CF:=af (HF _ _ _ H (a8 q) HB);have D9:=HB.cell M;have HT:ah (l.take (j+1)=l.take j++ [l[j]]):=fR q;have LQ:ah (∀J:List Value,J.drop j=b.drop j->J.drop (j+1)=b.drop (j+1)):=fun J h=>by have:=congrArg (List.drop 1) h;rwa[y6,y6] at this
   generalize l[j]=v at*;have hji:(0:Int)<=(j:Int):=Om;clear M;go_wp2_with fail
   refine CF.mono ?_;rintro e w2 ⟨rfl,Y,AH⟩;have uL:=af Y;have y:=af AH;clear Y AH D9;cases hq:Q v with
   |true=>have t:ah ((l.take (j+1)).filter (fun v=> !Q v)=(l.take j).filter fun v=> !Q v):=axV;go_wp2;go_roundw;exact⟨i,j+1,m,by omega,by omega,rfl,by go_num,L,by rw[t.ae];exact HA,by rw[t.ae];exact HL,LQ.ae _ HD,y,uL⟩;simp [RowKit.intOf];omega
   |false=>
    have t:ah ((l.take (j+1)).filter (fun v=> !Q v)=((l.take j).filter fun v=> !Q v)++ [v]):=axV;have R:i<m.length:=Om;have GJ:=y.cell (aX R);have d:=y.frozen i;obtain⟨W',X,B7,K7,N7⟩:=fM (i:=i) y ((fun v:Int=>Value.int .i64 v) v);have yE:=af (HW _ _ uL N7);have Ej:=af X;have Lh:=af (abG (v:=(fun v:Int=>Value.int .i64 v) v) R);have qq:ah ((m.set i ((fun v:Int=>Value.int .i64 v) v)).drop j=m.drop j):=List.drop_set_of_lt WO;generalize m[i]=old at*;clear X K7 N7;go_upto_region 10 with fail
    rw[Ej.ae];go_wp2;go_roundw;exact⟨i+1,j+1,_,by omega,by omega,by go_num,by go_num,by rw[tM];exact L,by rw[ah,Lh.ae,HA.ae,t.ae,kE];rfl,by rw[ah,t.ae,bD,HL.ae];rfl,LQ.ae _ (qq.trans HD),B7,yE⟩;simp [RowKit.intOf];omega
  ·have Ku:j=l.length:=Om;subst Ku;have d1:decide ((l.length:Int)<(l.length:Int))=false:=aW;have tD:ah (m.take i=(l.filter fun v=> !Q v).map (fun v:Int=>Value.int .i64 v)):=by have h:=HA.ae;rw[fB] at h;exact h
   have th:ah ((l.filter fun v=> !Q v)=i):=by have h:=HL.ae;rw[fB] at h;exact h
   obtain⟨zs',f,atj,K,F⟩:=SU (List.replicate (l - i) (.int .i64 0:Value)) (o:=i) HB;have jE:∀ty,(Builtin.clear_ #[cK] ty #[.slice (some ⟨g,i,none⟩) (l - i) (c - i)]).run prog wr= .ok (.tuple #[]) (wr.setCells g i (List.replicate (l - i) (.int .i64 0:Value))):=fun ty=>amE wr ty g i (l - i) (c - i) Om (fun k a=>by rw[HB.cell (aX (show i+k<m.length by omega))];rfl) (fun k a=>HB.frozen _);have u:=af f;have Hf:=af F;have s:=af (HW _ _ H F);clear f F;go_wp2_with (simp only[jE])
   exact bodyPost_ret (v:= .slice (some ⟨g,0,none⟩) i c) (by simp [results,results285,go_sem]) rfl ⟨by rw[th.ae],s,zs'.drop i,by rw[<-tD.ae,<-K,tH];exact u.ae⟩
structure KV(oN oS:Nat)(w:au)(xb jb nb sb:Nat)(x:aP)(T:List (List Rw))(cur:Nat->aC)(on:Nat->Bool):Prop where
 st:yf oN oS w xb jb nb sb x cur on
 tb:∃A c,aA w jb 4 (.slice A T.length c)/\ah (iO w (.slice A T.length c) T)
def aaQ{α:Type}{f:α->Bool}{l:List α}(h:∀k (a:k<l.length),K k=f l[k]):(List.range l.length).any K=l.any f:=by
 rw[lW,mU,mU];constructor
 ·rintro⟨k,a,b⟩;have a:=dL.1 a;exact⟨_,a8 a,by rw[<-h k a];exact b⟩
 ·rintro⟨y,c,b⟩;obtain⟨k,a,rfl⟩:=iE c;exact⟨k,dL.2 a,by rw[h k a];exact b⟩
def J7(w:au)(A:aQ)(k:Nat):Value:=match A with
 |some a=>(w.cell? (aD a.block (a.off+k*2))).getD undef
 |none=>undef
def J6(w:au)(A:aQ)(k:Nat):Value:=match A with
 |some a=>(w.cell? (aD a.block (a.off+k*2+1))).getD undef
 |none=>undef
def oq.rc{l:List Rw}(h:oq m (.slice E a b) l)(p:c<l):
 ∃g o B d,E=dV g o/\g<m.heap.size/\aA m g (o+c*2) (J7 m E c)/\aA m g (o+c*2+1) (J6 m E c)/\J7 m E c= .slice B l[c].1 d/\J6 m E c=av l[c].2/\TL m (.slice B l[c].1 d) l[c].1:=by
 obtain⟨g,o,B,d,rfl,q,f,e,r⟩:=zC h p;have j:J7 m (dV g o) c= .slice B l[c].1 d:=by unfold J7;simp only[f];rfl
 have i:J6 m (dV g o) c=av l[c].2:=by unfold J6;simp only[e];rfl
 exact⟨g,o,B,d,rfl,q,by rw[j];exact f,by rw[i];exact e,j,i,r⟩
def aeH(h:ar:=by
 have CA:=af (fun W (hX:Ext w W)=>J4 xb jb nb sb i x cur on r Bk dk vs wt W (h.ext hX) hr o7 hv (eB hT hX));have hdk:=bl hT;clear h hr o7 hv hT;go_enter afw,afu;go_upto_region 1 with fail
 refine aR fun W HX BY=> ?_;have L1:=af (CA W HX);obtain⟨q0,q1⟩:=BY.two;have c1:=(HX.cell (p:=aD bx 0) nz).trans hx;have c2:=(HX.cell (p:=aD bi 0) hbi).trans hi;clear hx hi;go_wp2_with fail
 refine L1.mono ?_;rintro e w2 ⟨rfl,KJ⟩;have bk:=af (HX.trans KJ);clear KJ q0 q1 c1 c2 BY;go_wp2;exact bodyPost_ret (v:= .bool (eh on cur (bZ r.2) vs)) (by simp [results,aft,go_sem]) rfl ⟨rfl,bk⟩):=h
def aeG(h:ar:=by
 have gp:i<T.length:=by
  rcases cA i T with h|h
  ·exact h
  ·rw[eT h] at hl;cases hl
 have hle:T[i]=l:=by rw[aX gp] at hl;injection hl
 have HST:=af h.st;obtain⟨At,ct,vL,HT⟩:=h.tb;have kR:=h.st.jn;have sM:=h.st.xl;have d6:=h.st.jl;obtain⟨gi,oi,A1,c1,hA,kj,PP,mD⟩:=iO.get HT gp;rw[hle] at mD PP;obtain⟨-,ht2,ht3⟩:=bl HT;obtain⟨-,hl2,WI⟩:=bl PP;subst hA;have th:=af PP.ae;have HV:=af hv;clear h hle PP hv hl;generalize T.length=TN at*;have jI:=af (fun(bx bi:Nat) (Bk:aQ) (dk:Nat) (vs:List aC) (wt:Int) (w:au) (h:yf oX oW w xb jb nb sb x cur on)=>afs xb jb nb sb i bx bi x cur on r Bk dk vs wt w h hr o7);clear hr o7;go_enter zL,zK;go_upto_region 1 with fail
 refine gJ fun W HX B2 B3=> ?_;have HJ:=af ((HX.cell (p:=aD xb 0) sM).trans kR);have HTb:=af ((HX.cell (p:=aD jb 4) d6).trans vL);have wK:=af ((HX.cell (p:=aD gi (oi+i)) kj).trans mD);have wD:=af (HST.ext HX);have HLW:=af (zD th HX);have hb0:=B2.lt;have hb1:=B3.lt;have td:=af (B2.aF 0);have wE:=af (B3.aF 0);have awP:=cy kj HX.size;have awb:=cy sM HX.size;have awF:=cy d6 HX.size;clear kR vL mD B2 B3 kj sM d6;generalize w.heap.size=bb at*;obtain⟨S,fA⟩:∃S:World->Prop,S=fun w'=>aA w' bb 0 (aI xb 0)/\aA w' (bb+1) 0 (av i)/\aA w' xb 0 (aI jb 0)/\aA w' jb 4 (aG gi oi TN ct)/\aA w' gi (oi+i) (.slice A1 l c1):=⟨_,rfl⟩;have bK:ah (∀w',S w'->aA w' bb 0 (aI xb 0)/\aA w' (bb+1) 0 (av i)/\aA w' xb 0 (aI jb 0)/\aA w' jb 4 (aG gi oi TN ct)/\aA w' gi (oi+i) (.slice A1 l c1)):=axt;have yi:ah (Ext W W.drew):=(aB W).drew;have aJ:ah (S W.drew):=by rw[ah,fA];exact⟨td,wE,HJ,HTb,wK⟩
 clear fA;have yI:=af (ao1 afv (fun _ _=>by rfl) (aI bb 0) (aI (bb+1) 0) (J7 W A1) (J6 W A1) (fun k=>eh on cur (bZ r.2) (l[k]?.getD ([],0)).1) (fun W'=>Ext W W') A1 l c1 W.drew yi hl2 WI
  (fun W' k hX hk=>by obtain⟨g,o,B,d,hA,hg,h1,h2,_⟩:=oq.rc HLW hk;exact⟨g,o,hA,(hX.cell (p:=aD g (o+k*2)) hg).trans h1,(hX.cell (p:=aD g (o+k*2+1)) hg).trans h2⟩)
  (fun W' k hX hk=>by obtain⟨g,o,B,d,hA,hg,h1,h2,e0,e1,h3⟩:=oq.rc HLW hk;rw[e0,e1,aX hk];exact(jI bb (bb+1) B d l[k].1 l[k].2 W' (wD.ext hX) (HV _ (a8 hk)) (eB h3 hX) (cy hb0 hX.size) (cy hb1 hX.size) ((hX.cell (p:=aD bb 0) hb0).trans td.ae) ((hX.cell (p:=aD (bb+1) 0) hb1).trans wE.ae)).mono fun e w' hh=>⟨hh.1,hX.trans hh.2⟩))
 rw[aaQ (f:=fun y:Rw=>eh on cur (bZ r.2) y.1) (fun k hk=>by rw[aX hk];rfl)] at yI;refine cG (S:=S) (T:=fun j=>decide (11<=j)) Ok ?_;generalize W.drew=wd at*;refine ax 0 5 ?_;refine ax 1 6 ?_;refine ax 2 7 ?_;refine ax 3 8 ?_;refine ax 4 9 ?_;refine ax 5 10 ?_;refine ax 6 11 ?_;refine ax 7 12 ?_;refine ax 8 13 ?_;refine ax 9 14 ?_;refine ax 10 15 ?_;refine aO 11 ?_;intro K hK;go_simp;refine yI.mono ?_;rintro e8 w8 ⟨rfl,fp⟩;have lz:=af (HX.trans fp);refine hK.ae _ _ Oe ?_;clear hK fp;refine aO 12 ?_;intro K hK;go_simp;refine hK.ae _ _ Oe ?_;refine bY Ok ?_;clear hK;go_wp2_with fail
 exact bodyPost_ret (v:= .bool (sw on cur (bZ r.2) l)) (by simp [results,sw,vE,go_sem]) rfl ⟨rfl,lz⟩):=h
abbrev NG.afw:= @func327
abbrev NG.afu:= @ntmps327
abbrev NG.aft:= @results327
abbrev NG.J4:= @TH
open NG in
def ak5(xb jb nb sb i bx bi:Nat)(x:aP)(cur:Nat->aC)(on:Nat->Bool)(r:Rl)(Bk:aQ)(dk:Nat)(vs:List aC)(wt:Int)(w:au)(h:yf 13 14 w xb jb nb sb x cur on)(hr:x.ay[i]? =some r)(o7:∀a∈r.2,0<=a/\a<(x.ai.length:Int))(hv:vs.length=r.2)(hT:TL w (.slice Bk vs dk) vs)
 (nz:bx<w.heap.size) (hbi:bi<w.heap.size) (hx:aA w bx 0 (aI xb 0)) (hi:aA w bi 0 (av i)):
 Calls prog 327 #[.agg #[.slice Bk vs dk,av wt],aI bx 0,aI bi 0] w fun e w'=>e= .returned (.bool (eh on cur (bZ r.2) vs))/\Ext w w':=aeH
abbrev CY.zL:= @func283
abbrev CY.zK:= @ntmps283
abbrev CY.vE:= @results283
abbrev CY.afv:=(327:Nat)
abbrev CY.afs:= @ak5
abbrev CY.oX:=(13:Nat)
abbrev CY.oW:=(14:Nat)
open CY in
def am3(xb jb nb sb i:Nat)(x:aP)(T:List (List Rw))(cur:Nat->aC)(on:Nat->Bool)(r:Rl)(l:List Rw)(w:au)(h:KV 13 14 w xb jb nb sb x T cur on)(hr:x.ay[i]? =some r)(hl:T[i]? =some l)(o7:∀a∈r.2,0<=a/\a<(x.ai.length:Int))(hv:∀y∈l,y.1.length=r.2.length):
 Calls prog 283 #[aI xb 0,av i] w fun e w'=>e= .returned (.bool (sw on cur (bZ r.2) l))/\Ext w w':=aeG
abbrev NF.afw:= @func365
abbrev NF.afu:= @ntmps365
abbrev NF.aft:= @results365
abbrev NF.J4:= @TD
open NF in
def akQ(xb jb nb sb i bx bi:Nat)(x:aP)(cur:Nat->aC)(on:Nat->Bool)(r:Rl)(Bk:aQ)(dk:Nat)(vs:List aC)(wt:Int)(w:au)(h:yf 19 20 w xb jb nb sb x cur on)(hr:x.ay[i]? =some r)(o7:∀a∈r.2,0<=a/\a<(x.ai.length:Int))(hv:vs.length=r.2)(hT:TL w (.slice Bk vs dk) vs)
 (nz:bx<w.heap.size) (hbi:bi<w.heap.size) (hx:aA w bx 0 (aI xb 0)) (hi:aA w bi 0 (av i)):
 Calls prog 365 #[.agg #[.slice Bk vs dk,av wt],aI bx 0,aI bi 0] w fun e w'=>e= .returned (.bool (eh on cur (bZ r.2) vs))/\Ext w w':=aeH
abbrev CX.zL:= @func334
abbrev CX.zK:= @ntmps334
abbrev CX.vE:= @results334
abbrev CX.afv:=(365:Nat)
abbrev CX.afs:= @akQ
abbrev CX.oX:=(19:Nat)
abbrev CX.oW:=(20:Nat)
open CX in
def amN(xb jb nb sb i:Nat)(x:aP)(T:List (List Rw))(cur:Nat->aC)(on:Nat->Bool)(r:Rl)(l:List Rw)(w:au)(h:KV 19 20 w xb jb nb sb x T cur on)(hr:x.ay[i]? =some r)(hl:T[i]? =some l)(o7:∀a∈r.2,0<=a/\a<(x.ai.length:Int))(hv:∀y∈l,y.1.length=r.2.length):
 Calls prog 334 #[aI xb 0,av i] w fun e w'=>e= .returned (.bool (sw on cur (bZ r.2) l))/\Ext w w':=aeG
def amZ{α:Type} [Inhabited α](a:α->Value)(l b:List α)(rest:List Value)(c:b.length=l):Sort.putCells a 0 b.toArray (l.map a++rest).toArray=(b.map a++rest).toArray:=by
 apply Array.ext_getElem?
 intro i;unfold Sort.putCells;simp only[eR,Array.getElem?_mapIdx,ZJ,aU,true_and,jL,Rq];rcases cA i b.length with h|h
 ·rw[oD axL,oD axL,dK,dK,aX (l:=l) (i:=i) Om];simp [h]
 ·rw[yU axL,yU axL,bP,bP,c];cases rest[i - l]? with
  |none=>rfl
  |some x=>simp [Nat.not_lt.2 (c▸h:l.length<=i)]
def acI{α:Type} [Inhabited α](b:α->Value){l zs:List α}{rest:List Value}(h:aq m a w (l.map b++rest))(k:zs.length=l)(n:Nat)(j:Array Obj):
 Only a m (Sort.grow (Sort.putRow b (Sort.ahead m n) a 0 zs.toArray) j)/\aq (Sort.grow (Sort.putRow b (Sort.ahead m n) a 0 zs.toArray) j) a w (zs.map b++rest):=by
 have c:(Sort.putRow b (Sort.ahead m n) a 0 zs.toArray).heap.size=m.heap.size:=Ou;have f:=h.lt;refine⟨⟨rfl,rfl,rfl,?_,fun i o d=> ?_⟩,?_⟩
 ·rw[Sort.size_grow,c];omega
 ·rw[Sort.heap_grow_old _ _ (by rw[c];exact o)];unfold Sort.putRow Sort.mapBlock Sort.ahead;simp only[Mk];rw[if_neg (fun e=>d (by rw[e]))]
 ·unfold aq;rw[Sort.heap_grow_old _ _ (by rw[c];exact f)];unfold aq at h;unfold Sort.putRow Sort.mapBlock Sort.ahead;simp only[Mk,if_true,h,Option.map_some,Sort.onCells,amZ b l zs rest k]
def acm{α:Type} [Inhabited α](c:α->Value){l:List α}{rest:List Value}(e:aq m a w (l.map c++rest)):Sort.Holds c m a 0 l.toArray:=by intro j d;have b:j<l.length:=axP;refine⟨?_,e.frozen _⟩;rw[jL,e.cell (by rw[oD (by rw[bP];exact b),dK,aX b];rfl),getElem!_pos _ j d];simp
def ajK(l:List aC):Lib.compact (l.mergeSort fun x y=>decide (x<=y))=jP l:=by
 have z:∀x y:aC,(x<=y)↔¬y<x:=fun x y=>List.not_lt.symm;obtain⟨d,r⟩:∃d,d=(l.mergeSort fun x y=>decide (x<=y)):=⟨_,rfl⟩;have q:∀x y:aC,Op.bytesLess x y=decide (x<y):=Go.Proofs.bytesLess_eq;have k:d.Pairwise (fun x y=>x<=y):=by
  have h:=List.pairwise_mergeSort (le:=fun x y:aC=>decide (x<=y)) (fun a b c s u=>by
   simp only[decide_eq_true_eq] at*;exact List.le_trans s u) (fun a b=>by
   simp only[kF,decide_eq_true_eq];exact List.le_total a b) l
  rw[<-r] at h;exact h.imp fun h=>by simpa using h
 rw[<-r];have m:∀x,x∈d↔x∈l:=fun x=>by rw[r];exact List.mem_mergeSort
 have f:∀j (g:j<d.length),d.toArray[j]! =d[j]:=fun j g=>by rw[getElem!_pos d.toArray j (by simpa using g)];simp
 refine T1 ?_ (IY l) fun x=> ?_
 ·unfold Lib.compact Lib.compactUpTo;rw[rD,List.pairwise_filter];refine QO ?_ (List.pairwise_lt_range);intro i j o g B _ n;have o:=dL.1 o;have g:=dL.1 g;unfold Lib.keeps at n;have E:=of_decide_eq_true n;show Op.bytesLess _ _=true
  rw[f i o,f j g,q,decide_eq_true_eq];have A:d[j]≠d[j - 1]:=axM;have s:d[i]<=d[j - 1]:=by
   rcases cA i (j - 1) with h|h
   ·exact nI.1 k i (j - 1) o Om h
   ·have e:i=j - 1:=Om;subst e;exact List.le_refl _
  have u:d[j - 1]<=d[j]:=nI.1 k (j - 1) j Om g Om;have D:d[j - 1]<d[j]:=axM;exact List.lt_of_le_of_lt s D
 ·rw[zm,<-m];unfold Lib.compact Lib.compactUpTo;rw[b_];constructor
  ·rintro⟨j,g,rfl⟩;have g:=dL.1 (eE.1 g).1;rw[f j g];exact a8 g
  ·intro w;obtain⟨j,g,rfl⟩:=iE w;have p:∀j (g:j<d.length),∃a∈(List.range d.length).filter (Lib.keeps d.toArray),d.toArray[a]! =d[j]:=by
    intro j;induction j with
    |zero=>exact fun g=>⟨0,eE.2 ⟨dL.2 g,by simp [Lib.keeps]⟩,f 0 g⟩
    |succ j v=>
     intro g;by_cases t:d[j+1]=d[j]
     ·obtain⟨a,C,e⟩:=v Om;exact⟨a,C,e.trans t.symm⟩
     ·refine⟨j+1,eE.2 ⟨dL.2 g,?_⟩,f _ g⟩;unfold Lib.keeps;refine decide_eq_true (.inr ?_);rw[f _ g,show j+1 - 1=j by omega,f j Om];exact t
   exact p j g
def ajv:Go.Shelf.Ren:=⟨fun|194=>280|n=>n,fun|31=>nS|9=>bC|4=>fV|3=>aS|0=>0|n=>n,fun|n=>n⟩
def aed:Go.Proofs.Lays.n194 prog ajv:={
 mixed:=Ok
 f194:=func280.trans (congrArg some Ok)
 t0:=underlying0
 a0:=Tryz.isAgg0
 z0:=Tryz.sizeOf0
 v0:=Tryz.zeroValue0
 t3:=underlying3
 a3:=Tryz.isAgg3
 z3:=Tryz.sizeOf3
 v3:=Tryz.zeroValue3
 t4:=underlying4
 a4:=Tryz.isAgg4
 z4:=Tryz.sizeOf4
 v4:=Tryz.zeroValue4
 t9:=underlying9
 a9:=Tryz.isAgg9
 z9:=Tryz.sizeOf9
 v9:=Tryz.zeroValue9
 t31:=underlying67
 a31:=Tryz.isAgg67
 z31:=Tryz.sizeOf67
 v31:=Tryz.zeroValue67}
def alz{l:List aC}{rest:List Value}(d:aq m a bC (l.map encStr++rest))(h:l.length<=1000):
 Calls prog 279 #[aG a 0 l.length c] m fun e b=>e= .returned (.tuple #[])/\Only a m b/\aq b a bC ((l.mergeSort fun x y=>decide (x<=y)).map encStr++rest):=by
 refine(Tryz.slices_Sort_string a 0 c l m (acm encStr d) d.lt Om).mono ?_;rintro e b ⟨rfl,n,f,rfl⟩;exact⟨rfl,acI encStr d (Zs _) n f⟩
def amU{l:List aC}{rest:List Value}(k:aq m a bC ((l.mergeSort fun x y=>decide (x<=y)).map encStr++rest))(s:l.length<=1000)(t:l.length<=c):
 Calls prog 280 #[aG a 0 l.length c] m fun e j=>e= .returned (aG a 0 (jP l).length c)/\Only a m j/\∃b,aq j a bC ((jP l).map encStr++b):=by
 obtain⟨d,o⟩:∃d,d=(l.mergeSort fun x y=>decide (x<=y)):=⟨_,rfl⟩;have i:d.length=l.length:=by rw[o];exact Zs _
 have f:=ajK l;rw[<-o] at f k;have h:=Any.slices_Compact_string aed a 0 c d m (acm encStr k) Om Om;rw[i,f] at h;refine h.mono ?_;rintro e j ⟨rfl,q,rfl⟩;have r:(jP l).length<=l.length:=(by rw[<-f];unfold Lib.compact Lib.compactUpTo;rw[bP,<-i];exact af9)
 have n:=acI encStr k (zs:=jP l++List.replicate (l.length - (jP l).length) []) (by rw[bD,QU];omega) q #[];rw[Sort.grow_empty] at n;refine⟨rfl,n.1,(List.replicate (l.length - (jP l).length) []).map encStr++rest,?_⟩;have p:=n.2;rw[kE,jk] at p;exact p
end Go.Proofs.YtehkcnbodcdijaaGreatDoor
