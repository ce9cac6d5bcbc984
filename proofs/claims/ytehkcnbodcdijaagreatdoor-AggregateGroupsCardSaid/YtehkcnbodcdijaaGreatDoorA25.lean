/- Texts of the proof, part 25. -/
import Derived.Test.YtehkcnbodcdijaaGreatDoorA24
namespace Go.Proofs.YtehkcnbodcdijaaGreatDoor
set_option maxHeartbeats 8000000
set_option linter.all false
set_option maxRecDepth 100000
variable{ar:Prop}
open Go.RowKit Go.Lib Go.Maps Go.ChangeShapes Go.WideShapes Go.ChangeAt Go.Proofs.Tryz
variable{a b c d e f g h:Nat}{i j k l:List Nat}{m n o:World}{p q r s:Value}{t u v:List Value}{w x:TypeId}{y z:Nat→Option Nat}{A:Nat→List Nat}{B C:Int}{E F:Option Addr}{H I:Rat}{J:Nat→Nat}{K:Nat→Bool}{L:List Int}{N:Array Bool}{O:Option Nat}{Q:Act}{R S:Bool}{T:List UInt8}
def lg.ahA{L:List Gp}{k:List aC}(h:lg L m a b)(C:∀y∈L,j_ y.1)(x:∃y∈L,y.1=k):∃A c r t p o n s l j,(Instr.lookup Gj (.map (some a)) (aM (dp k)) false).run prog m= .ok (.slice A k.length c) m/\TL m (.slice A k.length c) k/\
 (Instr.lookup 120 (.map (some b)) (aM (dp k)) false).run prog m= .ok (.agg #[.bool r,.slice t p o,.bool n,.slice s l j]) m/\bQ m (.agg #[.bool r,.slice t p o,.bool n,.slice s l j]) (cM k L):=by
 obtain⟨d,f,g, -,F,E,D, -, -⟩:=h;have i:(dp k).length<=100000:=(by obtain⟨y,B,e⟩:=x;rw[<-e];exact aV (C y B).JP Od)
 obtain⟨A,c,q,I,H,G,z⟩:=D k x;obtain⟨r,t,p,o,n,s,l,j,rfl, -, -⟩:=z.parts;have v:=F.get tQ T4 (show(zeroValue nS).run prog m= .ok (.slice none 0 0) m by kernel_rfl) (zx (dp k) i);have u:=E.get tQ I5 (SM m) (zx (dp k) i);rw[I] at v;rw[G] at u;exact⟨A,c,_,_,_,_,_,_,_,_,v,H,u,z⟩
def aja(f:∀(p:aQ) (cap:Nat) (fv:Value) (w:au),Calls prog 201 #[.slice p 0 cap,fv] w fun e w'=>e= .returned (.tuple #[])/\w'=w){L:List Gp}{w:au}(hL:∀y∈L,j_ y.1)(jU:L.length<=3000)(hS:lg L w a b)(hf:∀y∈dH L,bR 400 y.2)(o8:(dH L).length<=3000)(ht:d7 w):
 Calls prog 59 #[.agg #[.map (some a),.map (some b)]] w fun e w'=>∃v,e= .returned (.tuple #[v,av 0])/\pH w' v (dH L)/\Ext w w':=by
 have HS:=af hS;have HF:=af hf;have HT:=af ht;have HL:=af hL;have HSK:=af (fun W xb bm (hX:Ext w W) hB hm hb=>ai' f (w:=W) (xb:=xb) (bm:=bm) hL jU (hS.ext hX) hB hm hb);clear hS hf ht f hL;go_enter func59,ntmps59;go_upto_region 2 with fail
 refine aR fun W HX BX=> ?_;obtain⟨r,q⟩:=BX.two;go_wp2_with fail;refine(akF (some a) W).mono ?_;rintro e w2 ⟨rfl,rfl⟩;obtain⟨I,Q,V,BM⟩:∃I,W.alloc (.cells #[.map (some a)] Gj)=I/\ah (Ext W I)/\ah (aq I W.heap.size Gj [.map (some a)]):=⟨_,rfl,(aB W).alloc _,jd W Gj [.map (some a)]⟩;rw[Q];have X:ah (Ext w I):=HX.trans V;have H:=af (BX.ext V);clear r q Q;obtain⟨r,q⟩:=H.two;go_wp2_with fail
 refine(HSK I _ _ X H (BM.aF 0) BM.lt).mono ?_;rintro e J ⟨v,rfl,m,z⟩;obtain⟨A3,c3,rfl,DZ,hcm,N⟩:=eL m;have XS:=af N;have U:ah (Ext w J):=X.trans z;have Z:=af (H.ext z);have df:(qJ L).length=(dH L).length:=by unfold qJ;rw[bP]
 rw[df] at DZ⊢;clear m N z r q;go_upto_region 3 with fail
 go_loopw [4,6,15] (fun v4 _ o wr=>∃i:Nat,i<=dH L/\o=av i/\ah (bG fh 2 sG J.heap.size wr v4 ((dH L).take i))/\ah (Ext w wr)/\ah (Ext J wr)) (fun _ _ o _=>dH L - (RowKit.intOf o).toNat)
 exact⟨0,aU _,rfl,ii,U,aB _⟩;obtain⟨i,hi,rfl,HO,l,g⟩:=hrel;obtain⟨A4,c4,xs,rfl, -, -,G,HC⟩:=HO.parts;have D:((dH L).take i).length=i:=axw;by_cases E:i<(dH L).length
 ·have s:=a8 E;obtain⟨K,B⟩:=ab9 s;have HFi:=HF _ s;have P:(qJ L)[i]? =some (dH L)[i].1:=by unfold qJ;rw[dK,aX E];rfl
  obtain⟨g2,o2,rfl,hg2,q2⟩:=(XS.ext g).at_ (k:=i) (u:=aM (dp (dH L)[i].1)) (by rw[dK,P];rfl);obtain⟨_,_,o0,O0,o1,o2',r0,R0,r1,r2, -, -,O,F⟩:=(HS.ext l).ahA HL B;have yt:ah ((dH L).take (i+1)=(dH L).take i++ [(dH L)[i]]):=by rw[ah,tJ,aX E];rfl
  rw[K] at F;have CF:=af (acs _ _ wr F HFi (HT.ext l));have Y:=af (fun W (hX:Ext w W)=>(HS.ext hX).ahA HL B);have pB:=af D;have gp:i<=3000:=Om;clear D K B F P s G HC;generalize(dH L)[i]=y at*;generalize(dH L).take i=lt at*;obtain⟨yk,yq⟩:=y;simp only at q2 O Y CF;obtain⟨t,C⟩:∃t,cP yq=t:=⟨_,rfl⟩;have En:=af C;rw[C] at CF;clear C;generalize dp yk=nm at*;obtain⟨r,q⟩:=(Z.ext g).two;go_wp2_with fail
  refine CF.mono ?_;rintro e w4 ⟨rfl,j⟩;have T:ah (Ext w w4):=l.trans j;have h:ah (Ext J w4):=g.trans j;have yz:=af (HO.ext jq j);clear r q q2 O j;obtain⟨r,q⟩:=(Z.ext h).two;obtain⟨A,c,_,_,_,_,_,_,_,_,D2,M, -, -⟩:=Y w4 T;have AW:=af M;obtain⟨_,_,xs4,ee, -, -,G,HC⟩:=yz.parts;injection ee with uy _ ux;subst uy ux;have dC:(lt.length+1)*40<=140737488355328:=by have:=pB.ae;omega
  have hw:=h.size;clear M;go_wp2_with (at_builtin;refine gf rfl _ _ mm rfl J.heap.size aco _ _ _ rfl G.ae #[.slice A yk c,aM t] 1 1 rfl rfl rfl dC hw ?_);intro v' sH n d _;have pd:=af (iF (R:=sG) (x:=(yk,yq)) jq (fun u hu=>by rw[bE.1 hu];decide) G HC ⟨A,c,by rw[En.ae],AW⟩ n d);have Ed:=af (kI T G d U.size);have S:=af (kI h G d (aL _));clear n d r q D2;go_wp2_with fail
  go_roundw;exact⟨i+1,by omega,by go_num,by rw[yt.ae];exact pd,Ed,S⟩;simp [RowKit.intOf];omega
 ·have d1:decide ((i:Int)<((dH L).length:Int))=false:=aW;have hit:(dH L).take i=dH L:=dD Om;rw[hit] at HO G HC⊢;clear hit D;go_wp2_with fail
  exact bodyPost_ret (v:= .tuple #[.slice A4 (dH L) c4,av 0]) (by simp [results,results59,go_sem]) rfl ⟨_,rfl,HO.ls,l⟩
def anL(q:Rat)(w:au)(l:bR 400 q):
 Calls prog 115 #[aM (cP q)] w fun e k=>e= .returned (av (Du q:Int))/\Ext w k:=by
 have P:=af (fun w=>abZ q w l);have h:(decDigits q.num.natAbs).length=nDigits q.num.natAbs:=decDigits_length _;have g:(aY q.den).length=nDigits q.den:=by rw[rR,decDigits_length]
 have f:ah (trimPrefix (aY q.num) [45]=decDigits q.num.natAbs):=(M7 q.num).1;have i:ah ((max (nDigits q.num.natAbs:Int) (nDigits q.den:Int))=(Du q:Int)):=by rw[ah];unfold Du;omega
 rw[<-h,<-g] at i;clear h g;generalize cP q=t at*;generalize aY q.num=a at*;generalize aY q.den=b at*;generalize decDigits q.num.natAbs=c at*;go_enter func115,ntmps115;go_wp2_with fail;refine(P w).mono ?_;rintro e j ⟨rfl,d⟩;go_wp2_with fail;refine(Tryz.strings_TrimPrefix _ _ j).mono ?_;rintro e m ⟨rfl,rfl⟩;simp only[f.ae];go_wp2;go_ret;exact⟨by rw[<-i.ae];rfl,d⟩
def an_(v:Value)(q:Rat)(w:au)(c:bR 400 q):
 Calls prog 113 #[.agg #[v,aM (cP q)]] w fun e b=>e= .returned (.bool false)/\Ext w b:=by
 have C:=af (fun w=>aaK q w c);generalize cP q=t at*;go_enter func113,ntmps113;go_upto_region 1 with fail
 refine aR fun W d f=> ?_;have h:=f.aF 1;go_wp2_with fail
 refine(C W).mono ?_;rintro e g ⟨rfl,a⟩;go_wp2;go_ret;exact⟨rfl,d.trans a⟩
def aoE{l:List Gp}(k:pH m (.slice E a b) l)(s:∀y∈l,bR 400 y.2):
 Calls prog 187 #[.slice E a b,.func (.func 113) #[] #[]] m fun e q=>e= .returned (av (-1))/\Ext m q:=by
 obtain⟨z,x,C⟩:=bl k;subst z;have D:=af k;have F:=af s;clear k s;go_enter func187,ntmps187;go_upto_region 2 with fail
 go_loopw [5,8] (fun _ i wr=>∃j:Nat,j<=l/\i=av j/\ah (Ext m wr)) (fun _ i _=>l - (RowKit.intOf i).toNat)
 exact⟨0,aU _,rfl,aB _⟩;obtain⟨j,G,rfl,h⟩:=hrel;by_cases f:j<l
 ·obtain⟨g,o,B,d,rfl,H,q1,q2,I⟩:=Db (bU jq D h) f;have u:=af (fun v W=>an_ v l[j].2 W (F _ (a8 f)));generalize l[j]=y at*;generalize cP y.2=t at*;go_wp2_with fail
  refine(u _ _).mono ?_;rintro e q ⟨rfl,r⟩;have p:=af (h.trans r);clear r u h;go_wp2;go_roundw;exact⟨j+1,by omega,by go_num,p⟩;simp [RowKit.intOf];omega
 ·have d1:decide ((j:Int)<(l.length:Int))=false:=aW;go_wp2;exact bodyPost_ret (v:=av (-1)) (by simp [results,results187,go_sem]) rfl ⟨rfl,h⟩
def adc{l:List Gp}(j:pH m (.slice E a b) l)(i:∀y∈l,bR 400 y.2):
 Calls prog 53 #[.slice E a b] m fun e d=>e= .returned (.bool true)/\Ext m d:=by
 have h:=af (fun W (f:Ext m W)=>aoE (bU jq j f) i);clear j i;have k:ah (∀W,Ext m W->Calls prog 112 #[.slice E a b,.func (.func 113) #[] #[]] W fun e d=>e= .returned (.bool false)/\Ext W d):=fun W f=>by have C:=af (h W f);clear h;go_enter func112,ntmps112;go_wp2_with fail;refine C.mono ?_;rintro e d ⟨rfl,g⟩;go_wp2;go_ret;exact⟨rfl,g⟩
 clear h;go_enter func53,ntmps53;go_wp2_with fail;refine(k _ (aB _)).mono ?_;rintro e d ⟨rfl,g⟩;go_wp2;go_ret;exact⟨rfl,g⟩
def aca{l:List Gp}(F:pH m (.slice E a b) l)(D:l*(c+1)<=6000)(N:c+1<=400)(M:∀y∈l,bR (c+1) y.2):
 Calls prog 54 #[.slice E a b] m fun e G=>e= .returned (.bool true)/\Ext m G:=by
 obtain⟨J,I,P⟩:=bl F;subst J;have Q:=af F;have R:=af M;have L:l.length<=6000:=aV (Mi _ (Nat.succ_pos c)) D;have C:ah (∀f:Nat,f<=c+1->l*f<=6000):=fun f q=>aV (h_ _ q) D;go_enter func54,ntmps54;go_upto_region 3 with fail
 go_loopw [3,8] (fun H k wr=>∃i f:Nat,i<=l/\f<=c+1/\H=av f/\k=av i/\ah (Ext m wr)) (fun _ k _=>l - (RowKit.intOf k).toNat)
 exact⟨0,0,aU _,aU _,rfl,rfl,aB _⟩;obtain⟨i,f,V,q,rfl,rfl,x⟩:=hrel;by_cases h:i<l
 ·obtain⟨g,o,B,d,rfl,X,q1,q2,Z⟩:=Db (bU jq Q x) h;have j:=R _ (a8 h);have O:Du l[i].2<=c+1:=aqh j;have S:=af (fun m=>anL l[i].2 m (j.mono N));generalize l[i]=y at*;generalize Du y.2=z at*;generalize cP y.2=t at*;go_upto_region 5 with fail
  refine aR fun W r T=> ?_;have Y:=T.aF 1;have u:=af (x.trans r);go_wp2_with fail
  refine(S W).mono ?_;rintro e U ⟨rfl,p⟩;have s:=af (u.trans p);go_wp2_with fail
  go_roundw;exact⟨i+1,max f z,by omega,by omega,by first|rfl|(congr 1;omega),by go_num,s⟩;simp [RowKit.intOf];omega
 ·have d1:decide ((i:Int)<(l.length:Int))=false:=aW;have K:=C f q;have d2:decide ((l.length:Int)*(f:Int)<=(6000:Int))=true:=decide_eq_true axW;go_wp2_with fail
  exact bodyPost_ret (v:= .bool true) (by simp [results,results54,go_sem]) rfl ⟨rfl,x⟩
def alm(l:List Gp)(y:Gp):ke (l++ [y])=ke l+y.2:=by unfold ke;rw[kE,wS];rfl
def ajV{l:List Gp}(U:pH m (.slice E a b) l)(hl:l.length*(c+1)<=6000)(he:c+1<=400)(hf:∀y∈l,bR (c+1) y.2)(hq:∀k,k<=l.length->bR 400 (ke (l.take k)))(I:d7 m):
 Calls prog 20 #[.slice E a b] m fun e f=>e= .returned (.tuple #[aM (cP (ke l)),av 0])/\Ext m f:=by
 obtain⟨hn,DZ,hcm⟩:=bl U;subst hn;have HL:=af U;have HF:=af hf;have HT:=af I;have C1:=af (adc U fun y hy=>(hf y hy).mono he);have C2:=af (fun W (hX:Ext m W)=>aca (bU jq U hX) hl he hf);have h1:=af (fun W=>by simpa using zy 0 W Om Om);have HQ:=af hq;clear U hf I hq;go_enter func20,ntmps20;go_wp2_with fail
 refine C1.mono ?_;rintro e w1 ⟨rfl,r⟩;go_wp2_with fail;refine(C2 w1 r).mono ?_;rintro e w2 ⟨rfl,O⟩;have bk:=af (r.trans O);clear C1 C2 r O;have C:=af (h1 w2);go_wp2_with fail
 refine C.mono ?_;rintro e1 w3 ⟨u,rfl,hu,hx⟩;obtain⟨a0,A0,a1,a2,b0,B0,b1,b2,rfl, -, -⟩:=hu.parts;have w:=af hu;have Y:=af (bk.trans hx);clear hu hx;go_upto_region 6 with fail
 refine FU w fun w4 dW Z _=> ?_;have Pm:m.heap.size<=w3.heap.size:=Y.size;generalize w3.heap.size=L at*;have F:=af (Y.trans dW);have n:ah (dI w4 L (ke (l.take 0))):=Z.ae;clear Z;go_upto_region 7 with fail
 go_loopw [18] (fun q wq=>∃k:Nat,k<=l/\q=av k/\ah (dI wq L (ke (l.take k)))/\ah (Ext m wq)) (fun q _=>l - (RowKit.intOf q).toNat)
 exact⟨0,aU _,rfl,n,F⟩;clear F n;obtain⟨k,hk,rfl,w,F⟩:=hrel;have iq:L<wr.heap.size:=w.lt;by_cases v:k<l.length
 ·obtain⟨g,o,B,d,rfl,hg,q1,q2, -⟩:=Db (bU jq HL F) v;have Q:l.take (k+1)=l.take k++ [l[k]]:=fR v;have Ln:ah (ke (l.take (k+1))=ke (l.take k)+l[k].2):=by rw[ah,Q,alm]
  have i:=HF l[k] (a8 v);have yr:=af (HQ k hk);have CR:=af (fun W=>SL l[k].2 W (e:=c) i Om);have i:=af i;generalize l[k]=y at*;generalize ke (l.take k)=acc at*;generalize cP y.2=t at*;clear Q;go_upto_region 9 with fail
  refine aR fun J X BE=> ?_;have heb:=BE.lt;generalize atN:wr.heap.size=eb at*;clear q1 q2;have dR:=af (F.trans X);have qm:=af (w.ext X);obtain⟨o0,O0,o1,o2,p0,P0,p1,p2,BO,VO⟩:=qm.parts;obtain⟨S,x⟩:∃S:World->Prop,S=fun f=>aq f L cY [.bool o0,.slice O0 o1 o2,.bool p0,.slice P0 p1 p2]/\aq f eb fh [.slice B y.1 d,aM t]:=⟨_,rfl⟩;have bK:ah (∀f,S f->aA f eb 1 (aM t)/\F4 f L (.bool o0) (.slice O0 o1 o2) (.bool p0) (.slice P0 p1 p2)):=by rw[x];exact fun f h=>⟨h.2.aF 1,h.1.four⟩
  unfold F4 at bK;have G:ah (∀f,Ext J f->S f):=by rw[x];exact fun f h=>⟨BO.ext h,BE.ext h⟩
  clear x;have V:ah (Ext J J.drew):=(aB J).drew;have aJ:=af (G _ V);refine cG (S:=S) (T:=fun j=>decide (5<=j)) Ok ?_;generalize J.drew=wd at*;refine ax 0 22 ?_;refine ax 1 23 ?_;refine ax 2 24 ?_;refine aO 3 ?_;intro K p;go_simp;refine(CR wd).mono ?_;rintro e6 w6 ⟨u6,rfl,P,N⟩;have D:=af (V.trans N);have CM:=af (TE _ u6 acc y.2 w6 (VO.ext D) P yr i Om);refine p.ae _ _ (fun _=>G _ D) ?_;clear p P N;refine aO 4 ?_;intro K p;go_simp;refine CM.mono ?_;rintro e7 w7 ⟨u7,rfl,s,M⟩;obtain⟨r0,R0,r1,r2,s0,S0,s1,s2,rfl,_,_⟩:=s.parts;have z:=af (D.trans M);have Eg:=af (dR.trans z);refine p.ae _ _ (fun _=>G _ z) ?_;have H:=BO.ext z;obtain⟨k0,k1,k2,k3⟩:=H.four;obtain⟨f0,f1,f2,f3⟩:=H.fX;obtain⟨W',R,tx,_,po,jY⟩:=dI.put H s Eg Pm;have HW:=af R;clear p s M R;refine aO 5 ?_;intro K p;go_simp;refine p.ae _ _ Oe ?_;refine bY Ok ?_;rw[HW.ae];clear k0 k1 k2 k3 f0 f1 f2 f3 p;go_wp2_with fail
  go_roundw;exact⟨k+1,by omega,by go_num,by rw[Ln.ae];exact tx,po⟩;simp [RowKit.intOf];omega
 ·obtain rfl:k=l.length:=Om;have d1:decide ((l.length:Int)<(l.length:Int))=false:=aW;have HQl:=af (HQ l.length (aL _));have A:=w.ae;rw[fB] at A HQl;obtain⟨o0,O0,o1,o2,p0,P0,p1,p2,BO,VO⟩:=A.parts;have CT:=af (acs _ _ wr VO HQl (HT.ext F));obtain⟨q0,q1,q2,q3⟩:=BO.four;obtain⟨t,I⟩:∃t,t=cP (ke l):=⟨_,rfl⟩;have En:=af I;rw[<-I] at CT;clear I;go_wp2_with fail
  refine CT.mono ?_;rintro e9 w9 ⟨rfl,lj⟩;go_wp2;go_ret2;exact⟨by rw[<-En.ae];rfl,F.trans lj⟩
def acW{e:Nat}(k:List aC):∀{L:List Gp},(∀y∈L,bR (e+1) y.2)->bR (L.length*(e+2)+1) (cM k L)
 | [],_=>(show bR 1 (0:Rat) from⟨by decide,by decide⟩).mono (Mv _ _)
 |y::L,h=>by
  have a:=acW k fun z b=>h z (gQ _ b);have c:bR (e+1) (if y.1=k then y.2 else 0):=by
   split
   ·exact h y eH
   ·exact bR.mono (e:=1) ⟨by decide,by decide⟩ Om
  refine(c.add a).mono ?_;rw[cT,oH];omega
def aaU{t:List aC}(h:j_ t)(d:∀k∈i,k<t.length)(e:i.length<=3):j_ (gZ t i):=by refine⟨by rw[abY];exact e,fun s a=> ?_⟩;unfold gZ at a;obtain⟨k,c,rfl⟩:=b_.1 a;have b:=d k c;rw[eG,aX b];exact h.2 _ (a8 b)
def aqn(h:a<b)(g:aA m c 0 (.slice E b d)):
 Calls prog 52 #[av (a:Int),aI c 0] m fun e f=>e= .returned (.bool false)/\Ext m f:=by
 have d0:decide ((a:Int)<0)=false:=aW;have d1:decide (b<=a)=false:=aW;go_enter func52,ntmps52;go_wp2;go_ret;exact⟨rfl,aB m⟩
def ajM(DR:OJ)(u:∀(p:aQ) (cap:Nat) (fv:Value) (w:au),Calls prog 201 #[.slice p 0 cap,fv] w fun e q=>e= .returned (.tuple #[])/\q=w){K:aQ}{ck:Nat}{l:List Gp}{ks:List Nat}{w:au}(hL:pH w (.slice E a b) l)(hK:IL w (.slice K ks.length ck) (ints ks))(U:kh ks=true)(hk3:ks.length<=3)
 (qd:∀y∈l,∀k∈ks,k<y.1.length) (hpl:∀y∈l,j_ y.1) (hl:l.length*(c+1)<=6000) (he:c+1<=400) (hf:∀y∈l,bR (c+1) y.2) (hg:∀y∈dH (l.map (f6 fun t=>gZ t ks)),bR 400 y.2) (jU:l.length<=1000) (ht:d7 w) (hq:ug w):
 Calls prog 19 #[.slice E a b,.slice K ks.length ck] w fun e q=>∃v,e= .returned (.tuple #[v,av 0])/\pH q v (dH (l.map (f6 fun t=>gZ t ks)))/\Ext w q:=by
 obtain⟨hn,DZ,hcm⟩:=bl hL;subst hn;obtain⟨-,lR,Aj⟩:=bl hK;have HL:=af hL;have HK:=af hK;have tj:=af qd;have pB:=af hpl;have HF:=af hf;have HG:=af hg;have HT:=af ht;have HQ:=af hq;have XU:=af DR;have LB:=af u;have HPP:ah (∀y∈l.map (f6 fun t=>gZ t ks),j_ y.1):=fun y n=>by obtain⟨z,hz,rfl⟩:=b_.1 n;exact aaU (hpl z hz) (qd z hz) hk3
 have CA:=af (Z_ K ck ks U w hK);have CN:=af (fun W (hX:Ext w W)=>adc (bU jq hL hX) fun y n=>(hf y n).mono he);have CL:=af (fun W (hX:Ext w W)=>aca (bU jq hL hX) hl he hf);have Hj:=af hl;clear hL hK qd hpl hf hg ht hq DR u U hl;go_enter func19,ntmps19;go_wp2_with fail
 refine CA.mono ?_;rintro e w1 ⟨rfl,hx1⟩;have cD:=af hx1;clear hx1;go_upto_region 4 with fail
 go_loopw [16] (fun A wr=>∃i:Nat,i<=l/\A=av i/\ah (Ext w wr)) (fun A _=>l - (RowKit.intOf A).toNat)
 exact⟨0,aU _,rfl,cD⟩;obtain⟨i,hi,rfl,F⟩:=hrel;by_cases r:i<l.length
 ·obtain⟨g,o,B,d,rfl,J,q1,q2,Q⟩:=Db (bU jq HL F) r;have x:=tj _ (a8 r);generalize l[i]=y at*;generalize cP y.2=t at*;go_upto_region 6 with fail
  refine aR fun W nC BX=> ?_;have D:ah (Ext w W):=F.trans nC;have CC:=af (acj (fid:=52) (fun _ _=>by rfl) (aI wr.heap.size 0) K ck ks W (HK.ext D) fun W' hX' f ha=>aqn (x f ha) ((BX.ext hX').aF 0));clear q1 q2;go_wp2_with fail
  refine CC.mono ?_;rintro e w2 ⟨rfl,s⟩;have P:ah (Ext w w2):=D.trans s;clear s CC;go_wp2_with fail
  go_roundw;exact⟨i+1,by omega,by go_num,P⟩;simp [RowKit.intOf];omega
 ·have d1:decide ((i:Int)<(l.length:Int))=false:=aW;go_wp2_with fail;refine(CN wr F).mono ?_;rintro e w2 ⟨rfl,s⟩;have P:ah (Ext w w2):=F.trans s;go_wp2_with fail
  refine(CL w2 P).mono ?_;rintro e w3 ⟨rfl,hx3⟩;have cE:ah (Ext w w3):=P.trans hx3;go_wp2_with fail
  refine(ajL w3).mono ?_;rintro e w4 ⟨kb,tb,hne,hkb,uo,rfl,hsm,iL⟩;have dW:ah (Ext w w4):=cE.trans iL;have Lp:=af hsm;have hw3:=cE.size;clear s hx3 iL hsm d1;go_upto_region 14 with fail
  refine aR fun W5 d8 BS=> ?_;go_upto_region 15 with fail
  have Y:=af (Lp.ext d8);have X:ah (Ext w W5):=dW.trans d8;have z7:w.heap.size<=w4.heap.size:=dW.size;have awC:kb<w4.heap.size/\tb<w4.heap.size:=(by obtain⟨_,_,_,_,h1,h2,_⟩:=Lp.ae;exact⟨h1.lt,h2.lt⟩)
  generalize w4.heap.size=sb at*;clear Lp dW d8;go_loopw [35] (fun Z wr=>∃i:Nat,i<=l/\Z=av i/\ah (lg ((l.take i).map (f6 fun t=>gZ t ks)) wr kb tb)/\ah (aq wr sb tW [.map (some kb),.map (some tb)])/\ah (Ext w wr)) (fun Z _=>l - (RowKit.intOf Z).toNat);exact⟨0,aU _,rfl,Y,BS,X⟩;clear Y X BS F hi;obtain⟨i,hi,rfl,HS,BS,F⟩:=hrel;by_cases r:i<l.length
  ·obtain⟨g,o,B,d,rfl,J,q1,q2,Q⟩:=Db (bU jq HL F) r;have I:=a8 r;have x:=tj _ I;have G:=HF _ I;have HPy:=af (aaU (pB _ I) x hk3);have yt:ah ((l.take (i+1)).map (f6 fun t=>gZ t ks)=(l.take i).map (f6 fun t=>gZ t ks)++ [(gZ l[i].1 ks,l[i].2)]):=(by rw[ah,fR r,kE];rfl)
   have Yf:ah (∀y∈(l.take i).map (f6 fun t=>gZ t ks),j_ y.1):=fun y n=>HPP y (by obtain⟨z,hz,rfl⟩:=b_.1 n;exact b_.2 ⟨z,nJ hz,rfl⟩);have HSF:=af (fun k=>acW (e:=c) k (L:=(l.take i).map (f6 fun t=>gZ t ks)) fun y n=>by obtain⟨z,hz,rfl⟩:=b_.1 n;exact HF z (nJ hz));have Ae:((l.take i).map (f6 fun t=>gZ t ks)).length=i:=by rw[bP,cO];omega
   have uK:=af Ae;rw[Ae] at HSF;have hle:i*(c+2)+1<=400000:=(by have h1:=aV (eK (c+1) hi) Hj;rw[IE];omega)
   clear Ae I;generalize(l.take i).map (f6 fun t=>gZ t ks)=Lt at*;generalize l[i]=y at*;obtain⟨yk,yq⟩:=y;simp only at q1 q2 Q x G HPy yt;have CR:=af (fun W=>SL yq W (e:=c) G Om);have G:=af G;have CP:=af (fun W (hX:Ext w W) h=>am' (B:=B) (d:=d) (vs:=yk) (K:=K) (ck:=ck) (ks:=ks) (w:=W) h (HK.ext hX) x Om);generalize cP yq=t at*;go_upto_region 17 with fail
   refine aR fun H O BG=> ?_;have D:ah (Ext w H):=F.trans O;have BS6:=af (BS.ext O);have Hb:=af (HS.ext O);have P6:=af (eB Q O);have hgb:wr.heap.size<H.heap.size:=BG.lt;have hwr:=F.size;generalize wr.heap.size=gb at*;clear q1 q2 Q;have bK:ah (∀q,Ext H q->(aA q sb 0 (.map (some kb))/\aA q sb 1 (.map (some tb)))/\aA q gb 0 (.slice B yk.length d)/\aA q gb 1 (aM t)):=fun q h=>⟨(BS6.ext h).two,(BG.ext h).two⟩;have M:ah (Ext H H.drew):=(aB H).drew;have aJ:=M;refine cG (S:=fun q=>Ext H q) (T:=fun j=>decide (8<=j)) Ok ?_;generalize H.drew=wd at*;refine ax 0 39 ?_;refine ax 1 40 ?_;refine ax 2 41 ?_;refine ax 3 42 ?_;refine ax 5 44 ?_;refine ax 6 45 ?_;refine aO 4 ?_;intro K' m;go_simp;refine(CP wd (D.trans M) (eB P6 M)).mono ?_;rintro e7 w7 ⟨v7,rfl,WC,vK⟩;have f_:ah (Ext H w7):=M.trans vK;obtain⟨A7,c7,_,rfl, -, -, -, -⟩:=WC.parts;have rr:=af WC.ls;refine m.ae _ _ (fun _=>f_.ae) ?_;clear m WC vK;refine aO 7 ?_;intro K' m;go_simp;refine(CR w7).mono ?_;rintro e8 w8 ⟨u8,rfl,hu8,fp⟩;have N:ah (Ext H w8):=f_.trans fp;have uH:=af (eB rr fp);have ww:=af hu8;refine m.ae _ _ (fun _=>N.ae) ?_;clear m hu8 fp;refine aO 8 ?_;intro K' m;go_simp;have V:ah (Ext w w8):=D.trans N;refine(anB XU (Hb.ext N) hne HPy Yf uH ww (by have:=uK.ae;omega) (G.mono he) ((HSF _).mono hle) (HQ.ext V)).mono ?_;rintro e9 w9 ⟨rfl,R,C⟩;have dQ:ah (Ext w w9):=Ext.bX V C fun j hj=>by simp only[aK,bJ,or_false] at hj;omega
   have avn:=af ((BS6.ext N).bX C Oc);have nD:=af R;refine m.ae _ _ Oe ?_;refine bY Ok ?_;clear m R C;go_wp2_with fail
   go_roundw;exact⟨i+1,by omega,by go_num,by rw[yt.ae];exact nD,avn,dQ⟩;simp [RowKit.intOf];omega
  ·have d1:decide ((i:Int)<(l.length:Int))=false:=aW;rw[dD Om] at HS;have o8:(dH (l.map (f6 fun t=>gZ t ks))).length<=l.length:=(by have:=aa2 (l.map (f6 fun t=>gZ t ks)) l.length;rwa[dD (by rw[bP];exact aL _)] at this)
   have CGR:=af (aja LB HPP axL HS HG Om (HT.ext F));clear o8;obtain⟨s0,s1⟩:=BS.two;go_wp2_with fail;refine CGR.mono ?_;rintro e w9 ⟨v,rfl,J,lj⟩;have Ey:=af J;have dQ:ah (Ext w w9):=F.trans lj;clear J lj;go_wp2;go_ret2;exact⟨v,rfl,Ey,dQ⟩
def adN{l:List Nat}(h:kh l=true):∀{c:List Nat},kh c=true->(∀k∈c,k<l.length)->kh (fW l c)=true
 | [],_,_=>rfl
 | [_],_,_=>rfl
 |a::b::r,e,d=>by rw[kh,cV,decide_eq_true_eq] at e;have i:=d a eH;have g:=d b (gQ _ eH);have f:=adN h e.2 fun k j=>d k (gQ _ j);have m:=nI.1 (Je h) a b i g e.1;unfold fW at f⊢;rw[jc,jc] at*;rw[kh,cV,decide_eq_true_eq];refine⟨?_,f⟩;rw[eG,eG,aX i,aX g];exact m
def amV{x:aP}{d:List Fu}(h:jy x d i)(g:kh j=true)(c:∀k∈j,k<i.length)(f:j.length<=3):jy x d (fW i j):=by refine⟨h.fl,by unfold fW;rw[bP];exact f,h.fo,fun a b=> ?_,adN h.ql g c⟩;unfold fW at b;obtain⟨k,e,rfl⟩:=b_.1 b;rw[eG,aX (c k e)];exact h.ao _ (a8 _)
def aoI{l k j:List Gp}(h:EF m (.slice E 3 a) [l,k,j]):∃g o r f q e n d,E=dV g o/\g<m.heap.size/\(aA m g o (.slice r l.length f)/\aA m g (o+1) (.slice q k.length e)/\aA m g (o+2) (.slice n j.length d))/\ah (pH m (.slice r l.length f) l)/\ah (pH m (.slice q k.length e) k)/\ah (pH m (.slice n j.length d) j):=by obtain⟨g,o,r,f,rfl,u,y,s⟩:=FE h (i:=0) Ou;obtain⟨z,t,q,e,c, -,x,q1⟩:=FE h (i:=1) Ou;obtain⟨z,t,n,d,b, -,v,q2⟩:=FE h (i:=2) Ou;injection c with c;injection c with c B;injection b with b;injection b with b A;subst c B b A;exact⟨g,o,r,f,q,e,n,d,rfl,u,⟨s,q1,q2⟩,y,x,v⟩
def aoV{x:aP}(h:sF m p x)(k:Kept aS m n):sF n p x:=by obtain⟨A,c,a,d,e,g,f⟩:=h;exact⟨A,c,a,d,e,gF cJ g fun t b=>by rw[bE.1 b];exact k,f⟩
def ajE(afg:∀w,d7 w->Calls prog 5 #[] w fun e U=>e= .returned (.bool true)/\Ext w U)(DR:OJ)(hnone:∀(p:aQ) (cap:Nat) (fv:Value) (w:au),Calls prog 201 #[.slice p 0 cap,fv] w fun e U=>e= .returned (.tuple #[])/\U=w)(t:TypeId)(A:aQ)(zs:List Int)(c:Nat)(w:au)(hc:zs.length<=c)(hm:c<=9223372036854775807)(hs:Sl w t A (eU zs))(hz:∀z∈zs, -9223372036854775808<=z/\z<=9223372036854775807)(ht:d7 w)(hq:ug w):
 Calls prog 4 #[.slice A zs.length c] w fun e U=>e= .returned (.bool true)/\Ext w U:=by
 go_enter func4,ntmps4;by_cases hl:zs.length<=400
 ·have hd:decide ((zs.length:Int)>400)=false:=aW;have CM:=af (aof t A zs c w hc hm Om hs hz);go_wp2_with fail
  refine CM.mono ?_;rintro e w1 ⟨rfl,arG,hx1⟩;generalize hgd:w.heap.size=g at*;go_wp2_with fail;refine(ak' g w1 arG).mono ?_;rintro e w2 ⟨x,v,o,D,u,qU,h5,h3,rfl,hv,ho,N,hD,hs2,ho2⟩;have HV:=af hv;have pC:=af ho;have YG:=af (arM hD);obtain⟨Aa,ca,Ba,da,Ea,ea,rfl, -, -, -⟩:=hv;obtain⟨Ao,co,p,dd,rfl, -, -⟩:=ho;have HDL:=af N.ls;obtain⟨Au,cu,xs,rfl, -, -, -, -⟩:=N.parts;have bk:ah (Ext w w2):=hx1.only ho2 Om;go_upto_region 5 with fail
  refine gJ fun W3 cE B6 B7=> ?_;have hb7:=B7.lt;have uD:=af (bk.trans cE);have G7:=af (HV.ext cE);have fJ:=af (pC.ext cE);have HD3:=af (iO.ext HDL cE);have qo:=af (hs2.ext cE);have hg6:g<w2.heap.size:=hs2.lt;generalize axd:w2.heap.size+1=b7 at*;generalize w2.heap.size=b6 at*;have Kw:g<b7:=Om;obtain⟨s0,s1,s2,s3⟩:=B6.four;obtain⟨m3,GD,hm4,hme⟩:∃m:Nat,m<=3/\m<=x.ai.length/\(min (x.ai.length:Int) 3:Int)=(m:Int):=⟨min x.ai.length 3,ZM _ _,ZY _ _,by omega⟩;have CS:=af (ab8 g m3 2 W3 qo Om Od Od);go_wp2_with fail
  refine CS.mono ?_;rintro e w4 ⟨l,ul,Kr,Ae,jU,rfl,vO,Gw,DY⟩;have Yj:ah (kh l=true/\(∀a∈l,a<x.ai.length)/\l.length<=3):=⟨Kr,fun a ha=>cy (Ae a ha) hm4,by omega⟩;have WI:l.length<=3:=Yj.2.2;have yz:=af DY;have Qa:=af vO;have mJ:=af Gw;have WS:W3.heap.size<=w4.heap.size:=DY.size;obtain⟨Al,cl,xl,rfl, -, -, -, -⟩:=vO.parts;rw[jt];clear vO Gw DY Kr Ae jU CS s0 s1 s2 s3;go_upto_region 6 with fail
  refine aR fun W5 d8 B8=> ?_;have GL:=B8.lt;have mG:ah (Only g w4 W5):=dM d8;have mI:=af (mJ.ext d8);have hg4:=mJ.lt;generalize axb:w4.heap.size=b8 at*;have CN:=af (oP g 3 W5 mI Om Om);go_wp2_with fail
  refine CN.mono ?_;rintro e w6 ⟨r0,Kk,rfl,xX,Gz⟩;have Hb:=af xX;have pg:=af (mG.trans Gz);have B86:=af (B8.only Gz Om);have Pa:W5.heap.size<=w6.heap.size:=Gz.size;have h83:W3.heap.size<=b8:=WS;clear xX Gz CN B8;have H:ah (∀wr,Only g w4 wr->dP wr (.agg #[.slice Aa x.ai.length ca,.slice Ba x.ay.length da,.slice Ea x.a_.length ea,av x.label]) x/\sF wr (.agg #[.slice Ao x.ai.length co]) x/\iO wr (.slice Au D.length cu) D/\aq wr b6 kM [.slice Aa x.ai.length ca,.slice Ba x.ay.length da,.slice Ea x.a_.length ea,av x.label]/\aq wr b7 sf [.slice Ao x.ai.length co]/\IL wr (.slice Al l.length cl) (ints l)/\Ext w wr):=fun wr ho=>by
   have hy:=yz.trans ho;have qd:∀u,Ga≠u->Kept u W3 wr:=Src.Oh qo hy;refine⟨G7.past qo hy,aoV fJ (qd _ Od),gF tR HD3 fun u N=>qd u (by simp only[aK,bJ,or_false] at N;rcases N with rfl|rfl|rfl<;>decide),B6.only hy Om,B7.only hy Om,?_,uD.only hy Om⟩
   have h1:=(Qa.only cJ ho Om Oe).ls;rw[jt] at h1;exact h1
  go_upto_region 7 with fail
  go_loopw [8] (fun v8 wr=>∃(k:Nat) (b:List Fu) (vv:Value),v8=av (k:Int)/\b.length+k<=2/\ah (∀f∈b,nX x f)/\ah (aq wr b8 ud [vv,.slice Al l.length cl])/\ah (bG g7 3 lD w6.heap.size wr vv b)/\ah (cL wr g)/\ah (Only g w4 wr)/\w6.heap.size<=wr.heap.size) (fun v8 _=>(RowKit.intOf v8).toNat)
  exact⟨r0,[],_,rfl,by simp;omega,Oe,B86,ii,Hb,pg,aL _⟩;clear B86 Hb pg;obtain⟨k,b,vv,rfl,hk,Qq,Ma,yu,Eo,P1,hsz⟩:=hrel;obtain⟨J,G,xv,rfl,_,_, -, -⟩:=yu.parts;have Qg:=af (H wr P1);by_cases uu:0<k
  ·obtain⟨s0,s1,s2,s3⟩:=Qg.2.2.2.1.four;go_wp2_with fail;refine(aog g _ x wr Eo Qg.1 qU).mono ?_;rintro e Z ⟨f,rfl,Pq,qb,s⟩;have rr:=af (P1.trans s);have kt:=af qb;have Eu:=af Pq;have E:=af (Ma.only s Om);have ahX:=af (yu.only lZ s Om Oe);have atp:w6.heap.size<=Z.heap.size:=aV hsz s.size;clear s0 s1 s2 s3 qb s Pq Qg Eo Ma yu;go_upto_region 10 with fail
   refine aR fun Wb G0 BF=> ?_;have HOb:=af (rr.trans (dM G0));have HKb:=af (H Wb HOb);have ato:w6.heap.size<=Wb.heap.size:=aV atp G0.size;generalize Z.heap.size=fb at*;obtain⟨s0,s1,s2,s3⟩:=HKb.2.2.2.1.four;have f0:=BF.aF 0;have f1:=BF.aF 1;have f2:=BF.aF 2;go_wp2_with fail
   refine gJ (P:=fun W=>Calls _ _ _ W _) fun Wc po B1 B2=> ?_;have hAg:ry Wc (aG (Wb.heap.size+1) 0 1 1) [([f],[])]:=mY (l:= [([f],[])]) B2 ⟨_,[],rfl,⟨dV Wb.heap.size 0,1,none,0,rfl,mY (l:= [f]) B1 ⟨_,[],rfl,rfl,rfl⟩ Ou,(ii (base:=0) (k:=1)).ls⟩,rfl⟩ Ou;refine(alM _ x f _ 1 Wc (HKb.1.ext po) qU Eu hAg).mono ?_;rintro e wd ⟨z,rfl,hzf,hxd⟩;have r:=af (po.trans hxd);have Eh:=af (G0.trans r);have Lz:=af (HOb.trans (dM r));have Za:=af (BF.ext r);have nD:=af (kt.ext Eh);have Ze:=af (E.ext Eh);have ahW:=af (ahX.ext lZ Eh);have U3:w6.heap.size<=wd.heap.size:=aV ato r.size;clear hAg hxd s0 s1 s2 s3 f0 f1 f2 BF B1 B2 kt E ahX;by_cases h0:z=0
   ·subst h0;have x4:nX x f:=hzf rfl;have au8:ah (∀z∈b++ [f],nX x z):=fun z hz=>by
     rcases bO.1 hz with hz|hz
     ·exact Qq z hz
     ·rw[bE.1 hz];exact x4
    have f0:=Za.aF 0;have f1:=Za.aF 1;have f2:=Za.aF 2;have q0:=Ze.aF 0;obtain⟨_,_,xv,ee,_,_,i4,tk⟩:=ahW.parts;injection ee with uy _ ux;subst uy ux;have dC:(b.length+1)*32<=140737488355328:=Om;go_wp2_with (at_builtin;refine gf rfl _ _ ae' rfl w6.heap.size amM _ _ _ rfl i4.ae #[av (f.1:Int),av (f.2.1:Int),aM f.2.2] 1 1 rfl rfl rfl dC U3 ?_)
    intro v' sH qN F _;have pd:=af (iF (R:=lD) (x:=f) lZ Oe i4 tk rfl qN F);obtain⟨VJ,Vp,xq,rfl,_,_, -, -⟩:=pd.parts;rw[bD,gc] at pd⊢;have H':=af (gK Ze i4 F Om);have auw:=af (nD.grown F (fun k hk=>by have:=(i4.lt k hk).1;omega));have auK:=af (zg Lz i4 F Om);have UA:w6.heap.size<=sH.heap.size:=aV U3 F.size;clear qN F f0 f1 f2 q0;have v0:=H'.aF 0;have km:=H'.frozen 0;have hlw:=H'.lt;obtain⟨GU,OD,Me,XC,uB⟩:=fM (i:=0) H'.ae (.slice VJ (b.length+1) Vp);have XA:=af (pd.only lZ uB Om Oe);have auv:=af (auw.past uB hg4);have auJ:=af (auK.fresh uB Om);have arF:w6.heap.size<=GU.heap.size:=aV UA uB.size;go_wp2_with fail
    go_roundw;exact⟨k - 1,b++ [f],_,by rw[Z1 Om];rfl,by simp;omega,au8,Me,XA,auv,auJ,arF⟩;simp [RowKit.intOf];omega
   ·have hz0:(z==0)=false:=beq_eq_false_iff_ne.2 h0;go_wp2_with fail;go_roundw;exact⟨k - 1,b,_,by rw[Z1 Om];rfl,by omega,Qq,Ze,ahW,nD,Lz,U3⟩;simp [RowKit.intOf];omega
  ·obtain rfl:k=0:=Om;have hf2:b.length<=2:=Om;have q1:=Ma.aF 1;have CS:=af (ab8 g l.length 2 wr Eo Om Od Od);go_wp2_with fail
   refine CS.mono ?_;rintro e Z ⟨n,uk,hka,sR,df,rfl,U7,qb,s⟩;have I:ah (kh n=true/\(∀k∈n,k<l.length)/\n.length<=3):=⟨hka,sR,by omega⟩;have rr:=af (P1.trans s);have E:=af (Ma.only s Om);have uM:ah (Ls g7 lD Z (.slice J b.length G) b):=(yu.only lZ s Om Oe).ls;have tj:=af U7.ls;obtain⟨Ak,ck,xk,rfl, -, -, -, -⟩:=U7.parts;rw[jt] at tj⊢;have axc:=E.lt;have HK7:=af (H Z rr);have EE:ah (jy x b l):=⟨by omega,WI,Qq,Yj.2.1,Yj.1⟩;clear hka sR df U7 qb s CS q1 Qg yu Ma Eo P1 Qq hsz H;have bK:ah (∀U,aq U b8 ud [.slice J b.length G,.slice Al l.length cl]->aA U b8 0 (.slice J b.length G)/\aA U b8 1 (.slice Al l.length cl)):=fun U h=>h.two;go_upto_region 13 with fail
   have CP:ah (∀W,Ext Z W->Calls prog 18 #[.slice Al l.length cl,.slice Ak n.length ck] W fun e U=>∃v,e= .returned v/\bG aS 1 dw W.heap.size U v (ints (fW l n))/\Ext W U):=fun W hx=>amw (iU HK7.2.2.2.2.2.1 hx) (iU tj hx) I.2.1 (by have:=I.2.2;omega);go_cut [11] from 65 to 71 (fun v11 wx=>∃(b9:Nat) (Q:aQ) (O:Nat),v11=aI b9 0/\Ext Z wx/\IL wx (.slice Q (fW l n).length O) (ints (fW l n))/\aq wx b9 ud [.slice J b.length G,.slice Q (fW l n).length O]);case first=>
    have r:ah (Ext Z Z.drew):=(aB Z).drew;have aJ:=af (E.ext r);refine cG (S:=fun U=>aq U b8 ud [.slice J b.length G,.slice Al l.length cl]) (T:=fun _=>false) Ok ?_;generalize Z.drew=wd at*;refine ax 0 65 ?_;refine ax 1 66 ?_;refine ax 2 67 ?_;refine ax 3 68 ?_;refine ax 4 69 ?_;refine FJ 5 7 Ok ?_ ?_
    ·intro o ho K hK;simp only[eR,dX,dA,dl] at ho;subst ho;go_simp;refine(CP wd r).mono ?_;rintro e w8 ⟨v,rfl,V,q⟩;have X:=af (r.trans q);have aJ:=af (aJ.ext q);have pB:=af V.ls;obtain⟨Q,O,xp,rfl, -, -, -, -⟩:=V.parts;rw[jt] at pB⊢;clear V q;refine hK.ae _ _ (fun _=>aJ.ae) ?_;refine ax 6 71 ?_;refine aO 7 ?_;intro K hK;go_simp;refine hK.ae _ _ (fun _=>aJ.ext ((aB w8).alloc _)) ?_;have aJ:=af (aJ.ext ((aB w8).alloc (.cells #[.slice none 0 0,.slice none 0 0] ud)));refine aO 8 ?_;intro K hK;go_simp;refine hK.ae _ _ (fun _=>E.ext ((X.ae).alloc _)) ?_;refine bY Ok ?_;go_wp2_with fail
     go_meet;exact⟨_,Q,O,rfl,X.alloc _,iU pB ((aB _).alloc _),jd w8 ud [.slice J b.length G,.slice Q (fW l n).length O]⟩
    ·intro o ho K hK;simp only[eR,dX,dA,dl] at ho;subst ho;go_simp;refine hK.ae _ _ (fun _=>E.ext (r.alloc _)) ?_;refine aR fun WZ cI BZ=> ?_;have HXz:=af (r.trans cI);have vZ:Z.heap.size<=wd.heap.size:=r.size;generalize wd.heap.size=b9 at*;refine aO 5 ?_;intro K hK;go_simp;refine(CP WZ HXz).mono ?_;rintro e w8 ⟨v,rfl,V,q⟩;have X:=af (HXz.trans q);have aJ:=af (E.ext X);have Y:=af (BZ.ext q);have X_:=af V;obtain⟨Q,O,xp,rfl, -, -, -, -⟩:=V.parts;rw[jt] at X_⊢;have hbl:=BZ.lt;clear V q;refine hK.ae _ _ (fun _=>aJ.ae) ?_;refine ax 6 71 ?_;have q0:=Y.aF 0;have q1:=Y.aF 1;have qf:=Y.frozen 0;have qf1:=Y.frozen 1;have aw_:=Y.lt;refine aO 8 ?_;intro K hK;go_simp;have wn:ah (Ext Z ((w8.setCell (aD b9 0) (.slice J b.length G)).setCell (aD b9 1) (.slice Q (fW l n).length O))):=(X.setCell vZ _).setCell vZ _;have pu:ah (aq ((w8.setCell (aD b9 0) (.slice J b.length G)).setCell (aD b9 1) (.slice Q (fW l n).length O)) b9 ud [.slice J b.length G,.slice Q (fW l n).length O]):=(Y.bh 0 _).bh 1 _;have HW3:ah (IL ((w8.setCell (aD b9 0) (.slice J b.length G)).setCell (aD b9 1) (.slice Q (fW l n).length O)) (.slice Q (fW l n).length O) (ints (fW l n))):=by exact gF cJ X_.ls fun u N=>by rw[bE.1 N];exact Y.pW Od 0 1 _ _
     refine hK.ae _ _ (fun _=>E.ext wn) ?_;clear q0 q1 qf qf1;refine bY Ok ?_;go_wp2_with fail;go_meet;exact⟨b9,Q,O,rfl,wn,HW3,pu⟩
   case rest=>
    obtain⟨b9,Q,O,rfl,q,hpl,hb9⟩:=hcut;have X:=af q;have pB:=af hpl;have B9:=af hb9;have Ht:=af (E.ext q);clear q hpl hb9;have q0:=Ht.aF 0;go_upto_region 15 with fail
    refine aR fun W9 dQ BC=> ?_;have uD:=af (X.trans dQ);have avt:=af (Ht.ext dQ);have B99:=af (B9.ext dQ);generalize wc.heap.size=b10 at*;clear q0 Ht;have hk:=HK7.ae;obtain⟨s0,s1,s2,s3⟩:=(hk.2.2.2.1.ext uD).four;have r0:=(hk.2.2.2.2.1.ext uD).aF 0;obtain⟨a0,a1⟩:=avt.two;obtain⟨e0,e1⟩:=B99.two;obtain⟨f0,f1⟩:=BC.two;go_wp2_with fail
    refine aR (P:=fun W=>Calls _ _ _ W _) fun Wr jg BR=> ?_;have C:=af (uD.trans jg);have Bg:ah (ry Wr (.slice (dV W9.heap.size 0) 3 3) [(b,l),(b,fW l n),(b,[])]):=mY (l:= [(b,l),(b,fW l n),(b,[])]) BR ⟨[.slice J b.length G,.slice Al l.length cl],[.slice J b.length G,.slice Q (fW l n).length O,.slice J b.length G,.slice none 0 0],rfl,⟨J,G,Al,cl,rfl,bU lZ uM C,iU hk.2.2.2.2.2.1 C⟩,[.slice J b.length G,.slice Q (fW l n).length O],[.slice J b.length G,.slice none 0 0],rfl,⟨J,G,Q,O,rfl,bU lZ uM C,iU pB (dQ.trans jg)⟩,[.slice J b.length G,.slice none 0 0],[],rfl,⟨J,G,none,0,rfl,bU lZ uM C,(ii (base:=0) (k:=1)).ls⟩,rfl⟩ Ou;have Xn:=hk.2.2.2.2.2.2;refine(aql (hk.1.ext C) qU (hk.2.1.ext C) YG rfl (iO.ext hk.2.2.1 C) h5 h3 I.2.1 Bg EE (amV EE I.1 I.2.1 I.2.2) ⟨EE.fl,by simp,EE.fo,fun a h=>(nomatch h),rfl⟩ hf2 ((ht.ext Xn).ext C.ae)).mono ?_;rintro e wg ⟨P,p,GA,GB,GC,rfl,mE,j,hxg⟩;have yI:=af j;have YB:=af ((Xn.trans C).trans hxg);have HKG:ah (IL wg (.slice Ak n.length ck) (ints n)):=iU tj (C.trans hxg);obtain⟨gg,og,A0,c0,A1,c1,A2,c2,rfl,D5,hqq,Yu,yF,Hn⟩:=aoI mE;clear s0 s1 s2 s3 r0 a0 a1 e0 e1 f0 f1 j mE Xn;obtain⟨q0,q1,q2⟩:=hqq;have lR:n.length<=3:=I.2.2;have j:=yI.ae;have WU:GA.length*(79+1)<=6000:=by have:=j.gl;omega
    have PC:∀y∈dH (GA.map (f6 fun t=>gZ t n)),bR 400 y.2:=by rw[j.eb];exact j.fb
    go_wp2_with fail
    refine(ajM DR hnone Yu HKG I.1 lR (fun y hy k hk=>by rw[(j.kp y hy).2];exact I.2.1 k hk) (fun y hy=>(j.kp y hy).1) WU Od j.fa PC (by have:=j.gl;omega) (ht.ext YB) (hq.ext YB)).mono ?_;rintro e wh ⟨v,rfl,Pc,M⟩;rw[j.eb] at Pc;obtain⟨B,d,xv9,rfl, -⟩:=id Pc;have Qn:=af Pc;have ah4:=af (bU jq Yu M);have HEH:=af (YB.trans M);have p0:=(M.cell D5).trans q0;have p1:=(M.cell D5).trans q1;have p2:=(M.cell D5).trans q2;have PB:gg<wh.heap.size:=cy D5 M.size;clear q0 q1 q2 Pc;go_wp2_with fail
    refine(ajV ah4 WU Od j.fa j.ft (ht.ext HEH)).mono ?_;rintro e wi ⟨rfl,L⟩;have HEI:=af (HEH.trans L);have HGI:=af (bU jq Qn L);have ah3:=af (bU jq yF (M.trans L));have ah2:=af (bU jq Hn (M.trans L));have r0:=(L.cell PB).trans p0;have r1:=(L.cell PB).trans p1;have r2:=(L.cell PB).trans p2;clear p0 p1 p2;go_wp2_with fail
    refine(aas HGI ah3).mono ?_;rintro e wj ⟨rfl,n1,rfl⟩;have jG:ah (Ext wi (wi.drewN n1)):=(aB wi).drewN n1;have HEJ:=af (HEI.trans jG);have kj:gg<wi.heap.size:=cy PB L.size;have r0:=(jG.cell kj).trans r0;have r2:=(jG.cell kj).trans r2;have HG9:=af (bU jq ah2 jG);have CSn:=af (afg (wi.drewN n1) (ht.ext HEJ));have h1:=j.c0;have h2:=j.c1;clear j yI HGI ah3 ah2 Qn ah4 Yu yF Hn PC WU r1;by_cases hn:GC= []
    ·obtain rfl:=h1 hn;subst hn;clear h1 h2;exact agv
    ·obtain rfl:=h2 hn;clear h1 h2 hn;obtain⟨gz,oz,Bz,dz,rfl, -, -,z1, -⟩:=Db HG9 (i:=0) Ou;generalize hT:cP (ke GA)=T at*;replace z1:aA (wi.drewN n1) gz (oz+1) (aM T):=by rw[<-hT];exact z1
     exact agv
 ·have hd:decide ((zs.length:Int)>400)=true:=fN;go_wp2_with fail;refine(afg w ht).mono ?_;rintro e w1 ⟨rfl,hx1⟩;go_wp2_with fail;exact bodyPost_ret (v:= .bool true) (by simp [results,results4,go_sem]) rfl ⟨rfl,hx1⟩
section
open Go.Sort Go.Shelf
def aqM:Go.Proofs.SlLaysF0.n6 prog aa7:=axz
def alB(p:aQ)(a:Nat)(b:Value)(w:au):Calls prog 201 #[.slice p 0 a,b] w fun e c=>e= .returned (.tuple #[])/\c=w:=AnyF.slices_SortFunc_none aqM p a b w
end
end Go.Proofs.YtehkcnbodcdijaaGreatDoor
