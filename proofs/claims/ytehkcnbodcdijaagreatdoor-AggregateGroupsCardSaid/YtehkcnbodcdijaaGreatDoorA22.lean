/- Texts of the proof, part 22. -/
import Derived.Test.YtehkcnbodcdijaaGreatDoorA21
namespace Go.Proofs.YtehkcnbodcdijaaGreatDoor
set_option maxHeartbeats 8000000
set_option linter.all false
set_option maxRecDepth 100000
variable{ar:Prop}
open Go.RowKit Go.Lib Go.Maps Go.ChangeShapes Go.WideShapes Go.ChangeAt Go.Proofs.Tryz
variable{a b c d e f g h:Nat}{i j k l:List Nat}{m n o:World}{p q r s:Value}{t u v:List Value}{w x:TypeId}{y z:Nat→Option Nat}{A:Nat→List Nat}{B C:Int}{E F:Option Addr}{H I:Rat}{J:Nat→Nat}{K:Nat→Bool}{L:List Int}{N:Array Bool}{O:Option Nat}{Q:Act}{R S:Bool}{T:List UInt8}
def asu.atg(h:ar:=by
 obtain⟨y,o,rfl,u,m,l⟩:=oM (bU nM HA n) lK;have k:=V.ak _ (a8 lK);have X:ah (kd x an=x.ai[an].2):=by unfold kd;simp [ah,lK]
 rw[X.ae] at G2;generalize x.ai[an]=R at*;obtain⟨nm,ak⟩:=R;simp only at m l k G2;have RV:=af (fun b=>Tb nm t ak b k G2);have Z:=af (BY.ext K0);have BXj:=af (BX.ext K0);clear k;go_upto_region 4 with fail
 have bK:ah (∀b,Ext wr b->aA b w.heap.size 0 (aG y o AN c)/\aA b (w.heap.size+1+1) 0 (aG P D cs Q)/\aA b P (D+j) (aM t)/\aA b y (o+an*2) (aM nm)/\aA b y (o+an*2+1) (av ak)):=fun b r=>⟨(BXj.ext r).aF 0,(Z.ext r).aF 0,(r.cell (p:=aD P (D+j)) L).trans hcv,(r.cell (p:=aD y (o+an*2)) u).trans m,(r.cell (p:=aD y (o+an*2+1)) u).trans l⟩;have aJ:ah (Ext wr wr.drew):=(aB wr).drew;clear hcv M m l;refine cG (S:=fun b=>Ext wr b) (T:=fun _=>false) Ok ?_;generalize wr.drew=wd at*;refine ax 0 17 ?_;refine ax 1 18 ?_;refine ax 2 19 ?_;refine ax 3 20 ?_;refine ax 4 21 ?_;refine ax 5 22 ?_;refine ax 6 23 ?_;refine ax 7 24 ?_;refine ax 8 25 ?_;refine ax 9 26 ?_;refine aO 10 ?_;intro K hK;go_simp;refine(RV wd).mono ?_;rintro e7 w7 ⟨rfl,q⟩;have C:=af (aJ.trans q);refine hK.ae _ _ (fun _=>C.ae) ?_;clear hK q;have aJ:=C;refine ax 11 28 ?_;exact as5):=h
def akH(v:Value)(x:aP)(rn:List UInt8)(Bi:aQ)(mi di:Nat)(cs:List Int)(Bk:aQ)(nk Q:Nat)(yv:List aC)(yw:Int)(w:au)(h:dP w v x)(ok:bV x)(J:IL w (.slice Bi mi di) cs)(E:TL w (.slice Bk nk Q) yv)(hr:∀a∈cs,0<=a/\a<x.ai)(F:oK x cs yv):
 Calls prog 222 #[v,.agg #[aM rn,.slice Bi mi di],.agg #[.slice Bk nk Q,av yw]] w fun e b=>e= .returned (.bool true)/\Ext w b:=by
 obtain⟨A,c,B,d,Dd,e,rfl,O,G,hf⟩:=h;obtain⟨I,ag9,ag8⟩:=bl J;obtain⟨H,s,awr⟩:=bl E;subst I H;have HA:=af O;have V:=af ok;have Y:=af J;have z:=af E;have gC:=af hr;have G1:=af F;have f:yv.length=cs.length:=F.1;have U:=af f;obtain⟨AN,g⟩:∃AN,x.ai.length=AN:=⟨_,rfl⟩;have uO:=af g;rw[g] at HA gC⊢;rw[f] at z⊢;obtain⟨-,N,ha2⟩:=bl O;rw[g] at N;generalize x.ay.length=RN at*;generalize x.a_.length=FN at*;rw[f] at s;clear O G hf ok J E hr F f g;go_enter func222,ntmps222;go_upto_region 1 with fail
 refine vG fun W HX BX BR BY=> ?_;obtain⟨r0,r1⟩:=BR.two;go_upto_region 2 with fail
 clear r0 r1;go_loopw [12] (fun i wr=>∃j:Nat,j<=cs/\i=av j/\ah (Ext W wr)) (fun i _=>cs - (RowKit.intOf i).toNat);exact⟨0,aU _,rfl,aB _⟩;obtain⟨j,hj,rfl,K0⟩:=hrel;by_cases Az:j<cs.length
 ·have Ay:j<yv.length:=by rw[U.ae];exact Az
  have n:=af (HX.trans K0);obtain⟨P,D,rfl,L,hcv⟩:=rX (eB z n) Ay;obtain⟨gi,oi,rfl,kj,M⟩:=ij (iU Y n) Az;open asu in exact as6
 ·have d1:decide ((j:Int)<(cs.length:Int))=false:=aW;go_wp2;go_ret;exact⟨rfl,HX.trans K0⟩
def asr.k40(h:ar:=by
 clear hy;obtain⟨P,N⟩:=y;simp only at dZ eY G9 G1 zX hw2;have C:P.length=cs.length:=G1.1;have G3:=af C;rw[C] at dZ G9;clear C;go_upto_region 11 with fail
 refine aR fun W4 D O=> ?_;have F:=af (HE.trans D);have f:=af (jg.trans D);have t:=af (eB G9 D);have hwr:W2.heap.size<=wr.heap.size:=jg.size;have hyx:=O.lt;have Bl:=af (BR.ext f);have Y:=af (Z.ext f);obtain⟨y0,y1⟩:=O.two;obtain⟨r0,r1⟩:=Bl.two;obtain⟨s0,s1,s2,s3⟩:=Y.four;have JV:=af (akH _ x rn Bi cs di cs Bk cs dk P N W4 (HV.ext F) L (iU M F) t (by rw[uO.ae];exact gC) G1);clear dZ eY mE;go_wp2_with fail
 refine JV.mono ?_;rintro e7 H ⟨rfl,g⟩;have jG:=af (f.trans g);have V:=af (F.trans g);have T:=af (eB t g);have X:=af (O.ext g);clear y0 y1 r0 r1 s0 s1 s2 s3 O;obtain⟨y0,y1⟩:=X.two;have w1:decide (N<low)=false:=aW;have w2:decide (N>100)=false:=aW;have w3:(N==0)=false:=axo;cases k with
 |zero=>exact as3
 |succ q=>
  obtain⟨Bq,dq,kS,x6,S⟩:=pB H V q Om;have E:=af (HLT q Om);rw[<-HY.ae] at E;simp only at E;generalize l[q]=z at*;have U:ah (∀n,Calls prog 223 #[.slice Bq z.1 dq,.slice Bk cs dk] (H.drewN n) fun e w'=>e= .returned (.bool true)/\∃m,w'=H.drewN m):=fun n=>by refine(amD _ _ _ _ _ _ z.1 P _ (eB S ((aB H).drewN n)) (eB T ((aB H).drewN n))).mono ?_;rintro e w' ⟨h1,rfl⟩;rw[E.ae] at h1;exact⟨h1,_,rfl⟩
  have k1:decide (((q+1:Nat):Int)>0)=true:=fN;go_upto_region 17 with fail
  go_quiet ((go_at_call 223;exact U _));go_wp2;go_roundw;exact⟨q+2,by omega,by go_num,jG.drewN _⟩;simp [RowKit.intOf];omega):=h
def ass.Kd(h:ar:=by
 have G:=af (BX.ext hx1);have s:=af (HX.trans hx1);have dZ:=(s.cell (p:=aD gr (I+i*2)) j).trans dZ;have eY:=(s.cell (p:=aD gr (I+i*2+1)) j).trans eY;have awO:=cy j s.size;clear s0 s1 s2 s3 BX hx1 j;obtain⟨s0,s1,s2,s3⟩:=G.four;have nz:=G.lt;have d1:decide ((i:Int)<0)=false:=aW;have d2:decide (RN<=i)=false:=aW;have d3:decide (b<l)=false:=aW;generalize AD:w.heap.size=bs at*;go_upto_region 8 with fail
 refine aR fun W2 K BR=> ?_;have Z:=af (G.ext K);have cE:=af (s.trans K);have hrx:=BR.lt;clear s0 s1 s2 s3 d1 d2 d3 dZ eY;generalize w1.heap.size=br at*;go_upto_region 9 with fail
 go_loopw [42] (fun u wr=>∃k:Nat,k<=l/\u=av k/\ah (Ext W2 wr)) (fun u _=>l - (RowKit.intOf u).toNat)
 exact⟨0,aU _,rfl,aB _⟩;obtain⟨k,hk,rfl,jg⟩:=hrel;by_cases df:k<l
 ·open asr in exact m40
 ·have R:k=l.length:=Om;have d1:decide ((k:Int)<(l.length:Int))=false:=aW;clear R;go_wp2;go_ret;exact⟨rfl,cE.trans jg⟩):=h
def ast.k32(h:ar:=by clear qi ha gL hf ok GR hl ht kQ hr;obtain⟨gr,I,Bi,mi,di,hB,j,dZ,eY,o⟩:=rV HR gp;rw[s6.ae] at dZ o;subst hB;obtain⟨J,ag9,ag8⟩:=bl o;have M:=af o;simp only at dZ eY J M;subst J;clear o;go_enter func159,ntmps159;open ass in exact Kc):=h
def amB(v:Value)(x:aP)(i:Nat)(A0:aQ)(n0 c0:Nat)(l:List Rw)(r:Rl)(low:Int)(b:Nat)(w:au)(h:dP w v x)(ok:bV x)(hl:oq w (.slice A0 n0 c0) l)(hr:x.ay[i]? =some r)(ht:xJ x r.2 l)(ahb:low<=1)(Q:60<=b):
 Calls prog 159 #[v,av i,.slice A0 n0 c0,av b,av low] w fun e w'=>e= .returned (av 0)/\Ext w w':=by
 have CH:=af (fun w' (hx:Ext w w')=>I7 v x w' (h.ext hx) ok);have HV:=af h;have L:=af ok;open ast in exact m32
def asq.Kd(h:ar:=by go_wp2;go_ret;exact⟨rfl,HX.trans hx1⟩):=h
def aou(v:Value)(x:aP)(i:Nat)(j:aQ)(b g:Nat)(l:List Rw)(r:Rl)(w:au)(h:dP w v x)(k:bV x)(p:oq w (.slice j b g) l)(o:x.ay[i]? =some r)(n:xJ x r.2 l):
 Calls prog 92 #[v,av i,.slice j b g] w fun e a=>e= .returned (av 0)/\Ext w a:=by
 have CH:=af (fun a (m:Ext w a)=>amB v x i j b g l r 1 60 a (h.ext m) k (zD p m) o n Od Od);obtain⟨A,c,B,d,y,e,rfl,s,f,q⟩:=h;clear p n o s f q k;generalize x.ai.length=z at*;generalize x.ay.length=t at*;generalize x.a_.length=u at*;go_enter func92,ntmps92;open asq in exact Kc
def asn.k91(h:ar:=by have s:=af (CT wr HE k Bk t dk t r Yf HRr G9);obtain⟨s0,s1,s2,s3⟩:=BXr.four;go_wp2_with fail;refine s.mono ?_;rintro z u ⟨rfl,f⟩;have jG:=af (jg.trans f);clear s0 s1 s2 s3 AC;exact OW):=h
def aso.Kd(h:ar:=by
 have qw:=af (BX.ext hx1);have cD:=af (HX.trans hx1);clear s0 s1 s2 s3 BX hx1;obtain⟨s0,s1,s2,s3⟩:=qw.four;go_upto_region 7 with fail
 clear s0 s1 s2 s3;go_loopw [22] (fun b wr=>∃k:Nat,k<=D/\b=av k/\ah (Ext w1 wr)) (fun b _=>D - (RowKit.intOf b).toNat);exact⟨0,aU _,rfl,aB _⟩;obtain⟨k,y,rfl,jg⟩:=hrel;by_cases df:k<D
 ·open asn in exact m91
 ·exact as2):=h
def asp.atf(h:ar:=by go_enter func35,ntmps35;open aso in exact Kc):=h
def ap6(v:Value)(x:aP)(o:aQ)(j m:Nat)(D:List (List Rw))(w:au)(h:dP w v x)(ok:bV x)(hl:iO w (.slice o j m) D)(hD:ip x D):
 Calls prog 35 #[v,.slice o j m] w fun e a=>e= .returned (av 0)/\Ext w a:=by
 have CH:=af (fun a (g:Ext w a)=>I7 v x a (h.ext g) ok);have CT:=af (fun a (g:Ext w a) (i:Nat) (n:aQ) (m0 d0:Nat) (l:List Rw) (r:Rl) (hl:oq a (.slice n m0 d0) l) (q:x.ay[i]? =some r) (p:xJ x r.2 l)=>aou v x i n m0 d0 l r a (h.ext g) ok hl q p);open asp in exact as4
def amX(g n c:Nat)(p:n<=c)(m:c<=maxLen)(w:au)(f:∀k,k<n->aA w g k (av 0)):
 Calls prog 33 #[aG g 0 n c] w fun e j=>e= .returned (av 0)/\w=j:=by
 have o:=af f;have l:c<=9223372036854775807:=m;clear f;go_enter func33,ntmps33;go_upto_region 3 with fail
 go_loopw [5,8] (fun _ b wr=>∃i:Nat,i<=n/\b=av i/\wr=w) (fun _ b _=>n - (RowKit.intOf b).toNat)
 exact⟨0,aU _,rfl,rfl⟩;obtain⟨i,r,rfl,a⟩:=hrel;have a:=a.symm;subst a;by_cases d:i<n
 ·have q:=o i d;exact VZ
 ·have d1:decide ((i:Int)<(n:Int))=false:=aW;go_wp2_with fail;exact bodyPost_ret (v:=av 0) (by simp [results,results33,go_sem]) rfl ⟨rfl,rfl⟩
abbrev ae9:TypeId:=47
abbrev LZ:=nZ fh sG
abbrev EF:=Ls mm LZ
def LZ.iH:jR [fh,bC] LZ:=nZ.iH jq
def FH:=@LZ.iH
def ake:j7 prog ae9 mm 1 24:= .mk' (z:= .slice none 0 0) Ok Ok rfl Od Od
def Je:∀{l:List Nat},kh l=true->l.Pairwise (·<·)
 | [],_=>List.Pairwise.nil
 | [_],_=>EM _ _
 |a::b::l,h=>by
  rw[kh,cV,decide_eq_true_eq] at h;have e:=Je (l:=b::l) h.2;refine iP.2 ⟨fun c d=> ?_,e⟩;rcases aK.1 d with rfl|d
  ·exact h.1
  ·exact Ru h.1 ((iP.1 e).1 c d)
structure OI(x:aP)(D:List (List Rw))(f0:Fo)(zq:Fu->aC->Rat)(DD MM:Nat)(vl:Ag->List aC->Rat)(y:Ag):Prop where
 ag:jy x y.1 y.2
 fs:VH x (aT x D) y.1 zq DD MM
 vle:∀k,vl y k=mn (bu x) (univ (aT x D)) f0 (fun _=> []) (fun v t=>eI v (fun f=>zq f t) y.1) (bL (aT x D)) (dO (fun _=>none) y.2 k)
 vf:∀k,bR 1000 (vl y k)
 hle:(ik (eX x D) y.2 fun _=>none).length<=2000
def qO(x:aP)(D:List (List Rw))(a:Ag->List aC->Rat)(y:Ag)(G:List Gp):Prop:=(jQ x D (fun _=>none)->G=(ik (eX x D) y.2 fun _=>none).map fun k=>(k,a y k))/\(¬jQ x D (fun _=>none)->G= [])
def dy.tab{x:aP}{a:au}(h:dy x b a)(k:aZ [b] a m)(d:d7 a):d7 m:=by obtain⟨c,f,e,_⟩:=h;exact d.afd e k.NV
def aev(v o:Value)(x:aP)(D:List (List Rw))(Ad A0:aQ)(cd c0:Nat)(l:List Ag){f0:Fo}{zq:Fu->aC->Rat}{DD MM:Nat}(vl:Ag->List aC->Rat)(w:au)(h:dP w v x)(M:bV x)(ho:sF w o x)(hD:ip x D)(hd:iO w (.slice Ad D cd) D)(a6:x.ai.length<=6)(x_:0<DD)(x9:1000000*DD<=MM)(x8:MM<10^100)
 (qa:Whole x.ai (bu x) (bM x) f0) (hl:ry w (.slice A0 l c0) l) (jU:l.length<=40) (H:∀y∈l,OI x D f0 zq DD MM vl y) (ht:d7 w):
 Calls prog 11 #[v,o,.slice Ad D.length cd,.slice A0 l.length c0] w fun e b=>∃u f,e= .returned (.tuple #[u,av 0])/\EF b u f/\f.length=l.length/\(∀i (P:i<l.length) (h2:i<f.length),qO x D vl l[i] f[i])/\Ext w b:=by
 have r6:=M.r6;have C1:=af (fun W (C:Ext w W)=>an7 v o x W (h.ext C) M (ho.ext C));have C2:=af (fun W (C:Ext w W)=>ap6 v x Ad D cd D W (h.ext C) M (iO.ext hd C) hD);have C3:=af (fun W (C:Ext w W)=>ak9 v x A0 c0 l W (h.ext C) M (bU yT.iH hl C) jU fun y s=>(H y s).ag);have C4:=af (fun W (C:Ext w W)=>apP v x D Ad cd W (h.ext C) M hD (iO.ext hd C));have CR:=af (fun(jb r:Nat) (y:Ag) (s:y∈l) (Af Aa:aQ) (cf ca:Nat) (W:au) (hB:gO x (aT x D) jb r W) (hM:dy x r W) (hf:Ls g7 lD W (.slice Af y.1 cf) y.1) (hg:IL W (.slice Aa y.2 ca) (ints y.2)) (ht:d7 W)=>
  apa jb r y.1 y.2 Af Aa cf ca (vl y) M hD a6 r6 x_ x9 x8 (H y s).fs qa (H y s).vle (H y s).vf ((Je (H y s).ag.ql).imp fun h=>Rs h) (H y s).ag.ao (aV (H y s).ag.al Od) (H y s).hle W hB hM hf hg ht)
 have HL:=af hl;have HT:=af ht;obtain⟨Ao,co,p,dd,rfl, -, -⟩:=ho;obtain⟨A,c,B,d,E,e,rfl, -, -, -⟩:=h;clear qa hl H ht hd hD x_ x9 x8 M;have jE:=(bl HL).2;go_enter func11,ntmps11;go_upto_region 1 with fail
 refine gJ fun W HX BX BO=> ?_;have KG:=BO.lt;obtain⟨S,O⟩:∃S:World->Prop,S=fun b=>aA b w.heap.size 0 (.slice A x.ai c)/\aA b w.heap.size 1 (.slice B x.ay d)/\aA b w.heap.size 2 (.slice E x.a_ e)/\aA b w.heap.size 3 (av x.label)/\aA b (w.heap.size+1) 0 (.slice Ao x.ai co):=⟨_,rfl⟩;have bK:ah (∀b,S b->aA b w.heap.size 0 (.slice A x.ai c)/\aA b w.heap.size 1 (.slice B x.ay d)/\aA b w.heap.size 2 (.slice E x.a_ e)/\aA b w.heap.size 3 (av x.label)/\aA b (w.heap.size+1) 0 (.slice Ao x.ai co)):=by rw[ah,O];exact fun _ h=>h
 have q:ah (∀b,Ext W b->S b):=(by rw[ah,O];exact fun b hx=>by obtain⟨a0,a1,a2,a3⟩:=(BX.ext hx).four;exact⟨a0,a1,a2,a3,(BO.ext hx).aF 0⟩);clear O;have U:=af (aB W).drew;have aJ:=af (q _ U);refine cG (S:=S) (T:=fun _=>false) Ok ?_;generalize W.drew=wd at*;refine ax 0 17 ?_;refine ax 1 18 ?_;refine ax 3 20 ?_;refine ax 4 21 ?_;refine ax 6 23 ?_;refine ax 7 24 ?_;refine aO 2 ?_;intro K m;go_simp;refine(C1 wd (HX.trans U)).mono ?_;rintro e2 w2 ⟨rfl,hx2⟩;have a:=af (U.trans hx2);refine m.ae _ _ (fun _=>q _ a) ?_;clear m hx2;refine aO 5 ?_;intro K m;go_simp;refine(C2 w2 (HX.trans a)).mono ?_;rintro e3 w3 ⟨rfl,hx3⟩;have X:=af (a.trans hx3);refine m.ae _ _ (fun _=>q _ X) ?_;clear m hx3;refine aO 8 ?_;intro K m;go_simp;refine(C3 w3 (HX.trans X)).mono ?_;rintro e4 w4 ⟨rfl,iL⟩;have V:=af (X.trans iL);refine m.ae _ _ (fun _=>q _ V) ?_;clear m iL;refine aO 9 ?_;intro K m;go_simp;refine m.ae _ _ (fun _=>q _ (V.alloc _)) ?_;refine aR fun W5 cI BZ=> ?_;have I:=af (V.trans cI);clear m;have C6:=af (amX w4.heap.size 3 3 (aL _) axu W5 fun k hk=>BZ.cell (by
  rcases k with _|_|_|k
  ·rfl
  ·rfl
  ·rfl
  ·omega))
 refine aO 10 ?_;intro K m;go_simp;refine C6.mono ?_;rintro e6 w6 ⟨rfl,rfl⟩;refine m.ae _ _ (fun _=>q _ I) ?_;clear m BZ;refine aO 11 ?_;intro K m;go_simp;refine m.ae _ _ (fun _=>q _ I) ?_;refine bY Ok ?_;clear m;obtain⟨s0,s1,s2,s3⟩:=(BX.ext I).four;have Z:=af (HX.trans I);have C5:=af (C4 W5 Z);clear BX BO;go_wp2_with fail
 refine C5.mono ?_;rintro e7 w7 ⟨jb,r,rfl,N,F,D2,hl2,vK⟩;have Ho:=af (Z.trans vK);have uG:=af (HT.ext Ho);have Hm:=af N;have Qk:=af F;have hpl:=F.lt;have Kl:w.heap.size<=r:=aV Z.size hl2;have WK:jb≠r:=by obtain⟨A,c,B,d,E,e,At,ct,Al,cl,l,h,_⟩:=N;exact F.ne h
 clear s0 s1 s2 s3 N F D2 hl2 vK;go_upto_region 7 with fail
 go_loopw [12,14,15,16,36] (fun v12 _ _ _ L wr=>∃(i:Nat) (f:List (List Gp)),i<=l.length/\L=av i/\ah (bG mm 1 LZ w7.heap.size wr v12 f)/\ah (f.length=i)/\ah (∀j (P:j<l.length) (h2:j<f.length),qO x D vl l[j] f[j])/\ah (dy x r wr)/\ah (d7 wr)/\ah (aZ [r] w7 wr)) (fun _ _ _ _ L _=>l.length - (RowKit.intOf L).toNat)
 exact⟨0,[],aU _,rfl,ii,rfl,fun j _ h=>absurd h (Mu _),Qk,uG,.gV (aB _)⟩;obtain⟨i,f,hi,rfl,HO,Y,P8,HM,HTr,HC⟩:=hrel;have KI:=Ho.bX HC fun i hi=>by rw[bE.1 hi];exact Kl
 have jg:=af KI;clear KI;by_cases gp:i<l
 ·obtain⟨g,o,Af,cf,Aa,ca,rfl,hg,q1,q2,HF,HG⟩:=ry.get (bU yT.iH HL jg) gp;have QD:=af (CR jb r l[i] (a8 gp) Af Aa cf ca);have Qf:ah (∀y,l[i]=y->∀j (P:j<l.length),j=i->l[j]=y):=fun y e j P e2=>by subst e2;exact e
  generalize s:l[i]=y at*;have auS:=af (Qf y rfl);obtain⟨fs,Q⟩:=y;simp only at q1 q2 HF HG QD;clear s;go_upto_region 9 with fail
  refine aR fun W2 a BG=> ?_;have hbg:=BG.lt;have J:gO x (aT x D) jb r wr:=Hm.bX Qk WK HC;have CR2:=af (QD W2 (J.ext a) (HM.ext a) (bU lZ HF a) (iU HG a) (HTr.ext a));have iA:=af (HC.ext a);have lC:=af (HM.ext a);have py:=af (HTr.ext a);have ey:=af (HO.ext FH a);have g0:=BG.aF 0;have g1:=BG.aF 1;clear q1 q2 J BG;go_wp2_with fail
  refine CR2.mono ?_;rintro e3 w3 ⟨u,G,rfl,hu,hG1,hG2,z,GD⟩;have XR:=af (lC.tab z py);have mM:=af (iA.trans z);have hk3:∀t,Kept t W2 w3:=fun t=>lC.kept z t;have fJ:=af (ey.only FH z.NV hpl fun u _=>hk3 u);have Hh:=af GD;have uF:=af hu;have HG3:ah (qO x D vl (fs,Q) G):=⟨hG1,hG2⟩;obtain⟨Au,cu,eu⟩:∃Au cu,u= .slice Au G cu:=by obtain⟨A,c,_,e,_⟩:=hu;exact⟨A,c,e⟩
  subst eu;clear hu hG1 hG2 z GD hk3 g0 g1;obtain⟨A',c',xs,rfl, -,Vf,HOr,He⟩:=fJ.parts;have mE:=Y.ae;have hw:=mM.size;have dC:(f.length+1)*24<=140737488355328:=Om;have HN4:ah (∀(G':List (List Gp)),G'=f++ [G]->∀j (P:j<l.length) (h2:j<G'.length),qO x D vl l[j] G'[j]):=by
   rintro G' rfl j P h2;by_cases hj:j<f.length
   ·rw[Zn hj];exact P8 j P hj
   ·have hj2:j=i:=by rw[bD,gc] at h2;omega
    have e1:(f++ [G])[j]=G:=(by rw[Zk Om];simp);rw[e1,auS.ae j P hj2];exact HG3
  clear mE;go_wp2_with (at_builtin;refine gf rfl _ _ ae9 rfl w7.heap.size ake _ _ _ rfl HOr.ae #[.slice Au G cu] 1 1 rfl rfl rfl dC hw ?_);intro v' w5 ny n _;have O5:=af (iF (R:=LZ) (x:=G) FH (fun u hu=>by simp only[aK,bJ,or_false] at hu;rcases hu with rfl|rfl<;>decide) HOr He ⟨Au,cu,rfl,uF⟩ ny n)
  have mL:=af (mM.grown HOr n (aL _));have hXX:Ext w7 w7:=aB _;have wG:ah (dy x r w5):=Hh.keep (n.block r Hh.lt fun e=>by have:=(HOr.lt r e.symm).1;omega) (tP HOr n Od) (tP HOr n Od);have HT5:ah (d7 w5):=XR.grow HOr n uG.lt;have au4:ah ((f++ [G]).length=i+1):=by rw[ah,bD,Y.ae];rfl
  clear ny n hXX;go_wp2_with fail;go_roundw;exact⟨i+1,_,by omega,by go_num,O5,au4,HN4.ae _ rfl,wG,HT5,mL⟩;simp [RowKit.intOf];omega
 ·have d1:decide ((i:Int)<(l.length:Int))=false:=aW;obtain⟨A',c',xs,rfl, -,Vf,HOr,He⟩:=HO.parts;have LF:=af HO.ls;have Qp:ah (f.length=l):=by rw[ah,Y.ae];omega
  go_wp2_with fail
  exact bodyPost_ret (v:= .tuple #[.slice A' f c',av 0]) (by simp [results,results11,go_sem]) rfl ⟨_,f,rfl,LF,Qp,P8,jg⟩
def asm.k54(h:ar:=by
 have o:f.vars=n:=(by have j:=(xh w.vd (tK (n:=n)) fun v=>by rw[w.vm,dL]).length_eq;rwa[i7] at j);have m:f.homes.length=i.length:=(xh w.hd hd w.hm).length_eq;rw[o,m] at h;show cC B _ (f.val cX U _ (mf at_ tab) env)
 have p:=List.nodup_iff_count.1 w.vd a;generalize f.val cX U _ (mf at_ tab) env=q at*;rcases j4 (f.vars.count a) with l|l
 ·rw[l,E5,E5] at h;have k:=h.up (C:=B);rw[lX] at k;refine k.mono ?_;rw[lF,fS,er _ B,<-fS];exact eK _ (h_ _ d)
 ·have j:f.vars.count a=1:=Om;rw[j,rN,rN] at h;exact h):=h
def alu{n:Nat}{at_:Nat->List Nat}{f:Fo}{U:List aH}{env:Nat->aH}{lift:Nat->aH->Rat}{tab:fG}{fx:Nat->Option aH}{B M:Nat}(w:Whole n at_ i f)(hd:i.Nodup)(hK:U<=b)(ha:∀t,cC B M (lift a t))(d:B<=M)(hb:∀v t,v≠a->cC 1 1 (lift v t))(hW:∀h,∀y∈tab h,y.2.natAbs<=c):
 cC B (b^n*M*c^i.length) (mn at_ U f env lift tab fx):=by
 open asm in exact m54
noncomputable def oQ(t:aC):Rat:= @dite _ (∃q:Rat,lS q/\t=cP q) (Classical.propDecidable _) (fun h=>h.choose) (fun _=>0)
def NK(t:aC):lS (oQ t):=by
 unfold oQ;split
 ·rename_i h;exact h.choose_spec.1
 ·exact⟨by unfold gM;decide,by decide⟩
def TX{t:aC}(h:∃q:Rat,lS q/\t=cP q):t=cP (oQ t):=by unfold oQ;rw[dif_pos h];exact h.choose_spec.2
def an':oQ []=0:=by unfold oQ;rw[dif_neg];rintro⟨q, -,h⟩;exact MV q h.symm
def NJ{t:aC}(h:ej B t)(d:B≠3):qP t (oQ t):=by
 have a:(∃q:Rat,lS q/\t=cP q)->qP t (oQ t):=fun h=>by have e:=TX h;exact .inr ⟨by rw[e];exact MV _,e,399,by decide,(NK t).fit⟩
 rcases h with rfl|⟨h, -⟩|⟨-,z,rfl,b⟩|⟨-,q,rfl,c⟩
 ·exact .inl ⟨rfl,an'⟩
 ·exact absurd h d
 ·exact a ⟨(z:Rat),⟨b,by rw[Rat.den_intCast];decide⟩,(pP (q:=(z:Rat)) rfl).symm⟩
 ·exact a ⟨q,c,rfl⟩
noncomputable def g9(f:Fu)(t:aC):Rat:=if f.2.1=1 then oQ t else if f.2.1=2 then oQ t*oQ t else if f.2.1=3 then (if t=f.2.2 then 1 else 0) else if f.2.1=4 then (if t≠ []/\Dw (oQ t) (oQ f.2.2)<0 then 1 else 0) else if t= [] then 0 else 1
def aex{x:aP}{f:Fu}{t:aC}(h:nX x f)(c:ej (kd x f.1) t):yM f.2.1 t f.2.2 (g9 f t):=by
 obtain⟨-,h⟩:=h;unfold g9;rcases h with⟨a,b, -⟩|⟨a,b, -⟩|⟨a, -⟩|⟨a,b,e,d⟩|⟨a, -⟩
 ·rw[a];exact .inl ⟨rfl,NJ c b⟩
 ·rw[a];exact .inr (.inl ⟨rfl,_,NJ c b,rfl⟩)
 ·rw[a];exact .inr (.inr (.inl ⟨rfl,rfl⟩))
 ·rw[a];exact .inr (.inr (.inr (.inl ⟨rfl,_,_,NJ c b,NJ d b,rfl⟩)))
 ·rw[a];exact .inr (.inr (.inr (.inr ⟨rfl,rfl⟩)))
def i6:Nat:=27720*27720
def jF:Nat:=27720*1000000000*(27720*1000000000)
def UJ:i6<=jF:=Od
def alQ(q:Rat):q*((q.den:Int):Rat)=(q.num:Rat):=by
 have a:(q.den:Int)≠0:=ayz;rw[<-R7];show Rat.divInt (q.num*(q.den:Int)) ((q.den:Int)*1)=_
 rw[Int.mul_comm (q.den:Int) 1,Rat.divInt_mul_right a];exact Rat.num_divInt_den (q.num:Rat)
def Ui(h:lS H):cC 27720 (27720*1000000000) H:=by
 obtain⟨⟨j,i⟩,g⟩:=h;have c:=H.den_pos;have d:H.den∣27720:=(by have f:H.den=1\/H.den=2\/H.den=3\/H.den=4\/H.den=5\/H.den=6\/H.den=7\/H.den=8\/H.den=9\/H.den=10\/H.den=11\/H.den=12:=Om;rcases f with h|h|h|h|h|h|h|h|h|h|h|h<;>rw[h]<;>decide)
 obtain⟨k,b⟩:=d;have a:k<=27720:=by rw[b];exact Nat.le_mul_of_pos_left _ c
 refine⟨H.num*k,?_,?_⟩
 ·have e:H*((H.den:Int):Rat)=(H.num:Rat):=alQ H;rw[show((27720:Nat):Int)=(H.den:Int)*(k:Int) by rw[<-oG,<-b],EU,<-Rat.mul_assoc,e,EU]
 ·rw[y8,ib];calc H.num.natAbs*k<=1000000000*27720:=wV Om a
   _=27720*1000000000:=Od
def aet{p:Prop} [Decidable p]:cC i6 jF (if p then (1:Rat) else 0):=by
 split
 ·exact(zB.up (C:=i6)).mono Od
 ·exact zw _ _
def Ji(f:Fu)(t:aC):cC i6 jF (g9 f t):=by
 unfold g9;split
 ·exact((Ui (NK t)).up (C:=27720)).mono Od
 split
 ·exact(Ui (NK t)).mul (Ui (NK t))
 split
 ·exact aet
 split
 ·exact aet
 split
 ·exact zw _ _
 ·exact(zB.up (C:=i6)).mono Od
def TS:cC i6 jF 1:=(zB.up (C:=i6)).mono Od
def abV(v:Nat)(g:Fu->Rat):eI v g []=1:=rfl
def M8(v:Nat)(g:Fu->Rat)(f:Fu):eI v g [f]=if f.1=v then g f else 1:=by
 show(1:Rat)*_=_
 rw[RO]
def Sw(v:Nat)(t:aC):∀l:List Fu,l.length<=1->cC i6 jF (eI v (fun f=>g9 f t) l)
 | [],_=>TS
 | [f],_=>by
   rw[M8];split
   ·exact Ji f t
   ·exact TS
 |_::_::_,h=>by simp at h
def TI(h:cC i6 jF H):bR 100000 H:=(cC.fit h Od (e:=27) Od Od).mono Od
def rx(x:aP)(D:List (List Rw)):Prop:=ip x D/\∀l∈D,l.length<=4
def abd(x:aP)(b:bV x):∃f0,Whole x.ai.length (bu x) (bM x) f0:=by obtain⟨d, -,h⟩:=aj8 (n:=x.ai.length) (at_:=bu x) (hl:=bM x) (perm:=List.range x.ai.length) (fun a f=>dL.2 f) tK (fun t e=>by have c:=j6.1 e;intro h;rw[tT c] at h;exact b.rn _ (a8 c) (List.map_eq_nil_iff.1 h)) (Jv b) (fun _=>none);exact⟨_,h⟩
def amo(g o J:Nat)(v:Value)(x:aP)(w:au)(h:cL w g)(hv:dP w v x)(ok:bV x)(hi:J<x.ay)(h8:o<=8):
 Calls prog 73 #[aI g 0,v,av J,av o] w fun e f=>∃l u,l.length<=o/\Dk x x.ay[J].2 5 l/\e= .returned u/\bG fg 2 fP w.heap.size f u (zH l)/\cL f g/\Only g w f:=by
 obtain⟨A,c,B,d,Dd,e,rfl,ha,hr,hf⟩:=hv;obtain⟨-,ha1,ha2⟩:=bl ha;obtain⟨-,jf,lw⟩:=bl hr;have HA:=af ha;have HS:=af h;have hg:=h.lt;obtain⟨gr,I,Bi,mi,di,rfl,hgr, -,eY,jV⟩:=rV hr hi;have d_:=af jV;have gC:=af (ok.ri _ (a8 hi));obtain⟨xZ,ag9,ag8⟩:=bl jV;have Xc:x.ay[J].2.length<=12:=by
  rcases FR (k:=0) (n:=x.ai.length) (ok.ra _ (a8 hi)) (ok.ri _ (a8 hi)) with h1|h1
  ·rw[h1];simp
  ·have:=ok.a12;omega
 have HKP:ah (∀W f,Ext w W->cL W g->Only g W f->aA f gr (I+J*2+1) (.slice Bi mi di)):=fun W f hX hs ho=>by have h1:=Ls.cells AO.two (bU oJ hr hX) (p:=J*2+1) Om (Jg hs ho Od);rw[<-Ci] at h1;exact h1.trans ((hX.cell (p:=aD gr (I+J*2+1)) hgr).trans eY)
 generalize x.ay[J]=rel at*;obtain⟨rn,D⟩:=rel;simp only at eY d_ gC xZ Xc jV⊢;subst xZ;obtain⟨AN,GR⟩:∃AN,x.ai.length=AN:=⟨_,rfl⟩;have uO:=af GR;rw[GR] at ha1 HA⊢;generalize x.ay.length=RN at*;have awH:J<9223372036854775807:=Om;go_enter func73,ntmps73;go_upto_region 2 with fail
 refine aR fun W HX BX=> ?_;have PD:g<W.heap.size:=cy hg HX.size;have wD:=af (HS.ext HX);have au0:=af (iU d_ HX);have Qy:=af (bU nM HA HX);have hbg:w.heap.size≠g:=Om;have PL:=BX.lt;have hwW:=HX.size;generalize AD:w.heap.size=bs at*;go_wp2_with fail
 refine(oP g (o+1) W wD Om Om).mono ?_;rintro e2 w2 ⟨r0,Kk,rfl,hs3,L⟩;have en:=af hs3;have hw2:=L.size;go_upto_region 3 with fail
 go_loopw [9,10] (fun v9 v10 wr=>∃(k:Nat) (ls:List Rw),v10=av k/\ls.length+k<=o/\ah (Dk x D 5 ls)/\ah (bG fg 2 fP w2.heap.size wr v9 ls)/\ah (cL wr g)/\ah (Only g w2 wr)) (fun _ v10 _=>(RowKit.intOf v10).toNat)
 exact⟨r0,[],rfl,by simp;omega,Oe,ii,en,gD _ _⟩;obtain⟨k,ls,rfl,hk,H,yz,mJ,F⟩:=hrel;obtain⟨QL,c10,awa,rfl,_,_,_,_⟩:=yz.parts;generalize wr=w4 at*;have hw4:=F.size;by_cases uu:0<k
 ·have at3:w4.heap.size≠g:=Om;go_wp2_with fail;refine(SD g _ [1,1,2,5] _ (mJ.ext ((aB _).alloc _)) (jd _ aS (eU [1,1,2,5])) at3 Od Od).mono ?_;rintro e5 w5 ⟨wt,hwt,rfl,hs5,ny⟩;have Z:1<=wt/\wt<=5:=by simp only[aK,bJ,or_false] at hwt;omega
  have mG:ah (Only g w4 w5):=(dM ((aB _).alloc _)).trans ny;go_upto_region 6 with fail
  refine aR fun W6 dR BW=> ?_;have pg:=af (mG.trans (dM dR));have PJ:w4.heap.size<=w5.heap.size:=mG.size;have ahs:=BW.lt;generalize w5.heap.size=bw at*;have HYW:=af (L.trans (F.trans pg));have q1:=(fun f ho=>HKP W f HX wD ho) W6 HYW;obtain⟨s0,s1,s2,s3⟩:=(BX.only HYW hbg).four;go_upto_region 7 with fail
  go_loopw [33] (fun v33 wr=>∃(j:Nat) (E:List aC) (vv:Value),j<=D.length/\v33=av j/\ah (oK x (D.take j) E)/\ah (aq wr bw fg [vv,av wt])/\ah (bG bC 1 i3 W6.heap.size wr vv E)/\ah (cL wr g)/\ah (Only g w4 wr)/\W6.heap.size<=wr.heap.size) (fun v33 _=>D.length - (RowKit.intOf v33).toNat)
  exact⟨0,[],_,aU _,rfl,oK.nil,BW,ii,(af (hs5.ext dR)),pg,aL _⟩;obtain⟨j,E,vv,hj,rfl,U,Y6,yu,Eo,O,hsz⟩:=hrel;by_cases Az:j<D.length
  ·have r:=af (L.trans (F.trans O));obtain⟨gi,oi,rfl,_,D9⟩:=ij (IL.past au0 wD r) Az;have vU:=gC _ (a8 Az);have fQ:ah (D.take (j+1)=D.take j++ [D[j]]):=fR Az;generalize D[j]=a at*;obtain⟨q,rfl⟩:∃q:Nat,a=q:=⟨a.toNat,by omega⟩;have lK:q<x.ai.length:=Om;have ahx:q<AN:=by rw[<-uO.ae];exact lK
   obtain⟨ga,Y,rfl,Kw, -, -⟩:=oM (AL.past Qy wD r) lK;have Qs:ah (∀f,Only g W f->aA f ga (Y+q*2) (aM x.ai[q].1)/\aA f ga (Y+q*2+1) (av x.ai[q].2)):=fun f ho=>by exact afW
   have HKD:ah (kd x q=x.ai[q].2):=by unfold kd;simp [ah,lK]
   have Am:=ok.ak _ (a8 lK);generalize x.ai[q]=Xw at*;obtain⟨nm,ak⟩:=Xw;simp only at HKD Am Qs;obtain⟨Av,cv,xv,rfl,_,_, -, -⟩:=yu.parts;have ahr:bw≠g:=Om;obtain⟨S,fA⟩:∃S:World->Prop,S=fun f=>aA f bw 0 (.slice Av E cv)/\F4 f bs (aG ga Y AN c) (aG gr I RN d) (.slice Dd x.a_ e) (av x.label)/\aA f ga (Y+q*2) (aM nm)/\aA f ga (Y+q*2+1) (av ak):=⟨_,rfl⟩;have bK:ah (∀f,S f->aA f bw 0 (.slice Av E cv)/\(aA f bs 0 (aG ga Y AN c)/\aA f bs 1 (aG gr I RN d)/\aA f bs 2 (.slice Dd x.a_ e)/\aA f bs 3 (av x.label))/\aA f ga (Y+q*2) (aM nm)/\aA f ga (Y+q*2+1) (av ak)):=axt;have P:ah (∀f,Only g wr f->S f):=(by rw[ah,fA];exact fun f ho=>⟨(Y6.only ho ahr).aF 0,(BX.only (r.trans ho) hbg).four,Qs.ae f (r.trans ho)⟩)
   go_upto_region 9 with fail
   have Lz:ah (Only g wr wr.drew):=(gD g wr).drew;have HSd:=af (Eo.ext (aB wr).drew);have aJ:=af (P _ Lz);refine cG (S:=S) (T:=fun j=>decide (10<=j)) Ok ?_;generalize wr.drew=wd at*;refine ax 0 37 ?_;refine ax 1 38 ?_;refine ax 2 39 ?_;refine ax 3 40 ?_;refine ax 4 41 ?_;refine ax 5 42 ?_;refine ax 6 43 ?_;refine ax 7 44 ?_;refine aO 8 ?_;intro K M;go_simp;refine(adg g nm ak wd HSd Am).mono ?_;rintro e7 w7 ⟨t,ht,rfl,qb,qV⟩;have X:=af (Lz.trans qV);have kt:=af qb;have G2:=af ht;refine M.ae _ _ (fun _=>P _ X) ?_;have aJ:=af (P _ X);refine aO 9 ?_;intro K M;go_simp;refine M.ae _ _ (fun _=>P _ (X.trans (dM ((aB w7).alloc _)))) ?_;refine aR fun WZ cI BZ=> ?_;have V:=af (X.trans (dM cI));have eQ:=af (kt.ext cI);have auy:ah (oK x (D.take (j+1)) (E++ [t])):=(by rw[ah,fQ.ae];exact U.snoc (by rw[HKD.ae];exact G2))
   have xN:W6.heap.size<=WZ.heap.size:=aV hsz V.size;have zY:E.length<=12:=by have h:=U.1;rw[cO] at h;omega
   obtain⟨_,_,xv,ee,_,_,s,tk⟩:=(al6 yu V Om).parts;injection ee with uy _ ux;subst uy ux;refine aO 10 ?_;intro K M;refine nV rfl ?_;refine rU _ _ nS rfl W6.heap.size str_slice _ _ _ rfl s.ae _ [aM t] BZ.ae 1 1 rfl rfl rfl Om xN ?_;intro v' sH z m _;obtain⟨VJ,Vp,rfl,_,_,_⟩:=eL z;have pd:=af (iF (R:=i3) (x:=t) jO Oe s tk rfl z m);have C:=af (gK (Y6.only V ahr) s m ahs);have G:=af (eQ.grown m (fun k hk=>by have:=(s.lt k hk).1;omega));have auc:=af (zg (O.trans V) s m Om);have UA:W6.heap.size<=sH.heap.size:=aV xN m.size;have v0:=C.aF 0;have km:=C.frozen 0;have hlw:=C.lt;obtain⟨GU,OD,Me,XC,N⟩:=fM (i:=0) C.ae (.slice VJ (E.length+1) Vp);have atM:g<bw:=Om;simp only[Act.put,eo,d9,ep];refine M.ae _ _ Oe ?_;refine aO 11 ?_;intro K M;go_simp;refine M.ae _ _ Oe ?_;refine aO 12 ?_;intro K M;go_simp;refine M.ae _ _ Oe ?_;refine bY Ok ?_;go_wp2_with fail
   go_roundw;exact⟨j+1,_,_,by omega,by go_num,auy,Me,(af (pd.only jO N ahs Oe)),(af (G.past N atM)),(af (auc.fresh N PJ)),(aV UA N.size)⟩;simp [RowKit.intOf];omega
  ·have Ku:D.take j=D:=dD Om;rw[Ku] at U;have d1:decide ((j:Int)<(D.length:Int))=false:=aW;obtain⟨_,_,xsR,ee,_,_,Q,HCl⟩:=(al8 yz mJ O Om).parts;injection ee with uy _ ux;subst uy ux;obtain⟨Av,cv,xv,rfl,_,_,s,tk⟩:=yu.parts;obtain⟨v0,v1⟩:=Y6.two;have r:=af (F.trans O);go_wp2_with (at_builtin;refine gf rfl _ _ lI rfl w2.heap.size Cq _ _ _ rfl Q.ae #[.slice Av E cv,av wt] 1 1 rfl rfl rfl Om r.size ?_)
   intro v' sH z m _;have pd:=af (iF (R:=fP) (x:=(E,wt)) k6 (fun u hu=>by rw[bE.1 hu];decide) Q HCl ⟨Av,cv,rfl,((bG.of s tk).ls)⟩ z m);have G:=af (Eo.grown m (fun k hk=>by have:=(Q.lt k hk).1;omega));go_wp2;go_roundw;exact⟨k - 1,ls++ [(E,wt)],by rw[Z1 Om];rfl,by simp;omega,H.snoc U Z.1 Z.2,pd,G,(af (zg r Q m (aL _)))⟩;simp [RowKit.intOf];omega
 ·obtain rfl:k=0:=Om;have HLw:ah (∀y∈ls,y.2.natAbs<=1000000):=fun y hy=>by have:=H y hy;omega
  go_wp2_with fail
  refine(alG QL ls c10 ls w4 yz.ls Om HLw).mono ?_;rintro e5 w5 ⟨vS,rfl,hoS,iK⟩;obtain⟨AS,cS,xsS,rfl,_,_,HRx,HCx⟩:=hoS.parts;go_wp2_with fail;exact bodyPost_ret (v:= .slice AS (zH ls) cS) (by simp [results,results73,go_sem]) rfl ⟨ls,_,by omega,H,rfl,by rw[AD];exact(hoS.weaken (b:=bs) Om),(mJ.ext iK),((dM (g:=g) HX).trans (L.trans (F.trans (dM iK))))⟩
structure ahJ(x:aP)(cs:List Int)(l:List Rw):Prop where
 ok:xJ x cs l
 len:l.length<=4
 wt:∀y∈l,y.2<=20
def aq9{x:aP}{l:List Rw}(h:Dk x L 5 l)(g:l.length<=4):ahJ x L (zH l):=by
 obtain⟨k,f,b,d⟩:=adJ Od h l (aL _);have e:zH l=jw l l.length:=(by unfold zH tZ;rw[fB];refine Ml.2 fun y a=> ?_;have:=(b y a).1;rw[bne_iff_ne];omega)
 rw[e];have c:∀y∈jw l l,y.2<=20:=fun y a=>by have j:=(b y a).2;have i:(l.length:Int)*5<=4*5:=Int.mul_le_mul_of_nonneg_right Om Om;omega
 exact⟨⟨by omega,f,fun y a=>⟨(b y a).1,by have:=c y a;omega⟩,d⟩,by omega,c⟩
def Hw(x:aP)(D:List (List Rw))(i:Nat):Prop:=D.length=i/\∀(k:Nat) (t:List Rw) (r:Rl),D[k]? =some t->x.ay[k]? =some r->ahJ x r.2 t
def apU(g:Nat)(v:Value)(x:aP)(w:au)(h:cL w g)(K:dP w v x)(ok:bV x):
 Calls prog 25 #[aI g 0,v,av 4] w fun e L=>∃D u,Hw x D x.ay/\e= .returned u/\bG lI 1 sW w.heap.size L u D/\cL L g/\Only g w L:=by
 have HV:=af K;have CR:=af (fun(ir:Nat) (W:au) (h:cL W g) (K:dP W v x) (hi:ir<x.ay)=>amo g 4 ir v x W h K ok hi Od);obtain⟨A,c,B,d,Dd,e,rfl,ha,hr,hf⟩:=K;obtain⟨-,jf,lw⟩:=bl hr;have hg:=h.lt;have r6:=ok.r6;go_enter func25,ntmps25;go_upto_region 2 with fail
 refine aR fun W F BX=> ?_;have S:g<W.heap.size:=cy hg F.size;have G:=af (h.ext F);have Y:=af (HV.ext F);have PL:=BX.lt;have M:=F.size;generalize T:w.heap.size=bs at*;obtain⟨s0,s1,s2,s3⟩:=BX.four;go_upto_region 3 with fail
 go_loopw [7,12] (fun v7 n wr=>∃(i:Nat) (a:List (List Rw)),i<=x.ay/\n=av i/\ah (Hw x a i)/\ah (bG lI 1 sW W.heap.size wr v7 a)/\ah (cL wr g)/\ah (Only g W wr)) (fun _ n _=>x.ay - (RowKit.intOf n).toNat)
 exact⟨0,[],aU _,rfl,⟨rfl,fun k t r h=>(by cases h)⟩,ii,G,gD _ _⟩;obtain⟨i,a,hi,rfl,I,HO,bB,j⟩:=hrel;obtain⟨A7,c7,xs7,rfl,_,_, -, -⟩:=HO.parts;have vO:a.length<=6:=by have:=I.1;omega
 by_cases z:i<x.ay.length
 ·have qw:=af (BX.only j Om);obtain⟨s0,s1,s2,s3⟩:=qw.four;have Z:ah (x.ay[i]? =some (x.ay[i]'z)):=aX _;go_wp2_with fail
  refine(CR i wr bB (Y.past G j) z).mono ?_;rintro e5 w5 ⟨l,u,hl,p,rfl,o,N,q⟩;have HT:=af (aq9 p hl);have E:=af (j.trans q);obtain⟨Au,cu, -,rfl, -, -, -, -⟩:=o.parts;have HU:=af o.ls;generalize zH l=J at*;have wG:ah (Hw x (a++ [J]) (i+1)):=by
   refine⟨by rw[bD,I.1];rfl,fun k t r f C=> ?_⟩;rcases cA k a with y|y
   ·rw[oD y] at f;exact I.2 k t r f C
   ·rw[yU y] at f;have P:k - a.length=0:=by
     rcases j4 (k - a) with h0|h0
     ·exact h0
     ·rw[eT (by rw[gc];omega)] at f;cases f
    rw[P] at f;have O:k=i:=by have:=I.1;omega
    subst O;rw[Z.ae] at C;injection f with f;injection C with C;subst f C;exact HT
  obtain⟨_,_,xsD,ee,_,_,m,YJ⟩:=(al7 HO bB q S).parts;injection ee with V _ U;subst V U;go_wp2_with (at_builtin;refine gf rfl _ _ tDb rfl W.heap.size aj4 _ _ _ rfl m.ae #[.slice Au J cu] 1 1 rfl rfl rfl Om E.size ?_);intro v' sH s b _;have X:=af (iF (R:=sW) (x:=J) tR (fun u o=>by
   rcases aK.1 o with rfl|o
   ·decide
   ·rw[bE.1 o];decide) m YJ ⟨Au,cu,rfl,HU⟩ s b)
  have H:=af (N.grown b (fun k y=>by have:=(m.lt k y).1;omega));go_wp2_with fail;go_roundw;exact⟨i+1,a++ [J],by omega,by go_num,wG,X,H,(af (zg E m b (aL _)))⟩;simp [RowKit.intOf];omega
 ·have Q:i=x.ay.length:=Om;have d1:decide ((i:Int)<(x.ay.length:Int))=false:=aW;have lC:ah (Hw x a x.ay):=by rw[<-Q];exact I
  go_wp2_with fail
  exact bodyPost_ret (v:= .slice A7 a c7) (by simp [results,results25,go_sem]) rfl ⟨a,_,lC,rfl,by rw[T];exact(HO.weaken M),bB,((dM (g:=g) F).trans j.ae)⟩
section
variable{x:aP}{D:List (List Rw)}{y:Ag}{f0:Fo}
theorem T9(m:bV x)(u:ip x D){t:aC}(h:Dv x (aT x D) a t):ej (kd x a) t:=by
 obtain⟨k,q,j,y,g,rfl⟩:=h;obtain⟨l,A,e,n⟩:=Jq u q;rw[e] at g;obtain⟨o,c⟩:=n.val y (zt g);have p:=m.ri _ (a8 l);rw[tT l] at j⊢;unfold nY;have r:=QN.2 j;have z:=List.getElem_idxOf r;generalize(bZ x.ay[k].2).idxOf a=i at*;have w:(bZ x.ay[k].2).length=x.ay[k].2.length:=by unfold bZ;rw[bP]
 have b:i<x.ay[k].2.length:=Om;refine c i (a:Int) _ ?_ ?_
 ·rw[aX b];have s:(x.ay[k].2[i]).toNat=a:=by have f:(bZ x.ay[k].2)[i]? =some a:=axM;unfold bZ at f;rw[dK,aX b] at f;injection f
  have:=(p _ (a8 b)).1;congr 1;omega
 ·have d:i<y.1.length:=Om;rw[eG,aX d];rfl
theorem Nt{α β:Type}{f:α->List β}{c:Nat}:∀{l:List α},(∀a∈l,(f a).length<=c)->(l.flatMap f).length<=l.length*c
 | [],_=>by simp
 |a::l,h=>by rw[uV,bD,cT,oH];have g:=h a eH;have e:=Nt fun b d=>h b (gQ _ d);omega
theorem SH(b:rx x D):∀l∈aT x D,l.length<=4:=fun l a=>by
 unfold aT at a;obtain⟨i,c,rfl⟩:=b_.1 a;refine aV (mP _ _) ?_;cases h:D[i]? with
 |none=>exact aU _
 |some l=>exact b.2 l (pM h)
theorem ajT(f:bV x)(v:x.ai.length<=5)(r:x.ay.length<=3)(j:rx x D):(univ (aT x D)).length<=61:=by
 have q:=NN (Fc (aT x D)) (fun t m=>zm.1 m);have hT:=SG f j.1;have p:((aT x D).flatMap fun l:List Rw=>l.flatMap fun y:Rw=>y.1).length<=(aT x D).length*20:=Nt fun l g=>by
  have u:=SH j l g;refine aV (Nt (c:=5) fun y k=> ?_) Om;obtain⟨i,h,rfl⟩:=iE g;have d:i<x.ay.length:=by rwa[pS] at h
  have b:=j6.2 d;have e:bL (aT x D) i=(aT x D)[i]:=by unfold bL;rw[aX h];rfl
  have s:=hT.len i b y (by rw[e];exact k);have o:=NN (hT.nd i b) fun a n=>dL.2 (Jv f i b a n);rw[i7] at o;omega
 rw[pS] at p;rw[cT] at q;omega
theorem aeE(d:ip x D):∀h,∀y∈bL (aT x D) h,y.2.natAbs<=100:=fun h y a=>by
 by_cases c:h<x.ay
 ·obtain⟨g,f,e,b⟩:=Jq d (j6.2 c);rw[e] at a;have:=b.wt y (zt a);omega
 ·unfold bL at a;rw[eT ayE] at a;cases a
noncomputable def ki(x:aP)(D:List (List Rw))(f0:Fo)(y:Ag)(k:List aC):Rat:=mn (bu x) (univ (aT x D)) f0 (fun _=> []) (fun v t=>eI v (fun f=>g9 f t) y.1) (bL (aT x D)) (dO (fun _=>none) y.2 k)
theorem Tz(x:aP):(bM x).Nodup:=tK
theorem api(o:bV x)(j:x.ai.length<=5)(d:x.ay.length<=3)(i:rx x D)(w:Whole x.ai (bu x) (bM x) f0)(c:y.1.length<=1)(k:List aC):bR 42 (ki x D f0 y k):=by
 have h:=alu (env:=fun _=> []) (lift:=fun v t=>eI v (fun f=>g9 f t) y.1) (tab:=bL (aT x D)) (fx:=dO (fun _=>none) y.2 k) (a:=(y.1.head?.map (·.1)).getD 0) (B:=i6) (M:=jF) w (Tz x) (ajT o j d i) (fun t=>Sw _ t _ c) UJ (fun v t g=>by
  rcases b:y.1 with _|⟨f,l⟩
  ·exact zB
  ·rw[b] at c g;obtain rfl:=lU axv;rw[M8,if_neg]
   ·exact zB
   ·exact fun e=>g e.symm) (aeE i.1)
 refine cC.fit h Od ?_ Od;have e:(bM x).length=x.ay.length:=by unfold bM;rw[i7]
 rw[e];have n:61^x.ai.length<=61^5:=fK Od j;have m:100^x.ay.length<=100^3:=fK Od d;refine Bv (wV (eK jF n) m) ?_;decide
theorem aeQ(ok:bV x)(g:x.ai.length<=5)(c:x.ay.length<=3)(hB:rx x D)(w:Whole x.ai (bu x) (bM x) f0)(hy:jy x y.1 y.2)(b:y.1.length<=1):OI x D f0 g9 i6 jF (ki x D f0) y:=by
 refine⟨hy,⟨fun f e t d=>aex (hy.fo f e) (T9 ok hB.1 d),fun v t=> ?_,fun v t i _=>TI (Sw v t _ axw),fun f _ t=>TI (Ji f t)⟩,fun k=>rfl,fun k=>(api ok g c hB w b k).mono Od,?_⟩
 ·have h:=Sw v t y.1 b;unfold hZ;rwa[rN,rN,lX]
 ·exact V4
theorem aqJ(c:jy x y.1 y.2){G:List Gp}(h:qO x D (ki x D f0) y G):zA x.ai (bu x) (bM x) (univ (aT x D)) f0 (fun _=> []) (fun v t=>eI v (fun f=>g9 f t) y.1) y.2 (bL (aT x D)) G:=by
 have a:=(Je c.ql).imp fun h=>Rs h;by_cases b:jQ x D fun _=>none
 ·rw[h.1 b];exact ap' a c.ao b
 ·rw[h.2 b];exact ajF a b
theorem apW(ok:bV x)(hB:rx x D)(hy:jy x y.1 y.2){G:List Gp}(h:qO x D (ki x D f0) y G):G.length<=64:=by
 by_cases b:jQ x D fun _=>none
 ·rw[h.1 b,bP];exact V4
 ·rw[h.2 b];exact aU _
theorem Uo(c:bV x):∀v,v<x.ai.length->∃h∈bM x,v∈bu x h:=fun v d=>by obtain⟨r,e,f⟩:=c.used v d;obtain⟨i,a,rfl⟩:=iE e;exact⟨i,j6.2 a,(vq a fun b g=>(c.ri _ (a8 a) b g).1).2 f⟩
theorem arM(h:Hw x D x.ay):rx x D:=by
 refine⟨⟨h.1,fun k t r d b=>(h.2 k t r d b).ok⟩,fun l c=> ?_⟩;obtain⟨i,e,rfl⟩:=iE c;have a:i<x.ay.length:=by have:=h.1;omega
 exact(h.2 i _ _ (aX e) (aX a)).len
end
section
variable{n:Nat}{at_:Nat->List Nat}{hl:List Nat}{U:List aH}{f:Fo}{env:Nat->aH}
theorem aqk(h:a∈i)(e:Nat->aH):nY i a (i.map e)=e a:=by unfold nY;have b:=QN.2 h;have c:=List.getElem_idxOf b;rw[eG,dK,aX b,c];rfl
theorem Fo.alq{g:Nat->aH->Rat}{b:fG}{e:Nat->aH}(c:a∈f.homes)(d:kP at_ b a e=false):f.term cX g (mf at_ b) e=0:=by unfold Fo.term;rw[IB (R:=cX) c (aba d)];exact vz (R:=cX) _
end
section
variable{n:Nat}{at_:Nat->List Nat}{hl:List Nat}{U:List aH}{f:Fo}{tab:fG}{dn:List Nat}{ts:List Pt}
theorem aap{β:Type}{p:β->Bool}{q:β->Rat}:∀{l:List β},(∀x∈l,p x=false->q x=0)->cX.sum l q=cX.sum (l.filter p) q
 | [],_=>rfl
 |x::l,h=>by
  have a:=aap (l:=l) fun y b=>h y (gQ _ b);rw[qy];split
  ·rw[iQ,iQ,a]
  ·rename_i c;rw[iQ,h x eH (Q8.2 c),a];exact cX.az _
theorem acT{β γ:Type}{g:β->γ}{q:γ->Rat}:∀{l:List β},cX.sum (l.map g) q=cX.sum l fun x=>q (g x)
 | []=>rfl
 |x::l=>by rw[jc,iQ,iQ,acT]
theorem ad6{γ:Type}{g:γ->Int}{q:γ->Rat}:∀{l:List γ},(∀x∈l,q x=(g x:Rat))->cX.prod l q=(pI (l.map g):Rat)
 | [],_=>rfl
 |x::l,h=>by rw[kY,h x eH,ad6 fun y a=>h y (gQ _ a)];exact(EU _ _).symm
def Uw(hl:List Nat)(at_:Nat->List Nat)(tab:fG)(e:Nat->aH):Bool:=hl.all fun h=>(fE (at_ h) (tab h) e).isSome
theorem acz(w:Whole n at_ hl f)(s:U.Nodup)(JU:∀v,v<n->∃h∈hl,v∈at_ h)(hlt:∀h∈hl,∀a∈at_ h,a<n)(hr:∀h∈hl,∀y∈tab h,∀t∈y.1,t∈U)(i:hl.Nodup)(hp:dn.Perm hl)(hg:l_ at_ tab dn ts)(lift:Nat->aH->Rat)(q:Nat->Option aH):
 mn at_ U f (fun _=> []) lift tab q=cX.sum ts fun t=>cX.mul (cX.prod f.vars fun v=>if cH q v (t.1 v)=true then lift v (t.1 v) else 0) (t.2:Rat):=by
 have hW:∀h (e d:Nat->aH),(∀a∈at_ h,d a=e a)->mf at_ tab h d=mf at_ tab h e:=fun h e d o=>IV h e d o;have b:∀a,k9 at_ dn a=false↔¬a<n:=fun a=>by exact agh
 have c:∀e:Nat->aH,Uw hl at_ tab e=true↔∀r∈dn,fE (at_ r) (tab r) e≠none:=fun e=>by
  unfold Uw;rw[rH];constructor
  ·intro h r hr i;have:=h r (hp.mem_iff.1 hr);rw[i] at this;cases this
  ·intro h r hr;exact Option.isSome_iff_ne_none.2 (h r (hp.mem_iff.2 hr))
 unfold mn;rw[M5 hW f _ w.wf w.vd,aap (p:=Uw hl at_ tab) fun e o j=> ?_]
 ·rw[SR.Tc (xh (m:=ts.map (·.1)) ((MG s f _ w.vd).filter _) (rD.2 hg.ne) fun e=> ?_),acT]
  ·refine u_ fun t ht=> ?_;unfold Fo.term;congr 1;rw[hg.wt t ht,SR.Sv (xh w.hd (hp.nodup_iff.2 i) fun a=>(w.hm a).trans hp.mem_iff.symm)];exact ad6 fun r hr=>by unfold mf fH wI;obtain⟨y,hy⟩:=Ia.1 (hg.row t ht r hr);rw[hy]
  ·rw[eE,Fp f _ e w.vd,b_,c];constructor
   ·rintro⟨⟨h1,h2⟩,u⟩;obtain⟨t,ht,x⟩:=hg.all e (fun a ha=>h1 a fun g=>(b a).1 ha ((w.vm a).1 g)) u;exact⟨t,ht,x⟩
   ·rintro⟨t,ht,rfl⟩;refine⟨⟨fun a ha=>hg.J8 t ht a ((b a).2 fun h=>ha ((w.vm a).2 h)),fun v g=> ?_⟩,hg.row t ht⟩;obtain⟨h,hh,hm⟩:=JU v ((w.vm v).1 g);exact agf
 ·have k:∃h∈f.homes,kP at_ tab h e=false:=by
   obtain⟨h,hh,l⟩:=List.all_eq_false.1 j;refine⟨h,(w.hm h).2 hh,?_⟩;unfold kP fH;cases hr:fE (at_ h) (tab h) e with
   |none=>rfl
   |some y=>rw[hr] at l;exact absurd rfl l
  obtain⟨h,hh,j⟩:=k;exact Fo.alq hh j
end
section
variable{n:Nat}{at_:Nat->List Nat}{hl:List Nat}{U:List aH}{f:Fo}{tab:fG}{dn:List Nat}{ts:List Pt}
theorem Ja{e:Nat->aH}:∀{l:List Nat} {k:List aH} {fx:Nat->Option aH},l.Nodup->k.length=l.length->((∀v∈l,cH (dO fx l k) v (e v)=true)↔l.map e=k)
 | [],[],_,_,_=>by simp
 |a::l,x::k,fx,p,hl=>by
  obtain⟨s,r⟩:=ic.1 p;have j:=Ja (e:=e) (fx:=ew fx a x) r (Nat.succ.inj hl);have o:cH (dO (ew fx a x) l k) a (e a)=(x==e a):=by
   have i:∀{l:List Nat} {k:List aH} {c:Nat->Option aH},a∉l->dO c l k a=c a:=by
    intro l;induction l with
    |nil=>intro k c _;cases k<;>rfl
    |cons b l j=>
     intro k c m;cases k with
     |nil=>rfl
     |cons y k=>
      show dO (ew c b y) l k a=c a
      rw[j fun h=>m (gQ _ h)];unfold ew;exact if_neg fun e=>m (by rw[e];exact eH)
   unfold cH;rw[i s];unfold ew;rw[if_pos rfl]
  show(∀v∈a::l,cH (dO (ew fx a x) l k) v (e v)=true)↔_
  rw[jc,wU,<-j];constructor
  ·intro h;have g:=h a eH;rw[o,beq_iff_eq] at g;exact⟨g.symm,fun v d=>h v (gQ _ d)⟩
  ·rintro⟨g,q⟩ v d;rcases aK.1 d with rfl|d
   ·rw[o,beq_iff_eq];exact g.symm
   ·exact q v d
theorem ad9{e:Nat->aH}{k:List aH}(h:a∉i):cH (dO (fun _=>none) i k) a (e a)=true:=by unfold cH;rw[abA h rfl]
theorem Te(q:Pt->Rat)(a:Pt->List aH)(k:List aH):∀ts:List Pt,Go.Proofs.YtehkcnbodcdijaaGreatDoor.cM k (ts.map fun t=>(a t,q t))=cX.sum ts fun t=>if a t=k then q t else 0
 | []=>rfl
 |t::ts=>by rw[jc,iQ,<-Te q a k ts];rfl
noncomputable def Ge(f:Fo)(lift:Nat->aH->Rat)(t:Pt):Rat:=cX.mul (cX.prod f.vars fun v=>lift v (t.1 v)) (t.2:Rat)
theorem ai2(w:Whole n at_ hl f)(z:U.Nodup)(JU:∀v,v<n->∃h∈hl,v∈at_ h)(hlt:∀h∈hl,∀a∈at_ h,a<n)(hr:∀h∈hl,∀y∈tab h,∀t∈y.1,t∈U)(x:hl.Nodup)(hp:dn.Perm hl)(hg:l_ at_ tab dn ts){lift:Nat->aH->Rat}(ha:i.Nodup)(j:∀a∈i,a<n){G:List Gp}(g:zA n at_ hl U f (fun _=> []) lift i tab G):
 dH (ts.map fun t=>(i.map t.1,Ge f lift t))=G:=by
 obtain⟨m1,m2,m3⟩:=za (ts.map fun t=>(i.map t.1,Ge f lift t)) [] List.Pairwise.nil;have l:∀a,k9 at_ dn a=false↔¬a<n:=fun a=>by exact agh
 refine Sb m1 g.ord (fun k=> ?_) fun k=> ?_
 ·unfold dH;rw[m3 k,g.mem k];constructor
  ·rintro(⟨y,hy,rfl⟩|⟨y,hy, -⟩)
   ·obtain⟨t,ht,rfl⟩:=b_.1 hy;refine⟨bP _,t.1,fun v c=>⟨?_,?_⟩,fun h hh=> ?_⟩
    ·obtain⟨h,hh,hm⟩:=JU v c;exact agf
    ·by_cases hm:v∈i
     ·exact(Ja ha (bP _)).2 rfl v hm
     ·exact ad9 hm
    ·obtain⟨y,hy⟩:=Ia.1 (hg.row t ht h (hp.mem_iff.2 hh));obtain⟨h1,h2⟩:=Ff hy;exact Nb.2 ⟨y,h1,h2⟩
   ·cases hy
  ·rintro⟨d,s,h1,h2⟩;have m:∀h∈hl,fE (at_ h) (tab h) (fun a=>if a<n then s a else [])=fE (at_ h) (tab h) s:=fun h hh=>MC fun a ha=>if_pos (hlt h hh a ha);obtain⟨t,ht,C⟩:=hg.all (fun a=>if a<n then s a else []) (fun a ha=>if_neg ((l a).1 ha)) fun r hr=>by rw[m r (hp.mem_iff.1 hr)];obtain⟨y,hy,B⟩:=Nb.1 (h2 r (hp.mem_iff.1 hr));intro u;unfold fE at u;have:=wR.1 u y hy;simp [B] at this
   refine .inl ⟨_,b_.2 ⟨t,ht,rfl⟩,?_⟩;show i.map t.1=k
   rw[C];have A:=(Ja (fx:=fun _=>none) ha d).1 fun v c=>(h1 v (j v c)).2;rw[<-A];exact kW fun a ha=>if_pos (j a ha)
 ·unfold dH;rw[m2 k,Te];show _+0=_
  rw[xc];by_cases d:k.length=i.length
  ·rw[g.cM w hlt d,acz w z JU hlt hr x hp hg];refine u_ fun t ht=> ?_;by_cases b:i.map t.1=k
   ·rw[if_pos b];unfold Ge;congr 1;refine wZ fun v c=> ?_;rw[if_pos];by_cases hm:v∈i
    ·exact(Ja ha d).2 b v hm
    ·exact ad9 hm
   ·rw[if_neg b];have q:∃v∈i,cH (dO (fun _=>none) i k) v (t.1 v)=false:=by
     refine Mg fun p=>b ((Ja (fx:=fun _=>none) ha d).1 fun v c=> ?_);cases o:cH (dO (fun _=>none) i k) v (t.1 v) with
     |true=>rfl
     |false=>exact absurd ⟨v,c,o⟩ p
    obtain⟨v,c,o⟩:=q;rw[IB (R:=cX) ((w.vm v).2 (j v c)) (if_neg (by rw[o];exact Bool.false_ne_true))];exact(ME _).symm
  ·rw[zk fun y hy e=>d ((g.mem k).1 ⟨y,hy,e⟩).1];refine MR (R:=cX) fun t ht=>if_neg fun e=>d ?_;rw[<-e,bP]
end
section
variable{x:aP}{D:List (List Rw)}{f0:Fo}{y:Ag}{dn:List Nat}{ts:List Pt}
theorem apv(b:bV x)(d:ip x D):Uq (bu x) (bL (aT x D)):=fun r=>by
 by_cases a:r<x.ay.length
 ·have h:=SG b d;exact⟨h.nd r (j6.2 a),h.len r (j6.2 a),h.ap r (j6.2 a)⟩
 ·have f:bu x r= []:=by unfold bu;rw[eT Om];rfl
  have e:bL (aT x D) r= []:=by unfold bL;rw[eT ayE];rfl
  rw[f,e];exact⟨Ix,fun y c=>(by cases c),List.Pairwise.nil⟩
theorem aeD(h:Nat)(d:h∈bM x)(y:Rw)(a:y∈bL (aT x D) h)(t:aC)(c:t∈y.1):t∈univ (aT x D):=by
 unfold bL at a;rcases b:(aT x D)[h]? with _|l
 ·rw[b] at a;cases a
 ·rw[b] at a;exact S9 (pM b) a c
theorem TM{α:Type}{P:List α->Prop}(d:P [])(c:∀l a,P l->P (l++ [a]))(l:List α):P l:=by
 have h:∀m:List α,P m.reverse:=fun m=>by
  induction m with
  |nil=>exact d
  |cons a m b=>rw[List.reverse_cons];exact c _ _ b
 have:=h l.reverse;rwa[List.reverse_reverse] at this
def uR:Nat:=i6^3
def uC:Nat:=jF^3
theorem alS(v:Nat)(t:aC):∀l:List Fu,cC (i6^l.length) (jF^l.length) (eI v (fun f=>g9 f t) l):=by
 intro l;refine TM (P:=fun l=>cC (i6^l.length) (jF^l.length) (eI v (fun f=>g9 f t) l)) zB (fun l f a=> ?_) l
 ·rw[R5,bD,gc,eA,eA];refine a.mul ?_;split
  ·exact Ji f t
  ·exact TS
theorem afA(d:a<=3)(h:cC (i6^a) (b*jF^a) H):cC uR (b*uC) H:=by
 have e:uR=i6^a*i6^(3 - a):=by unfold uR;rw[<-mW];congr 1;omega
 have c:uC=jF^a*jF^(3 - a):=by unfold uC;rw[<-mW];congr 1;omega
 rw[e];refine(h.up (C:=i6^(3 - a))).mono ?_;rw[c,fS];exact h_ _ (h_ _ (QY UJ _))
theorem aaS(v:Nat)(t:aC)(l:List Fu)(a:l.length<=3):cC uR uC (eI v (fun f=>g9 f t) l):=by have h:=alS v t l;rw[<-lX (jF^l.length)] at h;have b:=afA a h;rwa[lX] at b
noncomputable def zM(l:List Fu)(e:Nat->aC):Rat:=(l.map fun f=>g9 f (e f.1)).foldl (·*·) 1
theorem abB(l:List Fu)(f:Fu)(e:Nat->aC):zM (l++ [f]) e=zM l e*g9 f (e f.1):=by unfold zM;rw[kE,wS];rfl
theorem acR(e:Nat->aC):∀l:List Fu,cC (i6^l.length) (jF^l.length) (zM l e):=by
 intro l;refine TM (P:=fun l=>cC (i6^l.length) (jF^l.length) (zM l e)) zB (fun l f a=> ?_) l
 ·rw[abB,bD,gc,eA,eA];exact a.mul (Ji f _)
theorem aaw{c:Nat}{z:Rat}{a:Nat->Rat}:∀{l:List Nat},l.Nodup->cX.prod l (fun v=>a v*if c=v then z else 1)=cX.prod l a*if c∈l then z else 1
 | [],_=>(E9 _).symm
 |v::l,h=>by
  obtain⟨f,e⟩:=ic.1 h;rw[kY,kY,aaw e];show a v*(if c=v then z else 1)*(cX.prod l a*if c∈l then z else 1)=a v*cX.prod l a*if c∈v::l then z else 1
  by_cases d:c=v
  ·subst d;rw[if_pos rfl,if_neg f,if_pos eH];grind
  ·rw[if_neg d];by_cases b:c∈l
   ·rw[if_pos b,if_pos (gQ _ b)];grind
   ·rw[if_neg b,if_neg (by simp [d,b])];grind
theorem abU:∀{l:List Nat},cX.prod l (fun _=>(1:Rat))=1
 | []=>rfl
 |_::l=>by rw[kY,abU];exact E9 _
theorem anN(l:i.Nodup)(e:Nat->aC)(b:List Fu)(h:∀f∈b,f.1∈i):cX.prod i (fun v=>eI v (fun f=>g9 f (e v)) b)=zM b e:=by
 revert h
 refine TM (P:=fun b=>(∀f∈b,f.1∈i)->cX.prod i (fun v=>eI v (fun f=>g9 f (e v)) b)=zM b e) (fun _=>abU) (fun b f k h=> ?_) b
 ·rw[abB,<-k fun g m=>h g (bO.2 (.inl m))];have n:=h f (bO.2 (.inr (bE.2 rfl)));have j:=aaw (c:=f.1) (z:=g9 f (e f.1)) (a:=fun v=>eI v (fun f=>g9 f (e v)) b) l;rw[if_pos n] at j;rw[<-j];refine wZ fun v _=> ?_;rw[R5];by_cases d:f.1=v
  ·subst d;rfl
  ·rw[if_neg d,if_neg d]
noncomputable def mg(y:Ag)(t:Pt):Rat:=zM y.1 t.1*(t.2:Rat)
theorem acN(w:Whole x.ai.length (bu x) (bM x) f0)(a:jy x y.1 y.2)(t:Pt):Ge f0 (fun v t=>eI v (fun f=>g9 f t) y.1) t=mg y t:=by unfold Ge mg;rw[anN w.vd t.1 y.1 fun f b=>(w.vm _).2 (a.fo f b).1];rfl
theorem aey(h:B.natAbs<=a):cC 1 a (B:Rat):=⟨B,by rw[show((1:Nat):Int)=1 from rfl,show((1:Int):Rat)=1 from rfl,E9],h⟩
theorem ani(b:y.1.length<=3){t:Pt}(a:t.2.natAbs<=1000000):cC uR (1000000*uC) (mg y t):=by have h:=(aey a).mul (acR t.1 y.1);rw[lX] at h;unfold mg;rw[Rat.mul_comm];exact afA b h
theorem abH{β:Type}{q:β->Rat}{l:List β}(h:∀t∈l,cC a b (q t))(d:l.length<=c):cC a (c*b) (cX.sum l q):=(TK h).mono (eK _ d)
theorem IH(c:bV x)(g:ip x D)(w:Whole x.ai.length (bu x) (bM x) f0)(d:dn.Perm (bM x))(e:l_ (bu x) (bL (aT x D)) dn ts)(a:jy x y.1 y.2){G:List Gp}(f:qO x D (ki x D f0) y G):
 dH (ts.map fun t=>(y.2.map t.1,mg y t))=G:=by
 have b:y.2.Nodup:=(Je a.ql).imp fun h=>Rs h;have h:=ai2 w (Fc _) (Uo c) (Jv c) aeD (Tz x) d e b a.ao (aqJ a f);simp only[acN w a] at h;exact h
theorem anr(b:bV x)(w:Whole x.ai.length (bu x) (bM x) f0)(l:dn.Perm (bM x))(n:l_ (bu x) (bL (aT x D)) dn ts)(m:ts.length<=2000)(g:∀t∈ts,t.2.natAbs<=1000000)(d:jy x y.1 y.2)(o:y.1.length<=3)(k:List aC):bR 100 (ki x D f0 y k):=by
 unfold ki;rw[acz w (Fc _) (Uo b) (Jv b) aeD (Tz x) l n];refine cC.fit (B:=uR) (N:=2000*(1000000*uC)) (abH (fun t i=> ?_) m) axq axq axq;by_cases c:∀v∈f0.vars,cH (dO (fun _=>none) y.2 k) v (t.1 v)=true
 ·have e:cX.prod f0.vars (fun v=>if cH (dO (fun _=>none) y.2 k) v (t.1 v)=true then eI v (fun f=>g9 f (t.1 v)) y.1 else 0)=cX.prod f0.vars fun v=>eI v (fun f=>g9 f (t.1 v)) y.1:=wZ fun v a=>if_pos (c v a);rw[e];have h:=acN w d t;unfold Ge at h;rw[h];exact ani o (g t i)
 ·obtain⟨v,a⟩:=Classical.not_forall.1 c;obtain⟨a,j⟩:=Classical.not_imp.1 a;rw[IB (R:=cX) a (if_neg j)];have e:cX.mul cX.zero (t.2:Rat)=0:=ME _;rw[e];exact zw _ _
theorem apo(ok:bV x)(hB:rx x D)(w:Whole x.ai.length (bu x) (bM x) f0)(j:dn.Perm (bM x))(m:l_ (bu x) (bL (aT x D)) dn ts)(l:ts.length<=2000)(d:∀t∈ts,t.2.natAbs<=1000000)(hy:jy x y.1 y.2)(c:y.1.length<=3):OI x D f0 g9 uR uC (ki x D f0) y:=by
 have b:∀{q:Rat},cC uR uC q->bR 100000 q:=fun h=>(cC.fit h axq (e:=90) axq axq).mono Od;refine⟨hy,⟨fun f n t g=>aex (hy.fo f n) (T9 ok hB.1 g),fun v t=> ?_,fun v t i o=>b (aaS v t _ axw),fun f _ t=>TI (Ji f t)⟩,fun k=>rfl,fun k=>(anr ok w j m l d hy c k).mono Od,?_⟩
 ·have h:=aaS v t y.1 c;unfold hZ;rwa[rN,rN,lX]
 ·exact V4
theorem S_:0<uR/\1000000*uR<=uC/\uC<10^100:=⟨by decide+kernel,by decide+kernel,by decide+kernel⟩
end
section
variable{at_:Nat->List Nat}{m i0:Nat}
end
section
end
section
variable{at_:Nat->List Nat}{R:fG}{m c:Nat}
theorem aeL{k:Nat}:∀{l:List Int},(∀z∈l,1<=z/\z<=(k:Int))->1<=pI l/\pI l<=((k^l.length:Nat):Int)
 | [],_=>⟨xd _,xd _⟩
 |z::l,h=>by
  obtain⟨f,e⟩:=h z eH;obtain⟨d,b⟩:=aeL fun y a=>h y (gQ _ a);show 1<=z*pI l/\z*pI l<=_
  refine⟨?_,?_⟩
  ·have:=Int.mul_le_mul f d Od Om;omega
  ·rw[cT,eA,er,oG];exact Int.mul_le_mul e b Om Om
theorem l_.wtb{a:List Pt}(h:l_ at_ R i a){k:Nat}(f:∀r,∀y∈R r,1<=y.2/\y.2<=(k:Int)){t:Pt}(d:t∈a):1<=t.2/\t.2<=((k^i.length:Nat):Int):=by
 rw[h.wt t d];have j:=aeL (k:=k) (l:=i.map fun r=>wI at_ R r t.1) fun z e=>by obtain⟨r,g,rfl⟩:=b_.1 e;obtain⟨y,b⟩:=Ia.1 (h.row t d r g);unfold wI;rw[b];exact f r y (Ff b).1
 rwa[bP] at j
end
section
variable{x:aP}{D:List (List Rw)}{dn:List Nat}{ts:List Pt}
theorem am2(d:bV x)(g:dn.Perm (bM x))(i:l_ (bu x) (bL (aT x D)) dn ts){t:Pt}(f:t∈ts)(j:a<x.ai.length):Dv x (aT x D) a (t.1 a):=by obtain⟨h,c,b⟩:=Uo d a j;obtain⟨y,e⟩:=Ia.1 (i.row t f h (g.mem_iff.2 c));obtain⟨l,k⟩:=Ff e;exact⟨h,c,b,y,l,by rw[k];exact aqk b t.1⟩
theorem am1(b:bV x)(g:ip x D)(d:dn.Perm (bM x))(e:l_ (bu x) (bL (aT x D)) dn ts){t:Pt}(c:t∈ts)(f:a<x.ai.length):ej (kd x a) (t.1 a):=T9 b g (am2 b d e c f)
theorem ao8(d:ip x D)(g:dn.Perm (bM x))(l:l_ (bu x) (bL (aT x D)) dn ts)(f:x.ay.length<=3){t:Pt}(b:t∈ts):1<=t.2/\t.2<=1000000:=by
 have h:=l.wtb (k:=100) (fun r y a=>by
  have o:=aeE d r y a;by_cases j:r<x.ay.length
  ·obtain⟨n,m,e,b⟩:=Jq d (j6.2 j);rw[e] at a;have:=b.wt y (zt a);omega
  ·unfold bL at a;rw[eT ayE] at a;cases a) b
 have i:dn.length<=3:=by rw[g.length_eq];unfold bM;rw[i7];exact f
 have c:(100:Nat)^dn.length<=100^3:=fK Od i;refine⟨h.1,Int.le_trans h.2 ?_⟩;have:((100^dn.length:Nat):Int)<=((100^3:Nat):Int):=Int.ofNat_le.2 c;exact this
end
def nQ(c:List Rl)(a b:Int):Bool:=c.any fun r=>r.2.contains a&&r.2.contains b
abbrev iY(ay:List Rl)(a b:Nat):Prop:=nQ ay a b=true
def acJ(c:List Rl):∀a b,iY c a b->iY c b a:=fun a b h=>by unfold iY nQ at*;rw[mU] at*;obtain⟨r,e,d⟩:=h;exact⟨r,e,by rw[Bool.and_comm];exact d⟩
def aj1{d:List Rl}{a b:Int}(h:c<d.length):nQ (d.take (c+1)) a b=(nQ (d.take c) a b||(d[c].2.contains a&&d[c].2.contains b)):=by unfold nQ;rw[fR h,Rc];simp only[Ri,Rv,w_]
def alC(v:Value)(x:aP)(a b:Int)(w:au)(h:dP w v x):
 Calls prog 270 #[v,av a,av b] w fun e Y=>e= .returned (.bool (nQ x.ay a b))/\Ext w Y:=by
 obtain⟨A,c,B,d,D,e,rfl,ha,Q,hf⟩:=h;obtain⟨-,J,lw⟩:=bl Q;have U:=af Q;obtain⟨n,u⟩:∃n,x.ay.length=n:=⟨_,rfl⟩;have y:=af u;rw[u] at J U⊢;go_enter func270,ntmps270;go_upto_region 1 with fail
 refine aR fun W HX BX=> ?_;obtain⟨s0,s1,s2,s3⟩:=BX.four;have Z:nQ (x.ay.take 0) a b=false:=rfl;have HZ:=af Z;go_upto_region 2 with fail
 go_loopw [8,12] (fun _ j wr=>∃i:Nat,i<=n/\j=av i/\ah (nQ (x.ay.take i) a b=false)/\ah (Ext w wr)) (fun _ j _=>n - (RowKit.intOf j).toNat)
 exact⟨0,aU _,rfl,HZ,HX⟩;obtain⟨i,hi,rfl,L,k⟩:=hrel;by_cases I:i<n
 ·have s:i<x.ay.length:=by rw[y.ae];exact I
  obtain⟨g,o,V,P,R,rfl,hg,H,G,f⟩:=rV (bU oJ U k) s;have m:=af (aj1 (a:=a) (b:=b) s);have HT:ah (nQ (x.ay.take (i+1)) a b=true->nQ x.ay a b=true):=fun h=>by unfold nQ at*;rw[mU] at*;obtain⟨r,h1,h2⟩:=h;exact⟨r,nJ h1,h2⟩
  have f:=af f;generalize x.ay[i]=rel at*;obtain⟨rn,q⟩:=rel;simp only at H G f m;go_upto_region 4 with fail
  refine aR fun T l X=> ?_;have K:=af (Th V P R q a T (iU f l));have N:=af (k.trans l);obtain⟨b0,b1⟩:=X.two;go_wp2_with fail
  refine K.mono ?_;rintro e2 w2 ⟨rfl,F,rfl⟩;have E:=af (N.drewN F);have z:=af (iU f (l.drewN F));obtain⟨c0,c1⟩:=(X.drewN F).two;generalize T.drewN F=S at*;cases t:q.contains a with
  |false=>
   have p:ah (nQ (x.ay.take (i+1)) a b=false):=by rw[ah,m.ae,L.ae,t];rfl
   go_wp2_with fail
   go_roundw;exact⟨i+1,by omega,by go_num,p,E⟩;simp [RowKit.intOf];omega
  |true=>
   have K:=af (Th V P R q b S z);have p:ah (nQ (x.ay.take (i+1)) a b=q.contains b):=by rw[ah,m.ae,L.ae,t];simp
   go_wp2_with fail
   refine K.mono ?_;rintro e4 w4 ⟨rfl,O,rfl⟩;have C:=af (E.drewN O);generalize S.drewN O=W4 at*;cases t:q.contains b with
   |false=>rw[t] at p;go_wp2_with fail;go_roundw;exact⟨i+1,by omega,by go_num,p,C⟩;simp [RowKit.intOf];omega
   |true=>
    rw[t] at p;have M:=af (HT p);go_wp2_with fail
    exact bodyPost_ret (v:= .bool true) (by simp [results,results270,go_sem]) rfl ⟨by rw[M.ae],C⟩
 ·have M:ah (nQ x.ay a b=false):=(by have h:=L.ae;rwa[dD (by rw[y.ae];omega)] at h);have d1:decide ((i:Int)<(n:Int))=false:=aW;go_wp2_with fail;exact bodyPost_ret (v:= .bool false) (by simp [results,results270,go_sem]) rfl ⟨by rw[M.ae],k⟩
end Go.Proofs.YtehkcnbodcdijaaGreatDoor
