/- Texts of the proof, part 14. -/
import Derived.Test.YtadbchhdjbghkaaGreatDoorA13
namespace Go.Proofs.YtadbchhdjbghkaaGreatDoor
set_option maxHeartbeats 8000000
set_option linter.all false
set_option maxRecDepth 100000
variable{aq:Prop}
open Go.RowKit Go.Lib Go.Maps Go.ChangeShapes Go.WideShapes Go.ChangeAt Go.Proofs.Tryz
variable{a b c d e f g h:Nat}{i j k l:List Nat}{m n o:World}{p q r s:Value}{t u v:List Value}{w x:TypeId}{y z:Nat→Option Nat}{A:Nat→List Nat}{B C:Int}{E F:Option Addr}{H I:Rat}{J:Nat→Nat}{K:Nat→Bool}{L:List Int}{N:Array Bool}{O:Option Nat}{Q:Act}{R S:Bool}{T:List UInt8}
def cO.kept{f:List (List Nat)}(h:cO m a t f)(p:Kept aS m n):cO n a t f:=
 ⟨h.len,fun i v l k o=>by
  obtain⟨j,⟨x,b⟩,u⟩:=h.own i v l k o;refine⟨j,⟨x,?_⟩,u⟩;rcases b with b|⟨g,d,c,e,r,q,s⟩
  ·exact .inl b
  ·exact .inr ⟨g,d,c,e,r,p _ _ _ q,s⟩,h.ap⟩
def cO.tail{d:List (List Nat)}(h:cO m a (p::t) (i::d)):cO m a t d:=
 ⟨by have:=h.len;simpa using this,fun b p i c f=>h.own (b+1) p i avT awp,fun b j p u c e g=>h.ap (b+1) (j+1) p u avT av8 Om⟩
def Ext.cy(h:Ext m n)(k:a8 i n o)(g:∀d∈i,m.heap.size<=d):Ext m o:=
 ⟨k.os.trans h.os,k.tape.trans h.tape,k.output.trans h.output,a7 h.size k.size,fun d e=>(k.block d (cF e h.size) (fun f=>by have:=g d f;omega)).trans (h.block d e)⟩
def aad(n:Nat)(h:n<=1000)(w:au):
 (Instr.makeSlice Te (av (n:Int)) (av (n:Int))).run prog w= .ok (aG w.heap.size 0 n n) (w.alloc (.cells (List.replicate n (Value.slice none 0 0)).toArray cI)):=by
 obtain⟨e,f,c,b,a⟩:=info_parts (show(prog.info? cI).map (fun i=>(i.zero,i.size,i.bytes))=some (some (.slice none 0 0),1,24) by kernel_rfl);have d:=run_make (P:=prog) w Te cI e (.slice none 0 0) underlying254 f c .i64 .i64 (n:Int) (n:Int) Om (yz _) awk Om;simp only[kg,b,kG,Value.cells,ym] at d;rw[d]
def rA(n:Nat)(p:Nat->Option Nat):List Int:=(List.range n).map fun a=>rE (p a)
def m_(n:Nat)(p:Nat->Option Nat):List (List Nat):=(List.range (n+1)).map fun u=>kids n p (ow n u)
noncomputable def yZ(g:List Nat)(p:Nat->Option Nat):List (List Nat):=(List.range g.length).map fun v=>n_ g.length p g v
def E7(l:List Int):List Nat:=l.map Int.toNat
def pC(d:Nat->Nat)(l:List Int):Nat:=eJ d (E7 l) ((E7 l).headD 0)
def Ca(n:Nat)(d:Nat->Nat)(a:List Rl):List (List Nat):=mB n (fun i=>pC d ((a.getD i ([],[])).2)) a.length
def E8(w:au)(u:Value)(n:Nat)(h f g:List (List Nat))(a:List Nat):Prop:=
 ∃e b d A c,u= .agg #[aG e 0 (n+1) (n+1),aG b 0 n n,aG d 0 n n,.slice A a.length c]/\qD w (aG e 0 (n+1) (n+1)) (h.map ints)/\qD w (aG b 0 n n) (f.map ints)/\qD w (aG d 0 n n) (g.map ints)/\IL w (.slice A a.length c) (ints a)
def jX(n:Nat):Option Nat->Nat
 |none=>n
 |some b=>b
def rx(n:Nat)(p:Nat->Option Nat)(j:Nat):List (List Nat):=mB (n+1) (fun a=>jX n (p a)) j
def ak6(h:c<=a):(rx a y b)[c]? =some ((List.range b).filter fun d=>jX a (y d)==c):=Ij Om
def ajl{n j:Nat}{p:Nat->Option Nat}(h:jX n (p j)<=n):rx n p (j+1)=(rx n p j).set (jX n (p j)) (((List.range j).filter fun a=>jX n (p a)==jX n (p j))++ [j]):=abr (f:=fun a=>jX n (p a)) Om
def ak7(r:cX a y J):rx a y a=m_ a y:=by
 unfold rx mB m_;refine oZ fun u g=> ?_;have g:=dB.1 g;unfold kids;refine D_ fun c f=> ?_;have f:=dB.1 f;rw[lI,beq_iff_eq,beq_iff_eq];show jX a (y c)=u↔y c=ow a u
 unfold ow;cases i:y c with
 |none=>
  simp only[jX];constructor
  ·intro e;rw[if_pos e.symm]
  ·intro e;by_cases h:u=a
   ·exact h.symm
   ·rw[if_neg h] at e;cases e
 |some b=>
  have j:=(r.up c b f i).1;simp only[jX];constructor
  ·intro e;rw[if_neg Om,e]
  ·intro e;by_cases h:u=a
   ·rw[if_pos h] at e;cases e
   ·rw[if_neg h] at e;injection e
def ajk(n:Nat)(p:Nat->Option Nat):rx n p 0=List.replicate (n+1) []:=abq _ _
def aip(g:List Nat)(p:Nat->Option Nat):mY g p (fun _=>false)=List.replicate g []:=by
 unfold mY;refine sL fun i=> ?_;rw[dL,Ae];rcases cA i g with h|h
 ·rw[lG h,if_pos h];rfl
 ·rw[fF av7,if_neg Om];rfl
def aia(d:Nat->Nat):iu a (fun _=>some 0)=uv a d []:=by unfold iu uv;refine oZ fun b _=> ?_;simp [rE]
def amq(h:b<(rA a y)):(rA a y)[b]=rE (y b):=by simp only[rA,vD,P3]
def IU:Value->Option Nat
 | .slice (some a) _ _=>some a.block
 | .pointer (some a)=>some a.block
 |_=>none
def Cb(u v:Value):Prop:=∀b,IU u=some b->IU v≠some b
def lV(n:Nat):List Value:=List.replicate n (.slice none 0 0)
def IV(a n:Nat)(v:Value)(w:au):Prop:=∃g,v=aG g 0 n n/\ar w g cI (lV n)/\a<=g
def TC(a:Nat)(v:Value)(w:au):Prop:=∃g,v=aI g 0/\ar w g f9 (lV 4)/\a<=g
def IW(d n:Nat)(v:Value)(w:au):Prop:=∃a b c,v= .agg #[aG a 0 (n+1) (n+1),aG b 0 n n,aG c 0 n n,.slice none 0 0]/\(ar w a cI (lV (n+1))/\d<=a)/\(ar w b cI (lV n)/\d<=b)/\(ar w c cI (lV n)/\d<=c)/\a≠b/\a≠c/\b≠c
def apl(o:Obj)(h:IW a b p m):IW a b p (m.alloc o)/\Cb p q/\Cb q p:=by obtain⟨d,e,c,rfl,⟨t,s⟩,⟨r,l⟩,⟨k,j⟩,i⟩:=h;exact⟨⟨d,e,c,rfl,⟨t.alloc _,s⟩,⟨r.alloc _,l⟩,⟨k.alloc _,j⟩,i⟩,fun e g=>(by have g:none=some e:=g;cases g),fun e _ f=>(by have f:none=some e:=f;cases f)⟩
def Tj(o:Obj)(hv:IU q=some m.heap.size)(h:IV a c p m):IV a c p (m.alloc o)/\Cb p q/\Cb q p:=by exact m77
def apk(o:Obj)(hv:IU q=some m.heap.size)(h:TC a p m):TC a p (m.alloc o)/\Cb p q/\Cb q p:=by exact m77
def q79.Fw(h:aq:=by exact j9 _ _ rfl ⟨_,rfl,by rw[afY];exact iT w3 cI nt1,L⟩):=h
def q80.Fw(h:aq:=by exact j9 _ _ rfl ⟨_,rfl,iT w3 cI (lV g),L⟩):=h
def q81.Fw(h:aq:=by exact j9 _ _ rfl ⟨_,rfl,iT w3 cI (lV g),L⟩):=h
def q82.Fw(h:aq:=by exact j9 _ _ rfl ⟨_,rfl,iT w3 f9 (lV 4),L⟩):=h
def q83.afy(h:aq:=by refine ro _ _ cI rfl base jE _ _ _ rfl uE.ae _ [av (j:Int)] BZ.ae 1 1 rfl rfl rfl cM C7 ?_;intro v' Cx P E I6;obtain⟨G3,c12,rfl,_,_,_⟩:=ej P;have UG:ah (cO Cx base (vs.set (ix) (.slice G3 ((l).length+1) c12)) ((rx g p j).set (ix) (l++ [j]))):=XJ.agB iO hl uE agL P E (I6.imp id fun h=>⟨_,h,aK _⟩);have V:=af (gH Xf uE E wU);have F:=af (gH Dy uE E wT);have UF:=af (XC.grown uE E Vl);have Cn:base<=Cx.heap.size:=a7 C7 E.size;clear P E I6;simp only[Act.put,d8,dP,d9];refine hK.ae _ _ (fun _=>l9 _ V F) ?_;clear hK C7 BZ;have aH:=af (l9 _ V F);refine ax 11 53 ?_;have Ug:=F.cell iO;have Uc:=F.frozen (ix);obtain⟨WD,Ui,K_,WH,U⟩:=gG (i:=ix) F (.slice G3 ((l).length+1) c12);refine aO 12 ?_;intro K hK;go_simp;refine hK.ae _ _ Oe ?_;refine b_ Ok ?_;have I9:=af (UG.only U F Od);have Uz:=af (V.only U Jp);have UE:=af (UF.only U (.inl Ou));have T6:base<=WD.heap.size:=a7 Cn U.size;clear hK Ui Ug Uc WH U Cn cM;rw[<-HKJ.ae] at I9;clear hl oC wU wT Jp;go_wp2;go_roundw;exact⟨j+1,_,by omega,by go_num,K_,I9,UE,T6,Uz⟩;simp [RowKit.intOf];omega):=h
def q84.afy(h:aq:=by refine ro _ _ cI rfl O jE _ _ _ rfl uE.ae _ [av (i:Int)] BZ.ae 1 1 rfl rfl rfl cM C7 ?_;intro v' Cx P E I6;obtain⟨G3,c12,rfl,_,_,_⟩:=ej P;have UG:ah (cO Cx O (vs.set (hm) (.slice G3 ((l).length+1) c12)) ((gj).set (hm) (l++ [i]))):=XJ.agB iO hl uE agL P E (I6.imp id fun h=>⟨_,h,aK _⟩);have V:=af (gH Xf uE E wU);have F:=af (gH Dy uE E wT);have UF:=af (XC.grown uE E Vl);have Cn:O<=Cx.heap.size:=a7 C7 E.size;clear P E I6;simp only[Act.put,d8,dP,d9];refine hK.ae _ _ (fun _=>l9 _ V F) ?_;clear hK C7 BZ;have aH:=af (l9 _ V F);refine ax 11 113 ?_;have Ug:=F.cell iO;have Uc:=F.frozen (hm);obtain⟨WD,Ui,K_,WH,U⟩:=gG (i:=hm) F (.slice G3 ((l).length+1) c12);refine aO 12 ?_;intro K hK;go_simp;refine hK.ae _ _ Oe ?_;refine b_ Ok ?_;have I9:=af (UG.only U F Od);have Uz:=af (V.only U Jp);have UE:=af (UF.only U (.inl Ou));have T6:O<=WD.heap.size:=a7 Cn U.size;clear hK Ui Ug Uc WH U Cn cM;rw[<-zV.ae] at I9;clear hl oC wU wT Jp;go_wp2;go_roundw;exact⟨i+1,_,by omega,by go_num,K_,I9,UE,T6,Uz⟩;simp [RowKit.intOf];omega):=h
def q78.T2(h:aq:=by
 have kZ:=af (BX.ext hx);have Yt:=af (BP.ext hx);have tW:=af (BR.ext hx);clear s0 s1 s2 s3 hx hv BX BP BR;go_upto_region 2 with fail
 refine aT fun W2 aZ BG=> ?_;have s0:=BG.aF 0;go_upto_region 3 with fail
 refine cD (S:=fun z=>Ext W2 z) (T:=fun j=>decide (j=9)) Ok ?_;clear s0;have bO:ah (∀z,Ext W2 z->True):=fun _ _=>trivial;have aH:ah (Ext W2 W2.drew):=(aB W2).drew;generalize W2.drew=wd at*;have WL:ah (IntKind.i64.wrap ((g.length:Int)+1)=(g.length:Int)+1):=by rw[ah,ye];omega
 refine ax 0 23 ?_;refine ax 1 24 ?_;refine ax 3 26 ?_;refine ax 5 28 ?_;rw[WL.ae];refine bZ.O8 [⟨2,25,IV W2.heap.size (g.length+1)⟩,⟨4,27,IV W2.heap.size g⟩,⟨6,29,IV W2.heap.size g⟩,⟨8,7,TC W2.heap.size⟩,⟨7,30,IW W2.heap.size g⟩] (fun z=>Ext W2 z) Cb [2,4,6,8,7] [25,27,29,7,30] [[],[],[],[],[0,1,2]] #[true,true,true,true,true,true,true,true,true,false] 5 1 rfl rfl rfl Od Ok Ok (fun _ h=>h) aH ?_ ?_
 ·intro k b s us w3 hI pN zx o ho K hK;have L:W2.heap.size<=w3.heap.size:=hI.size;have HK:=af (fun v o (hv:IU v=some w3.heap.size) (h0:b.R v (w3.alloc o))=>hK v (w3.alloc o) (hI.alloc o) h0 fun j c hj _ u I=>by
   rcases j with _|_|_|_|_|j;all_goals simp only[dy,dS,Y2,cY,reduceCtorEq] at hj
   all_goals subst hj
   ·exact Tj o hv I
   ·exact Tj o hv I
   ·exact Tj o hv I
   ·exact apk o hv I
   ·exact apl o I)
  rcases k with _|_|_|_|_|k
  ·simp only[dy,cY] at s;subst s;clear pN zx;open q79 in exact Fv
  ·simp only[dy,dS,cY] at s;subst s;clear pN zx;open q80 in exact Fv
  ·simp only[dy,dS,cY] at s;subst s;clear pN zx;open q81 in exact Fv
  ·simp only[dy,dS,cY] at s;subst s;clear pN zx;open q82 in exact Fv
  ·simp only[dy,dS,cY] at s;subst s;obtain⟨a,ea,a1,a2⟩:=pN 0 Ou _ rfl;obtain⟨b,eb,b1,b2⟩:=pN 1 Ou _ rfl;obtain⟨c',ec,c1,c2⟩:=pN 2 Ou _ rfl;have n1:=zx 0 Ou 1 Ou Od;have n2:=zx 0 Ou 2 Ou Od;have n3:=zx 1 Ou 2 Ou Od;rw[ea,eb] at n1;rw[ea,ec] at n2;rw[eb,ec] at n3;have n1:a≠b:=fun e=>n1 a rfl axf;have n2:a≠c':=fun e=>n2 a rfl axf;have n3:b≠c':=fun e=>n3 b rfl axf;have HK2:=af (fun v (h0:IW W2.heap.size g v w3)=>hK v w3 hI h0 fun j c hj hne u I=>by obtain⟨_,_,_,rfl,_⟩:=h0;refine⟨I,fun b _ he=>(by cases he),fun b s=>(by cases s)⟩)
   have HM:ah (IW W2.heap.size g (.agg #[aG a 0 (g.length+1) (g.length+1),aG b 0 g g,aG c' 0 g g,.slice none 0 0]) w3):=⟨a,b,c',rfl,⟨a1,a2⟩,⟨b1,b2⟩,⟨c1,c2⟩,n1,n2,n3⟩;clear pN zx n1 n2 n3 hK a1 a2 b1 b2 c1 c2;simp only[eR,dS,dy,cY] at ho;subst ho;simp only[eK,ea,eb,ec];go_simp;have j9:=HK2.ae;simp only[eK,ea,eb,ec,Act.put,d8,dP,d9] at j9;exact j9 _ HM
  ·simp at s
 ·intro us w3 hx3 hR hD;clear hD;obtain⟨q,e3,hpx,arV⟩:=hR 3 _ rfl;obtain⟨G,kb,s,e4,⟨a1,a2⟩,⟨a3,a4⟩,⟨a5,a6⟩,n1,n2,n3⟩:=hR 4 _ rfl;simp only[eK];rw[e3,e4];generalize us 0=u25;generalize us 1=u27;generalize us 2=u29;clear hR e3 e4 us af1 T8;simp only[Act.put,d8,dP,d9];have u_:=af hpx;have jy:=af a1;have HK3:=af a3;have HH3:=af a5;clear hpx a1 a3 a5;obtain⟨W4,F9,B4,K4,N4⟩:=Cl u_ (aG G 0 (g.length+1) (g.length+1)) (aG kb 0 g g) (aG s 0 g g) (.slice none 0 0);obtain⟨q0,q1,q2,q3⟩:=u_.four;have f0:=u_.frozen 0;have f1:=u_.frozen 1;have f2:=u_.frozen 2;have f3:=u_.frozen 3;refine aO 9 ?_;intro K hK;go_simp;refine hK.ae _ _ Oe ?_;refine b_ Ok ?_;have vn:ah (Ext W2 W4):=Ext.only hx3 N4 arV;have iB:G≠q/\kb≠q/\s≠q:=by
   have h:=u_.ae;have h1:=jy.ae;have Z:=HK3.ae;have h3:=HH3.ae;unfold ar at h h1 Z h3;refine⟨fun e=> ?_,fun e=> ?_,fun e=> ?_⟩
   ·rw[e,h] at h1;injection h1 with h1;injection h1 with _ h1;exact absurd h1 Od
   ·rw[e,h] at Z;injection Z with Z;injection Z with _ Z;exact absurd Z Od
   ·rw[e,h] at h3;injection h3 with h3;injection h3 with _ h3;exact absurd h3 Od
  have oQ:=af (jy.only N4 iB.1);have Xy:=af (HK3.only N4 iB.2.1);have HH4:=af (HH3.only N4 iB.2.2);clear hK hx3 F9 K4 N4 q0 q1 q2 q3 f0 f1 f2 f3 afY;have sA:=oQ;have HG4:=af (BG.ext vn);have dD:ah (Ext w W4):=bQ.trans (aZ.trans vn);have oU:=af (kZ.ext (aZ.trans vn));have Ys:=af (Yt.ext (aZ.trans vn));have vu:=af (tW.ext (aZ.trans vn));have HL4:ah (fD W4 (.slice A1 g g) g):=bU p8 sj (aZ.trans vn);have hw2:w1.heap.size<W2.heap.size/\w.heap.size+1+1<w1.heap.size:=⟨BG.lt,tW.lt⟩;have Vj:=bQ.size;clear BG;generalize w1.heap.size=gb at*;generalize W2.heap.size=z2 at*;have af4:=B4.lt;have af5:=oQ.lt;have ar2:=Xy.lt;have ar3:=HH4.lt;obtain⟨base,hbase⟩:∃b,W4.heap.size=b:=⟨_,rfl⟩;have I3:base<=W4.heap.size:=En hbase.symm;have XN:ah (cO W4 base (lV (g.length+1)) (rx g p 0)):=by rw[ajk];exact cO.TQ _ _ _
  have UH:ah (a8 [G] W4 W4):= .gV (aB W4);have Vl:W4.heap.size<=base:=En hbase;have agu:=(bD dA).1;have atu:=af agu;have Xw:=af (fun j=>ajl (n:=g) (p:=p) (j:=j));have Xh:ah (∀j,j<g.length->∀b,p j=some b->b<g.length):=fun j hj b s=>(HR.up j b hj s).1;have GF:=af (ak7 HR);clear agu;rw[hbase] at af4 af5 ar2 ar3;clear hbase;have s0:=Ys.aF 0;go_upto_region 5 with fail
  clear s0;go_loopw [8,9,34] (fun _ _ v34 wr=>∃(j:Nat) (vs:List Value),j<=g/\v34=av j/\ah (ar wr G cI vs)/\ah (cO wr base vs (rx g p j))/\ah (a8 [G] W4 wr)/\base<=wr.heap.size/\ah (ar wr q f9 [aG G 0 (g.length+1) (g.length+1),aG kb 0 g g,aG s 0 g g,.slice none 0 0])) (fun _ _ v34 _=>g - (RowKit.intOf v34).toNat);exact⟨0,_,aV _,rfl,oQ,XN,UH,I3,B4⟩;clear I3 B4;obtain⟨j,vs,hj,rfl,HT,HF,C,L,HP⟩:=hrel;by_cases kt:j<g
  ·have dI:j<(rA g p).length:=by rw[<-atu.ae];exact kt
   have Y:IL wr (.slice B g c) (rA g.length p):=(bU cK dA dD).keep cK fun u I=>by simp only[bG] at I;rw[I];exact C.kept fun i J=>by rw[bG] at J;subst J;exact⟨_,_,sA,by decide⟩
   obtain⟨gi,oi,rfl,_,hc⟩:=gX Y dI;rw[amq] at hc;have C8:=Xh j kt;have VN:jX g (p j)<=g.length:=by
    cases FL:p j with
    |none=>exact aK _
    |some b=>exact pd (C8 b FL)
   have HKJ:=af (Xw j VN);have hl:(rx g p j)[jX g (p j)]? =some ((List.range j).filter fun a=>jX g (p a)==jX g (p j)):=ak6 VN;have oC:((List.range j).filter fun a=>jX g (p a)==jX g (p j)).length<=12:=(by have:=mm (fun a=>jX g (p a)==jX g (p j)) (List.range j);rw[iG] at this;omega)
   have HPJ:ah (∀b,p j=some b->b<g):=C8;clear Y dI C8;generalize((List.range j).filter fun a=>jX g.length (p a)==jX g.length (p j))=l at*;go_upto_if 40 with fail
   go_cut [8,9,34] from 34 to 54 (fun s8 s9 s34 wx=>s8=av j/\s34=av j/\s9=av (jX g (p j):Nat)/\wx=wr)
   case first=>
    cases FL:p j with
    |none=>rw[FL] at hc;go_wp2;go_meet;case rel=>exact⟨rfl,rfl,by rw[FL];rfl,rfl⟩
    |some b=>rw[FL] at hc;have hc:aA wr gi (oi+j) (av (b:Nat)):=hc;have d1:decide ((b:Int)<0)=false:=aY;go_wp2;go_meet;case rel=>exact⟨rfl,rfl,by rw[FL];rfl,rfl⟩
   case rest=>
    obtain⟨rfl,rfl,rfl,hw⟩:=hcut;clear hc;obtain rfl:wr=wc:=hw.symm;clear hw;have wU:=af4;have wT:=af5;have Jp:q≠G:=fun e=>iB.1 e.symm;generalize jX g.length (p j)=ix at*;have au':(ix:Int)<(g.length:Int)+1:=Om;go_upto_region 9 with fail
    have rZ:=af HP.drew;have mI:=af HT.drew;have sw:ah (cO wr.drew base vs (rx g p j)):=HF.ext (aB wr).drew;have XE:=af C.drew;have hs2:base<=wr.drew.heap.size:=L;obtain⟨Ar,cr,xr,uJ,kW,HRc⟩:=sw.O9 hl;have iO:=af uJ;have bO:ah (∀z,(ar z q f9 [aG G 0 (g.length+1) (g.length+1),aG kb 0 g g,aG s 0 g g,.slice none 0 0]/\ar z G cI vs)->(aA z q 0 (aG G 0 (g.length+1) (g.length+1))/\aA z q 1 (aG kb 0 g g)/\aA z q 2 (aG s 0 g g)/\aA z q 3 (.slice none 0 0))/\aA z G ix (.slice Ar (l) cr)):=fun z h=>⟨h.1.four,h.2.cell iO⟩;have aH:ah (ar wr.drew q f9 [aG G 0 (g.length+1) (g.length+1),aG kb 0 g g,aG s 0 g g,.slice none 0 0]/\ar wr.drew G cI vs):=⟨rZ,mI⟩;have l9:ah (∀z,ar z q f9 [aG G 0 (g.length+1) (g.length+1),aG kb 0 g g,aG s 0 g g,.slice none 0 0]->ar z G cI vs->ar z q f9 [aG G 0 (g.length+1) (g.length+1),aG kb 0 g g,aG s 0 g g,.slice none 0 0]/\ar z G cI vs):=fun z h1 Z=>⟨h1,Z⟩;clear uJ;refine cD (S:=fun z=>ar z q f9 [aG G 0 (g.length+1) (g.length+1),aG kb 0 g g,aG s 0 g g,.slice none 0 0]/\ar z G cI vs) (T:=fun j=>decide (12<=j)) Ok ?_;generalize wr.drew=wd at*;refine ax 0 42 ?_;refine ax 1 43 ?_;refine ax 2 44 ?_;refine ax 3 45 ?_;refine ax 4 46 ?_;refine ax 5 47 ?_;refine ax 6 48 ?_;refine ax 7 49 ?_;refine ax 8 50 ?_;refine aO 9 ?_;intro K hK;go_simp;refine hK.ae _ _ (fun _=>l9 _ (rZ.alloc _) (mI.alloc _)) ?_;refine aT fun WZ cG BZ=> ?_;have Xf:=af (rZ.ext cG);have Dy:=af (mI.ext cG);have XJ:ah (cO WZ base vs (rx g p j)):=sw.ext cG;have XC:=af (XE.ext cG);have C7:base<=WZ.heap.size:=a7 hs2 cG.size;open q83 in exact ae6
  ·obtain rfl:j=g.length:=Om;rw[GF.ae] at HF;have d1:decide (g<g)=false:=Ou;go_upto_region 12 with fail
   refine fR fun W5 dX BD Yv=> ?_;clear arY;go_upto_region 13 with fail
   refine aT fun W6 dG BV=> ?_;have f0:=BV.frozen 0;have s0:=BV.aF 0;obtain⟨W7,iC,B7,K7,N7⟩:=gG (i:=0) BV.ae (Ci q (wr.heap.size+1) gb W5.heap.size);have kA:=af iC;unfold Ci at kA;clear iC;go_upto_region 14 with fail
   rw[kA.ae];have iN:=BD.lt;have j4:=Yv.lt;have Dg:=N7.size;have OJ:=BV.lt;have HKx:=af (C.kept (u:=lS) fun i J=>by rw[bG] at J;subst J;exact⟨_,_,sA,by decide⟩)
   have agc:gb∉ [G]:=av2;have Ua:kb∉ [G]:=by simp only[bG];exact fP n1
   have af_:s∉ [G]:=by simp only[bG];exact fP n2
   have HVN:ah (Ge g p A1 G kb q gb (wr.heap.size+1) W5.heap.size wr.heap.size W7.heap.size vs wr):=by
    refine⟨HL4.keep p8 fun u I=> ?_,HG4.cy C agc,HT,fun u I=> ?_,⟨_,Xy.cy C Ua⟩,⟨_,HP⟩,n1,by omega,by omega,by omega⟩
    ·simp only[bG] at I;rw[I];exact HKx
    ·have Oy:(m_ g p)[u]? =some (kids g p (ow g u)):=(by unfold m_;rw[dL,lG Om];rfl);obtain⟨Au,cu,xu,h1,Z,h3⟩:=HF.O9 Oy;exact⟨Au,cu,by rw[lg];exact h1,by rw[lg];exact(bI.of (R:=dO) (by rw[lg];exact Z) h3.ae|>fun h=>by rw[lg] at h;exact h.ls)⟩
   have DM:=af (aip g p);have JU:Ext wr W7:=(dX.trans dG).only N7.ae Om;have HVS:ah (nA g p d G kb s q gb (wr.heap.size+1) W5.heap.size wr.heap.size W7.heap.size wr W7 [] (fun _=>false) (.slice none 0 0) (lV g)):=by
    refine⟨.gV JU,aK _,HP.ext JU,(Yv.ext dG).only N7.ae Om,B7,?_,(Xy.cy C Ua).ext JU,?_⟩
    ·have h:=(BD.ext dG).only N7.ae Om;rwa[aia d] at h
    ·rw[DM.ae];exact cO.TQ W7 W7.heap.size (g.length+1)
   have HHW:ah (ar wr s cI (lV g)):=HH4.cy C af_;have HKI:=af (C.kept (u:=aS) fun i J=>by rw[bG] at J;subst J;exact⟨_,_,sA,by decide⟩)
   have HKR:=af (C.kept (u:=tk) fun i J=>by rw[bG] at J;subst J;exact⟨_,_,sA,by decide⟩);have as0:ah (xh wr (.slice B1 x.ay Ww) x.ay):=(bU nS gL dD).keep nS fun u I=>by
    simp only[aJ,bL,or_false] at I;rcases I with rfl|rfl
    ·exact HKR
    ·exact HKI
   have Dr:ah (Ext w wr):=⟨C.os.trans dD.os,C.tape.trans dD.tape,C.output.trans dD.output,a7 dD.size C.size,fun i J=>(C.block i (cF J dD.size) av2).trans (dD.block i J)⟩;have Yn:=af (oU.cy C av2);have BRw:=af (vu.cy C av2);obtain⟨anS,Jk⟩:∃v,vs=v:=⟨_,rfl⟩;have HTw:=HT;have HFw:=HF;rw[Jk] at HTw HFw;clear Jk;have ar1:G<wr.heap.size/\kb<wr.heap.size/\s<wr.heap.size/\q<wr.heap.size/\w.heap.size+1+1<wr.heap.size:=(by have:=L;refine⟨by omega,by omega,by omega,by omega,by omega⟩)
   have hrt:=HR.ae;have Kn:=af (ZY HR);have asZ:=af (akh HR);have Gn:ah (∀c∈kids g p none,Nx g p d G kb s q gb (wr.heap.size+1) W5.heap.size wr.heap.size W7.heap.size wr c 0):=fun c hc=>by obtain⟨h1,Z⟩:=gU.1 hc;exact acS HG hrt HVN g c 0 h1 Om (yf _) (by rw[abD Z];funext a;rw[Ec])
   have Oy:(m_ g.length p)[g.length]? =some (kids g.length p none):=by
    unfold m_;rw[dL,lG Om];show some (kids g p (ow g g))=_
    unfold ow;rw[if_pos rfl]
   obtain⟨Ar,cr,xr,hr1,hr2,hr3⟩:=HF.O9 Oy;have KA:ah (IL wr (.slice Ar (kids g p none) cr) (ints (kids g p none))):=(by have h:=bI.of (R:=dO) (l:=ints (kids g p none)) (by rw[lg];exact hr2) hr3;rw[lg] at h;exact h.ls)
   have Jx:(kids g p none).length<=12:=(by have:=mm (fun a=>p a==none) (List.range g);rw[iG] at this;exact a7 this hle);have Xx:ah ((ints (kids g.length p none)).length=(kids g.length p none).length):=lg _;have c0:=(HT.ext JU).cell hr1;have p0:=HVS.pp.aF 0;clear Oy hr1 hr2 hr3 hrt JU iN j4 Dg OJ f0 s0 B7 K7 N7 BV Yv BD agc Ua af_;generalize kids g.length p none=X at*;have Ka:ah (nA g p d G kb s q gb (wr.heap.size+1) W5.heap.size wr.heap.size W7.heap.size wr W7 ((X.take 0).flatMap (tv g p)) (fun _=>false) (.slice none 0 0) (lV g)):=HVS;have KJ:ah (∀a,(fun _:Nat=>false) a=((X.take 0).flatMap (tv g p)).contains a):=fun a=>by simp
   have Pr:=af (fun(W:au) (h:a8 [q,kb] wr W) (u:TypeId) (h1:f9≠u) (Z:cI≠u)=>nA.Nb HVN h h1 Z);obtain⟨M,rfl⟩:∃M:World,M=wr:=⟨_,rfl⟩;have avq:M.heap.size<=M.heap.size+1:=Om;generalize M.heap.size+1=eh at*;generalize W5.heap.size=fc at*;generalize W7.heap.size=bs2 at*;go_upto_region 15 with fail
   clear c0 p0;go_loopw [13,64] (fun _ v64 wr=>∃(i:Nat) (dk:Nat->Bool) (wv:Value) (nt:List Value),i<=X/\v64=av i/\ah (∀a,dk a=((X.take i).flatMap (tv g p)).contains a)/\ah (nA g p d G kb s q gb eh fc M.heap.size bs2 M wr ((X.take i).flatMap (tv g p)) dk wv nt)) (fun _ v64 _=>X - (RowKit.intOf v64).toNat);exact⟨0,_,_,_,aV _,rfl,KJ,Ka⟩;obtain⟨i,dk,wv,nt,J,rfl,HD,HS⟩:=hrel;by_cases Q:i<X
   ·have CX:=H9 (f:=tv g p) Q;have nH:=af CX.2;have l_:ah (((X.take i).flatMap (tv g p))+(tv g p X[i]).length<=12):=a7 CX.1 (a7 asZ hle);have Y:IL wr (.slice Ar X cr) (ints X):=KA.keep cK fun u I=>by simp only[bG] at I;rw[I];exact Pr wr HS.cy _ Od Od
    have af':i<(ints X).length:=by rw[Xx.ae];exact Q
    obtain⟨g2,o2,rfl,_,hc⟩:=gX Y af';have tG:(ints X)[i]=((X[i]:Nat):Int):=awA;rw[tG] at hc;have HQ:=af (Gn _ (a_ Q));clear tG Y af' CX;generalize X[i]=cc at*;have pQ:=af (HQ wr _ _ _ _ HS l_);have v0:=HS.vx.aF 0;unfold Ci at v0;go_wp2_with fail
    refine pQ.mono ?_;rintro e4 w4 ⟨mc,UN,T1,JY,rfl,_,_,Nu,hs2⟩;rw[<-nH.ae] at hs2;have ei:=af hs2;have KI:ah (∀a,JY a=((X.take (i+1)).flatMap (tv g p)).contains a):=fun a=>by rw[Nu,HD.ae,nH.ae];simp
    clear hs2 Nu v0 hc;go_wp2;go_roundw;exact⟨i+1,JY,UN,T1,by omega,by go_num,KI,ei⟩;simp [RowKit.intOf];omega
   ·obtain rfl:i=X.length:=Om;rw[fj] at HD HS;have d2:decide (X<X)=false:=Ou;have PA:=af (Yn.cy HS.cy (by simp only[aJ,bL,or_false,not_or];omega));obtain⟨s0,s1,s2,s3⟩:=PA.four;have HDM:ah (∀a,a<g.length->dk a=true/\a∈X.flatMap (tv g.length p)):=fun a ha=>by have h:=(Kn.2 a).2 ha;exact⟨by rw[HD.ae];simpa using h,h⟩
    have Xv:ah (mY g p dk=yZ g p):=oZ fun a ha=>by rw[if_pos (HDM a (dB.1 ha)).1]
    have XS:ah (uv g.length d (X.flatMap (tv g.length p))=(List.range g.length).map fun a=>av (d a:Nat)):=oZ fun a ha=>by rw[if_pos (HDM a (dB.1 ha)).2]
    generalize X.flatMap (tv g.length p)=wl at*;obtain⟨O,Dk⟩:∃b,wr.heap.size=b:=⟨_,rfl⟩;have afT:O<=wr.heap.size:=En Dk.symm;have ar6:wr.heap.size<=O:=En Dk;have avh:M.heap.size<=O:=by rw[<-Dk];exact HS.cy.size
    have avr:M.heap.size<O/\eh<O:=by rw[<-Dk];exact⟨HS.db.lt,HS.dx.lt⟩
    have Pu:ah (ar wr s cI (lV g)):=HHW.cy HS.cy (by simp only[aJ,bL,or_false,not_or];exact⟨iB.2.2,fP n3⟩);have HF8:ah (cO wr O (lV g) (mB g (fun i=>pC d ((x.ay.getD i ([],[])).2)) 0)):=by rw[abq];exact cO.TQ _ _ _
    have xN:ah (a8 [s] wr wr):= .gV (aB wr);have Xk:=af HS.pp;have Kp:ah (xh wr (.slice B1 x.ay Ww) x.ay):=as0.keep nS fun u I=>by
     simp only[aJ,bL,or_false] at I;rcases I with rfl|rfl
     ·exact Pr wr HS.cy _ Od Od
     ·exact Pr wr HS.cy _ Od Od
    have agZ:=af HS.dx;have ag3:ah (ar wr M.heap.size aS ((List.range g).map fun a=>av (d a:Nat))):=by rw[<-XS.ae];exact HS.db
    have avK:=af (show x.ay.length=x.ay from rfl);clear Dk;go_upto_region 20 with fail
    clear s0 s1 s2 s3;obtain⟨w8,rfl⟩:∃w8:World,w8=wr:=⟨_,rfl⟩;go_loopw [14,16,18,75] (fun _ _ _ v75 wr=>∃(i:Nat) (vs:List Value),i<=x.ay/\v75=av i/\ah (ar wr s cI vs)/\ah (cO wr O vs (mB g (fun i=>pC d ((x.ay.getD i ([],[])).2)) i))/\ah (a8 [s] w8 wr)/\O<=wr.heap.size/\ah (ar wr q f9 [aG G 0 (g.length+1) (g.length+1),aG kb 0 g g,aG s 0 g g,wv])) (fun _ _ _ v75 _=>x.ay - (RowKit.intOf v75).toNat);exact⟨0,_,aV _,rfl,Pu,HF8,xN,afT,Xk⟩;clear afT;obtain⟨i,vs,J,rfl,HT,HF,C,L,HP⟩:=hrel;by_cases Y:i<x.ay
    ·have Pq:ah (∀u,cI≠u->Kept u w8 wr):=fun u I=>C.kept fun i J=>by rw[bG] at J;subst J;exact⟨_,_,Pu,I⟩
     have ju:xh wr (.slice B1 x.ay Ww) x.ay:=Kp.keep nS fun u I=>by
      simp only[aJ,bL,or_false] at I;rcases I with rfl|rfl
      ·exact Pq _ Od
      ·exact Pq _ Od
     obtain⟨g1,o1,Bi,mi,di,rfl,_,et,gz,Q⟩:=rp ju Y;have hm:=(bD Q).1;subst hm;have Ns:=ic _ (a_ Y);have T7:=jN _ (a_ Y);have Pv:=af (fun h=>abr (m:=g) (j:=i) (f:=fun i=>pC d ((x.ay.getD i ([],[])).2)) h);have FZ:∀u,u<g.length->(mB g.length (fun i=>pC d ((x.ay.getD i ([],[])).2)) i)[u]? =some ((List.range i).filter fun a=>pC d ((x.ay.getD a ([],[])).2)==u):=fun u I=>Ij I;have XG:=af FZ;have oz:x.ay.getD i ([],[])=x.ay[i]:=by rw[fh,aX Y];rfl
     simp only[oz] at Pv;clear FZ oz ju;generalize x.ay[i]=r at*;obtain⟨rn,ra⟩:=r;simp only at et gz Q Ns T7 Pv;obtain⟨H,rfl⟩:∃H,ra=ints H:=⟨E7 ra,by unfold ints E7;rw[Ep];exact(List.map_id' _).symm.trans (oZ fun a ha=>by have:=(Ns a ha).1;simp only[Function.comp];omega)⟩;have aqd:=(bD Q).2;have Wt:0<(ints H).length:=by
      rcases H with _|⟨y,t⟩
      ·exact absurd rfl T7
      ·rw[lg];simp
     have h0:0<H.length:=by rw[<-lg H];exact Wt
     have GP:ah (∀a∈H,a<g):=fun a ha=>by have:=(Ns (a:Int) (by unfold ints;exact dU.2 ⟨a,ha,rfl⟩)).2;omega
     have hat:E7 (ints H)=H:=(by unfold E7 ints;rw[Ep];exact List.map_id' _);have OE:pC d (ints H)=eJ d H H[0]:=by
      unfold pC;rw[hat];congr 1;rcases H with _|⟨y,t⟩
      ·simp at h0
      ·rfl
     have af6:=GP _ (a_ h0);have tH:=aas (d:=d) GP af6;rw[OE] at Pv;obtain⟨g3,o3,rfl,_,nx⟩:=gX Q Wt;have tG:(ints H)[0]=((H[0]:Nat):Int):=awA;rw[tG,iq] at nx;rw[lg] at gz Q aqd;have XA:=af Q;have agV:=af (lg H);clear tG hat OE Ns T7 Wt Q;generalize H[0]=a0 at*;have atV:ah (eJ d (H.take 0) a0=a0):=rfl;have auK:wr.heap.size≥O:=L;go_upto_region 22 with fail
     refine aT fun W9 eE B9=> ?_;obtain⟨b0,b1⟩:=B9.two;have asj:aA W9 g3 o3 (av (a0:Nat)):=(eE.cell (p:=aC g3 o3) (by assumption)).trans nx;have HT9:=af (HT.ext eE);have HF9:ah (cO W9 O vs (mB g (fun i=>pC d ((x.ay.getD i ([],[])).2)) i)):=HF.ext eE;have iY:=af (C.ext eE);have HP9:=af (HP.ext eE);have hs9:O<=W9.heap.size:=a7 L eE.size;have HI9:=af (bU cK XA eE);clear et gz nx;go_upto_region 24 with fail
     clear b0 b1 asj;obtain⟨wq,rfl⟩:∃wq:World,wq=wr:=⟨_,rfl⟩;have XO:ah (Ext W9 W9):=aB W9;go_loopw [16,18,87] (fun v16 _ v87 wr=>∃j:Nat,j<=H/\v87=av j/\v16=av (eJ d (H.take j) a0:Nat)/\ah (Ext W9 wr)) (fun _ _ v87 _=>H - (RowKit.intOf v87).toNat)
     exact⟨0,aV _,rfl,by rw[atV.ae],XO⟩;obtain⟨j,hj,rfl,rfl,HE⟩:=hrel;by_cases dI:j<H
     ·obtain⟨g4,o4,e4,_,hc⟩:=gX (bU cK HI9 HE) (i:=j) (by rw[agV.ae];exact dI);injection e4 with e4;injection e4 with e41 e42;subst e41 e42;have tG:(ints H)[j]'(by rw[agV.ae];exact dI)=((H[j]:Nat):Int):=awA;rw[tG] at hc;have ha:=GP _ (a_ dI);have mM:ah (eJ d (H.take (j+1)) a0=if d H[j]>d (eJ d (H.take j) a0) then H[j] else eJ d (H.take j) a0):=by rw[ah,fg dI];exact Zs
      have rQ:eJ d (H.take j) a0<g.length:=aas (fun a ha=>GP a (oW ha)) af6;clear tG;generalize H[j]=aj at*;generalize eJ d (H.take j) a0=mj at*;have VZ:M.heap.size∉ [s]/\eh∉ [s]:=(by have h1:=Pu.ae;have Z:=agZ.ae;have h3:=ag3.ae;unfold ar at h1 Z h3;simp only[bG];refine⟨fun e=> ?_,by omega⟩;rw[e,h1] at h3;injection h3 with h3;injection h3 with _ h3;exact absurd h3 Od)
      have atD:=af ((agZ.cy iY VZ.2).ext HE.ae);have ag2:=af ((ag3.cy iY VZ.1).ext HE.ae);have kS:((List.range g).map fun a=>(Value.int .i64 (d a:Nat)))[aj]? =some (av (d aj:Nat)):=by rw[dL,lG ha];rfl
      have hk2:((List.range g).map fun a=>(Value.int .i64 (d a:Nat)))[mj]? =some (av (d mj:Nat)):=by rw[dL,lG rQ];rfl
      have bO:ah (∀z:World,(aA z eh 0 (aG M.heap.size 0 g g)/\aA z M.heap.size aj (av (d aj:Nat))/\aA z M.heap.size mj (av (d mj:Nat)))->aA z eh 0 (aG M.heap.size 0 g g)/\aA z M.heap.size aj (av (d aj:Nat))/\aA z M.heap.size mj (av (d mj:Nat))):=fun _ h=>h;have aH:ah (aA wr.drew eh 0 (aG M.heap.size 0 g g)/\aA wr.drew M.heap.size aj (av (d aj:Nat))/\aA wr.drew M.heap.size mj (av (d mj:Nat))):=⟨atD.drew.cell rfl,ag2.drew.cell kS,ag2.drew.cell hk2⟩;have xL:=af HE.drew;clear kS hk2 VZ;go_upto_region 26 with fail
      clear hc;refine cD (S:=fun z=>aA z eh 0 (aG M.heap.size 0 g g)/\aA z M.heap.size aj (av (d aj:Nat))/\aA z M.heap.size mj (av (d mj:Nat))) (T:=fun _=>false) Ok ?_;generalize wr.drew=wd at*;by_cases FV:d aj>d mj
      ·rw[if_pos FV] at mM;have dgt:decide ((d aj:Int)>(d mj:Int))=true:=fU;exact m74
      ·rw[if_neg FV] at mM;have dgt:decide ((d aj:Int)>(d mj:Int))=false:=aY;exact m74
     ·obtain rfl:j=H.length:=Om;rw[fj];have d3:decide (H<H)=false:=Ou;have zV:=af (Pv tH);have hl:=XG _ tH;have oC:((List.range i).filter fun a=>pC d ((x.ay.getD a ([],[])).2)==eJ d H a0).length<=12:=(by have:=mm (fun a=>pC d ((x.ay.getD a ([],[])).2)==eJ d H a0) (List.range i);rw[iG] at this;omega)
      have HT:=af (HT9.ext HE);have HF:ah (cO wr O vs (mB g (fun i=>pC d ((x.ay.getD i ([],[])).2)) i)):=HF9.ext HE;have C:=af (iY.ext HE);have HP:=af (HP9.ext HE);have L:O<=wr.heap.size:=a7 hs9 HE.size;clear hs9;generalize((List.range i).filter fun a=>pC d ((x.ay.getD a ([],[])).2)==eJ d H a0)=l at*;generalize eJ d H a0=hm at*;have Vl:=ar6;have wU:q<O:=Om;have wT:s<O:=Om;have Jp:q≠s:=fun e=>iB.2.2 e.symm;generalize(mB g.length (fun i=>pC d ((x.ay.getD i ([],[])).2)) i)=gj at*;go_upto_region 29 with fail
      have rZ:=af HP.drew;have mI:=af HT.drew;have sw:ah (cO wr.drew O vs (gj)):=HF.ext (aB wr).drew;have XE:=af C.drew;have hs2:O<=wr.drew.heap.size:=L;obtain⟨Ar,cr,xr,uJ,kW,HRc⟩:=sw.O9 hl;have iO:=af uJ;have bO:ah (∀z,(ar z q f9 [aG G 0 (g.length+1) (g.length+1),aG kb 0 g g,aG s 0 g g,wv]/\ar z s cI vs)->(aA z q 0 (aG G 0 (g.length+1) (g.length+1))/\aA z q 1 (aG kb 0 g g)/\aA z q 2 (aG s 0 g g)/\aA z q 3 (wv))/\aA z s hm (.slice Ar (l) cr)):=fun z h=>⟨h.1.four,h.2.cell iO⟩;have aH:ah (ar wr.drew q f9 [aG G 0 (g.length+1) (g.length+1),aG kb 0 g g,aG s 0 g g,wv]/\ar wr.drew s cI vs):=⟨rZ,mI⟩;have l9:ah (∀z,ar z q f9 [aG G 0 (g.length+1) (g.length+1),aG kb 0 g g,aG s 0 g g,wv]->ar z s cI vs->ar z q f9 [aG G 0 (g.length+1) (g.length+1),aG kb 0 g g,aG s 0 g g,wv]/\ar z s cI vs):=fun z h1 Z=>⟨h1,Z⟩;clear uJ;refine cD (S:=fun z=>ar z q f9 [aG G 0 (g.length+1) (g.length+1),aG kb 0 g g,aG s 0 g g,wv]/\ar z s cI vs) (T:=fun j=>decide (12<=j)) Ok ?_;generalize wr.drew=wd at*;refine ax 0 102 ?_;refine ax 1 103 ?_;refine ax 2 104 ?_;refine ax 3 105 ?_;refine ax 4 106 ?_;refine ax 5 107 ?_;refine ax 6 108 ?_;refine ax 7 109 ?_;refine ax 8 110 ?_;refine aO 9 ?_;intro K hK;go_simp;refine hK.ae _ _ (fun _=>l9 _ (rZ.alloc _) (mI.alloc _)) ?_;refine aT fun WZ cG BZ=> ?_;have Xf:=af (rZ.ext cG);have Dy:=af (mI.ext cG);have XJ:ah (cO WZ O vs (gj)):=sw.ext cG;have XC:=af (XE.ext cG);have C7:O<=WZ.heap.size:=a7 hs2 cG.size;open q84 in exact ae6
    ·obtain rfl:i=x.ay.length:=Om;have d3:decide (x.ay.length<x.ay.length)=false:=Ou;have zA:=HS.ae;have nI:=af ((BRw.cy zA.cy (by simp only[aJ,bL,or_false,not_or];omega)).cy C av2);obtain⟨p0,p1,p2,p3⟩:=HP.four;obtain⟨r0,r1,r2,r3⟩:=nI.four;have f0:=nI.frozen 0;have f1:=nI.frozen 1;have f2:=nI.frozen 2;have f3:=nI.frozen 3;obtain⟨A',c',xs',rfl,_,_,uI,hw2⟩:=(zA.JX.own 0 _ _ rfl rfl).parts;obtain⟨WE,agt,B10,WI,J3⟩:=Cl nI (aG G 0 (g.length+1) (g.length+1)) (aG kb 0 g g) (aG s 0 g g) (.slice A' (ints wl) c');have asG:=af agt;have Pq:ah (∀u,cI≠u->Kept u w8 wr):=fun u I=>C.kept fun i J=>by rw[bG] at J;subst J;exact⟨_,_,Pu,I⟩
     have Xg:ah (E8 WE (.agg #[aG G 0 (g.length+1) (g.length+1),aG kb 0 g g,aG s 0 g g,.slice A' (ints wl) c']) g (m_ g p) (yZ g p) (Ca g d x.ay) wl):=by
      have VI:=(Pq aS Od).trans (WI aS Od);have af7:w.heap.size+1+1<M.heap.size:=ar1.2.2.2.2;refine⟨G,kb,s,A',c',by rw[lg],?_,?_,?_,?_⟩
      ·refine cO.Vb (base:=base) (vs:=anS) (HFw.kept ((Pr w8 zA.cy _ Od Od).trans VI)) ?_ (by unfold m_;simp) Om;exact((HTw.cy zA.cy (by simp only[aJ,bL,or_false,not_or];exact⟨iB.1,n1⟩)).cy C (by simp only[bG];exact n2)).only J3.ae Om
      ·rw[<-Xv.ae];refine cO.Vb (base:=bs2) (vs:=nt) (zA.JX.tail.kept VI) ?_ (by unfold mY;simp) Om;exact(zA.kb.cy C (by simp only[bG];exact n3)).only J3.ae Om
      ·refine cO.Vb (base:=O) (vs:=vs) (HF.kept (WI aS Od)) ?_ (Mv _ _ _) Om;exact HT.only J3 Om
      ·have h:=(bI.of (R:=dO) uI hw2).ls;have Z:IL WE (.slice A' (ints wl) c') (ints wl):=h.keep cK fun u I=>by simp only[bG] at I;rw[I];exact VI
       rwa[lg] at Z
     have HXF:ah (Ext w WE):=((Dr.cy zA.cy (fun i J=>by
      simp only[aJ,bL,or_false] at J;omega)).cy C (fun i J=>by
      rw[bG] at J;omega)).only J3.ae Om
     clear zA uI hw2 agt WI J3;go_wp2_with fail;rw[asG.ae];exact bodyPost_ret (results_cell_row rfl _ _ (w.heap.size+1+1) f9 #[aG G 0 (g.length+1) (g.length+1),aG kb 0 g g,aG s 0 g g,.slice A' (ints wl) c'] (0,0) _ rfl B10.ae underlying256 rfl Ok) rfl ⟨_,_,rfl,Xg,HXF⟩):=h
def amA(v:Value)(x:aP)(B:aR)(c:Nat)(p:Nat->Option Nat)(d:Nat->Nat)(w:au)(h:dN w v x)(ok:bR x)(hr:cX x.ai p d)(hp:IL w (.slice B x.ai c) (rA x.ai p)):
 Calls prog 235 #[v,.agg #[.slice B x.ai c]] w fun e z=>∃u wl,e= .returned u/\E8 z u x.ai (m_ x.ai p) (yZ (gF x.ai x.ay) p) (Ca x.ai d x.ay) wl/\Ext w z:=by
 have CN:=af (fun W (hx:Ext w W)=>Sc v x W (h.ext hx) ok);have hgr:=yG ok.ri;have hg:=hgr.ok ok.a12;have FW:=hgr.len;generalize gF x.ai.length x.ay=g at*;obtain⟨A,c1,B1,Ww,D,e,rfl,ha,ju,hf⟩:=h;have ic:=af ok.ri;have jN:=af ok.rn;have Og:=ok.r6;obtain⟨N,hN⟩:∃N,x.ai.length=N:=⟨_,rfl⟩;rw[hN] at CN FW hr hp ic⊢;subst FW;have hle:=hg.le;have HG:=af hg;have HR:=af hr;have dA:=af hp;have gL:=af ju;have wI:=(bD hp).2;have af1:∀w,(Instr.makeSlice Te (av ((g.length:Int)+1)) (av ((g.length:Int)+1))).run prog w= .ok (aG w.heap.size 0 (g.length+1) (g.length+1)) (w.alloc (.cells (lV (g.length+1)).toArray cI)):=aad (g.length+1) Om;have HNT:=af (show lV (g.length+1)=lV (g.length+1) from rfl);generalize afY:lV (g.length+1)=nt1 at af1;have T8:=aad g Om;have arY:=Mc g Om;clear hg hp hgr ha ju hf ok hN hr;go_enter func235,ntmps235;go_upto_region 1 with fail
 refine qq fun W HX BX BP BR=> ?_;open q78 in exact TS
abbrev aD:=List UInt8
abbrev rr:TypeId:=44
abbrev eM:TypeId:=65
abbrev kK:TypeId:=66
abbrev tDb:TypeId:=34
abbrev Rw:=List aD×Int
abbrev TL:=Ls bJ jM
def eI(w:au)(c:List Value)(x:Rw):Prop:=∃A d,c= [.slice A x.1.length d,av x.2]/\TL w (.slice A x.1.length d) x.1
def eI.iI:js [bJ] eI:=fun _ _ _ _ a ⟨A,d,e,h⟩=>⟨A,d,e,gm jS h a⟩
def kH:=@eI.iI
def eI.two(w:au)(c:List Value)(x:Rw)(h:eI w c x):c.length=2:=awD
abbrev mH:=Ls eM eI
def qC:=np eM eI
def qC.iI:js [eM,bJ] qC:=np.iI kH
def rh:=@qC.iI
abbrev iP:=Ls kK qC
def TL.ext{w':au}{l:List aD}(h:TL m p l)(a:Ext m w'):TL w' p l:=bU jS h a
def fu:=@TL.ext
def mH.ext{w':au}{l:List Rw}(h:mH m p l)(a:Ext m w'):mH w' p l:=bU kH h a
def yT:=@mH.ext
def iP.ext{w':au}{l:List (List Rw)}(h:iP m p l)(a:Ext m w'):iP w' p l:=bU rh h a
def TL.get{n:Nat}{l:List aD}(h:TL m (.slice E n a) l){i:Nat}(f:i<l):
 ∃g o,E=dC g o/\g<m.heap.size/\aA m g (o+i) (aL l[i]):=by
 obtain⟨g,o,d,p,k,j,e⟩:=qd jM.one Od h f;rw[show d=_ from j] at e;have b:=e 0 _ rfl;rw[kG,iq] at b;exact⟨g,o,p,k,b⟩
def s6:=@TL.get
def mH.get{n:Nat}{l:List Rw}(h:mH m (.slice E n a) l){i:Nat}(e:i<l):
 ∃g o B d,E=dC g o/\g<m.heap.size/\aA m g (o+i*2) (.slice B l[i].1 d)/\aA m g (o+i*2+1) (av l[i].2)/\ah (TL m (.slice B l[i].1 d) l[i].1):=by
 obtain⟨g,o,d,k,j,⟨B,p,rfl,f⟩,b⟩:=qd eI.two Od h e;exact⟨g,o,B,p,k,j,b 0 _ rfl,b 1 _ rfl,f⟩
def yS:=@mH.get
def iP.get{n:Nat}{l:List (List Rw)}(h:iP m (.slice E n a) l){i:Nat}(e:i<l):
 ∃g o d b,E=dC g o/\g<m.heap.size/\ah (mH m (.slice d l[i] b) l[i])/\aA m g (o+i) (.slice d l[i] b):=yN h e
def AY:jG prog kK eM 2 32:= .mk' (z:= .agg #[.slice none 0 0,av 0]) Ok Ok rfl Od Od
def aiK:jG prog tDb kK 1 24:= .mk' (z:= .slice none 0 0) Ok Ok rfl Od Od
def akj(F E:aR)(A D z C:Nat)(a b:List aD)(w:au)(k:TL w (.slice F A D) a)(B:TL w (.slice E z C) b):
 Calls prog 175 #[.slice F A D,.slice E z C] w fun e G=>e= .returned (.bool (g7 a b))/\∃n,G=w.drewN n:=by
 obtain⟨O,M,I⟩:=bD k;obtain⟨N,L,H⟩:=bD B;subst O N;have Q:=af k;have P:=af B;go_enter func175,ntmps175;go_wp2;go_loopw [5] (fun v wr=>∃i:Nat,i<=a/\i<=b/\v=av i/\ah (a.take i=b.take i)/\∃q,wr=w.drewN q) (fun v _=>a - (RowKit.intOf v).toNat)
 exact⟨0,aV _,aV _,rfl,rfl,0,rfl⟩;obtain⟨i,K,J,rfl,l,q,rfl⟩:=hrel;by_cases r:i<a
 ·by_cases j:i<b
  ·obtain⟨g,o,rfl,_,p⟩:=s6 Q r;obtain⟨S,R,rfl,_,m⟩:=s6 P j;have u:=af (fun h=>adF r j l h);have s:ah ((a[i]==b[i])=true->a.take (i+1)=b.take (i+1)):=fun h=>by rw[ya,ya,l.ae,aX r,aX j,beq_iff_eq.1 h]
   generalize a[i]=x at*;generalize b[i]=y at*;by_cases f:(x==y)=true
   ·have t:=af (s f);go_wp2;go_quiet (fail);go_wp2;go_roundw;exact⟨i+1,by omega,by omega,by go_num,t,_,rfl⟩;simp [RowKit.intOf];omega
   ·have d:(x==y)=false:=awp;have c:=af (u d);go_wp2;go_quiet (fail);go_wp2;go_quiet (fail);go_wp2;go_ret;exact⟨by rw[c.ae];rfl,Ty _ _ _ _⟩
  ·obtain rfl:i=b.length:=Om;have c:=af (Sg l);have d1:decide (b<b)=false:=Ou;have d2:decide (a.length<b.length)=false:=aY;go_wp2;go_ret;exact⟨by rw[c.ae];rfl,_,rfl⟩
 ·obtain rfl:i=a.length:=Om;by_cases j:a<b.length
  ·have c:=af (ace j l);go_wp2;go_ret;exact⟨by rw[c.ae];rfl,_,rfl⟩
  ·have c:ah (g7 a b=false):=(by have k:=l.ae;have e:a.length=b.length:=Om;rw[e] at k;exact Sg k);go_wp2;go_ret;exact⟨by rw[c.ae];rfl,_,rfl⟩
def aav(A:aR)(n c:Nat)(a:List Value)(w:au)(x:A=none->c=0)(o:Sl w bJ A a)(s:a.length=n*1)(r:n<=c)(y:∀u∈a,u.oneCell'=true)(D:n<=1000000):
 Calls prog 127 #[.slice A n c] w fun e b=>∃d,e= .returned d/\b.ownsRow w.heap.size bJ 1 d n a/\Ext w b:=by
 have B:=af o;have C:=af y;have l:=af s;rcases A with _|j
 ·have v:=x rfl;subst v;obtain rfl:n=0:=Om;have m:a= []:=mh (by rw[l.ae]);subst m;have p:=fun w=>PV w rr bJ none 0 0 0 0 str_slice.ht;go_enter func127,ntmps127;go_wp2;go_ret;exact⟨_,rfl,mQ _ _ _ _,aB w⟩
 ·have k:=af (aa9 w bJ 1);have g:=af (B.ext ((aB w).alloc (.cells #[] bJ)));have f:(0+n)*16<=140737488355328:=Om;have p:=fun w=>PV w rr bJ (some j) n c 0 0 str_slice.ht;go_enter func127,ntmps127;go_wp2_with (at_builtin;refine AO rfl _ _ rr rfl w.heap.size str_slice _ _ _ rfl k.ae (some j) n c a rfl Oe l g C f Ou ?_)
  intro d b q t _;have z:ah (Ext w b):=mn ((aB w).alloc _) k t (aK _);have i:ah (b.ownsRow w.heap.size bJ 1 d n a):=by rw[ah];simpa using q
  go_wp2;go_ret;exact⟨_,rfl,i,z⟩
def aaw(A:aR)(n c:Nat)(l:List aD)(w:au)(h:TL w (.slice A n c) l)(t:l.length<=1000):
 Calls prog 127 #[.slice A n c] w fun e f=>∃d b,e= .returned (.slice d n b)/\TL f (.slice d n b) l/\Ext w f:=by
 obtain⟨rfl,j,q,m,o,a⟩:=acf h;have g:=Ch.length (k:=1) (fun c x h=>by rw[show c=_ from h];rfl) a;refine(aav A _ c m w q o g j (Ch.all (fun c x j u i=>by rw[show c=_ from j] at i;simp only[aJ,bL,or_false] at i;rw[i];rfl) a) Om).mono ?_
 rintro e f ⟨s,rfl,p,g⟩;obtain⟨d,b,rfl,r⟩:=ape (R:=jM) p rfl a;exact⟨d,b,rfl,r,g⟩
def M9(b:List Rl)(a:Int):Nat:=(b.flatMap fun r=>r.2).count a
def Tq(a:List Rl)(c:List Int)(b:List aD):Bool:=(c.zip b).all fun q=>(q.2 != [])||M9 a q.1==1
def kL(a:List Rl)(b:List Int)(l:List Rw):List Rw:=l.filter fun y=>Tq a b y.1
def qc(n:Nat)(L:List Int):List Value:=(List.range n).map fun a:Nat=>av (L.count (a:Int):Nat)
def Hp(h:b<a):(qc a L)[b]? =some (av (L.count (b:Int):Nat)):=by unfold qc;rw[dL,lG h];rfl
def aiz(h:b<a):(qc a L).set b (av ((L.count (b:Int):Nat)+1))=qc a (L++ [(b:Int)]):=by
 have d:∀L,(qc a L)=a:=fun L=>by unfold qc;simp
 refine sL fun i=> ?_;rw[o5,d];by_cases e:b=i
 ·subst e;rw[if_pos rfl,if_pos h,Hp h];simp [Y3]
 ·rw[if_neg e];rcases cA i a with c|c
  ·rw[Hp c,Hp c,Y3];have:List.count (i:Int) [(b:Int)]=0:=List.count_eq_zero.2 av2;rw[this,iq]
  ·rw[fF (by rw[d];exact c),fF (by rw[d];exact c)]
def ahX(n:Nat):iu n (fun _=>some 0)=qc n []:=by unfold iu qc;refine oZ fun a _=> ?_;simp [rE]
def SS{α β:Type}{f:α->List β}{m:Nat}:∀{l:List α},(∀x∈l,(f x).length<=m)->(l.flatMap f).length<=l.length*m
 | [],_=>by simp
 |x::l,h=>by have c:=SS (l:=l) fun y a=>h y avS;have b:=h x Ou;rw[vB,bC,cP,qT];omega
def alH{α β:Type}{l:List α}{m:List β}(c:a<l)(b:a<m):(l.zip m).take (a+1)=(l.zip m).take a++ [(l[a],m[a])]:=by rw[fg Oc,List.getElem_zip]
def akx(v:Value)(x:aP)(i:Nat)(A0:aR)(n0 c0:Nat)(l:List Rw)(r:Rl)(w:au)(h:dN w v x)(ok:bR x)(hl:mH w (.slice A0 n0 c0) l)(hr:x.ay[i]? =some r)(ht:∀y∈l,y.1.length=r.2)(oC:l.length<=1000):
 Calls prog 60 #[v,av i,.slice A0 n0 c0] w fun e E=>∃u,e= .returned u/\bI eM 2 eI w.heap.size E u (kL x.ay r.2 l)/\Ext w E:=by
 obtain⟨A,c,B,d,D,e,rfl,ha,ju,hf⟩:=h;obtain⟨-,iN,j4⟩:=bD ju;obtain⟨zo,arW,ase⟩:=bD hl;subst zo;have HR:=af ju;have HL:=af hl;have HT:=af ht;have ic:=af ok.ri;have r6:=ok.r6;have a12:=ok.a12;have iM:i<x.ay.length:=(by exact Nr)
 have oz:x.ay[i]=r:=by rw[aX iM] at hr;injection hr
 have pP:=af oz;have pQ:ah (∀r∈x.ay,r.2.length<=12):=fun r hr=>by
  have P:=EU (k:=0) (n:=x.ai.length) (ok.ra r hr) (ok.ri r hr);rcases P with P|P
  ·rw[P];simp
  ·omega
 have lZ:(x.ay.flatMap fun r=>r.2).length<=72:=a7 (SS pQ) Om;have rX:ah (∀a,M9 x.ay a=(x.ay.flatMap fun r=>r.2).count a):=fun _=>rfl;have kR:=Mc x.ai Om;obtain⟨RN,uR⟩:∃RN,x.ay.length=RN:=⟨_,rfl⟩;have jN:=af uR;have VQ:i<RN:=Om;rw[uR] at iN HR r6⊢;obtain⟨N,hN⟩:∃N,x.ai.length=N:=⟨_,rfl⟩;rw[hN] at a12 ic kR⊢;clear uR ha ju hf ok hN hl ht oz hr;go_enter func60,ntmps60;go_upto_region 1 with fail
 refine aT fun W HX BX=> ?_;obtain⟨s0,s1,s2,s3⟩:=BX.four;go_upto_region 2 with fail
 clear kR;refine aT fun W2 aZ z=> ?_;have xL:=af (HX.trans aZ);have ke:=af (BX.ext aZ);have hbg:=BX.lt;clear s0 s1 s2 s3;obtain⟨s0,s1,s2,s3⟩:=ke.four;have D4:ah (ar W2 W.heap.size aS (qc N ((x.ay.take 0).flatMap fun r=>r.2))):=by have h:=z.ae;rw[ahX] at h;exact h
 clear z BX;have Vj:w.heap.size<=W.heap.size:=Om;generalize W.heap.size=gu at*;go_upto_region 3 with fail
 clear s0 s1 s2 s3;have Gv:=af (fun k (hk:k<x.ay.length)=>rp HR hk);have HY0:ah (Only gu W2 W2):=ig gu W2;go_loopw [11,25] (fun _ v25 wr=>∃k:Nat,k<=RN/\v25=av k/\ah (ar wr gu aS (qc N ((x.ay.take k).flatMap fun r=>r.2)))/\ah (Only gu W2 wr)) (fun _ v25 _=>RN - (RowKit.intOf v25).toNat)
 exact⟨0,aV _,rfl,D4,HY0⟩;obtain⟨k,hk,rfl,z,HY⟩:=hrel;have HE:=af (xL.only HY Vj);by_cases OA:k<RN
 ·have t:k<x.ay.length:=by rw[jN.ae];exact OA
  obtain⟨g,o,Bi,mi,di,hB,rT,U,Q,m⟩:=Gv k t;have G:=(HE.cell (p:=aC g (o+k*2)) rT).trans U;have F:=(HE.cell (p:=aC g (o+k*2+1)) rT).trans Q;have hm:=(bD m).1;subst hm;have X:=(bD m).2;have I:=af m;have DN:=af (ic _ (a_ t));have JR:=pQ _ (a_ t);have nH:=af (H9 (f:=fun r:Rl=>r.2) t).2;have JE:=(H9 (f:=fun r:Rl=>r.2) t).1;clear U Q m;generalize(x.ay.take k).flatMap (fun r=>r.2)=Lk at*;generalize x.ay[k]=rk at*;obtain⟨rn,ra⟩:=rk;simp only at G F I DN JR nH X JE;obtain⟨M,hM⟩:∃M,ra.length=M:=⟨_,rfl⟩;have HM:=af hM;rw[hM] at F I JR X;clear hM;subst hB;go_upto_region 5 with fail
  refine aT fun W3 cH BR=> ?_;have gO:ah (ar W3 gu aS (qc N (Lk++ra.take 0))):=by rw[kF,i7];exact z.ext cH
  have HY3:=af (HY.trans (ep cH));obtain⟨b0,b1⟩:=BR.two;clear z G F;go_upto_region 6 with fail
  clear b0 b1 BR;go_loopw [11,32] (fun _ v32 wq=>∃j:Nat,j<=M/\v32=av j/\ah (ar wq gu aS (qc N (Lk++ra.take j)))/\ah (Only gu W2 wq)) (fun _ v32 _=>M - (RowKit.intOf v32).toNat);exact⟨0,aV _,rfl,gO,HY3⟩;obtain⟨j,hj,rfl,z,HY⟩:=hrel;by_cases C:j<M
  ·have dI:j<ra.length:=by rw[HM.ae];exact C
   obtain⟨g2,o2,Gd,_,hc⟩:=gX (bU cK I (xL.only HY Vj)) dI;obtain⟨q,hq⟩:∃q:Nat,ra[j]=(q:Int):=⟨ra[j].toNat,by have:=(DN _ (a_ dI)).1;omega⟩;have rO:q<N:=by have:=(DN _ (a_ dI)).2;omega
   have gh:ah (Lk++ra.take (j+1)=(Lk++ra.take j)++ [(q:Int)]):=by rw[ah,fg dI,hq,ie]
   rw[hq] at hc;have hu:=z.cell (Hp rO);have hf:=z.frozen q;have Ue:List.count (q:Int) (Lk++ra.take j)<=1000:=by have P:=List.count_le_length (a:=(q:Int)) (l:=Lk++ra.take j);have h2:=List.length_take_le j ra;rw[bC] at P;omega
   have HUS:=af (aiz (L:=Lk++ra.take j) rO);generalize List.count (q:Int) (Lk++ra.take j)=cn at*;obtain⟨W',hW',B7,K7,N7⟩:=gG (i:=q) z (av ((cn:Int)+1));rw[HUS.ae,<-gh.ae] at B7;have Dv:=af hW';have xj:=af (HY.trans N7);subst Gd;clear hW' K7 N7 z;go_upto_region 9 with fail
   rw[Dv.ae];clear hc hu hf;go_wp2;go_roundw;exact⟨j+1,by omega,by go_num,B7,xj⟩;simp [RowKit.intOf];omega
  ·have hT:ra.take j=ra:=dz (by have h:=HM.ae;unfold ah at h;omega);rw[hT,<-nH.ae] at z;have d1:decide ((j:Int)<(M:Int))=false:=aY;clear hT;go_wp2;go_roundw;exact⟨k+1,by omega,by go_num,z,HY⟩;simp [RowKit.intOf];omega
 ·have hT:x.ay.take k=x.ay:=dz (by have h:=jN.ae;unfold ah at h;omega);rw[hT] at z;have d1:decide ((k:Int)<(RN:Int))=false:=aY;clear hT;have HYd:ah (Only gu W2 wr):=HY;have hwz:w.heap.size<=wr.heap.size:=a7 xL.size HY.size;obtain⟨wb,FJ⟩:∃b,wr.heap.size=b:=⟨_,rfl⟩;have avd:gu<wb:=by rw[<-FJ];exact z.lt
  have afU:wb<=wr.heap.size:=En FJ.symm;have afN:w.heap.size<=wb:=Om;clear FJ;obtain⟨w3,rfl⟩:∃w3:World,w3=wr:=⟨_,rfl⟩;have Yn:=af (ke.only HY Om);have HRi:=af (Gv i iM);have KG:=af HE;obtain⟨gi,oi,Bi,mi,di,hB,lB,lY,rS,m⟩:=HRi.ae;have rR:=(bD m).1;subst rR hB;obtain⟨Cp,agh⟩:=(bD m).2;rw[pP.ae] at lY rS m Cp;have I:=af m;have arS:=pQ r (by rw[<-pP.ae];exact a_ iM);have KA:=af (fun a (ha:a∈r.2)=>ic r (by rw[<-pP.ae];exact a_ iM) a ha);have jA:=af lY;have gD:=af rS;clear m lY rS;obtain⟨rn,ra⟩:=r;simp only at Cp arS KA jA gD I HT⊢;go_upto_region 13 with fail
  have DI:ah (bI eM 2 eI wb w3 (.slice none 0 0) (kL x.ay ra (l.take 0))):=jf;have bP:ah (Ext w3 w3):=aB w3;go_loopw [12,15,16,17,46] (fun v12 _ _ _ v46 wr=>∃k:Nat,k<=l/\v46=av k/\ah (bI eM 2 eI wb wr v12 (kL x.ay ra (l.take k)))/\ah (Ext w wr)/\ah (ar wr gu aS (qc N (x.ay.flatMap fun r=>r.2)))/\ah (ar wr w.heap.size kq [.slice A N c,aG gi oi RN d,.slice D x.bf e,av x.label])/\wb<=wr.heap.size) (fun _ _ _ _ v46 _=>l - (RowKit.intOf v46).toNat)
  exact⟨0,aV _,rfl,DI,KG,z,Yn,afU⟩;clear z afU;obtain⟨k,hk,rfl,HO,HX,z,BX,hsz⟩:=hrel;by_cases t:k<l
  ·obtain⟨gl,ol,Bk,dk,hAk,oD,U,Q,rY⟩:=yS HL t;have G:=(HX.cell (p:=aC gl (ol+k*2)) oD).trans U;have F:=(HX.cell (p:=aC gl (ol+k*2+1)) oD).trans Q;have H:=HT _ (a_ t);have gh:ah (kL x.ay ra (l.take (k+1))=kL x.ay ra (l.take k)++kL x.ay ra [l[k]]):=by rw[ah,fg t];exact qO ..
   have hlk:(kL x.ay ra (l.take k)).length<=1000:=a7 (mm _ _) avU;obtain⟨Ud,Nu⟩:=(bD rY).2;clear U Q;generalize kL x.ay ra (l.take k)=lo at*;generalize l[k]=y at*;obtain⟨O,yw⟩:=y;simp only at G F rY H gh Ud;subst hAk;rw[H] at G rY Ud;go_upto_region 15 with fail
   refine aT fun W6 dG BY=> ?_;have oO:=af (HO.ext kH dG);have J:=af (HX.trans dG);have Yq:=af (z.ext dG);have qK:=af (BX.ext dG);have hby:=BY.lt;have auM:wb<=wr.heap.size:=hsz;have HT6:=af (fu rY J);clear z BX hsz G F;generalize avx:wr.heap.size=Z at*;obtain⟨s0,s1,s2,s3⟩:=qK.four;have q1:=(J.cell (p:=aC gi (oi+i*2)) lB).trans jA.ae;have q2:=(J.cell (p:=aC gi (oi+i*2+1)) lB).trans gD.ae;go_upto_region 17 with fail
   clear s0 s1 s2 s3 q1 q2;obtain⟨p0,p1⟩:=BY.two;go_loopw [15,16,17,57] (fun v15 _ _ v57 wq=>∃(j:Nat) (b:Bool),j<=ra/\v57=av j/\v15= .bool b/\wq=W6/\ah (b=((ra.zip O).take j).all fun q=>(q.2 != [])||M9 x.ay q.1==1)) (fun _ _ _ v57 _=>ra - (RowKit.intOf v57).toNat);exact⟨0,true,aV _,rfl,rfl,rfl,rfl⟩;obtain⟨j,b,hj,rfl,rfl,NW,PB⟩:=hrel;have NW:=NW.symm;subst NW;by_cases C:j<ra
   ·have JA:j<O.length:=by rw[H];exact C
    obtain⟨g2,o2,Gd,_,hc⟩:=gX (bU cK I J) C;obtain⟨g3,o3,JW,_,hv⟩:=s6 HT6 JA;obtain⟨q,hq⟩:∃q:Nat,ra[j]=(q:Int):=⟨ra[j].toNat,by have:=(KA _ (a_ C)).1;omega⟩;have rO:q<N:=by have:=(KA _ (a_ C)).2;omega
    have hu:=Yq.cell (Hp rO);have Ue:List.count (q:Int) (x.ay.flatMap fun r=>r.2)<=72:=a7 List.count_le_length lZ;have HZ:=af (alH C JA);rw[hq] at HZ hc;have HUQ:=af (rX q);generalize List.count (q:Int) (x.ay.flatMap fun r=>r.2)=cn at*;generalize O[j]=v at*;subst Gd JW;clear hq;have eo:ah (((ra.zip O).take (j+1)).all (fun q=>(q.2 != [])||M9 x.ay q.1==1)=(b&&((v != [])||cn==1))):=by rw[ah,HZ.ae,List.all_append,<-PB.ae];simp only[List.all_cons,List.all_nil,Bool.and_true,HUQ.ae]
    go_upto_region 19 with fail
    cases b
    ·go_wp2;go_roundw;exact⟨j+1,false,by omega,by go_num,by first|rfl|trivial,by first|rfl|trivial,by rw[ah,eo.ae];rfl⟩;simp [RowKit.intOf];omega
    ·by_cases hv0:v= []
     ·subst hv0;by_cases P:cn=1
      ·subst P;go_wp2;go_roundw;exact⟨j+1,true,by omega,by go_num,by first|rfl|trivial,by first|rfl|trivial,by rw[ah,eo.ae];rfl⟩;simp [RowKit.intOf];omega
      ·have h2:((cn:Int)==1)=false:=beq_eq_false_iff_ne.2 Om;go_wp2;go_roundw;exact⟨j+1,false,by omega,by go_num,by first|rfl|trivial,by first|rfl|trivial,by rw[ah,eo.ae,show(cn==1)=false from beq_eq_false_iff_ne.2 P];rfl⟩;simp [RowKit.intOf];omega
     ·have hv2:(v== [])=false:=beq_eq_false_iff_ne.2 hv0;go_wp2;go_roundw;exact⟨j+1,true,by omega,by go_num,by first|rfl|trivial,by first|rfl|trivial,by rw[ah,eo.ae,bne,hv2];rfl⟩;simp [RowKit.intOf];omega
   ·have hz:(ra.zip O).take j=ra.zip O:=dz (by simp only[List.length_zip];omega);rw[hz] at PB;have d1:decide ((j:Int)<(ra.length:Int))=false:=aY;clear hz;cases b
    ·have Uw:ah (kL x.ay ra (l.take (k+1))=lo):=by rw[ah,gh.ae,kL,qR,show Tq x.ay ra O=false from PB.symm];simp
     go_wp2;go_roundw;exact⟨k+1,by omega,by go_num,by rw[Uw.ae];exact oO,J,Yq,qK,by omega⟩;simp [RowKit.intOf];omega
    ·have Uw:ah (kL x.ay ra (l.take (k+1))=lo++ [(O,yw)]):=by rw[ah,gh.ae,kL,qR,show Tq x.ay ra O=true from PB.symm];simp
     go_upto_region 22 with fail
     have CT:=af (aaw Bk ra dk O);obtain⟨A0,c0',xsO,rfl,hoc,hom,_,_⟩:=oO.parts;obtain⟨S,eQ⟩:∃S:World->Prop,S=fun E=>aA E Z 0 (.slice Bk ra dk)/\aA E Z 1 (av yw):=⟨_,rfl⟩;have bO:ah (∀E,S E->aA E Z 0 (.slice Bk ra dk)/\aA E Z 1 (av yw)):=avQ;have cC:ah (∀E,ar E Z eM [.slice Bk ra dk,av yw]->S E):=by rw[ah,eQ];exact fun E P=>⟨P.aF 0,P.aF 1⟩
     clear eQ;have xk:ah (Ext W6 W6.drew):=(aB W6).drew;have aH:ah (S W6.drew):=cC _ (BY.ext xk);refine cD (S:=S) (T:=fun j=>decide (8<=j)) Ok ?_;generalize W6.drew=wd at*;refine ax 0 80 ?_;refine ax 1 81 ?_;refine ax 2 82 ?_;refine ax 4 84 ?_;refine ax 5 85 ?_;refine aO 3 ?_;intro K Y;go_simp;refine(CT wd (fu HT6 xk) Om).mono ?_;rintro e8 w8 ⟨A8,c8,rfl,hT8,fV⟩;have Ut:=af (xk.trans fV);have fE:=af (cC _ (BY.ext Ut));have Kh:=af hT8;refine Y.ae _ _ (fun _=>fE.ae) ?_;clear Y fV hT8;have aH:=fE;refine ax 6 86 ?_;refine aO 7 ?_;intro K Y;go_simp;refine Y.ae _ _ (fun _=>cC _ (BY.ext (Ut.alloc _))) ?_;refine aT fun WZ cG BZ=> ?_;have oK:=af (Ut.trans cG);have BUZ:=af (Yq.ext oK);have BXZ:=af (qK.ext oK);have HEZ:=af (J.trans oK);have HOZ:=af (oO.ext kH oK);have Dy:=af (fu Kh cG);clear Y;obtain⟨_,_,xsO,ee,_,_,kW,vo⟩:=HOZ.parts;injection ee with xc _ Do;subst xc Do;have cM:(lo.length+1)*32<=140737488355328:=Om;have hwz:wb<=WZ.heap.size:=by have:=oK.size;omega
     refine jF 8 Ok ?_;intro oo mE K Y;simp only[eR,dS,dy,cY] at mE;subst mE;refine nh rfl ?_;refine ro _ _ kK rfl wb AY _ _ _ rfl kW.ae _ [.slice A8 ra c8,av yw] BZ.ae 1 1 rfl rfl rfl cM hwz ?_;intro v' Cx V s _;obtain⟨G3,c12,rfl,_,_,_⟩:=ej V;have hTe:(A8,ra.length)=(A8,O.length):=by rw[H]
     have O12:=af (jc (R:=eI) (x:=(O,yw)) kH (fun u hu=>by rw[bG.1 hu];decide) kW vo ⟨A8,c8,by rw[H],by rw[H];exact Dy.ae⟩ V s);have atZ:=af (gH BUZ kW s Om);have atY:=af (gH BXZ kW s Om);have atC:=af (mn HEZ kW s afN);have Cn:wb<=Cx.heap.size:=a7 hwz s.size;clear V s hTe;simp only[Act.put,d8,dP,d9];refine Y.ae _ _ Oe ?_;clear Y BZ;refine aO 9 ?_;intro K Y;go_simp;refine Y.ae _ _ Oe ?_;refine b_ Ok ?_;clear Y;go_wp2_with fail
     go_roundw;exact⟨k+1,by omega,by go_num,by rw[Uw.ae];exact O12,atC,atZ,atY,Cn⟩;simp [RowKit.intOf];omega
  ·have hT:l.take k=l:=dz Om;rw[hT] at HO;have d1:decide ((k:Int)<(l.length:Int))=false:=aY;clear hT;have xE:=af (HO.lower afN);obtain⟨Ao,co,xo,rfl,_,_,_,_⟩:=HO.parts;go_wp2;exact bodyPost_ret (v:= .slice Ao (kL x.ay ra l) co) (by simp [results,results60,go_sem]) rfl ⟨_,rfl,xE,HX⟩
def b9(l:List Int):List Nat:=l.map Int.toNat
def s5(n:Nat)(b:Nat->aD):List Value:=(List.range n).map fun a=>aL (b a)
def fG(n:Nat)(b:Nat->Bool):List Value:=(List.range n).map fun a=> .bool (b a)
def Mb{cur:Nat->aD}(h:b<a):(s5 a cur)[b]? =some (aL (cur b)):=by unfold s5;rw[dL,lG h];rfl
def pX{on:Nat->Bool}(h:b<a):(fG a on)[b]? =some (.bool (on b)):=by unfold fG;rw[dL,lG h];rfl
def aaX{f g:Nat->Value}(h:b<a)(j:∀c,c≠b->g c=f c):((List.range a).map f).set b (g b)=(List.range a).map g:=by
 refine sL fun i=> ?_;rw[o5,bW,iG];by_cases e:b=i
 ·subst e;rw[if_pos rfl,if_pos h,dL,lG h];rfl
 ·rw[if_neg e,dL,dL];rcases cA i a with d|d
  ·rw[lG d];show some (f i)=some (g i)
   rw[j i fun h=>e h.symm]
  ·rw[fF (by rw[iG];exact d)];rfl
def ai7{d:Nat->aD}{t:aD}(h:b<a):(s5 a d).set b (aL t)=s5 a (put d b t):=by
 have j:put d b t b=t:=by simp [put]
 have e:=aaX (f:=fun c=>Value.string ⟨(d c).toArray⟩) (g:=fun c=>Value.string ⟨(put d b t c).toArray⟩) h fun c i=>by simp [put,i]
 simp only[j] at e;exact e
def L5(h:b<a):(fG a K).set b (.bool R)=fG a (fun c=>if c=b then R else K c):=by
 have d:=aaX (f:=fun c=>Value.bool (K c)) (g:=fun c=>Value.bool (if c=b then R else K c)) h fun c e=>by rw[if_neg e]
 simp only[if_pos] at d;exact d
structure xe(oN oS:Nat)(w:au)(xb jb nb sb:Nat)(x:aP)(cur:Nat->aD)(on:Nat->Bool):Prop where
 xl:xb<w.heap.size
 jl:jb<w.heap.size
 jn:aA w xb 0 (aI jb 0)
 nw:aA w xb oN (aG nb 0 x.ai.length x.ai.length)
 st:aA w xb oS (aG sb 0 x.ai.length x.ai.length)
 nc:ar w nb bJ (s5 x.ai.length cur)
 sc:ar w sb fH (fG x.ai.length on)
 jr:∃B d,aA w jb 1 (.slice B x.ay.length d)/\ah (xh w (.slice B x.ay.length d) x.ay)
def xe.ext{w':au}{x:aP}{cur:Nat->aD}{on:Nat->Bool}(h:xe a b m c d e f x cur on)(i:Ext m w'):xe a b w' c d e f x cur on:=
 ⟨cF h.xl i.size,cF h.jl i.size,(i.cell h.xl).trans h.jn,(i.cell h.xl).trans h.nw,(i.cell h.xl).trans h.st,h.nc.ext i,h.sc.ext i,by obtain⟨B,g,k,j⟩:=h.jr;exact⟨B,g,(i.cell h.jl).trans k,bU nS j i⟩⟩
def aee(h:aq:=by
 have iM:i<x.ay.length:=(by exact Nr);have oz:x.ay[i]=r:=by rw[aX iM] at hr;injection hr
 obtain⟨rn,ra⟩:=r;have nD:=af oB;simp only at hv nD⊢;rw[hv] at hT⊢;obtain⟨Ud,Nu⟩:=(bD hT).2;have HT:=af hT;obtain⟨rL,dI,kt,hnw,hst,Ot,hsc,B,d,FT,HR⟩:=h;have HNC:=af Ot;have l9:=af hsc;obtain⟨gi,oi,Bi,mi,di,hB,lB,lY,rS,jL⟩:=rp HR iM;have rR:=(bD jL).1;obtain⟨-,iN,j4⟩:=bD HR;subst rR hB;obtain⟨Cp,agh⟩:=(bD jL).2;rw[oz] at lY rS jL Cp;have dA:=af jL;simp only at lY rS dA Cp;clear oz hr oB hT Ot hsc jL;generalize x.ay.length=RN at*;generalize x.ai.length=N at*;have hL:ah (∀j:Nat,j<=ra->True):=fun _ _=>trivial;go_enter y7,y6;go_upto_region 1 with fail
 refine aT fun W HX BY=> ?_;obtain⟨q0,q1⟩:=BY.two;have c1:=(HX.cell (p:=aC xb 0) rL).trans kt;have c2:=(HX.cell (p:=aC xb om) rL).trans hnw;have c3:=(HX.cell (p:=aC xb oh) rL).trans hst;have c4:=(HX.cell (p:=aC jb 1) dI).trans FT;have c5:=(HX.cell (p:=aC gi (oi+i*2)) lB).trans lY;have c6:=(HX.cell (p:=aC gi (oi+i*2+1)) lB).trans rS;clear kt hnw hst FT lY rS;go_upto_region 2 with fail
 clear c1 c4 c5 c6;have zX:ah (dV on cur (b9 ra) vs=dV on cur (b9 (ra.drop 0)) (vs.drop 0)):=rfl;go_loopw [7,8,22] (fun _ _ v22 wr=>∃j:Nat,j<=ra/\v22=av j/\(∃m,wr=W.drewN m)/\ah (dV on cur (b9 ra) vs=dV on cur (b9 (ra.drop j)) (vs.drop j))) (fun _ _ v22 _=>ra - (RowKit.intOf v22).toNat)
 exact⟨0,aV _,rfl,⟨0,rfl⟩,zX⟩;obtain⟨j,hj,rfl,⟨m,rfl⟩,HA⟩:=hrel;by_cases qy:j<ra
 ·have JA:j<vs.length:=by rw[hv];exact qy
  obtain⟨g2,o2,Gd,_,hc⟩:=gX (bU cK dA HX) qy;obtain⟨g3,o3,JW,hg3,hv3⟩:=s6 (n:=ra) (bU jS HT HX) JA;obtain⟨q,hq⟩:∃q:Nat,ra[j]=(q:Int):=⟨ra[j].toNat,by have:=(nD _ (a_ qy)).1;omega⟩;have rO:q<N:=by have:=(nD _ (a_ qy)).2;omega
  have HAS:ah (dV on cur (b9 (ra.drop j)) (vs.drop j)=((!(on q)||cur q==vs[j])&&dV on cur (b9 (ra.drop (j+1))) (vs.drop (j+1)))):=(by rw[ah,jR qy,jR JA,hq];rfl);rw[hq] at hc;have hs:=(l9.ext HX).cell (pX (on:=on) rO);have hn:=(HNC.ext HX).cell (Mb (cur:=cur) rO);generalize vs[j]=v at*;generalize cur q=u at*;generalize on q=b at*;subst Gd JW;clear hq;cases b
  ·go_upto_region 4 with fail
   exact ae0
  ·by_cases he:u=v
   ·subst he;go_upto_region 4 with fail
    exact ae0
   ·have he2:(u==v)=false:=beq_eq_false_iff_ne.2 he;have HF:ah (dV on cur (b9 ra) vs=false):=by rw[ah,HA.ae,HAS.ae,he2];rfl
    go_upto_region 4 with fail
    go_quiet (fail);go_wp2;exact bodyPost_ret (v:= .bool false) awi rfl ⟨by rw[HF.ae],(HX.drewN _).drewN _⟩
 ·have d1:decide ((j:Int)<(ra.length:Int))=false:=aY;have HF:ah (dV on cur (b9 ra) vs=true):=by rw[ah,HA.ae,Ai Om];rfl
  go_wp2;exact bodyPost_ret (v:= .bool true) awi rfl ⟨by rw[HF.ae],HX.drewN _⟩):=h
abbrev IE.y7:= @func226
abbrev IE.y6:= @ntmps226
abbrev IE.uz:= @results226
abbrev IE.om:=(13:Nat)
abbrev IE.oh:=(14:Nat)
open IE in
def Sy(xb jb nb sb i:Nat)(x:aP)(cur:Nat->aD)(on:Nat->Bool)(r:Rl)(Bk:aR)(dk:Nat)(vs:List aD)(wt:Int)(w:au)(h:xe 13 14 w xb jb nb sb x cur on)(hr:x.ay[i]? =some r)(oB:∀a∈r.2,0<=a/\a<(x.ai.length:Int))(hv:vs.length=r.2)(hT:TL w (.slice Bk vs dk) vs):
 Calls prog 226 #[aI xb 0,av i,.agg #[.slice Bk vs dk,av wt]] w fun e w'=>e= .returned (.bool (dV on cur (b9 r.2) vs))/\Ext w w':=aee
abbrev ID.y7:= @func270
abbrev ID.y6:= @ntmps270
abbrev ID.uz:= @results270
abbrev ID.om:=(19:Nat)
abbrev ID.oh:=(20:Nat)
open ID in
def Su(xb jb nb sb i:Nat)(x:aP)(cur:Nat->aD)(on:Nat->Bool)(r:Rl)(Bk:aR)(dk:Nat)(vs:List aD)(wt:Int)(w:au)(h:xe 19 20 w xb jb nb sb x cur on)(hr:x.ay[i]? =some r)(oB:∀a∈r.2,0<=a/\a<(x.ai.length:Int))(hv:vs.length=r.2)(hT:TL w (.slice Bk vs dk) vs):
 Calls prog 270 #[aI xb 0,av i,.agg #[.slice Bk vs dk,av wt]] w fun e w'=>e= .returned (.bool (dV on cur (b9 r.2) vs))/\Ext w w':=aee
end Go.Proofs.YtadbchhdjbghkaaGreatDoor
