/- Texts of the proof, part 8. -/
import Derived.Test.YthfffpcmldipgaaGreatDoorA7
namespace Go.Proofs.YthfffpcmldipgaaGreatDoor
set_option maxHeartbeats 8000000
set_option linter.all false
set_option maxRecDepth 100000
variable{ai:Prop}
open Go.RowKit Go.Lib Go.Maps Go.ChangeShapes Go.WideShapes Go.ChangeAt Go.Proofs.Tryz
variable{a b c d e f g h:Nat}{i j k l:List Nat}{m n o:World}{p q r s:Value}{t u v:List Value}{w x:TypeId}{y z:Nat→Option Nat}{A:Nat→List Nat}{B C:Int}{E F:Option Addr}{H I:Rat}{J:Nat→Nat}{K:Nat→Bool}{L:List Int}{N:Array Bool}{O:Option Nat}{Q:Act}{R S:Bool}{T:List UInt8}
def cU.kept{f:List (List Nat)}(h:cU m a t f)(p:Kept aU m n):cU n a t f:=
 ⟨h.len,fun i v l k o=>by
  obtain⟨j,⟨x,b⟩,u⟩:=h.own i v l k o;refine⟨j,⟨x,?_⟩,u⟩;rcases b with b|⟨g,d,c,e,r,q,s⟩
  ·exact .inl b
  ·exact .inr ⟨g,d,c,e,r,p _ _ _ q,s⟩,h.ap⟩
def cU.tail{d:List (List Nat)}(h:cU m a (p::t) (i::d)):cU m a t d:=
 ⟨by have:=h.len;simpa using this,fun b p i c f=>h.own (b+1) p i ay7 azG,fun b j p u c e g=>h.ap (b+1) (j+1) p u ay7 azm Om⟩
def Ext.bP(h:Ext m n)(k:a7 i n o)(g:∀d∈i,m.heap.size<=d):Ext m o:=
 ⟨k.os.trans h.os,k.tape.trans h.tape,k.output.trans h.output,a8 h.size k.size,fun d e=>(k.block d (cE e h.size) (fun f=>by have:=g d f;omega)).trans (h.block d e)⟩
def abV(n:Nat)(h:n<=1000)(w:au):
 (Instr.makeSlice We (av (n:Int)) (av (n:Int))).run prog w= .ok (aG w.heap.size 0 n n) (w.alloc (.cells (List.replicate n (Value.slice none 0 0)).toArray cO)):=by
 obtain⟨e,f,c,b,a⟩:=info_parts (show(prog.info? cO).map (fun i=>(i.zero,i.size,i.bytes))=some (some (.slice none 0 0),1,24) by kernel_rfl);have d:=run_make (P:=prog) w We cO e (.slice none 0 0) underlying269 f c .i64 .i64 (n:Int) (n:Int) Om (AB _) azC Om;simp only[kF,b,l8,Value.cells,Ai] at d;rw[d]
def tG(n:Nat)(p:Nat->Option Nat):List Int:=(List.range n).map fun a=>tM (p a)
def oO(n:Nat)(p:Nat->Option Nat):List (List Nat):=(List.range (n+1)).map fun u=>kids n p (pW n u)
noncomputable def Bf(g:List Nat)(p:Nat->Option Nat):List (List Nat):=(List.range g.length).map fun v=>pS g.length p g v
def Ik(l:List Int):List Nat:=l.map Int.toNat
def qU(d:Nat->Nat)(l:List Int):Nat:=fu d (Ik l) ((Ik l).headD 0)
def Ey(n:Nat)(d:Nat->Nat)(a:List Rl):List (List Nat):=nO n (fun i=>qU d ((a.getD i ([],[])).2)) a.length
def Il(w:au)(u:Value)(n:Nat)(h f g:List (List Nat))(a:List Nat):Prop:=
 ∃e b d A c,u= .agg #[aG e 0 (n+1) (n+1),aG b 0 n n,aG d 0 n n,.slice A a.length c]/\sI w (aG e 0 (n+1) (n+1)) (h.map ints)/\sI w (aG b 0 n n) (f.map ints)/\sI w (aG d 0 n n) (g.map ints)/\IL w (.slice A a.length c) (ints a)
def kP(n:Nat):Option Nat->Nat
 |none=>n
 |some b=>b
def tx(n:Nat)(p:Nat->Option Nat)(j:Nat):List (List Nat):=nO (n+1) (fun a=>kP n (p a)) j
def anK(h:c<=a):(tx a y b)[c]?=some ((List.range b).filter fun d=>kP a (y d)==c):=KI Om
def alQ{n j:Nat}{p:Nat->Option Nat}(h:kP n (p j)<=n):tx n p (j+1)=(tx n p j).set (kP n (p j)) (((List.range j).filter fun a=>kP n (p a)==kP n (p j))++ [j]):=ac9 (f:=fun a=>kP n (p a)) Om
def anL(r:dp a y J):tx a y a=oO a y:=by
 unfold tx nO oO;refine qE fun u g=> ?_;have g:=dP.1 g;unfold kids;refine GJ fun c f=> ?_;have f:=dP.1 f;rw[lZ,beq_iff_eq,beq_iff_eq];show kP a (y c)=u↔y c=pW a u
 unfold pW;cases i:y c with
 |none=>
  simp only[kP];constructor
  ·intro e;rw[if_pos e.symm]
  ·intro e;by_cases h:u=a
   ·exact h.symm
   ·rw[if_neg h] at e;cases e
 |some b=>
  have j:=(r.up c b f i).1;simp only[kP];constructor
  ·intro e;rw[if_neg Om,e]
  ·intro e;by_cases h:u=a
   ·rw[if_pos h] at e;cases e
   ·rw[if_neg h] at e;injection e
def alP(n:Nat)(p:Nat->Option Nat):tx n p 0=List.replicate (n+1) []:=ac8 _ _
def akL(g:List Nat)(p:Nat->Option Nat):oK g p (fun _=>false)=List.replicate g.length []:=by
 unfold oK;refine uz fun i=> ?_;rw[dY,Dv];rcases cA i g.length with h|h
 ·rw[lX h,if_pos h];rfl
 ·rw[fH azd,if_neg Om];rfl
def akv(d:Nat->Nat):je a (fun _=>some 0)=wJ a d []:=by unfold je wJ;refine qE fun b _=> ?_;simp [tM]
def aoW(h:b<(tG a y).length):(tG a y)[b]=tM (y b):=by simp only[tG,DK,J2]
def Ln:Value->Option Nat
 | .slice (some a) _ _=>some a.block
 | .pointer (some a)=>some a.block
 |_=>none
def Ez(u v:Value):Prop:=∀b,Ln u=some b->Ln v≠some b
def nh(n:Nat):List Value:=List.replicate n (.slice none 0 0)
def Lp(a n:Nat)(v:Value)(w:au):Prop:=∃g,v=aG g 0 n n/\ar w g cO (nh n)/\a<=g
def WJ(a:Nat)(v:Value)(w:au):Prop:=∃g,v=aJ g 0/\ar w g gT (nh 4)/\a<=g
def Lq(d n:Nat)(v:Value)(w:au):Prop:=∃a b c,v= .agg #[aG a 0 (n+1) (n+1),aG b 0 n n,aG c 0 n n,.slice none 0 0]/\(ar w a cO (nh (n+1))/\d<=a)/\(ar w b cO (nh n)/\d<=b)/\(ar w c cO (nh n)/\d<=c)/\a≠b/\a≠c/\b≠c
def arR(o:Obj)(h:Lq a b p m):Lq a b p (m.alloc o)/\Ez p q/\Ez q p:=by obtain⟨d,e,c,rfl,⟨t,s⟩,⟨r,l⟩,⟨k,j⟩,i⟩:=h;exact⟨⟨d,e,c,rfl,⟨t.alloc _,s⟩,⟨r.alloc _,l⟩,⟨k.alloc _,j⟩,i⟩,fun e g=>(by have g:none=some e:=g;cases g),fun e _ f=>(by have f:none=some e:=f;cases f)⟩
def Wo(o:Obj)(hv:Ln q=some m.heap.size)(h:Lp a c p m):Lp a c p (m.alloc o)/\Ez p q/\Ez q p:=by exact m90
def arQ(o:Obj)(hv:Ln q=some m.heap.size)(h:WJ a p m):WJ a p (m.alloc o)/\Ez p q/\Ez q p:=by exact m90
def q80.IG(h:ai:=by exact kY _ _ rfl ⟨_,rfl,by rw[aid];exact kq w3 cO nt1,O⟩):=h
def q81.IG(h:ai:=by exact kY _ _ rfl ⟨_,rfl,kq w3 cO (nh g.length),O⟩):=h
def q82.IG(h:ai:=by exact kY _ _ rfl ⟨_,rfl,kq w3 cO (nh g.length),O⟩):=h
def q83.IG(h:ai:=by exact kY _ _ rfl ⟨_,rfl,kq w3 gT (nh 4),O⟩):=h
def q84.EK(h:ai:=by refine qO _ _ cO rfl base jy _ _ _ rfl J.ae _ [av (j:Int)] BZ.ae 1 1 rfl rfl rfl cK Fa ?_;intro v' EY U E LF;obtain⟨JS,c12,rfl,_,_,_⟩:=dZ U;have XX:ah (cU EY base (vs.set (ix) (.slice JS ((l).length+1) c12)) ((tx g.length p j).set (ix) (l++ [j]))):=HFZ.aiS lD hl J XN U E (LF.imp id fun h=>⟨_,h,aK _⟩);have Y:=af (ip Z_ J E yP);have F:=af (ip xz J E yN);have XW:=af (HHZ.grown J E IP);have EL:base<=EY.heap.size:=a8 Fa E.size;clear U E LF;simp only[Act.put,dN,dB,dO];refine hK.ae _ _ (fun _=>nA _ Y F) ?_;clear hK Fa BZ;have aH:=af (nA _ Y F);refine ax 11 53 ?_;have Xx:=F.cell lD;have Xt:=F.frozen (ix);obtain⟨ZL,Xz,NZ,ZO,X⟩:=gp (i:=ix) F (.slice JS ((l).length+1) c12);refine aL 12 ?_;intro K hK;go_simp;refine hK.ae _ _ Oy9 ?_;refine bY Ok ?_;have LK:=af (XX.only X F Od);have XP:=af (Y.only X Md);have XV:=af (XW.only X (.inl Ou));have Xj:base<=ZL.heap.size:=a8 EL X.size;clear hK Xz Xx Xt ZO X EL cK;rw[<-HKJ.ae] at LK;clear hl nU yP yN Md;go_wp2;go_roundw;exact⟨j+1,_,by omega,by go_num,NZ,LK,XV,Xj,XP⟩;simp [RowKit.intOf];omega):=h
def q85.EK(h:ai:=by refine qO _ _ cO rfl Q jy _ _ _ rfl J.ae _ [av (i:Int)] BZ.ae 1 1 rfl rfl rfl cK Fa ?_;intro v' EY U E LF;obtain⟨JS,c12,rfl,_,_,_⟩:=dZ U;have XX:ah (cU EY Q (vs.set (hm) (.slice JS ((l).length+1) c12)) ((gj).set (hm) (l++ [i]))):=HFZ.aiS lD hl J XN U E (LF.imp id fun h=>⟨_,h,aK _⟩);have Y:=af (ip Z_ J E yP);have F:=af (ip xz J E yN);have XW:=af (HHZ.grown J E IP);have EL:Q<=EY.heap.size:=a8 Fa E.size;clear U E LF;simp only[Act.put,dN,dB,dO];refine hK.ae _ _ (fun _=>nA _ Y F) ?_;clear hK Fa BZ;have aH:=af (nA _ Y F);refine ax 11 113 ?_;have Xx:=F.cell lD;have Xt:=F.frozen (hm);obtain⟨ZL,Xz,NZ,ZO,X⟩:=gp (i:=hm) F (.slice JS ((l).length+1) c12);refine aL 12 ?_;intro K hK;go_simp;refine hK.ae _ _ Oy9 ?_;refine bY Ok ?_;have LK:=af (XX.only X F Od);have XP:=af (Y.only X Md);have XV:=af (XW.only X (.inl Ou));have Xj:Q<=ZL.heap.size:=a8 EL X.size;clear hK Xz Xx Xt ZO X EL cK;rw[<-Dj.ae] at LK;clear hl nU yP yN Md;go_wp2;go_roundw;exact⟨i+1,_,by omega,by go_num,NZ,LK,XV,Xj,XP⟩;simp [RowKit.intOf];omega):=h
def q79.Xi(h:ai:=by
 have kg:=af (BX.ext hx);have BP1:=af (BP.ext hx);have vM:=af (BR.ext hx);clear s0 s1 s2 s3 hx hv BX BP BR;go_upto_region 2 with fail
 refine aP fun W2 aY BG=> ?_;have s0:=BG.aD 0;go_upto_region 3 with fail
 refine b9 (S:=fun z=>Ext W2 z) (T:=fun j=>decide (j=9)) Ok ?_;clear s0;have bL:ah (∀z,Ext W2 z->True):=fun _ _=>trivial;have aH:ah (Ext W2 W2.drew):=(aC W2).drew;generalize W2.drew=wd at*;have Jl:ah (IntKind.i64.wrap ((g.length:Int)+1)=(g.length:Int)+1):=by rw[ah,zY];omega
 refine ax 0 23 ?_;refine ax 1 24 ?_;refine ax 3 26 ?_;refine ax 5 28 ?_;rw[Jl.ae];refine cG.RR [⟨2,25,Lp W2.heap.size (g.length+1)⟩,⟨4,27,Lp W2.heap.size g.length⟩,⟨6,29,Lp W2.heap.size g.length⟩,⟨8,7,WJ W2.heap.size⟩,⟨7,30,Lq W2.heap.size g.length⟩] (fun z=>Ext W2 z) Ez [2,4,6,8,7] [25,27,29,7,30] [[],[],[],[],[0,1,2]] #[true,true,true,true,true,true,true,true,true,false] 5 1 rfl rfl rfl Od Ok Ok (fun _ h=>h) aH ?_ ?_
 ·intro k b s us w3 hI ry Ck o ho K hK;have O:W2.heap.size<=w3.heap.size:=hI.size;have HK:=af (fun v o (hv:Ln v=some w3.heap.size) (h0:b.R v (w3.alloc o))=>hK v (w3.alloc o) (hI.alloc o) h0 fun j c hj _ u I=>by
   rcases j with _|_|_|_|_|j;all_goals simp only[dR,eB,aaD,dG,reduceCtorEq] at hj
   all_goals subst hj
   ·exact Wo o hv I
   ·exact Wo o hv I
   ·exact Wo o hv I
   ·exact arQ o hv I
   ·exact arR o I)
  rcases k with _|_|_|_|_|k
  ·simp only[dR,dG] at s;subst s;clear ry Ck;open q80 in exact ID
  ·simp only[dR,eB,dG] at s;subst s;clear ry Ck;open q81 in exact ID
  ·simp only[dR,eB,dG] at s;subst s;clear ry Ck;open q82 in exact ID
  ·simp only[dR,eB,dG] at s;subst s;clear ry Ck;open q83 in exact ID
  ·simp only[dR,eB,dG] at s;subst s;obtain⟨a,ea,a1,a2⟩:=ry 0 Ou _ rfl;obtain⟨b,eb,b1,b2⟩:=ry 1 Ou _ rfl;obtain⟨c',ec,c1,c2⟩:=ry 2 Ou _ rfl;have n1:=Ck 0 Ou 1 Ou Od;have n2:=Ck 0 Ou 2 Ou Od;have n3:=Ck 1 Ou 2 Ou Od;rw[ea,eb] at n1;rw[ea,ec] at n2;rw[eb,ec] at n3;have n1:a≠b:=fun e=>n1 a rfl aAz;have n2:a≠c':=fun e=>n2 a rfl aAz;have n3:b≠c':=fun e=>n3 b rfl aAz;have HK2:=af (fun v (h0:Lq W2.heap.size g.length v w3)=>hK v w3 hI h0 fun j c hj hne u I=>by obtain⟨_,_,_,rfl,_⟩:=h0;refine⟨I,fun b _ he=>(by cases he),fun b s=>(by cases s)⟩)
   have HM:ah (Lq W2.heap.size g.length (.agg #[aG a 0 (g.length+1) (g.length+1),aG b 0 g.length g.length,aG c' 0 g.length g.length,.slice none 0 0]) w3):=⟨a,b,c',rfl,⟨a1,a2⟩,⟨b1,b2⟩,⟨c1,c2⟩,n1,n2,n3⟩;clear ry Ck n1 n2 n3 hK a1 a2 b1 b2 c1 c2;simp only[fU,eB,dR,dG] at ho;subst ho;simp only[fA,ea,eb,ec];go_simp;have kY:=HK2.ae;simp only[fA,ea,eb,ec,Act.put,dN,dB,dO] at kY;exact kY _ HM
  ·simp at s
 ·intro us w3 hx3 hR hD;clear hD;obtain⟨q,e3,hpx,au6⟩:=hR 3 _ rfl;obtain⟨G,kb,s,e4,⟨a1,a2⟩,⟨a3,a4⟩,⟨a5,a6⟩,n1,n2,n3⟩:=hR 4 _ rfl;simp only[fA];rw[e3,e4];generalize us 0=u25;generalize us 1=u27;generalize us 2=u29;clear hR e3 e4 us aig Xm;simp only[Act.put,dN,dB,dO];have xC:=af hpx;have iK:=af a1;have HK3:=af a3;have HH3:=af a5;clear hpx a1 a3 a5;obtain⟨W4,I9,B4,K4,N4⟩:=EH xC (aG G 0 (g.length+1) (g.length+1)) (aG kb 0 g.length g.length) (aG s 0 g.length g.length) (.slice none 0 0);obtain⟨q0,q1,q2,q3⟩:=xC.four;have f0:=xC.frozen 0;have f1:=xC.frozen 1;have f2:=xC.frozen 2;have f3:=xC.frozen 3;refine aL 9 ?_;intro K hK;go_simp;refine hK.ae _ _ Oy9 ?_;refine bY Ok ?_;have xG:ah (Ext W2 W4):=Ext.only hx3 N4 au6;have jk:G≠q/\kb≠q/\s≠q:=by
   have h:=xC.ae;have h1:=iK.ae;have h2:=HK3.ae;have h3:=HH3.ae;unfold ar at h h1 h2 h3;refine⟨fun e=> ?_,fun e=> ?_,fun e=> ?_⟩
   ·rw[e,h] at h1;injection h1 with h1;injection h1 with _ h1;exact absurd h1 Od
   ·rw[e,h] at h2;injection h2 with h2;injection h2 with _ h2;exact absurd h2 Od
   ·rw[e,h] at h3;injection h3 with h3;injection h3 with _ h3;exact absurd h3 Od
  have nE:=af (iK.only N4 jk.1);have HK4:=af (HK3.only N4 jk.2.1);have HH4:=af (HH3.only N4 jk.2.2);clear hK hx3 I9 K4 N4 q0 q1 q2 q3 f0 f1 f2 f3 aid;have oq:=nE;have HG4:=af (BG.ext xG);have dU:ah (Ext w W4):=bW.trans (aY.trans xG);have qz:=af (kg.ext (aY.trans xG));have BP4:=af (BP1.ext (aY.trans xG));have Dp:=af (vM.ext (aY.trans xG));have HL4:ah (fY W4 (.slice A1 g.length g.length) g):=bX rT uk (aY.trans xG);have hw2:w1.heap.size<W2.heap.size/\w.heap.size+1+1<w1.heap.size:=⟨BG.lt,vM.lt⟩;have YC:=bW.size;clear BG;generalize w1.heap.size=gb at*;generalize W2.heap.size=z2 at*;have aih:=B4.lt;have aii:=nE.lt;have ava:=HK4.lt;have avb:=HH4.lt;obtain⟨base,hbase⟩:∃b,W4.heap.size=b:=⟨_,rfl⟩;have LB:base<=W4.heap.size:=G7 hbase.symm;have HF4:ah (cU W4 base (nh (g.length+1)) (tx g.length p 0)):=by rw[alP];exact cU.WW _ _ _
  have XY:ah (a7 [G] W4 W4):= .ij (aC W4);have IP:W4.heap.size<=base:=G7 hbase;have aiK:=(bE d_).1;have awz:=af aiK;have HKS:=af (fun j=>alQ (n:=g.length) (p:=p) (j:=j));have HPR:ah (∀j,j<g.length->∀b,p j=some b->b<g.length):=fun j hj b s=>(HR.up j b hj s).1;have Dh:=af (anL HR);clear aiK;rw[hbase] at aih aii ava avb;clear hbase;have s0:=BP4.aD 0;go_upto_region 5 with fail
  clear s0;go_loopw [8,9,34] (fun _ _ v34 wr=>∃(j:Nat) (vs:List Value),j<=g.length/\v34=av j/\ah (ar wr G cO vs)/\ah (cU wr base vs (tx g.length p j))/\ah (a7 [G] W4 wr)/\base<=wr.heap.size/\ah (ar wr q gT [aG G 0 (g.length+1) (g.length+1),aG kb 0 g.length g.length,aG s 0 g.length g.length,.slice none 0 0])) (fun _ _ v34 _=>g.length - (RowKit.intOf v34).toNat);exact⟨0,_,aT _,rfl,nE,HF4,XY,LB,B4⟩;clear LB B4;obtain⟨j,vs,hj,rfl,HT,HF,C,O,HP⟩:=hrel;by_cases jR:j<g.length
  ·have dX:j<(tG g.length p).length:=by rw[<-awz.ae];exact jR
   have sA:IL wr (.slice B g.length c) (tG g.length p):=(bX cI d_ dU).keep cI fun u I=>by simp only[bG] at I;rw[I];exact C.kept fun i M=>by rw[bG] at M;subst M;exact⟨_,_,oq,by decide⟩
   obtain⟨gi,oi,rfl,_,hc⟩:=io sA dX;rw[aoW] at hc;have Fc:=HPR j jR;have Y8:kP g.length (p j)<=g.length:=by
    cases IU:p j with
    |none=>exact aK _
    |some b=>exact qI (Fc b IU)
   have HKJ:=af (HKS j Y8);have hl:(tx g.length p j)[kP g.length (p j)]?=some ((List.range j).filter fun a=>kP g.length (p a)==kP g.length (p j)):=anK Y8;have nU:((List.range j).filter fun a=>kP g.length (p a)==kP g.length (p j)).length<=12:=(by have:=mK (fun a=>kP g.length (p a)==kP g.length (p j)) (List.range j);rw[gN] at this;omega)
   have HPJ:ah (∀b,p j=some b->b<g.length):=Fc;clear sA dX Fc;generalize((List.range j).filter fun a=>kP g.length (p a)==kP g.length (p j))=l at*;go_upto_if 40 with fail
   go_cut [8,9,34] from 34 to 54 (fun s8 s9 s34 wx=>s8=av j/\s34=av j/\s9=av (kP g.length (p j):Nat)/\wx=wr)
   case first=>
    cases IU:p j with
    |none=>rw[IU] at hc;go_wp2;go_meet;case rel=>exact⟨rfl,rfl,by rw[IU];rfl,rfl⟩
    |some b=>rw[IU] at hc;have hc:ay wr gi (oi+j) (av (b:Nat)):=hc;have d1:decide ((b:Int)<0)=false:=aW;go_wp2;go_meet;case rel=>exact⟨rfl,rfl,by rw[IU];rfl,rfl⟩
   case rest=>
    obtain⟨rfl,rfl,rfl,hw⟩:=hcut;clear hc;obtain rfl:wr=wc:=hw.symm;clear hw;have yP:=aih;have yN:=aii;have Md:q≠G:=fun e=>jk.1 e.symm;generalize kP g.length (p j)=ix at*;have ayd:(ix:Int)<(g.length:Int)+1:=Om;go_upto_region 9 with fail
    have uh:=af HP.drew;have kW:=af HT.drew;have uo:ah (cU wr.drew base vs (tx g.length p j)):=HF.ext (aC wr).drew;have HH2:=af C.drew;have hs2:base<=wr.drew.heap.size:=O;obtain⟨Ar,cr,xr,wS,lC,Z7⟩:=uo.RT hl;have lD:=af wS;have bL:ah (∀z,(ar z q gT [aG G 0 (g.length+1) (g.length+1),aG kb 0 g.length g.length,aG s 0 g.length g.length,.slice none 0 0]/\ar z G cO vs)->(ay z q 0 (aG G 0 (g.length+1) (g.length+1))/\ay z q 1 (aG kb 0 g.length g.length)/\ay z q 2 (aG s 0 g.length g.length)/\ay z q 3 (.slice none 0 0))/\ay z G ix (.slice Ar (l).length cr)):=fun z h=>⟨h.1.four,h.2.cell lD⟩;have aH:ah (ar wr.drew q gT [aG G 0 (g.length+1) (g.length+1),aG kb 0 g.length g.length,aG s 0 g.length g.length,.slice none 0 0]/\ar wr.drew G cO vs):=⟨uh,kW⟩;have nA:ah (∀z,ar z q gT [aG G 0 (g.length+1) (g.length+1),aG kb 0 g.length g.length,aG s 0 g.length g.length,.slice none 0 0]->ar z G cO vs->ar z q gT [aG G 0 (g.length+1) (g.length+1),aG kb 0 g.length g.length,aG s 0 g.length g.length,.slice none 0 0]/\ar z G cO vs):=fun z h1 h2=>⟨h1,h2⟩;clear wS;refine b9 (S:=fun z=>ar z q gT [aG G 0 (g.length+1) (g.length+1),aG kb 0 g.length g.length,aG s 0 g.length g.length,.slice none 0 0]/\ar z G cO vs) (T:=fun j=>decide (12<=j)) Ok ?_;generalize wr.drew=wd at*;refine ax 0 42 ?_;refine ax 1 43 ?_;refine ax 2 44 ?_;refine ax 3 45 ?_;refine ax 4 46 ?_;refine ax 5 47 ?_;refine ax 6 48 ?_;refine ax 7 49 ?_;refine ax 8 50 ?_;refine aL 9 ?_;intro K hK;go_simp;refine hK.ae _ _ (fun _=>nA _ (uh.alloc _) (kW.alloc _)) ?_;refine aP fun WZ L BZ=> ?_;have Z_:=af (uh.ext L);have xz:=af (kW.ext L);have HFZ:ah (cU WZ base vs (tx g.length p j)):=uo.ext L;have HHZ:=af (HH2.ext L);have Fa:base<=WZ.heap.size:=a8 hs2 L.size;have J:=af (jM lC L);have XN:ah (Ch (dr WZ) xr (ints (l))):=Z7.ae;clear hK;have cK:((l).length+1)*8<=140737488355328:=Om;refine iO 10 Ok ?_;open q84 in exact EJ
  ·obtain rfl:j=g.length:=Om;rw[Dh.ae] at HF;have d1:decide (g.length<g.length)=false:=Ou;go_upto_region 12 with fail
   refine fX fun W5 en BD BDX=> ?_;clear au8;go_upto_region 13 with fail
   refine aP fun W6 cY BV=> ?_;have f0:=BV.frozen 0;have s0:=BV.aD 0;obtain⟨W7,jo,B7,K7,N7⟩:=gp (i:=0) BV (EE q (wr.heap.size+1) gb W5.heap.size);have lA:=af jo;unfold EE at lA;clear jo;go_upto_region 14 with fail
   rw[lA.ae];have iY:=BD.lt;have kB:=BDX.lt;have Fs:=N7.size;have Ru:=BV.lt;have HKx:=af (C.kept (u:=mY) fun i M=>by rw[bG] at M;subst M;exact⟨_,_,oq,by decide⟩)
   have air:gb∉ [G]:=aze;have Xr:kb∉ [G]:=by simp only[bG];exact fM n1
   have aio:s∉ [G]:=by simp only[bG];exact fM n2
   have HVN:ah (Jf g p A1 G kb q gb (wr.heap.size+1) W5.heap.size wr.heap.size W7.heap.size vs wr):=by
    refine⟨HL4.keep rT fun u I=> ?_,HG4.bP C air,HT,fun u I=> ?_,⟨_,HK4.bP C Xr⟩,⟨_,HP⟩,n1,by omega,by omega,by omega⟩
    ·simp only[bG] at I;rw[I];exact HKx
    ·have Rg:(oO g.length p)[u]?=some (kids g.length p (pW g.length u)):=(by unfold oO;rw[dY,lX Om];rfl);obtain⟨Au,cu,xu,h1,h2,h3⟩:=HF.RT Rg;exact⟨Au,cu,by rw[kI];exact h1,by rw[kI];exact(AZ (R:=dr) (by rw[kI];exact h2) h3.ae|>fun h=>by rw[kI] at h;exact h.ls)⟩
   have sM:=af (akL g p);have MG:Ext wr W7:=(en.trans cY).only N7.ae Om;have HVS:ah (o_ g p d G kb s q gb (wr.heap.size+1) W5.heap.size wr.heap.size W7.heap.size wr W7 [] (fun _=>false) (.slice none 0 0) (nh g.length)):=by
    refine⟨.ij MG,aK _,HP.ext MG,(BDX.ext cY).only N7.ae Om,B7,?_,(HK4.bP C Xr).ext MG,?_⟩
    ·have h:=(BD.ext cY).only N7.ae Om;rwa[akv d] at h
    ·rw[sM.ae];exact cU.WW W7 W7.heap.size (g.length+1)
   have HHW:ah (ar wr s cO (nh g.length)):=HH4.bP C aio;have Sp:=af (C.kept (u:=aU) fun i M=>by rw[bG] at M;subst M;exact⟨_,_,oq,by decide⟩)
   have HKR:=af (C.kept (u:=tE) fun i M=>by rw[bG] at M;subst M;exact⟨_,_,oq,by decide⟩);have av8:ah (y_ wr (.slice B1 x.aA.length ZH) x.aA):=(bX oF j_ dU).keep oF fun u I=>by
    simp only[aI,bF,or_false] at I;rcases I with rfl|rfl
    ·exact HKR
    ·exact Sp
   have MT:ah (Ext w wr):=⟨C.os.trans dU.os,C.tape.trans dU.tape,C.output.trans dU.output,a8 dU.size C.size,fun i M=>(C.block i (cE M dU.size) aze).trans (dU.block i M)⟩;have BXw:=af (qz.bP C aze);have BRw:=af (Dp.bP C aze);obtain⟨aql,L9⟩:∃v,vs=v:=⟨_,rfl⟩;have HTw:=HT;have HFw:=HF;rw[L9] at HTw HFw;clear L9;have au_:G<wr.heap.size/\kb<wr.heap.size/\s<wr.heap.size/\q<wr.heap.size/\w.heap.size+1+1<wr.heap.size:=(by have:=O;refine⟨by omega,by omega,by omega,by omega,by omega⟩)
   have hrt:=HR.ae;have M9:=af (abB HR);have av7:=af (amR HR);have Jm:ah (∀c∈kids g.length p none,Qw g p d G kb s q gb (wr.heap.size+1) W5.heap.size wr.heap.size W7.heap.size wr c 0):=fun c hc=>by obtain⟨h1,h2⟩:=iC.1 hc;exact aez HG hrt HVN g.length c 0 h1 Om (zZ _) (by rw[adk h2];funext a;rw[GL])
   have Rg:(oO g.length p)[g.length]?=some (kids g.length p none):=by
    unfold oO;rw[dY,lX Om];show some (kids g.length p (pW g.length g.length))=_
    unfold pW;rw[if_pos rfl]
   obtain⟨Ar,cr,xr,hr1,hr2,hr3⟩:=HF.RT Rg;have Nu:ah (IL wr (.slice Ar (kids g.length p none).length cr) (ints (kids g.length p none))):=(by have h:=AZ (R:=dr) (l:=ints (kids g.length p none)) (by rw[kI];exact hr2) hr3;rw[kI] at h;exact h.ls)
   have Mj:(kids g.length p none).length<=12:=(by have:=mK (fun a=>p a==none) (List.range g.length);rw[gN] at this;exact a8 this hle);have HKN:ah ((ints (kids g.length p none)).length=(kids g.length p none).length):=kI _;have c0:=(HT.ext MG).cell hr1;have p0:=HVS.pp.aD 0;clear Rg hr1 hr2 hr3 hrt MG iY kB Fs Ru f0 s0 B7 K7 N7 BV BDX BD air Xr aio;generalize kids g.length p none=Z at*;have MZ:ah (o_ g p d G kb s q gb (wr.heap.size+1) W5.heap.size wr.heap.size W7.heap.size wr W7 ((Z.take 0).flatMap (tv g.length p)) (fun _=>false) (.slice none 0 0) (nh g.length)):=HVS;have NC:ah (∀a,(fun _:Nat=>false) a=((Z.take 0).flatMap (tv g.length p)).contains a):=fun a=>by simp
   have Sr:=af (fun(W:au) (h:a7 [q,kb] wr W) (u:TypeId) (h1:gT≠u) (h2:cO≠u)=>o_.Qd HVN h h1 h2);obtain⟨P,rfl⟩:∃P:World,P=wr:=⟨_,rfl⟩;have ayy:P.heap.size<=P.heap.size+1:=Om;generalize P.heap.size+1=eM at*;generalize W5.heap.size=fQ at*;generalize W7.heap.size=bs2 at*;go_upto_region 15 with fail
   clear c0 p0;go_loopw [13,64] (fun _ v64 wr=>∃(i:Nat) (dk:Nat->Bool) (wv:Value) (oZ:List Value),i<=Z.length/\v64=av i/\ah (∀a,dk a=((Z.take i).flatMap (tv g.length p)).contains a)/\ah (o_ g p d G kb s q gb eM fQ P.heap.size bs2 P wr ((Z.take i).flatMap (tv g.length p)) dk wv oZ)) (fun _ v64 _=>Z.length - (RowKit.intOf v64).toNat);exact⟨0,_,_,_,aT _,rfl,NC,MZ⟩;obtain⟨i,dk,wv,oZ,M,rfl,HD,HS⟩:=hrel;by_cases V:i<Z.length
   ·have L6:=Ky (f:=tv g.length p) V;have pu:=af L6.2;have uj:ah (((Z.take i).flatMap (tv g.length p)).length+(tv g.length p Z[i]).length<=12):=a8 L6.1 (a8 av7 hle);have sA:IL wr (.slice Ar Z.length cr) (ints Z):=Nu.keep cI fun u I=>by simp only[bG] at I;rw[I];exact Sr wr HS.bP _ Od Od
    have ain:i<(ints Z).length:=by rw[HKN.ae];exact V
    obtain⟨g2,o2,rfl,_,hc⟩:=io sA ain;have vo:(ints Z)[i]=((Z[i]:Nat):Int):=azT;rw[vo] at hc;have HQ:=af (Jm _ (aZ V));clear vo sA ain L6;generalize Z[i]=cc at*;have rE:=af (HQ wr _ _ _ _ HS uj);have v0:=HS.vx.aD 0;unfold EE at v0;go_wp2_with fail
    refine rE.mono ?_;rintro e4 w4 ⟨mc,Ya,Xh,MJ,rfl,_,_,Qt,hs2⟩;rw[<-pu.ae] at hs2;have d9:=af hs2;have NB:ah (∀a,MJ a=((Z.take (i+1)).flatMap (tv g.length p)).contains a):=fun a=>by rw[Qt,HD.ae,pu.ae];simp
    clear hs2 Qt v0 hc;go_wp2;go_roundw;exact⟨i+1,MJ,Ya,Xh,by omega,by go_num,NB,d9⟩;simp [RowKit.intOf];omega
   ·obtain rfl:i=Z.length:=Om;rw[f9] at HD HS;have d2:decide (Z.length<Z.length)=false:=Ou;have SG:=af (BXw.bP HS.bP (by simp only[aI,bF,or_false,not_or];omega));obtain⟨s0,s1,s2,s3⟩:=SG.four;have HDM:ah (∀a,a<g.length->dk a=true/\a∈Z.flatMap (tv g.length p)):=fun a ha=>by have h:=(M9.2 a).2 ha;exact⟨by rw[HD.ae];simpa using h,h⟩
    have HKT:ah (oK g p dk=Bf g p):=qE fun a ha=>by rw[if_pos (HDM a (dP.1 ha)).1]
    have HDC:ah (wJ g.length d (Z.flatMap (tv g.length p))=(List.range g.length).map fun a=>av (d a:Nat)):=qE fun a ha=>by rw[if_pos (HDM a (dP.1 ha)).2]
    generalize Z.flatMap (tv g.length p)=wl at*;obtain⟨Q,yU⟩:∃b,wr.heap.size=b:=⟨_,rfl⟩;have ah':Q<=wr.heap.size:=G7 yU.symm;have avd:wr.heap.size<=Q:=G7 yU;have ayo:P.heap.size<=Q:=by rw[<-yU];exact HS.bP.size
    have ayz:P.heap.size<Q/\eM<Q:=by rw[<-yU];exact⟨HS.db.lt,HS.dx.lt⟩
    have Sw:ah (ar wr s cO (nh g.length)):=HHW.bP HS.bP (by simp only[aI,bF,or_false,not_or];exact⟨jk.2.2,fM n3⟩);have HF8:ah (cU wr Q (nh g.length) (nO g.length (fun i=>qU d ((x.aA.getD i ([],[])).2)) 0)):=by rw[ac8];exact cU.WW _ _ _
    have ur:ah (a7 [s] wr wr):= .ij (aC wr);have HP8:=af HS.pp;have zt:ah (y_ wr (.slice B1 x.aA.length ZH) x.aA):=av8.keep oF fun u I=>by
     simp only[aI,bF,or_false] at I;rcases I with rfl|rfl
     ·exact Sr wr HS.bP _ Od Od
     ·exact Sr wr HS.bP _ Od Od
    have ajj:=af HS.dx;have ajn:ah (ar wr P.heap.size aU ((List.range g.length).map fun a=>av (d a:Nat))):=by rw[<-HDC.ae];exact HS.db
    have ayX:=af (show x.aA.length=x.aA.length from rfl);clear yU;go_upto_region 20 with fail
    clear s0 s1 s2 s3;obtain⟨w8,rfl⟩:∃w8:World,w8=wr:=⟨_,rfl⟩;go_loopw [14,16,18,75] (fun _ _ _ v75 wr=>∃(i:Nat) (vs:List Value),i<=x.aA.length/\v75=av i/\ah (ar wr s cO vs)/\ah (cU wr Q vs (nO g.length (fun i=>qU d ((x.aA.getD i ([],[])).2)) i))/\ah (a7 [s] w8 wr)/\Q<=wr.heap.size/\ah (ar wr q gT [aG G 0 (g.length+1) (g.length+1),aG kb 0 g.length g.length,aG s 0 g.length g.length,wv])) (fun _ _ _ v75 _=>x.aA.length - (RowKit.intOf v75).toNat);exact⟨0,_,aT _,rfl,Sw,HF8,ur,ah',HP8⟩;clear ah';obtain⟨i,vs,M,rfl,HT,HF,C,O,HP⟩:=hrel;by_cases sA:i<x.aA.length
    ·have Sn:ah (∀u,cO≠u->Kept u w8 wr):=fun u I=>C.kept fun i M=>by rw[bG] at M;subst M;exact⟨_,_,Sw,I⟩
     have h_:y_ wr (.slice B1 x.aA.length ZH) x.aA:=zt.keep oF fun u I=>by
      simp only[aI,bF,or_false] at I;rcases I with rfl|rfl
      ·exact Sn _ Od
      ·exact Sn _ Od
     obtain⟨g1,o1,Bi,mi,di,rfl,_,dD,eH,V⟩:=qQ h_ sA;have hm:=(bE V).1;subst hm;have Qr:=fZ _ (aZ sA);have Xk:=j9 _ (aZ sA);have Sx:=af (fun h=>ac9 (m:=g.length) (j:=i) (f:=fun i=>qU d ((x.aA.getD i ([],[])).2)) h);have hgg:∀u,u<g.length->(nO g.length (fun i=>qU d ((x.aA.getD i ([],[])).2)) i)[u]?=some ((List.range i).filter fun a=>qU d ((x.aA.getD a ([],[])).2)==u):=fun u I=>KI I;have zD:=af hgg;have lx:x.aA.getD i ([],[])=x.aA[i]:=by rw[fG,aV sA];rfl
     simp only[lx] at Sx;clear hgg lx h_;generalize x.aA[i]=r at*;obtain⟨rn,ra⟩:=r;simp only at dD eH V Qr Xk Sx;obtain⟨H,rfl⟩:∃H,ra=ints H:=⟨Ik ra,by unfold ints Ik;rw[G9];exact(List.map_id' _).symm.trans (qE fun a ha=>by have:=(Qr a ha).1;simp only[Function.comp];omega)⟩;have asK:=(bE V).2;have ZE:0<(ints H).length:=by
      rcases H with _|⟨y,t⟩
      ·exact absurd rfl Xk
      ·rw[kI];simp
     have h0:0<H.length:=by rw[<-kI H];exact ZE
     have zI:ah (∀a∈H,a<g.length):=fun a ha=>by have:=(Qr (a:Int) (by unfold ints;exact dH.2 ⟨a,ha,rfl⟩)).2;omega
     have hat:Ik (ints H)=H:=(by unfold Ik ints;rw[G9];exact List.map_id' _);have Rm:qU d (ints H)=fu d H H[0]:=by
      unfold qU;rw[hat];congr 1;rcases H with _|⟨y,t⟩
      ·simp at h0
      ·rfl
     have aij:=zI _ (aZ h0);have vt:=ab7 (d:=d) zI aij;rw[Rm] at Sx;obtain⟨g3,o3,rfl,_,o7⟩:=io V ZE;have vo:(ints H)[0]=((H[0]:Nat):Int):=azT;rw[vo,jK] at o7;rw[kI] at eH V asK;have HIA:=af V;have ajc:=af (kI H);clear vo hat Rm Qr Xk ZE V;generalize H[0]=a0 at*;have awZ:ah (fu d (H.take 0) a0=a0):=rfl;have axM:wr.heap.size≥Q:=O;go_upto_region 22 with fail
     refine aP fun W9 ed B9=> ?_;obtain⟨b0,b1⟩:=B9.two;have avu:ay W9 g3 o3 (av (a0:Nat)):=(ed.cell (p:=aB g3 o3) (by assumption)).trans o7;have HT9:=af (HT.ext ed);have HF9:ah (cU W9 Q vs (nO g.length (fun i=>qU d ((x.aA.getD i ([],[])).2)) i)):=HF.ext ed;have iJ:=af (C.ext ed);have HP9:=af (HP.ext ed);have hs9:Q<=W9.heap.size:=a8 O ed.size;have HI9:=af (bX cI HIA ed);clear dD eH o7;go_upto_region 24 with fail
     clear b0 b1 avu;obtain⟨wq,rfl⟩:∃wq:World,wq=wr:=⟨_,rfl⟩;have Gk:ah (Ext W9 W9):=aC W9;go_loopw [16,18,87] (fun v16 _ v87 wr=>∃j:Nat,j<=H.length/\v87=av j/\v16=av (fu d (H.take j) a0:Nat)/\ah (Ext W9 wr)) (fun _ _ v87 _=>H.length - (RowKit.intOf v87).toNat)
     exact⟨0,aT _,rfl,by rw[awZ.ae],Gk⟩;obtain⟨j,hj,rfl,rfl,HE⟩:=hrel;by_cases dX:j<H.length
     ·obtain⟨g4,o4,e4,_,hc⟩:=io (bX cI HI9 HE) (i:=j) (by rw[ajc.ae];exact dX);injection e4 with e4;injection e4 with e41 e42;subst e41 e42;have vo:(ints H)[j]'(by rw[ajc.ae];exact dX)=((H[j]:Nat):Int):=azT;rw[vo] at hc;have ha:=zI _ (aZ dX);have om:ah (fu d (H.take (j+1)) a0=if d H[j]>d (fu d (H.take j) a0) then H[j] else fu d (H.take j) a0):=by rw[ah,g9 dX];exact aa8
      have tW:fu d (H.take j) a0<g.length:=ab7 (fun a ha=>zI a (sR ha)) aij;clear vo;generalize H[j]=aj at*;generalize fu d (H.take j) a0=mj at*;have Zf:P.heap.size∉ [s]/\eM∉ [s]:=(by have h1:=Sw.ae;have h2:=ajj.ae;have h3:=ajn.ae;unfold ar at h1 h2 h3;simp only[bG];refine⟨fun e=> ?_,by omega⟩;rw[e,h1] at h3;injection h3 with h3;injection h3 with _ h3;exact absurd h3 Od)
      have awH:=af ((ajj.bP iJ Zf.2).ext HE.ae);have ajm:=af ((ajn.bP iJ Zf.1).ext HE.ae);have lS:((List.range g.length).map fun a=>(Value.int .i64 (d a:Nat)))[aj]?=some (av (d aj:Nat)):=by rw[dY,lX ha];rfl
      have hk2:((List.range g.length).map fun a=>(Value.int .i64 (d a:Nat)))[mj]?=some (av (d mj:Nat)):=by rw[dY,lX tW];rfl
      have bL:ah (∀z:World,(ay z eM 0 (aG P.heap.size 0 g.length g.length)/\ay z P.heap.size aj (av (d aj:Nat))/\ay z P.heap.size mj (av (d mj:Nat)))->ay z eM 0 (aG P.heap.size 0 g.length g.length)/\ay z P.heap.size aj (av (d aj:Nat))/\ay z P.heap.size mj (av (d mj:Nat))):=fun _ h=>h;have aH:ah (ay wr.drew eM 0 (aG P.heap.size 0 g.length g.length)/\ay wr.drew P.heap.size aj (av (d aj:Nat))/\ay wr.drew P.heap.size mj (av (d mj:Nat))):=⟨awH.drew.cell rfl,ajm.drew.cell lS,ajm.drew.cell hk2⟩;have zE:=af HE.drew;clear lS hk2 Zf;go_upto_region 26 with fail
      clear hc;refine b9 (S:=fun z=>ay z eM 0 (aG P.heap.size 0 g.length g.length)/\ay z P.heap.size aj (av (d aj:Nat))/\ay z P.heap.size mj (av (d mj:Nat))) (T:=fun _=>false) Ok ?_;generalize wr.drew=wd at*;by_cases I2:d aj>d mj
      ·rw[if_pos I2] at om;have dgt:decide ((d aj:Int)>(d mj:Int))=true:=fF;exact m87
      ·rw[if_neg I2] at om;have dgt:decide ((d aj:Int)>(d mj:Int))=false:=aW;exact m87
     ·obtain rfl:j=H.length:=Om;rw[f9];have d3:decide (H.length<H.length)=false:=Ou;have Dj:=af (Sx vt);have hl:=zD _ vt;have nU:((List.range i).filter fun a=>qU d ((x.aA.getD a ([],[])).2)==fu d H a0).length<=12:=(by have:=mK (fun a=>qU d ((x.aA.getD a ([],[])).2)==fu d H a0) (List.range i);rw[gN] at this;omega)
      have HT:=af (HT9.ext HE);have HF:ah (cU wr Q vs (nO g.length (fun i=>qU d ((x.aA.getD i ([],[])).2)) i)):=HF9.ext HE;have C:=af (iJ.ext HE);have HP:=af (HP9.ext HE);have O:Q<=wr.heap.size:=a8 hs9 HE.size;clear hs9;generalize((List.range i).filter fun a=>qU d ((x.aA.getD a ([],[])).2)==fu d H a0)=l at*;generalize fu d H a0=hm at*;have IP:=avd;have yP:q<Q:=Om;have yN:s<Q:=Om;have Md:q≠s:=fun e=>jk.2.2 e.symm;generalize(nO g.length (fun i=>qU d ((x.aA.getD i ([],[])).2)) i)=gj at*;go_upto_region 29 with fail
      have uh:=af HP.drew;have kW:=af HT.drew;have uo:ah (cU wr.drew Q vs (gj)):=HF.ext (aC wr).drew;have HH2:=af C.drew;have hs2:Q<=wr.drew.heap.size:=O;obtain⟨Ar,cr,xr,wS,lC,Z7⟩:=uo.RT hl;have lD:=af wS;have bL:ah (∀z,(ar z q gT [aG G 0 (g.length+1) (g.length+1),aG kb 0 g.length g.length,aG s 0 g.length g.length,wv]/\ar z s cO vs)->(ay z q 0 (aG G 0 (g.length+1) (g.length+1))/\ay z q 1 (aG kb 0 g.length g.length)/\ay z q 2 (aG s 0 g.length g.length)/\ay z q 3 (wv))/\ay z s hm (.slice Ar (l).length cr)):=fun z h=>⟨h.1.four,h.2.cell lD⟩;have aH:ah (ar wr.drew q gT [aG G 0 (g.length+1) (g.length+1),aG kb 0 g.length g.length,aG s 0 g.length g.length,wv]/\ar wr.drew s cO vs):=⟨uh,kW⟩;have nA:ah (∀z,ar z q gT [aG G 0 (g.length+1) (g.length+1),aG kb 0 g.length g.length,aG s 0 g.length g.length,wv]->ar z s cO vs->ar z q gT [aG G 0 (g.length+1) (g.length+1),aG kb 0 g.length g.length,aG s 0 g.length g.length,wv]/\ar z s cO vs):=fun z h1 h2=>⟨h1,h2⟩;clear wS;refine b9 (S:=fun z=>ar z q gT [aG G 0 (g.length+1) (g.length+1),aG kb 0 g.length g.length,aG s 0 g.length g.length,wv]/\ar z s cO vs) (T:=fun j=>decide (12<=j)) Ok ?_;generalize wr.drew=wd at*;refine ax 0 102 ?_;refine ax 1 103 ?_;refine ax 2 104 ?_;refine ax 3 105 ?_;refine ax 4 106 ?_;refine ax 5 107 ?_;refine ax 6 108 ?_;refine ax 7 109 ?_;refine ax 8 110 ?_;refine aL 9 ?_;intro K hK;go_simp;refine hK.ae _ _ (fun _=>nA _ (uh.alloc _) (kW.alloc _)) ?_;refine aP fun WZ L BZ=> ?_;have Z_:=af (uh.ext L);have xz:=af (kW.ext L);have HFZ:ah (cU WZ Q vs (gj)):=uo.ext L;have HHZ:=af (HH2.ext L);have Fa:Q<=WZ.heap.size:=a8 hs2 L.size;have J:=af (jM lC L);have XN:ah (Ch (dr WZ) xr (ints (l))):=Z7.ae;clear hK;have cK:((l).length+1)*8<=140737488355328:=Om;refine iO 10 Ok ?_;open q85 in exact EJ
    ·obtain rfl:i=x.aA.length:=Om;have d3:decide (x.aA.length<x.aA.length)=false:=Ou;have Co:=HS.ae;have py:=af ((BRw.bP Co.bP (by simp only[aI,bF,or_false,not_or];omega)).bP C aze);obtain⟨p0,p1,p2,p3⟩:=HP.four;obtain⟨r0,r1,r2,r3⟩:=py.four;have f0:=py.frozen 0;have f1:=py.frozen 1;have f2:=py.frozen 2;have f3:=py.frozen 3;obtain⟨A',c',xs',rfl,_,_,ve,hw2⟩:=(Co.MI.own 0 _ _ rfl rfl).parts;obtain⟨ZM,aiI,B10,ZP,MQ⟩:=EH py (aG G 0 (g.length+1) (g.length+1)) (aG kb 0 g.length g.length) (aG s 0 g.length g.length) (.slice A' (ints wl).length c');have avO:=af aiI;have Sn:ah (∀u,cO≠u->Kept u w8 wr):=fun u I=>C.kept fun i M=>by rw[bG] at M;subst M;exact⟨_,_,Sw,I⟩
     have HPV:ah (Il ZM (.agg #[aG G 0 (g.length+1) (g.length+1),aG kb 0 g.length g.length,aG s 0 g.length g.length,.slice A' (ints wl).length c']) g.length (oO g.length p) (Bf g p) (Ey g.length d x.aA) wl):=by
      have Y5:=(Sn aU Od).trans (ZP aU Od);have aik:w.heap.size+1+1<P.heap.size:=au_.2.2.2.2;refine⟨G,kb,s,A',c',by rw[kI],?_,?_,?_,?_⟩
      ·refine cU.Yv (base:=base) (vs:=aql) (HFw.kept ((Sr w8 Co.bP _ Od Od).trans Y5)) ?_ (by unfold oO;simp) Om;exact((HTw.bP Co.bP (by simp only[aI,bF,or_false,not_or];exact⟨jk.1,n1⟩)).bP C (by simp only[bG];exact n2)).only MQ.ae Om
      ·rw[<-HKT.ae];refine cU.Yv (base:=bs2) (vs:=oZ) (Co.MI.tail.kept Y5) ?_ (by unfold oK;simp) Om;exact(Co.kb.bP C (by simp only[bG];exact n3)).only MQ.ae Om
      ·refine cU.Yv (base:=Q) (vs:=vs) (HF.kept (ZP aU Od)) ?_ (Pr _ _ _) Om;exact HT.only MQ Om
      ·have h:=(AZ (R:=dr) ve hw2).ls;have h2:IL ZM (.slice A' (ints wl).length c') (ints wl):=h.keep cI fun u I=>by simp only[bG] at I;rw[I];exact Y5
       rwa[kI] at h2
     have HXF:ah (Ext w ZM):=((MT.bP Co.bP (fun i M=>by
      simp only[aI,bF,or_false] at M;omega)).bP C (fun i M=>by
      rw[bG] at M;omega)).only MQ.ae Om
     clear Co ve hw2 aiI ZP MQ;go_wp2_with fail;rw[avO.ae];exact bodyPost_ret (results_cell_row rfl _ _ (w.heap.size+1+1) gT #[aG G 0 (g.length+1) (g.length+1),aG kb 0 g.length g.length,aG s 0 g.length g.length,.slice A' (ints wl).length c'] (0,0) _ rfl B10.ae underlying271 rfl Ok) rfl ⟨_,_,rfl,HPV,HXF⟩):=h
def ao7(v:Value)(x:aQ)(B:aS)(c:Nat)(p:Nat->Option Nat)(d:Nat->Nat)(w:au)(h:dK w v x)(ok:cF x)(hr:dp x.aq.length p d)(hp:IL w (.slice B x.aq.length c) (tG x.aq.length p)):
 Calls prog 256 #[v,.agg #[.slice B x.aq.length c]] w fun e z=>∃u wl,e= .returned u/\Il z u x.aq.length (oO x.aq.length p) (Bf (ik x.aq.length x.aA) p) (Ey x.aq.length d x.aA) wl/\Ext w z:=by
 have CN:=af (fun W (hx:Ext w W)=>Vm v x W (h.ext hx) ok);have hgr:=AJ ok.ri;have hg:=hgr.ok ok.a12;have I3:=hgr.len;generalize ik x.aq.length x.aA=g at*;obtain⟨A,c1,B1,ZH,D,e,rfl,ha,h_,hf⟩:=h;have fZ:=af ok.ri;have j9:=af ok.rn;have Q5:=ok.r6;obtain⟨N,hN⟩:∃N,x.aq.length=N:=⟨_,rfl⟩;rw[hN] at CN I3 hr hp fZ⊢;subst I3;have hle:=hg.le;have HG:=af hg;have HR:=af hr;have d_:=af hp;have j_:=af h_;have yC:=(bE hp).2;have aig:∀w,(Instr.makeSlice We (av ((g.length:Int)+1)) (av ((g.length:Int)+1))).run prog w= .ok (aG w.heap.size 0 (g.length+1) (g.length+1)) (w.alloc (.cells (nh (g.length+1)).toArray cO)):=abV (g.length+1) Om;have HNT:=af (show nh (g.length+1)=nh (g.length+1) from rfl);generalize aid:nh (g.length+1)=nt1 at aig;have Xm:=abV g.length Om;have au8:=O9 g.length Om;clear hg hp hgr ha h_ hf ok hN hr;go_enter func256,ntmps256;go_upto_region 1 with fail
 refine sf fun W HX BX BP BR=> ?_;open q79 in exact WX
abbrev aF:=List UInt8
abbrev rW:TypeId:=39
abbrev dJ:TypeId:=41
abbrev eG:TypeId:=38
abbrev LR:TypeId:=34
abbrev Rw:=List aF×Int
abbrev TL:=Ls bI jq
def eh(w:au)(c:List Value)(x:Rw):Prop:=∃A d,c= [.slice A x.1.length d,av x.2]/\TL w (.slice A x.1.length d) x.1
def eh.jN:j7 [bI] eh:=fun _ _ _ _ a ⟨A,d,e,h⟩=>⟨A,d,e,fN jY h a⟩
def fL:=@eh.jN
def eh.two(w:au)(c:List Value)(x:Rw)(h:eh w c x):c.length=2:=azV
abbrev ny:=Ls dJ eh
def lz:=oV dJ eh
def lz.jN:j7 [dJ,bI] lz:=oV.jN fL
def mU:=@lz.jN
abbrev fS:=Ls eG lz
def TL.ext{w':au}{l:List aF}(h:TL m p l)(a:Ext m w'):TL w' p l:=bX jY h a
def cQ:=@TL.ext
def ny.ext{w':au}{l:List Rw}(h:ny m p l)(a:Ext m w'):ny w' p l:=bX fL h a
def yg:=@ny.ext
def fS.ext{w':au}{l:List (List Rw)}(h:fS m p l)(a:Ext m w'):fS w' p l:=bX mU h a
def Ie:=@fS.ext
def TL.get{n:Nat}{l:List aF}(h:TL m (.slice E n a) l){i:Nat}(f:i<l.length):
 ∃g o,E=cT g o/\g<m.heap.size/\ay m g (o+i) (aO l[i]):=by
 obtain⟨g,o,d,p,k,j,e⟩:=qR jq.one Od h f;rw[show d=_ from j] at e;have b:=e 0 _ rfl;rw[l8,jK] at b;exact⟨g,o,p,k,b⟩
def tq:=@TL.get
def ny.get{n:Nat}{l:List Rw}(h:ny m (.slice E n a) l){i:Nat}(e:i<l.length):
 ∃g o B d,E=cT g o/\g<m.heap.size/\ay m g (o+i*2) (.slice B l[i].1.length d)/\ay m g (o+i*2+1) (av l[i].2)/\ah (TL m (.slice B l[i].1.length d) l[i].1):=by
 obtain⟨g,o,d,k,j,⟨B,p,rfl,f⟩,b⟩:=qR eh.two Od h e;exact⟨g,o,B,p,k,j,b 0 _ rfl,b 1 _ rfl,f⟩
def yf:=@ny.get
def fS.get{n:Nat}{l:List (List Rw)}(h:fS m (.slice E n a) l){i:Nat}(e:i<l.length):
 ∃g o d b,E=cT g o/\g<m.heap.size/\ah (ny m (.slice d l[i].length b) l[i])/\ay m g (o+i) (.slice d l[i].length b):=Ei h e
def xT:ko prog eG dJ 2 32:= .mk' (z:= .agg #[.slice none 0 0,av 0]) Ok Ok rfl Od Od
def OW:ko prog LR eG 1 24:= .mk' (z:= .slice none 0 0) Ok Ok rfl Od Od
def UK(F E:aS)(A D z C:Nat)(a b:List aF)(w:au)(k:TL w (.slice F A D) a)(B:TL w (.slice E z C) b):
 Calls prog 86 #[.slice F A D,.slice E z C] w fun e G=>e= .returned (.bool (eA a b))/\∃n,G=w.drewN n:=by
 obtain⟨O,M,I⟩:=bE k;obtain⟨N,L,H⟩:=bE B;subst O N;have Q:=af k;have P:=af B;go_enter func86,ntmps86;go_wp2;go_loopw [5] (fun v wr=>∃i:Nat,i<=a.length/\i<=b.length/\v=av i/\ah (a.take i=b.take i)/\∃q,wr=w.drewN q) (fun v _=>a.length - (RowKit.intOf v).toNat)
 exact⟨0,aT _,aT _,rfl,rfl,0,rfl⟩;obtain⟨i,K,J,rfl,l,q,rfl⟩:=hrel;by_cases r:i<a.length
 ·by_cases j:i<b.length
  ·obtain⟨g,o,rfl,_,p⟩:=tq Q r;obtain⟨S,R,rfl,_,m⟩:=tq P j;have u:=af (fun h=>afk r j l h);have s:ah ((a[i]==b[i])=true->a.take (i+1)=b.take (i+1)):=fun h=>by rw[pE,pE,l.ae,aV r,aV j,beq_iff_eq.1 h]
   generalize a[i]=x at*;generalize b[i]=y at*;by_cases f:(x==y)=true
   ·have t:=af (s f);go_wp2;go_quiet (fail);go_wp2;go_roundw;exact⟨i+1,by omega,by omega,by go_num,t,_,rfl⟩;simp [RowKit.intOf];omega
   ·have d:(x==y)=false:=azG;have c:=af (u d);go_wp2;go_quiet (fail);go_wp2;go_quiet (fail);go_wp2;go_ret;exact⟨by rw[c.ae];rfl,WG _ _ _ _⟩
  ·obtain rfl:i=b.length:=Om;have c:=af (Vp l);have d1:decide (b.length<b.length)=false:=Ou;have d2:decide (a.length<b.length)=false:=aW;go_wp2;go_ret;exact⟨by rw[c.ae];rfl,_,rfl⟩
 ·obtain rfl:i=a.length:=Om;by_cases j:a.length<b.length
  ·have c:=af (adW j l);go_wp2;go_ret;exact⟨by rw[c.ae];rfl,_,rfl⟩
  ·have c:ah (eA a b=false):=(by have k:=l.ae;have e:a.length=b.length:=Om;rw[e] at k;exact Vp k);go_wp2;go_ret;exact⟨by rw[c.ae];rfl,_,rfl⟩
def ab'(A:aS)(n c:Nat)(a:List Value)(w:au)(x:A=none->c=0)(o:Sl w bI A a)(s:a.length=n*1)(r:n<=c)(y:∀u∈a,u.oneCell'=true)(D:n<=1000000):
 Calls prog 140 #[.slice A n c] w fun e b=>∃d,e= .returned d/\b.ownsRow w.heap.size bI 1 d n a/\Ext w b:=by
 have B:=af o;have C:=af y;have l:=af s;rcases A with _|j
 ·have v:=x rfl;subst v;obtain rfl:n=0:=Om;have m:a= []:=lH (by rw[l.ae]);subst m;have p:=fun w=>Td w rW bI none 0 0 0 0 str_slice.ht;go_enter func140,ntmps140;go_wp2;go_ret;exact⟨_,rfl,lJ _ _ _ _,aC w⟩
 ·have k:=af (acO w bI 1);have g:=af (B.ext ((aC w).alloc (.cells #[] bI)));have f:(0+n)*16<=140737488355328:=Om;have p:=fun w=>Td w rW bI (some j) n c 0 0 str_slice.ht;go_enter func140,ntmps140;go_wp2_with (at_builtin;refine AC rfl _ _ rW rfl w.heap.size str_slice _ _ _ rfl k.ae (some j) n c a rfl Oy9 l g C f Ou ?_)
  intro d b q t _;have z:ah (Ext w b):=jV ((aC w).alloc _) k t (aK _);have i:ah (b.ownsRow w.heap.size bI 1 d n a):=by rw[ah];simpa using q
  go_wp2;go_ret;exact⟨_,rfl,i,z⟩
def ab_(A:aS)(n c:Nat)(l:List aF)(w:au)(h:TL w (.slice A n c) l)(t:l.length<=1000):
 Calls prog 140 #[.slice A n c] w fun e f=>∃d b,e= .returned (.slice d n b)/\TL f (.slice d n b) l/\Ext w f:=by
 obtain⟨rfl,j,q,m,o,a⟩:=adX h;have g:=Ch.length (k:=1) (fun c x h=>by rw[show c=_ from h];rfl) a;refine(ab' A _ c m w q o g j (Ch.all (fun c x j u i=>by rw[show c=_ from j] at i;simp only[aI,bF,or_false] at i;rw[i];rfl) a) Om).mono ?_
 rintro e f ⟨s,rfl,p,g⟩;obtain⟨d,b,rfl,r⟩:=arM (R:=jq) p rfl a;exact⟨d,b,rfl,r,g⟩
def P_(b:List Rl)(a:Int):Nat:=(b.flatMap fun r=>r.2).count a
def Qc(a:List Rl)(c:List Int)(b:List aF):Bool:=(c.zip b).all fun q=>(q.2 != [])||P_ a q.1==1
def iR(a:List Rl)(b:List Int)(l:List Rw):List Rw:=l.filter fun y=>Qc a b y.1
def rV(n:Nat)(L:List Int):List Value:=(List.range n).map fun a:Nat=>av (L.count (a:Int):Nat)
def Ke(h:b<a):(rV a L)[b]?=some (av (L.count (b:Int):Nat)):=by unfold rV;rw[dY,lX h];rfl
def ak2(h:b<a):(rV a L).set b (av ((L.count (b:Int):Nat)+1))=rV a (L++ [(b:Int)]):=by
 have d:∀L,(rV a L).length=a:=fun L=>by unfold rV;simp
 refine uz fun i=> ?_;rw[qF,d];by_cases e:b=i
 ·subst e;rw[if_pos rfl,if_pos h,Ke h];simp [aaE]
 ·rw[if_neg e];rcases cA i a with c|c
  ·rw[Ke c,Ke c,aaE];have:List.count (i:Int) [(b:Int)]=0:=List.count_eq_zero.2 aze;rw[this,jK]
  ·rw[fH (by rw[d];exact c),fH (by rw[d];exact c)]
def akk(n:Nat):je n (fun _=>some 0)=rV n []:=by unfold je rV;refine qE fun a _=> ?_;simp [tM]
def V4{α β:Type}{f:α->List β}{m:Nat}:∀{l:List α},(∀x∈l,(f x).length<=m)->(l.flatMap f).length<=l.length*m
 | [],_=>by simp
 |x::l,h=>by have c:=V4 (l:=l) fun y a=>h y ay5;have b:=h x Ou;rw[vP,bC,cW,rM];omega
def aoh{α β:Type}{l:List α}{m:List β}(c:a<l.length)(b:a<m.length):(l.zip m).take (a+1)=(l.zip m).take a++ [(l[a],m[a])]:=by rw[g9 Oc,List.getElem_zip]
def q86.EK(h:ai:=by
 refine qO _ _ eG rfl wb xT _ _ _ rfl lC.ae _ [.slice A8 ra.length c8,av yw] BZ.ae 1 1 rfl rfl rfl cK rp ?_;intro v' EY V s _;obtain⟨JS,c12,rfl,_,_,_⟩:=dZ V;have hTe:(A8,ra.length)=(A8,O.length):=by rw[H]
 have O12:=af (iN (R:=eh) (x:=(O,yw)) fL (fun u hu=>by rw[bG.1 hu];decide) lC xH ⟨A8,c8,by rw[H],by rw[H];exact xz.ae⟩ V s);have aw2:=af (ip BUZ lC s Om);have aw1:=af (ip BXZ lC s Om);have awG:=af (jV HEZ lC s ah3);have EL:wb<=EY.heap.size:=a8 rp s.size;clear V s hTe;simp only[Act.put,dN,dB,dO];refine hK.ae _ _ Oy9 ?_;clear hK BZ;refine aL 9 ?_;intro K hK;go_simp;refine hK.ae _ _ Oy9 ?_;refine bY Ok ?_;clear hK;go_wp2_with fail
 go_roundw;exact⟨k+1,by omega,by go_num,by rw[XL.ae];exact O12,awG,aw2,aw1,EL⟩;simp [RowKit.intOf];omega):=h
def am4(v:Value)(x:aQ)(i:Nat)(A0:aS)(n0 c0:Nat)(l:List Rw)(r:Rl)(w:au)(h:dK w v x)(ok:cF x)(hl:ny w (.slice A0 n0 c0) l)(hr:x.aA[i]?=some r)(ht:∀y∈l,y.1.length=r.2.length)(nU:l.length<=1000):
 Calls prog 73 #[v,av i,.slice A0 n0 c0] w fun e E=>∃u,e= .returned u/\bH dJ 2 eh w.heap.size E u (iR x.aA r.2 l)/\Ext w E:=by
 obtain⟨A,c,B,d,D,e,rfl,ha,h_,hf⟩:=h;obtain⟨-,iY,kB⟩:=bE h_;obtain⟨wX,aie,aiy⟩:=bE hl;subst wX;have HR:=af h_;have HL:=af hl;have HT:=af ht;have fZ:=af ok.ri;have r6:=ok.r6;have a12:=ok.a12;have gV:i<x.aA.length:=(by exact Xb)
 have lx:x.aA[i]=r:=azW;have n_:=af lx;have rE:ah (∀r∈x.aA,r.2.length<=12):=fun r hr=>by
  have P:=Ib (k:=0) (n:=x.aq.length) (ok.ra r hr) (ok.ri r hr);rcases P with P|P
  ·rw[P];simp
  ·omega
 have nx:(x.aA.flatMap fun r=>r.2).length<=72:=a8 (V4 rE) Om;have uf:ah (∀a,P_ x.aA a=(x.aA.flatMap fun r=>r.2).count a):=fun _=>rfl;have lR:=O9 x.aq.length Om;obtain⟨RN,rz⟩:∃RN,x.aA.length=RN:=⟨_,rfl⟩;have j9:=af rz;have Y':i<RN:=Om;rw[rz] at iY HR r6⊢;obtain⟨N,hN⟩:∃N,x.aq.length=N:=⟨_,rfl⟩;rw[hN] at a12 fZ lR⊢;clear rz ha h_ hf ok hN hl ht lx hr;go_enter func73,ntmps73;go_upto_region 1 with fail
 refine aP fun W HX BX=> ?_;obtain⟨s0,s1,s2,s3⟩:=BX.four;go_upto_region 2 with fail
 clear lR;refine aP fun W2 aY z=> ?_;have zE:=af (HX.trans aY);have js:=af (BX.ext aY);have hbg:=BX.lt;clear s0 s1 s2 s3;obtain⟨s0,s1,s2,s3⟩:=js.four;have Gz:ah (ar W2 W.heap.size aU (rV N ((x.aA.take 0).flatMap fun r=>r.2))):=by have h:=z.ae;rw[akk] at h;exact h
 clear z BX;have YC:w.heap.size<=W.heap.size:=Om;generalize W.heap.size=gu at*;go_upto_region 3 with fail
 clear s0 s1 s2 s3;have CY:=af (fun k (hk:k<x.aA.length)=>qQ HR hk);have HY0:ah (Only gu W2 W2):=ii gu W2;go_loopw [11,25] (fun _ v25 wr=>∃k:Nat,k<=RN/\v25=av k/\ah (ar wr gu aU (rV N ((x.aA.take k).flatMap fun r=>r.2)))/\ah (Only gu W2 wr)) (fun _ v25 _=>RN - (RowKit.intOf v25).toNat)
 exact⟨0,aT _,rfl,Gz,HY0⟩;obtain⟨k,hk,rfl,z,HY⟩:=hrel;have HE:=af (zE.only HY YC);by_cases Rh:k<RN
 ·have t:k<x.aA.length:=by rw[j9.ae];exact Rh
  obtain⟨g,o,Bi,mi,di,hB,tZ,U,Q,m⟩:=CY k t;have G:=(HE.cell (p:=aB g (o+k*2)) tZ).trans U;have F:=(HE.cell (p:=aB g (o+k*2+1)) tZ).trans Q;have hm:=(bE m).1;subst hm;have X:=(bE m).2;have I:=af m;have Gf:=af (fZ _ (aZ t));have MD:=rE _ (aZ t);have pu:=af (Ky (f:=fun r:Rl=>r.2) t).2;have Mo:=(Ky (f:=fun r:Rl=>r.2) t).1;clear U Q m;generalize(x.aA.take k).flatMap (fun r=>r.2)=Lk at*;generalize x.aA[k]=rk at*;obtain⟨rn,ra⟩:=rk;simp only at G F I Gf MD pu X Mo;obtain⟨M,hM⟩:∃M,ra.length=M:=⟨_,rfl⟩;have HM:=af hM;rw[hM] at F I MD X;clear hM;subst hB;go_upto_region 5 with fail
  refine aP fun W3 bZ BR=> ?_;have g7:ah (ar W3 gu aU (rV N (Lk++ra.take 0))):=by rw[kH,kG];exact z.ext bZ
  have HY3:=af (HY.trans (ei bZ));obtain⟨b0,b1⟩:=BR.two;clear z G F;go_upto_region 6 with fail
  clear b0 b1 BR;go_loopw [11,32] (fun _ v32 wq=>∃j:Nat,j<=M/\v32=av j/\ah (ar wq gu aU (rV N (Lk++ra.take j)))/\ah (Only gu W2 wq)) (fun _ v32 _=>M - (RowKit.intOf v32).toNat);exact⟨0,aT _,rfl,g7,HY3⟩;obtain⟨j,hj,rfl,z,HY⟩:=hrel;by_cases C:j<M
  ·have dX:j<ra.length:=by rw[HM.ae];exact C
   obtain⟨g2,o2,Jc,_,hc⟩:=io (bX cI I (zE.only HY YC)) dX;obtain⟨q,hq⟩:∃q:Nat,ra[j]=(q:Int):=⟨ra[j].toNat,by have:=(Gf _ (aZ dX)).1;omega⟩;have tU:q<N:=by have:=(Gf _ (aZ dX)).2;omega
   have fp:ah (Lk++ra.take (j+1)=(Lk++ra.take j)++ [(q:Int)]):=by rw[ah,g9 dX,hq,iB]
   rw[hq] at hc;have hu:=z.cell (Ke tU);have hf:=z.frozen q;have Xv:List.count (q:Int) (Lk++ra.take j)<=1000:=by have P:=List.count_le_length (a:=(q:Int)) (l:=Lk++ra.take j);have h2:=List.length_take_le j ra;rw[bC] at P;omega
   have HUS:=af (ak2 (L:=Lk++ra.take j) tU);generalize List.count (q:Int) (Lk++ra.take j)=cn at*;obtain⟨W',jp,B7,K7,N7⟩:=gp (i:=q) z (av ((cn:Int)+1));rw[HUS.ae,<-fp.ae] at B7;have FO:=af jp;have za:=af (HY.trans N7);subst Jc;clear jp K7 N7 z;go_upto_region 9 with fail
   rw[FO.ae];clear hc hu hf;go_wp2;go_roundw;exact⟨j+1,by omega,by go_num,B7,za⟩;simp [RowKit.intOf];omega
  ·have hT:ra.take j=ra:=dA (by have h:=HM.ae;unfold ah at h;omega);rw[hT,<-pu.ae] at z;have d1:decide ((j:Int)<(M:Int))=false:=aW;clear hT;go_wp2;go_roundw;exact⟨k+1,by omega,by go_num,z,HY⟩;simp [RowKit.intOf];omega
 ·have hT:x.aA.take k=x.aA:=dA (by have h:=j9.ae;unfold ah at h;omega);rw[hT] at z;have d1:decide ((k:Int)<(RN:Int))=false:=aW;clear hT;have HYd:ah (Only gu W2 wr):=HY;have rp:w.heap.size<=wr.heap.size:=a8 zE.size HY.size;obtain⟨wb,E8⟩:∃b,wr.heap.size=b:=⟨_,rfl⟩;have ayj:gu<wb:=by rw[<-E8];exact z.lt
  have ah_:wb<=wr.heap.size:=G7 E8.symm;have ah3:w.heap.size<=wb:=Om;clear E8;obtain⟨w3,rfl⟩:∃w3:World,w3=wr:=⟨_,rfl⟩;have BXw:=af (js.only HY Om);have HRi:=af (CY i gV);have Nz:=af HE;obtain⟨gi,oi,Bi,mi,di,hB,mF,nv,tY,m⟩:=HRi.ae;have yR:=(bE m).1;subst yR hB;obtain⟨EN,aiu⟩:=(bE m).2;rw[n_.ae] at nv tY m EN;have I:=af m;have au3:=rE r (by rw[<-n_.ae];exact aZ gV);have Nu:=af (fun a (ha:a∈r.2)=>fZ r (by rw[<-n_.ae];exact aZ gV) a ha);have kf:=af nv;have fR:=af tY;clear m nv tY;obtain⟨rn,ra⟩:=r;simp only at EN au3 Nu kf fR I HT⊢;go_upto_region 13 with fail
  have F9:ah (bH dJ 2 eh wb w3 (.slice none 0 0) (iR x.aA ra (l.take 0))):=f_;have bh:ah (Ext w3 w3):=aC w3;go_loopw [12,15,16,17,46] (fun v12 _ _ _ v46 wr=>∃k:Nat,k<=l.length/\v46=av k/\ah (bH dJ 2 eh wb wr v12 (iR x.aA ra (l.take k)))/\ah (Ext w wr)/\ah (ar wr gu aU (rV N (x.aA.flatMap fun r=>r.2)))/\ah (ar wr w.heap.size kN [.slice A N c,aG gi oi RN d,.slice D x.bk.length e,av x.label])/\wb<=wr.heap.size) (fun _ _ _ _ v46 _=>l.length - (RowKit.intOf v46).toNat)
  exact⟨0,aT _,rfl,F9,Nz,z,BXw,ah_⟩;clear z ah_;obtain⟨k,hk,rfl,HO,HX,z,BX,hsz⟩:=hrel;by_cases t:k<l.length
  ·obtain⟨gl,ol,Bk,dk,hAk,j8,U,Q,nZ⟩:=yf HL t;have G:=(HX.cell (p:=aB gl (ol+k*2)) j8).trans U;have F:=(HX.cell (p:=aB gl (ol+k*2+1)) j8).trans Q;have H:=HT _ (aZ t);have fp:ah (iR x.aA ra (l.take (k+1))=iR x.aA ra (l.take k)++iR x.aA ra [l[k]]):=by rw[ah,g9 t];exact rI ..
   have hlk:(iR x.aA ra (l.take k)).length<=1000:=a8 (mK _ _) ay8;obtain⟨Xu,Qt⟩:=(bE nZ).2;clear U Q;generalize iR x.aA ra (l.take k)=lo at*;generalize l[k]=y at*;obtain⟨O,yw⟩:=y;simp only at G F nZ H fp Xu;subst hAk;rw[H] at G nZ Xu;go_upto_region 15 with fail
   refine aP fun W6 cY BY=> ?_;have qu:=af (HO.ext fL cY);have J:=af (HX.trans cY);have BU6:=af (z.ext cY);have lF:=af (BX.ext cY);have hby:=BY.lt;have axO:wb<=wr.heap.size:=hsz;have CJ:=af (cQ nZ J);clear z BX hsz G F;generalize ayH:wr.heap.size=Y at*;obtain⟨s0,s1,s2,s3⟩:=lF.four;have q1:=(J.cell (p:=aB gi (oi+i*2)) mF).trans kf.ae;have q2:=(J.cell (p:=aB gi (oi+i*2+1)) mF).trans fR.ae;go_upto_region 17 with fail
   clear s0 s1 s2 s3 q1 q2;obtain⟨p0,p1⟩:=BY.two;go_loopw [15,16,17,57] (fun v15 _ _ v57 wq=>∃(j:Nat) (b:Bool),j<=ra.length/\v57=av j/\v15= .bool b/\wq=W6/\ah (b=((ra.zip O).take j).all fun q=>(q.2 != [])||P_ x.aA q.1==1)) (fun _ _ _ v57 _=>ra.length - (RowKit.intOf v57).toNat);exact⟨0,true,aT _,rfl,rfl,rfl,rfl⟩;obtain⟨j,b,hj,rfl,rfl,QT,SH⟩:=hrel;have QT:=QT.symm;subst QT;by_cases C:j<ra.length
   ·have wZ:j<O.length:=by rw[H];exact C
    obtain⟨g2,o2,Jc,_,hc⟩:=io (bX cI I J) C;obtain⟨g3,o3,MH,_,hv⟩:=tq CJ wZ;obtain⟨q,hq⟩:∃q:Nat,ra[j]=(q:Int):=⟨ra[j].toNat,by have:=(Nu _ (aZ C)).1;omega⟩;have tU:q<N:=by have:=(Nu _ (aZ C)).2;omega
    have hu:=BU6.cell (Ke tU);have Xv:List.count (q:Int) (x.aA.flatMap fun r=>r.2)<=72:=a8 List.count_le_length nx;have HZ:=af (aoh C wZ);rw[hq] at HZ hc;have HUQ:=af (uf q);generalize List.count (q:Int) (x.aA.flatMap fun r=>r.2)=cn at*;generalize O[j]=v at*;subst Jc MH;clear hq;have eE:ah (((ra.zip O).take (j+1)).all (fun q=>(q.2 != [])||P_ x.aA q.1==1)=(b&&((v != [])||cn==1))):=by rw[ah,HZ.ae,List.all_append,<-SH.ae];simp only[List.all_cons,List.all_nil,TD,HUQ.ae]
    go_upto_region 19 with fail
    cases b
    ·go_wp2;go_roundw;exact⟨j+1,false,by omega,by go_num,by first|rfl|trivial,by first|rfl|trivial,by rw[ah,eE.ae];rfl⟩;simp [RowKit.intOf];omega
    ·by_cases hv0:v= []
     ·subst hv0;by_cases P:cn=1
      ·subst P;go_wp2;go_roundw;exact⟨j+1,true,by omega,by go_num,by first|rfl|trivial,by first|rfl|trivial,by rw[ah,eE.ae];rfl⟩;simp [RowKit.intOf];omega
      ·have h2:((cn:Int)==1)=false:=beq_eq_false_iff_ne.2 Om;go_wp2;go_roundw;exact⟨j+1,false,by omega,by go_num,by first|rfl|trivial,by first|rfl|trivial,by rw[ah,eE.ae,show(cn==1)=false from beq_eq_false_iff_ne.2 P];rfl⟩;simp [RowKit.intOf];omega
     ·have hv2:(v== [])=false:=beq_eq_false_iff_ne.2 hv0;go_wp2;go_roundw;exact⟨j+1,true,by omega,by go_num,by first|rfl|trivial,by first|rfl|trivial,by rw[ah,eE.ae,bne,hv2];rfl⟩;simp [RowKit.intOf];omega
   ·have hz:(ra.zip O).take j=ra.zip O:=dA (by simp only[List.length_zip];omega);rw[hz] at SH;have d1:decide ((j:Int)<(ra.length:Int))=false:=aW;clear hz;cases b
    ·have XL:ah (iR x.aA ra (l.take (k+1))=lo):=by rw[ah,fp.ae,iR,rJ,show Qc x.aA ra O=false from SH.symm];simp
     go_wp2;go_roundw;exact⟨k+1,by omega,by go_num,by rw[XL.ae];exact qu,J,BU6,lF,by omega⟩;simp [RowKit.intOf];omega
    ·have XL:ah (iR x.aA ra (l.take (k+1))=lo++ [(O,yw)]):=by rw[ah,fp.ae,iR,rJ,show Qc x.aA ra O=true from SH.symm];simp
     go_upto_region 22 with fail
     have CT:=af (ab_ Bk ra.length dk O);obtain⟨A0,c0',xsO,rfl,Fg,hom,_,_⟩:=qu.parts;obtain⟨S,dw⟩:∃S:World->Prop,S=fun E=>ay E Y 0 (.slice Bk ra.length dk)/\ay E Y 1 (av yw):=⟨_,rfl⟩;have bL:ah (∀E,S E->ay E Y 0 (.slice Bk ra.length dk)/\ay E Y 1 (av yw)):=ay4;have bU:ah (∀E,ar E Y dJ [.slice Bk ra.length dk,av yw]->S E):=by rw[ah,dw];exact fun E P=>⟨P.aD 0,P.aD 1⟩
     clear dw;have nX:ah (Ext W6 W6.drew):=(aC W6).drew;have aH:ah (S W6.drew):=bU _ (BY.ext nX);refine b9 (S:=S) (T:=fun j=>decide (8<=j)) Ok ?_;generalize W6.drew=wd at*;refine ax 0 80 ?_;refine ax 1 81 ?_;refine ax 2 82 ?_;refine ax 4 84 ?_;refine ax 5 85 ?_;refine aL 3 ?_;intro K hK;go_simp;refine(CT wd (cQ CJ nX) Om).mono ?_;rintro e8 w8 ⟨A8,c8,rfl,hT8,gI⟩;have Z:=af (nX.trans gI);have eZ:=af (bU _ (BY.ext Z));have FT:=af hT8;refine hK.ae _ _ (fun _=>eZ.ae) ?_;clear hK gI hT8;have aH:=eZ;refine ax 6 86 ?_;refine aL 7 ?_;intro K hK;go_simp;refine hK.ae _ _ (fun _=>bU _ (BY.ext (Z.alloc _))) ?_;refine aP fun WZ cD BZ=> ?_;have qp:=af (Z.trans cD);have BUZ:=af (BU6.ext qp);have BXZ:=af (lF.ext qp);have HEZ:=af (J.trans qp);have HOZ:=af (qu.ext fL qp);have xz:=af (cQ FT cD);clear hK;obtain⟨_,_,xsO,ee,_,_,lC,xH⟩:=HOZ.parts;injection ee with y5 _ Fz;subst y5 Fz;have cK:(lo.length+1)*32<=140737488355328:=Om;have rp:wb<=WZ.heap.size:=by have:=qp.size;omega
     refine iO 8 Ok ?_;open q86 in exact EJ
  ·have hT:l.take k=l:=dA Om;rw[hT] at HO;have d1:decide ((k:Int)<(l.length:Int))=false:=aW;clear hT;have zu:=af (HO.lower ah3);obtain⟨Ao,co,xo,rfl,_,_,_,_⟩:=HO.parts;go_wp2;exact bodyPost_ret (v:= .slice Ao (iR x.aA ra l).length co) (by simp [results,results73,go_sem]) rfl ⟨_,rfl,zu,HX⟩
def cj(l:List Int):List Nat:=l.map Int.toNat
def uR(n:Nat)(b:Nat->aF):List Value:=(List.range n).map fun a=>aO (b a)
def gf(n:Nat)(b:Nat->Bool):List Value:=(List.range n).map fun a=> .bool (b a)
def O8{cur:Nat->aF}(h:b<a):(uR a cur)[b]?=some (aO (cur b)):=by unfold uR;rw[dY,lX h];rfl
def rP{on:Nat->Bool}(h:b<a):(gf a on)[b]?=some (.bool (on b)):=by unfold gf;rw[dY,lX h];rfl
def acB{f g:Nat->Value}(h:b<a)(j:∀c,c≠b->g c=f c):((List.range a).map f).set b (g b)=(List.range a).map g:=by
 refine uz fun i=> ?_;rw[qF,cy,gN];by_cases e:b=i
 ·subst e;rw[if_pos rfl,if_pos h,dY,lX h];rfl
 ·rw[if_neg e,dY,dY];rcases cA i a with d|d
  ·rw[lX d];show some (f i)=some (g i)
   rw[j i fun h=>e h.symm]
  ·rw[fH (by rw[gN];exact d)];rfl
def alA{d:Nat->aF}{t:aF}(h:b<a):(uR a d).set b (aO t)=uR a (put d b t):=by
 have j:put d b t b=t:=by simp [put]
 have e:=acB (f:=fun c=>Value.string ⟨(d c).toArray⟩) (g:=fun c=>Value.string ⟨(put d b t c).toArray⟩) h fun c i=>by simp [put,i]
 simp only[j] at e;exact e
def OV(h:b<a):(gf a K).set b (.bool R)=gf a (fun c=>if c=b then R else K c):=by
 have d:=acB (f:=fun c=>Value.bool (K c)) (g:=fun c=>Value.bool (if c=b then R else K c)) h fun c e=>by rw[if_neg e]
 simp only[if_pos] at d;exact d
structure y8(oN oS:Nat)(w:au)(xb jb nb sb:Nat)(x:aQ)(cur:Nat->aF)(on:Nat->Bool):Prop where
 xl:xb<w.heap.size
 jl:jb<w.heap.size
 jn:ay w xb 0 (aJ jb 0)
 nw:ay w xb oN (aG nb 0 x.aq.length x.aq.length)
 st:ay w xb oS (aG sb 0 x.aq.length x.aq.length)
 nc:ar w nb bI (uR x.aq.length cur)
 sc:ar w sb gh (gf x.aq.length on)
 jr:∃B d,ay w jb 1 (.slice B x.aA.length d)/\ah (y_ w (.slice B x.aA.length d) x.aA)
def y8.ext{w':au}{x:aQ}{cur:Nat->aF}{on:Nat->Bool}(h:y8 a b m c d e f x cur on)(i:Ext m w'):y8 a b w' c d e f x cur on:=
 ⟨cE h.xl i.size,cE h.jl i.size,(i.cell h.xl).trans h.jn,(i.cell h.xl).trans h.nw,(i.cell h.xl).trans h.st,h.nc.ext i,h.sc.ext i,by obtain⟨B,g,k,j⟩:=h.jr;exact⟨B,g,(i.cell h.jl).trans k,bX oF j i⟩⟩
def afU(h:ai:=by
 have gV:i<x.aA.length:=(by exact Xb);have lx:x.aA[i]=r:=azW;obtain⟨rn,ra⟩:=r;have lV:=af p6;simp only at hv lV⊢;rw[hv] at hT⊢;obtain⟨Xu,Qt⟩:=(bE hT).2;have HT:=af hT;obtain⟨mD,dX,jR,hnw,hst,Me,hsc,B,d,Fp,HR⟩:=h;have HNC:=af Me;have nA:=af hsc;obtain⟨gi,oi,Bi,mi,di,hB,mF,nv,tY,kC⟩:=qQ HR gV;have yR:=(bE kC).1;obtain⟨-,iY,kB⟩:=bE HR;subst yR hB;obtain⟨EN,aiu⟩:=(bE kC).2;rw[lx] at nv tY kC EN;have d_:=af kC;simp only at nv tY d_ EN;clear lx hr p6 hT Me hsc kC;generalize x.aA.length=RN at*;generalize x.aq.length=N at*;have hL:ah (∀j:Nat,j<=ra.length->True):=fun _ _=>trivial;go_enter Bn,Bl;go_upto_region 1 with fail
 refine aP fun W HX BY=> ?_;obtain⟨q0,q1⟩:=BY.two;have c1:=(HX.cell (p:=aB xb 0) mD).trans jR;have c2:=(HX.cell (p:=aB xb pV) mD).trans hnw;have c3:=(HX.cell (p:=aB xb pU) mD).trans hst;have c4:=(HX.cell (p:=aB jb 1) dX).trans Fp;have c5:=(HX.cell (p:=aB gi (oi+i*2)) mF).trans nv;have c6:=(HX.cell (p:=aB gi (oi+i*2+1)) mF).trans tY;clear jR hnw hst Fp nv tY;go_upto_region 2 with fail
 clear c1 c4 c5 c6;have zJ:ah (ey on cur (cj ra) vs=ey on cur (cj (ra.drop 0)) (vs.drop 0)):=rfl;go_loopw [7,8,22] (fun _ _ v22 wr=>∃j:Nat,j<=ra.length/\v22=av j/\(∃m,wr=W.drewN m)/\ah (ey on cur (cj ra) vs=ey on cur (cj (ra.drop j)) (vs.drop j))) (fun _ _ v22 _=>ra.length - (RowKit.intOf v22).toNat)
 exact⟨0,aT _,rfl,⟨0,rfl⟩,zJ⟩;obtain⟨j,hj,rfl,⟨m,rfl⟩,HA⟩:=hrel;by_cases sw:j<ra.length
 ·have wZ:j<vs.length:=by rw[hv];exact sw
  obtain⟨g2,o2,Jc,_,hc⟩:=io (bX cI d_ HX) sw;obtain⟨g3,o3,MH,hg3,hv3⟩:=tq (n:=ra.length) (bX jY HT HX) wZ;obtain⟨q,hq⟩:∃q:Nat,ra[j]=(q:Int):=⟨ra[j].toNat,by have:=(lV _ (aZ sw)).1;omega⟩;have tU:q<N:=by have:=(lV _ (aZ sw)).2;omega
  have HAS:ah (ey on cur (cj (ra.drop j)) (vs.drop j)=((!(on q)||cur q==vs[j])&&ey on cur (cj (ra.drop (j+1))) (vs.drop (j+1)))):=(by rw[ah,i6 sw,i6 wZ,hq];rfl);rw[hq] at hc;have hs:=(nA.ext HX).cell (rP (on:=on) tU);have hn:=(HNC.ext HX).cell (O8 (cur:=cur) tU);generalize vs[j]=v at*;generalize cur q=u at*;generalize on q=b at*;subst Jc MH;clear hq;cases b
  ·go_upto_region 4 with fail
   exact agQ
  ·by_cases he:u=v
   ·subst he;go_upto_region 4 with fail
    exact agQ
   ·have he2:(u==v)=false:=beq_eq_false_iff_ne.2 he;have HF:ah (ey on cur (cj ra) vs=false):=by rw[ah,HA.ae,HAS.ae,he2];rfl
    go_upto_region 4 with fail
    go_quiet (fail);go_wp2;exact bodyPost_ret (v:= .bool false) azA rfl ⟨by rw[HF.ae],(HX.drewN _).drewN _⟩
 ·have d1:decide ((j:Int)<(ra.length:Int))=false:=aW;have HF:ah (ey on cur (cj ra) vs=true):=by rw[ah,HA.ae,Dw Om];rfl
  go_wp2;exact bodyPost_ret (v:= .bool true) azA rfl ⟨by rw[HF.ae],HX.drewN _⟩):=h
abbrev K0.Bn:= @func247
abbrev K0.Bl:= @ntmps247
abbrev K0.wM:= @results247
abbrev K0.pV:=(13:Nat)
abbrev K0.pU:=(14:Nat)
open K0 in
def VF(xb jb nb sb i:Nat)(x:aQ)(cur:Nat->aF)(on:Nat->Bool)(r:Rl)(Bk:aS)(dk:Nat)(vs:List aF)(wt:Int)(w:au)(h:y8 13 14 w xb jb nb sb x cur on)(hr:x.aA[i]?=some r)(p6:∀a∈r.2,0<=a/\a<(x.aq.length:Int))(hv:vs.length=r.2.length)(hT:TL w (.slice Bk vs.length dk) vs):
 Calls prog 247 #[aJ xb 0,av i,.agg #[.slice Bk vs.length dk,av wt]] w fun e w'=>e= .returned (.bool (ey on cur (cj r.2) vs))/\Ext w w':=afU
abbrev KZ.Bn:= @func286
abbrev KZ.Bl:= @ntmps286
abbrev KZ.wM:= @results286
abbrev KZ.pV:=(19:Nat)
abbrev KZ.pU:=(20:Nat)
open KZ in
def VC(xb jb nb sb i:Nat)(x:aQ)(cur:Nat->aF)(on:Nat->Bool)(r:Rl)(Bk:aS)(dk:Nat)(vs:List aF)(wt:Int)(w:au)(h:y8 19 20 w xb jb nb sb x cur on)(hr:x.aA[i]?=some r)(p6:∀a∈r.2,0<=a/\a<(x.aq.length:Int))(hv:vs.length=r.2.length)(hT:TL w (.slice Bk vs.length dk) vs):
 Calls prog 286 #[aJ xb 0,av i,.agg #[.slice Bk vs.length dk,av wt]] w fun e w'=>e= .returned (.bool (ey on cur (cj r.2) vs))/\Ext w w':=afU
def jO(P:Nat->Bool)(n:Nat):Int:=match (List.range n).find? P with
 |some k=>(k:Int)
 |none=> -1
def al7(e:b<a)(c:K b=true)(f:∀k,k<b->K k=false):(List.range a).find? K=some b:=by rw[aah];exact⟨c,by simpa using e,fun k d=>by rw[f k d];rfl⟩
def ark(c:∀k,k<a->K k=false):(List.range a).find? K=none:=by rw[DF];intro k b;rw[c k azn];simp
def Kv(d:b<a)(c:K b=true)(e:∀k,k<b->K k=false):jO K a=(b:Int):=by unfold jO;rw[al7 d c e]
def Kw(b:∀k,k<a->K k=false):jO K a= -1:=by unfold jO;rw[ark b]
def Ps{P:Nat->Bool}{n:Nat}:decide (jO P n≥0)=(List.range n).any P:=by
 unfold jO;cases h:(List.range n).find? P with
 |some k=>have a:=Du h;have b:=z7 h;rw[qG.2 ⟨k,a,b⟩];exact decide_eq_true (Int.natCast_nonneg k)
 |none=>have a:=DF.1 h;rw[show(List.range n).any P=false from Tl.2 a];rfl
def aed(a:FuncId)(hid:∀d w,(callFunc a d).run prog w= .ok (.enter a d) w)(i f:Value)(b:Nat->Value)(P:Nat->Bool)(I:World->Prop)(A:aS)(n c:Nat)(w:au)(h0:I w)(l:n<=c)(hm:c<=maxLen)
 (hV:∀W k,I W->k<n->∃g o,A=some ⟨g,o,none⟩/\W.cell? ⟨g,o+k,none⟩=some (b k))
 (hF:∀W k,I W->k<n->Calls prog a #[b k,i,f] W fun e w'=>e= .returned (.bool (P k))/\I w'):
 Calls prog 246 #[.slice A n c,.func (.func a) #[] #[i,f]] w fun e w'=>e= .returned (.int .i64 (jO P n))/\I w':=by
 exact m18
def aec(a:FuncId)(hid:∀d w,(callFunc a d).run prog w= .ok (.enter a d) w)(l i f:Value)(b:Nat->Value)(P:Nat->Bool)(I:World->Prop)(A:aS)(n c:Nat)(w:au)(h0:I w)(m:n<=c)(hm:c<=maxLen)
 (hV:∀W k,I W->k<n->∃g o,A=some ⟨g,o,none⟩/\W.cell? ⟨g,o+k,none⟩=some (b k))
 (hF:∀W k,I W->k<n->Calls prog a #[b k,l,i,f] W fun e w'=>e= .returned (.bool (P k))/\I w'):
 Calls prog 246 #[.slice A n c,.func (.func a) #[] #[l,i,f]] w fun e w'=>e= .returned (.int .i64 (jO P n))/\I w':=by
 exact m18
def aee(d:FuncId)(hid:∀i w,(callFunc d i).run prog w= .ok (.enter d i) w)(x:Value)(f:Nat->Value)(P:Nat->Bool)(I:World->Prop)(A:aS)(n c:Nat)(w:au)(B:I w)(K:n<=c)(E:c<=maxLen)
 (y:∀W k,I W->k<n->∃g o,A=some ⟨g,o,none⟩/\W.cell? ⟨g,o+k,none⟩=some (f k))
 (hF:∀W k,I W->k<n->Calls prog d #[f k,x] W fun e p=>e= .returned (.bool (P k))/\I p):
 Calls prog 186 #[.slice A n c,.func (.func d) #[] #[x]] w fun e p=>e= .returned (.int .i64 (jO P n))/\I p:=by
 have G:=af y;have H:=af hF;have D:c<=9223372036854775807:=E;have s:=af B;clear y hF B;go_enter func186,ntmps186;go_upto_region 2 with fail
 have u:ah (∀k,k<0->P k=false):=fun k hk=>by omega
 go_loopw [5,8] (fun _ r wr=>∃j:Nat,j<=n/\r= .int .i64 j/\ah (I wr)/\ah (∀k,k<j->P k=false)) (fun _ r _=>n - (RowKit.intOf r).toNat)
 exact⟨0,aT _,rfl,s,u⟩;obtain⟨j,J,rfl,t,HB⟩:=hrel;by_cases l:j<n
 ·obtain⟨g,o,F,a⟩:=G _ _ t l;try obtain⟨a,q⟩:=a
  have C:=H _ _ t l;subst F;go_wp2_with fail;refine C.mono ?_;rintro e p ⟨rfl,z⟩;have oh:=af z;clear z C a;cases hp:P j with
  |true=>have b:=Kv l hp HB;go_wp2;exact bodyPost_ret (v:= .int .i64 j) (by simp [results,results186,go_sem]) rfl ⟨by rw[b],oh⟩
  |false=>clear hid;exact QM
 ·have d1:decide ((j:Int)<(n:Int))=false:=aW;have m:j=n:=Om;subst m;have b:=Kw HB;go_wp2;exact bodyPost_ret (v:= .int .i64 (-1)) (by simp [results,results186,go_sem]) rfl ⟨by rw[b],t⟩
def apJ(d:FuncId)(hid:∀f w,(callFunc d f).run prog w= .ok (.enter d f) w)(x u:Value)(D C:Nat->Value)(P:Nat->Bool)(I:World->Prop)(A:aS)(n c:Nat)(w:au)(B:I w)(M:n<=c)(G:c<=maxLen)
 (y:∀W k,I W->k<n->∃g o,A=some ⟨g,o,none⟩/\(W.cell? ⟨g,o+k*2,none⟩=some (D k)/\W.cell? ⟨g,o+k*2+1,none⟩=some (C k)))
 (hF:∀W k,I W->k<n->Calls prog d #[.agg #[D k,C k],x,u] W fun e m=>e= .returned (.bool (P k))/\I m):
 Calls prog 317 #[.slice A n c,.func (.func d) #[] #[x,u]] w fun e m=>e= .returned (.int .i64 (jO P n))/\I m:=by
 have J:=af y;have K:=af hF;have F:c<=9223372036854775807:=G;have r:=af B;clear y hF B;go_enter func317,ntmps317;go_upto_region 2 with fail
 have t:ah (∀k,k<0->P k=false):=fun k hk=>by omega
 go_loopw [5,8] (fun _ q wr=>∃j:Nat,j<=n/\q= .int .i64 j/\ah (I wr)/\ah (∀k,k<j->P k=false)) (fun _ q _=>n - (RowKit.intOf q).toNat)
 exact⟨0,aT _,rfl,r,t⟩;obtain⟨j,L,rfl,s,HB⟩:=hrel;by_cases i:j<n
 ·obtain⟨g,o,H,a⟩:=J _ _ s i;try obtain⟨a,p⟩:=a
  have E:=K _ _ s i;subst H;go_wp2_with fail;refine E.mono ?_;rintro e m ⟨rfl,z⟩;have oh:=af z;clear z E a;cases hp:P j with
  |true=>have b:=Kv i hp HB;go_wp2;exact bodyPost_ret (v:= .int .i64 j) (by simp [results,results317,go_sem]) rfl ⟨by rw[b],oh⟩
  |false=>clear hid;exact QM
 ·have d1:decide ((j:Int)<(n:Int))=false:=aW;have l:j=n:=Om;subst l;have b:=Kw HB;go_wp2;exact bodyPost_ret (v:= .int .i64 (-1)) (by simp [results,results317,go_sem]) rfl ⟨by rw[b],s⟩
def ap6(a:FuncId)(hid:∀d w,(callFunc a d).run prog w= .ok (.enter a d) w)(i h:Value)(l j:Nat->Value)(P:Nat->Bool)(I:World->Prop)(A:aS)(n c:Nat)(w:au)(r:I w)(t:n<=c)(s:c<=maxLen)
 (p:∀W k,I W->k<n->∃g o,A=some ⟨g,o,none⟩/\(W.cell? ⟨g,o+k*2,none⟩=some (l k)/\W.cell? ⟨g,o+k*2+1,none⟩=some (j k)))
 (hF:∀W k,I W->k<n->Calls prog a #[.agg #[l k,j k],i,h] W fun e f=>e= .returned (.bool (P k))/\I f):
 Calls prog 281 #[.slice A n c,.func (.func a) #[] #[i,h]] w fun e f=>e= .returned (.bool ((List.range n).any P))/\I f:=by
 have x:=af (apJ a hid i h l j P I A n c w r t s p hF);clear p hF r hid;have m:=Ps (P:=P) (n:=n);generalize(List.range n).any P=b at*;generalize jO P n=z at*;go_enter func281,ntmps281;go_wp2_with fail
 refine x.mono ?_;rintro e f ⟨rfl,q⟩;have u:=af q;clear q;go_wp2;exact bodyPost_ret (v:= .bool b) (by simp [results,results281,go_sem]) rfl ⟨rfl,u⟩
def U3{g:Nat}{t:TypeId}:∀(b:List Value) {w:au} {o:Nat} {l:List Value},ar w g t l->∃a,ar (w.setCells g o b) g t a/\a.length=l.length/\a.take o=l.take o/\Only g w (w.setCells g o b)
 | [],w,o,l,h=>⟨l,h,rfl,rfl,ii g w⟩
 |v::r,w,o,l,h=>by obtain⟨a,i,f,e,d⟩:=U3 r (o:=o+1) (h.bu o v);refine⟨a,i,by rw[f,lY],?_,((ii g w).bu o v).trans d⟩;have c:=congrArg (List.take o) e;rw[Ow,Ow,jJ (l9 o),List.take_set_of_le (aK _)] at c;exact c
def acq{v:Value}(b:a<t.length):(t.set a v).take (a+1)=t.take a++ [v]:=by rw[g9 (by rw[lY];exact b),List.getElem_set_self,List.take_set_of_le (aK _)]
def amH(w:au)(a:TypeId)(b o n c:Nat)(d:0<n)(f:∀j,j<n->(w.cell? ⟨b,o+j,none⟩).isSome=true)(e:∀j,j<n->w.frozen? ⟨b,o+j,none⟩=false):
 (Builtin.clear_ #[rW] a #[.slice (some ⟨b,o,none⟩) n c]).run prog w= .ok (.tuple #[]) (w.setCells b o (List.replicate n (.string ⟨#[]⟩))):=
 Lib.run_clear_slice w rW bI a (.string ⟨#[]⟩) underlying39 (fun w=>by kernel_rfl) rfl rfl b o n c d f e
def q87.k79(h:ai:=by
 have CI:=aec a hid n m f (fun k=>((l.map (fun v:aF=>Value.string ⟨v.toArray⟩))[k]?).getD undef) pr (fun W=>I W/\ar W g bI (l.map (fun v:aF=>Value.string ⟨v.toArray⟩)++rest)) (some ⟨g,0,none⟩) l.length c w ⟨h0,hB⟩ q hm
  (fun W k h hk=>⟨g,0,rfl,by rw[jc,sF W k h.2 hk,dY,aV hk];rfl⟩)
  (fun W k h hk=>by have h1:=hF W l[k] _ h.1 (aZ hk) h.2;rw[dY,aV hk,Ff k hk];exact h1.mono fun e w' p=>⟨p.1,p.2.1,p.2.2⟩)
 exact m2):=h
def apV(a:FuncId)(hid:∀b w,(callFunc a b).run prog w= .ok (.enter a b) w)(n m f:Value)(Q:aF->Bool)(I:World->Prop)(g c:Nat)(l:List aF)(rest:List Value)(w:au)(h0:I w)(hB:ar w g bI (l.map (fun v:aF=>Value.string ⟨v.toArray⟩)++rest))(q:l.length<=c)(hm:c<=maxLen)
 (hC:∀W W',I W->Only g W W'->I W')
 (hF:∀W v ys,I W->v∈l->ar W g bI ys->Calls prog a #[(fun v:aF=>Value.string ⟨v.toArray⟩) v,n,m,f] W fun e w'=>e= .returned (.bool (Q v))/\I w'/\ar w' g bI ys):
 Calls prog 204 #[.slice (some ⟨g,0,none⟩) l.length c,.func (.func a) #[] #[n,m,f]] w fun e w'=>e= .returned (.slice (some ⟨g,0,none⟩) (l.filter fun v=> !Q v).length c)/\I w'/\∃d,ar w' g bI ((l.filter fun v=> !Q v).map (fun v:aF=>Value.string ⟨v.toArray⟩)++d):=by
 open q87 in exact m79
def aeo(d:FuncId)(hid:∀f w,(callFunc d f).run prog w= .ok (.enter d f) w)(i:Value)(a:Nat->Value)(P:Nat->Bool)(I:World->Prop)(A:aS)(n c:Nat)(w:au)(p:I w)(r:n<=c)(q:c<=maxLen)
 (l:∀W k,I W->k<n->∃g o,A=some ⟨g,o,none⟩/\W.cell? ⟨g,o+k,none⟩=some (a k))
 (hF:∀W k,I W->k<n->Calls prog d #[a k,i] W fun e h=>e= .returned (.bool (P k))/\I h):
 Calls prog 131 #[.slice A n c,.func (.func d) #[] #[i]] w fun e h=>e= .returned (.bool ((List.range n).any P))/\I h:=by
 have t:=af (aee d hid i a P I A n c w p r q l hF);clear l hF p hid;have j:=Ps (P:=P) (n:=n);generalize(List.range n).any P=b at*;generalize jO P n=z at*;go_enter func131,ntmps131;go_wp2_with fail
 refine t.mono ?_;rintro e h ⟨rfl,m⟩;have s:=af m;clear m;go_wp2;exact bodyPost_ret (v:= .bool b) (by simp [results,results131,go_sem]) rfl ⟨rfl,s⟩
def q88.k79(h:ai:=by
 have CI:=aed a hid m f (fun k=>((l.map (fun v:aF=>Value.string ⟨v.toArray⟩))[k]?).getD undef) pr (fun W=>I W/\ar W g bI (l.map (fun v:aF=>Value.string ⟨v.toArray⟩)++rest)) (some ⟨g,0,none⟩) l.length c w ⟨h0,hB⟩ p hm
  (fun W k h hk=>⟨g,0,rfl,by rw[jc,sF W k h.2 hk,dY,aV hk];rfl⟩)
  (fun W k h hk=>by have h1:=hF W l[k] _ h.1 (aZ hk) h.2;rw[dY,aV hk,Ff k hk];exact h1.mono fun e w' n=>⟨n.1,n.2.1,n.2.2⟩)
 exact m2):=h
def apX(a:FuncId)(hid:∀b w,(callFunc a b).run prog w= .ok (.enter a b) w)(m f:Value)(Q:aF->Bool)(I:World->Prop)(g c:Nat)(l:List aF)(rest:List Value)(w:au)(h0:I w)(hB:ar w g bI (l.map (fun v:aF=>Value.string ⟨v.toArray⟩)++rest))(p:l.length<=c)(hm:c<=maxLen)
 (hC:∀W W',I W->Only g W W'->I W')
 (hF:∀W v ys,I W->v∈l->ar W g bI ys->Calls prog a #[(fun v:aF=>Value.string ⟨v.toArray⟩) v,m,f] W fun e w'=>e= .returned (.bool (Q v))/\I w'/\ar w' g bI ys):
 Calls prog 204 #[.slice (some ⟨g,0,none⟩) l.length c,.func (.func a) #[] #[m,f]] w fun e w'=>e= .returned (.slice (some ⟨g,0,none⟩) (l.filter fun v=> !Q v).length c)/\I w'/\∃d,ar w' g bI ((l.filter fun v=> !Q v).map (fun v:aF=>Value.string ⟨v.toArray⟩)++d):=by
 open q88 in exact m79
def anR(w:au)(a:TypeId)(b o n c:Nat)(d:0<n)(f:∀j,j<n->(w.cell? ⟨b,o+j,none⟩).isSome=true)(e:∀j,j<n->w.frozen? ⟨b,o+j,none⟩=false):
 (Builtin.clear_ #[cO] a #[.slice (some ⟨b,o,none⟩) n c]).run prog w= .ok (.tuple #[]) (w.setCells b o (List.replicate n (.int .i64 0))):=
 Lib.run_clear_slice w cO aU a (.int .i64 0) underlying22 (fun w=>by kernel_rfl) rfl rfl b o n c d f e
def apY(r:FuncId)(hid:∀A w,(callFunc r A).run prog w= .ok (.enter r A) w)(p1:Value)(Q:Int->Bool)(I:World->Prop)(g c:Nat)(l:List Int)(rest:List Value)(w:au)(h0:I w)(hB:ar w g aU (l.map (fun v:Int=>Value.int .i64 v)++rest))(hc:l.length<=c)(hm:c<=maxLen)
 (hC:∀W W',I W->Only g W W'->I W')
 (hF:∀W v J,I W->v∈l->ar W g aU J->Calls prog r #[(fun v:Int=>Value.int .i64 v) v,p1] W fun e z=>e= .returned (.bool (Q v))/\I z/\ar z g aU J):
 Calls prog 254 #[.slice (some ⟨g,0,none⟩) l.length c,.func (.func r) #[] #[p1]] w fun e z=>e= .returned (.slice (some ⟨g,0,none⟩) (l.filter fun v=> !Q v).length c)/\I z/\∃B,ar z g aU ((l.filter fun v=> !Q v).map (fun v:Int=>Value.int .i64 v)++B):=by
 obtain⟨C,E⟩:∃C:Nat->Bool,C=fun k=>(l[k]?.map Q).getD false:=⟨_,rfl⟩;have p:∀k (a:k<l.length),C k=Q l[k]:=fun k a=>by rw[E];simp only[aV a];rfl
 have U:∀W k,ar W g aU (l.map (fun v:Int=>Value.int .i64 v)++rest)->(a:k<l.length)->W.cell? ⟨g,k,none⟩=some ((fun v:Int=>Value.int .i64 v) l[k]):=fun W k h a=>h.cell (by rw[pC (by rw[cy];exact a),dY,aV a];rfl);have CI:=aee r hid p1 (fun k=>((l.map (fun v:Int=>Value.int .i64 v))[k]?).getD undef) C (fun W=>I W/\ar W g aU (l.map (fun v:Int=>Value.int .i64 v)++rest)) (some ⟨g,0,none⟩) l.length c w ⟨h0,hB⟩ hc hm
  (fun W k h a=>⟨g,0,rfl,by rw[jc,U W k h.2 a,dY,aV a];rfl⟩)
  (fun W k h a=>by have x:=hF W l[k] _ h.1 (aZ a) h.2;rw[dY,aV a,p k a];exact x.mono fun e z hh=>⟨hh.1,hh.2.1,hh.2.2⟩)
 have H:=af CI;have HF:=af hF;have HW:=af hC;have nt:c<=9223372036854775807:=hm;have MC:(l.map (fun v:Int=>Value.int .i64 v)++rest).length=(l.map (fun v:Int=>Value.int .i64 v)++rest).length:=rfl;clear CI hF hC U;generalize D:l.map (fun v:Int=>Value.int .i64 v)++rest=b at*;have G:=af D;have hL0:l.length<=b.length:=by rw[<-D,bC,cy];omega
 clear D MC;rcases d:(List.range l.length).find? C with _|n
 ·have N:jO C l.length= -1:=by unfold jO;rw[d]
  have S:l.filter (fun v=> !Q v)=l:=Og.2 fun v hv=>by obtain⟨k,a,rfl⟩:=ju hv;have x:=DF.1 d k aza;rw[p k a] at x;simpa using x
  rw[N] at H;have Gi:=af S;clear d N E p S;go_enter func254,ntmps254;go_wp2_with fail
  refine H.mono ?_;rintro e z ⟨rfl,Z,f⟩;have s:=af Z;have u:=af f;clear Z f;go_wp2;exact bodyPost_ret (v:= .slice (some ⟨g,0,none⟩) l.length c) (by simp [results,results254,go_sem]) rfl ⟨by rw[Gi.ae],s,rest,by rw[Gi.ae,G.ae];exact u.ae⟩
 ·have P:n<l.length:=by simpa using Du d
  have N:jO C l.length=(n:Int):=by unfold jO;rw[d]
  have O:Q l[n]=true:=by rw[<-p n P];exact z7 d
  have V:∀k (a:k<l.length),k<n->Q l[k]=false:=fun k a q=>by have x:=(aah.1 d).2.2 k q;rw[p k a] at x;simpa using x
  have T:(l.take (n+1)).filter (fun v=> !Q v)=l.take n:=(by rw[g9 P,rI,rJ,O];simp only[G6,Bool.false_eq_true,if_false,J8,kG];refine Og.2 fun v hv=> ?_;obtain⟨k,a,rfl⟩:=ju hv;rw[cP] at a;rw[GI,V k Om Om];rfl);have hne:((n:Int)== -1)=false:=beq_eq_false_iff_ne.2 Om;rw[N] at H;have Ny:=af T;clear d N E p O V T h0 hB;go_enter func254,ntmps254;go_wp2_with fail
  refine H.mono ?_;rintro e z ⟨rfl,Z,f⟩;have s:=af Z;have u:=af f;clear Z f;go_upto_region 5 with fail
  have zJ:ah (b.take n=((l.take (n+1)).filter fun v=> !Q v).map (fun v:Int=>Value.int .i64 v)):=(by rw[ah,Ny.ae,<-G.ae,N1 azw,G5]);have Ns:ah (((l.take (n+1)).filter fun v=> !Q v).length=n):=by rw[ah,Ny.ae,cP];omega
  go_loopw [5,6,7] (fun v5 v6 _ wr=>∃(i j:Nat) (m:List Value),i<j/\j<=l.length/\v5= .int .i64 i/\v6= .int .i64 j/\m.length=b.length/\ah (m.take i=((l.take j).filter fun v=> !Q v).map (fun v:Int=>Value.int .i64 v))/\ah (((l.take j).filter fun v=> !Q v).length=i)/\ah (m.drop j=b.drop j)/\ah (ar wr g aU m)/\ah (I wr)) (fun _ v6 _ _=>l.length - (RowKit.intOf v6).toNat)
  exact⟨n,n+1,b,by omega,by omega,rfl,by go_num,rfl,zJ,Ns,rfl,u,s⟩;obtain⟨i,j,m,Y9,jR,rfl,rfl,L,HA,HL,HD,HB,H⟩:=hrel;by_cases q:j<l.length
  ·have M:m[j]?=some ((fun v:Int=>Value.int .i64 v) l[j]):=by
    have x:(m.drop j)[0]?=(b.drop j)[0]?:=by rw[HD.ae]
    rw[GH,GH] at x;rw[show m[j]?=b[j]? from x,<-G.ae,pC (by rw[cy];exact q),dY,aV q];rfl
   have CF:=af (HF _ _ _ H (aZ q) HB);have Fv:=HB.cell M;have HT:ah (l.take (j+1)=l.take j++ [l[j]]):=g9 q;have Gm:ah (∀J:List Value,J.drop j=b.drop j->J.drop (j+1)=b.drop (j+1)):=fun J h=>by have:=congrArg (List.drop 1) h;rwa[z8,z8] at this
   generalize l[j]=v at*;have hji:(0:Int)<=(j:Int):=Om;clear M;go_wp2_with fail
   refine CF.mono ?_;rintro e w2 ⟨rfl,Y,Cp⟩;have sN:=af Y;have y:=af Cp;clear Y Cp Fv;cases hq:Q v with
   |true=>have t:ah ((l.take (j+1)).filter (fun v=> !Q v)=(l.take j).filter fun v=> !Q v):=azx;go_wp2;go_roundw;exact⟨i,j+1,m,by omega,by omega,rfl,by go_num,L,by rw[t.ae];exact HA,by rw[t.ae];exact HL,Gm.ae _ HD,y,sN⟩;simp [RowKit.intOf];omega
   |false=>
    have t:ah ((l.take (j+1)).filter (fun v=> !Q v)=((l.take j).filter fun v=> !Q v)++ [v]):=azx;have R:i<m.length:=Om;have I5:=y.cell (aV R);have d:=y.frozen i;obtain⟨W',X,B7,K7,N7⟩:=gp (i:=i) y ((fun v:Int=>Value.int .i64 v) v);have zB:=af (HW _ _ sN N7);have FO:=af X;have M4:=af (acq (v:=(fun v:Int=>Value.int .i64 v) v) R);have om:ah ((m.set i ((fun v:Int=>Value.int .i64 v) v)).drop j=m.drop j):=List.drop_set_of_lt Y9;generalize m[i]=old at*;clear X K7 N7;go_upto_region 10 with fail
    rw[FO.ae];go_wp2;go_roundw;exact⟨i+1,j+1,_,by omega,by omega,by go_num,by go_num,by rw[lY];exact L,by rw[ah,M4.ae,HA.ae,t.ae,mL];rfl,by rw[ah,t.ae,bC,HL.ae];rfl,Gm.ae _ (om.trans HD),B7,zB⟩;simp [RowKit.intOf];omega
  ·have yT:j=l.length:=Om;subst yT;have d1:decide ((l.length:Int)<(l.length:Int))=false:=aW;have qy:ah (m.take i=(l.filter fun v=> !Q v).map (fun v:Int=>Value.int .i64 v)):=by have h:=HA.ae;rw[f9] at h;exact h
   have uk:ah ((l.filter fun v=> !Q v).length=i):=by have h:=HL.ae;rw[f9] at h;exact h
   obtain⟨zs',f,auQ,K,F⟩:=U3 (List.replicate (l.length - i) (.int .i64 0:Value)) (o:=i) HB;have gX:∀ty,(Builtin.clear_ #[cO] ty #[.slice (some ⟨g,i,none⟩) (l.length - i) (c - i)]).run prog wr= .ok (.tuple #[]) (wr.setCells g i (List.replicate (l.length - i) (.int .i64 0:Value))):=fun ty=>anR wr ty g i (l.length - i) (c - i) Om (fun k a=>by rw[HB.cell (aV (show i+k<m.length by omega))];rfl) (fun k a=>HB.frozen _);have u:=af f;have C9:=af F;have s:=af (HW _ _ H F);clear f F;go_wp2_with (simp only[gX])
   exact bodyPost_ret (v:= .slice (some ⟨g,0,none⟩) i c) (by simp [results,results254,go_sem]) rfl ⟨by rw[uk.ae],s,zs'.drop i,by rw[<-qy.ae,<-K,sQ];exact u.ae⟩
structure RY(oN oS:Nat)(w:au)(xb jb nb sb:Nat)(x:aQ)(T:List (List Rw))(cur:Nat->aF)(on:Nat->Bool):Prop where
 st:y8 oN oS w xb jb nb sb x cur on
 tb:∃A c,ay w jb 4 (.slice A T.length c)/\ah (fS w (.slice A T.length c) T)
def abG{α:Type}{f:α->Bool}{l:List α}(h:∀k (a:k<l.length),K k=f l[k]):(List.range l.length).any K=l.any f:=by
 rw[lZ,qG,qG];constructor
 ·rintro⟨k,a,b⟩;have a:=dP.1 a;exact⟨_,aZ a,by rw[<-h k a];exact b⟩
 ·rintro⟨y,c,b⟩;obtain⟨k,a,rfl⟩:=ju c;exact⟨k,dP.2 a,by rw[h k a];exact b⟩
def LV(w:au)(A:aS)(k:Nat):Value:=match A with
 |some a=>(w.cell? (aB a.block (a.off+k*2))).getD undef
 |none=>undef
def LU(w:au)(A:aS)(k:Nat):Value:=match A with
 |some a=>(w.cell? (aB a.block (a.off+k*2+1))).getD undef
 |none=>undef
def ny.rc{l:List Rw}(h:ny m (.slice E a b) l)(p:c<l.length):
 ∃g o B d,E=cT g o/\g<m.heap.size/\ay m g (o+c*2) (LV m E c)/\ay m g (o+c*2+1) (LU m E c)/\LV m E c= .slice B l[c].1.length d/\LU m E c=av l[c].2/\TL m (.slice B l[c].1.length d) l[c].1:=by
 obtain⟨g,o,B,d,rfl,q,f,e,r⟩:=yf h p;have j:LV m (cT g o) c= .slice B l[c].1.length d:=by unfold LV;simp only[f];rfl
 have i:LU m (cT g o) c=av l[c].2:=by unfold LU;simp only[e];rfl
 exact⟨g,o,B,d,rfl,q,by rw[j];exact f,by rw[i];exact e,j,i,r⟩
def afd(h:ai:=by
 have CA:=af (fun W (hX:Ext w W)=>LQ xb jb nb sb i x cur on r Bk dk vs wt W (h.ext hX) hr p6 hv (cQ hT hX));have hdk:=bE hT;clear h hr p6 hv hT;go_enter af2,af0;go_upto_region 1 with fail
 refine aP fun W HX BY=> ?_;have NP:=af (CA W HX);obtain⟨q0,q1⟩:=BY.two;have c1:=(HX.cell (p:=aB bx 0) lU).trans hx;have c2:=(HX.cell (p:=aB bi 0) hbi).trans hi;clear hx hi;go_wp2_with fail
 refine NP.mono ?_;rintro e w2 ⟨rfl,MA⟩;have aY:=af (HX.trans MA);clear MA q0 q1 c1 c2 BY;go_wp2;exact bodyPost_ret (v:= .bool (ey on cur (cj r.2) vs)) (by simp [results,afZ,go_sem]) rfl ⟨rfl,aY⟩):=h
def afc(h:ai:=by
 have gV:i<T.length:=by
  rcases cA i T.length with h|h
  ·exact h
  ·rw[fH h] at hl;cases hl
 have hle:T[i]=l:=by rw[aV gV] at hl;injection hl
 have HST:=af h.st;obtain⟨At,ct,tS,HT⟩:=h.tb;have jR:=h.st.jn;have mD:=h.st.xl;have dX:=h.st.jl;obtain⟨gi,oi,A1,c1,hA,mF,RH,nv⟩:=fS.get HT gV;rw[hle] at nv RH;obtain⟨-,ht2,ht3⟩:=bE HT;obtain⟨-,hl2,Y4⟩:=bE RH;subst hA;have uk:=af RH.ae;have HV:=af hv;clear h hle RH hv hl;generalize T.length=TN at*;have kf:=af (fun(bx bi:Nat) (Bk:aS) (dk:Nat) (vs:List aF) (wt:Int) (w:au) (h:y8 pV pU w xb jb nb sb x cur on)=>afY xb jb nb sb i bx bi x cur on r Bk dk vs wt w h hr p6);clear hr p6;go_enter Bn,Bl;go_upto_region 1 with fail
 refine fX fun W HX B2 B3=> ?_;have HJ:=af ((HX.cell (p:=aB xb 0) mD).trans jR);have HTb:=af ((HX.cell (p:=aB jb 4) dX).trans tS);have xF:=af ((HX.cell (p:=aB gi (oi+i)) mF).trans nv);have xA:=af (HST.ext HX);have HLW:=af (yg uk HX);have hb0:=B2.lt;have hb1:=B3.lt;have uh:=af (B2.aD 0);have xC:=af (B3.aD 0);have ayn:=cE mF HX.size;have axK:=cE mD HX.size;have ayc:=cE dX HX.size;clear jR tS nv B2 B3 mF mD dX;generalize w.heap.size=bb at*;obtain⟨S,dw⟩:∃S:World->Prop,S=fun w'=>ay w' bb 0 (aJ xb 0)/\ay w' (bb+1) 0 (av i)/\ay w' xb 0 (aJ jb 0)/\ay w' jb 4 (aG gi oi TN ct)/\ay w' gi (oi+i) (.slice A1 l.length c1):=⟨_,rfl⟩;have bL:ah (∀w',S w'->ay w' bb 0 (aJ xb 0)/\ay w' (bb+1) 0 (av i)/\ay w' xb 0 (aJ jb 0)/\ay w' jb 4 (aG gi oi TN ct)/\ay w' gi (oi+i) (.slice A1 l.length c1)):=ay4;have nX:ah (Ext W W.drew):=(aC W).drew;have aH:ah (S W.drew):=by rw[ah,dw];exact⟨uh,xC,HJ,HTb,xF⟩
 clear dw;have JD:=af (ap6 af1 (fun _ _=>by rfl) (aJ bb 0) (aJ (bb+1) 0) (LV W A1) (LU W A1) (fun k=>ey on cur (cj r.2) (l[k]?.getD ([],0)).1) (fun W'=>Ext W W') A1 l.length c1 W.drew nX hl2 Y4
  (fun W' k hX hk=>by obtain⟨g,o,B,d,hA,hg,h1,h2,_⟩:=ny.rc HLW hk;exact⟨g,o,hA,(hX.cell (p:=aB g (o+k*2)) hg).trans h1,(hX.cell (p:=aB g (o+k*2+1)) hg).trans h2⟩)
  (fun W' k hX hk=>by obtain⟨g,o,B,d,hA,hg,h1,h2,e0,e1,h3⟩:=ny.rc HLW hk;rw[e0,e1,aV hk];exact(kf bb (bb+1) B d l[k].1 l[k].2 W' (xA.ext hX) (HV _ (aZ hk)) (cQ h3 hX) (cE hb0 hX.size) (cE hb1 hX.size) ((hX.cell (p:=aB bb 0) hb0).trans uh.ae) ((hX.cell (p:=aB (bb+1) 0) hb1).trans xC.ae)).mono fun e w' hh=>⟨hh.1,hX.trans hh.2⟩))
 rw[abG (f:=fun y:Rw=>ey on cur (cj r.2) y.1) (fun k hk=>by rw[aV hk];rfl)] at JD;refine b9 (S:=S) (T:=fun j=>decide (11<=j)) Ok ?_;generalize W.drew=wd at*;refine ax 0 5 ?_;refine ax 1 6 ?_;refine ax 2 7 ?_;refine ax 3 8 ?_;refine ax 4 9 ?_;refine ax 5 10 ?_;refine ax 6 11 ?_;refine ax 7 12 ?_;refine ax 8 13 ?_;refine ax 9 14 ?_;refine ax 10 15 ?_;refine aL 11 ?_;intro K hK;go_simp;refine JD.mono ?_;rintro e8 w8 ⟨rfl,gI⟩;have jS:=af (HX.trans gI);refine hK.ae _ _ Oy9 ?_;clear hK gI;refine aL 12 ?_;intro K hK;go_simp;refine hK.ae _ _ Oy9 ?_;refine bY Ok ?_;clear hK;go_wp2_with fail
 exact bodyPost_ret (v:= .bool (tL on cur (cj r.2) l)) (by simp [results,tL,wM,go_sem]) rfl ⟨rfl,jS⟩):=h
abbrev PG.af2:= @func282
abbrev PG.af0:= @ntmps282
abbrev PG.afZ:= @results282
abbrev PG.LQ:= @VF
open PG in
def ami(xb jb nb sb i bx bi:Nat)(x:aQ)(cur:Nat->aF)(on:Nat->Bool)(r:Rl)(Bk:aS)(dk:Nat)(vs:List aF)(wt:Int)(w:au)(h:y8 13 14 w xb jb nb sb x cur on)(hr:x.aA[i]?=some r)(p6:∀a∈r.2,0<=a/\a<(x.aq.length:Int))(hv:vs.length=r.2.length)(hT:TL w (.slice Bk vs.length dk) vs)
 (lU:bx<w.heap.size) (hbi:bi<w.heap.size) (hx:ay w bx 0 (aJ xb 0)) (hi:ay w bi 0 (av i)):
 Calls prog 282 #[.agg #[.slice Bk vs.length dk,av wt],aJ bx 0,aJ bi 0] w fun e w'=>e= .returned (.bool (ey on cur (cj r.2) vs))/\Ext w w':=afd
abbrev El.Bn:= @func252
abbrev El.Bl:= @ntmps252
abbrev El.wM:= @results252
abbrev El.af1:=(282:Nat)
abbrev El.afY:= @ami
abbrev El.pV:=(13:Nat)
abbrev El.pU:=(14:Nat)
open El in
def an_(xb jb nb sb i:Nat)(x:aQ)(T:List (List Rw))(cur:Nat->aF)(on:Nat->Bool)(r:Rl)(l:List Rw)(w:au)(h:RY 13 14 w xb jb nb sb x T cur on)(hr:x.aA[i]?=some r)(hl:T[i]?=some l)(p6:∀a∈r.2,0<=a/\a<(x.aq.length:Int))(hv:∀y∈l,y.1.length=r.2.length):
 Calls prog 252 #[aJ xb 0,av i] w fun e w'=>e= .returned (.bool (tL on cur (cj r.2) l))/\Ext w w':=afc
abbrev PF.af2:= @func318
abbrev PF.af0:= @ntmps318
abbrev PF.afZ:= @results318
abbrev PF.LQ:= @VC
open PF in
def al4(xb jb nb sb i bx bi:Nat)(x:aQ)(cur:Nat->aF)(on:Nat->Bool)(r:Rl)(Bk:aS)(dk:Nat)(vs:List aF)(wt:Int)(w:au)(h:y8 19 20 w xb jb nb sb x cur on)(hr:x.aA[i]?=some r)(p6:∀a∈r.2,0<=a/\a<(x.aq.length:Int))(hv:vs.length=r.2.length)(hT:TL w (.slice Bk vs.length dk) vs)
 (lU:bx<w.heap.size) (hbi:bi<w.heap.size) (hx:ay w bx 0 (aJ xb 0)) (hi:ay w bi 0 (av i)):
 Calls prog 318 #[.agg #[.slice Bk vs.length dk,av wt],aJ bx 0,aJ bi 0] w fun e w'=>e= .returned (.bool (ey on cur (cj r.2) vs))/\Ext w w':=afd
abbrev Ek.Bn:= @func289
abbrev Ek.Bl:= @ntmps289
abbrev Ek.wM:= @results289
abbrev Ek.af1:=(318:Nat)
abbrev Ek.afY:= @al4
abbrev Ek.pV:=(19:Nat)
abbrev Ek.pU:=(20:Nat)
open Ek in
def anY(xb jb nb sb i:Nat)(x:aQ)(T:List (List Rw))(cur:Nat->aF)(on:Nat->Bool)(r:Rl)(l:List Rw)(w:au)(h:RY 19 20 w xb jb nb sb x T cur on)(hr:x.aA[i]?=some r)(hl:T[i]?=some l)(p6:∀a∈r.2,0<=a/\a<(x.aq.length:Int))(hv:∀y∈l,y.1.length=r.2.length):
 Calls prog 289 #[aJ xb 0,av i] w fun e w'=>e= .returned (.bool (tL on cur (cj r.2) l))/\Ext w w':=afc
def an9{α:Type} [Inhabited α](a:α->Value)(l b:List α)(rest:List Value)(c:b.length=l.length):Sort.putCells a 0 b.toArray (l.map a++rest).toArray=(b.map a++rest).toArray:=by
 apply Array.ext_getElem?
 intro i;unfold Sort.putCells;simp only[fU,Array.getElem?_mapIdx,List.size_toArray,aT,true_and,jc,TM];rcases cA i b.length with h|h
 ·rw[pC azw,pC azw,dY,dY,aV (l:=l) (i:=i) Om];simp [h]
 ·rw[zR azw,zR azw,cy,cy,c];cases rest[i - l.length]? with
  |none=>rfl
  |some x=>simp [Nat.not_lt.2 (c▸h:l.length<=i)]
def ado{α:Type} [Inhabited α](b:α->Value){l zs:List α}{rest:List Value}(h:ar m a w (l.map b++rest))(k:zs.length=l.length)(n:Nat)(j:Array Obj):
 Only a m (Sort.grow (Sort.putRow b (Sort.ahead m n) a 0 zs.toArray) j)/\ar (Sort.grow (Sort.putRow b (Sort.ahead m n) a 0 zs.toArray) j) a w (zs.map b++rest):=by
 have c:(Sort.putRow b (Sort.ahead m n) a 0 zs.toArray).heap.size=m.heap.size:=(by unfold Sort.putRow Sort.mapBlock Sort.ahead;simp);have f:=h.lt;refine⟨⟨rfl,rfl,rfl,?_,fun i o d=> ?_⟩,?_⟩
 ·rw[Sort.size_grow,c];omega
 ·rw[Sort.heap_grow_old _ _ (by rw[c];exact o)];unfold Sort.putRow Sort.mapBlock Sort.ahead;simp only[aan];rw[if_neg (fun e=>d (by rw[e]))]
 ·unfold ar;rw[Sort.heap_grow_old _ _ (by rw[c];exact f)];unfold ar at h;unfold Sort.putRow Sort.mapBlock Sort.ahead;simp only[aan,if_true,h,aaL,Sort.onCells,an9 b l zs rest k]
def ac6{α:Type} [Inhabited α](c:α->Value){l:List α}{rest:List Value}(e:ar m a w (l.map c++rest)):Sort.Holds c m a 0 l.toArray:=by intro j d;have b:j<l.length:=azH;refine⟨?_,e.frozen _⟩;rw[jc,e.cell (by rw[pC (by rw[cy];exact b),dY,aV b];rfl),getElem!_pos _ j d];simp
def akU(l:List aF):Lib.compact (l.mergeSort fun x y=>decide (x<=y))=kr l:=by
 have B:∀x y:aF,(x<=y)↔¬y<x:=fun x y=>List.not_lt.symm;obtain⟨d,t⟩:∃d,d=(l.mergeSort fun x y=>decide (x<=y)):=⟨_,rfl⟩;have k:∀x y:aF,Op.bytesLess x y=decide (x<y):=Go.Proofs.bytesLess_eq;have m:d.Pairwise (fun x y=>x<=y):=by
  have h:=List.pairwise_mergeSort (le:=fun x y:aF=>decide (x<=y)) (fun a b c v u=>by
   simp only[decide_eq_true_eq] at*;exact List.le_trans v u) (fun a b=>by
   simp only[lK,decide_eq_true_eq];exact List.le_total a b) l
  rw[<-t] at h;exact h.imp fun h=>by simpa using h
 rw[<-t];have n:∀x,x∈d↔x∈l:=fun x=>by rw[t];exact List.mem_mergeSort
 have f:∀j (g:j<d.length),d.toArray[j]! =d[j]:=fun j g=>by rw[getElem!_pos d.toArray j (by simpa using g)];simp
 refine VW ?_ (Ko l) fun x=> ?_
 ·unfold Lib.compact Lib.compactUpTo;rw[zX,List.pairwise_filter];refine List.Pairwise.imp_of_mem ?_ (List.pairwise_lt_range);intro i j q g C _ o;have q:=dP.1 q;have g:=dP.1 g;unfold Lib.keeps at o;have p:=of_decide_eq_true o;show Op.bytesLess _ _=true
  rw[f i q,f j g,k,decide_eq_true_eq];have s:d[j]≠d[j - 1]:=by
   rcases p with p|p
   ·omega
   ·rwa[f j g,f (j - 1) Om] at p
  have v:d[i]<=d[j - 1]:=by
   rcases cA i (j - 1) with h|h
   ·exact rH.1 m i (j - 1) q Om h
   ·have e:i=j - 1:=Om;subst e;exact List.le_refl _
  have u:d[j - 1]<=d[j]:=rH.1 m (j - 1) j Om g Om;have E:d[j - 1]<d[j]:=by
   by_cases h:d[j - 1]<d[j]
   ·exact h
   ·have G:Op.bytesLess d[j - 1] d[j]=false:=by rw[k];exact decide_eq_false h
    have F:Op.bytesLess d[j] d[j - 1]=false:=by rw[k];exact decide_eq_false (List.not_lt.2 u)
    exact absurd (xW.EZ _ _ F G) s
  exact List.lt_of_le_of_lt v E
 ·rw[xS,<-n];unfold Lib.compact Lib.compactUpTo;rw[dH];constructor
  ·rintro⟨j,g,rfl⟩;have g:=dP.1 (fI.1 g).1;rw[f j g];exact aZ g
  ·intro A;obtain⟨j,g,rfl⟩:=ju A;have r:∀j (g:j<d.length),∃a∈(List.range d.length).filter (Lib.keeps d.toArray),d.toArray[a]! =d[j]:=by
    intro j;induction j with
    |zero=>exact fun g=>⟨0,fI.2 ⟨dP.2 g,by simp [Lib.keeps]⟩,f 0 g⟩
    |succ j z=>
     intro g;by_cases w:d[j+1]=d[j]
     ·obtain⟨a,D,e⟩:=z Om;exact⟨a,D,e.trans w.symm⟩
     ·refine⟨j+1,fI.2 ⟨dP.2 g,?_⟩,f _ g⟩;unfold Lib.keeps;refine decide_eq_true (.inr ?_);rw[f _ g,show j+1 - 1=j by omega,f j Om];exact w
   exact r j g
def akE:Go.Shelf.Ren:=⟨fun|194=>249|n=>n,fun|31=>rW|9=>bI|4=>gh|3=>aU|0=>0|n=>n,fun|n=>n⟩
def aeQ:Go.Proofs.Lays.n194 prog akE:={
 mixed:=Ok
 f194:=func249.trans (congrArg some Ok)
 t0:=underlying0
 a0:=Tryz.isAgg0
 z0:=Tryz.sizeOf0
 v0:=Tryz.zeroValue0
 t3:=underlying3
 a3:=Tryz.isAgg3
 z3:=Tryz.sizeOf3
 v3:=Tryz.zeroValue3
 t4:=underlying4
 a4:=Tryz.isAgg4
 z4:=Tryz.sizeOf4
 v4:=Tryz.zeroValue4
 t9:=underlying9
 a9:=Tryz.isAgg9
 z9:=Tryz.sizeOf9
 v9:=Tryz.zeroValue9
 t31:=underlying39
 a31:=Tryz.isAgg39
 z31:=Tryz.sizeOf39
 v31:=Tryz.zeroValue39}
def amI{l:List aF}{rest:List Value}(d:ar m a bI (l.map encStr++rest))(h:l.length<=1000):
 Calls prog 248 #[aG a 0 l.length c] m fun e b=>e= .returned (.tuple #[])/\Only a m b/\ar b a bI ((l.mergeSort fun x y=>decide (x<=y)).map encStr++rest):=by
 refine(Tryz.slices_Sort_string a 0 c l m (ac6 encStr d) d.lt Om).mono ?_;rintro e b ⟨rfl,n,f,rfl⟩;exact⟨rfl,ado encStr d (List.length_mergeSort _) n f⟩
def an7{l:List aF}{rest:List Value}(k:ar m a bI ((l.mergeSort fun x y=>decide (x<=y)).map encStr++rest))(s:l.length<=1000)(t:l.length<=c):
 Calls prog 249 #[aG a 0 l.length c] m fun e j=>e= .returned (aG a 0 (kr l).length c)/\Only a m j/\∃b,ar j a bI ((kr l).map encStr++b):=by
 obtain⟨d,o⟩:∃d,d=(l.mergeSort fun x y=>decide (x<=y)):=⟨_,rfl⟩;have i:d.length=l.length:=by rw[o];exact List.length_mergeSort _
 have f:=akU l;rw[<-o] at f k;have h:=Any.slices_Compact_string aeQ a 0 c d m (ac6 encStr k) Om Om;rw[i,f] at h;refine h.mono ?_;rintro e j ⟨rfl,q,rfl⟩;have r:(kr l).length<=l.length:=(by rw[<-f];unfold Lib.compact Lib.compactUpTo;rw[cy,<-i];exact a8 (mK _ _) (by rw[gN];exact aK _))
 have n:=ado encStr k (zs:=kr l++List.replicate (l.length - (kr l).length) []) (by rw[bC,Oa];omega) q #[];rw[Sort.grow_empty] at n;refine⟨rfl,n.1,(List.replicate (l.length - (kr l).length) []).map encStr++rest,?_⟩;have p:=n.2;rw[mL,iB] at p;exact p
structure RX(x:aQ)(T:List (List Rw)):Prop where
 len:T.length=x.aA.length
 ra:∀(i:Nat) (r:Rl),x.aA[i]?=some r->∀a∈r.2,0<=a/\a<(x.aq.length:Int)
 rl:∀(i:Nat) (r:Rl) (l:List Rw),x.aA[i]?=some r->T[i]?=some l->∀y∈l,y.1.length=r.2.length
def tK(x:aQ)(T:List (List Rw))(cur:Nat->aF)(on:Nat->Bool)(i:Nat):Bool:=tL on cur (cj ((x.aA[i]?.map (·.2)).getD [])) (T[i]?.getD [])
structure Bas(w0:au)(jb:Nat)(x:aQ)(T:List (List Rw)):Prop where
 jl:jb<w0.heap.size
 jr:∃B d,w0.cell? ⟨jb,1,none⟩=some (.slice B x.aA.length d)/\ah (y_ w0 (.slice B x.aA.length d) x.aA)
 tb:∃A c,w0.cell? ⟨jb,4,none⟩=some (.slice A T.length c)/\ah (fS w0 (.slice A T.length c) T)
 ok:RX x T
structure eY(oN oS:Nat)(tX:TypeId)(cs:List Value)(w0 w:au)(xb jb nb sb:Nat)(x:aQ)(T:List (List Rw))(cur:Nat->aF)(on:Nat->Bool):Prop where
 qh:Bas w0 jb x T
 ex:Ext w0 w
 nl:w0.heap.size<=nb
 sl:w0.heap.size<=sb
 ne:nb≠sb
 xn:xb≠nb
 xs:xb≠sb
 sx:ar w xb tX cs
 c0:cs[0]?=some (.pointer (some ⟨jb,0,none⟩))
 cN:cs[oN]?=some (.slice (some ⟨nb,0,none⟩) x.aq.length x.aq.length)
 cS:cs[oS]?=some (.slice (some ⟨sb,0,none⟩) x.aq.length x.aq.length)
 nc:ar w nb bI (uR x.aq.length cur)
 sc:ar w sb gh (gf x.aq.length on)
section
variable{oN oS xb jb nb sb:Nat}{tX:TypeId}{cs:List Value}{w0 w w':au}{x:aQ}{T:List (List Rw)}{cur:Nat->aF}{on:Nat->Bool}
theorem eY.xl(h:eY oN oS tX cs w0 w xb jb nb sb x T cur on):xb<w.heap.size:=h.sx.lt
theorem eY.jn(h:eY oN oS tX cs w0 w xb jb nb sb x T cur on):w.cell? ⟨xb,0,none⟩=some (.pointer (some ⟨jb,0,none⟩)):=h.sx.cell h.c0
theorem eY.nw(h:eY oN oS tX cs w0 w xb jb nb sb x T cur on):w.cell? ⟨xb,oN,none⟩=some (.slice (some ⟨nb,0,none⟩) x.aq.length x.aq.length):=h.sx.cell h.cN
theorem eY.st(h:eY oN oS tX cs w0 w xb jb nb sb x T cur on):w.cell? ⟨xb,oS,none⟩=some (.slice (some ⟨sb,0,none⟩) x.aq.length x.aq.length):=h.sx.cell h.cS
theorem eY.FE(h:eY oN oS tX cs w0 w xb jb nb sb x T cur on):RY oN oS w xb jb nb sb x T cur on:=by
 obtain⟨B,d,h1,h2⟩:=h.qh.jr;obtain⟨A,c,h3,h4⟩:=h.qh.tb
 exact⟨⟨h.xl,Nat.lt_of_lt_of_le h.qh.jl h.ex.size,h.jn,h.nw,h.st,h.nc,h.sc,B,d,(h.ex.cell h.qh.jl).trans h1,Ls.ext Cs.jN h2.ae h.ex⟩,A,c,(h.ex.cell h.qh.jl).trans h3,fS.ext h4.ae h.ex⟩
theorem eY.drew(h:eY oN oS tX cs w0 w xb jb nb sb x T cur on):eY oN oS tX cs w0 w.drew xb jb nb sb x T cur on:=⟨h.qh,h.ex.drew,h.nl,h.sl,h.ne,h.xn,h.xs,h.sx,h.c0,h.cN,h.cS,h.nc,h.sc⟩
theorem eY.ext(h:eY oN oS tX cs w0 w xb jb nb sb x T cur on)(k:Ext w w'):eY oN oS tX cs w0 w' xb jb nb sb x T cur on:=
 ⟨h.qh,h.ex.trans k,h.nl,h.sl,h.ne,h.xn,h.xs,h.sx.ext k,h.c0,h.cN,h.cS,h.nc.ext k,h.sc.ext k⟩
theorem eY.past(h:eY oN oS tX cs w0 w xb jb nb sb x T cur on)(k:Only g w w')(a:w0.heap.size<=g)(d:g≠xb)(c:g≠nb)(b:g≠sb):eY oN oS tX cs w0 w' xb jb nb sb x T cur on:=
 ⟨h.qh,h.ex.only k a,h.nl,h.sl,h.ne,h.xn,h.xs,(k.block xb h.xl (by simpa using fM d)).trans h.sx,h.c0,h.cN,h.cS,
  (k.block nb h.nc.lt (by simpa using fM c)).trans h.nc,(k.block sb h.sc.lt (by simpa using fM b)).trans h.sc⟩
theorem eY.Qp(h:eY oN oS tX cs w0 w xb jb nb sb x T cur on)(d:a<x.aq.length)(t:aF):∃b,w.setCell ⟨nb,a,none⟩ (.string ⟨t.toArray⟩)=b/\ah (eY oN oS tX cs w0 b xb jb nb sb x T (put cur a t) on)/\ah (Only nb w b):=by
 obtain⟨b,e,c,_,f⟩:=gp (i:=a) h.nc (.string ⟨t.toArray⟩);rw[alA d] at c;have k:=f.ae;exact⟨b,e,⟨h.qh,h.ex.only k h.nl,h.nl,h.sl,h.ne,h.xn,h.xs,(k.block xb h.xl (by simpa using h.xn)).trans h.sx,h.c0,h.cN,h.cS,
  c,(k.block sb h.sc.lt (by simpa using fM h.ne)).trans h.sc⟩,k⟩
theorem eY.EG(h:eY oN oS tX cs w0 w xb jb nb sb x T cur on)(g:a<x.aq.length)(b:Bool):∃d,w.setCell ⟨sb,a,none⟩ (.bool b)=d/\ah (eY oN oS tX cs w0 d xb jb nb sb x T cur (fun c=>if c=a then b else on c))/\ah (Only sb w d):=by
 obtain⟨d,e,f,_,j⟩:=gp (i:=a) h.sc (.bool b);rw[OV g] at f;have k:=j.ae;exact⟨d,e,⟨h.qh,h.ex.only k h.sl,h.nl,h.sl,h.ne,h.xn,h.xs,(k.block xb h.xl (by simpa using h.xs)).trans h.sx,h.c0,h.cN,h.cS,
  (k.block nb h.nc.lt (by simpa using h.ne)).trans h.nc,f⟩,k⟩
end
def aeA{on:Nat->Bool}:(fun b=>if b=a then true else on b)=cV on a:=by
 funext b
 unfold cV;by_cases h:b=a<;>simp [h]
def U7{on:Nat->Bool}:(fun b=>if b=a then false else cV on a b)=fun b=>if b=a then false else on b:=by
 funext b
 unfold cV;by_cases h:b=a<;>simp [h]
def arx{f:Nat->Bool}:((List.range i.length).any fun k=> !f (i[k]?.getD 0))= !i.all f:=by rw[abG (f:=fun a=> !f a) (fun k b=>by rw[aV b];rfl),lZ];simp
def afP(h:ai:=by
 have hit:i<T.length:=by rw[hT.len];exact hi
 have CS:=af (zsm xb jb nb sb i x T cur on x.aA[i] T[i] w h (aV hi) (aV hit) (hT.ra i _ (aV hi)) (hT.rl i _ _ (aV hi) (aV hit)));have he:tL on cur (cj x.aA[i].2) T[i]=tK x T cur on i:=by unfold tK;rw[aV hi,aV hit];rfl
 rw[he] at CS;generalize tK x T cur on i=b at*;clear he h hT;go_enter afz,afx;go_wp2_with fail;refine CS.mono ?_;rintro e w2 ⟨rfl,MA⟩;have aY:=af MA;clear MA hx;go_wp2;exact bodyPost_ret (v:= .bool (!b)) (by simp [results,afw,go_sem]) rfl ⟨rfl,aY⟩):=h
def afO(h:ai:=by
 obtain⟨n1,n2,n3,n4,n5,n6⟩:=hn;obtain⟨W1,hW1,bW,gZ⟩:=h.drew.Qp hv t;obtain⟨W2,hW2,aY,et⟩:=bW.EG hv true;have lT:=(h.drew.nc.cell (O8 (cur:=cur) hv));have hfn:=h.drew.nc.frozen v;have hcs:=(bW.sc.cell (rP (on:=on) hv));have p_:=bW.sc.frozen v;rw[aeA] at aY;have kf:=af (((ig (S:= [nb,sb]) (aC w)).drew).only gZ.ae (.inl Ou));have fR:=af (kf.only et (.inl Ou));obtain⟨S,dw⟩:∃S:World->Prop,S=fun w'=>w'.cell? ⟨bx,0,none⟩=some (.pointer (some ⟨xb,0,none⟩))/\w'.cell? ⟨bv,0,none⟩=some (.int .i64 v)/\w'.cell? ⟨xb,pV,none⟩=some (.slice (some ⟨nb,0,none⟩) x.aq.length x.aq.length)/\w'.cell? ⟨xb,pU,none⟩=some (.slice (some ⟨sb,0,none⟩) x.aq.length x.aq.length):=⟨_,rfl⟩;have bL:ah (∀w',S w'->w'.cell? ⟨bx,0,none⟩=some (.pointer (some ⟨xb,0,none⟩))/\w'.cell? ⟨bv,0,none⟩=some (.int .i64 v)/\w'.cell? ⟨xb,pV,none⟩=some (.slice (some ⟨nb,0,none⟩) x.aq.length x.aq.length)/\w'.cell? ⟨xb,pU,none⟩=some (.slice (some ⟨sb,0,none⟩) x.aq.length x.aq.length)):=ay4;have bU:ah (∀w' cur' LX,a7 [nb,sb] w w'->eY pV pU tX cs w0 w' xb jb nb sb x T cur' LX->S w'):=by
  rw[ah,dw];intro w' cur' LX hc hs;refine⟨?_,?_,hs.nw,hs.st⟩
  ·rw[<-hx];unfold World.cell?;simp only;rw[hc.block bx lU (by simp [n1,n2])]
  ·rw[<-YF];unfold World.cell?;simp only;rw[hc.block bv Mv (by simp [n3,n4])]
 have HRC:ah (∀w',a7 [nb,sb] w w'->w'.cell? ⟨br,0,none⟩=some (.slice Ar rl.length cr)/\w'.cell? ⟨bx,0,none⟩=some (.pointer (some ⟨xb,0,none⟩))):=by
  intro w' hc;refine⟨?_,?_⟩
  ·rw[<-hr];unfold World.cell?;simp only;rw[hc.block br hbr (by simp [n5,n6])]
  ·rw[<-hx];unfold World.cell?;simp only;rw[hc.block bx lU (by simp [n1,n2])]
 have aH:ah (S w.drew):=bU _ _ _ ((ig (aC w)).drew) h.drew;have bB:ah (S W1):=bU _ _ _ kf bW;have FL:=af hW1;have sJ:=af hW2;have d_:=af gV;have j_:=af h_;have avy:bx<W2.heap.size:=cE lU fR.size;have ru:=h.qh.ok;have aN:=af ru;clear dw hW1 hW2 hx YF hr gV h_ h ru;go_enter af5,af4;go_upto_region 1 with fail
 refine b9 (S:=S) (T:=fun j=>decide (14<=j)) Ok ?_;generalize w.drew=wd at*;refine ax 0 7 ?_;refine ax 1 8 ?_;refine ax 2 9 ?_;refine ax 3 10 ?_;refine ax 4 11 ?_;refine ax 5 12 ?_;refine ax 6 13 ?_;refine ax 7 14 ?_;refine ax 8 15 ?_;refine ax 9 16 ?_;refine ax 10 17 ?_;refine ax 11 18 ?_;refine aL 12 ?_;intro K hK;go_simp;rw[FL.ae];refine hK.ae _ _ (fun _=>bB.ae) ?_;clear hK lT hfn;have aH:=bB;refine ax 13 19 ?_;refine aL 14 ?_;intro K hK;go_simp;rw[sJ.ae];refine hK.ae _ _ Oy9 ?_;refine bY Ok ?_;clear hK hcs p_;obtain⟨r0,r1⟩:=HRC W2 fR;have avx:=r1;have ayA:=Cl.1;have JD:=af (aeo afy (fun _ _=>by rfl) (.pointer (some ⟨bx,0,none⟩)) (fun k=> .int .i64 ((rl[k]?.getD 0:Nat):Int)) (fun k=> !tK x T (put cur v t) (cV on v) (rl[k]?.getD 0)) (fun W'=>Ext W2 W') Ar rl.length cr W2 (aC W2) Cl.1 Cl.2
  (fun W' k hX hk=>by obtain⟨g,o,hA,hc⟩:=d_ W' (fR.ext hX) k hk;exact⟨g,o,hA,by rw[hc,aV hk];rfl⟩)
  (fun W' k hX hk=>by rw[aV hk];exact(afv xb jb nb sb rl[k] bx x T _ _ W' (aY.ext hX).FE aN (j_ _ (aZ hk)) ((HRC W' (fR.ext hX)).2)).mono fun e w' hh=>⟨hh.1,hX.trans hh.2⟩))
 rw[arx (f:=fun i=>tK x T (put cur v t) (cV on v) i)] at JD;have hb:∃b,b= !rl.all fun i=>tK x T (put cur v t) (cV on v) i:=⟨_,rfl⟩;obtain⟨b,hb⟩:=hb;rw[<-hb] at JD;have SJ:=af hb;clear hb;go_wp2_with fail
 refine JD.mono ?_;rintro e8 w8 ⟨rfl,gI⟩;have jS:=af (aY.ext gI);have ur:=af (fR.ext gI);clear gI r0 r1 avx;go_upto_region 3 with fail
 obtain⟨W9,Cm,ed,ke⟩:=jS.drew.EG hv false;rw[U7] at ed;have hcs:=(jS.drew.sc.cell (rP (on:=cV on v) hv));have p_:=jS.drew.sc.frozen v;have aH:ah (S w8.drew):=bU _ _ _ ur.drew jS.drew;have iJ:=af (ur.drew.only ke (.inl Ou));have ZU:=af Cm;clear Cm;refine b9 (S:=S) (T:=fun j=>decide (6<=j)) Ok ?_;generalize w8.drew=wd at*;refine ax 0 23 ?_;refine ax 1 24 ?_;refine ax 2 25 ?_;refine ax 3 26 ?_;refine ax 4 27 ?_;refine ax 5 28 ?_;refine aL 6 ?_;intro K hK;go_simp;rw[ZU.ae];refine hK.ae _ _ Oy9 ?_;refine bY Ok ?_;clear hK hcs p_;go_wp2_with fail
 exact bodyPost_ret (v:= .bool b) (by simp [results,af3,go_sem]) rfl ⟨by rw[SJ.ae],ed,iJ⟩):=h
abbrev P5.afz:= @func251
abbrev P5.afx:= @ntmps251
abbrev P5.afw:= @results251
abbrev P5.zsm:= @an_
open P5 in
def ar4(xb jb nb sb i bx:Nat)(x:aQ)(T:List (List Rw))(cur:Nat->aF)(on:Nat->Bool)(w:au)(h:RY 13 14 w xb jb nb sb x T cur on)(hT:RX x T)(hi:i<x.aA.length)(hx:w.cell? ⟨bx,0,none⟩=some (.pointer (some ⟨xb,0,none⟩))):
 Calls prog 251 #[.int .i64 i,.pointer (some ⟨bx,0,none⟩)] w fun e w'=>e= .returned (.bool (!tK x T cur on i))/\Ext w w':=afP
abbrev Ev.afy:=(251:Nat)
abbrev Ev.af5:= @func250
abbrev Ev.af4:= @ntmps250
abbrev Ev.af3:= @results250
abbrev Ev.afv:= @ar4
abbrev Ev.pV:=(13:Nat)
abbrev Ev.pU:=(14:Nat)
open Ev in
def asQ(tX:TypeId)(cs:List Value)(xb jb nb sb bx bv br v:Nat)(x:aQ)(T:List (List Rw))(cur:Nat->aF)(on:Nat->Bool)(rl:List Nat)(Ar:aS)(cr:Nat)(t:aF)(w0 w:au)(h:eY 13 14 tX cs w0 w xb jb nb sb x T cur on)(hv:v<x.aq.length)(h_:∀i∈rl,i<x.aA.length)
 (lU:bx<w.heap.size) (Mv:bv<w.heap.size) (hbr:br<w.heap.size) (hn:bx≠nb/\bx≠sb/\bv≠nb/\bv≠sb/\br≠nb/\br≠sb)
 (hx:w.cell? ⟨bx,0,none⟩=some (.pointer (some ⟨xb,0,none⟩))) (YF:w.cell? ⟨bv,0,none⟩=some (.int .i64 v)) (hr:w.cell? ⟨br,0,none⟩=some (.slice Ar rl.length cr))
 (Cl:rl.length<=cr/\cr<=maxLen) (gV:∀W3,a7 [nb,sb] w W3->∀k (hk:k<rl.length),∃g o,Ar=some ⟨g,o,none⟩/\W3.cell? ⟨g,o+k,none⟩=some (.int .i64 (rl[k]:Nat))):
 Calls prog 250 #[.string ⟨t.toArray⟩,.pointer (some ⟨bx,0,none⟩),.pointer (some ⟨bv,0,none⟩),.pointer (some ⟨br,0,none⟩)] w fun e w'=>e= .returned (.bool (!rl.all fun i=>tK x T (put cur v t) (cV on v) i))/\eY 13 14 tX cs w0 w' xb jb nb sb x T (put cur v t) (fun a=>if a=v then false else on a)/\a7 [nb,sb] w w':=afO
abbrev PZ.afz:= @func288
abbrev PZ.afx:= @ntmps288
abbrev PZ.afw:= @results288
abbrev PZ.zsm:= @anY
open PZ in
def arY(xb jb nb sb i bx:Nat)(x:aQ)(T:List (List Rw))(cur:Nat->aF)(on:Nat->Bool)(w:au)(h:RY 19 20 w xb jb nb sb x T cur on)(hT:RX x T)(hi:i<x.aA.length)(hx:w.cell? ⟨bx,0,none⟩=some (.pointer (some ⟨xb,0,none⟩))):
 Calls prog 288 #[.int .i64 i,.pointer (some ⟨bx,0,none⟩)] w fun e w'=>e= .returned (.bool (!tK x T cur on i))/\Ext w w':=afP
abbrev Eu.afy:=(288:Nat)
abbrev Eu.af5:= @func287
abbrev Eu.af4:= @ntmps287
abbrev Eu.af3:= @results287
abbrev Eu.afv:= @arY
abbrev Eu.pV:=(19:Nat)
abbrev Eu.pU:=(20:Nat)
open Eu in
def asM(tX:TypeId)(cs:List Value)(xb jb nb sb bx bv br v:Nat)(x:aQ)(T:List (List Rw))(cur:Nat->aF)(on:Nat->Bool)(rl:List Nat)(Ar:aS)(cr:Nat)(t:aF)(w0 w:au)(h:eY 19 20 tX cs w0 w xb jb nb sb x T cur on)(hv:v<x.aq.length)(h_:∀i∈rl,i<x.aA.length)
 (lU:bx<w.heap.size) (Mv:bv<w.heap.size) (hbr:br<w.heap.size) (hn:bx≠nb/\bx≠sb/\bv≠nb/\bv≠sb/\br≠nb/\br≠sb)
 (hx:w.cell? ⟨bx,0,none⟩=some (.pointer (some ⟨xb,0,none⟩))) (YF:w.cell? ⟨bv,0,none⟩=some (.int .i64 v)) (hr:w.cell? ⟨br,0,none⟩=some (.slice Ar rl.length cr))
 (Cl:rl.length<=cr/\cr<=maxLen) (gV:∀W3,a7 [nb,sb] w W3->∀k (hk:k<rl.length),∃g o,Ar=some ⟨g,o,none⟩/\W3.cell? ⟨g,o+k,none⟩=some (.int .i64 (rl[k]:Nat))):
 Calls prog 287 #[.string ⟨t.toArray⟩,.pointer (some ⟨bx,0,none⟩),.pointer (some ⟨bv,0,none⟩),.pointer (some ⟨br,0,none⟩)] w fun e w'=>e= .returned (.bool (!rl.all fun i=>tK x T (put cur v t) (cV on v) i))/\eY 19 20 tX cs w0 w' xb jb nb sb x T (put cur v t) (fun a=>if a=v then false else on a)/\a7 [nb,sb] w w':=afO
end Go.Proofs.YthfffpcmldipgaaGreatDoor
