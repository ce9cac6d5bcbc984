/- Texts of the proof, part 10. -/
import Derived.Test.YtadbchhdjbghkaaGreatDoorA9
namespace Go.Proofs.YtadbchhdjbghkaaGreatDoor
set_option maxHeartbeats 8000000
set_option linter.all false
set_option maxRecDepth 100000
variable{aq:Prop}
open Go.RowKit Go.Lib Go.Maps Go.ChangeShapes Go.WideShapes Go.ChangeAt Go.Proofs.Tryz
variable{a b c d e f g h:Nat}{i j k l:List Nat}{m n o:World}{p q r s:Value}{t u v:List Value}{w x:TypeId}{y z:Nat→Option Nat}{A:Nat→List Nat}{B C:Int}{E F:Option Addr}{H I:Rat}{J:Nat→Nat}{K:Nat→Bool}{L:List Int}{N:Array Bool}{O:Option Nat}{Q:Act}{R S:Bool}{T:List UInt8}
def E_(l:List kf):Prop:=∀i (h:i<l.length),l[i].1= [97,UInt8.ofNat (97+i)]/\1<=l[i].2/\l[i].2<=3
def E_.snoc{l:List kf}{k:Int}(h:E_ l)(d:1<=k)(c:k<=3):E_ (l++ [([97,UInt8.ofNat (97+l.length)],k)]):=by
 intro i b;rcases cA i l.length with a|a
 ·rw[YF a];exact h i a
 ·have:i=l.length:=by rw[bC,iE] at b;omega
  subst this;rw[YC (aK _)];simp only[LM,List.getElem_singleton];exact⟨trivial,d,c⟩
def ry(n:Nat)(l:List Rl):Prop:=∀i (h:i<l.length),l[i].1= [114,UInt8.ofNat (97+i)]/\l[i].2≠ []/\(∀a∈l[i].2,0<=a/\a<(n:Int))/\l[i].2.Pairwise (·<·)
def ry.mono{m:Nat}{l:List Rl}(h:ry a l)(k:a<=m):ry m l:=fun i c=>by obtain⟨j,g,f,e⟩:=h i c;exact⟨j,g,fun b d=>by have:=f b d;omega,e⟩
def ry.snoc{l:List Rl}{x:List Int}(h:ry a l)(g:x≠ [])(f:∀b∈x,0<=b/\b<(a:Int))(e:x.Pairwise (·<·)):ry a (l++ [([114,UInt8.ofNat (97+l.length)],x)]):=by
 intro i d;rcases cA i l.length with c|c
 ·rw[YF c];exact h i c
 ·have:i=l.length:=by rw[bC,iE] at d;omega
  subst this;rw[YC (aK _)];simp only[LM,List.getElem_singleton];exact⟨trivial,g,f,e⟩
def Ng(n:Nat)(l:List Rl):Prop:=∀a:Nat,a<n->∃r∈l,(a:Int)∈r.2
structure LI(n0 n:Nat)(l:List Int):Prop where
 tK:l.Pairwise (·<·)
 uF:∀a∈l,0<=a/\a<(n:Int)
 all:∀a:Nat,n0<=a->a<n->(a:Int)∈l
 len:l.length<=n
def LI.snoc(h:LI a b L):LI a (b+1) (L++ [(b:Int)]):=by
 refine⟨List.pairwise_append.2 ⟨h.tK,Ld _ _,fun c e d g=> ?_⟩,fun c e=> ?_,fun c i j=> ?_,by rw[bC,iE];have:=h.len;omega⟩
 ·rw[bG.1 g];exact(h.uF c e).2
 ·rcases bV.1 e with e|e
  ·have:=h.uF c e;omega
  ·rw[bG.1 e];omega
 ·rcases cA c b with f|f
  ·exact bV.2 (.inl (h.all c i f))
  ·obtain rfl:c=b:=Om;exact bV.2 (.inr (bG.2 rfl))
def LI.skip(h:LI a b L)(e:b<a):LI a (b+1) L:=
 ⟨h.tK,fun c d=>by have:=h.uF c d;omega,fun c g f=>by omega,by have:=h.len;omega⟩
def LI.start(b:Nat):LI b 0 []:=⟨List.Pairwise.nil,Oe,(fun a _ h=>by omega),aK _⟩
structure FI(ai:List kf)(j:Nat)(bf:List Fe)(label:Int):Prop where
 uF:∀f∈bf,f.1<(j:Int)
 ok:∀f∈bf,ag6 ai f
 tK:bf.Pairwise fun f h=>f.1<h.1
 len:bf.length<=j
 ne:∀f∈bf,f.1≠label
 lb:label= -1\/∃q:Nat,label=(q:Int)/\q<j/\∃a,ai[q]? =some a/\a.2=2
def FI.start(a:List kf):FI a 0 [] (-1):=⟨Oe,Oe,List.Pairwise.nil,aK _,Oe,.inl rfl⟩
def FI.skip{c:List kf}{b:List Fe}(h:FI c a b B):FI c (a+1) b B:=
 ⟨fun f d=>by have:=h.uF f d;omega,h.ok,h.tK,by have:=h.len;omega,h.ne,h.lb.imp id fun⟨q,g,i,e⟩=>⟨q,g,by omega,e⟩⟩
def FI.label{d:List kf}{c:List Fe}{label:Int}(h:FI d a c label){b:kf}(g:d[a]? =some b)(i:b.2=2):FI d (a+1) c a:=
 ⟨fun f e=>by have:=h.uF f e;omega,h.ok,h.tK,by have:=h.len;omega,fun f e=>by have:=h.uF f e;omega,.inr ⟨a,rfl,by omega,b,g,i⟩⟩
def FI.snoc{e:List kf}{d:List Fe}(h:FI e a d B){k m:Int}{b:kf}(n:e[a]? =some b)(l:(k=1/\b.2=2/\(m=0\/m=1))\/(k=2/\b.2=3/\m=0)):FI e (a+1) (d++ [((a:Int),k,m)]) B:=by
 refine⟨fun f c=> ?_,fun f c=> ?_,?_,by rw[bC,iE];have:=h.len;omega,fun f c=> ?_,h.lb.imp id fun⟨q,g,p,o⟩=>⟨q,g,by omega,o⟩⟩
 ·rcases bV.1 c with c|c
  ·have:=h.uF f c;omega
  ·rw[bG.1 c];show(a:Int)<_;omega
 ·rcases bV.1 c with c|c
  ·exact h.ok f c
  ·rw[bG.1 c];exact⟨by show(0:Int)<=(a:Int);omega,b,n,l⟩
 ·refine List.pairwise_append.2 ⟨h.tK,Ld _ _,fun f c x i=> ?_⟩;rw[bG.1 i];exact h.uF f c
 ·rcases bV.1 c with c|c
  ·exact h.ne f c
  ·rw[bG.1 c];rcases h.lb with r|⟨q,g,p,_⟩
   ·rw[r];show(a:Int)≠ -1;omega
   ·rw[g];show(a:Int)≠(q:Int);omega
def ofNat_inj(d:a<150)(c:b<150)(h:UInt8.ofNat (97+a)=UInt8.ofNat (97+b)):a=b:=by have h:=congrArg UInt8.toNat h;rw[PZ,PZ] at h;omega
def abd{c:UInt8}(d:EQ c)(h:a<7):pE [c,UInt8.ofNat (97+a)]:=by
 refine⟨by simp,by simp,fun x b=> ?_,fun x b=> ?_⟩
 ·simp only[dy,cY] at b;rw[<-b];exact d
 ·simp only[aJ,bL,or_false] at b;rcases b with rfl|rfl
  ·exact .inl d
  ·rcases a with _|_|_|_|_|_|_|a;all_goals first|omega|decide
def aou{b:List kf}{c:List Rl}{f:List Fe}(n:E_ b)(k:ry b.length c)(t:Ng b.length c)(l:FI b b.length f B)(x:1<=b.length)(z:b.length<=6)(s:1<=c.length)(y:c.length<=3):bR ⟨b,c,f,B⟩:=by
 refine⟨x,by show b.length<=12;omega,s,by show c.length<=6;omega,by show f.length<=8;have:=l.len;omega,fun a h=> ?_,?_,fun a h=> ?_,fun r h=> ?_,?_,fun r h=> ?_,fun r h=> ?_,fun r h=> ?_,t,l.ok,?_,l.ne,?_,fun h=> ?_⟩
 ·obtain⟨i,d,rfl⟩:=iQ h;have g:i<b.length:=d;rw[(n i d).1];exact abd Od Om
 ·refine pT.2 fun i j d m p e=> ?_;have g:i<b.length:=d;have o:j<b.length:=m;rw[(n i d).1,(n j m).1] at e;injection e with _ e;injection e with e _;have:=ofNat_inj Om Om e;omega
 ·obtain⟨i,d,rfl⟩:=iQ h;exact(n i d).2
 ·obtain⟨i,d,rfl⟩:=iQ h;have g:i<c.length:=d;rw[(k i d).1];exact abd Od Om
 ·refine pT.2 fun i j d m p e=> ?_;have g:i<c.length:=d;have o:j<c.length:=m;rw[(k i d).1,(k j m).1] at e;injection e with _ e;injection e with e _;have:=ofNat_inj Om Om e;omega
 ·obtain⟨i,d,rfl⟩:=iQ h;exact(k i d).2.1
 ·obtain⟨i,d,rfl⟩:=iQ h;exact(k i d).2.2.1
 ·obtain⟨i,d,rfl⟩:=iQ h;exact(k i d).2.2.2
 ·exact l.tK.imp fun h e=>by omega
 ·rcases l.lb with h|⟨q,e,u,_⟩
  ·show -1<=B/\B<b.length
   omega
  ·show -1<=B/\B<b.length
   omega
 ·have C:0<=B:=h;rcases l.lb with A|⟨q,e,u,a,w,v⟩
  ·omega
  ·refine⟨a,?_,v⟩;show b[B.toNat]? =some a
   rw[e];exact w
def an6{d:Func}{R:Ending->World->Prop}(c:d.results= #[.cell a kq])(e:Q.tmps.getD a undef=aI b 0)(f:Q.defers= [])
 (i:ar m b kq [p,q,r,s]) (h:R (.returned (.agg #[p,q,r,s])) m):bodyPost prog d R .ret Q m:=
 bodyPost_ret (results_cell_row c Q.tmps _ b kq #[p,q,r,s] (0,0) _ e i underlying30 rfl Ok) f h
def Tp:Value->Nat
 | .slice _ n _=>n
 |_=>0
def IY:List Value:= [.slice none 0 0,.slice none 0 0,.slice none 0 0,av 0]
def ahI(g b:Nat)(w:au)(h:df w g)(h1:1<=b)(h6:b<=6):
 Calls prog 16 #[aI g 0,av b] w fun e w'=>∃x v,bR x/\x.ai.length<=b/\x.bf.length<=b/\x.ay.length<=3/\e= .returned v/\dN w' v x/\df w' g/\Only g w w':=by
 have HS:=af h;have hg:=h.lt;clear h;go_enter func16,ntmps16;go_upto_region 2 with fail
 refine fR fun W oJ B1 B2=> ?_;have V9:w.heap.size+1<W.heap.size:=B2.lt;have QB:Bs w g w.heap.size W.heap.size:=⟨hg,aK _,V9⟩;have HQ:=af QB;have l9:ah (SB w g w.heap.size W.heap.size IY [.slice none 0 0,.slice none 0 0,.slice none 0 0,av (-1)] W (.slice none 0 0) (.slice none 0 0) (.slice none 0 0) [] [] [] W):=
  ⟨B2,B1,jf,jf,jf,HS.ext oJ,ep oJ,kj _ _,aK _,aK _⟩
 clear B1 B2 QB;go_wp2_with fail;refine(akq g 1 3 W l9.src Od Od).mono ?_;rintro e w1 ⟨n,VD,hn3,rfl,U,Z⟩;have asV:=af (l9.call HQ Z U);clear U Z;go_wp2_with fail
 go_loopw [7] (fun v7 wr=>∃(i:Nat) (va vr:Value) (ai:List kf) (ay:List Rl) (wz:au),i<=n/\v7=av i/\ay.length=i/\ai.length<=b/\(0<i->1<=ai.length)/\ah (E_ ai)/\ah (ry ai.length ay)/\ah (Ng ai.length ay)/\ah (SB w g w.heap.size W.heap.size IY [va,vr,.slice none 0 0,av (-1)] wz va vr (.slice none 0 0) ai ay [] wr)) (fun v7 _=>n - (RowKit.intOf v7).toNat)
 exact⟨0,_,_,[],[],W,aV _,rfl,rfl,aV _,fun h=>by omega,Oe,Oe,Oe,asV⟩;obtain⟨i,va,vr,ai,ay,wz,hi,rfl,I,B,ha1,O,ic,WU,asU⟩:=hrel;have c:=af asU.MZ;obtain⟨E,D,tx,rfl,_,_,_,_⟩:=c.oa.parts;obtain⟨A1,c1,xs1,rfl,_,_,_,_⟩:=c.ol.parts;have gL:=af I;rw[I] at c;clear I;have hb0:=c.blk.aF 0;have F8:W.heap.size<=wr.heap.size:=c.sz;generalize wr=wo at*;have hgo:g<wo.heap.size:=Om;by_cases FU:i<n
 ·go_upto_region 8 with fail
  go_loopw [8,24] (fun P H w2=>∃(j:Nat) (l:List Int),j<=ai.length/\H=av j/\ah (LI ai.length j l)/\ah (bI aS 1 dO wo.heap.size w2 P l)/\ah (SB w g w.heap.size W.heap.size IY [.slice E ai.length D,.slice A1 i c1,.slice none 0 0,av (-1)] wo (.slice E ai.length D) (.slice A1 i c1) (.slice none 0 0) ai ay [] w2)) (fun _ H _=>ai.length - (RowKit.intOf H).toNat)
  exact⟨0,[],aV _,rfl,LI.start _,jf,c⟩;obtain⟨j,l,hj,rfl,t,HOl,ei⟩:=hrel;by_cases hja:j<ai.length
  ·go_wp2_with fail
   refine(ru g 3 wr ei.src Od Od).mono ?_;rintro e w3 ⟨r,hr,rfl,p,d⟩;have f:=af (ei.call HQ d p);have C:=af (HOl.only cK d hgo Oe);obtain⟨Al,cl,xl,rfl,_,_,HR,HC⟩:=C.parts;have oC:=t.len;clear p d;by_cases s:r=0
   ·have hb:((r:Int)==0)=true:=awW;have cM:(l.length+1)*8<=140737488355328:=Om;have hw:wo.heap.size<=w3.heap.size:=f.zz;clear s;go_wp2_with (at_builtin;refine gQ rfl _ _ 22 rfl wo.heap.size jE _ _ _ rfl HR.ae #[av j] 1 1 rfl rfl rfl cM hw ?_)
    intro v' w4 Y M _;have O4:=af (jc (R:=dO) (x:=(j:Int)) cK Oe HR HC rfl Y M);have S4:=af (f.agy HQ F8 (aK _) HR M);clear Y M;go_wp2;go_roundw;exact⟨j+1,l++ [(j:Int)],by omega,by go_num,t.snoc,O4,S4⟩;simp [RowKit.intOf];omega
   ·have hb:((r:Int)==0)=false:=avM;clear s;go_wp2;go_roundw;exact⟨j+1,l,by omega,by go_num,t.skip hja,C,f⟩;simp [RowKit.intOf];omega
  ·obtain rfl:j=ai.length:=Om;go_wp2_with fail;refine(ru g 3 wr ei.src Od Od).mono ?_;rintro e w3 ⟨k,hk,rfl,p,d⟩;have f:=af (ei.call HQ d p);have C:=af (HOl.only cK d hgo Oe);clear p d;go_upto_region 14 with fail
   obtain⟨n0,J⟩:∃n0,ai.length=n0:=⟨_,rfl⟩;have zQ:=af J;rw[J] at f t⊢;clear J;go_loopw [8,10] (fun P v10 w4=>∃(l2:List Int) (lR:List kf) (F:Value) (k2:Int),n0<=lR.length/\lR.length<=b/\0<=k2+l2.length/\k2<=2/\v10=av k2/\ah (E_ lR)/\ah (LI n0 lR.length l2)/\ah (bI aS 1 dO wo.heap.size w4 P l2)/\ah (SB w g w.heap.size W.heap.size IY [F,.slice A1 i c1,.slice none 0 0,av (-1)] wo F (.slice A1 i c1) (.slice none 0 0) lR ay [] w4)) (fun P _ _=>b - Tp P)
   exact⟨l,ai,_,(k:Int),by rw[zQ.ae];exact aK _,B,by omega,by omega,rfl,O,by rw[zQ.ae];exact t,C,f⟩;obtain⟨l2,lR,F,k2,qx,nu,kS,L,rfl,D1,mK,dY,mJ⟩:=hrel;obtain⟨Al,cl,xl,rfl,_,_,HR,HC⟩:=dY.parts;obtain⟨Aa,ca,xa,rfl,_,_,_,_⟩:=mJ.oa.parts;have hb0:=mJ.blk.aF 0;have oC:=mK.len;by_cases hm:lR.length<b
   ·by_cases zu:0<k2
    ·skip
     exact m1
    ·by_cases hl0:l2.length=0
     ·have z:((l2.length:Int)==0)=true:=awW;clear hl0;exact m1
     ·have z:((l2.length:Int)==0)=false:=avM;exact m3
   ·by_cases hl0:l2.length=0
    ·obtain rfl:l2= []:=mh hl0;clear hl0;by_cases zu:0<k2
     ·exact m6
     ·exact m6
    ·have z:((l2.length:Int)==0)=false:=avM;by_cases zu:0<k2
     ·skip
      exact m3
     ·skip
      exact m3
 ·obtain rfl:i=n:=Om;go_upto_region 22 with fail;obtain⟨N,hN⟩:∃N,ai.length=N:=⟨_,rfl⟩;have HN:=af hN;rw[hN] at c hb0 B ha1⊢;clear hN hb0 hi;go_loopw [88] (fun G wr=>∃(j:Nat) (vf:Value) (bf:List Fe) (label:Int),j<=N/\G=av j/\ah (FI ai j bf label)/\ah (SB w g w.heap.size W.heap.size IY [.slice E N D,.slice A1 i c1,vf,av label] wo (.slice E N D) (.slice A1 i c1) vf ai ay bf wr)) (fun G _=>N - (RowKit.intOf G).toNat)
  exact⟨0,_,[], -1,aV _,rfl,FI.start _,c⟩;obtain⟨j,vf,bf,label,hj,rfl,tR,dJ⟩:=hrel;obtain⟨Af,cf,xf,rfl,_,_,_,_⟩:=dJ.of.parts;by_cases VM:j<N
  ·have A:j<ai.length:=by rw[HN.ae];exact VM
   have hAL:AL wr (.slice E N D) ai:=dJ.oa.ls;obtain⟨ga,oa,rfl,_,X,V⟩:=pz hAL A;have X_:ah (ai[j]? =some ai[j]):=aX A;have ar7:=(O j A).2;clear hAL;generalize ai[j]=at_ at*;clear A;obtain⟨nm,kd⟩:=at_;simp only at X V ar7;have z:label= -1\/0<=label:=by
    rcases tR.lb with h|⟨q,h,_,_⟩
    ·exact .inl h
    ·exact .inr Om
   have hgr:g<wr.heap.size:=by have:=dJ.zz;omega
   go_upto_region 24 with fail
   refine aT fun W3 cH BA=> ?_;have dJ:=af (dJ.ext cH);have vy:=af BA.ae;have kS:=vy.aF 1;have hc3:=dJ.blk.aF 3;clear X V BA;by_cases L:kd=2
   ·subst L;rcases z with rfl|hl0
    ·skip
     go_wp2_with fail
     refine(ru g 2 _ (dJ.ae).src Od Od).mono ?_;rintro e wx ⟨r,hr,rfl,rN,pL⟩;have dJ:=af ((dJ.ae).call HQ pL rN);have vy:=af (vy.only pL Om);clear rN pL kS;have kS:=vy.aF 1;clear hc3;by_cases s:r=0
     ·have hb:((r:Int)==0)=true:=awW;have hc0:=dJ.blk.aF 3;have ku:=dJ.blk.frozen 3;obtain⟨W7,iC,S7,oH⟩:=dJ.put HQ 3 (av j);have kA:=af iC;have mf:=af (tR.label X_ rfl);clear iC s;go_upto_region 30 with fail
      rw[kA.ae];clear hc0 ku kS oH;go_wp2_with fail;go_roundw;exact⟨j+1,_,bf,(j:Int),by omega,by go_num,mf,S7⟩;simp [RowKit.intOf];omega
     ·have hb:((r:Int)==0)=false:=avM;clear s;exact m7
    ·have hlt:decide (label<0)=false:=aY;exact m7
   ·have hb:(kd==2)=false:=by rw[beq_eq_false_iff_ne];exact L
    clear hc3;by_cases hk3:kd=3
    ·subst hk3;clear hb;go_wp2_with fail;refine(ru g 4 _ (dJ.ae).src Od Od).mono ?_;rintro e wx ⟨r3,hr3,rfl,rN,pL⟩;have dJ:=af ((dJ.ae).call HQ pL rN);have vy:=af (vy.only pL Om);clear rN pL kS;have kS:=vy.aF 1;by_cases hr3:0<r3
     ·have hb3:decide ((r3:Int)>0)=true:=fU;obtain⟨xf2,rf,cf2⟩:=dJ.of;have RF:=af rf;have CF:=af cf2;clear rf cf2;have hc2:=dJ.blk.aF 2;have cM:(bf.length+1)*24<=140737488355328:=by have:=tR.len;omega
      have Q:=dJ.sz;go_wp2_with (at_builtin;refine gQ rfl _ _ 28 rfl W.heap.size abv _ _ _ rfl RF.ae #[av j,av 2,av 0] 1 1 rfl rfl rfl cM Q ?_);intro v' wq hZ iX _;obtain⟨Aq,cq,rfl,_,_,_⟩:=ej hZ;have S6:=af (dJ.agz HQ (x:=((j:Int),2,0)) rfl RF.ae CF hZ iX);clear hZ iX hc2 cM Q;have hc0:=S6.blk.aF 2;have ku:=S6.blk.frozen 2;obtain⟨W7,iC,S7,oH⟩:=S6.put HQ 2 (.slice Aq (bf.length+1) cq);have kA:=af iC;have mf:=af (tR.snoc X_ (k:=2) (m:=0) (.inr ⟨rfl,rfl,rfl⟩));clear iC;go_upto_region 30 with fail
      rw[kA.ae];clear hc0 ku kS oH;go_wp2_with fail;go_roundw;exact⟨j+1,_,bf++ [((j:Int),2,0)],label,by omega,by go_num,mf,S7⟩;simp [RowKit.intOf];omega
     ·have hb3:decide ((r3:Int)>0)=false:=aY;exact aeL
    ·have hb3:(kd==3)=false:=by rw[beq_eq_false_iff_ne];exact hk3
     exact aeL
  ·obtain rfl:j=N:=Om;have mf:ah (FI ai ai.length bf label):=by rw[HN.ae];exact tR
   rw[<-HN.ae] at dJ B ha1⊢;have hf8:¬(8<bf.length):=by have:=mf.len;omega
   have avp:decide (bf.length>8)=false:=decide_eq_false hf8;have aN:=af (aou O ic WU mf Om Om (by rw[gL.ae];omega) (by rw[gL.ae];omega));have zM:ah (dN wr (.agg #[.slice E ai.length D,.slice A1 i c1,.slice Af bf.length cf,av label]) ⟨ai,ay,bf,label⟩):=by
    refine⟨E,D,A1,c1,Af,cf,?_,dJ.oa.ls,?_,dJ.of.ls⟩
    ·show _=Value.agg #[_,.slice A1 ay.length c1,_,_]
     rw[gL.ae]
    ·have h:=dJ.MZ.ol.ls;show xh wr (.slice A1 ay.length c1) ay
     rw[gL.ae];exact h
   obtain⟨k0,k1,k2,k3⟩:=dJ.blk.four;obtain⟨j0,j1,j2,j3⟩:=dJ.res.four;obtain⟨f0,f1,f2,f3⟩:=dJ.res.eX;obtain⟨W',hW',B7,K7,N7⟩:=Cl dJ.res (.slice E ai.length D) (.slice A1 i c1) (.slice Af bf.length cf) (av label);have HW:=af hW';have oL:=af (dJ.src.past N7 Om);have r_:=af (dJ.on.fresh N7 (aK _));have Dw:=af (zM.kept K7 Od Od Od Od);have lZ:bf.length<=b:=by have:=mf.len;omega
   clear hW';go_wp2;rw[HW.ae];exact an6 rfl rfl rfl B7.ae ⟨_,_,aN,B,lZ,by show ay.length<=3;have h:=gL.ae;omega,rfl,Dw,oL,r_⟩
def ajG(A:aR)(n c:Nat)(xs:List Value)(w:au)(x:A=none->c=0)(o:Sl w aS A xs)(s:xs=n*1)(r:n<=c)(y:∀u∈xs,u.oneCell'=true)(E:n<=1000000):
 Calls prog 232 #[.slice A n c] w fun e w'=>∃d,e= .returned d/\w'.ownsRow w.heap.size aS 1 d n xs/\Ext w w':=by
 have C:=af o;have D:=af y;have l:=af s;rcases A with _|j
 ·have v:=x rfl;subst v;obtain rfl:n=0:=Om;have m:xs= []:=mh (by rw[l.ae]);subst m;have p:=fun w=>PV w 22 aS none 0 0 0 0 jE.ht;go_enter func232,ntmps232;go_wp2;go_ret;exact⟨_,rfl,mQ _ _ _ _,aB w⟩
 ·have k:=af (aa9 w aS 1);have g:=af (C.ext ((aB w).alloc (.cells #[] aS)));have f:(0+n)*8<=140737488355328:=Om;have p:=fun w=>PV w 22 aS (some j) n c 0 0 jE.ht;go_enter func232,ntmps232;go_wp2_with (at_builtin;refine AO rfl _ _ 22 rfl w.heap.size jE _ _ _ rfl k.ae (some j) n c xs rfl Oe l g D f Ou ?_)
  intro d w' q t _;have B:ah (Ext w w'):=mn ((aB w).alloc _) k t (aK _);have i:ah (w'.ownsRow w.heap.size aS 1 d n xs):=by rw[ah];simpa using q
  go_wp2;go_ret;exact⟨_,rfl,i,B⟩
def acf{α:Type}{R:World->List Value->α->Prop}{w:au}{n:Nat}{l:List α}(h:Ls x R w (.slice E n c) l):
 n=l/\n<=c/\(E=none->c=0)/\∃xs,Sl w x E xs/\Ch (R w) xs l:=by
 obtain⟨q,p,xs,e,i,o,g,f,d⟩:=h;injection e with m k j;subst m k j;exact⟨rfl,i,g,xs,f,d⟩
def ape{α:Type}{k:Nat}{R:World->List Value->α->Prop}{w:au}{base n:Nat}{xs:List Value}{l:List α}(h:w.ownsRow base x k p n xs)(d:n=l)(e:Ch (R w) xs l):∃A c,p= .slice A n c/\Ls x R w (.slice A n c) l:=by subst d;obtain⟨A,c,rfl,_,_,_⟩:=ej h;exact⟨A,c,rfl,bI.ls (base:=base) (k:=k) ⟨xs,h,e⟩⟩
section
variable{a w w':au}{b bo base n:Nat}{ss z cs xs:List Value}{va vr vf UQ UR:Value}{ai:List kf}{ay:List Rl}{bf:List Fe}
end
def EU{n:Int}:∀{l:List Int} {k:Int},l.Pairwise (·<·)->(∀a∈l,k<=a/\a<n)->l= []\/(l.length:Int)+k<=n
 | [],_,_,_=> .inl rfl
 |x::l,k,f,h=>by
  have g:=h x Ou;have c:=mP.1 f;right;rcases EU (k:=x+1) c.2 (fun a d=>⟨by have:=c.1 a d;omega,(h a awE).2⟩) with e|e
  ·subst e;simp only[cP,yg];omega
  ·simp only[cP];omega
def aaQ(s:List UInt8)(w:au)(h:pE s):
 Calls prog 173 #[aL s] w fun e z=>e= .returned (.bool true)/\Ext w z:=by
 obtain⟨d,C,u,v⟩:=h;have D:=af u;have F:=af v;clear u v;have b:∀(i:Nat) (h:i<s),(⟨s.toArray⟩:ByteArray)[i]'h=s[i]:=fun i h=>rfl;have E:=af b;have k:=b 0 Om;have a:=D _ (aX (show 0<s.length by omega));clear b;generalize s[0]=r at k a;have p:97<=r.toNat/\r.toNat<=122:=⟨sI.1 a.1,sI.1 a.2⟩;obtain⟨t,g⟩:∃n,r.toNat=n:=⟨_,rfl⟩;rw[g] at p;clear a;have A:((s.length:Int)==0)=false:=avM;have l:decide ((s.length:Int)>12)=false:=aY;have d97:decide ((t:Int)<97)=false:=aY;have d122:decide ((t:Int)>122)=false:=aY;go_enter func173,ntmps173;go_upto_region 3 with fail
 go_wp2_with fail
 clear k g A l d97 d122;go_loopw [3] (fun o wr=>∃i:Nat,i<=s/\o=av i/\ah (Ext w wr)) (fun o _=>s - (RowKit.intOf o).toNat);exact⟨0,aV _,rfl,aB _⟩;obtain⟨i,G,rfl,rW⟩:=hrel;by_cases j:i<s
 ·have B:=E i j;have a:=F _ (a_ j);generalize s[i]=c at B a;obtain⟨m,q⟩:∃m,c.toNat=m:=⟨_,rfl⟩;have p:(97<=m/\m<=122)\/(m<97/\(m=45\/(48<=m/\m<=57))):=by
   rcases a with a|a|a
   ·have d:=sI.1 a.1;have f:=sI.1 a.2;rw[q] at d f;exact .inl ⟨d,f⟩
   ·have d:=sI.1 a.1;have f:=sI.1 a.2;rw[q] at d f;have y:m<=57:=f;have x:48<=m:=d;exact .inr ⟨by omega,.inr ⟨x,y⟩⟩
   ·have d:m=45:=by rw[<-q,a];rfl
    exact .inr ⟨by omega,.inl d⟩
  clear a;rcases p with⟨f,y⟩|⟨f,rfl|⟨x,H⟩⟩
  ·have d1:decide ((m:Int)≥97)=true:=fU;have d2:decide ((m:Int)<=122)=true:=fU;go_wp2;exact Fs
  ·go_wp2;exact Fs
  ·have d1:decide ((m:Int)≥97)=false:=aY;have d2:decide ((m:Int)≥48)=true:=fU;have d3:decide ((m:Int)<=57)=true:=fU;go_wp2;exact Fs
 ·obtain rfl:i=s.length:=Om;go_wp2;go_ret;exact⟨rfl,rW⟩
def gJ(z:Int):Prop:= -1000000000<=z/\z<=1000000000
def gJ.lt{z:Int}(h:gJ z):z.natAbs<10^10:=by unfold gJ at h;omega
def gJ.zE(h:gJ B):nDigits B.natAbs<=400:=a7 (yC (e:=9) h.lt) Od
def gJ.asu(h:gJ B):cE B:=⟨10,by decide,h.lt⟩
def gJ.two(h:gJ B):(aW B.natAbs).length<=2:=by have:=Zc h.lt;omega
def ai5(v:Value)(z:Int)(w:au)(h:cj w v z)(b:gJ z):
 Calls prog 169 #[v] w fun e a=>e= .returned (.tuple #[av z,.bool true])/\Ext w a:=by
 obtain⟨s,rfl,A,c,rfl,G,o⟩:=h;have q:=b.two;have x:=dm z.natAbs;have y:=(cW z.natAbs).1;have f:=pg q;have F:z.natAbs<=1000000000:=by unfold gJ at b;omega
 have p:=af (fun a (l:Ext w a)=>EZ A c (aW z.natAbs) 2 a Om Od (o.ext l));have g:=af (fun a (l:Ext w a)=>Hx A c (aW z.natAbs) a q y (o.ext l));rw[f] at p;rw[x] at g;have H:=af o;generalize(aW z.natAbs).length=n at*;have d:z=if decide (z<0) then -(z.natAbs:Int) else (z.natAbs:Int):=by
  by_cases h:z<0
  ·rw[decide_eq_true h];simp;omega
  ·rw[decide_eq_false h];simp;omega
 have i:=af d;clear d;generalize decide (z<0)=k at*;generalize z.natAbs=m at*;have d3:decide ((n:Int)>3)=false:=aY;have d62:decide ((m:Int)>4611686018427387904)=false:=aY;have u:IntKind.i64.wrap (m:Int)=(m:Int):=awe;have t:IntKind.i64.wrap (-(m:Int))= -(m:Int):=awe;have r:IntKind.u64.wrap (m:Int)=(m:Int):=avX;go_enter func169,ntmps169;go_upto_region 1 with fail
 refine aT fun W j B=> ?_;obtain⟨E,D⟩:=B.two;go_wp2_with fail;refine(p _ j).mono ?_;rintro e C ⟨rfl,rfl⟩;go_upto_region 3 with fail
 go_quiet (first|(go_at_call 199;exact M0 (p _ (j.drewN _)))|(go_at_call 211;exact M0 (g _ (j.drewN _))));cases k with
 |true=>
  have b:z= -(m:Int):=by simpa using i.ae
  subst b;go_wp2;go_ret2;exact⟨rfl,j.drewN _⟩
 |false=>
  have b:z=(m:Int):=by simpa using i.ae
  subst b;go_wp2;go_ret2;exact⟨rfl,j.drewN _⟩
def acn(z:Int)(w:au)(b:gJ z):
 Calls prog 96 #[aL (aQ z)] w fun e a=>e= .returned (.tuple #[av z,.bool true])/\Ext w a:=by
 have V:=af (fun a=>Hv z a b.zE);have R:=af (fun a=>RB z a b.asu.wide);have k:=af (fun v a (h:cj a v z)=>ai5 v z a h b);generalize aQ z=t at*;go_enter func96,ntmps96;go_wp2_with fail
 refine(V w).mono ?_;rintro e i ⟨rfl,f⟩;go_wp2_with fail;refine(R i).mono ?_;rintro e g ⟨v,rfl,j,d⟩;go_wp2_with fail;refine(k v g j).mono ?_;rintro e l ⟨rfl,c⟩;go_wp2;go_ret2;exact⟨rfl,f.trans (d.trans c)⟩
def aah(w:au):Calls prog 137 #[.string ⟨#[]⟩] w fun e a=>e= .returned (.bool false)/\Ext w a:=by have b:ah (trimPrefix [] [45]= []):=rfl;go_enter func137,ntmps137;go_wp2_with fail;refine(Tryz.strings_TrimPrefix _ _ w).mono ?_;rintro e c ⟨rfl,rfl⟩;simp only[b.ae];go_wp2;go_ret;exact⟨rfl,aB _⟩
def am7(w:au):Calls prog 96 #[.string ⟨#[]⟩] w fun e b=>e= .returned (.tuple #[av 0,.bool false])/\Ext w b:=by go_enter func96,ntmps96;go_wp2_with fail;refine(aah w).mono ?_;rintro e c ⟨rfl,a⟩;go_wp2;go_ret2;exact⟨rfl,a⟩
def adk(z:Int)(w:au)(b:gJ z):
 Calls prog 94 #[aL (aQ z)] w fun e a=>e= .returned (.bool true)/\Ext w a:=by
 have S:=af (fun a=>acn z a b);have d1:=decide_eq_true b.1;have d2:=decide_eq_true b.2;generalize aQ z=t at*;go_enter func94,ntmps94;go_wp2_with fail
 refine(S w).mono ?_;rintro e d ⟨rfl,c⟩;go_wp2;go_ret;exact⟨rfl,c⟩
def aiI(w:au):Calls prog 71 #[.string ⟨#[]⟩] w fun e d=>e= .returned (.bool false)/\Ext w d:=by go_enter func71,ntmps71;go_wp2_with fail;refine(MB [] w Od Ou).mono ?_;rintro e c ⟨rfl,b⟩;go_wp2_with fail;refine(aah c).mono ?_;rintro e f ⟨rfl,a⟩;go_wp2;go_ret;exact⟨rfl,b.trans a⟩
def akA(w:au):Calls prog 95 #[.string ⟨#[]⟩] w fun e b=>e= .returned (.tuple #[.string ⟨#[]⟩,.string ⟨#[]⟩,.bool false])/\Ext w b:=by go_enter func95,ntmps95;go_wp2_with fail;refine(aiI w).mono ?_;rintro e c ⟨rfl,a⟩;go_wp2;go_ret3;exact⟨rfl,a⟩
def aa5(q:Rat)(w:au)(i:bF 400 q):
 Calls prog 95 #[aL (bS q)] w fun e g=>e= .returned (.tuple #[aL (aQ q.num),aL (aQ q.den),.bool true])/\Ext w g:=by
 have V:=af (fun g=>ZW q g i);have o:=ub q.num;have n:=i.dn;have p:=i.dd;by_cases l:q.den=1
 ·have m:=af (nP l);have k:aQ q.den= [49]:=by rw[l];exact ui
  rw[m.ae] at V⊢;rw[k];have c:=sV q.num;generalize aQ q.num=a at*;have HC:=af (fun w=>MB a w Om c);exact m96
 ·have m:=af (o_ l);have j:decDigits q.den=aQ q.den:=(p6 _).symm;have c:=sV q.num;have d:=AU q.den;have f:(aQ q.num).length+(decDigits q.den).length<=10000000:=awH;rw[m.ae] at V⊢;rw[j] at d f V⊢;generalize aQ q.num=a at*;generalize aQ q.den=b at*;have HC:=af (fun w=>Sw a b w f d c);generalize a++47::b=r at*;exact m96
def lC(q:Rat):Prop:=gJ q.num/\q.den<=12
def lC.fit(h:lC H):bF 400 H:=bF.mono (e:=10) ⟨h.1.lt,by have:=h.2;omega⟩ Od
def lC.den(h:lC H):gJ (H.den:Int):=by have:=h.2;unfold gJ;omega
def UL(v:List UInt8):Prop:=v= [114,101,100]\/v= [103,114,101,101,110]\/v= [98,108,117,101]
def fL(a:Int)(v:List UInt8):Prop:=v= []\/(a=3/\pE v/\UL v)\/(a=1/\∃z:Int,v=aQ z/\gJ z)\/(a=2/\∃q:Rat,v=bS q/\lC q)
def SZ(z:Int):aQ z≠ []:=by intro h;have a:=(Mg z).1;rw[h] at a;exact AU z.natAbs (a.symm.trans rfl)
def QX(q:Rat):bS q≠ []:=by
 by_cases h:q.den=1
 ·rw[nP h];exact SZ _
 ·rw[o_ h];simp
def q70.T5(h:aq:=by refine(t W).mono ?_;rintro e f ⟨rfl,b⟩;go_wp2;go_ret;exact⟨rfl,HX.trans b⟩):=h
def q71.T5(h:aq:=by refine(l W).mono ?_;rintro e f ⟨rfl,b⟩;go_wp2;go_ret;exact⟨rfl,HX.trans b⟩):=h
def q72.T5(h:aq:=by refine(x W).mono ?_;rintro e f ⟨rfl,b⟩;go_wp2_with fail;refine(u f).mono ?_;rintro e m ⟨rfl,d⟩;go_wp2_with fail;refine(l m).mono ?_;rintro e y ⟨rfl,k⟩;go_wp2;go_ret;exact⟨rfl,HX.trans (b.trans (d.trans k))⟩):=h
def RU(p v:List UInt8)(a:Int)(w:au)(C:1<=a/\a<=3)(h:fL a v):
 Calls prog 44 #[.agg #[aL p,av a],aL v] w fun e c=>e= .returned (.bool true)/\Ext w c:=by
 have j:a=1\/a=2\/a=3:=Om;rcases h with rfl|⟨rfl,n, -⟩|⟨rfl,z,rfl,r⟩|⟨rfl,q,rfl,g⟩
 ·rcases j with rfl|rfl|rfl
  ·go_enter func44,ntmps44;exact aeR
  ·go_enter func44,ntmps44;go_upto_region 1 with fail
   refine aT fun W HX BX=> ?_;obtain⟨s0,s1⟩:=BX.two;go_wp2_with fail;refine(akA W).mono ?_;rintro e f ⟨rfl,b⟩;go_wp2_with fail;refine(am7 f).mono ?_;rintro e m ⟨rfl,d⟩;go_wp2;go_ret;exact⟨rfl,HX.trans (b.trans d)⟩
  ·go_enter func44,ntmps44;exact aeR
 ·have t:=af (fun c=>abL v c n);have i:(v== [])=false:=(by rw[beq_eq_false_iff_ne];intro h;have:=n.1;rw[h] at this;cases this)
  open q70 in exact TT
 ·have l:=af (fun c=>adk z c r);have i:(aQ z== [])=false:=by rw[beq_eq_false_iff_ne];exact SZ z
  generalize aQ z=v at*;open q71 in exact TT
 ·have x:=af (fun c=>aa5 q c g.fit);have l:=af (fun c=>adk q.num c g.1);have u:=af (fun c=>acn q.den c g.den);have i:(bS q== [])=false:=by rw[beq_eq_false_iff_ne];exact QX q
  have s:=q.den_pos;have o:=g.2;have d1:=fU;have d2:decide ((q.den:Int)<=12)=true:=fU;generalize bS q=v at*;generalize aQ q.num=A at*;generalize aQ q.den=B at*;generalize q.den=D at*;clear g j;open q72 in exact TT

structure zH{α:Type}(lt:α->α->Bool):Prop where
 pK:∀a,lt a a=false
 tr:∀a b c,lt a b=true->lt b c=true->lt a c=true
 Fp:∀a b,lt a b=false->lt b a=false->a=b
def lexB{α:Type} [BEq α](c:α->α->Bool):List α->List α->Bool
 |_,[]=>false
 | [],_::_=>true
 |a::x,b::y=>c a b||(a==b&&lexB c x y)
def zH.lex{α:Type} [BEq α] [LawfulBEq α]{i:α->α->Bool}(h:zH i):zH (lexB i) where
 pK:=fun a=>by
  induction a with
  |nil=>rfl
  |cons x l g=>simp [lexB,h.pK,g]
 tr:=fun a=>by
  induction a with
  |nil=>
   intro b c f d;cases c with
   |nil=>simp [lexB] at d
   |cons z m=>rfl
  |cons x l g=>
   intro b c f d;cases b with
   |nil=>simp [lexB] at f
   |cons y m=>
    cases c with
    |nil=>simp [lexB] at d
    |cons z n=>
     simp only[lexB,kE,cZ,beq_iff_eq] at f d⊢;rcases f with f|⟨rfl,f⟩
     ·rcases d with d|⟨rfl,d⟩
      ·exact .inl (h.tr _ _ _ f d)
      ·exact .inl f
     ·rcases d with d|⟨rfl,d⟩
      ·exact .inl d
      ·exact .inr ⟨rfl,g _ _ f d⟩
 Fp:=fun a=>by
  induction a with
  |nil=>
   intro b f d;cases b with
   |nil=>rfl
   |cons y m=>simp [lexB] at f
  |cons x l g=>
   intro b f d;cases b with
   |nil=>simp [lexB] at d
   |cons y m=>simp only[lexB,Bool.or_eq_false_iff] at f d;have e:=h.Fp _ _ f.1 d.1;subst e;have k:=f.2;have j:=d.2;simp only[beq_self_eq_true,LH] at k j;rw[g _ k j]
def zH.asym{α:Type}{c:α->α->Bool}(h:zH c){a b:α}(e:c a b=true):c b a=false:=by
 cases d:c b a with
 |false=>rfl
 |true=>rw[<-h.pK a,h.tr _ _ _ e d]
def alw:Op.bytesLess=lexB (fun a b:UInt8=>decide (a<b)):=by
 funext x
 induction x with
 |nil=>funext y;cases y<;>rfl
 |cons a l c=>funext y;cases y with
  |nil=>rfl
  |cons b m=>simp [Op.bytesLess,lexB,c]
def anG:zH (fun a b:UInt8=>decide (a<b)) where
 pK:=fun a=>by simp
 tr:=fun a b c e d=>by simp only[decide_eq_true_eq] at e d⊢;exact UInt8.lt_trans e d
 Fp:=fun a b e d=>by simp only[decide_eq_false_iff_not] at e d;exact UInt8.le_antisymm (UInt8.not_lt.1 d) (UInt8.not_lt.1 e)
def g7:List (List UInt8)->List (List UInt8)->Bool:=lexB Op.bytesLess
def vN:zH Op.bytesLess:=by rw[alw];exact anG.lex
def MO:zH g7:=vN.lex
def Mr:∀{a b:List (List UInt8)} {i:Nat},a.take i=b.take i->g7 a b=g7 (a.drop i) (b.drop i)
 |a,b,0,_=>rfl
 | [],b,i+1,h=>by
   cases b with
   |nil=>rfl
   |cons y m=>simp at h
 |x::l,[],i+1,h=>by simp at h
 |x::l,y::m,i+1,h=>by
  simp only[PY,Lz] at h;obtain⟨rfl,h⟩:=h;rw[List.drop_succ_cons,List.drop_succ_cons,<-Mr h];show(Op.bytesLess x x||(x==x&&g7 l m))=_
  rw[vN.pK];simp
def adF{c b:List (List UInt8)}(f:a<c)(e:a<b)(h:c.take a=b.take a)(d:(c[a]==b[a])=false):g7 c b=Op.bytesLess c[a] b[a]:=by
 rw[Mr h,jR f,jR e];show(Op.bytesLess c[a] b[a]||(c[a]==b[a]&&_))=_
 rw[d];simp
def ace{a b:List (List UInt8)}(c:a<b.length)(h:a.take a.length=b.take a.length):g7 a b=true:=by rw[Mr h,Y6,jR c];rfl
def Sg{a b:List (List UInt8)}(h:a.take b=b.take b):g7 a b=false:=by rw[Mr h,Y6];cases a.drop b<;>rfl
structure SR(α:Type) where
 zero:α
 one:α
 add:α->α->α
 mul:α->α->α
 aa:∀a b c,add (add a b) c=add a (add b c)
 ac:∀a b,add a b=add b a
 az:∀a,add zero a=a
 ma:∀a b c,mul (mul a b) c=mul a (mul b c)
 mc:∀a b,mul a b=mul b a
 mo:∀a,mul one a=a
 mz:∀a,mul zero a=zero
 ds:∀a b c,mul a (add b c)=add (mul a b) (mul a c)
inductive Fo where
 |nil:Fo
 |cons (v:Nat) (homes:List Nat) (below next:Fo):Fo
def Fo.vars:Fo->List Nat
 | .nil=> []
 | .cons v _ b n=>v::(b.vars++n.vars)
def Fo.homes:Fo->List Nat
 | .nil=> []
 | .cons _ a b n=>a++(b.homes++n.homes)
section
variable{α β:Type}(R:SR α)
def SR.sum(l:List β)(f:β->α):α:=l.foldr (fun x s=>R.add (f x) s) R.zero
def SR.prod{γ:Type}(l:List γ)(f:γ->α):α:=l.foldr (fun x s=>R.mul (f x) s) R.one
def put(b:Nat->β)(v:Nat)(x:β):Nat->β:=fun a=>if a=v then x else b a
def Fo.val(U:List β)(g:Nat->β->α)(W:Nat->(Nat->β)->α):Fo->(Nat->β)->α
 | .nil,_=>R.one
 | .cons v c b n,a=>R.mul (R.sum U fun x=>R.mul (R.mul (g v x) (R.prod c fun h=>W h (put a v x))) (b.val U g W (put a v x))) (n.val U g W a)
def Fo.wP(a:Nat->(Nat->β)->List β)(g:Nat->β->α)(W:Nat->(Nat->β)->α):Fo->(Nat->β)->α
 | .nil,_=>R.one
 | .cons v d b n,c=>R.mul (R.sum (a v c) fun x=>R.mul (R.mul (g v x) (R.prod d fun h=>W h (put c v x))) (b.wP a g W (put c v x))) (n.wP a g W c)
variable{R}
theorem SR.mz'(a:α):R.mul a R.zero=R.zero:=by rw[R.mc,R.mz]
def ux:=@SR.mz'
theorem SR.zh(a:α):R.mul a R.one=a:=by rw[R.mc,R.mo]
theorem SR.ds'(a b c:α):R.mul (R.add a b) c=R.add (R.mul a c) (R.mul b c):=by rw[R.mc,R.ds,R.mc c a,R.mc c b]
theorem SR.sum_cons{x:β}{l:List β}{f:β->α}:R.sum (x::l) f=R.add (f x) (R.sum l f):=rfl
def jD:=@SR.sum_cons
theorem SR.aub{l:List β}{f h:β->α}(e:∀x∈l,f x=h x):R.sum l f=R.sum l h:=by
 induction l with
 |nil=>rfl
 |cons x l a=>rw[jD,jD,e x Ou,a fun y b=>e y av9]
def vJ:=@SR.aub
theorem SR.auh{l:List β}{f:β->α}(e:∀x∈l,f x=R.zero):R.sum l f=R.zero:=by
 induction l with
 |nil=>rfl
 |cons x l a=>rw[jD,e x Ou,R.az,a fun y b=>e y av9]
def QN:=@SR.auh
theorem SR.abR{l m:List β}{f:β->α}(h:l.Perm m):R.sum l f=R.sum m f:=by
 induction h with
 |nil=>rfl
 |cons x _ a=>rw[jD,jD,a]
 |swap x y l=>rw[jD,jD,jD,jD,<-R.aa,<-R.aa,R.ac (f y)]
 |trans _ _ c b=>rw[c,b]
theorem SR.sum_add{l:List β}{f h:β->α}:R.sum l (fun x=>R.add (f x) (h x))=R.add (R.sum l f) (R.sum l h):=by
 induction l with
 |nil=>exact(R.az _).symm
 |cons x l a=>rw[jD,jD,jD,a,R.aa,R.aa,<-R.aa (h x),R.ac (h x),R.aa]
theorem SR.prod_cons{γ:Type}{x:γ}{l:List γ}{f:γ->α}:R.prod (x::l) f=R.mul (f x) (R.prod l f):=rfl
def k7:=@SR.prod_cons
theorem SR.at7{γ:Type}{l:List γ}{f h:γ->α}(e:∀x∈l,f x=h x):R.prod l f=R.prod l h:=by
 induction l with
 |nil=>rfl
 |cons x l a=>rw[k7,k7,e x Ou,a fun y b=>e y av9]
def yo:=@SR.at7
theorem SR.auc{γ:Type}{l:List γ}{f:γ->α}{x:γ}(a:x∈l)(e:f x=R.zero):R.prod l f=R.zero:=by
 induction l with
 |nil=>cases a
 |cons y l b=>
  rw[k7];rcases aJ.1 a with rfl|a
  ·rw[e,R.mz]
  ·rw[b a,ux]
def Qq:=@SR.auc
theorem SR.anY [DecidableEq β]{U:List β}{f:β->α}(k:U.Nodup):∀{c:List β},c.Nodup->(∀x∈c,x∈U)->(∀x∈U,x∉c->f x=R.zero)->R.sum U f=R.sum c f:=by
 intro c;induction c generalizing U with
 |nil=>intro _ _ h;exact QN fun x g=>h x g Ou
 |cons x c l=>
  intro j a m;obtain⟨g,j⟩:=i6.1 j;have n:=List.perm_cons_erase (a x Ou);rw[SR.abR n,jD,jD,l (k.erase x) j (fun y d=>by
   have b:y≠x:=fun e=>g (e▸d);exact(List.mem_erase_of_ne b).2 (a y awE)) (fun y d i=>by
   have b:y≠x:=fun e=>by subst e;exact(List.Nodup.not_mem_erase k) d
   exact m y (List.mem_of_mem_erase d) (by simp [b,i]))]
def Alike(l:List Nat)(e b:Nat->β):Prop:=∀a,a∉l->b a=e a
theorem Fo.val_zero{U:List β}{g:Nat->β->α}{W:Nat->(Nat->β)->α}{h:Nat}:∀(f:Fo) (d:Nat->β),h∈f.homes->(∀j,Alike f.vars d j->W h j=R.zero)->f.val R U g W d=R.zero
 | .nil,_,c,_=>by cases c
 | .cons v o b n,d,c,k=>by
   unfold Fo.val;rcases bV.1 c with c|c
   ·rw[QN (fun x _=> ?_),R.mz];have m:W h (put d v x)=R.zero:=k _ fun a i=>if_neg (fun e=>i (by simp [Fo.vars,e]));rw[Qq c m,ux,R.mz]
   ·rcases bV.1 c with c|c
    ·rw[QN (fun x _=> ?_),R.mz];rw[Fo.val_zero b _ c (fun j l=>k j fun a i=> ?_),ux];rw[l a (fun h=>i awt)];unfold put;rw[if_neg (fun e=>i (by simp [Fo.vars,e]))]
    ·rw[Fo.val_zero n d c (fun j l=>k j fun a i=>l a (fun h=>i awt)),ux]
def Fo.Right(U:List β)(a:Nat->(Nat->β)->List β)(g:Nat->β->α)(W:Nat->(Nat->β)->α)(R:SR α):Fo->Prop
 | .nil=>True
 | .cons v e b n=>(∀c,(a v c).Nodup/\(∀x∈a v c,x∈U)/\∀x∈U,x∉a v c->g v x=R.zero\/∃h∈e++b.homes,∀d,Alike b.vars (put c v x) d->W h d=R.zero)/\b.Right U a g W R/\n.Right U a g W R
theorem Fo.auk [DecidableEq β]{U:List β}{d:Nat->(Nat->β)->List β}{g:Nat->β->α}{W:Nat->(Nat->β)->α}(j:U.Nodup):∀(f:Fo) (c:Nat->β),f.Right U d g W R->f.wP R d g W c=f.val R U g W c
 | .nil,_,_=>rfl
 | .cons v l b n,c,⟨r,q,p⟩=>by
   unfold Fo.wP Fo.val;obtain⟨u,t,s⟩:=r c;rw[Fo.auk j n c p,vJ (h:=fun x=>R.mul (R.mul (g v x) (R.prod l fun h=>W h (put c v x))) (b.val R U g W (put c v x))) (fun x _=>by rw[Fo.auk j b _ q]),
    SR.anY (R:=R) (f:=fun x=>R.mul (R.mul (g v x) (R.prod l fun h=>W h (put c v x))) (b.val R U g W (put c v x))) j u t (fun x m i=> ?_)]
   rcases s x m i with o|⟨h,e,k⟩
   ·rw[o,R.mz,R.mz]
   ·rcases bV.1 e with e|e
    ·rw[Qq e (k _ fun a _=>rfl),ux,R.mz]
    ·rw[Fo.val_zero b _ e k,ux]
def Hu:=@Fo.auk
def Fo.Wf(c:Nat->List Nat):Fo->Prop
 | .nil=>True
 | .cons v d b n=>(∀h∈d,∀a∈c h,a∉b.vars)/\(∀h∈d++b.homes,∀a∈c h,a∉n.vars)/\(∀h∈n.homes,∀a∈c h,a∉v::b.vars)/\b.Wf c/\n.Wf c
theorem Fo.at'{U:List β}{g:Nat->β->α}{W:Nat->(Nat->β)->α}{o:Nat->List Nat}(hW:∀h e t,(∀a∈o h,t a=e a)->W h t=W h e):
 ∀(f:Fo) (j i:Nat->β),f.Wf o->(∀h∈f.homes,∀a∈o h,a∉f.vars->i a=j a)->f.val R U g W i=f.val R U g W j
 | .nil,_,_,_,_=>rfl
 | .cons v B b n,j,i,⟨z,s,y,w,u⟩,p=>by
   unfold Fo.val;rw[Fo.at' hW n j i u (fun h k a l m=>p h aw5 a l (fun c=>by
    have q:=y h k a l;simp only[Fo.vars,aJ,bV] at c q;rcases c with c|c|c
    ·exact q (.inl c)
    ·exact q (.inr c)
    ·exact m c))]
   congr 1
   refine vJ fun x _=> ?_;rw[yo (fun h k=>hW h (put j v x) (put i v x) fun a l=> ?_),Fo.at' hW b (put j v x) (put i v x) w (fun h k a l m=> ?_)]
   ·unfold put;by_cases d:a=v
    ·rw[if_pos d,if_pos d]
    ·rw[if_neg d,if_neg d];refine p h aw5 a l fun c=> ?_;have r:=s h (by simp [k]) a l;simp only[Fo.vars,aJ,bV] at c;rcases c with c|c|c
     ·exact d c
     ·exact m c
     ·exact r c
   ·unfold put;by_cases d:a=v
    ·rw[if_pos d,if_pos d]
    ·rw[if_neg d,if_neg d];refine p h aw5 a l fun c=> ?_;have A:=z h k a l;have r:=s h (by simp [k]) a l;simp only[Fo.vars,aJ,bV] at c;rcases c with c|c|c
     ·exact d c
     ·exact A c
     ·exact r c
def Qy:=@Fo.at'
theorem SR.ab6{γ:Type}{r:γ}{f g d:γ->α}:∀{l:List γ},l.Nodup->r∈l->f r=R.add (g r) (d r)->(∀h∈l,h≠r->f h=g h/\f h=d h)->R.prod l f=R.add (R.prod l g) (R.prod l d)
 | [],_,h,_,_=>by cases h
 |x::l,k,h,m,c=>by
  obtain⟨j,k⟩:=i6.1 k;rw[k7,k7,k7];rcases aJ.1 h with rfl|h
  ·rw[yo (h:=f) (f:=g) (fun y a=>((c y avS (fun e=>j (e▸a))).1).symm),yo (h:=f) (f:=d) (fun y a=>((c y avS (fun e=>j (e▸a))).2).symm),m,SR.ds']
  ·have b:x≠r:=fun e=>j (e▸h);rw[SR.ab6 k h m (fun y a i=>c y avS i),R.ds,<-(c x Ou b).1,<-(c x Ou b).2]
end
section
variable{α β:Type}
def Fo.Ok(c:Nat->List Nat)(d:List Nat):List Nat->Fo->Prop
 |_,.nil=>True
 |S,.cons v e b n=>(∀h∈e,v∈c h/\∀a∈c h,a=v\/a∈S)/\(∀h∈d,v∈c h->h∈e++b.homes)/\b.Ok c d (v::S)/\n.Ok c d S
theorem Fo.Ok.cover{e:Nat->List Nat}{l:List Nat}:∀{f:Fo} {S:List Nat},f.Ok e l S->∀h∈f.homes,∀a∈e h,a∈S\/a∈f.vars
 | .nil,_,_,h,c,_,_=>by cases c
 | .cons v m b n,S,⟨k,_,j,i⟩,h,c,a,g=>by
   simp only[Fo.vars,aJ,bV];rcases bV.1 c with c|c
   ·rcases(k h c).2 a g with rfl|d
    ·exact .inr (.inl rfl)
    ·exact .inl d
   ·rcases bV.1 c with c|c
    ·rcases j.cover h c a g with d|d
     ·rcases aJ.1 d with rfl|d
      ·exact .inr (.inl rfl)
      ·exact .inl d
     ·exact .inr (.inr (.inl d))
    ·rcases i.cover h c a g with d|d
     ·exact .inl d
     ·exact .inr (.inr (.inr d))
theorem Fo.Ok.wf{j:Nat->List Nat}{y:List Nat}:∀{f:Fo} {S:List Nat},f.Ok j y S->f.vars.Nodup->(∀a∈f.vars,a∉S)->f.Wf j
 | .nil,_,_,_,_=>trivial
 | .cons v x b n,S,⟨w,A,t,s⟩,z,q=>by
   obtain⟨d1,d2⟩:=i6.1 z;obtain⟨d3,d4,d5⟩:=qP.1 d2;have m:v∉b.vars:=fun h=>d1 (bV.2 (.inl h));have i:v∉n.vars:=fun h=>d1 (bV.2 (.inr h));have r:∀a∈b.vars,a∉S:=fun a d=>q a (by simp [Fo.vars,d]);have o:∀a∈n.vars,a∉S:=fun a d=>q a (by simp [Fo.vars,d]);have g:∀h∈x,∀a∈j h,a=v\/a∈S:=fun h e=>(w h e).2;refine⟨fun h e a d u=> ?_,fun h e a d l=> ?_,fun h e a d k=> ?_,t.wf d3 (fun a d p=> ?_),s.wf d4 o⟩
   ·rcases g h e a d with rfl|c
    ·exact m u
    ·exact r a u c
   ·rcases bV.1 e with e|e
    ·rcases g h e a d with rfl|c
     ·exact i l
     ·exact o a l c
    ·rcases t.cover h e a d with c|c
     ·rcases aJ.1 c with rfl|c
      ·exact i l
      ·exact o a l c
     ·exact d5 a c a l rfl
   ·rcases s.cover h e a d with c|c
    ·exact q a (by simpa [Fo.vars] using(by
      rcases aJ.1 k with rfl|k
      ·exact .inl rfl
      ·exact .inr (.inl k):a=v\/a∈b.vars\/a∈n.vars)) c
    ·rcases aJ.1 k with rfl|k
     ·exact i c
     ·exact d5 a k a c rfl
   ·rcases aJ.1 p with rfl|p
    ·exact m d
    ·exact r a d p
def qB [DecidableEq β](S:List Nat)(b:Nat->β):List Nat->List β->Bool
 |a::l,x::r=>(!(S.contains a)||b a==x)&&qB S b l r
 |_,_=>true
theorem abF [DecidableEq β]{S:List Nat}{e c:Nat->β}:∀{l:List Nat} {r:List β},(∀a∈l,a∈S->c a=e a)->qB S c l r=qB S e l r
 | [],_,_=>rfl
 |_::_,[],_=>rfl
 |a::l,x::r,h=>by
  unfold qB;rw[abF fun b f=>h b (by simp [f])];cases d:S.contains a with
  |false=>rfl
  |true=>rw[h a Ou awq]
theorem acQ [DecidableEq β]{S:List Nat}{e:Nat->β}:∀{l:List Nat},qB S e l (l.map e)=true
 | []=>rfl
 |a::l=>by unfold qB;rw[nO];simp [acQ]
def lO [DecidableEq β](l:List Nat)(a:List (List β×Int))(b:Nat->β):Option (List β×Int):=a.find? fun y=>y.1==l.map b
theorem ahA [DecidableEq β]{b:List (List β×Int)}{e c:Nat->β}(h:∀a∈i,c a=e a):lO i b c=lO i b e:=by unfold lO;rw[oZ h]
theorem aiL [DecidableEq β]{S:List Nat}{a:List (List β×Int)}{e:Nat->β}{y:List β×Int}(h:lO i a e=some y):y∈a/\qB S e i y.1=true:=by refine⟨z_ h,?_⟩;have b:=yh h;rw[beq_iff_eq.1 b];exact acQ
variable{R:SR α}
def fC [DecidableEq β](R:SR α)(b:Nat->List Nat)(a:Nat->List (List β×Int))(c:Int->α)(h:Nat)(env:Nat->β):α:=match lO (b h) (a h) env with
 |some y=>c y.2
 |none=>R.zero
theorem EC [DecidableEq β]{b:Nat->List (List β×Int)}{c:Int->α}(h:Nat)(e d:Nat->β)(f:∀a∈A h,d a=e a):fC R A b c h d=fC R A b c h e:=by unfold fC;rw[ahA f]
def Fo.E0 [DecidableEq β](d:Nat->List Nat)(f:List Nat)(e:Nat->List (List β×Int))(a:Nat->(Nat->β)->List β)(g:Nat->β->α)(U:List β)(R:SR α):List Nat->Fo->Prop
 |_,.nil=>True
 |S,.cons v _ b n=>(∀c,(a v c).Nodup/\(∀x∈a v c,x∈U)/\∀x∈U,x∉a v c->g v x=R.zero\/∃h∈f,v∈d h/\∀y∈e h,qB (v::S) (put c v x) (d h) y.1=false)/\b.E0 d f e a g U R (v::S)/\n.E0 d f e a g U R S
theorem Fo.Ok.right [DecidableEq β]{U:List β}{d:Nat->List Nat}{u:List Nat}{j:Nat->List (List β×Int)}{z:Int->α}{g:Nat->β->α}{i:Nat->(Nat->β)->List β}:
 ∀{f:Fo} {S:List Nat},f.Ok d u S->f.vars.Nodup->(∀a∈f.vars,a∉S)->f.E0 d u j i g U R S->f.Right U i g (fC R d j z) R
 | .nil,_,_,_,_,_=>trivial
 | .cons v P b n,S,⟨O,C,B,A⟩,J,w,⟨s,N,M⟩=>by
   obtain⟨d1,d2⟩:=i6.1 J;obtain⟨d3,d4,d5⟩:=qP.1 d2;have r:v∉b.vars:=fun h=>d1 (bV.2 (.inl h));have t:∀a∈b.vars,a∉v::S:=fun a l q=>by
    rcases aJ.1 q with rfl|q
    ·exact r l
    ·exact w a (by simp [Fo.vars,l]) q
   refine⟨fun c=>⟨(s c).1,(s c).2.1,fun x E o=> ?_⟩,B.right d3 t N,A.right d4 (fun a l=>w a (by simp [Fo.vars,l])) M⟩;rcases(s c).2.2 x E o with H|⟨h,G,F,p⟩
   ·exact .inl H
   ·refine .inr ⟨h,C h G F,fun L I=> ?_⟩;unfold fC;cases m:lO (d h) (j h) L with
    |none=>rfl
    |some y=>obtain⟨D,k⟩:=aiL (S:=v::S) m;rw[abF (e:=put c v x) (fun a _ l=>I a (fun K=>t a K l))] at k;rw[p y D] at k;cases k
theorem SR.MG{l:List β}{f:β->α}{m:α}:R.sum l (fun x=>R.mul m (f x))=R.mul m (R.sum l f):=by
 induction l with
 |nil=>exact(ux m).symm
 |cons x l a=>rw[jD,jD,a,R.ds]
def dE:SR Bool where
 zero:=false
 one:=true
 add:=fun a b=>a||b
 mul:=fun a b=>a&&b
 aa:=fun a b c=>Qj a b c
 ac:=fun a b=>Bool.or_comm a b
 az:=fun a=>Hm a
 ma:=fun a b c=>Bool.and_assoc a b c
 mc:=fun a b=>Bool.and_comm a b
 mo:=fun a=>LH a
 mz:=fun a=>Bool.false_and a
 ds:=fun a b c=>Bool.and_or_distrib_left a b c
theorem dE.abQ{l:List β}{f:β->Bool}:dE.sum l f=true↔∃x∈l,f x=true:=by
 induction l with
 |nil=>simp [SR.sum,dE]
 |cons x l a=>rw[jD,show dE.add (f x) (dE.sum l f)=(f x||dE.sum l f) from rfl,kE,a];simp
theorem dE.aud{γ:Type}{l:List γ}{f:γ->Bool}:dE.prod l f=true↔∀x∈l,f x=true:=by
 induction l with
 |nil=>simp [SR.prod,dE]
 |cons x l a=>rw[k7,show dE.mul (f x) (dE.prod l f)=(f x&&dE.prod l f) from rfl,cZ,a];simp
def Qb:=@dE.aud
theorem Fo.RP{U:List β}{g:Nat->β->α}{W:Nat->(Nat->β)->α}{gB:Nat->β->Bool}{WB:Nat->(Nat->β)->Bool}(j:∀v x,gB v x=false->g v x=R.zero)(hW:∀h e,WB h e=false->W h e=R.zero):
 ∀(f:Fo) (a:Nat->β),f.val dE U gB WB a=false->f.val R U g W a=R.zero
 | .nil,_,h=>by cases h
 | .cons v d b n,a,h=>by
   unfold Fo.val at h⊢;rcases YM.1 (show(_&&_)=false from h) with h|h
   ·rw[QN (fun x m=> ?_),R.mz];have c:¬((gB v x&&dE.prod d fun h=>WB h (put a v x))&&b.val dE U gB WB (put a v x))=true:=fun o=>by have s:=(dE.abQ (l:=U) (f:=fun x=>dE.mul (dE.mul (gB v x) (dE.prod d fun h=>WB h (put a v x))) (b.val dE U gB WB (put a v x)))).2 ⟨x,m,o⟩;rw[s] at h;cases h
    rw[sQ] at c;rcases YM.1 c with c|c
    ·rcases YM.1 c with c|c
     ·rw[j v x c,R.mz,R.mz]
     ·have r:∃q∈d,WB q (put a v x)=false:=by
       apply PP
       intro p;have:=(Qb (l:=d) (f:=fun h=>WB h (put a v x))).2 (fun q i=>by
        cases k:WB q (put a v x) with
        |true=>rfl
        |false=>exact absurd ⟨q,i,k⟩ p)
       rw[this] at c;cases c
      obtain⟨q,i,k⟩:=r;rw[Qq i (hW q _ k),ux,R.mz]
    ·rw[Fo.RP j hW b _ c,ux]
   ·rw[Fo.RP j hW n a h,ux]
end
section
variable{β:Type}
theorem Fo.aug{U:List β}{g:Nat->β->Bool}{W:Nat->(Nat->β)->Bool}{t:Nat->List Nat}(hW:∀h e k,(∀a∈t h,k a=e a)->W h k=W h e):
 ∀(f:Fo) (d:Nat->β),f.Wf t->f.vars.Nodup->(f.val dE U g W d=true↔∃k,Alike f.vars d k/\(∀v∈f.vars,k v∈U/\g v (k v)=true)/\∀h∈f.homes,W h k=true)
 | .nil,d,_,_=>by refine⟨fun _=>⟨d,fun _ _=>rfl,fun v w=>(by cases w),fun h j=>(by cases j)⟩,fun _=>rfl⟩
 | .cons v K b n,d,⟨I,u,H,G,F⟩,S=>by
   obtain⟨d1,d2⟩:=i6.1 S;obtain⟨d3,d4,d5⟩:=qP.1 d2;have E:v∉b.vars:=fun h=>d1 (bV.2 (.inl h));have T:v∉n.vars:=fun h=>d1 (bV.2 (.inr h));have r:(Fo.cons v K b n).val dE U g W d=(dE.sum U (fun x=>(g v x&&dE.prod K fun h=>W h (put d v x))&&b.val dE U g W (put d v x))&&n.val dE U g W d):=rfl;rw[r,cZ,dE.abQ];constructor
   ·rintro⟨⟨x,P,J⟩,B⟩;rw[cZ,cZ,Qb] at J;obtain⟨⟨R,Q⟩,s⟩:=J;obtain⟨D,y,O,t1⟩:=(Fo.aug hW b (put d v x) G d3).1 s;obtain⟨L,V,N,t2⟩:=(Fo.aug hW n d F d4).1 B;have C:D v=x:=by rw[y v E];unfold put;rw[if_pos rfl]
    refine⟨fun a=>if a∈n.vars then L a else D a,fun a i=> ?_,fun a i=> ?_,fun h j=> ?_⟩
    ·have c:a∉n.vars:=fun h=>i awt;have m:a∉b.vars:=fun h=>i awt;have l:a≠v:=fun h=>i awt;simp only[if_neg c];rw[y a m];unfold put;rw[if_neg l]
    ·simp only;by_cases c:a∈n.vars
     ·rw[if_pos c];exact N a c
     ·rw[if_neg c];simp only[Fo.vars,aJ,bV] at i;rcases i with rfl|i|i
      ·rw[C];exact⟨P,R⟩
      ·exact O a i
      ·exact absurd i c
    ·rcases bV.1 j with j|j
     ·rw[hW h (put d v x) _ fun a i=> ?_]
      ·exact Q h j
      ·have c:=u h (bV.2 (.inl j)) a i;simp only[if_neg c];exact y a (I h j a i)
     ·rcases bV.1 j with j|j
      ·rw[hW h D _ fun a i=> ?_]
       ·exact t1 h j
       ·have c:=u h (bV.2 (.inr j)) a i;simp only[if_neg c]
      ·rw[hW h L _ fun a i=> ?_]
       ·exact t2 h j
       ·have q:=H h j a i;by_cases c:a∈n.vars
        ·rw[if_pos c]
        ·rw[if_neg c,V a c,y a (fun s=>q aw1)];unfold put;rw[if_neg (fun e=>q aw3)]
   ·rintro⟨k,M,z,A⟩;have w:=z v awC;constructor
    ·refine⟨k v,w.1,?_⟩;rw[cZ,cZ,Qb];have o:∀a,a∉b.vars->a∉n.vars->put d v (k v) a=k a:=fun a s B=>by
      unfold put;by_cases l:a=v
      ·rw[if_pos l,l]
      ·rw[if_neg l];exact(M a (by simp [Fo.vars,l,s,B])).symm
     refine⟨⟨w.2,fun h j=> ?_⟩,(Fo.aug hW b (put d v (k v)) G d3).2 ⟨fun a=>if a∈b.vars then k a else put d v (k v) a,fun a i=>by simp only[if_neg i],fun a i=> ?_,fun h j=> ?_⟩⟩
     ·rw[hW h k _ fun a i=>o a (I h j a i) (u h (bV.2 (.inl j)) a i)];exact A h aw6
     ·simp only[if_pos i];exact z a awJ
     ·rw[hW h k _ fun a i=> ?_]
      ·exact A h aw6
      ·by_cases m:a∈b.vars
       ·rw[if_pos m]
       ·rw[if_neg m];exact o a m (u h (bV.2 (.inr j)) a i)
    ·refine(Fo.aug hW n d F d4).2 ⟨fun a=>if a∈n.vars then k a else d a,fun a i=>by simp only[if_neg i],fun a i=> ?_,fun h j=> ?_⟩
     ·simp only[if_pos i];exact z a awJ
     ·rw[hW h k _ fun a i=> ?_]
      ·exact A h aw6
      ·have q:=H h j a i;by_cases c:a∈n.vars
       ·rw[if_pos c]
       ·rw[if_neg c];refine(M a fun p=> ?_).symm;simp only[Fo.vars,aJ,bV] at p q;rcases p with p|p|p
        ·exact q (.inl p)
        ·exact q (.inr p)
        ·exact c p
def Ev:=@Fo.aug
end
inductive dw(p:Nat->Option Nat):Option Nat->Nat->Prop
 |step (a:Nat):dw p (p a) a
 |up {u:Option Nat} {b a:Nat} (h:p a=some b) (k:dw p u b):dw p u a
structure cX(n:Nat)(p:Nat->Option Nat)(d:Nat->Nat):Prop where
 lt:∀a,a<n->d a<n
 root:∀a,a<n->p a=none->d a=0
 up:∀a b,a<n->p a=some b->b<n/\d a=d b+1
def dw.lQ(r:cX a y J)(h:dw y O b):∀c,O=some c->b<a->c<a/\J c<J b:=by
 induction h with
 |step b=>intro c f g;have i:=r.up b c g f;exact⟨i.1,by omega⟩
 |up e _ j=>intro c f g;have i:=r.up _ _ g e;have k:=j c f i.1;exact⟨k.1,by omega⟩
def dw.trans{p:Nat->Option Nat}(g:dw p O b)(d:dw p (some b) a):dw p O a:=by
 generalize c:some b=w at d;induction d with
 |step a=>exact .up c.symm g
 |up f _ e=>exact .up f (e c)
def dw.all{n:Nat}{p:Nat->Option Nat}{d:Nat->Nat}(r:cX n p d):∀(k a:Nat),a<n->d a<=k->dw p none a
 |k,a,e,g=>by
  cases c:p a with
  |none=>have h:=dw.step (p:=p) a;rw[c] at h;exact h
  |some b=>
   have f:=r.up a b e c;match k with
   |0=>omega
   |k+1=>exact .up c (dw.all r k b f.1 Om)
def dw.child{p:Nat->Option Nat}(h:dw p O a):∃c,p c=O/\(c=a\/dw p (some c) a):=by
 induction h with
 |step a=>exact⟨a,rfl,.inl rfl⟩
 |up e _ f=>
  rename_i b a _;obtain⟨c,g,h⟩:=f;refine⟨c,g,.inr ?_⟩;rcases h with rfl|h
  ·have d:=dw.step (p:=p) a;rw[e] at d;exact d
  ·have d:=dw.step (p:=p) a;rw[e] at d;exact h.trans d
def dw.inv(h:dw y O a):y a=O\/∃b,y a=some b/\dw y O b:=by
 cases h with
 |step=>exact .inl rfl
 |up c k=>exact .inr ⟨_,c,k⟩
def dw.line{n:Nat}{p:Nat->Option Nat}{d:Nat->Nat}(r:cX n p d){b c:Nat}:∀(k a:Nat),a<n->d a<=k->dw p (some b) a->dw p (some c) a->b=c\/dw p (some b) c\/dw p (some c) b
 |k,a,j,o,m,h=>by
  rcases m.inv with f|⟨x,f,i⟩
  ·rcases h.inv with e|⟨y,e,g⟩
   ·rw[f] at e;injection e with e;exact .inl e
   ·rw[f] at e;injection e with e;subst e;exact .inr (.inr g)
  ·rcases h.inv with e|⟨y,e,g⟩
   ·rw[f] at e;injection e with e;subst e;exact .inr (.inl i)
   ·rw[f] at e;injection e with e;subst e;have l:=r.up a x j f;match k with
    |0=>omega
    |k+1=>exact dw.line r k x l.1 Om i g
def kids(n:Nat)(p:Nat->Option Nat)(u:Option Nat):List Nat:=(List.range n).filter fun a=>p a==u
def dZ(b:Nat->List Nat)(f:Nat->Fo):List Nat->Fo
 | []=> .nil
 |a::l=> .cons a (b a) (f a) (dZ b f l)
def d_(n:Nat)(p:Nat->Option Nat)(b:Nat->List Nat):Nat->Option Nat->Fo
 |0,_=> .nil
 |k+1,u=>dZ b (fun a=>d_ n p b k (some a)) (kids n p u)
def gU{p:Nat->Option Nat}:b∈kids a p O↔b<a/\p b=O:=by unfold kids;rw[fp,dB,beq_iff_eq]
def aji(n:Nat)(p:Nat->Option Nat)(u:Option Nat):(kids n p u).Nodup:=x7 x8 qQ
def QI{b:Nat->List Nat}{f:Nat->Fo}:∀{l:List Nat} {a:Nat},a∈(dZ b f l).vars↔∃c∈l,a=c\/a∈(f c).vars
 | [],a=>by simp [dZ,Fo.vars]
 |c::l,a=>by
  simp only[dZ,Fo.vars,aJ,bV,QI (l:=l)];constructor
  ·rintro(h|h|⟨x,d,h⟩)
   ·exact⟨c,.inl rfl,.inl h⟩
   ·exact⟨c,.inl rfl,.inr h⟩
   ·exact⟨x,.inr d,h⟩
  ·rintro⟨x,d,h⟩;rcases d with rfl|d
   ·rcases h with h|h
    ·exact .inl h
    ·exact .inr (.inl h)
   ·exact .inr (.inr ⟨x,d,h⟩)
def Zq{homes:Nat->List Nat}{f:Nat->Fo}(d:∀c h,h∈(f c).homes↔∃v∈(f c).vars,h∈homes v):∀{l:List Nat} {h:Nat},h∈(dZ homes f l).homes↔∃v∈(dZ homes f l).vars,h∈homes v
 | [],h=>by simp [dZ,Fo.vars,Fo.homes]
 |c::l,h=>by
  simp only[dZ,Fo.vars,Fo.homes,aJ,bV,Zq d (l:=l),d c];constructor
  ·rintro(a|⟨v,b,a⟩|⟨v,b,a⟩)
   ·exact⟨c,.inl rfl,a⟩
   ·exact⟨v,.inr (.inl b),a⟩
   ·exact⟨v,.inr (.inr b),a⟩
  ·rintro⟨v,rfl|b|b,a⟩
   ·exact .inl a
   ·exact .inr (.inl ⟨v,b,a⟩)
   ·exact .inr (.inr ⟨v,b,a⟩)
def Qf{n:Nat}{p:Nat->Option Nat}{homes:Nat->List Nat}:∀(k:Nat) (u:Option Nat) (h:Nat),h∈(d_ n p homes k u).homes↔∃v∈(d_ n p homes k u).vars,h∈homes v
 |0,u,h=>by simp [d_,Fo.vars,Fo.homes]
 |k+1,u,h=>Zq (f:=fun a=>d_ n p homes k (some a)) (fun c h=>Qf k (some c) h)
def fQ(d:Nat->Nat):Option Nat->Nat
 |none=>0
 |some a=>d a+1
def vG{n:Nat}{p:Nat->Option Nat}{d:Nat->Nat}{homes:Nat->List Nat}(r:cX n p d):∀(k:Nat) (u:Option Nat) (a:Nat),(∀b,u=some b->b<n)->n<=k+fQ d u->(a∈(d_ n p homes k u).vars↔a<n/\dw p u a)
 |0,u,a,s,o=>by
  simp only[d_,Fo.vars,bL,false_iff];rintro⟨j,h⟩;cases u with
  |none=>simp only[fQ] at o;omega
  |some b=>have t:=h.lQ r b rfl j;have g:=r.lt a j;simp only[fQ] at o;omega
 |k+1,u,a,s,o=>by
  have i:∀c,c<n->p c=u->fQ d (some c)=fQ d u+1:=fun c m q=>by
   cases u with
   |none=>simp only[fQ];rw[r.root c m q]
   |some b=>simp only[fQ];rw[(r.up c b m q).2]
  show a∈(dZ homes (fun a=>d_ n p homes k (some a)) (kids n p u)).vars↔_
  rw[QI];constructor
  ·rintro⟨c,m,h⟩;obtain⟨f,e⟩:=gU.1 m;have hstep:dw p u c:=by have h:=dw.step (p:=p) c;rwa[e] at h
   rcases h with rfl|h
   ·exact⟨f,hstep⟩
   ·obtain⟨j,g⟩:=(vG r k (some c) a (fun b l=>by injection l with l;omega) (by rw[i c f e];omega)).1 h;exact⟨j,hstep.trans g⟩
  ·rintro⟨j,h⟩;obtain⟨c,e,g⟩:=h.child;have f:c<n:=by
    rcases g with rfl|g
    ·exact j
    ·exact(g.lQ r c rfl j).1
   refine⟨c,gU.2 ⟨f,e⟩,?_⟩;rcases g with rfl|g
   ·exact .inl rfl
   ·exact .inr ((vG r k (some c) a (fun b l=>by injection l with l;omega) (by rw[i c f e];omega)).2 ⟨j,g⟩)
def Zp{homes:Nat->List Nat}{f:Nat->Fo}:∀{l:List Nat},l.Nodup->(∀c∈l,c∉(f c).vars/\(f c).vars.Nodup)->(∀c∈l,∀m∈l,c≠m->∀a,(a=c\/a∈(f c).vars)->¬(a=m\/a∈(f m).vars))->(dZ homes f l).vars.Nodup
 | [],_,_,_=>LC
 |c::l,j,o,n=>by
  obtain⟨t,j⟩:=i6.1 j;obtain⟨q,p⟩:=o c Ou;have r:=Zp (homes:=homes) j (fun x g=>o x aw2) (fun x g y s=>n x aw2 y aw1);show(c::((f c).vars++(dZ homes f l).vars)).Nodup
  have i:∀a,(a=c\/a∈(f c).vars)->a∉(dZ homes f l).vars:=fun a k d=>by obtain⟨x,g,h⟩:=QI.1 d;exact n c Ou x aw2 (fun e=>t (e▸g)) a k h
  refine i6.2 ⟨fun d=> ?_,qP.2 ⟨p,r,fun a k b u e=> ?_⟩⟩
  ·rcases bV.1 d with d|d
   ·exact q d
   ·exact i c (.inl rfl) d
  ·subst e;exact i a (.inr k) u
def Hj{n:Nat}{p:Nat->Option Nat}{d:Nat->Nat}{homes:Nat->List Nat}(r:cX n p d):∀(k:Nat) (u:Option Nat),(∀b,u=some b->b<n)->n<=k+fQ d u->(d_ n p homes k u).vars.Nodup
 |0,_,_,_=>LC
 |k+1,u,D,F=>by
  have f:∀c,c<n->p c=u->fQ d (some c)=fQ d u+1:=fun c l z=>by
   cases u with
   |none=>simp only[fQ];rw[r.root c l z]
   |some b=>simp only[fQ];rw[(r.up c b l z).2]
  have x:∀c,c∈kids n p u->∀a,a∈(d_ n p homes k (some c)).vars->a<n/\dw p (some c) a:=fun c l a w=>by obtain⟨e,i⟩:=gU.1 l;exact(vG r k (some c) a (fun b v=>by injection v with v;omega) (by rw[f c e i];omega)).1 w
  refine Zp (aji n p u) (fun c l=> ?_) (fun c l q m s a w g=> ?_)
  ·obtain⟨e,i⟩:=gU.1 l;refine⟨fun h=> ?_,Hj r k (some c) (fun b v=>by injection v with v;omega) (by rw[f c e i];omega)⟩;have o:=(x c l c h).2.lQ r c rfl e;omega
  ·obtain⟨e,i⟩:=gU.1 l;obtain⟨j,t⟩:=gU.1 m;have E:d c=d q:=(by have B:=f c e i;have o:=f q j t;simp only[fQ] at B o;omega)
   rcases w with rfl|w
   ·rcases g with rfl|g
    ·exact s rfl
    ·have o:=(x q m a g).2.lQ r q rfl e;omega
   ·obtain⟨y,A⟩:=x c l a w;rcases g with rfl|g
    ·have o:=A.lQ r c rfl j;omega
    ·obtain⟨-,C⟩:=x q m a g;rcases dw.line r (d a) a y (aK _) A C with h|h|h
     ·exact s h
     ·have o:=h.lQ r c rfl j;omega
     ·have o:=h.lQ r q rfl e;omega
structure aeg(n:Nat)(p:Nat->Option Nat)(at_:Nat->List Nat)(hl:List Nat)(home:Nat->Nat):Prop where
 mem:∀h∈hl,home h∈at_ h
 lt:∀h∈hl,∀a∈at_ h,a<n
 way:∀h∈hl,∀a∈at_ h,a=home h\/dw p (some a) (home h)
def QJ{n:Nat}{p:Nat->Option Nat}{d:Nat->Nat}{q:Nat->List Nat}{s:List Nat}{f:Nat->Nat}(r:cX n p d)(w:aeg n p q s f):
 ∀(k:Nat) (u:Option Nat) (S:List Nat),(∀b,u=some b->b<n)->n<=k+fQ d u->(∀a,(u=some a\/∃b,u=some b/\dw p (some a) b)->a∈S)->(d_ n p (fun v=>s.filter fun h=>f h==v) k u).Ok q s S
 |0,_,_,_,_,_=>trivial
 |k+1,u,S,J,K,I=>by
  have A:∀c,c<n->p c=u->fQ d (some c)=fQ d u+1:=fun c t F=>by
   cases u with
   |none=>simp only[fQ];rw[r.root c t F]
   |some b=>simp only[fQ];rw[(r.up c b t F).2]
  have x:∀l:List Nat,(∀c∈l,c<n/\p c=u)->(dZ (fun v=>s.filter fun h=>f h==v) (fun a=>d_ n p (fun v=>s.filter fun h=>f h==v) k (some a)) l).Ok q s S:=by
   intro l;induction l with
   |nil=>intro _;trivial
   |cons v l H=>
    intro z;obtain⟨D,j⟩:=z v Ou;have g:n<=k+fQ d (some v):=by rw[A v D j];omega
    have y:∀b,some v=some b->b<n:=fun b G=>by injection G with G;omega
    have C:∀a,dw p (some a) v->a∈S:=fun a B=>I a (by
     rcases B.inv with h|⟨b,i,o⟩
     ·exact .inl (j.symm.trans h)
     ·exact .inr ⟨b,j.symm.trans i,o⟩)
    refine⟨fun h m=> ?_,fun h m E=> ?_,QJ r w k (some v) (v::S) y g (fun a B=> ?_),H fun c t=>z c (by simp [t])⟩
    ·obtain⟨i,o⟩:=fp.1 m;have o:=beq_iff_eq.1 o;subst o;refine⟨w.mem h i,fun a B=> ?_⟩;rcases w.way h i a B with e|e
     ·exact .inl e
     ·exact .inr (C a e)
    ·rcases w.way h m v E with e|e
     ·exact bV.2 (.inl (fp.2 ⟨m,beq_iff_eq.2 e.symm⟩))
     ·refine bV.2 (.inr ((Qf k (some v) h).2 ⟨f h,?_,fp.2 ⟨m,beq_self_eq_true _⟩⟩));exact(vG r k (some v) (f h) y g).2 ⟨w.lt h m _ (w.mem h m),e⟩
    ·rcases B with h|⟨b,i,o⟩
     ·injection h with h;rw[h];exact lH
     ·injection i with i;subst i;exact oX _ (C a o)
  exact x (kids n p u) fun c t=>gU.1 t
end Go.Proofs.YtadbchhdjbghkaaGreatDoor
