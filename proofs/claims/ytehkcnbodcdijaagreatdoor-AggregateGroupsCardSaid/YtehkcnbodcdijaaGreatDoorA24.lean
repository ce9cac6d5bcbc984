/- Texts of the proof, part 24. -/
import Derived.Test.YtehkcnbodcdijaaGreatDoorA23
import Derived.Deep.DeepWitnessRowRef
import Derived.Laws.BytesArg
import Derived.Lib.LaidSlice
import Derived.Lib.Quote
import Derived.Lib.QuoteLoop
import Derived.Shelf.SlIter.Collect
import Derived.Shelf.SlSortCmp.NoneTotal
import Derived.Shelf.SlSortCmp.Whole1
import Derived.Shelf.Strconv.Quote
import Derived.Shelf.Unicode.DecodeSlow
namespace Go.Proofs.YtehkcnbodcdijaaGreatDoor
set_option maxHeartbeats 8000000
set_option linter.all false
set_option maxRecDepth 100000
variable{ar:Prop}
open Go.RowKit Go.Lib Go.Maps Go.ChangeShapes Go.WideShapes Go.ChangeAt Go.Proofs.Tryz
variable{a b c d e f g h:Nat}{i j k l:List Nat}{m n o:World}{p q r s:Value}{t u v:List Value}{w x:TypeId}{y z:Nat→Option Nat}{A:Nat→List Nat}{B C:Int}{E F:Option Addr}{H I:Rat}{J:Nat→Nat}{K:Nat→Bool}{L:List Int}{N:Array Bool}{O:Option Nat}{Q:Act}{R S:Bool}{T:List UInt8}
def Ms:=@Go.Lib.laidIn_slice
def sx:aP:=⟨[([97],2)],[([114],[0])],[], -1⟩
def sD:List (List Rw):= [[([[49,47,50]],3),([[50]],1)]]
def JA:bV sx:=by
 have e:∀c:UInt8,FL c->pZ [c]:=fun c h=>⟨by simp,by simp,fun d i=>by
  injection i with i;subst i;exact h,fun d i=>by
  rw[bE.1 i];exact .inl h⟩
 refine⟨by decide,by decide,by decide,by decide,by decide,?_,by simp [sx],?_,?_,by simp [sx],?_,?_,?_,?_,?_,by simp [sx],?_,by decide,?_⟩
 ·intro a b;rw[bE.1 b];exact e 97 Od
 ·intro a b;rw[bE.1 b];decide
 ·intro a b;rw[bE.1 b];exact e 114 Od
 ·intro r g;rw[bE.1 g];decide
 ·intro r g a b;rw[bE.1 g] at b;rw[bE.1 b];decide
 ·intro r g;rw[bE.1 g];decide
 ·intro a b;have k:a=0:=by have:a<1:=b;omega
  subst k;exact⟨_,bE.2 rfl,by decide⟩
 ·intro f j;cases j
 ·intro f j;cases j
 ·intro h;exact absurd h Od
def DK: [49,47,50]=cP (1/2:Rat):=aad.symm
def afb:ip sx sD:=by
 refine⟨rfl,fun k t r d e=> ?_⟩;rcases k with _|k
 ·injection d with d;injection e with e;subst d e;have g:∀t:aC,(∃q:Rat,t=cP q/\lS q)->oK sx [0] [t]:=fun t h=>⟨rfl,fun i a u f c=>by
   rcases i with _|i
   ·injection f with f;injection c with c;subst f c;exact .inr (.inr (.inr ⟨rfl,h⟩))
   ·simp at c⟩
  refine⟨by decide,?_,?_,?_⟩
  ·intro y b;simp only[aK,bJ,or_false] at b;rcases b with rfl|rfl
   ·exact g _ ⟨1/2,DK,by unfold lS gM;decide+kernel⟩
   ·exact g _ ⟨2,UL.symm,by unfold lS gM;decide+kernel⟩
  ·intro y b;simp only[aK,bJ,or_false] at b;rcases b with rfl|rfl<;>decide
  ·refine iP.2 ⟨fun y b=> ?_,EM _ _⟩;rw[bE.1 b];decide+kernel
 ·simp [sD] at d
def afD:rx sx sD:=⟨afb,fun l a=>by rw[bE.1 a];decide⟩
def aeV{f:Fo}(h:f.vars= []):f= .nil:=by
 cases f with
 |nil=>rfl
 |cons v a b n=>simp [Fo.vars] at h
def anC{f:Fo}(w:Whole sx.ai.length (bu sx) (bM sx) f):f= .cons 0 [0] .nil .nil:=by
 have c:f.vars= [0]:=by
  have a:=xh w.vd (tK (n:=1)) fun v=>by rw[w.vm,dL];rfl
  exact List.perm_singleton.1 a
 have d:f.homes= [0]:=(by have a:=xh w.hd (tK (n:=1)) w.hm;exact List.perm_singleton.1 a);cases f with
 |nil=>cases c
 |cons v h b n=>simp only[Fo.vars,wU,List.append_eq_nil_iff] at c;obtain⟨rfl,g,e⟩:=c;obtain rfl:=aeV g;obtain rfl:=aeV e;simp only[Fo.homes,j5] at d;rw[d]
def aeI:univ (aT sx sD)= [[],[49,47,50],[50]]:=axq
def ae_(d:List Fu):ki sx sD (.cons 0 [0] .nil .nil) (d,[]) []=eI 0 (fun f=>g9 f [49,47,50]) d*3+eI 0 (fun f=>g9 f [50]) d:=by
 unfold ki;rw[aeI];have h:mf (bu sx) (bL (aT sx sD)) 0 (put (fun _=> []) 0 [])=0:=by unfold mf fH;rw[show fE (bu sx 0) (bL (aT sx sD) 0) (put (fun _=> []) 0 [])=none by decide+kernel];rfl
 have g:mf (bu sx) (bL (aT sx sD)) 0 (put (fun _=> []) 0 [49,47,50])=3:=(by unfold mf fH;rw[show fE (bu sx 0) (bL (aT sx sD) 0) (put (fun _=> []) 0 [49,47,50])=some ([[49,47,50]],3) by decide+kernel];rfl);have e:mf (bu sx) (bL (aT sx sD)) 0 (put (fun _=> []) 0 [50])=1:=(by unfold mf fH;rw[show fE (bu sx 0) (bL (aT sx sD) 0) (put (fun _=> []) 0 [50])=some ([[50]],1) by decide+kernel];rfl);simp only[mn,Fo.val,SR.sum,SR.prod,List.foldr,cH,dO,if_true];simp only[cX];rw[h,g,e];generalize eI 0 (fun f=>g9 f [49,47,50]) d=a;generalize eI 0 (fun f=>g9 f [50]) d=b;generalize eI 0 (fun f=>g9 f []) d=c;grind
def aqA:oQ [49,47,50]=1/2:=by have h:=TX (t:= [49,47,50]) ⟨1/2,by unfold lS gM;decide+kernel,DK⟩;exact(aat (DK.symm.trans h)).symm
def aq':oQ [50]=2:=by have h:=TX (t:= [50]) ⟨2,by unfold lS gM;decide+kernel,UL.symm⟩;exact(aat (UL.trans h)).symm
def aqy:ki sx sD (.cons 0 [0] .nil .nil) ([],[]) []=4:=by rw[ae_,abV,abV];decide+kernel
def aqx:ki sx sD (.cons 0 [0] .nil .nil) ([(0,2,[])],[]) []=19/4:=by rw[ae_,M8,M8,if_pos rfl,if_pos rfl];unfold g9;rw[if_neg Od,if_pos rfl,if_neg Od,if_pos rfl,aqA,aq'];decide+kernel
def aqu:cP (19/4:Rat)= [49,57,47,52]:=by rw[qz axq,show(19/4:Rat).num=((19:Nat):Int) by decide+kernel,show(19/4:Rat).den=4 by decide+kernel,rR,C_ Od,lG Od,lG Od];rfl
def aq_:jQ sx sD fun _=>none:=by
 refine⟨fun _=> [50],fun v c=>⟨?_,rfl⟩,fun h a=> ?_⟩
 ·rw[aeI];show([50]:aC)∈_;decide
 ·have b:h=0:=by have:=dL.1 a;have:h<1:=this;omega
  subst b;decide+kernel
def afa{b:Fo}{a:List Fu}{G:List Gp}(w:Whole sx.ai.length (bu sx) (bM sx) b)(h:qO sx sD (ki sx sD b) (a,[]) G):G= [([],ki sx sD (.cons 0 [0] .nil .nil) (a,[]) [])]:=by rw[h.1 aq_,anC w];rfl
def arj:jy sx [] []:=⟨by decide,by decide,Oe,Oe,rfl⟩
def ari:jy sx [(0,2,[])] []:=⟨by decide,by decide,(fun f h=>by rw[bE.1 h];exact⟨by decide,.inr (.inl ⟨rfl,by decide,rfl⟩)⟩),Oe,rfl⟩
def arb:Oq sx (fun _=>none) fun _=>0:=by
 refine⟨?_,fun r f a d b e c=> ?_⟩
 ·exact⟨fun a d=>Bv (aU a) d,fun a _ _=>rfl,fun a b _ h=>by cases h⟩
 ·rw[bE.1 f] at d e;rw[bE.1 d,bE.1 e] at c;exact absurd rfl c
def OG(h:aq m a w [p,q,r]):aA m a 0 p/\aA m a 1 q/\aA m a 2 r:=⟨h.cell rfl,h.cell rfl,h.cell rfl⟩
def am9(v:Value)(x:aP)(f:Fu)(t:aC)(z:Rat)(w:au)(h:dP w v x)(q:bV x)(hf:nX x f)(ht:ej (kd x f.1) t)(hz:yM f.2.1 t f.2.2 z)(hq:bR 400 z)(C:d7 w):
 Calls prog 22 #[v,.agg #[av (f.1:Int),av (f.2.1:Int),aM f.2.2],aM t] w fun e a=>e= .returned (.tuple #[aM (cP z),av 0])/\Ext w a:=by
 have aN:=af q;have AX:=af h;have HZ:=af hz;have HQ:=af hq;have HT:=af C;have i:=hf.1;have axi:=q.a12;have C2:=af (fun(W:au) (hX:Ext w W)=>abq v x f W (h.ext hX) q hf);have C1:=af (fun(W:au) (hX:Ext w W)=>I7 v x W (h.ext hX) q);have hk:=q.ak _ (a8 i);obtain⟨k,fk,ft⟩:=f;simp only at*;have ek:kd x (k:Int)=(x.ai[k]).2:=(by unfold kd;rw[kX,aX i];rfl)
 have CV:=af (fun W=>Tb (x.ai[k]).1 t (x.ai[k]).2 W hk (by rw[<-ek];exact ht));obtain⟨A,c,B,d,D,e,rfl,F,kQ,D7⟩:=h;obtain⟨-,hcA,hmA⟩:=bl F;have HA:=af F;have E:x.ai.length<=maxLen:=axu;have CE:=af (fun W=>abf A B D x.ai.length c x.ay.length d x.a_.length e k x.label i E W);have CF:=af (fun W=>aem HZ W);go_enter func22,ntmps22;go_upto_region 1 with fail
 refine gJ fun W HX BS BF=> ?_;have z7:=BS.lt;have KB:=BF.lt;generalize w.heap.size=sb at*;generalize sb+1=H at*;obtain⟨s0,Z,Y,X⟩:=BS.four;go_wp2_with fail
 refine(C1 W HX).mono ?_;rintro e1 w1 ⟨rfl,n⟩;have cD:=af (HX.trans n);have N:=af (BS.ext n);have V:=af (BF.ext n);obtain⟨s0,Z,Y,X⟩:=N.four;obtain⟨f0,f1,f2⟩:=(OG V);go_wp2_with fail
 refine(CE w1).mono ?_;rintro e2 w2 ⟨rfl,m⟩;have L:=af (cD.trans m);have M:=af (N.ext m);have U:=af (V.ext m);obtain⟨s0,Z,Y,X⟩:=M.four;obtain⟨f0,f1,f2⟩:=(OG U);go_wp2_with fail
 refine(C2 w2 L).mono ?_;rintro e3 w3 ⟨rfl,l⟩;have J:=af (L.trans l);have BS3:=af (M.ext l);have R:=af (U.ext l);obtain⟨s0,Z,Y,X⟩:=BS3.four;obtain⟨f0,f1,f2⟩:=(OG R);obtain⟨g,o,rfl,hg,a0,a1⟩:=oM (bU nM HA J) i;generalize x.ai[k]=at_ at*;obtain⟨nm,kn⟩:=at_;simp only at a0 a1 CV;go_wp2_with fail
 refine(CV w3).mono ?_;rintro e4 w4 ⟨rfl,y⟩;have dW:=af (J.trans y);have BF4:=af (R.ext y);go_upto_region 7 with fail
 obtain⟨S,G⟩:∃S:World->Prop,S=fun a=>aq a H g7 [av (k:Int),av (fk:Int),aM ft]:=⟨_,rfl⟩;have bK:ah (∀a,S a->aA a H 0 (av (k:Int))/\aA a H 1 (av (fk:Int))/\aA a H 2 (aM ft)):=by rw[G];exact fun a h=>OG h
 have b:ah (∀a,aq a H g7 [av (k:Int),av (fk:Int),aM ft]->S a):=by rw[G];exact fun a h=>h
 have O:=af BF4.drew;have aJ:ah (S w4.drew):=b _ O;have yi:=af dW.drew;refine cG (S:=S) (T:=fun _=>false) Ok ?_;generalize w4.drew=wd at*;refine ax 0 36 ?_;refine ax 1 37 ?_;refine ax 3 39 ?_;refine ax 4 40 ?_;refine ax 5 41 ?_;refine aO 2 ?_;intro K j;go_simp;refine(CF wd).mono ?_;rintro e5 w5 ⟨fid,at9,rfl,Kv,HC,u⟩;have hif:=Kv.ae;have d8:=af (yi.trans u);have Q:=af (O.ext u);have C4:=af (HC w5 (aB w5));refine j.ae _ _ (fun _=>b _ Q) ?_;refine aO 6 ?_;intro K j;go_simp;refine C4.mono ?_;rintro e6 w6 ⟨u6,rfl,hu6,s⟩;have I:=af (d8.trans s);have P:=af (Q.ext s);have CR:=af (TA u6 z w6 hu6 HQ Od (HT.ext I));refine j.ae _ _ (fun _=>b _ P) ?_;refine aO 7 ?_;intro K j;go_simp;refine CR.mono ?_;rintro e7 w7 ⟨rfl,r⟩;have f_:=af (I.trans r);have p:=af (P.ext r);refine j.ae _ _ (fun _=>b _ p) ?_;refine aO 8 ?_;intro K j;go_simp;refine j.ae _ _ (fun _=>b _ p) ?_;refine aO 9 ?_;intro K j;go_simp;refine j.ae _ _ (fun _=>b _ p) ?_;refine bY Ok ?_;go_wp2_with fail
 exact bodyPost_ret (v:= .tuple #[aM (cP z),av 0]) (by simp [results,results22,go_sem]) rfl ⟨rfl,f_⟩
def afm{P:World->Prop}{t1 t2 t3 t4:TypeId}{a:List Value}(h:∀W,ah (Ext m W)->ah (aq W m.heap.size t1 t)->ah (aq W (m.heap.size+1) t2 u)->ah (aq W (m.heap.size+1+1) t3 v)->ah (aq W (m.heap.size+1+1+1) t4 a)->P W):
 P ((((m.alloc (.cells t.toArray t1)).alloc (.cells u.toArray t2)).alloc (.cells v.toArray t3)).alloc (.cells a.toArray t4)):=by
 exact h _ (((((aB m).alloc _).alloc _).alloc _).alloc _) ((((jd m t1 t).alloc _).alloc _).alloc _) (((l6 (m.alloc _) t2 u _ Ou).alloc _).alloc _) ((l6 ((m.alloc _).alloc _) t3 v _ Ou).alloc _) (l6 (((m.alloc _).alloc _).alloc _) t4 a _ Ou)
def arc:nX sx (0,4,[49]):=⟨by decide,.inr (.inr (.inr (.inl ⟨rfl,by decide,by decide,.inr (.inr (.inr ⟨rfl,1,UM.symm,by unfold lS gM;decide+kernel⟩))⟩)))⟩
def ard:yM 4 [49,47,50] [49] 1:= .inr (.inr (.inr (.inl ⟨rfl,1/2,1,.inr ⟨by decide,DK,399,by decide,Tf axq⟩,.inr ⟨by decide,UM.symm,399,by decide,Tf axq⟩,by rw[if_pos ⟨by decide,by decide+kernel⟩]⟩)))
def aps(v:Value)(W:au)(h:dP W v sx)(c:d7 W):Calls prog 22 #[v,.agg #[av 0,av 4,.string ⟨#[49]⟩],.string ⟨#[49,47,50]⟩] W fun e b=>e= .returned (.tuple #[.string ⟨#[49]⟩,av 0])/\Ext W b:=by have a:=am9 v sx (0,4,[49]) [49,47,50] 1 W h JA arc (.inr (.inr (.inr ⟨rfl,1/2,DK,by unfold lS gM;decide+kernel⟩))) ard (Tf axq) c;rw[UM] at a;exact a
def ara(f:aq m a Dm [.string ⟨#[97]⟩,av 2])(e:aq m b aS [av 0])(d:aq m c ub [.string ⟨#[114]⟩,aG b 0 1 1]):
 dP m (.agg #[aG a 0 1 1,aG c 0 1 1,.slice none 0 0,av (-1)]) sx:=
 ⟨_,_,_,_,_,_,rfl,mY (l:= [(([97]:List UInt8),(2:Int))]) f ⟨_,[],rfl,rfl,rfl⟩ Ou,mY (l:= [(([114]:List UInt8),([0]:List Int))]) d ⟨_,[],rfl,⟨_,_,_,rfl,mY (l:= [(0:Int)]) e ⟨_,[],rfl,rfl,rfl⟩ Ou⟩,rfl⟩ Ou,Ls.nil⟩
def tl1{t:aC}(h:aq m a bC [aM t]):TL m (aG a 0 1 1) [t]:=mY (l:= [t]) h ⟨_,[],rfl,rfl,rfl⟩ Ou
def ar2(h:aq m a bC [.string ⟨#[49,47,50]⟩])(g:aq m b bC [.string ⟨#[50]⟩])(f:aq m c fg [aG a 0 1 1,av 3,aG b 0 1 1,av 1])(e:aq m d lI [aG c 0 2 2]):
 iO m (aG d 0 sD.length 1) sD:=
 mY (l:=sD) e ⟨_,[],rfl,⟨_,_,rfl,mY (l:= [(([[49,47,50]]:List aC),(3:Int)),([[50]],1)]) f ⟨[aG a 0 1 1,av 3],_,rfl,⟨_,_,rfl,tl1 h⟩,[aG b 0 1 1,av 1],[],rfl,⟨_,_,rfl,tl1 g⟩,rfl⟩ Ou⟩,rfl⟩ (by simp [sD])
abbrev Gk:List Ag:= [([],[]),([(0,2,[])],[])]
def arh(d:aq m a g7 [av 0,av 2,.string ⟨#[]⟩])(c:aq m b ud [.slice none 0 0,.slice none 0 0,aG a 0 1 1,.slice none 0 0]):
 ry m (aG b 0 Gk.length 2) Gk:=
 mY (l:=Gk) c ⟨[.slice none 0 0,.slice none 0 0],_,rfl,⟨none,0,none,0,rfl,Ls.nil,Ls.nil⟩,[aG a 0 1 1,.slice none 0 0],[],rfl,⟨dV a 0,1,none,0,rfl,mY (l:= [((0,2,[]):Fu)]) d ⟨_,[],rfl,rfl,rfl⟩ Ou,Ls.nil⟩,rfl⟩ Ou
def aqz(B:aq m a aS [av (-1)]):sF m (.agg #[aG a 0 1 1]) sx:=
 ⟨_,1,fun _=>none,fun _=>0,rfl,mY (l:= [(-1:Int)]) B ⟨_,[],rfl,rfl,rfl⟩ Ou,arb⟩
abbrev VU:List (List Gp):= [[([],4)],[([],19/4)]]
def ar1(f:aq m a fh [.slice none 0 0,.string ⟨#[52]⟩])(e:aq m b fh [.slice none 0 0,.string ⟨#[49,57,47,52]⟩])(d:aq m c mm [aG a 0 1 1,aG b 0 1 1]):
 EF m (aG c 0 2 2) VU:=
 mY (l:=VU) d ⟨[aG a 0 1 1],_,rfl,⟨_,_,rfl,mY (l:= [(([],4):Gp)]) f ⟨_,[],rfl,⟨none,0,by rw[arV],Ls.nil⟩,rfl⟩ Ou⟩,[aG b 0 1 1],[],rfl,⟨_,_,rfl,mY (l:= [(([],19/4):Gp)]) e ⟨_,[],rfl,⟨none,0,by rw[aqu],Ls.nil⟩,rfl⟩ Ou⟩,rfl⟩ Ou
def arf(v o:Value)(i j:aQ)(W:au)(h:dP W v sx)(s:sF W o sx)(x:iO W (.slice i sD.length 1) sD)(w:ry W (.slice j Gk.length 2) Gk)(r:d7 W):
 Calls prog 11 #[v,o,.slice i 1 1,.slice j 2 2] W fun e b=>∃A c,e= .returned (.tuple #[.slice A 2 c,av 0])/\EF b (.slice A 2 c) VU/\Ext W b:=by
 obtain⟨B,a⟩:=abd sx JA;refine(aev (zq:=g9) (DD:=i6) (MM:=jF) v o sx sD i j 1 2 Gk (ki sx sD B) W h JA s afb x Od Od Od Od a w Od (fun y k=>by
  simp only[aK,bJ,or_false] at k;rcases k with rfl|rfl
  ·exact aeQ JA Od Od afD a arj Od
  ·exact aeQ JA Od Od afD a ari Od) r).mono ?_
 rintro e b ⟨u,m,rfl,q,d,l,p⟩;obtain⟨G,H,rfl⟩:∃G H,m= [G,H]:=by
  rcases m with _|⟨G,_|⟨H,_|⟨I,t⟩⟩⟩
  ·simp at d
  ·simp at d
  ·exact⟨G,H,rfl⟩
  ·simp at d
 have g:=afa a (l 0 Ou Ou);have f:=afa a (l 1 Ou Ou);simp only[QR,List.getElem_cons_succ] at g f;rw[aqy] at g;rw[aqx] at f;subst g f;obtain⟨A,c,n,rfl,z⟩:=q;exact⟨A,c,rfl,⟨A,c,n,rfl,z⟩,p⟩
def anA(w:au)(C:d7 w):Calls prog 5 #[] w fun e u=>e= .returned (.bool true)/\Ext w u:=by
 have r:=af C;go_enter func5,ntmps5;go_upto_region 2 with fail
 refine afm fun W N B0 B1 B2 s=> ?_;have O:=af (ara B0 B1 B2);have F:=s.lt;generalize w.heap.size=I at*;generalize I+1=H at*;generalize H+1=G at*;generalize G+1=b3 at*;go_upto_region 3 with fail
 refine afm fun W2 d Z Y X V=> ?_;have R:=af (ar2 Z Y X V);have en:=af (O.ext d);have k:=af (s.ext d);have l:=af (N.trans d);generalize W.heap.size+1+1+1=d3 at*;obtain⟨B,z,y,x⟩:=k.four;go_wp2_with fail
 refine vG (P:=fun W=>Calls _ _ _ W _) fun J a M L K=> ?_;have h:=af (l.trans a);refine(arf _ _ _ _ J (en.ext a) (aqz M) (bU tR R a) (arh L K) (r.ext h)).mono ?_;rintro e t ⟨A,c,rfl,E,g⟩;have Q:=af E;have j:=af (h.trans g);have b:=a.trans g;have o:=af (en.ext b);have q:=af (k.ext b);obtain⟨B,z,y,x⟩:=q.four;go_wp2_with fail
 refine(aps _ t o (r.ext j)).mono ?_;rintro e w5 ⟨rfl,f⟩;have n:=af (j.trans f);have p:=af (bU FH Q f);go_wp2_with fail
 refine vG (P:=fun W=>Calls _ _ _ W _) fun W6 i U T S=> ?_;refine(aiJ (bU FH p i) (ar1 U T S)).mono ?_;rintro e w7 ⟨rfl,D⟩;have m:=af ((n.trans i).trans (UE D));go_wp2_with fail
 exact bodyPost_ret (v:= .bool true) (by simp [results,results5,go_sem]) rfl ⟨rfl,m⟩
def xE(b:UInt8):Prop:=32<=b.toNat/\b.toNat<127/\b.toNat≠34/\b.toNat≠92
def ZU(T:PrintTabs):∀(l:List UInt8) (f:Nat),l.length<=f->(∀b∈l,xE b)->quoteFrom T f ⟨l.toArray⟩=l.map fun b=>(b.toNat:Int)
 | [],f,_,_=>quoteFrom_end T f _ ax7
 |b::l,f,a,h=>by
  obtain⟨o,n,m,k⟩:=h b eH;have j:0<(⟨(b::l).toArray⟩:ByteArray).size:=ax7;have d:Utf8.decode ⟨(b::l).toArray⟩ 0=(b.toNat,1):=(by have e:((⟨(b::l).toArray⟩:ByteArray).get! (0+0)).toNat=b.toNat:=rfl;unfold Utf8.decode;simp only[e];rw[if_pos Om])
  have g:(⟨(b::l).toArray⟩:ByteArray).extract 1 (⟨(b::l).toArray⟩:ByteArray).size=⟨l.toArray⟩:=by
   apply ByteArray.ext
   simp [ByteArray.size]
  rw[quoteFrom_step T f _ j (by simpa [ByteArray.size] using a),d,g,ZU T l (f - 1) (by rw[cT] at a;omega) fun c i=>h c (gQ _ i),jc];unfold quoteStep;rw[d,if_neg Oc];unfold escRune;rw[if_neg Om,if_pos (by unfold isPrintR isPrintLatin;rw[if_pos Om];simp;omega)];unfold encodeRuneZ;rw[if_pos Om];rfl
def p6(t:List UInt8):List UInt8:=34::(t++ [34])
def ajj(a:PrintTabs)(h:∀b∈T,xE b):strOfNums (quoteZ a ⟨T.toArray⟩)=⟨(p6 T).toArray⟩:=by unfold quoteZ;rw[ZU a T _ ax7 h];unfold strOfNums p6;simp [Function.comp_def]
def dp:List (List UInt8)->List UInt8
 | []=> []
 |t::l=>p6 t++dp l
def ach:∀(l:List (List UInt8)) (t:List UInt8),dp (l++ [t])=dp l++p6 t
 | [],t=>by simp [dp]
 |s::l,t=>by simp only[nK,dp,ach l t,jk]
def ad3:∀{s t u v:List UInt8},(34:UInt8)∉s->(34:UInt8)∉t->s++34::u=t++34::v->s=t/\u=v
 | [],[],u,v,_,_,h=>⟨rfl,by simpa using h⟩
 | [],b::t,u,v,_,a,h=>by simp only[tL,nK,wU] at h;exact absurd (by rw[h.1];exact eH) a
 |b::s,[],u,v,d,_,h=>by simp only[tL,nK,wU] at h;exact absurd (by rw[<-h.1];exact eH) d
 |b::s,c::t,u,v,d,a,h=>by simp only[nK,wU] at h;obtain⟨g,f⟩:=ad3 (fun e=>d (gQ _ e)) (fun e=>a (gQ _ e)) h.2;exact⟨by rw[h.1,g],f⟩
def Nn:∀{l m:List (List UInt8)},(∀t∈l,(34:UInt8)∉t)->(∀t∈m,(34:UInt8)∉t)->dp l=dp m->l=m
 | [],[],_,_,_=>rfl
 | [],t::m,_,_,h=>by simp [dp,p6] at h
 |t::l,[],_,_,h=>by simp [dp,p6] at h
 |s::l,t::m,c,b,h=>by simp only[dp,p6,nK,jk,wU,tL,true_and] at h;obtain⟨e,d⟩:=ad3 (c s eH) (b t eH) h;rw[e,Nn (fun t a=>c t (gQ _ a)) (fun t a=>b t (gQ _ a)) d]
def apE(h:∀b∈T,xE b):(34:UInt8)∉T:=fun a=>(h _ a).2.2.1 rfl
def f6(p:List aC->List aC)(y:Gp):Gp:=(p y.1,y.2)
def adA(p:List aC->List aC)(x:Gp)(k:List aC):∀l,cM k ((kO x l).map (f6 p))=(if p x.1=k then x.2 else 0)+cM k (l.map (f6 p))
 | []=>rfl
 |y::l=>by
  unfold kO;split
  ·have c:=adA p x k l;simp only[jc,cM,f6] at c⊢;rw[c,<-uZ,<-uZ,E4 (if p y.1=k then y.2 else 0)]
  ·split
   ·rename_i b;have b:=beq_iff_eq.1 b;simp only[jc,cM,f6,<-b];by_cases a:p y.1=k
    ·rw[if_pos a,if_pos a,if_pos a,E4 y.2 x.2,uZ]
    ·rw[if_neg a,if_neg a,if_neg a,pO,pO]
   ·rfl
def SN(p:List aC->List aC)(k:List aC):∀l o:List Gp,cM k ((l.foldl (fun o x=>kO x o) o).map (f6 p))=cM k (l.map (f6 p))+cM k (o.map (f6 p))
 | [],o=>(pO _).symm
 |x::l,o=>by rw[y5,SN p k l,adA,jc];simp only[cM,f6];grind
def aeb{p:List aC->List aC}{k:List aC}{l:List Gp}:(∃y∈l.map (f6 p),y.1=k)↔∃j,p j=k/\∃y∈l,y.1=j:=by
 constructor
 ·rintro⟨y,b,e⟩;obtain⟨z,a,rfl⟩:=b_.1 b;exact⟨_,e,z,a,rfl⟩
 ·rintro⟨j,e,z,a,rfl⟩;exact⟨_,b_.2 ⟨z,a,rfl⟩,e⟩
def zj(l:List Gp)(k:List aC):(∃y∈dH l,y.1=k)↔∃y∈l,y.1=k:=by unfold dH;rw[(za l [] .nil).2.2 k];simp
def amp(p:List aC->List aC)(l:List Gp):dH ((dH l).map (f6 p))=dH (l.map (f6 p)):=by
 obtain⟨g,f,_⟩:=za ((dH l).map (f6 p)) [] .nil;obtain⟨e,d,_⟩:=za (l.map (f6 p)) [] .nil;refine Sb g e (fun k=> ?_) fun k=> ?_
 ·show(∃y∈dH _,_)↔∃y∈dH _,_
  rw[zj,zj,aeb,aeb];exact exists_congr fun j=>and_congr_right fun _=>zj l j
 ·have c:cM k (dH ((dH l).map (f6 p)))=_:=f k;have b:cM k (dH (l.map (f6 p)))=_:=d k;have a:cM k ((dH l).map (f6 p))=_:=SN p k l [];rw[c,b,a];exact congrArg (·+_) (xc _)
def ac_:∀{G:List Gp},G.Pairwise lO->∀y∈G,cM y.1 G=y.2
 | [],_,y,h=>by cases h
 |z::G,d,y,h=>by
  obtain⟨b,f⟩:=iP.1 d;simp only[cM];rcases aK.1 h with rfl|h
  ·have a:cM y.1 G=0:=zk fun u c e=>by have:=b u c;unfold lO at this;rw[e,iR.jD] at this;cases this
   rw[if_pos rfl,a,xc]
  ·have a:z.1≠y.1:=fun e=>by have:=b y h;unfold lO at this;rw[e,iR.jD] at this;cases this
   rw[if_neg a,ac_ f y h,pO]
def ab9{L:List Gp}{y:Gp}(h:y∈dH L):cM y.1 L=y.2/\∃z∈L,z.1=y.1:=by obtain⟨c,b,_⟩:=za L [] .nil;refine⟨?_,(zj L y.1).1 ⟨y,h,rfl⟩⟩;have a:=b y.1;rw[ac_ c y h] at a;rw[a];exact(xc _).symm
def acX(k:List aC):∀l:List Gp,(∀y∈l,y.1=k)->cM k l=(l.map (·.2)).foldr (·+·) 0
 | [],_=>rfl
 |y::l,h=>by simp only[cM,jc,List.foldr_cons];rw[if_pos (h y eH),acX k l fun z a=>h z (gQ _ a)]
section
variable{x:aP}{D:List (List Rw)}{f0:Fo}
theorem M6(h:bV x)(e:rx x D)(g:x.ay.length<=3):∃a:List Pt,l_ (bu x) (bL (aT x D)) (bM x) a/\a.length<=64/\∀t∈a,1<=t.2/\t.2<=(1000000:Int):=by
 have b:∀r,(bL (aT x D) r).length<=4:=fun r=>by
  unfold bL;rcases k:(aT x D)[r]? with _|l
  ·exact aU _
  ·exact SH e l (pM k)
 have step:∀n,∃a:List Pt,l_ (bu x) (bL (aT x D)) (List.range n) a/\a.length<=4^n:=fun n=>by
  induction n with
  |zero=>exact⟨_,l_.start,aL _⟩
  |succ n i=>obtain⟨a,d,f⟩:=i;refine⟨_,by rw[EW];exact d.step (apv h e.1) n,?_⟩;unfold JE;refine aV (Nt (c:=4) fun t _=> ?_) (by rw[eA];exact eK _ f);rw[bP];exact aV (mP _ _) (b n)
 obtain⟨a,d,f⟩:=step x.ay.length;exact⟨a,d,aV f (fK Od g),fun t j=>ao8 e.1 (y7 _) d g j⟩
def fW(l a:List Nat):List Nat:=a.map fun k=>l.getD k 0
theorem anQ{e:Nat->aC}(h:∀k∈j,k<i.length):gZ (i.map e) j=(fW i j).map e:=by unfold gZ fW;rw[rK];refine kW fun k b=> ?_;have a:=h k b;simp [eG,aX,a]
def ke(G:List Gp):Rat:=(G.map (·.2)).foldl (·+·) 0
theorem aln(l:List Gp):∀c:Rat,(l.map (·.2)).foldl (·+·) c=c+(l.map (·.2)).foldr (·+·) 0:=by
 induction l with
 |nil=>exact fun c=>(xc c).symm
 |cons y l a=>exact fun c=>by rw[jc,y5,a,List.foldr_cons,uZ]
theorem acV(k:List aC)(l:List Gp)(h:∀y∈l,y.1=k):cM k l=ke l:=by unfold ke;rw[acX k l h,aln,pO]
theorem amc{l:List Gp}(a:l.Pairwise lO)(h:∀y∈l,y.1= [])(b:l≠ []):l= [([],ke l)]:=by
 match l,a,h,b with
 | [],_,_,b=>exact absurd rfl b
 | [y],_,h,_=>
   obtain⟨k,q⟩:=y;have e:k= []:=h _ eH;subst e;show _= [([],0+q)]
   rw[pO]
 |y::z::l,a,h,_=>have c:=(iP.1 a).1 z eH;unfold lO at c;rw[h y eH,h z (gQ _ eH)] at c;cases c
theorem amW(o:bV x)(p:rx x D)(G:x.ay.length<=3)(w:Whole x.ai.length (bu x) (bM x) f0){a:List Fu}(M:∀k∈j,k<i.length)(P:jy x a i)(O:jy x a (fW i j))(N:jy x a []){d B c:List Gp}
 (F:qO x D (ki x D f0) (a,i) d) (E:qO x D (ki x D f0) (a,fW i j) B) (C:qO x D (ki x D f0) (a,[]) c):dH (d.map (f6 fun t=>gZ t j))=B/\(c= []->d= [])/\(c≠ []->c= [([],ke d)]):=by
 obtain⟨b,s, -⟩:=M6 o p G;have v:=IH o p.1 w (y7 _) s P F;have A:=IH o p.1 w (y7 _) s O E;have u:=IH o p.1 w (y7 _) s N C;have K:∀(m:List Nat) t,mg (a,m) t=mg (a,i) t:=fun _ _=>rfl;simp only[K] at A u;refine⟨?_,fun h=> ?_,fun h=> ?_⟩
 ·rw[<-v,amp,<-A,rK];congr 1;refine kW fun t _=> ?_;exact congrArg (·,_) (anQ M)
 ·have:b= []:=by
   cases q:b with
   |nil=>rfl
   |cons t V=>obtain⟨y,f, -⟩:=(zj (b.map fun t=>(([]:List aC),mg (a,i) t)) []).2 ⟨_,b_.2 ⟨t,by rw[q];exact eH,rfl⟩,rfl⟩;have e:dH (b.map fun t=>(([]:List aC),mg (a,i) t))= []:=u.trans h;rw[e] at f;cases f
  subst this;exact v.symm
 ·have g:dH (b.map fun t=>(([]:List aC),mg (a,i) t))=c:=u;obtain⟨I,H,_⟩:=za (b.map fun t=>(([]:List aC),mg (a,i) t)) [] .nil;have n:∀y∈c,y.1= []:=fun y f=>by rw[<-g] at f;obtain⟨z,J,e⟩:=(zj _ y.1).1 ⟨y,f,rfl⟩;obtain⟨t,_,rfl⟩:=b_.1 J;exact e.symm
  have r:c.Pairwise lO:=by rw[<-g];exact I
  have L:ke c=ke d:=by
   rw[<-acV [] c n,<-g];show cM [] (dH _)=_
   have U:cM [] (dH (b.map fun t=>(([]:List aC),mg (a,i) t)))=cM [] (b.map fun t=>(([]:List aC),mg (a,i) t))+cM [] []:=H [];have T:(b.map fun t=>(([]:List aC),mg (a,i) t))=(b.map fun t=>(i.map t.1,mg (a,i) t)).map (f6 fun _=> []):=(by rw[rK];rfl)
   have S:=SN (fun _=> []) [] (b.map fun t=>(i.map t.1,mg (a,i) t)) [];have R:(d.map (f6 fun _=> [])).map (·.2)=d.map (·.2):=by rw[rK];rfl
   have Q:cM [] (d.map (f6 fun _=> []))=ke d:=(by rw[acV [] _ fun y f=>by obtain⟨z,_,rfl⟩:=b_.1 f;rfl];unfold ke;rw[R]);rw[U,T,<-Q,<-v];exact S.symm
  rw[<-L];exact amc r n h
end
def am'{B:aQ}{vs:List aC}{K:aQ}{ck:Nat}{ks:List Nat}{w:au}(hT:TL w (.slice B vs d) vs)(b:IL w (.slice K ks ck) (ints ks))(qd:∀k∈ks,k<vs)(j:ks.length<=100):
 Calls prog 57 #[.slice B vs d,.slice K ks ck] w fun e f=>∃v,e= .returned v/\bG bC 1 i3 w.heap.size f v (gZ vs ks)/\Ext w f:=by
 have HT:=af hT;have HK:=af b;have tj:=af qd;obtain⟨-,o,n⟩:=bl hT;obtain⟨-,m,l⟩:=bl b;clear hT b qd;go_enter func57,ntmps57;go_upto_region 3 with fail
 go_loopw [5,10] (fun g a wr=>∃i:Nat,i<=ks/\a=av i/\ah (bG bC 1 i3 w.heap.size wr g (gZ vs (ks.take i)))/\ah (Ext w wr)) (fun _ a _=>ks - (RowKit.intOf a).toNat)
 exact⟨0,aU _,rfl,ii,aB _⟩;obtain⟨i,s,rfl,c,HX⟩:=hrel;have hpl:(gZ vs (ks.take i))=i:=by rw[abY,cO];omega
 obtain⟨q,p,r,rfl, -, -,HR,HC⟩:=c.parts;by_cases vU:i<ks
 ·exact m34
 ·have d1:decide ((i:Int)<(ks.length:Int))=false:=aW;have hit:ks.take i=ks:=dD Om;rw[hit] at c HR HC⊢;clear hit hpl;go_wp2_with fail
  exact bodyPost_ret (v:= .slice q (gZ vs ks) p) (by simp [results,results57,go_sem]) rfl ⟨_,rfl,c,HX⟩
def aj_(hi:a<j.length)(hk:j[a]<i.length):ints (fW i (j.take (a+1)))=ints (fW i (j.take a))++ [(i[j[a]]:Int)]:=by unfold fW ints;exact afL
def amw(hT:IL m (.slice E i a) (ints i))(y:IL m (.slice F j b) (ints j))(f:∀k∈j,k<i)(Q:j.length<=100):
 Calls prog 18 #[.slice E i a,.slice F j b] m fun e I=>∃v,e= .returned v/\bG aS 1 dw m.heap.size I v (ints (fW i j))/\Ext m I:=by
 have X:=af hT;have Y:=af y;have H:=af f;obtain⟨-,V,U⟩:=bl hT;obtain⟨-,T,S⟩:=bl y;clear hT y f;go_enter func18,ntmps18;go_upto_region 3 with fail
 go_loopw [5,10] (fun N o wr=>∃(c:Nat) (h:List Int),c<=j/\h.length=c/\o=av c/\ah (h=ints (fW i (j.take c)))/\ah (bG aS 1 dw m.heap.size wr N h)/\ah (Ext m wr)) (fun _ o _=>j - (RowKit.intOf o).toNat)
 exact⟨0,[],aU _,rfl,rfl,rfl,ii,aB _⟩;obtain⟨c,h,hi,p,rfl,J,L,r⟩:=hrel;obtain⟨d,W,l,rfl, -, -,C,B⟩:=L.parts;by_cases q:c<j
 ·obtain⟨g1,o1,rfl,q1⟩:=nO (Y.ext r) q (jp aS wr);have f:=H _ (a8 q);have D:=af (aj_ q f);obtain⟨g2,w,rfl,q2⟩:=nO (X.ext r) f (jp aS wr);generalize i[j[c]]=t at*;generalize j[c]=k at*;have O:=r.size;have s:(h.length+1)*8<=140737488355328:=Om;have G:=af p;clear p;go_wp2_with (at_builtin;refine gf rfl _ _ cK rfl m.heap.size jo _ _ _ rfl C.ae #[av t] 1 1 rfl rfl rfl s O ?_)
  intro K M n g _;have A:=af (iF (R:=dw) (x:=(t:Int)) cJ Oe C B rfl n g);have z:=af (kI r C g (aL _));clear n g;go_wp2_with fail
  go_roundw;exact⟨c+1,h++ [(t:Int)],by omega,by rw[bD,G.ae];rfl,by go_num,by rw[ah,D.ae,J.ae],A,z⟩;simp [RowKit.intOf];omega
 ·have d1:decide ((c:Int)<(j.length:Int))=false:=aW;have Z:ah (h=ints (fW i j)):=by rw[ah,J.ae,dD Om]
  clear p;go_wp2_with fail;exact bodyPost_ret (v:= .slice d h W) (by simp [results,results18,go_sem]) rfl ⟨_,rfl,by rw[<-Z.ae];exact L.ae,r⟩
abbrev tW:TypeId:=122
def ug(w:au):Prop:=(∃T,PrintTabsAt 6 7 8 9 T w)/\Utf8Tabs 4 5 w
def JK(w a:au):Prop:=∀p v,w.cell? p=some v->a.cell? p=some v
def MT{k:IntKind}(h:TabSlice a k i m)(c:JK m n):TabSlice a k i n:=by obtain⟨R,o,d,f,e⟩:=h;exact⟨R,o,d,c _ _ f,fun j b=>c _ _ (e j b)⟩
def ug.arO(h:ug m)(c:JK m n):ug n:=by obtain⟨⟨T,o,l,j,g,f⟩,e,b⟩:=h;exact⟨⟨T,MT o c,MT l c,MT j c,MT g c,f⟩,fun k d=>c _ _ (e k d),fun i a=>⟨c _ _ (b i a).1,c _ _ (b i a).2⟩⟩
def JK.bX{S:List Nat}(h:aZ S m n)(j:∀i∈S,∃d f,m.heap[i]? =some (.map d f)):JK m n:=fun p v a=>by
 have b:p.block<m.heap.size:=by
  rcases cA p.block m.heap.size with c|c
  ·exact c
  ·simp [World.cell?,wQ c] at a
 have e:=h.block p.block b fun g=>by obtain⟨d,f,e⟩:=j _ g;simp [World.cell?,e] at a
 unfold World.cell? at a⊢;rw[e];exact a
def ug.ext{w':au}(h:ug m)(a:Ext m w'):ug w':=h.arO (JK.bX (S:= []) (.gV a) fun _ h=>by cases h)
def j_(k:List aC):Prop:=k.length<=3/\∀t∈k,t.length<=1000/\∀b∈t,xE b
def j_.ne{k:List aC}(h:j_ k):∀t∈k,(34:UInt8)∉t:=fun t a=>apE (h.2 t a).2
def adt:∀{k:List aC},(∀t∈k,t.length<=1000)->(dp k).length<=k.length*1002
 | [],_=>aL _
 |t::k,h=>by have c:=adt fun s a=>h s (gQ _ a);have b:=h t eH;unfold dp p6;rw[bD,cT,bD,gc,cT,oH];omega
def j_.JP{k:List aC}(h:j_ k):(dp k).length<=3006:=by have b:=adt fun t a=>(h.2 t a).1;have:=eK 1002 h.1;omega
def lg(L:List Gp)(w:au)(b a:Nat):Prop:=∃m f g,m<=L.length/\dt w bC b m f/\dt w bC a m g/\
 (∀k,(∃y∈L,y.1=k)->∃A c q,f (.string (dp k))=some (.slice A k.length c)/\TL w (.slice A k.length c) k/\g (.string (dp k))=some q/\bQ w q (cM k L))/\
 (∀l,(f l).isSome=true->∃y∈L,l= .string (dp y.1))/\∀l,(g l).isSome=true->∃y∈L,l= .string (dp y.1)
def lg.new(f:dt m bC a 0 fun _=>none)(e:dt m bC b 0 fun _=>none):lg [] m a b:=
 ⟨0,_,_,aL _,f,e,fun k ⟨y,d,_⟩=>(by cases d),fun l c=>(by cases c),fun l c=>(by cases c)⟩
def lg.ext{L:List Gp}{w':au}(h:lg L m a b)(e:Ext m w'):lg L w' a b:=by obtain⟨d,f,g,i,r,p,o,n,l⟩:=h;refine⟨d,f,g,i,r.ext e,p.ext e,fun k j=> ?_,n,l⟩;obtain⟨A,c,q,v,u,t,s⟩:=o k j;exact⟨A,c,q,v,eB u e,t,s.ext e⟩
def T4:prog.underlying 119=some (.map bC nS):=Ok
def als(k j:List aC)(q:Rat)(L:List Gp):cM j (L++ [(k,q)])=cM j L+if k=j then q else 0:=by rw[aaq];simp only[cM];rw[xc]
def lg.look{L:List Gp}{k:List aC}(h:lg L m a b)(C:j_ k)(F:∀y∈L,j_ y.1):∃v B t s r z p o d,(Instr.lookup 120 (.map (some b)) (aM (dp k)) true).run prog m= .ok (.tuple #[.agg #[.bool v,.slice B t s,.bool r,.slice z p o],.bool d]) m/\
 (d=true->bQ m (.agg #[.bool v,.slice B t s,.bool r,.slice z p o]) (cM k L))/\(d=false->cM k L=0):=by
 obtain⟨i,f,g, -, -,I,H, -,G⟩:=h;have j:=I.look tQ I5 (SM m) (zx (dp k) (aV C.JP Od));by_cases l:∃y∈L,y.1=k
 ·obtain⟨A,c,q, -, -,x,D⟩:=H k l;obtain⟨v,B,t,s,r,z,p,o,rfl, -, -⟩:=D.parts;rw[x] at j;exact⟨_,_,_,_,_,_,_,_,true,j,fun _=>D,fun h=>by cases h⟩
 ·have x:g (.string (dp k))=none:=by
   cases E:g (.string (dp k)) with
   |none=>rfl
   |some u=>obtain⟨y,n,e⟩:=G _ (by rw[E];rfl);injection e with e;exact absurd ⟨y,n,(Nn C.ne (F y n).ne e).symm⟩ l
  rw[x] at j;exact⟨_,_,_,_,_,_,_,_,false,j,fun h=>(by cases h),fun _=>zk fun y n e=>l ⟨y,n,e⟩⟩
def lg.put{L:List Gp}{k:List aC}{A:aQ}{nv:Value}{q:Rat}(h:lg L m a b)(K:a≠b)(E:j_ k)(P:∀y∈L,j_ y.1)(N:L.length<=3000)(Q:TL m (.slice A k.length c) k)(J:bQ m nv (cM k L+q)):
 ∃r,(Instr.mapUpdate 119 (.map (some a)) (aM (dp k)) (.slice A k.length c)).run prog m= .ok () r/\ah (Only a m r)/\∃p,(Instr.mapUpdate 120 (.map (some b)) (aM (dp k)) nv).run prog r= .ok () p/\ah (Only b r p)/\ah (lg (L++ [(k,q)]) p a b):=by
 obtain⟨d,f,g,M,F,U,T,S,R⟩:=h;have o:=zx (dp k) (aV E.JP Od);obtain⟨r,H,m1,z⟩:=F.put tQ T4 axu o (.slice A k.length c);have u:=U.kept z Oc;obtain⟨p,G,m2,x⟩:=u.put tQ I5 axu o nv;have B:=m1.kept x Oc;have v:∀t,Kept t m p:=fun t=>(F.vB z t).trans (u.vB x t);refine⟨r,H,z,p,G,x,d+1,_,_,by rw[bD];exact Nat.succ_le_succ M,B,m2,fun j O=> ?_,fun l s=> ?_,fun l s=> ?_⟩
 ·rw[als];by_cases e:k=j
  ·subst e;rw[xg,xg,if_pos rfl];exact⟨A,c,nv,rfl,Q.Oi (v _),rfl,J.keep (v _)⟩
  ·have C:∃y∈L,y.1=j:=by
    obtain⟨y,i,n⟩:=O;rcases bO.1 i with i|i
    ·exact⟨y,i,n⟩
    ·rw[bE.1 i] at n;exact absurd n e
   obtain⟨y,i,n⟩:=C;have D:Lit.string (dp j)≠ .string (dp k):=fun h=>by injection h with h;exact e (Nn E.ne (by rw[<-n];exact(P y i).ne) h.symm)
   obtain⟨w,Z,I,Y,X,W,V⟩:=T j ⟨y,i,n⟩;rw[pR D,pR D,if_neg e,xc];exact⟨w,Z,I,Y,X.Oi (v _),W,V.keep (v _)⟩
 ·by_cases e:l= .string (dp k)
  ·exact⟨(k,q),bO.2 (.inr (bE.2 rfl)),e⟩
  ·rw[pR e] at s;obtain⟨y,i,n⟩:=S l s;exact⟨y,bO.2 (.inl i),n⟩
 ·by_cases e:l= .string (dp k)
  ·exact⟨(k,q),bO.2 (.inr (bE.2 rfl)),e⟩
  ·rw[pR e] at s;obtain⟨y,i,n⟩:=R l s;exact⟨y,bO.2 (.inl i),n⟩
def ajL(w:au):
 Calls prog 55 #[] w fun e n=>∃j i,j≠i/\w.heap.size<=j/\w.heap.size<=i/\e= .returned (.agg #[.map (some j),.map (some i)])/\lg [] n j i/\Ext w n:=by
 have t:= @run_makeMap prog;go_enter func55,ntmps55;go_upto_region 1 with fail
 refine aR fun W q s=> ?_;have u:=s.lt;have g:=Ct W bC;have b:=Ct (W.alloc (.map #[] 0)) bC;obtain⟨c,a⟩:∃c,(W.alloc (.map #[] 0)).alloc (.map #[] 0)=c:=⟨_,rfl⟩;have d:aq c w.heap.size tW [.map none,.map none]:=by rw[<-a];exact s.ext (((aB W).alloc (.map #[] 0)).alloc (.map #[] 0))
 have p:dt c bC W.heap.size 0 fun _=>none:=by rw[<-a];exact g.ext ((aB _).alloc _)
 have o:dt c bC (W.heap.size+1) 0 fun _=>none:=(by rw[a,World.size_alloc] at b;exact b);have h:Ext w c:=by rw[<-a];exact q.trans (((aB W).alloc (.map #[] 0)).alloc (.map #[] 0))
 obtain⟨A,z⟩:=d.two;have f0:=d.frozen 0;have f1:=d.frozen 1;obtain⟨B,f,m, -,r,l⟩:=arp d h (aL _) (.map (some W.heap.size)) (.map (some (W.heap.size+1)));have x:=af (lg.new (p.kept r Oc) (o.kept r Oc));have y:=af d;have v:=af f;have k:=q.size;clear d p o g b h f;go_wp2;rw[v.ae];exact bodyPost_ret (results_cell_row rfl _ _ w.heap.size tW #[.map (some W.heap.size),.map (some (W.heap.size+1))] (0,0) _ rfl m.ae underlying122 rfl Ok) rfl ⟨W.heap.size,W.heap.size+1,by omega,k,by omega,rfl,x,l⟩
def OJ:Prop:=∀(t:aC) (W:au),ug W->t.length<=1000->(∀b∈t,xE b)->Calls prog 117 #[aM t] W fun e a=>e= .returned (aM (p6 t))/\Ext W a
def anB(DR:OJ){L:List Gp}{A:aQ}{k:List aC}{nv:Value}{q:Rat}(hS:lg L m a b)(hne:a≠b)(hk:j_ k)(hL:∀y∈L,j_ y.1)(B:TL m (.slice A k c) k)(hq:bQ m nv q)(jU:L.length<=3000)(hfq:bR 400 q)(qX:bR 400000 (cM k L))(hT:ug m):
 Calls prog 56 #[.agg #[.map (some a),.map (some b)],.slice A k c,nv] m fun e l=>e= .returned (.tuple #[])/\lg (L++ [(k,q)]) l a b/\aZ [a,b] m l:=by
 have HPK:=af hk;have wH:=af hL;obtain⟨hn3,F⟩:=hk;obtain⟨hkb,uo⟩:a<m.heap.size/\b<m.heap.size:=(by obtain⟨_,_,_,_,h1,h2,_⟩:=hS;exact⟨h1.lt,h2.lt⟩)
 obtain⟨-,lR,Aj⟩:=bl B;obtain⟨x0,X0,x1,x2,y0,Y0,y1,y2,rfl, -, -⟩:=hq.parts;have HS:=af hS;have HK:=af B;have HQ:=af hq;have XU:=af DR;have HT:=af hT;have pB:=af F;have HFQ:=af hfq;have Yx:=af qX;have N:ah (∀i,(dp (k.take i)).length<=3006):=fun i=>j_.JP ⟨aV axw hn3,fun t ht=>F t (nJ ht)⟩;clear hS B hq DR hT F hfq qX hL;go_enter func56,ntmps56;go_upto_region 2 with fail
 refine vG fun W HX BX BN BB=> ?_;have tC:ah (IsBuilder tB t8 (m.heap.size+1+1) (m.heap.size+1+1) (byteCells (dp (k.take 0))) W):= .inl ⟨aL _,_,BB,mQ _ _ _ _,by simp [Value.ownBlock]⟩;have PJ:=BB.lt;go_upto_region 3 with fail
 go_loopw [8,14] (fun _ D wr=>∃i:Nat,i<=k/\D=av i/\ah (IsBuilder tB t8 (m.heap.size+1+1) (m.heap.size+1+1) (byteCells (dp (k.take i))) wr)/\ah (Below (m.heap.size+1+1) W wr)) (fun _ D _=>k - (RowKit.intOf D).toNat)
 exact⟨0,aU _,rfl,tC,xe _ W⟩;obtain⟨i,hi,rfl,z,HE⟩:=hrel;have u:ah (Ext m wr):=pQ HX (HE.mono Om);have r:m.heap.size+1+1<=wr.heap.size:=by have:=HE.size;omega
 by_cases I:i<k
 ·obtain⟨g2,o2,rfl,hg2,q2⟩:=rX (eB HK u) I;have Ki:=pB _ (a8 I);have fQ:ah (dp (k.take (i+1))=dp (k.take i)++p6 k[i]):=by rw[ah,fR I,ach]
  have s:=N i;generalize k[i]=t at*;generalize dp (k.take i)=nm at*;have CQ:=af (XU t wr (HT.ext u) Ki.1 Ki.2);have Gx:(⟨(p6 t).toArray⟩:ByteArray).size<=1002:=by
   show(p6 t).toArray.size<=1002
   unfold p6;simp;omega
  obtain⟨tq,w⟩:∃tq,p6 t=tq:=⟨_,rfl⟩;rw[w] at CQ Gx fQ;clear w;have Er:=af Gx;go_wp2_with fail
  refine CQ.mono ?_;rintro e w3 ⟨rfl,p⟩;have gP:=af (Uc z p);have LO:ah (Below (m.heap.size+1+1) W w3):=HE.trans (p.mono r);have agY:m.heap.size+1+1<=w3.heap.size:=aV r p.size;clear p;go_wp2_with fail
  refine(acL (m.heap.size+1+1) (m.heap.size+1+1) (byteCells nm) ⟨tq.toArray⟩ w3 gP (by rw[byteCells_length];have:=Er.ae;omega) agY).mono ?_;rintro e w4 ⟨rfl,J,Z⟩;have kV:ah (IsBuilder tB t8 (m.heap.size+1+1) (m.heap.size+1+1) (byteCells (dp (k.take (i+1)))) w4):=by rw[fQ.ae,byteCells_append];rw[Mx] at J;exact .inr J
  have wL:ah (Below (m.heap.size+1+1) W w4):=LO.trans Z;clear J Z;go_wp2;go_roundw;exact⟨i+1,by omega,by go_num,kV,wL⟩;simp [RowKit.intOf];omega
 ·obtain rfl:i=k.length:=Om;have d1:decide ((k.length:Int)<(k.length:Int))=false:=aW;have s:=N k.length;rw[fB] at z s;have N:=af s;go_wp2_with fail
  refine(Tryz.Builder_String_any (m.heap.size+1+1) (m.heap.size+1+1) (dp k) wr z r).mono ?_;rintro e P ⟨rfl,E⟩;have dQ:ah (Ext m P):=pQ u (E.mono Om);have O:ah (Below (m.heap.size+1+1) W P):=HE.trans E;have ED:ah (aq P m.heap.size tW [.map (some a),.map (some b)]):=(O.block _ Om).trans BX.ae;have tx:ah (aq P (m.heap.size+1) cY [.bool x0,.slice X0 x1 x2,.bool y0,.slice Y0 y1 y2]):=(O.block _ Om).trans BN.ae;have nD:=af (HS.ext dQ);obtain⟨o0,O0,o1,o2,r0,R0,r1,r2,d,hlk,hb1,hb0⟩:=nD.look HPK wH;have HSP:=af (fun nv W (hX:Ext m W)=>(HS.ext hX).put (A:=A) (c:=c) (nv:=nv) (q:=q) hne HPK wH jU (eB HK hX));have avu:=af hb1;have avv:=af hb0;have awj:W.heap.size<=P.heap.size:=O.size;generalize dp k=nm at*;obtain⟨s0,s1⟩:=ED.two;clear hb1 hb0 E z tC s HE u r;go_upto_if 30 with fail
  refine aR fun W2 v BO=> ?_;clear hlk s0 s1;go_cut [] (fun wx=>ah (dI wx (m.heap.size+1) (cM k L+q))/\ah (aq wx m.heap.size tW [.map (some a),.map (some b)])/\ah (Ext m wx));case first=>
   have g:ah (Ext m W2):=dQ.trans v;have o:=af (tx.ext v);have C:=af (ED.ext v);cases d with
   |true=>obtain⟨a0,a1,a2,a3⟩:=o.four;obtain⟨c0,c1,c2,c3⟩:=BO.four;go_wp2_with fail;refine(TE _ _ q (cM k L) W2 (HQ.ext g) ((avu trivial).ext v.ae) HFQ Yx Od).mono ?_;rintro e sH ⟨v10,rfl,n,f⟩;obtain⟨z0,Z0,z1,z2,t0,T0,t1,t2,rfl, -, -⟩:=n.parts;have j:=o.ext f;obtain⟨W',hW',x, -,jG,HOn⟩:=dI.put j n (g.trans f) (mX _);obtain⟨k0,k1,k2,k3⟩:=j.four;obtain⟨f0,f1,f2,f3⟩:=j.fX;have HW:=af hW';have avl:ah (aq W' m.heap.size tW [.map (some a),.map (some b)]):=(C.ext f).only HOn.ae Om;clear j hW' a0 a1 a2 a3 c0 c1 c2 c3 n f;go_wp2;rw[HW.ae];go_meet;case rel=>exact⟨by rw[E4];exact x,avl,jG⟩
   |false=>go_wp2;go_meet;case rel=>exact⟨by rw[avv.ae trivial,pO];exact dI.of o (HQ.ext g),C,g⟩
  case rest=>
   obtain⟨x,avk,po⟩:=hcut;obtain⟨Y,N0,X,V,U,P0,R,Q,BNc,VNc⟩:=x.parts;clear x;go_upto_region 11 with fail;have tF:=af avk.drew;have BN3:=af BNc.drew;have M:ah (Ext m wc.drew):=po.drew;have G7:ah (bQ wc.drew (.agg #[.bool Y,.slice N0 X V,.bool U,.slice P0 R Q]) (cM k L+q)):=VNc.ext ((aB wc).drew);have bK:ah (∀l,(aq l m.heap.size tW [.map (some a),.map (some b)]/\aq l (m.heap.size+1) cY [.bool Y,.slice N0 X V,.bool U,.slice P0 R Q])->(aA l m.heap.size 0 (.map (some a))/\aA l m.heap.size 1 (.map (some b)))/\F4 l (m.heap.size+1) (.bool Y) (.slice N0 X V) (.bool U) (.slice P0 R Q)):=fun l h=>⟨h.1.two,h.2.four⟩;unfold F4 at bK;have aJ:ah (aq wc.drew m.heap.size tW [.map (some a),.map (some b)]/\aq wc.drew (m.heap.size+1) cY [.bool Y,.slice N0 X V,.bool U,.slice P0 R Q]):=⟨tF,BN3⟩;refine cG (S:=fun l=>aq l m.heap.size tW [.map (some a),.map (some b)]/\aq l (m.heap.size+1) cY [.bool Y,.slice N0 X V,.bool U,.slice P0 R Q]) (T:=fun _=>false) Ok ?_;generalize wc.drew=wd at*;refine ax 0 34 ?_;refine ax 1 35 ?_;refine ax 2 36 ?_;refine ax 3 37 ?_;refine ax 4 38 ?_;refine ax 5 39 ?_;refine ax 6 40 ?_;refine ax 7 41 ?_;obtain⟨sH,hr1,H,w11,hr2,G,Lp⟩:=HSP _ wd M G7;have Wx:=M.size;have oC:=af (tF.only H Om);have BN4:=af (BN3.only H Om);have QF:=af (oC.only G Om);have BN5:=af (BN4.only G Om);refine aO 8 ?_;intro K B;go_simp;refine B.ae _ _ (fun _=>⟨oC,BN4⟩) ?_;refine aO 9 ?_;intro K B;go_simp;refine B.ae _ _ (fun _=>⟨QF,BN5⟩) ?_;refine bY Ok ?_;have HC:ah (aZ [a,b] m w11):=((gS M).only H.ae (.inl Ou)).only G.ae (.inl Ou);clear hr1 hr2 B;go_wp2_with fail
   exact bodyPost_end (results_none rfl _ _ _) rfl ⟨rfl,Lp,HC⟩
section
open Go.Sort Go.Shelf
def I1:Go.Shelf.Ren:=⟨fun|177=>117|250=>194|289=>249|197=>292|323=>293|260=>335|339=>336|340=>337|242=>338|119=>339|345=>366|346=>367|278=>368|n=>n,fun|9=>9|5=>5|4=>4|3=>3|37=>199|21=>21|105=>337|46=>242|119=>395|0=>0|139=>398|138=>397|49=>399|234=>400|131=>186|51=>354|236=>402|n=>n,fun|3=>4|4=>5|20=>6|21=>7|22=>8|23=>9|24=>10|n=>n⟩
def arx:Go.Proofs.Lays.n177 prog I1:=ax6
def Nz{f:FuncId}{B:Go.Func}(h:(((prog.funcs[f]?).map (·.name)).getD "" == "runtime.NumGoroutine")=false)(a:prog.funcs[f]? =some {B with name:=((prog.funcs[f]?).map (·.name)).getD "" }):Bears prog f B:=⟨_,h,a⟩
def aa7:Go.Shelf.Ren:=⟨fun|6=>201|15=>256|14=>255|28=>312|29=>313|20=>304|21=>305|22=>306|23=>307|24=>308|25=>309|26=>310|27=>311|46=>345|47=>346|48=>347|49=>348|50=>349|57=>370|n=>n,fun|22=>67|24=>9|25=>216|3=>3|39=>242|0=>0|53=>354|55=>265|4=>4|46=>348|45=>347|50=>186|5=>5|9=>9|66=>380|70=>383|76=>407|77=>408|n=>n,fun|n=>n⟩
def aqL:Go.Proofs.SlLaysF.n6 prog aa7:=axz
def aa6:Go.Shelf.Ren:=⟨fun|7=>122|10=>202|n=>n,fun|23=>119|26=>9|3=>67|28=>213|0=>0|27=>212|33=>159|4=>4|n=>n,fun|n=>n⟩
def aeR:Go.Proofs.SlLaysZ.n7 prog aa6:=axz
def akz:Go.Shelf.Ren:=⟨fun|8=>200|11=>254|n=>n,fun|26=>9|28=>213|24=>67|0=>0|33=>159|4=>4|n=>n,fun|n=>n⟩
def aqK:Go.Proofs.SlLaysZ.n8 prog akz:=axz
def alO:OJ:=fun t W ⟨⟨T,hT⟩,c⟩ f b=>by refine(Any.strconv_Quote arx Ok T ⟨t.toArray⟩ W ayk hT c).mono ?_;rintro e d ⟨rfl,a⟩;rw[ajj T b];exact⟨rfl,a⟩
end
namespace Go.Proofs.YtehkcnbodcdijaaGreatDoor.aggregateGroups
def table(h:laidMetH prog Rows.aggregateGroupsRow.laid m):d7 m:=
 ai9 Ok Ok at6 Ok underlying386 underlying265 Ok Ok h
def ary:Go.Proofs.Lays.n339 prog I1:=ax6
def arw:Go.Proofs.Lays.n260 prog I1:=ax6
def arv:Go.Proofs.PrintExtra prog I1:=by constructor<;>kernel_rfl
def aru:Go.Proofs.U8Extra prog I1:=by constructor<;>kernel_rfl
def aqB(h:laidMetH prog Rows.aggregateGroupsRow.laid m):ug m:=by rw[Zj _ _ _ Ok] at h;have a:∀(i:Nat) {n:String} {d:DataW Unit},Rows.aggregateGroupsRow.laid[i]? =some (n,d)->Lib.VarReads prog m n d:=fun i _ _ e=>Lib.laidMet.reads h (pM e);exact⟨⟨_,Go.Proofs.printTabs_of_reads ary arv (a 9 Ok) (a 7 Ok) (a 10 Ok) (a 8 Ok)⟩,Go.Proofs.utf8Tabs_of_reads arw aru (a 11 Ok) (a 3 Ok)⟩
def agB:DataW Unit->Value
 | .lit (.int k z)=> .int k z
 |_=> .bool false
def ar3:DataW Unit->List Value
 | .agg l=>l.map agB
 |d=> [agB d]
def afc:DataW Unit->Array Value
 | .agg l=>(l.flatMap ar3).toArray
 |_=> #[]
def aod:Array Obj:=adp++ #[.cells (Lib.intCellsOf .u16 Go.Pinned.isGraphicZ) 399,.cells (Lib.intCellsOf .u16 Go.Pinned.isNotPrint16Z) 399,.cells (Lib.intCellsOf .u16 Go.Pinned.isNotPrint32Z) 399,.cells (Lib.intCellsOf .u16 Go.Pinned.isPrint16Z) 399,.cells (Lib.intCellsOf .u32 Go.Pinned.isPrint32Z) 354]
noncomputable def J5(i n:Nat):Obj->Obj
 | .cells _ t frozen=> .cells #[aG (low+i) 0 n n] t frozen
 |o=>o
noncomputable def world(a:Os):World:=
 let w:=amx a
 {w with heap:=((((((((w.heap.extract 0 low++aod).modify 10 (J5 2 Go.Pinned.isGraphicZ.length)).modify 7 (J5 3 Go.Pinned.isNotPrint16Z.length)).modify 9 (J5 4 Go.Pinned.isNotPrint32Z.length)).modify 6 (J5 5 Go.Pinned.isPrint16Z.length)).modify 8 (J5 6 Go.Pinned.isPrint32Z.length)).modify 4 fun
  | .cells _ t frozen=> .cells (afc Rows.laid_unicode_utf8_first) t frozen
  |o=>o).modify 5 fun
  | .cells _ t frozen=> .cells (afc Rows.laid_unicode_utf8_acceptRanges) t frozen
  |o=>o)}
noncomputable abbrev mem(os:Os):World:=((world os).forCall (fun _ _=>0) ⟨#[],#[.slice none 0 0],[]⟩).memory
def ate(a:Os):Go.LaidIn prog (mem a) (Rows.aggregateGroupsRow.laid.take 6) [11,12,3,5,2,1,low,low+1]:=
 LaidIn.of_run _ 8 Ok Ok Ok Ok
def as9(a:Os):Go.LaidIn prog (mem a) [("unicode/utf8.first",Rows.laid_unicode_utf8_first)] [4]:=
 LaidIn.of_run _ 8 Ok Ok Ok Ok
def atd(a:Os):Go.LaidIn prog (mem a) [("strconv.isGraphic",Rows.laid_strconv_isGraphic)] [10,low+2]:=
 Ms (t:=400) (e:=399) (te:=399) (k:= .u16) Go.Pinned.isGraphicZ (low+2) Ok Ok Ok Ok Ok Ok Ok Ok (of_decide_eq_true Ok) (of_decide_eq_true Ok)
def atc(a:Os):Go.LaidIn prog (mem a) [("strconv.isNotPrint16",Rows.laid_strconv_isNotPrint16)] [7,low+3]:=
 Ms (t:=400) (e:=399) (te:=399) (k:= .u16) Go.Pinned.isNotPrint16Z (low+3) Ok Ok Ok Ok Ok Ok Ok Ok (of_decide_eq_true Ok) (of_decide_eq_true Ok)
def atb(a:Os):Go.LaidIn prog (mem a) [("strconv.isNotPrint32",Rows.laid_strconv_isNotPrint32)] [9,low+4]:=
 Ms (t:=400) (e:=399) (te:=399) (k:= .u16) Go.Pinned.isNotPrint32Z (low+4) Ok Ok Ok Ok Ok Ok Ok Ok (of_decide_eq_true Ok) (of_decide_eq_true Ok)
def ata(a:Os):Go.LaidIn prog (mem a) [("strconv.isPrint16",Rows.laid_strconv_isPrint16)] [6,low+5]:=
 Ms (t:=400) (e:=399) (te:=399) (k:= .u16) Go.Pinned.isPrint16Z (low+5) Ok Ok Ok Ok Ok Ok Ok Ok (of_decide_eq_true Ok) (of_decide_eq_true Ok)
def as_(a:Os):Go.LaidIn prog (mem a) [("strconv.isPrint32",Rows.laid_strconv_isPrint32)] [8,low+6]:=
 Ms (t:=402) (e:=354) (te:=354) (k:= .u32) Go.Pinned.isPrint32Z (low+6) Ok Ok Ok Ok Ok Ok Ok Ok (of_decide_eq_true Ok) (of_decide_eq_true Ok)
def aop(a:Os):laidMetH prog Rows.aggregateGroupsRow.laid (mem a):=by rw[Zj _ _ _ Ok];exact((ate a).append ((atd a).append ((atc a).append ((atb a).append ((ata a).append ((as_ a).append (as9 a) Ok) Ok) Ok) Ok) Ok) Ok).met
def goes:false=Rows.aggregateGroupsRow.goesBy Tryz.pinned.checked.prog:=Ok
end Go.Proofs.YtehkcnbodcdijaaGreatDoor.aggregateGroups
def aaf{l:List UInt8}(h:∀c∈l,jA c\/c=45\/c=47):∀b∈l,xE b:=fun b a=>by
 unfold xE;rcases h b a with h|rfl|rfl
 ·unfold jA at h;omega
 ·decide
 ·decide
def Sg:∀c∈aY B,jA c\/c=45\/c=47:=fun c h=>by
 unfold aY at h;rcases bO.1 h with h|h
 ·split at h
  ·rw[bE] at h;exact .inr (.inl h)
  ·cases h
 ·exact .inl (vg _ c h)
def aiv:∀c∈cP H,jA c\/c=45\/c=47:=fun c h=>by
 by_cases a:H.den=1
 ·rw[pP a] at h;exact Sg c h
 ·rw[qz a] at h;rcases bO.1 h with h|h
  ·exact Sg c h
  ·rcases aK.1 h with h|h
   ·exact .inr (.inr h)
   ·exact .inl (vg _ c h)
def ajS(h:ej B T):∀b∈T,xE b:=by
 rcases h with rfl|⟨-, -,a⟩|⟨-,z,rfl, -⟩|⟨-,q,rfl, -⟩
 ·exact fun b c=>by cases c
 ·rcases a with rfl|rfl|rfl<;>(unfold xE;decide)
 ·exact aaf Sg
 ·exact aaf aiv
section
variable{x:aP}{D:List (List Rw)}{f0:Fo}{fs:List Fu}{l:List Nat}{G:List Gp}
theorem aoW(b:bV x)(f:rx x D)(k:x.ay.length<=3)(w:Whole x.ai.length (bu x) (bM x) f0)(d:jy x fs l)(j:qO x D (ki x D f0) (fs,l) G):∀y∈G,j_ y.1/\y.1.length=l.length:=fun y g=>by obtain⟨q,i, -⟩:=M6 b f k;have p:=IH b f.1 w (y7 _) i d j;rw[<-p] at g;obtain⟨z,m,e⟩:=(zj _ y.1).1 ⟨y,g,rfl⟩;obtain⟨t,n,rfl⟩:=b_.1 m;have e:l.map t.1=y.1:=e;rw[<-e];refine⟨⟨by rw[bP];exact d.al,fun s o=> ?_⟩,bP _⟩;obtain⟨a,c,rfl⟩:=b_.1 o;have h:=am1 b f.1 (y7 _) i n (d.ao a c);exact⟨aV (abw h) Od,ajS h⟩
theorem aeq(b:bV x)(c:rx x D)(i:x.ay.length<=3)(w:Whole x.ai.length (bu x) (bM x) f0)(f:jy x fs l)(r:fs.length<=2)(d:qO x D (ki x D f0) (fs,l) G):G.length<=64/\∀y∈G,cC (i6^2) (64*(1000000*jF^2)) y.2:=by
 obtain⟨g,o,n,k⟩:=M6 b c i;have p:=IH b c.1 w (y7 _) o f d;refine⟨apW b c f d,fun y j=> ?_⟩;have a:=j;rw[<-p] at a;have e:y.2=cM y.1 (g.map fun t=>(l.map t.1,mg (fs,l) t)):=(ab9 a).1.symm;rw[e,Te];refine abH (fun t m=> ?_) n;split
 ·have h:=(aey (show t.2.natAbs<=1000000 by have:=k t m;omega)).mul (acR t.1 fs);rw[lX] at h;unfold mg;rw[Rat.mul_comm];have e:i6^2=i6^fs.length*i6^(2 - fs.length):=ayy;have q:jF^2=jF^fs.length*jF^(2 - fs.length):=ayy;rw[e];refine(h.up (C:=i6^(2 - fs.length))).mono ?_;rw[q,fS];exact h_ _ (h_ _ (QY UJ _))
 ·exact zw _ _
end
def adZ{B N:Nat}:∀{G:List Gp},(∀y∈G,cC B N y.2)->∀{c:Rat} {M:Nat},cC B M c->cC B (M+G.length*N) ((G.map (·.2)).foldl (·+·) c)
 | [],_,c,M,a=>by rw[uY,IC];exact a
 |y::G,h,c,M,a=>by have b:=adZ (fun z d=>h z (gQ _ d)) (a.add (h y eH));rw[jc,y5];refine b.mono ?_;rw[cT,oH];omega
structure avy(l ks:List Nat)(GA GB GC:List Gp):Prop where
 kp:∀y∈GA,j_ y.1/\y.1.length=l.length
 gl:GA.length<=64
 fa:∀y∈GA,bR 80 y.2
 fb:∀y∈GB,bR 400 y.2
 ft:∀k,k<=GA.length->bR 400 (ke (GA.take k))
 eb:dH (GA.map (f6 fun t=>gZ t ks))=GB
 c0:GC= []->GA= []
 c1:GC≠ []->GC= [([],ke GA)]
def aql{x:aP}{D:List (List Rw)}{r:List Fu}(h:dP m p x)(z:bV x)(ho:sF m q x)(C:rx x D)(hn:D.length=a)(hd:iO m (.slice E a b) D)(a5:x.ai.length<=5)(K:x.ay.length<=3)
 (Y:∀k∈j,k<i.length) (hl:ry m (.slice F 3 d) [(r,i),(r,fW i j),(r,[])]) (O:jy x r i) (V:jy x r (fW i j)) (v:jy x r []) (Z:r.length<=2) (R:d7 m):
 Calls prog 11 #[p,q,.slice E a b,.slice F 3 d] m fun e P=>∃A c H J I,e= .returned (.tuple #[.slice A 3 c,av 0])/\EF P (.slice A 3 c) [H,J,I]/\avy i j H J I/\Ext m P:=by
 subst hn;obtain⟨W,s⟩:=abd x z;obtain⟨ts,hg,T,hw⟩:=M6 z C K;have rq:∀y∈ [(r,i),(r,fW i j),(r,[])],OI x D W g9 uR uC (ki x D W) y:=fun y B=>by
  have L:jy x y.1 y.2/\y.1.length<=3:=by
   simp only[aK,bJ,or_false] at B;rcases B with rfl|rfl|rfl
   ·exact⟨O,by show r.length<=3;omega⟩
   ·exact⟨V,by show r.length<=3;omega⟩
   ·exact⟨v,by show r.length<=3;omega⟩
  exact apo z C s (y7 _) hg (aV T Od) (fun t R=>by have:=hw t R;omega) L.1 L.2
 refine(aev p q x D E F b d [(r,i),(r,fW i j),(r,[])] (ki x D W) m h z ho C.1 hd Om S_.1 S_.2.1 S_.2.2 s hl Ou rq R).mono ?_;rintro e P ⟨u,l,rfl,hu,U,S,hx⟩;obtain⟨H,J,I,rfl⟩:∃H J I,l= [H,J,I]:=by
  match l,U with
  | [f,g,c],_=>exact⟨f,g,c,rfl⟩
 obtain⟨A,c,w,rfl,h1⟩:=hu;have Q:=S 0 Ou Ou;have X:=S 1 Ou Ou;have rC:=S 2 Ou Ou;obtain⟨e1,e2,e3⟩:=amW z C K s Y O V v Q X rC;obtain⟨n,o⟩:=aeq z C K s O Z Q;obtain⟨-,g3⟩:=aeq z C K s V Z X;refine⟨A,c,H,J,I,rfl,⟨A,c,w,rfl,h1⟩,⟨aoW z C K s O Q,n,fun y B=>(o y B).fit axq axq axq,fun y B=>((g3 y B).fit axq (e:=80) axq axq).mono Od,fun k Y=> ?_,e1,e2,e3⟩,hx⟩;have h2:=adZ (G:=H.take k) (fun y B=>o y (nJ B)) (c:=0) (M:=0) (zw _ _);refine bR.mono (e:=100) ((h2.mono (N:=64*(64*(1000000*jF^2))) ?_).fit axq axq axq) Od;rw[jL];exact eK _ (by rw[cO];exact aV (ZM _ _) n)
section
open Go.Sort Go.Shelf
abbrev Gj:TypeId:=119
def akF(a:Option Nat)(W:au):Calls prog 122 #[.map a] W fun e b=>e= .returned (.func (.func 202) #[] #[aI W.heap.size 0])/\b=W.alloc (.cells #[.map a] Gj):=
 (callsIn_wide (n:=5)).1 (AnyZ.keys_in aeR Fence.wide 5 trivial rfl a W)
def akZ{D:DataW Value}(i:aA m c 0 (.map (some a)))(j:c<m.heap.size)(g:m.ownsMap prog bC se a b D)(k:Maps.size D<=100000):
 Calls prog 200 #[.func (.func 202) #[] #[aI c 0]] m fun e h=>∃v d,e= .returned v/\d.Perm (strKeys D)/\h.ownsRow m.heap.size bC 1 v d.length (d.map encStr)/\(v= .slice none 0 0↔d= [])/\Ext m h:=by
 refine(callsIn_wide (n:=6)).1 ?_;have f:SeqGives Fence.wide 4 prog 202 #[aI c 0] encStr (fun d=>d.Perm (strKeys D)) (Maps.size D) m:=
  AnyZ.keys_gives (ρ:=aa6) {aeR with} Fence.wide _ trivial rfl Om c a b D _ j i g
 exact AnyZ.collect_in aqK Fence.wide 6 trivial trivial rfl Om _ _ trivial (enters_of func202 Ok rfl) _ _ axu Om m f
def nh(L:List Gp):Type:={k:List aC//∃y∈L,y.1=k}
def ue(L:List Gp)(k:nh L):Value:=aM (dp k.1)
def amY{L:List Gp}(x:∀y∈L,j_ y.1)(D:lg L m b c)(E:aq m a tW [.map (some b),.map (some c)])(d i:nh L):
 Calls prog 123 #[ue L d,ue L i,aI a 0] m fun e s=>e= .returned (av (iG d.1 i.1))/\s=m:=by
 obtain⟨l,f,g, -,B, -,z, -, -⟩:=D;obtain⟨d,v⟩:=d;obtain⟨i,u⟩:=i;have o:∀k,(∃y∈L,y.1=k)->(dp k).length<=100000:=fun k ⟨y,C,e⟩=>by rw[<-e];exact aV (x y C).JP Od
 have n:∀m,(zeroValue nS).run prog m= .ok (.slice none 0 0) m:=fun m=>by kernel_rfl
 have p:∀k,(∃y∈L,y.1=k)->∃A j,(Instr.lookup Gj (.map (some b)) (aM (dp k)) false).run prog m= .ok (.slice A k.length j) m/\TL m (.slice A k.length j) k:=fun k t=>by obtain⟨A,j,q,G,F, -, -⟩:=z k t;have h:=B.get tQ T4 (n m) (zx (dp k) (o k t));rw[G] at h;exact⟨A,j,h,F⟩
 obtain⟨S,Q,O,t1⟩:=p d v;obtain⟨R,P,N,t2⟩:=p i u;have H:=af (ac2 _ _ _ _ _ _ d i m t1 t2);obtain⟨J,I⟩:=E.two;unfold ue;simp only;generalize iG d i=r at*;generalize dp d=M at*;generalize dp i=K at*;clear B z p t1 t2 x o v u;go_enter func123,ntmps123;go_wp2_with fail
 refine H.mono ?_;rintro e s ⟨rfl,rfl⟩;go_wp2;go_ret;exact⟨rfl,rfl⟩
section
variable{α:Type} [Inhabited α]{enc:α->Value}{w:au}{g n:Nat}{os:Array Obj}
theorem acp(d:Array α):w.grownBy (sortWorld enc w g 0 n d os) (some g):=by refine⟨rfl,rfl,rfl,by simp [sortWorld],fun k b a=> ?_⟩;unfold sortWorld;rw[heap_grow_old _ _ axG];have:g≠k:=fun e=>a (by rw[e]);simp [putRow,mapBlock,Sort.ahead,Mk,this]
theorem apH{d:Array Value}{h:List α}(k:h.length=c)(f:a<=g)(i:w.heap[g]? =some (.cells d x (0,0)))(r:c<=b)(q:b<=maxLen)(p:d.size=b*1):
 (sortWorld enc w g 0 n h.toArray os).ownsRow a x 1 (.slice (some ⟨g,0,none⟩) c b) c (h.map enc):=by
 have o:g<w.heap.size:=(Mf.1 i).1;refine⟨by simp [k],.inr ⟨g,b,putCells enc 0 h.toArray d,rfl,f,?_,r,q,by simp [putCells,p],?_⟩⟩
 ·unfold sortWorld;rw[heap_grow_old _ _ (by simpa using o)];simp [putRow,mapBlock,Sort.ahead,Mk,i,onCells]
 ·apply rF
  intro j;by_cases l:j<h.length
  ·rw[lF,List.getElem?_take_of_lt Om,Array.getElem?_toList];simp [putCells,l,show j<d.size by omega]
  ·rw[List.getElem?_take_eq_none Om,eT Oc]
theorem amK{a:Array Value}{b:List α}(d:w.heap[g]? =some (.cells a x (0,0)))(h:a.toList.take b.length=b.map enc):Holds enc w g 0 b.toArray:=by
 intro j i;have c:j<b.length:=ayA;refine⟨?_,by simp [World.frozen?,d]⟩;have f:(a.toList.take b.length)[j]? =(b.map enc)[j]?:=by rw[h]
 rw[List.getElem?_take_of_lt c] at f;simp only[World.cell?,d,jL];simp only[Option.isSome_none,Q5,if_false];rw[<-Array.getElem?_toList,f];simp [c]
end
def acb{α β:Type}{f:α->β}:∀{l:List β},(∀s∈l,∃k,f k=s)->∃a:List α,a.map f=l
 | [],_=>⟨[],rfl⟩
 |s::l,h=>by obtain⟨k,d⟩:=h s eH;obtain⟨a,c⟩:=acb fun t b=>h t (gQ _ b);exact⟨k::a,by rw[jc,d,c]⟩
def aoc{L:List Gp}{w:au}{f:Lit->Option Value}(h:dt w bC a b f)(N:∀k,(∃y∈L,y.1=k)->(f (.string (dp k))).isSome=true)(M:∀l,(f l).isSome=true->∃y∈L,l= .string (dp y.1)):
 ∃D:DataW Value,w.ownsMap prog bC se a b D/\(strKeys D).Nodup/\Maps.size D<=b/\∀s,s∈strKeys D↔∃y∈L,s=dp y.1:=by
 obtain⟨D,c,E⟩:=h;obtain⟨G,i,r⟩:=c.keysOf;obtain⟨P,o,t⟩:=c.tidy tQ;rw[i] at o;injection o with o;subst o;have d:∀p∈G,∃x:List UInt8,p.1= .string x:=fun p t=>by obtain⟨v,H⟩:=r p t;obtain⟨x, -,e, -⟩:=Maps.keyOf_str Ok H;exact⟨x,e⟩
 refine⟨D,c,?_,?_,fun s=> ?_⟩
 ·rw[i];refine rD.2 (t.imp_of_mem fun {p q} t I B e=>B ?_);obtain⟨x,z⟩:=d p t;obtain⟨y,F⟩:=d q I;rw[z,F] at e;rw[z,F];exact congrArg _ e
 ·obtain⟨O,C, -, -,K,J⟩:=c;rw[J,Maps.size_eq];rw[length_sorted];simpa using K
 ·rw[i];show s∈G.map (fun p=>strOf p.1)↔_
  rw[b_];constructor
  ·rintro⟨p,j,rfl⟩;obtain⟨x,z⟩:=d p j;have u:Maps.has D (.string x)=true:=by rw[i,has_eq];exact mU.2 ⟨p,j,by rw[z];exact Zw trivial⟩
   rw[(E (.string x) trivial).1] at u;obtain⟨y,A,e⟩:=M _ u;injection e with e;exact⟨y,A,by rw[z];exact e⟩
  ·rintro⟨y,A,rfl⟩;have u:=N y.1 ⟨y,A,rfl⟩;rw[<-(E (.string (dp y.1)) trivial).1,i,has_eq] at u;obtain⟨p,j,e⟩:=mU.1 u;exact⟨p,j,by rw[WideAt.sameKey_eq e];rfl⟩
def qJ(L:List Gp):List (List aC):=(dH L).map (·.1)
def ace{L:List Gp}{k:List aC}:k∈qJ L↔∃y∈L,y.1=k:=by unfold qJ;rw[b_];exact zj L k
def acd(L:List Gp):(qJ L).Pairwise fun j k=>dU j k=true:=rD.2 (za L [] .nil).1
def Jw(a b:List aC):decide (iG a b<0)=dU a b:=by
 unfold iG;cases dU a b
 ·simp only[Q5,if_false];split<;>rfl
 ·rfl
def aly{L:List Gp} [Inhabited (nh L)]{m:List (nh L)}(u:m.Nodup)(h:∀k:nh L,k∈m):(m.mergeSort fun x y=> !(ltOf fun a b:nh L=>iG a.1 b.1) y x).map (·.1)=qJ L:=by
 have o:∀x y:nh L,(ltOf fun a b:nh L=>iG a.1 b.1) x y=dU x.1 y.1:=fun x y=>Jw x.1 y.1;have r:=List.mergeSort_perm m fun x y=> !(ltOf fun a b:nh L=>iG a.1 b.1) y x;have t:=List.pairwise_mergeSort (le:=fun x y=> !(ltOf fun a b:nh L=>iG a.1 b.1) y x) (fun a b c d i=>by
  rw[o] at d i⊢;cases p:dU c.1 a.1 with
  |false=>rfl
  |true=>
   cases s:dU b.1 c.1 with
   |true=>rw[iR.tr _ _ _ s p] at d;cases d
   |false=>
    have e:=iR.vI b.1 c.1 s ayA;rw[e,p] at d;cases d) (fun a b=>by
  rw[o,o];cases d:dU b.1 a.1 with
  |false=>rfl
  |true=>
   cases i:dU a.1 b.1 with
   |false=>rfl
   |true=>have:=iR.tr _ _ _ d i;rw[iR.jD] at this;cases this) m
 have f:((m.mergeSort fun x y=> !(ltOf fun a b:nh L=>iG a.1 b.1) y x).map (·.1)).Pairwise fun j k=>dU j k=true:=by
  refine rD.2 ((t.and (r.nodup_iff.2 u)).imp fun {x y} ⟨d,i⟩=> ?_);rw[o] at d;cases p:dU x.1 y.1 with
  |true=>rfl
  |false=>exact absurd (Subtype.ext (iR.vI x.1 y.1 p axP)) i
 have q:∀{l:List (List aC)},(l.Pairwise fun j k=>dU j k=true)->l.Nodup:=fun h=>h.imp fun h e=>by rw[e,iR.jD] at h;cases h
 refine List.Perm.eq_of_pairwise (le:=fun j k=>dU j k=true) (fun a b _ _ d i=> ?_) f (acd L) ((List.perm_ext_iff_of_nodup (q f) (q (acd L))).2 fun k=> ?_)
 ·have:=iR.tr _ _ _ d i;rw[iR.jD] at this;cases this
 ·rw[ace,b_];constructor
  ·rintro⟨x,_,rfl⟩;exact x.2
  ·exact fun v=>⟨⟨k,v⟩,r.mem_iff.2 (h _),rfl⟩
def alA{α:Type} [Inhabited α](enc:α->Value)(u:OneCell enc)(f:α->α->Int)(m:SWO (ltOf f))(g:Nat)(l:Array Value)(a b j:Nat)(d:Array α)(w:au)
 (v:∀c w,(callFunc g c).run prog w= .ok (.enter g c) w) (h:CmpLays1 prog g l enc f a b d.size w) (t:Holds enc w a b d) (i:a<w.heap.size) (k:d.size<4611686018427387904) (hT:∀x y,(ltOf f) x y=false->(ltOf f) y x=false->x=y):
 Calls prog 201 #[.slice (some ⟨a,b,none⟩) d.size j,.func (.func g) #[] l] w fun e o=>
  e= .returned (.tuple #[])/\∃n os,o=sortWorld enc w a b n (d.toList.mergeSort fun x y=> !(ltOf f) y x).toArray os:=
 (Any.slices_SortFunc aqL enc u f m g l a b j d w v h t i k).mono fun _ _ ⟨s,z,n,os,r,q,p⟩=>
  ⟨s,n,os,by rw[p,<-sorted_unique_holds m hT d z r q]⟩
def ai'(r:∀(p:aQ) (H:Nat) (fv:Value) (w:au),Calls prog 201 #[.slice p 0 H,fv] w fun e K=>e= .returned (.tuple #[])/\K=w){L:List Gp}{w:au}{xb bm:Nat}(hL:∀y∈L,j_ y.1)(jU:L.length<=3000)(hS:lg L w a b)(hB:aq w xb tW [.map (some a),.map (some b)])(hm:aA w bm 0 (.map (some a)))(U:bm<w.heap.size):
 Calls prog 121 #[.func (.func 202) #[] #[aI bm 0],.func (.func 123) #[] #[aI xb 0]] w fun e K=>∃v,e= .returned v/\K.ownsRow w.heap.size bC 1 v (qJ L).length ((qJ L).map fun k=>aM (dp k))/\Ext w K:=by
 have hSS:=hS;obtain⟨m,f,g,z8,q, -,h3,h4, -⟩:=hSS;obtain⟨D,B,O,hsz,C⟩:=aoc q (fun k hk=>by obtain⟨_,_,_,e, -⟩:=h3 k hk;rw[e];rfl) h4;have CC:=af (akZ hm U B Om);have LB:=af r;have Qs:=af (fun W (hX:Ext w W) c d=>amY hL (hS.ext hX) (hB.ext hX) c d);have Q:=af hL;have P:=af C;have yB:=af O;clear hS q h3 h4 B r hm hL C O hB;go_enter func121,ntmps121;go_wp2_with fail
 refine CC.mono ?_;rintro e A ⟨v,ss,rfl,I,i,t,Y⟩;have M:∀s∈ss,∃k:nh L,dp k.1=s:=fun s hs=>by obtain⟨y,T,e⟩:=(P s).1 (I.mem_iff.1 hs);exact⟨⟨y.1,y,T,rfl⟩,e.symm⟩
 obtain⟨o,rfl⟩:=acb M;have Z:o.Nodup:=(by have h:=I.nodup_iff.2 yB;exact(rD.1 h).imp fun h e=>h (by rw[e]))
 have E:∀k:nh L,k∈o:=fun k=>by obtain⟨y,T,e⟩:=k.2;have h:=I.mem_iff.2 ((P (dp k.1)).2 ⟨y,T,by rw[e]⟩);obtain⟨k',vR,e'⟩:=b_.1 h;obtain⟨y',X,ey'⟩:=k'.2;have:k'=k:=Subtype.ext (Nn (by rw[<-ey'];exact(Q y' X).ne) (by rw[<-e];exact(Q y T).ne) e');rw[<-this];exact vR
 have u:=af Y;rw[bP,rK] at i;have i:A.ownsRow w.heap.size bC 1 v o.length (o.map (ue L)):=i;rcases i.2 with⟨rfl,hz⟩|⟨J,H,cur,rfl,l,G,r1,r2,r3,r4⟩
 ·have e0:o= []:=lU hz;have uu:qJ L= []:=List.eq_nil_iff_forall_not_mem.2 fun k hk=>by have:=E ⟨k,ace.1 hk⟩;rw[e0] at this;cases this
  clear i t I;go_wp2_with fail;refine(LB none 0 _ A).mono ?_;rintro e w2 ⟨rfl,rfl⟩;go_wp2;go_ret;exact⟨_,rfl,by rw[uu];exact mQ _ _ _ _,u⟩
 ·have N:o≠ []:=fun e=>by have:=t.2 ayB;cases this
  have hlen:o.length<=L.length:=by
   have q:=I.length_eq;rw[bP] at q;have F:(strKeys D).length=Maps.size D:=(by cases D<;>simp [strKeys,Maps.size])
   omega
  haveI:Inhabited (nh L):=⟨o.head N⟩
  have HS:=af (aly Z E);have hH:Holds (ue L) A J 0 o.toArray:=amK G (by simpa using r4);have mE:J<A.heap.size:=(Mf.1 G).1;have V:=alA (ue L) (fun _=>rfl) (fun c d:nh L=>iG c.1 d.1) ⟨fun x=>by unfold ltOf;rw[Jw,iR.jD],fun x y z q F=>by
   unfold ltOf at*;rw[Jw] at*;exact iR.tr _ _ _ q F,fun x y z q F=>by
   unfold ltOf at*;rw[Jw] at*;cases hc:dU x.1 z.1 with
   |false=>rfl
   |true=>
    cases U:dU y.1 x.1 with
    |true=>rw[iR.tr _ _ _ U hc] at F;cases F
    |false=>
     have e:=iR.vI x.1 y.1 q U;rw[e,F] at hc;cases hc⟩ 123 #[aI xb 0] J 0 H o.toArray A (enters_of func123 Ok rfl) (fun n os dk hd x y=>by
   have hg:=acp (enc:=ue L) (w:=A) (g:=J) (n:=n) (os:=os) dk;refine(Qs _ (qB u hg u.size fun j hj=>by cases hj;exact l) x y).mono ?_;rintro e K ⟨rfl,rfl⟩;exact⟨rfl,0,#[],(grow_empty _).symm⟩) hH mE Oc (fun x y q F=>by
   unfold ltOf at*;rw[Jw] at*;exact Subtype.ext (iR.vI _ _ q F))
  have V:=af V;rw[ZJ,List.toList_toArray] at V;have R:ah ((o.mergeSort fun x y=> !(ltOf fun c d:nh L=>iG c.1 d.1) y x).length=o.length):=Zs _;generalize(o.mergeSort fun x y=> !(ltOf fun c d:nh L=>iG c.1 d.1) y x)=S at*;clear i t I M hH N r4;go_wp2_with fail
  refine V.mono ?_;rintro e w2 ⟨rfl,n,os,rfl⟩;have HO:=af (apH (enc:=ue L) (os:=os) (n:=n) R l G r1 r2 r3);have bk:ah (Ext w _):=qB u (acp (enc:=ue L) (w:=A) (g:=J) (n:=n) (os:=os) S.toArray) u.size fun j hj=>by cases hj;exact l
  have df:S.length=(qJ L).length:=by rw[<-HS.ae,bP]
  generalize sortWorld (ue L) A J 0 n S.toArray os=w2 at*;go_wp2;go_ret;refine⟨_,rfl,?_,bk⟩;have q:=HO.ae;have e:S.map (ue L)=(qJ L).map fun k=>aM (dp k):=by rw[<-HS.ae,rK];rfl
  rw[e] at q;rw[<-df,R.ae];exact q
end
end Go.Proofs.YtehkcnbodcdijaaGreatDoor
