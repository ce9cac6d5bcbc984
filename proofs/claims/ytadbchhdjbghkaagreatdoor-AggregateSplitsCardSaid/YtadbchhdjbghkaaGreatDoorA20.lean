/- Texts of the proof, part 20. -/
import Derived.Test.YtadbchhdjbghkaaGreatDoorA19
namespace Go.Proofs.YtadbchhdjbghkaaGreatDoor
set_option maxHeartbeats 8000000
set_option linter.all false
set_option maxRecDepth 100000
variable{aq:Prop}
open Go.RowKit Go.Lib Go.Maps Go.ChangeShapes Go.WideShapes Go.ChangeAt Go.Proofs.Tryz
variable{a b c d e f g h:Nat}{i j k l:List Nat}{m n o:World}{p q r s:Value}{t u v:List Value}{w x:TypeId}{y z:Nat→Option Nat}{A:Nat→List Nat}{B C:Int}{E F:Option Addr}{H I:Rat}{J:Nat→Nat}{K:Nat→Bool}{L:List Int}{N:Array Bool}{O:Option Nat}{Q:Act}{R S:Bool}{T:List UInt8}
def ce.fresh{α:Type}{D:Pw α}{f:Nat->aD}(h:ce D a b f K m)(k:Only c m n)(x:D.w0.heap.size<=c)(A:D.w1.heap.size<=c)(s:c≠D.xb)(r:c≠D.nb)(p:c≠D.sb)(o:c≠D.kb)(v:∀{u d},D.V m u d->D.V n u d):ce D a b f K n:=by
 have i:∀t,Kept t D.w1 m->Kept t D.w1 n:=fun t i q z y j=>by have l:=i q z y j;exact(k.block q (gS l) fun e=>by injection e with e;have:=gS j;omega).trans l
 exact⟨h.st.past k x s r p,h.mem.same (k.block _ h.mem.lt (by simpa using o.symm)) v,i _ h.k1,i _ h.k2⟩
def akO{x:aP}{D:List (List Rw)}{c:Nat->Option aD}(b:c a=none)(h:¬jY x D c):ey x D c a= []:=by unfold ey;refine YL.2 fun t _=> ?_;simp only[decide_eq_true_eq];exact fun d=>h (uV.mono _ _ _ b d)
def amI(g f d a:Nat)(t:aD)(b:Bool)(w:au)(n:aA w g 0 (aI d 0))(m:aA w f 0 (av (a:Int))){I:World->Prop}
 (j:Calls prog 192 #[aI d 0,av a,aL t] w fun e c=>∃u,e= .returned u/\u= .bool b/\I c):
 Calls prog 191 #[aL t,aI g 0,aI f 0] w fun e c=>e= .returned (.bool (!b))/\I c:=by
 have l:=af j;go_enter func191,ntmps191;go_wp2_with fail;refine l.mono ?_;rintro e c ⟨u,rfl,h,i⟩;have k:=af i;subst h;go_wp2;exact bodyPost_ret (by simp [results,results191,go_sem]) rfl ⟨rfl,k⟩
def aok(R Q:Nat)(x:aP)(D:List (List Rw))(ok:bR x)(hD:gc x D)(a6:x.ai.length<=6)(r6:x.ay.length<=6)(a:Nat)(ha:a<x.ai)(T:Option Nat)(j:Nat->Option aD)(JG:j a=none)(w:au)(hB:fW x (aU x D) R Q w)(hM:dl x Q w)(hne:R≠Q)(OI:∀W,a8 [Q] w W->tV W (.map T) j):
 Calls prog 132 #[aI R 0,.map T,av a] w fun e m=>∃A c,e= .returned (.slice A (ey x D j a) c)/\(ey x D j a)<=c/\c<=maxLen/\(ey x D j a≠ []->∃g rest,A=dC g 0/\w.heap.size<=g/\ar m g bJ ((ey x D j a).map encStr++rest))/\dl x Q m/\a8 [Q] w m:=by
 have CA:=af (fun W (hX:Ext w W)=>abC R Q x D ok hD a6 r6 a T j W (hB.ext hX) (hM.ext hX) hne Om Om (fun W2 M=>OI W2 ((gT hX).trans M)));have HM:=af hM;have dI:=hB.lt;have hpl:=hM.lt;go_enter func132,ntmps132;go_upto_region 1 with fail
 refine aT fun W HX BA=> ?_;have hba:=BA.lt;have ba0:=BA.aF 0;have KT:=af (CA W HX);go_wp2_with fail
 refine KT.mono ?_;rintro e1 r ⟨p,d,wl,w0,cs,K,y,s,C,rfl,o,n,z5,z6,hr,kQ,Oj,⟨s1,s2,s3,s4⟩,jK,hc1⟩;have aN:=af o;have HST:=af n;have Ko:=af hr;have xt:=af kQ;have Vy:=Oj a rfl;have nG:=af jK;have jA:=af ((gT HX).trans hc1);have z8:=af (BA.cy hc1 Oc);obtain⟨B,E⟩:∃B:(Nat->aD)->World->Prop,B=fun f W=>ce (wK j T x D p d wl w0 r cs K R y s C) 13 14 f (fun _=>false) W:=⟨_,rfl⟩;have F:bE p a=fun _=>false:=funext fun b=>Ik Vy;obtain⟨tb,wT⟩:∃tb,tb=(dE.prod (kids x.ai p none) fun c=>vT dE x (aU x D) p (fK x d) (fun v t=>cL j v t) (fun _=>true) (univ (aU x D)) c fun _=> []):=⟨_,rfl⟩;have xA:ah (tb=true↔jY x D j):=by rw[wT];exact aaJ ok hr kQ
 obtain⟨bt,cM⟩:∃bt:aD->Bool,bt=fun t=>bT dE x (aU x D) p (fK x d) (fun v t=>cL j v t) (fun _=>true) (univ (aU x D)) a t fun _=> []:=⟨_,rfl⟩;obtain⟨J,X⟩:∃J,J=gZ (bh x) (bY (aU x D)) (bM x) j (fun _=>false) (fun _=> []) a:=⟨_,rfl⟩;have as8:ah (jY x D j->J.filter bt=ey x D j a):=fun h=>by rw[X,cM,<-F];exact aoi o.wk ha Vy JG h
 have HT:ah (∀W f,B f W->Calls prog 130 #[aI K 0] W fun e m=>e= .returned (.bool tb)/\(∃q,B q m)/\a8 [y,s,C] W m):=(by rw[E,wT];intro W f h;refine(aay o z6 rfl z5 rfl f W h).mono ?_;rintro e m ⟨u,q,rfl,hu,h3,h4⟩;exact⟨by rw[show u=_ from hu];rfl,⟨q,h3⟩,h4⟩);have atO:ah (∀W f,B f W->Calls prog 190 #[aI K 0,av a] W fun e m=>∃A c,e= .returned (.slice A J c)/\J<=c/\c<=maxLen/\(J≠ []->∃g rest,A=dC g 0/\W.heap.size<=g/\ar m g bJ (J.map encStr++rest))/\(∃q,B q m)/\a8 [y,s,C] W m):=(by rw[E];intro W f h;have H:=acM _ cs K R y s a x (aU x D) f (fun _=>false) (.map T) j w0 W h.st rfl ha o.cf o.Uo (o.wk.ne a ha) r6 (a7 a6 Od) (fun l hl=>a7 (Mt hD hl) Od);rw[QM (e':=fun _=> []) Oe,<-X] at H;refine H.mono ?_;rintro e m ⟨A,c,t,rfl,Z,Y,g3,g4,g5⟩;exact⟨A,c,rfl,Z,Y,g3,⟨_,h.rF o g4 g5⟩,g5.mono fun i G _=>by simp only[aJ,bL,or_false] at G⊢;omega⟩);have nI:ah (∀W f t,B f W->t∈J->Calls prog 192 #[aI K 0,av a,aL t] W fun e m=>∃u,e= .returned u/\u= .bool (bt t)/\(∃q,B q m)/\a8 [y,s,C] W m):=by
  rw[E,cM];intro W f t h ht;have H:=(TA o z5 rfl x.ai a ha (Qd _ _)).2 t f W (by rw[show(wK j T x D p d wl w0 r cs K R y s C).p=p from rfl,F];exact h) (fun b V=>by rw[show(wK j T x D p d wl w0 r cs K R y s C).p=p from rfl,F] at V;cases V) (by
   show t∈gZ (bh x) (bY (aU x D)) (bM x) j (bE p a) f a
   rw[F,QM (e':=fun _=> []) Oe,<-X];exact ht)
  refine H.mono ?_;rintro e m ⟨u,q,rfl,hu,h3,_,h5⟩;rw[show(wK j T x D p d wl w0 r cs K R y s C).p=p from rfl,F] at h3;refine⟨u,rfl,?_,⟨q,h3⟩,h5⟩;rw[o.adM (e:=fun _=> []) ha (fun b V=>by rw[show(wK j T x D p d wl w0 r cs K R y s C).p=p from rfl,F] at V;cases V)] at hu;exact hu
 have HFR:ah (∀W z f g,B f W->Only g W z->r.heap.size<=g->B f z):=by
  rw[E];intro W z f g h k hg;have H:=n.st.sx.lt;have M:=n.st.nc.lt;have h3:=n.st.sc.lt;have h4:=n.mem.lt;have h5:=n.st.ex.size;refine h.fresh k (a7 h5 hg) hg ?_ ?_ ?_ ?_ (fun hv=>hv)
  ·exact Qu (cF H hg)
  ·exact Qu (cF M hg)
  ·exact Qu (cF h3 hg)
  ·exact Qu (cF h4 hg)
 have Xv:ah (∀W f,B f W->Kept cI r W/\Kept aS r W):=(by rw[E];exact fun W f h=>⟨h.k1,h.k2⟩);have dJ:ah (∀W z f,B f W->Ext W z->B f z):=(by rw[E];exact fun W z f h k=>h.fB o k);have hx1:K<r.heap.size:=n.st.sx.lt;have hx2:y<r.heap.size:=n.st.nc.lt;have hx3:s<r.heap.size:=n.st.sc.lt;have g_:C<r.heap.size:=n.mem.lt;have bB:ah (B (fun _=> []) r):=by rw[E];exact n
 clear E wT cM X o n z5 z6 hr kQ Oj hc1 jK ba0 BA F Vy;go_upto_region 2 with fail
 refine aT fun w2 aZ BX=> ?_;have xZ:=af (z8.ext aZ);have ei:=af (dJ _ _ _ bB aZ);have wH:r.heap.size<w2.heap.size:=BX.lt;have bx0:=BX.aF 0;have mI:=af (HT w2 _ ei);have auJ:W.heap.size<=r.heap.size:=Om;go_wp2_with fail
 refine mI.mono ?_;rintro e3 w3 ⟨rfl,⟨cu3,hs3⟩,L⟩;have xC:=af hs3;have jy:=af ((gT (S:= [y,s,C]) aZ).trans L);have qL:=af (BX.cy L avL);have PM:=af (xZ.cy L avL);have auP:=jy.size;have I3:=L.size;clear bx0 BX hs3 L;have P:ah (∀m f,B f m->a8 [y,s,C] r m->dl x Q m/\a8 [Q] w m):=fun m f h k=>by obtain⟨k1,k2⟩:=Xv m f h;refine⟨nG.keep (k.block _ nG.lt avL) k1 k2,?_⟩;exact((jA.mono (S':= [Q,y,s,C]) fun i G _=>by simp only[aJ,bL,or_false] at G⊢;omega).trans (k.mono fun i G _=>by simp only[aJ,bL,or_false] at G⊢;omega)).mono fun i G hlt=>by simp only[aJ,bL,or_false] at G⊢;omega
 cases tb with
 |false=>
  have ht:¬jY x D j:=fun h=>by have:=xA.2 h;cases this
  have HO:ah (ey x D j a= []):=akO JG ht;obtain⟨Z,Y⟩:=P w3 cu3 xC jy;have O:=af Z;have N:=af Y;clear Z Y;go_wp2_with fail
  exact bodyPost_ret (v:= .slice none 0 0) awx rfl (by rw[HO.ae];exact⟨none,0,rfl,aK _,aV _,fun h=>absurd rfl h,O,N⟩)
 |true=>
  have HO:ah (J.filter bt=ey x D j a):=as8 (xA.1 rfl);have bx0:=qL.aF 0;have ba0:=PM.aF 0;have KM:=af (atO w3 cu3 xC);go_wp2_with fail
  refine KM.mono ?_;rintro e4 w4 ⟨A4,c4,rfl,hl4,U,hb4,⟨cu4,N_⟩,OO⟩;have mJ:=af N_;have oQ:=af (jy.trans OO);have oU:=af (qL.cy OO avL);have z7:=af (PM.cy OO avL);have mg:=af hb4;by_cases hcb:J= []
  ·subst hcb;have dY:ah (ey x D j a= []):=HO.symm;have XR:=af (anr 191 (fun _ _=>by rfl) (aI r.heap.size 0) (aI w.heap.size 0) A4 c4 w4 U);obtain⟨Z,Y⟩:=P w4 cu4 mJ oQ;have O:=af Z;have N:=af Y;clear Z Y;go_wp2_with fail
   refine XR.mono ?_;rintro e5 w5 ⟨rfl,rfl⟩;go_wp2_with fail;exact bodyPost_ret (v:= .slice A4 0 c4) awx rfl (by rw[dY.ae];exact⟨A4,c4,rfl,aV _,U,fun h=>absurd rfl h,O,N⟩)
  ·obtain⟨g,rest,hA4,rT,rU⟩:=mg hcb;subst hA4;have KP:=af rU;obtain⟨I,hI⟩:∃I:World->Prop,I=fun z=>(∃f,B f z)/\a8 [y,s,C,g] w4 z:=⟨_,rfl⟩;have su:ah (∀z,I z->(∃f,B f z)/\a8 [y,s,C,g] w4 z):=by rw[ah,hI];exact fun _ h=>h
   have jQ:ah (∀z f,B f z->a8 [y,s,C,g] w4 z->I z):=by rw[ah,hI];exact fun _ f H M=>⟨⟨f,H⟩,M⟩
   have KH:=af (ans 191 (fun _ _=>by rfl) (aI r.heap.size 0) (aI w.heap.size 0) (fun t=> !bt t) I g c4 J rest w4 (jQ w4 cu4 mJ (.gV (aB w4))) rU hl4 U
    (fun W1 W2 h ho=>by obtain⟨⟨f,H⟩,M⟩:=su W1 h;exact jQ W2 f (HFR W1 W2 f g H ho Om) (M.only ho (.inl Ou)))
    (fun W1 v ys h hv Fy=>by obtain⟨⟨f,H⟩,M⟩:=su W1 h;have k1:=(oU.cy M avL).aF 0;have k2:=(z7.cy M avL).aF 0;exact amI r.heap.size w.heap.size K a v (bt v) W1 k1 k2 ((nI W1 f v H hv).mono fun e m hh=>by obtain⟨u,e1,e2,⟨q,e3⟩,e4⟩:=hh;exact⟨u,e1,e2,jQ.ae m q e3 (M.trans (e4.mono fun i G _=>by simp only[aJ,bL,or_false] at G⊢;omega)),Fy.cy e4 avL⟩)))
   have tQ:ah (J.filter (fun v=> !!bt v)=ey x D j a):=(by rw[ah,<-HO.ae];exact D_ fun t _=>Bool.not_not _);rw[tQ.ae] at KH;have FM:(ey x D j a)<=c4:=by rw[<-HO.ae];exact a7 (mm _ _) hl4
   go_wp2_with fail
   refine KH.mono ?_;rintro e5 w5 ⟨rfl,hi5,ad3,ny⟩;obtain⟨⟨O1,hs5⟩,oG⟩:=su w5 hi5;have JJ:a8 [y,s,C] r w5:=((oQ.mono (S':= [y,s,C,g]) fun i G _=>by simp only[aJ,bL,or_false] at G⊢;omega).trans oG).mono fun i G hlt=>by simp only[aJ,bL,or_false] at G⊢;omega
   obtain⟨Z,Y⟩:=P w5 O1 hs5 JJ;have O:=af Z;have N:=af Y;have sB:=af ny;have aga:w.heap.size<=g:=Om;go_wp2_with fail
   exact bodyPost_ret awx rfl ⟨dC g 0,c4,rfl,FM,U,fun _=>⟨g,ad3,rfl,aga,sB⟩,O,N⟩
def j_(w:au)(b:Nat)(a:Nat->Option aD):Prop:=∃m f,dH w aS b m f/\(∀l,(f l).isSome=true->∃v:Nat,v<100/\l= .int .i64 (v:Int))/\∀v:Nat,v<100->f (.int .i64 (v:Int))=(a v).map fun t=> .string ⟨t.toArray⟩
def j_.fxM{d:Nat->Option aD}(h:j_ m a d):KR m a d:=by obtain⟨c,f,g,_,e⟩:=h;exact⟨c,f,g,e⟩
def j_.same{d:Nat->Option aD}(h:j_ m a d)(e:n.heap[a]? =m.heap[a]?):j_ n a d:=by obtain⟨c,f,j,i,g⟩:=h;exact⟨c,f,j.same e,i,g⟩
def j_.lt{e:Nat->Option aD}(h:j_ m a e):a<m.heap.size:=by obtain⟨c,f,d,_⟩:=h;exact d.lt
structure uT(f g:Lit->Option Value)(a:Nat)(t:aD)(left asq:Lit->Bool):Prop where
 at_:g (.int .i64 (a:Int))=some (.string ⟨t.toArray⟩)
 old:∀l,l≠ .int .i64 (a:Int)->left l=false->g l=f l
 new:∀l,l≠ .int .i64 (a:Int)->left l=true->g l=none
 sub:∀l,left l=true->asq l=true
def uT.key{f g:Lit->Option Value}{t:aD}{left c:Lit->Bool}(h:uT f g a t left c)(k:a<100)(j:∀l,(f l).isSome=true->∃v:Nat,v<100/\l= .int .i64 (v:Int))(l:Lit)(d:(g l).isSome=true):l∈(List.range 100).map fun v:Nat=>Lit.int .i64 (v:Int):=by
 by_cases e:l= .int .i64 (a:Int)
 ·exact dU.2 ⟨a,dB.2 k,e.symm⟩
 ·cases b:left l with
  |true=>rw[h.new l e b] at d;cases d
  |false=>rw[h.old l e b] at d;obtain⟨v,i,rfl⟩:=j l d;exact dU.2 ⟨v,dB.2 i,rfl⟩
def strike{left:Lit->Bool}{l a:Lit}(h:l≠a):(left l&& !l.sameKey a)=left l:=by
 have c:l.sameKey a=false:=by
  cases b:l.sameKey a with
  |false=>rfl
  |true=>exact absurd (WideAt.sameKey_eq b) h
 rw[c,Bool.not_false,Bool.and_true]
def uT.skip{f g:Lit->Option Value}{t:aD}{left b:Lit->Bool}(h:uT f g a t left b):uT f g a t (fun z=>left z&& !z.sameKey (.int .i64 (a:Int))) b:=
 ⟨h.at_,fun l d c=>h.old l d (by rwa[strike d] at c),fun l d c=>h.new l d (by rwa[strike d] at c),fun l c=>h.sub l (by rw[cZ] at c;exact c.1)⟩
def uT.take{f g:Lit->Option Value}{t:aD}{left b:Lit->Bool}{kl:Lit}(h:uT f g a t left b)(k:kl≠ .int .i64 (a:Int))(j:f kl=some p)(i:WideAt.IsKeyLit kl):uT f (lU g kl p) a t (fun z=>left z&& !z.sameKey kl) b:=
 ⟨by rw[ue k.symm];exact h.at_,fun l d c=>by
  by_cases e:l=kl
  ·rw[e,AZ,j]
  ·rw[ue e];exact h.old l d (by rwa[strike e] at c),fun l d c=>by
  by_cases e:l=kl
  ·rw[e,WideAt.sameKey_self i] at c;simp at c
  ·rw[ue e];exact h.new l d (by rwa[strike e] at c),fun l c=>h.sub l (by rw[cZ] at c;exact c.1)⟩
def alK(b a:Nat)(t:aD)(X:Nat->Option aD)(w:au)(h:j_ w b X)(ha:a<100):
 Calls prog 133 #[.map (some b),.int .i64 a,.string ⟨t.toArray⟩] w fun e w'=>∃g,e= .returned (.map (some g))/\j_ w' g (ij X a t)/\w.heap.size<=g/\Ext w w':=by
 obtain⟨m,f,hm,C,U⟩:=h;have G:=af C;have sw:=af U;have hbl:=hm.lt;have hmm:= @run_makeMap prog;obtain⟨w2,n,z,L⟩:=(Ic w aS).put lL Iq avW (ES ha) (.string ⟨t.toArray⟩);have Z:=af (((aB w).alloc (.map #[] 0)).only L (aK _));have gN:=af z;obtain⟨H,o,hD⟩:=hm.same (Z.block b hbl);have HD:=af hD;have rP:w.heap.size<w2.heap.size:=z.lt;have xI:ah (uT f (lU (fun _=>none) (.int .i64 (a:Int)) (.string ⟨t.toArray⟩)) a t (Maps.has H) (Maps.has H)):=by
  refine⟨AZ _ _ _,fun l Q d=> ?_,fun l Q _=>ue Q,fun _ h=>h⟩;rw[ue Q];cases T:f l with
  |none=>rfl
  |some u=>obtain⟨v,i,rfl⟩:=C l (by rw[T];rfl);rw[(hD _ (lL.key (ES i))).1,T] at d;cases d
 clear hm C U z L hD;go_enter func133,ntmps133;go_wp2_with (at_range;refine wpList_range_own _ rfl _ IK rfl aS bJ lL Iq uA b m H rfl o ?_);intro w3 K B hs3;have DC:=af K;have cH:=af (Z.trans (RH B));have lD:ah (dH w3 aS w.heap.size 1 (lU (fun _=>none) (.int .i64 (a:Int)) (.string ⟨t.toArray⟩))):=gN.ext (RH B);clear o K B n;have uK:w2.heap.size≠w.heap.size:=Om;have mG:b≠w.heap.size:=Om;generalize w2.heap.size=r at*;go_upto_region 3 with fail
 go_loopw [8,9] (fun _ _ wr=>∃(left:Lit->Bool) (cnt k:Nat) (g:Lit->Option Value),ah (wr.ranges prog aS uA b r m H left cnt)/\ah (dH wr aS w.heap.size k g)/\ah (uT f g a t left (Maps.has H))/\ah (Ext w wr)) (fun _ _ wr=>wr.rangeLeft b r)
 exact⟨_,_,_,_,DC,lD,xI,cH⟩;obtain⟨left,cnt,k,g,HR,HM,F,HX⟩:=hrel;go_wp2_with (at_next;refine wpList_next_ranges _ rfl _ rfl aS lL uA (Value.int .i64) (fun v:Value=>v) (fun key kl hk=>by obtain⟨x,h,_⟩:=Maps.keyOf_int_inv (q:= .i64) Ok hk;exact⟨x,h⟩) (fun v _ _=>⟨v,rfl⟩) b r m H left cnt rfl HR.ae ?_ ?_)
 ·intro hc0 P;have Ky:=af P;clear P;have XK:ah (j_ wr w.heap.size (ij X a t)):=by
   refine⟨_,g,HM,fun l Q=> ?_,fun v i=> ?_⟩
   ·obtain⟨v,i,e⟩:=dU.1 (F.key ha G l Q);exact⟨v,dB.1 i,e.symm⟩
   ·unfold ij;by_cases e:v=a
    ·rw[e,if_pos rfl];exact F.at_
    ·rw[if_neg e,F.old _ (fun h=>by injection h with _ h;omega) (Ky _)];exact sw v i
  go_wp2;exact bodyPost_ret (v:= .map (some w.heap.size)) (by simp [results,results133,go_sem]) rfl ⟨w.heap.size,rfl,XK,aK _,HX⟩
 ·intro x c kl y1 y2 w4 avJ p hlk i V j hlt A N_ hen;obtain⟨x',e1,e2,_⟩:=Maps.keyOf_int_inv (q:= .i64) Ok p;injection e1 with _ e1;subst e1;have R:=lL.key p;obtain⟨d1,d2⟩:=HD kl R;rw[F.sub kl hlk] at d1;obtain⟨v,I,e3⟩:=G kl d1.symm;rw[e2] at e3;injection e3 with _ e3;subst e3;subst e2;obtain⟨u,J⟩:∃u,f (.int .i64 (v:Int))=some u:=G6.1 d1.symm;have hc:c=u:=by have d:=d2 u J (.held u);rw[V] at d;unfold uA at i;injection i with i;injection i with i _;rw[<-i] at d;injection d
  subst hc;obtain⟨s,hs,rfl⟩:∃s,X v=some s/\c= .string ⟨s.toArray⟩:=by
   have d:=sw v I;rw[J] at d;cases S:X v with
   |none=>rw[S] at d;cases d
   |some s=>rw[S] at d;injection d with d;exact⟨s,rfl,d⟩
  have D:=af j;have tP:ah (dH w4 aS w.heap.size k g):=HM.kept A Oc;have Y:ah (Ext w w4):=HX.only A Om;have O:w4.rangeLeft b r<wr.rangeLeft b r:=by rw[j.left_eq,HR.left_eq];exact hlt
  clear d1 d2 V i j A hs;by_cases hva:v=a
  ·subst hva;have E:=af F.skip;clear J;go_wp2;go_roundw;exact⟨_,_,_,_,D,tP,E,Y⟩;exact O
  ·have E:=af (F.take (kl:= .int .i64 (v:Int)) (fun h=>by injection h with _ h;omega) J R);have W:=tP.bound lL _ (F.key ha G);obtain⟨w5,n,M,y⟩:=W.put lL Iq (by rw[bW,iG];unfold maxLen;omega) (ES I) (.string ⟨s.toArray⟩);have hne:((v:Int)==(a:Int))=false:=beq_eq_false_iff_ne.2 Om;have HR5:=af (D.kept y Oc Oc);have se:=af M;have dX:=af (Y.only y (aK _));have N:w5.rangeLeft b r<wr.rangeLeft b r:=(by have d:=HR5.left_eq;have h2:=D.left_eq;omega)
   clear W M y J O;go_wp2;go_roundw;exact⟨_,_,_,_,HR5,se,E,dX⟩;exact N
abbrev kM:TypeId:=51
abbrev ew:TypeId:=70
structure eP(S:List Nat)(t:TypeId)(a b:au):Prop where
 os:b.os=a.os
 tape:b.tape=a.tape
 output:b.output=a.output
 size:a.heap.size<=b.heap.size
 block:∀i,i<a.heap.size->i∉S->(∀cu fr,a.heap[i]?≠some (.cells cu t fr))->b.heap[i]? =a.heap[i]?
def eP.of{t:TypeId}{b:au}(h:a8 i o b):eP i t o b:=⟨h.os,h.tape,h.output,h.size,fun c e d _=>h.block c e d⟩
def eP.trans{S:List Nat}{t:TypeId}{b c:au}(h:eP S t o b)(k:eP S t b c):eP S t o c:=⟨k.os.trans h.os,k.tape.trans h.tape,k.output.trans h.output,a7 h.size k.size,fun i e d f=>by have j:=h.block i e d f;exact(k.block i (cF e h.size) d fun q p=>by rw[j];exact f q p).trans j⟩
def ar.Cr{t a:TypeId}{w w':au}{g:Nat}{l:List Value}(h:ar w g a l)(k:eP i t w w')(c:g∉i)(b:a≠t):ar w' g a l:=(k.block g h.lt c fun f d e=>by unfold ar at h;rw[h] at e;injection e with e;injection e with _ e;exact b e).trans h
def j_.Cr{t:TypeId}{w w':au}{fx:Nat->Option aD}(h:j_ w a fx)(k:eP i t w w')(f:a∉i):j_ w' a fx:=h.same (k.block a h.lt f fun p j e=>by obtain⟨_,_,⟨D,⟨o,c,d,_⟩,_⟩,_⟩:=h;rw[d] at e;injection e with e;cases e)
def aaH{t:aM}:∀{l:List Nat} {k:List aM} {fx:Nat->Option aM} (h:k.length<l.length),eY fx l (k++ [t])=ij (eY fx l k) l[k.length] t
 | [],_,_,h=>absurd h (Lv _)
 |a::l,[],fx,_=>by cases l<;>rfl
 |a::l,y::k,fx,h=>by
  show eY (ij fx a y) l (k++ [t])=_
  rw[aaH av7];rfl
abbrev Nl:TypeId:=145
structure GQ(x:aP)(D:List (List Rw))(jb pb ob:Nat)(attrs:List Nat)(Aa:aR)(ca b2 b3 b4 b5:Nat)(vf:FuncId)(v1 v2 v3 v4 v5:Value)(I:List (List aD)->World->Prop)(Wg:au):Prop where
 ok:bR x
 hD:gc x D
 a6:x.ai.length<=6
 r6:x.ay.length<=6
 ne:jb≠pb
 hI:∀done W,I done W->eP [pb,ob] ew Wg W
 hK:∀done W W',I done W->eP [pb,ob] ew W W'->∀t,t≠kM->t≠ew->Kept t W W'
 hS:∀done W W',I done W->a8 [pb] W W'->dl x pb W'->I done W'
 hJ:∀done W,I done W->dl x pb W
 hB:∀done W,I done W->fW x (aU x D) jb pb W
 hA:∀done W,I done W->IL W (.slice Aa attrs.length ca) (ints attrs)
 iv:∀args w,(callFunc vf args).run prog w= .ok (.enter vf args) w
 hv:∀done k b W A c,I done W->j_ W b (eY (fun _=>none) attrs k)->Wg.heap.size<=b->k.length=attrs.length->done.length<2000->TL W (.slice A k.length c) k->
  Calls prog vf #[.slice A k.length c,.map (some b),v1,v2,v3,v4,v5] W fun e w'=>e= .returned (.bool true)/\I (done++ [k]) w'/\eP [pb,ob] ew W w'
 c2:ar Wg b2 22 [.slice Aa attrs.length ca]
 c3:ar Wg b3 Nl [.func (.func vf) #[] #[v1,v2,v3,v4,v5]]
 c4:ar Wg b4 81 [aI jb 0]
 c5:ar Wg b5 Nl [.func (.func 131) #[] #[aI b2 0,aI b3 0,aI b4 0,aI b5 0]]
 lb:b2<Wg.heap.size/\b3<Wg.heap.size/\b4<Wg.heap.size/\b5<Wg.heap.size
 nb:(b2≠pb/\b2≠ob)/\(b3≠pb/\b3≠ob)/\(b4≠pb/\b4≠ob)/\b5≠pb/\b5≠ob
 lo:pb<Wg.heap.size/\ob<Wg.heap.size
 nd:attrs.Nodup
 lt:∀a∈attrs,a<x.ai.length
 le:attrs.length<=4
section
variable{x:aP}{D:List (List Rw)}{jb pb ob:Nat}{attrs:List Nat}{Aa:aR}{ca b2 b3 b4 b5:Nat}{vf:FuncId}{v1 v2 v3 v4 v5:Value}{I:List (List aD)->World->Prop}{Wg:au}
theorem GQ.cells(h:GQ x D jb pb ob attrs Aa ca b2 b3 b4 b5 vf v1 v2 v3 v4 v5 I Wg)(k:eP [pb,ob] ew Wg o):aA o b2 0 (.slice Aa attrs.length ca)/\aA o b3 0 (.func (.func vf) #[] #[v1,v2,v3,v4,v5])/\aA o b4 0 (aI jb 0)/\
 aA o b5 0 (.func (.func 131) #[] #[aI b2 0,aI b3 0,aI b4 0,aI b5 0]):=by
 obtain⟨s,r,q,p⟩:=h.lb;obtain⟨⟨j,i⟩,⟨f,e⟩,⟨d,c⟩,b,a⟩:=h.nb;exact⟨(h.c2.Cr k (by simp [j,i]) Od).cell rfl,(h.c3.Cr k (by simp [f,e]) Od).cell rfl,(h.c4.Cr k (by simp [d,c]) Od).cell rfl,(h.c5.Cr k (by simp [b,a]) Od).cell rfl⟩
def NF(x:aP)(D:List (List Rw))(pb ob:Nat)(attrs:List Nat)(b2 b3 b4 b5:Nat)(I:List (List aD)->World->Prop)(Wg:au)(a:List aD):Prop:=∀done b W A c,I done W->j_ W b (eY (fun _=>none) attrs a)->Wg.heap.size<=b->TL W (.slice A a.length c) a->
 done.length+(jk (ey x D) (attrs.drop a.length) (eY (fun _=>none) attrs a)).length<=2000->
 Calls prog 131 #[.slice A a.length c,.map (some b),aI b2 0,aI b3 0,aI b4 0,aI b5 0] W fun e w'=>e= .returned (.bool true)/\I (done++(jk (ey x D) (attrs.drop a.length) (eY (fun _=>none) attrs a)).map fun q=>a++q) w'/\eP [pb,ob] ew W w'
theorem aiw(h:GQ x D jb pb ob attrs Aa ca b2 b3 b4 b5 vf v1 v2 v3 v4 v5 I Wg){a:List aD}(P:a.length=attrs.length):NF x D pb ob attrs b2 b3 b4 b5 I Wg a:=by
 intro done b W A c hI hF hb hT i;have hd:attrs.drop a.length= []:=Ai Om;have z:jk (ey x D) (attrs.drop a.length) (eY (fun _=>none) attrs a)= [[]]:=by rw[hd];rfl
 rw[z] at i⊢;have e0:([[]]:List (List aD)).map (fun q=>a++q)= [a]:=Ou;rw[e0];have f:done.length<2000:=by have h1:done.length+1<=2000:=i;omega
 have J:=af h;have hW:=h.hI done W hI;obtain⟨d2,d3,d4,d5⟩:=h.cells hW;have a4:=h.le;have JC:=h.iv;have V:=af (fun d (j:Ext W d)=>aaw A a.length c a d (fu hT j) Om);have U:=af (fun d X Q (j:Ext W d) (F:TL d (.slice X a.length Q) a)=>h.hv done a b d X Q (h.hS done W d hI (.gV j) ((h.hJ done W hI).ext j)) (hF.same (j.block _ hF.lt)) hb P f F);rw[P] at V U⊢;go_enter func131,ntmps131;go_upto_region 2 with fail
 refine cD (S:=fun w'=>aA w' b3 0 (.func (.func vf) #[] #[v1,v2,v3,v4,v5])) (T:=fun _=>false) Ok ?_;have bO:ah (∀w':World,aA w' b3 0 (.func (.func vf) #[] #[v1,v2,v3,v4,v5])->aA w' b3 0 (.func (.func vf) #[] #[v1,v2,v3,v4,v5])):=fun _ h=>h;have aH:ah (aA W.drew b3 0 (.func (.func vf) #[] #[v1,v2,v3,v4,v5])):=d3;have R:=af (aB W).drew;have y:b3<W.drew.heap.size:=cF J.lb.2.1 hW.size;generalize W.drew=Y at*;refine ax 0 17 ?_;refine ax 1 18 ?_;refine ax 3 20 ?_;have N:=af (V Y R);refine aO 2 ?_;intro K G;go_simp;refine N.mono ?_;rintro e3 O ⟨A3,c3,rfl,E,e⟩;have bB:ah (aA O b3 0 (.func (.func vf) #[] #[v1,v2,v3,v4,v5])):=(e.cell (p:=aC b3 0) y).trans aH.ae;have r:=af (R.trans e);have M:=af (U O A3 c3 r E);refine G.ae _ _ (fun _=>bB.ae) ?_;refine aO 4 ?_;intro K G;go_simp;refine M.mono ?_;rintro e4 Z ⟨rfl,o,C⟩;have H:=af o;have L:=af ((eP.of (gT r)).trans C);have s:=J.hI _ Z o;have aH:=af ((J.cells s).2.1);refine G.ae _ _ (fun _=>aH.ae) ?_;refine ax 5 8 ?_;refine b_ Ok ?_;go_wp2_with fail
 exact bodyPost_ret (by simp [results,results131,go_sem]) rfl ⟨rfl,H,L⟩
theorem aaG:∀{l:List Nat} {k:List aM} {fx:Nat->Option aM},eY fx l k=eY fx (l.take k.length) k
 | [],k,fx=>by rw[List.take_nil]
 |a::l,[],fx=>by rw[yg,kF];rfl
 |a::l,y::k,fx=>by
  rw[cP,PY];show eY (ij fx a y) l k=eY (ij fx a y) (l.take k.length) k
  exact aaG
theorem aag{b:(Nat->Option aM)->Nat->List aM}{l:List Nat}{fx:Nat->Option aM}:jk b (a::l) fx=(b fx a).flatMap fun x=>(jk b l (ij fx a x)).map fun k=>x::k:=rfl
theorem aao{α β:Type}{f:α->List β}{l:List α}{k:Nat}(a:k<l.length):(l.take (k+1)).flatMap f=(l.take k).flatMap f++f l[k]:=by rw[fg a,D7,vB,Y5,i7]
theorem aln{α β:Type}{f:α->List β}(l:List α)(k:Nat):((l.take k).flatMap f).length<=(l.flatMap f).length:=by have h:=congrArg (fun l=>(l.flatMap f).length) (sJ k l);simp only[D7,bC] at h;omega
theorem ab'{w:au}{B B' k n:Nat}{t:TypeId}{v:Value}{xs:List Value}(h:w.ownsRow B t k v n xs)(i:B'<=B):w.ownsRow B' t k v n xs:=by
 obtain⟨d,a⟩:=h;rcases a with a|⟨g,c,b,e,f,j⟩
 ·exact⟨d,.inl a⟩
 ·exact⟨d,.inr ⟨g,c,b,e,a7 i f,j⟩⟩
def I_(l:Bool)(B n:Nat)(xs:List Value)(v:Value)(w:au):Prop:=l=true->w.ownsRow B bJ 1 v n xs
def Ja(l:Bool)(g:Nat)(t:aD)(w:au):Prop:=l=true->ar w g bJ [aL t]
def NG(B n:Nat)(xs:List Value)(v:Value)(w:au):Prop:=w.ownsRow B bJ 1 v n xs
def FxQ(B g:Nat)(fx:Nat->Option aD)(w:au):Prop:=j_ w g fx/\B<=g
section
variable{w w':au}{l:Bool}{B B' k n m g:Nat}{xs ys:List Value}{v u:Value}{t:aD}{fx:Nat->Option aD}{tt:TypeId}
theorem I_.ext(h:I_ l B n xs v w)(k:Ext w w'):I_ l B n xs v w':=fun e=>yQ (h e) k
theorem Ja.ext(h:Ja l g t w)(k:Ext w w'):Ja l g t w':=fun e=>(h e).ext k
theorem NG.ext(h:NG B n xs v w)(k:Ext w w'):NG B n xs v w':=yQ h k
end
theorem ao7{w:au}{B:Nat}{b:List aD}{t:aD}(h:w.ownsRow B bJ 1 (.slice E (b.length+1) a) (b.length+1) (b.map encStr++ [aL t])):TL w (.slice E (b++ [t]).length a) (b++ [t]):=by
 have e:b.length+1=(b++ [t]).length:=axa;rw[e] at h;refine Mn h ?_;clear h e;induction b with
 |nil=>exact⟨[aL t],[],rfl,rfl,rfl⟩
 |cons s b d=>exact⟨[encStr s],b.map encStr++ [aL t],rfl,rfl,d⟩
theorem aiv(h:GQ x D jb pb ob attrs Aa ca b2 b3 b4 b5 vf v1 v2 v3 v4 v5 I Wg){kp:List aD}(Z:kp.length<attrs.length)(ih:∀t,NF x D pb ob attrs b2 b3 b4 b5 I Wg (kp++ [t])):NF x D pb ob attrs b2 b3 b4 b5 I Wg kp:=by
 intro done b W A c hI hF hb hT P;have hda:=jR Z;have Wa:=h.lt _ (a_ Z);have J:eY (fun _=>none) attrs kp attrs[kp.length]=none:=by rw[aaG];refine ajZ (fun hm=> ?_) rfl;obtain⟨j,hj,e⟩:=iQ hm;rw[D9] at e;rw[cJ] at hj;have:=(List.getElem_inj h.nd).1 e;omega
 have hac:attrs[kp.length]<100:=by have:=h.a6;omega
 have N:=af (fun t=>aaH (t:=t) (fx:=fun _=>none) Z);rw[hda,aag] at P⊢;have HE:=af h;have hW:=h.hI done W hI;obtain⟨d2,d3,d4,d5⟩:=h.cells hW;obtain⟨gA,oA,hAa,hcA⟩:=qb (h.hA done W hI) Z (kj aS W);subst hAa;have a4:=h.le;have CO:=af (aok jb pb x D h.ok h.hD h.a6 h.r6 attrs[kp.length] Wa (some b) (eY (fun _=>none) attrs kp) J W (h.hB done W hI) (h.hJ done W hI) h.ne (fun C hc=>KR.look (hF.same (hc.block b hF.lt (by have:=h.lo;simp;omega))).fxM));have U:=af hI;have HF:=af hF;have hdk:((kp.length:Int)==(attrs.length:Int))=false:=beq_eq_false_iff_ne.2 Om;have nv:=(bD (h.hA done W hI)).2;have HIH:ah (∀t done b W A c,I done W->j_ W b (ij (eY (fun _=>none) attrs kp) attrs[kp.length] t)->Wg.heap.size<=b->TL W (.slice A (kp++ [t]).length c) (kp++ [t])->done.length+(jk (ey x D) (attrs.drop (kp.length+1)) (ij (eY (fun _=>none) attrs kp) attrs[kp.length] t)).length<=2000->
  Calls prog 131 #[.slice A (kp++ [t]).length c,.map (some b),aI b2 0,aI b3 0,aI b4 0,aI b5 0] W fun e w'=>e= .returned (.bool true)/\I (done++(jk (ey x D) (attrs.drop (kp.length+1)) (ij (eY (fun _=>none) attrs kp) attrs[kp.length] t)).map fun q=>(kp++ [t])++q) w'/\eP [pb,ob] ew W w'):=by
  intro t done b W A c h1 h2 h3 h4 h5;have h6:=ih t done b W A c h1 (by rw[N.ae t];exact h2) h3 h4 (by rw[N.ae t,bC];exact h5);rw[N.ae t] at h6;have e:attrs.drop (kp++ [t]).length=attrs.drop (kp.length+1):=axa;rw[e] at h6;exact h6
 have au6:kp.length<=4:=Om;obtain⟨-,hTc,hTA,xs,hTs,Q⟩:=acf hT;have hxs:=Tl Q;subst hxs;have CL:=af (fun C (hs:Sl C bJ A (kp.map encStr))=>aav A kp.length c (kp.map encStr) C hTA hs (by rw[bW,kG]) hTc (fun u hu=>by obtain⟨s,_,rfl⟩:=dU.1 hu;rfl) Om)
 have Kf:=af hTs;generalize eY (fun _=>none) attrs kp=fx at*;generalize attrs.drop (kp.length+1)=R at*;generalize attrs[kp.length]=a at*;generalize ey x D fx a=d at*;obtain⟨G,hG⟩:∃G:aD->List (List aD),G=fun t=>((jk (ey x D) R (ij fx a t)).map fun q=>t::q).map fun q=>kp++q:=⟨_,rfl⟩;have hGL:(d.flatMap G).length=(d.flatMap fun y=>(jk (ey x D) R (ij fx a y)).map fun k=>y::k).length:=(by rw[hG,<-List.map_flatMap,bW])
 have HGE:ah ((d.flatMap fun y=>(jk (ey x D) R (ij fx a y)).map fun k=>y::k).map (fun q=>kp++q)=d.flatMap G):=by rw[ah,hG,List.map_flatMap]
 rw[<-hGL] at P;rw[HGE.ae];have XF:ah (∀t,(jk (ey x D) R (ij fx a t)).map (fun q=>(kp++ [t])++q)=G t):=fun t=>by rw[hG];simp only[Ep];refine oZ fun q _=> ?_;simp
 have HGN:ah (∀t,(jk (ey x D) R (ij fx a t)).length=(G t).length):=fun t=>by rw[hG];simp
 go_enter func131,ntmps131;go_wp2_with fail;refine CO.mono ?_;rintro e1 F ⟨A1,c1,rfl,Jv,jK,hb1,FT,M⟩;have Da:=HE.lo;have hWs:=hW.size;have auW:d.length<=9223372036854775807:=by unfold maxLen at jK;omega
 have O:ah (eP [pb,ob] ew W F):= .of<|M.mono fun i hi _=>by simp only[aJ,bL,or_false] at hi⊢;omega
 have xI:ah (I (done++(d.take 0).flatMap G) F):=(by rw[ah,kF,Y5,i7];exact HE.hS done W F U M FT);have Pz:=af hb1;have HCr:ah (eP [pb,ob] ew F F):= .of (.gV (aB F));have auQ:=M.size;go_upto_region 5 with fail
 go_loopw [11,32] (fun _ H wr=>∃k:Nat,k<=d.length/\H=av k/\ah (I (done++(d.take k).flatMap G) wr)/\ah (eP [pb,ob] ew F wr)) (fun _ H _=>d.length - (RowKit.intOf H).toNat)
 exact⟨0,aV _,rfl,xI,HCr⟩;obtain⟨k,zt,rfl,HI,HC⟩:=hrel;by_cases r:k<d.length
 ·obtain⟨g,rest,j5,rT,rU⟩:=Pz (fun e=>by rw[e] at r;exact absurd r (Lv _));subst j5;have OY:=rU.Cr HC avL Od;have L:(d.map encStr++rest)[k]? =some (aL d[k]):=(by rw[nM (by rw[bW];exact r),dL,aX r];rfl)
  have e3:=OY.cell L;have gh:ah (done++(d.take (k+1)).flatMap G=(done++(d.take k).flatMap G)++G d[k]):=by rw[ah,aao r,ie]
  have Ue:(done++(d.take k).flatMap G).length+(G d[k]).length<=2000:=(by have h1:=aln (f:=G) d (k+1);rw[aao r,bC] at h1;rw[bC];omega);have F8:=HE.hI _ wr HI;obtain⟨d2,d3,d4,d5⟩:=HE.cells F8;have Xw:=af (HE.hK done W wr U (O.trans HC) bJ Od Od);have V:ah (j_ wr b fx):=HF.Cr (O.trans HC) (by simp only[aJ,bL,or_false];have:=HF.lt;omega);generalize d[k]=t at*;generalize done++(d.take k).flatMap G=dn at*;have X:=af (fun C (hX:Ext wr C)=>CL C ((Kf.keep Xw).ext hX));have CWr:=af (fun C (hX:Ext wr C)=>alK b a t fx C (V.same (hX.block b V.lt)) hac);go_upto_region 7 with fail
  have bO:ah (∀w':World,aA w' b5 0 (.func (.func 131) #[] #[aI b2 0,aI b3 0,aI b4 0,aI b5 0])->aA w' b5 0 (.func (.func 131) #[] #[aI b2 0,aI b3 0,aI b4 0,aI b5 0])):=fun _ h=>h;have Ju:=cF HE.lb.2.2.2 F8.size;have cC:ah (∀w':World,Ext wr w'->aA w' b5 0 (.func (.func 131) #[] #[aI b2 0,aI b3 0,aI b4 0,aI b5 0])):=fun w' h=>(h.cell Ju).trans d5;have aH:=af (cC _ (aB wr).drew);refine cD (S:=fun w'=>aA w' b5 0 (.func (.func 131) #[] #[aI b2 0,aI b3 0,aI b4 0,aI b5 0])) (T:=fun _=>false) Ok ?_;have HX:=af (aB wr).drew;generalize wr.drew=wd at*;refine ax 0 36 ?_;refine ax 1 37 ?_;refine ax 3 39 ?_;refine ax 6 42 ?_;refine ax 7 43 ?_;refine ax 8 44 ?_;have cM:(kp.length+1)*16<=140737488355328:=Om;refine Ip 2 4 Ok ?_ ?_
  ·intro o ho K hK;simp only[eR,dS,dy,cY] at ho;subst ho;go_simp;refine(X _ HX).mono ?_;rintro eC wC ⟨vC,rfl,z,p⟩;have HO:ah (I_ true wr.heap.size kp.length (kp.map encStr) vC wC):=fun _=>ab' z HX.size;have HX:=af (HX.trans p);clear z p;refine hK.ae _ _ (fun _=>cC _ HX) ?_;clear hK;refine jF 4 Ok ?_;intro o ho K hK;simp only[eR,dS,dy,cY] at ho;subst ho;go_simp;refine hK.ae _ _ (fun _=>cC _ (HX.alloc _)) ?_;refine aT fun WZ E Y=> ?_;have HO:=af (HO.ext (E.ae));have BN:ah (Ja true _ t WZ):=fun _=>Y.ae;have HX:=af (HX.trans E);clear hK Y;exact m11
  ·intro o ho K hK;simp only[eR,dS,dy,cY] at ho;subst ho;go_simp;refine hK.ae _ _ (fun _=>cC _ (HX.alloc _)) ?_;refine aT fun WZ E Y=> ?_;have BN:ah (Ja true _ t WZ):=fun _=>Y.ae;have HX:=af (HX.trans E);clear hK Y;refine jF 2 Ok ?_;intro o ho K hK;simp only[eR,dS,dy,cY] at ho;subst ho;go_simp;refine(X _ HX).mono ?_;rintro eC wC ⟨vC,rfl,z,p⟩;have HO:ah (I_ true wr.heap.size kp.length (kp.map encStr) vC wC):=fun _=>ab' z HX.size;have BN:=af (BN.ext (p));have HX:=af (HX.trans p);clear z p;refine hK.ae _ _ (fun _=>cC _ HX) ?_;clear hK;exact m11
 ·obtain rfl:k=d.length:=Om;have d1:=aY;have HIf:ah (I (done++d.flatMap G) wr):=(by have h:=HI.ae;rwa[fj] at h)
  have tS:=af (O.trans HC);go_wp2_with fail;exact bodyPost_ret (by simp [results,results131,go_sem]) rfl ⟨rfl,HIf,tS⟩
theorem aax(h:GQ x D jb pb ob attrs Aa ca b2 b3 b4 b5 vf v1 v2 v3 v4 v5 I Wg):∀(n:Nat) (a:List aD),a.length+n=attrs.length->NF x D pb ob attrs b2 b3 b4 b5 I Wg a
 |0,_,e=>aiw h Om
 |n+1,a,e=>aiv h Om fun t=>aax h n (a++ [t]) (by rw[bC];simp;omega)
end
structure Yd(x:aP)(D:List (List Rw))(jb pb ob:Nat)(attrs:List Nat)(Aa:aR)(ca:Nat)(vf:FuncId)(v1 v2 v3 v4 v5:Value)(I:List (List aD)->World->Prop)(w:au):Prop where
 ok:bR x
 hD:gc x D
 a6:x.ai.length<=6
 r6:x.ay.length<=6
 ne:jb≠pb
 h0:∀W,a8 [pb] w W->dl x pb W->I [] W
 hK:∀done W W',I done W->eP [pb,ob] ew W W'->∀t,t≠kM->t≠ew->Kept t W W'
 hS:∀done W W',I done W->a8 [pb] W W'->dl x pb W'->I done W'
 hJ:∀done W,I done W->dl x pb W
 hB:∀done W,I done W->fW x (aU x D) jb pb W
 hA:∀done W,I done W->IL W (.slice Aa attrs.length ca) (ints attrs)
 iv:∀args w,(callFunc vf args).run prog w= .ok (.enter vf args) w
 hv:∀done k b W A c,I done W->j_ W b (eY (fun _=>none) attrs k)->w.heap.size<=b->k.length=attrs.length->done.length<2000->TL W (.slice A k.length c) k->
  Calls prog vf #[.slice A k.length c,.map (some b),v1,v2,v3,v4,v5] W fun e w'=>e= .returned (.bool true)/\I (done++ [k]) w'/\eP [pb,ob] ew W w'
 lo:pb<w.heap.size/\ob<w.heap.size
 nd:attrs.Nodup
 lt:∀a∈attrs,a<x.ai.length
 le:attrs.length<=4
def ar.Up{w:au}{c:TypeId}(h:ar w a c t)(k:a8 i w m)(e:∀b∈i,b≠a):ar m a c t:=h.cy k fun d=>e a d rfl
section
variable{x:aP}{D:List (List Rw)}{jb pb ob:Nat}{attrs:List Nat}{Aa:aR}{ca:Nat}{vf:FuncId}{v1 v2 v3 v4 v5:Value}{I:List (List aD)->World->Prop}{w:au}
theorem Yd.enter(h:Yd x D jb pb ob attrs Aa ca vf v1 v2 v3 v4 v5 I w){b2 b3 b4 b5:Nat}(k:a8 [pb] w m)(L:w.heap.size<=b2)(K:w.heap.size<=b3)(J:w.heap.size<=b4)(H:w.heap.size<=b5)
 (C:ar m b2 22 [.slice Aa attrs.length ca]) (B:ar m b3 Nl [.func (.func vf) #[] #[v1,v2,v3,v4,v5]]) (z:ar m b4 81 [aI jb 0])
 (y:ar m b5 Nl [.func (.func 131) #[] #[aI b2 0,aI b3 0,aI b4 0,aI b5 0]])
 (p:b2<m.heap.size) (o:b3<m.heap.size) (n:b4<m.heap.size) (l:b5<m.heap.size):
 GQ x D jb pb ob attrs Aa ca b2 b3 b4 b5 vf v1 v2 v3 v4 v5 (fun done W=>I done W/\eP [pb,ob] ew m W) m:=by
 obtain⟨G,F⟩:=h.lo;have f:=k.size;refine⟨h.ok,h.hD,h.a6,h.r6,h.ne,fun _ _ q=>q.2,fun d W g q r=>h.hK d W g q.1 r,fun d W g q r s=>⟨h.hS d W g q.1 r s,q.2.trans (.of (r.mono fun i j _=> ?_))⟩,fun d W q=>h.hJ d W q.1,fun d W q=>h.hB d W q.1,fun d W q=>h.hA d W q.1,h.iv,fun d k b W A c q r s t u v=> ?_,C,B,z,y,⟨p,o,n,l⟩,?_,⟨by omega,by omega⟩,h.nd,h.lt,h.le⟩
 ·simp only[aJ,bL,or_false] at j⊢;exact .inl j
 ·refine(h.hv d k b W A c q.1 r (a7 f s) t u v).mono ?_;rintro e E ⟨rfl,a,b⟩;exact⟨rfl,⟨a,q.2.trans b⟩,b⟩
 ·exact⟨⟨by omega,by omega⟩,⟨by omega,by omega⟩,⟨by omega,by omega⟩,by omega,by omega⟩
theorem ar.gG{w:au}{t:TypeId}(h:ar w a t [p])(u:Value):∃b,w.setCell (aC a 0) u=b/\ar b a t [u]/\Only a w b:=⟨_,rfl,h.bu 0 u,(ig a w).bu 0 u⟩
theorem RR{f:Nat->Option aD}:eY f i []=f:=by cases i<;>rfl
theorem ajs(h:Yd x D jb pb ob attrs Aa ca vf v1 v2 v3 v4 v5 I w)(hB:fW x (aU x D) jb pb w)(hM:dl x pb w)(H:(jk (ey x D) attrs fun _=>none).length<=2000):
 Calls prog 64 #[aI jb 0,.slice Aa attrs.length ca,.func (.func vf) #[] #[v1,v2,v3,v4,v5]] w fun e Y=>e= .returned (.tuple #[])/\(jY x D (fun _=>none)->I (jk (ey x D) attrs fun _=>none) Y)/\(¬jY x D (fun _=>none)->I [] Y)/\eP [pb,ob] ew w Y:=by
 have X:=af h;have CA:=af (fun W (M:Ext w W)=>abC jb pb x D h.ok h.hD h.a6 h.r6 (-1) none (fun _=>none) W (hB.ext M) (hM.ext M) h.ne Om Om (fun W2 _=>tV.nil W2));have HL:=af H;obtain⟨lp,lo⟩:=h.lo;clear hB hM h H;go_enter func64,ntmps64;go_upto_region 1 with fail
 refine qq fun W V B4 B2 B3=> ?_;have hb3:=B3.lt;have b40:=B4.aF 0;have KT:=af (CA W V);go_wp2_with fail
 refine KT.mono ?_;rintro e1 T ⟨p,d,wl,w0,cs,xb,nb,Z,kb,rfl,F,k,z5,z6,hr,C,Oj,⟨s1,s2,s3,s4⟩,G,L⟩;have HT:=af (aay F z6 rfl z5 rfl _ _ k);have HU:=af (fun(u:Value) (U:u=Value.bool _)=>(⟨_,aaJ X.ok hr C,U⟩:∃tv:Bool,(tv=true↔jY x D fun _=>none)/\u=Value.bool tv));have S:=af G;have jA:=af L;have Jv:nb<T.heap.size/\Z<T.heap.size/\kb<T.heap.size:=⟨k.st.nc.lt,k.st.sc.lt,k.mem.lt⟩;clear F k z5 z6 hr C Oj G L b40;go_wp2_with fail
 refine HT.mono ?_;rintro e2 o ⟨u,avI,rfl,U,j,m⟩;have m:a8 [nb,Z,kb] T o:=m;obtain⟨tv,E,hut⟩:=HU u U;subst hut;have R:ah (dl x pb o):=S.keep (m.block _ S.lt avL) j.k1 j.k2;have f:ah (a8 [pb] W o):=(jA.mono (S':= [pb,nb,Z,kb]) fun i a _=>by simp only[aJ,bL,or_false] at a⊢;omega).trans (m.mono fun i a _=>by simp only[aJ,bL,or_false] at a⊢;omega)|>.mono fun i a hl=>by simp only[aJ,bL,or_false] at a⊢;omega
 have Q:=af E;clear Jv U j m E;cases tv with
 |false=>
  have hI:=X.h0 o ((gT V).trans f.ae) R;have HF:=af hI;have y:ah (eP [pb,ob] ew w o):= .of<|((gT V).trans f.ae).mono fun i a _=>by simp only[aJ,bL,or_false] at a⊢;omega
  clear hI;go_wp2_with fail;exact bodyPost_ret (v:= .tuple #[]) (by simp [results,results64,go_sem]) rfl ⟨rfl,fun ht=>absurd (Q.2 ht) Ou,fun _=>HF.ae,y⟩
 |true=>
  have wH:=f.size;have Q4:=af (B4.Up f av6);have Q2:=af (B2.Up f av6);have Q3:=af (B3.Up f av6);go_upto_region 3 with fail
  refine aT fun W5 g B=> ?_;have zj:=g.size;have ny:=B.lt;have f5:=B.frozen 0;generalize qA:o.heap.size=b5 at*;have p5:=B.aF 0;obtain⟨n,N,P,r⟩:=B.gG (.func (.func 131) #[] #[aI (w.heap.size+1) 0,aI (w.heap.size+1+1) 0,aI w.heap.size 0,aI b5 0]);have WN:=af N;have A:=af P;have c:=af r;have N9:=r.size;clear N P r;go_upto_region 4 with fail
  rw[WN.ae];have h52:o.heap.size<=b5:=Om;have z:ah (a8 [pb] w n):=((((gT V).trans f.ae).ext g.ae).only c.ae (.inr Om));have k4:=(Q4.ext g).only c.ae Om;have k2:=(Q2.ext g).only c.ae Om;have k3:=(Q3.ext g).only c.ae Om;have c5:=A.aF 0;have l5:=A.lt;have hE:=X.enter z (b2:=w.heap.size+1) (b3:=w.heap.size+1+1) (b4:=w.heap.size) (b5:=b5) Om Om Om Om k2 k3 k4 A Om Om Om l5;have s:dl x pb n:=(R.ext g).keep (c.block pb Om Oc) (uh c B Od) (uh c B Od);have O:=X.h0 n z s;have CC:=af (fun W b (M:Ext n W) (hF:j_ W b fun _=>none) (hb:n.heap.size<=b)=>aax hE attrs.length [] Ou [] b W none 0 (hE.hS [] n W ⟨O,.of (.gV (aB _))⟩ (.gV M) (s.ext M)) (by rw[RR];exact hF) hb mZ (by rw[RR];simpa using HL.ae));clear k2 k3 k4 hE s O p5 f5 B;have hmm:= @run_makeMap prog;have CC2:=af (CC (n.alloc (.map #[] 0)) n.heap.size ((aB n).alloc _) ⟨_,_,Ic n aS,fun l hl=>(by cases hl),fun v hv=>rfl⟩ (aK _));go_wp2_with fail
  refine CC2.mono ?_;rintro e7 w7 ⟨rfl,⟨t,K⟩, -⟩;have J:(jk (ey x D) (attrs.drop ([]:List aD).length) (eY (fun _=>none) attrs [])).map (fun q=>([]:List aD)++q)=jk (ey x D) attrs fun _=>none:=by rw[RR];exact List.map_id' _
  rw[vE,J] at t;have xH:=af t;have y:ah (eP [pb,ob] ew w w7):=(eP.of (z.mono fun i a _=>by simp only[aJ,bL,or_false] at a⊢;omega)).trans K;clear t K J;go_wp2_with fail
  exact bodyPost_end (results_none rfl _ _ _) rfl ⟨rfl,fun _=>xH.ae,fun hn=>absurd (Q.1 trivial) hn,y⟩
end
noncomputable def aeu(s r:Nat)(o:FuncId)(g:Nat->aD->Rat)(n:Nat->Option aD)(j:Option Nat)(x:aP)(D:List (List Rw))(p:Nat->Option Nat)(d:Nat->Nat)(c:List Nat)(f e:au)(q:List Value)(b m i h l:Nat):Pw Rat:=
 U2 dQ bX (gP s r) (fun k=>(k:Rat)) (fun a=>a==0) 29 61 62 28 o g n (.map j) x D p d c f e q 266 b m i h l
def an5(o a:Nat)(x:aP)(D:List (List Rw))(ok:bR x)(hD:gc x D)(a6:x.ai.length<=6)(r6:x.ay.length<=6)(DD MM:Nat)(w_:0<DD)(wZ:1000000*DD<=MM)(wY:MM<10^100)(J:Option Nat)(Z:Nat->Option aD)(g:Nat->aD->Rat)(E:FuncId)(K:Value)
 (z0:Bool) (Z0:aR) (z1 z2:Nat) (y0:Bool) (Y0:aR) (y1 y2:Nat) (o0:Bool) (O0:aR) (o1 o2:Nat) (q0:Bool) (Q0:aR) (q1 q2:Nat) (w:au) (hB:fW x (aU x D) o a w) (hM:dl x a w) (O:o≠a) (S:∀W,a8 [a] w W->tV W (.map J) Z)
 (hz:bX w (.agg #[.bool z0,.slice Z0 z1 z2,.bool y0,.slice Y0 y1 y2]) 0) (ho:bX w (.agg #[.bool o0,.slice O0 o1 o2,.bool q0,.slice Q0 q1 q2]) 1) (hg:∀v t,cL Z v t=false->g v t=0) (gg:∀v t,v<x.ai.length->t∈univ (aU x D)->gP DD MM 1 1 (g v t)) (il:∀F w,(callFunc E F).run prog w= .ok (.enter E F) w)
 (lift:∀W,a8 [a] w W->∀v t,v<x.ai.length->qp x (aU x D) v t->cL Z v t=true->Calls prog E #[av v,aL t,K] W fun e I=>∃u,e= .returned u/\bX I u (g v t)/\Ext W I):
 Calls prog 66 #[aI o 0,.map J,.agg #[.bool z0,.slice Z0 z1 z2,.bool y0,.slice Y0 y1 y2,.bool o0,.slice O0 o1 o2,.bool q0,.slice Q0 q1 q2,.func (.func 29) #[] #[],.func (.func 61) #[] #[],.func (.func 62) #[] #[]],.func (.func E) #[] #[K],.func (.func 28) #[] #[]] w fun e I=>
  ∃u p d,e= .returned u/\cX x.ai p d/\Whole x.ai (bh x) (bM x) (d_ x.ai p (fK x d) x.ai none)/\bX I u (dQ.prod (kids x.ai p none) fun c=>vT dQ x (aU x D) p (fK x d) g (fun k=>(k:Rat)) (univ (aU x D)) c fun _=> [])/\dl x a I/\a8 [a] w I:=by
 have HF:=af S;have H:=af hM;have HBw:=af hB;have HZ:=af hz;have HO:=af ho;have HL:=af lift;have XG:=af gg;have HG:=af hg;have dA:=af il;have CS:=af (fun W (T:Ext w W)=>aju o a x (aU x D) ok (-1) J z0 Z0 z1 z2 y0 Y0 y1 y2 o0 O0 o1 o2 q0 Q0 q1 q2 29 61 62 E 28 #[K] W (hB.ext T) (hM.ext T) O Om Om);clear S hB hM hz ho lift gg hg il;go_enter func66,ntmps66;go_upto_region 1 with fail
 refine fR fun W HX m BT=> ?_;have cM:=BT.lt;have r0:=m.aF 0;have r1:=m.aF 1;have r2:=m.aF 2;have r3:=m.aF 3;have r4:=m.aF 4;have r5:=m.aF 5;have r6:=m.aF 6;have r7:=m.aF 7;have r8:=m.aF 8;have r9:=m.aF 9;have UY:=m.aF 10;have Ye:=af (CS W HX);have hpl:=H.lt;generalize uK:w.heap.size=rb at*;go_wp2_with fail
 refine Ye.mono ?_;rintro e2 n ⟨xb,z,s,A,p0,p1,p2,p3,rfl,T,hP,hN,hS,hK,⟨s1,s2,s3,s4⟩,⟨n1,n2,n3⟩,P,q⟩;clear r0 r1 r2 r3 r4 r5 r6 r7 r8 r9 UY;have hsz:=HX.size;have HC:ah (a8 [a] w n):=(gT HX).trans q;have xX:=af (BT.cy q avL);obtain⟨h,hE,G,r,X,V⟩:=adn H HC;obtain⟨y,d,wl,t1,t2,t3,t4,cb,L,hb,A6,c6,t5,t6,t7,t8,t9⟩:=hP;injection t5 with t5;injection t5 with t5;injection t5 with e0 t5;injection t5 with e1 t5;injection t5 with e2 t5;injection t5 with e3 _;subst e0 e1 e2 e3;have U:fW x (aU x D) o a h:=HBw.keep (X o O) V;have Y:=adN ok hD U;have C:z≠A:=Iu hN hK;have B:s≠A:=Iu hS hK;have N:iA (aeu DD MM E g Z J x D (mA x y) d wl h n [aI o 0,aG cb 0 (x.ai.length+1) (x.ai.length+1),aG L 0 x.ai x.ai,aG hb 0 x.ai x.ai,.slice A6 wl c6,.bool z0,.slice Z0 z1 z2,.bool y0,.slice Y0 y1 y2,.bool o0,.slice O0 o1 o2,.bool q0,.slice Q0 q1 q2,.func (.func 29) #[] #[],.func (.func 61) #[] #[],.func (.func 62) #[] #[],.func (.func E) #[] #[K],.func (.func 28) #[] #[],.map J,aG z 0 x.ai x.ai,aG s 0 x.ai x.ai,.map (some A)] xb o z s A) 13 #[K]:=
  adE (aqe w_ wZ wY arD) ok hD a6 r6 t3 t4 HG XG ⟨cb,L,hb,A6,c6,rfl,rfl,rfl,rfl,t6,t7,t8,t9⟩ rfl rfl rfl rfl rfl rfl rfl (by rw[G];omega) n3 C B dA (fun W hW v t hv ht Q=>HL W (r W hW) v t hv ht Q) (HF h (r h (aB h)))
 have b:ce (aeu DD MM E g Z J x D (mA x y) d wl h n _ xb o z s A) 19 20 (fun _=> []) (fun _=>false) n:=adr Y hE rfl (show h.heap.size<=z by rw[G];omega) (show h.heap.size<=s by rw[G];omega) n1 n2 T rfl rfl rfl hN hS hK;have Q:Kept qm w h:=H.kept (r h (aB h)) _;have CT:=af (ajt N rfl rfl rfl rfl rfl (HZ.keep Q) rfl rfl rfl rfl (HO.keep Q) _ _ b);have Jv:z<n.heap.size/\s<n.heap.size/\A<n.heap.size/\xb<n.heap.size:=⟨b.st.nc.lt,b.st.sc.lt,b.mem.lt,b.st.sx.lt⟩;have gN:=af P;have gD:=af q;have T3:=af t3;have T4:=af t4;clear T hN hS hK b N Q Y U hE r X V t1 t2 t3 t4 t6 t7 t8 t9 P q C B;go_wp2_with fail
 refine CT.mono ?_;rintro e3 w3 ⟨u,avH,rfl,M,j,f⟩;have f:a8 [z,s,A] n w3:=f;have lD:ah (dl x a w3):=gN.keep (f.block _ gN.lt avL) j.k1 j.k2;have jy:ah (a8 [a] w w3):=(((gT HX).trans (gD.mono (S':= [a,z,s,A]) fun i R _=>by simp only[aJ,bL,or_false] at R⊢;omega)).trans (f.mono fun i R _=>by simp only[aJ,bL,or_false] at R⊢;omega)).mono fun i R hl=>by simp only[aJ,bL,or_false] at R⊢;omega
 have l:=af (xX.cy f avL);have M:bX w3 u _:=M;obtain⟨a0,A0,a1,a2,b0,B0,b1,b2,rfl, -, -⟩:=M.parts;have HU:=af M;obtain⟨k0,k1,k2,k3⟩:=l.four;obtain⟨f0,f1,f2,f3⟩:=l.eX;clear M j f;go_wp2_with fail
 refine sW rfl rfl rfl l.ae HU fun v W' h1 h2=> ?_;exact⟨v,_,_,rfl,T3,T4,h1,lD.keep (h2.block _ lD.lt Oc) (uh h2 l Od) (uh h2 l Od),jy.only h2 (.inr Om)⟩
section
variable{x:aP}{D:List (List Rw)}{p:Nat->Option Nat}{d:Nat->Nat}{fx:Nat->Option aD}
def wj(fx:Nat->Option aD)(lift:Nat->aD->Rat)(v:Nat)(t:aD):Rat:=if cL fx v t=true then lift v t else 0
theorem ajg(lift:Nat->aD->Rat)(v:Nat)(t:aD)(h:cL fx v t=false):wj fx lift v t=0:=by unfold wj;rw[h];rfl
theorem ajf(lift:Nat->aD->Rat)(v:Nat)(t:aD)(h:cL fx v t=true):wj fx lift v t=lift v t:=by unfold wj;rw[if_pos h]
theorem an4(r:cX x.ai p d)(lift:Nat->aD->Rat):
 (dQ.prod (kids x.ai p none) fun c=>vT dQ x (aU x D) p (fK x d) (wj fx lift) (fun k=>(k:Rat)) (univ (aU x D)) c fun _=> [])=lj (bh x) (univ (aU x D)) (d_ x.ai p (fK x d) x.ai none) (fun _=> []) lift (bY (aU x D)) fx:=by
 have a:=Zr (R:=dQ) (U:=univ (aU x D)) (g:=wj fx lift) (W:=jI (bh x) (bY (aU x D))) (homes:=fK x d) r (fun _=> []);unfold lj;exact a.symm
end
section
variable{α β:Type}{R:SR α}{U U':List β}{at_:Nat->List Nat}{hl:List Nat}{g:Nat->β->α}{W:Nat->(Nat->β)->α}
theorem Fo.at6(j:U.Nodup)(d:∀x∈U,x∈U')(hW:∀h∈hl,∀e,(∃a∈at_ h,e a∉U)->W h e=R.zero):∀(f:Fo) (S:List Nat),f.Ok at_ hl S->f.vars.Nodup->(∀v∈f.vars,∃h∈hl,v∈at_ h)->f.Right U' (fun _ _=>U) g W R
 | .nil,_,_,_,_=>trivial
 | .cons v p b n,S,⟨y,t,s,r⟩,m,c=>by simp only[Fo.vars,i6,bV,not_or] at m;obtain⟨⟨d1,_⟩,d2⟩:=m;have d3:=qP.1 d2;refine⟨fun u=>⟨j,d,fun x _ o=> .inr ?_⟩,Fo.at6 j d hW b _ s d3.1 fun a i=>c a awJ,Fo.at6 j d hW n _ r d3.2.1 fun a i=>c a awJ⟩;obtain⟨h,l,k⟩:=c v awC;refine⟨h,t h l k,fun w q=>hW h l w ⟨v,k,?_⟩⟩;rw[q v d1];unfold put;rw[if_pos rfl];exact o
def Qi:=@Fo.at6
theorem Fo.alO [DecidableEq β](d:U.Nodup)(c:U'.Nodup)(m:∀x∈U,x∈U')(hW:∀h∈hl,∀e,(∃a∈at_ h,e a∉U)->W h e=R.zero){f:Fo}(b:Nat->β)(j:f.Ok at_ hl i)(l:f.vars.Nodup)(k:∀v∈f.vars,∃h∈hl,v∈at_ h):f.val R U g W b=f.val R U' g W b:=by have o:=Hu (R:=R) d f b (Qi (U':=U) d (fun _ h=>h) hW f i j l k (g:=g));have n:=Hu (R:=R) c f b (Qi d m hW f i j l k (g:=g));rw[<-o,<-n]
end
def alN{α β:Type} [DecidableEq β]{R:SR α}{U:List β}{at_:Nat->List Nat}{hl:List Nat}{b:Nat->List (List β×Int)}{c:Int->α}(k:∀h∈hl,∀y∈b h,∀t∈y.1,t∈U):∀h∈hl,∀e:Nat->β,(∃a∈at_ h,e a∉U)->fC R at_ b c h e=R.zero:=by
 rintro h i e ⟨a,j,f⟩;unfold fC;cases d:lO (at_ h) (b h) e with
 |none=>rfl
 |some y=>obtain⟨m,l⟩:=L6 d;exact absurd (k h i y m (e a) (by rw[l];exact List.mem_map_of_mem j)) f
section
variable{α β:Type}{R:SR α}{U:List β}
theorem Fo.auq:∀(f:Fo) (d e:Nat->β),f.vars.Nodup->(e∈f.uS U d↔Alike f.vars d e/\∀v∈f.vars,e v∈U)
 | .nil,d,e,_=>by refine⟨fun h=>⟨pV .nil d e h,fun v q=>by cases q⟩,fun h=>bG.2 (funext fun a=>h.1 a awC)⟩
 | .cons v u b n,d,e,r=>by
   obtain⟨d1,d2⟩:=i6.1 r;obtain⟨d3,d4,d5⟩:=qP.1 d2;simp only[bV,not_or] at d1;constructor
   ·intro h;refine⟨pV _ d e h,fun a c=> ?_⟩;obtain⟨x,p,h⟩:=o7.1 h;obtain⟨m,k,j⟩:=o7.1 h;obtain⟨t,s⟩:=(Fo.auq b _ m d3).1 k;obtain⟨l,o⟩:=(Fo.auq n m e d4).1 j;simp only[Fo.vars,aJ,bV] at c;rcases c with rfl|c|c
    ·rw[l a d1.2,t a d1.1];unfold put;rw[if_pos rfl];exact p
    ·rw[l a fun g=>d5 a c a g rfl];exact s a c
    ·exact o a c
   ·rintro⟨k,j⟩;refine o7.2 ⟨e v,j v awC,o7.2 ⟨fun a=>if a∈n.vars then d a else e a,(Fo.auq b _ _ d3).2 ⟨fun a c=> ?_,fun a c=> ?_⟩,(Fo.auq n _ e d4).2 ⟨fun a c=> ?_,fun a c=>j a (by simp [Fo.vars,c])⟩⟩⟩
    ·unfold put;by_cases i:a=v
     ·subst i;simp only[if_neg d1.2,if_true]
     ·simp only[if_neg i];by_cases g:a∈n.vars
      ·simp only[if_pos g]
      ·simp only[if_neg g];exact k a (by simp only[Fo.vars,aJ,bV,not_or];exact⟨i,c,g⟩)
    ·simp only[if_neg fun g=>d5 a c a g rfl];exact j a (by simp [Fo.vars,c])
    ·simp only[if_neg c]
def Ie:=@Fo.auq
theorem Fo.aue(o:U.Nodup):∀(f:Fo) (c:Nat->β),f.vars.Nodup->(f.uS U c).Nodup
 | .nil,c,_=>i6.2 ⟨by simp,LC⟩
 | .cons v D b n,c,A=>by
   obtain⟨d1,d2⟩:=i6.1 A;obtain⟨d3,d4,d5⟩:=qP.1 d2;simp only[bV,not_or] at d1;refine List.pairwise_flatMap.2 ⟨fun x _=>List.pairwise_flatMap.2 ⟨fun e _=>Fo.aue o n e d4,?_⟩,?_⟩
   ·refine List.Pairwise.imp_of_mem (fun {h g} q p d=>fun y u z t j=>d (funext fun a=> ?_)) (Fo.aue o b (put c v x) d3);subst j;by_cases k:a∈n.vars
    ·have i:a∉b.vars:=fun i=>d5 a i a k rfl;rw[pV b _ h q a i,pV b _ g p a i]
    ·rw[<-pV n h y u a k,<-pV n g y t a k]
   ·refine List.Pairwise.imp (fun {x y} d=>fun e w E m l=>d ?_) o;subst l;obtain⟨h,q,p⟩:=o7.1 w;obtain⟨g,C,B⟩:=o7.1 m;have s:=pV n h e p v d1.2;have r:=pV n g e B v d1.2;rw[pV b _ h q v d1.1] at s;rw[pV b _ g C v d1.1,s] at r;simpa [put] using r
def Qz:=@Fo.aue
theorem SR.aa1{γ:Type}{l m:List γ}{f:γ->α}(h:l.Perm m):R.prod l f=R.prod m f:=by
 induction h with
 |nil=>rfl
 |cons x _ c=>rw[k7,k7,c]
 |swap x y l=>rw[k7,k7,k7,k7,<-R.ma,<-R.ma,R.mc (f y)]
 |trans _ _ b a=>rw[b,a]
theorem vK{γ:Type}{l m:List γ}(c:l.Nodup)(b:m.Nodup)(h:∀a,a∈l↔a∈m):l.Perm m:=by
 classical
 exact(List.perm_ext_iff_of_nodup c b).2 h
theorem Fo.ajX{f j:Fo}(w:Whole a A i f)(d:Whole a A i j)(p:U.Nodup){g:Nat->β->α}{W:Nat->(Nat->β)->α}(hW:∀h e q,(∀b∈A h,q b=e b)->W h q=W h e)(c:Nat->β):f.val R U g W c=j.val R U g W c:=by
 have k:∀v,v∈f.vars↔v∈j.vars:=fun v=>(w.vm v).trans (d.vm v).symm;have r:∀v,v∈f.homes↔v∈j.homes:=fun v=>(w.hm v).trans (d.hm v).symm;rw[AV hW f c w.wf w.vd,AV hW j c d.wf d.vd,SR.abR (vK (Qz p f c w.vd) (Qz p j c d.vd) fun e=> ?_)]
 ·refine vJ fun e _=> ?_;unfold Fo.term;rw[SR.aa1 (vK w.vd d.vd k),SR.aa1 (vK w.hd d.hd r)]
 ·rw[Ie f c e w.vd,Ie j c e d.vd];constructor
  ·exact fun⟨o,m⟩=>⟨fun b l=>o b fun h=>l ((k b).1 h),fun v h=>m v ((k v).2 h)⟩
  ·exact fun⟨o,m⟩=>⟨fun b l=>o b fun h=>l ((k b).2 h),fun v h=>m v ((k v).1 h)⟩
end
section
variable{n:Nat}{at_:Nat->List Nat}{hl:List Nat}{U U':List aM}{f f':Fo}{env:Nat->aM}{lift:Nat->aM->Rat}{tab:jZ}{fx:Nat->Option aM}
theorem aj8(w:Whole n at_ hl f)(a:Whole n at_ hl f')(c:U.Nodup)(b:U'.Nodup)(g:∀x∈U,x∈U')(i:∀h∈hl,∀y∈tab h,∀t∈y.1,t∈U)(d:∀v,v<n->∃h∈hl,v∈at_ h):lj at_ U f env lift tab fx=lj at_ U' f' env lift tab fx:=by unfold lj;refine(Fo.ajX w a c (W:=jI at_ tab) (fun h e k j=>EC h e k j) env).trans ?_;exact Fo.alO c b g (alN i) env a.ok a.vd fun v h=>d v ((a.vm v).1 h)
end
section
variable{x:aP}{D:List (List Rw)}{f:Fo}{env:Nat->aM}{lift:Nat->aM->Rat}{attrs:List Nat}
theorem amG{c:Nat->Option aD}(d:a<x.ai)(t:aD):t∈ey x D c a↔jY x D (ij c a t):=by unfold ey;rw[fp];refine⟨fun h=> @of_decide_eq_true _ (Classical.propDecidable _) h.2,fun h=>⟨?_,@decide_eq_true _ (Classical.propDecidable _) h⟩⟩;obtain⟨e,i,_⟩:=h;obtain⟨g,b⟩:=i a d;rw[IG,beq_iff_eq] at b;rw[b];exact g
end
def ly(p:Nat->Option Nat):Nat->Nat->List Nat
 |0,_=> []
 |k+1,v=>match p v with
  |none=> []
  |some a=>a::ly p k a
def rH(p:Nat->Option Nat)(v:Nat):Int:=match p v with
 |none=> -1
 |some a=>(a:Int)
def UW(p:Nat->Option Nat)(d:Nat->Nat):Option Nat->List Nat
 |none=> []
 |some a=>a::ly p (d a) a
def NJ(d:Nat->Nat):Option Nat->Nat
 |none=>0
 |some a=>d a+1
def wQ:Option Nat->Int
 |none=> -1
 |some a=>(a:Int)
def M_(r:cX a y J)(g:b<a):ly y (J b) b=UW y J (y b)/\NJ J (y b)=J b/\rH y b=wQ (y b)/\∀c,y b=some c->c<a:=by
 cases e:y b with
 |none=>refine⟨by rw[r.root b g e];rfl,by rw[r.root b g e];rfl,by unfold rH;rw[e];rfl,fun c f=>by cases f⟩
 |some c=>obtain⟨i,h⟩:=r.up b c g e;refine⟨by rw[h];show(match y b with|none=> []|some b=>b::ly y (J c) b)=_;rw[e];rfl,by rw[h];rfl,by unfold rH;rw[e];rfl,fun j f=>by injection f with f;subst f;exact i⟩
def Jg(d:Nat->Nat)(z:Int):Nat:=if z<0 then 0 else d z.toNat+1
def adD(d:Nat->Nat)(c:Option Nat):Jg d (wQ c)=NJ d c:=by
 cases c with
 |none=>rfl
 |some a=>unfold Jg wQ NJ;simp only[kg];exact if_neg Om
def amy:wQ none= -1:=rfl
def amx(a:Nat):wQ (some a)=(a:Int):=rfl
def abJ(A:aR)(c n:Nat)(p:Nat->Option Nat)(d:Nat->Nat)(r:cX n p d)(v:Nat)(U:v<n)(hn:n<=12)(w:au)(V:IL w (.slice A n c) ((List.range n).map (rH p))):
 Calls prog 53 #[.agg #[.slice A n c],av v] w fun e w'=>∃u,e= .returned (.tuple #[u,.bool true])/\IL w' u (ints (ly p (d v) v))/\Ext w w':=by
 have wI:=(bD V).2;have B:=af (fun(a:Nat) (Q:a<n) W (hX:Ext w W)=>by have h:=gX (V.ext hX) (i:=a) (by rw[bW,iG];exact Q);rwa[vD,P3,(M_ r Q).2.2.1] at h)
 have M:=af (fun(a:Nat) (Q:a<n)=>M_ r Q);have hdv:=r.lt v U;clear V r;obtain⟨g,o,k, -,D⟩:=B v U w (aB w);subst k;obtain⟨F,C,y3,E⟩:=M v U;generalize X:p v=c0 at*;have qF:=af F;have Kd:=af C;generalize ly p (d v) v=z at*;have huv:(ints ([]:List Nat)).length=0:=rfl;clear F y3 X;go_enter func53,ntmps53;go_upto_region 1 with fail
 refine aT fun W S BO=> ?_;have b0:=BO.aF 0;have q1:=(S.cell (p:=aC g (o+v)) (Lib.lt_of_cell D)).trans D;go_upto_region 3 with fail
 have HB:=af BO.ae;have DI:ah (bI aS 1 dO W.heap.size W (.slice none 0 0) (ints [])):=jf;have HE0:=af (aB W);clear b0 q1 D BO;go_loopw [6,7] (fun v6 T wr=>∃(f:List Nat) (j:Option Nat),T=av (wQ j)/\(∀b,j=some b->b<n)/\f.length+NJ d j=d v/\ah (z=f++UW p d j)/\ah (bI aS 1 dO W.heap.size wr v6 (ints f))/\ah (Ext W wr)) (fun _ T _=>Jg d (RowKit.intOf T))
 exact⟨[],c0,rfl,E,by simpa using C,qF,DI,HE0⟩;clear C E;obtain⟨f,j,rfl,J,I,HA,HO,N⟩:=hrel;obtain⟨A',c',xs,rfl,_,H,l,O⟩:=HO.parts;have m:(ints f).length=f.length:=awg;cases j with
 |none=>
  have HF:ah (z=f):=by have h:=HA.ae;rw[ah,h];exact i7 _
  have Y:=af (Mn l O);have d0:decide ((0:Int)<= -1)=false:=Od;rw[amy];clear m;go_wp2_with fail
  exact bodyPost_ret (v:= .tuple #[.slice A' (ints f).length c',.bool true]) (by simp [results,results53,go_sem]) rfl ⟨_,rfl,by rw[HF.ae];exact Y.ae,S.trans N⟩
 |some a=>
  have y:=J a rfl;obtain⟨g',o',k, -,D⟩:=B a y wr (S.trans N);injection k with k;injection k with e1 Z _;subst e1 Z;obtain⟨F,C, -,E⟩:=M a y;have P:ah (z=(f++ [a])++UW p d (p a)):=(by have h:=HA.ae;rw[ah,h,ie,<-F];rfl)
  obtain⟨L,t⟩:∃L,p a=L:=⟨_,rfl⟩;rw[t] at D C E P;have KM:=af t;clear t;have Oa:f.length+(d a+1)=d v:=I;have d0:decide ((0:Int)<=(a:Int))=true:=fU;have hne:(((ints f).length:Int)==(n:Int))=false:=beq_eq_false_iff_ne.2 Om;have K:((ints f).length+1)*8<=140737488355328:=Om;have hw:=N.size;have b0:=(HB.ext N).aF 0;rw[amx];have dA:=af m;clear J I F m;go_wp2_with (at_builtin;refine gQ rfl _ _ cI rfl W.heap.size jE _ _ _ rfl l.ae #[av (a:Int)] 1 1 rfl rfl rfl K hw ?_)
  intro v' w3 G s _;have O3:=af (jc (R:=dO) (x:=(a:Int)) cK Oe l O rfl G s);rw[<-RD] at O3;have E3:=af (mn N l s (aK _));have q3:aA w3 g (o+a) (av (wQ L)):=by obtain⟨g',o',k, -,q⟩:=B a y w3 (S.trans E3);injection k with k;injection k with e1 Z _;subst e1 Z;rw[KM.ae] at q;exact q
  have b3:=(HB.ext E3).aF 0;have tH:(f++ [a]).length=f.length+1:=axa;clear G s K b0 D H;go_wp2_with fail
  go_roundw;exact⟨f++ [a],L,rfl,E,by omega,P,O3,E3⟩;show Jg d (wQ L)<Jg d (wQ (some a))
  rw[adD,adD,C];exact Nat.lt_succ_self _
def ajp(A:aR)(c n:Nat)(p:Nat->Option Nat)(d:Nat->Nat)(r:cX n p d)(u v:Nat)(o:v<n)(q:n<=12)(w:au)(s:IL w (.slice A n c) ((List.range n).map (rH p))):
 Calls prog 113 #[.agg #[.slice A n c],av u,av v] w fun e j=>e= .returned (.bool ((ints (ly p (d v) v)).contains (u:Int)))/\Ext w j:=by
 have C:=af (fun W (t:Ext w W)=>abJ A c n p d r v o q W (s.ext t));generalize ints (ly p (d v) v)=l at*;go_enter func113,ntmps113;go_upto_region 1 with fail
 refine aT fun W h E=> ?_;have I:=E.aF 0;have D:=af (C W h);go_wp2_with fail
 refine D.mono ?_;rintro e i ⟨y,rfl,k,m⟩;obtain⟨F,x,rfl,_,_,z⟩:=k.parts;have f:=af (h.trans m);have B:=af (acE F l.length x l u i z);go_wp2_with fail
 refine B.mono ?_;rintro H G ⟨rfl,rfl⟩;obtain⟨b,a⟩:∃b,l.contains (u:Int)=b:=⟨_,rfl⟩;rw[a];have g:=af a;go_wp2_with fail
 exact bodyPost_ret (v:= .bool b) (by simp [results,results113,go_sem]) rfl ⟨by rw[g.ae],f⟩
def Rf(b:Bool)(w:au):Calls prog 102 #[.bool b] w fun e a=>∃u,e= .returned u/\bX a u (if b then 1 else 0)/\Ext w a:=by
 have d:=af (fun W=>yR 1 W Om Om);have f:=af (fun W=>yR 0 W Om Om);go_enter func102,ntmps102;go_upto_region 1 with fail
 refine aT fun W HX BT=> ?_;have c:=BT.lt;cases b with
 |true=>have C:=af (d W);exact m58
 |false=>have C:=af (f W);exact m58
def aoS(s t:aD)(w:au):Calls prog 101 #[aL s,aL t] w fun e a=>∃u,e= .returned u/\bX a u (if s=t then 1 else 0)/\Ext w a:=by
 have c:=af (fun W=>by have h:=Rf (s==t) W;simpa only[beq_iff_eq] using h);generalize(if s=t then (1:Rat) else 0)=q at*;go_enter func101,ntmps101;go_upto_region 1 with fail
 refine aT fun W HX BT=> ?_;have b:=BT.lt;have C:=af (c W);go_wp2_with fail
 exact m13
def ano(s t:aD)(w:au):Calls prog 105 #[aL s,aL t] w fun e b=>∃u,e= .returned u/\bX b u (if s= [] then 0 else 1)/\Ext w b:=by
 have d:ah (∀W,Calls prog 102 #[.bool (!s.isEmpty)] W fun e b=>∃u,e= .returned u/\bX b u (if s= [] then 0 else 1)/\Ext W b):=fun W=>by
  have h:=Rf (!s.isEmpty) W;cases s with
  |nil=>simpa using h
  |cons a s=>simpa using h
 generalize(if s= [] then (0:Rat) else 1)=q at*;go_enter func105,ntmps105;go_upto_region 1 with fail
 refine aT fun W HX BT=> ?_;have c:=BT.lt;go_wp2_with fail
 have C:=af (d W);exact m13
def qr(t:aD)(q:Rat):Prop:=(t= []/\q=0)\/(t≠ []/\t=bS q/\∃e,e<=100000/\bF (e+1) q)
def Mx{t:aD}(h:qr t H)(w:au):Calls prog 98 #[aL t] w fun e b=>∃u,e= .returned u/\bX b u H/\Ext w b:=by
 have k:=af (fun W=>yR 0 W Om Om);rcases h with⟨rfl,rfl⟩|⟨d,rfl,e,j,i⟩
 ·go_enter func98,ntmps98;go_upto_region 1 with fail
  refine aT fun W HX BT=> ?_;have f:=BT.lt;have C:ah (Calls prog 28 #[av 0] W fun e b=>∃u,e= .returned u/\bX b u 0/\Ext W b):=k W;go_wp2_with fail
  exact m13
 ·have g:(bS H).isEmpty=false:=by
   cases c:bS H with
   |nil=>exact absurd c d
   |cons a s=>rfl
  have c:=af (fun W=>abt H W i j);generalize bS H=t at*;go_enter func98,ntmps98;go_upto_region 1 with fail
  refine aT fun W HX BT=> ?_;have f:=BT.lt;have C:=af (c W);go_wp2_with fail
  exact m13
def anj{s t:aD}(h:qr s H)(w:au)(c:ar w a 169 [.func (.func 98) #[] #[]]):Calls prog 99 #[aL s,aL t,aI a 0] w fun e b=>∃u,e= .returned u/\bX b u H/\Ext w b:=by
 have f:=af (fun W=>Mx h W);have g:=af c;go_enter func99,ntmps99;go_upto_region 1 with fail
 refine aT fun W HX BT=> ?_;have d:=BT.lt;have C:=af (f W);have i:=(g.ext HX).aF 0;go_wp2_with fail
 exact m13
def qr.fit{t:aD}(h:qr t H):∃e,e<=100001/\bF e H:=by
 rcases h with⟨_,rfl⟩|⟨_,_,e,b,a⟩
 ·exact⟨1,by omega,by decide,by decide⟩
 ·exact⟨e+1,by omega,a⟩
abbrev zD:Value:= .func (.func 98) #[] #[]
def aqL.afD(h:aq:=by
 refine cD (S:=fun w'=>aA w' bn 0 zD) (T:=fun j=>decide (7<=j)) Ok ?_;have l:=af (aB W).drew;generalize W.drew=r at*;have C:=af (p r);refine ax 0 6 ?_;refine ax 1 7 ?_;refine ax 3 9 ?_;refine ax 4 10 ?_;refine aO 2 ?_;intro K a;go_simp;refine C.mono ?_;rintro U y ⟨u,rfl,f,d⟩;have E:=af f;have i:=af (l.trans d);have bB:=af (cC _ i);have G:=af (p y);refine a.ae _ _ (fun _=>bB.ae) ?_;refine aO 5 ?_;intro K a;go_simp;refine G.mono ?_;rintro R x ⟨u2,rfl,f,d⟩;have n:=af f;have o:=af (E.ext d);have g:=af (i.trans d);have aH:=af (cC _ g);have F:=af (Sr u u2 H H x o n k k Om);refine a.ae _ _ (fun _=>aH.ae) ?_;refine aO 6 ?_;intro K a;go_simp;refine F.mono ?_;rintro Q I ⟨u3,rfl,f,d⟩;obtain⟨a0,A0,q,Z,Y,B0,X,V,rfl, -, -⟩:=f.parts;have m:=af f;have b:=af (g.trans d);have bB:=af (cC _ b);have c:=af (BT.ext b);refine a.ae _ _ (fun _=>bB.ae) ?_;obtain⟨N,M,L,J⟩:=c.four;obtain⟨f0,f1,f2,f3⟩:=c.eX;refine aO 7 ?_;intro K a;go_simp;refine a.ae _ _ Oe ?_;refine b_ Ok ?_;go_wp2_with fail
 exact sW rfl rfl rfl c.ae m fun v W' D B=>⟨v,rfl,D,(HX.trans b).only B Om⟩):=h
def aoL{s t:aD}{bn:Nat}(h:qr s H)(w:au)(z:ar w bn 169 [zD]):Calls prog 100 #[aL s,aL t,aI bn 0] w fun e w'=>∃u,e= .returned u/\bX w' u (H*H)/\Ext w w':=by have p:=af (fun W=>Mx h W);obtain⟨P,O,A⟩:=h.fit;have k:=af A;have HN:=af z;go_enter func100,ntmps100;open aqL in exact afc
end Go.Proofs.YtadbchhdjbghkaaGreatDoor
