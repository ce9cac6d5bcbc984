/- Texts of the proof, part 11. -/
import Derived.Test.YthfffpcmldipgaaGreatDoorA10
namespace Go.Proofs.YthfffpcmldipgaaGreatDoor
set_option maxHeartbeats 8000000
set_option linter.all false
set_option maxRecDepth 100000
variable{ai:Prop}
open Go.RowKit Go.Lib Go.Maps Go.ChangeShapes Go.WideShapes Go.ChangeAt Go.Proofs.Tryz
variable{a b c d e f g h:Nat}{i j k l:List Nat}{m n o:World}{p q r s:Value}{t u v:List Value}{w x:TypeId}{y z:Nat→Option Nat}{A:Nat→List Nat}{B C:Int}{E F:Option Addr}{H I:Rat}{J:Nat→Nat}{K:Nat→Bool}{L:List Int}{N:Array Bool}{O:Option Nat}{Q:Act}{R S:Bool}{T:List UInt8}
def cC.fresh{α:Type}{D:Pw α}{f:Nat->aF}(h:cC D a b f K m)(k:Only c m n)(x:D.w0.heap.size<=c)(A:D.w1.heap.size<=c)(s:c≠D.xb)(r:c≠D.nb)(p:c≠D.sb)(o:c≠D.kb)(v:∀{u d},D.V m u d->D.V n u d):cC D a b f K n:=by
 have i:∀t,Kept t D.w1 m->Kept t D.w1 n:=fun t i q z y j=>by have l:=i q z y j;exact(k.block q (ie l) fun e=>by injection e with e;have:=ie j;omega).trans l
 exact⟨h.st.past k x s r p,h.mem.same (k.block _ h.mem.lt (by simpa using o.symm)) v,i _ h.k1,i _ h.k2⟩
def ann{x:aQ}{D:List (List Rw)}{c:Nat->Option aF}(b:c a=none)(h:¬j6 x D c):eQ x D c a= []:=by unfold eQ;refine aal.2 fun t _=> ?_;simp only[decide_eq_true_eq];exact fun d=>h (kD.mono _ _ _ b d)
def apc(g f d a:Nat)(t:aF)(b:Bool)(w:au)(n:ay w g 0 (aJ d 0))(m:ay w f 0 (av (a:Int))){I:World->Prop}
 (j:Calls prog 207 #[aJ d 0,av a,aO t] w fun e c=>∃u,e= .returned u/\u= .bool b/\I c):
 Calls prog 206 #[aO t,aJ g 0,aJ f 0] w fun e c=>e= .returned (.bool (!b))/\I c:=by
 have l:=af j;go_enter func206,ntmps206;go_wp2_with fail;refine l.mono ?_;rintro e c ⟨u,rfl,h,i⟩;have k:=af i;subst h;go_wp2;exact bodyPost_ret (by simp [results,results206,go_sem]) rfl ⟨rfl,k⟩
def aqM(R Q:Nat)(x:aQ)(D:List (List Rw))(ok:cF x)(hD:jD x D)(a6:x.aq.length<=6)(r6:x.aA.length<=6)(a:Nat)(ha:a<x.aq.length)(T:Option Nat)(j:Nat->Option aF)(Mr:j a=none)(w:au)(hB:gJ x (aX x D) R Q w)(hM:dF x Q w)(hne:R≠Q)(Rs:∀W,a7 [Q] w W->vL W (.map T) j):
 Calls prog 150 #[aJ R 0,.map T,av a] w fun e m=>∃A c,e= .returned (.slice A (eQ x D j a).length c)/\(eQ x D j a).length<=c/\c<=maxLen/\(eQ x D j a≠ []->∃g rest,A=cT g 0/\w.heap.size<=g/\ar m g bI ((eQ x D j a).map encStr++rest))/\dF x Q m/\a7 [Q] w m:=by
 have CA:=af (fun W (hX:Ext w W)=>adh R Q x D ok hD a6 r6 a T j W (hB.ext hX) (hM.ext hX) hne Om Om (fun W2 M=>Rs W2 ((ig hX).trans M)));have HM:=af hM;have dX:=hB.lt;have hpl:=hM.lt;go_enter func150,ntmps150;go_upto_region 1 with fail
 refine aP fun W HX BA=> ?_;have hba:=BA.lt;have ba0:=BA.aD 0;have NP:=af (CA W HX);go_wp2_with fail
 refine NP.mono ?_;rintro e1 r ⟨p,d,wl,w0,cs,K,y,s,C,rfl,o,n,z5,z6,hr,lw,Q8,⟨s1,s2,s3,s4⟩,kA,hc1⟩;have aN:=af o;have HST:=af n;have M_:=af hr;have Cw:=af lw;have YQ:=Q8 a rfl;have po:=af kA;have kf:=af ((ig HX).trans hc1);have Dt:=af (BA.bP hc1 Oc);obtain⟨B,E⟩:∃B:(Nat->aF)->World->Prop,B=fun f W=>cC (yD j T x D p d wl w0 r cs K R y s C) 13 14 f (fun _=>false) W:=⟨_,rfl⟩;have F:bK p a=fun _=>false:=funext fun b=>KL YQ;obtain⟨tb,yN⟩:∃tb,tb=(dV.prod (kids x.aq.length p none) fun c=>vT dV x (aX x D) p (gD x d) (fun v t=>dt j v t) (fun _=>true) (univ (aX x D)) c fun _=> []):=⟨_,rfl⟩;have zm:ah (tb=true↔j6 x D j):=by rw[yN];exact acn ok hr lw
 obtain⟨bt,cK⟩:∃bt:aF->Bool,bt=fun t=>bT dV x (aX x D) p (gD x d) (fun v t=>dt j v t) (fun _=>true) (univ (aX x D)) a t fun _=> []:=⟨_,rfl⟩;obtain⟨J,X⟩:∃J,J=iE (bJ x) (bR (aX x D)) (bV x) j (fun _=>false) (fun _=> []) a:=⟨_,rfl⟩;have awh:ah (j6 x D j->J.filter bt=eQ x D j a):=fun h=>by rw[X,cK,<-F];exact aqK o.wk ha YQ Mr h
 have HT:ah (∀W f,B f W->Calls prog 148 #[aJ K 0] W fun e m=>e= .returned (.bool tb)/\(∃q,B q m)/\a7 [y,s,C] W m):=(by rw[E,yN];intro W f h;refine(acb o z6 rfl z5 rfl f W h).mono ?_;rintro e m ⟨u,q,rfl,hu,h3,h4⟩;exact⟨by rw[show u=_ from hu];rfl,⟨q,h3⟩,h4⟩);have awS:ah (∀W f,B f W->Calls prog 205 #[aJ K 0,av a] W fun e m=>∃A c,e= .returned (.slice A J.length c)/\J.length<=c/\c<=maxLen/\(J≠ []->∃g rest,A=cT g 0/\W.heap.size<=g/\ar m g bI (J.map encStr++rest))/\(∃q,B q m)/\a7 [y,s,C] W m):=(by rw[E];intro W f h;have H:=aer _ cs K R y s a x (aX x D) f (fun _=>false) (.map T) j w0 W h.st rfl ha o.cf o.XF (o.wk.ne a ha) r6 (a8 a6 Od) (fun l hl=>a8 (Pp hD hl) Od);rw[Ua (e':=fun _=> []) Oy9,<-X] at H;refine H.mono ?_;rintro e m ⟨A,c,t,rfl,Z,Y,g3,g4,g5⟩;exact⟨A,c,rfl,Z,Y,g3,⟨_,h.tN o g4 g5⟩,g5.mono fun i G _=>by simp only[aI,bF,or_false] at G⊢;omega⟩);have py:ah (∀W f t,B f W->t∈J->Calls prog 207 #[aJ K 0,av a,aO t] W fun e m=>∃u,e= .returned u/\u= .bool (bt t)/\(∃q,B q m)/\a7 [y,s,C] W m):=by
  rw[E,cK];intro W f t h ht;have H:=(WI o z5 rfl x.aq.length a ha (Tt _ _)).2 t f W (by rw[show(yD j T x D p d wl w0 r cs K R y s C).p=p from rfl,F];exact h) (fun b V=>by rw[show(yD j T x D p d wl w0 r cs K R y s C).p=p from rfl,F] at V;cases V) (by
   show t∈iE (bJ x) (bR (aX x D)) (bV x) j (bK p a) f a
   rw[F,Ua (e':=fun _=> []) Oy9,<-X];exact ht)
  refine H.mono ?_;rintro e m ⟨u,q,rfl,hu,h3,_,h5⟩;rw[show(yD j T x D p d wl w0 r cs K R y s C).p=p from rfl,F] at h3;refine⟨u,rfl,?_,⟨q,h3⟩,h5⟩;rw[o.afr (e:=fun _=> []) ha (fun b V=>by rw[show(yD j T x D p d wl w0 r cs K R y s C).p=p from rfl,F] at V;cases V)] at hu;exact hu
 have HFR:ah (∀W z f g,B f W->Only g W z->r.heap.size<=g->B f z):=by
  rw[E];intro W z f g h k hg;have H:=n.st.sx.lt;have M:=n.st.nc.lt;have h3:=n.st.sc.lt;have h4:=n.mem.lt;have h5:=n.st.ex.size;refine h.fresh k (a8 h5 hg) hg ?_ ?_ ?_ ?_ (fun hv=>hv)
  ·exact TP (cE H hg)
  ·exact TP (cE M hg)
  ·exact TP (cE h3 hg)
  ·exact TP (cE h4 hg)
 have HKT:ah (∀W f,B f W->Kept cO r W/\Kept aU r W):=(by rw[E];exact fun W f h=>⟨h.k1,h.k2⟩);have d8:ah (∀W z f,B f W->Ext W z->B f z):=(by rw[E];exact fun W z f h k=>h.fW o k);have hx1:K<r.heap.size:=n.st.sx.lt;have hx2:y<r.heap.size:=n.st.nc.lt;have hx3:s<r.heap.size:=n.st.sc.lt;have iW:C<r.heap.size:=n.mem.lt;have bB:ah (B (fun _=> []) r):=by rw[E];exact n
 clear E yN cK X o n z5 z6 hr lw Q8 hc1 kA ba0 BA F YQ;go_upto_region 2 with fail
 refine aP fun w2 aY BX=> ?_;have zQ:=af (Dt.ext aY);have d9:=af (d8 _ _ _ bB aY);have yz:r.heap.size<w2.heap.size:=BX.lt;have bx0:=BX.aD 0;have kW:=af (HT w2 _ d9);have axL:W.heap.size<=r.heap.size:=Om;go_wp2_with fail
 refine kW.mono ?_;rintro e3 w3 ⟨rfl,⟨cu3,hs3⟩,L⟩;have n9:=af hs3;have iK:=af ((ig (S:= [y,s,C]) aY).trans L);have lG:=af (BX.bP L ay0);have SY:=af (zQ.bP L ay0);have axR:=iK.size;have LB:=L.size;clear bx0 BX hs3 L;have P:ah (∀m f,B f m->a7 [y,s,C] r m->dF x Q m/\a7 [Q] w m):=fun m f h k=>by obtain⟨k1,k2⟩:=HKT m f h;refine⟨po.keep (k.block _ po.lt ay0) k1 k2,?_⟩;exact((kf.mono (S':= [Q,y,s,C]) fun i G _=>by simp only[aI,bF,or_false] at G⊢;omega).trans (k.mono fun i G _=>by simp only[aI,bF,or_false] at G⊢;omega)).mono fun i G hlt=>by simp only[aI,bF,or_false] at G⊢;omega
 cases tb with
 |false=>
  have ht:¬j6 x D j:=fun h=>by have:=zm.2 h;cases this
  have HO:ah (eQ x D j a= []):=ann Mr ht;obtain⟨Z,Y⟩:=P w3 cu3 n9 iK;have O:=af Z;have N:=af Y;clear Z Y;go_wp2_with fail
  exact bodyPost_ret (v:= .slice none 0 0) azO rfl (by rw[HO.ae];exact⟨none,0,rfl,aK _,aT _,fun h=>absurd rfl h,O,N⟩)
 |true=>
  have HO:ah (J.filter bt=eQ x D j a):=awh (zm.1 rfl);have bx0:=lG.aD 0;have ba0:=SY.aD 0;have Gq:=af (awS w3 cu3 n9);go_wp2_with fail
  refine Gq.mono ?_;rintro e4 w4 ⟨A4,c4,rfl,hl4,U,hb4,⟨cu4,IQ⟩,Ry⟩;have mH:=af IQ;have nE:=af (iK.trans Ry);have qz:=af (lG.bP Ry ay0);have Ds:=af (SY.bP Ry ay0);have nG:=af hb4;by_cases hcb:J= []
  ·subst hcb;have et:ah (eQ x D j a= []):=HO.symm;have HDN:=af (apW 206 (fun _ _=>by rfl) (aJ r.heap.size 0) (aJ w.heap.size 0) A4 c4 w4 U);obtain⟨Z,Y⟩:=P w4 cu4 mH nE;have O:=af Z;have N:=af Y;clear Z Y;go_wp2_with fail
   refine HDN.mono ?_;rintro e5 w5 ⟨rfl,rfl⟩;go_wp2_with fail;exact bodyPost_ret (v:= .slice A4 0 c4) azO rfl (by rw[et.ae];exact⟨A4,c4,rfl,aT _,U,fun h=>absurd rfl h,O,N⟩)
  ·obtain⟨g,rest,hA4,tZ,t_⟩:=nG hcb;subst hA4;have NI:=af t_;obtain⟨I,hI⟩:∃I:World->Prop,I=fun z=>(∃f,B f z)/\a7 [y,s,C,g] w4 z:=⟨_,rfl⟩;have ul:ah (∀z,I z->(∃f,B f z)/\a7 [y,s,C,g] w4 z):=by rw[ah,hI];exact fun _ h=>h
   have kE:ah (∀z f,B f z->a7 [y,s,C,g] w4 z->I z):=by rw[ah,hI];exact fun _ f H M=>⟨⟨f,H⟩,M⟩
   have NA:=af (apX 206 (fun _ _=>by rfl) (aJ r.heap.size 0) (aJ w.heap.size 0) (fun t=> !bt t) I g c4 J rest w4 (kE w4 cu4 mH (.ij (aC w4))) t_ hl4 U
    (fun W1 W2 h ho=>by obtain⟨⟨f,H⟩,M⟩:=ul W1 h;exact kE W2 f (HFR W1 W2 f g H ho Om) (M.only ho (.inl Ou)))
    (fun W1 v ys h hv II=>by obtain⟨⟨f,H⟩,M⟩:=ul W1 h;have k1:=(qz.bP M ay0).aD 0;have k2:=(Ds.bP M ay0).aD 0;exact apc r.heap.size w.heap.size K a v (bt v) W1 k1 k2 ((py W1 f v H hv).mono fun e m hh=>by obtain⟨u,e1,e2,⟨q,e3⟩,e4⟩:=hh;exact⟨u,e1,e2,kE.ae m q e3 (M.trans (e4.mono fun i G _=>by simp only[aI,bF,or_false] at G⊢;omega)),II.bP e4 ay0⟩)))
   have Gi:ah (J.filter (fun v=> !!bt v)=eQ x D j a):=(by rw[ah,<-HO.ae];exact GJ fun t _=>Bool.not_not _);rw[Gi.ae] at NA;have Ce:(eQ x D j a).length<=c4:=by rw[<-HO.ae];exact a8 (mK _ _) hl4
   go_wp2_with fail
   refine NA.mono ?_;rintro e5 w5 ⟨rfl,hi5,afH,o8⟩;obtain⟨⟨RO,hs5⟩,qg⟩:=ul w5 hi5;have Mu:a7 [y,s,C] r w5:=((nE.mono (S':= [y,s,C,g]) fun i G _=>by simp only[aI,bF,or_false] at G⊢;omega).trans qg).mono fun i G hlt=>by simp only[aI,bF,or_false] at G⊢;omega
   obtain⟨Z,Y⟩:=P w5 RO hs5 Mu;have O:=af Z;have N:=af Y;have ut:=af o8;have aip:w.heap.size<=g:=Om;go_wp2_with fail
   exact bodyPost_ret azO rfl ⟨cT g 0,c4,rfl,Ce,U,fun _=>⟨g,afH,rfl,aip,ut⟩,O,N⟩
def kZ(w:au)(b:Nat)(a:Nat->Option aF):Prop:=∃m f,d7 w aU b m f/\(∀l,(f l).isSome=true->∃v:Nat,v<100/\l= .int .i64 (v:Int))/\∀v:Nat,v<100->f (.int .i64 (v:Int))=(a v).map fun t=> .string ⟨t.toArray⟩
def kZ.fxM{d:Nat->Option aF}(h:kZ m a d):NL m a d:=by obtain⟨c,f,g,_,e⟩:=h;exact⟨c,f,g,e⟩
def kZ.same{d:Nat->Option aF}(h:kZ m a d)(e:n.heap[a]?=m.heap[a]?):kZ n a d:=by obtain⟨c,f,j,i,g⟩:=h;exact⟨c,f,j.same e,i,g⟩
def kZ.lt{e:Nat->Option aF}(h:kZ m a e):a<m.heap.size:=by obtain⟨c,f,d,_⟩:=h;exact d.lt
structure xj(f g:Lit->Option Value)(a:Nat)(t:aF)(left avA:Lit->Bool):Prop where
 at_:g (.int .i64 (a:Int))=some (.string ⟨t.toArray⟩)
 old:∀l,l≠ .int .i64 (a:Int)->left l=false->g l=f l
 new:∀l,l≠ .int .i64 (a:Int)->left l=true->g l=none
 sub:∀l,left l=true->avA l=true
def xj.key{f g:Lit->Option Value}{t:aF}{left c:Lit->Bool}(h:xj f g a t left c)(k:a<100)(j:∀l,(f l).isSome=true->∃v:Nat,v<100/\l= .int .i64 (v:Int))(l:Lit)(d:(g l).isSome=true):l∈(List.range 100).map fun v:Nat=>Lit.int .i64 (v:Int):=by
 by_cases e:l= .int .i64 (a:Int)
 ·exact dH.2 ⟨a,dP.2 k,e.symm⟩
 ·cases b:left l with
  |true=>rw[h.new l e b] at d;cases d
  |false=>rw[h.old l e b] at d;obtain⟨v,i,rfl⟩:=j l d;exact dH.2 ⟨v,dP.2 i,rfl⟩
def strike{left:Lit->Bool}{l a:Lit}(h:l≠a):(left l&& !l.sameKey a)=left l:=by
 have c:l.sameKey a=false:=by
  cases b:l.sameKey a with
  |false=>rfl
  |true=>exact absurd (WideAt.sameKey_eq b) h
 rw[c,Bool.not_false,TD]
def xj.skip{f g:Lit->Option Value}{t:aF}{left b:Lit->Bool}(h:xj f g a t left b):xj f g a t (fun z=>left z&& !z.sameKey (.int .i64 (a:Int))) b:=
 ⟨h.at_,fun l d c=>h.old l d (by rwa[strike d] at c),fun l d c=>h.new l d (by rwa[strike d] at c),fun l c=>h.sub l (by rw[cZ] at c;exact c.1)⟩
def xj.take{f g:Lit->Option Value}{t:aF}{left b:Lit->Bool}{kl:Lit}(h:xj f g a t left b)(k:kl≠ .int .i64 (a:Int))(j:f kl=some p)(i:WideAt.IsKeyLit kl):xj f (m_ g kl p) a t (fun z=>left z&& !z.sameKey kl) b:=
 ⟨by rw[vY k.symm];exact h.at_,fun l d c=>by
  by_cases e:l=kl
  ·rw[e,D3,j]
  ·rw[vY e];exact h.old l d (by rwa[strike e] at c),fun l d c=>by
  by_cases e:l=kl
  ·rw[e,WideAt.sameKey_self i] at c;simp at c
  ·rw[vY e];exact h.new l d (by rwa[strike e] at c),fun l c=>h.sub l (by rw[cZ] at c;exact c.1)⟩
def aok(b a:Nat)(t:aF)(X:Nat->Option aF)(w:au)(h:kZ w b X)(ha:a<100):
 Calls prog 151 #[.map (some b),.int .i64 a,.string ⟨t.toArray⟩] w fun e w'=>∃g,e= .returned (.map (some g))/\kZ w' g (fC X a t)/\w.heap.size<=g/\Ext w w':=by
 obtain⟨m,f,hm,C,U⟩:=h;have G:=af C;have uo:=af U;have hbl:=hm.lt;have hmm:= @run_makeMap prog;obtain⟨w2,n,z,L⟩:=(KB w aU).put mQ KP ay' (H_ ha) (.string ⟨t.toArray⟩);have Z:=af (((aC w).alloc (.map #[] 0)).only L (aK _));have iA:=af z;obtain⟨H,o,hD⟩:=hm.same (Z.block b hbl);have HD:=af hD;have tV:w.heap.size<w2.heap.size:=z.lt;have zC:ah (xj f (m_ (fun _=>none) (.int .i64 (a:Int)) (.string ⟨t.toArray⟩)) a t (Maps.has H) (Maps.has H)):=by
  refine⟨D3 _ _ _,fun l Q d=> ?_,fun l Q _=>vY Q,fun _ h=>h⟩;rw[vY Q];cases T:f l with
  |none=>rfl
  |some u=>obtain⟨v,i,rfl⟩:=C l (by rw[T];rfl);rw[(hD _ (mQ.key (H_ i))).1,T] at d;cases d
 clear hm C U z L hD;go_enter func151,ntmps151;go_wp2_with (at_range;refine wpList_range_own _ rfl _ Lg rfl aU bI mQ KP wN b m H rfl o ?_);intro w3 K B hs3;have Sd:=af K;have bZ:=af (Z.trans (AK B));have mI:ah (d7 w3 aU w.heap.size 1 (m_ (fun _=>none) (.int .i64 (a:Int)) (.string ⟨t.toArray⟩))):=iA.ext (AK B);clear o K B n;have wT:w2.heap.size≠w.heap.size:=Om;have nW:b≠w.heap.size:=Om;generalize w2.heap.size=r at*;go_upto_region 3 with fail
 go_loopw [8,9] (fun _ _ wr=>∃(left:Lit->Bool) (cnt k:Nat) (g:Lit->Option Value),ah (wr.ranges prog aU wN b r m H left cnt)/\ah (d7 wr aU w.heap.size k g)/\ah (xj f g a t left (Maps.has H))/\ah (Ext w wr)) (fun _ _ wr=>wr.rangeLeft b r)
 exact⟨_,_,_,_,Sd,mI,zC,bZ⟩;obtain⟨left,cnt,k,g,HR,HM,F,HX⟩:=hrel;go_wp2_with (at_next;refine wpList_next_ranges _ rfl _ rfl aU mQ wN (Value.int .i64) (fun v:Value=>v) (fun key kl hk=>by obtain⟨x,h,_⟩:=Maps.keyOf_int_inv (q:= .i64) Ok hk;exact⟨x,h⟩) (fun v _ _=>⟨v,rfl⟩) b r m H left cnt rfl HR.ae ?_ ?_)
 ·intro hc0 P;have Ns:=af P;clear P;have HFX:ah (kZ wr w.heap.size (fC X a t)):=by
   refine⟨_,g,HM,fun l Q=> ?_,fun v i=> ?_⟩
   ·obtain⟨v,i,e⟩:=dH.1 (F.key ha G l Q);exact⟨v,dP.1 i,e.symm⟩
   ·unfold fC;by_cases e:v=a
    ·rw[e,if_pos rfl];exact F.at_
    ·rw[if_neg e,F.old _ (fun h=>by injection h with _ h;omega) (Ns _)];exact uo v i
  go_wp2;exact bodyPost_ret (v:= .map (some w.heap.size)) (by simp [results,results151,go_sem]) rfl ⟨w.heap.size,rfl,HFX,aK _,HX⟩
 ·intro x c kl y1 y2 w4 ayW p hlk i V j hlt A IQ hen;obtain⟨x',e1,e2,_⟩:=Maps.keyOf_int_inv (q:= .i64) Ok p;injection e1 with _ e1;subst e1;have R:=mQ.key p;obtain⟨d1,d2⟩:=HD kl R;rw[F.sub kl hlk] at d1;obtain⟨v,I,e3⟩:=G kl d1.symm;rw[e2] at e3;injection e3 with _ e3;subst e3;subst e2;obtain⟨u,J⟩:∃u,f (.int .i64 (v:Int))=some u:=JT.1 d1.symm;have hc:c=u:=by have d:=d2 u J (.held u);rw[V] at d;unfold wN at i;injection i with i;injection i with i _;rw[<-i] at d;injection d
  subst hc;obtain⟨s,hs,rfl⟩:∃s,X v=some s/\c= .string ⟨s.toArray⟩:=by
   have d:=uo v I;rw[J] at d;cases S:X v with
   |none=>rw[S] at d;cases d
   |some s=>rw[S] at d;injection d with d;exact⟨s,rfl,d⟩
  have D:=af j;have vH:ah (d7 w4 aU w.heap.size k g):=HM.kept A Oc;have Y:ah (Ext w w4):=HX.only A Om;have O:w4.rangeLeft b r<wr.rangeLeft b r:=by rw[j.left_eq,HR.left_eq];exact hlt
  clear d1 d2 V i j A hs;by_cases hva:v=a
  ·subst hva;have E:=af F.skip;clear J;go_wp2;go_roundw;exact⟨_,_,_,_,D,vH,E,Y⟩;exact O
  ·have E:=af (F.take (kl:= .int .i64 (v:Int)) (fun h=>by injection h with _ h;omega) J R);have W:=vH.bound mQ _ (F.key ha G);obtain⟨w5,n,M,y⟩:=W.put mQ KP (by rw[cy,gN];unfold maxLen;omega) (H_ I) (.string ⟨s.toArray⟩);have hne:((v:Int)==(a:Int))=false:=beq_eq_false_iff_ne.2 Om;have HR5:=af (D.kept y Oc Oc);have ui:=af M;have en:=af (Y.only y (aK _));have N:w5.rangeLeft b r<wr.rangeLeft b r:=(by have d:=HR5.left_eq;have h2:=D.left_eq;omega)
   clear W M y J O;go_wp2;go_roundw;exact⟨_,_,_,_,HR5,ui,E,en⟩;exact N
abbrev lh:TypeId:=55
abbrev eT:TypeId:=61
structure fE(S:List Nat)(t:TypeId)(a b:au):Prop where
 os:b.os=a.os
 tape:b.tape=a.tape
 output:b.output=a.output
 size:a.heap.size<=b.heap.size
 block:∀i,i<a.heap.size->i∉S->(∀cu fr,a.heap[i]?≠some (.cells cu t fr))->b.heap[i]?=a.heap[i]?
def fE.of{t:TypeId}{b:au}(h:a7 j o b):fE j t o b:=⟨h.os,h.tape,h.output,h.size,fun i d c _=>h.block i d c⟩
def fE.trans{S:List Nat}{t:TypeId}{a b:au}(h:fE S t a b)(k:fE S t b o):fE S t a o:=⟨k.os.trans h.os,k.tape.trans h.tape,k.output.trans h.output,a8 h.size k.size,fun i e d f=>by have j:=h.block i e d f;exact(k.block i (cE e h.size) d fun q p=>by rw[j];exact f q p).trans j⟩
def ar.ES{t a:TypeId}{w w':au}{g:Nat}{l:List Value}(h:ar w g a l)(k:fE i t w w')(c:g∉i)(b:a≠t):ar w' g a l:=(k.block g h.lt c fun f d e=>by unfold ar at h;rw[h] at e;injection e with e;injection e with _ e;exact b e).trans h
def kZ.ES{t:TypeId}{w w':au}{fx:Nat->Option aF}(h:kZ w a fx)(k:fE i t w w')(f:a∉i):kZ w' a fx:=h.same (k.block a h.lt f fun p j e=>by obtain⟨_,_,⟨D,⟨o,c,d,_⟩,_⟩,_⟩:=h;rw[d] at e;injection e with e;cases e)
def acl{t:aM}:∀{l:List Nat} {k:List aM} {fx:Nat->Option aM} (h:k.length<l.length),eO fx l (k++ [t])=fC (eO fx l k) l[k.length] t
 | [],_,_,h=>absurd h (Ot _)
 |a::l,[],fx,_=>by cases l<;>rfl
 |a::l,y::k,fx,h=>by
  show eO (fC fx a y) l (k++ [t])=_
  rw[acl azd];rfl
abbrev Qn:TypeId:=166
structure JJ(x:aQ)(D:List (List Rw))(jb pb ob:Nat)(attrs:List Nat)(Aa:aS)(ca b2 b3 b4 b5:Nat)(vf:FuncId)(v1 v2 v3 v4 v5:Value)(I:List (List aF)->World->Prop)(Wg:au):Prop where
 ok:cF x
 hD:jD x D
 a6:x.aq.length<=6
 r6:x.aA.length<=6
 ne:jb≠pb
 hI:∀done W,I done W->fE [pb,ob] eT Wg W
 hK:∀done W W',I done W->fE [pb,ob] eT W W'->∀t,t≠lh->t≠eT->Kept t W W'
 hS:∀done W W',I done W->a7 [pb] W W'->dF x pb W'->I done W'
 hJ:∀done W,I done W->dF x pb W
 hB:∀done W,I done W->gJ x (aX x D) jb pb W
 hA:∀done W,I done W->IL W (.slice Aa attrs.length ca) (ints attrs)
 iv:∀args w,(callFunc vf args).run prog w= .ok (.enter vf args) w
 hv:∀done k b W A c,I done W->kZ W b (eO (fun _=>none) attrs k)->Wg.heap.size<=b->k.length=attrs.length->done.length<2000->TL W (.slice A k.length c) k->
  Calls prog vf #[.slice A k.length c,.map (some b),v1,v2,v3,v4,v5] W fun e w'=>e= .returned (.bool true)/\I (done++ [k]) w'/\fE [pb,ob] eT W w'
 c2:ar Wg b2 22 [.slice Aa attrs.length ca]
 c3:ar Wg b3 Qn [.func (.func vf) #[] #[v1,v2,v3,v4,v5]]
 c4:ar Wg b4 90 [aJ jb 0]
 c5:ar Wg b5 Qn [.func (.func 149) #[] #[aJ b2 0,aJ b3 0,aJ b4 0,aJ b5 0]]
 lb:b2<Wg.heap.size/\b3<Wg.heap.size/\b4<Wg.heap.size/\b5<Wg.heap.size
 nb:(b2≠pb/\b2≠ob)/\(b3≠pb/\b3≠ob)/\(b4≠pb/\b4≠ob)/\b5≠pb/\b5≠ob
 lo:pb<Wg.heap.size/\ob<Wg.heap.size
 nd:attrs.Nodup
 lt:∀a∈attrs,a<x.aq.length
 le:attrs.length<=4
section
variable{x:aQ}{D:List (List Rw)}{jb pb ob:Nat}{attrs:List Nat}{Aa:aS}{ca b2 b3 b4 b5:Nat}{vf:FuncId}{v1 v2 v3 v4 v5:Value}{I:List (List aF)->World->Prop}{Wg:au}
theorem JJ.cells(h:JJ x D jb pb ob attrs Aa ca b2 b3 b4 b5 vf v1 v2 v3 v4 v5 I Wg)(k:fE [pb,ob] eT Wg o):ay o b2 0 (.slice Aa attrs.length ca)/\ay o b3 0 (.func (.func vf) #[] #[v1,v2,v3,v4,v5])/\ay o b4 0 (aJ jb 0)/\
 ay o b5 0 (.func (.func 149) #[] #[aJ b2 0,aJ b3 0,aJ b4 0,aJ b5 0]):=by
 obtain⟨s,r,q,p⟩:=h.lb;obtain⟨⟨j,i⟩,⟨f,e⟩,⟨d,c⟩,b,a⟩:=h.nb;exact⟨(h.c2.ES k (by simp [j,i]) Od).cell rfl,(h.c3.ES k (by simp [f,e]) Od).cell rfl,(h.c4.ES k (by simp [d,c]) Od).cell rfl,(h.c5.ES k (by simp [b,a]) Od).cell rfl⟩
def QG(x:aQ)(D:List (List Rw))(pb ob:Nat)(attrs:List Nat)(b2 b3 b4 b5:Nat)(I:List (List aF)->World->Prop)(Wg:au)(a:List aF):Prop:=∀done b W A c,I done W->kZ W b (eO (fun _=>none) attrs a)->Wg.heap.size<=b->TL W (.slice A a.length c) a->
 done.length+(iD (eQ x D) (attrs.drop a.length) (eO (fun _=>none) attrs a)).length<=2000->
 Calls prog 149 #[.slice A a.length c,.map (some b),aJ b2 0,aJ b3 0,aJ b4 0,aJ b5 0] W fun e w'=>e= .returned (.bool true)/\I (done++(iD (eQ x D) (attrs.drop a.length) (eO (fun _=>none) attrs a)).map fun q=>a++q) w'/\fE [pb,ob] eT W w'
theorem akW(h:JJ x D jb pb ob attrs Aa ca b2 b3 b4 b5 vf v1 v2 v3 v4 v5 I Wg){a:List aF}(P:a.length=attrs.length):QG x D pb ob attrs b2 b3 b4 b5 I Wg a:=by
 intro done b W A c hI hF hb hT i;have hd:attrs.drop a.length= []:=Dw Om;have z:iD (eQ x D) (attrs.drop a.length) (eO (fun _=>none) attrs a)= [[]]:=by rw[hd];rfl
 rw[z] at i⊢;have e0:([[]]:List (List aF)).map (fun q=>a++q)= [a]:=Ou;rw[e0];have f:done.length<2000:=by have h1:done.length+1<=2000:=i;omega
 have J:=af h;have hW:=h.hI done W hI;obtain⟨d2,d3,d4,d5⟩:=h.cells hW;have a4:=h.le;have Mm:=h.iv;have V:=af (fun d (j:Ext W d)=>ab_ A a.length c a d (cQ hT j) Om);have U:=af (fun d X Q (j:Ext W d) (F:TL d (.slice X a.length Q) a)=>h.hv done a b d X Q (h.hS done W d hI (.ij j) ((h.hJ done W hI).ext j)) (hF.same (j.block _ hF.lt)) hb P f F);rw[P] at V U⊢;go_enter func149,ntmps149;go_upto_region 2 with fail
 refine b9 (S:=fun w'=>ay w' b3 0 (.func (.func vf) #[] #[v1,v2,v3,v4,v5])) (T:=fun _=>false) Ok ?_;have bL:ah (∀w':World,ay w' b3 0 (.func (.func vf) #[] #[v1,v2,v3,v4,v5])->ay w' b3 0 (.func (.func vf) #[] #[v1,v2,v3,v4,v5])):=fun _ h=>h;have aH:ah (ay W.drew b3 0 (.func (.func vf) #[] #[v1,v2,v3,v4,v5])):=d3;have R:=af (aC W).drew;have y:b3<W.drew.heap.size:=cE J.lb.2.1 hW.size;generalize W.drew=Y at*;refine ax 0 17 ?_;refine ax 1 18 ?_;refine ax 3 20 ?_;have N:=af (V Y R);refine aL 2 ?_;intro K G;go_simp;refine N.mono ?_;rintro e3 O ⟨A3,c3,rfl,E,e⟩;have bB:ah (ay O b3 0 (.func (.func vf) #[] #[v1,v2,v3,v4,v5])):=(e.cell (p:=aB b3 0) y).trans aH.ae;have r:=af (R.trans e);have M:=af (U O A3 c3 r E);refine G.ae _ _ (fun _=>bB.ae) ?_;refine aL 4 ?_;intro K G;go_simp;refine M.mono ?_;rintro e4 Z ⟨rfl,o,C⟩;have H:=af o;have L:=af ((fE.of (ig r)).trans C);have s:=J.hI _ Z o;have aH:=af ((J.cells s).2.1);refine G.ae _ _ (fun _=>aH.ae) ?_;refine ax 5 8 ?_;refine bY Ok ?_;go_wp2_with fail
 exact bodyPost_ret (by simp [results,results149,go_sem]) rfl ⟨rfl,H,L⟩
theorem ack:∀{l:List Nat} {k:List aM} {fx:Nat->Option aM},eO fx l k=eO fx (l.take k.length) k
 | [],k,fx=>by rw[List.take_nil]
 |a::l,[],fx=>by rw[vU,kH];rfl
 |a::l,y::k,fx=>by
  rw[cW,Th];show eO (fC fx a y) l k=eO (fC fx a y) (l.take k.length) k
  exact ack
theorem abY{b:(Nat->Option aM)->Nat->List aM}{l:List Nat}{fx:Nat->Option aM}:iD b (a::l) fx=(b fx a).flatMap fun x=>(iD b l (fC fx a x)).map fun k=>x::k:=rfl
theorem ab5{α β:Type}{f:α->List β}{l:List α}{k:Nat}(a:k<l.length):(l.take (k+1)).flatMap f=(l.take k).flatMap f++f l[k]:=by rw[g9 a,GF,vP,aaI,kG]
theorem an3{α β:Type}{f:α->List β}(l:List α)(k:Nat):((l.take k).flatMap f).length<=(l.flatMap f).length:=by have h:=congrArg (fun l=>(l.flatMap f).length) (sQ k l);simp only[GF,bC] at h;omega
theorem adQ{w:au}{B B' k n:Nat}{t:TypeId}{v:Value}{xs:List Value}(h:w.ownsRow B t k v n xs)(i:B'<=B):w.ownsRow B' t k v n xs:=by
 obtain⟨d,a⟩:=h;rcases a with a|⟨g,c,b,e,f,j⟩
 ·exact⟨d,.inl a⟩
 ·exact⟨d,.inr ⟨g,c,b,e,a8 i f,j⟩⟩
def LN(l:Bool)(B n:Nat)(xs:List Value)(v:Value)(w:au):Prop:=l=true->w.ownsRow B bI 1 v n xs
def LO(l:Bool)(g:Nat)(t:aF)(w:au):Prop:=l=true->ar w g bI [aO t]
def QH(B n:Nat)(xs:List Value)(v:Value)(w:au):Prop:=w.ownsRow B bI 1 v n xs
def FxQ(B g:Nat)(fx:Nat->Option aF)(w:au):Prop:=kZ w g fx/\B<=g
section
variable{w w':au}{l:Bool}{B B' k n m g:Nat}{xs ys:List Value}{v u:Value}{t:aF}{fx:Nat->Option aF}{tt:TypeId}
theorem LN.ext(h:LN l B n xs v w)(k:Ext w w'):LN l B n xs v w':=fun e=>En (h e) k
theorem LO.ext(h:LO l g t w)(k:Ext w w'):LO l g t w':=fun e=>(h e).ext k
theorem QH.ext(h:QH B n xs v w)(k:Ext w w'):QH B n xs v w':=En h k
end
theorem arE{w:au}{B:Nat}{b:List aF}{t:aF}(h:w.ownsRow B bI 1 (.slice E (b.length+1) a) (b.length+1) (b.map encStr++ [aO t])):TL w (.slice E (b++ [t]).length a) (b++ [t]):=by
 have e:b.length+1=(b++ [t]).length:=aAt;rw[e] at h;refine D5 h ?_;clear h e;induction b with
 |nil=>exact⟨[aO t],[],rfl,rfl,rfl⟩
 |cons s b d=>exact⟨[encStr s],b.map encStr++ [aO t],rfl,rfl,d⟩
theorem akV(h:JJ x D jb pb ob attrs Aa ca b2 b3 b4 b5 vf v1 v2 v3 v4 v5 I Wg){kp:List aF}(Z:kp.length<attrs.length)(ih:∀t,QG x D pb ob attrs b2 b3 b4 b5 I Wg (kp++ [t])):QG x D pb ob attrs b2 b3 b4 b5 I Wg kp:=by
 intro done b W A c hI hF hb hT P;have hda:=i6 Z;have I7:=h.lt _ (aZ Z);have J:eO (fun _=>none) attrs kp attrs[kp.length]=none:=by rw[ack];refine amy (fun hm=> ?_) rfl;obtain⟨j,hj,e⟩:=ju hm;rw[GI] at e;rw[cP] at hj;have:=(List.getElem_inj h.nd).1 e;omega
 have hac:attrs[kp.length]<100:=by have:=h.a6;omega
 have N:=af (fun t=>acl (t:=t) (fx:=fun _=>none) Z);rw[hda,abY] at P⊢;have HE:=af h;have hW:=h.hI done W hI;obtain⟨d2,d3,d4,d5⟩:=h.cells hW;obtain⟨gA,oA,hAa,hcA⟩:=nK (h.hA done W hI) Z (jL aU W);subst hAa;have a4:=h.le;have CO:=af (aqM jb pb x D h.ok h.hD h.a6 h.r6 attrs[kp.length] I7 (some b) (eO (fun _=>none) attrs kp) J W (h.hB done W hI) (h.hJ done W hI) h.ne (fun C hc=>NL.look (hF.same (hc.block b hF.lt (by have:=h.lo;simp;omega))).fxM));have U:=af hI;have HF:=af hF;have hdk:((kp.length:Int)==(attrs.length:Int))=false:=beq_eq_false_iff_ne.2 Om;have nu:=(bE (h.hA done W hI)).2;have HIH:ah (∀t done b W A c,I done W->kZ W b (fC (eO (fun _=>none) attrs kp) attrs[kp.length] t)->Wg.heap.size<=b->TL W (.slice A (kp++ [t]).length c) (kp++ [t])->done.length+(iD (eQ x D) (attrs.drop (kp.length+1)) (fC (eO (fun _=>none) attrs kp) attrs[kp.length] t)).length<=2000->
  Calls prog 149 #[.slice A (kp++ [t]).length c,.map (some b),aJ b2 0,aJ b3 0,aJ b4 0,aJ b5 0] W fun e w'=>e= .returned (.bool true)/\I (done++(iD (eQ x D) (attrs.drop (kp.length+1)) (fC (eO (fun _=>none) attrs kp) attrs[kp.length] t)).map fun q=>(kp++ [t])++q) w'/\fE [pb,ob] eT W w'):=by
  intro t done b W A c h1 h2 h3 h4 h5;have h6:=ih t done b W A c h1 (by rw[N.ae t];exact h2) h3 h4 (by rw[N.ae t,bC];exact h5);rw[N.ae t] at h6;have e:attrs.drop (kp++ [t]).length=attrs.drop (kp.length+1):=aAt;rw[e] at h6;exact h6
 have ax_:kp.length<=4:=Om;obtain⟨-,hTc,hTA,xs,hTs,Q⟩:=adX hT;have hxs:=Wt Q;subst hxs;have CL:=af (fun C (hs:Sl C bI A (kp.map encStr))=>ab' A kp.length c (kp.map encStr) C hTA hs (by rw[cy,l8]) hTc (fun u hu=>by obtain⟨s,_,rfl⟩:=dH.1 hu;rfl) Om)
 have M4:=af hTs;generalize eO (fun _=>none) attrs kp=fx at*;generalize attrs.drop (kp.length+1)=R at*;generalize attrs[kp.length]=a at*;generalize eQ x D fx a=d at*;obtain⟨G,hG⟩:∃G:aF->List (List aF),G=fun t=>((iD (eQ x D) R (fC fx a t)).map fun q=>t::q).map fun q=>kp++q:=⟨_,rfl⟩;have hGL:(d.flatMap G).length=(d.flatMap fun y=>(iD (eQ x D) R (fC fx a y)).map fun k=>y::k).length:=(by rw[hG,<-List.map_flatMap,cy])
 have HGE:ah ((d.flatMap fun y=>(iD (eQ x D) R (fC fx a y)).map fun k=>y::k).map (fun q=>kp++q)=d.flatMap G):=by rw[ah,hG,List.map_flatMap]
 rw[<-hGL] at P;rw[HGE.ae];have HGT:ah (∀t,(iD (eQ x D) R (fC fx a t)).map (fun q=>(kp++ [t])++q)=G t):=fun t=>by rw[hG];simp only[G9];refine qE fun q _=> ?_;simp
 have HGN:ah (∀t,(iD (eQ x D) R (fC fx a t)).length=(G t).length):=fun t=>by rw[hG];simp
 go_enter func149,ntmps149;go_wp2_with fail;refine CO.mono ?_;rintro e1 F ⟨A1,c1,rfl,IZ,kA,hb1,Fp,M⟩;have Fj:=HE.lo;have hWs:=hW.size;have axY:d.length<=9223372036854775807:=by unfold maxLen at kA;omega
 have O:ah (fE [pb,ob] eT W F):= .of<|M.mono fun i hi _=>by simp only[aI,bF,or_false] at hi⊢;omega
 have zC:ah (I (done++(d.take 0).flatMap G) F):=(by rw[ah,kH,aaI,kG];exact HE.hS done W F U M Fp);have SF:=af hb1;have HCr:ah (fE [pb,ob] eT F F):= .of (.ij (aC F));have axS:=M.size;go_upto_region 5 with fail
 go_loopw [11,32] (fun _ H wr=>∃k:Nat,k<=d.length/\H=av k/\ah (I (done++(d.take k).flatMap G) wr)/\ah (fE [pb,ob] eT F wr)) (fun _ H _=>d.length - (RowKit.intOf H).toNat)
 exact⟨0,aT _,rfl,zC,HCr⟩;obtain⟨k,Cg,rfl,HI,HC⟩:=hrel;by_cases r:k<d.length
 ·obtain⟨g,rest,kT,tZ,t_⟩:=SF (fun e=>by rw[e] at r;exact absurd r (Ot _));subst kT;have RJ:=t_.ES HC ay0 Od;have L:(d.map encStr++rest)[k]?=some (aO d[k]):=(by rw[pC (by rw[cy];exact r),dY,aV r];rfl)
  have e3:=RJ.cell L;have fp:ah (done++(d.take (k+1)).flatMap G=(done++(d.take k).flatMap G)++G d[k]):=by rw[ah,ab5 r,iB]
  have Xv:(done++(d.take k).flatMap G).length+(G d[k]).length<=2000:=(by have h1:=an3 (f:=G) d (k+1);rw[ab5 r,bC] at h1;rw[bC];omega);have I8:=HE.hI _ wr HI;obtain⟨d2,d3,d4,d5⟩:=HE.cells I8;have HKS:=af (HE.hK done W wr U (O.trans HC) bI Od Od);have V:ah (kZ wr b fx):=HF.ES (O.trans HC) (by simp only[aI,bF,or_false];have:=HF.lt;omega);generalize d[k]=t at*;generalize done++(d.take k).flatMap G=dn at*;have X:=af (fun C (hX:Ext wr C)=>CL C ((M4.keep HKS).ext hX));have CWr:=af (fun C (hX:Ext wr C)=>aok b a t fx C (V.same (hX.block b V.lt)) hac);go_upto_region 7 with fail
  have bL:ah (∀w':World,ay w' b5 0 (.func (.func 149) #[] #[aJ b2 0,aJ b3 0,aJ b4 0,aJ b5 0])->ay w' b5 0 (.func (.func 149) #[] #[aJ b2 0,aJ b3 0,aJ b4 0,aJ b5 0])):=fun _ h=>h;have Y3:=cE HE.lb.2.2.2 I8.size;have bU:ah (∀w':World,Ext wr w'->ay w' b5 0 (.func (.func 149) #[] #[aJ b2 0,aJ b3 0,aJ b4 0,aJ b5 0])):=fun w' h=>(h.cell Y3).trans d5;have aH:=af (bU _ (aC wr).drew);refine b9 (S:=fun w'=>ay w' b5 0 (.func (.func 149) #[] #[aJ b2 0,aJ b3 0,aJ b4 0,aJ b5 0])) (T:=fun _=>false) Ok ?_;have HX:=af (aC wr).drew;generalize wr.drew=wd at*;refine ax 0 36 ?_;refine ax 1 37 ?_;refine ax 3 39 ?_;refine ax 6 42 ?_;refine ax 7 43 ?_;refine ax 8 44 ?_;have cK:(kp.length+1)*16<=140737488355328:=Om;refine KO 2 4 Ok ?_ ?_
  ·intro o ho K hK;simp only[fU,eB,dR,dG] at ho;subst ho;go_simp;refine(X _ HX).mono ?_;rintro eC wC ⟨vC,rfl,z,p⟩;have HO:ah (LN true wr.heap.size kp.length (kp.map encStr) vC wC):=fun _=>adQ z HX.size;have HX:=af (HX.trans p);clear z p;refine hK.ae _ _ (fun _=>bU _ HX) ?_;clear hK;refine iO 4 Ok ?_;intro o ho K hK;simp only[fU,eB,dR,dG] at ho;subst ho;go_simp;refine hK.ae _ _ (fun _=>bU _ (HX.alloc _)) ?_;refine aP fun WZ E Y=> ?_;have HO:=af (HO.ext (E.ae));have BN:ah (LO true _ t WZ):=fun _=>Y.ae;have HX:=af (HX.trans E);clear hK Y;exact m12
  ·intro o ho K hK;simp only[fU,eB,dR,dG] at ho;subst ho;go_simp;refine hK.ae _ _ (fun _=>bU _ (HX.alloc _)) ?_;refine aP fun WZ E Y=> ?_;have BN:ah (LO true _ t WZ):=fun _=>Y.ae;have HX:=af (HX.trans E);clear hK Y;refine iO 2 Ok ?_;intro o ho K hK;simp only[fU,eB,dR,dG] at ho;subst ho;go_simp;refine(X _ HX).mono ?_;rintro eC wC ⟨vC,rfl,z,p⟩;have HO:ah (LN true wr.heap.size kp.length (kp.map encStr) vC wC):=fun _=>adQ z HX.size;have BN:=af (BN.ext (p));have HX:=af (HX.trans p);clear z p;refine hK.ae _ _ (fun _=>bU _ HX) ?_;clear hK;exact m12
 ·obtain rfl:k=d.length:=Om;have d1:=aW;have HIf:ah (I (done++d.flatMap G) wr):=(by have h:=HI.ae;rwa[f9] at h)
  have Dm:=af (O.trans HC);go_wp2_with fail;exact bodyPost_ret (by simp [results,results149,go_sem]) rfl ⟨rfl,HIf,Dm⟩
theorem aca(h:JJ x D jb pb ob attrs Aa ca b2 b3 b4 b5 vf v1 v2 v3 v4 v5 I Wg):∀(n:Nat) (a:List aF),a.length+n=attrs.length->QG x D pb ob attrs b2 b3 b4 b5 I Wg a
 |0,_,e=>akW h Om
 |n+1,a,e=>akV h Om fun t=>aca h n (a++ [t]) (by rw[bC];simp;omega)
end
structure GrC(x:aQ)(D:List (List Rw))(jb pb ob:Nat)(attrs:List Nat)(Aa:aS)(ca:Nat)(vf:FuncId)(v1 v2 v3 v4 v5:Value)(I:List (List aF)->World->Prop)(w:au):Prop where
 ok:cF x
 hD:jD x D
 a6:x.aq.length<=6
 r6:x.aA.length<=6
 ne:jb≠pb
 h0:∀W,a7 [pb] w W->dF x pb W->I [] W
 hK:∀done W W',I done W->fE [pb,ob] eT W W'->∀t,t≠lh->t≠eT->Kept t W W'
 hS:∀done W W',I done W->a7 [pb] W W'->dF x pb W'->I done W'
 hJ:∀done W,I done W->dF x pb W
 hB:∀done W,I done W->gJ x (aX x D) jb pb W
 hA:∀done W,I done W->IL W (.slice Aa attrs.length ca) (ints attrs)
 iv:∀args w,(callFunc vf args).run prog w= .ok (.enter vf args) w
 hv:∀done k b W A c,I done W->kZ W b (eO (fun _=>none) attrs k)->w.heap.size<=b->k.length=attrs.length->done.length<2000->TL W (.slice A k.length c) k->
  Calls prog vf #[.slice A k.length c,.map (some b),v1,v2,v3,v4,v5] W fun e w'=>e= .returned (.bool true)/\I (done++ [k]) w'/\fE [pb,ob] eT W w'
 lo:pb<w.heap.size/\ob<w.heap.size
 nd:attrs.Nodup
 lt:∀a∈attrs,a<x.aq.length
 le:attrs.length<=4
def ar.XG{w:au}{c:TypeId}(h:ar w a c t)(k:a7 i w m)(e:∀b∈i,b≠a):ar m a c t:=h.bP k fun d=>e a d rfl
section
variable{x:aQ}{D:List (List Rw)}{jb pb ob:Nat}{attrs:List Nat}{Aa:aS}{ca:Nat}{vf:FuncId}{v1 v2 v3 v4 v5:Value}{I:List (List aF)->World->Prop}{w:au}
theorem GrC.enter(h:GrC x D jb pb ob attrs Aa ca vf v1 v2 v3 v4 v5 I w){b2 b3 b4 b5:Nat}(k:a7 [pb] w m)(L:w.heap.size<=b2)(K:w.heap.size<=b3)(J:w.heap.size<=b4)(H:w.heap.size<=b5)
 (C:ar m b2 22 [.slice Aa attrs.length ca]) (B:ar m b3 Qn [.func (.func vf) #[] #[v1,v2,v3,v4,v5]]) (z:ar m b4 90 [aJ jb 0])
 (y:ar m b5 Qn [.func (.func 149) #[] #[aJ b2 0,aJ b3 0,aJ b4 0,aJ b5 0]])
 (p:b2<m.heap.size) (o:b3<m.heap.size) (n:b4<m.heap.size) (l:b5<m.heap.size):
 JJ x D jb pb ob attrs Aa ca b2 b3 b4 b5 vf v1 v2 v3 v4 v5 (fun done W=>I done W/\fE [pb,ob] eT m W) m:=by
 obtain⟨G,F⟩:=h.lo;have f:=k.size;refine⟨h.ok,h.hD,h.a6,h.r6,h.ne,fun _ _ q=>q.2,fun d W g q r=>h.hK d W g q.1 r,fun d W g q r s=>⟨h.hS d W g q.1 r s,q.2.trans (.of (r.mono fun i j _=> ?_))⟩,fun d W q=>h.hJ d W q.1,fun d W q=>h.hB d W q.1,fun d W q=>h.hA d W q.1,h.iv,fun d k b W A c q r s t u v=> ?_,C,B,z,y,⟨p,o,n,l⟩,?_,⟨by omega,by omega⟩,h.nd,h.lt,h.le⟩
 ·simp only[aI,bF,or_false] at j⊢;exact .inl j
 ·refine(h.hv d k b W A c q.1 r (a8 f s) t u v).mono ?_;rintro e E ⟨rfl,a,b⟩;exact⟨rfl,⟨a,q.2.trans b⟩,b⟩
 ·exact⟨⟨by omega,by omega⟩,⟨by omega,by omega⟩,⟨by omega,by omega⟩,by omega,by omega⟩
theorem ar.gp{w:au}{t:TypeId}(h:ar w a t [p])(u:Value):∃b,w.setCell (aB a 0) u=b/\ar b a t [u]/\Only a w b:=⟨_,rfl,h.bu 0 u,(ii a w).bu 0 u⟩
theorem U6{f:Nat->Option aF}:eO f i []=f:=by cases i<;>rfl
theorem al0(h:GrC x D jb pb ob attrs Aa ca vf v1 v2 v3 v4 v5 I w)(hB:gJ x (aX x D) jb pb w)(hM:dF x pb w)(H:(iD (eQ x D) attrs fun _=>none).length<=2000):
 Calls prog 79 #[aJ jb 0,.slice Aa attrs.length ca,.func (.func vf) #[] #[v1,v2,v3,v4,v5]] w fun e Y=>e= .returned (.tuple #[])/\(j6 x D (fun _=>none)->I (iD (eQ x D) attrs fun _=>none) Y)/\(¬j6 x D (fun _=>none)->I [] Y)/\fE [pb,ob] eT w Y:=by
 have X:=af h;have CA:=af (fun W (M:Ext w W)=>adh jb pb x D h.ok h.hD h.a6 h.r6 (-1) none (fun _=>none) W (hB.ext M) (hM.ext M) h.ne Om Om (fun W2 _=>vL.nil W2));have HL:=af H;obtain⟨lp,lo⟩:=h.lo;clear hB hM h H;go_enter func79,ntmps79;go_upto_region 1 with fail
 refine sf fun W V B4 B2 B3=> ?_;have hb3:=B3.lt;have b40:=B4.aD 0;have NP:=af (CA W V);go_wp2_with fail
 refine NP.mono ?_;rintro e1 T ⟨p,d,wl,w0,cs,xb,nb,Z,kb,rfl,F,k,z5,z6,hr,C,Q8,⟨s1,s2,s3,s4⟩,G,L⟩;have HT:=af (acb F z6 rfl z5 rfl _ _ k);have HU:=af (fun(u:Value) (U:u=Value.bool _)=>(⟨_,acn X.ok hr C,U⟩:∃tv:Bool,(tv=true↔j6 x D fun _=>none)/\u=Value.bool tv));have S:=af G;have kf:=af L;have IZ:nb<T.heap.size/\Z<T.heap.size/\kb<T.heap.size:=⟨k.st.nc.lt,k.st.sc.lt,k.mem.lt⟩;clear F k z5 z6 hr C Q8 G L b40;go_wp2_with fail
 refine HT.mono ?_;rintro e2 o ⟨u,ayV,rfl,U,j,m⟩;have m:a7 [nb,Z,kb] T o:=m;obtain⟨tv,E,hut⟩:=HU u U;subst hut;have R:ah (dF x pb o):=S.keep (m.block _ S.lt ay0) j.k1 j.k2;have f:ah (a7 [pb] W o):=(kf.mono (S':= [pb,nb,Z,kb]) fun i a _=>by simp only[aI,bF,or_false] at a⊢;omega).trans (m.mono fun i a _=>by simp only[aI,bF,or_false] at a⊢;omega)|>.mono fun i a hl=>by simp only[aI,bF,or_false] at a⊢;omega
 have Q:=af E;clear IZ U j m E;cases tv with
 |false=>
  have hI:=X.h0 o ((ig V).trans f.ae) R;have HF:=af hI;have y:ah (fE [pb,ob] eT w o):= .of<|((ig V).trans f.ae).mono fun i a _=>by simp only[aI,bF,or_false] at a⊢;omega
  clear hI;go_wp2_with fail;exact bodyPost_ret (v:= .tuple #[]) (by simp [results,results79,go_sem]) rfl ⟨rfl,fun ht=>absurd (Q.2 ht) Ou,fun _=>HF.ae,y⟩
 |true=>
  have yz:=f.size;have Q4:=af (B4.XG f azk);have Q2:=af (B2.XG f azk);have Q3:=af (B3.XG f azk);go_upto_region 3 with fail
  refine aP fun W5 g B=> ?_;have Cb:=g.size;have o8:=B.lt;have f5:=B.frozen 0;generalize sG:o.heap.size=b5 at*;have p5:=B.aD 0;obtain⟨n,N,P,r⟩:=B.gp (.func (.func 149) #[] #[aJ (w.heap.size+1) 0,aJ (w.heap.size+1+1) 0,aJ w.heap.size 0,aJ b5 0]);have ZV:=af N;have A:=af P;have c:=af r;have Fb:=r.size;clear N P r;go_upto_region 4 with fail
  rw[ZV.ae];have h52:o.heap.size<=b5:=Om;have z:ah (a7 [pb] w n):=((((ig V).trans f.ae).ext g.ae).only c.ae (.inr Om));have k4:=(Q4.ext g).only c.ae Om;have k2:=(Q2.ext g).only c.ae Om;have k3:=(Q3.ext g).only c.ae Om;have c5:=A.aD 0;have l5:=A.lt;have hE:=X.enter z (b2:=w.heap.size+1) (b3:=w.heap.size+1+1) (b4:=w.heap.size) (b5:=b5) Om Om Om Om k2 k3 k4 A Om Om Om l5;have s:dF x pb n:=(R.ext g).keep (c.block pb Om Oc) (wn c B Od) (wn c B Od);have O:=X.h0 n z s;have CC:=af (fun W b (M:Ext n W) (hF:kZ W b fun _=>none) (hb:n.heap.size<=b)=>aca hE attrs.length [] Ou [] b W none 0 (hE.hS [] n W ⟨O,.of (.ij (aC _))⟩ (.ij M) (s.ext M)) (by rw[U6];exact hF) hb Ls.nil (by rw[U6];simpa using HL.ae));clear k2 k3 k4 hE s O p5 f5 B;have hmm:= @run_makeMap prog;have CC2:=af (CC (n.alloc (.map #[] 0)) n.heap.size ((aC n).alloc _) ⟨_,_,KB n aU,fun l hl=>(by cases hl),fun v hv=>rfl⟩ (aK _));go_wp2_with fail
  refine CC2.mono ?_;rintro e7 w7 ⟨rfl,⟨t,K⟩, -⟩;have J:(iD (eQ x D) (attrs.drop ([]:List aF).length) (eO (fun _=>none) attrs [])).map (fun q=>([]:List aF)++q)=iD (eQ x D) attrs fun _=>none:=by rw[U6];exact List.map_id' _
  rw[vR,J] at t;have zB:=af t;have y:ah (fE [pb,ob] eT w w7):=(fE.of (z.mono fun i a _=>by simp only[aI,bF,or_false] at a⊢;omega)).trans K;clear t K J;go_wp2_with fail
  exact bodyPost_end (results_none rfl _ _ _) rfl ⟨rfl,fun _=>zB.ae,fun hn=>absurd (Q.1 trivial) hn,y⟩
end
noncomputable def af9(s r:Nat)(o:FuncId)(g:Nat->aF->Rat)(n:Nat->Option aF)(j:Option Nat)(x:aQ)(D:List (List Rw))(p:Nat->Option Nat)(d:Nat->Nat)(c:List Nat)(f e:au)(q:List Value)(b m i h l:Nat):Pw Rat:=
 Ym gm b_ (iL s r) (fun k=>(k:Rat)) (fun a=>a==0) 75 76 77 74 o g n (.map j) x D p d c f e q 281 b m i h l
def aqv(o a:Nat)(x:aQ)(D:List (List Rw))(ok:cF x)(hD:jD x D)(a6:x.aq.length<=6)(r6:x.aA.length<=6)(DD MM:Nat)(yZ:0<DD)(yY:1000000*DD<=MM)(yX:MM<10^100)(J:Option Nat)(Z:Nat->Option aF)(g:Nat->aF->Rat)(E:FuncId)(K:Value)
 (z0:Bool) (Z0:aS) (z1 z2:Nat) (y0:Bool) (Y0:aS) (y1 y2:Nat) (o0:Bool) (O0:aS) (o1 o2:Nat) (q0:Bool) (Q0:aS) (q1 q2:Nat) (w:au) (hB:gJ x (aX x D) o a w) (hM:dF x a w) (O:o≠a) (S:∀W,a7 [a] w W->vL W (.map J) Z)
 (hz:b_ w (.agg #[.bool z0,.slice Z0 z1 z2,.bool y0,.slice Y0 y1 y2]) 0) (ho:b_ w (.agg #[.bool o0,.slice O0 o1 o2,.bool q0,.slice Q0 q1 q2]) 1) (hg:∀v t,dt Z v t=false->g v t=0) (gg:∀v t,v<x.aq.length->t∈univ (aX x D)->iL DD MM 1 1 (g v t)) (il:∀F w,(callFunc E F).run prog w= .ok (.enter E F) w)
 (lift:∀W,a7 [a] w W->∀v t,v<x.aq.length->Iu x (aX x D) v t->dt Z v t=true->Calls prog E #[av v,aO t,K] W fun e I=>∃u,e= .returned u/\b_ I u (g v t)/\Ext W I):
 Calls prog 81 #[aJ o 0,.map J,.agg #[.bool z0,.slice Z0 z1 z2,.bool y0,.slice Y0 y1 y2,.bool o0,.slice O0 o1 o2,.bool q0,.slice Q0 q1 q2,.func (.func 75) #[] #[],.func (.func 76) #[] #[],.func (.func 77) #[] #[]],.func (.func E) #[] #[K],.func (.func 74) #[] #[]] w fun e I=>
  ∃u p d,e= .returned u/\dp x.aq.length p d/\Whole x.aq.length (bJ x) (bV x) (eF x.aq.length p (gD x d) x.aq.length none)/\b_ I u (gm.prod (kids x.aq.length p none) fun c=>vT gm x (aX x D) p (gD x d) g (fun k=>(k:Rat)) (univ (aX x D)) c fun _=> [])/\dF x a I/\a7 [a] w I:=by
 have HF:=af S;have H:=af hM;have HBw:=af hB;have HZ:=af hz;have HO:=af ho;have HL:=af lift;have zD:=af gg;have HG:=af hg;have d_:=af il;have CS:=af (fun W (T:Ext w W)=>al3 o a x (aX x D) ok (-1) J z0 Z0 z1 z2 y0 Y0 y1 y2 o0 O0 o1 o2 q0 Q0 q1 q2 75 76 77 E 74 #[K] W (hB.ext T) (hM.ext T) O Om Om);clear S hB hM hz ho lift gg hg il;go_enter func81,ntmps81;go_upto_region 1 with fail
 refine fX fun W HX m BT=> ?_;have cK:=BT.lt;have r0:=m.aD 0;have r1:=m.aD 1;have r2:=m.aD 2;have r3:=m.aD 3;have r4:=m.aD 4;have r5:=m.aD 5;have r6:=m.aD 6;have r7:=m.aD 7;have r8:=m.aD 8;have r9:=m.aD 9;have Yi:=m.aD 10;have CS1:=af (CS W HX);have hpl:=H.lt;generalize wT:w.heap.size=rb at*;go_wp2_with fail
 refine CS1.mono ?_;rintro e2 n ⟨xb,z,s,A,p0,p1,p2,p3,rfl,T,hP,hN,hS,hK,⟨s1,s2,s3,s4⟩,⟨n1,n2,n3⟩,P,q⟩;clear r0 r1 r2 r3 r4 r5 r6 r7 r8 r9 Yi;have hsz:=HX.size;have HC:ah (a7 [a] w n):=(ig HX).trans q;have zO:=af (BT.bP q ay0);obtain⟨h,hE,G,r,X,V⟩:=ae7 H HC;obtain⟨y,d,wl,t1,t2,t3,t4,cb,L,hb,A6,c6,t5,t6,t7,t8,t9⟩:=hP;injection t5 with t5;injection t5 with t5;injection t5 with e0 t5;injection t5 with e1 t5;injection t5 with e2 t5;injection t5 with e3 _;subst e0 e1 e2 e3;have U:gJ x (aX x D) o a h:=HBw.keep (X o O) V;have Y:=afs ok hD U;have C:z≠A:=KR hN hK;have B:s≠A:=KR hS hK;have N:ji (af9 DD MM E g Z J x D (nN x y) d wl h n [aJ o 0,aG cb 0 (x.aq.length+1) (x.aq.length+1),aG L 0 x.aq.length x.aq.length,aG hb 0 x.aq.length x.aq.length,.slice A6 wl.length c6,.bool z0,.slice Z0 z1 z2,.bool y0,.slice Y0 y1 y2,.bool o0,.slice O0 o1 o2,.bool q0,.slice Q0 q1 q2,.func (.func 75) #[] #[],.func (.func 76) #[] #[],.func (.func 77) #[] #[],.func (.func E) #[] #[K],.func (.func 74) #[] #[],.map J,aG z 0 x.aq.length x.aq.length,aG s 0 x.aq.length x.aq.length,.map (some A)] xb o z s A) 13 #[K]:=
  afj (asL yZ yY yX auN) ok hD a6 r6 t3 t4 HG zD ⟨cb,L,hb,A6,c6,rfl,rfl,rfl,rfl,t6,t7,t8,t9⟩ rfl rfl rfl rfl rfl rfl rfl (by rw[G];omega) n3 C B d_ (fun W hW v t hv ht Q=>HL W (r W hW) v t hv ht Q) (HF h (r h (aC h)))
 have b:cC (af9 DD MM E g Z J x D (nN x y) d wl h n _ xb o z s A) 19 20 (fun _=> []) (fun _=>false) n:=ae' Y hE rfl (show h.heap.size<=z by rw[G];omega) (show h.heap.size<=s by rw[G];omega) n1 n2 T rfl rfl rfl hN hS hK;have Q:Kept r_ w h:=H.kept (r h (aC h)) _;have CT:=af (al2 N rfl rfl rfl rfl rfl (HZ.keep Q) rfl rfl rfl rfl (HO.keep Q) _ _ b);have IZ:z<n.heap.size/\s<n.heap.size/\A<n.heap.size/\xb<n.heap.size:=⟨b.st.nc.lt,b.st.sc.lt,b.mem.lt,b.st.sx.lt⟩;have iA:=af P;have fR:=af q;have T3:=af t3;have T4:=af t4;clear T hN hS hK b N Q Y U hE r X V t1 t2 t3 t4 t6 t7 t8 t9 P q C B;go_wp2_with fail
 refine CT.mono ?_;rintro e3 w3 ⟨u,ayU,rfl,M,j,f⟩;have f:a7 [z,s,A] n w3:=f;have mI:ah (dF x a w3):=iA.keep (f.block _ iA.lt ay0) j.k1 j.k2;have iK:ah (a7 [a] w w3):=(((ig HX).trans (fR.mono (S':= [a,z,s,A]) fun i R _=>by simp only[aI,bF,or_false] at R⊢;omega)).trans (f.mono fun i R _=>by simp only[aI,bF,or_false] at R⊢;omega)).mono fun i R hl=>by simp only[aI,bF,or_false] at R⊢;omega
 have l:=af (zO.bP f ay0);have M:b_ w3 u _:=M;obtain⟨a0,A0,a1,a2,b0,B0,b1,b2,rfl, -, -⟩:=M.parts;have HU:=af M;obtain⟨k0,k1,k2,k3⟩:=l.four;obtain⟨f0,f1,f2,f3⟩:=l.fO;clear M j f;go_wp2_with fail
 refine uK rfl rfl rfl l.ae HU fun v W' h1 h2=> ?_;exact⟨v,_,_,rfl,T3,T4,h1,mI.keep (h2.block _ mI.lt Oc) (wn h2 l Od) (wn h2 l Od),iK.only h2 (.inr Om)⟩
section
variable{x:aQ}{D:List (List Rw)}{p:Nat->Option Nat}{d:Nat->Nat}{fx:Nat->Option aF}
def yj(fx:Nat->Option aF)(lift:Nat->aF->Rat)(v:Nat)(t:aF):Rat:=if dt fx v t=true then lift v t else 0
theorem alL(lift:Nat->aF->Rat)(v:Nat)(t:aF)(h:dt fx v t=false):yj fx lift v t=0:=by unfold yj;rw[h];rfl
theorem alK(lift:Nat->aF->Rat)(v:Nat)(t:aF)(h:dt fx v t=true):yj fx lift v t=lift v t:=by unfold yj;rw[if_pos h]
theorem aqu(r:dp x.aq.length p d)(lift:Nat->aF->Rat):
 (gm.prod (kids x.aq.length p none) fun c=>vT gm x (aX x D) p (gD x d) (yj fx lift) (fun k=>(k:Rat)) (univ (aX x D)) c fun _=> [])=oU (bJ x) (univ (aX x D)) (eF x.aq.length p (gD x d) x.aq.length none) (fun _=> []) lift (bR (aX x D)) fx:=by
 have a:=aa6 (R:=gm) (U:=univ (aX x D)) (g:=yj fx lift) (W:=oT (bJ x) (bR (aX x D))) (homes:=gD x d) r (fun _=> []);unfold oU;exact a.symm
end
section
variable{α β:Type}{R:SR α}{U U':List β}{at_:Nat->List Nat}{hl:List Nat}{g:Nat->β->α}{W:Nat->(Nat->β)->α}
theorem Fo.aw9(j:U.Nodup)(d:∀x∈U,x∈U')(hW:∀h∈hl,∀e,(∃a∈at_ h,e a∉U)->W h e=R.zero):∀(f:Fo) (S:List Nat),f.Ok at_ hl S->f.vars.Nodup->(∀v∈f.vars,∃h∈hl,v∈at_ h)->f.Right U' (fun _ _=>U) g W R
 | .nil,_,_,_,_=>trivial
 | .cons v p b n,S,⟨y,t,s,r⟩,m,c=>by simp only[Fo.vars,ja,bQ,not_or] at m;obtain⟨⟨d1,_⟩,d2⟩:=m;have d3:=ow.1 d2;refine⟨fun u=>⟨j,d,fun x _ o=> .inr ?_⟩,Fo.aw9 j d hW b _ s d3.1 fun a i=>c a az1,Fo.aw9 j d hW n _ r d3.2.1 fun a i=>c a az1⟩;obtain⟨h,l,k⟩:=c v azU;refine⟨h,t h l k,fun w q=>hW h l w ⟨v,k,?_⟩⟩;rw[q v d1];unfold put;rw[if_pos rfl];exact o
def TB:=@Fo.aw9
theorem Fo.aon [DecidableEq β](d:U.Nodup)(c:U'.Nodup)(m:∀x∈U,x∈U')(hW:∀h∈hl,∀e,(∃a∈at_ h,e a∉U)->W h e=R.zero){f:Fo}(b:Nat->β)(j:f.Ok at_ hl i)(l:f.vars.Nodup)(k:∀v∈f.vars,∃h∈hl,v∈at_ h):f.val R U g W b=f.val R U' g W b:=by have o:=Km (R:=R) d f b (TB (U':=U) d (fun _ h=>h) hW f i j l k (g:=g));have n:=Km (R:=R) c f b (TB d m hW f i j l k (g:=g));rw[<-o,<-n]
end
def aom{α β:Type} [DecidableEq β]{R:SR α}{U:List β}{at_:Nat->List Nat}{hl:List Nat}{b:Nat->List (List β×Int)}{c:Int->α}(k:∀h∈hl,∀y∈b h,∀t∈y.1,t∈U):∀h∈hl,∀e:Nat->β,(∃a∈at_ h,e a∉U)->dS R at_ b c h e=R.zero:=by
 rintro h i e ⟨a,j,f⟩;unfold dS;cases d:lL (at_ h) (b h) e with
 |none=>rfl
 |some y=>obtain⟨m,l⟩:=Um d;exact absurd (k h i y m (e a) (by rw[l];exact List.mem_map_of_mem j)) f
section
variable{α β:Type}{R:SR α}{U:List β}
theorem Fo.axt:∀(f:Fo) (d e:Nat->β),f.vars.Nodup->(e∈f.xi U d↔Alike f.vars d e/\∀v∈f.vars,e v∈U)
 | .nil,d,e,_=>by refine⟨fun h=>⟨rN .nil d e h,fun v q=>by cases q⟩,fun h=>bG.2 (funext fun a=>h.1 a azU)⟩
 | .cons v u b n,d,e,r=>by
   obtain⟨d1,d2⟩:=ja.1 r;obtain⟨d3,d4,d5⟩:=ow.1 d2;simp only[bQ,not_or] at d1;constructor
   ·intro h;refine⟨rN _ d e h,fun a c=> ?_⟩;obtain⟨x,p,h⟩:=ox.1 h;obtain⟨m,k,j⟩:=ox.1 h;obtain⟨t,s⟩:=(Fo.axt b _ m d3).1 k;obtain⟨l,o⟩:=(Fo.axt n m e d4).1 j;simp only[Fo.vars,aI,bQ] at c;rcases c with rfl|c|c
    ·rw[l a d1.2,t a d1.1];unfold put;rw[if_pos rfl];exact p
    ·rw[l a fun g=>d5 a c a g rfl];exact s a c
    ·exact o a c
   ·rintro⟨k,j⟩;refine ox.2 ⟨e v,j v azU,ox.2 ⟨fun a=>if a∈n.vars then d a else e a,(Fo.axt b _ _ d3).2 ⟨fun a c=> ?_,fun a c=> ?_⟩,(Fo.axt n _ e d4).2 ⟨fun a c=> ?_,fun a c=>j a (by simp [Fo.vars,c])⟩⟩⟩
    ·unfold put;by_cases i:a=v
     ·subst i;simp only[if_neg d1.2,if_true]
     ·simp only[if_neg i];by_cases g:a∈n.vars
      ·simp only[if_pos g]
      ·simp only[if_neg g];exact k a (by simp only[Fo.vars,aI,bQ,not_or];exact⟨i,c,g⟩)
    ·simp only[if_neg fun g=>d5 a c a g rfl];exact j a (by simp [Fo.vars,c])
    ·simp only[if_neg c]
def KC:=@Fo.axt
theorem Fo.axg(o:U.Nodup):∀(f:Fo) (c:Nat->β),f.vars.Nodup->(f.xi U c).Nodup
 | .nil,c,_=>ja.2 ⟨by simp,Ox⟩
 | .cons v D b n,c,A=>by
   obtain⟨d1,d2⟩:=ja.1 A;obtain⟨d3,d4,d5⟩:=ow.1 d2;simp only[bQ,not_or] at d1;refine List.pairwise_flatMap.2 ⟨fun x _=>List.pairwise_flatMap.2 ⟨fun e _=>Fo.axg o n e d4,?_⟩,?_⟩
   ·refine List.Pairwise.imp_of_mem (fun {h g} q p d=>fun y u z t j=>d (funext fun a=> ?_)) (Fo.axg o b (put c v x) d3);subst j;by_cases k:a∈n.vars
    ·have i:a∉b.vars:=fun i=>d5 a i a k rfl;rw[rN b _ h q a i,rN b _ g p a i]
    ·rw[<-rN n h y u a k,<-rN n g y t a k]
   ·refine List.Pairwise.imp (fun {x y} d=>fun e w E m l=>d ?_) o;subst l;obtain⟨h,q,p⟩:=ox.1 w;obtain⟨g,C,B⟩:=ox.1 m;have s:=rN n h e p v d1.2;have r:=rN n g e B v d1.2;rw[rN b _ h q v d1.1] at s;rw[rN b _ g C v d1.1,s] at r;simpa [put] using r
def TV:=@Fo.axg
theorem SR.acG{γ:Type}{l m:List γ}{f:γ->α}(h:l.Perm m):R.prod l f=R.prod m f:=by
 induction h with
 |nil=>rfl
 |cons x _ d=>rw[k8,k8,d]
 |swap x y l=>rw[k8,k8,k8,k8,<-R.ma,<-R.ma,R.mc (f y)]
 |trans _ _ b a=>rw[b,a]
theorem xU{γ:Type}{l m:List γ}(c:l.Nodup)(b:m.Nodup)(h:∀a,a∈l↔a∈m):l.Perm m:=by
 classical
 exact(List.perm_ext_iff_of_nodup c b).2 h
theorem Fo.amw{f j:Fo}(w:Whole a A i f)(d:Whole a A i j)(p:U.Nodup){g:Nat->β->α}{W:Nat->(Nat->β)->α}(hW:∀h e q,(∀b∈A h,q b=e b)->W h q=W h e)(c:Nat->β):f.val R U g W c=j.val R U g W c:=by
 have k:∀v,v∈f.vars↔v∈j.vars:=fun v=>(w.vm v).trans (d.vm v).symm;have r:∀v,v∈f.homes↔v∈j.homes:=fun v=>(w.hm v).trans (d.hm v).symm;rw[Fo.PC hW f c w.wf w.vd,Fo.PC hW j c d.wf d.vd,SR.adx (xU (TV p f c w.vd) (TV p j c d.vd) fun e=> ?_)]
 ·refine oC fun e _=> ?_;unfold Fo.term;rw[SR.acG (xU w.vd d.vd k),SR.acG (xU w.hd d.hd r)]
 ·rw[KC f c e w.vd,KC j c e d.vd];constructor
  ·exact fun⟨o,m⟩=>⟨fun b l=>o b fun h=>l ((k b).1 h),fun v h=>m v ((k v).2 h)⟩
  ·exact fun⟨o,m⟩=>⟨fun b l=>o b fun h=>l ((k b).2 h),fun v h=>m v ((k v).1 h)⟩
end
section
variable{n:Nat}{at_:Nat->List Nat}{hl:List Nat}{U U':List aM}{f f':Fo}{env:Nat->aM}{lift:Nat->aM->Rat}{tab:iT}{fx:Nat->Option aM}
theorem kD.univ(i:∀x∈U,x∈U')(j:∀h∈hl,∀y∈tab h,∀t∈y.1,t∈U)(g:∀v,v<n->∃h∈hl,v∈at_ h):kD n hl U (iF at_ tab) fx↔kD n hl U' (iF at_ tab) fx:=by
 constructor
 ·rintro⟨e,b,a⟩;exact⟨e,fun v h=>⟨i _ (b v h).1,(b v h).2⟩,a⟩
 ·rintro⟨e,b,a⟩;refine⟨e,fun v h=>⟨?_,(b v h).2⟩,a⟩;obtain⟨k,c,l⟩:=g v h;obtain⟨y,d,m⟩:=Hr.1 (a k c);exact j k c y d (e v) (by rw[m];exact List.mem_map_of_mem l)
theorem acr(w:Whole n at_ hl f)(a:Whole n at_ hl f')(c:U.Nodup)(b:U'.Nodup)(g:∀x∈U,x∈U')(i:∀h∈hl,∀y∈tab h,∀t∈y.1,t∈U)(d:∀v,v<n->∃h∈hl,v∈at_ h):oU at_ U f env lift tab fx=oU at_ U' f' env lift tab fx:=by unfold oU;refine(Fo.amw w a c (W:=oT at_ tab) (fun h e k j=>Pc h e k j) env).trans ?_;exact Fo.aon c b g (aom i) env a.ok a.vd fun v h=>d v ((a.vm v).1 h)
theorem oH.univ{G:List Gp}(g:oH n at_ hl U f env lift i tab G)(w:Whole n at_ hl f)(e:Whole n at_ hl f')(l:U.Nodup)(a:U'.Nodup)(c:∀x∈U,x∈U')(d:∀h∈hl,∀y∈tab h,∀t∈y.1,t∈U)(b:∀v,v<n->∃h∈hl,v∈at_ h):oH n at_ hl U' f' env lift i tab G:=
 ⟨g.ord,fun k=>(g.mem k).trans (and_congr_right fun _=>kD.univ c d b),fun y j=>(g.sum y j).trans (acr w e l a c d b)⟩
end
section
variable{x:aQ}{D:List (List Rw)}{f:Fo}{env:Nat->aM}{lift:Nat->aM->Rat}{attrs:List Nat}
theorem adR{c:Nat->Option aF}(d:a<x.aq.length)(t:aF):t∈eQ x D c a↔j6 x D (fC c a t):=by unfold eQ;rw[fI];refine⟨fun h=> @of_decide_eq_true _ (Classical.propDecidable _) h.2,fun h=>⟨?_,@decide_eq_true _ (Classical.propDecidable _) h⟩⟩;obtain⟨e,i,_⟩:=h;obtain⟨g,b⟩:=i a d;rw[K_,beq_iff_eq] at b;rw[b];exact g
theorem aq_(b:attrs.Nodup)(c:∀a∈attrs,a<x.aq.length)(hT:j6 x D fun _=>none):
 oH x.aq.length (bJ x) (bV x) (univ (aX x D)) f env lift attrs (bR (aX x D)) ((iD (eQ x D) attrs fun _=>none).map fun k=>(k,oU (bJ x) (univ (aX x D)) f env lift (bR (aX x D)) (eO (fun _=>none) attrs k))):=
 al1 b (fun _ a t d _=>adR (c a d) t) (fun _ a _=>Vo x D _ a) hT
theorem akP(a:attrs.Nodup)(hT:¬j6 x D fun _=>none):oH x.aq.length (bJ x) (bV x) (univ (aX x D)) f env lift attrs (bR (aX x D)) []:=akQ a hT
end
def mA(p:Nat->Option Nat):Nat->Nat->List Nat
 |0,_=> []
 |k+1,v=>match p v with
  |none=> []
  |some a=>a::mA p k a
def tO(p:Nat->Option Nat)(v:Nat):Int:=match p v with
 |none=> -1
 |some a=>(a:Int)
def Yg(p:Nat->Option Nat)(d:Nat->Nat):Option Nat->List Nat
 |none=> []
 |some a=>a::mA p (d a) a
def QK(d:Nat->Nat):Option Nat->Nat
 |none=>0
 |some a=>d a+1
def yI:Option Nat->Int
 |none=> -1
 |some a=>(a:Int)
def Qa(r:dp a y J)(g:b<a):mA y (J b) b=Yg y J (y b)/\QK J (y b)=J b/\tO y b=yI (y b)/\∀c,y b=some c->c<a:=by
 cases e:y b with
 |none=>refine⟨by rw[r.root b g e];rfl,by rw[r.root b g e];rfl,by unfold tO;rw[e];rfl,fun c f=>by cases f⟩
 |some c=>obtain⟨i,h⟩:=r.up b c g e;refine⟨by rw[h];show(match y b with|none=> []|some b=>b::mA y (J c) b)=_;rw[e];rfl,by rw[h];rfl,by unfold tO;rw[e];rfl,fun j f=>by injection f with f;subst f;exact i⟩
def LY(d:Nat->Nat)(z:Int):Nat:=if z<0 then 0 else d z.toNat+1
def afi(d:Nat->Nat)(c:Option Nat):LY d (yI c)=QK d c:=by
 cases c with
 |none=>rfl
 |some a=>unfold LY yI QK;simp only[kF];exact if_neg Om
def ao5:yI none= -1:=rfl
def ao4(a:Nat):yI (some a)=(a:Int):=rfl
def adq(A:aS)(c n:Nat)(p:Nat->Option Nat)(d:Nat->Nat)(r:dp n p d)(v:Nat)(U:v<n)(hn:n<=12)(w:au)(V:IL w (.slice A n c) ((List.range n).map (tO p))):
 Calls prog 66 #[.agg #[.slice A n c],av v] w fun e w'=>∃u,e= .returned (.tuple #[u,.bool true])/\IL w' u (ints (mA p (d v) v))/\Ext w w':=by
 have yC:=(bE V).2;have B:=af (fun(a:Nat) (Q:a<n) W (hX:Ext w W)=>by have h:=io (V.ext hX) (i:=a) (by rw[cy,gN];exact Q);rwa[DK,J2,(Qa r Q).2.2.1] at h)
 have M:=af (fun(a:Nat) (Q:a<n)=>Qa r Q);have hdv:=r.lt v U;clear V r;obtain⟨g,o,k, -,D⟩:=B v U w (aC w);subst k;obtain⟨F,C,y3,E⟩:=M v U;generalize X:p v=c0 at*;have sL:=af F;have M3:=af C;generalize mA p (d v) v=z at*;have huv:(ints ([]:List Nat)).length=0:=rfl;clear F y3 X;go_enter func66,ntmps66;go_upto_region 1 with fail
 refine aP fun W S BO=> ?_;have b0:=BO.aD 0;have q1:=(S.cell (p:=aB g (o+v)) (Lib.lt_of_cell D)).trans D;go_upto_region 3 with fail
 have HB:=af BO.ae;have F9:ah (bH aU 1 dr W.heap.size W (.slice none 0 0) (ints [])):=f_;have HE0:=af (aC W);clear b0 q1 D BO;go_loopw [6,7] (fun v6 T wr=>∃(f:List Nat) (j:Option Nat),T=av (yI j)/\(∀b,j=some b->b<n)/\f.length+QK d j=d v/\ah (z=f++Yg p d j)/\ah (bH aU 1 dr W.heap.size wr v6 (ints f))/\ah (Ext W wr)) (fun _ T _=>LY d (RowKit.intOf T))
 exact⟨[],c0,rfl,E,by simpa using C,sL,F9,HE0⟩;clear C E;obtain⟨f,j,rfl,J,I,HA,HO,N⟩:=hrel;obtain⟨A',c',xs,rfl,_,H,l,O⟩:=HO.parts;have m:(ints f).length=f.length:=azg;cases j with
 |none=>
  have HF:ah (z=f):=by have h:=HA.ae;rw[ah,h];exact kG _
  have Y:=af (D5 l O);have d0:decide ((0:Int)<= -1)=false:=Od;rw[ao5];clear m;go_wp2_with fail
  exact bodyPost_ret (v:= .tuple #[.slice A' (ints f).length c',.bool true]) (by simp [results,results66,go_sem]) rfl ⟨_,rfl,by rw[HF.ae];exact Y.ae,S.trans N⟩
 |some a=>
  have y:=J a rfl;obtain⟨g',o',k, -,D⟩:=B a y wr (S.trans N);injection k with k;injection k with e1 Z _;subst e1 Z;obtain⟨F,C, -,E⟩:=M a y;have P:ah (z=(f++ [a])++Yg p d (p a)):=(by have h:=HA.ae;rw[ah,h,iB,<-F];rfl)
  obtain⟨L,t⟩:∃L,p a=L:=⟨_,rfl⟩;rw[t] at D C E P;have Gq:=af t;clear t;have QZ:f.length+(d a+1)=d v:=I;have d0:decide ((0:Int)<=(a:Int))=true:=fF;have hne:(((ints f).length:Int)==(n:Int))=false:=beq_eq_false_iff_ne.2 Om;have K:((ints f).length+1)*8<=140737488355328:=Om;have hw:=N.size;have b0:=(HB.ext N).aD 0;rw[ao4];have d_:=af m;clear J I F m;go_wp2_with (at_builtin;refine gG rfl _ _ cO rfl W.heap.size jy _ _ _ rfl l.ae #[av (a:Int)] 1 1 rfl rfl rfl K hw ?_)
  intro v' w3 G s _;have O3:=af (iN (R:=dr) (x:=(a:Int)) cI Oy9 l O rfl G s);rw[<-Ku] at O3;have E3:=af (jV N l s (aK _));have q3:ay w3 g (o+a) (av (yI L)):=by obtain⟨g',o',k, -,q⟩:=B a y w3 (S.trans E3);injection k with k;injection k with e1 Z _;subst e1 Z;rw[Gq.ae] at q;exact q
  have b3:=(HB.ext E3).aD 0;have vt:(f++ [a]).length=f.length+1:=aAt;clear G s K b0 D H;go_wp2_with fail
  go_roundw;exact⟨f++ [a],L,rfl,E,by omega,P,O3,E3⟩;show LY d (yI L)<LY d (yI (some a))
  rw[afi,afi,C];exact aaG _
def alU(A:aS)(c n:Nat)(p:Nat->Option Nat)(d:Nat->Nat)(r:dp n p d)(u v:Nat)(o:v<n)(q:n<=12)(w:au)(s:IL w (.slice A n c) ((List.range n).map (tO p))):
 Calls prog 126 #[.agg #[.slice A n c],av u,av v] w fun e j=>e= .returned (.bool ((ints (mA p (d v) v)).contains (u:Int)))/\Ext w j:=by
 have C:=af (fun W (t:Ext w W)=>adq A c n p d r v o q W (s.ext t));generalize ints (mA p (d v) v)=l at*;go_enter func126,ntmps126;go_upto_region 1 with fail
 refine aP fun W h E=> ?_;have I:=E.aD 0;have D:=af (C W h);go_wp2_with fail
 refine D.mono ?_;rintro e i ⟨y,rfl,k,m⟩;obtain⟨F,x,rfl,_,_,z⟩:=k.parts;have f:=af (h.trans m);have B:=af (ael F l.length x l u i z);go_wp2_with fail
 refine B.mono ?_;rintro H G ⟨rfl,rfl⟩;obtain⟨b,a⟩:∃b,l.contains (u:Int)=b:=⟨_,rfl⟩;rw[a];have g:=af a;go_wp2_with fail
 exact bodyPost_ret (v:= .bool b) (by simp [results,results126,go_sem]) rfl ⟨by rw[g.ae],f⟩
def UC(b:Bool)(w:au):Calls prog 116 #[.bool b] w fun e a=>∃u,e= .returned u/\b_ a u (if b then 1 else 0)/\Ext w a:=by
 have d:=af (fun W=>Eo 1 W Om Om);have f:=af (fun W=>Eo 0 W Om Om);go_enter func116,ntmps116;go_upto_region 1 with fail
 refine aP fun W HX BT=> ?_;have c:=BT.lt;cases b with
 |true=>have C:=af (d W);exact m69
 |false=>have C:=af (f W);exact m69
def arl(s t:aF)(w:au):Calls prog 115 #[aO s,aO t] w fun e a=>∃u,e= .returned u/\b_ a u (if s=t then 1 else 0)/\Ext w a:=by
 have c:=af (fun W=>by have h:=UC (s==t) W;simpa only[beq_iff_eq] using h);generalize(if s=t then (1:Rat) else 0)=q at*;go_enter func115,ntmps115;go_upto_region 1 with fail
 refine aP fun W HX BT=> ?_;have b:=BT.lt;have C:=af (c W);go_wp2_with fail
 exact m14
def apS(s t:aF)(w:au):Calls prog 119 #[aO s,aO t] w fun e b=>∃u,e= .returned u/\b_ b u (if s= [] then 0 else 1)/\Ext w b:=by
 have d:ah (∀W,Calls prog 116 #[.bool (!s.isEmpty)] W fun e b=>∃u,e= .returned u/\b_ b u (if s= [] then 0 else 1)/\Ext W b):=fun W=>by
  have h:=UC (!s.isEmpty) W;cases s with
  |nil=>simpa using h
  |cons a s=>simpa using h
 generalize(if s= [] then (0:Rat) else 1)=q at*;go_enter func119,ntmps119;go_upto_region 1 with fail
 refine aP fun W HX BT=> ?_;have c:=BT.lt;go_wp2_with fail
 have C:=af (d W);exact m14
def sg(t:aF)(q:Rat):Prop:=(t= []/\q=0)\/(t≠ []/\t=cL q/\∃e,e<=100000/\bS (e+1) q)
def Pt{t:aF}(h:sg t H)(w:au):Calls prog 111 #[aO t] w fun e b=>∃u,e= .returned u/\b_ b u H/\Ext w b:=by
 have k:=af (fun W=>Eo 0 W Om Om);rcases h with⟨rfl,rfl⟩|⟨d,rfl,e,j,i⟩
 ·go_enter func111,ntmps111;go_upto_region 1 with fail
  refine aP fun W HX BT=> ?_;have f:=BT.lt;have C:ah (Calls prog 74 #[av 0] W fun e b=>∃u,e= .returned u/\b_ b u 0/\Ext W b):=k W;go_wp2_with fail
  exact m14
 ·have g:(cL H).isEmpty=false:=by
   cases c:cL H with
   |nil=>exact absurd c d
   |cons a s=>rfl
  have c:=af (fun W=>an0 H W i j);generalize cL H=t at*;go_enter func111,ntmps111;go_upto_region 1 with fail
  refine aP fun W HX BT=> ?_;have f:=BT.lt;have C:=af (c W);go_wp2_with fail
  exact m14
def apP{s t:aF}(h:sg s H)(w:au)(c:ar w a 188 [.func (.func 111) #[] #[]]):Calls prog 113 #[aO s,aO t,aJ a 0] w fun e b=>∃u,e= .returned u/\b_ b u H/\Ext w b:=by
 have f:=af (fun W=>Pt h W);have g:=af c;go_enter func113,ntmps113;go_upto_region 1 with fail
 refine aP fun W HX BT=> ?_;have d:=BT.lt;have C:=af (f W);have i:=(g.ext HX).aD 0;go_wp2_with fail
 exact m14
def sg.fit{t:aF}(h:sg t H):∃e,e<=100001/\bS e H:=by
 rcases h with⟨_,rfl⟩|⟨_,_,e,b,a⟩
 ·exact⟨1,by omega,by decide,by decide⟩
 ·exact⟨e+1,by omega,a⟩
abbrev Cr:Value:= .func (.func 111) #[] #[]
def atS.ahN(h:ai:=by
 refine b9 (S:=fun w'=>ay w' bn 0 Cr) (T:=fun j=>decide (7<=j)) Ok ?_;have l:=af (aC W).drew;generalize W.drew=r at*;have C:=af (p r);refine ax 0 6 ?_;refine ax 1 7 ?_;refine ax 3 9 ?_;refine ax 4 10 ?_;refine aL 2 ?_;intro K a;go_simp;refine C.mono ?_;rintro U y ⟨u,rfl,f,d⟩;have E:=af f;have i:=af (l.trans d);have bB:=af (bU _ i);have G:=af (p y);refine a.ae _ _ (fun _=>bB.ae) ?_;refine aL 5 ?_;intro K a;go_simp;refine G.mono ?_;rintro R x ⟨u2,rfl,f,d⟩;have n:=af f;have o:=af (E.ext d);have g:=af (i.trans d);have aH:=af (bU _ g);have F:=af (Vy u u2 H H x o n k k Om);refine a.ae _ _ (fun _=>aH.ae) ?_;refine aL 6 ?_;intro K a;go_simp;refine F.mono ?_;rintro Q I ⟨u3,rfl,f,d⟩;obtain⟨a0,A0,q,Z,Y,B0,X,V,rfl, -, -⟩:=f.parts;have m:=af f;have b:=af (g.trans d);have bB:=af (bU _ b);have c:=af (BT.ext b);refine a.ae _ _ (fun _=>bB.ae) ?_;obtain⟨N,M,L,J⟩:=c.four;obtain⟨f0,f1,f2,f3⟩:=c.fO;refine aL 7 ?_;intro K a;go_simp;refine a.ae _ _ Oy9 ?_;refine bY Ok ?_;go_wp2_with fail
 exact uK rfl rfl rfl c.ae m fun v W' D B=>⟨v,rfl,D,(HX.trans b).only B Om⟩):=h
def arc{s t:aF}{bn:Nat}(h:sg s H)(w:au)(z:ar w bn 188 [Cr]):Calls prog 114 #[aO s,aO t,aJ bn 0] w fun e w'=>∃u,e= .returned u/\b_ w' u (H*H)/\Ext w w':=by have p:=af (fun W=>Pt h W);obtain⟨P,O,A⟩:=h.fit;have k:=af A;have HN:=af z;go_enter func114,ntmps114;open atS in exact ag7
def atR.ahN(h:ai:=by
 refine b9 (S:=fun w'=>ay w' bn 0 Cr) (T:=fun j=>decide (13<=j)) Ok ?_;have o:=af (aC W).drew;generalize W.drew=L at*;cases m:s with
 |nil=>
  subst m;have i:z=0:=by rw[<-y.ae];simp
  subst i;have C:=af (P false L);refine ax 0 6 ?_;refine ax 1 7 ?_;refine ax 2 8 ?_;refine mn 3 9 ?_;refine mn 4 10 ?_;refine mn 5 11 ?_;refine mn 6 12 ?_;refine mn 7 13 ?_;refine mn 8 14 ?_;refine mn 9 15 ?_;refine mn 10 16 ?_;refine ax 11 17 ?_;refine aL 12 ?_;intro K a;go_simp;refine C.mono ?_;rintro e4 M ⟨u3,rfl,f,c⟩;obtain⟨a0,A0,a1,a2,b0,B0,b1,b2,rfl, -, -⟩:=f.parts;have l:=af f;have g:=af (o.trans c);have bB:=af (bU _ g);have d:=af (BT.ext g);refine a.ae _ _ (fun _=>bB.ae) ?_;obtain⟨Z,Y,X,V⟩:=d.four;obtain⟨f0,f1,f2,f3⟩:=d.fO;clear a f c BT;refine aL 13 ?_;intro K a;go_simp;refine a.ae _ _ Oy9 ?_;refine bY Ok ?_;go_wp2_with fail
  exact uK rfl rfl rfl d.ae l fun v W' E D=>⟨v,rfl,by simpa using E,(HX.trans g).only D Om⟩
 |cons a0 s0=>
  have q:s.isEmpty=false:=by rw[m];rfl
  have i:z=if decide (ER H I<0) then 1 else 0:=by rw[<-y.ae,m];simp
  rw[<-m];clear m;have C:=af (h1 L);refine ax 0 6 ?_;refine ax 1 7 ?_;refine ax 2 8 ?_;refine ax 3 9 ?_;refine ax 4 10 ?_;refine ax 6 12 ?_;refine ax 7 13 ?_;refine aL 5 ?_;intro K a;go_simp;refine C.mono ?_;rintro e2 U ⟨u,rfl,f,c⟩;have HU:=af f;have x:=af (o.trans c);have bB:=af (bU _ x);have C2:=af (h2 U);refine a.ae _ _ (fun _=>bB.ae) ?_;clear a f c;refine aL 8 ?_;intro K a;go_simp;refine C2.mono ?_;rintro e3 R ⟨u2,rfl,f,c⟩;have F:=af (HU.ext c);have p:=af (x.trans c);have aH:=af (bU _ p);have C3:=af (akd u u2 H I R F f J G Om);refine a.ae _ _ (fun _=>aH.ae) ?_;clear a f c;generalize ER H I=Q at*;refine aL 9 ?_;intro K a;go_simp;refine C3.mono ?_;rintro e4 M ⟨rfl,c⟩;have g:=af (p.trans c);have aH:=af (bU _ g);have C4:=af (P (decide (Q<0)) M);refine a.ae _ _ (fun _=>aH.ae) ?_;clear a c;refine ax 10 16 ?_;refine ax 11 17 ?_;generalize decide (Q<0)=bq at*;have y:=af i;clear i;refine aL 12 ?_;intro K a;go_simp;refine C4.mono ?_;rintro e5 w5 ⟨u3,rfl,f,c⟩;obtain⟨a1,A0,a2,a3,b0,B0,b1,b2,rfl, -, -⟩:=f.parts;rw[<-y.ae] at f;have l:=af f;have k:=af (g.trans c);have bB:=af (bU _ k);have d:=af (BT.ext k);refine a.ae _ _ (fun _=>bB.ae) ?_;obtain⟨Z,Y,X,V⟩:=d.four;obtain⟨f0,f1,f2,f3⟩:=d.fO;clear a f c BT;refine aL 13 ?_;intro K a;go_simp;refine a.ae _ _ Oy9 ?_;refine bY Ok ?_;go_wp2_with fail
  exact uK rfl rfl rfl d.ae l fun v W' E D=>⟨v,rfl,E,(HX.trans k).only D Om⟩):=h
def an2{s t:aF}{bn:Nat}(h:sg s H)(B:sg t I)(w:au)(N:ar w bn 188 [Cr]):Calls prog 117 #[aO s,aO t,aJ bn 0] w fun e w'=>∃u,e= .returned u/\b_ w' u (if s≠ []/\ER H I<0 then 1 else 0)/\Ext w w':=by have h1:=af (fun W=>Pt h W);have h2:=af (fun W=>Pt B W);have P:=af (fun b W=>UC b W);obtain⟨ee,he,O⟩:=h.fit;obtain⟨ef,r,n⟩:=B.fit;have J:=af O;have G:=af n;have HN:=af N;obtain⟨z,A⟩:∃z:Rat,(if s≠ []/\ER H I<0 then (1:Rat) else 0)=z:=⟨_,rfl⟩;rw[A];have y:=af A;clear h N O B n A;go_enter func117,ntmps117;open atR in exact ag7
abbrev asZ:TypeId:=191
abbrev af7:TypeId:=129
def Ig:prog.underlying asZ=some (.map aU af7):=Ok
def ard(w:au):(zeroValue af7).run prog w= .ok .nilFunc w:=Ok
def XE(a:Nat):Nat->Value
 |1=> .func (.func 113) #[] #[aJ a 0]
 |2=> .func (.func 114) #[] #[aJ a 0]
 |3=> .func (.func 115) #[] #[]
 |4=> .func (.func 117) #[] #[aJ a 0]
 |5=> .func (.func 119) #[] #[]
 |_=> .nilFunc
def wI{f:Lit->Option Value}(h:B≠C):m_ f (.int .i64 C) p (.int .i64 B)=f (.int .i64 B):=vY fun e=>by injection e with _ e;exact h e
def put_eq{f:Lit->Option Value}(h:B=C):m_ f (.int .i64 C) p (.int .i64 B)=some p:=by rw[h,D3]
def akb(k:Nat)(G:1<=k)(F:k<=5)(w:au):Calls prog 59 #[.int .i64 k] w fun e h=>∃a,e= .returned (XE a k)/\ar h a 188 [Cr]/\Ext w h:=by
 go_enter func59,ntmps59;go_upto_region 1 with fail
 go_upto_region 2 with fail
 refine aP fun W t p=> ?_;have s:=p.lt;generalize w.heap.size=a at*;have r:= @run_makeMap prog;obtain⟨z,E,m1,n⟩:=(KB W aU).put mQ Ig ay' (key:= .int .i64 1) Ok (.func (.func 113) #[] #[aJ a 0]);obtain⟨y,D,m2,m⟩:=m1.put mQ Ig ay' (key:= .int .i64 2) Ok (.func (.func 114) #[] #[aJ a 0]);obtain⟨x,C,m3,l⟩:=m2.put mQ Ig ay' (key:= .int .i64 3) Ok (.func (.func 115) #[] #[]);obtain⟨u,B,m4,j⟩:=m3.put mQ Ig ay' (key:= .int .i64 4) Ok (.func (.func 117) #[] #[aJ a 0]);obtain⟨q,A,m5,i⟩:=m4.put mQ Ig ay' (key:= .int .i64 5) Ok (.func (.func 119) #[] #[]);have d:=af ((((((aC W).alloc (.map #[] 0)).only n (aK _)).only m (aK _)).only l (aK _)).only j (aK _)|>.only i (aK _));have o:=m5.get mQ Ig (ard q) (H_ (v:=k) Om);have c:(m_ (m_ (m_ (m_ (m_ (fun _=>none) (.int .i64 1) (.func (.func 113) #[] #[aJ a 0])) (.int .i64 2) (.func (.func 114) #[] #[aJ a 0])) (.int .i64 3) (.func (.func 115) #[] #[])) (.int .i64 4) (.func (.func 117) #[] #[aJ a 0])) (.int .i64 5) (.func (.func 119) #[] #[]) (.int .i64 (k:Int))).getD .nilFunc=XE a k:=by
  obtain rfl|rfl|rfl|rfl|rfl:k=1\/k=2\/k=3\/k=4\/k=5:=Om
  ·rw[wI Od,wI Od,wI Od,wI Od,put_eq Od];rfl
  ·rw[wI Od,wI Od,wI Od,put_eq Od];rfl
  ·rw[wI Od,wI Od,put_eq Od];rfl
  ·rw[wI Od,put_eq Od];rfl
  ·rw[put_eq Od];rfl
 rw[c] at o;obtain⟨f,b⟩:∃f,XE a k=f:=⟨_,rfl⟩;rw[b] at o;have g:=af b;clear b;clear m1 m2 m3 m4 m5 n m l j i c;go_wp2_with fail
 exact bodyPost_ret (v:=f) (by simp [results,results59,go_sem]) rfl ⟨a,by rw[g.ae],p.ext d,t.trans d⟩
def zK(k:Nat)(s t:aF)(z:Rat):Prop:=
 (k=1/\sg s z)\/(k=2/\∃q,sg s q/\z=q*q)\/(k=3/\z=if s=t then 1 else 0)\/(k=4/\∃q r,sg s q/\sg t r/\z=if s≠ []/\ER q r<0 then 1 else 0)\/(k=5/\z=if s= [] then 0 else 1)
def zK.kind{s t:aF}(h:zK a s t H):1<=a/\a<=5:=by rcases h with h|h|h|h|h<;>omega
def aeZ{s t:aF}(h:zK a s t H)(w:au):Calls prog 59 #[av a] w fun e i=>∃b c,e= .returned (.func (.func b) #[] c)/\ah (∀d w,(callFunc b d).run prog w= .ok (.enter b d) w)/\
 ah (∀W,Ext i W->Calls prog b (#[aO s,aO t]++c) W fun e l=>∃u,e= .returned u/\b_ l u H/\Ext W l)/\ah (Ext w i):=by
 refine(akb a h.kind.1 h.kind.2 w).mono ?_;rintro e i ⟨n,rfl,j,g⟩;rcases h with⟨rfl,h⟩|⟨rfl,q,h,rfl⟩|⟨rfl,rfl⟩|⟨rfl,q,r,h,m,rfl⟩|⟨rfl,rfl⟩
 ·exact⟨_,_,rfl,fun _ _=>by rfl,fun W f=>apP h W (j.ext f),g⟩
 ·exact⟨_,_,rfl,fun _ _=>by rfl,fun W f=>arc h W (j.ext f),g⟩
 ·exact⟨_,_,rfl,fun _ _=>by rfl,fun W f=>arl s t W,g⟩
 ·exact⟨_,_,rfl,fun _ _=>by rfl,fun W f=>an2 h m W (j.ext f),g⟩
 ·exact⟨_,_,rfl,fun _ _=>by rfl,fun W f=>apS s t W,g⟩
abbrev jf:TypeId:=48
abbrev Fu:=Nat×Nat×aF
def ou(_:au)(c:List Value)(f:Fu):Prop:=c= [av (f.1:Int),av (f.2.1:Int),aO f.2.2]
def ou.jN:j7 [] ou:=fun _ _ _ _ _ h=>h
def wu:=@ou.jN
def ou.three(w:au)(c:List Value)(f:Fu)(h:ou w c f):c.length=3:=azQ
def gS(a:Nat)(b:Fu->Rat)(l:List Fu):Rat:=(l.map fun f=>if f.1=a then b f else 1).foldl (·*·) 1
def alh(a:Nat)(b:Fu->Rat)(l:List Fu)(f:Fu):gS a b (l++ [f])=gS a b l*if f.1=a then b f else 1:=by unfold gS;rw[mL,DI];rfl
def akt(A:aS)(c:Nat)(l:List Fu)(a:Nat)(s:aF)(n:Fu->Rat)(w:au)(hl:Ls jf ou w (.slice A l.length c) l)(hz:∀f∈l,f.1=a->zK f.2.1 s f.2.2 (n f))(hp:∀i,i<=l.length->bS 100000 (gS a n (l.take i)))(hf:∀f∈l,f.1=a->bS 100000 (n f))(ha:a<100):
 Calls prog 83 #[.slice A l.length c,av a,aO s] w fun e p=>∃u,e= .returned u/\b_ p u (gS a n l)/\Ext w p:=by
 have h1:=af (fun W=>by simpa using Eo 1 W Om Om);have HL:=af hl;have HZ:=af hz;have HP:=af hp;have HF:=af hf;have yC:=(bE hl).2;clear hl hz hp hf;go_enter func83,ntmps83;go_upto_region 1 with fail
 refine aP fun W HX P=> ?_;have Zi:=P.lt;generalize wT:w.heap.size=rb at*;have C:=af (h1 W);go_wp2_with fail
 refine C.mono ?_;rintro e1 w1 ⟨u,rfl,hu,hx⟩;obtain⟨a0,A0,a1,a2,b0,B0,b1,b2,rfl, -, -⟩:=hu.parts;have HU:=af hu;have Y:=af hx;have tT:=hx.size;clear hu hx;go_upto_region 2 with fail
 refine Lb HU fun w2 v V _=> ?_;have Fh:rb<w1.heap.size:=Om;generalize w1.heap.size=q at*;have MT:=af (HX.trans (Y.trans v));have pB:=af (P.ext (Y.trans v));have sL:ah (ep w2 q (gS a n (l.take 0))):=by rw[kH];exact V
 clear P;go_upto_region 3 with fail
 go_loopw [9,13] (fun _ Q wq=>∃k:Nat,k<=l.length/\Q=av k/\ah (ar wq rb dI Bd)/\ah (ep wq q (gS a n (l.take k)))/\ah (Ext w wq)) (fun _ Q _=>l.length - (RowKit.intOf Q).toNat)
 exact⟨0,aT _,rfl,pB,sL,MT⟩;obtain⟨k,hk,rfl,P,HU,HX⟩:=hrel;have iX:q<wr.heap.size:=HU.lt;by_cases H:k<l.length
 ·obtain⟨g,o,d,hA,j8,hd,I⟩:=qR ou.three Od (HL.ext wu HX) H;subst hA;have hsn:l.take (k+1)=l.take k++ [l[k]]:=g9 H;have x:ah (gS a n (l.take (k+1))=gS a n (l.take k)*if l[k].1=a then n l[k] else 1):=by rw[ah,hsn,alh]
  have HZk:=af (HZ l[k] (aZ H));have HFk:=af (HF l[k] (aZ H));have F7:=af (HP k hk);unfold ou at hd;generalize l[k]=f at*;obtain⟨y,L,J⟩:=f;subst hd;have c0:ay wr g (o+k*3) (av (y:Int)):=I 0 _ rfl;have c1:ay wr g (o+k*3+1) (av (L:Int)):=I 1 _ rfl;have c2:ay wr g (o+k*3+2) (aO J):=I 2 _ rfl;simp only at x HZk HFk;clear I hsn;generalize gS a n (l.take k)=acc at*;generalize n (y,L,J)=zq at*;go_upto_region 5 with fail
  refine aP fun X U BE=> ?_;have heb:=BE.lt;have hes:wr.heap.size=wr.heap.size:=rfl;generalize ayx:wr.heap.size=M at*;clear c0 c1 c2 hes;have e0:=BE.aD 0;have v:=af (HX.trans U);have NR:=af (P.ext U);have sK:=af (HU.ext U);clear P;by_cases Mr:y=a
  ·subst Mr;rw[if_pos rfl] at x;obtain⟨G,O,F,E,D,N,B,z,BO,VO⟩:=sK.parts;have HQ:=af (HZk rfl);have Ml:=HQ.kind;have CF:=af (fun W=>aeZ HQ W);go_upto_region 6 with fail
   clear e0;have aH:ah (ar X.drew q dI [.bool G,.slice O F E,.bool D,.slice N B z]/\ar X.drew M jf [av (y:Int),av (L:Int),aO J]):=⟨BO.drew,BE.drew⟩;have bL:ah (∀p,(ar p q dI [.bool G,.slice O F E,.bool D,.slice N B z]/\ar p M jf [av (y:Int),av (L:Int),aO J])->(ay p M 1 (av (L:Int))/\ay p M 2 (aO J))/\F4 p q (.bool G) (.slice O F E) (.bool D) (.slice N B z)):=fun p h=>⟨⟨h.2.aD 1,h.2.aD 2⟩,h.1.four⟩;unfold F4 at bL;refine b9 (S:=fun p=>ar p q dI [.bool G,.slice O F E,.bool D,.slice N B z]/\ar p M jf [av (y:Int),av (L:Int),aO J]) (T:=fun j=>decide (9<=j)) Ok ?_;have nX:=af v.drew;have BZd:=af NR.drew;have VOd:ah (b_ X.drew (.agg #[.bool G,.slice O F E,.bool D,.slice N B z]) acc):=VO.ext (aC X).drew;have hed:M<X.drew.heap.size:=heb;clear BO VO BE;generalize X.drew=wd at*;have CF2:=af (CF wd);refine ax 0 21 ?_;refine ax 1 22 ?_;refine ax 2 23 ?_;refine ax 4 25 ?_;refine ax 5 26 ?_;refine ax 6 27 ?_;refine aL 3 ?_;intro K t;go_simp;refine CF2.mono ?_;rintro e4 w4 ⟨fid,avG,rfl,Mm,HC,m⟩;have hif:=Mm.ae;have dU:=af (nX.trans m);have JL:=af (BZd.ext m);have VO4:=af (VOd.ext m);have bB:ah (ar w4 q dI [.bool G,.slice O F E,.bool D,.slice N B z]/\ar w4 M jf [av (y:Int),av (L:Int),aO J]):=⟨aH.1.ext m,aH.2.ext m⟩;have C4:=af (HC w4 (aC w4));refine t.ae _ _ (fun _=>bB.ae) ?_;clear t m Mm;refine aL 7 ?_;intro K t;go_simp;refine C4.mono ?_;rintro e5 w5 ⟨u5,rfl,Z,b⟩;have en:=af (dU.trans b);have xJ:=af (JL.ext b);have aH:ah (ar w5 q dI [.bool G,.slice O F E,.bool D,.slice N B z]/\ar w5 M jf [av (y:Int),av (L:Int),aO J]):=⟨bB.1.ext b,bB.2.ext b⟩;have CM:=af (Vy _ u5 acc zq w5 (VO4.ext b) Z F7 (HFk rfl) Om);refine t.ae _ _ (fun _=>aH.ae) ?_;clear t Z b hif;refine aL 8 ?_;intro K t;go_simp;refine CM.mono ?_;rintro e6 w6 ⟨u6,rfl,R,r⟩;obtain⟨r0,R0,r1,r2,s0,S0,s1,s2,rfl,_,_⟩:=R.parts;have cY:=af (en.trans r);have rG:=af (xJ.ext r);have bB:ah (ar w6 q dI [.bool G,.slice O F E,.bool D,.slice N B z]/\ar w6 M jf [av (y:Int),av (L:Int),aO J]):=⟨aH.1.ext r,aH.2.ext r⟩;refine t.ae _ _ (fun _=>bB.ae) ?_;obtain⟨k0,k1,k2,k3⟩:=bB.1.four;obtain⟨f0,f1,f2,f3⟩:=bB.1.fO;obtain⟨W',jp,Dn,_,rB,kX⟩:=ep.put bB.1 R cY Om;have HW:=af jp;have zN:=af (rG.only kX Om);clear t R r jp;refine aL 9 ?_;intro K t;go_simp;refine t.ae _ _ Oy9 ?_;refine bY Ok ?_;rw[HW.ae];clear k0 k1 k2 k3 f0 f1 f2 f3 t;go_wp2_with fail
   go_roundw;exact⟨k+1,by omega,by go_num,zN,by rw[x.ae];exact Dn,rB⟩;simp [RowKit.intOf];omega
  ·rw[if_neg Mr,Ud] at x;have Mq:((y:Int)==(a:Int))=false:=beq_eq_false_iff_ne.2 Om;go_wp2_with fail
   go_roundw;exact⟨k+1,by omega,by go_num,NR,by rw[x.ae];exact sK,v⟩;simp [RowKit.intOf];omega
 ·obtain rfl:k=l.length:=Om;have d1:decide ((l.length:Int)<(l.length:Int))=false:=aW;have V:ah (ep wr q (gS a n l)):=(by have h:=HU.ae;rwa[f9] at h)
  obtain⟨G,O,F,E,D,N,B,z,BO,VO⟩:=V.parts;obtain⟨q0,q1,q2,q3⟩:=BO.four;obtain⟨f0,f1,f2,f3⟩:=P.fO;obtain⟨j0,j1,j2,j3⟩:=P.four;go_wp2_with fail;exact uK rfl rfl rfl P.ae VO fun u W' h1 h2=>⟨u,rfl,h1,HX.only h2 Om⟩
abbrev Qo:TypeId:=45
def apn(A:aS)(c g:Nat)(x:Value)(l:List Fu)(a:Nat)(s:aF)(b:Fu->Rat)(w:au)(p:ar w g Qo [.slice A l.length c,x])(m:Ls jf ou w (.slice A l.length c) l)(j:∀f∈l,f.1=a->zK f.2.1 s f.2.2 (b f))(k:∀i,i<=l.length->bS 100000 (gS a b (l.take i)))(n:∀f∈l,f.1=a->bS 100000 (b f))(q:a<100):
 Calls prog 82 #[av a,aO s,aJ g 0] w fun e d=>∃u,e= .returned u/\b_ d u (gS a b l)/\Ext w d:=by
 have t:=af (fun W (r:Ext w W)=>akt A c l a s b W (bX wu m r) j k n q);have y:=af p;go_enter func82,ntmps82;go_upto_region 1 with fail
 refine aP fun W HX BT=> ?_;have o:=BT.lt;have b0:=(y.ext HX).aD 0;have C:=af (t W HX);go_wp2_with fail
 exact m14
abbrev tEn:TypeId:=50
abbrev tJp:TypeId:=90
abbrev tRg:TypeId:=159
def oW(w:au)(c:List Value)(y:Gp):Prop:=∃A d,c= [.slice A y.1.length d,aO (cL y.2)]/\TL w (.slice A y.1.length d) y.1
def oW.jN:j7 [bI] oW:=fun _ _ _ _ f ⟨A,d,e,h⟩=>⟨A,d,e,fN jY h f⟩
def kj:=@oW.jN
def oW.two(w:au)(c:List Value)(x:Gp)(h:oW w c x):c.length=2:=azV
abbrev uu:=Ls eT oW
def U0:ko prog lh eT 2 40:= .mk' (z:= .agg #[.slice none 0 0,.string ⟨#[]⟩]) Ok Ok rfl Od Od
section
variable{S:List Nat}{t:TypeId}{a b c:au}
theorem fE.only(h:fE S t a b)(k:Only g b c)(d:g∈S\/a.heap.size<=g):fE S t a c:=⟨k.os.trans h.os,k.tape.trans h.tape,k.output.trans h.output,a8 h.size k.size,fun i j f l=>(k.block i (cE j h.size) (fun e=>by
 injection e with e;subst e;rcases d with d|d
 ·exact f d
 ·omega)).trans (h.block i j f l)⟩
theorem fE.grow(h:fE S t a b)(j:b.ownsRow d t e p f u)(l:b.grownBy c p.ownBlock):fE S t a c:=⟨l.os.trans h.os,l.tape.trans h.tape,l.output.trans h.output,a8 h.size l.size,fun i m s q=>by
 have r:=h.block i m s q;refine(l.block i (cE m h.size) fun g=> ?_).trans r;rcases j.2 with⟨rfl,_⟩|⟨w,A,z,rfl,_,o,_⟩
 ·simp [Value.ownBlock] at g
 ·have y:i=w:=by simpa [Value.ownBlock] using g
  subst y;rw[r] at o;exact q _ _ o⟩
theorem a7.PU(h:a7 [d] a b):Only d a b:=⟨h.os,h.tape,h.output,h.size,fun i f e=>h.block i f azm⟩
theorem eR.asy(h:eR a)(j:ar a d w [p])(k:Only d a b):eR b:=by
 unfold eR Lib.TabIs World.var? at*;cases i:prog.globalNamed "internal/strconv.uint64pow10" with
 |none=>simp [i] at h
 |some q=>
  simp only[i,Ol] at h⊢;have f:q<a.heap.size:=by exact WY
  rw[k.block q f]
  ·exact h
  ·intro e;injection e with e;subst e;unfold ar at j;rw[j] at h;simp only[dG] at h;have l:=congrArg Array.size h;simp [Lib.pow10Tab] at l
theorem eR.afI{f:Lit->Option Value}(h:eR a)(l:d7 a w d e f)(p:Only d a b):eR b:=by
 unfold eR Lib.TabIs World.var? at*;cases o:prog.globalNamed "internal/strconv.uint64pow10" with
 |none=>simp [o] at h
 |some q=>
  simp only[o,Ol] at h⊢;have j:q<a.heap.size:=by exact WY
  rw[p.block q j]
  ·exact h
  ·intro i;injection i with i;subst i;obtain⟨D,⟨r,m,l,_⟩,_⟩:=l;rw[l] at h;simp at h
theorem eR.grow(h:eR a)(i:a.ownsRow d t e p f u)(o:a.grownBy b p.ownBlock)(m:∀q,prog.globalNamed "internal/strconv.uint64pow10" =some q->q<d):eR b:=by
 unfold eR Lib.TabIs World.var? at*;cases j:prog.globalNamed "internal/strconv.uint64pow10" with
 |none=>simp [j] at h
 |some q=>
  simp only[j,Ol] at h⊢;have l:q<a.heap.size:=by exact WY
  rw[o.block q l]
  ·exact h
  ·intro g;have:=(i.lt q g.symm).1;have:=m q j;omega
theorem eR.lt(h:eR a):∀q,prog.globalNamed "internal/strconv.uint64pow10" =some q->q<a.heap.size:=fun q e=>by
 unfold eR Lib.TabIs World.var? at h;simp only[e,Ol] at h;rcases cA q a.heap.size with d|d
 ·exact d
 ·simp [zS d] at h
end
structure X4(x:aQ)(T:List (List Rw))(fs:List Fu)(zq:Fu->aF->Rat)(DD MM:Nat):Prop where
 hz:∀f∈fs,∀t,Iu x T f.1 t->zK f.2.1 t f.2.2 (zq f t)
 gg:∀v t,iL DD MM 1 1 (gS v (fun f=>zq f t) fs)
 hp:∀v t i,i<=fs.length->bS 100000 (gS v (fun f=>zq f t) (fs.take i))
 hf:∀f∈fs,∀t,bS 100000 (zq f t)
structure nj(x:aQ)(D:List (List Rw))(jb pb eb jx rb ab ob:Nat)(wB:au)(zs:List Value)(fs:List Fu)(attrs:List Nat)(Af:aS)(cf:Nat)(Aa:aS)(ca:Nat)(vl:List aF->Rat)(done:List (List aF))(W:au):Prop where
 jm:dF x pb W
 jB:gJ x (aX x D) jb pb W
 be:ar W eb tEn [av 0]
 bj:ar W jx tJp [aJ jb 0]
 br:ar W rb tRg (zs++ [.func (.func 75) #[] #[],.func (.func 76) #[] #[],.func (.func 77) #[] #[]])
 hz:∃z0 Z0 z1 z2 y0 Y0 y1 y2 o0 O0 o1 o2 q0 Q0 q1 q2,zs= [.bool z0,.slice Z0 z1 z2,.bool y0,.slice Y0 y1 y2,.bool o0,.slice O0 o1 o2,.bool q0,.slice Q0 q1 q2]/\b_ W (.agg #[.bool z0,.slice Z0 z1 z2,.bool y0,.slice Y0 y1 y2]) 0/\b_ W (.agg #[.bool o0,.slice O0 o1 o2,.bool q0,.slice Q0 q1 q2]) 1
 ba:ar W ab Qo [.slice Af fs.length cf,.slice Aa attrs.length ca]
 fl:Ls jf ou W (.slice Af fs.length cf) fs
 il:IL W (.slice Aa attrs.length ca) (ints attrs)
 WU:∃v,ar W ob lh [v]/\bH eT 2 oW wB.heap.size W v (done.map fun k=>(k,vl k))
 tab:eR W
 tl:∀q,prog.globalNamed "internal/strconv.uint64pow10" =some q->q<wB.heap.size
 lt:pb<wB.heap.size/\ob<wB.heap.size/\eb<wB.heap.size/\jx<wB.heap.size/\rb<wB.heap.size/\ab<wB.heap.size/\jb<wB.heap.size/\wB.heap.size<=W.heap.size
 ch:a7 [pb,ob] wB W
section
variable{x:aQ}{D:List (List Rw)}{jb pb eb jx rb ab ob:Nat}{wB:au}{zs:List Value}{fs:List Fu}{attrs:List Nat}{Af:aS}{cf:Nat}{Aa:aS}{ca:Nat}{vl:List aF->Rat}{done:List (List aF)}{W W':au}
theorem dF.ne(h:dF x pb W){t:TypeId}(i:ar W d t u):d≠pb:=by obtain⟨m,f,e,_⟩:=h;exact KR i e
theorem gJ.asD{T:List (List Rw)}(h:gJ x T jb pb W)(k:W'.heap[jb]?=W.heap[jb]?)(i:∀t,t≠lh->t≠eT->Kept t W W'):gJ x T jb pb W':=by
 have i:∀t:TypeId,(t !=lh&&t !=eT)=true->Kept t W W':=fun t f=>by rw[cZ,bne_iff_ne,bne_iff_ne] at f;exact i t f.1 f.2
 have g:∀l:List TypeId,(l.all fun t=>t !=lh&&t !=eT)=true->∀t∈l,Kept t W W':=fun l j t f=>i t (uD.1 j t f);obtain⟨A,c,B,d,E,e,At,C,J,F,l,r,q,p,o,n,m⟩:=h;refine⟨A,c,B,d,E,e,At,C,J,F,l,k.trans r,?_,fN mU p (g _ Od),fN cI o (g _ Od),n,m⟩;obtain⟨K,G,I,z,H,y,w,v,u,s⟩:=q;exact⟨K,G,I,z,H,y,w,fN mS v (g _ Od),fN oF u (g _ Od),fN uN s (g _ Od)⟩
theorem nj.Qb(h:nj x D jb pb eb jx rb ab ob wB zs fs attrs Af cf Aa ca vl done W)(k:a7 [pb] W W')(I:dF x pb W'):nj x D jb pb eb jx rb ab ob wB zs fs attrs Af cf Aa ca vl done W':=by
 have j:∀t,Kept t W W':=fun t=>h.jm.kept k t;have g:=k.PU;obtain⟨s,M,r,q,z,N,y,w,H,P,G,F,C,O,q1,q2,e,f1,f2⟩:=h.hz;obtain⟨v,p,L⟩:=h.WU;have o:jb≠pb:=(by obtain⟨A,c,B,d,E,e,At,Q,T,R,l,K,_⟩:=h.jB;exact h.jm.ne K)
 obtain⟨m,f,n,_⟩:=h.jm;exact⟨I,h.jB.bP h.jm o k,h.be.only g (h.jm.ne h.be),h.bj.only g (h.jm.ne h.bj),h.br.only g (h.jm.ne h.br),⟨s,M,r,q,z,N,y,w,H,P,G,F,C,O,q1,q2,e,f1.keep (j _),f2.keep (j _)⟩,h.ba.only g (h.jm.ne h.ba),fN wu h.fl (fun u _=>j u),fN cI h.il (fun u _=>j u),
  ⟨v,p.only g (h.jm.ne p),L.only kj g h.lt.1 (fun u _=>j u)⟩,h.tab.afI n g,h.tl,⟨h.lt.1,h.lt.2.1,h.lt.2.2.1,h.lt.2.2.2.1,h.lt.2.2.2.2.1,h.lt.2.2.2.2.2.1,h.lt.2.2.2.2.2.2.1,a8 h.lt.2.2.2.2.2.2.2 k.size⟩,h.ch.trans (k.mono fun i J _=>by rw[bG.1 J];simp)⟩
theorem nj.ext(h:nj x D jb pb eb jx rb ab ob wB zs fs attrs Af cf Aa ca vl done W)(k:Ext W W'):nj x D jb pb eb jx rb ab ob wB zs fs attrs Af cf Aa ca vl done W':=h.Qb (.ij k) (h.jm.ext k)
theorem nj.kept(h:nj x D jb pb eb jx rb ab ob wB zs fs attrs Af cf Aa ca vl done W)(k:fE [pb,ob] eT W W')(t:TypeId)(p:t≠lh)(o:t≠eT):Kept t W W':=fun g w s d=>by
 refine(k.block g (ie d) (fun j=> ?_) fun r q e=> ?_).trans d
 ·simp only[aI,bF,or_false] at j;rcases j with rfl|rfl
  ·obtain⟨m,f,⟨D,⟨u,i,n,_⟩,_⟩,_⟩:=h.jm;rw[n] at d;injection d with d;cases d
  ·obtain⟨v,l,_⟩:=h.WU;unfold ar at l;rw[l] at d;injection d with d;injection d with _ d;exact p d.symm
 ·rw[e] at d;injection d with d;injection d with _ d;exact o d.symm
theorem nj.more(h:nj x D jb pb eb jx rb ab ob wB zs fs attrs Af cf Aa ca vl done W){k:List aF}(F:ar W ob lh [p])(i:W.ownsRow wB.heap.size eT 2 p (done.map fun k=>(k,vl k)).length u)(hc:Ch (oW W) u (done.map fun k=>(k,vl k)))(Y:oW W v (k,vl k))
 (Z:m.ownsRow wB.heap.size eT 2 q ((done.map fun k=>(k,vl k)).length+1) (u++v)) (y:W.grownBy m p.ownBlock) (e:m.setCell (aB ob 0) q=n):nj x D jb pb eb jx rb ab ob wB zs fs attrs Af cf Aa ca vl (done++ [k]) n/\fE [pb,ob] eT W n:=by
 subst e;have hk:∀t,t≠lh->t≠eT->Kept t W m:=fun t _ s=>jW i y (fM s);obtain⟨O,Z0,N,M,R,Y0,Q,P,X,O0,V,U,T,Q0,q1,q2,ez,f1,f2⟩:=h.hz;have H:∀{g:Nat} {t:TypeId} {l:List Value},ar W g t l->g<wB.heap.size->ar m g t l:=fun j C=>ip j i y C;have I:=H F h.lt.2.1;have s:Only ob m (m.setCell (aB ob 0) q):=(ii ob m).bu 0 q;have o:∀t,t≠lh->t≠eT->Kept t W (m.setCell (aB ob 0) q):=fun t a b=>(hk t a b).trans (s.kept I a.symm);have z:∀{g:Nat} {t:TypeId} {l:List Value},ar W g t l->t≠lh->g<wB.heap.size->ar (m.setCell (aB ob 0) q) g t l:=fun j hn C=>(H j C).only s fun e=>by subst e;unfold ar at j F;rw[F] at j;injection j with j;injection j with _ j;exact hn j.symm
 have G:∀{g:Nat},g<wB.heap.size->g<W.heap.size:=fun C=>cE C h.lt.2.2.2.2.2.2.2;have J:pb≠ob:=(h.jm.ne F).symm;have L:jb≠ob:=fun e=>by obtain⟨A,c,B,d,E,e',At,ct,Al,cl,l,j,_⟩:=h.jB;subst e;unfold ar at j F;rw[F] at j;injection j with j;injection j with _ j;exact absurd j Od
 have r:∀{g:Nat},g<wB.heap.size->g≠ob->(m.setCell (aB ob 0) q).heap[g]?=W.heap[g]?:=fun {g} C K=>(s.block g (cE (G C) y.size) (by simpa using K)).trans (y.block g (G C) fun e=>by have:=(i.lt g e.symm).1;omega);have hJ:gJ x (aX x D) jb pb (m.setCell (aB ob 0) q):=(by exact h.jB.asD (r h.lt.2.2.2.2.2.2.1 L) o)
 refine⟨⟨?_,hJ,z h.be Od h.lt.2.2.1,z h.bj Od h.lt.2.2.2.1,z h.br Od h.lt.2.2.2.2.1,⟨O,Z0,N,M,R,Y0,Q,P,X,O0,V,U,T,Q0,q1,q2,ez,f1.keep (o _ Od Od),f2.keep (o _ Od Od)⟩,z h.ba Od h.lt.2.2.2.2.2.1,fN wu h.fl (fun f w=> ?_),fN cI h.il (fun f w=> ?_),⟨q,I.bu 0 q,?_⟩,(h.tab.grow i y h.tl).asy I s,h.tl,?_,(h.ch.grown i y (aK _)).only s (.inl Ou)⟩,(((fE.of (.ij (aC W))).grow i y).only s (.inl Ou))⟩
 ·exact h.jm.keep (r h.lt.1 J) (o _ Od Od) (o _ Od Od)
 ·exact o f azp azp
 ·exact o f azp azp
 ·rw[mL];exact(iN kj (fun f w=>by rw[bG.1 w];decide) i hc Y Z y).only kj s h.lt.2.1 fun f w=>by rw[bG.1 w];exact s.kept I Od
 ·exact⟨h.lt.1,h.lt.2.1,h.lt.2.2.1,h.lt.2.2.2.1,h.lt.2.2.2.2.1,h.lt.2.2.2.2.2.1,h.lt.2.2.2.2.2.2.1,a8 h.lt.2.2.2.2.2.2.2 (a8 y.size s.size)⟩
theorem amu{zq:Fu->aF->Rat}{b c:Nat}{k:List aF}{f0:Fo}(h:nj x D jb pb eb jx rb ab ob wB zs fs attrs Af cf Aa ca vl done W)(ok:cF x)(hD:jD x D)(a6:x.aq.length<=6)(r6:x.aA.length<=6)(yZ:0<d)(yY:1000000*d<=e)(yX:e<10^100)(s:X4 x (aX x D) fs zq d e)
 (hw:Whole x.aq.length (bJ x) (bV x) f0) (pY:∀k,vl k=oU (bJ x) (univ (aX x D)) f0 (fun _=> []) (fun v t=>gS v (fun f=>zq f t) fs) (bR (aX x D)) (eO (fun _=>none) attrs k)) (Cc:∀k,bS 1000 (vl k))
 (hF:kZ W b (eO (fun _=>none) attrs k)) (hb:wB.heap.size<=b) (hd:done.length<2000) (hT:TL W (.slice E k.length c) k):
 Calls prog 80 #[.slice E k.length c,.map (some b),aJ ob 0,aJ eb 0,aJ jx 0,aJ rb 0,aJ ab 0] W fun n o=>n= .returned (.bool true)/\nj x D jb pb eb jx rb ab ob wB zs fs attrs Af cf Aa ca vl (done++ [k]) o/\fE [pb,ob] eT W o:=by
 have HI:=af h;obtain⟨z0,Z0,z1,z2,y0,Y0,y1,y2,o0,O0,o1,o2,q0,Q0,q1,q2,rfl,f1,f2⟩:=h.hz;obtain⟨v,Mw,hOw⟩:=h.WU;have hlen:(done.map fun k=>(k,vl k)).length=done.length:=cy ..;obtain⟨Ao0,co0,uZ,rfl,_,_, -, -⟩:=hOw.parts;have jR:jb≠pb:=(by obtain⟨E,c,B,m,g,n,At,ct,Al,cl,l,hB,_⟩:=h.jB;exact h.jm.ne hB)
 have hbp:b≠pb:=by have:=h.lt.1;omega
 have CR:=af (fun W' (Q:Ext W W')=>aqv jb pb x D ok hD a6 r6 d e yZ yY yX (some b) (eO (fun _=>none) attrs k) (yj (eO (fun _=>none) attrs k) (fun v t=>gS v (fun f=>zq f t) fs)) 82 (aJ ab 0) z0 Z0 z1 z2 y0 Y0 y1 y2 o0 O0 o1 o2 q0 Q0 q1 q2 W' (h.jB.ext Q) (h.jm.ext Q) jR
  (fun W2 hc=>NL.look (hF.same ((hc.block b (cE hF.lt Q.size) (by simpa using hbp)).trans (Q.block b hF.lt))).fxM) (f1.ext Q) (f2.ext Q) (fun v t ht=>alL _ v t ht) (fun v t _ _=>by
    unfold yj;split
    ·exact s.gg v t
    ·exact iL.zero.mono Om (aT _) (aT _)) (fun _ _=>by rfl)
  (fun W2 hc v t hv avn ru=>by rw[alK _ v t ru];have h2:=h.ext Q;exact apn Af cf ab (.slice Aa attrs.length ca) fs v t (fun f=>zq f t) W2 (h2.ba.only hc.PU (h2.jm.ne h2.ba)) (fN wu h2.fl fun u _=>h2.jm.kept hc u) (fun f hf n=>s.hz f hf t (by rw[n];exact avn)) (fun i O=>s.hp v t i O) (fun f hf _=>s.hf f hf t) Om))
 have HV:ah (∀p m,dp x.aq.length p m->Whole x.aq.length (bJ x) (bV x) (eF x.aq.length p (gD x m) x.aq.length none)->(gm.prod (kids x.aq.length p none) fun c=>vT gm x (aX x D) p (gD x m) (yj (eO (fun _=>none) attrs k) (fun v t=>gS v (fun f=>zq f t) fs)) (fun k=>(k:Rat)) (univ (aX x D)) c fun _=> [])=vl k):=fun p m r w=>by rw[aqu r,pY k];exact acr w hw (Hi _) (Hi _) (fun _ h=>h) (fun h _ y hy t ht=>by obtain⟨l,hl,hy⟩:=Va hy;exact U9 hl hy ht) fun v hv=>by obtain⟨r,hr,hm⟩:=ok.used v hv;obtain⟨i,O,n⟩:=ju hr;exact⟨i,dP.2 O,(wD O fun b hb=>(ok.ri _ (aZ O) b hb).1).2 (by rw[n];exact hm)⟩
 have HVF:=af (Cc k);have HT:=af hT;have c2:=Mw.aD 0;have c4:=h.bj.aD 0;have r0:=h.br.aD 0;have r1:=h.br.aD 1;have r2:=h.br.aD 2;have r3:=h.br.aD 3;have r4:=h.br.aD 4;have r5:=h.br.aD 5;have r6':=h.br.aD 6;have r7:=h.br.aD 7;have r8:=h.br.aD 8;have r9:=h.br.aD 9;have Yi:=h.br.aD 10;have hlt:=h.lt;have JK:=af (CR W (aC W));clear h Mw hOw f1 f2 hF pY Cc s hw yZ yY yX hT;generalize hG:(done.map fun k=>(k,vl k))=G at*;have HG:=af hG;have hn:((G.length:Int)==2000)=false:=beq_eq_false_iff_ne.2 Om;have hGl:G.length<=2000:=Om;clear hG hlen;go_enter func80,ntmps80;go_upto_region 4 with fail
 go_wp2_with fail
 refine JK.mono ?_;rintro e1 w1 ⟨u,p,m,rfl,hr,lw,hu,L,F⟩;rw[HV.ae p m hr lw] at hu;have xF:=af (HI.Qb F L);have kf:=af F;have ug:=af (fN jY HT fun u _=>HI.jm.kept F u);have sL:=af hu;obtain⟨a0,A0,a1,a2,b0,B0,b1,b2,rfl, -, -⟩:=hu.parts;clear hr lw hu L F c2 c4 r0 r1 r2 r3 r4 r5 r6' r7 r8 r9 Yi;go_upto_region 5 with fail
 refine Lb sL fun w2 Y M3 _=> ?_;obtain⟨a0,A0,a1,a2,b0,B0,b1,b2,V,hF2⟩:=M3.ae;have J:=af (xF.ext Y);have fR:=af (kf.ext Y);have kW:=af (cQ ug Y);have E_:w1.heap.size<w2.heap.size:=V.lt;have axU:=kf.size;generalize w1.heap.size=sb at*;have eE:=af V;have uo:=af hF2;clear V hF2;obtain⟨v2,Mv,M⟩:=J.WU;rw[HG.ae] at M;obtain⟨Ao,co,xs,rfl,_,_,HOr,xD⟩:=M.parts;have HBO:=af Mv;have hgb:=J.lt.2.2.2.2.2.2.2;clear Mv M;obtain⟨S,R⟩:∃S:World->Prop,S=fun o=>ay o ob 0 (.slice Ao G.length co)/\F4 o sb (.bool a0) (.slice A0 a1 a2) (.bool b0) (.slice B0 b1 b2):=⟨_,rfl⟩;have bL:ah (∀o,S o->ay o ob 0 (.slice Ao G.length co)/\ay o sb 0 (.bool a0)/\ay o sb 1 (.slice A0 a1 a2)/\ay o sb 2 (.bool b0)/\ay o sb 3 (.slice B0 b1 b2)):=by rw[ah,R];exact fun _ h=>h
 have Z:ah (∀o,Ext w2 o->S o):=(by rw[ah,R];exact fun o hx=>⟨(HBO.ext hx).aD 0,(eE.ext hx).four⟩);clear R;have I:=af (aC w2).drew;have aH:=af (Z _ I);refine b9 (S:=S) (T:=fun j=>decide (6<=j)) Ok ?_;generalize w2.drew=wd at*;refine ax 0 19 ?_;refine ax 1 20 ?_;refine ax 2 21 ?_;refine aL 3 ?_;intro K C;go_simp;refine(aeh _ _ wd (uo.ext I) HVF Od (J.tab.ext I)).mono ?_;rintro e3 w3 ⟨rfl,hx3⟩;have X:=af (I.trans hx3);have n9:=af (Z _ X);refine C.ae _ _ (fun _=>n9.ae) ?_;clear C hx3;have aH:=n9;refine ax 4 23 ?_;refine aL 5 ?_;intro K C;go_simp;refine C.ae _ _ (fun _=>Z _ (X.alloc _)) ?_;refine aP fun WZ cD BZ=> ?_;have q:=af (X.trans cD);have rp:=q.size;have HIZ:=af (J.ext q);have xz:=af (cQ kW q);have A:=af (jM HOr q);have HCZ:=af (lg (fun c x hc=>kj _ _ _ _ (fun _ _=>rL q) hc) xD);clear C;have cK:(G.length+1)*40<=140737488355328:=Om;refine aL 6 ?_;intro K C;refine mr rfl ?_;refine qO _ _ lh rfl wB.heap.size U0 _ _ _ rfl A.ae _ [.slice E k.length c,aO (cL (vl k))] BZ.ae 1 1 rfl rfl rfl cK Om ?_;intro v' w5 N P _;obtain⟨A5,c5,rfl, -, -, -⟩:=dZ N;obtain⟨w6,yL⟩:∃w6,w5.setCell (aB ob 0) (.slice A5 (G.length+1) c5)=w6:=⟨_,rfl⟩;have U:=HBO.ext q;have H:=ip U A P hlt.2.1;have hG:=HG.ae;subst hG;have z:=HIZ.more U A HCZ (k:=k) ⟨E,c,rfl,xz⟩ N P yL;have nB:=af z.1;have nD:=af ((fE.of (fR.mono fun i O _=>aI.2 (.inl (bG.1 O)))).trans ((fE.of (.ij q.ae)).trans z.2));rw[cy] at yL;have p5:=H.aD 0;have q5:=H.frozen 0;have Y3:=H.lt;clear z U H N P;simp only[Act.put,dN,dB,dO];refine C.ae _ _ Oy9 ?_;clear C;refine aL 7 ?_;intro K C;go_simp;refine C.ae _ _ Oy9 ?_;refine bY Ok ?_;clear C;go_wp2_with fail
 exact bodyPost_ret (v:= .bool true) (by simp [results,results80,go_sem]) rfl ⟨rfl,nB,nD⟩
end
section
variable{adj:Nat->Nat->Prop}
noncomputable def jE(adj:Nat->Nat->Prop):VS->List Nat->(Nat->Option Nat)->(Nat->Option Nat)
 |_,[],p=>p
 |rest,a::l,p=>jE adj (rest.less (VS.one a)) l fun b=>if b≠a/\part adj rest a b=true then some a else p b
theorem qN{rest:VS}:(rest.less (VS.one a)) b=true↔rest b=true/\b≠a:=by unfold VS.less VS.one;rw[cZ,uA,beq_eq_false_iff_ne]
theorem Wq(h:a≠b):(a::i).idxOf b=i.idxOf b+1:=by rw[Tu,beq_eq_false_iff_ne.2 h];rfl
theorem VQ(f:∀a b,adj a b->adj b a):∀(l:List Nat) (rest:VS) (p:Nat->Option Nat) (b:Nat),(∀a∈l,rest a=true)->l.Nodup->rest b=false->jE adj rest l p b=p b
 | [],_,_,_,_,_,_=>rfl
 |a::l,rest,p,b,g,d,e=>by
  rw[ja] at d;show jE adj (rest.less (VS.one a)) l _ b=_
  rw[VQ f l _ _ b (fun c i=>qN.2 ⟨g c (sS _ i),fun j=>d.1 (by rw[<-j];exact i)⟩) d.2 (by rw[<-uE,qN];rintro⟨h, -⟩;rw[e] at h;cases h)];refine if_neg ?_;rintro⟨-,h⟩;rw[rR f (g a lI) h] at e;cases e
theorem aeN(n:∀a b,adj a b->adj b a):∀(l:List Nat) (rest:VS) (p:Nat->Option Nat),(∀a,a∈l↔rest a=true)->l.Nodup->∀b∈l,jE adj rest l p b=p b\/∃a∈l,jE adj rest l p b=some a/\l.idxOf a<l.idxOf b
 | [],_,_,_,_,b,m=>by cases m
 |a::l,rest,p,q,f,b,m=>by
  rw[ja] at f;have g:∀c,c∈l↔(rest.less (VS.one a)) c=true:=fun c=>by
   rw[qN,<-q c,aI];constructor
   ·exact fun h=>⟨.inr h,fun e=>f.1 (e▸h)⟩
   ·rintro⟨i|i,o⟩
    ·exact absurd i o
    ·exact i
  show jE adj (rest.less (VS.one a)) l _ b=_\/∃c∈a::l,jE adj (rest.less (VS.one a)) l _ b=some c/\_
  by_cases d:b=a
  ·subst d;left;rw[VQ n l _ _ b (fun c j=>(g c).1 j) f.2 (by rw[<-uE,qN];exact fun h=>h.2 rfl)];exact if_neg fun h=>h.1 rfl
  ·have k:b∈l:=by
    rcases aI.1 m with h|h
    ·exact absurd h d
    ·exact h
   rcases aeN n l _ (fun b=>if b≠a/\part adj rest a b=true then some a else p b) g f.2 b k with h|⟨c,j,i,o⟩
   ·rw[h];split
    ·refine .inr ⟨a,lI,rfl,?_⟩;rw[List.idxOf_cons_self,Wq (fun e=>d e.symm)];omega
    ·exact .inl rfl
   ·refine .inr ⟨c,sS _ j,i,?_⟩;rw[Wq (fun e=>d e.symm),Wq (fun e=>f.1 (by rw[e];exact j))];omega
theorem VR(f:∀a b,adj a b->adj b a):∀(l:List Nat) (rest:VS) (p:Nat->Option Nat),(∀a,a∈l↔rest a=true)->l.Nodup->∀(u:Option Nat) (b:Nat),b∈l->(∀x,part adj rest b x=true->p x=u)->dM (jE adj rest l p) u b
 | [],_,_,_,_,_,b,t,_=>by cases t
 |a::l,rest,p,w,q,u,b,t,v=>by
  rw[ja] at q;have i:∀c,c∈l↔(rest.less (VS.one a)) c=true:=fun c=>by
   rw[qN,<-w c,aI];constructor
   ·exact fun h=>⟨.inr h,fun C=>q.1 (C▸h)⟩
   ·rintro⟨k|k,A⟩
    ·exact absurd k A
    ·exact k
  have g:rest a=true:=(w a).1 lI;have n:rest b=true:=(w b).1 t;have o:jE adj rest (a::l) p a=p a:=by
   show jE adj (rest.less (VS.one a)) l _ a=_
   rw[VQ f l _ _ a (fun c D=>(i c).1 D) q.2 (by rw[<-uE,qN];exact fun h=>h.2 rfl)];exact if_neg fun h=>h.1 rfl
  have d:∀{x y},part adj (rest.less (VS.one a)) x y=true->part adj rest x y=true:=fun h=>fK.2 ((fK.1 h).mono fun z B=>(qN.1 B).1);by_cases j:b=a
  ·subst j;have k:p b=u:=v b (fK.2 .refl);rw[<-k,<-o];exact dM.step b
  ·have r:b∈l:=by
    rcases aI.1 t with h|h
    ·exact absurd h j
    ·exact h
   by_cases e:part adj rest a b=true
   ·have k:dM (jE adj rest (a::l) p) (some a) b:=by
     refine VR f l (rest.less (VS.one a)) (fun b=>if b≠a/\part adj rest a b=true then some a else p b) i q.2 (some a) b r fun x s=>if_pos ⟨?_,?_⟩
     ·exact(qN.1 (rR f (qN.2 ⟨n,j⟩) s)).2
     ·rw[<-Em f g e];exact d s
    have A:p a=u:=v a (by rw[Em f g e];exact fK.2 .refl);have E:dM (jE adj rest (a::l) p) u a:=(by rw[<-A,<-o];exact dM.step a)
    exact E.trans k
   ·refine VR f l (rest.less (VS.one a)) (fun b=>if b≠a/\part adj rest a b=true then some a else p b) i q.2 u b r fun x s=> ?_;have m:=d s;rw[if_neg]
    ·exact v x m
    ·rintro⟨-,h⟩;have G:=Em f n m;have F:=Em f g h;rw[<-F,G] at e;exact e (fK.2 .refl)
theorem aeM(k:∀a b,adj a b->adj b a):∀(l:List Nat) (rest:VS) (p:Nat->Option Nat),(∀a,a∈l↔rest a=true)->l.Nodup->∀x∈l,∀y∈l,adj x y->x≠y->dM (jE adj rest l p) (some x) y\/dM (jE adj rest l p) (some y) x
 | [],_,_,_,_,x,r,_,_,_,_=>by cases r
 |a::l,rest,p,v,q,x,r,y,u,f,n=>by
  rw[ja] at q;have i:∀c,c∈l↔(rest.less (VS.one a)) c=true:=fun c=>by
   rw[qN,<-v c,aI];constructor
   ·exact fun h=>⟨.inr h,fun B=>q.1 (B▸h)⟩
   ·rintro⟨e|e,d⟩
    ·exact absurd e d
    ·exact e
  have s:rest a=true:=(v a).1 lI;have g:∀{x y},part adj (rest.less (VS.one a)) x y=true->part adj rest x y=true:=fun h=>fK.2 ((fK.1 h).mono fun z o=>(qN.1 o).1);have j:∀b∈l,adj a b->dM (jE adj rest (a::l) p) (some a) b:=fun b w t=>by have m:=(i b).1 w;have A:part adj rest a b=true:=fK.2 (.step .refl t (qN.1 m).1);refine VR k l (rest.less (VS.one a)) (fun b=>if b≠a/\part adj rest a b=true then some a else p b) i q.2 (some a) b w fun z o=>if_pos ⟨(qN.1 (rR k m o)).2,?_⟩;rw[<-Em k s A];exact g o
  rcases aI.1 r with e|e
  ·subst e;rcases aI.1 u with d|d
   ·exact absurd d.symm n
   ·exact .inl (j y d f)
  ·rcases aI.1 u with d|d
   ·subst d;exact .inr (j x e (k _ _ f))
   ·exact aeM k l (rest.less (VS.one a)) (fun b=>if b≠a/\part adj rest a b=true then some a else p b) i q.2 x e y d f n
def o9(p:Nat->Option Nat):Nat->Nat->Nat
 |0,_=>0
 |k+1,v=>match p v with
  |none=>0
  |some a=>o9 p k a+1
theorem aqA(s:∀d,d∈i↔d<a)(z:i.length=a)(m:∀b∈i,y b=none\/∃d∈i,y b=some d/\i.idxOf d<i.idxOf b):dp a y (o9 y a):=by
 have x:∀(k v:Nat),v∈i->i.idxOf v<=k->o9 y k v<=i.idxOf v:=by
  intro k;induction k with
  |zero=>exact fun v _ _=>aT _
  |succ k q=>
   intro v j t;rw[o9];rcases m v j with h|⟨d,g,f,o⟩
   ·rw[h];exact aT _
   ·rw[f];have:=q d g Om;show o9 y k d+1<=_
    omega
 have r:∀(k v:Nat),v∈i->i.idxOf v<=k->o9 y (k+1) v=o9 y k v\/k=0/\y v=none:=by
  intro k;induction k with
  |zero=>
   intro v j t;rcases m v j with h|⟨d,g,f,o⟩
   ·exact .inr ⟨rfl,h⟩
   ·omega
  |succ k q=>
   intro v j t;left;rw[o9,o9];rcases m v j with h|⟨d,g,f,o⟩
   ·rw[h]
   ·rw[f];show o9 y (k+1) d+1=o9 y k d+1
    rcases q d g Om with e|⟨rfl,e⟩
    ·rw[e]
    ·show o9 y 1 d+1=0+1
     rw[o9,e]
 refine⟨fun d g=> ?_,fun d g h=> ?_,fun d b g h=> ?_⟩
 ·have f:=(s d).2 g;have o:=aaf.2 f;have:=x a d f Om;omega
 ·cases a with
  |zero=>rfl
  |succ a=>rw[o9,h]
 ·have f:=(s d).2 g;rcases m d f with e|⟨c,u,e,A⟩
  ·rw[e] at h;cases h
  ·rw[e] at h;injection h with h;subst h;refine⟨(s c).1 u,?_⟩;cases a with
   |zero=>omega
   |succ a=>
    rw[o9,e];show o9 y a c+1=_
    have o:=aaf.2 f;rcases r a c u Om with w|⟨rfl,w⟩
    ·rw[w]
    ·omega
theorem afu(r:dp a y J)(m:c<a)(q:dM y (some b) c):b∈mA y (J c) c:=by
 have i:∀(o:Option Nat) (c:Nat),dM y o c->∀b,o=some b->c<a->b∈mA y (J c) c:=by
  intro o c h;induction h with
  |step e=>intro b j g;rw[(Qa r g).1,j];exact lI
  | @up o f e k s l=>intro b j g;rw[(Qa r g).1,k];exact sS _ (l b j (r.up e f g k).1)
 exact i _ _ q b rfl m
end
structure Qk(x:aQ)(p:Nat->Option Nat)(d:Nat->Nat):Prop where
 WS:dp x.aq.length p d
 way:∀r∈x.aA,∀a∈r.2,∀b∈r.2,a≠b->a.toNat∈mA p (d b.toNat) b.toNat\/b.toNat∈mA p (d a.toNat) a.toNat
def oJ(c:List Rl)(a b:Int):Bool:=c.any fun r=>r.2.contains a&&r.2.contains b
abbrev jg(aA:List Rl)(a b:Nat):Prop:=oJ aA a b=true
def adp(c:List Rl):∀a b,jg c a b->jg c b a:=fun a b h=>by unfold jg oJ at*;rw[qG] at*;obtain⟨r,e,d⟩:=h;exact⟨r,e,by rw[Bool.and_comm];exact d⟩
def ak9{d:List Rl}{a b:Int}(h:c<d.length):oJ (d.take (c+1)) a b=(oJ (d.take c) a b||(d[c].2.contains a&&d[c].2.contains b)):=by unfold oJ;rw[g9 h,aaP];simp only[TA,TR,xQ]
def amJ(v:Value)(x:aQ)(a b:Int)(w:au)(h:dK w v x):
 Calls prog 235 #[v,av a,av b] w fun e Y=>e= .returned (.bool (oJ x.aA a b))/\Ext w Y:=by
 obtain⟨A,c,B,d,D,e,rfl,ha,Q,hf⟩:=h;obtain⟨-,J,kB⟩:=bE Q;have U:=af Q;obtain⟨n,u⟩:∃n,x.aA.length=n:=⟨_,rfl⟩;have y:=af u;rw[u] at J U⊢;go_enter func235,ntmps235;go_upto_region 1 with fail
 refine aP fun W HX BX=> ?_;obtain⟨s0,s1,s2,s3⟩:=BX.four;have Z:oJ (x.aA.take 0) a b=false:=rfl;have HZ:=af Z;go_upto_region 2 with fail
 go_loopw [8,12] (fun _ j wr=>∃i:Nat,i<=n/\j=av i/\ah (oJ (x.aA.take i) a b=false)/\ah (Ext w wr)) (fun _ j _=>n - (RowKit.intOf j).toNat)
 exact⟨0,aT _,rfl,HZ,HX⟩;obtain⟨i,hi,rfl,L,k⟩:=hrel;by_cases I:i<n
 ·have s:i<x.aA.length:=by rw[y.ae];exact I
  obtain⟨g,o,V,P,R,rfl,hg,H,G,f⟩:=qQ (bX oF U k) s;have m:=af (ak9 (a:=a) (b:=b) s);have HT:ah (oJ (x.aA.take (i+1)) a b=true->oJ x.aA a b=true):=fun h=>by unfold oJ at*;rw[qG] at*;obtain⟨r,h1,h2⟩:=h;exact⟨r,sR h1,h2⟩
  have f:=af f;generalize x.aA[i]=rel at*;obtain⟨rn,q⟩:=rel;simp only at H G f m;go_upto_region 4 with fail
  refine aP fun T l X=> ?_;have K:=af (Pm V P R q a T (iP f l));have N:=af (k.trans l);obtain⟨b0,b1⟩:=X.two;go_wp2_with fail
  refine K.mono ?_;rintro e2 w2 ⟨rfl,F,rfl⟩;have E:=af (N.drewN F);have z:=af (iP f (l.drewN F));obtain⟨c0,c1⟩:=(X.drewN F).two;generalize T.drewN F=S at*;cases t:q.contains a with
  |false=>
   have p:ah (oJ (x.aA.take (i+1)) a b=false):=by rw[ah,m.ae,L.ae,t];rfl
   go_wp2_with fail
   go_roundw;exact⟨i+1,by omega,by go_num,p,E⟩;simp [RowKit.intOf];omega
  |true=>
   have K:=af (Pm V P R q b S z);have p:ah (oJ (x.aA.take (i+1)) a b=q.contains b):=by rw[ah,m.ae,L.ae,t];simp
   go_wp2_with fail
   refine K.mono ?_;rintro e4 w4 ⟨rfl,O,rfl⟩;have C:=af (E.drewN O);generalize S.drewN O=W4 at*;cases t:q.contains b with
   |false=>rw[t] at p;go_wp2_with fail;go_roundw;exact⟨i+1,by omega,by go_num,p,C⟩;simp [RowKit.intOf];omega
   |true=>
    rw[t] at p;have M:=af (HT p);go_wp2_with fail
    exact bodyPost_ret (v:= .bool true) (by simp [results,results235,go_sem]) rfl ⟨by rw[M.ae],C⟩
 ·have M:ah (oJ x.aA a b=false):=(by have h:=L.ae;rwa[dA (by rw[y.ae];omega)] at h);have d1:decide ((i:Int)<(n:Int))=false:=aW;go_wp2_with fail;exact bodyPost_ret (v:= .bool false) (by simp [results,results235,go_sem]) rfl ⟨by rw[M.ae],k⟩
structure zM(adj:Nat->Nat->Prop)(rest:VS)(a n:Nat)(on:VS):Prop where
 sub:∀b,on b=true->b<n/\Reach adj rest a b
 self:on a=true
def NN(adj:Nat->Nat->Prop)(rest:VS)(n:Nat)(on:VS):Prop:=∀x y,x<n->y<n->on x=true->on y=false->rest y=true->¬adj x y
def zM.done{adj:Nat->Nat->Prop}{rest:VS}{n:Nat}{on:VS}(h:zM adj rest a n on)(l:NN adj rest n on)(g:∀b,rest b=true->b<n)(b:Nat):on b=true↔Reach adj rest a b:=by
 refine⟨fun d=>(h.sub b d).2,fun d=> ?_⟩;induction d with
 |refl=>exact h.self
 |step o k f e=>
  rename_i x y;cases c:on y with
  |true=>rfl
  |false=>exact absurd k (l x y (h.sub x e).1 (g y f) e c f)
def tH(n:Nat)(on:VS):Nat:=(List.range n).countP fun b=> !on b
def mB(on:VS)(j:Nat):VS:=fun b=>if b=j then true else on b
def ao9{n j:Nat}{on:VS}(g:j<n)(h:on j=false):tH n (mB on j)<tH n on:=by
 have f:=T_ (c:=fun b=> !on b) (a:=j) azQ (dP.2 g);have e:VS.less (fun b=> !on b) (VS.one j)=fun b=> !mB on j b:=by
  funext b
  unfold VS.less VS.one mB;by_cases d:b=j
  ·subst d;simp
  ·rw[if_neg d,beq_eq_false_iff_ne.2 d];simp
 rw[e] at f;exact f
def WV:Value->Bool
 | .bool false=>true
 |_=>false
def Lz(w:au)(g:Nat):Nat:=match w.heap[g]? with
 |some (.cells a _ _)=>a.toList.countP WV
 |_=>0
def aeL{n:Nat}{on:VS}(h:ar o a gh (gf n on)):Lz o a=tH n on:=by
 unfold ar at h;unfold Lz;rw[h];show(gf n on).countP WV=_
 unfold gf tH;rw[List.countP_map];congr 1;funext b;show WV (.bool (on b))=_
 cases on b<;>rfl
def bN:Value->Nat
 | .bool true=>1
 |_=>0
structure pz(adj:Nat->Nat->Prop)(rest:VS)(n i j:Nat)(m:Bool)(sj on:VS):Prop where
 eq:m=false->on=sj/\∀x y,(x<i\/(x=i/\y<j))->x<n->y<n->sj x=true->sj y=false->rest y=true->¬adj x y
 lt:m=true->tH n on<tH n sj
 le:tH n on<=tH n sj
section
variable{adj:Nat->Nat->Prop}{rest:VS}{n i j:Nat}{m:Bool}{sj on:VS}
theorem pz.start:pz adj rest n 0 0 false on on:=⟨fun _=>⟨rfl,fun x y h=>by omega⟩,fun h=>(by cases h),aK _⟩
theorem pz.skip(h:pz adj rest n i j m sj on)(d:on i=true->on j=false->rest j=true->¬adj i j):pz adj rest n i (j+1) m sj on:=⟨fun f=>by
 obtain⟨rfl,g⟩:=h.eq f;refine⟨rfl,fun x y b c a=> ?_⟩;by_cases e:x=i/\y=j
 ·obtain⟨rfl,rfl⟩:=e;exact d
 ·exact g x y Om c a,h.lt,h.le⟩
theorem pz.put(h:pz adj rest n i j m sj on)(c:j<n)(a:on j=false):pz adj rest n i (j+1) true sj (mB on j):=by have:=ao9 c a;have:=h.le;exact⟨fun b=>(by cases b),fun _=>by omega,by omega⟩
theorem pz.row(h:pz adj rest n i n m sj on):pz adj rest n (i+1) 0 m sj on:=⟨fun d=>by obtain⟨rfl,e⟩:=h.eq d;exact⟨rfl,fun x y b c a=>e x y Om c a⟩,h.lt,h.le⟩
theorem pz.all(h:pz adj rest n n 0 false sj on):NN adj rest n on:=by obtain⟨rfl,c⟩:=h.eq rfl;exact fun x y a b=>c x y (.inl a) a b
theorem zM.put(h:zM adj rest a n on)(f:j<n)(g:on i=true)(d:rest j=true)(k:adj i j):zM adj rest a n (mB on j):=⟨fun b c=>by
 unfold mB at c;split at c
 ·rename_i e;subst e;exact⟨f,.step (h.sub i g).2 k d⟩
 ·exact h.sub b c,by
 unfold mB;split
 ·rfl
 ·exact h.self⟩
end
def ap1(v:Value)(x:aQ)(n a M:Nat)(rest:VS)(w:au)(h:dK w v x)(hN:x.aq.length=n)(hn:n<=12)(U:a<n)(hr:∀b,rest b=true->b<n)(Q:ar w M gh (gf n fun b=> !rest b)):
 Calls prog 181 #[v,aG M 0 n n,av a] w fun e w'=>∃g on,e= .returned (aG g 0 n n)/\ar w' g gh (gf n on)/\w.heap.size<=g/\(∀b,on b=true↔Reach (jg x.aA) rest a b)/\Ext w w':=by
 have CS:=af (fun W i j (hX:Ext w W)=>amJ v x i j W (h.ext hX));obtain⟨A,c,B,d,D,e,rfl,hat,lx,Fr⟩:=h;have HR:=af hr;have HRM:=af Q;subst hN;generalize wX:x.aq.length=n at*;have R:=Kj n Om;have e0:List.replicate n (Value.bool false)=gf n fun _=>false:=(OO (n:=n) (v:= .bool false)).symm;rw[e0] at R;go_enter func181,ntmps181;go_upto_region 1 with fail
 refine aP fun W l BX=> ?_;have s0:=BX.aD 0;go_upto_region 2 with fail
 refine aP fun W2 aY N=> ?_;have js:=af (BX.ext aY);have Z:=af (l.trans aY);have E:w.heap.size<=W.heap.size:=l.size;have hgx:w.heap.size<W.heap.size:=BX.lt;generalize W.heap.size=k at*;have q0:=N.cell (rP U);have f0:=N.frozen a;obtain⟨X,V,B3,K3,N3⟩:=gp (i:=a) N (.bool true);have HW3:=af V;have hli:k<W2.heap.size:=N.lt;go_upto_region 3 with fail
 have e3:(gf n fun _=>false).set a (.bool true)=gf n (mB (fun _=>false) a):=OV U;have B30:ah (ar X k gh (gf n (mB (fun _=>false) a))):=by rw[<-e3];exact B3
 have I:ah (Ext w X):=Z.only N3 E;have L:ah (ar X w.heap.size kN [.slice A n c,.slice B x.aA.length d,.slice D x.bk.length e,av x.label]):=js.only N3 Om;have zC:ah (zM (jg x.aA) rest a n (mB (fun _=>false) a)):=by
  refine⟨fun b T=> ?_,by unfold mB;rw[if_pos rfl]⟩;unfold mB at T;split at T
  ·rename_i e;subst e;exact⟨U,.refl⟩
  ·cases T
 have NH:ah (true=false->NN (jg x.aA) rest n (mB (fun _=>false) a)):=fun h=>by cases h
 go_upto_region 4 with fail
 go_loopw [8,9,10] (fun u _ _ wr=>∃(m:Bool) (on:VS),u= .bool m/\ah (ar wr k gh (gf n on))/\ah (zM (jg x.aA) rest a n on)/\ah (m=false->NN (jg x.aA) rest n on)/\ah (ar wr w.heap.size kN [.slice A n c,.slice B x.aA.length d,.slice D x.bk.length e,av x.label])/\ah (Ext w wr)) (fun u _ _ wr=>2*Lz wr k+bN u)
 exact⟨true,_,rfl,B30,zC,NH,L,I⟩;obtain⟨m,on,rfl,HB,HI,HC,BX,HE⟩:=hrel;cases m with
 |false=>
  have H:=HI.done (HC rfl) HR;have HF:=af H;go_wp2_with fail
  exact bodyPost_ret (v:=aG k 0 n n) (by simp [results,results181,go_sem]) rfl ⟨k,rfl,on,HB,E,HF,HE⟩
 |true=>
  have HM:ah (2*Lz wr k+1=2*tH n on+1):=by rw[ah,aeL HB.ae]
  have Y:ah (pz (jg x.aA) rest n 0 0 false on on):= .start;go_upto_region 7 with fail
  go_loopw [8,9,10,21] (fun u _ _ z P=>∃(i:Nat) (m:Bool) (p:VS),i<=n/\z=av i/\u= .bool m/\ah (ar P k gh (gf n p))/\ah (zM (jg x.aA) rest a n p)/\ah (pz (jg x.aA) rest n i 0 m on p)/\ah (ar P w.heap.size kN [.slice A n c,.slice B x.aA.length d,.slice D x.bk.length e,av x.label])/\ah (Ext w P)) (fun _ _ _ z _=>n - (RowKit.intOf z).toNat)
  exact⟨0,false,on,aT _,rfl,rfl,HB,HI,Y,BX,HE⟩;obtain⟨i,m,p,hi,rfl,rfl,HB,HI,l,BX,HE⟩:=hrel;by_cases S:i<n
  ·go_upto_region 10 with fail
   go_loopw [8,10,26] (fun u _ y O=>∃(j:Nat) (m:Bool) (o3:VS),j<=n/\y=av j/\u= .bool m/\ah (ar O k gh (gf n o3))/\ah (zM (jg x.aA) rest a n o3)/\ah (pz (jg x.aA) rest n i j m on o3)/\ah (ar O w.heap.size kN [.slice A n c,.slice B x.aA.length d,.slice D x.bk.length e,av x.label])/\ah (Ext w O)) (fun _ _ y _=>n - (RowKit.intOf y).toNat)
   exact⟨0,m,p,aT _,rfl,rfl,HB,HI,l,BX,HE⟩;obtain⟨j,m,o3,hj,rfl,rfl,HB,HI,l,BX,HE⟩:=hrel;by_cases f:j<n
   ·have pi:=HB.cell (rP S);have pj:=HB.cell (rP f);have F:=(HRM.ext HE).cell (rP f);have CS1:=af (CS wr i j HE);have hw:=HB.lt;have t:=af l.skip;go_upto_region 12 with fail
    cases s:o3 i with
    |false=>rw[s] at pi;have aY:=af (t fun h=>by rw[s] at h;cases h);exact Yp
    |true=>
     rw[s] at pi;cases r:o3 j with
     |true=>rw[r] at pj;have aY:=af (t fun _ h=>by rw[r] at h;cases h);exact Yp
     |false=>
      rw[r] at pj;cases q:rest j with
      |false=>rw[q] at F;have F:ay wr M j (.bool true):=F;have aY:=af (t fun _ _ h=>by rw[q] at h;cases h);exact Yp
      |true=>
       rw[q] at F;have F:ay wr M j (.bool false):=F;obtain⟨s0,s1,s2,s3⟩:=BX.four;have HOI:=af s;have HOJ:=af r;have HRJ:=af q;go_wp2_with fail
       refine CS1.mono ?_;rintro e5 w5 ⟨rfl,C⟩;have o:=af (HB.ext C);have K:=af (BX.ext C);have J:=af (HE.trans C);cases G:oJ x.aA i j with
       |false=>have aY:=af (t fun _ _ _ h=>by rw[jg,G] at h;cases h);go_wp2_with fail;go_roundw;exact⟨j+1,m,o3,by omega,by go_num,by first|rfl|trivial,o,HI,aY,K,J⟩;simp [RowKit.intOf];omega
       |true=>
        have aY:=af (l.put f HOJ);have sN:=af (HI.put f HOI HRJ G);have q0:=o.cell (rP f);have f0:=o.frozen j;have Cb:=o.lt;obtain⟨W6,Cn,B6,K6,N6⟩:=gp (i:=j) o (.bool true);have e6:(gf n o3).set j (.bool true)=gf n (mB o3 j):=OV f;have B60:ah (ar W6 k gh (gf n (mB o3 j))):=by rw[<-e6];exact B6
        have lF:=af (K.only N6 Om);have Dl:ah (Ext w W6):=J.only N6 E;go_wp2_with fail
        go_roundw;exact⟨j+1,true,mB o3 j,by omega,by go_num,by first|rfl|trivial,B60,sN,aY,lF,Dl⟩;simp [RowKit.intOf];omega
   ·obtain rfl:j=n:=Om;have aY:=af l.row;have d1:decide ((j:Int)<(j:Int))=false:=aW;go_wp2_with fail
    go_roundw;exact⟨i+1,m,o3,by omega,by go_num,by first|rfl|trivial,HB,HI,aY,BX,HE⟩;simp [RowKit.intOf];omega
  ·obtain rfl:i=n:=Om;have d1:decide ((i:Int)<(i:Int))=false:=aW;have HCM:ah (m=false->NN (jg x.aA) rest i p):=fun hm=>by have h:=l.ae;rw[hm] at h;exact h.all
   have Sm:ah (2*Lz wr k+bN (.bool m)<2*tH i on+1):=by
    rw[ah,aeL HB.ae];cases m with
    |false=>
     have:=l.le;show 2*tH i p+0<_
     omega
    |true=>
     have:=l.lt rfl;show 2*tH i p+1<_
     omega
   go_wp2_with fail
   go_roundw;exact⟨m,p,rfl,HB,HI,HCM,BX,HE⟩;have h1:=Sm.ae;rw[<-HM.ae] at h1;exact h1
def iG(l:List Nat):VS:=fun b=>l.contains b
def H9:iG i a=true↔a∈i:=pD
def Ir(i:Nat):Nat->Option Nat:=fun b=>if b<i then none else some 0
def aj2{n:Nat}{p:Nat->Option Nat}(h:∀b,b<n->p b=y b):je n p=je n y:=by unfold je;refine qE fun a c=> ?_;rw[h a (dP.1 c)]
def ajV{n:Nat}{p q:VS}(h:∀b,b<n->p b=q b):gf n p=gf n q:=by unfold gf;refine qE fun a c=> ?_;rw[h a (dP.1 c)]
def tF(a:Nat)(c:VS)(p:Nat->Option Nat)(j:Nat):Nat->Option Nat:=fun b=>if b<j/\c b=true/\b≠a then some a else p b
def aoU{d:VS}{p:Nat->Option Nat}(g:d b=true)(e:b≠a):jA (tF a d p b) b (some a)=tF a d p (b+1):=by
 funext c
 unfold jA tF;by_cases f:c=b
 ·subst f;rw[if_pos rfl,if_pos ⟨by omega,g,e⟩]
 ·rw[if_neg f];by_cases h:c<b/\d c=true/\c≠a
  ·rw[if_pos h,if_pos ⟨by omega,h.2⟩]
  ·rw[if_neg h,if_neg fun i=>h ⟨by omega,i.2⟩]
def acJ{d:VS}{p:Nat->Option Nat}(h:d b=false\/b=a):tF a d p (b+1)=tF a d p b:=by
 funext c
 unfold tF;by_cases f:c<b/\d c=true/\c≠a
 ·rw[if_pos f,if_pos ⟨by omega,f.2⟩]
 ·rw[if_neg f,if_neg];rintro⟨k,g,i⟩;by_cases e:c=b
  ·subst e;rcases h with h|h
   ·rw[h] at g;cases g
   ·exact i h
  ·exact f ⟨by omega,g,i⟩
def Ct(b:Nat->Nat->Prop)(a:List Nat)(q:Nat->Option Nat)(k:Nat)(p:Nat->Option Nat):Prop:=q=jE b (iG (a.drop k)) (a.drop k) p
def Ct.next{c:Nat->Nat->Prop}{p:Nat->Option Nat}(h:Ct c i y a p)(o:a<i.length)(m:i.Nodup):
 Ct c i y (a+1) (fun b=>if b≠i[a]/\part c (iG (i.drop a)) i[a] b=true then some i[a] else p b)/\VS.less (iG (i.drop a)) (VS.one i[a])=iG (i.drop (a+1)):=by
 have e:=i6 o;have f:(i.drop a).Nodup:=m.sublist (List.drop_sublist _ _);rw[e,ja] at f;have j:VS.less (iG (i.drop a)) (VS.one i[a])=iG (i.drop (a+1)):=by
  funext b
  rw[lZ,qN,H9,H9,e,aI];constructor
  ·rintro⟨d|d,g⟩
   ·exact absurd d g
   ·exact d
  ·exact fun d=>⟨.inr d,fun g=>f.1 (g▸d)⟩
 refine⟨?_,j⟩;unfold Ct at h⊢;have r:=congrArg (fun l=>jE c (iG (i.drop a)) l p) e;have g:jE c (iG (i.drop a)) (i[a]::i.drop (a+1)) p=jE c (VS.less (iG (i.drop a)) (VS.one i[a])) (i.drop (a+1)) fun b=>if b≠i[a]/\part c (iG (i.drop a)) i[a] b=true then some i[a] else p b:=rfl;rw[h,r,g,j]
structure kU(w0:au)(sc:List Value)(xb rb ob pb mb n:Nat)(p:Nat->Option Nat)(rm:VS)(w:au):Prop where
 bx:ar w xb kN sc
 br:ar w rb uW [.slice none 0 0]
 bo:ar w ob uW [aG pb 0 n n]
 bp:ar w pb aU (je n p)
 bm:ar w mb gh (gf n rm)
 ne:w0.heap.size<=xb/\xb<rb/\rb<pb/\pb<ob/\ob<mb
 ex:Ext w0 w
section
variable{w0 w w':au}{sc:List Value}{xb rb ob pb mb n:Nat}{p:Nat->Option Nat}{rm:VS}
theorem kU.ext(h:kU w0 sc xb rb ob pb mb n p rm w)(k:Ext w w'):kU w0 sc xb rb ob pb mb n p rm w':=⟨h.bx.ext k,h.br.ext k,h.bo.ext k,h.bp.ext k,h.bm.ext k,h.ne,h.ex.trans k⟩
theorem kU.congr{q:Nat->Option Nat}{r:VS}(h:kU w0 sc xb rb ob pb mb n p rm w)(c:∀b,b<n->p b=q b)(a:∀b,b<n->rm b=r b):kU w0 sc xb rb ob pb mb n q r w:=⟨h.bx,h.br,h.bo,by rw[<-aj2 c];exact h.bp,by rw[<-ajV a];exact h.bm,h.ne,h.ex⟩
theorem kU.aga(h:kU w0 sc xb rb ob pb mb n p rm w){u:Option Nat}{z:Int}(e:a<n)(d:tM u=z):∃c,w.setCell (aB pb a) (av z)=c/\ah (kU w0 sc xb rb ob pb mb n (jA p a u) rm c)/\ah (Only pb w c):=by obtain⟨k,j,i,g,f⟩:=h.ne;subst d;have b:Only pb w (w.setCell (aB pb a) (av (tM u))):=(ii pb w).bu a _;exact⟨_,rfl,⟨h.bx.only b Om,h.br.only b Om,h.bo.only b Om,by rw[<-abK e];exact h.bp.bu a _,h.bm.only b Om,h.ne,h.ex.only b Om⟩,b⟩
theorem kU.auJ(h:kU w0 sc xb rb ob pb mb n p rm w)(d:a<n):∃c,w.setCell (aB mb a) (.bool true)=c/\ah (kU w0 sc xb rb ob pb mb n p (mB rm a) c)/\ah (Only mb w c):=by obtain⟨k,j,i,g,f⟩:=h.ne;have b:Only mb w (w.setCell (aB mb a) (.bool true)):=(ii mb w).bu a _;have e:(gf n rm).set a (.bool true)=gf n (mB rm a):=OV d;exact⟨_,rfl,⟨h.bx.only b Om,h.br.only b Om,h.bo.only b Om,h.bp.only b Om,by rw[<-e];exact h.bm.bu a _,h.ne,h.ex.only b Om⟩,b⟩
end
def aoQ(v:Value)(x:aQ)(n:Nat)(B:aS)(cB:Nat)(f:List Nat)(w:au)(h:dK w v x)(hN:x.aq.length=n)(hn:n<=12)(hp:IL w (.slice B f.length cB) (ints f))(G:f.length=n)(Fi:f.Nodup)(hpm:∀a,a∈f↔a<n):
 Calls prog 123 #[v,.slice B f.length cB] w fun e w'=>∃g,e= .returned (.agg #[aG g 0 n n])/\ar w' g aU (je n (jE (jg x.aA) (iG f) f fun _=>none))/\w.heap.size<=g/\Ext w w':=by
 have CC:=af (fun W a gr rest (hX:Ext w W)=>ap1 v x n a gr rest W (h.ext hX) hN hn);have HP:=af hp;have U:=af G;have Ga:=af Fi;have O:=af hpm;obtain⟨q,hq⟩:∃q,(jE (jg x.aA) (iG f) f fun _=>none)=q:=⟨_,rfl⟩;rw[hq,G];have Nf:ah (Ct (jg x.aA) f q 0 fun _=>none):=by rw[ah,Ct,mO];exact hq.symm
 obtain⟨A,c,t,d,D,e,rfl,hat,lx,Fr⟩:=h;subst hN;generalize x.aq.length=n at*;have lR:=O9 n Om;have Rc:=Kj n Om;have e0:List.replicate n (Value.bool false)=gf n fun _=>false:=(OO (n:=n) (v:= .bool false)).symm;rw[e0] at Rc;rw[G] at HP;have jk:=(bE HP).2;go_enter func123,ntmps123;go_upto_region 1 with fail
 refine fX fun W HX BX BR=> ?_;have hbr:=BR.lt;go_upto_region 2 with fail
 refine fX fun W2 M BP BO=> ?_;have yP:=BR.lt;have js:=af (BX.ext M);have GA:=af (BR.ext M);have zE:=af (HX.trans M);have H:=BO.lt;generalize hpp:W.heap.size=pb at*;go_upto_region 3 with fail
 refine aP fun W3 s BM=> ?_;have P:=BM.lt;have T:ah (kU w [.slice A n c,.slice t x.aA.length d,.slice D x.bk.length e,av x.label] w.heap.size (w.heap.size+1) (pb+1) pb W2.heap.size n (Ir 0) (fun _=>false) W3):=kU.congr ⟨js.ext s,GA.ext s,BO.ext s,BP.ext s,BM,⟨aK _,by omega,by omega,by omega,H⟩,zE.trans s⟩ (fun b _=>by unfold Ir;rw[if_neg Om]) fun _ _=>rfl;generalize W2.heap.size=mb at*;generalize H:pb+1=ob at*;generalize wT:w.heap.size+1=rb at*;generalize IK:w.heap.size=xb at*;clear H wT IK P;have o0:=T.bo.aD 0;go_upto_region 4 with fail
 go_loopw [7,22] (fun _ E wr=>∃i:Nat,i<=n/\E=av i/\ah (kU w [.slice A n c,.slice t x.aA.length d,.slice D x.bk.length e,av x.label] xb rb ob pb mb n (Ir i) (fun _=>false) wr)) (fun _ E _=>n - (RowKit.intOf E).toNat)
 exact⟨0,aT _,rfl,T⟩;obtain⟨i,hi,rfl,l⟩:=hrel;by_cases Q:i<n
 ·have o0:=l.bo.aD 0;have p0:=l.bp.cell (DY Q);have f0:=l.bp.frozen i;have hlp:=l.bp.lt;obtain⟨W6,S,m, -⟩:=l.aga (u:=none) (z:= -1) Q rfl;have N:=af (m.congr (q:=Ir (i+1)) (r:=fun _=>false) (fun b _=>by
   unfold jA Ir;by_cases e:b=i
   ·rw[if_pos e,if_pos Om]
   ·rw[if_neg e];by_cases e2:b<i
    ·rw[if_pos e2,if_pos Om]
    ·rw[if_neg e2,if_neg Om]) fun _ _=>rfl)
  go_wp2_with fail
  go_roundw;exact⟨i+1,by omega,by go_num,N⟩;simp [RowKit.intOf];omega
 ·obtain rfl:i=n:=Om;have d1:=aW;have bB:ah (kU w [.slice A i c,.slice t x.aA.length d,.slice D x.bk.length e,av x.label] xb rb ob pb mb i (fun _=>none) (fun b=> !iG (f.drop 0) b) wr):=l.congr (fun b L=>by unfold Ir;rw[if_pos L]) fun b L=>by have:=H9.2 ((O b).2 L);rw[mO,this];rfl
  go_upto_region 9 with fail
  go_loopw [9,10,11,32] (fun _ _ _ C wr=>∃(k:Nat) (p:Nat->Option Nat),k<=i/\C=av k/\ah (Ct (jg x.aA) f q k p)/\ah (kU w [.slice A i c,.slice t x.aA.length d,.slice D x.bk.length e,av x.label] xb rb ob pb mb i p (fun b=> !iG (f.drop k) b) wr)) (fun _ _ _ C _=>i - (RowKit.intOf C).toNat)
  exact⟨0,fun _=>none,aT _,rfl,Nf,bB⟩;obtain⟨k,p,hk,rfl,HQ,l⟩:=hrel;by_cases Mj:k<i
  ·have I:k<f.length:=by rw[U.ae];exact Mj
   obtain⟨g1,o1,kT,q0⟩:=nK (HP.ext l.ex) I (jL aU _);have Y:=af (HQ.next I Ga);have ha:=(O _).1 (aZ I);generalize f[k]=a at*;subst kT;obtain⟨s0,s1,s2,s3⟩:=l.bx.four;have CC1:=af (CC _ a mb (iG (f.drop k)) l.ex ha (fun b L=>(O b).1 (Dz (H9.1 L))) l.bm);go_upto_region 11 with fail
   go_wp2_with fail
   refine CC1.mono ?_;rintro e5 w5 ⟨gi,F,rfl,R,mF,Q9,iu⟩;have lB:ah (kU w [.slice A i c,.slice t x.aA.length d,.slice D x.bk.length e,av x.label] xb rb ob pb mb i (tF a F p 0) (fun b=> !iG (f.drop k) b) w5):=(l.ext iu).congr (fun b _=>by unfold tF;rw[if_neg];rintro⟨h, -⟩;omega) fun _ _=>rfl;have V:=af Q9;have ut:=af R;have hgm:=cE l.bm.lt mF;have hne:=l.ne;go_upto_region 13 with fail
   go_loopw [11,42] (fun _ y wq=>∃j:Nat,j<=i/\y=av j/\ah (kU w [.slice A i c,.slice t x.aA.length d,.slice D x.bk.length e,av x.label] xb rb ob pb mb i (tF a F p j) (fun b=> !iG (f.drop k) b) wq)/\ah (ar wq gi gh (gf i F))) (fun _ y _=>i - (RowKit.intOf y).toNat)
   exact⟨0,aT _,rfl,lB,ut⟩;obtain⟨j,hj,rfl,l,Z⟩:=hrel;by_cases J:j<i
   ·have pj:=Z.cell (rP J);cases o:F j with
    |false=>
     rw[o] at pj;have d9:ah (kU w [.slice A i c,.slice t x.aA.length d,.slice D x.bk.length e,av x.label] xb rb ob pb mb i (tF a F p (j+1)) (fun b=> !iG (f.drop k) b) wr):=by rw[acJ (.inl o)];exact l
     go_wp2_with fail
     go_roundw;exact⟨j+1,by omega,by go_num,d9,Z⟩;simp [RowKit.intOf];omega
    |true=>
     rw[o] at pj;by_cases K:j=a
     ·subst K;have d9:ah (kU w [.slice A i c,.slice t x.aA.length d,.slice D x.bk.length e,av x.label] xb rb ob pb mb i (tF j F p (j+1)) (fun b=> !iG (f.drop k) b) wr):=by rw[acJ (.inr rfl)];exact l
      have d2:((j:Int) !=(j:Int))=false:=Ou;go_wp2_with fail;go_roundw;exact⟨j+1,by omega,by go_num,d9,Z⟩;simp [RowKit.intOf];omega
     ·have d2:((j:Int) !=(a:Int))=true:=(by rw[bne_iff_ne];omega);have o0:=l.bo.aD 0;have p0:=l.bp.cell (DY J);have f0:=l.bp.frozen j;have hlp:=l.bp.lt;obtain⟨W6,S,m,X⟩:=l.aga (u:=some a) (z:=(a:Int)) J rfl;rw[aoU o K] at m;have qx:=af (Z.only X Om);clear o K;go_wp2_with fail
      go_roundw;exact⟨j+1,by omega,by go_num,m,qx⟩;simp [RowKit.intOf];omega
   ·obtain rfl:j=i:=Om;have d1:=aW;have m0:=l.bm.cell (rP ha);have f0:=l.bm.frozen a;have hlm:=l.bm.lt;obtain⟨W6,S,m,X⟩:=l.auJ ha;have N:ah (kU w [.slice A j c,.slice t x.aA.length d,.slice D x.bk.length e,av x.label] xb rb ob pb mb j (fun b=>if b≠a/\part (jg x.aA) (iG (f.drop k)) a b=true then some a else p b) (fun b=> !iG (f.drop (k+1)) b) W6):=m.congr (fun b L=>by
     unfold tF;by_cases h:F b=true/\b≠a
     ·rw[if_pos ⟨L,h⟩,if_pos ⟨h.2,fK.2 ((V b).1 h.1)⟩]
     ·rw[if_neg fun h'=>h h'.2,if_neg];rintro⟨h1,h2⟩;exact h ⟨(V b).2 (fK.1 h2),h1⟩) fun b _=>by
     have h2:=congrFun Y.2 b;rw[<-h2];unfold mB VS.less VS.one;by_cases e:b=a
     ·subst e;simp
     ·rw[if_neg e,beq_eq_false_iff_ne.2 e];simp
    have C7:=af Y.1;go_wp2_with fail;go_roundw;exact⟨k+1,_,by omega,by go_num,C7,N⟩;simp [RowKit.intOf];omega
  ·obtain rfl:k=i:=Om;have d1:=aW;have HQF:ah (q=p):=(by have h:=HQ.ae;have e:=Dw (by rw[U.ae];exact aK _);rw[Ct,e] at h;exact h)
   have o0:=l.bo.aD 0;have r0:=l.br.aD 0;have f0:=l.br.frozen 0;obtain⟨W8,Zo,B8,K8,N8⟩:=gp l.br (aG pb 0 k k);obtain⟨n1,n2,n3,n4,n5⟩:=l.ne;have MW:=af Zo;have NV:ah (ar W8 pb aU (je k q)):=by rw[HQF.ae];exact l.bp.only N8 Om
   have jS:=af (l.ex.only N8 Om);go_wp2_with fail;rw[MW.ae];exact bodyPost_ret (results_cell_row rfl _ _ rb uW #[aG pb 0 k k] (0,0) _ rfl B8.ae underlying32 rfl Ok) rfl ⟨pb,rfl,NV,by omega,jS⟩
end Go.Proofs.YthfffpcmldipgaaGreatDoor
