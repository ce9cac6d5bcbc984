/- Texts of the proof, part 19. -/
import Derived.Test.YtadbchhdjbghkaaGreatDoorA18
namespace Go.Proofs.YtadbchhdjbghkaaGreatDoor
set_option maxHeartbeats 8000000
set_option linter.all false
set_option maxRecDepth 100000
variable{aq:Prop}
open Go.RowKit Go.Lib Go.Maps Go.ChangeShapes Go.WideShapes Go.ChangeAt Go.Proofs.Tryz
variable{a b c d e f g h:Nat}{i j k l:List Nat}{m n o:World}{p q r s:Value}{t u v:List Value}{w x:TypeId}{y z:Nat→Option Nat}{A:Nat→List Nat}{B C:Int}{E F:Option Addr}{H I:Rat}{J:Nat→Nat}{K:Nat→Bool}{L:List Int}{N:Array Bool}{O:Option Nat}{Q:Act}{R S:Bool}{T:List UInt8}
def TA{α:Type}{D:Pw α}(a:iA D 7 #[]){f:Value}(b:D.cs[5]? =some f)(j:D.V D.w0 f D.R.zero):∀(m v:Nat),v<D.dr->D.dr<=D.d v+m->Gf D 13 14 188 v/\KU D 13 14 192 v
 |0,v,e,n=>by have:=a.wk.r.lt v e;have h:D.dr=D.x.ai.length:=rfl;omega
 |m+1,v,e,n=>by
  have k:=ajM a e fun c o=>by obtain⟨i,l⟩:=gU.1 o;have q:=(a.wk.r.up c v i l).2;exact(TA a b j m c i Om).1
  exact⟨anH a e b j k,k⟩
def ad9{D:Pw Rat}{z:Value}(i:iA D 13 #[z])(hF:D.V=bX){t:Bool}{u:aR}{q s:Nat}{e:Bool}{f:aR}{a b:Nat}(n:D.cs[5]? =some (.bool t))(l:D.cs[6]? =some (.slice u q s))(k:D.cs[7]? =some (.bool e))(j:D.cs[8]? =some (.slice f a b))(y:bX D.w0 (.agg #[.bool t,.slice u q s,.bool e,.slice f a b]) D.R.zero):
 ∀(m v:Nat),v<D.dr->D.dr<=D.d v+m->Gf D 19 20 195 v
 |0,v,o,B=>by have:=i.wk.r.lt v o;have h:D.dr=D.x.ai.length:=rfl;omega
 |m+1,v,o,B=>by
  have E:=ajz i hF o fun c C=>by obtain⟨w,A⟩:=gU.1 C;have F:=(i.wk.r.up c v w A).2;exact ad9 i hF n l k j y m c w Om
  exact ani i hF o n l k j y E
section
variable{α:Type}{R:SR α}{G:Nat->Nat->α->Prop}{wt:Int->α}{g:Nat->aM->α}{fx:Nat->Option aM}{U:List aM}{x:aP}{T:List (List Rw)}{p:Nat->Option Nat}{d:Nat->Nat}{homes:Nat->List Nat}
theorem Wk.adA(k:Wk R G wt g fx U x T p d homes)(i:Nat):(((kids x.ai p none).take i).map (dT x.ai p homes)).sum<=x.ai+x.ay/\(((kids x.ai p none).take i).map (nT x.ai p homes)).sum<=x.ai.length:=by
 have e:d_ x.ai p homes x.ai none=dZ homes (ji x.ai p homes) (kids x.ai p none):=sS k.r (Lt _ _);have j:∀b,(none:Option Nat)=some b->b<x.ai.length:=fun b h=>by cases h
 have l:x.ai<=x.ai+fQ d none:=Lt _ _;have m:=Hj (homes:=homes) k.r x.ai none j l;have o:=EA m fun a c=>((vG k.r x.ai none a j l).1 c).1;have n:=EA (QP k.nd k.ap (yx x.ai none) m) fun a c=>by obtain⟨w,_,q⟩:=((yx x.ai none).mem a).1 c;exact lN.1 (k.hh w a q)
 rw[e,Qm] at o;rw[e,Qg] at n;have y:((kids x.ai p none).map (nT x.ai p homes)).sum<=x.ai.length:=o;have v:((kids x.ai p none).map (hT x.ai p homes)).sum<=x.ay.length:=n;have u:((kids x.ai p none).map (dT x.ai p homes)).sum=((kids x.ai p none).map (nT x.ai p homes)).sum+((kids x.ai p none).map (hT x.ai p homes)).sum:=RX _;have t:=EG (f:=dT x.ai p homes) (kids x.ai p none) i;have s:=EG (f:=nT x.ai p homes) (kids x.ai p none) i;omega
theorem Wk.adz(k:Wk R G wt g fx U x T p d homes)(e:Nat->aM)(a:x.ai.length<=12)(t:x.ay.length<=6)(i:Nat)(m:i<(kids x.ai p none)):
 ∃s j b h,s+b<=40/\j<=kO/\h<=kO/\G s j (R.prod ((kids x.ai p none).take i) fun c=>vT R x T p homes g wt U c e)/\G b h (vT R x T p homes g wt U (kids x.ai p none)[i] e):=by
 have o:=k.gr.prod (K:=60) (s:=dT x.ai p homes) (e:=nT x.ai p homes) (l:=(kids x.ai p none).take i) (f:=fun c=>vT R x T p homes g wt U c e) fun c q=>k.Nf (gU.1 (oW q)).1 e;have n:=(gU.1 (a_ m)).1;have r:=(k.adA (i+1)).1;have u:=(k.adA i).2;rw[fg m,kD,Y_,Ll,List.sum_singleton] at r;exact⟨_,_,_,_,by omega,fN Od Om,k.TM n a (aK _),o,k.Nf n e⟩
end
def ToC{α:Type}(D:Pw α)(j i:Nat)(f:FuncId):Prop:=∀(h:Nat->aD) (w:au),ce D j i h (fun _=>false) w->
 Calls prog f #[aI D.xb 0] w fun e b=>∃u a,e= .returned u/\D.V b u (D.R.prod (kids D.dr D.p none) fun c=>D.vT c fun _=> [])/\ce D j i a (fun _=>false) b/\a8 [D.nb,D.sb,D.kb] w b
def aqY.afG(h:aq:=by
 have bB:=af fM.st.sx;have CM:=af (aN.ring.mul w5 u u5 E _ s1 s2 j1 j2 (aZ.vC aN oG i) tD tP se m1 m2 m3);refine hK.ae _ _ (fun _=>bB.ae) ?_;refine aO 9 ?_;intro K hK;go_simp;refine CM.mono ?_;rintro e6 w6 ⟨u6,rfl,t,m⟩;have n:=af (dX.fB aN m);have L:=af (oP.ext m);have H:=af t;have aH:=af n.st.sx;refine hK.ae _ _ (fun _=>aH.ae) ?_;refine ax 10 3 ?_;refine b_ Ok ?_;go_wp2_with fail
 go_roundw;exact⟨k+1,_,_,by omega,by go_num,af rfl,by rw[gh.ae];exact H,n,L⟩;simp [RowKit.intOf];omega):=h
def aqZ.k44(h:aq:=by
 generalize D.R.prod (rl.take k) (fun c=>D.vT c fun _=> [])=E at*;generalize rl[k]=c at*;go_upto_region 5 with fail
 have aZ:=af (HX.drew aN);have gD:=af N.drew;have i:=af (aN.ring.vk P (kj _ _).drew);have aH:=af aZ.st.sx;have CV:ah (∀w',ce D 13 14 cu (fun _=>false) w'->Calls prog 188 #[aI D.xb 0,av c] w' fun e w''=>∃u cur',e= .returned u/\D.V w'' u (D.vT c fun _=> [])/\ce D 13 14 cur' (fun _=>false) w''/\a8 [D.nb,D.sb,D.kb] w' w''):=fun w' h=>by exact afh
 refine cD (S:=fun w'=>ar w' D.xb D.tX D.cs) (T:=fun _=>false) Ok ?_;open aqY in exact afi):=h
def aay{α:Type}{D:Pw α}(f:iA D 7 #[])(z:D.cs[6]? =some q)(X:D.V D.w0 q D.R.one)(s:D.cs[5]? =some r)(W:D.V D.w0 r D.R.zero):ToC D 13 14 130:=by
 intro C w h;have aN:=af f;have J:=af h;have Y:=f.ring.im;have a12:=f.a12;have c6:=h.st.sx.cell z;have F:=af (f.ring.vk X (.je h.st.ex));have HV:=af (fun c (B:c<D.dr)=>(TA f s W D.dr c B (Qd _ _)).1);have Z:=af (ajL D.tX D.cs D.xb D.jb D.nb D.sb D.x D.T C (fun _=>false) D.ch D.ks D.hs D.wl _ D.w0 D.w1 w h.st f.pl h.k1 f.cr a12);have Kz:=af (fun(c:Nat) (B:c∈kids D.dr D.p none)=>gU.1 B);have HGM:=af (f.wk.adz (fun _=> []) a12 f.r6);have bO:ah (∀w',ar w' D.xb D.tX D.cs->aA w' D.xb 8 (.func (.func D.fm) #[] #[])):=fun w' h=>h.cell f.cm;generalize kids D.dr D.p none=rl at*;go_enter func130,ntmps130;go_wp2_with fail
 refine Z.mono ?_;rintro e1 w1 ⟨A,c,rfl,dA,b,rfl⟩;have l:=af ((aB w).drewN b);generalize w.drewN b=w1 at*;have bB:=af (J.fB aN l);have I:ah (D.V w1 q (D.R.prod (rl.take 0) fun c=>D.vT c fun _=> [])):=by rw[ah,kF];exact f.ring.vk F (.je l.ae)
 have M:ah (a8 [D.nb,D.sb,D.kb] w w1):= .gV l;have O:=(bD dA).2;go_upto_region 3 with fail
 go_loopw [3,5,14] (fun Q _ j o=>∃(k:Nat) (u:Value) (cu:Nat->aD),k<=rl/\j=av k/\ah (u=Q)/\ah (D.V o u (D.R.prod (rl.take k) fun c=>D.vT c fun _=> []))/\ah (ce D 13 14 cu (fun _=>false) o)/\ah (a8 [D.nb,D.sb,D.kb] w o)) (fun _ _ j _=>rl - (RowKit.intOf j).toNat)
 exact⟨0,_,_,aV _,rfl,af rfl,I,bB,M⟩;obtain⟨k,u,cu,hk,rfl,y,P,HX,N⟩:=hrel;have y:=y.ae;subst y;by_cases dR:k<rl
 ·open aqZ in exact m44
 ·obtain rfl:k=rl.length:=Om;have d1:=aY;have i:ah (D.V wr u (D.R.prod rl fun c=>D.vT c fun _=> [])):=(by have h:=P.ae;rwa[fj] at h)
  go_wp2_with fail
  exact bodyPost_ret (v:=u) (by simp [results,results130,go_sem]) rfl (by first|exact⟨u,rfl,i,⟨cu,HX⟩,N⟩|exact⟨u,cu,rfl,i,HX,N⟩)
def aqS.k43(h:aq:=by
 have DY:=af (qJ.only jP (.inr Om));have xW:=af (pS.only jP Om);clear hK qw gI hW';refine aO 10 ?_;intro K hK;go_simp;refine hK.ae _ _ Oe ?_;refine b_ Ok ?_;rw[HW.ae];clear k0 k1 k2 k3 f0 f1 f2 f3 hK;go_wp2_with fail
 go_roundw;exact⟨k+1,_,by omega,by go_num,xW,by rw[gh.ae];exact vp,uW,DY⟩;simp [RowKit.intOf];omega):=h
def aqT.afC(h:aq:=by have CM:ah (Calls prog D.fm #[.agg #[.bool o0,.slice O0 o1 o2,.bool p0,.slice P0 p1 p2],u5] w5 fun e w'=>∃u,e= .returned u/\bX w' u (D.R.mul M (D.vT c fun _=> []))/\Ext w5 w'):=(by rw[<-hF];exact aN.ring.mul w5 _ u5 M _ s1 s2 j1 j2 (by rw[hF];exact VO.keep OB) tD tP se m1 m2 m3);refine hK.ae _ _ (fun _=>bB.ae) ?_;clear hK BO VO tD fM oG OB;refine aO 9 ?_;open aqS in exact m43):=h
def aqU.afG(h:aq:=by open aqT in exact ae_):=h
def aqV.afs(h:aq:=by
 have bO:ah (∀w',(ar w' D.xb D.tX D.cs/\ar w' ob dp [.bool o0,.slice O0 o1 o2,.bool p0,.slice P0 p1 p2])->aA w' D.xb 14 (.func (.func D.fm) #[] #[])/\F4 w' ob (.bool o0) (.slice O0 o1 o2) (.bool p0) (.slice P0 p1 p2)):=fun w' h=>⟨h.1.cell aN.cm,h.2.four⟩;unfold F4 at bO;have CV:ah (∀w',ce D 19 20 cu (fun _=>false) w'->Calls prog 195 #[aI D.xb 0,av c] w' fun e w''=>∃u cur',e= .returned u/\D.V w'' u (D.vT c fun _=> [])/\ce D 19 20 cur' (fun _=>false) w''/\a8 [D.nb,D.sb,D.kb] w' w''):=fun w' h=>by exact afh
 clear e3 BZ;refine cD (S:=fun w'=>ar w' D.xb D.tX D.cs/\ar w' ob dp [.bool o0,.slice O0 o1 o2,.bool p0,.slice P0 p1 p2]) (T:=fun j=>decide (10<=j)) Ok ?_;open aqU in exact afi):=h
def aqW.k44(h:aq:=by
 clear jv m4 m5 kT iB V_;generalize D.R.prod (rl.take k) (fun c=>D.vT c fun _=> [])=M at*;generalize rl[k]=c at*;go_upto_region 5 with fail
 open aqV in exact aeP):=h
def aqX.afJ(h:aq:=by
 have aN:=af ok;have him:=ok.ring.im;have a12:D.x.ai.length<=12:=ok.a12;have c9:=h.st.sx.cell X;have c10:=h.st.sx.cell J;have c11:=h.st.sx.cell I;have c12:=h.st.sx.cell H;have HV:=af (fun c (Y:c<D.dr)=>ad9 ok hF W U Q P hz D.dr c Y (Qd _ _));have Kz:=af (fun(c:Nat) (Y:c∈kids D.dr D.p none)=>gU.1 Y);have L:∀rl,kids D.dr D.p none=rl->∀i (hi:i<rl.length),∃s j s' j',s+s'<=40/\j<=kO/\j'<=kO/\D.G s j (D.R.prod (rl.take i) fun c=>D.vT c fun _=> [])/\D.G s' j' (D.vT rl[i] fun _=> []):=(by rintro rl rfl;exact ok.wk.adz (fun _=> []) a12 ok.r6)
 go_upto_region 2 with fail
 refine EX (ho.ext h.st.ex) fun t aZ r _=> ?_;have ei:=af (h.fB ok aZ);have nL:=af (BZ.ext aZ);have gD:ah (a8 [D.nb,D.sb,D.kb] wy t):= .gV (cG.trans aZ);have CR:=af (ajw D.tX D.cs D.xb D.jb D.nb D.sb D.x D.T Z (fun _=>false) D.ch D.ks D.hs D.wl _ D.w0 D.w1 t ei.st ok.pl ei.k1 ok.cr a12);clear h c9 c10 c11 c12 BZ;generalize w.heap.size=ob at*;obtain⟨rl,m⟩:∃rl,kids D.dr D.p none=rl:=⟨_,rfl⟩;have N:=af m;have HGM:=af (L rl m);rw[m] at Kz CR;clear m L;go_wp2_with fail
 refine CR.mono ?_;rintro e1 w1 ⟨A,c,rfl,dA,l,rfl⟩;have n:ah (Ext t (t.drewN l)):=(aB t).drewN l;generalize t.drewN l=w1 at*;have bB:=af (ei.fB aN n);have BZ1:=af (nL.ext n);have qF:ah (dK w1 ob (D.R.prod (rl.take 0) fun c=>D.vT c fun _=> [])):=by rw[ah,kF];exact r.ext n
 have jA:=af (gD.ext n);have wI:=(bD dA).2;go_upto_region 3 with fail
 go_loopw [5,14] (fun _ o O=>∃(k:Nat) (cu:Nat->aD),k<=rl.length/\o=av k/\ah (ar O wy.heap.size dp yX)/\ah (dK O ob (D.R.prod (rl.take k) fun c=>D.vT c fun _=> []))/\ah (ce D 19 20 cu (fun _=>false) O)/\ah (a8 [D.nb,D.sb,D.kb] wy O)) (fun _ o _=>rl.length - (RowKit.intOf o).toNat)
 exact⟨0,_,aV _,rfl,BZ1,qF,bB,jA⟩;obtain⟨k,cu,hk,rfl,BZ,HU,HX,HC⟩:=hrel;have hZ:ob<wr.heap.size:=HU.lt;by_cases dR:k<rl.length
 ·open aqW in exact m44
 ·obtain rfl:k=rl.length:=Om;have d1:decide ((rl.length:Int)<(rl.length:Int))=false:=aY;have r:ah (dK wr ob (D.R.prod rl fun c=>D.vT c fun _=> [])):=(by have h:=HU.ae;rwa[fj] at h)
  obtain⟨o0,O0,o1,o2,p0,P0,p1,p2,BO,VO⟩:=r.parts;obtain⟨q0,q1,q2,q3⟩:=BO.four;obtain⟨f0,f1,f2,f3⟩:=BZ.eX;obtain⟨j0,j1,j2,j3⟩:=BZ.four;go_wp2_with fail;refine sW rfl rfl rfl BZ.ae VO (fun u W' h1 h2=> ?_);have h3:=HX.past aN h2 BZ Od Om Om Om Om Om;have h4:=HC.only h2 (.inr (aK _));first|exact⟨u,rfl,by rw[N.ae];exact h1,⟨cu,h3⟩,h4⟩|exact⟨u,cu,rfl,by rw[hF,N.ae];exact h1,h3,h4⟩):=h
def ajt{D:Pw Rat}(ok:iA D 13 #[q])(hF:D.V=bX){zb:Bool}{v:Bool}(W:D.cs[5]? =some (.bool zb))(U:D.cs[6]? =some (.slice E b d))(Q:D.cs[7]? =some (.bool v))(P:D.cs[8]? =some (.slice F f g))(hz:bX D.w0 (.agg #[.bool zb,.slice E b d,.bool v,.slice F f g]) D.R.zero)
 {yb:Bool} {yA:aR} {yn yc:Nat} {B:Bool} {C:aR} {y z:Nat} (X:D.cs[9]? =some (.bool yb)) (J:D.cs[10]? =some (.slice yA yn yc)) (I:D.cs[11]? =some (.bool B)) (H:D.cs[12]? =some (.slice C y z)) (ho:bX D.w0 (.agg #[.bool yb,.slice yA yn yc,.bool B,.slice C y z]) D.R.one):ToC D 19 20 135:=by
 intro Z wy h0;go_enter func135,ntmps135;open aqX in exact afm
abbrev Cc:TypeId:=133
abbrev Td:TypeId:=131
def ni(w:au)(u:Value)(x:aP)(first:Int):Prop:=
 ∃b d c,(∀a,a∈b↔a<x.ai.length)/\(∀f:Nat,first=f->b.head? =some f)/\cX x.ai.length (mA x b) d/\Whole x.ai.length (bh x) (bM x) (d_ x.ai.length (mA x b) (fun v=>(bM x).filter fun t=>eJ d (bh x t) ((bh x t).headD 0)==v) x.ai.length none)/\
  E8 w u x.ai.length (m_ x.ai.length (mA x b)) (yZ (gF x.ai.length x.ay) (mA x b)) (Ca x.ai.length d x.ay) c
section
variable{w w':au}{u:Value}{x:aP}{T:List (List Rw)}{jb pb:Nat}{first:Int}
theorem E8.keep{k g j:List (List Nat)}(h:E8 w u a k g j i)(m:Kept cI w w')(d:Kept aS w w'):E8 w' u a k g j i:=by
 obtain⟨v,l,o,A,c,e,s,r,q,p⟩:=h;have f:∀t∈ [cI,aS,aS],Kept t w w':=fun t b=>by
  simp only[aJ,bL,or_false] at b;rcases b with rfl|rfl|rfl
  ·exact m
  ·exact d
  ·exact d
 exact⟨v,l,o,A,c,e,gm qD.iI s f,gm qD.iI r f,gm qD.iI q f,gm cK p fun t b=>by simp only[aJ,bL,or_false] at b;subst b;exact d⟩
theorem ni.keep(h:ni w u x first)(e:Kept cI w w')(c:Kept aS w w'):ni w' u x first:=by obtain⟨a,d,b,k,j,i,g,f⟩:=h;exact⟨a,d,b,k,j,i,g,f.keep e c⟩
theorem ni.parts(h:ni w u x first):∃f a b A m c,u= .agg #[aG f 0 (x.ai.length+1) (x.ai.length+1),aG a 0 x.ai x.ai,aG b 0 x.ai x.ai,.slice A m c]:=by obtain⟨g,d,i,n,l,k,j,f,a,b,A,c,e,_⟩:=h;exact⟨f,a,b,A,_,c,e⟩
def fW(x:aP)(T:List (List Rw))(jb pb:Nat)(w:au):Prop:=
 ∃A c B d E e At b g f,∃l:List Nat,ar w jb Cc [.slice A x.ai.length c,.slice B x.ay.length d,.slice E x.bf.length e,.int .i64 x.label,.slice At T.length b,.slice g l.length f,.map (some pb)]/\dN w (.agg #[.slice A x.ai.length c,.slice B x.ay.length d,.slice E x.bf.length e,.int .i64 x.label]) x/\
  iP w (.slice At T.length b) T/\IL w (.slice g l.length f) (ints l)/\l.Nodup/\∀a,a∈l↔a<x.ai.length
def dl(x:aP)(pb:Nat)(w:au):Prop:=∃m f,dH w aS pb m f/\∀k u,f k=some u->∃v:Int,k= .int .i64 v/\ -1<=v/\v<(x.ai.length:Int)/\ni w u x v
theorem fW.keep(h:fW x T jb pb w)(b:w'.heap[jb]? =w.heap[jb]?)(a:∀t,Kept t w w'):fW x T jb pb w':=by obtain⟨A,c,B,d,E,e,At,v,F,y,l,m,k,j,i,g,f⟩:=h;refine⟨A,c,B,d,E,e,At,v,F,y,l,b.trans m,?_,gm rh j fun t _=>a t,gm cK i fun t _=>a t,g,f⟩;obtain⟨G,z,D,s,C,r,q,p,o,n⟩:=k;exact⟨G,z,D,s,C,r,q,gm mq p fun t _=>a t,gm nS o fun t _=>a t,gm uk n fun t _=>a t⟩
theorem fW.lt(h:fW x T jb pb w):jb<w.heap.size:=by obtain⟨A,c,B,d,E,e,At,b,g,f,l,a,_⟩:=h;exact a.lt
theorem fW.ext(h:fW x T jb pb w)(k:Ext w w'):fW x T jb pb w':=h.keep (k.block _ h.lt) fun _=> .je k
theorem dl.keep(h:dl x pb w)(d:w'.heap[pb]? =w.heap[pb]?)(b:Kept cI w w')(a:Kept aS w w'):dl x pb w':=by obtain⟨m,f,g,e⟩:=h;refine⟨m,f,g.same d,fun k u c=> ?_⟩;obtain⟨v,n,l,j,i⟩:=e k u c;exact⟨v,n,l,j,i.keep b a⟩
theorem dl.lt(h:dl x pb w):pb<w.heap.size:=by obtain⟨_,_,a,_⟩:=h;exact a.lt
theorem dl.ext(h:dl x pb w)(k:Ext w w'):dl x pb w':=h.keep (k.block _ h.lt) (.je k) (.je k)
theorem dl.kept(h:dl x pb w)(k:a8 [pb] w w')(t:TypeId):Kept t w w':=fun g i e a=>by refine(k.block g (gS a) fun c=> ?_).trans a;simp only[aJ,bL,or_false] at c;subst c;obtain⟨_,_,⟨D,⟨f,b,d,_⟩,_⟩,_⟩:=h;rw[d] at a;injection a with a;cases a
theorem fW.cy(h:fW x T jb pb w)(b:dl x pb w)(a:jb≠pb)(k:a8 [pb] w w'):fW x T jb pb w':=h.keep (k.block _ h.lt avY) (b.kept k)
theorem dH.y4{k:TypeId}{f:Lit->Option Value}(h:dH w k a b f)(c:Only a w w')(t:TypeId):Kept t w w':=Rp h c t
end
def aaV{h:Go.Func}{u0 u1 u2 u3:Value}{R:Ending->World->Prop}(c:h.results= #[.cell a f9])(i:Q.tmps.getD a undef=aI b 0)(j:Q.defers= [])
 (f:ar m b f9 [u0,u1,u2,u3]) (k:∀d,Only b m d->Kept cI m d->Kept aS m d->R (.returned (.agg #[p,q,r,s])) d):
 bodyPost prog h R .ret Q ((((m.setCell (aC b 0) p).setCell (aC b 1) q).setCell (aC b 2) r).setCell (aC b 3) s):=by
 have e:ar ((((m.setCell (aC b 0) p).setCell (aC b 1) q).setCell (aC b 2) r).setCell (aC b 3) s) b f9 [p,q,r,s]:=(((f.bu 0 p).bu 1 q).bu 2 r).bu 3 s;exact bodyPost_ret (results_cell_row c Q.tmps _ b f9 #[p,q,r,s] (0,0) _ i e underlying256 rfl Ok) j (k _ ((((ig b m).bu 0 _).bu 1 _).bu 2 _|>.bu 3 _) (f.E6 Od 0 1 2 3 p q r s) (f.E6 Od 0 1 2 3 p q r s))
def aky(w:au):(zeroValue f9).run prog w= .ok (.agg #[.slice none 0 0,.slice none 0 0,.slice none 0 0,.slice none 0 0]) w:=Ok
def ab7:prog.underlying Td=some (.map aS f9):=Ok
def acw(d: -1<=B)(c:B<100):keyOf prog aS (.int .i64 B)=some (.int .i64 B):=keyOf_int_mk Ok (by have b:IntKind.min .i64= -9223372036854775808:=Od;have a:IntKind.max .i64=9223372036854775807:=Od;simp only[Lit.wf,b,a,cZ,decide_eq_true_eq];omega)
def aiU(c:∀b,b∈i↔b<a)(d:f<a):(∀b,b∈f::i.filter (fun b=> !(b==f))↔b<a):=fun b=>by
 rw[aJ,fp,c];constructor
 ·rintro(rfl|⟨h,_⟩)
  ·exact d
  ·exact h
 ·intro h;by_cases e:b=f
  ·exact .inl e
  ·exact .inr ⟨h,by simpa using e⟩
def abm{w:au}(h:ar w a aS (iu b y))(f:b<=1000):IL w (aG a 0 b b) (rA b y):=by
 have d:(rA b y)=b:=by unfold rA;simp
 refine⟨dC a 0,b,iu b y,by rw[d],by rw[d];exact aK _,by unfold maxLen;omega,fun h=>(by cases h),h.sl 0,?_⟩;unfold iu rA;clear h f d;induction List.range b with
 |nil=>rfl
 |cons c l e=>exact⟨[.int .i64 (rE (y c))],_,rfl,rfl,e⟩
def dl.put{x:aP}{first:Int}(h:dl x a m)(o: -1<=first)(A:first<(x.ai.length:Int))(F:x.ai.length<=99)(z:ni m p x first):
 ∃d,(Instr.mapUpdate Td (.map (some a)) (.int .i64 first) p).run prog m= .ok () d/\ah (dl x a d)/\ah (Only a m d):=by
 obtain⟨b,f,g,n⟩:=h;have k:=g.bound lL ((List.range 101).map fun i:Nat=>Lit.int .i64 ((i:Int) - 1)) fun l c=>by obtain⟨p,y⟩:=G6.1 c;obtain⟨v,e,s,r,_⟩:=n l p y;exact dU.2 ⟨(v+1).toNat,dB.2 Om,by rw[e];congr 1;omega⟩
 obtain⟨d,C,B,j⟩:=k.put lL ab7 (by rw[bW,iG];unfold maxLen;omega) (acw o Om) p;refine⟨d,C,⟨_,_,B,fun l t c=> ?_⟩,j⟩;by_cases q:l= .int .i64 first
 ·subst q;rw[AZ] at c;injection c with c;subst c;exact⟨first,rfl,o,A,z.keep (g.y4 j _) (g.y4 j _)⟩
 ·rw[ue q] at c;obtain⟨v,s,r,E,D⟩:=n l t c;exact⟨v,s,r,E,D.keep (g.y4 j _) (g.y4 j _)⟩
def akz(b:Nat)(f a:Int)(w:au)(h:w.cell? ⟨b,0,none⟩=some (.int .i64 f)):
 Calls prog 234 #[.int .i64 a,.pointer (some ⟨b,0,none⟩)] w fun e c=>e= .returned (.bool (a==f))/\c=w:=by
 go_enter func234,ntmps234;go_wp2;exact bodyPost_ret (by simp [results,results234,go_sem]) rfl ⟨rfl,rfl⟩
def Sb(h:ar m b w [p])(c:a<=b):m.ownsRow a w 1 (.slice (some ⟨b,0,none⟩) 1 1) 1 [p]:=
 ⟨rfl,.inr ⟨b,1,#[p],rfl,c,h,by decide,by unfold maxLen;omega,rfl,rfl⟩⟩
def ao_{rest:List Value}(h:ar m a w (t++rest)):Sl m w (some ⟨a,0,none⟩) t:=fun j u b=>h.sl 0 j u (by
 rw[lJ];rcases cA j t with c|c
 ·rw[nM c];exact b
 ·rw[fF c] at b;cases b)
def aoH(h:m.ownsRow a aS 1 (.slice E (1+i) c) (1+i) ([.int .i64 (b:Int)]++eG (ints i))):IL m (.slice E (b::i) c) (ints (b::i)):=by
 have e:1+i=(ints (b::i)).length:=by unfold ints;rw[bW,cP,mS]
 have d:(b::i)=(ints (b::i)).length:=awg;rw[e] at h;rw[d];exact Mn h (MR m (ints (b::i)))
def amw(h:m.ownsRow a aS 1 (.slice E b c) b t)(f:b≠0):∃g rest,E=some ⟨g,0,none⟩/\a<=g/\b<=c/\c<=maxLen/\ar m g aS (t++rest):=by
 obtain⟨v,p⟩:=h;rcases p with⟨_,q⟩|⟨g,u,d,e,j,i,o,l,x,k⟩
 ·exact absurd q f
 ·injection e with s y r;subst r;refine⟨g,d.toList.drop (b*1),s,j,o,l,?_⟩;unfold ar;rw[i,<-k,sJ]
def ZI(f:Nat):∀l:List Nat,(ints l).filter (fun a=> !(a==(f:Int)))=ints (l.filter fun a=> !(a==f))
 | []=>rfl
 |a::l=>by
  have b:=ZI f l;unfold ints at b⊢;rw[nO,qR,qR,b];have e:((a:Int)==(f:Int))=(a==f):=by rw[lI,beq_iff_eq,beq_iff_eq];omega
  rw[e];cases(a==f)<;>rfl
def ak'(D o:Nat)(x:aP)(T:List (List Rw))(ok:bR x)(first:Int)(w:au)(hB:fW x T D o w)(hM:dl x o w)(N: -1<=first)(h2:first<(x.ai.length:Int)):
 Calls prog 193 #[.pointer (some ⟨D,0,none⟩),.int .i64 first] w fun e i=>∃u,e= .returned u/\ni i u x first/\dl x o i/\a8 [o] w i:=by
 have a12:=ok.a12;have aN:=af ok;have HM:=af hM;have hpl:=hM.lt;obtain⟨A,c,B,d,E,e,At,ct,Al,cl,l,hJ,hSc,JP,hIl,JQ,hLm⟩:=hB;have HJ:=af hJ;have dI:=hJ.lt;have zM:=af hSc;have dA:=af hIl;have Kw:=af hLm;have VH:l.length<=12:=a7 (EA JQ fun a ha=>(hLm a).1 ha) a12;obtain⟨m0,f,hm,hf⟩:=hM;have hlk:=fun(W:au) (hW:W.heap[o]? =w.heap[o]?)=>(hm.same hW).look lL ab7 (aky W) (acw N Om);have iO:ah (∀u,f (.int .i64 first)=some u->ni w u x first):=fun u hu=>by obtain⟨v,e1,_,_,h4⟩:=hf _ u hu;injection e1 with _ e1;rwa[<-e1] at h4
 generalize f (.int .i64 first)=r at*;clear hm hf hJ hSc JP hIl;obtain⟨X0,y0,z0,X1,y1,z1,X2,y2,z2,X3,y3,z3,hu⟩:∃X0 y0 z0 X1 y1 z1 X2 y2 z2 X3 y3 z3,r.getD (.agg #[.slice none 0 0,.slice none 0 0,.slice none 0 0,.slice none 0 0])= .agg #[.slice X0 y0 z0,.slice X1 y1 z1,.slice X2 y2 z2,.slice X3 y3 z3]:=by
  cases r with
  |none=>exact⟨_,_,_,_,_,_,_,_,_,_,_,_,rfl⟩
  |some u=>obtain⟨cb,kb,hb,A,m,c,rfl⟩:=(iO u rfl).parts;exact⟨_,_,_,_,_,_,_,_,_,_,_,_,rfl⟩
 have DG:ah (r.isSome=true->ni w (.agg #[.slice X0 y0 z0,.slice X1 y1 z1,.slice X2 y2 z2,.slice X3 y3 z3]) x first):=fun h=>by obtain⟨u,rfl⟩:=G6.1 h;rw[<-hu];exact iO u rfl
 simp only[hu] at hlk;have DM:=af hlk;clear hu hlk;generalize r.isSome=b at*;go_enter func193,ntmps193;go_upto_region 1 with fail
 refine fR fun W HX BQ BZ=> ?_;have mG:=BQ.lt;have V6:=BZ.lt;obtain⟨S,s⟩:∃S:World->Prop,S=fun i=>ar i D Cc [.slice A x.ai c,.slice B x.ay d,.slice E x.bf e,.int .i64 x.label,.slice At T ct,.slice Al l cl,.map (some o)]/\ar i w.heap.size aS [.int .i64 first]/\i.heap[o]? =w.heap[o]?:=⟨_,rfl⟩;have bO:ah (∀i,S i->i.cell? ⟨D,6,none⟩=some (.map (some o))/\i.cell? ⟨w.heap.size,0,none⟩=some (.int .i64 first)/\(Instr.lookup Td (.map (some o)) (.int .i64 first) true).run prog i= .ok (.tuple #[.agg #[.slice X0 y0 z0,.slice X1 y1 z1,.slice X2 y2 z2,.slice X3 y3 z3],.bool b]) i):=by rw[ah,s];exact fun i h=>⟨h.1.aF 6,h.2.1.aF 0,DM.ae i h.2.2⟩
 have q:ah (∀i,Ext W i->S i):=(by rw[ah,s];exact fun i h=>⟨HJ.ext (HX.trans h),BQ.ext h,(HX.trans h).block _ hpl⟩);have aH:ah (S W.drew):=q _ (aB W).drew;clear s;refine cD (S:=S) (T:=fun _=>false) Ok ?_;have G:=af (aB W).drew;have hwd:w.heap.size+1<W.drew.heap.size:=V6;generalize W.drew=L at*;refine ax 0 9 ?_;refine ax 1 10 ?_;refine ax 2 11 ?_;refine ax 3 12 ?_;refine ax 4 13 ?_;refine ax 5 14 ?_;refine ax 6 8 ?_;refine ax 7 15 ?_;refine ax 8 16 ?_;refine aO 9 ?_;intro K hK;go_simp;refine hK.ae _ _ (fun _=>q _ (G.alloc _)) ?_;clear hK;refine aO 10 ?_;intro K hK;go_simp;refine hK.ae _ _ (fun _=>q _ (G.alloc _)) ?_;refine aT fun W2 n BP=> ?_;have X:=af (G.trans n);clear hK;refine aO 11 ?_;intro K hK;go_simp;refine hK.ae _ _ (fun _=>q _ X) ?_;refine b_ Ok ?_;clear hK;have n:=af (HX.trans X);have PJ:=af (BQ.ext X);have nL:=af (BZ.ext X);clear BQ BZ mG V6;generalize L.heap.size=bp at*;have gN:=af (HM.ext n);have HJ2:=af (HJ.ext n);cases b with
 |true=>have HP:=af ((DG rfl).keep (.je n.ae) (.je n.ae));obtain⟨k0,k1,k2,k3⟩:=BP.four;obtain⟨f0,f1,f2,f3⟩:=nL.eX;obtain⟨j0,j1,j2,j3⟩:=nL.four;go_wp2_with fail;refine aaV rfl rfl rfl nL.ae (fun F q1 q2 q3=> ?_);have g1:=HP.keep q2 q3;have g2:=gN.keep (q1.block _ gN.lt Oc) q2 q3;have g3:=(gT (S:= [o]) n).only q1 (.inr Om);first|exact⟨_,rfl,g1,g2,g3⟩
 |false=>
  have NW:w.heap.size<W2.heap.size:=PJ.lt;have asR:=af (zM.ext n);have atw:=af (kJ dA n);obtain⟨Ax,cx,xs,e0,g1,g2,g3,g4,g5⟩:=atw.ae;have Q:=S9 g5;have V:(ints l).length=l.length:=awg;rw[V] at e0 g1;injection e0 with e1 _ e2;subst e1 e2;have CC:=af (ajG Al l cl xs W2 g3 g4 (by rw[Q];unfold eG;rw[bW,V,kG]) g1 (fun u hu=>by rw[Q] at hu;obtain⟨a,_,rfl⟩:=dU.1 hu;rfl) Om)
  have xp:=af Q;have Y:=af V;have j2:=HJ2.aF 5;clear g1 g2 g3 g4 g5 Q V;go_wp2_with fail
  refine CC.mono ?_;rintro e3 w3 ⟨v3,rfl,eD,hx3⟩;obtain⟨A3,c3,rfl,_,_,_⟩:=ej eD;have fX:=af eD;have BQ3:=af (PJ.ext hx3);have cH:=af hx3;have tJ:=BQ3.aF 0;clear eD hx3 j2;go_upto_if 25 with fail
  go_cut [7] (fun s7 wx=>∃(Ap:aR) (cp:Nat) (k:List Nat),s7= .slice Ap k cp/\ah (IL wx (.slice Ap k cp) (ints k))/\ah (∀a,a∈k↔a<x.ai)/\ah (∀f:Nat,first=f->k.head? =some f)/\ah (Ext W2 wx))
  case first=>
   by_cases hf:0<=first
   ·have d1:decide (0<=first)=true:=decide_eq_true hf;obtain⟨fn,hfn⟩:∃fn:Nat,first=fn:=⟨first.toNat,by omega⟩
    have hl0:l.length≠0:=fun e=>by have:=(Kw fn).2 Om;rw[mh e] at this;cases this
    obtain⟨g,rest,JW,rT,hc1,hc2,hBg⟩:=amw fX hl0;subst JW;have PC:=af hBg;have mf:=af hfn;clear hBg hfn;go_upto_region 5 with fail
    refine cD (S:=fun i=>i.cell? ⟨w.heap.size,0,none⟩=some (.int .i64 first)) (T:=fun _=>false) Ok ?_;have bO:ah (∀i:World,i.cell? ⟨w.heap.size,0,none⟩=some (.int .i64 first)->i.cell? ⟨w.heap.size,0,none⟩=some (.int .i64 first)):=fun _ h=>h;have aH:ah (w3.drew.cell? ⟨w.heap.size,0,none⟩=some (.int .i64 first)):=tJ;have J:=af BQ3.drew;have dD:=af cH.drew;have mg:=af PC.drew;have iX:g≠w.heap.size:=by have:=PJ.lt;omega
    clear tJ;generalize w3.drew=L at*;refine ax 0 26 ?_;refine ax 2 28 ?_;refine ax 3 29 ?_;have CD:=af (fun W (hX:W.cell? ⟨w.heap.size,0,none⟩=some (.int .i64 first)) (hl:w.heap.size<W.heap.size) (hB:ar W g aS (eG (ints l)++rest))=>ant 234 (fun _ _=>by rfl) (.pointer (some ⟨w.heap.size,0,none⟩)) (fun a=>a==first) (fun F=>Only g W F) g c3 (ints l) rest W (ig g W) hB (by rw[Y.ae];exact hc1) hc2 (fun W1 W2 N h2=>N.trans h2)
     (fun W1 v ys N _ Fy=>(akz w.heap.size first v W1 (by rw[<-hX];unfold World.cell?;simp only;rw[N.block w.heap.size hl Oc])).mono fun e i hh=>⟨hh.1,by rw[hh.2];exact N,by rw[hh.2];exact Fy⟩))
    rw[xp.ae] at mg;have Z:ah ((ints l).filter (fun v=> !(v==first))=ints (l.filter fun a=> !(a==fn))):=by rw[ah,mf.ae];exact ZI fn l
    have zO:=af (aiU (f:=fn) Kw (by have:=mf.ae;omega));have Xj:ah (∀f:Nat,first=f->(fn::l.filter fun a=> !(a==fn)).head? =some f):=fun f h=>by have N:=mf.ae;have h2:fn=f:=Om;rw[h2];rfl
    have auV:(l.filter fun a=> !(a==fn)).length<=12:=a7 (mm _ _) VH;have hw2:W2.heap.size<=L.heap.size:=dD.size;have DN:ah (∀l:List Nat,(ints l).length=l):=fun l=>by unfold ints;rw[bW]
    rw[Y.ae] at CD;clear d1;generalize l.filter (fun a=> !(a==fn))=lf at*;refine Ip 1 4 Ok ?_ ?_
    ·skip
     refine zg ?_;intro K hK;go_simp;refine hK.ae _ _ (fun _=>by rw[<-aH.ae];exact((aB L).alloc _).cell (p:=⟨w.heap.size,0,none⟩) J.lt) ?_;refine aT fun W5 H BN=> ?_;have C:=af (J.ext H);have sB:=af (mg.ext H);have FW:g≠L.heap.size:=by have:=mg.lt;omega
     have O:=af (dD.trans H);clear hK;generalize L.heap.size=nb at*;have Yh:=af (CD W5 (C.aF 0) C.lt sB);refine aO 4 ?_;intro K hK;go_simp;refine Yh.mono ?_;rintro e6 w6 ⟨rfl,U,aur,Wp⟩;rw[Z.ae,DN.ae];rw[Z.ae] at Wp;have KY:=af (C.only U Om);have GV:=af (BN.only U Om);have gK:=af (O.only U Om);have xO:=af Wp;have bB:ah (w6.cell? ⟨w.heap.size,0,none⟩=some (.int .i64 first)):=KY.aF 0;refine hK.ae _ _ (fun _=>bB.ae) ?_;clear hK BN U Wp;exact m25
    ·skip
     refine zg ?_;intro K hK;go_simp;have Yh:=af (CD L aH J.lt mg);refine Yh.mono ?_;rintro e5 w5 ⟨rfl,mF,ad3,Wq⟩;rw[Z.ae,DN.ae];rw[Z.ae] at Wq;have C:=af (J.only mF Om);have H:=af (dD.only mF Om);have sB:=af Wq;have bB:ah (w5.cell? ⟨w.heap.size,0,none⟩=some (.int .i64 first)):=C.aF 0;refine hK.ae _ _ (fun _=>bB.ae) ?_;clear hK mF Wq;refine aO 1 ?_;intro K hK;go_simp;refine hK.ae _ _ (fun _=>(C.ext ((aB w5).alloc _)).aF 0) ?_;refine aT fun w6 O GV=> ?_;have KY:=af (C.ext O);have xO:=af (sB.ext O);have gK:=af (H.trans O);have zj:W2.heap.size<=w5.heap.size:=H.size;clear hK;generalize w5.heap.size=nb at*;exact m25
   ·have d1:decide (0<=first)=false:=decide_eq_false hf;have atq:ah (IL w3 (.slice A3 l c3) (ints l)):=(by have N:=fX.ae;rw[<-Y.ae] at N;have h:=Mn (R:=dO) (l:=ints l) N (by rw[xp.ae];exact MR w3 (ints l));rwa[Y.ae] at h)
    go_wp2_with fail
    go_meet;exact⟨_,_,l,rfl,atq,Kw,fun f hf2=>by omega,cH⟩
  case rest=>
   obtain⟨Ap,cp,k,rfl,HIP,zO,Xj,z⟩:=hcut;clear tJ;have auv:k.length=k.length:=rfl;obtain⟨dd,Oa,kQ⟩:=aiX aN (fun a ha=>(zO a).2 ha);have Ko:=af Oa;have xt:=af kQ;have Dr:=af (n.trans z);have HJ4:=af (HJ2.ext z);have Ys:=af (BP.ext z);have J:=af (PJ.ext z);have GU:=af (nL.ext z);have I7:=af (asR.ext z);have tP:=af (gN.ext z);have CO:=af (fun W (hX:Ext wc W)=>amz _ x Ap cp k W (I7.ext hX) aN (kJ HIP hX) (fun a ha=>(zO a).1 ha));have CL:=af (fun W (hX:Ext wc W) g (hB:ar W g aS (iu x.ai (mA x k)))=>amA _ x (some ⟨g,0,none⟩) x.ai (mA x k) dd W (I7.ext hX) aN Ko (abm hB Om));have avy:bp<W2.heap.size:=BP.lt;clear Oa kQ BP;go_upto_region 6 with fail
   obtain⟨S,s⟩:∃S:World->Prop,S=fun i=>ar i D Cc [.slice A x.ai c,.slice B x.ay d,.slice E x.bf e,.int .i64 x.label,.slice At T ct,.slice Al l cl,.map (some o)]:=⟨_,rfl⟩;have bO:ah (∀i,S i->i.cell? ⟨D,0,none⟩=some (.slice A x.ai c)/\i.cell? ⟨D,1,none⟩=some (.slice B x.ay d)/\i.cell? ⟨D,2,none⟩=some (.slice E x.bf e)/\i.cell? ⟨D,3,none⟩=some (.int .i64 x.label)):=(by rw[ah,s];exact fun i h=>⟨h.aF 0,h.aF 1,h.aF 2,h.aF 3⟩)
   have q:ah (∀i,Ext wc i->S i):=(by rw[ah,s];exact fun i h=>HJ4.ext h);have aH:ah (S wc.drew):=q _ (aB wc).drew;clear s;refine cD (S:=S) (T:=fun j=>decide (11<=j)) Ok ?_;have G:=af (aB wc).drew;generalize wc.drew=L at*;refine ax 0 32 ?_;refine ax 1 33 ?_;refine ax 2 34 ?_;refine ax 3 35 ?_;refine ax 4 36 ?_;refine ax 5 37 ?_;refine ax 6 38 ?_;refine ax 7 39 ?_;refine ax 8 40 ?_;have CO2:=af (CO L G);refine aO 9 ?_;intro K hK;go_simp;refine CO2.mono ?_;rintro e5 w5 ⟨ob,rfl,ny,avC,fM⟩;have Gm:=af (G.trans fM);have CL2:=af (CL w5 Gm ob ny);refine hK.ae _ _ (fun _=>q _ Gm) ?_;clear hK ny fM;refine aO 10 ?_;intro K hK;go_simp;refine CL2.mono ?_;rintro e6 w6 ⟨u6,wl,rfl,hpv,gI⟩;have y:=af (Gm.trans gI);have Xg:=af hpv;obtain⟨cb,kb,hb,A6,c6,e6,_⟩:=hpv;subst e6;refine hK.ae _ _ (fun _=>q _ y) ?_;have PK:=af (Ys.ext y);have KY:=af (J.ext y);have pS:=af (GU.ext y);have HJ6:=af (HJ4.ext y);have DL:=af (tP.ext y);have HXg:=af (Dr.trans y);obtain⟨k0,k1,k2,k3⟩:=PK.four;obtain⟨f0,f1,f2,f3⟩:=PK.eX;obtain⟨F,hW',BPN,I⟩:=PK.Cl (.slice (some ⟨cb,0,none⟩) (x.ai.length+1) (x.ai.length+1)) (.slice (some ⟨kb,0,none⟩) x.ai x.ai) (.slice (some ⟨hb,0,none⟩) x.ai x.ai) (.slice A6 wl c6);have HW:=af hW';have M:∀t,f9≠t->Kept t w6 F:=fun t ht=>uh I PK ht;have HPO:ah (ni F (.agg #[.slice (some ⟨cb,0,none⟩) (x.ai.length+1) (x.ai.length+1),.slice (some ⟨kb,0,none⟩) x.ai x.ai,.slice (some ⟨hb,0,none⟩) x.ai x.ai,.slice A6 wl c6]) x first):=⟨k,dd,wl,zO,Xj,Ko,xt,Xg.keep (M _ Od) (M _ Od)⟩;have PI:=af (KY.only I Om);have PH:=af (pS.only I Om);have HJ7:=af (HJ6.only I Om);have HM7:=af (DL.keep (I.block _ DL.lt Oc) (M _ Od) (M _ Od));have KN:ah (a8 [o] w F):=(gT HXg).only I.ae (.inr Om);clear hK gI hW' M;refine aO 11 ?_;intro K hK;go_simp;refine hK.ae _ _ Oe ?_;refine b_ Ok ?_;rw[HW.ae];clear k0 k1 k2 k3 f0 f1 f2 f3 hK;go_upto_region 7 with fail
   have agP:=af (HPO.keep (kj _ _).drew (kj _ _).drew);obtain⟨w8,hrun,HM8,P⟩:=(HM7.ext (aB F).drew).put N h2 Om agP;have BPd:=af BPN.drew;have BQd:=af PI.drew;have Yk:=af PH.drew;have HJd:=af HJ7.drew;have XU:=af KN.drew;have HMd:=af (HM7.ext (aB F).drew);have aH:ah (ar F.drew D Cc [.slice A x.ai c,.slice B x.ay d,.slice E x.bf e,.int .i64 x.label,.slice At T ct,.slice Al l cl,.map (some o)]/\ar F.drew w.heap.size aS [.int .i64 first]/\ar F.drew bp f9 [.slice (some ⟨cb,0,none⟩) (x.ai.length+1) (x.ai.length+1),.slice (some ⟨kb,0,none⟩) x.ai x.ai,.slice (some ⟨hb,0,none⟩) x.ai x.ai,.slice A6 wl c6]):=⟨HJd,BQd,BPd⟩;have bO:ah (∀i,(ar i D Cc [.slice A x.ai c,.slice B x.ay d,.slice E x.bf e,.int .i64 x.label,.slice At T ct,.slice Al l cl,.map (some o)]/\ar i w.heap.size aS [.int .i64 first]/\ar i bp f9 [.slice (some ⟨cb,0,none⟩) (x.ai.length+1) (x.ai.length+1),.slice (some ⟨kb,0,none⟩) x.ai x.ai,.slice (some ⟨hb,0,none⟩) x.ai x.ai,.slice A6 wl c6])->i.cell? ⟨D,6,none⟩=some (.map (some o))/\i.cell? ⟨w.heap.size,0,none⟩=some (.int .i64 first)/\F4 i bp (.slice (some ⟨cb,0,none⟩) (x.ai.length+1) (x.ai.length+1)) (.slice (some ⟨kb,0,none⟩) x.ai x.ai) (.slice (some ⟨hb,0,none⟩) x.ai x.ai) (.slice A6 wl c6)):=fun i h=>⟨h.1.aF 6,h.2.1.aF 0,h.2.2.four⟩;unfold F4 at bO;clear BPN;refine cD (S:=fun i=>ar i D Cc [.slice A x.ai c,.slice B x.ay d,.slice E x.bf e,.int .i64 x.label,.slice At T ct,.slice Al l cl,.map (some o)]/\ar i w.heap.size aS [.int .i64 first]/\ar i bp f9 [.slice (some ⟨cb,0,none⟩) (x.ai.length+1) (x.ai.length+1),.slice (some ⟨kb,0,none⟩) x.ai x.ai,.slice (some ⟨hb,0,none⟩) x.ai x.ai,.slice A6 wl c6]) (T:=fun j=>decide (6<=j)) Ok ?_;generalize F.drew=L at*;refine ax 0 43 ?_;refine ax 1 44 ?_;refine ax 2 45 ?_;refine ax 3 46 ?_;refine ax 4 47 ?_;refine ax 5 48 ?_;refine aO 6 ?_;intro K hK;go_simp;refine hK.ae _ _ Oe ?_;refine b_ Ok ?_;have KZ:=af (BPd.only P Om);have Yl:=af (Yk.only P Om);have Xk:=af (agP.keep (HMd.kept ((gT (aB L)).only P.ae (.inl Ou)) _) (HMd.kept ((gT (aB L)).only P.ae (.inl Ou)) _));have xN:=af (XU.only P (.inl Ou));clear hK hrun;obtain⟨k0,k1,k2,k3⟩:=KZ.four;obtain⟨f0,f1,f2,f3⟩:=Yl.eX;obtain⟨j0,j1,j2,j3⟩:=Yl.four;go_wp2_with fail
   refine aaV rfl rfl rfl Yl.ae (fun F q1 q2 q3=> ?_);have g1:=Xk.keep q2 q3;have g2:=HM8.keep (q1.block _ HM8.lt Oc) q2 q3;have g3:=xN.only q1 (.inr Om);first|exact⟨_,rfl,g1,g2,g3⟩
def akY(n:Nat)(h:n<=1000)(w:au):
 (Instr.makeSlice rr (av (n:Int)) (av (n:Int))).run prog w= .ok (aG w.heap.size 0 n n) (w.alloc (.cells (List.replicate n (Value.string ⟨#[]⟩)).toArray bJ)):=by
 obtain⟨e,f,c,b,a⟩:=info_parts (show(prog.info? bJ).map (fun i=>(i.zero,i.size,i.bytes))=some (some (.string ⟨#[]⟩),1,16) by kernel_rfl);have d:=run_make (P:=prog) w rr bJ e (.string ⟨#[]⟩) underlying44 f c .i64 .i64 (n:Int) (n:Int) Om (yz _) awk Om;simp only[kg,b,kG,Value.cells,ym] at d;rw[d]
def LU{n:Nat}{v:Value}:(List.range n).map (fun _=>v)=List.replicate n v:=by rw[List.map_const',iG]
def Cu(n base:Nat)(u:Value)(w:au):Prop:=∃g,u=aG g 0 n n/\ar w g bJ (s5 n fun _=> [])/\base<=g
def Ct(n base:Nat)(u:Value)(w:au):Prop:=∃g,u=aG g 0 n n/\ar w g fH (fG n fun _=>false)/\base<=g
def Cv(base:Nat)(u:Value)(w:au):Prop:=∃g,u= .map (some g)/\dH w bJ g 0 (fun _=>none)/\base<=g
def Fi(x:aP)(first:Int)(u:Value)(w:au):Prop:=ni w u x first
section
variable{w w':au}{u:Value}{x:aP}{pb base n:Nat}{first:Int}
theorem Cu.cy(h:Cu n base u w)(k:a8 [pb] w w')(c:pb<base):Cu n base u w':=by obtain⟨g,e,b,a⟩:=h;exact⟨g,e,b.cy k Oc,a⟩
theorem Ct.cy(h:Ct n base u w)(k:a8 [pb] w w')(c:pb<base):Ct n base u w':=by obtain⟨g,e,b,a⟩:=h;exact⟨g,e,b.cy k Oc,a⟩
theorem Cv.cy(h:Cv base u w)(k:a8 [pb] w w')(c:pb<base):Cv base u w':=by obtain⟨g,e,a,b⟩:=h;exact⟨g,e,a.same (k.block g a.lt Oc),b⟩
theorem Fi.cy(h:Fi x first u w)(a:dl x pb w)(k:a8 [pb] w w'):Fi x first u w':=ni.keep h (a.kept k _) (a.kept k _)
end
def aqP.k23(h:aq:=by exact bodyPost_ret (v:=aI w3.heap.size 0) (by simp [results,results183,go_sem]) rfl ⟨w3.heap.size,nb,sb,kb,_,_,_,_,rfl,BX,HPf,HNf,Kj,HMf,⟨by omega,by omega,by omega,by omega⟩,⟨by omega,by omega,by omega⟩,zU.2,HC⟩):=h
def aqQ.afF(h:aq:=by
 refine bZ.O8 [⟨3,23,Fi x first⟩,⟨9,29,Cu x.ai W.heap.size⟩,⟨11,31,Ct x.ai W.heap.size⟩,⟨12,32,Cv W.heap.size⟩] I (fun _ _=>True) [3,9,11,12] [23,29,31,32] [[],[],[],[]] #[true,true,true,true,true,true,true,true,true,true,true,true,true,false,false,false] 4 3 rfl rfl rfl Od Ok Ok (fun _ h=>h) aH ?_ ?_
 ·exact m8
 ·open aqP in exact m23):=h
def aqR.k57(h:aq:=by
 have nI:ah (∀w',I w'->ar w' w.heap.size 251 [.bool f,.bool g,.func (.func p) #[] #[],.func (.func m) #[] #[],.func (.func i) #[] #[]]):=fun w' h=>BR.cy (su w' h).1 Oc;have bO:ah (∀w',I w'->aA w' w.heap.size 0 (.bool f)/\aA w' w.heap.size 1 (.bool g)/\aA w' w.heap.size 2 (.func (.func p) #[] #[])/\aA w' w.heap.size 3 (.func (.func m) #[] #[])/\aA w' w.heap.size 4 (.func (.func i) #[] #[])):=fun w' h=>by exact m64
 open aqQ in exact afg):=h
def ajJ(jb pb:Nat)(x:aP)(T:List (List Rw))(C:bR x)(first:Int)(D:Option Nat)(f g:Bool)(p m i J H:FuncId)(F:Array Value)(w:au)(r:fW x T jb pb w)(q:dl x pb w)(hne:jb≠pb)(h1: -1<=first)(h2:first<(x.ai.length:Int)):
 Calls prog 183 #[aI jb 0,av first,.map D,.agg #[.bool f,.bool g,.func (.func p) #[] #[],.func (.func m) #[] #[],.func (.func i) #[] #[]],.func (.func J) #[] F,.func (.func H) #[] #[]] w fun e w'=>∃a nb sb kb z y t s,e= .returned (aI a 0)/\
  ar w' a 259 [aI jb 0,z,y,t,s,.bool f,.bool g,.func (.func p) #[] #[],.func (.func m) #[] #[],.func (.func i) #[] #[],.func (.func J) #[] F,.func (.func H) #[] #[],.map D,aG nb 0 x.ai x.ai,aG sb 0 x.ai x.ai,.map (some kb)]/\
  ni w' (.agg #[z,y,t,s]) x first/\ar w' nb bJ (s5 x.ai fun _=> [])/\ar w' sb fH (fG x.ai fun _=>false)/\dH w' bJ kb 0 (fun _=>none)/\(w.heap.size<=a/\w.heap.size<=nb/\w.heap.size<=sb/\w.heap.size<=kb)/\(a≠nb/\a≠sb/\a≠kb)/\dl x pb w'/\a8 [pb] w w':=by
 have a12:=C.a12;have aN:=af C;have hpl:=q.lt;have L:=r.lt;have HM:=af q;have GG:=af r;obtain⟨A,c,B,d,E,e,At,M,O,N,l,G,_⟩:=r;have HJ:=af G;clear G q;go_enter func183,ntmps183;open aqR in exact m57
def aqM.k23(h:aq:=by exact bodyPost_ret (v:=aI w3.heap.size 0) (by simp [results,results134,go_sem]) rfl ⟨w3.heap.size,nb,sb,kb,_,_,_,_,rfl,BX,HPf,HNf,Kj,HMf,⟨by omega,by omega,by omega,by omega⟩,⟨by omega,by omega,by omega⟩,zU.2,HC⟩):=h
def aqN.afF(h:aq:=by
 refine bZ.O8 [⟨3,23,Fi x first⟩,⟨9,29,Cu x.ai W.heap.size⟩,⟨11,31,Ct x.ai W.heap.size⟩,⟨12,32,Cv W.heap.size⟩] I (fun _ _=>True) [3,9,11,12] [23,29,31,32] [[],[],[],[]] #[true,true,true,true,true,true,true,true,true,true,true,true,true,false,false,false] 4 3 rfl rfl rfl Od Ok Ok (fun _ h=>h) aH ?_ ?_
 ·exact m8
 ·open aqM in exact m23):=h
def aqO.k57(h:aq:=by
 have nI:ah (∀w',I w'->ar w' w.heap.size 138 [.bool i,.slice F g f,.bool q,.slice G p m,.bool y,.slice J t s,.bool r,.slice H q1 q2,.func (.func D) #[] #[],.func (.func C) #[] #[],.func (.func z) #[] #[]]):=fun w' h=>BR.cy (su w' h).1 Oc;have bO:ah (∀w',I w'->aA w' w.heap.size 0 (.bool i)/\aA w' w.heap.size 1 (.slice F g f)/\aA w' w.heap.size 2 (.bool q)/\aA w' w.heap.size 3 (.slice G p m)/\aA w' w.heap.size 4 (.bool y)/\aA w' w.heap.size 5 (.slice J t s)/\aA w' w.heap.size 6 (.bool r)/\aA w' w.heap.size 7 (.slice H q1 q2)/\aA w' w.heap.size 8 (.func (.func D) #[] #[])/\aA w' w.heap.size 9 (.func (.func C) #[] #[])/\aA w' w.heap.size 10 (.func (.func z) #[] #[])):=fun w' h=>by exact m64
 open aqN in exact afg):=h
def aju(jb pb:Nat)(x:aP)(T:List (List Rw))(U:bR x)(first:Int)(V:Option Nat)(i:Bool)(F:aR)(g f:Nat)(q:Bool)(G:aR)(p m:Nat)(y:Bool)(J:aR)(t s:Nat)(r:Bool)(H:aR)(q1 q2:Nat)(D C z fl Z:FuncId)(X:Array Value)(w:au)(M:fW x T jb pb w)(L:dl x pb w)(hne:jb≠pb)(h1: -1<=first)(h2:first<(x.ai.length:Int)):
 Calls prog 134 #[aI jb 0,av first,.map V,.agg #[.bool i,.slice F g f,.bool q,.slice G p m,.bool y,.slice J t s,.bool r,.slice H q1 q2,.func (.func D) #[] #[],.func (.func C) #[] #[],.func (.func z) #[] #[]],.func (.func fl) #[] X,.func (.func Z) #[] #[]] w fun e w'=>∃a nb sb kb Q P O N,e= .returned (aI a 0)/\
  ar w' a 266 [aI jb 0,Q,P,O,N,.bool i,.slice F g f,.bool q,.slice G p m,.bool y,.slice J t s,.bool r,.slice H q1 q2,.func (.func D) #[] #[],.func (.func C) #[] #[],.func (.func z) #[] #[],.func (.func fl) #[] X,.func (.func Z) #[] #[],.map V,aG nb 0 x.ai x.ai,aG sb 0 x.ai x.ai,.map (some kb)]/\
  ni w' (.agg #[Q,P,O,N]) x first/\ar w' nb bJ (s5 x.ai fun _=> [])/\ar w' sb fH (fG x.ai fun _=>false)/\dH w' bJ kb 0 (fun _=>none)/\(w.heap.size<=a/\w.heap.size<=nb/\w.heap.size<=sb/\w.heap.size<=kb)/\(a≠nb/\a≠sb/\a≠kb)/\dl x pb w'/\a8 [pb] w w':=by
 have a12:=U.a12;have aN:=af U;have hpl:=L.lt;have dI:=M.lt;have HM:=af L;have GG:=af M;obtain⟨A,c,B,d,E,e,At,ct,Al,cl,l,Y,_⟩:=M;have HJ:=af Y;clear Y L;go_enter func134,ntmps134;open aqO in exact m57
def ajW(h:fL B T):T.length<=60:=by
 rcases h with rfl|⟨-,f, -⟩|⟨-,z,rfl,c⟩|⟨-,q,rfl,a⟩
 ·simp
 ·have:=f.2.1;omega
 ·have j:=ub z;have i:=yC c.lt;omega
 ·have j:=ub q.num;have i:=yC a.1.lt;by_cases b:q.den=1
  ·rw[nP b];omega
  ·rw[o_ b,bC,cP,decDigits_length];have l:=yC (n:=q.den) (e:=1) (by have:=a.2;omega);omega
def univ(T:List (List Rw)):List aD:=jH ([]::T.flatMap fun l=>l.flatMap fun y=>y.1)
def L0(T:List (List Rw)):(univ T).Nodup:=Rx (Hw _)
def abN{T:List (List Rw)}{l:List Rw}{y:Rw}{t:aD}(c:l∈T)(a:y∈l)(b:t∈y.1):t∈univ T:=
 yF.2 (aJ.2 (.inr (o7.2 ⟨l,c,o7.2 ⟨y,a,b⟩⟩)))
def alU{T:List (List Rw)}{t:aD}(h:t∈univ T):t= []\/∃l∈T,∃y∈l,t∈y.1:=by
 rcases aJ.1 (yF.1 h) with h|h
 ·exact .inl h
 ·obtain⟨l,b,h⟩:=o7.1 h;obtain⟨y,a,h⟩:=o7.1 h;exact .inr ⟨l,b,y,a,h⟩
def alS(T:List (List Rw)):1<=(univ T).length:=by have h:([]:aD)∈univ T:=yF.2 Ou;exact List.length_pos_of_mem h
def Mz{α β:Type}{f:α->List β}{m:Nat}:∀{l:List α},(∀a∈l,(f a).length<=m)->(l.flatMap f).length<=l.length*m
 | [],_=>by simp
 |a::l,h=>by rw[vB,bC,cP,ki,nQ];have i:=h a Ou;have e:=Mz (l:=l) fun b c=>h b awh;omega
def alT{T:List (List Rw)}(i:T.length<=6)(h:∀l∈T,l.length<=60)(e:∀l∈T,∀y∈l,y.1.length<=6):(univ T).length<=2161:=by
 refine a7 (QT _) ?_;rw[cP];have o:=Mz (m:=360) (l:=T) (f:=fun l=>l.flatMap fun y=>y.1) fun l a=>by have n:=Mz (f:=fun y:Rw=>y.1) fun y b=>e l a y b;have c:=h l a;have k:l.length*6<=60*6:=eT _ c;omega
 have j:T.length*360<=6*360:=eT _ i;omega
section
variable{x:aP}{D:List (List Rw)}
theorem RT{T:List (List Rw)}{y:Rw}(b:y∈bY T a):∃l∈T,y∈l:=by
 unfold bY at b;cases c:T[a]? with
 |none=>rw[c] at b;cases b
 |some l=>rw[c] at b;exact⟨l,sK c,b⟩
theorem Ms(f:gc x D){l:List Rw}(h:l∈aU x D):∃(i:Nat) (j:i<x.ay) (c:i<D),l=kL x.ay x.ay[i].2 D[i]/\wn x x.ay[i].2 D[i]:=by
 obtain⟨i,a,e⟩:=iQ h;rw[qY] at a;have c:i<D.length:=by rw[f.1];exact a
 have b:=Mj a c;rw[aX (by rw[qY];exact a),e] at b;injection b with b;exact⟨i,a,c,b,f.2 i _ _ (aX c) (aX a)⟩
theorem Mt(c:gc x D){l:List Rw}(b:l∈aU x D):l.length<=60:=by obtain⟨i,f,e,rfl,a⟩:=Ms c b;exact a7 (mm _ _) a.len
theorem amT(n:gc x D){l:List Rw}(m:l∈aU x D){y:Rw}(h:y∈l){t:aD}(k:t∈y.1):(0:UInt8)∉t/\t.length<=1000:=by
 obtain⟨i,q,o,rfl,a⟩:=Ms n m;have c:=a.val y (yJ h);obtain⟨j,e,rfl⟩:=iQ k;have b:j<x.ay[i].2.length:=by rw[<-c.1];exact e
 have f:=c.2 j _ _ (aX b) (aX e);have:=ajW f;exact⟨ahW f,by omega⟩
theorem SP(e:gc x D):∀h∈bM x,∀y∈bY (aU x D) h,1<=y.2/\y.2<=1000000:=fun h f y a=>by obtain⟨l,c,a⟩:=RT a;obtain⟨i,k,j,rfl,b⟩:=Ms e c;have:=b.wt y (yJ a);omega
theorem amV(c:bR x)(n:x.ai.length<=6)(j:gc x D){l:List Rw}(h:l∈aU x D){y:Rw}(f:y∈l):y.1.length<=6:=by
 obtain⟨i,k,m,rfl,b⟩:=Ms j h;rw[(b.val y (yJ f)).1];have e:=a_ k;have a:=EU (c.ra _ e) (c.ri _ e);rcases a with a|a
 ·rw[a];simp
 ·omega
def fK(x:aP)(d:Nat->Nat):Nat->List Nat:=fun v=>(bM x).filter fun t=>eJ d (bh x t) ((bh x t).headD 0)==v
theorem aoD{p:Nat->Option Nat}{d:Nat->Nat}{g:List Nat}(r:cX a p d)(f:b<a):(n_ a p g b).length+1<=a:=by
 have h:(b::n_ a p g b).Nodup:=(by refine i6.2 ⟨fun i=> ?_,x7 x8 qQ⟩;unfold n_ at i;have j:=(fp.1 i).2;rw[cZ,qZ] at j;have:=j.2.lQ r b rfl f;omega);exact EA h fun c e=>by
  rcases aJ.1 e with rfl|e
  ·exact f
  ·exact dB.1 (fp.1 e).1
variable{α:Type}{R:SR α}{G:Nat->Nat->α->Prop}{wt:Int->α}{g:Nat->aD->α}{fx:Nat->Option aD}{p:Nat->Option Nat}{d:Nat->Nat}
theorem arA(ok:bR x)(b:gc x D)(r:cX x.ai.length p d)(hW:Whole x.ai.length (bh x) (bM x) (d_ x.ai.length p (fK x d) x.ai.length none))(gr:wN R G)(hg:∀v t,cL fx v t=false->g v t=R.zero)(gg:∀v t,v<x.ai.length->t∈univ (aU x D)->G 1 1 (g v t))(m:∀k:Int,1<=k->k<=1000000->G 1 1 (wt k)):
 Wk R G wt g fx (univ (aU x D)) x (aU x D) p d (fK x d) where
 gr:=gr
 r:=r
 sc:=ok
 tb:=abe ok b
 hg:=hg
 un:=L0 _
 hU:=fun h _ y a t c=>by obtain⟨l,e,a⟩:=RT a;exact abN e a c
 gg:=gg
 hw:=fun h hh y a=>m _ (SP b h hh y a).1 (SP b h hh y a).2
 hK:=fun h hh=>by have f:=lN.1 hh;unfold bY;rw[aX (by rw[qY];exact f)];exact Mt b (a_ _)
 whole:=hW.ok
 hh:=fun v h hh=>(fp.1 hh).1
 nd:=fun v=>x7 x8 qQ
 ap:=fun v w h j i=>(beq_iff_eq.1 (fp.1 j).2).symm.trans (beq_iff_eq.1 (fp.1 i).2)
end
def Gg.gr{α:Type}{R:SR α}{V:World->Value->α->Prop}{G:Nat->Nat->α->Prop}{wt:Int->α}{a:α->Bool}{f e b c:FuncId}(h:Gg R V G wt a f e b c):wN R G:=⟨h.Um,h.Ul,h.Tw,h.Tv,h.gone⟩
noncomputable def U2{α:Type}(R:SR α)(V:World->Value->α->Prop)(G:Nat->Nat->α->Prop)(wt:Int->α)(wR:α->Bool)(fa fm fz fw fl:FuncId)(g:Nat->aD->α)(fx:Nat->Option aD)(fv:Value)(x:aP)(D:List (List Rw))(p:Nat->Option Nat)(d:Nat->Nat)(wl:List Nat)(w0 w1:au)(cs:List Value)(tX:TypeId)(xb jb nb sb kb:Nat):Pw α where
 R:=R
 V:=V
 G:=G
 wt:=wt
 wR:=wR
 fa:=fa
 fm:=fm
 fz:=fz
 fw:=fw
 fl:=fl
 g:=g
 fx:=fx
 fv:=fv
 U:=univ (aU x D)
 x:=x
 T:=aU x D
 p:=p
 d:=d
 homes:=fK x d
 key:=fun v=>n_ x.ai.length p (gF x.ai.length x.ay) v
 ch:=m_ x.ai.length p
 ks:=yZ (gF x.ai.length x.ay) p
 hs:=Ca x.ai.length d x.ay
 wl:=wl
 w0:=w0
 w1:=w1
 cs:=cs
 tX:=tX
 xb:=xb
 jb:=jb
 nb:=nb
 sb:=sb
 kb:=kb
def adE{α:Type}{R:SR α}{V:World->Value->α->Prop}{G:Nat->Nat->α->Prop}{wt:Int->α}{H:α->Bool}{W U Q T I:FuncId}{g:Nat->aD->α}{fx:Nat->Option aD}{x:aP}{D:List (List Rw)}{p:Nat->Option Nat}{d:Nat->Nat}{K:Array Value}
 (ring:Gg R V G wt H W U Q T) (ok:bR x) (F:gc x D) (X:x.ai.length<=6) (r6:x.ay.length<=6) (r:cX x.ai.length p d) (hW:Whole x.ai.length (bh x) (bM x) (d_ x.ai.length p (fK x d) x.ai.length none)) (hg:∀v s,cL fx v s=false->g v s=R.zero) (gg:∀v s,v<x.ai.length->s∈univ (aU x D)->G 1 1 (g v s))
 (pl:Pb n t x.ai (m_ x.ai p) (yZ (gF x.ai x.ay) p) (Ca x.ai d x.ay) i)
 (ca:t[h]? =some (.func (.func W) #[] #[])) (cm:t[h+1]? =some (.func (.func U) #[] #[])) (cz:t[h+2]? =some (.func (.func Q) #[] #[])) (cl:t[h+3]? =some (.func (.func I) #[] K)) (cw:t[h+4]? =some (.func (.func T) #[] #[])) (cf:t[h+5]? =some q) (ck:t[h+8]? =some (.map (some f)))
 (kw:m.heap.size<=f) (kx:a≠f) (kn:c≠f) (L:e≠f) (il:∀C z,(callFunc I C).run prog z= .ok (.enter I C) z)
 (lift:∀z,Ext m z->∀v s,v<x.ai.length->qp x (aU x D) v s->cL fx v s=true->Calls prog I (#[av v,aL s]++K) z fun k Z=>∃u,k= .returned u/\V Z u (g v s)/\Ext z Z) (J:tV m q fx):
 iA (U2 R V G wt H W U Q T I g fx q x D p d i m n t w a b c e f) h K:=by
 have Y:=arA ok F r hW ring.gr hg gg ring.gw;have B:=(yG ok.ri).len;have hu:=alT (by rw[qY];exact r6) (fun l E=>Mt F E) (fun l E y M=>amV ok X F E M);refine⟨ring,Y,pl,fun v A=>am3 A,ajj,fun v A=>alf A,fun v A=> ?_,fun v A j P=> ?_,fun v A=> ?_,fun v A k e' N=> ?_,ca,cm,cz,cl,cw,cf,ck,kw,kx,kn,L,il,lift,J,r6,a7 X Od,fun l E=>Mt F E,SP F,fun s ht=> ?_,alS _,?_⟩
 ·have o:=am4 (g:=gF x.ai x.ay) (p:=p) (show v<(gF x.ai x.ay) by rw[B];exact A);rwa[B] at o
 ·have o:=fp.1 P;exact⟨(cZ _ _▸o.2:_/\_).2,dB.1 o.1⟩
 ·have:=aoD (g:=gF x.ai x.ay) r A;show(n_ x.ai p (gF x.ai x.ay) v).length<=5
  omega
 ·obtain⟨S,s1,s2⟩:=Y.CJ (d v) v A (aK _);refine alX ok r A (fun o k e' N=>EC o k e' N) s1 (fun j P=>qZ.1 ((s2 j).1 P)) (fun o hh=> ?_) N;have O:(eH x.ai p (fK x d) v).By (fK x d):=⟨rfl,yx _ _,trivial⟩;obtain⟨z,_,hw⟩:=(O.mem o).1 hh;exact lN.1 (fp.1 hw).1
 ·rcases alU ht with rfl|⟨l,E,y,M,o⟩
  ·simp
  ·exact amT F E M o
 ·have h1:=Nat.pow_le_pow_left hu 5;have h2:=vF X h1;have h3:6*2161^5<maxLen:=by unfold maxLen;decide
  exact Ay h2 h3
section
variable{n:Nat}{adj:Nat->Nat->Prop}{perm:List Nat}
theorem abo(z:∀a b,adj a b->adj b a)(d:∀a,a<n->a∈perm){f k:Nat}{u:Option Nat}(s:perm.head? =some f):
 ∀(L:List VS),(∀c∈L,(∀x,c x=true->x<n)/\(∃a,c a=true)/\c.count n<=k+1)->∀p:Nat->Option Nat,((∃c∈L,c f=true)\/p f=u)->(L.foldl (fun p c=>match perm.find? c with
  |some a=>jh n adj perm k (VS.less c (VS.one a)) (some a) (iJ p a u)
  |none=>p) p) f=u
 | [],_,p,h=>by
   rcases h with⟨c,D,_⟩|h
   ·cases D
   ·exact h
 |c::L,A,p,h=>by
  obtain⟨v,⟨x,m⟩,E⟩:=A c Ou;rw[Hh];refine abo z d s L (fun w j=>A w (by simp [j])) _ ?_;obtain⟨a,r⟩:∃a,perm.find? c=some a:=by
   cases C:perm.find? c with
   |some a=>exact⟨a,rfl⟩
   |none=>exact absurd m (Az.1 C x (d x (v x m)))
  have q:c a=true:=yh r;have B:=sT (n:=n) q (v a q);have o:∀x,(VS.less c (VS.one a)) x=true->c x=true:=fun x m=>by unfold VS.less at m;rw[cZ] at m;exact m.1
  obtain⟨y,_⟩:=L9 (adj:=adj) z d k (VS.less c (VS.one a)) (some a) (iJ p a u) (fun x m=>v x (o x m)) Om;rw[r];simp only;cases i:c f with
  |true=>
   right;have e:a=f:=by
    rcases perm with _|⟨b,l⟩
    ·cases s
    ·injection s with s;subst s;rw[List.find?_cons,i] at r;injection r with r;exact r.symm
   subst e;rw[y a awG];unfold iJ;rw[if_pos rfl]
  |false=>
   rcases h with⟨w,j,g⟩|h
   ·rcases aJ.1 j with rfl|j
    ·rw[i] at g;cases g
    ·exact .inl ⟨w,j,g⟩
   ·right;have t:f≠a:=fun e=>by rw[e,q] at i;cases i
    rw[y f (by unfold VS.less;rw[i];rfl)];unfold iJ;rw[if_neg t,h]
theorem aiT(i:∀d g,adj d g->adj g d)(h:∀d,d<n->d∈perm){rest:VS}(s:perm.head? =some a)(t:a<n)(r:∀x,rest x=true->x<n)(v:rest.count n<=b+1)(q:rest a=true):jh n adj perm (b+1) rest O y a=O:=by
 have l:∀c∈parts adj (List.range n) rest,∀x,c x=true->rest x=true:=fun c m x o=>by obtain⟨d,_,j,rfl⟩:=yl i m;exact p4 i j o
 refine abo i h s _ (fun c m=> ?_) y (.inl ⟨_,Ej (adj:=adj) i t q,eV.2 .refl⟩);obtain⟨d,_,j,e⟩:=yl i m;refine⟨fun x o=>r x (l c m x o),⟨d,by rw[e];exact eV.2 .refl⟩,?_⟩;have:=vH (n:=n) (l c m);omega
end
def akD{x:aP}(j:bR x){perm:List Nat}(d:∀c,c∈perm↔c<x.ai)(e:perm.head? =some a):mA x perm a=none:=by
 have i:=yG j.ri;have l:∀c b,eZ (gF x.ai x.ay) c b->eZ (gF x.ai x.ay) b c:=fun c b h=>by obtain⟨r,s,q,p,o⟩:=(i.bit c b).1 h;exact(i.bit b c).2 ⟨r,s,p,q,o.symm⟩
 have g:a<x.ai.length:=(d a).1 (List.mem_of_head? e);exact aiT (adj:=eZ (gF x.ai x.ay)) l (fun c m=>(d c).2 m) e g (fun y k=>of_decide_eq_true k) (by rw[EB];omega) (decide_eq_true g)
def adn{x:aP}(q:dl x a m)(k:a8 [a] m n):∃b,Ext b n/\b.heap.size=m.heap.size/\(∀W,Ext b W->a8 [a] m W)/\(∀i,i≠a->b.heap[i]? =m.heap[i]?)/\∀t,Kept t m b:=by
 have r:=q.lt;have l:=cF r k.size;have f:∀i,i≠a->(m.heap.setIfInBounds a n.heap[a])[i]? =m.heap[i]?:=fun i c=>by rw[Array.getElem?_setIfInBounds_ne (fP c)]
 have v:(m.heap.setIfInBounds a n.heap[a])[a]? =n.heap[a]?:=(by rw[Array.getElem?_setIfInBounds_self_of_lt r,YE l]);refine⟨{m with heap:=m.heap.setIfInBounds a n.heap[a]},⟨k.os,k.tape,k.output,?_,fun i c=> ?_⟩,?_,fun W hW=>⟨hW.os,hW.tape,hW.output,?_,fun i c s=> ?_⟩,f,fun t g A y d=> ?_⟩
 ·rw[Lc];exact k.size
 ·have o:i<m.heap.size:=(by have h:(m.heap.setIfInBounds a n.heap[a]).size=m.heap.size:=Lc ..;rw[<-h];exact c);by_cases e:i=a
  ·rw[e,v]
  ·rw[f i e];exact k.block i o av8
 ·exact Lc ..
 ·have h:=hW.size;rwa[Lc] at h
 ·have h:=hW.block i (by rw[Lc];exact c);rw[h,f i (by simpa using s)]
 ·have j:g≠a:=fun e=>by subst e;obtain⟨_,_,⟨D,⟨z,p,u,_⟩,_⟩,_⟩:=q;rw[u] at d;injection d with d;cases d
  exact(f g j).trans d
noncomputable def wK(b:Nat->Option aD)(j:Option Nat)(x:aP)(D:List (List Rw))(p:Nat->Option Nat)(d:Nat->Nat)(e:List Nat)(g f:au)(m:List Value)(c l i h k:Nat):Pw Bool:=
 U2 dE (fun _ u a=>u= .bool a) (fun _ _ _=>True) (fun _=>true) (fun a=> !a) 221 222 223 186 185 (fun v t=>cL b v t) b (.map j) x D p d e g f m 259 c l i h k
def adN{x:aP}{D:List (List Rw)}(k:bR x)(n:gc x D)(h:fW x (aU x D) a b m):Yi m a x (aU x D):=by have g:=h.lt;obtain⟨A,c,B,d,E,e,At,r,C,u,l,i,p,o,_⟩:=h;obtain⟨F,v,z,t,y,s,f,_,j,_⟩:=p;injection f with f;injection f with f;injection f with _ f;injection f with q _;rw[<-q] at j;exact⟨g,⟨B,d,i.cell rfl,j⟩,⟨At,r,i.cell rfl,o⟩,amU k n⟩
def adr{α:Type}{D:Pw α}(i:Yi D.w0 D.jb D.x D.T)(g:Ext D.w0 m)(f:D.w1=m)(o:D.w0.heap.size<=D.nb)(n:D.w0.heap.size<=D.sb)(l:D.xb≠D.nb)(k:D.xb≠D.sb)(j:ar m D.xb D.tX D.cs)(r:D.cs[0]? =some (aI D.jb 0))
 (q:D.cs[a]? =some (aG D.nb 0 D.x.ai.length D.x.ai.length)) (p:D.cs[b]? =some (aG D.sb 0 D.x.ai.length D.x.ai.length)) (d:ar m D.nb bJ (s5 D.x.ai.length fun _=> [])) (c:ar m D.sb fH (fG D.x.ai.length fun _=>false)) (h:dH m bJ D.kb 0 fun _=>none):
 ce D a b (fun _=> []) (fun _=>false) m:=by
 refine⟨⟨i,g,o,n,fun e=> ?_,l,k,j,r,q,p,d,c⟩,lx.new h,by rw[f];exact kj _ _,by rw[f];exact kj _ _⟩;rw[e] at d;unfold ar at d c;rw[d] at c;injection c with c;injection c with _ c;revert c
 decide
def Iu{f:Lit->Option Value}(h:ar m a x t)(i:dH m w b c f):a≠b:=fun e=>by obtain⟨D,⟨o,d,j,_⟩,_⟩:=i;unfold ar at h;rw[e,j] at h;injection h with h;cases h
def abC(b l:Nat)(x:aP)(D:List (List Rw))(F:bR x)(hD:gc x D)(a6:x.ai.length<=6)(r6:x.ay.length<=6)(first:Int)(m:Option Nat)(B:Nat->Option aD)(w:au)(hB:fW x (aU x D) b l w)(hM:dl x l w)(z:b≠l)(h1: -1<=first)(h2:first<(x.ai.length:Int))(K:∀W,a8 [l] w W->tV W (.map m) B):
 Calls prog 129 #[aI b 0,av first,.map m] w fun e q=>∃p d n V H j g c i,e= .returned (aI j 0)/\iA (wK B m x D p d n V q H j b g c i) 7 #[]/\ce (wK B m x D p d n V q H j b g c i) 13 14 (fun _=> []) (fun _=>false) q/\H[5]? =some (.bool false)/\H[6]? =some (.bool true)/\
  cX x.ai p d/\Whole x.ai (bh x) (bM x) (d_ x.ai p (fK x d) x.ai none)/\(∀f:Nat,first=f->p f=none)/\(w.heap.size<=j/\w.heap.size<=g/\w.heap.size<=c/\w.heap.size<=i)/\dl x l q/\a8 [l] w q:=by
 have HF:=af K;have S:=af hM;have CS:=af (fun W (G:Ext w W)=>ajJ b l x (aU x D) F first m false true 221 222 223 185 186 #[] W (hB.ext G) (hM.ext G) z h1 h2);have T:=af hB;go_enter func129,ntmps129;go_wp2_with fail
 refine(aix w).mono ?_;rintro e1 w1 ⟨rfl,s⟩;have U:=af (CS w1 s);have C:=af s;go_wp2_with fail
 refine U.mono ?_;rintro e2 E ⟨j,g,c,i,p0,p1,p2,p3,rfl,G,hP,Z,Y,M,⟨z1,z2,z3,z4⟩,⟨n1,n2,n3⟩,J,L⟩;have hsz:=C.size;have HC:ah (a8 [l] w E):=(gT C).trans L;obtain⟨k,hE,o,Q,P,O⟩:=adn S HC;obtain⟨a,d,n,q1,q2,q3,q4,cb,r,X,A6,c6,q5,q6,q7,q8,q9⟩:=hP;injection q5 with q5;injection q5 with q5;injection q5 with e0 q5;injection q5 with e1 q5;injection q5 with e2 q5;injection q5 with e3 _;subst e0 e1 e2 e3;have N:fW x (aU x D) b l k:=T.keep (P b z) O;have R:=adN F hD N;have y:g≠i:=Iu Z M;have u:c≠i:=Iu Y M;have A:iA (wK B m x D (mA x a) d n k E [aI b 0,aG cb 0 (x.ai.length+1) (x.ai.length+1),aG r 0 x.ai x.ai,aG X 0 x.ai x.ai,.slice A6 n c6,.bool false,.bool true,.func (.func 221) #[] #[],.func (.func 222) #[] #[],.func (.func 223) #[] #[],.func (.func 185) #[] #[],.func (.func 186) #[] #[],.map m,aG g 0 x.ai x.ai,aG c 0 x.ai x.ai,.map (some i)] j b g c i) 7 #[]:=
  adE aqj F hD a6 r6 q3 q4 (fun v t h=>h) (fun _ _ _ _=>trivial) ⟨cb,r,X,A6,c6,rfl,rfl,rfl,rfl,q6,q7,q8,q9⟩ rfl rfl rfl rfl rfl rfl rfl (by rw[o];omega) n3 y u (fun _ _=>by rfl) (fun W hW v t _ _ ht=>by refine(alA v ⟨t.toArray⟩ W).mono ?_;rintro e q ⟨rfl,rfl⟩;exact⟨_,rfl,by rw[ht],aB _⟩) (HF k (Q k (aB k)))
 have I:ce (wK B m x D (mA x a) d n k E _ j b g c i) 13 14 (fun _=> []) (fun _=>false) E:=adr R hE rfl (show k.heap.size<=g by rw[o];omega) (show k.heap.size<=c by rw[o];omega) n1 n2 G rfl rfl rfl Z Y M;go_wp2_with fail;exact bodyPost_ret (v:=aI j 0) (by simp [results,results129,go_sem]) rfl ⟨mA x a,d,n,k,_,j,g,c,i,rfl,A,I,rfl,rfl,q3,q4,fun f hf=>akD F q1 (q2 f hf),⟨by omega,by omega,by omega,by omega⟩,J,HC⟩
def jY(x:aP)(D:List (List Rw))(fx:Nat->Option aD):Prop:=uV x.ai.length (bM x) (univ (aU x D)) (lW (bh x) (bY (aU x D))) fx
noncomputable def ey(x:aP)(D:List (List Rw))(fx:Nat->Option aD)(a:Nat):List aD:=(univ (aU x D)).filter fun t=> @decide (jY x D (ij fx a t)) (Classical.propDecidable _)
def ab_(x:aP)(D:List (List Rw))(fx:Nat->Option aD)(a:Nat):(ey x D fx a).Pairwise rI:=x7 x8 (Hw _)
section
variable{x:aP}{D:List (List Rw)}{p:Nat->Option Nat}{d:Nat->Nat}{fx:Nat->Option aD}
theorem M4(e:bR x):∀h∈bM x,∀a∈bh x h,a<x.ai.length:=fun h f a i=>by have c:=lN.1 f;have j:=(uo c fun b g=>(e.ri _ (a_ c) b g).1).1 i;have:=(e.ri _ (a_ c) _ j).2;omega
theorem aaJ(a:bR x)(r:cX x.ai.length p d)(hW:Whole x.ai.length (bh x) (bM x) (d_ x.ai.length p (fK x d) x.ai.length none)):
 (dE.prod (kids x.ai.length p none) fun c=>vT dE x (aU x D) p (fK x d) (fun v t=>cL fx v t) (fun _=>true) (univ (aU x D)) c fun _=> [])=true↔jY x D fx:=by
 have e:=Zr (R:=dE) (U:=univ (aU x D)) (g:=fun v t=>cL fx v t) (W:=fC dE (bh x) (bY (aU x D)) fun _=>true) (homes:=fK x d) r (fun _=> []);have b:=aaK (env:=fun _=> []) (fx:=fx) (U:=univ (aU x D)) (W:=lW (bh x) (bY (aU x D))) Q8 hW.wf hW.vd hW.vm hW.hm (M4 a);unfold jY;rw[<-b];show _↔(d_ x.ai.length p (fK x d) x.ai.length none).val dE (univ (aU x D)) (fun v t=>cL fx v t) (fC dE (bh x) (bY (aU x D)) fun _=>true) (fun _=> [])=true
 rw[e];rfl
theorem aoi(f:Wk dE (fun _ _ _=>True) (fun _=>true) (fun v t=>cL fx v t) fx (univ (aU x D)) x (aU x D) p d (fK x d)){a:Nat}(i:a<x.ai.length)(g:p a=none)(k:fx a=none)(hT:jY x D fx):
 ((gZ (bh x) (bY (aU x D)) (bM x) fx (bE p a) (fun _=> []) a).filter fun t=>bT dE x (aU x D) p (fK x d) (fun v t=>cL fx v t) (fun _=>true) (univ (aU x D)) a t fun _=> [])=ey x D fx a:=by
 refine SN (x7 x8 aby) (ab_ x D fx a) fun t=> ?_;have s:=ZT f.r f.whole a (gU.2 ⟨i,g⟩);have o:=LS (homes:=fK x d) f.r i;have A:(eH x.ai.length p (fK x d) a).By (fK x d):=⟨rfl,yx _ _,trivial⟩;have e:=aoj (env:=fun _=> []) (fx:=fx) (U:=univ (aU x D)) (W:=lW (bh x) (bY (aU x D))) Q8 s o (fun v K=>by
  rcases(L1 f.r i).1 K with rfl|h
  ·exact i
  ·exact h.1) (fun h u=>by
  obtain⟨w,_,J⟩:=(A.mem h).1 u;exact(fp.1 J).1) k t
 have l:(ji x.ai.length p (fK x d) a).val dE (univ (aU x D)) (cL fx) (lW (bh x) (bY (aU x D))) (put (fun _=> []) a t)=dE.prod (kids x.ai.length p (some a)) fun c=>vT dE x (aU x D) p (fK x d) (fun v t=>cL fx v t) (fun _=>true) (univ (aU x D)) c (put (fun _=> []) a t):=(by have h:ji x.ai.length p (fK x d) a=dZ (fK x d) (ji x.ai.length p (fK x d)) (kids x.ai.length p (some a)):=sS f.r Om;rw[h,Md];rfl);rw[l] at e;have j:cL fx a t=true:=by unfold cL;rw[k]
 have B:bT dE x (aU x D) p (fK x d) (fun v t=>cL fx v t) (fun _=>true) (univ (aU x D)) a t (fun _=> [])=true↔(∀h∈fK x d a,lW (bh x) (bY (aU x D)) h (put (fun _=> []) a t)=true)/\(dE.prod (kids x.ai.length p (some a)) fun c=>vT dE x (aU x D) p (fK x d) (fun v t=>cL fx v t) (fun _=>true) (univ (aU x D)) c (put (fun _=> []) a t))=true:=by
  unfold bT;show((cL fx a t&&dE.prod (fK x d a) fun h=>hW dE x (aU x D) (fun _=>true) h (put (fun _=> []) a t))&&_)=true↔_
  rw[cZ,cZ,Qb,j];simp only[true_and];rfl
 rw[fp,B];unfold ey;rw[fp];simp only[decide_eq_true_eq];unfold jY at hT⊢;constructor
 ·rintro⟨G,n,E⟩;have F:=f.Vf i G;exact⟨F,e.1 ⟨hT,F,n,E⟩⟩
 ·rintro⟨G,n⟩;obtain⟨_,_,E,L⟩:=e.2 n;refine⟨?_,E,L⟩;have q:bE p a a=false:=Ik g;refine(Mm f.tb q (f.ne a i)).2 ⟨j,fun h u=> ?_⟩;obtain⟨H,N,M⟩:=n;have z:H a=t:=by have:=(N a i).2;rw[IG,beq_iff_eq] at this;exact this.symm
  obtain⟨y,I,O⟩:=RG.1 (M h (yB.1 u).1);refine o9.2 ⟨y,I,?_⟩;rw[O];rw[Ra (NI:=cQ (bE p a) a) (Nv:=H) fun b _=>⟨rfl,fun C=> ?_⟩]
  ·exact anO
  ·have m:b=a:=(by unfold cQ at C;rw[Ik g,vI,beq_iff_eq] at C;exact C);unfold put;rw[if_pos m,m,z]
end
end Go.Proofs.YtadbchhdjbghkaaGreatDoor
