/- Texts of the proof, part 21. -/
import Derived.Test.YtadbchhdjbghkaaGreatDoorA20
namespace Go.Proofs.YtadbchhdjbghkaaGreatDoor
set_option maxHeartbeats 8000000
set_option linter.all false
set_option maxRecDepth 100000
variable{aq:Prop}
open Go.RowKit Go.Lib Go.Maps Go.ChangeShapes Go.WideShapes Go.ChangeAt Go.Proofs.Tryz
variable{a b c d e f g h:Nat}{i j k l:List Nat}{m n o:World}{p q r s:Value}{t u v:List Value}{w x:TypeId}{y z:Nat→Option Nat}{A:Nat→List Nat}{B C:Int}{E F:Option Addr}{H I:Rat}{J:Nat→Nat}{K:Nat→Bool}{L:List Int}{N:Array Bool}{O:Option Nat}{Q:Act}{R S:Bool}{T:List UInt8}
def aqK.afD(h:aq:=by
 refine cD (S:=fun w'=>aA w' bn 0 zD) (T:=fun j=>decide (13<=j)) Ok ?_;have o:=af (aB W).drew;generalize W.drew=L at*;cases m:s with
 |nil=>
  subst m;have i:z=0:=by rw[<-y.ae];simp
  subst i;have C:=af (P false L);refine ax 0 6 ?_;refine ax 1 7 ?_;refine ax 2 8 ?_;refine lh 3 9 ?_;refine lh 4 10 ?_;refine lh 5 11 ?_;refine lh 6 12 ?_;refine lh 7 13 ?_;refine lh 8 14 ?_;refine lh 9 15 ?_;refine lh 10 16 ?_;refine ax 11 17 ?_;refine aO 12 ?_;intro K a;go_simp;refine C.mono ?_;rintro e4 M ⟨u3,rfl,f,c⟩;obtain⟨a0,A0,a1,a2,b0,B0,b1,b2,rfl, -, -⟩:=f.parts;have l:=af f;have g:=af (o.trans c);have bB:=af (cC _ g);have d:=af (BT.ext g);refine a.ae _ _ (fun _=>bB.ae) ?_;obtain⟨Z,Y,X,V⟩:=d.four;obtain⟨f0,f1,f2,f3⟩:=d.eX;clear a f c BT;refine aO 13 ?_;intro K a;go_simp;refine a.ae _ _ Oe ?_;refine b_ Ok ?_;go_wp2_with fail
  exact sW rfl rfl rfl d.ae l fun v W' E D=>⟨v,rfl,by simpa using E,(HX.trans g).only D Om⟩
 |cons a0 s0=>
  have q:s.isEmpty=false:=by rw[m];rfl
  have i:z=if decide (wJ H I<0) then 1 else 0:=by rw[<-y.ae,m];simp
  rw[<-m];clear m;have C:=af (h1 L);refine ax 0 6 ?_;refine ax 1 7 ?_;refine ax 2 8 ?_;refine ax 3 9 ?_;refine ax 4 10 ?_;refine ax 6 12 ?_;refine ax 7 13 ?_;refine aO 5 ?_;intro K a;go_simp;refine C.mono ?_;rintro e2 U ⟨u,rfl,f,c⟩;have HU:=af f;have x:=af (o.trans c);have bB:=af (cC _ x);have C2:=af (h2 U);refine a.ae _ _ (fun _=>bB.ae) ?_;clear a f c;refine aO 8 ?_;intro K a;go_simp;refine C2.mono ?_;rintro e3 R ⟨u2,rfl,f,c⟩;have F:=af (HU.ext c);have p:=af (x.trans c);have aH:=af (cC _ p);have C3:=af (ahQ u u2 H I R F f J G Om);refine a.ae _ _ (fun _=>aH.ae) ?_;clear a f c;generalize wJ H I=Q at*;refine aO 9 ?_;intro K a;go_simp;refine C3.mono ?_;rintro e4 M ⟨rfl,c⟩;have g:=af (p.trans c);have aH:=af (cC _ g);have C4:=af (P (decide (Q<0)) M);refine a.ae _ _ (fun _=>aH.ae) ?_;clear a c;refine ax 10 16 ?_;refine ax 11 17 ?_;generalize decide (Q<0)=bq at*;have y:=af i;clear i;refine aO 12 ?_;intro K a;go_simp;refine C4.mono ?_;rintro e5 w5 ⟨u3,rfl,f,c⟩;obtain⟨a1,A0,a2,a3,b0,B0,b1,b2,rfl, -, -⟩:=f.parts;rw[<-y.ae] at f;have l:=af f;have k:=af (g.trans c);have bB:=af (cC _ k);have d:=af (BT.ext k);refine a.ae _ _ (fun _=>bB.ae) ?_;obtain⟨Z,Y,X,V⟩:=d.four;obtain⟨f0,f1,f2,f3⟩:=d.eX;clear a f c BT;refine aO 13 ?_;intro K a;go_simp;refine a.ae _ _ Oe ?_;refine b_ Ok ?_;go_wp2_with fail
  exact sW rfl rfl rfl d.ae l fun v W' E D=>⟨v,rfl,E,(HX.trans k).only D Om⟩):=h
def alm{s t:aD}{bn:Nat}(h:qr s H)(B:qr t I)(w:au)(N:ar w bn 169 [zD]):Calls prog 103 #[aL s,aL t,aI bn 0] w fun e w'=>∃u,e= .returned u/\bX w' u (if s≠ []/\wJ H I<0 then 1 else 0)/\Ext w w':=by have h1:=af (fun W=>Mx h W);have h2:=af (fun W=>Mx B W);have P:=af (fun b W=>Rf b W);obtain⟨ee,he,O⟩:=h.fit;obtain⟨ef,r,n⟩:=B.fit;have J:=af O;have G:=af n;have HN:=af N;obtain⟨z,A⟩:∃z:Rat,(if s≠ []/\wJ H I<0 then (1:Rat) else 0)=z:=⟨_,rfl⟩;rw[A];have y:=af A;clear h N O B n A;go_enter func103,ntmps103;open aqK in exact afc
abbrev aqt:TypeId:=172
abbrev aes:TypeId:=111
def EY:prog.underlying aqt=some (.map aS aes):=Ok
def aoM(w:au):(zeroValue aes).run prog w= .ok .nilFunc w:=Ok
def Un(a:Nat):Nat->Value
 |1=> .func (.func 99) #[] #[aI a 0]
 |2=> .func (.func 100) #[] #[aI a 0]
 |3=> .func (.func 101) #[] #[]
 |4=> .func (.func 103) #[] #[aI a 0]
 |5=> .func (.func 105) #[] #[]
 |_=> .nilFunc
def uu{f:Lit->Option Value}(h:B≠C):lU f (.int .i64 C) p (.int .i64 B)=f (.int .i64 B):=ue fun e=>by injection e with _ e;exact h e
def put_eq{f:Lit->Option Value}(h:B=C):lU f (.int .i64 C) p (.int .i64 B)=some p:=by rw[h,AZ]
def ahO(k:Nat)(G:1<=k)(F:k<=5)(w:au):Calls prog 45 #[.int .i64 k] w fun e h=>∃a,e= .returned (Un a k)/\ar h a 169 [zD]/\Ext w h:=by
 go_enter func45,ntmps45;go_upto_region 1 with fail
 go_upto_region 2 with fail
 refine aT fun W t p=> ?_;have s:=p.lt;generalize w.heap.size=a at*;have r:= @run_makeMap prog;obtain⟨z,E,m1,n⟩:=(Ic W aS).put lL EY avW (key:= .int .i64 1) Ok (.func (.func 99) #[] #[aI a 0]);obtain⟨y,D,m2,m⟩:=m1.put lL EY avW (key:= .int .i64 2) Ok (.func (.func 100) #[] #[aI a 0]);obtain⟨x,C,m3,l⟩:=m2.put lL EY avW (key:= .int .i64 3) Ok (.func (.func 101) #[] #[]);obtain⟨u,B,m4,j⟩:=m3.put lL EY avW (key:= .int .i64 4) Ok (.func (.func 103) #[] #[aI a 0]);obtain⟨q,A,m5,i⟩:=m4.put lL EY avW (key:= .int .i64 5) Ok (.func (.func 105) #[] #[]);have d:=af ((((((aB W).alloc (.map #[] 0)).only n (aK _)).only m (aK _)).only l (aK _)).only j (aK _)|>.only i (aK _));have o:=m5.get lL EY (aoM q) (ES (v:=k) Om);have c:(lU (lU (lU (lU (lU (fun _=>none) (.int .i64 1) (.func (.func 99) #[] #[aI a 0])) (.int .i64 2) (.func (.func 100) #[] #[aI a 0])) (.int .i64 3) (.func (.func 101) #[] #[])) (.int .i64 4) (.func (.func 103) #[] #[aI a 0])) (.int .i64 5) (.func (.func 105) #[] #[]) (.int .i64 (k:Int))).getD .nilFunc=Un a k:=by
  obtain rfl|rfl|rfl|rfl|rfl:k=1\/k=2\/k=3\/k=4\/k=5:=Om
  ·rw[uu Od,uu Od,uu Od,uu Od,put_eq Od];rfl
  ·rw[uu Od,uu Od,uu Od,put_eq Od];rfl
  ·rw[uu Od,uu Od,put_eq Od];rfl
  ·rw[uu Od,put_eq Od];rfl
  ·rw[put_eq Od];rfl
 rw[c] at o;obtain⟨f,b⟩:∃f,Un a k=f:=⟨_,rfl⟩;rw[b] at o;have g:=af b;clear b;clear m1 m2 m3 m4 m5 n m l j i c;go_wp2_with fail
 exact bodyPost_ret (v:=f) (by simp [results,results45,go_sem]) rfl ⟨a,by rw[g.ae],p.ext d,t.trans d⟩
def xS(k:Nat)(s t:aD)(z:Rat):Prop:=
 (k=1/\qr s z)\/(k=2/\∃q,qr s q/\z=q*q)\/(k=3/\z=if s=t then 1 else 0)\/(k=4/\∃q r,qr s q/\qr t r/\z=if s≠ []/\wJ q r<0 then 1 else 0)\/(k=5/\z=if s= [] then 0 else 1)
def xS.kind{s t:aD}(h:xS a s t H):1<=a/\a<=5:=by rcases h with h|h|h|h|h<;>omega
def adf{s t:aD}(h:xS a s t H)(w:au):Calls prog 45 #[av a] w fun e i=>∃b c,e= .returned (.func (.func b) #[] c)/\ah (∀d w,(callFunc b d).run prog w= .ok (.enter b d) w)/\
 ah (∀W,Ext i W->Calls prog b (#[aL s,aL t]++c) W fun e l=>∃u,e= .returned u/\bX l u H/\Ext W l)/\ah (Ext w i):=by
 refine(ahO a h.kind.1 h.kind.2 w).mono ?_;rintro e i ⟨n,rfl,j,g⟩;rcases h with⟨rfl,h⟩|⟨rfl,q,h,rfl⟩|⟨rfl,rfl⟩|⟨rfl,q,r,h,m,rfl⟩|⟨rfl,rfl⟩
 ·exact⟨_,_,rfl,fun _ _=>by rfl,fun W f=>anj h W (j.ext f),g⟩
 ·exact⟨_,_,rfl,fun _ _=>by rfl,fun W f=>aoL h W (j.ext f),g⟩
 ·exact⟨_,_,rfl,fun _ _=>by rfl,fun W f=>aoS s t W,g⟩
 ·exact⟨_,_,rfl,fun _ _=>by rfl,fun W f=>alm h m W (j.ext f),g⟩
 ·exact⟨_,_,rfl,fun _ _=>by rfl,fun W f=>ano s t W,g⟩
abbrev eO:TypeId:=46
abbrev Fu:=Nat×Nat×aD
def lF(_:au)(c:List Value)(f:Fu):Prop:=c= [av (f.1:Int),av (f.2.1:Int),aL f.2.2]
def lF.iI:js [] lF:=fun _ _ _ _ _ h=>h
def uj:=@lF.iI
def lF.three(w:au)(c:List Value)(f:Fu)(h:lF w c f):c.length=3:=awn
def eL(a:Nat)(b:Fu->Rat)(l:List Fu):Rat:=(l.map fun f=>if f.1=a then b f else 1).foldl (·*·) 1
def aiR(a:Nat)(b:Fu->Rat)(l:List Fu)(f:Fu):eL a b (l++ [f])=eL a b l*if f.1=a then b f else 1:=by unfold eL;rw[kD,vz];rfl
def ah'(A:aR)(c:Nat)(l:List Fu)(a:Nat)(s:aD)(n:Fu->Rat)(w:au)(hl:Ls eO lF w (.slice A l.length c) l)(hz:∀f∈l,f.1=a->xS f.2.1 s f.2.2 (n f))(hp:∀i,i<=l.length->bF 100000 (eL a n (l.take i)))(hf:∀f∈l,f.1=a->bF 100000 (n f))(ha:a<100):
 Calls prog 68 #[.slice A l c,av a,aL s] w fun e p=>∃u,e= .returned u/\bX p u (eL a n l)/\Ext w p:=by
 have h1:=af (fun W=>by simpa using yR 1 W Om Om);have HL:=af hl;have HZ:=af hz;have HP:=af hp;have HF:=af hf;have wI:=(bD hl).2;clear hl hz hp hf;go_enter func68,ntmps68;go_upto_region 1 with fail
 refine aT fun W HX P=> ?_;have V6:=P.lt;generalize uK:w.heap.size=rb at*;have C:=af (h1 W);go_wp2_with fail
 refine C.mono ?_;rintro e1 w1 ⟨u,rfl,hu,hx⟩;obtain⟨a0,A0,a1,a2,b0,B0,b1,b2,rfl, -, -⟩:=hu.parts;have HU:=af hu;have Y:=af hx;have rN:=hx.size;clear hu hx;go_upto_region 2 with fail
 refine EX HU fun w2 v V _=> ?_;have Oo:rb<w1.heap.size:=Om;generalize w1.heap.size=q at*;have Dr:=af (HX.trans (Y.trans v));have nL:=af (P.ext (Y.trans v));have qF:ah (dK w2 q (eL a n (l.take 0))):=by rw[kF];exact V
 clear P;go_upto_region 3 with fail
 go_loopw [9,13] (fun _ Q wq=>∃k:Nat,k<=l/\Q=av k/\ah (ar wq rb dp yX)/\ah (dK wq q (eL a n (l.take k)))/\ah (Ext w wq)) (fun _ Q _=>l - (RowKit.intOf Q).toNat)
 exact⟨0,aV _,rfl,nL,qF,Dr⟩;obtain⟨k,hk,rfl,P,HU,HX⟩:=hrel;have hZ:q<wr.heap.size:=HU.lt;by_cases H:k<l.length
 ·obtain⟨g,o,d,hA,oD,hd,I⟩:=qd lF.three Od (HL.ext uj HX) H;subst hA;have hsn:l.take (k+1)=l.take k++ [l[k]]:=fg H;have x:ah (eL a n (l.take (k+1))=eL a n (l.take k)*if l[k].1=a then n l[k] else 1):=by rw[ah,hsn,aiR]
  have HZk:=af (HZ l[k] (a_ H));have HFk:=af (HF l[k] (a_ H));have xD:=af (HP k hk);unfold lF at hd;generalize l[k]=f at*;obtain⟨y,L,J⟩:=f;subst hd;have c0:aA wr g (o+k*3) (av (y:Int)):=I 0 _ rfl;have c1:aA wr g (o+k*3+1) (av (L:Int)):=I 1 _ rfl;have c2:aA wr g (o+k*3+2) (aL J):=I 2 _ rfl;simp only at x HZk HFk;clear I hsn;generalize eL a n (l.take k)=acc at*;generalize n (y,L,J)=zq at*;go_upto_region 5 with fail
  refine aT fun X U BE=> ?_;have heb:=BE.lt;have hes:wr.heap.size=wr.heap.size:=rfl;generalize ar':wr.heap.size=M at*;clear c0 c1 c2 hes;have e0:=BE.aF 0;have v:=af (HX.trans U);have KV:=af (P.ext U);have tM:=af (HU.ext U);clear P;by_cases JG:y=a
  ·subst JG;rw[if_pos rfl] at x;obtain⟨G,O,F,E,D,N,B,z,BO,VO⟩:=tM.parts;have HQ:=af (HZk rfl);have Jz:=HQ.kind;have CF:=af (fun W=>adf HQ W);go_upto_region 6 with fail
   clear e0;have aH:ah (ar X.drew q dp [.bool G,.slice O F E,.bool D,.slice N B z]/\ar X.drew M eO [av (y:Int),av (L:Int),aL J]):=⟨BO.drew,BE.drew⟩;have bO:ah (∀p,(ar p q dp [.bool G,.slice O F E,.bool D,.slice N B z]/\ar p M eO [av (y:Int),av (L:Int),aL J])->(aA p M 1 (av (L:Int))/\aA p M 2 (aL J))/\F4 p q (.bool G) (.slice O F E) (.bool D) (.slice N B z)):=fun p h=>⟨⟨h.2.aF 1,h.2.aF 2⟩,h.1.four⟩;unfold F4 at bO;refine cD (S:=fun p=>ar p q dp [.bool G,.slice O F E,.bool D,.slice N B z]/\ar p M eO [av (y:Int),av (L:Int),aL J]) (T:=fun j=>decide (9<=j)) Ok ?_;have xk:=af v.drew;have Yk:=af KV.drew;have VOd:ah (bX X.drew (.agg #[.bool G,.slice O F E,.bool D,.slice N B z]) acc):=VO.ext (aB X).drew;have hed:M<X.drew.heap.size:=heb;clear BO VO BE;generalize X.drew=wd at*;have CF2:=af (CF wd);refine ax 0 21 ?_;refine ax 1 22 ?_;refine ax 2 23 ?_;refine ax 4 25 ?_;refine ax 5 26 ?_;refine ax 6 27 ?_;refine aO 3 ?_;intro K t;go_simp;refine CF2.mono ?_;rintro e4 w4 ⟨fid,asx,rfl,JC,HC,m⟩;have hif:=JC.ae;have dD:=af (xk.trans m);have GU:=af (Yk.ext m);have VO4:=af (VOd.ext m);have bB:ah (ar w4 q dp [.bool G,.slice O F E,.bool D,.slice N B z]/\ar w4 M eO [av (y:Int),av (L:Int),aL J]):=⟨aH.1.ext m,aH.2.ext m⟩;have C4:=af (HC w4 (aB w4));refine t.ae _ _ (fun _=>bB.ae) ?_;clear t m JC;refine aO 7 ?_;intro K t;go_simp;refine C4.mono ?_;rintro e5 w5 ⟨u5,rfl,Z,b⟩;have dX:=af (dD.trans b);have vt:=af (GU.ext b);have aH:ah (ar w5 q dp [.bool G,.slice O F E,.bool D,.slice N B z]/\ar w5 M eO [av (y:Int),av (L:Int),aL J]):=⟨bB.1.ext b,bB.2.ext b⟩;have CM:=af (Sr _ u5 acc zq w5 (VO4.ext b) Z xD (HFk rfl) Om);refine t.ae _ _ (fun _=>aH.ae) ?_;clear t Z b hif;refine aO 8 ?_;intro K t;go_simp;refine CM.mono ?_;rintro e6 w6 ⟨u6,rfl,R,r⟩;obtain⟨r0,R0,r1,r2,s0,S0,s1,s2,rfl,_,_⟩:=R.parts;have dG:=af (dX.trans r);have pS:=af (vt.ext r);have bB:ah (ar w6 q dp [.bool G,.slice O F E,.bool D,.slice N B z]/\ar w6 M eO [av (y:Int),av (L:Int),aL J]):=⟨aH.1.ext r,aH.2.ext r⟩;refine t.ae _ _ (fun _=>bB.ae) ?_;obtain⟨k0,k1,k2,k3⟩:=bB.1.four;obtain⟨f0,f1,f2,f3⟩:=bB.1.eX;obtain⟨W',hW',vp,_,uW,jP⟩:=dK.put bB.1 R dG Om;have HW:=af hW';have xW:=af (pS.only jP Om);clear t R r hW';refine aO 9 ?_;intro K t;go_simp;refine t.ae _ _ Oe ?_;refine b_ Ok ?_;rw[HW.ae];clear k0 k1 k2 k3 f0 f1 f2 f3 t;go_wp2_with fail
   go_roundw;exact⟨k+1,by omega,by go_num,xW,by rw[x.ae];exact vp,uW⟩;simp [RowKit.intOf];omega
  ·rw[if_neg JG,Et] at x;have hfb:((y:Int)==(a:Int))=false:=beq_eq_false_iff_ne.2 Om;go_wp2_with fail
   go_roundw;exact⟨k+1,by omega,by go_num,KV,by rw[x.ae];exact tM,v⟩;simp [RowKit.intOf];omega
 ·obtain rfl:k=l.length:=Om;have d1:decide ((l.length:Int)<(l.length:Int))=false:=aY;have V:ah (dK wr q (eL a n l)):=(by have h:=HU.ae;rwa[fj] at h)
  obtain⟨G,O,F,E,D,N,B,z,BO,VO⟩:=V.parts;obtain⟨q0,q1,q2,q3⟩:=BO.four;obtain⟨f0,f1,f2,f3⟩:=P.eX;obtain⟨j0,j1,j2,j3⟩:=P.four;go_wp2_with fail;exact sW rfl rfl rfl P.ae VO fun u W' h1 h2=>⟨u,rfl,h1,HX.only h2 Om⟩
abbrev n9:TypeId:=42
def amW(A:aR)(c g:Nat)(x:Value)(l:List Fu)(a:Nat)(s:aD)(b:Fu->Rat)(w:au)(p:ar w g n9 [.slice A l.length c,x])(m:Ls eO lF w (.slice A l.length c) l)(j:∀f∈l,f.1=a->xS f.2.1 s f.2.2 (b f))(k:∀i,i<=l.length->bF 100000 (eL a b (l.take i)))(n:∀f∈l,f.1=a->bF 100000 (b f))(q:a<100):
 Calls prog 67 #[av a,aL s,aI g 0] w fun e d=>∃u,e= .returned u/\bX d u (eL a b l)/\Ext w d:=by
 have t:=af (fun W (r:Ext w W)=>ah' A c l a s b W (bU uj m r) j k n q);have y:=af p;go_enter func67,ntmps67;go_upto_region 1 with fail
 refine aT fun W HX BT=> ?_;have o:=BT.lt;have b0:=(y.ext HX).aF 0;have C:=af (t W HX);go_wp2_with fail
 exact m13
abbrev tEn:TypeId:=48
abbrev tJp:TypeId:=81
abbrev tRg:TypeId:=138
def pH(w:au)(c:List Value)(y:Gp):Prop:=∃A d,c= [.slice A y.1.length d,aL (bS y.2)]/\TL w (.slice A y.1.length d) y.1
def pH.iI:js [bJ] pH:=fun _ _ _ _ f ⟨A,d,e,h⟩=>⟨A,d,e,gm jS h f⟩
def km:=@pH.iI
def pH.two(w:au)(c:List Value)(x:Gp)(h:pH w c x):c.length=2:=awD
abbrev nJ:=Ls ew pH
def abp:jG prog kM ew 2 40:= .mk' (z:= .agg #[.slice none 0 0,.string ⟨#[]⟩]) Ok Ok rfl Od Od
section
variable{S:List Nat}{t:TypeId}{a b c:au}
theorem eP.only(h:eP S t a b)(k:Only g b c)(d:g∈S\/a.heap.size<=g):eP S t a c:=⟨k.os.trans h.os,k.tape.trans h.tape,k.output.trans h.output,a7 h.size k.size,fun i j f l=>(k.block i (cF j h.size) (fun e=>by
 injection e with e;subst e;rcases d with d|d
 ·exact f d
 ·omega)).trans (h.block i j f l)⟩
theorem eP.grow(h:eP S t a b)(j:b.ownsRow d t e p f u)(l:b.grownBy c p.ownBlock):eP S t a c:=⟨l.os.trans h.os,l.tape.trans h.tape,l.output.trans h.output,a7 h.size l.size,fun i m s q=>by
 have r:=h.block i m s q;refine(l.block i (cF m h.size) fun g=> ?_).trans r;rcases j.2 with⟨rfl,_⟩|⟨w,A,z,rfl,_,o,_⟩
 ·simp [Value.ownBlock] at g
 ·have y:i=w:=by simpa [Value.ownBlock] using g
  subst y;rw[r] at o;exact q _ _ o⟩
theorem a8.MX(h:a8 [d] a b):Only d a b:=⟨h.os,h.tape,h.output,h.size,fun i f e=>h.block i f av8⟩
theorem dW.ap3(h:dW a)(j:ar a d w [p])(k:Only d a b):dW b:=by
 unfold dW Lib.TabIs World.var? at*;cases i:prog.globalNamed "internal/strconv.uint64pow10" with
 |none=>simp [i] at h
 |some q=>
  simp only[i,Lr] at h⊢;have f:q<a.heap.size:=by exact TV
  rw[k.block q f]
  ·exact h
  ·intro e;injection e with e;subst e;unfold ar at j;rw[j] at h;simp only[cY] at h;have l:=congrArg Array.size h;simp [Lib.pow10Tab] at l
theorem dW.ad4{f:Lit->Option Value}(h:dW a)(l:dH a w d e f)(p:Only d a b):dW b:=by
 unfold dW Lib.TabIs World.var? at*;cases o:prog.globalNamed "internal/strconv.uint64pow10" with
 |none=>simp [o] at h
 |some q=>
  simp only[o,Lr] at h⊢;have j:q<a.heap.size:=by exact TV
  rw[p.block q j]
  ·exact h
  ·intro i;injection i with i;subst i;obtain⟨D,⟨r,m,l,_⟩,_⟩:=l;rw[l] at h;simp at h
theorem dW.grow(h:dW a)(i:a.ownsRow d t e p f u)(o:a.grownBy b p.ownBlock)(m:∀q,prog.globalNamed "internal/strconv.uint64pow10" =some q->q<d):dW b:=by
 unfold dW Lib.TabIs World.var? at*;cases j:prog.globalNamed "internal/strconv.uint64pow10" with
 |none=>simp [j] at h
 |some q=>
  simp only[j,Lr] at h⊢;have l:q<a.heap.size:=by exact TV
  rw[o.block q l]
  ·exact h
  ·intro g;have:=(i.lt q g.symm).1;have:=m q j;omega
theorem dW.lt(h:dW a):∀q,prog.globalNamed "internal/strconv.uint64pow10" =some q->q<a.heap.size:=fun q e=>by
 unfold dW Lib.TabIs World.var? at h;simp only[e,Lr] at h;rcases cA q a.heap.size with d|d
 ·exact d
 ·simp [x6 d] at h
end
structure UJ(x:aP)(T:List (List Rw))(fs:List Fu)(zq:Fu->aD->Rat)(DD MM:Nat):Prop where
 hz:∀f∈fs,∀t,qp x T f.1 t->xS f.2.1 t f.2.2 (zq f t)
 gg:∀v t,gP DD MM 1 1 (eL v (fun f=>zq f t) fs)
 hp:∀v t i,i<=fs.length->bF 100000 (eL v (fun f=>zq f t) (fs.take i))
 hf:∀f∈fs,∀t,bF 100000 (zq f t)
structure lX(x:aP)(D:List (List Rw))(jb pb eb jx rb ab ob:Nat)(wB:au)(zs:List Value)(fs:List Fu)(attrs:List Nat)(Af:aR)(cf:Nat)(Aa:aR)(ca:Nat)(vl:List aD->Rat)(done:List (List aD))(W:au):Prop where
 jm:dl x pb W
 jB:fW x (aU x D) jb pb W
 be:ar W eb tEn [av 0]
 bj:ar W jx tJp [aI jb 0]
 br:ar W rb tRg (zs++ [.func (.func 29) #[] #[],.func (.func 61) #[] #[],.func (.func 62) #[] #[]])
 hz:∃z0 Z0 z1 z2 y0 Y0 y1 y2 o0 O0 o1 o2 q0 Q0 q1 q2,zs= [.bool z0,.slice Z0 z1 z2,.bool y0,.slice Y0 y1 y2,.bool o0,.slice O0 o1 o2,.bool q0,.slice Q0 q1 q2]/\bX W (.agg #[.bool z0,.slice Z0 z1 z2,.bool y0,.slice Y0 y1 y2]) 0/\bX W (.agg #[.bool o0,.slice O0 o1 o2,.bool q0,.slice Q0 q1 q2]) 1
 ba:ar W ab n9 [.slice Af fs.length cf,.slice Aa attrs.length ca]
 fl:Ls eO lF W (.slice Af fs.length cf) fs
 il:IL W (.slice Aa attrs.length ca) (ints attrs)
 I0:∃v,ar W ob kM [v]/\bI ew 2 pH wB.heap.size W v (done.map fun k=>(k,vl k))
 tab:dW W
 tl:∀q,prog.globalNamed "internal/strconv.uint64pow10" =some q->q<wB.heap.size
 lt:pb<wB.heap.size/\ob<wB.heap.size/\eb<wB.heap.size/\jx<wB.heap.size/\rb<wB.heap.size/\ab<wB.heap.size/\jb<wB.heap.size/\wB.heap.size<=W.heap.size
 ch:a8 [pb,ob] wB W
section
variable{x:aP}{D:List (List Rw)}{jb pb eb jx rb ab ob:Nat}{wB:au}{zs:List Value}{fs:List Fu}{attrs:List Nat}{Af:aR}{cf:Nat}{Aa:aR}{ca:Nat}{vl:List aD->Rat}{done:List (List aD)}{W W':au}
theorem dl.ne(h:dl x pb W){t:TypeId}(i:ar W d t u):d≠pb:=by obtain⟨m,f,e,_⟩:=h;exact Iu i e
theorem fW.ap8{T:List (List Rw)}(h:fW x T jb pb W)(k:W'.heap[jb]? =W.heap[jb]?)(i:∀t,t≠kM->t≠ew->Kept t W W'):fW x T jb pb W':=by
 have i:∀t:TypeId,(t !=kM&&t !=ew)=true->Kept t W W':=fun t f=>by rw[cZ,bne_iff_ne,bne_iff_ne] at f;exact i t f.1 f.2
 have g:∀l:List TypeId,(l.all fun t=>t !=kM&&t !=ew)=true->∀t∈l,Kept t W W':=fun l j t f=>i t (sP.1 j t f);obtain⟨A,c,B,d,E,e,At,C,J,F,l,r,q,p,o,n,m⟩:=h;refine⟨A,c,B,d,E,e,At,C,J,F,l,k.trans r,?_,gm rh p (g _ Od),gm cK o (g _ Od),n,m⟩;obtain⟨K,G,I,z,H,y,w,v,u,s⟩:=q;exact⟨K,G,I,z,H,y,w,gm mq v (g _ Od),gm nS u (g _ Od),gm uk s (g _ Od)⟩
theorem lX.Na(h:lX x D jb pb eb jx rb ab ob wB zs fs attrs Af cf Aa ca vl done W)(k:a8 [pb] W W')(I:dl x pb W'):lX x D jb pb eb jx rb ab ob wB zs fs attrs Af cf Aa ca vl done W':=by
 have j:∀t,Kept t W W':=fun t=>h.jm.kept k t;have g:=k.MX;obtain⟨s,M,r,q,z,N,y,w,H,P,G,F,C,O,q1,q2,e,f1,f2⟩:=h.hz;obtain⟨v,p,L⟩:=h.I0;have o:jb≠pb:=(by obtain⟨A,c,B,d,E,e,At,Q,T,R,l,K,_⟩:=h.jB;exact h.jm.ne K)
 obtain⟨m,f,n,_⟩:=h.jm;exact⟨I,h.jB.cy h.jm o k,h.be.only g (h.jm.ne h.be),h.bj.only g (h.jm.ne h.bj),h.br.only g (h.jm.ne h.br),⟨s,M,r,q,z,N,y,w,H,P,G,F,C,O,q1,q2,e,f1.keep (j _),f2.keep (j _)⟩,h.ba.only g (h.jm.ne h.ba),gm uj h.fl (fun u _=>j u),gm cK h.il (fun u _=>j u),
  ⟨v,p.only g (h.jm.ne p),L.only km g h.lt.1 (fun u _=>j u)⟩,h.tab.ad4 n g,h.tl,⟨h.lt.1,h.lt.2.1,h.lt.2.2.1,h.lt.2.2.2.1,h.lt.2.2.2.2.1,h.lt.2.2.2.2.2.1,h.lt.2.2.2.2.2.2.1,a7 h.lt.2.2.2.2.2.2.2 k.size⟩,h.ch.trans (k.mono fun i J _=>by rw[bG.1 J];simp)⟩
theorem lX.ext(h:lX x D jb pb eb jx rb ab ob wB zs fs attrs Af cf Aa ca vl done W)(k:Ext W W'):lX x D jb pb eb jx rb ab ob wB zs fs attrs Af cf Aa ca vl done W':=h.Na (.gV k) (h.jm.ext k)
theorem lX.kept(h:lX x D jb pb eb jx rb ab ob wB zs fs attrs Af cf Aa ca vl done W)(k:eP [pb,ob] ew W W')(t:TypeId)(p:t≠kM)(o:t≠ew):Kept t W W':=fun g w s d=>by
 refine(k.block g (gS d) (fun j=> ?_) fun r q e=> ?_).trans d
 ·simp only[aJ,bL,or_false] at j;rcases j with rfl|rfl
  ·obtain⟨m,f,⟨D,⟨u,i,n,_⟩,_⟩,_⟩:=h.jm;rw[n] at d;injection d with d;cases d
  ·obtain⟨v,l,_⟩:=h.I0;unfold ar at l;rw[l] at d;injection d with d;injection d with _ d;exact p d.symm
 ·rw[e] at d;injection d with d;injection d with _ d;exact o d.symm
theorem lX.more(h:lX x D jb pb eb jx rb ab ob wB zs fs attrs Af cf Aa ca vl done W){k:List aD}(F:ar W ob kM [p])(i:W.ownsRow wB.heap.size ew 2 p (done.map fun k=>(k,vl k)).length u)(hc:Ch (pH W) u (done.map fun k=>(k,vl k)))(Y:pH W v (k,vl k))
 (Z:m.ownsRow wB.heap.size ew 2 q ((done.map fun k=>(k,vl k)).length+1) (u++v)) (y:W.grownBy m p.ownBlock) (e:m.setCell (aC ob 0) q=n):lX x D jb pb eb jx rb ab ob wB zs fs attrs Af cf Aa ca vl (done++ [k]) n/\eP [pb,ob] ew W n:=by
 subst e;have hk:∀t,t≠kM->t≠ew->Kept t W m:=fun t _ s=>pZ i y (fP s);obtain⟨O,Z0,N,M,R,Y0,Q,P,X,O0,V,U,T,Q0,q1,q2,ez,f1,f2⟩:=h.hz;have H:∀{g:Nat} {t:TypeId} {l:List Value},ar W g t l->g<wB.heap.size->ar m g t l:=fun j C=>gH j i y C;have I:=H F h.lt.2.1;have s:Only ob m (m.setCell (aC ob 0) q):=(ig ob m).bu 0 q;have o:∀t,t≠kM->t≠ew->Kept t W (m.setCell (aC ob 0) q):=fun t a b=>(hk t a b).trans (s.kept I a.symm);have z:∀{g:Nat} {t:TypeId} {l:List Value},ar W g t l->t≠kM->g<wB.heap.size->ar (m.setCell (aC ob 0) q) g t l:=fun j hn C=>(H j C).only s fun e=>by subst e;unfold ar at j F;rw[F] at j;injection j with j;injection j with _ j;exact hn j.symm
 have G:∀{g:Nat},g<wB.heap.size->g<W.heap.size:=fun C=>cF C h.lt.2.2.2.2.2.2.2;have J:pb≠ob:=(h.jm.ne F).symm;have L:jb≠ob:=fun e=>by obtain⟨A,c,B,d,E,e',At,ct,Al,cl,l,j,_⟩:=h.jB;subst e;unfold ar at j F;rw[F] at j;injection j with j;injection j with _ j;exact absurd j Od
 have r:∀{g:Nat},g<wB.heap.size->g≠ob->(m.setCell (aC ob 0) q).heap[g]? =W.heap[g]?:=fun {g} C K=>(s.block g (cF (G C) y.size) (by simpa using K)).trans (y.block g (G C) fun e=>by have:=(i.lt g e.symm).1;omega);have hJ:fW x (aU x D) jb pb (m.setCell (aC ob 0) q):=(by exact h.jB.ap8 (r h.lt.2.2.2.2.2.2.1 L) o)
 refine⟨⟨?_,hJ,z h.be Od h.lt.2.2.1,z h.bj Od h.lt.2.2.2.1,z h.br Od h.lt.2.2.2.2.1,⟨O,Z0,N,M,R,Y0,Q,P,X,O0,V,U,T,Q0,q1,q2,ez,f1.keep (o _ Od Od),f2.keep (o _ Od Od)⟩,z h.ba Od h.lt.2.2.2.2.2.1,gm uj h.fl (fun f w=> ?_),gm cK h.il (fun f w=> ?_),⟨q,I.bu 0 q,?_⟩,(h.tab.grow i y h.tl).ap3 I s,h.tl,?_,(h.ch.grown i y (aK _)).only s (.inl Ou)⟩,(((eP.of (.gV (aB W))).grow i y).only s (.inl Ou))⟩
 ·exact h.jm.keep (r h.lt.1 J) (o _ Od Od) (o _ Od Od)
 ·exact o f av' av'
 ·exact o f av' av'
 ·rw[kD];exact(jc km (fun f w=>by rw[bG.1 w];decide) i hc Y Z y).only km s h.lt.2.1 fun f w=>by rw[bG.1 w];exact s.kept I Od
 ·exact⟨h.lt.1,h.lt.2.1,h.lt.2.2.1,h.lt.2.2.2.1,h.lt.2.2.2.2.1,h.lt.2.2.2.2.2.1,h.lt.2.2.2.2.2.2.1,a7 h.lt.2.2.2.2.2.2.2 (a7 y.size s.size)⟩
theorem ajV{zq:Fu->aD->Rat}{b c:Nat}{k:List aD}{f0:Fo}(h:lX x D jb pb eb jx rb ab ob wB zs fs attrs Af cf Aa ca vl done W)(ok:bR x)(hD:gc x D)(a6:x.ai.length<=6)(r6:x.ay.length<=6)(w_:0<d)(wZ:1000000*d<=e)(wY:e<10^100)(s:UJ x (aU x D) fs zq d e)
 (hw:Whole x.ai.length (bh x) (bM x) f0) (zk:∀k,vl k=lj (bh x) (univ (aU x D)) f0 (fun _=> []) (fun v t=>eL v (fun f=>zq f t) fs) (bY (aU x D)) (eY (fun _=>none) attrs k)) (zm:∀k,bF 1000 (vl k))
 (hF:j_ W b (eY (fun _=>none) attrs k)) (hb:wB.heap.size<=b) (hd:done.length<2000) (hT:TL W (.slice E k.length c) k):
 Calls prog 65 #[.slice E k.length c,.map (some b),aI ob 0,aI eb 0,aI jx 0,aI rb 0,aI ab 0] W fun n o=>n= .returned (.bool true)/\lX x D jb pb eb jx rb ab ob wB zs fs attrs Af cf Aa ca vl (done++ [k]) o/\eP [pb,ob] ew W o:=by
 have HI:=af h;obtain⟨z0,Z0,z1,z2,y0,Y0,y1,y2,o0,O0,o1,o2,q0,Q0,q1,q2,rfl,f1,f2⟩:=h.hz;obtain⟨v,JL,hOw⟩:=h.I0;have hlen:(done.map fun k=>(k,vl k)).length=done.length:=bW ..;obtain⟨Ao0,co0,tx,rfl,_,_, -, -⟩:=hOw.parts;have kt:jb≠pb:=(by obtain⟨E,c,B,m,g,n,At,ct,Al,cl,l,hB,_⟩:=h.jB;exact h.jm.ne hB)
 have V8:b≠pb:=by have:=h.lt.1;omega
 have CR:=af (fun W' (Q:Ext W W')=>an5 jb pb x D ok hD a6 r6 d e w_ wZ wY (some b) (eY (fun _=>none) attrs k) (wj (eY (fun _=>none) attrs k) (fun v t=>eL v (fun f=>zq f t) fs)) 67 (aI ab 0) z0 Z0 z1 z2 y0 Y0 y1 y2 o0 O0 o1 o2 q0 Q0 q1 q2 W' (h.jB.ext Q) (h.jm.ext Q) kt
  (fun W2 hc=>KR.look (hF.same ((hc.block b (cF hF.lt Q.size) (by simpa using V8)).trans (Q.block b hF.lt))).fxM) (f1.ext Q) (f2.ext Q) (fun v t ht=>ajg _ v t ht) (fun v t _ _=>by
    unfold wj;split
    ·exact s.gg v t
    ·exact gP.zero.mono Om (aV _) (aV _)) (fun _ _=>by rfl)
  (fun W2 hc v t hv asa pM=>by rw[ajf _ v t pM];have h2:=h.ext Q;exact amW Af cf ab (.slice Aa attrs.length ca) fs v t (fun f=>zq f t) W2 (h2.ba.only hc.MX (h2.jm.ne h2.ba)) (gm uj h2.fl fun u _=>h2.jm.kept hc u) (fun f hf n=>s.hz f hf t (by rw[n];exact asa)) (fun i O=>s.hp v t i O) (fun f hf _=>s.hf f hf t) Om))
 have HV:ah (∀p m,cX x.ai.length p m->Whole x.ai.length (bh x) (bM x) (d_ x.ai.length p (fK x m) x.ai.length none)->(dQ.prod (kids x.ai.length p none) fun c=>vT dQ x (aU x D) p (fK x m) (wj (eY (fun _=>none) attrs k) (fun v t=>eL v (fun f=>zq f t) fs)) (fun k=>(k:Rat)) (univ (aU x D)) c fun _=> [])=vl k):=fun p m r w=>by rw[an4 r,zk k];exact aj8 w hw (L0 _) (L0 _) (fun _ h=>h) (fun h _ y hy t ht=>by obtain⟨l,hl,hy⟩:=RT hy;exact abN hl hy ht) fun v hv=>by obtain⟨r,hr,hm⟩:=ok.used v hv;obtain⟨i,O,n⟩:=iQ hr;exact⟨i,dB.2 O,(uo O fun b hb=>(ok.ri _ (a_ O) b hb).1).2 (by rw[n];exact hm)⟩
 have HVF:=af (zm k);have HT:=af hT;have c2:=JL.aF 0;have c4:=h.bj.aF 0;have r0:=h.br.aF 0;have r1:=h.br.aF 1;have r2:=h.br.aF 2;have r3:=h.br.aF 3;have r4:=h.br.aF 4;have r5:=h.br.aF 5;have r6':=h.br.aF 6;have r7:=h.br.aF 7;have r8:=h.br.aF 8;have r9:=h.br.aF 9;have UY:=h.br.aF 10;have hlt:=h.lt;have GS:=af (CR W (aB W));clear h JL hOw f1 f2 hF zk zm s hw w_ wZ wY hT;generalize hG:(done.map fun k=>(k,vl k))=G at*;have HG:=af hG;have hn:((G.length:Int)==2000)=false:=beq_eq_false_iff_ne.2 Om;have hGl:G.length<=2000:=Om;clear hG hlen;go_enter func65,ntmps65;go_upto_region 4 with fail
 go_wp2_with fail
 refine GS.mono ?_;rintro e1 w1 ⟨u,p,m,rfl,hr,kQ,hu,L,F⟩;rw[HV.ae p m hr kQ] at hu;have vh:=af (HI.Na F L);have jA:=af F;have uY:=af (gm jS HT fun u _=>HI.jm.kept F u);have qF:=af hu;obtain⟨a0,A0,a1,a2,b0,B0,b1,b2,rfl, -, -⟩:=hu.parts;clear hr kQ hu L F c2 c4 r0 r1 r2 r3 r4 r5 r6' r7 r8 r9 UY;go_upto_region 5 with fail
 refine EX qF fun w2 Y Kd _=> ?_;obtain⟨a0,A0,a1,a2,b0,B0,b1,b2,V,hF2⟩:=Kd.ae;have J:=af (vh.ext Y);have gD:=af (jA.ext Y);have mI:=af (fu uY Y);have CY:w1.heap.size<w2.heap.size:=V.lt;have auS:=jA.size;generalize w1.heap.size=sb at*;have eo:=af V;have sw:=af hF2;clear V hF2;obtain⟨v2,JK,M⟩:=J.I0;rw[HG.ae] at M;obtain⟨Ao,co,xs,rfl,_,_,HOr,Gw⟩:=M.parts;have HBO:=af JK;have hgb:=J.lt.2.2.2.2.2.2.2;clear JK M;obtain⟨S,R⟩:∃S:World->Prop,S=fun o=>aA o ob 0 (.slice Ao G.length co)/\F4 o sb (.bool a0) (.slice A0 a1 a2) (.bool b0) (.slice B0 b1 b2):=⟨_,rfl⟩;have bO:ah (∀o,S o->aA o ob 0 (.slice Ao G.length co)/\aA o sb 0 (.bool a0)/\aA o sb 1 (.slice A0 a1 a2)/\aA o sb 2 (.bool b0)/\aA o sb 3 (.slice B0 b1 b2)):=by rw[ah,R];exact fun _ h=>h
 have Z:ah (∀o,Ext w2 o->S o):=(by rw[ah,R];exact fun o hx=>⟨(HBO.ext hx).aF 0,(eo.ext hx).four⟩);clear R;have I:=af (aB w2).drew;have aH:=af (Z _ I);refine cD (S:=S) (T:=fun j=>decide (6<=j)) Ok ?_;generalize w2.drew=wd at*;refine ax 0 19 ?_;refine ax 1 20 ?_;refine ax 2 21 ?_;refine aO 3 ?_;intro K C;go_simp;refine(Sq _ _ wd (sw.ext I) HVF Od (J.tab.ext I)).mono ?_;rintro e3 w3 ⟨rfl,hx3⟩;have X:=af (I.trans hx3);have xC:=af (Z _ X);refine C.ae _ _ (fun _=>xC.ae) ?_;clear C hx3;have aH:=xC;refine ax 4 23 ?_;refine aO 5 ?_;intro K C;go_simp;refine C.ae _ _ (fun _=>Z _ (X.alloc _)) ?_;refine aT fun WZ cG BZ=> ?_;have q:=af (X.trans cG);have hwz:=q.size;have HIZ:=af (J.ext q);have Dy:=af (fu mI q);have A:=af (vO HOr q);have XW:=af (EW (fun c x hc=>km _ _ _ _ (fun _ _=>Hl q) hc) Gw);clear C;have cM:(G.length+1)*40<=140737488355328:=Om;refine aO 6 ?_;intro K C;refine nh rfl ?_;refine ro _ _ kM rfl wB.heap.size abp _ _ _ rfl A.ae _ [.slice E k.length c,aL (bS (vl k))] BZ.ae 1 1 rfl rfl rfl cM Om ?_;intro v' w5 N P _;obtain⟨A5,c5,rfl, -, -, -⟩:=ej N;obtain⟨w6,Vm⟩:∃w6,w5.setCell (aC ob 0) (.slice A5 (G.length+1) c5)=w6:=⟨_,rfl⟩;have U:=HBO.ext q;have H:=gH U A P hlt.2.1;have hG:=HG.ae;subst hG;have z:=HIZ.more U A XW (k:=k) ⟨E,c,rfl,Dy⟩ N P Vm;have DO:=af z.1;have qJ:=af ((eP.of (gD.mono fun i O _=>aJ.2 (.inl (bG.1 O)))).trans ((eP.of (.gV q.ae)).trans z.2));rw[bW] at Vm;have p5:=H.aF 0;have q5:=H.frozen 0;have Ju:=H.lt;clear z U H N P;simp only[Act.put,d8,dP,d9];refine C.ae _ _ Oe ?_;clear C;refine aO 7 ?_;intro K C;go_simp;refine C.ae _ _ Oe ?_;refine b_ Ok ?_;clear C;go_wp2_with fail
 exact bodyPost_ret (v:= .bool true) (by simp [results,results65,go_sem]) rfl ⟨rfl,DO,qJ⟩
end
section
variable{adj:Nat->Nat->Prop}
noncomputable def iL(adj:Nat->Nat->Prop):VS->List Nat->(Nat->Option Nat)->(Nat->Option Nat)
 |_,[],p=>p
 |rest,a::l,p=>iL adj (rest.less (VS.one a)) l fun b=>if b≠a/\part adj rest a b=true then some a else p b
theorem py{rest:VS}:(rest.less (VS.one a)) b=true↔rest b=true/\b≠a:=by unfold VS.less VS.one;rw[cZ,sM,beq_eq_false_iff_ne]
theorem Tk(h:a≠b):(a::i).idxOf b=i.idxOf b+1:=by rw[Qe,beq_eq_false_iff_ne.2 h];rfl
theorem SI(f:∀a b,adj a b->adj b a):∀(l:List Nat) (rest:VS) (p:Nat->Option Nat) (b:Nat),(∀a∈l,rest a=true)->l.Nodup->rest b=false->iL adj rest l p b=p b
 | [],_,_,_,_,_,_=>rfl
 |a::l,rest,p,b,g,d,e=>by
  rw[i6] at d;show iL adj (rest.less (VS.one a)) l _ b=_
  rw[SI f l _ _ b (fun c i=>py.2 ⟨g c (oX _ i),fun j=>d.1 (by rw[<-j];exact i)⟩) d.2 (by rw[<-sQ,py];rintro⟨h, -⟩;rw[e] at h;cases h)];refine if_neg ?_;rintro⟨-,h⟩;rw[p4 f (g a lH) h] at e;cases e
theorem ac5(n:∀a b,adj a b->adj b a):∀(l:List Nat) (rest:VS) (p:Nat->Option Nat),(∀a,a∈l↔rest a=true)->l.Nodup->∀b∈l,iL adj rest l p b=p b\/∃a∈l,iL adj rest l p b=some a/\l.idxOf a<l.idxOf b
 | [],_,_,_,_,b,m=>by cases m
 |a::l,rest,p,q,f,b,m=>by
  rw[i6] at f;have g:∀c,c∈l↔(rest.less (VS.one a)) c=true:=fun c=>by
   rw[py,<-q c,aJ];constructor
   ·exact fun h=>⟨.inr h,fun e=>f.1 (e▸h)⟩
   ·rintro⟨i|i,o⟩
    ·exact absurd i o
    ·exact i
  show iL adj (rest.less (VS.one a)) l _ b=_\/∃c∈a::l,iL adj (rest.less (VS.one a)) l _ b=some c/\_
  by_cases d:b=a
  ·subst d;left;rw[SI n l _ _ b (fun c j=>(g c).1 j) f.2 (by rw[<-sQ,py];exact fun h=>h.2 rfl)];exact if_neg fun h=>h.1 rfl
  ·have k:b∈l:=by
    rcases aJ.1 m with h|h
    ·exact absurd h d
    ·exact h
   rcases ac5 n l _ (fun b=>if b≠a/\part adj rest a b=true then some a else p b) g f.2 b k with h|⟨c,j,i,o⟩
   ·rw[h];split
    ·refine .inr ⟨a,lH,rfl,?_⟩;rw[List.idxOf_cons_self,Tk (fun e=>d e.symm)];omega
    ·exact .inl rfl
   ·refine .inr ⟨c,oX _ j,i,?_⟩;rw[Tk (fun e=>d e.symm),Tk (fun e=>f.1 (by rw[e];exact j))];omega
theorem SJ(f:∀a b,adj a b->adj b a):∀(l:List Nat) (rest:VS) (p:Nat->Option Nat),(∀a,a∈l↔rest a=true)->l.Nodup->∀(u:Option Nat) (b:Nat),b∈l->(∀x,part adj rest b x=true->p x=u)->dw (iL adj rest l p) u b
 | [],_,_,_,_,_,b,t,_=>by cases t
 |a::l,rest,p,w,q,u,b,t,v=>by
  rw[i6] at q;have i:∀c,c∈l↔(rest.less (VS.one a)) c=true:=fun c=>by
   rw[py,<-w c,aJ];constructor
   ·exact fun h=>⟨.inr h,fun C=>q.1 (C▸h)⟩
   ·rintro⟨k|k,A⟩
    ·exact absurd k A
    ·exact k
  have g:rest a=true:=(w a).1 lH;have n:rest b=true:=(w b).1 t;have o:iL adj rest (a::l) p a=p a:=by
   show iL adj (rest.less (VS.one a)) l _ a=_
   rw[SI f l _ _ a (fun c D=>(i c).1 D) q.2 (by rw[<-sQ,py];exact fun h=>h.2 rfl)];exact if_neg fun h=>h.1 rfl
  have d:∀{x y},part adj (rest.less (VS.one a)) x y=true->part adj rest x y=true:=fun h=>eV.2 ((eV.1 h).mono fun z B=>(py.1 B).1);by_cases j:b=a
  ·subst j;have k:p b=u:=v b (eV.2 .refl);rw[<-k,<-o];exact dw.step b
  ·have r:b∈l:=by
    rcases aJ.1 t with h|h
    ·exact absurd h j
    ·exact h
   by_cases e:part adj rest a b=true
   ·have k:dw (iL adj rest (a::l) p) (some a) b:=by
     refine SJ f l (rest.less (VS.one a)) (fun b=>if b≠a/\part adj rest a b=true then some a else p b) i q.2 (some a) b r fun x s=>if_pos ⟨?_,?_⟩
     ·exact(py.1 (p4 f (py.2 ⟨n,j⟩) s)).2
     ·rw[<-Bw f g e];exact d s
    have A:p a=u:=v a (by rw[Bw f g e];exact eV.2 .refl);have E:dw (iL adj rest (a::l) p) u a:=(by rw[<-A,<-o];exact dw.step a)
    exact E.trans k
   ·refine SJ f l (rest.less (VS.one a)) (fun b=>if b≠a/\part adj rest a b=true then some a else p b) i q.2 u b r fun x s=> ?_;have m:=d s;rw[if_neg]
    ·exact v x m
    ·rintro⟨-,h⟩;have G:=Bw f n m;have F:=Bw f g h;rw[<-F,G] at e;exact e (eV.2 .refl)
theorem ac4(k:∀a b,adj a b->adj b a):∀(l:List Nat) (rest:VS) (p:Nat->Option Nat),(∀a,a∈l↔rest a=true)->l.Nodup->∀x∈l,∀y∈l,adj x y->x≠y->dw (iL adj rest l p) (some x) y\/dw (iL adj rest l p) (some y) x
 | [],_,_,_,_,x,r,_,_,_,_=>by cases r
 |a::l,rest,p,v,q,x,r,y,u,f,n=>by
  rw[i6] at q;have i:∀c,c∈l↔(rest.less (VS.one a)) c=true:=fun c=>by
   rw[py,<-v c,aJ];constructor
   ·exact fun h=>⟨.inr h,fun B=>q.1 (B▸h)⟩
   ·rintro⟨e|e,d⟩
    ·exact absurd e d
    ·exact e
  have s:rest a=true:=(v a).1 lH;have g:∀{x y},part adj (rest.less (VS.one a)) x y=true->part adj rest x y=true:=fun h=>eV.2 ((eV.1 h).mono fun z o=>(py.1 o).1);have j:∀b∈l,adj a b->dw (iL adj rest (a::l) p) (some a) b:=fun b w t=>by have m:=(i b).1 w;have A:part adj rest a b=true:=eV.2 (.step .refl t (py.1 m).1);refine SJ k l (rest.less (VS.one a)) (fun b=>if b≠a/\part adj rest a b=true then some a else p b) i q.2 (some a) b w fun z o=>if_pos ⟨(py.1 (p4 k m o)).2,?_⟩;rw[<-Bw k s A];exact g o
  rcases aJ.1 r with e|e
  ·subst e;rcases aJ.1 u with d|d
   ·exact absurd d.symm n
   ·exact .inl (j y d f)
  ·rcases aJ.1 u with d|d
   ·subst d;exact .inr (j x e (k _ _ f))
   ·exact ac4 k l (rest.less (VS.one a)) (fun b=>if b≠a/\part adj rest a b=true then some a else p b) i q.2 x e y d f n
def nz(p:Nat->Option Nat):Nat->Nat->Nat
 |0,_=>0
 |k+1,v=>match p v with
  |none=>0
  |some a=>nz p k a+1
theorem an9(s:∀d,d∈i↔d<a)(z:i.length=a)(m:∀b∈i,y b=none\/∃d∈i,y b=some d/\i.idxOf d<i.idxOf b):cX a y (nz y a):=by
 have x:∀(k v:Nat),v∈i->i.idxOf v<=k->nz y k v<=i.idxOf v:=by
  intro k;induction k with
  |zero=>exact fun v _ _=>aV _
  |succ k q=>
   intro v j t;rw[nz];rcases m v j with h|⟨d,g,f,o⟩
   ·rw[h];exact aV _
   ·rw[f];have:=q d g Om;show nz y k d+1<=_
    omega
 have r:∀(k v:Nat),v∈i->i.idxOf v<=k->nz y (k+1) v=nz y k v\/k=0/\y v=none:=by
  intro k;induction k with
  |zero=>
   intro v j t;rcases m v j with h|⟨d,g,f,o⟩
   ·exact .inr ⟨rfl,h⟩
   ·omega
  |succ k q=>
   intro v j t;left;rw[nz,nz];rcases m v j with h|⟨d,g,f,o⟩
   ·rw[h]
   ·rw[f];show nz y (k+1) d+1=nz y k d+1
    rcases q d g Om with e|⟨rfl,e⟩
    ·rw[e]
    ·show nz y 1 d+1=0+1
     rw[nz,e]
 refine⟨fun d g=> ?_,fun d g h=> ?_,fun d b g h=> ?_⟩
 ·have f:=(s d).2 g;have o:=PQ.2 f;have:=x a d f Om;omega
 ·cases a with
  |zero=>rfl
  |succ a=>rw[nz,h]
 ·have f:=(s d).2 g;rcases m d f with e|⟨c,u,e,A⟩
  ·rw[e] at h;cases h
  ·rw[e] at h;injection h with h;subst h;refine⟨(s c).1 u,?_⟩;cases a with
   |zero=>omega
   |succ a=>
    rw[nz,e];show nz y a c+1=_
    have o:=PQ.2 f;rcases r a c u Om with w|⟨rfl,w⟩
    ·rw[w]
    ·omega
theorem adP(r:cX a y J)(m:c<a)(q:dw y (some b) c):b∈ly y (J c) c:=by
 have i:∀(o:Option Nat) (c:Nat),dw y o c->∀b,o=some b->c<a->b∈ly y (J c) c:=by
  intro o c h;induction h with
  |step e=>intro b j g;rw[(M_ r g).1,j];exact lH
  | @up o f e k s l=>intro b j g;rw[(M_ r g).1,k];exact oX _ (l b j (r.up e f g k).1)
 exact i _ _ q b rfl m
end
structure Ni(x:aP)(p:Nat->Option Nat)(d:Nat->Nat):Prop where
 TK:cX x.ai.length p d
 way:∀r∈x.ay,∀a∈r.2,∀b∈r.2,a≠b->a.toNat∈ly p (d b.toNat) b.toNat\/b.toNat∈ly p (d a.toNat) a.toNat
def dt.zero(B N:Nat):dt B N 0:=⟨0,by rw[Qr];rfl,aV _⟩
def EO:=@dt.zero
def dt.one:dt 1 1 1:=⟨1,by decide+kernel,by decide⟩
def Bz:=@dt.one
def acW{β:Type}{B N:Nat}{f:β->Rat}:∀{l:List β},(∀x∈l,dt B N (f x))->dt B (l*N) (dQ.sum l f)
 | [],_=>by rw[yg,LK];exact EO _ _
 |x::l,h=>by have b:=(h x lH).add (acW fun y a=>h y (oX _ a));have e:dQ.sum (x::l) f=f x+dQ.sum l f:=rfl;rw[e,cP,qT,mS];exact b
def ab5{β:Type}{c:Nat}{f:β->Rat}:∀{l:List β},(∀x∈l,dt 1 c (f x))->dt 1 (c^l.length) (dQ.prod l f)
 | [],_=>Bz
 |x::l,h=>by have b:=(h x lH).mul (ab5 fun y a=>h y (oX _ a));have e:dQ.prod (x::l) f=f x*dQ.prod l f:=rfl;rw[e,cP,eU,ed (c^l.length)];exact b
def SA{β:Type}{U:List β}{g:Nat->β->Rat}{W:Nat->(Nat->β)->Rat}{a B M c K:Nat}(o:U.length<=K)(m:∀t,dt B M (g a t))(k:∀v t,v≠a->dt 1 1 (g v t))(hW:∀h e,dt 1 c (W h e)):
 ∀(f:Fo) (d:Nat->β),dt (B^f.vars.count a) (K^f.vars.length*M^f.vars.count a*c^f.homes.length) (f.val dQ U g W d)
 | .nil,_=>Bz
 | .cons v j b n,d=>by
   have p:∀x,dt (B^(if v=a then 1 else 0)) (M^(if v=a then 1 else 0)) (g v x):=fun x=>by
    by_cases h:v=a
    ·rw[if_pos h,po,po,h];exact m x
    ·rw[if_neg h];exact k v x h
   have s:=fun x=>((p x).mul (ab5 (l:=j) fun h _=>hW h (put d v x))).mul (SA o m k hW b (put d v x));have r:=acW (l:=U) (f:=fun x=>g v x*dQ.prod j (fun h=>W h (put d v x))*b.val dQ U g W (put d v x)) fun x _=>s x;have q:=r.mul (SA o m k hW n d);have e:(Fo.cons v j b n).val dQ U g W d=dQ.sum U (fun x=>g v x*dQ.prod j (fun h=>W h (put d v x))*b.val dQ U g W (put d v x))*n.val dQ U g W d:=rfl;rw[e];have y:(Fo.cons v j b n).vars.count a=(if v=a then 1 else 0)+b.vars.count a+n.vars.count a:=by
    show(v::(b.vars++n.vars)).count a=_
    rw[List.count_cons,Y3];by_cases h:v=a
    ·rw[if_pos h,if_pos av7];omega
    ·rw[if_neg h,if_neg av7];omega
   have u:(Fo.cons v j b n).vars.length=1+b.vars.length+n.vars.length:=by
    show(v::(b.vars++n.vars)).length=_
    rw[cP,bC];omega
   have w:(Fo.cons v j b n).homes.length=j.length+b.homes.length+n.homes.length:=by
    show(j++(b.homes++n.homes)).length=_
    rw[bC,bC];omega
   rw[y,u,w];generalize(if v=a then 1 else 0)=i at*;refine dt.mono (B:=B^(i+b.vars.count a+n.vars.count a)) ?_ ?_ (M:=U.length*(M^i*c^j.length*(K^b.vars.length*M^b.vars.count a*c^b.homes.length))*(K^n.vars.length*M^n.vars.count a*c^n.homes.length))
   ·rw[pW,pW];rwa[kG] at q
   ·refine a7 (eT _ (eT _ o)) (En ?_);simp only[pW,po];ac_rfl
def dt.up{B N C:Nat}{q:Rat}(h:dt B N q):dt (B*C) (N*C) q:=by have a:=h.mul (show dt C C 1 from⟨(C:Int),by rw[LX],by simp⟩);rwa[Et] at a
def auE.k53(h:aq:=by
 have m:f.vars.length=n:=(by have c:=(vK w.vd (qQ) fun v=>by rw[w.vm,dB]).length_eq;rwa[iG] at c);have l:f.homes.length=o.length:=(vK w.hd hd w.hm).length_eq;rw[m,l] at h;show dt B _ (f.val dQ U _ (jI e b) d)
 have p:=List.nodup_iff_count.1 w.vd a;generalize f.val dQ U _ (jI e b) d=q at*;rcases ip (f.vars.count a) with i|i
 ·rw[i,yr,yr] at h;have g:=h.up (C:=B);rw[nQ] at g;refine g.mono (eT _ (eT _ (iF _ j)))
 ·have c:f.vars.count a=1:=Om;rw[c,po,po] at h;exact h.mono (G7 _ k)):=h
def MQ{β:Type}:∀{l m:List β},l.Nodup->(∀a∈l,a∈m)->l.length<=m.length
 | [],_,_,_=>aV _
 |a::l,m,d,e=>by
  rw[i6] at d;obtain⟨m1,m2,rfl⟩:=YX (e a lH);have h:=MQ d.2 fun b f=>by
   have c:=e b (oX _ f);rw[bV,aJ] at c;rw[bV];rcases c with c|rfl|c
   ·exact .inl c
   ·exact absurd f d.1
   ·exact .inr c
  rw[bC] at h;rw[bC,cP,cP];omega
section
variable{x:aP}{D:List (List Rw)}
theorem amH(o:bR x){m:Nat}(v:∀l∈aU x D,l.length<=m)(n:Nat->Option aD)(j:a<x.ai.length):(ey x D n a).length<=m:=by
 obtain⟨r,u,g⟩:=o.used a j;obtain⟨i,f,e⟩:=iQ u;have h:=(uo f fun b z=>(o.ri _ (a_ f) b z).1).2 (by rw[e];exact g);obtain⟨k,w,E⟩:=iQ h;have p:(bY (aU x D) i).length<=m:=by
  unfold bY;cases d:(aU x D)[i]? with
  |none=>exact aV _
  |some l=>exact v l (sK d)
 have c:=MQ (l:=ey x D n a) (m:=(bY (aU x D) i).map fun y=>y.1[k]?.getD []) (Rx (ab_ x D n a)) fun t d=>by obtain⟨F,B,A⟩:=(amG j t).1 d;have q:=(B a j).2;rw[IG] at q;obtain⟨y,s,C⟩:=RG.1 (A i (dB.2 f));refine dU.2 ⟨y,s,?_⟩;rw[C,dL,aX w,E];exact(eq_of_beq q).symm
 rw[bW] at c;omega
theorem RA{d:(Nat->Option aM)->Nat->List aM}{m:Nat}:∀(l:List Nat),(∀c,∀a∈l,(d c a).length<=m)->∀c,(jk d l c).length<=m^l.length
 | [],_,_=>aK _
 |a::l,h,c=>by
  rw[aag];refine a7 (Mz (m:=m^l.length) fun x _=> ?_) ?_
  ·rw[bW];exact RA l (fun c b e=>h c b (oX _ e)) _
  ·rw[cP,eU,ed (m^l.length)];exact eT _ (h c a lH)
end
def anL{x:aP}{D:List (List Rw)}(jb pb:Nat)(s:List Fu)(attrs:List Nat)(J Aa:aR)(H ca:Nat)(z:List aD->Rat){zq:Fu->aD->Rat}{f0:Fo}(ok:bR x)(hD:gc x D)(a6:x.ai.length<=6)(r6:x.ay.length<=6)(w_:0<a)(wZ:1000000*a<=b)(wY:b<10^100)(uN:UJ x (aU x D) s zq a b)
 (kQ:Whole x.ai (bh x) (bM x) f0) (zk:∀k,z k=lj (bh x) (univ (aU x D)) f0 (fun _=> []) (fun v t=>eL v (fun f=>zq f t) s) (bY (aU x D)) (eY (fun _=>none) attrs k)) (zm:∀k,bF 1000 (z k))
 (nd:attrs.Nodup) (lt:∀g∈attrs,g<x.ai) (le:attrs.length<=4) (hle:(jk (ey x D) attrs fun _=>none).length<=2000) (w:au) (hB:fW x (aU x D) jb pb w) (hM:dl x pb w) (hf:Ls eO lF w (.slice J s H) s) (hg:IL w (.slice Aa attrs ca) (ints attrs)) (Q:dW w):
 Calls prog 25 #[aI jb 0,.agg #[.slice J s H,.slice Aa attrs ca]] w fun e w'=>∃u G,e= .returned (.tuple #[u,av 0])/\nJ w' u G/\(jY x D (fun _=>none)->G=(jk (ey x D) attrs fun _=>none).map fun k=>(k,z k))/\(¬jY x D (fun _=>none)->G= [])/\a8 [pb] w w'/\dl x pb w':=by
 have h1:=af (fun W=>by simpa using yR 0 W Om Om);have h2:=af (fun W=>by simpa using yR 1 W Om Om);have HB:=af hB;have HM:=af hM;have HF:=af hf;have HG:=af hg;have HT:=af Q;have dI:=hB.lt;have hpl:=hM.lt;have VJ:jb≠pb:=(by obtain⟨A,c,B,d,E,e,At,ct,Al,cl,l,h,_⟩:=hB;exact hM.ne h)
 have HV:=af (fun(y K r L ob:Nat) (F:au) (M:List Value) (done:List (List aD)) (k:List aD) (j:Nat) (W:au) (A:aR) (c:Nat) (X:lX x D jb pb y K r L ob F M s attrs J H Aa ca z done W) (hF:j_ W j (eY (fun _=>none) attrs k)) (hb:F.heap.size<=j) (hd:done.length<2000) (hT:TL W (.slice A k c) k)=>ajV X ok hD a6 r6 w_ wZ wY uN kQ zk zm hF hb hd hT);have CG:=af (fun(y K r L ob:Nat) (F:au) (M:List Value) (R:lX x D jb pb y K r L ob F M s attrs J H Aa ca z [] F)=>ajs (x:=x) (D:=D) (jb:=jb) (pb:=pb) (ob:=ob) (attrs:=attrs) (Aa:=Aa) (ca:=ca) (vf:=65) (v1:=aI ob 0) (v2:=aI y 0) (v3:=aI K 0) (v4:=aI r 0) (v5:=aI L 0) (I:=fun done W=>lX x D jb pb y K r L ob F M s attrs J H Aa ca z done W) (w:=F)
  ⟨ok,hD,a6,r6,VJ,fun W k hm=>R.Na k hm,fun d W W' h k t n1 n2=>h.kept k t n1 n2,fun d W W' h k hm=>h.Na k hm,fun d W h=>h.jm,fun d W h=>h.jB,fun d W h=>h.il,fun _ _=>by rfl,fun d k j W A c h hF hb _ hd hT=>HV y K r L ob F M d k j W A c h hF hb hd hT,⟨R.lt.1,R.lt.2.1⟩,nd,lt,le⟩ R.jB R.jm hle)
 generalize hK:(jk (ey x D) attrs fun _=>none)=ks at*;generalize hTU:jY x D (fun _=>none)=TU at*;go_enter func25,ntmps25;go_upto_region 1 with fail
 refine fR fun W HX BJ BA=> ?_;have hba:=BA.lt;have C1:=af (h1 W);go_wp2_with fail
 refine C1.mono ?_;rintro e1 w1 ⟨u0,rfl,P,C⟩;have C2:=af (h2 w1);obtain⟨z0,Z0,z1,Z,y0,Y0,y1,y2,rfl, -, -⟩:=P.parts;go_wp2_with fail
 refine C2.mono ?_;rintro e2 w2 ⟨u1,rfl,O,p⟩;obtain⟨o0,O0,o1,o2,q0,Q0,q1,q2,rfl, -, -⟩:=O.parts;have aZ:=af (HX.trans (C.trans p));have HZ2:=af (P.ext p);have dY:=af O;have BJ2:=af (BJ.ext (C.trans p));have xZ:=af (BA.ext (C.trans p));have hs2:w.heap.size+1<w2.heap.size:=by have:=(C.trans p).size;omega
 go_upto_region 2 with fail
 refine aT fun W3 q BR=> ?_;have BJ3:=af (BJ2.ext q);have PM:=af (xZ.ext q);have KG:=af (aZ.trans q);have HZ3:=af (HZ2.ext q);have fX:=af (dY.ext q);have hbr:=BR.lt;generalize w2.heap.size=r at*;go_upto_region 3 with fail
 refine aT fun W4 o BO=> ?_;have BJ4:=af (BJ3.ext o);have z7:=af (PM.ext o);have vu:=af (BR.ext o);have vn:=af (KG.trans o);have HZ4:=af (HZ3.ext o);have ve:=af (fX.ext o);have JL:=BO.lt;generalize W3.heap.size=ob at*;go_upto_region 4 with fail
 refine aT fun Y m BE=> ?_;have U:=af (BJ4.ext m);have V:=af (z7.ext m);have jC:=af (vu.ext m);have vw:=af (BO.ext m);have n:=af (vn.trans m);have HZ5:=af (HZ4.ext m);have Kt:=af (ve.ext m);have JM:=BE.lt;generalize W4.heap.size=y at*;have X:lX x D jb pb y w.heap.size r (w.heap.size+1) ob Y [.bool z0,.slice Z0 z1 Z,.bool y0,.slice Y0 y1 y2,.bool o0,.slice O0 o1 o2,.bool q0,.slice Q0 q1 q2] s attrs J H Aa ca z [] Y:=
  ⟨HM.ext n,HB.ext n,BE,U,jC,⟨z0,Z0,z1,Z,y0,Y0,y1,y2,o0,O0,o1,o2,q0,Q0,q1,q2,rfl,HZ5,Kt⟩,V,bU uj HF n,kJ HG n,⟨_,vw,jf⟩,HT.ext n,(HT.ext n).lt,⟨by omega,by omega,by omega,by omega,by omega,by omega,by omega,aK _⟩,.gV (aB _)⟩
 have CG1:=af (CG y w.heap.size r (w.heap.size+1) ob Y _ X);have HI:=af X;have j0:=U.aF 0;have a1:=V.aF 1;go_wp2_with fail
 refine CG1.mono ?_;rintro e6 w6 ⟨rfl,Q,hn, -⟩;have HR:ah (∃done,lX x D jb pb y w.heap.size r (w.heap.size+1) ob Y [.bool z0,.slice Z0 z1 Z,.bool y0,.slice Y0 y1 y2,.bool o0,.slice O0 o1 o2,.bool q0,.slice Q0 q1 q2] s attrs J H Aa ca z done w6/\(TU->done=ks)/\(¬TU->done= [])):=by
  by_cases h:TU
  ·exact⟨ks,Q h,fun _=>rfl,fun hn=>absurd h hn⟩
  ·exact⟨[],hn h,fun Q=>absurd Q h,fun _=>rfl⟩
 obtain⟨done,hr,iN,j4⟩:=HR.ae;have S:=af hr;have DX:=af iN;have KI:=af j4;obtain⟨v6,b6,N⟩:=hr.I0;obtain⟨Ao,co,xs,rfl, -, -, -, -⟩:=N.parts;have WN:=af N.ls;have e0:=hr.be.aF 0;have o6:=b6.aF 0;generalize JH:(done.map fun k=>(k,z k))=G at*;have T:=af JH;go_wp2_with fail
 refine bodyPost_ret (v:= .tuple #[.slice Ao G co,av 0]) (by simp [results,results25,go_sem]) rfl ⟨_,G,rfl,WN,fun h=>by rw[<-T.ae,DX.ae h],fun h=>by rw[<-T.ae,KI.ae h];rfl,?_,S.jm⟩;refine((gT n).trans S.ch).mono fun i hi hl=> ?_;simp only[aJ,bL,or_false] at hi⊢;omega
def aap(A B E:aR)(n c m d k e a:Nat)(b:Int)(j:a<n)(g:n<=maxLen)(w:au):
 Calls prog 42 #[.agg #[.slice A n c,.slice B m d,.slice E k e,av b],av a] w fun e f=>e= .returned (.bool true)/\Ext w f:=by
 have l:n<=9223372036854775807:=g;go_enter func42,ntmps42;go_upto_region 1 with fail
 refine aT fun W h i=> ?_;have o:=i.aF 0;have d1:decide ((0:Int)<=(a:Int))=true:=fU;have d2:decide ((a:Int)<(n:Int))=true:=fU;go_wp2_with fail
 exact bodyPost_ret (v:= .bool true) (by simp [results,results42,go_sem]) rfl ⟨rfl,h⟩
def Cs:List Nat->Bool
 |a::b::l=>decide (a<b)&&Cs (b::l)
 |_=>true
def acN:∀{l:List Nat} (_:Cs l=true) {i:Nat} (c:i+1<l),l[i]<l[i+1]
 | [],_,i,c=>absurd c (Lv _)
 | [_],_,i,c=>by simp at c
 |a::b::l,h,i,c=>by
  rw[Cs,cZ,decide_eq_true_eq] at h;cases i with
  |zero=>exact h.1
  |succ i=>exact acN (l:=b::l) h.2 avT
def ahu(A:aR)(c:Nat)(l:List Nat)(h:Cs l=true)(w:au)(m:IL w (.slice A l c) (ints l)):
 Calls prog 120 #[.slice A l c] w fun e s=>e= .returned (.bool true)/\Ext w s:=by
 have C:=af (fun i u=>acN h (i:=i) u);have q:=af m;have n:=(bD m).2;go_enter func120,ntmps120;go_upto_region 2 with fail
 go_loopw [3] (fun f r=>∃k:Nat,1<=k/\(k<=l\/k=1)/\f=av k/\ah (Ext w r)) (fun f _=>l - (RowKit.intOf f).toNat)
 exact⟨1,aK _,.inr rfl,rfl,aB w⟩;obtain⟨k,G,F,rfl,d⟩:=hrel;obtain⟨j,rfl⟩:∃j,k=j+1:=⟨k - 1,by omega⟩;by_cases b:j+1<l
 ·obtain⟨g,o,p,D⟩:=qb (q.ext d) (k:=j) Om (kj aS wr);obtain⟨H,E,a,q1⟩:=qb (q.ext d) b (kj aS wr);rw[p] at a;injection a with a;injection a with B z _;subst B z;subst p;have t:=C j b;generalize l[j]=x at*;generalize l[j+1]=y at*;have d0:decide (((j+1:Nat):Int)<(l.length:Int))=true:=fU;have d1:decide ((y:Int)<=(x:Int))=false:=aY;go_upto_region 4 with fail
  go_quiet (fail);go_wp2_with fail;go_roundw;exact⟨j+1+1,by omega,by omega,by go_num,d.drewN _⟩;simp [RowKit.intOf];omega
 ·have d0:decide (((j+1:Nat):Int)<(l.length:Int))=false:=aY;go_wp2_with fail;exact bodyPost_ret (v:= .bool true) (by simp [results,results120,go_sem]) rfl ⟨rfl,d⟩
abbrev TI:TypeId:=30
def acG(A B E:aR)(n c m d k e a g:Nat)(b:Int)(l:a<n)(j:n<=maxLen)(w:au)(f:ar w g TI [.slice A n c,.slice B m d,.slice E k e,av b]):
 Calls prog 115 #[av a,aI g 0] w fun e h=>e= .returned (.bool false)/\Ext w h:=by
 have C:=af (fun W=>aap A B E n c m d k e a b l j W);have t:=f.aF 0;have s:=f.aF 1;have r:=f.aF 2;have q:=f.aF 3;go_enter func115,ntmps115;go_wp2_with fail
 refine(C _).mono ?_;rintro e p ⟨rfl,i⟩;have o:=af i;go_wp2_with fail
 exact bodyPost_ret (v:= .bool false) (by simp [results,results115,go_sem]) rfl ⟨rfl,o⟩
def anz(A B E:aR)(n c m d k e b i:Nat)(a:Int)(f:Fu)(r:f.1<n)(p:n<=maxLen)(w:au)(o:ar w b TI [.slice A n c,.slice B m d,.slice E k e,av a])(q:ar w i 180 [.func (.func 115) #[] #[aI b 0]]):
 Calls prog 117 #[.agg #[av (f.1:Int),av (f.2.1:Int),aL f.2.2],aI i 0] w fun e j=>e= .returned (.bool false)/\Ext w j:=by
 have C:=af (fun W (s:Ext w W)=>acG A B E n c m d k e f.1 b a r p W (o.ext s));have t:=af q;obtain⟨F,D,z⟩:=f;go_enter func117,ntmps117;go_upto_region 1 with fail
 refine aT fun W h x=> ?_;have t0:=x.aF 0;have G:=(t.ext h).aF 0;have u:=af (C W h);go_wp2_with fail
 refine u.mono ?_;rintro e y ⟨rfl,l⟩;have g:=af (h.trans l);go_wp2_with fail
 exact bodyPost_ret (v:= .bool false) (by simp [results,results117,go_sem]) rfl ⟨rfl,g⟩
end Go.Proofs.YtadbchhdjbghkaaGreatDoor
