/- Texts of the proof, part 12. -/
import Derived.Test.YthfffpcmldipgaaGreatDoorA11
namespace Go.Proofs.YthfffpcmldipgaaGreatDoor
set_option maxHeartbeats 8000000
set_option linter.all false
set_option maxRecDepth 100000
variable{ai:Prop}
open Go.RowKit Go.Lib Go.Maps Go.ChangeShapes Go.WideShapes Go.ChangeAt Go.Proofs.Tryz
variable{a b c d e f g h:Nat}{i j k l:List Nat}{m n o:World}{p q r s:Value}{t u v:List Value}{w x:TypeId}{y z:Nat→Option Nat}{A:Nat→List Nat}{B C:Int}{E F:Option Addr}{H I:Rat}{J:Nat→Nat}{K:Nat→Bool}{L:List Int}{N:Array Bool}{O:Option Nat}{Q:Act}{R S:Bool}{T:List UInt8}
theorem results_cell_tmp{P:Program}{k:Go.Func}{a q:Tmp}{w:TypeId}{p:Value}(h:k.results= #[.cell a w,.tmp q])(c:Array Value)(b:au)(g:Nat)(t:TypeId)(e:Array Value)(j:Nat×Nat)(d:TypeDesc)
 (n:c.getD a undef=aJ g 0) (r:b.heap[g]?=some (.cells e t j))
 (l:P.underlying w=some d) (s:(match d with| .struct _| .array _ _=>true|_=>false)=true) (o:(P.info? w).map (·.size)=some e.size) (m:c.getD q undef=p):
 (results k c).run P b= .ok (.tuple #[.agg e,p]) b:=by
 have i:c[a]?.getD undef=aJ g 0:=by simpa using n
 have f:c[q]?.getD undef=p:=by simpa using m
 simp [results,h,i,f,asAddr,run_loadVar_row b g t w e j d r l s o]
def afQ(w:au):∀l:List Int,Ch (dr w) (fh l) l
 | []=>rfl
 |z::l=>⟨[av z],fh l,rfl,rfl,afQ w l⟩
def aq8(h:IL m (.slice E a b) L){k:Nat}(i:k<=L.length):IL m (.slice E k b) (L.take k):=by
 obtain⟨g,f⟩:=asF h;obtain⟨e,o,j⟩:=bE h;have d:(L.take k).length=k:=ay8;refine⟨E,b,fh (L.take k),by rw[d],by rw[d];omega,by unfold maxLen;omega,f,?_,afQ m _⟩;have e:fh (L.take k)=(fh L).take k:=by unfold fh;rw[G5]
 rw[e];exact g.take k
def Vf(v:Value)(x:aQ)(ok:cF x)(n:Nat)(B:aS)(H:Nat)(f:List Nat)(w:au)(h:dK w v x)(P:x.aq.length=n)(hp:IL w (.slice B f.length H) (ints f))(t:f.length=n)(u:f.Nodup)(E:∀a,a∈f↔a<n):
 Calls prog 63 #[v,.slice B f.length H] w fun e z=>∃g,e= .returned (.tuple #[.agg #[aG g 0 n n],av 0])/\ar z g aU (je n (jE (jg x.aA) (iG f) f fun _=>none))/\w.heap.size<=g/\Ext w z:=by
 have hn:n<=12:=by rw[<-P];exact ok.a12
 have CH:=af (fun z (hx:Ext w z)=>abE v x z (h.ext hx) ok);have CO:=af (fun W (hX:Ext w W)=>aoQ v x n B H f W (h.ext hX) P hn (iP hp hX) t u E);have K:=af hp;have J:=af t;have R:=af E;have T:ah (∀k (N:k<f.length),(ints (f.take k)).contains (f[k]:Int)=false):=fun k N=>by
  rw[<-uE,pD];intro hm;unfold ints at hm;obtain⟨b,hb,e⟩:=dH.1 hm;have e':b=f[k]:=Om;subst e';have e2:f=f.take k++f[k]::f.drop (k+1):=by rw[<-i6 N,sQ]
  rw[e2,ow] at u;exact u.2.2 _ hb _ lI rfl
 generalize(jE (jg x.aA) (iG f) f fun _=>none)=q at*;obtain⟨A,c,Br,d,D,e,rfl,hat,lx,Fr⟩:=h;rw[t] at K CO⊢;subst P;generalize x.aq.length=n at*;have jk:=(bE K).2;go_enter func63,ntmps63;go_upto_region 1 with fail
 refine fX fun W HX BX BR=> ?_;have hbr:=BR.lt;have Z:=af (CH W HX);obtain⟨s0,s1,s2,s3⟩:=BX.four;go_wp2_with fail
 refine Z.mono ?_;rintro e1 w1 ⟨rfl,l⟩;obtain⟨t0,t1,t2,t3⟩:=(BX.ext l).four;have kg:=af (BX.ext l);have vM:=af (BR.ext l);have j:=af (HX.trans l);go_upto_region 8 with fail
 go_loopw [9,28] (fun _ r wr=>∃i:Nat,i<=n/\r=av i/\wr=w1) (fun _ r _=>n - (RowKit.intOf r).toNat)
 exact⟨0,aT _,rfl,rfl⟩;obtain⟨i,hi,rfl,s⟩:=hrel;have s:=s.symm;subst s;by_cases O:i<n
 ·have G:i<f.length:=by rw[J.ae];exact O
  obtain⟨g1,o1,m,q0⟩:=nK (K.ext j) (k:=i) G (jL aU _);have ha:=(R _).1 (aZ G);generalize f[i]=a at*;subst m;have d1:decide ((a:Int)<0)=false:=aW;have d2:decide ((n:Int)<=(a:Int))=false:=aW;exact Xf
 ·obtain rfl:i=n:=Om;have d1:decide ((i:Int)<(i:Int))=false:=aW;go_upto_region 14 with fail
  go_loopw [10,11,43] (fun _ _ p wq=>∃k:Nat,k<=i/\p=av k/\ah (Ext w1 wq)) (fun _ _ p _=>i - (RowKit.intOf p).toNat)
  exact⟨0,aT _,rfl,aC _⟩;obtain⟨k,N,rfl,y⟩:=hrel;by_cases M:k<i
  ·have F:k<f.length:=by rw[J.ae];exact M
   obtain⟨g1,o1,m,q0⟩:=nK (K.ext (j.trans y)) (k:=k) F (jL aU _);have U:ah (IL wr (aG g1 o1 k H) (ints (f.take k))):=(by have h:=aq8 (K.ext (j.trans y)) (k:=k) (by unfold ints;rw[cy];omega);rw[m] at h;unfold ints at h⊢;rwa[G5])
   have S:=af (T k F);generalize f[k]=a at*;generalize ints (f.take k)=pk at*;subst m;have CI:=af (Pm _ k H pk (a:Int) wr U);go_wp2_with fail
   refine CI.mono ?_;rintro e5 w5 ⟨rfl,nn,rfl⟩;rw[S.ae];have X:=af (y.drewN nn);generalize wr.drewN nn=w5 at*;go_wp2_with fail
   go_roundw;exact⟨k+1,by omega,by go_num,X⟩;simp [RowKit.intOf];omega
  ·obtain rfl:k=i:=Om;have d1:decide ((k:Int)<(k:Int))=false:=aW;have Y:=af (CO _ (j.trans y));have I:=af (j.trans y);have L:=af (vM.ext y);obtain⟨s0,s1,s2,s3⟩:=(kg.ext y).four;go_wp2_with fail
   refine Y.mono ?_;rintro e5 w5 ⟨g,rfl,hg,hl,C⟩;have o:=af (L.ext C);have Mf:=o.lt;have r0:=o.aD 0;have f0:=o.frozen 0;obtain⟨W8,Zo,B8,K8,N8⟩:=gp (i:=0) o (aG g 0 k k);have hsz:=I.size;have Fk:=L.lt;have V:ah (ar W8 g aU (je k q)):=hg.only N8 Om;have Q:ah (Ext w W8):=(I.trans C).only N8.ae Om;go_wp2_with fail
   exact bodyPost_ret (results_cell_tmp rfl _ _ (w.heap.size+1) uW #[aG g 0 k k] (0,0) _ rfl B8.ae underlying32 rfl Ok rfl) rfl ⟨g,rfl,V,by omega,Q⟩
def ab0{l:List Int}(h:∀a∈l,0<=a):ints (cj l)=l:=by
 unfold ints cj;rw[G9];refine(qE fun a b=> ?_).trans (List.map_id _);have:=h a b;show((a.toNat:Nat):Int)=a
 omega
def ad6:(ints i).contains (a:Int)=i.contains a:=by
 rw[lZ,pD,pD];unfold ints;rw[dH];constructor
 ·rintro⟨b,c,e⟩;have:b=a:=Om;exact this▸c
 ·exact fun h=>⟨a,h,rfl⟩
def amT(A:aS)(c n:Nat)(p:Nat->Option Nat)(d:Nat->Nat)(r:dp n p d)(hn:n<=12)(nm:ByteArray)(B:aS)(e:Nat)(l:List Nat)(hl:∀a∈l,a<n)(hy:∀a∈l,∀b∈l,a≠b->a∈mA p (d b) b\/b∈mA p (d a) a)(w:au)(ho:IL w (.slice A n c) ((List.range n).map (tO p)))(U:IL w (.slice B l.length e) (ints l)):
 Calls prog 69 #[.agg #[.slice A n c],.agg #[.string nm,.slice B l.length e]] w fun e G=>e= .returned (.bool true)/\Ext w G:=by
 have HC:=af (fun W u v (P:Ext w W) J=>alU A c n p d r u v J hn W (ho.ext P));have X:=af U;have Y:=af hl;have HY:ah (∀a∈l,∀b∈l,a≠b->(ints (mA p (d b) b)).contains (a:Int)=true\/(ints (mA p (d a) a)).contains (b:Int)=true):=fun a ha b hb K=>by rw[ad6,ad6,pD,pD];exact hy a ha b hb K
 obtain⟨up,s⟩:∃up:Nat->List Int,up=fun b=>ints (mA p (d b) b):=⟨_,rfl⟩;have F:ah (∀W (u v:Nat),Ext w W->v<n->Calls prog 126 #[.agg #[.slice A n c],av u,av v] W fun e G=>e= .returned (.bool ((up v).contains (u:Int)))/\Ext W G):=by rw[s];exact fun W u v P J=>HC W u v P J
 have R:ah (∀a∈l,∀b∈l,a≠b->(up b).contains (a:Int)=true\/(up a).contains (b:Int)=true):=by rw[s];exact HY
 have V:=(bE U).2;go_enter func69,ntmps69;go_upto_region 1 with fail
 refine fX fun W E BO BR=> ?_;have b1:=BR.aD 1;go_upto_region 2 with fail
 go_loopw [6,8,12] (fun _ _ o wr=>∃i:Nat,i<=l.length/\o=av i/\ah (Ext W wr)) (fun _ _ o _=>l.length - (RowKit.intOf o).toNat)
 exact⟨0,aT _,rfl,aC W⟩;obtain⟨i,hi,rfl,f⟩:=hrel;by_cases y:i<l.length
 ·obtain⟨g1,o1,Q,q0⟩:=nK (X.ext (E.trans f)) (k:=i) y (jL aU _);have C:=aZ y;generalize l[i]=a at*;have b1:=(BR.ext f).aD 1;have O:=Y a C;subst Q;go_upto_region 5 with fail
  go_loopw [8,19] (fun _ m wq=>∃j:Nat,j<=l.length/\m=av j/\ah (Ext W wq)) (fun _ m _=>l.length - (RowKit.intOf m).toNat)
  exact⟨0,aT _,rfl,f⟩;obtain⟨j,hj,rfl,f⟩:=hrel;by_cases x:j<l.length
  ·obtain⟨g2,o2,q,q0⟩:=nK (X.ext (E.trans f)) (k:=j) x (jL aU _);have z:=aZ x;generalize l[j]=b at*;have N:=Y b z;injection q with q;injection q with e1 e2 _;subst e1 e2;by_cases D:a=b
   ·subst D;have d1:((a:Int) !=(a:Int))=false:=Ou;go_wp2_with fail
    go_roundw;exact⟨j+1,by omega,by go_num,f⟩;simp [RowKit.intOf];omega
   ·have d1:((a:Int) !=(b:Int))=true:=azR;have T:=af (R a C b z D);have c0:=(BO.ext f).aD 0;have C1:=af (F wr a b (E.trans f) N);go_wp2_with fail
    refine C1.mono ?_;rintro e5 w5 ⟨rfl,I⟩;have g:=af (f.trans I);have c1:=(BO.ext g).aD 0;have Z:=af (F w5 b a (E.trans g) O);cases M:(up b).contains (a:Int) with
    |true=>
     go_wp2_with fail
     go_roundw;exact⟨j+1,by omega,by go_num,g⟩;simp [RowKit.intOf];omega
    |false=>
     have L:(up a).contains (b:Int)=true:=by
      rcases T.ae with h|h
      ·rw[M] at h;cases h
      ·exact h
     rw[L] at Z;go_wp2_with fail;refine Z.mono ?_;rintro e6 w6 ⟨rfl,H⟩;have S:=af (g.trans H);go_wp2_with fail
     go_roundw;exact⟨j+1,by omega,by go_num,S⟩;simp [RowKit.intOf];omega
  ·have t:j=l.length:=Om;subst t;have d1:decide ((l.length:Int)<(l.length:Int))=false:=aW;go_wp2_with fail
   go_roundw;exact⟨i+1,by omega,by go_num,f⟩;simp [RowKit.intOf];omega
 ·have d1:decide ((i:Int)<(l.length:Int))=false:=aW;go_wp2_with fail;exact bodyPost_ret (v:= .bool true) (by simp [results,results69,go_sem]) rfl ⟨rfl,E.trans f⟩
def ao_(A:aS)(c n h:Nat)(p:Nat->Option Nat)(d:Nat->Nat)(r:dp n p d)(u:n<=12)(i:ByteArray)(B:aS)(e:Nat)(l:List Nat)(x:∀a∈l,a<n)(o:∀a∈l,∀b∈l,a≠b->a∈mA p (d b) b\/b∈mA p (d a) a)(w:au)(t:IL w (.slice A n c) ((List.range n).map (tO p)))(s:IL w (.slice B l.length e) (ints l))(y:ar w h uW [.slice A n c]):
 Calls prog 68 #[.agg #[.string i,.slice B l.length e],aJ h 0] w fun e m=>e= .returned (.bool false)/\Ext w m:=by
 have C:=af (fun W (j:Ext w W)=>amT A c n p d r u i B e l x o W (t.ext j) (s.ext j));have z:=af y;go_enter func68,ntmps68;go_upto_region 1 with fail
 refine aP fun W g k=> ?_;have H:=k.aD 0;have G:=k.aD 1;have F:=(z.ext g).aD 0;have D:=af (C W g);go_wp2_with fail
 refine D.mono ?_;rintro e E ⟨rfl,q⟩;have f:=af (g.trans q);go_wp2_with fail
 exact bodyPost_ret (v:= .bool false) (by simp [results,results68,go_sem]) rfl ⟨rfl,f⟩
def apI(b:FuncId)(hid:∀d w,(callFunc b d).run prog w= .ok (.enter b d) w)(t:Value)(x u:Nat->Value)(P:Nat->Bool)(I:World->Prop)(A:aS)(n c:Nat)(w:au)(E:I w)(K:n<=c)(z:c<=maxLen)
 (B:∀W k,I W->k<n->∃g o,A=cT g o/\(ay W g (o+k*2) (x k)/\ay W g (o+k*2+1) (u k)))
 (hF:∀W k,I W->k<n->Calls prog b #[.agg #[x k,u k],t] W fun e l=>e= .returned (.bool (P k))/\I l):
 Calls prog 125 #[.slice A n c,.func (.func b) #[] #[t]] w fun e l=>e= .returned (av (jO P n))/\I l:=by
 have F:=af B;have G:=af hF;have y:c<=9223372036854775807:=z;have q:=af E;go_enter func125,ntmps125;go_upto_region 2 with fail
 have s:ah (∀k,k<0->P k=false):=fun k hk=>by omega
 go_loopw [5,8] (fun _ m wr=>∃j:Nat,j<=n/\m=av j/\ah (I wr)/\ah (∀k,k<j->P k=false)) (fun _ m _=>n - (RowKit.intOf m).toNat)
 exact⟨0,aT _,rfl,q,s⟩;obtain⟨j,J,rfl,r,HB⟩:=hrel;by_cases f:j<n
 ·obtain⟨g,o,D,p⟩:=F _ _ r f;go_split_ands;have H:=G _ _ r f;subst D;go_wp2_with fail
  refine H.mono ?_;rintro e l ⟨rfl,C⟩;have oh:=af C;cases hp:P j with
  |true=>have a:=Kv f hp HB;go_wp2;exact bodyPost_ret (v:=av j) (by simp [results,results125,go_sem]) rfl ⟨by rw[a],oh⟩
  |false=>exact QM
 ·have d1:decide ((j:Int)<(n:Int))=false:=aW;have i:j=n:=Om;subst i;have a:=Kw HB;go_wp2;exact bodyPost_ret (v:=av (-1)) (by simp [results,results125,go_sem]) rfl ⟨by rw[a],r⟩
def ap5(a:FuncId)(hid:∀d w,(callFunc a d).run prog w= .ok (.enter a d) w)(h:Value)(j i:Nat->Value)(P:Nat->Bool)(I:World->Prop)(A:aS)(n c:Nat)(w:au)(s:I w)(p:n<=c)(m:c<=maxLen)
 (q:∀W k,I W->k<n->∃g o,A=cT g o/\(ay W g (o+k*2) (j k)/\ay W g (o+k*2+1) (i k)))
 (hF:∀W k,I W->k<n->Calls prog a #[.agg #[j k,i k],h] W fun e f=>e= .returned (.bool (P k))/\I f):
 Calls prog 67 #[.slice A n c,.func (.func a) #[] #[h]] w fun e f=>e= .returned (.bool ((List.range n).any P))/\I f:=by
 have u:=af (apI a hid h j i P I A n c w s p m q hF);have l:=Ps (P:=P) (n:=n);generalize(List.range n).any P=b at*;generalize jO P n=z at*;go_enter func67,ntmps67;go_wp2_with fail
 refine u.mono ?_;rintro e f ⟨rfl,r⟩;have t:=af r;go_wp2;exact bodyPost_ret (v:= .bool b) (by simp [results,results67,go_sem]) rfl ⟨rfl,t⟩
def qY(w:au)(u:Value)(x:aQ):Prop:=∃A c p d,u= .agg #[.slice A x.aq.length c]/\IL w (.slice A x.aq.length c) ((List.range x.aq.length).map (tO p))/\Qk x p d
def qY.ext{w':au}{u:Value}{x:aQ}(h:qY m u x)(k:Ext m w'):qY w' u x:=by obtain⟨A,c,p,d,e,b,a⟩:=h;exact⟨A,c,p,d,e,b.ext k,a⟩
def apa(v u:Value)(x:aQ)(w:au)(h:dK w v x)(ok:cF x)(hu:qY w u x):
 Calls prog 33 #[v,u] w fun e w'=>e= .returned (av 0)/\Ext w w':=by
 have CH:=af (fun W (S:Ext w W)=>KA v x W (h.ext S) ok);obtain⟨Ao,co,p,dd,rfl,r,V⟩:=hu;obtain⟨A,c,B,d,D,e,rfl,hat,U,Fr⟩:=h;have hn:=ok.a12;obtain⟨N,hN⟩:∃N,x.aq.length=N:=⟨_,rfl⟩;have HN:=af hN;have aN:=af ok;have lW:=af V;have C:=af V.WS;rw[hN] at CH hn r C⊢;have n_:=af U;have HOL:=af r;have jk:=(bE r).2;have Y:=(bE U).2;obtain⟨Q,K⟩:∃Q:Nat->Int,Q=tO p:=⟨_,rfl⟩;have HOV:=af K;have HB:ah (∀a,a<N-> -1<=Q a/\Q a<(N:Int)):=fun a f=>by
  rw[K];unfold tO;cases hp:p a with
  |none=>exact⟨AB _,by show(-1:Int)<_;omega⟩
  |some b=>have:=(C.up a b f hp).1;exact⟨by show(-1:Int)<=(b:Int);omega,by show(b:Int)<_;omega⟩
 have HGT:ah (∀W,Ext w W->∀a,a<N->∃g o,Ao=cT g o/\ay W g (o+a) (av (Q a))):=fun W S a f=>by obtain⟨g,o,h1, -,h2⟩:=io (r.ext S) (i:=a) (by rw[cy,gN];exact f);rw[DK,J2] at h2;exact⟨g,o,h1,by rw[K];exact h2⟩
 go_enter func33,ntmps33;go_upto_region 1 with fail
 refine fX fun W HX BX BO=> ?_;have SN:=af (CH W HX);obtain⟨s0,s1,s2,s3⟩:=BX.four;have Mw:=BO.lt;go_wp2_with fail
 refine SN.mono ?_;rintro e1 w1 ⟨rfl,n⟩;obtain⟨t0,t1,t2,t3⟩:=(BX.ext n).four;have kg:=af (BX.ext n);have P:=af (BO.ext n);have t:=af (HX.trans n);have o0:=P.aD 0;go_upto_region 7 with fail
 go_loopw [7,26] (fun _ G wr=>∃i:Nat,i<=N/\G=av i/\wr=w1) (fun _ G _=>N - (RowKit.intOf G).toNat)
 exact⟨0,aT _,rfl,rfl⟩;obtain⟨i,hi,rfl,I⟩:=hrel;have I:=I.symm;subst I;by_cases s:i<N
 ·obtain⟨g1,o1,kT,q0⟩:=HGT w1 t i s;obtain⟨b1,b2⟩:=HB i s;generalize Q i=z at*;subst kT;have d1:decide (z< -1)=false:=aW;have d2:decide ((N:Int)<=z)=false:=aW;exact Xf
 ·obtain rfl:i=N:=Om;have d1:decide ((i:Int)<(i:Int))=false:=aW;go_upto_region 13 with fail
  go_loopw [8,9,10,43] (fun _ _ _ F wq=>∃k:Nat,k<=i/\F=av k/\ah (Ext w1 wq)) (fun _ _ _ F _=>i - (RowKit.intOf F).toNat)
  exact⟨0,aT _,rfl,aC _⟩;obtain⟨k,hk,rfl,O⟩:=hrel;have o0:=(P.ext O).aD 0;by_cases Mj:k<i
  ·have CA:=af (adq Ao co i p dd C k Mj hn wr (HOL.ext (t.trans O)));go_wp2_with fail;refine CA.mono ?_;rintro e5 w5 ⟨y,rfl, -,H⟩;have M:=af (O.trans H);go_wp2_with fail
   go_roundw;exact⟨k+1,by omega,by go_num,M⟩;simp [RowKit.intOf];omega
  ·obtain rfl:k=i:=Om;have d1:decide ((k:Int)<(k:Int))=false:=aW;obtain⟨t0,t1,t2,t3⟩:=(kg.ext O).four;have rE:ah (Calls prog 67 #[.slice B x.aA.length d,.func (.func 68) #[] #[aJ (w.heap.size+1) 0]] wr fun e w'=>e= .returned (.bool false)/\Ext wr w'):=by
    have S:=t.trans O;have E:=fun j (R:j<x.aA.length)=>qQ (bX oF n_ S) R;obtain⟨T,L⟩:∃T:Nat->Nat->Value,T=fun j q=>(B.map fun a=>(wr.cell? (aB a.block (a.off+q*2+j))).getD undef).getD undef:=⟨_,rfl⟩;have h1:=ap5 68 (fun _ _=>by rfl) (aJ (w.heap.size+1) 0) (T 0) (T 1) (fun _=>false) (fun W=>Ext wr W) B x.aA.length d wr (aC wr) Y.1 Y.2
     (fun W j hW R=>by
       obtain⟨g,o,Bk,m,dk,hA,hg,q1,q2, -⟩:=E j R;subst hA;rw[L];refine⟨g,o,rfl,(hW.cell (p:=aB g (o+j*2)) hg).trans ?_,(hW.cell (p:=aB g (o+j*2+1)) hg).trans ?_⟩
       ·show _=some ((wr.cell? (aB g (o+j*2+0))).getD undef)
        rw[jK,q1];rfl
       ·show _=some ((wr.cell? (aB g (o+j*2+1))).getD undef)
        rw[q2];rfl)
     (fun W j hW R=>by
       obtain⟨g,o,Bk,m,dk,hA,hg,q1,q2,Z⟩:=E j R;have e1:T 0 j=aO x.aA[j].1:=by
        rw[L,hA];show(wr.cell? (aB g (o+j*2+0))).getD undef=_
        rw[jK,q1];rfl
       have e2:T 1 j= .slice Bk m dk:=by
        rw[L,hA];show(wr.cell? (aB g (o+j*2+1))).getD undef=_
        rw[q2];rfl
       rw[e1,e2];have hm:=aZ R;have J:=aN.ri _ hm;have s:=ab0 (l:=x.aA[j].2) fun a f=>(J a f).1;obtain⟨tW, -, -⟩:=bE Z;have X:m=(cj x.aA[j].2).length:=by unfold cj;rw[cy];exact tW
       subst X;refine(ao_ Ao co k (w.heap.size+1) p dd C hn _ Bk dk (cj x.aA[j].2) (fun a f=> ?_) (fun a f b hb hne=> ?_) W (HOL.ext (S.trans hW)) (by rw[s];exact Z.ext hW) (P.ext (O.trans hW))).mono fun e w' hh=>⟨hh.1,hW.trans hh.2⟩
       ·unfold cj at f;obtain⟨z,hz,rfl⟩:=dH.1 f;have:=(J z hz).2;have:=(J z hz).1;have:=HN.ae;omega
       ·unfold cj at f hb;obtain⟨z,hz,rfl⟩:=dH.1 f;obtain⟨y,hy,rfl⟩:=dH.1 hb;exact lW.way _ hm z hz y hy fun e=>hne (by rw[e]))
    have ef:(List.range x.aA.length).any (fun _=>false)=false:=Tl.2 fun _ _ h=>by cases h
    rw[ef] at h1;exact h1
   go_wp2_with fail
   refine rE.mono ?_;rintro e5 w5 ⟨rfl,H⟩;have M:=af (t.trans (O.trans H));go_wp2_with fail
   exact bodyPost_ret (v:=av 0) (by simp [results,results33,go_sem]) rfl ⟨rfl,M⟩
def anw(g o L:Nat)(v:Value)(x:aQ)(w:au)(h:cJ w g)(hv:dK w v x)(ok:cF x)(hi:L<x.aA.length)(h8:o<=8):
 Calls prog 64 #[aJ g 0,v,av L,av o] w fun e f=>∃l u,l.length<=o/\EC x x.aA[L].2 5 l/\e= .returned u/\bH dJ 2 eh w.heap.size f u (Be l)/\cJ f g/\Only g w f:=by
 obtain⟨A,c,B,d,Dd,e,rfl,ha,hr,hf⟩:=hv;obtain⟨-,ha1,ha2⟩:=bE ha;obtain⟨-,iY,kB⟩:=bE hr;have HA:=af ha;have aN:=af ok;have HS:=af h;have hg:=h.lt;obtain⟨gr,J,Bi,mi,di,rfl,hgr, -,eH,kC⟩:=qQ hr hi;have d_:=af kC;have fZ:=af (ok.ri _ (aZ hi));obtain⟨yR,Xo,Xn⟩:=bE kC;have I7:x.aA[L].2.length<=12:=by
  rcases Ib (k:=0) (n:=x.aq.length) (ok.ra _ (aZ hi)) (ok.ri _ (aZ hi)) with h1|h1
  ·rw[h1];simp
  ·have:=ok.a12;omega
 have HKP:ah (∀W f,Ext w W->cJ W g->Only g W f->ay f gr (J+L*2+1) (.slice Bi mi di)):=fun W f hX hs ho=>by have h1:=Ls.cells Cs.two (bX oF hr hX) (p:=L*2+1) Om (uM hs ho Od);rw[<-DR] at h1;exact h1.trans ((hX.cell (p:=aB gr (J+L*2+1)) hgr).trans eH)
 generalize x.aA[L]=rel at*;obtain⟨rn,E⟩:=rel;simp only at eH d_ fZ yR I7 kC⊢;subst yR;obtain⟨AN,Jb⟩:∃AN,x.aq.length=AN:=⟨_,rfl⟩;have vJ:=af Jb;rw[Jb] at ha1 HA⊢;generalize x.aA.length=RN at*;have aye:L<9223372036854775807:=Om;go_enter func64,ntmps64;go_upto_region 2 with fail
 refine aP fun W HX BX=> ?_;have Zb:g<W.heap.size:=cE hg HX.size;have xA:=af (HS.ext HX);have awy:=af (iP d_ HX);have SK:=af (bX mS HA HX);have HKW:=af (fun f ho=>HKP W f HX xA ho);have hbg:w.heap.size≠g:=Om;have Rz:=BX.lt;have hwW:=HX.size;generalize vu:w.heap.size=bs at*;have Gr:=af vu;have CN:=af (oM g (o+1) W xA Om Om);go_wp2_with fail
 refine CN.mono ?_;rintro e2 w2 ⟨r0,Q6,rfl,hs3,eX⟩;have Q:=af eX;have d9:=af hs3;have hw2:=Q.size;go_upto_region 3 with fail
 go_loopw [9,10] (fun v9 v10 wr=>∃(k:Nat) (ls:List Rw),v10=av k/\ls.length+k<=o/\ah (EC x E 5 ls)/\ah (bH dJ 2 eh w2.heap.size wr v9 ls)/\ah (cJ wr g)/\ah (Only g w2 wr)) (fun _ v10 _=>(RowKit.intOf v10).toNat)
 exact⟨r0,[],rfl,by simp;omega,Oy9,f_,d9,ii _ _⟩;obtain⟨k,ls,rfl,hk,I,zv,mH,F⟩:=hrel;obtain⟨N0,c10,axD,rfl,_,_,_,_⟩:=zv.parts;generalize wr=w4 at*;have hw4:=F.size;by_cases wY:0<k
 ·have avz:w4.heap.size≠g:=Om;go_wp2_with fail;refine(UT g _ [1,1,2,5] _ (mH.ext ((aC _).alloc _)) (kq _ aU (fh [1,1,2,5])) avz Od Od).mono ?_;rintro e5 w5 ⟨wt,hwt,rfl,hs5,nS⟩;have ah4:1<=wt/\wt<=5:=by simp only[aI,bF,or_false] at hwt;omega
  have P:ah (Only g w4 w5):=(ei ((aC _).alloc _)).trans nS;have lB:=af hs5;go_upto_region 6 with fail
  refine aP fun W6 cY BW=> ?_;have jF:=af (P.trans (ei cY));have qr:=af (lB.ext cY);have Zj:w4.heap.size<=w5.heap.size:=P.size;have aiB:=BW.lt;generalize w5.heap.size=bw at*;have HYW:=af (Q.trans (F.trans jF));have lF:=af (BX.only HYW hbg);have q1:=HKW W6 HYW;obtain⟨s0,s1,s2,s3⟩:=lF.four;go_upto_region 7 with fail
  go_loopw [33] (fun v33 wr=>∃(j:Nat) (z:List aF) (vv:Value),j<=E.length/\v33=av j/\ah (pJ x (E.take j) z)/\ah (ar wr bw dJ [vv,av wt])/\ah (bH bI 1 jq W6.heap.size wr vv z)/\ah (cJ wr g)/\ah (Only g w4 wr)/\W6.heap.size<=wr.heap.size) (fun v33 _=>E.length - (RowKit.intOf v33).toNat)
  exact⟨0,[],_,aT _,rfl,pJ.nil,BW,f_,qr,jF,aK _⟩;obtain⟨j,z,vv,hj,rfl,X,BWr,HOv,HSr,O,hsz⟩:=hrel;by_cases vp:j<E.length
  ·have r:=af (Q.trans (F.trans O));obtain⟨gi,oi,rfl,_,Fv⟩:=io (IL.past awy xA r) vp;have I1:=fZ _ (aZ vp);have fp:ah (E.take (j+1)=E.take j++ [E[j]]):=g9 vp;generalize E[j]=a at*;obtain⟨q,rfl⟩:∃q:Nat,a=q:=⟨a.toNat,by omega⟩;have kQ:q<x.aq.length:=Om;have aiG:q<AN:=by rw[<-vJ.ae];exact kQ
   obtain⟨ga,oa,rfl,Rq, -, -⟩:=oL (AL.past SK xA r) kQ;have HCK:ah (∀f,Only g W f->ay f ga (oa+q*2) (aO x.aq[q].1)/\ay f ga (oa+q*2+1) (av x.aq[q].2)):=fun f ho=>by exact agB
   have Sq:ah (kd x q=x.aq[q].2):=aAa;have Cg:=aN.ak _ (aZ kQ);generalize x.aq[q]=ML at*;obtain⟨nm,ak⟩:=ML;simp only at Sq Cg HCK;obtain⟨Av,cv,xv,rfl,_,_, -, -⟩:=HOv.parts;have aiA:bw≠g:=Om;obtain⟨S,dw⟩:∃S:World->Prop,S=fun f=>ay f bw 0 (.slice Av z.length cv)/\F4 f bs (aG ga oa AN c) (aG gr J RN d) (.slice Dd x.bk.length e) (av x.label)/\ay f ga (oa+q*2) (aO nm)/\ay f ga (oa+q*2+1) (av ak):=⟨_,rfl⟩;have bL:ah (∀f,S f->ay f bw 0 (.slice Av z.length cv)/\(ay f bs 0 (aG ga oa AN c)/\ay f bs 1 (aG gr J RN d)/\ay f bs 2 (.slice Dd x.bk.length e)/\ay f bs 3 (av x.label))/\ay f ga (oa+q*2) (aO nm)/\ay f ga (oa+q*2+1) (av ak)):=ay4;have U:ah (∀f,Only g wr f->S f):=(by rw[ah,dw];exact fun f ho=>⟨(BWr.only ho aiA).aD 0,(BX.only (r.trans ho) hbg).four,HCK.ae f (r.trans ho)⟩)
   go_upto_region 9 with fail
   have HOd:ah (Only g wr wr.drew):=(ii g wr).drew;have HSd:=af (HSr.ext (aC wr).drew);have aH:=af (U _ HOd);refine b9 (S:=S) (T:=fun j=>decide (10<=j)) Ok ?_;generalize wr.drew=wd at*;refine ax 0 37 ?_;refine ax 1 38 ?_;refine ax 2 39 ?_;refine ax 3 40 ?_;refine ax 4 41 ?_;refine ax 5 42 ?_;refine ax 6 43 ?_;refine ax 7 44 ?_;refine aL 8 ?_;intro K M;go_simp;refine(adV g nm ak wd HSd Cg).mono ?_;rintro e7 w7 ⟨t,ht,rfl,yO,kR⟩;have Z:=af (HOd.trans kR);have qq:=af yO;have zg:=af ht;refine M.ae _ _ (fun _=>U _ Z) ?_;have aH:=af (U _ Z);refine aL 9 ?_;intro K M;go_simp;refine M.ae _ _ (fun _=>U _ (Z.trans (ei ((aC w7).alloc _)))) ?_;refine aP fun WZ cD BZ=> ?_;have Y:=af (Z.trans (ei cD));have eZ:=af (qq.ext cD);have av6:ah (pJ x (E.take (j+1)) (z++ [t])):=(by rw[ah,fp.ae];exact X.snoc (by rw[Sq.ae];exact zg))
   have awc:=af (ang HOv Y Om);have BW2:=af (BWr.only Y aiA);have avK:=af (O.trans Y);have yz:W6.heap.size<=WZ.heap.size:=a8 hsz Y.size;have pY:z.length<=12:=by have h:=X.1;rw[cP] at h;omega
   obtain⟨_,_,xv,ee,_,_,s,xH⟩:=awc.parts;injection ee with y5 _ Fz;subst y5 Fz;have cK:(z.length+1)*16<=140737488355328:=Om;refine aL 10 ?_;intro K M;refine mr rfl ?_;refine qO _ _ rW rfl W6.heap.size str_slice _ _ _ rfl s.ae _ [aO t] BZ.ae 1 1 rfl rfl rfl cK yz ?_;intro v' IA C m _;obtain⟨aw5,avH,rfl,_,_,_⟩:=dZ C;have ub:=af (iN (R:=jq) (x:=t) jY Oy9 s xH rfl C m);have D:=af (ip BW2 s m aiB);have H:=af (eZ.grown m (fun k hk=>by have:=(s.lt k hk).1;omega));have G:=af (DX avK s m Om);have asI:W6.heap.size<=IA.heap.size:=a8 yz m.size;have v0:=D.aD 0;have ly:=D.frozen 0;have YY:=D.lt;obtain⟨MN,XA,B11,K11,N⟩:=gp (i:=0) D (.slice aw5 (z.length+1) avH);have avi:g<bw:=Om;have ZN:=af (ub.only jY N aiB Oy9);have av4:=af (H.past N avi);have avL:=af (G.fresh N Zj);have asH:W6.heap.size<=MN.heap.size:=a8 asI N.size;simp only[Act.put,dN,dB,dO];refine M.ae _ _ Oy9 ?_;refine aL 11 ?_;intro K M;go_simp;refine M.ae _ _ Oy9 ?_;refine aL 12 ?_;intro K M;go_simp;refine M.ae _ _ Oy9 ?_;refine bY Ok ?_;go_wp2_with fail
   go_roundw;exact⟨j+1,_,_,by omega,by go_num,av6,B11,ZN,av4,avL,asH⟩;simp [RowKit.intOf];omega
  ·have yT:E.take j=E:=dA Om;rw[yT] at X;have d1:decide ((j:Int)<(E.length:Int))=false:=aW;have lW:=af (ani zv mH O Om);obtain⟨_,_,xsR,ee,_,_,V,HCl⟩:=lW.parts;injection ee with y5 _ Fz;subst y5 Fz;obtain⟨Av,cv,xv,rfl,_,_,s,xH⟩:=HOv.parts;have HTv:ah (TL wr (.slice Av z.length cv) z):=(AZ s xH).ls;obtain⟨v0,v1⟩:=BWr.two;have cK:(ls.length+1)*32<=140737488355328:=Om;have r:=af (F.trans O);have rp:w2.heap.size<=wr.heap.size:=r.size;go_wp2_with (at_builtin;refine gG rfl _ _ eG rfl w2.heap.size xT _ _ _ rfl V.ae #[.slice Av z.length cv,av wt] 1 1 rfl rfl rfl cK rp ?_)
   intro v' IA C m _;have ub:=af (iN (R:=eh) (x:=(z,wt)) fL (fun u hu=>by rw[bG.1 hu];decide) V HCl ⟨Av,cv,rfl,HTv⟩ C m);have H:=af (HSr.grown m (fun k hk=>by have:=(V.lt k hk).1;omega));have G:=af (DX r V m (aK _));go_wp2;go_roundw;exact⟨k - 1,ls++ [(z,wt)],by rw[Int.natCast_sub Om];rfl,by simp;omega,I.snoc X ah4.1 ah4.2,ub,H,G⟩;simp [RowKit.intOf];omega
 ·obtain rfl:k=0:=Om;have HLs:ah (ny w4 (.slice N0 ls.length c10) ls):=zv.ls;have HLw:ah (∀y∈ls,y.2.natAbs<=1000000):=fun y hy=>by have:=I y hy;omega
  have Sb:=af (amM N0 ls.length c10 ls w4 HLs Om HLw);go_wp2_with fail;refine Sb.mono ?_;rintro e5 w5 ⟨vS,rfl,hoS,iu⟩;have HSo:=af (hoS.weaken (b:=bs) Om);obtain⟨AS,cS,xsS,rfl,_,_,HRx,HCx⟩:=hoS.parts;have lB:=af (mH.ext iu);have P:ah (Only g w w5):=(ei (g:=g) HX).trans (Q.trans (F.trans (ei iu)));go_wp2_with fail
  exact bodyPost_ret (v:= .slice AS (Be ls).length cS) (by simp [results,results64,go_sem]) rfl ⟨ls,_,by omega,I,rfl,by rw[Gr.ae];exact HSo.ae,lB,P⟩
structure aiU(x:aQ)(cs:List Int)(l:List Rw):Prop where
 ok:tC x cs l
 len:l.length<=4
 wt:∀y∈l,y.2<=20
def asf{x:aQ}{l:List Rw}(h:EC x L 5 l)(g:l.length<=4):aiU x L (Be l):=by
 obtain⟨k,f,b,d⟩:=aei Od h l.length (aK _);have e:Be l=j5 l l.length:=(by unfold Be rY;rw[f9];refine Og.2 fun y a=> ?_;have:=(b y a).1;rw[bne_iff_ne];omega)
 rw[e];have c:∀y∈j5 l l.length,y.2<=20:=fun y a=>by have j:=(b y a).2;have i:(l.length:Int)*5<=4*5:=Int.mul_le_mul_of_nonneg_right Om Om;omega
 exact⟨⟨by omega,f,fun y a=>⟨(b y a).1,by have:=c y a;omega⟩,d⟩,by omega,c⟩
def Gu(x:aQ)(D:List (List Rw))(i:Nat):Prop:=D.length=i/\∀(k:Nat) (t:List Rw) (r:Rl),D[k]?=some t->x.aA[k]?=some r->aiU x r.2 t
def aqU(g:Nat)(v:Value)(x:aQ)(w:au)(h:cJ w g)(L:dK w v x)(ok:cF x):
 Calls prog 26 #[aJ g 0,v,av 4] w fun e M=>∃D u,Gu x D x.aA.length/\e= .returned u/\bH eG 1 lz w.heap.size M u D/\cJ M g/\Only g w M:=by
 have HV:=af L;have CR:=af (fun(ir:Nat) (W:au) (h:cJ W g) (L:dK W v x) (hi:ir<x.aA.length)=>anw g 4 ir v x W h L ok hi Od);obtain⟨A,c,B,d,Dd,e,rfl,ha,hr,hf⟩:=L;obtain⟨-,iY,kB⟩:=bE hr;have HS:=af h;have hg:=h.lt;have r6:=ok.r6;go_enter func26,ntmps26;go_upto_region 2 with fail
 refine aP fun W G BX=> ?_;have U:g<W.heap.size:=cE hg G.size;have H:=af (HS.ext G);have HVW:=af (HV.ext G);have Y:w.heap.size≠g:=Om;have Rz:=BX.lt;have O:=G.size;generalize X:w.heap.size=bs at*;obtain⟨s0,s1,s2,s3⟩:=BX.four;go_upto_region 3 with fail
 go_loopw [7,12] (fun v7 n wr=>∃(i:Nat) (a:List (List Rw)),i<=x.aA.length/\n=av i/\ah (Gu x a i)/\ah (bH eG 1 lz W.heap.size wr v7 a)/\ah (cJ wr g)/\ah (Only g W wr)) (fun _ n _=>x.aA.length - (RowKit.intOf n).toNat)
 exact⟨0,[],aT _,rfl,⟨rfl,fun k t r h=>(by cases h)⟩,f_,H,ii _ _⟩;obtain⟨i,a,hi,rfl,J,HO,bB,j⟩:=hrel;obtain⟨A7,c7,xs7,rfl,_,_, -, -⟩:=HO.parts;have Ce:a.length<=6:=by have:=J.1;omega
 by_cases z:i<x.aA.length
 ·have kg:=af (BX.only j Y);have vD:=af (HVW.past H j);have JK:=af (CR i wr bB vD z);obtain⟨s0,s1,s2,s3⟩:=kg.four;have n_:ah (x.aA[i]?=some (x.aA[i]'z)):=aV _;go_wp2_with fail
  refine JK.mono ?_;rintro e5 w5 ⟨l,u,hl,p,rfl,o,P,q⟩;have HT:=af (asf p hl);have Nl:=af (anh HO bB q U);have lB:=af P;have E:=af (j.trans q);obtain⟨Au,cu, -,rfl, -, -, -, -⟩:=o.parts;have HU:=af o.ls;generalize Be l=K at*;have ui:ah (Gu x (a++ [K]) (i+1)):=by
   refine⟨by rw[bC,J.1];rfl,fun k t r f C=> ?_⟩;rcases cA k a.length with y|y
   ·rw[pC y] at f;exact J.2 k t r f C
   ·rw[zR y] at f;have S:k - a.length=0:=by
     rcases i7 (k - a.length) with h0|h0
     ·exact h0
     ·rw[fH (by rw[iM];omega)] at f;cases f
    rw[S] at f;have Q:k=i:=by have:=J.1;omega
    subst Q;rw[n_.ae] at C;injection f with f;injection C with C;subst f C;exact HT
  obtain⟨_,_,xsD,ee,_,_,m,HCd⟩:=Nl.parts;injection ee with y5 _ Z;subst y5 Z;have N:W.heap.size<=w5.heap.size:=E.size;have V:(a.length+1)*24<=140737488355328:=Om;go_wp2_with (at_builtin;refine gG rfl _ _ LR rfl W.heap.size OW _ _ _ rfl m.ae #[.slice Au K.length cu] 1 1 rfl rfl rfl V N ?_)
  intro v' IA s b _;have ub:=af (iN (R:=lz) (x:=K) mU (fun u o=>by
   rcases aI.1 o with rfl|o
   ·decide
   ·rw[bG.1 o];decide) m HCd ⟨Au,cu,rfl,HU⟩ s b)
  have I:=af (lB.grown b (fun k y=>by have:=(m.lt k y).1;omega));have F:=af (DX E m b (aK _));go_wp2_with fail
  go_roundw;exact⟨i+1,a++ [K],by omega,by go_num,ui,ub,I,F⟩;simp [RowKit.intOf];omega
 ·have T:i=x.aA.length:=Om;have d1:decide ((i:Int)<(x.aA.length:Int))=false:=aW;have iA:ah (Gu x a x.aA.length):=by rw[<-T];exact J
  have HOw:ah (bH eG 1 lz bs wr (.slice A7 a.length c7) a):=HO.weaken O;have HYw:=af ((ei (g:=g) G).trans j.ae);go_wp2_with fail
  exact bodyPost_ret (v:= .slice A7 a.length c7) (by simp [results,results26,go_sem]) rfl ⟨a,_,iA,rfl,by rw[X];exact HOw.ae,bB,HYw⟩
def aqn:tG a y=(List.range a).map (tO y):=by unfold tG;refine qE fun b _=> ?_;unfold tO;cases y b<;>rfl
def afh{x:aQ}(k:cF x)(o:i.length=x.aq.length)(l:i.Nodup)(j:∀a,a∈i↔a<x.aq.length):∃d,Qk x (jE (jg x.aA) (iG i) i fun _=>none) d:=by
 have g:=aqA j o fun b e=>aeN (adp x.aA) i (iG i) (fun _=>none) (fun a=>H9.symm) l b e;refine⟨_,g,fun r c a m b e n=> ?_⟩;have q:=k.ri r c a m;have p:=k.ri r c b e;have t:((a.toNat:Nat):Int)=a:=Om;have s:((b.toNat:Nat):Int)=b:=Om;have f:jg x.aA a.toNat b.toNat:=(by unfold jg oJ;rw[qG];exact⟨r,c,by rw[t,s,cZ];exact⟨pD.2 m,pD.2 e⟩⟩)
 rcases aeM (adp x.aA) i (iG i) (fun _=>none) (fun a=>H9.symm) l a.toNat ((j _).2 Om) b.toNat ((j _).2 Om) f Om with h|h
 ·exact .inl (afu g Om h)
 ·exact .inr (afu g Om h)
def UA(n:Nat):upto n=ints (List.range n):=rfl
def adO(h:L.Perm (upto a)):∃m:List Nat,L=ints m/\m.length=a/\m.Nodup/\∀c,c∈m↔c<a:=by
 refine⟨cj L,(ab0 fun c g=> ?_).symm,?_,?_,?_⟩
 ·have f:=h.mem_iff.1 g;rw[UA] at f;unfold ints at f;obtain⟨b, -,rfl⟩:=dH.1 f;omega
 ·unfold cj;rw[cy,h.length_eq,TX]
 ·have d:(cj L).Perm (cj (upto a)):=h.map _;have e:cj (upto a)=List.range a:=(by rw[UA];unfold cj ints;rw[G9];exact(qE fun c _=>rfl).trans (List.map_id _))
  rw[e] at d;exact d.nodup_iff.2 sV
 ·have d:(cj L).Perm (cj (upto a)):=h.map _;have e:cj (upto a)=List.range a:=(by rw[UA];unfold cj ints;rw[G9];exact(qE fun c _=>rfl).trans (List.map_id _))
  rw[e] at d;intro c;rw[d.mem_iff,dP]
def atQ.k71(h:ai:=by exact m10):=h
def atP.k71(h:ai:=by exact m10):=h
def apg(g:Nat)(v:Value)(x:aQ)(w:au)(h:cJ w g)(P:dK w v x)(N:cF x):
 Calls prog 25 #[aJ g 0,v] w fun e a=>∃q p d,e= .returned (.agg #[aG q 0 x.aq.length x.aq.length])/\ar a q aU (je x.aq.length p)/\Qk x p d/\w.heap.size<=q/\cJ a g/\Only g w a:=by
 have HV:=af P;have HS:=af h;have X:=h.lt;have a12:=N.a12;have aN:=af N;obtain⟨A,c,B,d,D,e,rfl,Q,U,Y⟩:=P;obtain⟨-,ha1,ha2⟩:=bE Q;clear Q U Y h N;go_enter func25,ntmps25;go_upto_region 1 with fail
 refine fX fun W HX BX BR=> ?_;have Z:=BR.lt;have r:=af (HS.ext HX);have z:=af (HV.ext HX);have V:g<W.heap.size:=cE X HX.size;have t:ah (Only g W W.drew):=(ii g W).drew;have C:ah (cJ W.drew g):=r.ext (aC W).drew;obtain⟨I,y⟩:∃I:World->Prop,I=fun a=>Only g W a/\cJ a g:=⟨_,rfl⟩;have O:ah (∀a,I a->Only g W a/\cJ a g):=by rw[ah,y];exact fun _ h=>h
 have kE:ah (∀a,Only g W a->cJ a g->I a):=by rw[ah,y];exact fun _ h1 h2=>⟨h1,h2⟩
 have bL:ah (∀a,I a->ay a w.heap.size 0 (.slice A x.aq.length c)/\ay a w.heap.size 1 (.slice B x.aA.length d)/\ay a w.heap.size 2 (.slice D x.bk.length e)/\ay a w.heap.size 3 (av x.label)):=fun a h=>(BX.only (O a h).1 Om).four;have aH:ah (I W.drew):=kE _ (ii g W).drew (r.ext (aC W).drew);clear y;refine b9 (S:=I) (T:=fun _=>false) Ok ?_;generalize W.drew=M at*;refine ax 0 8 ?_;refine ax 1 9 ?_;refine ax 2 10 ?_;refine ax 3 11 ?_;refine ax 4 12 ?_;refine KO 5 10 Ok ?_ ?_
 ·skip
  refine BC ?_;intro K hK;go_simp;refine(aba g x.aq.length M C Om).mono ?_;rintro e5 F ⟨L,J,R, -,j,rfl,o,f,s⟩;obtain⟨m,rfl,n,l,k⟩:=adO j;have ud:=af (t.trans s);have lB:=af f;have u:=af o;have po:=af n;have iA:=af l;have mI:=af k;refine hK.ae _ _ (fun _=>kE _ ud lB) ?_;clear hK o f j n l k;refine KO 6 10 Ok ?_ ?_
  ·skip
   refine BC ?_;intro K hK;go_simp;have CP:=af (Vf _ x aN x.aq.length L J m F (z.past r ud) rfl (by rw[po.ae];exact u) po iA mI);rw[po.ae] at CP;have hso:=ud.size;refine CP.mono ?_;rintro e6 E ⟨q,rfl,hq,YP,iq⟩;obtain⟨dd,hdd⟩:=afh aN po iA mI;have HQ:=af hq;have lW:=af hdd;clear hq hdd;generalize(jE (jg x.aA) (iG m) m fun _=>none)=pp at*;have hqW:W.heap.size<=q:=Om;have jF:=af (ud.trans (ei iq));have qr:=af (lB.ext iq);refine hK.ae _ _ (fun _=>kE _ jF qr) ?_;clear hK;have aH:=af (kE _ jF qr);refine ax 7 7 ?_;refine ax 8 15 ?_;refine ax 9 16 ?_;refine aL 10 ?_;intro K hK;go_simp;refine hK.ae _ _ (fun _=>kE _ (jF.trans (ei ((aC _).alloc _))) (qr.ext ((aC _).alloc _))) ?_;refine aP fun w7 b HB=> ?_;have za:=af (jF.trans (ei b));have qq:=af (qr.ext b);have YS:W.heap.size<=(E).heap.size:=jF.size;have G:=HB.lt;generalize H:(E).heap.size=ob at*;clear hK;have aH:=af (kE _ za qq);have HQ:=af (HQ.ext b);exact m10
  ·skip
   refine BC ?_;intro K hK;go_simp;refine hK.ae _ _ (fun _=>kE _ (ud.trans (ei ((aC _).alloc _))) (lB.ext ((aC _).alloc _))) ?_;refine aP fun E b HB=> ?_;have jF:=af (ud.trans (ei b));have qr:=af (lB.ext b);have YS:W.heap.size<=(F).heap.size:=ud.size;have G:=HB.lt;generalize H:(F).heap.size=ob at*;clear hK;have aH:=af (kE _ jF qr);refine aL 6 ?_;intro K hK;go_simp;have CP:=af (Vf _ x aN x.aq.length L J m E (z.past r jF) rfl (by rw[po.ae];exact iP u b) po iA mI);open atQ in exact m71
 ·skip
  refine BC ?_;intro K hK;go_simp;refine hK.ae _ _ (fun _=>kE _ (t.trans (ei ((aC _).alloc _))) (C.ext ((aC _).alloc _))) ?_;refine aP fun F b HB=> ?_;have ud:=af (t.trans (ei b));have lB:=af (C.ext b);have YS:W.heap.size<=(M).heap.size:=t.size;have G:=HB.lt;generalize H:(M).heap.size=ob at*;clear hK;have aH:=af (kE _ ud lB);refine aL 5 ?_;intro K hK;go_simp;refine(aba g x.aq.length F lB Om).mono ?_;rintro e5 E ⟨L,J,R, -,j,rfl,o,f,s⟩;obtain⟨m,rfl,n,l,k⟩:=adO j;have jF:=af (ud.trans s);have qr:=af f;have u:=af o;have po:=af n;have iA:=af l;have mI:=af k;refine hK.ae _ _ (fun _=>kE _ jF qr) ?_;clear hK o f j n l k;have HB:=af (HB.only s Om);refine aL 6 ?_;intro K hK;go_simp;have CP:=af (Vf _ x aN x.aq.length L J m E (z.past r jF) rfl (by rw[po.ae];exact u) po iA mI);open atP in exact m71
theorem akq{P:Program}{y:Go.Func}{p q r:Tmp}{w x:TypeId}(h:y.results= #[.cell p w,.cell q x,.tmp r])(b:Array Value)(a:au)(g k:Nat)(t s:TypeId)(f c:Array Value)(u e:Nat×Nat)(d o:TypeDesc)
 (B:b.getD p undef=aJ g 0) (D:a.heap[g]?=some (.cells f t u)) (z:P.underlying w=some d) (E:(match d with| .struct _| .array _ _=>true|_=>false)=true) (C:(P.info? w).map (·.size)=some f.size)
 (j:b.getD q undef=aJ k 0) (m:a.heap[k]?=some (.cells c s e)) (i:P.underlying x=some o) (n:(match o with| .struct _| .array _ _=>true|_=>false)=true) (l:(P.info? x).map (·.size)=some c.size) {v:Value} (A:b.getD r undef=v):
 (results y b).run P a= .ok (.tuple #[.agg f,.agg c,v]) a:=by
 have H:b[p]?.getD undef=aJ g 0:=by simpa using B
 have G:b[q]?.getD undef=aJ k 0:=by simpa using j
 have F:b[r]?.getD undef=v:=by simpa using A
 simp [results,h,H,G,F,asAddr,run_loadVar_row a g t w f u d D z E C,run_loadVar_row a k s x c e o m i n l]
def amn(g:Nat)(w:au)(h:cJ w g):
 Calls prog 7 #[aJ g 0] w fun e a=>∃x v o D u,cF x/\x.aq.length<=5/\x.aA.length<=3/\e= .returned (.tuple #[v,o,u])/\dK a v x/\qY a o x/\bH eG 1 lz w.heap.size a u D/\Gu x D x.aA.length/\cJ a g/\Only g w a:=by
 have HS:=af h;have hg:=h.lt;clear h;go_enter func7,ntmps7;go_upto_region 1 with fail
 refine fX fun W HX B1 B2=> ?_;have CS:=af (aj6 g 5 W (HS.ext HX) Od Od);have hb2:=B2.lt;go_wp2_with fail
 refine CS.mono ?_;rintro e w2 ⟨x,v,y,h5, -,h3,rfl,hv,M,n⟩;have G:=af y;have HV:=af hv;obtain⟨A,c,B,d,E,R,rfl, -, -, -⟩:=hv;go_upto_region 2 with fail
 refine aP fun j r B5=> ?_;have n9:=af (M.ext r);have MX:=af (HV.ext r);have gL:ah (Only g w j):=((ei HX.ae:Only g w W).trans n).trans (ei r);have B13:ah (ar j w.heap.size kN _):=(B1.only n Om).ext r.ae;have B23:ah (ar j (w.heap.size+1) uW _):=(B2.only n Om).ext r.ae;have O:w2.heap.size<j.heap.size:=B5.lt;have hw2:W.heap.size<=w2.heap.size:=n.size;have Xl:=y.a12;generalize w2.heap.size=s at*;clear M n B1 B2 y;obtain⟨S,z⟩:∃S:World->Prop,S=fun a=>ay a s 0 (.slice A x.aq.length c)/\ay a s 1 (.slice B x.aA.length d)/\ay a s 2 (.slice E x.bk.length R)/\ay a s 3 (av x.label):=⟨_,rfl⟩;have bL:ah (∀a,S a->ay a s 0 (.slice A x.aq.length c)/\ay a s 1 (.slice B x.aA.length d)/\ay a s 2 (.slice E x.bk.length R)/\ay a s 3 (av x.label)):=by rw[z];exact fun _ h=>h
 have m:ah (∀a,ar a s kN [.slice A x.aq.length c,.slice B x.aA.length d,.slice E x.bk.length R,av x.label]->S a):=by rw[z];exact fun a h=>h.four
 clear z;have aH:ah (S j.drew):=m _ (B5.ext (aC j).drew);refine b9 (S:=S) (T:=fun _=>false) Ok ?_;have Y:=af (n9.ext (aC j).drew);have V:=af (MX.ext (aC j).drew);have zv:ah (Only g w j.drew):=gL.trans (ei (aC j).drew);have NZ:=af (B13.ext (aC j).drew);have B24:=af (B23.ext (aC j).drew);have B54:=af (B5.ext (aC j).drew);have ayR:s<j.drew.heap.size:=O;clear B5 O;generalize j.drew=wd at*;refine ax 0 8 ?_;refine ax 1 9 ?_;refine ax 2 10 ?_;refine ax 4 12 ?_;refine ax 5 13 ?_;refine aL 3 ?_;intro K k;go_simp;refine(apg g _ x wd Y V G).mono ?_;rintro e w5 ⟨q,p,dd,rfl,hq,N,YO,L,l⟩;have Z':=af hq;have lW:=af N;have X:=af L;have U:=af (V.past Y l);have Nl:=af (zv.trans l);have B15:=af (NZ.only l Om);have B25:=af (B24.only l Om);have B55:=af (B54.only l Om);have hq5:=hq.lt;refine k.ae _ _ (fun _=>m _ B55) ?_;clear k hq N L l;refine aL 6 ?_;intro K k;go_simp;refine(aqU g _ x w5 X U G).mono ?_;rintro e w6 ⟨D,u,hD,rfl,t,J,f⟩;have HD:=af hD;have HU:=af t;have qr:=af J;have zi:=af (U.past X f);have qu:=af (Nl.trans f);have Z9:=af (Z'.only f Om);have I:=af (B15.only f Om);have B26:=af (B25.only f Om);have B56:=af (B55.only f Om);refine k.ae _ _ (fun _=>m _ B56) ?_;clear k hD t J f;obtain⟨W7,Q,B17,K7,F⟩:=EH I (.slice A x.aq.length c) (.slice B x.aA.length d) (.slice E x.bk.length R) (av x.label);obtain⟨j0,j1,j2,j3⟩:=I.four;obtain⟨f0,f1,f2,f3⟩:=I.fO;have H:=af (B26.only F Om);have B57:=af (B56.only F Om);have Nc:=af (Z9.only F Om);have qq:=af (qr.past F Om);have zh:=af (zi.kept K7 Od Od Od Od);have F8:=af (qu.fresh F (aK _));have Jo:=af (HU.only mU F Om (fun u t=>K7 _ (by simp only[aI,bF,or_false] at t;rcases t with rfl|rfl<;>decide)))
 have lA:=af Q;clear Q F K7;refine aL 7 ?_;intro K k;go_simp;rw[lA.ae];refine k.ae _ _ (fun _=>m _ B57) ?_;clear k j0 j1 j2 j3 f0 f1 f2 f3;obtain⟨W8,P,JQ,K8,C⟩:=gp (i:=0) H (aG q 0 x.aq.length x.aq.length);have j0:=H.aD 0;have f0:=H.frozen 0;have B18:=af (B17.only C Om);have Z:=af (B57.only C Om);have Z8:=af (Nc.only C Om);have eZ:=af (qq.past C Om);have FQ:=af (zh.kept K8 Od Od Od Od);have qs:=af (F8.fresh C Om);have vE:=af (Jo.only mU C Om (fun u t=>K8 _ (by simp only[aI,bF,or_false] at t;rcases t with rfl|rfl<;>decide)))
 have MW:=af P;clear P C K8 B17;refine aL 8 ?_;intro K k;go_simp;rw[MW.ae];refine k.ae _ _ (fun _=>m _ Z) ?_;clear k j0 f0;refine aL 9 ?_;intro K k;go_simp;refine k.ae _ _ (fun _=>m _ Z) ?_;refine bY Ok ?_;clear k;go_wp2_with fail;have ZZ:=af (vE.weaken (b':=w5.heap.size) (b:=w.heap.size) Om);exact bodyPost_ret (akq rfl _ _ w.heap.size (w.heap.size+1) kN uW #[.slice A x.aq.length c,.slice B x.aA.length d,.slice E x.bk.length R,av x.label] #[aG q 0 x.aq.length x.aq.length] (0,0) (0,0) _ _ rfl B18.ae underlying30 rfl Ok rfl JQ.ae underlying32 rfl Ok (v:=u) rfl) rfl
  ⟨x,_,_,D,_,G,h5,h3,rfl,FQ,⟨_,_,p,dd,rfl,by rw[<-aqn];exact ac5 Z8 Om,lW⟩,ZZ,HD,eZ,qs⟩
def alJ{x:aQ}{D:List (List Rw)}(b:a<x.aA.length)(c:a<D.length):(aX x D).take (a+1)=(aX x D).take a++ [iR x.aA x.aA[a].2 D[a]]:=by have h:=Ks b c;obtain⟨e,d⟩:=vO.1 h;rw[g9 e,d]
def an5:ko prog 33 eG 1 24:= .mk' (z:= .slice none 0 0) Ok Ok rfl Od Od
def Jk(n:Nat)(u:Value)(w:au):Prop:=∃A l c,u= .slice A l.length c/\IL w (.slice A l.length c) (ints l)/\l.Nodup/\∀a,a∈l↔a<n
def Jj(a:Nat)(u:Value)(w:au):Prop:=∃g,u= .map (some g)/\d7 w aU g 0 (fun _=>none)/\a<=g
def Jk.ext{n:Nat}{u:Value}{w':au}(h:Jk n u m)(k:Ext m w'):Jk n u w':=by obtain⟨A,l,c,e,b,a⟩:=h;exact⟨A,l,c,e,b.ext k,a⟩
def Jj.ext{n:Nat}{u:Value}{w':au}(h:Jj n u m)(k:Ext m w'):Jj n u w':=by obtain⟨g,e,a,b⟩:=h;exact⟨g,e,a.same (k.block _ a.lt),b⟩
def atO.IG(h:ai:=by refine CP.mono ?_;rintro e5 w5 ⟨u5,l5,rfl,V,hn5,Re,U⟩;obtain⟨A5,c5,rfl, -, -, -⟩:=V.parts;rw[show(ints l5).length=l5.length from by unfold ints;rw[cy]] at V⊢;exact kY _ _ U ⟨A5,l5,c5,rfl,V,hn5,Re⟩):=h
def atN.IG(h:ai:=by exact kY _ _ ((aC g).alloc _) ⟨_,rfl,KB g aU,hsz⟩):=h
def aqP(v:Value)(x:aQ)(D:List (List Rw))(Ad:aS)(cd:Nat)(w:au)(h:dK w v x)(ok:cF x)(hD:jD x D)(hd:fS w (.slice Ad D.length cd) D):
 Calls prog 36 #[v,.slice Ad D.length cd] w fun e a=>∃m H,e= .returned (aJ m 0)/\gJ x (aX x D) m H a/\dF x H a/\w.heap.size<=m/\w.heap.size<=H/\Ext w a:=by
 have CL:=af (fun W (hX:Ext w W)=>alr v x W (h.ext hX) ok);have CV:=af (fun W (i:Nat) (A0:aS) (n0 c0:Nat) (l:List Rw) (r:Rl) (hX:Ext w W) hl hr ht nU=>am4 v x i A0 n0 c0 l r W (h.ext hX) ok hl hr ht nU);have HD:=af hd;have HDO:=af hD;have CK:=af h;have lR:= @run_makeMap prog;obtain⟨A,c,B,d,E,e,rfl,hat,lx,Fr⟩:=h;have HLEN:=af hD.1;have Q5:=ok.r6;have Zh:=(bE lx).2;have hcD:=(bE hd).2;go_enter func36,ntmps36;go_upto_region 1 with fail
 refine aP fun W HX BX=> ?_;have lU:=BX.lt;obtain⟨I,Ja⟩:∃I:World->Prop,I=fun a=>Ext W a:=⟨_,rfl⟩;have ul:ah (∀a,I a->Ext W a):=az0;have O:ah (∀a,Ext W a->I a):=az0;have bL:ah (∀a,I a->ay a w.heap.size 0 (.slice A x.aq.length c)/\ay a w.heap.size 1 (.slice B x.aA.length d)/\ay a w.heap.size 2 (.slice E x.bk.length e)/\ay a w.heap.size 3 (av x.label)):=fun a h=>(BX.ext (ul a h)).four;have aH:ah (I W.drew):=O _ (aC W).drew;refine b9 (S:=I) (T:=fun _=>false) Ok ?_;generalize W.drew=wd at*;refine ax 0 7 ?_;refine ax 1 8 ?_;refine cG.RR [⟨2,9,Jk x.aq.length⟩,⟨3,10,Jj W.heap.size⟩] I (fun _ _=>True) [2,3] [9,10] [[],[]] #[true,true,true,true,false,false,false] 2 3 rfl rfl rfl Od Ok Ok (fun _ h=>h) aH ?_ ?_
 ·intro k b hb us g hI ry _ o ho K f;have xF:=af (ul g hI);have hsz:W.heap.size<=g.heap.size:=xF.size;have HK:=af (fun v a (hc:Ext g a) (h0:b.R v a)=>f v a (O a (xF.trans hc)) h0 fun j c hj _ u s=>by
   refine⟨?_,trivial,trivial⟩;rcases j with _|_|j;all_goals simp only[dR,eB,aaD,dG,reduceCtorEq] at hj
   all_goals subst hj
   ·exact Jk.ext s hc
   ·exact Jj.ext s hc)
  rcases k with _|_|k
  ·have CP:=af (CL g (HX.trans xF));simp only[dR,dG] at hb;subst hb;open atO in exact ID
  ·skip
   simp only[dR,eB,dG] at hb;subst hb;open atN in exact ID
  ·simp at hb
 ·intro us g hI hR _;obtain⟨Al,ll,cl,e1,gV,Fi,au9⟩:Jk x.aq.length (us 0) g:=hR 0 _ rfl;obtain⟨H,e2,Rb,yP⟩:Jj W.heap.size (us 1) g:=hR 1 _ rfl;have d_:=af gV;have zx:=af Rb;have Ga:=af Fi;have HME:=af au9;simp only[fA,e1,e2,Act.put,dN,dB,dO];have aH:ah (I g):=hI;have HI:=af (ul g hI);have hsz:W.heap.size<=g.heap.size:=HI.size;refine ax 4 11 ?_;refine aL 5 ?_;intro K f;go_simp;refine f.ae _ _ (fun _=>O _ (HI.trans ((aC g).alloc _))) ?_;refine aP fun C F BJ=> ?_;have xG:=af (HX.trans (HI.trans F));have qz:=af (BX.ext (HI.trans F));have bB:ah (I C):=O _ (HI.trans F);have awA:=af (iP d_ F);have P:ah (d7 C aU H 0 fun _=>none):=zx.same (F.block _ zx.lt);have hpl:=zx.lt;have X:=BJ.lt;have aH:=bB;generalize hj3:g.heap.size=m at*;refine aL 6 ?_;intro K f;go_simp;refine f.ae _ _ (fun _=>aH.ae) ?_;refine bY Ok ?_;have hwW:w.heap.size<=W.heap.size:=HX.size;obtain⟨s0,s1,s2,s3⟩:=qz.four;go_upto_region 3 with fail
  go_loopw [6,16] (fun _ Q wr=>∃(i:Nat) (At:aS) (Z:Nat),i<=x.aA.length/\Q=av i/\ah (ar wr m EA [.slice A x.aq.length c,.slice B x.aA.length d,.slice E x.bk.length e,av x.label,.slice At i Z,.slice Al ll.length cl,.map (some H)])/\ah (bH eG 1 lz C.heap.size wr (.slice At i Z) ((aX x D).take i))/\ah (Only m C wr)) (fun _ Q _=>x.aA.length - (RowKit.intOf Q).toNat)
  exact⟨0,none,0,aT _,rfl,BJ,by rw[kH];exact f_,ii _ _⟩;obtain⟨i,At,Z,hi,rfl,HJ,HO,HN⟩:=hrel;have Mz:Ext w wr:=xG.only HN Om;have M:=af Mz;have HNs:=HN.size;obtain⟨A',c',xs,e', -,Xw,HOr,xD⟩:=HO.parts;rw[cP,mP,jJ hi] at e' HOr;injection e' with e1 _ e2;subst e1 e2;by_cases J:i<x.aA.length
  ·have Y:i<D.length:=by rw[HLEN.ae];exact J
   obtain⟨gd,od,Bi,di,rfl,hgd,awn,vn⟩:=fS.get HD Y;have HLi:=af (yg awn M);have hq:=(M.cell (p:=aB gd (od+i)) hgd).trans vn;have HT:=af (HDO.2 i _ _ (aV Y) (aV J));have fp:=af (alJ J Y);have fZ:ah (x.aA[i]?=some x.aA[i]):=aV J;generalize D[i]=l at*;generalize x.aA[i]=r at*;have ax9:=HT.len;have Cy:ah (∀y∈l,y.1.length=r.2.length):=fun y hy=>(HT.val y hy).1;have hJl:=HJ.lt;obtain⟨S,dw⟩:∃S:World->Prop,S=fun a=>ay a m 4 (.slice At i Z)/\ay a gd (od+i) (.slice Bi l.length di)/\F4 a w.heap.size (.slice A x.aq.length c) (.slice B x.aA.length d) (.slice E x.bk.length e) (av x.label):=⟨_,rfl⟩;have bL:ah (∀a,S a->ay a m 4 (.slice At i Z)/\ay a gd (od+i) (.slice Bi l.length di)/\ay a w.heap.size 0 (.slice A x.aq.length c)/\ay a w.heap.size 1 (.slice B x.aA.length d)/\ay a w.heap.size 2 (.slice E x.bk.length e)/\ay a w.heap.size 3 (av x.label)):=ay4;have nA:ah (∀a,Below C.heap.size wr a->S a):=(by rw[ah,dw];exact fun a hx=>⟨(HJ.below hx X).aD 4,(hx.cell (p:=aB gd (od+i)) (show gd<C.heap.size by omega)).trans hq,((qz.only HN Om).below hx (show w.heap.size<C.heap.size by omega)).four⟩)
   have bU:ah (∀a,Ext wr a->S a):=fun a hx=>nA a (Below.mono hx HNs);go_upto_region 5 with fail
   have N:=af (aC wr).drew;have aH:=af (bU _ N);refine b9 (S:=S) (T:=fun j=>decide (16<=j)) Ok ?_;generalize wr.drew=wd at*;refine ax 0 19 ?_;refine ax 1 20 ?_;refine ax 2 21 ?_;refine ax 3 22 ?_;refine ax 4 23 ?_;refine ax 5 24 ?_;refine ax 6 25 ?_;refine ax 7 26 ?_;refine ax 8 27 ?_;refine ax 9 28 ?_;refine ax 10 29 ?_;refine aL 11 ?_;intro K f;go_simp;refine(CV wd i Bi l.length di l r (M.trans N) (yg HLi N) fZ Cy Om).mono ?_;rintro e5 w5 ⟨u,rfl,s,U⟩;obtain⟨Au,cu, -,rfl, -, -, -, -⟩:=s.parts;have ue:=af s.ls;have en:=af (N.trans U);have lB:=af (bU _ en);refine f.ae _ _ (fun _=>lB.ae) ?_;generalize iR x.aA r.2 l=lv at*;refine aL 12 ?_;intro K f;go_simp;refine f.ae _ _ (fun _=>bU _ (en.alloc _)) ?_;refine aP fun WZ cD BZ=> ?_;have q:=af (en.trans cD);have M2:=af (yg ue cD);have rp:=q.size;have HJZ:=af (HJ.ext q);have G:=af (jM HOr q);have HCZ:=af (lg (fun c x hc=>mU _ _ _ _ (fun _ _=>rL q) hc) xD);have HNZ:ah (Only m C WZ):=HN.trans (.ij q.ae);have cK:(i+1)*24<=140737488355328:=Om;refine aL 13 ?_;intro K f;refine mr rfl ?_;refine qO _ _ 33 rfl C.heap.size an5 _ _ _ rfl G.ae _ [.slice Au lv.length cu] BZ.ae 1 1 rfl rfl rfl cK Om ?_;intro v' w7 kR L _;obtain⟨A7,c7,rfl, -, -, -⟩:=dZ kR;have n:=ip HJZ G L X;have qq:=af (nA w7 (vX (Below.mono q HNs) L (a8 HNs rp) fun k hk=>(G.lt k hk).1));obtain⟨w8,tR,B8,K8,N8⟩:=gp (i:=4) n (.slice A7 (i+1) c7);have z:((aX x D).take i).length=i:=by rw[cP,mP,jJ hi]
   have hO7:bH eG 1 lz C.heap.size w7 (.slice A7 (i+1) c7) ((aX x D).take i++ [lv]):=iN (R:=lz) (x:=lv) mU (fun u s=>by simp only[aI,bF,or_false] at s;rcases s with rfl|rfl<;>decide) (by rw[z];exact G) HCZ ⟨Au,cu,rfl,M2⟩ (by rw[z];exact kR) L;rw[<-fp.ae] at hO7;have qs:=af (hO7.only mU N8 X fun u s=>by
    simp only[aI,bF,or_false] at s;rcases s with rfl|rfl
    ·exact N8.kept n Od
    ·exact N8.kept n Od)
   have Si:ah (Only m C w8):=(HNZ.grown G L).trans N8.ae;have p7:=n.aD 4;have f7:=n.frozen 4;have l7:=n.lt;simp only[Act.put,dN,dB,dO];refine f.ae _ _ (fun _=>qq.ae) ?_;refine aL 14 ?_;intro K f;go_simp;refine f.ae _ _ (fun _=>qq.ae) ?_;refine aL 15 ?_;intro K f;go_simp;refine f.ae _ _ (fun _=>qq.ae) ?_;refine aL 16 ?_;intro K f;go_simp;refine f.ae _ _ Oy9 ?_;refine bY Ok ?_;go_wp2_with fail
   go_roundw;exact⟨i+1,A7,c7,by omega,by go_num,B8,qs,Si⟩;simp [RowKit.intOf];omega
  ·have Cj:i=x.aA.length:=Om;have d1:decide ((i:Int)<(x.aA.length:Int))=false:=aW;have hTl:(aX x D).take i=aX x D:=dA aAf;have Cf:=HO.ls;rw[hTl] at Cf;have hLT:(aX x D).length=i:=by rw[mP];exact Cj.symm
   have Gb:ah (fS wr (.slice At (aX x D).length Z) (aX x D)):=by rw[hLT];exact Cf
   have JA:ah (gJ x (aX x D) m H wr):=⟨A,c,B,d,E,e,At,Z,Al,cl,ll,by rw[hLT];exact HJ.ae,CK.ext Mz,Gb,fN cI awA fun t ht=>(by simp only[aI,bF,or_false] at ht;subst ht;exact HN.kept BJ Od),Ga,HME⟩;have Ss:ah (dF x H wr):=⟨0,fun _=>none,P.same (HN.block H P.lt Oc),fun k u h=>by cases h⟩;go_wp2_with fail;exact bodyPost_ret (v:=aJ m 0) (by simp [results,results36,go_sem]) rfl ⟨m,rfl,H,JA,Ss,by omega,by omega,M⟩
def qY.kept{w w':au}{u:Value}{x:aQ}(h:qY w u x)(k:Kept aU w w'):qY w' u x:=by obtain⟨A,c,p,d,e,f,b⟩:=h;exact⟨A,c,p,d,e,fN cI f fun t a=>by rw[bG.1 a];exact k,b⟩
structure jP(wB w:au)(g n r:Nat)(xs:List Value)(g1 g2 g3 c1 c2 c3:Nat)(v1 v2 v3:Value)(l1 l2 l3:List Rw):Prop where
 src:cJ w g
 o1:w.ownsRow 0 eG 1 (.slice (some ⟨g1,0,none⟩) n c1) n (xs.set r v1)
 o2:w.ownsRow 0 eG 1 (.slice (some ⟨g2,0,none⟩) n c2) n (xs.set r v2)
 o3:w.ownsRow 0 eG 1 (.slice (some ⟨g3,0,none⟩) n c3) n (xs.set r v3)
 r1:bH dJ 2 eh wB.heap.size w v1 l1
 r2:bH dJ 2 eh wB.heap.size w v2 l2
 r3:bH dJ 2 eh wB.heap.size w v3 l3
 b1:g1<wB.heap.size
 b2:g2<wB.heap.size
 b3:g3<wB.heap.size
 s1:g<g1
 s2:g<g2
 s3:g<g3
 d12:g1≠g2
 d13:g1≠g3
 d23:g2≠g3
 a12:∀k,v1.ownBlock=some k->v2.ownBlock≠some k
 Jd:∀k,v1.ownBlock=some k->v3.ownBlock≠some k
 a23:∀k,v2.ownBlock=some k->v3.ownBlock≠some k
 bP:a7 [g,g1,g2,g3] wB w
section
variable{wB w w':au}{g n r:Nat}{xs:List Value}{g1 g2 g3 c1 c2 c3:Nat}{v1 v2 v3:Value}{l1 l2 l3:List Rw}
theorem jP.Wh(h:jP wB w g n r xs g1 g2 g3 c1 c2 c3 v1 v2 v3 l1 l2 l3):jP wB w g n r xs g2 g1 g3 c2 c1 c3 v2 v1 v3 l2 l1 l3:=
 ⟨h.src,h.o2,h.o1,h.o3,h.r2,h.r1,h.r3,h.b2,h.b1,h.b3,h.s2,h.s1,h.s3,h.d12.symm,h.d23,h.d13,fun k e f=>h.a12 k f e,h.a23,h.Jd,h.bP.mono fun i a _=>by simp only[aI,bF,or_false] at a⊢;rcases a with h|h|h|h<;>simp [h]⟩
theorem jP.PW(h:jP wB w g n r xs g1 g2 g3 c1 c2 c3 v1 v2 v3 l1 l2 l3):jP wB w g n r xs g3 g2 g1 c3 c2 c1 v3 v2 v1 l3 l2 l1:=
 ⟨h.src,h.o3,h.o2,h.o1,h.r3,h.r2,h.r1,h.b3,h.b2,h.b1,h.s3,h.s2,h.s1,h.d23.symm,h.d13.symm,h.d12.symm,fun k e f=>h.a23 k f e,fun k e f=>h.Jd k f e,fun k e f=>h.a12 k f e,h.bP.mono fun i a _=>by simp only[aI,bF,or_false] at a⊢;rcases a with h|h|h|h<;>simp [h]⟩
theorem jP.ext(h:jP wB w g n r xs g1 g2 g3 c1 c2 c3 v1 v2 v3 l1 l2 l3)(k:Ext w w'):jP wB w' g n r xs g1 g2 g3 c1 c2 c3 v1 v2 v3 l1 l2 l3:=
 ⟨h.src.ext k,jM h.o1 k,jM h.o2 k,jM h.o3 k,h.r1.ext fL k,h.r2.ext fL k,h.r3.ext fL k,h.b1,h.b2,h.b3,h.s1,h.s2,h.s3,h.d12,h.d13,h.d23,h.a12,h.Jd,h.a23,h.bP.ext k⟩
theorem jP.call(h:jP wB w g n r xs g1 g2 g3 c1 c2 c3 v1 v2 v3 l1 l2 l3)(k:Only g w w')(o:cJ w' g):jP wB w' g n r xs g1 g2 g3 c1 c2 c3 v1 v2 v3 l1 l2 l3:=by
 have s:=h.b1;have j:=h.s1;have i:=h.s2;have f:=h.s3;have l:∀q,some g=some q->∀b,g<b->(Value.slice (some ⟨b,0,none⟩) n 0).ownBlock≠some q:=fun q a b p e=>by injection a with a;have t:b=q:=azi;omega
 have m:∀u,pQ≠u->Kept u w w':=fun u d=>uM h.src k d;have c:∀u∈ [bI],Kept u w w':=fun u d=>m u (by rw[bG.1 d];decide);exact⟨o,jw h.o1 k (fun q a=>l q a _ j),jw h.o2 k (fun q a=>l q a _ i),jw h.o3 k (fun q a=>l q a _ f),h.r1.only fL k Om c,h.r2.only fL k Om c,h.r3.only fL k Om c,h.b1,h.b2,h.b3,h.s1,h.s2,h.s3,h.d12,h.d13,h.d23,h.a12,h.Jd,h.a23,h.bP.only k (.inl Ou)⟩
theorem jP.push(h:jP wB w g n r xs g1 g2 g3 c1 c2 c3 v1 v2 v3 l1 l2 l3){y:Rw}(b:w.ownsRow wB.heap.size dJ 2 v1 l1.length t)(J:Ch (eh w) t l1)(G:eh w u y)
 (H:w'.ownsRow wB.heap.size dJ 2 p (l1.length+1) (t++u)) (o:w.grownBy w' v1.ownBlock) (j:p.ownBlock=v1.ownBlock\/p.ownBlock=some w.heap.size):
 jP wB (w'.setCell ⟨g1,r,none⟩ p) g n r xs g1 g2 g3 c1 c2 c3 p v2 v3 (l1++ [y]) l2 l3:=by
 have L:=h.bP.size;have low:∀q,v1.ownBlock=some q->wB.heap.size<=q:=fun q d=>(b.lt q d).1;have F:∀a,dJ≠a->Kept a w w':=fun a m=>jW b o m;have f:∀s,s<wB.heap.size->∀c q,v1.ownBlock=some q->(Value.slice (some ⟨s,0,none⟩) n c).ownBlock≠some q:=fun s I c q d e=>by have:=low q d;have K:s=q:=azi;omega
 have o1:=jw h.o1 o (f g1 h.b1 c1);have o2:=jw h.o2 o (f g2 h.b2 c2);have o3:=jw h.o3 o (f g3 h.b3 c3);have E:bH dJ 2 eh wB.heap.size w' p (l1++ [y]):=iN fL (fun a m=>by rw[bG.1 m];decide) b J G H o;have D:∀a∈ [bI],Kept a w w':=fun a m=>F a (by rw[bG.1 m];decide);have r2:=h.r2.grown fL o (fun q d=>h.a12 q d) D;have r3:=h.r3.grown fL o (fun q d=>h.Jd q d) D;have src:cJ w' g:=h.src.grown o (fun q d=>by have:=low q d;have:=h.s1;have:=h.b1;omega);have bP:=h.bP.grown b o (aK _);have x:∀{a:Value} {l:List Rw},bH dJ 2 eh wB.heap.size w a l->∀k,a.ownBlock=some k->k<w.heap.size:=fun m k i=>(m.blk i).2.1;obtain⟨v,B⟩:=o1.stored r p;rw[List.set_set] at v;have A:Only g1 w' (w'.setCell ⟨g1,r,none⟩ p):=B;have C:∀a∈ [bI],Kept a w' (w'.setCell ⟨g1,r,none⟩ p):=fun a m=>jW o1 B (by rw[bG.1 m];decide);have z:∀s,g1≠s->∀c q,some g1=some q->(Value.slice (some ⟨s,0,none⟩) n c).ownBlock≠some q:=fun s I c q d e=>by injection d with d;have K:s=q:=azi;omega
 refine⟨src.past A h.s1,v,jw o2 B (z g2 h.d12 c2),jw o3 B (z g3 h.d13 c3),E.only fL A h.b1 C,r2.only fL A h.b1 C,r3.only fL A h.b1 C,h.b1,h.b2,h.b3,h.s1,h.s2,h.s3,h.d12,h.d13,h.d23,fun k i=> ?_,fun k i=> ?_,h.a23,bP.only A (.inl Ou)⟩
 ·rcases j with j|j
  ·exact h.a12 k (j▸i)
  ·intro e;have:=x h.r2 k e;rw[j] at i;injection i with i;omega
 ·rcases j with j|j
  ·exact h.Jd k (j▸i)
  ·intro e;have:=x h.r3 k e;rw[j] at i;injection i with i;omega
theorem Kr{n:Nat}(h:w.ownsRow a x 1 (.slice (some ⟨g,0,none⟩) n b) n t)(e:t[c]?=some p):w.cell? ⟨g,c,none⟩=some p:=by obtain⟨q,o,m,s,d,f,j⟩:=wm h c p e;injection d with d;injection d with l k;subst l k;simp only[World.cell?,f];rw[<-j,jc];rfl
theorem jP.cell1(h:jP wB w g n r xs g1 g2 g3 c1 c2 c3 v1 v2 v3 l1 l2 l3)(a:r<xs.length):w.cell? ⟨g1,r,none⟩=some v1:=Kr h.o1 (JX a)
theorem jP.mid(h:jP wB w g n r xs g1 g2 g3 c1 c2 c3 v1 v2 v3 l1 l2 l3)(f:r<xs.length)(a:w.ownsRow wB.heap.size dJ 2 v1 l1.length t)(j:w.grownBy w' v1.ownBlock)(b:Value):w'.cell? ⟨g1,r,none⟩=some v1/\w'.frozen? ⟨g1,r,none⟩=false/\(∀u,eG≠u->Kept u w' (w'.setCell ⟨g1,r,none⟩ b))/\Only g1 w' (w'.setCell ⟨g1,r,none⟩ b):=by
 have k:=h.b1;have o1:=jw h.o1 j (fun q i e=>by have:=(a.lt q i).1;have l:g1=q:=azi;omega)
 obtain⟨_,c⟩:=o1.stored r b;exact⟨Kr o1 (JX f),o1.frozenAt r,fun u d=>jW o1 c d,c⟩
theorem aeI{n:Nat}(h:w.ownsRow a x c (.slice (some ⟨g,0,none⟩) n b) n t)(l:a7 i w w')(m:g∉i):w'.ownsRow a x c (.slice (some ⟨g,0,none⟩) n b) n t:=by
 obtain⟨s,q|⟨y,v,f,e,o,j,p⟩⟩:=h
 ·cases q.1
 ·injection e with d z u;injection d with d;injection d with d;subst d u;exact⟨s,.inr ⟨g,b,f,rfl,o,(l.block g (ie j) m).trans j,p⟩⟩
structure uU(l l1 l2:List Rw):Prop where
 s1:l1.Sublist l
 s2:l2.Sublist l
 m:∀z,z∈l↔z∈l1\/z∈l2
 d:∀z∈l1,z∉l2
theorem uU.nil:uU [] [] []:=⟨.slnil,.slnil,fun z=>by simp,fun z h=>by cases h⟩
theorem uU.fst{l l1 l2:List Rw}(h:uU l l1 l2){y:Rw}(c:y∉l):uU (l++ [y]) (l1++ [y]) l2:=⟨h.s1.append (List.Sublist.refl _),h.s2.trans (List.sublist_append_left _ _),fun z=>by
 rw[bQ,bQ,h.m];constructor
 ·rintro((a|a)|a)
  ·exact .inl (.inl a)
  ·exact .inr a
  ·exact .inl (.inr a)
 ·rintro((a|a)|a)
  ·exact .inl (.inl a)
  ·exact .inr a
  ·exact .inl (.inr a),fun z b=>by
 rcases bQ.1 b with b|b
 ·exact h.d z b
 ·rw[bG.1 b];exact fun e=>c (h.s2.subset e)⟩
theorem uU.snd{l l1 l2:List Rw}(h:uU l l1 l2){y:Rw}(c:y∉l):uU (l++ [y]) l1 (l2++ [y]):=⟨h.s1.trans (List.sublist_append_left _ _),h.s2.append (List.Sublist.refl _),fun z=>by
 rw[bQ,bQ,h.m,or_assoc],fun z b a=>by
 rcases bQ.1 a with a|a
 ·exact h.d z b a
 ·rw[bG.1 a] at b;exact c (h.s1.subset b)⟩
theorem jP.kept(h:jP wB w g n r xs g1 g2 g3 c1 c2 c3 v1 v2 v3 l1 l2 l3)(a:∀i∈ [g,g1,g2,g3],∃t l,ar wB i t l/\(t=pQ\/t=eG)){u:TypeId}(f:pQ≠u)(e:eG≠u):Kept u wB w:=h.bP.kept fun i c=>by
 obtain⟨t,l,d,b⟩:=a i c;refine⟨t,l,d,?_⟩;rcases b with rfl|rfl
 ·exact f
 ·exact e
theorem dK.asE{x:aQ}(h:dK w p x)(j:Kept Bp w w')(i:Kept tE w w')(f:Kept EF w w')(b:Kept aU w w'):dK w' p x:=by
 obtain⟨A,c,B,d,D,e,o,m,l,k⟩:=h;exact⟨A,c,B,d,D,e,o,m.keep mS fun u a=>by
  rw[bG.1 a];exact j,l.keep oF fun u a=>by
  simp only[aI,bF,or_false] at a;rcases a with rfl|rfl
  ·exact i
  ·exact b,k.keep uN fun u a=>by
  rw[bG.1 a];exact f⟩
theorem ae2{W:au}:∀{xs:List Value} {D:List (List Rw)} {r:Nat} {v:Value} {l:List Rw},Ch (lz W) xs D->lz W [v] l->Ch (lz W) (xs.set r v) (D.set r l)
 |xs,[],r,v,l,h,_=>by rw[show xs= [] from h];exact rfl
 |xs,m::D,r,v,l,h,c=>by
  obtain⟨a,b,rfl,f,d⟩:=h;obtain⟨A,i,rfl,e⟩:=f;cases r with
  |zero=>exact⟨[v],b,rfl,c,d⟩
  |succ r=>exact⟨_,_,rfl,⟨A,i,rfl,e⟩,ae2 d c⟩
theorem jP.db(h:jP wB w g n r xs g1 g2 g3 c1 c2 c3 v1 v2 v3 l1 l2 l3)(a:∀i∈ [g,g1,g2,g3],∃t l,ar wB i t l/\(t=pQ\/t=eG)){D:List (List Rw)}(q:Ch (lz wB) xs D)(m:D.length=n):fS w (.slice (some ⟨g1,0,none⟩) n c1) (D.set r l1):=by
 have o:∀u∈ [dJ,bI],Kept u wB w:=fun u b=>by
  simp only[aI,bF,or_false] at b;rcases b with rfl|rfl
  ·exact h.kept a Od Od
  ·exact h.kept a Od Od
 have p:=lg (fun c x j=>mU _ _ c x o j) q;obtain⟨A,f,y,rfl,B,z,v,s⟩:=h.r1.parts;have k:lz w [.slice A l1.length f] l1:=⟨A,f,rfl,(AZ v s).ls⟩;have d:=h.o1;have e:(D.set r l1).length=n:=by rw[lY];exact m
 rw[<-e] at d⊢;exact D5 d (ae2 p k)
end
structure xp(w:au)(g b6 b7 n:Nat)(x:aQ)(sv ov:List Value)(A0 A1 A2 A3:aS)(c0 c1 c2 c3:Nat)(D Da Db Dc:List (List Rw)):Prop where
 src:cJ w g
 yH:dK w (.agg sv.toArray) x
 ord:qY w (.agg ov.toArray) x
 bs:ar w b6 kN sv
 bo:ar w b7 uW ov
 d0:fS w (.slice A0 n c0) D
 d1:fS w (.slice A1 n c1) Da
 d2:fS w (.slice A2 n c2) Db
 d3:fS w (.slice A3 n c3) Dc
 l6:g<b6
 l7:g<b7
section
variable{w w':au}{g b6 b7 n:Nat}{x:aQ}{sv ov:List Value}{A0 A1 A2 A3:aS}{c0 c1 c2 c3:Nat}{D Da Db Dc:List (List Rw)}
theorem xp.ext(h:xp w g b6 b7 n x sv ov A0 A1 A2 A3 c0 c1 c2 c3 D Da Db Dc)(k:Ext w w'):xp w' g b6 b7 n x sv ov A0 A1 A2 A3 c0 c1 c2 c3 D Da Db Dc:=
 ⟨h.src.ext k,h.yH.ext k,h.ord.ext k,h.bs.ext k,h.bo.ext k,Ie h.d0 k,Ie h.d1 k,Ie h.d2 k,Ie h.d3 k,h.l6,h.l7⟩
theorem fS.Qf{n:Nat}{D:List (List Rw)}(h:fS w (.slice E n a) D)(k:∀u,pQ≠u->Kept u w w'):fS w' (.slice E n a) D:=fN mU h fun u b=>k u (by
 simp only[aI,bF,or_false] at b;rcases b with rfl|rfl|rfl
 ·decide
 ·decide
 ·decide)
theorem xp.call(h:xp w g b6 b7 n x sv ov A0 A1 A2 A3 c0 c1 c2 c3 D Da Db Dc)(k:Only g w w')(c:cJ w' g):xp w' g b6 b7 n x sv ov A0 A1 A2 A3 c0 c1 c2 c3 D Da Db Dc:=by have a:∀u,pQ≠u->Kept u w w':=fun u b=>uM h.src k b;have e:=h.l6;have d:=h.l7;exact⟨c,h.yH.past h.src k,h.ord.kept (a _ Od),h.bs.only k Om,h.bo.only k Om,fS.Qf h.d0 a,fS.Qf h.d1 a,fS.Qf h.d2 a,fS.Qf h.d3 a,h.l6,h.l7⟩
end
def dQ.zero(B N:Nat):dQ B N 0:=⟨0,by rw[Rat.zero_mul];rfl,aT _⟩
def KN:=@dQ.zero
def dQ.one:dQ 1 1 1:=⟨1,by decide +kernel,by decide⟩
def Ic:=@dQ.one
def aeD{β:Type}{B N:Nat}{f:β->Rat}:∀{l:List β},(∀x∈l,dQ B N (f x))->dQ B (l.length*N) (gm.sum l f)
 | [],_=>by rw[vU,Kc];exact KN _ _
 |x::l,h=>by have b:=(h x lI).add (aeD fun y a=>h y (sS _ a));have e:gm.sum (x::l) f=f x+gm.sum l f:=rfl;rw[e,cW,rM,oD];exact b
def adL{β:Type}{c:Nat}{f:β->Rat}:∀{l:List β},(∀x∈l,dQ 1 c (f x))->dQ 1 (c^l.length) (gm.prod l f)
 | [],_=>Ic
 |x::l,h=>by have b:=(h x lI).mul (adL fun y a=>h y (sS _ a));have e:gm.prod (x::l) f=f x*gm.prod l f:=rfl;rw[e,cW,fJ,eI (c^l.length)];exact b
def VI{β:Type}{U:List β}{g:Nat->β->Rat}{W:Nat->(Nat->β)->Rat}{a B M c K:Nat}(o:U.length<=K)(m:∀t,dQ B M (g a t))(k:∀v t,v≠a->dQ 1 1 (g v t))(hW:∀h e,dQ 1 c (W h e)):
 ∀(f:Fo) (d:Nat->β),dQ (B^f.vars.count a) (K^f.vars.length*M^f.vars.count a*c^f.homes.length) (f.val gm U g W d)
 | .nil,_=>Ic
 | .cons v j b n,d=>by
   have p:∀x,dQ (B^(if v=a then 1 else 0)) (M^(if v=a then 1 else 0)) (g v x):=fun x=>by
    by_cases h:v=a
    ·rw[if_pos h,sY,sY,h];exact m x
    ·rw[if_neg h];exact k v x h
   have s:=fun x=>((p x).mul (adL (l:=j) fun h _=>hW h (put d v x))).mul (VI o m k hW b (put d v x));have r:=aeD (l:=U) (f:=fun x=>g v x*gm.prod j (fun h=>W h (put d v x))*b.val gm U g W (put d v x)) fun x _=>s x;have q:=r.mul (VI o m k hW n d);have e:(Fo.cons v j b n).val gm U g W d=gm.sum U (fun x=>g v x*gm.prod j (fun h=>W h (put d v x))*b.val gm U g W (put d v x))*n.val gm U g W d:=rfl;rw[e];have y:(Fo.cons v j b n).vars.count a=(if v=a then 1 else 0)+b.vars.count a+n.vars.count a:=by
    show(v::(b.vars++n.vars)).count a=_
    rw[List.count_cons,aaE];by_cases h:v=a
    ·rw[if_pos h,if_pos azd];omega
    ·rw[if_neg h,if_neg azd];omega
   have u:(Fo.cons v j b n).vars.length=1+b.vars.length+n.vars.length:=by
    show(v::(b.vars++n.vars)).length=_
    rw[cW,bC];omega
   have w:(Fo.cons v j b n).homes.length=j.length+b.homes.length+n.homes.length:=by
    show(j++(b.homes++n.homes)).length=_
    rw[bC,bC];omega
   rw[y,u,w];generalize(if v=a then 1 else 0)=i at*;refine dQ.mono (B:=B^(i+b.vars.count a+n.vars.count a)) ?_ ?_ (M:=U.length*(M^i*c^j.length*(K^b.vars.length*M^b.vars.count a*c^b.homes.length))*(K^n.vars.length*M^n.vars.count a*c^n.homes.length))
   ·rw[rO,rO];rwa[l8] at q
   ·refine a8 (fc _ (fc _ o)) (G7 ?_);simp only[rO,sY];ac_rfl
def dQ.up{B N C:Nat}{q:Rat}(h:dQ B N q):dQ (B*C) (N*C) q:=by have a:=h.mul (show dQ C C 1 from⟨(C:Int),by rw[Uc],by simp⟩);rwa[Ud] at a
def axH.k64(h:ai:=by
 have m:f.vars.length=n:=(by have c:=(xU w.vd (sV) fun v=>by rw[w.vm,dP]).length_eq;rwa[gN] at c);have l:f.homes.length=o.length:=(xU w.hd hd w.hm).length_eq;rw[m,l] at h;show dQ B _ (f.val gm U _ (oT e b) d)
 have p:=List.nodup_iff_count.1 w.vd a;generalize f.val gm U _ (oT e b) d=q at*;rcases i7 (f.vars.count a) with i|i
 ·rw[i,Am,Am] at h;have g:=h.up (C:=B);rw[qK] at g;refine g.mono (fc _ (fc _ (jt _ j)))
 ·have c:f.vars.count a=1:=Om;rw[c,sY,sY] at h;exact h.mono (JU _ k)):=h
def PN{β:Type}:∀{l m:List β},l.Nodup->(∀a∈l,a∈m)->l.length<=m.length
 | [],_,_,_=>aT _
 |a::l,m,d,e=>by
  rw[ja] at d;obtain⟨m1,m2,rfl⟩:=aay (e a lI);have h:=PN d.2 fun b f=>by
   have c:=e b (sS _ f);rw[bQ,aI] at c;rw[bQ];rcases c with c|rfl|c
   ·exact .inl c
   ·exact absurd f d.1
   ·exact .inr c
  rw[bC] at h;rw[bC,cW,cW];omega
section
variable{x:aQ}{D:List (List Rw)}
theorem apb(p:cF x){m:Nat}(w:∀l∈aX x D,l.length<=m)(o:Nat->Option aF)(n:a<x.aq.length):(eQ x D o a).length<=m:=by
 obtain⟨r,v,h⟩:=p.used a n;obtain⟨i,g,e⟩:=ju v;have j:=(wD g fun b A=>(p.ri _ (aZ g) b A).1).2 (by rw[e];exact h);obtain⟨k,z,F⟩:=ju j;have q:(bR (aX x D) i).length<=m:=by
  unfold bR;cases f:(aX x D)[i]? with
  |none=>exact aT _
  |some l=>exact w l (uy f)
 have d:=PN (l:=eQ x D o a) (m:=(bR (aX x D) i).map fun y=>y.1[k]?.getD []) (UV (Vo x D o a)) fun t f=>by obtain⟨G,C,B⟩:=(adR n t).1 f;have s:=(C a n).2;rw[K_] at s;obtain⟨y,u,E⟩:=Hr.1 (B i (dP.2 g));refine dH.2 ⟨y,u,?_⟩;rw[E,dY,aV z,F];exact(eq_of_beq s).symm
 rw[cy] at d;omega
theorem ac1{d:(Nat->Option aM)->Nat->List aM}{m:Nat}:∀(l:List Nat),(∀c,∀a∈l,(d c a).length<=m)->∀c,(iD d l c).length<=m^l.length
 | [],_,_=>aK _
 |a::l,h,c=>by
  rw[abY];refine a8 (Pv (m:=m^l.length) fun x _=> ?_) ?_
  ·rw[cy];exact ac1 l (fun c b e=>h c b (sS _ e)) _
  ·rw[cW,fJ,eI (m^l.length)];exact fc _ (h c a lI)
end
def aqe{x:aQ}{D:List (List Rw)}(jb pb:Nat)(s:List Fu)(attrs:List Nat)(J Aa:aS)(H ca:Nat)(z:List aF->Rat){zq:Fu->aF->Rat}{f0:Fo}(ok:cF x)(hD:jD x D)(a6:x.aq.length<=6)(r6:x.aA.length<=6)(yZ:0<a)(yY:1000000*a<=b)(yX:b<10^100)(p_:X4 x (aX x D) s zq a b)
 (lw:Whole x.aq.length (bJ x) (bV x) f0) (pY:∀k,z k=oU (bJ x) (univ (aX x D)) f0 (fun _=> []) (fun v t=>gS v (fun f=>zq f t) s) (bR (aX x D)) (eO (fun _=>none) attrs k)) (Cc:∀k,bS 1000 (z k))
 (nd:attrs.Nodup) (lt:∀g∈attrs,g<x.aq.length) (le:attrs.length<=4) (hle:(iD (eQ x D) attrs fun _=>none).length<=2000) (w:au) (hB:gJ x (aX x D) jb pb w) (hM:dF x pb w) (hf:Ls jf ou w (.slice J s.length H) s) (hg:IL w (.slice Aa attrs.length ca) (ints attrs)) (Q:eR w):
 Calls prog 37 #[aJ jb 0,.agg #[.slice J s.length H,.slice Aa attrs.length ca]] w fun e w'=>∃u G,e= .returned (.tuple #[u,av 0])/\uu w' u G/\(j6 x D (fun _=>none)->G=(iD (eQ x D) attrs fun _=>none).map fun k=>(k,z k))/\(¬j6 x D (fun _=>none)->G= [])/\a7 [pb] w w'/\dF x pb w':=by
 have h1:=af (fun W=>by simpa using Eo 0 W Om Om);have h2:=af (fun W=>by simpa using Eo 1 W Om Om);have HB:=af hB;have HM:=af hM;have HF:=af hf;have HG:=af hg;have HT:=af Q;have dX:=hB.lt;have hpl:=hM.lt;have Y6:jb≠pb:=(by obtain⟨A,c,B,d,E,e,At,ct,Al,cl,l,h,_⟩:=hB;exact hM.ne h)
 have HV:=af (fun(y K r L ob:Nat) (F:au) (M:List Value) (done:List (List aF)) (k:List aF) (j:Nat) (W:au) (A:aS) (c:Nat) (X:nj x D jb pb y K r L ob F M s attrs J H Aa ca z done W) (hF:kZ W j (eO (fun _=>none) attrs k)) (hb:F.heap.size<=j) (hd:done.length<2000) (hT:TL W (.slice A k.length c) k)=>amu X ok hD a6 r6 yZ yY yX p_ lw pY Cc hF hb hd hT);have CG:=af (fun(y K r L ob:Nat) (F:au) (M:List Value) (R:nj x D jb pb y K r L ob F M s attrs J H Aa ca z [] F)=>al0 (x:=x) (D:=D) (jb:=jb) (pb:=pb) (ob:=ob) (attrs:=attrs) (Aa:=Aa) (ca:=ca) (vf:=80) (v1:=aJ ob 0) (v2:=aJ y 0) (v3:=aJ K 0) (v4:=aJ r 0) (v5:=aJ L 0) (I:=fun done W=>nj x D jb pb y K r L ob F M s attrs J H Aa ca z done W) (w:=F)
  ⟨ok,hD,a6,r6,Y6,fun W k hm=>R.Qb k hm,fun d W W' h k t n1 n2=>h.kept k t n1 n2,fun d W W' h k hm=>h.Qb k hm,fun d W h=>h.jm,fun d W h=>h.jB,fun d W h=>h.il,fun _ _=>by rfl,fun d k j W A c h hF hb _ hd hT=>HV y K r L ob F M d k j W A c h hF hb hd hT,⟨R.lt.1,R.lt.2.1⟩,nd,lt,le⟩ R.jB R.jm hle)
 generalize hK:(iD (eQ x D) attrs fun _=>none)=ks at*;generalize hTU:j6 x D (fun _=>none)=TU at*;go_enter func37,ntmps37;go_upto_region 1 with fail
 refine fX fun W HX BJ BA=> ?_;have hba:=BA.lt;have C1:=af (h1 W);go_wp2_with fail
 refine C1.mono ?_;rintro e1 w1 ⟨u0,rfl,P,C⟩;have C2:=af (h2 w1);obtain⟨z0,Z0,z1,Z,y0,Y0,y1,y2,rfl, -, -⟩:=P.parts;go_wp2_with fail
 refine C2.mono ?_;rintro e2 w2 ⟨u1,rfl,O,p⟩;obtain⟨o0,O0,o1,o2,q0,Q0,q1,q2,rfl, -, -⟩:=O.parts;have aY:=af (HX.trans (C.trans p));have HZ2:=af (P.ext p);have et:=af O;have BJ2:=af (BJ.ext (C.trans p));have zQ:=af (BA.ext (C.trans p));have hs2:w.heap.size+1<w2.heap.size:=by have:=(C.trans p).size;omega
 go_upto_region 2 with fail
 refine aP fun W3 q BR=> ?_;have BJ3:=af (BJ2.ext q);have SY:=af (zQ.ext q);have Nz:=af (aY.trans q);have HZ3:=af (HZ2.ext q);have gL:=af (et.ext q);have hbr:=BR.lt;generalize w2.heap.size=r at*;go_upto_region 3 with fail
 refine aP fun W4 o BO=> ?_;have BJ4:=af (BJ3.ext o);have Ds:=af (SY.ext o);have Dp:=af (BR.ext o);have xG:=af (Nz.trans o);have HZ4:=af (HZ3.ext o);have zv:=af (gL.ext o);have Mw:=BO.lt;generalize W3.heap.size=ob at*;go_upto_region 4 with fail
 refine aP fun Y m BE=> ?_;have U:=af (BJ4.ext m);have V:=af (Ds.ext m);have kh:=af (Dp.ext m);have xL:=af (BO.ext m);have n:=af (xG.trans m);have HZ5:=af (HZ4.ext m);have Nl:=af (zv.ext m);have Mx:=BE.lt;generalize W4.heap.size=y at*;have X:nj x D jb pb y w.heap.size r (w.heap.size+1) ob Y [.bool z0,.slice Z0 z1 Z,.bool y0,.slice Y0 y1 y2,.bool o0,.slice O0 o1 o2,.bool q0,.slice Q0 q1 q2] s attrs J H Aa ca z [] Y:=
  ⟨HM.ext n,HB.ext n,BE,U,kh,⟨z0,Z0,z1,Z,y0,Y0,y1,y2,o0,O0,o1,o2,q0,Q0,q1,q2,rfl,HZ5,Nl⟩,V,bX wu HF n,iP HG n,⟨_,xL,f_⟩,HT.ext n,(HT.ext n).lt,⟨by omega,by omega,by omega,by omega,by omega,by omega,by omega,aK _⟩,.ij (aC _)⟩
 have CG1:=af (CG y w.heap.size r (w.heap.size+1) ob Y _ X);have HI:=af X;have j0:=U.aD 0;have a1:=V.aD 1;go_wp2_with fail
 refine CG1.mono ?_;rintro e6 w6 ⟨rfl,Q,hn, -⟩;have HR:ah (∃done,nj x D jb pb y w.heap.size r (w.heap.size+1) ob Y [.bool z0,.slice Z0 z1 Z,.bool y0,.slice Y0 y1 y2,.bool o0,.slice O0 o1 o2,.bool q0,.slice Q0 q1 q2] s attrs J H Aa ca z done w6/\(TU->done=ks)/\(¬TU->done= [])):=by
  by_cases h:TU
  ·exact⟨ks,Q h,fun _=>rfl,fun hn=>absurd h hn⟩
  ·exact⟨[],hn h,fun Q=>absurd Q h,fun _=>rfl⟩
 obtain⟨done,hr,iY,kB⟩:=HR.ae;have S:=af hr;have Gm:=af iY;have NB:=af kB;obtain⟨v6,b6,N⟩:=hr.WU;obtain⟨Ao,co,xs,rfl, -, -, -, -⟩:=N.parts;have ZV:=af N.ls;have e0:=hr.be.aD 0;have o6:=b6.aD 0;generalize Ms:(done.map fun k=>(k,z k))=G at*;have T:=af Ms;go_wp2_with fail
 refine bodyPost_ret (v:= .tuple #[.slice Ao G.length co,av 0]) (by simp [results,results37,go_sem]) rfl ⟨_,G,rfl,ZV,fun h=>by rw[<-T.ae,Gm.ae h],fun h=>by rw[<-T.ae,NB.ae h];rfl,?_,S.jm⟩;refine((ig n).trans S.ch).mono fun i hi hl=> ?_;simp only[aI,bF,or_false] at hi⊢;omega
def ab6(A B E:aS)(n c m d k e a:Nat)(b:Int)(j:a<n)(g:n<=maxLen)(w:au):
 Calls prog 56 #[.agg #[.slice A n c,.slice B m d,.slice E k e,av b],av a] w fun e f=>e= .returned (.bool true)/\Ext w f:=by
 have l:n<=9223372036854775807:=g;go_enter func56,ntmps56;go_upto_region 1 with fail
 refine aP fun W h i=> ?_;have o:=i.aD 0;have d1:decide ((0:Int)<=(a:Int))=true:=fF;have d2:decide ((a:Int)<(n:Int))=true:=fF;go_wp2_with fail
 exact bodyPost_ret (v:= .bool true) (by simp [results,results56,go_sem]) rfl ⟨rfl,h⟩
def qX:List Nat->Bool
 |a::b::l=>decide (a<b)&&qX (b::l)
 |_=>true
def aes:∀{l:List Nat} (_:qX l=true) {i:Nat} (c:i+1<l.length),l[i]<l[i+1]
 | [],_,i,c=>absurd c (Ot _)
 | [_],_,i,c=>by simp at c
 |a::b::l,h,i,c=>by
  rw[qX,cZ,decide_eq_true_eq] at h;cases i with
  |zero=>exact h.1
  |succ i=>exact aes (l:=b::l) h.2 ay7
def ajP(A:aS)(c:Nat)(l:List Nat)(h:qX l=true)(w:au)(f:IL w (.slice A l.length c) (ints l)):
 Calls prog 133 #[.slice A l.length c] w fun e r=>e= .returned (.bool true)/\Ext w r:=by
 have B:=af (fun i t=>aes h (i:=i) t);have p:=af f;have m:=(bE f).2;go_enter func133,ntmps133;go_upto_region 2 with fail
 go_loopw [3] (fun d q=>∃k:Nat,1<=k/\(k<=l.length\/k=1)/\d=av k/\ah (Ext w q)) (fun d _=>l.length - (RowKit.intOf d).toNat)
 exact⟨1,aK _,.inr rfl,rfl,aC w⟩;obtain⟨k,F,E,rfl,HX⟩:=hrel;obtain⟨j,rfl⟩:∃j,k=j+1:=⟨k - 1,by omega⟩;by_cases b:j+1<l.length
 ·obtain⟨g,o,n,C⟩:=nK (p.ext HX) (k:=j) Om (jL aU wr);obtain⟨G,D,a,q1⟩:=nK (p.ext HX) b (jL aU wr);rw[n] at a;injection a with a;injection a with z u _;subst z u;subst n;have s:=B j b;generalize l[j]=x at*;generalize l[j+1]=y at*;have d0:decide (((j+1:Nat):Int)<(l.length:Int))=true:=fF;have d1:decide ((y:Int)<=(x:Int))=false:=aW;exact agW
 ·have d0:decide (((j+1:Nat):Int)<(l.length:Int))=false:=aW;go_wp2_with fail;exact bodyPost_ret (v:= .bool true) (by simp [results,results133,go_sem]) rfl ⟨rfl,HX⟩
abbrev WQ:TypeId:=30
def aen(A B E:aS)(n c m d k e a g:Nat)(b:Int)(l:a<n)(j:n<=maxLen)(w:au)(f:ar w g WQ [.slice A n c,.slice B m d,.slice E k e,av b]):
 Calls prog 128 #[av a,aJ g 0] w fun e h=>e= .returned (.bool false)/\Ext w h:=by
 have C:=af (fun W=>ab6 A B E n c m d k e a b l j W);have t:=f.aD 0;have s:=f.aD 1;have r:=f.aD 2;have q:=f.aD 3;go_enter func128,ntmps128;go_wp2_with fail
 refine(C _).mono ?_;rintro e p ⟨rfl,i⟩;have o:=af i;go_wp2_with fail
 exact bodyPost_ret (v:= .bool false) (by simp [results,results128,go_sem]) rfl ⟨rfl,o⟩
def ap4(A B E:aS)(n c m d k e b i:Nat)(a:Int)(f:Fu)(r:f.1<n)(p:n<=maxLen)(w:au)(o:ar w b WQ [.slice A n c,.slice B m d,.slice E k e,av a])(q:ar w i 198 [.func (.func 128) #[] #[aJ b 0]]):
 Calls prog 130 #[.agg #[av (f.1:Int),av (f.2.1:Int),aO f.2.2],aJ i 0] w fun e j=>e= .returned (.bool false)/\Ext w j:=by
 have C:=af (fun W (s:Ext w W)=>aen A B E n c m d k e f.1 b a r p W (o.ext s));have t:=af q;obtain⟨F,D,z⟩:=f;go_enter func130,ntmps130;go_upto_region 1 with fail
 refine aP fun W h x=> ?_;have t0:=x.aD 0;have G:=(t.ext h).aD 0;have u:=af (C W h);go_wp2_with fail
 refine u.mono ?_;rintro e y ⟨rfl,l⟩;have g:=af (h.trans l);go_wp2_with fail
 exact bodyPost_ret (v:= .bool false) (by simp [results,results130,go_sem]) rfl ⟨rfl,g⟩
def oQ(x:aQ)(f:Fu):Prop:=f.1<x.aq.length/\((f.2.1=1/\kd x f.1≠3/\f.2.2= [])\/(f.2.1=2/\kd x f.1≠3/\f.2.2= [])\/(f.2.1=3/\eL (kd x f.1) f.2.2)\/(f.2.1=4/\kd x f.1≠3/\f.2.2≠ []/\eL (kd x f.1) f.2.2)\/(f.2.1=5/\f.2.2= []))
def Wz{x:aQ}(h:a<x.aq.length):kd x a=x.aq[a].2:=by unfold kd;rw[kF,aV h];rfl
def atM.k60(h:ai:=by
 rcases I.ae with⟨rfl,i,rfl⟩|⟨rfl,i,rfl⟩|⟨rfl,b⟩|⟨rfl,i,l,b⟩|⟨rfl,rfl⟩
 ·have s:(a !=3)=true:=aAc;exact Xg
 ·have s:(a !=3)=true:=aAc;exact Xg
 ·have SM:=af (t W2 b);exact ahh
 ·have s:(a !=3)=true:=aAc;have SM:=af (t W2 b);have E:(q== [])=false:=beq_eq_false_iff_ne.2 l;exact ahh
 ·skip
  exact Xg):=h
def acd(v:Value)(x:aQ)(f:Fu)(w:au)(h:dK w v x)(y:cF x)(G:oQ x f):
 Calls prog 57 #[v,.agg #[av (f.1:Int),av (f.2.1:Int),aO f.2.2]] w fun e u=>e= .returned (.bool true)/\Ext w u:=by
 obtain⟨A,c,B,d,D,e,rfl,n,C,F⟩:=h;obtain⟨fa,J,q⟩:=f;obtain⟨k,j⟩:=G;obtain⟨g,o,rfl,hg,q1,q2⟩:=oL n k;have m:=y.ak _ (aZ k);simp only at k j q1 q2 m⊢;rw[Wz k] at j;generalize x.aq[fa]=r at*;obtain⟨z,a⟩:=r;simp only at q1 q2 j m;have t:=af (fun W (b:eL a q)=>Vb z q a W m b);have I:=af j;have H:decide ((fa:Int)<(x.aq.length:Int))=true:=fF;go_enter func57,ntmps57;open atM in exact m60
def ap3(A B D:aS)(c d e i:Nat)(x:aQ)(f:Fu)(w:au)(h:dK w (.agg #[.slice A x.aq.length c,.slice B x.aA.length d,.slice D x.bk.length e,av x.label]) x)(k:cF x)(n:oQ x f)(m:ar w i WQ [.slice A x.aq.length c,.slice B x.aA.length d,.slice D x.bk.length e,av x.label]):
 Calls prog 132 #[.agg #[av (f.1:Int),av (f.2.1:Int),aO f.2.2],aJ i 0] w fun e j=>e= .returned (.bool false)/\Ext w j:=by
 have C:=af (fun W (o:Ext w W)=>acd _ x f W (h.ext o) k n);have p:=af m;obtain⟨F,E,z⟩:=f;go_enter func132,ntmps132;go_upto_region 1 with fail
 refine aP fun W b g=> ?_;have f0:=g.aD 0;have f1:=g.aD 1;have f2:=g.aD 2;obtain⟨y,u,t,s⟩:=(p.ext b).four;have q:=af (C W b);go_wp2_with fail
 refine q.mono ?_;rintro e r ⟨rfl,l⟩;have a:=af (b.trans l);go_wp2_with fail
 exact bodyPost_ret (v:= .bool false) (by simp [results,results132,go_sem]) rfl ⟨rfl,a⟩
def apK(b:FuncId)(hid:∀d w,(callFunc b d).run prog w= .ok (.enter b d) w)(t:Value)(y x u:Nat->Value)(P:Nat->Bool)(I:World->Prop)(A:aS)(n c:Nat)(w:au)(F:I w)(L:n<=c)(B:c<=maxLen)
 (C:∀W k,I W->k<n->∃g o,A=cT g o/\(ay W g (o+k*3) (y k)/\ay W g (o+k*3+1) (x k)/\ay W g (o+k*3+2) (u k)))
 (hF:∀W k,I W->k<n->Calls prog b #[.agg #[y k,x k,u k],t] W fun e l=>e= .returned (.bool (P k))/\I l):
 Calls prog 185 #[.slice A n c,.func (.func b) #[] #[t]] w fun e l=>e= .returned (av (jO P n))/\I l:=by
 have G:=af C;have H:=af hF;have z:c<=9223372036854775807:=B;have q:=af F;go_enter func185,ntmps185;go_upto_region 2 with fail
 have s:ah (∀k,k<0->P k=false):=fun k hk=>by omega
 go_loopw [5,8] (fun _ m wr=>∃j:Nat,j<=n/\m=av j/\ah (I wr)/\ah (∀k,k<j->P k=false)) (fun _ m _=>n - (RowKit.intOf m).toNat)
 exact⟨0,aT _,rfl,q,s⟩;obtain⟨j,K,rfl,r,HB⟩:=hrel;by_cases f:j<n
 ·obtain⟨g,o,E,p⟩:=G _ _ r f;go_split_ands;have J:=H _ _ r f;subst E;go_wp2_with fail
  refine J.mono ?_;rintro e l ⟨rfl,D⟩;have oh:=af D;cases hp:P j with
  |true=>have a:=Kv f hp HB;go_wp2;exact bodyPost_ret (v:=av j) (by simp [results,results185,go_sem]) rfl ⟨by rw[a],oh⟩
  |false=>exact QM
 ·have d1:decide ((j:Int)<(n:Int))=false:=aW;have i:j=n:=Om;subst i;have a:=Kw HB;go_wp2;exact bodyPost_ret (v:=av (-1)) (by simp [results,results185,go_sem]) rfl ⟨by rw[a],r⟩
def ap7(a:FuncId)(hid:∀d w,(callFunc a d).run prog w= .ok (.enter a d) w)(h:Value)(l j i:Nat->Value)(P:Nat->Bool)(I:World->Prop)(A:aS)(n c:Nat)(w:au)(t:I w)(q:n<=c)(p:c<=maxLen)
 (r:∀W k,I W->k<n->∃g o,A=cT g o/\(ay W g (o+k*3) (l k)/\ay W g (o+k*3+1) (j k)/\ay W g (o+k*3+2) (i k)))
 (hF:∀W k,I W->k<n->Calls prog a #[.agg #[l k,j k,i k],h] W fun e f=>e= .returned (.bool (P k))/\I f):
 Calls prog 129 #[.slice A n c,.func (.func a) #[] #[h]] w fun e f=>e= .returned (.bool ((List.range n).any P))/\I f:=by
 have x:=af (apK a hid h l j i P I A n c w t q p r hF);have m:=Ps (P:=P) (n:=n);generalize(List.range n).any P=b at*;generalize jO P n=z at*;go_enter func129,ntmps129;go_wp2_with fail
 refine x.mono ?_;rintro e f ⟨rfl,s⟩;have u:=af s;go_wp2;exact bodyPost_ret (v:= .bool b) (by simp [results,results129,go_sem]) rfl ⟨rfl,u⟩
def FuL.get{n:Nat}{l:List Fu}(h:Ls jf ou m (.slice E n a) l){i:Nat}(e:i<l.length):
 ∃g o,E=cT g o/\g<m.heap.size/\ay m g (o+i*3) (av (l[i].1:Int))/\ay m g (o+i*3+1) (av (l[i].2.1:Int))/\ay m g (o+i*3+2) (aO l[i].2.2):=by
 obtain⟨g,o,d,k,j,f,b⟩:=qR ou.three Od h e;rw[show d=_ from f] at b;exact⟨g,o,k,j,b 0 _ rfl,b 1 _ rfl,b 2 _ rfl⟩
def aej{fid:FuncId}(hid:∀b w,(callFunc fid b).run prog w= .ok (.enter fid b) w)(j:Value)(A:aS)(c:Nat)(a:List Fu)(w:au)(m:Ls jf ou w (.slice A a.length c) a)(hF:∀W,Ext w W->∀f∈a,Calls prog fid #[.agg #[av (f.1:Int),av (f.2.1:Int),aO f.2.2],j] W fun e i=>e= .returned (.bool false)/\Ext W i):
 Calls prog 129 #[.slice A a.length c,.func (.func fid) #[] #[j]] w fun e i=>e= .returned (.bool false)/\Ext w i:=by
 obtain⟨-,s,r⟩:=bE m;have h:=ap7 fid hid j (fun k=>av (((a[k]?.getD (0,0,[])).1:Nat):Int)) (fun k=>av (((a[k]?.getD (0,0,[])).2.1:Nat):Int)) (fun k=> .string ⟨(a[k]?.getD (0,0,[])).2.2.toArray⟩) (fun _=>false) (fun W=>Ext w W) A a.length c w (aC w) s r
  (fun W k hW d=>by obtain⟨g,o,q,l,q1,q2,q3⟩:=FuL.get m d;rw[aV d];exact⟨g,o,q,(hW.cell (p:=aB g (o+k*3)) l).trans q1,(hW.cell (p:=aB g (o+k*3+1)) l).trans q2,(hW.cell (p:=aB g (o+k*3+2)) l).trans q3⟩)
  (fun W k hW d=>by rw[aV d];exact(hF W hW _ (aZ d)).mono fun e i n=>⟨n.1,hW.trans n.2⟩)
 rwa[show(List.range a.length).any (fun _=>false)=false from Tl.2 fun _ _ h=>by cases h] at h
def anQ{fid:FuncId}(hid:∀b w,(callFunc fid b).run prog w= .ok (.enter fid b) w)(i:Value)(A:aS)(c:Nat)(l:List Nat)(w:au)(j:IL w (.slice A l.length c) (ints l))(hF:∀W,Ext w W->∀a∈l,Calls prog fid #[av (a:Int),i] W fun e f=>e= .returned (.bool false)/\Ext W f):
 Calls prog 131 #[.slice A l.length c,.func (.func fid) #[] #[i]] w fun e f=>e= .returned (.bool false)/\Ext w f:=by
 obtain⟨-,r,p⟩:=bE j;have h:=aeo fid hid i (fun k=>av ((l[k]?.getD 0:Nat):Int)) (fun _=>false) (fun W=>Ext w W) A l.length c w (aC w) r p
  (fun W k hW d=>by obtain⟨g,o,n,q⟩:=nK (j.ext hW) d (jL aU W);rw[aV d];exact⟨g,o,n,q⟩)
  (fun W k hW d=>by rw[aV d];exact(hF W hW _ (aZ d)).mono fun e f m=>⟨m.1,hW.trans m.2⟩)
 rwa[show(List.range l.length).any (fun _=>false)=false from Tl.2 fun _ _ h=>by cases h] at h
structure pP(x:aQ)(fs:List Fu)(attrs:List Nat):Prop where
 fl:fs.length<=6
 al:attrs.length<=3
 fo:∀f∈fs,oQ x f
 ao:∀a∈attrs,a<x.aq.length
 ua:qX attrs=true
def aml(v:Value)(x:aQ)(k:List Fu)(b:List Nat)(K L:aS)(H I:Nat)(w:au)(h:dK w v x)(V:cF x)(s:pP x k b)(q:Ls jf ou w (.slice K k.length H) k)(hg:IL w (.slice L b.length I) (ints b)):
 Calls prog 71 #[v,.agg #[.slice K k.length H,.slice L b.length I]] w fun e w'=>e= .returned (av 0)/\Ext w w':=by
 have J:=af s;have HF:=af q;have Z:=af hg;have P:=af V;have O:=af h;obtain⟨A,c,B,d,D,e,rfl,N,lx,Fr⟩:=h;have l1:=s.fl;have l2:=s.al;have hcA:=(bE N).2;have r:x.aq.length<=maxLen:=by have:=V.a12;unfold maxLen;omega
 have d1:decide ((k.length:Int)>6)=false:=aW;have d2:decide ((b.length:Int)>3)=false:=aW;go_enter func71,ntmps71;go_upto_region 1 with fail
 refine fX fun W HX BX BG=> ?_;have hbg:=BG.lt;go_upto_region 2 with fail
 refine aP fun W2 l T=> ?_;have E:=af (BX.ext l);have n:=af (BG.ext l);have z:=af (HX.trans l);have hbm:=T.lt;generalize Rc:W.heap.size=X at*;generalize hgb:w.heap.size+1=gb at*;generalize IK:w.heap.size=o at*;have g0:=n.aD 0;have Y:=n.aD 1;have C1:=af (aej (fid:=130) (fun _ _=>by rfl) (aJ X 0) K H k W2 (bX wu HF z) fun t j f q=>ap4 A B D x.aq.length c x.aA.length d x.bk.length e o X x.label f (J.fo f q).1 r t (E.ext j) (T.ext j));go_upto_region 4 with fail
 go_wp2_with fail
 refine C1.mono ?_;rintro e3 w3 ⟨rfl,g⟩;have y:=af (z.trans g);have C:=af (E.ext g);have G:=af (n.ext g);have S:=af (T.ext g);have Y:=G.aD 1;have m0:=S.aD 0;have C2:=af (anQ (fid:=128) (fun _ _=>by rfl) (aJ o 0) L I b w3 (iP Z y) fun t j a s=>aen A B D x.aq.length c x.aA.length d x.bk.length e a o x.label (J.ao a s) r t (C.ext j));go_wp2_with fail
 refine C2.mono ?_;rintro e4 w4 ⟨rfl,i⟩;have m:=af (y.trans i);have R:=af (C.ext i);have F:=af (G.ext i);have g0:=F.aD 0;have C3:=af (aej (fid:=132) (fun _ _=>by rfl) (aJ o 0) K H k w4 (bX wu HF m) fun t j f q=>ap3 A B D c d e o x f t (O.ext (m.trans j)) P (J.fo f q) (R.ext j));go_wp2_with fail
 refine C3.mono ?_;rintro e5 w5 ⟨rfl,p⟩;have u:=af (m.trans p);have U:=af (F.ext p);have Y:=U.aD 1;have C4:=af (ajP L I b J.ua w5 (iP Z u));go_wp2_with fail
 refine C4.mono ?_;rintro e6 w6 ⟨rfl,M⟩;have Q:=af (u.trans M);go_wp2_with fail
 exact bodyPost_ret (v:=av 0) (by simp [results,results71,go_sem]) rfl ⟨rfl,Q⟩
abbrev Ag:=List Fu×List Nat
def GC(w:au)(c:List Value)(y:Ag):Prop:=∃d a e b,c= [.slice d y.1.length a,.slice e y.2.length b]/\Ls jf ou w (.slice d y.1.length a) y.1/\IL w (.slice e y.2.length b) (ints y.2)
def GC.jN:j7 [jf,aU] GC:=fun _ _ _ _ b ⟨h,f,i,g,e,d,c⟩=>⟨h,f,i,g,e,fN wu d fun t a=>b t aAb,fN cI c fun t a=>b t aAb⟩
def H6:=@GC.jN
def GC.two(w:au)(c:List Value)(y:Ag)(h:GC w c y):c.length=2:=by obtain⟨_,_,_,_,rfl,_⟩:=h;rfl
abbrev qC:=Ls Qo GC
def qC.get{n:Nat}{l:List Ag}(h:qC m (.slice E n a) l){i:Nat}(p:i<l.length):
 ∃g o f b j e,E=cT g o/\g<m.heap.size/\ay m g (o+i*2) (.slice f l[i].1.length b)/\ay m g (o+i*2+1) (.slice j l[i].2.length e)/\ah (Ls jf ou m (.slice f l[i].1.length b) l[i].1)/\ah (IL m (.slice j l[i].2.length e) (ints l[i].2)):=by
 obtain⟨g,o,d,t,s,⟨f,b,j,e,rfl,r,q⟩,k⟩:=qR GC.two Od h p;exact⟨g,o,f,b,j,e,t,s,k 0 _ rfl,k 1 _ rfl,r,q⟩
def atL.yJ(h:ai:=by
 have F:=af (BX.ext hx1);have j:=af (HX.trans hx1);go_upto_region 7 with fail
 go_loopw [7,8,19] (fun _ _ b wr=>∃i:Nat,i<=l.length/\b=av i/\ah (Ext w1 wr)) (fun _ _ b _=>l.length - (RowKit.intOf b).toNat)
 exact⟨0,aT _,rfl,aC _⟩;obtain⟨i,hi,rfl,C⟩:=hrel;by_cases n:i<l.length
 ·obtain⟨g,o,G,s,H,t,rfl,J,q1,q2,M,L⟩:=qC.get (bX H6 HL (j.trans C)) n;have m:=HA _ (aZ n);generalize l[i]=y at*;obtain⟨r,a⟩:=y;simp only at q1 q2 M L m;have u:=af m;go_upto_region 9 with fail
  refine aP fun Z f N=> ?_;have k:=af (C.trans f);have E:=af (CC Z r a G H s t (j.trans k) u (bX wu M f) (iP L f));obtain⟨s0,s1,s2,s3⟩:=(F.ext k).four;have g0:=N.aD 0;have g1:=N.aD 1;go_wp2_with fail
  refine E.mono ?_;rintro e3 w3 ⟨rfl,p⟩;have z:=af (k.trans p);go_wp2_with fail
  go_roundw;exact⟨i+1,by omega,by go_num,z⟩;simp [RowKit.intOf];omega
 ·have d1:decide ((i:Int)<(l.length:Int))=false:=aW;go_wp2_with fail;exact bodyPost_ret (v:=av 0) (by simp [results,results35,go_sem]) rfl ⟨rfl,j.trans C⟩):=h
def amm(v:Value)(x:aQ)(O:aS)(K:Nat)(l:List Ag)(w:au)(h:dK w v x)(I:cF x)(S:qC w (.slice O l.length K) l)(R:l.length<=40)(X:∀y∈l,pP x y.1 y.2):
 Calls prog 35 #[v,.slice O l.length K] w fun e P=>e= .returned (av 0)/\Ext w P:=by
 have CH:=af (fun W (q:Ext w W)=>KA v x W (h.ext q) I);have CC:=af (fun W r a G H s t (q:Ext w W) Y U J=>aml v x r a G H s t W (h.ext q) I Y U J);have HL:=af S;have HA:=af X;obtain⟨A,c,B,d,D,e,rfl,V,Q,T⟩:=h;have d0:decide ((l.length:Int)>40)=false:=aW;go_enter func35,ntmps35;open atL in exact E6
def uY(a b:aF):Int:=if Op.bytesLess a b=true then -1 else if (a==b)=true then 0 else 1
def pN(a b:List aF):Int:=if eA a b=true then -1 else if (a==b)=true then 0 else 1
def ac2(a:aF)(w:au):
 Calls prog 306 #[aO a] w fun e b=>e= .returned (.bool false)/\b=w:=by
 have h:(a==a)=true:=Ou;go_enter func306,ntmps306;go_wp2;go_ret;exact⟨rfl,rfl⟩
def ap8(a b:aF)(w:au):
 Calls prog 275 #[aO a,aO b] w fun e i=>e= .returned (av (uY a b))/\i=w:=by
 have c:ah (uY a b=if Op.bytesLess a b=true then -1 else if (a==b)=true then 0 else 1):=rfl;generalize uY a b=f at*;have H1:=af (ac2 a w);have H2:=af (ac2 b w);cases d:Op.bytesLess a b with
 |true=>rw[d] at c;have HC:ah (f= -1):=c.ae;exact Yt
 |false=>
  cases g:a==b with
  |true=>rw[d,g] at c;have HC:ah (f=0):=c.ae;exact Yt
  |false=>rw[d,g] at c;have HC:ah (f=1):=c.ae;exact Yt
def aoF(K J:aS)(F H E G:Nat)(a b:List aF)(w:au)(d:TL w (.slice K F H) a)(f:TL w (.slice J E G) b):
 Calls prog 237 #[.slice K F H,.slice J E G] w fun e L=>e= .returned (av (pN a b))/\L=w:=by
 obtain⟨U,R,N⟩:=bE d;obtain⟨u,Q,M⟩:=bE f;subst U u;have W:=af d;have V:=af f;go_enter func237,ntmps237;go_wp2;go_loopw [11] (fun v wr=>∃i:Nat,i<=a.length/\i<=b.length/\v=av i/\ah (a.take i=b.take i)/\wr=w) (fun v _=>a.length - (RowKit.intOf v).toNat)
 exact⟨0,aT _,aT _,rfl,rfl,rfl⟩;obtain⟨i,P,O,rfl,m,rfl⟩:=hrel;by_cases p:i<a.length
 ·obtain⟨g,o,rfl,_,s⟩:=tq W p;by_cases l:i<b.length
  ·obtain⟨Y,X,rfl,_,n⟩:=tq V l;have C:=af (fun h=>afk p l m h);have z:ah ((a[i]==b[i])=true->a.take (i+1)=b.take (i+1)):=fun h=>by rw[pE,pE,m.ae,aV p,aV l,beq_iff_eq.1 h]
   have B:ah ((a[i]==b[i])=false->(a==b)=false):=fun h=>by rw[beq_eq_false_iff_ne] at h⊢;intro e;subst e;exact h rfl
   generalize a[i]=x at*;generalize b[i]=y at*;have q:=af (ap8 x y wr);cases c:x==y with
   |true=>
    have A:=af (z c);have k:uY x y=0:=(by have e:=beq_iff_eq.1 c;unfold uY;rw[if_neg (by rw[e,xW.lm];decide),if_pos c])
    rw[k] at q;go_wp2_with fail;refine q.mono ?_;rintro e D ⟨rfl,rfl⟩;go_wp2;go_roundw;exact⟨i+1,by omega,by omega,by go_num,A,by trivial⟩;simp [RowKit.intOf];omega
   |false=>
    have j:ah (pN a b=uY x y):=(by unfold pN uY;rw[ah,C.ae c,B.ae c,c]);have k:uY x y= -1\/uY x y=1:=by
     unfold uY;rw[c];split
     ·exact .inl rfl
     ·exact .inr rfl
    generalize uY x y=Z at*;rcases k with rfl|rfl
    ·go_wp2_with fail
     refine q.mono ?_;rintro e D ⟨rfl,rfl⟩;go_wp2;go_ret;exact⟨by rw[j.ae];rfl,rfl⟩
    ·go_wp2_with fail
     refine q.mono ?_;rintro e D ⟨rfl,rfl⟩;go_wp2;go_ret;exact⟨by rw[j.ae];rfl,rfl⟩
  ·have j:ah (pN a b=1):=by
    have e:i=b.length:=Om;have d:=m.ae;rw[e] at d;have f:=Vp d;have t:(a==b)=false:=(by rw[beq_eq_false_iff_ne];intro h;rw[h] at p;omega)
    unfold pN;rw[ah,f,t];rfl
   have S:b.length<=i:=Om;go_wp2;go_ret;exact⟨by rw[j.ae];rfl,rfl⟩
 ·have r:i=a.length:=Om;have I:=af r;have T:a.length<=i:=Om;by_cases l:a.length<b.length
  ·have j:ah (pN a b= -1):=(by have d:=m.ae;rw[I.ae] at d;unfold pN;rw[ah,adW l d];rfl);go_wp2;go_ret;exact⟨by rw[j.ae];rfl,rfl⟩
  ·have j:ah (pN a b=0):=by
    have d:=m.ae;have e:i=b.length:=Om;have u:a=b:=(by have f:=d;rw[I.ae,f9] at f;have t:a.length=b.length:=Om;rw[t,f9] at f;exact f)
    unfold pN;rw[ah,u,qP.lm];simp
   go_wp2;go_ret;exact⟨by rw[j.ae];rfl,rfl⟩
def anP(k j:aS)(f i d g:Nat)(a b:List aF)(w:au)(o:TL w (.slice k f i) a)(n:TL w (.slice j d g) b):
 Calls prog 184 #[.slice k f i,.slice j d g] w fun e m=>e= .returned (.bool (eA a b))/\w=m:=by
 have CS:=af (aoF k j f i d g a b w o n);cases l:eA a b with
 |true=>
  have c:pN a b= -1:=by unfold pN;rw[if_pos l]
  rw[c] at CS;exact Yo
 |false=>
  have c:pN a b=0\/pN a b=1:=by
   unfold pN;rw[l];split
   ·rename_i h;cases h
   ·split
    ·exact .inl rfl
    ·exact .inr rfl
  generalize pN a b=p at*;rcases c with rfl|rfl
  ·exact Yo
  ·exact Yo
def tC.lt{x:aQ}{l:List Rw}(h:tC x L l){i:Nat}(a:i+1<l.length):eA l[i].1 l[i+1].1=true:=(rH.1 h.ord) i (i+1) Om a Om
def atH.ahM(h:ai:=by
 obtain⟨I,B,Z,F,H,G⟩:=oL (bX mS HA N) kQ;have E:=aN.ak _ (aZ kQ);have Sq:ah (kd x an=x.aq[an].2):=aAa;rw[Sq.ae] at zg;generalize x.aq[an]=ML at*;obtain⟨nm,ak⟩:=ML;simp only at H G E zg;subst Y Z;have RV:=af (fun w'=>adF nm t ak w' E zg);have BRj:=af (P.ext rA);have BXj:=af (qz.ext rA);go_upto_region 17 with fail
 have bL:ah (∀w',Ext wr w'->ay w' bs 0 (aG I B AN c)/\ay w' br 1 (aG gi R cs.length di)/\ay w' gi (R+j) (av an)/\ay w' I (B+an*2) (aO nm)/\ay w' I (B+an*2+1) (av ak)):=fun w' hx=>⟨(BXj.ext hx).aD 0,(BRj.ext hx).aD 1,(hx.cell (p:=aB gi (R+j)) V).trans X,(hx.cell (p:=aB I (B+an*2)) F).trans H,(hx.cell (p:=aB I (B+an*2+1)) F).trans G⟩;have aH:ah (Ext wr wr.drew):=(aC wr).drew;refine b9 (S:=fun w'=>Ext wr w') (T:=fun _=>false) Ok ?_;generalize wr.drew=wd at*;refine ax 0 62 ?_;refine ax 1 63 ?_;refine ax 2 64 ?_;refine ax 3 65 ?_;refine ax 4 66 ?_;refine ax 5 67 ?_;refine ax 6 68 ?_;refine ax 7 69 ?_;refine ax 8 70 ?_;refine ax 9 71 ?_;refine aL 10 ?_;intro K hK;go_simp;refine(RV wd).mono ?_;rintro e7 w7 ⟨rfl,U⟩;have L:=af (aH.trans U);refine hK.ae _ _ (fun _=>L.ae) ?_;have aH:=L;refine ax 11 73 ?_;exact ag3):=h
def atI.k47(h:ai:=by
 obtain⟨yv,Q⟩:=y;simp only at dD eH rC Cx ve hw2;have C:yv.length=cs.length:=Cx.1;have Cy:=af C;rw[C] at dD rC;go_upto_region 12 with fail
 refine aP fun W4 u BY=> ?_;have O:=af (HE.trans u);have b:=af (iZ.trans u);have f:=af (cQ rC u);have hwr:W2.heap.size<=wr.heap.size:=iZ.size;have hyx:=BY.lt;generalize hby:wr.heap.size=by' at*;have P:=af (BR.ext b);have qz:=af (js.ext b);obtain⟨y0,y1⟩:=BY.two;obtain⟨r0,r1⟩:=P.two;go_upto_region 15 with fail
 go_loopw [15,16,57] (fun _ _ g wr=>∃j:Nat,j<=cs.length/\g=av j/\ah (Ext W4 wr)) (fun _ _ g _=>cs.length - (RowKit.intOf g).toNat)
 exact⟨0,aT _,rfl,aC _⟩;obtain⟨j,hj,rfl,rA⟩:=hrel;by_cases vp:j<cs.length
 ·have wZ:j<yv.length:=by rw[Cy.ae];exact vp
  have N:=af (O.trans rA);obtain⟨gv,ov,rfl,hgv,hcv⟩:=tq (cQ f rA) wZ;obtain⟨gi,R,Y,V,X⟩:=io (iP M N) vp;open atH in exact ag5
 ·have d5:decide ((j:Int)<(cs.length:Int))=false:=aW;have BYj:=af (BY.ext rA);obtain⟨y0,y1⟩:=BYj.two;have w1:decide (Q<low)=false:=aW;have w2:decide (Q>100)=false:=aW;have w3:(Q==0)=false:=ayZ;have kV:=af (b.trans rA);have HEn:=af (O.trans rA);have HTn:=af (cQ f rA);cases k with
  |zero=>exact agz
  |succ q=>
   obtain⟨Bq,dq,kS,xe,HTq⟩:=Nh wr HEn q Om;have v:=af (Sm q Om);rw[<-HY.ae] at v;simp only at v;generalize l[q]=z at*;have Gb:ah (∀n,Calls prog 86 #[.slice Bq z.1.length dq,.slice Bk cs.length dk] (wr.drewN n) fun e w'=>e= .returned (.bool true)/\∃m,w'=wr.drewN m):=fun n=>by refine(UK _ _ _ _ _ _ z.1 yv _ (cQ HTq ((aC wr).drewN n)) (cQ HTn ((aC wr).drewN n))).mono ?_;rintro e w' ⟨h1,m,rfl⟩;rw[v.ae] at h1;exact⟨h1,_,wj _ _ _⟩
   have k1:decide (((q+1:Nat):Int)>0)=true:=fF;go_upto_region 22 with fail
   go_quiet ((go_at_call 86;exact Gb _));go_wp2;go_roundw;exact⟨q+2,by omega,by go_num,kV.drewN _⟩;simp [RowKit.intOf];omega):=h
def atJ.ahw(h:ai:=by
 go_upto_region 9 with fail
 refine aP fun W2 J BR=> ?_;have js:=af (kg.ext J);have bZ:=af (d.trans J);have hrx:=BR.lt;generalize w1.heap.size=br at*;go_upto_region 10 with fail
 go_loopw [42] (fun o wr=>∃k:Nat,k<=l.length/\o=av k/\ah (Ext W2 wr)) (fun o _=>l.length - (RowKit.intOf o).toNat)
 exact⟨0,aT _,rfl,aC _⟩;obtain⟨k,hk,rfl,iZ⟩:=hrel;by_cases dE:k<l.length
 ·open atI in exact m47
 ·have hke:k=l.length:=Om;have d1:decide ((k:Int)<(l.length:Int))=false:=aW;go_wp2;go_ret;exact⟨rfl,bZ.trans iZ⟩):=h
def atK.yJ(h:ai:=by have kg:=af (BX.ext hx1);have d:=af (HX.trans hx1);have dD:=(d.cell (p:=aB gr (A+i*2)) r).trans dD;have eH:=(d.cell (p:=aB gr (A+i*2+1)) r).trans eH;have avh:=cE r d.size;open atJ in exact agn):=h
def axG.k35(h:ai:=by obtain⟨gr,A,Bi,mi,di,hB,r,dD,eH,s⟩:=qQ HR gV;rw[n_.ae] at dD s;subst hB;obtain⟨D,Xo,Xn⟩:=bE s;have M:=af s;simp only at dD eH D M;subst D;go_enter func214,ntmps214;open atK in exact E6):=h
def axF.yJ(h:ai:=by go_wp2;go_ret;exact⟨rfl,b.trans a⟩):=h
def atF.ah0(h:ai:=by
 go_upto_region 9 with fail
 have bL:ah (∀a,Ext wr a->ay a w.heap.size 0 (.slice A F c)/\ay a w.heap.size 1 (.slice B D.length d)/\ay a w.heap.size 2 (.slice C z e)/\ay a w.heap.size 3 (av x.label)/\ay a g0 (o0+k) (.slice Bk t.length dk)):=fun a g=>by obtain⟨q,o,n,m⟩:=(BXr.ext g).four;exact⟨q,o,n,m,(g.cell (p:=aB g0 (o0+k)) hg0).trans sF⟩
 have aH:ah (Ext wr wr.drew):=(aC wr).drew;have s:=af (fun a (g:Ext wr a)=>E a (HE.trans g) k Bk t.length dk t r (yg HLk g) Js rC);clear sF;refine b9 (S:=fun a=>Ext wr a) (T:=fun _=>false) Ok ?_;generalize wr.drew=l at*;refine ax 0 24 ?_;refine ax 1 25 ?_;refine ax 2 26 ?_;refine ax 3 27 ?_;refine ax 4 28 ?_;refine ax 5 29 ?_;refine aL 6 ?_;intro K j;go_simp;refine(s l aH).mono ?_;rintro y u ⟨rfl,f⟩;have i:=af (aH.trans f);refine j.ae _ _ (fun _=>i.ae) ?_;clear j f;have aH:=i;refine ax 7 7 ?_;refine bY Ok ?_;have kV:=af (iZ.trans aH);exact LZ):=h
def atG.yJ(h:ai:=by
 have kg:=af (BX.ext hx1);have bW:=af (HX.trans hx1);clear s0 s1 s2 s3 BX hx1;obtain⟨s0,s1,s2,s3⟩:=kg.four;go_upto_region 7 with fail
 clear s0 s1 s2 s3;go_loopw [21] (fun b wr=>∃k:Nat,k<=D.length/\b=av k/\ah (Ext w1 wr)) (fun b _=>D.length - (RowKit.intOf b).toNat);exact⟨0,aT _,rfl,aC _⟩;obtain⟨k,v,rfl,iZ⟩:=hrel;by_cases dE:k<D.length
 ·open atF in exact ahr
 ·exact ago):=h
def axE.ahI(h:ai:=by go_enter func95,ntmps95;open atG in exact E6):=h
def atE.ahM(h:ai:=by
 obtain⟨y,o,rfl,u,m,l⟩:=oL (bX mS HA n) kQ;have k:=V.ak _ (aZ kQ);have X:ah (kd x an=x.aq[an].2):=aAa;rw[X.ae] at zg;generalize x.aq[an]=R at*;obtain⟨nm,ak⟩:=R;simp only at m l k zg;have RV:=af (fun b=>Vb nm t ak b k zg);have Z:=af (BY.ext rA);have BXj:=af (BX.ext rA);clear k;go_upto_region 4 with fail
 have bL:ah (∀b,Ext wr b->ay b w.heap.size 0 (aG y o AN c)/\ay b (w.heap.size+1+1) 0 (aG P D cs.length Q)/\ay b P (D+j) (aO t)/\ay b y (o+an*2) (aO nm)/\ay b y (o+an*2+1) (av ak)):=fun b r=>⟨(BXj.ext r).aD 0,(Z.ext r).aD 0,(r.cell (p:=aB P (D+j)) L).trans hcv,(r.cell (p:=aB y (o+an*2)) u).trans m,(r.cell (p:=aB y (o+an*2+1)) u).trans l⟩;have aH:ah (Ext wr wr.drew):=(aC wr).drew;clear hcv M m l;refine b9 (S:=fun b=>Ext wr b) (T:=fun _=>false) Ok ?_;generalize wr.drew=wd at*;refine ax 0 17 ?_;refine ax 1 18 ?_;refine ax 2 19 ?_;refine ax 3 20 ?_;refine ax 4 21 ?_;refine ax 5 22 ?_;refine ax 6 23 ?_;refine ax 7 24 ?_;refine ax 8 25 ?_;refine ax 9 26 ?_;refine aL 10 ?_;intro K hK;go_simp;refine(RV wd).mono ?_;rintro e7 w7 ⟨rfl,q⟩;have C:=af (aH.trans q);refine hK.ae _ _ (fun _=>C.ae) ?_;clear hK q;have aH:=C;refine ax 11 28 ?_;exact ag3):=h
def alS(v:Value)(x:aQ)(rn:List UInt8)(Bi:aS)(mi di:Nat)(cs:List Int)(Bk:aS)(nk Q:Nat)(yv:List aF)(yw:Int)(w:au)(h:dK w v x)(ok:cF x)(J:IL w (.slice Bi mi di) cs)(E:TL w (.slice Bk nk Q) yv)(hr:∀a∈cs,0<=a/\a<x.aq.length)(F:pJ x cs yv):
 Calls prog 183 #[v,.agg #[aO rn,.slice Bi mi di],.agg #[.slice Bk nk Q,av yw]] w fun e b=>e= .returned (.bool true)/\Ext w b:=by
 obtain⟨A,c,B,d,Dd,e,rfl,O,G,hf⟩:=h;obtain⟨I,Xo,Xn⟩:=bE J;obtain⟨H,s,axZ⟩:=bE E;subst I H;have HA:=af O;have V:=af ok;have Y:=af J;have z:=af E;have fZ:=af hr;have Cx:=af F;have f:yv.length=cs.length:=F.1;have U:=af f;obtain⟨AN,g⟩:∃AN,x.aq.length=AN:=⟨_,rfl⟩;have vJ:=af g;rw[g] at HA fZ⊢;rw[f] at z⊢;obtain⟨-,N,ha2⟩:=bE O;rw[g] at N;generalize x.aA.length=RN at*;generalize x.bk.length=FN at*;rw[f] at s;clear O G hf ok J E hr F f g;go_enter func183,ntmps183;go_upto_region 1 with fail
 refine sf fun W HX BX BR BY=> ?_;obtain⟨r0,r1⟩:=BR.two;go_upto_region 2 with fail
 clear r0 r1;go_loopw [12] (fun i wr=>∃j:Nat,j<=cs.length/\i=av j/\ah (Ext W wr)) (fun i _=>cs.length - (RowKit.intOf i).toNat);exact⟨0,aT _,rfl,aC _⟩;obtain⟨j,hj,rfl,rA⟩:=hrel;by_cases vp:j<cs.length
 ·have wZ:j<yv.length:=by rw[U.ae];exact vp
  have n:=af (HX.trans rA);obtain⟨P,D,rfl,L,hcv⟩:=tq (cQ z n) wZ;obtain⟨gi,oi,rfl,mF,M⟩:=io (iP Y n) vp;open atE in exact ag5
 ·have d1:decide ((j:Int)<(cs.length:Int))=false:=aW;go_wp2;go_ret;exact⟨rfl,HX.trans rA⟩
def atA.k47(h:ai:=by
 clear hy;obtain⟨N,L⟩:=y;simp only at dD eH rC Cx ve hw2;have u:N.length=cs.length:=Cx.1;have Cy:=af u;rw[u] at dD rC;clear u;go_upto_region 11 with fail
 refine aP fun W4 C M=> ?_;have E:=af (HE.trans C);have b:=af (iZ.trans C);have s:=af (cQ rC C);have hwr:W2.heap.size<=wr.heap.size:=iZ.size;have hyx:=M.lt;have Y:=af (BR.ext b);have V:=af (X.ext b);obtain⟨y0,Z⟩:=M.two;obtain⟨r0,r1⟩:=Y.two;obtain⟨s0,s1,s2,s3⟩:=V.four;have JV:=af (alS _ x rn Bi cs.length di cs Bk cs.length dk N L W4 (HV.ext E) J (iP K E) s (by rw[vJ.ae];exact fZ) Cx);clear dD eH j8;go_wp2_with fail
 refine JV.mono ?_;rintro e7 F ⟨rfl,f⟩;have kV:=af (b.trans f);have T:=af (E.trans f);have R:=af (cQ s f);have U:=af (M.ext f);clear y0 Z r0 r1 s0 s1 s2 s3 M;obtain⟨y0,Z⟩:=U.two;have w1:decide (L<low)=false:=aW;have w2:decide (L>100)=false:=aW;have w3:(L==0)=false:=ayZ;cases k with
 |zero=>exact agz
 |succ q=>
  obtain⟨Bq,dq,kS,xe,Q⟩:=Nh F T q Om;have D:=af (Sm q Om);rw[<-HY.ae] at D;simp only at D;generalize l[q]=z at*;have S:ah (∀n,Calls prog 184 #[.slice Bq z.1.length dq,.slice Bk cs.length dk] (F.drewN n) fun e w'=>e= .returned (.bool true)/\∃m,w'=F.drewN m):=fun n=>by refine(anP _ _ _ _ _ _ z.1 N _ (cQ Q ((aC F).drewN n)) (cQ R ((aC F).drewN n))).mono ?_;rintro e w' ⟨h1,rfl⟩;rw[D.ae] at h1;exact⟨h1,_,rfl⟩
  have k1:decide (((q+1:Nat):Int)>0)=true:=fF;go_upto_region 17 with fail
  go_quiet ((go_at_call 184;exact S _));go_wp2;go_roundw;exact⟨q+2,by omega,by go_num,kV.drewN _⟩;simp [RowKit.intOf];omega):=h
def atB.ahw(h:ai:=by
 go_upto_region 8 with fail
 refine aP fun W2 I BR=> ?_;have X:=af (kg.ext I);have bZ:=af (o.trans I);have hrx:=BR.lt;clear s0 s1 s2 s3 d1 d2 d3 dD eH;generalize w1.heap.size=br at*;go_upto_region 9 with fail
 go_loopw [42] (fun t wr=>∃k:Nat,k<=l.length/\t=av k/\ah (Ext W2 wr)) (fun t _=>l.length - (RowKit.intOf t).toNat)
 exact⟨0,aT _,rfl,aC _⟩;obtain⟨k,hk,rfl,iZ⟩:=hrel;by_cases dE:k<l.length
 ·open atA in exact m47
 ·have P:k=l.length:=Om;have d1:decide ((k:Int)<(l.length:Int))=false:=aW;clear P;go_wp2;go_ret;exact⟨rfl,bZ.trans iZ⟩):=h
def atC.yJ(h:ai:=by have kg:=af (BX.ext hx1);have o:=af (HX.trans hx1);have dD:=(o.cell (p:=aB gr (G+i*2)) g).trans dD;have eH:=(o.cell (p:=aB gr (G+i*2+1)) g).trans eH;have avh:=cE g o.size;clear s0 s1 s2 s3 BX hx1 g;open atB in exact agn):=h
def atD.k35(h:ai:=by clear rz ha h_ hf ok Jb hl ht lx hr;obtain⟨gr,G,Bi,mi,di,hB,g,dD,eH,j⟩:=qQ HR gV;rw[n_.ae] at dD j;subst hB;obtain⟨H,Xo,Xn⟩:=bE j;have K:=af j;simp only at dD eH H K;subst H;clear j;go_enter func127,ntmps127;open atC in exact E6):=h
def anN(v:Value)(x:aQ)(i:Nat)(A0:aS)(n0 c0:Nat)(l:List Rw)(r:Rl)(low:Int)(most:Nat)(w:au)(h:dK w v x)(ok:cF x)(hl:ny w (.slice A0 n0 c0) l)(hr:x.aA[i]?=some r)(ht:tC x r.2 l)(aik:low<=1)(O:60<=most):
 Calls prog 127 #[v,av i,.slice A0 n0 c0,av most,av low] w fun e w'=>e= .returned (av 0)/\Ext w w':=by
 have CH:=af (fun w' (hx:Ext w w')=>KA v x w' (h.ext hx) ok);have HV:=af h;have J:=af ok;open atD in exact m35
def atz.yJ(h:ai:=by go_wp2;go_ret;exact⟨rfl,HX.trans hx1⟩):=h
def apy(v:Value)(x:aQ)(i:Nat)(j:aS)(b g:Nat)(l:List Rw)(r:Rl)(w:au)(h:dK w v x)(k:cF x)(p:ny w (.slice j b g) l)(o:x.aA[i]?=some r)(n:tC x r.2 l):
 Calls prog 70 #[v,av i,.slice j b g] w fun e a=>e= .returned (av 0)/\Ext w a:=by
 have CH:=af (fun a (m:Ext w a)=>anN v x i j b g l r 1 60 a (h.ext m) k (yg p m) o n Od Od);obtain⟨A,c,B,d,y,e,rfl,s,f,q⟩:=h;clear p n o s f q k;generalize x.aq.length=z at*;generalize x.aA.length=t at*;generalize x.bk.length=u at*;go_enter func70,ntmps70;open atz in exact E6
def atw.ah0(h:ai:=by have s:=af (CT wr HE k Bk t.length dk t r HLk Js rC);obtain⟨s0,s1,s2,s3⟩:=BXr.four;go_wp2_with fail;refine s.mono ?_;rintro z u ⟨rfl,f⟩;have kV:=af (iZ.trans f);clear s0 s1 s2 s3 sF;exact LZ):=h
def atx.yJ(h:ai:=by
 have kg:=af (BX.ext hx1);have bW:=af (HX.trans hx1);clear s0 s1 s2 s3 BX hx1;obtain⟨s0,s1,s2,s3⟩:=kg.four;go_upto_region 7 with fail
 clear s0 s1 s2 s3;go_loopw [22] (fun b wr=>∃k:Nat,k<=D.length/\b=av k/\ah (Ext w1 wr)) (fun b _=>D.length - (RowKit.intOf b).toNat);exact⟨0,aT _,rfl,aC _⟩;obtain⟨k,y,rfl,iZ⟩:=hrel;by_cases dE:k<D.length
 ·open atw in exact ahr
 ·exact ago):=h
def aty.ahI(h:ai:=by go_enter func34,ntmps34;open atx in exact E6):=h
def aq6(v:Value)(x:aQ)(o:aS)(j m:Nat)(D:List (List Rw))(w:au)(h:dK w v x)(ok:cF x)(hl:fS w (.slice o j m) D)(hD:jD x D):
 Calls prog 34 #[v,.slice o j m] w fun e a=>e= .returned (av 0)/\Ext w a:=by
 have CH:=af (fun a (g:Ext w a)=>KA v x a (h.ext g) ok);have CT:=af (fun a (g:Ext w a) (i:Nat) (n:aS) (m0 d0:Nat) (l:List Rw) (r:Rl) (hl:ny a (.slice n m0 d0) l) (q:x.aA[i]?=some r) (p:tC x r.2 l)=>apy v x i n m0 d0 l r a (h.ext g) ok hl q p);open aty in exact auM
def an8(g n c:Nat)(p:n<=c)(m:c<=maxLen)(w:au)(f:∀k,k<n->ay w g k (av 0)):
 Calls prog 32 #[aG g 0 n c] w fun e j=>e= .returned (av 0)/\w=j:=by
 have o:=af f;have l:c<=9223372036854775807:=m;clear f;go_enter func32,ntmps32;go_upto_region 3 with fail
 go_loopw [5,8] (fun _ b wr=>∃i:Nat,i<=n/\b=av i/\wr=w) (fun _ b _=>n - (RowKit.intOf b).toNat)
 exact⟨0,aT _,rfl,rfl⟩;obtain⟨i,r,rfl,a⟩:=hrel;have a:=a.symm;subst a;by_cases d:i<n
 ·have q:=o i d;exact Xf
 ·have d1:decide ((i:Int)<(n:Int))=false:=aW;go_wp2_with fail;exact bodyPost_ret (v:=av 0) (by simp [results,results32,go_sem]) rfl ⟨rfl,rfl⟩
abbrev afD:TypeId:=52
abbrev NK:=oV eT oW
abbrev JI:=Ls lh NK
def NK.jN:j7 [eT,bI] NK:=oV.jN kj
def x8:=@NK.jN
def alq:ko prog afD lh 1 24:= .mk' (z:= .slice none 0 0) Ok Ok rfl Od Od
def VG:∀{l:List Nat},qX l=true->l.Pairwise (·<·)
 | [],_=>List.Pairwise.nil
 | [_],_=>JW _ _
 |a::b::l,h=>by
  rw[qX,cZ,decide_eq_true_eq] at h;have e:=VG (l:=b::l) h.2;refine jI.2 ⟨fun c d=> ?_,e⟩;rcases aI.1 d with rfl|d
  ·exact h.1
  ·exact TQ h.1 ((jI.1 e).1 c d)
structure aiV(x:aQ)(D:List (List Rw))(f0:Fo)(zq:Fu->aF->Rat)(DD MM:Nat)(vl:Ag->List aF->Rat)(y:Ag):Prop where
 ag:pP x y.1 y.2
 fs:X4 x (aX x D) y.1 zq DD MM
 vle:∀k,vl y k=oU (bJ x) (univ (aX x D)) f0 (fun _=> []) (fun v t=>gS v (fun f=>zq f t) y.1) (bR (aX x D)) (eO (fun _=>none) y.2 k)
 vf:∀k,bS 1000 (vl y k)
 hle:(iD (eQ x D) y.2 fun _=>none).length<=2000
def lN(x:aQ)(D:List (List Rw))(a:Ag->List aF->Rat)(y:Ag)(G:List Gp):Prop:=(j6 x D (fun _=>none)->G=(iD (eQ x D) y.2 fun _=>none).map fun k=>(k,a y k))/\(¬j6 x D (fun _=>none)->G= [])
def dF.tab{x:aQ}{a:au}(h:dF x b a)(k:a7 [b] a m)(d:eR a):eR m:=by obtain⟨c,f,e,_⟩:=h;exact d.afI e k.PU
def ae8(v o:Value)(x:aQ)(D:List (List Rw))(Ad A0:aS)(cd c0:Nat)(l:List Ag){f0:Fo}{zq:Fu->aF->Rat}{DD MM:Nat}(vl:Ag->List aF->Rat)(w:au)(h:dK w v x)(M:cF x)(ho:qY w o x)(hD:jD x D)(hd:fS w (.slice Ad D.length cd) D)(a6:x.aq.length<=6)(yZ:0<DD)(yY:1000000*DD<=MM)(yX:MM<10^100)
 (lw:Whole x.aq.length (bJ x) (bV x) f0) (hl:qC w (.slice A0 l.length c0) l) (nU:l.length<=40) (H:∀y∈l,aiV x D f0 zq DD MM vl y) (ht:eR w):
 Calls prog 12 #[v,o,.slice Ad D.length cd,.slice A0 l.length c0] w fun e b=>∃u f,e= .returned (.tuple #[u,av 0])/\JI b u f/\f.length=l.length/\(∀i (P:i<l.length) (h2:i<f.length),lN x D vl l[i] f[i])/\Ext w b:=by
 have r6:=M.r6;have C1:=af (fun W (C:Ext w W)=>apa v o x W (h.ext C) M (ho.ext C));have C2:=af (fun W (C:Ext w W)=>aq6 v x Ad D.length cd D W (h.ext C) M (Ie hd C) hD);have C3:=af (fun W (C:Ext w W)=>amm v x A0 c0 l W (h.ext C) M (bX H6 hl C) nU fun y s=>(H y s).ag);have C4:=af (fun W (C:Ext w W)=>aqP v x D Ad cd W (h.ext C) M hD (Ie hd C));have CR:=af (fun(jb r:Nat) (y:Ag) (s:y∈l) (Af Aa:aS) (cf ca:Nat) (W:au) (hB:gJ x (aX x D) jb r W) (hM:dF x r W) (hf:Ls jf ou W (.slice Af y.1.length cf) y.1) (hg:IL W (.slice Aa y.2.length ca) (ints y.2)) (ht:eR W)=>
  aqe jb r y.1 y.2 Af Aa cf ca (vl y) M hD a6 r6 yZ yY yX (H y s).fs lw (H y s).vle (H y s).vf ((VG (H y s).ag.ua).imp fun h=>Nat.ne_of_lt h) (H y s).ag.ao (a8 (H y s).ag.al Od) (H y s).hle W hB hM hf hg ht)
 have HL:=af hl;have HT:=af ht;obtain⟨Ao,co,p,dd,rfl, -, -⟩:=ho;obtain⟨A,c,B,d,E,e,rfl, -, -, -⟩:=h;clear lw hl H ht hd hD yZ yY yX M;have gX:=(bE HL).2;go_enter func12,ntmps12;go_upto_region 1 with fail
 refine fX fun W HX BX BO=> ?_;have Mw:=BO.lt;obtain⟨S,O⟩:∃S:World->Prop,S=fun b=>ay b w.heap.size 0 (.slice A x.aq.length c)/\ay b w.heap.size 1 (.slice B x.aA.length d)/\ay b w.heap.size 2 (.slice E x.bk.length e)/\ay b w.heap.size 3 (av x.label)/\ay b (w.heap.size+1) 0 (.slice Ao x.aq.length co):=⟨_,rfl⟩;have bL:ah (∀b,S b->ay b w.heap.size 0 (.slice A x.aq.length c)/\ay b w.heap.size 1 (.slice B x.aA.length d)/\ay b w.heap.size 2 (.slice E x.bk.length e)/\ay b w.heap.size 3 (av x.label)/\ay b (w.heap.size+1) 0 (.slice Ao x.aq.length co)):=by rw[ah,O];exact fun _ h=>h
 have q:ah (∀b,Ext W b->S b):=(by rw[ah,O];exact fun b hx=>by obtain⟨a0,a1,a2,a3⟩:=(BX.ext hx).four;exact⟨a0,a1,a2,a3,(BO.ext hx).aD 0⟩);clear O;have U:=af (aC W).drew;have aH:=af (q _ U);refine b9 (S:=S) (T:=fun _=>false) Ok ?_;generalize W.drew=wd at*;refine ax 0 17 ?_;refine ax 1 18 ?_;refine ax 3 20 ?_;refine ax 4 21 ?_;refine ax 6 23 ?_;refine ax 7 24 ?_;refine aL 2 ?_;intro K m;go_simp;refine(C1 wd (HX.trans U)).mono ?_;rintro e2 w2 ⟨rfl,hx2⟩;have a:=af (U.trans hx2);refine m.ae _ _ (fun _=>q _ a) ?_;clear m hx2;refine aL 5 ?_;intro K m;go_simp;refine(C2 w2 (HX.trans a)).mono ?_;rintro e3 w3 ⟨rfl,hx3⟩;have X:=af (a.trans hx3);refine m.ae _ _ (fun _=>q _ X) ?_;clear m hx3;refine aL 8 ?_;intro K m;go_simp;refine(C3 w3 (HX.trans X)).mono ?_;rintro e4 w4 ⟨rfl,iW⟩;have V:=af (X.trans iW);refine m.ae _ _ (fun _=>q _ V) ?_;clear m iW;refine aL 9 ?_;intro K m;go_simp;refine m.ae _ _ (fun _=>q _ (V.alloc _)) ?_;refine aP fun W5 cD BZ=> ?_;have I:=af (V.trans cD);clear m;have C6:=af (an8 w4.heap.size 3 3 (aK _) ay' W5 fun k hk=>BZ.cell (by
  rcases k with _|_|_|k
  ·rfl
  ·rfl
  ·rfl
  ·omega))
 refine aL 10 ?_;intro K m;go_simp;refine C6.mono ?_;rintro e6 w6 ⟨rfl,rfl⟩;refine m.ae _ _ (fun _=>q _ I) ?_;clear m BZ;refine aL 11 ?_;intro K m;go_simp;refine m.ae _ _ (fun _=>q _ I) ?_;refine bY Ok ?_;clear m;obtain⟨s0,s1,s2,s3⟩:=(BX.ext I).four;have Z:=af (HX.trans I);have C5:=af (C4 W5 Z);clear BX BO;go_wp2_with fail
 refine C5.mono ?_;rintro e7 w7 ⟨jb,r,rfl,N,F,IZ,hl2,E7⟩;have JB:=af (Z.trans E7);have pg:=af (HT.ext JB);have JA:=af N;have Ss:=af F;have hpl:=F.lt;have Mc:w.heap.size<=r:=a8 Z.size hl2;have Y6:jb≠r:=by obtain⟨A,c,B,d,E,e,At,ct,Al,cl,l,h,_⟩:=N;exact F.ne h
 clear s0 s1 s2 s3 N F IZ hl2 E7;go_upto_region 7 with fail
 go_loopw [12,14,15,16,36] (fun v12 _ _ _ L wr=>∃(i:Nat) (f:List (List Gp)),i<=l.length/\L=av i/\ah (bH lh 1 NK w7.heap.size wr v12 f)/\ah (f.length=i)/\ah (∀j (P:j<l.length) (h2:j<f.length),lN x D vl l[j] f[j])/\ah (dF x r wr)/\ah (eR wr)/\ah (a7 [r] w7 wr)) (fun _ _ _ _ L _=>l.length - (RowKit.intOf L).toNat)
 exact⟨0,[],aT _,rfl,f_,rfl,fun j _ h=>absurd h (Ot _),Ss,pg,.ij (aC _)⟩;obtain⟨i,f,hi,rfl,HO,Y,Sd,HM,HTr,HC⟩:=hrel;have Mz:=JB.bP HC fun i hi=>by rw[bG.1 hi];exact Mc
 have iZ:=af Mz;clear Mz;by_cases gV:i<l.length
 ·obtain⟨g,o,Af,cf,Aa,ca,rfl,hg,q1,q2,HF,HG⟩:=qC.get (bX H6 HL iZ) gV;have JK:=af (CR jb r l[i] (aZ gV) Af Aa cf ca);have Jz:ah (∀y,l[i]=y->∀j (P:j<l.length),j=i->l[j]=y):=fun y e j P e2=>by subst e2;exact e
  generalize s:l[i]=y at*;have awr:=af (Jz y rfl);obtain⟨fs,Q⟩:=y;simp only at q1 q2 HF HG JK;clear s;go_upto_region 9 with fail
  refine aP fun W2 a BG=> ?_;have hbg:=BG.lt;have J:gJ x (aX x D) jb r wr:=JA.bP Ss Y6 HC;have CR2:=af (JK W2 (J.ext a) (HM.ext a) (bX wu HF a) (iP HG a) (HTr.ext a));have fR:=af (HC.ext a);have iA:=af (HM.ext a);have kW:=af (HTr.ext a);have et:=af (HO.ext x8 a);have g0:=BG.aD 0;have g1:=BG.aD 1;clear q1 q2 J BG;go_wp2_with fail
  refine CR2.mono ?_;rintro e3 w3 ⟨u,G,rfl,hu,hG1,hG2,z,IX⟩;have zn:=af (iA.tab z kW);have iK:=af (fR.trans z);have hk3:∀t,Kept t W2 w3:=fun t=>iA.kept z t;have gL:=af (et.only x8 z.PU hpl fun u _=>hk3 u);have mI:=af IX;have sK:=af hu;have HG3:ah (lN x D vl (fs,Q) G):=⟨hG1,hG2⟩;obtain⟨Au,cu,eu⟩:∃Au cu,u= .slice Au G.length cu:=by obtain⟨A,c,_,e,_⟩:=hu;exact⟨A,c,e⟩
  subst eu;clear hu hG1 hG2 z IX hk3 g0 g1;obtain⟨A',c',xs,rfl, -,Xw,HOr,xD⟩:=gL.parts;have j8:=Y.ae;have hw:=iK.size;have cK:(f.length+1)*24<=140737488355328:=Om;have HN4:ah (∀(G':List (List Gp)),G'=f++ [G]->∀j (P:j<l.length) (h2:j<G'.length),lN x D vl l[j] G'[j]):=by
   rintro G' rfl j P h2;by_cases hj:j<f.length
   ·rw[aag hj];exact Sd j P hj
   ·have hj2:j=i:=by rw[bC,iM] at h2;omega
    have e1:(f++ [G])[j]=G:=(by rw[aac Om];simp);rw[e1,awr.ae j P hj2];exact HG3
  clear j8;go_wp2_with (at_builtin;refine gG rfl _ _ afD rfl w7.heap.size alq _ _ _ rfl HOr.ae #[.slice Au G.length cu] 1 1 rfl rfl rfl cK hw ?_);intro v' w5 nS n _;have O5:=af (iN (R:=NK) (x:=G) x8 (fun u hu=>by simp only[aI,bF,or_false] at hu;rcases hu with rfl|rfl<;>decide) HOr xD ⟨Au,cu,rfl,sK⟩ nS n)
  have qw:=af (iK.grown HOr n (aK _));have hXX:Ext w7 w7:=aC _;have ui:ah (dF x r w5):=mI.keep (n.block r mI.lt fun e=>by have:=(HOr.lt r e.symm).1;omega) (jW HOr n Od) (jW HOr n Od);have FU:ah (eR w5):=zn.grow HOr n pg.lt;have awC:ah ((f++ [G]).length=i+1):=by rw[ah,bC,Y.ae];rfl
  clear nS n hXX;go_wp2_with fail;go_roundw;exact⟨i+1,_,by omega,by go_num,O5,awC,HN4.ae _ rfl,ui,FU,qw⟩;simp [RowKit.intOf];omega
 ·have d1:decide ((i:Int)<(l.length:Int))=false:=aW;obtain⟨A',c',xs,rfl, -,Xw,HOr,xD⟩:=HO.parts;have Gb:=af HO.ls;have Sy:ah (f.length=l.length):=by rw[ah,Y.ae];omega
  go_wp2_with fail
  exact bodyPost_ret (v:= .tuple #[.slice A' f.length c',av 0]) (by simp [results,results12,go_sem]) rfl ⟨_,f,rfl,Gb,Sy,Sd,iZ⟩
def atv.k64(h:ai:=by
 have o:f.vars.length=n:=(by have j:=(xU w.vd (sV (n:=n)) fun v=>by rw[w.vm,dP]).length_eq;rwa[gN] at j);have m:f.homes.length=i.length:=(xU w.hd hd w.hm).length_eq;rw[o,m] at h;show dQ B _ (f.val gm U _ (oT at_ tab) env)
 have p:=List.nodup_iff_count.1 w.vd a;generalize f.val gm U _ (oT at_ tab) env=q at*;rcases i7 (f.vars.count a) with l|l
 ·rw[l,Am,Am] at h;have k:=h.up (C:=B);rw[qK] at k;refine k.mono ?_;rw[l8,gF,eI _ B,<-gF];exact fc _ (jt _ d)
 ·have j:f.vars.count a=1:=Om;rw[j,sY,sY] at h;exact h):=h
def amF{n:Nat}{at_:Nat->List Nat}{f:Fo}{U:List aM}{env:Nat->aM}{lift:Nat->aM->Rat}{tab:iT}{fx:Nat->Option aM}{B M:Nat}(w:Whole n at_ i f)(hd:i.Nodup)(hK:U.length<=b)(ha:∀t,dQ B M (lift a t))(d:B<=M)(hb:∀v t,v≠a->dQ 1 1 (lift v t))(hW:∀h,∀y∈tab h,y.2.natAbs<=c):
 dQ B (b^n*M*c^i.length) (oU at_ U f env lift tab fx):=by
 open atv in exact m64
noncomputable def pR(t:aF):Rat:= @dite _ (∃q:Rat,mG q/\t=cL q) (Classical.propDecidable _) (fun h=>h.choose) (fun _=>0)
def PK(t:aF):mG (pR t):=by
 unfold pR;split
 ·rename_i h;exact h.choose_spec.1
 ·exact⟨by unfold ib;decide,by decide⟩
def VT{t:aF}(h:∃q:Rat,mG q/\t=cL q):t=cL (pR t):=by unfold pR;rw[dif_pos h];exact h.choose_spec.2
def apd:pR []=0:=by unfold pR;rw[dif_neg];rintro⟨q, -,h⟩;exact OX q h.symm
def PJ{t:aF}(h:eL B t)(d:B≠3):sg t (pR t):=by
 have a:(∃q:Rat,mG q/\t=cL q)->sg t (pR t):=fun h=>by have e:=VT h;exact .inr ⟨by rw[e];exact OX _,e,399,by decide,(PK t).fit⟩
 rcases h with rfl|⟨h, -⟩|⟨-,z,rfl,b⟩|⟨-,q,rfl,c⟩
 ·exact .inl ⟨rfl,apd⟩
 ·exact absurd h d
 ·exact a ⟨(z:Rat),⟨b,by rw[Rat.den_intCast];decide⟩,(pG (q:=(z:Rat)) rfl).symm⟩
 ·exact a ⟨q,c,rfl⟩
noncomputable def np(f:Fu)(t:aF):Rat:=if f.2.1=1 then pR t else if f.2.1=2 then pR t*pR t else if f.2.1=3 then (if t=f.2.2 then 1 else 0) else if f.2.1=4 then (if t≠ []/\ER (pR t) (pR f.2.2)<0 then 1 else 0) else if t= [] then 0 else 1
def arB{x:aQ}{f:Fu}{t:aF}(h:oQ x f)(c:eL (kd x f.1) t):zK f.2.1 t f.2.2 (np f t):=by
 obtain⟨-,h⟩:=h;unfold np;rcases h with⟨a,b, -⟩|⟨a,b, -⟩|⟨a, -⟩|⟨a,b,e,d⟩|⟨a, -⟩
 ·rw[a];exact .inl ⟨rfl,PJ c b⟩
 ·rw[a];exact .inr (.inl ⟨rfl,_,PJ c b,rfl⟩)
 ·rw[a];exact .inr (.inr (.inl ⟨rfl,rfl⟩))
 ·rw[a];exact .inr (.inr (.inr (.inl ⟨rfl,_,_,PJ c b,PJ d b,rfl⟩)))
 ·rw[a];exact .inr (.inr (.inr (.inr ⟨rfl,rfl⟩)))
def sP:Nat:=27720*27720
def vy:Nat:=27720*1000000000*(27720*1000000000)
def asS:sP<=vy:=Od
def am1(q:Rat):q*((q.den:Int):Rat)=(q.num:Rat):=by
 have a:(q.den:Int)≠0:=aAd;rw[<-Kh];show Rat.divInt (q.num*(q.den:Int)) ((q.den:Int)*1)=_
 rw[Int.mul_comm (q.den:Int) 1,Rat.divInt_mul_right a];exact Rat.num_divInt_den (q.num:Rat)
def Wj(h:mG H):dQ 27720 (27720*1000000000) H:=by
 obtain⟨⟨l,j⟩,i⟩:=h;have c:=H.den_pos;have d:H.den∣27720:=(by have g:H.den=1\/H.den=2\/H.den=3\/H.den=4\/H.den=5\/H.den=6\/H.den=7\/H.den=8\/H.den=9\/H.den=10\/H.den=11\/H.den=12:=Om;rcases g with h|h|h|h|h|h|h|h|h|h|h|h<;>rw[h]<;>decide)
 obtain⟨k,b⟩:=d;have a:k<=27720:=by rw[b];exact aak _ c
 refine⟨H.num*k,?_,?_⟩
 ·have e:H*((H.den:Int):Rat)=(H.num:Rat):=am1 H;rw[show((27720:Nat):Int)=(H.den:Int)*(k:Int) by rw[<-mM,<-b],GP,<-Rat.mul_assoc,e,GP]
 ·rw[vV,f6];have f:H.num.natAbs<=1000000000:=Om;calc H.num.natAbs*k<=1000000000*27720:=xN f a
   _=27720*1000000000:=Od
def ae6{p:Prop} [Decidable p]:dQ sP vy (if p then (1:Rat) else 0):=by
 split
 ·exact(Ic.up (C:=sP)).mono Od
 ·exact KN _ _
def aev(f:Fu)(t:aF):dQ sP vy (np f t):=by
 unfold np;split
 ·exact((Wj (PK t)).up (C:=27720)).mono Od
 split
 ·exact(Wj (PK t)).mul (Wj (PK t))
 split
 ·exact ae6
 split
 ·exact ae6
 split
 ·exact KN _ _
 ·exact(Ic.up (C:=sP)).mono Od
def aeJ:dQ sP vy 1:=(Ic.up (C:=sP)).mono Od
def acH(v:Nat)(g:Fu->Rat):gS v g []=1:=rfl
def Pf(v:Nat)(g:Fu->Rat)(f:Fu):gS v g [f]=if f.1=v then g f else 1:=by
 show(1:Rat)*_=_
 rw[Uc]
def UM(v:Nat)(t:aF):∀l:List Fu,l.length<=1->dQ sP vy (gS v (fun f=>np f t) l)
 | [],_=>aeJ
 | [f],_=>by
   rw[Pf];split
   ·exact aev f t
   ·exact aeJ
 |_::_::_,h=>by simp at h
def aex(h:dQ sP vy H):bS 100000 H:=(dQ.fit h Od (e:=27) Od Od).mono Od
def nI(x:aQ)(D:List (List Rw)):Prop:=jD x D/\∀l∈D,l.length<=4
def ab4(x:aQ)(b:cF x):∃f0,Whole x.aq.length (bJ x) (bV x) f0:=by obtain⟨d, -,h⟩:=ali (n:=x.aq.length) (at_:=bJ x) (hl:=bV x) (perm:=List.range x.aq.length) (fun a f=>dP.2 f) sV (fun t e=>by have c:=km.1 e;intro h;rw[uP c] at h;exact b.rn _ (aZ c) (List.map_eq_nil_iff.1 h)) (Lc b) (fun _=>none);exact⟨_,h⟩
end Go.Proofs.YthfffpcmldipgaaGreatDoor
