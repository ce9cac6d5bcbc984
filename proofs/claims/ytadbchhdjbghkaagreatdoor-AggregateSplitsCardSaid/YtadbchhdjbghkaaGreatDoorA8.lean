/- Texts of the proof, part 8. -/
import Derived.Test.YtadbchhdjbghkaaGreatDoorA7
namespace Go.Proofs.YtadbchhdjbghkaaGreatDoor
set_option maxHeartbeats 8000000
set_option linter.all false
set_option maxRecDepth 100000
variable{aq:Prop}
open Go.RowKit Go.Lib Go.Maps Go.ChangeShapes Go.WideShapes Go.ChangeAt Go.Proofs.Tryz
variable{a b c d e f g h:Nat}{i j k l:List Nat}{m n o:World}{p q r s:Value}{t u v:List Value}{w x:TypeId}{y z:Nat→Option Nat}{A:Nat→List Nat}{B C:Int}{E F:Option Addr}{H I:Rat}{J:Nat→Nat}{K:Nat→Bool}{L:List Int}{N:Array Bool}{O:Option Nat}{Q:Act}{R S:Bool}{T:List UInt8}
def S_{x y:UInt8}(h:x≠y):((x.toNat:Int)==(y.toNat:Int))=false:=by rw[beq_eq_false_iff_ne];intro a;exact h (Qc Om)
def Zy(l:List UInt8)(w:au)(j:l.length<=100000000)(d:(47:UInt8)∉l):
 Calls prog 83 #[aL l] w fun e f=>e= .returned (.tuple #[aL l,.string ⟨#[49]⟩,.bool false])/\Ext w f:=by
 have i:=af d;clear d;go_enter func83,ntmps83;go_wp2;go_loop [5] (fun b=>∃k:Nat,k<=l.length/\b=av k) (fun b=>l.length - (RowKit.intOf b).toNat);exact⟨0,aV _,rfl⟩;obtain⟨k,m,rfl⟩:=hrel;by_cases a:k<l.length
 ·have c:k<(ByteArray.mk l.toArray).size:=a;have g:((((ByteArray.mk l.toArray)[k]'c).toNat:Int)==47)=false:=S_ (y:=47) (fun h=>i (by rw[<-h];exact a_ a));exact TY
 ·go_wp2;go_ret3;exact⟨rfl,aB _⟩
def Zx(a b:List UInt8)(w:au)(D:a.length+b.length<=10000000)(n:(47:UInt8)∉a):
 Calls prog 83 #[aL (a++47::b)] w fun e q=>e= .returned (.tuple #[aL a,aL b,.bool true])/\Ext w q:=by
 have A:=af n;have d:(a++47::b).length=a.length+b.length+1:=Oc;obtain⟨l,f⟩:∃l,l=a++47::b:=⟨_,rfl⟩;have c:=af f;rw[<-f] at d⊢;have z:=af d;have u:a.length<l.length:=Om;have t:l.length<=10000001:=Om;clear n d f;go_enter func83,ntmps83;go_wp2;go_loop [5] (fun j=>∃k:Nat,k<=a.length/\j=av k) (fun j=>l.length - (RowKit.intOf j).toNat)
 exact⟨0,aV _,rfl⟩;obtain⟨k,E,rfl⟩:=hrel;have m:k<l.length:=Om;have g:k<(ByteArray.mk l.toArray).size:=m;by_cases i:k<a.length
 ·have s:((((ByteArray.mk l.toArray)[k]'g).toNat:Int)==47)=false:=S_ (y:=47) (fun h=>A (by
   have e:l[k]=a[k]:=by simp [c.ae,i]
   rw[<-h];show l[k]∈a
   rw[e];exact a_ i))
  exact TY
 ·obtain rfl:k=a.length:=Om;have v:((((ByteArray.mk l.toArray)[a.length]'g).toNat:Int)==47)=true:=by
   have e:l[a.length]=47:=by simp [c.ae]
   have x:((ByteArray.mk l.toArray)[a.length]'g)=47:=e;rw[x];rfl
  have G:(a.length:Int)<=(l.length:Int):=Om;have F:(a.length:Int)+1<=(l.length:Int):=Om;have p:(ByteArray.mk l.toArray).extract 0 a.length=⟨a.toArray⟩:=by rw[Bn,c.ae];simp
  have o:(ByteArray.mk l.toArray).extract (a.length+1) l.length=⟨b.toArray⟩:=by rw[Bn,dz (aK _),c.ae,show a++47::b=(a++ [47])++b by simp,List.drop_left' Ou]
  have C:=af p;have B:=af o;have r:IntKind.i64.wrap ((a.length:Int)+1)=(a.length:Int)+1:=Eg _ Om;clear p o;go_wp2;go_quiet (fail);go_wp2;go_ret3;refine⟨?_,(aB _).drewN _⟩;show Ending.returned (Value.tuple #[.string ((ByteArray.mk l.toArray).extract 0 a.length),.string ((ByteArray.mk l.toArray).extract (a.length+1) l.length),.bool true])=_
  rw[C.ae,B.ae]
def ah9(w:au):Calls prog 154 #[.string ⟨#[49]⟩] w fun e a=>e= .returned (.bool true)/\w=a:=by have h:=QE 1 w (by rw[show(1:Int).natAbs=1 from rfl,nDigits_small Od];decide);rw[ui] at h;exact h
def akd(v:Value)(w:au)(h:bK w v ((1:Nat):Int)):Calls prog 33 #[v] w fun e b=>e= .returned (.string ⟨#[49]⟩)/\Ext w b:=by have a:=Rk v 1 w h Bl.wide;rw[ui] at a;exact a
def aiJ(q:Rat)(w:au)(s:bF 400 q):
 Calls prog 82 #[aL (bS q)] w fun e T=>e= .returned (.tuple #[aL (aQ q.num),aL (decDigits q.den),.bool true])/\Ext w T:=by
 have o:=ub q.num;have g:=s.dn;have j:=s.dd;have N:=af (fun w=>QE q.num w s.dn);by_cases h1:q.den=1
 ·have G:=af (nP h1);have c:decDigits q.den= [49]:=by rw[h1];exact k8 Od
  rw[G.ae,c];have f:=sV q.num;have r:((aQ q.num).length:Int)<=802:=Om;generalize aQ q.num=a at*;have H:=af (fun w=>Zy a w Om f);clear o g j h1 s f c;go_enter func82,ntmps82;go_wp2_with fail
  refine(H w).mono ?_;rintro e k ⟨rfl,i⟩;go_wp2_with fail;refine(N k).mono ?_;rintro e S ⟨rfl,rfl⟩;go_wp2_with fail;refine(ah9 k).mono ?_;rintro e R ⟨rfl,rfl⟩;go_wp2;go_ret3;exact⟨rfl,i⟩
 ·have G:=af (o_ h1);have c:nDigits (q.den:Int).natAbs<=400:=by rw[fY];exact j
  have W:=af (fun w=>QE q.den w c);have Y:=af (fun w=>Hy q.num w (pu g).wide);have X:=af (fun w=>Hy q.den w (pu c).wide);have F1:=af (pu g);have F2:=af (pu c);have U:(aQ q.num== [48])=false:=(by exact aeK)
  have d:decDigits q.den=aQ q.den:=(p6 _).symm;have J:(aQ q.den== [49])=false:=(by rw[beq_eq_false_iff_ne];intro h;have h0:(q.den:Int)=1:=yL (h.trans ui.symm);exact h1 Om)
  have K:(aQ q.den== [48])=false:=(by rw[beq_eq_false_iff_ne];intro h;have h0:(q.den:Int)=0:=yL (h.trans Bo.symm);have:=q.den_pos;omega);have I:Nat.gcd q.num.natAbs (q.den:Int).natAbs=1:=by rw[fY];exact q.reduced
  have Z:=af I;have f:=sV q.num;have p:(aQ q.num).length+(aQ q.den).length<=10000000:=by rw[<-d,decDigits_length];omega
  have r:((aQ q.num++47::aQ q.den).length:Int)<=802:=by rw[bC,cP,<-d,decDigits_length];omega
  obtain⟨v,u,t⟩:∃v u,aQ q.den=v::u:=by
   rcases L:decDigits q.den with _|⟨v,u⟩
   ·exact absurd L (AU _)
   ·exact⟨v,u,by rw[<-d,L]⟩
  have n:0<(ByteArray.mk (aQ q.den).toArray).size:=by show 0<(aQ q.den).length;rw[t];simp
  have M:((((ByteArray.mk (aQ q.den).toArray)[0]'n).toNat:Int)==45)=false:=S_ (y:=45) (fun h=>by
   have e:(aQ q.den)[0]'n=45:=h;have V:(45:UInt8)∈decDigits q.den:=by rw[d,<-e];exact a_ _
   exact Ti aw_ V)
  rw[G.ae,d];have H:=af (fun w=>Zx (aQ q.num) (aQ q.den) w p f);generalize aQ q.num=a at*;generalize aQ q.den=b at*;generalize a++47::b=ab at*;clear o g j h1 s f c I d p t;go_enter func82,ntmps82;go_wp2_with fail
  refine(H w).mono ?_;rintro e k ⟨rfl,i⟩;go_wp2_with fail;refine(N k).mono ?_;rintro e S ⟨rfl,rfl⟩;go_wp2_with fail;refine(W k).mono ?_;rintro e R ⟨rfl,rfl⟩;go_wp2_with fail;refine(Y k).mono ?_;rintro e Q ⟨v5,rfl,C,A⟩;obtain⟨b5,A5,n5,c5,rfl,F⟩:=C.parts;go_wp2_with fail;refine(X Q).mono ?_;rintro e P ⟨v6,rfl,B,l⟩;obtain⟨b6,A6,n6,c6,rfl,E⟩:=B.parts;go_wp2_with fail;refine(ab1 _ _ q.num q.den P (F.ext l) E F1 F2).mono ?_;rintro e O ⟨v7,rfl,m,z⟩;rw[Z.ae] at m;obtain⟨b7,A7,n7,c7,rfl,D⟩:=m.parts;go_wp2_with fail;refine(akd _ O D).mono ?_;rintro e w8 ⟨rfl,x⟩;go_wp2;go_ret3;exact⟨rfl,i.trans (A.trans (l.trans (z.trans x)))⟩
def LV(q:Rat)(w:au)(d:bF 400 q):
 Calls prog 35 #[aL (bS q)] w fun e f=>e= .returned (.bool true)/\Ext w f:=by
 have H:=af (fun w=>aiJ q w d);clear d;generalize bS q=t at*;generalize aQ q.num=a at*;generalize decDigits q.den=b at*;go_enter func35,ntmps35;go_wp2_with fail;refine(H w).mono ?_;rintro e g ⟨rfl,c⟩;go_wp2;go_ret;exact⟨rfl,c⟩
abbrev NH:TypeId:=103
def fI(w:au)(v:Value)(q:Rat):Prop:=∃a b c d,v= .agg #[a,b,c,d]/\bK w (.agg #[a,b]) q.num/\bK w (.agg #[c,d]) q.den
def fI.ext{w':au}(h:fI m p H)(e:Ext m w'):fI w' p H:=by obtain⟨a,b,c,d,rfl,g,f⟩:=h;exact⟨a,b,c,d,rfl,g.ext e,f.ext e⟩
def fI.keep(h:fI m p H)(e:Kept tI m n):fI n p H:=by obtain⟨a,b,c,d,rfl,g,f⟩:=h;exact⟨a,b,c,d,rfl,g.keep e,f.keep e⟩
def fI.parts(h:fI m p H):∃b A n c g i e f,p= .agg #[.bool b,.slice A n c,.bool g,.slice i e f]/\ah (bK m (.agg #[.bool b,.slice A n c]) H.num)/\ah (bK m (.agg #[.bool g,.slice i e f]) H.den):=by exact m97
def fI.mk'{c:Value}(f:bK m (.agg #[p,q]) H.num)(e:bK m (.agg #[c,r]) H.den):fI m (.agg #[p,q,c,r]) H:=⟨p,q,c,r,rfl,f,e⟩
def Mh{i:Func}{u0 u1 u2 u3:Value}{R:Ending->World->Prop}(c:i.results= #[.cell a NH])(k:Q.tmps.getD a undef=aI b 0)(l:Q.defers= [])
 (h:ar n b NH [u0,u1,u2,u3]) (u:fI n (.agg #[p,q,r,s]) H) (j:Ext m n) (d:m.heap.size<=b) (o:∀v f,fI f v H->Ext m f->R (.returned v) f):
 bodyPost prog i R .ret Q ((((n.setCell (aC b 0) p).setCell (aC b 1) q).setCell (aC b 2) r).setCell (aC b 3) s):=by
 have e:ar ((((n.setCell (aC b 0) p).setCell (aC b 1) q).setCell (aC b 2) r).setCell (aC b 3) s) b NH [p,q,r,s]:=(((h.bu 0 p).bu 1 q).bu 2 r).bu 3 s;exact bodyPost_ret (results_cell_row c Q.tmps _ b NH #[p,q,r,s] (0,0) _ k e underlying103 rfl Ok) l (o _ _ (u.keep (h.E6 Od 0 1 2 3 p q r s)) ((((j.setCell d _).setCell d _).setCell d _).setCell d _))
def akf(w:au):Calls prog 84 #[.string ⟨#[49]⟩] w fun e a=>∃v,e= .returned v/\bK a v 1/\Ext w a:=by have h:=Hy 1 w Bl.wide;rw[ui] at h;exact h
def q63.afz(h:aq:=by refine(akf w2).mono ?_;rintro e m ⟨u,rfl,hv3,hx3⟩;obtain⟨p,s,n,o,rfl,f⟩:=hv3.parts;have cH:=af (HX.trans (hx1.trans (hx2.trans hx3)));have jw:=af (HR.ext (hx1.trans (hx2.trans hx3)));have HF:ah (fI m (.agg #[.bool b2,.slice A2 n2 c2,.bool p,.slice s n o]) q):= .mk' (nC.ext hx3) (by rw[y.ae];exact f);exact U_):=h
def q64.afz(h:aq:=by refine(x w2).mono ?_;rintro e m ⟨u,rfl,hv3,hx3⟩;obtain⟨p,s,n,o,rfl,f⟩:=hv3.parts;have cH:=af (HX.trans (hx1.trans (hx2.trans hx3)));have jw:=af (HR.ext (hx1.trans (hx2.trans hx3)));have HF:ah (fI m (.agg #[.bool b2,.slice A2 n2 c2,.bool p,.slice s n o]) q):= .mk' (nC.ext hx3) (by skip;exact f);exact U_):=h
def L8(q:Rat)(w:au)(g:bF (e+1) q)(B:e<=100000):
 Calls prog 36 #[aL (bS q)] w fun e t=>∃v,e= .returned v/\fI t v q/\Ext w t:=by
 have z:=af (g.num Om).wide;have A:=af (g.den Om).wide;have j:=ub q.num;have i:=g.dn;have l:=g.dd;have c:=sV q.num;have RN:=af (fun w=>Hy q.num w z);have x:=af (fun w=>Hy q.den w A);by_cases h1:q.den=1
 ·have r:=af (nP h1);have HC:=af (fun w=>Zy (aQ q.num) w Om c);have y:ah ((q.den:Int)=1):=by rw[ah,h1];rfl
  clear j i l h1 g c;rw[r.ae];generalize aQ q.num=a at*;open q63 in exact ae8
 ·have r:=af (o_ h1);have d:decDigits q.den=aQ q.den:=(p6 _).symm;have k:(aQ q.num).length+(aQ q.den).length<=10000000:=by rw[<-d,decDigits_length];omega
  have HC:=af (fun w=>Zx (aQ q.num) (aQ q.den) w k c);rw[r.ae,d];clear j i l h1 g c k d;generalize aQ q.num=a at*;generalize aQ q.den=b at*;generalize a++47::b=C at*;open q64 in exact ae8
def aui(z:Int)(w:au)(i: -9223372036854775808<=z)(h1:z<=9223372036854775807):
 Calls prog 157 #[av z] w fun e g=>∃v,e= .returned v/\fI g v (z:Rat)/\Ext w g:=by
 have s:=af (fun w=>SE z w i h1);have t:=af (fun w=>SE 1 w Od Od);obtain⟨q,b⟩:∃q:Rat,q=(z:Rat):=⟨_,rfl⟩;rw[<-b];have d:ah (z=q.num):=by rw[ah,b];rfl
 have f:ah ((q.den:Int)=1):=by rw[ah,b];rfl
 clear i h1 b;go_enter func157,ntmps157;go_wp2_with fail;refine aT (P:=fun W=>Calls _ _ _ W _) fun W u x=> ?_;refine(s W).mono ?_;rintro e k ⟨C,rfl,hv2,hx2⟩;obtain⟨r,A,m,o,rfl,a⟩:=hv2.parts;go_wp2_with fail;refine(t k).mono ?_;rintro e j ⟨B,rfl,hv3,hx3⟩;obtain⟨p,y,l,n,rfl,c⟩:=hv3.parts;have hx1:=aB W;rw[d.ae] at a;have cH:=af (u.trans (hx1.trans (hx2.trans hx3)));have jw:=af (x.ext (hx1.trans (hx2.trans hx3)));have HF:ah (fI j (.agg #[.bool r,.slice A m o,.bool p,.slice y l n]) q):= .mk' (a.ext hx3) (by rw[f.ae];exact c);exact U_
def ajC(x y:Int)(l:0<y):signed (decide (x<0) !=decide ((((Nat.gcd x.natAbs y.natAbs:Nat):Int))<0)) (x.natAbs/ (((Nat.gcd x.natAbs y.natAbs:Nat):Int)).natAbs)=(Rat.divInt x y).num/\signed (decide (y<0) !=decide ((((Nat.gcd x.natAbs y.natAbs:Nat):Int))<0)) (y.natAbs/ (((Nat.gcd x.natAbs y.natAbs:Nat):Int)).natAbs)=((Rat.divInt x y).den:Int):=by
 have g:=Qo x y l;have e:Int.gcd x y=Nat.gcd x.natAbs y.natAbs:=rfl;rw[e] at g;have j:0<Nat.gcd x.natAbs y.natAbs:=Nat.gcd_pos_of_pos_right _ Om;have f:Nat.gcd x.natAbs y.natAbs∣x.natAbs:=Nat.gcd_dvd_left _ _;have d:Nat.gcd x.natAbs y.natAbs∣y.natAbs:=Nat.gcd_dvd_right _ _;rw[g.1,g.2];generalize Nat.gcd x.natAbs y.natAbs=G at*;rw[fY,decide_eq_false (show¬((G:Int)<0) by omega),decide_eq_false (show¬(y<0) by omega)];obtain⟨a,i⟩:=f;obtain⟨b,k⟩:=d;rw[i,k,Nat.mul_div_cancel_left _ j,Nat.mul_div_cancel_left _ j];constructor
 ·by_cases h:x<0
  ·have c:x=(G:Int)*(-(a:Int)):=by rw[Int.mul_neg,<-k6,<-i];omega
   rw[decide_eq_true h,c,YH _ Om];rfl
  ·have c:x=(G:Int)*(a:Int):=by rw[<-k6,<-i];omega
   rw[decide_eq_false h,c,YH _ Om];rfl
 ·have c:y=(G:Int)*(b:Int):=by rw[<-k6,<-k];omega
  rw[c,YH _ Om];rfl
def ZN(h:bK m (.agg #[.bool R,.slice E a b]) B)(e:B≠0):0<a:=by
 obtain⟨_,rfl,_⟩:=h.inv;rcases ip (aW B.natAbs).length with d|d
 ·have:=qW.1 (mh d);omega
 ·exact d
def q65.wG(h:aq:=by
 have D:=af (ajC x y hy);have E:=ZN HB Om;have r:((nb:Int)==0)=false:=avM;have F:0<Nat.gcd x.natAbs y.natAbs:=Nat.gcd_pos_of_pos_right _ Om;have B:ah (((Nat.gcd x.natAbs y.natAbs:Nat):Int)≠0):=by unfold ah;omega
 have FG:ah (cE ((Nat.gcd x.natAbs y.natAbs:Nat):Int)):=FY.le (by rw[fY];exact Nat.gcd_le_right _ Om);have L:=af (fun(w:au) (n m:Value) (ha:bK w n x) (hb:bK w m y)=>ab1 n m x y w ha hb FX FY);generalize Nat.gcd x.natAbs y.natAbs=G at*;clear ha hb fx fy F;go_enter func85,ntmps85;go_wp2_with fail
 refine qq (P:=fun W=>Calls _ _ _ W _) fun W k BA BB BR=> ?_;refine(L W _ _ (HA.ext k) (HB.ext k)).mono ?_;rintro e w1 ⟨v1,rfl,j,q⟩;obtain⟨b1,A1,n1,c1,rfl,xx⟩:=j.parts;go_upto_region 4 with fail
 refine aT fun W2 A BG=> ?_;have f:=af (q.trans A);have U:=af (BA.ext f);have T:=af (BB.ext f);have O:=af (BR.ext f);have z:=af (k.trans f);have C:=af (j.ext A);obtain⟨a0,a1⟩:=U.two;obtain⟨Z,Y⟩:=BG.two;clear q j r E;go_wp2_with fail
 refine(R4 _ _ x G W2 (HA.ext z) C FX FG B).mono ?_;rintro e w3 ⟨v3,v3',rfl,c,i,p⟩;rw[D.1] at c;obtain⟨b3,A3,n3,c3,rfl,J_⟩:=c.parts;obtain⟨b3',A3',n3',c3',rfl,_⟩:=i.parts;go_upto_region 5 with fail
 refine fR fun W4 u BN _=> ?_;have a:=af (p.trans u);have S:=af (T.ext a);have N:=af (O.ext a);have R:=af (BG.ext a);have t:=af (z.trans a);have M:=af (C.ext a);have K:=af (c.ext u);obtain⟨b0,b1⟩:=S.two;obtain⟨Z,Y⟩:=R.two;clear p c i a0 a1;go_wp2_with fail
 refine(R4 _ _ y G W4 (HB.ext t) M FY FG B).mono ?_;rintro e w5 ⟨v5,v5',rfl,b,g,o⟩;rw[D.2] at b;obtain⟨b5,A5,n5,c5,rfl,J⟩:=b.parts;obtain⟨b5',A5',n5',c5',rfl,_⟩:=g.parts;have H:b5=false:=by rw[J.inv.1];exact decide_eq_false Om
 subst H;go_upto_region 6 with fail
 refine fR fun W6 s BD _=> ?_;have d:=af (o.trans s);have l:=af (N.ext d);have Q:=af (BN.ext d);have I:=af (t.trans d);have HF:ah (fI W6 (.agg #[.bool b3,.slice A3 n3 c3,.bool false,.slice A5 n5 c5]) (Rat.divInt x y)):= .mk' (K.ext d) (b.ext s);obtain⟨n0,n1⟩:=Q.two;obtain⟨d0,d1⟩:=BD.two;obtain⟨k0,k1,k2,k3⟩:=l.four;obtain⟨f0,f1,f2,f3⟩:=l.eX;clear o b g b0 b1 Z Y;go_wp2;exact Mh rfl rfl rfl l.ae HF I Om (fun v W' h1 h2=>⟨v,rfl,h1,h2⟩)):=h
def ab0(n m:Value)(x y:Int)(w:au)(ha:bK w n x)(hb:bK w m y)(fx:cE x)(fy:cE y)(hy:0<y):
 Calls prog 85 #[n,m] w fun e V=>∃X,e= .returned X/\fI V X (Rat.divInt x y)/\Ext w V:=by
 open q65 in exact wE
def aiE(a b:Rat):Rat.divInt (a.num*b.den - b.num*a.den) (a.den*b.den)=a - b:=by have h:=Ht a (-b);rw[Rat.neg_num,Rat.neg_den,Int.neg_mul,<-P5] at h;rw[h,Rat.sub_eq_add_neg]
def bF.aqw(g:bF a H)(f:bF b I)(c:a+b+1<=1000000):cE (H.num*I.den - I.num*H.den):=by have h:=bF.Ur g f.neg c;rw[Rat.neg_num,Rat.neg_den,Int.neg_mul,<-P5] at h;exact h
def q66.NQ(h:aq:=by
 have T:=af (LZ (ug p) (ug q));clear ha hb fa fb I;go_enter func37,ntmps37;go_wp2_with fail;refine qq fun W n k j U=> ?_;obtain⟨S,R,Q,P⟩:=k.four;obtain⟨O,N,M,L⟩:=j.four;go_region_held3 (fun f=>(aA f w.heap.size 0 (.bool ba)/\aA f w.heap.size 1 (.slice Aa na ca)/\aA f w.heap.size 2 (.bool bb)/\aA f w.heap.size 3 (.slice Ab nb cb))/\aA f (w.heap.size+1) 0 (.bool bc)/\aA f (w.heap.size+1) 1 (.slice Ac nc cc)/\aA f (w.heap.size+1) 2 (.bool bd)/\aA f (w.heap.size+1) 3 (.slice Ad nd cd)) (first|with_reducible exact⟨⟨S,R,Q,P⟩,O,N,M,L⟩|with_reducible exact⟨k.ae.drew.four,j.ae.drew.four⟩|with_reducible exact⟨(k.ae.ext i).four,(j.ae.ext i).four⟩|with_reducible exact⟨(k.ae.ext m).four,(j.ae.ext m).four⟩|with_reducible exact⟨(k.ae.ext g).four,(j.ae.ext g).four⟩|with_reducible exact⟨(k.ae.ext l).four,(j.ae.ext l).four⟩|with_reducible exact⟨(k.ae.ext c).four,(j.ae.ext c).four⟩|with_reducible exact⟨((k.ae.ext c).qf (CK _) _ _ _ _).four,((j.ae.ext c).qf (Cm _) _ _ _ _).four⟩)
  (first
    |(go_at_call 86;(with_reducible show Calls _ _ #[Value.agg #[Value.bool ba,_],_] _ _);refine(EH _ _ p.num q.den _ (HA.ext aw0) (HD.ext aw0) FA.wide FD.wide).mono ?_;rintro b d ⟨v3,rfl,C,x⟩;have i:=(aB W).drew.trans x)
    |(go_at_call 86;(with_reducible show Calls _ _ #[Value.agg #[Value.bool bc,_],_] _ _);refine(EH _ _ q.num p.den _ (HC.ext awR) (HB.ext awR) FC.wide FB.wide).mono ?_;rintro b Z ⟨v4,rfl,B,s⟩;have m:=i.trans s)
    |(go_at_call 87;refine(ab3 _ _ _ _ _ (C.ext (by exact s)) B F1.wide F2.wide).mono ?_;rintro b Y ⟨v5,rfl,A,u⟩;have g:=m.trans u)
    |(go_at_call 86;(with_reducible show Calls _ _ #[Value.agg #[Value.bool bb,_],_] _ _);refine(EH _ _ p.den q.den _ (HB.ext awS) (HD.ext awS) FB.wide FD.wide).mono ?_;rintro b X ⟨v6,rfl,z,r⟩;have l:=g.trans r)
    |(go_at_call 85;refine(ab0 _ _ _ _ _ (A.ext (by exact r)) z F4 F3 T).mono ?_;rintro b V ⟨e,rfl,y,t⟩;have c:=l.trans t;obtain⟨r0,R0,r1,r2,s0,S0,s1,s2,rfl,E,D⟩:=(y).parts;have o:=af (U.ext c);obtain⟨k0,k1,k2,k3⟩:=o.four;obtain⟨f0,f1,f2,f3⟩:=o.eX))
 all_goals
  go_wp2;refine Mh rfl rfl rfl o.ae (.mk' E.ae D.ae) (n.trans c) Om (fun v W' K J=>⟨v,rfl,?_,J⟩);rw[<-Ht];exact K):=h
def akm(G F:Value)(p q:Rat)(w:au)(ha:fI w G p)(hb:fI w F q)(fa:bF a p)(fb:bF b q)(I:a+b+1<=1000000):
 Calls prog 37 #[G,F] w fun b f=>∃H,b= .returned H/\fI f H (p+q)/\Ext w f:=by
 have F4:=af (bF.Ur fa fb I);open q66 in exact m20
def q67.NQ(h:aq:=by
 have T:=af (LZ (ug p) (ug q));clear ha hb fa fb I;go_enter func39,ntmps39;go_wp2_with fail;refine qq fun W n k j U=> ?_;obtain⟨S,R,Q,P⟩:=k.four;obtain⟨O,N,M,L⟩:=j.four;go_region_held3 (fun f=>(aA f w.heap.size 0 (.bool ba)/\aA f w.heap.size 1 (.slice Aa na ca)/\aA f w.heap.size 2 (.bool bb)/\aA f w.heap.size 3 (.slice Ab nb cb))/\aA f (w.heap.size+1) 0 (.bool bc)/\aA f (w.heap.size+1) 1 (.slice Ac nc cc)/\aA f (w.heap.size+1) 2 (.bool bd)/\aA f (w.heap.size+1) 3 (.slice Ad nd cd)) (first|with_reducible exact⟨⟨S,R,Q,P⟩,O,N,M,L⟩|with_reducible exact⟨k.ae.drew.four,j.ae.drew.four⟩|with_reducible exact⟨(k.ae.ext i).four,(j.ae.ext i).four⟩|with_reducible exact⟨(k.ae.ext m).four,(j.ae.ext m).four⟩|with_reducible exact⟨(k.ae.ext g).four,(j.ae.ext g).four⟩|with_reducible exact⟨(k.ae.ext l).four,(j.ae.ext l).four⟩|with_reducible exact⟨(k.ae.ext c).four,(j.ae.ext c).four⟩|with_reducible exact⟨((k.ae.ext c).qf (CK _) _ _ _ _).four,((j.ae.ext c).qf (Cm _) _ _ _ _).four⟩)
  (first
    |(go_at_call 86;(with_reducible show Calls _ _ #[Value.agg #[Value.bool ba,_],_] _ _);refine(EH _ _ p.num q.den _ (HA.ext aw0) (HD.ext aw0) FA.wide FD.wide).mono ?_;rintro b d ⟨v3,rfl,C,x⟩;have i:=(aB W).drew.trans x)
    |(go_at_call 86;(with_reducible show Calls _ _ #[Value.agg #[Value.bool bc,_],_] _ _);refine(EH _ _ q.num p.den _ (HC.ext awR) (HB.ext awR) FC.wide FB.wide).mono ?_;rintro b Z ⟨v4,rfl,B,s⟩;have m:=i.trans s)
    |(go_at_call 89;refine(amc _ _ _ _ _ (C.ext (by exact s)) B F1.wide F2.wide).mono ?_;rintro b Y ⟨v5,rfl,A,u⟩;have g:=m.trans u)
    |(go_at_call 86;(with_reducible show Calls _ _ #[Value.agg #[Value.bool bb,_],_] _ _);refine(EH _ _ p.den q.den _ (HB.ext awS) (HD.ext awS) FB.wide FD.wide).mono ?_;rintro b X ⟨v6,rfl,z,r⟩;have l:=g.trans r)
    |(go_at_call 85;refine(ab0 _ _ _ _ _ (A.ext (by exact r)) z F4 F3 T).mono ?_;rintro b V ⟨e,rfl,y,t⟩;have c:=l.trans t;obtain⟨r0,R0,r1,r2,s0,S0,s1,s2,rfl,E,D⟩:=(y).parts;have o:=af (U.ext c);obtain⟨k0,k1,k2,k3⟩:=o.four;obtain⟨f0,f1,f2,f3⟩:=o.eX))
 all_goals
  go_wp2;refine Mh rfl rfl rfl o.ae (.mk' E.ae D.ae) (n.trans c) Om (fun v W' K J=>⟨v,rfl,?_,J⟩);rw[<-aiE];exact K):=h
def akl(G F:Value)(p q:Rat)(w:au)(ha:fI w G p)(hb:fI w F q)(fa:bF a p)(fb:bF b q)(I:a+b+1<=1000000):
 Calls prog 39 #[G,F] w fun b f=>∃H,b= .returned H/\fI f H (p - q)/\Ext w f:=by
 have F4:=af (bF.aqw fa fb I);open q67 in exact m20
def aiO(v:Value)(q:Rat)(w:au)(h:fI w v q)(hf:bF 400 q):
 Calls prog 38 #[v] w fun e k=>e= .returned (.tuple #[aL (bS q),av 0])/\Ext w k:=by
 obtain⟨b,A,n,c,r,t,m,p,rfl,H,H'⟩:=h.parts;have iN:nDigits (q.den:Int).natAbs<=400:=by rw[fY];exact hf.dd
 have GN:=af (fun(v:Value) (w:au) (h:bK w v q.num)=>aaU v q.num w h hf.dn);have GD:=af (fun(v:Value) (w:au) (h:bK w v q.den)=>aaU v q.den w h iN);have VD:=ub q.num;have qx:=hf.dn;have j4:=hf.dd;have JH:decDigits q.den=aQ q.den:=(p6 _).symm;have VH:(aQ q.num).length<=401:=Om;have Jt:(aQ q.den).length<=400:=by rw[<-JH,decDigits_length];exact j4
 clear h;by_cases h1:q.den=1
 ·have g:=af (nP h1);have d:(aQ q.den== [49])=true:=by rw[h1];rw[beq_iff_eq];exact ui
  rw[g.ae];generalize aQ q.num=a at*;generalize aQ q.den=j at*;exact m50
 ·have g:=af (o_ h1);have d:(aQ q.den== [49])=false:=(by rw[beq_eq_false_iff_ne];intro h;have o:(q.den:Int)=1:=yL (h.trans ui.symm);exact h1 Om)
  rw[g.ae,JH];have l:=fun w=>Iy (aQ q.num) [47] w Oc;have f:=fun w=>Iy (aQ q.num++ [47]) (aQ q.den) w Oc;have i:ah (aQ q.num++ [47]++aQ q.den=aQ q.num++47::aQ q.den):=by rw[ah];simp
  generalize aQ q.num=a at*;generalize aQ q.den=j at*;rw[i.ae] at f;generalize a++47::j=s at*;exact m50
def ao1(h:bK m (.agg #[.bool R,.slice E a b]) B):(((a:Int)==0))=decide (B=0):=by
 obtain⟨_,rfl,_⟩:=h.inv;by_cases d:B=0
 ·subst d;rfl
 ·rw[decide_eq_false d,beq_eq_false_iff_ne];have:=ZN h d;omega
def aiM(v:Value)(q:Rat)(w:au)(h:fI w v q):
 Calls prog 90 #[v] w fun e a=>e= .returned (.bool (decide (q.num=0)))/\Ext w a:=by
 obtain⟨b,A,n,c,i,k,f,g,rfl,H,j⟩:=h.parts;have d:=af (ao1 H);clear h;go_enter func90,ntmps90;go_wp2;go_ret;exact⟨amf d,(aB w).alloc _⟩
def aiN(v:Value)(q:Rat)(w:au)(h:fI w v q):
 Calls prog 40 #[v] w fun e d=>e= .returned (av q.num.sign)/\Ext w d:=by
 have HZ:=af (fun(w:au) (h:fI w v q)=>aiM v q w h);obtain⟨b,A,n,c,i,k,f,g,rfl,H,j⟩:=h.parts;have HV:=af h;have a:=H.inv.1;clear h;rcases P9 q.num 0 with hz|hz|hz
 ·rw[decide_eq_true hz] at a;subst a;have HS:=af (G5 hz);clear hz;go_enter func40,ntmps40;go_wp2;go_ret;exact⟨mV HS.symm,(aB w).alloc _⟩
 ·rw[decide_eq_false Om] at a;subst a;have hd:decide (q.num=0)=true:=decide_eq_true hz;have HS:ah (q.num.sign=0):=by rw[ah,hz];rfl
  exact m78
 ·rw[decide_eq_false Om] at a;subst a;have hd:decide (q.num=0)=false:=aY;have HS:=af (Aj hz);exact m78
def q68.k61(h:aq:=by refine(aiN _ (p - q) w5 tD).mono ?_;rintro e k ⟨rfl,c⟩;go_wp2;go_ret;exact⟨rfl,hx1.trans (hx2.trans (hx3.trans (g_.trans (fM.trans c))))⟩):=h
def ahp(p q:Rat)(w:au)(b:bF 400 p)(a:bF 400 q):
 Calls prog 13 #[aL (bS p),aL (bS q)] w fun e g=>e= .returned (av (p - q).num.sign)/\Ext w g:=by
 have V1:=af (fun w=>LV p w b);have V2:=af (fun w=>LV q w a);have R1:=af (fun w=>L8 p w (e:=399) b Od);have R2:=af (fun w=>L8 q w (e:=399) a Od);have OP:=af (fun(f d:Value) (w:au) (j:fI w f p) (i:fI w d q)=>akl f d p q w j i b a Od);clear b a;generalize bS p=m at*;generalize bS q=l at*;go_enter func13,ntmps13;open q68 in exact m61
abbrev Fb:TypeId:=72
def eG(l:List Int):List Value:=l.map (Value.int .i64)
def Ex{l:List Int}{k:Nat}(h:k<l):(eG l)[k]? =some (av l[k]):=by simp [eG,h]
def df(w:au)(g:Nat):Prop:=∃(t:TypeId) (A:aR) (a:List Int) (c k:Nat),a.length<=600/\k<=a.length/\ar w g Fb [.slice A a.length c,av (k:Int)]/\Sl w t A (eG a)/\(0<a.length->∀b,A=some b->b.block<g)/\∀z∈a, -9223372036854775808<=z/\z<=9223372036854775807
def df.ext{w':au}(h:df m g)(a:Ext m w'):df w' g:=by obtain⟨t,A,b,c,k,j,i,f,e,d⟩:=h;exact⟨t,A,b,c,k,j,i,f.ext a,e.ext a,d⟩
def df.lt(h:df m a):a<m.heap.size:=by obtain⟨t,A,d,c,k,j,i,b,f,e⟩:=h;exact b.lt
def df.below(h:df m a)(r:∀i,i<=a->n.heap[i]? =m.heap[i]?):df n a:=by
 obtain⟨t,A,d,c,k,E,D,C,B,v,z⟩:=h;refine⟨t,A,d,c,k,E,D,(r a (aK _)).trans C,?_,v,z⟩;intro j u e;obtain⟨l,o,p,F,s,y,f⟩:=B j u e;have b:0<d.length:=by
  rcases cA j d.length with q|q
  ·omega
  ·rw[fF (by simpa [eG] using q)] at e;cases e
 have x:l<a:=v b _ s;exact⟨l,o,p,F,s,(r l Om).trans y,f⟩
def df.grown(h:df m a)(c:m.grownBy n O)(b:∀k,O=some k->a<k):df n a:=
 h.below fun i d=>c.block i (by have:=h.lt;omega) (fun e=>by have:=b i e.symm;omega)
def amR(t:TypeId)(A:aR)(a:List Int)(c:Nat)(w:au)(u:a<=c)(_hm:c<=9223372036854775807)(m:a.length<=600)(j:Sl w t A (eG a))(i:∀z∈a, -9223372036854775808<=z/\z<=9223372036854775807):
 Calls prog 5 #[.slice A a c] w fun e d=>e= .returned (aI w.heap.size 0)/\df d w.heap.size/\Ext w d:=by
 have h:=af j;have s:=af i;have f:min (a.length:Int) 600=(a.length:Int):=Om;go_enter func5,ntmps5;go_wp2;go_ret;refine⟨rfl,⟨t,A,a,_,0,m,aV _,iT w Fb [_,_],h.ext ((aB w).alloc _),?_,s⟩,(aB w).alloc _⟩;intro q v p;rcases a with _|⟨z,r⟩
 ·simp at q
 ·obtain⟨g,o,b,n,_⟩:=h.at_ (Ex (l:=z::r) (k:=0) Ou);rw[p] at b;injection b with b;subst b;exact n
def aor(x:Int)(n:Nat)(b:0<n):∃r:Nat,r<n/\(x.tmod n+n)%n=(r:Int):=by
 refine⟨((x.tmod n+n)%n).toNat,?_,?_⟩
 ·have c:=Int.emod_lt_of_pos (x.tmod n+n) (show(0:Int)<n by omega);have a:=Int.emod_nonneg (x.tmod n+n) (show(n:Int)≠0 by omega);omega
 ·have a:=Int.emod_nonneg (x.tmod n+n) (show(n:Int)≠0 by omega);omega
def Nq(x:Int)(n:Nat):Int:=(x.tmod n+n)%n
def aos(x:Int)(n:Nat)(w:au)(j:0<n)(c:n<=1000000000):
 Calls prog 19 #[av x,av n] w fun e a=>e= .returned (av (Nq x n))/\w=a:=by
 have d:(n:Int)≠0:=Om;have g:=Int.lt_tmod_of_pos x (show(0:Int)<n by omega);have f:=Int.tmod_lt_of_pos x (show(0:Int)<n by omega);have h:ah (Nq x n=(x.tmod n+n)%n):=rfl;generalize Nq x n=r at*;generalize b:x.tmod n=i at*;go_enter func19,ntmps19;go_wp2;go_ret;exact⟨mV h.symm,rfl⟩
def ru(g m:Nat)(w:au)(h:df w g)(n:0<m)(K:m<=1000000):
 Calls prog 7 #[aI g 0,av m] w fun e B=>∃r:Nat,r<m/\e= .returned (av (r:Int))/\df B g/\Only g w B:=by
 obtain⟨t,A,a,c,k,C,P,O,N,M,L⟩:=h;have u:=af N;have j:=af O;have y:=af M;have G:=af L;obtain⟨F,E⟩:=j.two;have f1:=j.frozen 1;by_cases p:k<a
 ·obtain⟨D,I,rfl,_,_⟩:=u.at_ (Ex p);have q:D≠g:=Nat.ne_of_lt (y Om _ rfl);have o:decide (a<=k)=false:=aY;obtain⟨r,J,l⟩:=aor a[k] m n;have v:ah (Nq a[k] m=(r:Int)):=l;have f:=af (Ex p);generalize a[k]=z at*;go_enter func7,ntmps7;go_wp2;go_quiet (fail);have b:ah (ar (w.drewN nq) g Fb [aG D I a c,av (k:Int)]):=j.drewN nq;have x:ah (Only g w (w.drewN nq)):=(ig g w).drewN nq;generalize w.drewN nq=H at*;obtain⟨F,E⟩:=b.two;have f1:=b.frozen 1;go_wp2;have i:=af (b.bu 1 (av ((k:Int)+1)));have d:=af (x.bu 1 (av ((k:Int)+1)));generalize H.setCell (aC g 1) (av ((k:Int)+1))=S at*;have ei:=af (u.only d q);obtain⟨U,T,e,_,s⟩:=ei.at_ f;injection e with e;injection e with R Q;subst R Q;obtain⟨F,E⟩:=i.two;go_quiet ((go_at_call 19;exact M0 (aos z m _ n Om)));rw[v.ae];go_wp2;go_ret;exact⟨r,J,rfl,⟨t,_,a,c,k+1,C,p,i.drewN _,ei.ext ((aB _).drewN _),y,G⟩,d.drewN _⟩
 ·have o:decide (a<=k)=true:=fU;go_enter func7,ntmps7;go_wp2;go_quiet (fail);go_wp2;go_ret;exact⟨0,n,rfl,⟨t,A,a,c,k,C,P,j.drewN _,u.ext ((aB _).drewN _),y,G⟩,(ig _ _).drewN _⟩
def akq(g a b:Nat)(w:au)(h:df w g)(k:a<=b)(l:b<=100000):
 Calls prog 47 #[aI g 0,av a,av b] w fun e c=>∃r:Nat,a<=r/\r<=b/\e= .returned (av (r:Int))/\df c g/\Only g w c:=by
 have H:=af (ru g (b - a+1) w h Om Om);have e:(((b - a+1:Nat)):Int)=(b:Int) - a+1:=Om;rw[e] at H;go_enter func47,ntmps47;go_wp2_with fail
 refine H.mono ?_;rintro e i ⟨r,j,rfl,d,f⟩;go_wp2;go_ret;exact⟨a+r,by omega,by omega,mV Om,d,f⟩
def amv:ownKnob prog.godebug=none:=Ok
def amZ:laidOutB prog=true:=Ok
def apL:List Int:= [0,1,28,2,29,14,24,3,30,22,20,15,25,17,4,8,31,27,13,23,21,19,16,7,26,12,18,6,11,5,10,9]
def apK:List Int:= [0,1,56,2,57,49,28,3,61,58,42,50,38,29,17,4,62,47,59,36,45,43,51,22,53,39,33,30,24,18,12,5,63,55,48,27,60,41,37,16,46,35,44,21,52,32,23,11,54,26,40,15,34,20,31,10,25,14,19,9,13,8,7,6]
def ast:prog.globalNamed "internal/strconv.uint64pow10" =some 3:=Ok
noncomputable def low:Nat:=(World.holding prog default ⟨#[],#[],[]⟩).heap.size
def am1:Array Obj:= #[.cells #[.string {data:= #[118,97,108,117,101,32,111,117,116,32,111,102,32,114,97,110,103,101]}] 344,.cells #[.string {data:= #[105,110,118,97,108,105,100,32,115,121,110,116,97,120]}] 344]
noncomputable def Rz(a:Os):World:=
 let w:=World.holding prog a ⟨am1,#[],[]⟩
 {w with heap:=((((w.heap.modify 4 fun
  | .cells _ t frozen=> .cells (apL.map (Value.int .u8)).toArray t frozen
  |o=>o).modify 5 fun
  | .cells _ t frozen=> .cells (apK.map (Value.int .u8)).toArray t frozen
  |o=>o).modify 3 fun
  | .cells _ t frozen=> .cells (Lib.pow10Tab.map (Value.int .u64)).toArray t frozen
  |o=>o).modify 2 fun
  | .cells _ t frozen=> .cells #[.iface 342 (aI low 0)] t frozen
  |o=>o).modify 1 fun
  | .cells _ t frozen=> .cells #[.iface 342 (aI (low+1) 0)] t frozen
  |o=>o}
def aol(d:∀(j:Nat) (c:j<L.length),∃a,E=some a/\m.cell? (a.add j)=some (av L[j])):∃t,Sl m t E (eG L):=Sl.amD (by
 intro j u b;have c:j<L.length:=by
  rcases cA j L.length with h|h
  ·exact h
  ·rw[fF (by simpa [eG] using h)] at b;cases b
 obtain⟨a,f,e⟩:=d j c;refine⟨a,f,e.trans ?_⟩;rw[<-b];simp [eG,c])
def ale(h:(Lit.int .i64 B).wf=true): -9223372036854775808<=B/\B<=9223372036854775807:=by rw[Lit.wf,cZ] at h;exact⟨of_decide_eq_true h.1,of_decide_eq_true h.2⟩
section
variable{P:Program}{ops:Array Oper}{Q:Exit->Act->World->Prop}{md:Region.Mode}{S:World->Prop}{T:Nat->Bool}
def bZ(P:Program)(md:Region.Mode)(ops:Array Oper)(Q:Exit->Act->World->Prop)(S:World->Prop)(T:Nat->Bool):Nat->Array Bool->Act->World->Prop
 |0,b,a,w=>Region.ready md ops b= []/\Q .normal a w
 |c+1,b,a,w=>(Region.ready md ops b= []->Q .normal a w)/\
   ∀i∈Region.ready md ops b,wpOp P ops Q i (fun e d=>(T i=false->S d)/\bZ P md ops Q S T c (b.setIfInBounds i true) e d) a w
theorem bZ.any:∀(c:Nat) (b:Array Bool) (a:Act) (w:au),bZ P md ops Q S T c b a w->wpAny P md ops Q c b a w
 |0,_,_,_,h=>h
 |c+1,_,_,_,h=>⟨h.1,fun i e=>wpOp_mono (fun g d f=>bZ.any c _ g d f.2) (h.2 i e)⟩
def leads(md:Region.Mode)(ops:Array Oper):Nat->Nat->Nat->Bool
 |0,_,_=>false
 |n+1,j,i=>match ops[j]? with
  |some o=>o.after.any fun e=>Region.binds md e&&(e.on==i||leads md ops n e.on i)
  |none=>false
def waits(md:Region.Mode)(ops:Array Oper)(T:Nat->Bool)(i:Nat):Bool:=(List.range ops.size).all fun j=> !T j||j==i||leads md ops 4 j i
def closed(md:Region.Mode)(ops:Array Oper)(a:Array Bool):Bool:=(List.range ops.size).all fun m=> !a.getD m false||match ops[m]? with
 |some o=>o.after.all fun e=> !Region.binds md e||a.getD e.on false
 |none=>true
theorem ZL(h:closed md ops N=true){o:Oper}(c:ops[a]? =some o)(f:N.getD a false=true){e:Edge}(g:e∈o.after)(i:Region.binds md e=true):N.getD e.on false=true:=by unfold closed at h;rw[sP] at h;have b:=h a (dB.2 (YB.1 c).1);rw[f,c] at b;simp only[Em,Hm] at b;have d:=ag8.1 b e g;rw[i] at d;simpa using d
theorem ajF(h:closed md ops N=true)(l:a∈Region.ready md ops N):closed md ops (N.setIfInBounds a true)=true:=by
 unfold closed;rw[sP];intro m p;cases g:(N.setIfInBounds a true).getD m false with
 |false=>simp
 |true=>
  simp only[Em,Hm];cases f:ops[m]? with
  |none=>rfl
  |some o=>
   refine ag8.2 fun e i=> ?_;cases k:Region.binds md e with
   |false=>rfl
   |true=>
    simp only[Em,Hm];refine getD_set_true ?_;by_cases c:a=m
    ·subst c;obtain⟨_,n,b,d⟩:=mem_ready.1 l;rw[f] at b;injection b with b;subst b;exact d e i k
    ·rw[getD_set_ne false c] at g;exact ZL h f g i k
theorem Q7{a:Array Bool}(h:closed md ops a=true){i:Nat}:∀(n j:Nat),leads md ops n j i=true->(∀o,ops[j]? =some o->∀e∈o.after,Region.binds md e=true->a.getD e.on false=true)->a.getD i false=true
 |0,_,b,_=>by cases b
 |n+1,j,b,q=>by
  unfold leads at b;cases f:ops[j]? with
  |none=>rw[f] at b;cases b
  |some o=>
   rw[f] at b;obtain⟨e,p,l⟩:=Array.any_eq_true'.1 b;rw[cZ,kE] at l;have m:=q o f e p l.1;rcases l.2 with c|c
   ·rw[beq_iff_eq] at c;rw[<-c];exact m
   ·exact Q7 h n e.on c (fun r d s g k=>ZL h d m g k)
theorem bZ.one{i:Nat}{b:Act}(e:Region.ready md ops N= [i])
 (h:wpOp P ops Q i (fun g d=>(T i=false->S d)/\bZ P md ops Q S T a (N.setIfInBounds i true) g d) b m):bZ P md ops Q S T (a+1) N b m:=
 ⟨fun f=>absurd f (by rw[e];simp),fun j c=>by rw[e] at c;simp only[bG] at c;subst c;exact h⟩
theorem bZ.step(i:Nat){fuel:Nat}{listed:Array Bool}{a:Act}(b:Region.ready md ops listed= [i])
 (h:∀o,ops[i]? =some o->∀K:Act->World->Prop,ah (∀a' w',(T i=false->S w')->bZ P md ops Q S T fuel (listed.setIfInBounds i true) a' w'->K a' w')->if Region.wanted o (yielded ops a.tmps)=true then o.wp P a m K Q else K (a.put o.dst undef) m):bZ P md ops Q S T (fuel+1) listed a m:=by
 refine bZ.one b ?_;obtain⟨o,hi⟩:∃o,ops[i]? =some o:=by
  have h1:i∈Region.ready md ops listed:=by rw[b];simp
  obtain⟨_,o,c,_⟩:=mem_ready.1 h1;exact⟨o,c⟩
 exact m88
def jF:=@bZ.step
def wD:List Oper->Nat->Option Oper
 | [],_=>none
 |o::_,0=>some o
 |_::r,n+1=>wD r n
theorem Ii:∀(l:List Oper) (n:Nat),wD l n=l[n]?
 | [],n=>by simp [wD]
 |o::_,0=>rfl
 |_::r,n+1=>by rw[wD,Ii r n];rfl
theorem bZ.auA(i:Nat){o:Oper}{b:Act}(h:∀K:Act->World->Prop,ah (∀f d,(T i=false->S d)->bZ P md ops Q S T a (N.setIfInBounds i true) f d->K f d)->if Region.wanted o (yielded ops b.tmps)=true then o.wp P b m K Q else K (b.put o.dst undef) m)
 (g:Region.ready md ops N= [i]:=by kernel_rfl) (e:wD ops.toList i=some o:=by exact rfl):bZ P md ops Q S T (a+1) N b m:=by
 refine jF i g fun k c=> ?_;rw[Ii] at e;have j:ops[i]? =some o:=av8;rw[j] at c;injection c with c;subst c;exact h
def aO:=@bZ.auA
theorem zg{o:Oper}{R:Oper->Prop}(h:R o)(d:wD ops.toList a=some o:=by exact rfl):∀c,ops[a]? =some c->R c:=fun c b=>by rw[Ii] at d;have e:ops[a]? =some o:=awq;rw[e] at b;injection b with b;subst b;exact h
theorem bZ.done{c:Nat}{b:Array Bool}{a:Act}{w:au}(d:Region.ready md ops b= [])(h:Q .normal a w):bZ P md ops Q S T c b a w:=
 match c with
 |0=>⟨d,h⟩
 |_+1=>⟨fun _=>h,by rw[d];simp⟩
def b_:=@bZ.done
theorem bZ.start{id:Nat}{a:Act}(b:P.follows .mixedOrders=true)
 (h:bZ P .any ops Q S T ops.size (Array.replicate ops.size false) a m.drew):(Code.region id ops true).wp P Q a m:=
 wp_region_any b (bZ.any _ _ _ _ h)
def cD:=@bZ.start
end
abbrev Nn:TypeId:=52
abbrev qm:TypeId:=209
def Ch{α:Type}(R:List Value->α->Prop):List Value->List α->Prop
 |a,[]=>a= []
 |a,x::l=>∃c r,a=c++r/\R c x/\Ch R r l
def Ch.mono{α:Type}{R S:List Value->α->Prop}(h:∀c x,R c x->S c x):∀{a:List Value} {l:List α},Ch R a l->Ch S a l
 |_,[],b=>b
 |_,_::_,⟨c,r,e,f,d⟩=>⟨c,r,e,h _ _ f,Ch.mono h d⟩
def EW:=@Ch.mono
def Ch.length{α:Type}{R:List Value->α->Prop}{k:Nat}(b:∀c x,R c x->c.length=k):∀{a:List Value} {l:List α},Ch R a l->a.length=l.length*k
 |_,[],d=>by rw[show _= [] from d];simp
 |_,x::l,⟨c,r,e,g,f⟩=>by rw[e,bC,b _ _ g,Ch.length b f,cP,qT];omega
def Ch.get{α:Type}{R:List Value->α->Prop}{k:Nat}(f:∀c x,R c x->c=k):∀{m:List Value} {l:List α} (_:Ch R m l) {i:Nat} (a:i<l),∃c,R c l[i]/\∀j,j<k->m[i*k+j]? =c[j]?
 |_,[],_,i,a=>by simp at a
 |_,x::l,⟨c,r,e,b,n⟩,0,a=>⟨c,b,fun j h=>by rw[e,LK,ja,nM (by rw[f _ _ b];exact h)]⟩
 |_,x::l,⟨c,r,e,b,n⟩,i+1,a=>by obtain⟨d,o,h⟩:=Ch.get f n (i:=i) avY;refine⟨d,o,fun j g=> ?_⟩;rw[e,x4 (by rw[f _ _ b,qT];omega),f _ _ b,<-h j g];congr 1;rw[qT];omega
def Ch.snoc{α:Type}{R:List Value->α->Prop}{x:α}{c:List Value}(b:R c x):∀{a:List Value} {l:List α},Ch R a l->Ch R (a++c) (l++ [x])
 |_,[],h=>by rw[show _= [] from h];exact⟨c,[],by simp,b,rfl⟩
 |_,y::l,⟨d,r,e,g,f⟩=>⟨d,r++c,by rw[e,ie],g,Ch.snoc b f⟩
def Ch.append{α:Type}{R:List Value->α->Prop}{a:List Value}{m:List α}(c:Ch R a m):∀{b:List Value} {l:List α},Ch R b l->Ch R (b++a) (l++m)
 |_,[],h=>by rw[show _= [] from h];exact c
 |_,x::l,⟨d,r,e,g,f⟩=>⟨d,r++a,by rw[e,ie],g,Ch.append c f⟩
def Ch.take{α:Type}{R:List Value->α->Prop}{k:Nat}(d:∀c x,R c x->c=k):∀{a:List Value} {l:List α} (_:Ch R a l) (n:Nat),Ch R (a.take (n*k)) (l.take n)
 |_,[],h,n=>by rw[show _= [] from h];simp [Ch]
 |_,x::l,h,0=>by simp [Ch]
 |_,x::l,⟨c,r,e,f,g⟩,n+1=>by
  refine⟨c,r.take (n*k),?_,f,g.take d n⟩;have b:=d _ _ f;rw[e,List.take_append,dz (by rw[b,qT];omega),b];congr 2
  rw[qT];omega
def Ls{α:Type}(t:TypeId)(R:World->List Value->α->Prop)(w:au)(v:Value)(l:List α):Prop:=
 ∃A c a,v= .slice A l.length c/\l.length<=c/\c<=maxLen/\(A=none->c=0)/\Sl w t A a/\Ch (R w) a l
def js{α:Type}(T:List TypeId)(R:World->List Value->α->Prop):Prop:=∀w a c x,(∀t∈T,Kept t w a)->R w c x->R a c x
def Ls.keep{α:Type}{T:List TypeId}{R:World->List Value->α->Prop}(f:js T R){l:List α}(h:Ls w R m p l)(a:∀u∈w::T,Kept u m n):Ls w R n p l:=by obtain⟨A,c,b,q,o,k,j,i,g⟩:=h;exact⟨A,c,b,q,o,k,j,i.keep (a w Ou),g.mono fun c x e=>f _ _ _ _ (fun u d=>a u awE) e⟩
def gm:=@Ls.keep
def Ls.ext{α:Type}{T:List TypeId}{R:World->List Value->α->Prop}(b:js T R){w':au}{l:List α}(h:Ls w R m p l)(a:Ext m w'):Ls w R w' p l:=
 h.keep b fun _ _=> .je a
def bU:=@Ls.ext
def Ls.parts{α:Type}{R:World->List Value->α->Prop}{l:List α}(h:Ls w R m p l):∃A c,p= .slice A l c/\l<=c/\c<=maxLen/\ah (Ls w R m (.slice A l c) l):=by obtain⟨A,c,d,rfl,b,a,g,f,e⟩:=h;exact⟨A,c,rfl,b,a,A,c,d,rfl,b,a,g,f,e⟩
def Ls.nil{α:Type}{t:TypeId}{R:World->List Value->α->Prop}:Ls t R m (.slice none 0 0) ([]:List α):=⟨none,0,[],rfl,aK _,by unfold maxLen;omega,fun _=>rfl,.nil,rfl⟩
def mZ:=@Ls.nil
def Ls.get{α:Type}{k:Nat}{R:World->List Value->α->Prop}(r:∀m a x,R m a x->a.length=k)(H:0<k){n:Nat}{l:List α}(h:Ls w R m (.slice E n a) l){i:Nat}(C:i<l.length):
 ∃g o d,E=dC g o/\g<m.heap.size/\R m d l[i]/\∀j u,d[j]? =some u->aA m g (o+(i*k+j)) u:=by
 obtain⟨S,Q,I,e,N,M,L,z,G⟩:=h;injection e with q B P;subst q;obtain⟨d,v,s⟩:=G.get (r m) C;have K:=r _ _ _ v;obtain⟨g,o,y,D,_⟩:=z.at_ (k:=i*k+0) (u:=d[0]) (by rw[s 0 H];simp);refine⟨g,o,d,y,D,v,fun j u f=> ?_⟩;have p:j<k:=by
  rcases cA j k with h|h
  ·exact h
  ·rw[fF Om] at f;cases f
 obtain⟨O,J,b,_,F⟩:=z.at_ (k:=i*k+j) (u:=u) (by rw[s j p];exact f);rw[y] at b;injection b with b;injection b with q B;subst q B;exact F
def qd:=@Ls.get
def Ls.apg{α:Type}{R:World->List Value->α->Prop}{l:List α}(h:m.ownsRow b w a p l.length t)(e:Ch (R m) t l):Ls w R m p l:=by
 obtain⟨A,c,rfl,j,i,f⟩:=ej h;refine⟨A,c,t,rfl,j,i,?_,f,e⟩;rintro rfl;rcases h.2 with⟨d,_⟩|⟨g,o,n,d,_⟩
 ·injection d
 ·injection d with d;cases d
def Mn:=@Ls.apg
def wM(_:au)(c:List Value)(q:Rat):Prop:=c= [aL (bS q)]
def wM.iI:js [] wM:=fun _ _ _ _ _ h=>h
def wM.one(w:au)(c:List Value)(q:Rat)(h:wM w c q):c.length=1:=awn
abbrev RL:=Ls Nn wM
def RL.get{n:Nat}{l:List Rat}(h:RL m (.slice E n a) l){i:Nat}(e:i<l):∃g o,E=dC g o/\g<m.heap.size/\aA m g (o+i) (aL (bS l[i])):=by obtain⟨g,o,d,p,k,j,f⟩:=qd wM.one Od h e;have b:=f 0 _ (by rw[show d=_ from j];rfl);rw[kG,iq] at b;exact⟨g,o,p,k,b⟩
def vL{w w':au}{base k:Nat}{t:TypeId}{v:Value}(h:w.ownsRow base t k v d u)(f:w.grownBy w' O)(e:∀k,O=some k->v.ownBlock≠some k):w'.ownsRow base t k v d u:=by
 refine World.ownsRow.kept h f ?_;cases O with
 |none=>cases v.ownBlock<;>simp
 |some k=>exact .inr (e k rfl)
def Mk{w w':au}(d:Ext w w'):w.grownBy w' none:=⟨d.os,d.tape,d.output,d.size,fun k e _=>d.block k e⟩
def RH{w w':au}(d:w.grownBy w' none):Ext w w':=⟨d.os,d.tape,d.output,d.size,fun k e=>d.block k e Ou⟩
def bI{α:Type}(t:TypeId)(k:Nat)(R:World->List Value->α->Prop)(base:Nat)(w:au)(v:Value)(l:List α):Prop:=∃d,w.ownsRow base t k v l.length d/\Ch (R w) d l
section
variable{α:Type}{t:TypeId}{k base:Nat}{R:World->List Value->α->Prop}{T:List TypeId}{w w':au}{v v':Value}{l:List α}
theorem bI.nil:bI t k R base w (.slice none 0 0) ([]:List α):=⟨[],mQ _ _ _ _,rfl⟩
def jf:=@bI.nil
theorem bI.grown(m:js T R)(h:bI t k R base w v l)(i:w.grownBy w' O)(e:∀k,O=some k->v.ownBlock≠some k)(f:∀u∈T,Kept u w w'):bI t k R base w' v l:=by obtain⟨d,o,n⟩:=h;exact⟨d,vL o i e,n.mono fun c x j=>m _ _ _ _ f j⟩
theorem bI.ext(f:js T R)(h:bI t k R base w v l)(d:Ext w w'):bI t k R base w' v l:=
 h.grown f (Mk d) Oe (fun _ _=> .je d)
theorem bI.only(i:js T R)(h:bI t k R base w v l){g:Nat}(e:Only g w w')(n:g<base)(d:∀u∈T,Kept u w w'):bI t k R base w' v l:=
 h.grown i e (fun k d f=>by injection d with d;obtain⟨m,j,_⟩:=h;have:=(j.lt k f).1;omega) d
theorem bI.snoc(j:js T R)(hT:∀d∈T,t≠d){h:List Value}{x:α}(e:w.ownsRow base t k v l u)(f:Ch (R w) u l)(m:R w h x)
 (o:w'.ownsRow base t k v' (l.length+1) (u++h)) (p:w.grownBy w' v.ownBlock):bI t k R base w' v' (l++ [x]):=by
 have i:∀d∈T,Kept d w w':=fun d n=>pZ e p (hT d n);refine⟨u++h,by rw[bC];exact o,?_⟩;exact Ch.snoc (j _ _ _ _ i m) (f.mono fun c x f=>j _ _ _ _ i f)
def jc:=@bI.snoc
theorem bI.ls(h:bI t k R base w v l):Ls t R w v l:=by obtain⟨f,e,d⟩:=h;exact Mn e d
theorem bI.parts(h:bI t k R base w v l):∃A c d,v= .slice A l c/\l<=c/\c<=maxLen/\ah (w.ownsRow base t k (.slice A l c) l d)/\ah (Ch (R w) d l):=by obtain⟨d,e,j⟩:=h;obtain⟨A,c,rfl,i,f,_⟩:=ej e;exact⟨A,c,d,rfl,i,f,e,j⟩
theorem bI.of{c:Nat}(e:w.ownsRow base t k (.slice E l c) l u)(d:Ch (R w) u l):bI t k R base w (.slice E l c) l:=⟨u,e,d⟩
end
def Ext.M5{a w w':au}{t:TypeId}{k:Nat}{v:Value}(h:Ext a w)(e:w.ownsRow a.heap.size t k v d u)(i:w.grownBy w' v.ownBlock):Ext a w':=
 ud h i h.size (fun k f=>(e.lt k f).1)
def mn{a w w':au}{base:Nat}{t:TypeId}{k:Nat}{v:Value}(h:Ext a w)(e:w.ownsRow base t k v d u)(i:w.grownBy w' v.ownBlock)(j:a.heap.size<=base):Ext a w':=
 ud h i h.size (fun k f=>by have:=(e.lt k f).1;omega)
def Src.kept{w w':au}{g:Nat}{t:TypeId}(j:df w g)(m:Only g w w')(i:Fb≠t):Kept t w w':=by intro n o q d;refine(m.block n (gS d) ?_).trans d;intro e;injection e with e;subst e;obtain⟨t,A,p,c,k,_,_,f,_⟩:=j;unfold ar at f;rw[f] at d;injection d with d;injection d with _ h;exact i h
def Im:=@Src.kept
def np{α:Type}(t:TypeId)(R:World->List Value->α->Prop)(w:au)(c:List Value)(l:List α):Prop:=∃A d,c= [.slice A l.length d]/\Ls t R w (.slice A l.length d) l
def np.iI{α:Type}{t:TypeId}{T:List TypeId}{R:World->List Value->α->Prop}(e:js T R):js (t::T) (np t R):=fun _ _ _ _ d ⟨A,i,h,f⟩=>⟨A,i,h,f.keep e d⟩
def np.one{α:Type}{t:TypeId}{R:World->List Value->α->Prop}(w:au)(c:List Value)(l:List α)(h:np t R w c l):c.length=1:=awD
def np.get{α:Type}{t:TypeId}{R:World->List Value->α->Prop}{w:au}{n c:Nat}{l:List (List α)}(h:Ls x (np t R) w (.slice E n c) l){i:Nat}(m:i<l):
 ∃g o f e,E=dC g o/\g<w.heap.size/\ah (Ls t R w (.slice f l[i] e) l[i])/\aA w g (o+i) (.slice f l[i] e):=by
 obtain⟨g,o,d,s,r,⟨f,e,rfl,q⟩,p⟩:=qd np.one Od h m;have j:=p 0 _ rfl;rw[kG,iq] at j;exact⟨g,o,f,e,s,r,q,j⟩
def yN:=@np.get
section
variable{a b c:au}{g:Nat}
theorem Only.trans(h:Only g a b)(k:Only g b c):Only g a c:=⟨k.os.trans h.os,k.tape.trans h.tape,k.output.trans h.output,a7 h.size k.size,fun i e d=>(k.block i (cF e h.size) d).trans (h.block i e d)⟩
theorem Only.gV(h:Ext a b):Only g a b:=⟨h.os,h.tape,h.output,h.size,fun i d _=>h.block i d⟩
def ep:=@Only.gV
theorem Only.grown{t:TypeId}{k:Nat}{v:Value}(h:Only g a b)(f:b.ownsRow a.heap.size t k v d u)(j:b.grownBy c v.ownBlock):Only g a c:=
 ⟨j.os.trans h.os,j.tape.trans h.tape,j.output.trans h.output,a7 h.size j.size,fun i o m=>(j.block i (cF o h.size) (fun e=>by have:=(f.lt i e.symm).1;omega)).trans (h.block i o m)⟩
end
def Ch.split{α:Type}{R:List Value->α->Prop}{k:Nat}(q:∀c x,R c x->c=k):∀{p:List Value} {l:List α} (_:Ch R p l) {i:Nat} (j:i<l),∃h c m,p=h++(c++m)/\h=i*k/\Ch R h (l.take i)/\R c l[i]/\Ch R m (l.drop (i+1))
 |_,[],_,i,j=>by simp at j
 |_,x::l,⟨c,r,e,n,o⟩,0,j=>⟨[],c,r,by simpa using e,by simp,rfl,n,o⟩
 |_,x::l,⟨c,r,e,n,o⟩,i+1,j=>by obtain⟨h,d,m,u,s,a,b,f⟩:=Ch.split q o (i:=i) (by simpa using j);refine⟨c++h,d,m,by rw[e,u,ie],by rw[bC,q _ _ n,s,qT];omega,⟨c,h,rfl,n,a⟩,b,f⟩
def vO{w w':au}{base k:Nat}{t:TypeId}{v:Value}(h:w.ownsRow base t k v d u)(e:Ext w w'):w'.ownsRow base t k v d u:=vL h (Mk e) Oe
def nh{c:Prop} [Decidable c]{a b:Prop}(h:c)(d:a):if c then a else b:=by rw[if_pos h];exact d
def Ch.all{α:Type}{R:List Value->α->Prop}{P:Value->Prop}(h:∀c x,R c x->∀u∈c,P u):∀{f:List Value} {l:List α},Ch R f l->∀u∈f,P u
 |_,[],i=>by rw[show _= [] from i];simp
 |_,_::_,⟨c,r,e,m,j⟩=>by
  subst e;intro u d;rcases bV.1 d with d|d
  ·exact h _ _ m u d
  ·exact Ch.all h j u d
def aa9(w:au)(e:TypeId)(size:Nat):(w.alloc (.cells #[] e)).ownsRow w.heap.size e size (aG w.heap.size 0 0 0) 0 []:=
 ⟨by simp,.inr ⟨w.heap.size,0,#[],rfl,aK _,heap_alloc_new w _,aK _,by unfold maxLen;omega,by simp,by simp⟩⟩
abbrev aS:TypeId:=3
def dO(_:au)(c:List Value)(z:Int):Prop:=c= [av z]
def dO.iI:js [] dO:=fun _ _ _ _ _ h=>h
def cK:=@dO.iI
def dO.one(w:au)(c:List Value)(z:Int)(h:dO w c z):c.length=1:=awn
abbrev IL:=Ls aS dO
def IL.ext{w':au}(h:IL m p L)(a:Ext m w'):IL w' p L:=bU cK h a
def kJ:=@IL.ext
def IL.get{n:Nat}(h:IL m (.slice E n a) L){i:Nat}(e:i<L):∃g o,E=dC g o/\g<m.heap.size/\aA m g (o+i) (av L[i]):=by obtain⟨g,o,d,p,k,j,f⟩:=qd dO.one Od h e;have b:=f 0 _ (by rw[show d=_ from j];rfl);rw[kG,iq] at b;exact⟨g,o,p,k,b⟩
def gX:=@IL.get
abbrev bJ:TypeId:=9
section
variable{P:Program}{ops:Array Oper}{Q:Exit->Act->World->Prop}{md:Region.Mode}{S:World->Prop}{T:Nat->Bool}
def still(ops:Array Oper)(j:Nat):Bool:=match ops[j]? with
 |some o=>match o.op with
  | .move _=>true
  |_=>false
 |none=>false
theorem aiF(h:still ops a=true){K:Act->World->Prop}{b:Act}(c:wpOp P ops Q a K b m):wpOp P ops Q a (fun i e=>e=m/\K i e) b m:=by
 unfold still at h;unfold wpOp at c⊢;cases f:ops[a]? with
 |none=>rw[f] at h;cases h
 |some o=>
  rw[f] at h c;simp only at h c⊢;by_cases g:Region.wanted o (yielded ops b.tmps)=true
  ·rw[if_pos g] at c⊢;cases d:o.op with
   |move x=>
    rcases c with c|c
    ·refine .inl ?_;unfold Oper.wp execOp at c⊢;rw[d] at c⊢;first|exact⟨rfl,c⟩|exact⟨trivial,c⟩
    ·exact .inr c
   |_=>rw[d] at h;cases h
  ·rw[if_neg g] at c⊢;first|exact⟨rfl,c⟩|exact⟨trivial,c⟩
def Tb(md:Region.Mode)(ops:Array Oper)(T:Nat->Bool)(i:Nat):Bool:=(List.range ops.size).all fun j=> !T j||j==i||leads md ops 4 j i||still ops j
theorem ahV{i j:Nat}{listed:Array Bool}(h:Tb md ops T i=true)(hc:closed md ops listed=true)(a:j≠i)(c:j∈Region.ready md ops listed)(hu:listed.getD i true=false):T j=false\/still ops j=true:=by
 cases hT:T j with
 |false=>exact .inl rfl
 |true=>
  cases b:still ops j with
  |true=>exact .inr rfl
  |false=>exfalso;obtain⟨_,o,ho,hall⟩:=mem_ready.1 c;unfold Tb at h;rw[sP] at h;have h1:=h j (dB.2 (YB.1 ho).1);simp only[hT,b,Em,Hm,vI,kE,beq_iff_eq,a,false_or] at h1;exact m51
theorem bZ.aup{G:World->Prop}{i:Nat}{q:Oper}{v:Value}(R:ops[i]? =some q)(l:∀(j:Nat) (o:Oper) I b,ops[j]? =some o->o.op≠ .select I b)
 (F:∀w,G w->T i=false->S w) (hstep:∀(j:Nat) (d:Array Bool),j≠i->closed md ops d=true->j∈Region.ready md ops d->d.getD i true=false->(∀w,S w->G w)/\T j=false\/still ops j=true\/∀w,G w)
 (hQ:∀c a w,Q (.panic c) (a.put q.dst v) w->Q (.panic c) a w):∀(f:Nat) (d:Array Bool) (a:Act) (w:au),
  closed md ops d=true->(∀j t,ops[j]? =some t->j≠i->d.getD j true=false->(∀e∈t.after,Region.binds md e=true->e.on≠i)->q.apart ops t=true)->
  i∈Region.ready md ops d->YieldsIf P ops G q v a->G w->
  bZ P md ops Q S T f (d.setIfInBounds i true) (a.put q.dst v) w->bZ P md ops Q S T (f+1) d a w
 |f,d,a,w,D,m,L,Z,X,H=>by
  refine⟨fun h0=>absurd L (by rw[h0];simp),fun j C=> ?_⟩;by_cases h:j=i
  ·subst h;exact Z.wpOp R X ⟨F w X,H⟩
  ·obtain⟨r,t,u,E⟩:=mem_ready.1 C;have x:=(mem_ready.1 L).1;have K:=hstep j d h D C x;match f,H with
   |0,H=>have s:=ready_mono C h;rw[H.1] at s;cases s
   |f+1,H=>
    have A:∀e∈t.after,Region.binds md e=true->e.on≠i:=fun e he hb U=>by
     have s:=E e he hb;rw[U] at s;rcases cA i d.size with N|N
     ·simp [N] at x s;rw[x] at s;cases s
     ·simp [x6 N] at s
    have y:∀p g,G g->(YieldsIf P ops G q v p/\(T j=false->S g)/\bZ P md ops Q S T f ((d.setIfInBounds i true).setIfInBounds j true) (p.put q.dst v) g)->(T j=false->S g)/\bZ P md ops Q S T (f+1) (d.setIfInBounds j true) p g:=fun p g W n=>by
     refine⟨n.2.1,?_⟩;refine bZ.aup R l F hstep hQ f (d.setIfInBounds j true) p g (ajF D C) ?_ (ready_mono L (fP h)) n.1 W ?_
     ·intro k ok hk O J M;refine m k ok hk O ?_ M;by_cases B:j=k
      ·subst B;exact r
      ·rwa[getD_set_ne true B] at J
     ·rw[Array.setIfInBounds_comm _ _ h];exact n.2.2
    have Y:=wpOp_putIf u (m j t u h r A) (fun I b=>l i q I b R) (fun I b=>l j t I b u) hQ Z (H.2 j (ready_mono C h));rcases K with⟨V,hT⟩|hs|z
    ·exact wpOp_mono (fun p g n=>y p g (V g (n.2.1 hT)) n) Y
    ·exact wpOp_mono (fun p g n=>y p g (by rw[n.1];exact X) n.2) (aiF hs Y)
    ·exact wpOp_mono (fun p g n=>y p g (z g) n) Y
def Ew:=@bZ.aup
theorem bZ.aut(i d:Nat)(v:Value){b:Act}(_hTi:T i=false)
 (s:Region.noSelect ops=true) (x:Region.free md ops N i=true) (t:(Region.ready md ops N).contains i=true) (f:Tb md ops T i=true) (y:closed md ops N=true)
 (A:∀c b m,Q (.panic c) (b.put (some d) v) m->Q (.panic c) b m) (z:S m)
 (q:∀o,ops[i]? =some o->o.dst=some d/\Region.wanted o (yielded ops b.tmps)=true/\∀m,S m->(execOp b.eval o).run P m= .ok (.value v) m)
 (h:bZ P md ops Q S T a (N.setIfInBounds i true) (b.put (some d) v) m):bZ P md ops Q S T (a+1) N b m:=by
 have e:i∈Region.ready md ops N:=by simpa using t
 obtain⟨_,o,g,_⟩:=mem_ready.1 e;obtain⟨p,C,B⟩:=q o g;exact Ew (G:=S) g (G8 s) (fun m f _=>f) (fun j l k n u r=>by
  rcases ahV f n k u r with h|h
  ·exact .inl ⟨fun _ h=>h,h⟩
  ·exact .inr (.inl h)) (by rw[p];exact A) a N b m y (Hd g x) e (.inl ⟨C,B⟩) z (by rw[p];exact h)
def uf:=@bZ.aut
theorem bZ.ad5(i d:Nat)(v:Value){b:Act}(g:T i=true)
 (p:Region.noSelect ops=true) (r:Region.free md ops N i=true) (q:(Region.ready md ops N).contains i=true) (s:closed md ops N=true)
 (t:∀c b m,Q (.panic c) (b.put (some d) v) m->Q (.panic c) b m)
 (n:∀o,ops[i]? =some o->o.dst=some d/\Region.wanted o (yielded ops b.tmps)=true/\∀m,(execOp b.eval o).run P m= .ok (.value v) m)
 (h:bZ P md ops Q S T a (N.setIfInBounds i true) (b.put (some d) v) m):bZ P md ops Q S T (a+1) N b m:=by
 have e:i∈Region.ready md ops N:=by simpa using q
 obtain⟨_,o,f,_⟩:=mem_ready.1 e;obtain⟨k,x,u⟩:=n o f;exact Ew (G:=fun _=>True) f (G8 p) (fun m _ hT=>by rw[g] at hT;cases hT) (fun j l _ _ _ _=> .inr (.inr fun _=>trivial)) (by rw[k];exact t) a N b m s (Hd f r) e (.inl ⟨x,fun m _=>u m⟩) trivial (by rw[k];exact h)
end
def S9{w:au}:∀{a:List Value} {l:List Int},Ch (dO w) a l->a=eG l
 |_,[],h=>h
 |_,_::_,⟨c,r,e,d,b⟩=>by rw[e,show c=_ from d,S9 b];rfl
def MR(w:au):∀l:List Int,Ch (dO w) (eG l) l
 | []=>rfl
 |x::l=>⟨[.int .i64 x],eG l,rfl,rfl,MR w l⟩
def ZP(l:List Int)(i:Nat)(z:Int):eG (l.set i z)=(eG l).set i (.int .i64 z):=by unfold eG;rw[Eo]
def Sa(h:m.ownsRow a w b (.slice E c d) c t)(o:0<c):∃g,E=some ⟨g,0,none⟩/\a<=g/\g<m.heap.size:=by
 rcases h.2 with⟨e,_⟩|⟨g,l,j,e,i,f,_⟩
 ·injection e with _ e _;omega
 ·injection e with e _ _;exact⟨g,e,i,gS f⟩
def amt{w:au}(h:w.ownsRow a aS 1 (.slice (some ⟨b,0,none⟩) c d) c (eG L))(v:L=c)(x:e<L)(s:f<L):
 ∃r,(w.setCell ⟨b,e,none⟩ (.int .i64 L[f])).setCell ⟨b,f,none⟩ (.int .i64 L[e])=r/\(∃u,ah ((w.setCell ⟨b,e,none⟩ (.int .i64 L[f])).cell? ⟨b,f,none⟩=some u))/\ah ((w.setCell ⟨b,e,none⟩ (.int .i64 L[f])).frozen? ⟨b,f,none⟩=false)/\ah (r.ownsRow a aS 1 (.slice (some ⟨b,0,none⟩) c d) c (eG ((L.set e L[f]).set f L[e])))/\ah (w.grownBy r (some b))/\ah (((L.set e L[f]).set f L[e])=c)/\ah (((L.set e L[f]).set f L[e]).Perm L):=by
 obtain⟨q,g⟩:=h.stored e (.int .i64 L[f]);obtain⟨y,o⟩:=q.stored f (.int .i64 L[e]);have p:f<((eG L).set e (.int .i64 L[f])).length:=by rw[sR];unfold eG;rw[bW];exact s
 refine⟨_,rfl,⟨((eG L).set e (.int .i64 L[f]))[f],?_⟩,q.frozenAt f,?_,?_,by simp [ah,v],List.set_set_perm x s⟩
 ·rw[ah,q.cellAt f Om,aX p]
 ·rw[ah,ZP,ZP];exact y
 ·exact⟨o.os.trans g.os,o.tape.trans g.tape,o.output.trans g.output,a7 g.size o.size,fun j t m=>(o.block j (cF t g.size) m).trans (g.block j t m)⟩
def upto(n:Nat):List Int:=(List.range n).map Int.ofNat
def ajY(n:Nat):upto (n+1)=upto n++ [(n:Int)]:=by simp [upto,Hg]
def Zu(n:Nat):(upto n)=n:=by simp [upto]
def Zw(g n:Nat)(w:au)(h:df w g)(hn:n<=100):
 Calls prog 51 #[.pointer (some ⟨g,0,none⟩),.int .i64 n] w fun e w'=>∃A c l,l.length=n/\l.Perm (upto n)/\e= .returned (.slice A n c)/\IL w' (.slice A n c) l/\df w' g/\Only g w w':=by
 have HS:=af h;have hg:=h.lt;go_enter func51,ntmps51;go_wp2_with fail
 go_loopw [5,6] (fun v5 O wr=>∃k:Nat,k<=n/\O= .int .i64 k/\ah (bI aS 1 dO w.heap.size wr v5 (upto k))/\ah (df wr g)/\ah (Only g w wr)) (fun _ O _=>n - (RowKit.intOf O).toNat)
 exact⟨0,aV _,rfl,jf,HS,ig _ _⟩;obtain⟨k,hk,rfl,HO,H,v⟩:=hrel;have m:=af (Zu k);obtain⟨A,c,xs,rfl,Y,hcm,z,HC⟩:=HO.parts;rw[m.ae] at z Y⊢;by_cases Jx:k<n
 ·have W:w.heap.size<=wr.heap.size:=v.size;have Z:(k+1)*8<=140737488355328:=Om;go_wp2_with (at_builtin;refine gQ rfl _ _ 22 rfl w.heap.size jE _ _ _ rfl z.ae #[.int .i64 k] 1 1 rfl rfl rfl Z W ?_)
  intro v' d f p _;have O3:ah (bI aS 1 dO w.heap.size d v' (upto (k+1))):=by rw[ah,ajY];exact jc (R:=dO) (x:=(k:Int)) cK Oe (by rw[m.ae];exact z) HC rfl (by rw[m.ae];exact f) p
  have S3:=af (H.grown p (fun k hk=>by have:=(z.lt k hk).1;omega));have N3:=af (v.grown z p);go_wp2;go_roundw;exact⟨k+1,by omega,by go_num,O3,S3,N3⟩;simp [RowKit.intOf];omega
 ·obtain rfl:k=n:=Om;have hx:=S9 HC;subst hx;have Pl:ah ((upto k).Perm (upto k)):=List.Perm.refl _;generalize wr=w1 at*;go_wp2_with fail
  go_loopw [7,8] (fun N _ wr=>∃(i:Int) (l:List Int), -1<=i/\i<k/\N= .int .i64 i/\ah (l.length=k)/\ah (l.Perm (upto k))/\ah (wr.ownsRow w.heap.size aS 1 (.slice A k c) k (eG l))/\ah (df wr g)/\ah (Only g w wr)) (fun N _ _=>(RowKit.intOf N).toNat)
  exact⟨(k:Int) - 1,upto k,by omega,by omega,rfl,m,Pl,z,H,v⟩;obtain⟨i,l,hi0,E,rfl,B,HP,t,ei,I⟩:=hrel;by_cases hip:0<i
  ·obtain⟨i,rfl⟩:=Int.eq_ofNat_of_zero_le (show 0<=i by omega);have E:i<k:=Om;have H0:=af (ru g (i+1) wr ei Om Om);rw[show((i+1:Nat):Int)=(i:Int)+1 by omega] at H0;go_wp2_with fail
   refine H0.mono ?_;rintro e d ⟨r,hr,rfl,X,f⟩;have s:ah (d.ownsRow w.heap.size aS 1 (.slice A k c) k (eG l)):=vL t f (fun q y he=>by injection y with y;subst y;have:=(t.lt _ he).1;omega)
   have S3:=af X;have N3:=af (I.trans f);obtain⟨a,rfl,VV,rT⟩:=Sa s Om;have D:i<l.length:=by rw[B.ae];exact E
   have C:r<l.length:=by rw[B.ae];omega
   have Oa:r<k:=Om;have hri:r<=i:=Om;obtain⟨W',hW',⟨u5,K5⟩,F5,O4,G4,L4,P4⟩:=amt (w:=d.drew) s B D C;have HW:=af hW';have S4:=af ((S3.ext (aB d).drew).grown G4 (fun q y=>by injection y with y;omega));have N4:ah (Only g w W'):=(N3.trans (ep (aB d).drew)).grown (b:=d.drew) s G4;have P4':=af (P4.trans HP);have U:d.cell? ⟨a,i,none⟩=some (.int .i64 l[i]):=by rw[s.cellAt i Om,Ex D]
   have k2:d.cell? ⟨a,r,none⟩=some (.int .i64 l[r]):=by rw[s.cellAt r Om,Ex C]
   have f1:=s.frozenAt i;have f2:=s.frozenAt r;generalize(l.set i l[r]).set r l[i]=l' at*;generalize l[i]=L at*;generalize l[r]=J at*;have K1:=af U;have K2:=af k2;have F1:=af f1;have F2:=af f2;go_upto_region 10 with fail
   obtain⟨S,F⟩:∃S:World->Prop,S=fun w'=>w'.cell? ⟨a,i,none⟩=some (.int .i64 L)/\w'.cell? ⟨a,r,none⟩=some (.int .i64 J):=⟨_,rfl⟩;have bO:ah (∀w',S w'->w'.cell? ⟨a,i,none⟩=some (.int .i64 L)/\w'.cell? ⟨a,r,none⟩=some (.int .i64 J)):=by rw[ah,F];exact fun _ h=>h
   have aH:ah (S d.drew):=by rw[ah,F];exact⟨K1,K2⟩
   refine cD (S:=S) (T:=fun j=>decide (j=2\/j=3\/13<=j)) Ok ?_;refine uf 0 28 (.slice (some ⟨a,0,none⟩) k c) rfl Ok Ok Ok Ok Ok (fun _ _ _ h=>h) aH ?_ ?_
   ·intro o ho;simp only[eR,dy,cY] at ho;subst ho;refine⟨rfl,rfl,fun w' hSw=> ?_⟩;have hs:=bO w' hSw;go_split_ands;go_simp
   simp only[Act.put,d8,dP,d9];refine uf 1 29 (.int .i64 i) rfl Ok Ok Ok Ok Ok (fun _ _ _ h=>h) aH ?_ ?_
   ·intro o ho;exact m18
   simp only[Act.put,d8,dP,d9];refine bZ.ad5 2 30 (.slice (some ⟨a,0,none⟩) k c) rfl Ok Ok Ok Ok (fun _ _ _ h=>h) ?_ ?_
   ·intro o ho;exact aeS
   simp only[Act.put,d8,dP,d9];refine bZ.ad5 3 31 (.int .i64 r) rfl Ok Ok Ok Ok (fun _ _ _ h=>h) ?_ ?_
   ·intro o ho;exact aeS
   simp only[Act.put,d8,dP,d9];refine uf 4 32 (.slice (some ⟨a,0,none⟩) k c) rfl Ok Ok Ok Ok Ok (fun _ _ _ h=>h) aH ?_ ?_
   ·intro o ho;exact m18
   simp only[Act.put,d8,dP,d9];refine uf 5 33 (.int .i64 r) rfl Ok Ok Ok Ok Ok (fun _ _ _ h=>h) aH ?_ ?_
   ·intro o ho;exact m18
   simp only[Act.put,d8,dP,d9];refine uf 6 34 (.pointer (some ⟨a,r,none⟩)) rfl Ok Ok Ok Ok Ok (fun _ _ _ h=>h) aH ?_ ?_
   ·intro o ho;exact m18
   simp only[Act.put,d8,dP,d9];refine uf 7 35 (.int .i64 J) rfl Ok Ok Ok Ok Ok (fun _ _ _ h=>h) aH ?_ ?_
   ·intro o ho;exact m18
   simp only[Act.put,d8,dP,d9];refine uf 8 36 (.slice (some ⟨a,0,none⟩) k c) rfl Ok Ok Ok Ok Ok (fun _ _ _ h=>h) aH ?_ ?_
   ·intro o ho;exact m18
   simp only[Act.put,d8,dP,d9];refine uf 9 37 (.int .i64 i) rfl Ok Ok Ok Ok Ok (fun _ _ _ h=>h) aH ?_ ?_
   ·intro o ho;exact m18
   simp only[Act.put,d8,dP,d9];refine uf 10 38 (.pointer (some ⟨a,i,none⟩)) rfl Ok Ok Ok Ok Ok (fun _ _ _ h=>h) aH ?_ ?_
   ·intro o ho;exact m18
   simp only[Act.put,d8,dP,d9];refine uf 11 39 (.int .i64 L) rfl Ok Ok Ok Ok Ok (fun _ _ _ h=>h) aH ?_ ?_
   ·intro o ho;exact m18
   simp only[Act.put,d8,dP,d9];refine uf 12 40 (.pointer (some ⟨a,i,none⟩)) rfl Ok Ok Ok Ok Ok (fun _ _ _ h=>h) aH ?_ ?_
   ·intro o ho;exact m18
   simp only[Act.put,d8,dP,d9];have U:d.drew.cell? ⟨a,i,none⟩=some (.int .i64 L):=K1.ae;have f1:d.drew.frozen? ⟨a,i,none⟩=false:=F1.ae;obtain⟨M,V⟩:∃M:World,d.drew=M:=⟨_,rfl⟩;rw[V] at U f1 K5 F5 HW⊢;refine jF 13 Ok ?_;intro o ho K G;simp only[eR,dS,dy,cY] at ho;subst ho;go_simp;refine G.ae _ _ Oe ?_;obtain⟨W5,hW5⟩:∃W5:World,M.setCell ⟨a,i,none⟩ (.int .i64 J)=W5:=⟨_,rfl⟩;rw[hW5] at K5 F5 HW⊢;refine jF 14 Ok ?_;intro o ho K G;simp only[eR,dS,dy,cY] at ho;subst ho;go_simp;refine G.ae _ _ Oe ?_;have k5:=K5.ae;have f5:=F5.ae;refine jF 15 Ok ?_;intro o ho K G;simp only[eR,dS,dy,cY] at ho;subst ho;go_simp;refine G.ae _ _ Oe ?_;refine b_ Ok ?_;rw[HW.ae];go_wp2_with fail
   go_roundw;exact⟨(i:Int) - 1,l',by omega,by omega,rfl,L4,P4',O4,S4,N4⟩;simp [RowKit.intOf];omega
  ·go_wp2;go_ret;refine⟨A,c,l,B,HP,rfl,?_,ei,I⟩;have h1:bI aS 1 dO w.heap.size wr (.slice A l.length c) l:=⟨eG l,by rw[B.ae];exact t.ae,MR wr l⟩;rw[B.ae] at h1;exact h1.ls

end Go.Proofs.YtadbchhdjbghkaaGreatDoor
