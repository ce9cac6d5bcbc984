/- Texts of the proof, part 4. -/
import Derived.Test.YtehkcnbodcdijaaGreatDoorA3
namespace Go.Proofs.YtehkcnbodcdijaaGreatDoor
set_option maxHeartbeats 8000000
set_option linter.all false
set_option maxRecDepth 100000
variable{ar:Prop}
open Go.RowKit Go.Lib Go.Maps Go.ChangeShapes Go.WideShapes Go.ChangeAt Go.Proofs.Tryz
variable{a b c d e f g h:Nat}{i j k l:List Nat}{m n o:World}{p q r s:Value}{t u v:List Value}{w x:TypeId}{y z:Nat→Option Nat}{A:Nat→List Nat}{B C:Int}{E F:Option Addr}{H I:Rat}{J:Nat→Nat}{K:Nat→Bool}{L:List Int}{N:Array Bool}{O:Option Nat}{Q:Act}{R S:Bool}{T:List UInt8}
def cj(w:au)(v:Value)(z:Int):Prop:=∃s,v= .agg #[.bool (decide (z<0)),s]/\eO w s z.natAbs
def cj.ext{w':au}(h:cj m p B)(a:Ext m w'):cj w' p B:=by obtain⟨s,rfl,b⟩:=h;exact⟨s,rfl,b.ext a⟩
def cj.keep(h:cj m p B)(a:Kept 265 m n):cj n p B:=by obtain⟨s,rfl,b⟩:=h;exact⟨s,rfl,b.keep a⟩
def cj.mk'{z:Int}(a:R=decide (z<0))(h:eO m p z.natAbs):cj m (.agg #[.bool R,p]) z:=⟨p,by rw[a],h⟩
def cj.parts(h:cj m p B):∃b A n c,p= .agg #[.bool b,.slice A n c]/\ah (cj m (.agg #[.bool b,.slice A n c]) B):=by obtain⟨s,rfl,A,c,rfl,d,a⟩:=h;exact⟨_,A,_,c,rfl,⟨_,rfl,A,c,rfl,d,a⟩⟩
def cj.inv(h:cj m (.agg #[.bool R,p]) B):R=decide (B<0)/\eO m p B.natAbs:=by obtain⟨c,e,a⟩:=h;simp at e;obtain⟨rfl,rfl⟩:=e;exact⟨rfl,a⟩
def signed(a:Bool)(n:Nat):Int:=if a then -(n:Int) else n
def EY(a:Bool)(n:Nat):(signed a n).natAbs=n:=by unfold signed;split<;>simp
def RZ(a:Bool)(n:Nat):decide (signed a n<0)=(a&&decide (0<n)):=by
 unfold signed;cases a
 ·simp
 ·simp
def rO(b:Bool)(s:Value)(n:Nat)(w:au)(k:eO w s n)(l:Fit n):
 Calls prog 198 #[.bool b,s] w fun e f=>∃v,e= .returned v/\cj f v (signed b n)/\Ext w f:=by
 obtain⟨A,c,rfl,i,d⟩:=k;have a:decide (0<(a7 n).length)=decide (0<n):=(by exact aga)
 have m:=af a;have j:=af d;unfold Fit at l;clear a d;cases b
 ·go_enter func198,ntmps198;go_wp2;refine bodyPost_ret (v:= .agg #[.bool false,.slice A (a7 n).length c]) (by simp [results,results198,go_sem]) rfl ⟨_,rfl,.mk' ?_ ?_,(aB w).alloc _⟩
  ·rw[RZ];rfl
  ·rw[EY];exact⟨A,c,rfl,i,j.ext ((aB w).alloc _)⟩
 ·go_enter func198,ntmps198;go_wp2;refine bodyPost_ret (v:= .agg #[.bool (decide (0<(a7 n).length)),.slice A (a7 n).length c]) (by simp [results,results198,go_sem]) rfl ⟨_,rfl,.mk' ?_ ?_,(aB w).alloc _⟩
  ·rw[RZ,m.ae];rfl
  ·rw[EY];exact⟨A,c,rfl,i,j.ext ((aB w).alloc _)⟩
def cQ(z:Int):Prop:=∃e,e<=1000000/\z.natAbs<10^e
def cQ.fit(h:cQ B):Fit B.natAbs:=by obtain⟨e,b,a⟩:=h;exact I9 a Om
def akt(h:a<10^c)(f:b<10^d):a+b<10^(c+d+1):=by have j:10^c<=10^(c+d):=fK Od Om;have i:10^d<=10^(c+d):=fK Od Om;rw[eA];omega
def Cn(h:a<10^c)(f:b<10^d):a*b<10^(c+d):=by rw[mW];exact Nat.mul_lt_mul'' h f
def cQ.T6(b:cQ B)(a:cQ C):Fit (B.natAbs+C.natAbs):=by obtain⟨d,f,b⟩:=b;obtain⟨e,c,a⟩:=a;exact I9 (akt b a) Om
def cQ.aqe(b:cQ B)(a:cQ C):Fit (B.natAbs*C.natAbs):=by obtain⟨d,f,b⟩:=b;obtain⟨e,c,a⟩:=a;exact I9 (Cn b a) Om
def cQ.le(a:cQ B)(h:C.natAbs<=B.natAbs):cQ C:=by obtain⟨d,b,a⟩:=a;exact⟨d,b,by omega⟩
def kL(z:Int):Prop:=Fit z.natAbs
def cQ.sub(b:cQ B)(a:cQ C):kL (B - C):=(b.T6 a).le Om
def cQ.wide(a:cQ B):kL B:=a.fit
def cQ.neg(a:cQ B):cQ (-B):=a.le Ou
def RB(v:Value)(z:Int)(w:au)(h:cj w v z)(i:kL z):
 Calls prog 171 #[v] w fun e f=>e= .returned (av z.sign)/\Ext w f:=by
 obtain⟨s,rfl,A,c,rfl,k,j⟩:=h;unfold kL Fit at i;rcases Int.lt_trichotomy z 0 with a|a|a
 ·have d:decide (z<0)=true:=decide_eq_true a;have HS:=af (Zi a);exact af3
 ·subst a;have d:decide ((0:Int)<0)=false:=rfl;have b:(a7 (0:Int).natAbs).length=0:=rfl;rw[b] at*;go_enter func171,ntmps171;go_wp2;go_ret;exact⟨rfl,(aB w).alloc _⟩
 ·have d:decide (z<0)=false:=aW;have HS:=af (Ie a);have b:0<(a7 z.natAbs).length:=by
   rcases j4 (a7 z.natAbs).length with h|h
   ·have:=ve.1 (lU h);omega
   ·exact h
  exact af3
def akm(z:Int):signed (!decide (z<0)) z.natAbs= -z:=by
 unfold signed;by_cases h:z<0
 ·simp [h];omega
 ·simp [h];omega
def aki(v:Value)(z:Int)(w:au)(h:cj w v z)(x:cQ z):
 Calls prog 207 #[v] w fun e q=>∃r,e= .returned r/\cj q r (-z)/\Ext w q:=by
 obtain⟨b,A,n,c,rfl,H⟩:=h.parts;have y:=af x.fit;go_enter func207,ntmps207;go_wp2_with fail
 have f:Ext w ((w.alloc (Obj.cells #[Value.bool b,Value.slice A n c] 128)).alloc (Obj.cells #[Value.bool false,Value.slice none 0 0] 128)):=((aB w).alloc _).alloc _;have m:=jd (w.alloc (Obj.cells #[Value.bool b,Value.slice A n c] 128)) 128 [.bool false,.slice none 0 0];refine(rO (!b) _ z.natAbs _ (H.inv.2.ext f) y).mono ?_;rintro e p ⟨s,rfl,j,d⟩;have i:cj p s (-z):=by rw[<-akm,<-H.inv.1];exact j
 obtain⟨E,F,C,D,rfl,B⟩:=i.parts;have a:ah (aq p (w.heap.size+1) 128 [.bool false,.slice none 0 0]):=(by have:=m.ext d;rw[show(w.alloc (Obj.cells #[Value.bool b,Value.slice A n c] 128)).heap.size=w.heap.size+1 by simp] at this;exact this)
 have o:=af (f.trans d);have l:=a.aF 0;have k:=a.aF 1;have u:=a.frozen 0;have t:=a.frozen 1;go_wp2;refine bodyPost_ret (by simp [results,results207,go_sem,l,k]) rfl ⟨_,rfl,B.keep (a.pW Od _ _ _ _),(o.setCell Ou _).setCell Ou _⟩
abbrev dm:TypeId:=128
def aq.afJ(w:au)(t:TypeId)(l:List Value)(g:Nat)(a:g=w.heap.size):aq (w.alloc (.cells l.toArray t)) g t l:=by subst a;exact jd w t l
def l6:=@aq.afJ
def xC{j:Func}{g:Nat}{d:Ending->World->Prop}{x0 x1:Value}(e:j.results= #[.cell a dm])(l:Q.tmps.getD a undef=aI g 0)(o:Q.defers= [])
 (i:aq n g dm [x0,x1]) (q:cj n (.agg #[.bool R,.slice E b c]) B) (k:Ext m n) (h:m.heap.size<=g) (p:∀v W',cj W' v B->Ext m W'->d (.returned v) W'):
 bodyPost prog j d .ret Q ((n.setCell (aD g 0) (.bool R)).setCell (aD g 1) (.slice E b c)):=by
 have f:=(i.bh 0 (.bool R)).bh 1 (.slice E b c);exact bodyPost_ret (results_cell_row e Q.tmps _ g dm #[.bool R,.slice E b c] (0,0) _ l f underlying128 rfl Ok) o (p _ _ (q.keep (i.pW Od _ _ _ _)) ((k.setCell h _).setCell h _))
def aa0(f d:Value)(a b:Nat)(w:au)(o:eO w f a)(n:eO w d b)(q:Fit a)(p:Fit b):
 Calls prog 204 #[f,d] w fun e w'=>∃i,e= .returned i/\eO w' i (a+b)/\Ext w w':=by
 obtain⟨v,t,rfl,m,k⟩:=o;obtain⟨u,s,rfl,l,j⟩:=n;unfold Fit at q p;refine(aqs v u t s (a7 a) (a7 b) w Om Om (dE a).1 (dE b).1 k j).mono ?_;exact U0
structure li(W:au)(g:Nat)(x0 x1 y0 y1 z0 z1:Value):Prop where
 a:aq W g dm [x0,x1]
 b:aq W (g+1) dm [y0,y1]
 r:aq W (g+1+1) dm [z0,z1]
def li.new(w:au)(x0 x1 y0 y1 z0 z1:Value):li (((w.alloc (Obj.cells #[x0,x1] dm)).alloc (Obj.cells #[y0,y1] dm)).alloc (Obj.cells #[z0,z1] dm)) w.heap.size x0 x1 y0 y1 z0 z1:=
 ⟨((l6 w dm [x0,x1] _ rfl).alloc _).alloc _,(l6 (w.alloc (Obj.cells #[x0,x1] dm)) dm [y0,y1] _ Ou).alloc _,l6 ((w.alloc (Obj.cells #[x0,x1] dm)).alloc (Obj.cells #[y0,y1] dm)) dm [z0,z1] _ Ou⟩
section
variable{W W':au}{g:Nat}{x0 x1 y0 y1 z0 z1:Value}
theorem li.ext(h:li W g x0 x1 y0 y1 z0 z1)(c:Ext W W'):li W' g x0 x1 y0 y1 z0 z1:=⟨h.a.ext c,h.b.ext c,h.r.ext c⟩
theorem li.drew(h:li W g x0 x1 y0 y1 z0 z1):li W.drew g x0 x1 y0 y1 z0 z1:=⟨h.a,h.b,h.r⟩
theorem li.drewN(h:li W g x0 x1 y0 y1 z0 z1)(n:Nat):li (W.drewN n) g x0 x1 y0 y1 z0 z1:=⟨h.a,h.b,h.r⟩
theorem li.put(h:li W g x0 x1 y0 y1 z0 z1)(u v:Value):li ((W.setCell (aD (g+1+1) 0) u).setCell (aD (g+1+1) 1) v) g x0 x1 y0 y1 u v:=
 ⟨(h.a.far ax' u).far ax' v,(h.b.far ax0 u).far ax0 v,(h.r.bh 0 u).bh 1 v⟩
theorem li.cells(h:li W g x0 x1 y0 y1 z0 z1):aA W g 0 x0/\aA W g 1 x1/\aA W (g+1) 0 y0/\aA W (g+1) 1 y1:=
 ⟨h.a.cell rfl,h.a.cell rfl,h.b.cell rfl,h.b.cell rfl⟩
theorem li.res(h:li W g x0 x1 y0 y1 z0 z1):aA W (g+1+1) 0 z0/\aA W (g+1+1) 1 z1/\W.frozen? (aD (g+1+1) 0)=false/\W.frozen? (aD (g+1+1) 1)=false:=
 ⟨h.r.cell rfl,h.r.cell rfl,h.r.frozen 0,h.r.frozen 1⟩
end
def ZV(h:decide (B<0)=decide (C<0)):signed (decide (B<0)) (B.natAbs+C.natAbs)=B+C:=by unfold signed;by_cases a:B<0<;>simp [a] at h⊢<;>omega
def aaa(h:decide (B<0)≠decide (C<0))(b:C.natAbs<=B.natAbs):signed (decide (B<0)) (B.natAbs - C.natAbs)=B+C:=by unfold signed;by_cases a:B<0<;>simp [a] at h⊢<;>omega
def q1.Gq(h:ar:=by
 obtain⟨K,J,I,G⟩:=H0.cells;go_region_held3 (fun a=>aA a w.heap.size 0 (.bool ba)/\aA a w.heap.size 1 (.slice Aa na ca)/\aA a (w.heap.size+1) 0 (.bool bb)/\aA a (w.heap.size+1) 1 (.slice Ab nb cb)) (first|exact⟨K,J,I,G⟩|exact(H0.drew.ext b).cells|exact i.cells|exact(i.put _ _).cells)
  (first
    |(go_at_call 204;refine(aa0 _ _ x.natAbs y.natAbs _ (m.inv.2.ext axC) (s.inv.2.ext axC) u.fit t.fit).mono ?_;rintro e M ⟨z,rfl,j,b⟩)
    |(go_at_call 198;refine(rO ba z (x.natAbs+y.natAbs) _ j (u.T6 t)).mono ?_;rintro e L ⟨N,rfl,f,d⟩;obtain⟨T,U,O,H,rfl,l⟩:=f.parts;have i:=af (H0.drew.ext (b.trans d));obtain⟨S,R,Q,P⟩:=i.res;clear f))
 go_wp2;refine xC rfl rfl rfl i.r l (bS.drew.trans (b.trans d)) Om (fun v W' q D=>⟨v,rfl,?_,D⟩);rw[m.inv.1,ZV k.ae] at q;exact q):=h
def ajp(o n:Value)(x y:Int)(w:au)(C:cj w o x)(B:cj w n y)(F:cQ x)(E:cQ y)(c:decide (x<0)=decide (y<0)):
 Calls prog 128 #[o,n] w fun e a=>∃p,e= .returned p/\cj a p (x+y)/\Ext w a:=by
 obtain⟨ba,Aa,na,ca,rfl,m⟩:=C.parts;obtain⟨bb,Ab,nb,cb,rfl,s⟩:=B.parts;have A:(ba==bb)=true:=by rw[m.inv.1,s.inv.1,c];simp
 have k:=af c;have u:=af F;have t:=af E;go_enter func128,ntmps128;open q1 in exact m12
def R6(i f:Value)(a b:Nat)(w:au)(p:eO w i a)(o:eO w f b)(s:Fit a)(q:Fit b)(d:b<=a):
 Calls prog 206 #[i,f] w fun e w'=>∃j,e= .returned j/\eO w' j (a - b)/\Ext w w':=by
 obtain⟨x,u,rfl,n,l⟩:=p;obtain⟨v,t,rfl,m,k⟩:=o;unfold Fit at s q;refine(apr x v u t (a7 a) (a7 b) w Om Om (dE a) (dE b) (by rw[dG,dG];exact d) l k).mono ?_;exact U0
def ako(f d:Value)(a b:Nat)(w:au)(o:eO w f a)(n:eO w d b)(q:Fit a)(p:Fit b):
 Calls prog 209 #[f,d] w fun e w'=>∃i,e= .returned i/\eO w' i (a*b)/\Ext w w':=by
 obtain⟨v,t,rfl,m,k⟩:=o;obtain⟨u,s,rfl,l,j⟩:=n;unfold Fit at q p;refine(TZ v u t s (a7 a) (a7 b) w Om Om (dE a).1 (dE b).1 k j).mono ?_;exact U0
def aaZ(d c:Value)(a b:Nat)(w:au)(m:eO w d a)(l:eO w c b)(p:Fit a)(o:Fit b):
 Calls prog 205 #[d,c] w fun e f=>e= .returned (av (eM a b))/\∃n,f=w.drewN n:=by
 obtain⟨t,r,rfl,k,i⟩:=m;obtain⟨s,q,rfl,j,h⟩:=l;unfold Fit at p o;have:=MQ t s r q (a7 a) (a7 b) w Om Om (dE a) (dE b) i h;rwa[dG,dG] at this
def q3.Gq(h:ar:=by
 refine(aaZ _ _ x.natAbs y.natAbs W (HA.inv.2.ext bS) (HB.inv.2.ext bS) FX.fit FY.fit).mono ?_;rintro e a ⟨rfl,j,rfl⟩;have B:decide ((0:Int)<=eM x.natAbs y.natAbs)=true:=by unfold eM;rw[if_neg Om];split<;>rfl
 have f:=af l;have bS:=af (bS.drewN j);have H0:=af (H0.drewN j);generalize eM x.natAbs y.natAbs=M at*;generalize W.drewN j=W at*;obtain⟨z,u,t,s⟩:=H0.cells;go_wp2_with fail
 obtain⟨z,u,t,s⟩:=H0.cells;go_region_held3 (fun a=>aA a w.heap.size 0 (.bool ba)/\aA a w.heap.size 1 (.slice Aa na ca)/\aA a (w.heap.size+1) 0 (.bool bb)/\aA a (w.heap.size+1) 1 (.slice Ab nb cb)) (first|exact⟨z,u,t,s⟩|exact(H0.drew.ext b).cells|exact i.cells|exact(i.put _ _).cells)
  (first
    |(go_at_call 206;refine(R6 _ _ x.natAbs y.natAbs _ (HA.inv.2.ext axC) (HB.inv.2.ext axC) FX.fit FY.fit f).mono ?_;rintro e F ⟨A,rfl,k,b⟩)
    |(go_at_call 198;refine(rO ba A (x.natAbs - y.natAbs) _ k (FX.fit.le Om)).mono ?_;rintro e E ⟨G,rfl,d,c⟩;obtain⟨N,O,H,D,rfl,m⟩:=d.parts;have i:=af (H0.drew.ext (b.trans c));obtain⟨L,K,J,I⟩:=i.res;clear d))
 go_wp2;refine xC rfl rfl rfl i.r m (bS.drew.trans (b.trans c)) Om (fun v W' q C=>⟨v,rfl,?_,C⟩);rw[HA.inv.1,aaa HXY.ae f.ae] at q;exact q):=h
def q2.agF(h:ar:=by open q3 in exact m12):=h
def ami(o n:Value)(x y:Int)(w:au)(ha:cj w o x)(hb:cj w n y)(fx:cQ x)(fy:cQ y)(Wm:decide (x<0)≠decide (y<0))(l:y.natAbs<=x.natAbs):
 Calls prog 128 #[o,n] w fun e a=>∃p,e= .returned p/\cj a p (x+y)/\Ext w a:=by
 open q2 in exact af6
def q5.Gq(h:ar:=by
 refine(aaZ _ _ x.natAbs y.natAbs W (HA.inv.2.ext bS) (HB.inv.2.ext bS) FX.fit FY.fit).mono ?_;rintro e a ⟨rfl,k,rfl⟩;have B:decide ((0:Int)<=eM x.natAbs y.natAbs)=false:=by rw[Da f];rfl
 have i:=af f;have bS:=af (bS.drewN k);have H0:=af (H0.drewN k);generalize eM x.natAbs y.natAbs=M at*;generalize W.drewN k=W at*;obtain⟨z,u,t,s⟩:=H0.cells;go_wp2_with fail
 obtain⟨z,u,t,s⟩:=H0.cells;go_region_held3 (fun a=>aA a w.heap.size 0 (.bool ba)/\aA a w.heap.size 1 (.slice Aa na ca)/\aA a (w.heap.size+1) 0 (.bool bb)/\aA a (w.heap.size+1) 1 (.slice Ab nb cb)) (first|exact⟨z,u,t,s⟩|exact(H0.drew.ext b).cells|exact j.cells|exact(j.put _ _).cells)
  (first
    |(go_at_call 206;refine(R6 _ _ y.natAbs x.natAbs _ (HB.inv.2.ext axC) (HA.inv.2.ext axC) FY.fit FX.fit (rJ i)).mono ?_;rintro e F ⟨A,rfl,l,b⟩)
    |(go_at_call 198;refine(rO bb A (y.natAbs - x.natAbs) _ l (FY.fit.le Om)).mono ?_;rintro e E ⟨G,rfl,d,c⟩;obtain⟨N,O,H,D,rfl,m⟩:=d.parts;have j:=af (H0.drew.ext (b.trans c));obtain⟨L,K,J,I⟩:=j.res;clear d))
 go_wp2;refine xC rfl rfl rfl j.r m (bS.drew.trans (b.trans c)) Om (fun v W' q C=>⟨v,rfl,?_,C⟩);rw[HB.inv.1,aaa (gU HXY) (rJ i),Int.add_comm] at q;exact q):=h
def q4.agF(h:ar:=by open q5 in exact m12):=h
def amh(o n:Value)(x y:Int)(w:au)(ha:cj w o x)(hb:cj w n y)(fx:cQ x)(fy:cQ y)(Wm:decide (x<0)≠decide (y<0))(f:x.natAbs<y.natAbs):
 Calls prog 128 #[o,n] w fun e a=>∃p,e= .returned p/\cj a p (x+y)/\Ext w a:=by
 open q4 in exact af6
def MZ(b a:Value)(x y:Int)(w:au)(f:cj w b x)(d:cj w a y)(j:cQ x)(i:cQ y):
 Calls prog 128 #[b,a] w fun e k=>∃l,e= .returned l/\cj k l (x+y)/\Ext w k:=by
 by_cases h:decide (x<0)=decide (y<0)
 ·exact ajp b a x y w f d j i h
 ·rcases cA x.natAbs y.natAbs with c|c
  ·exact amh b a x y w f d j i h c
  ·exact ami b a x y w f d j i h c
def akq(x y:Int):signed (decide (x<0) !=decide (y<0)) (x.natAbs*y.natAbs)=x*y:=by
 unfold signed;rw[oG];by_cases d:x<0
 ·have c:(x.natAbs:Int)= -x:=Om;by_cases b:y<0
  ·have a:(y.natAbs:Int)= -y:=Om;simp [d,b,c,a,Int.neg_mul_neg]
  ·have a:(y.natAbs:Int)=y:=Om;simp [d,b,c,a,Int.neg_mul]
 ·have c:(x.natAbs:Int)=x:=Om;by_cases b:y<0
  ·have a:(y.natAbs:Int)= -y:=Om;simp [d,b,c,a,Int.mul_neg]
  ·have a:(y.natAbs:Int)=y:=Om;simp [d,b,c,a]
def q7.Gq(h:ar:=by
 obtain⟨u,t,s,p⟩:=H0.cells;go_region_held3 (fun b=>aA b w.heap.size 0 (.bool ba)/\aA b w.heap.size 1 (.slice Aa na ca)/\aA b (w.heap.size+1) 0 (.bool bb)/\aA b (w.heap.size+1) 1 (.slice Ab nb cb)) (first|exact⟨u,t,s,p⟩|exact(H0.drew.ext a).cells|exact f.cells|exact(f.put _ _).cells)
  (first
    |(go_at_call 207;refine(aki _ y _ (HB.ext axC) FY).mono ?_;rintro e A ⟨C,rfl,i,a⟩)
    |(go_at_call 128;refine(MZ _ _ x (-y) _ (HA.ext (by exact bS.drew.trans a)) i FX FY.neg).mono ?_;rintro e z ⟨B,rfl,d,c⟩;obtain⟨I,J,D,q,rfl,j⟩:=d.parts;have f:=af (H0.drew.ext (a.trans c));obtain⟨H,G,F,E⟩:=f.res;clear d))
 go_wp2;refine xC rfl rfl rfl f.r j (bS.drew.trans (a.trans c)) Om (fun v W' o n=>⟨v,rfl,?_,n⟩);rw[Int.sub_eq_add_neg];exact o):=h
def q6.Dr(h:ar:=by go_enter func246,ntmps246;open q7 in exact m12):=h
def akh(l k:Value)(x y:Int)(w:au)(ha:cj w l x)(hb:cj w k y)(fx:cQ x)(fy:cQ y):
 Calls prog 246 #[l,k] w fun e b=>∃m,e= .returned m/\cj b m (x - y)/\Ext w b:=by
 open q6 in exact Dq
def q9.Gq(h:ar:=by
 obtain⟨z,u,t,q⟩:=H0.cells;go_region_held3 (fun a=>aA a w.heap.size 0 (.bool ba)/\aA a w.heap.size 1 (.slice Aa na ca)/\aA a (w.heap.size+1) 0 (.bool bb)/\aA a (w.heap.size+1) 1 (.slice Ab nb cb)) (first|exact⟨z,u,t,q⟩|exact(H0.drew.ext b).cells|exact f.cells|exact(f.put _ _).cells)
  (first
    |(go_at_call 209;refine(ako _ _ x.natAbs y.natAbs _ (HA.inv.2.ext axC) (HB.inv.2.ext axC) FX.fit FY.fit).mono ?_;rintro e B ⟨o,rfl,i,b⟩)
    |(go_at_call 198;refine(rO (ba !=bb) o (x.natAbs*y.natAbs) _ i (FX.aqe FY)).mono ?_;rintro e A ⟨C,rfl,d,c⟩;obtain⟨I,J,D,s,rfl,j⟩:=d.parts;have f:=af (H0.drew.ext (b.trans c));obtain⟨H,G,F,E⟩:=f.res;clear d))
 go_wp2;refine xC rfl rfl rfl f.r j (bS.drew.trans (b.trans c)) Om (fun v W' n p=>⟨v,rfl,?_,p⟩);rw[HA.inv.1,HB.inv.1,akq] at n;exact n):=h
def q8.Dr(h:ar:=by go_enter func130,ntmps130;open q9 in exact m12):=h
def qD(l k:Value)(x y:Int)(w:au)(ha:cj w l x)(hb:cj w k y)(fx:cQ x)(fy:cQ y):
 Calls prog 130 #[l,k] w fun e a=>∃m,e= .returned m/\cj a m (x*y)/\Ext w a:=by
 open q8 in exact Dq
def q11.Gq(h:ar:=by
 refine(ap_ _ _ x.natAbs y.natAbs W FX.fit FY.fit (HA.inv.2.ext bS) (HB.inv.2.ext bS)).mono ?_;rintro e q ⟨s,rfl,d,b⟩;have f:Fit (Nat.gcd x.natAbs y.natAbs):=by
  rcases j4 x.natAbs with i|i
  ·rw[i,Nat.gcd_zero_left];exact FY.fit
  ·exact FX.fit.le (Nat.gcd_le_left _ i)
 go_wp2_with fail
 refine(rO false s (Nat.gcd x.natAbs y.natAbs) q d f).mono ?_;rintro e A ⟨B,rfl,c,a⟩;obtain⟨H,I,C,z,rfl,k⟩:=c.parts;have p:=af (H0.ext (b.trans a));obtain⟨G,F,E,D⟩:=p.res;have j:=af (bS.trans (b.trans a));go_wp2;exact xC rfl rfl rfl p.r k j Om (fun v W' u t=>⟨v,rfl,u,t⟩)):=h
def q10.Dr(h:ar:=by go_enter func190,ntmps190;open q11 in exact m12):=h
def aaX(n m:Value)(x y:Int)(w:au)(ha:cj w n x)(hb:cj w m y)(fx:cQ x)(fy:cQ y):
 Calls prog 190 #[n,m] w fun e l=>∃o,e= .returned o/\cj l o (Int.gcd x y:Nat)/\Ext w l:=by
 open q10 in exact Dq
def DK.Dr(h:ar:=by
 go_enter func191,ntmps191;go_wp2_with fail;have a:ah (Ext w ((w.alloc (Obj.cells #[Value.bool ba,Value.slice Aa na ca] dm)).alloc (Obj.cells #[Value.bool bb,Value.slice Ab nb cb] dm))):=((aB w).alloc _).alloc _;generalize(w.alloc (Obj.cells #[Value.bool ba,Value.slice Aa na ca] dm)).alloc (Obj.cells #[Value.bool bb,Value.slice Ab nb cb] dm)=W at*;refine(akh _ _ x y W (HA.ext a) (HB.ext a) FX FY).mono ?_;rintro e k ⟨m,rfl,d,c⟩;have f:=FX.sub FY;go_wp2_with fail
 refine(RB m (x - y) k d f).mono ?_;rintro e n ⟨rfl,b⟩;go_wp2;go_ret;exact⟨rfl,a.trans (c.trans b)⟩):=h
def Ir(j i:Value)(x y:Int)(w:au)(ha:cj w j x)(hb:cj w i y)(fx:cQ x)(fy:cQ y):
 Calls prog 191 #[j,i] w fun e l=>e= .returned (av (x - y).sign)/\Ext w l:=by
 open DK in exact Dq
def ai8(u:Nat)(a:u<18446744073709551616):bI [u%B9,u/B9%B9,u/B9/B9]/\val [u%B9,u/B9%B9,u/B9/B9]=u:=by refine⟨rT (fC _ Od) (rT (fC _ Od) (rT axp kK)),?_⟩;simp only[mZ,FK];unfold B9;omega
def Sl.afJ(w:au)(t:TypeId)(a:Array Value)(g:Nat)(b:g=w.heap.size):Sl (w.alloc (.cells a t)) t (dV g 0) a.toList:=by subst b;exact Sl.new w t a
def Ju(z:Int)(w:au)(n: -9223372036854775808<=z)(h1:z<=9223372036854775807):
 Calls prog 126 #[av z] w fun e w'=>∃c,e= .returned c/\cj w' c z/\Ext w w':=by
 obtain⟨u,hu⟩:∃u,u=z.natAbs:=⟨_,rfl⟩;have f:u<=9223372036854775808:=Om;have i:=ai8 u Om;have HL:=af i;have o:=af hu;have a:Fit u:=I9 (e:=20) Om Om;have HF:=af a;have b:signed (decide (z<0)) u=z:=by unfold signed;by_cases h:z<0<;>simp [h]<;>omega
 have AY:=af b;clear i a b;have l:(u:Int)%1000000000=((u%B9:Nat):Int):=axp;have k:(u:Int)/1000000000%1000000000=((u/B9%B9:Nat):Int):=axp;have j:(u:Int)/1000000000/1000000000=((u/B9/B9:Nat):Int):=axp;have VI:=af (And.intro l (And.intro k j));clear l k j;by_cases d:z<0
 ·have hd:decide (z<0)=true:=decide_eq_true d;have m:IntKind.u64.wrap (-IntKind.u64.wrap z)=(u:Int):=by rw[kD,kD];omega
  exact m19
 ·have hd:decide (z<0)=false:=decide_eq_false d;have m:IntKind.u64.wrap z=(u:Int):=axy;exact m19
def Ov(x y:Int)(w:au)(e:Ending)(a:au):Prop:=
 ∃q r,e= .returned (.tuple #[q,r])/\cj a q (x/y)/\cj a r (x%y)/\Ext w a
def akp(n m:Value)(a b:Nat)(w:au)(z:eO w n a)(y:eO w m b)(B:Fit a)(A:Fit b)(x:0<b):
 Calls prog 260 #[n,m] w fun e f=>∃q r,e= .returned (.tuple #[q,r])/\eO f q (a/b)/\eO f r (a%b)/\Ext w f:=by
 obtain⟨F,D,rfl,l,p⟩:=z;obtain⟨E,C,rfl,v,o⟩:=y;unfold Fit at B A;refine(Sd F E D C (a7 a) (a7 b) w Om Om (dE a) (dE b) l p o (by rw[Ne,ve];omega)).mono ?_;rintro e f ⟨L,H,J,K,G,I,rfl,u,t,k,j,d,c,i,h,s⟩;rw[dG,dG] at d c;exact⟨_,_,rfl,.mk' k d u i,.mk' j c t h,s⟩
def eO.parts(h:eO m p a):∃A n c,p= .slice A n c/\decide (0<n)=decide (0<a)/\n<=c/\ah (eO m (.slice A n c) a):=by
 obtain⟨A,c,rfl,b,e⟩:=h;refine⟨A,_,c,rfl,?_,b,⟨A,c,rfl,b,e⟩⟩;have d:(a7 a).length=0↔a=0:=by rw[List.length_eq_zero_iff,ve]
 by_cases h:a=0
 ·have:=d.2 h;rw[this,h]
 ·have:(a7 a).length≠0:=fun k=>h (d.1 k);rw[decide_eq_true Om,decide_eq_true Om]
def akW(i:0<C)(d:¬(B<0/\0<B.natAbs%C.natAbs)):signed (decide (B<0) !=decide (C<0)) (B.natAbs/C.natAbs)=B/C/\signed false (B.natAbs%C.natAbs)=B%C:=by
 obtain⟨b,rfl⟩:∃b:Nat,C=b:=⟨C.natAbs,by omega⟩;have e:decide ((b:Int)<0)=false:=aW;simp only[ib] at d⊢;unfold signed;by_cases c:B<0
 ·obtain⟨a,rfl⟩:∃a:Nat,B= -(a:Int):=⟨B.natAbs,by omega⟩;simp only[Int.natAbs_neg,ib] at d⊢;have h:a%b=0:=Om;have f:(b:Int)∣(a:Int):=Int.natCast_dvd_natCast.2 (Nat.dvd_of_mod_eq_zero h);rw[e,decide_eq_true c,h];refine⟨?_,?_⟩
  ·simp only[bne,Bool.true_beq,Bool.not_false,if_true];rw[Int.neg_ediv_of_dvd f,Cc]
  ·exact(Int.emod_eq_zero_of_dvd (Int.dvd_neg.2 f)).symm
 ·obtain⟨a,rfl⟩:∃a:Nat,B=(a:Int):=⟨B.natAbs,by omega⟩;rw[e,decide_eq_false c];simp only[ib];exact⟨by simp,by simp⟩
def Z4{e:Func}{p q:Tmp}(h:e.results= #[.cell p w,.cell q x])(b:Array Value){P:Program}(a:au)(g k:Nat)(u v:Value)
 (i:b.getD p undef=aI g 0) (f:b.getD q undef=aI k 0)
 (l:(loadVar w ⟨g,0,none⟩).run P a= .ok u a) (j:(loadVar x ⟨k,0,none⟩).run P a= .ok v a):
 (results e b).run P a= .ok (.tuple #[u,v]) a:=by
 have d:b[p]?.getD undef=aI g 0:=ayA;have c:b[q]?.getD undef=aI k 0:=ayh;simp [results,h,d,c,asAddr,Sem.run_bind,Result.andThen,l,j]
def adk{g:Nat}(d:aq m g dm [.bool R,.slice E a b]):(loadVar dm ⟨g,0,none⟩).run prog m= .ok (.agg #[.bool R,.slice E a b]) m:=
 run_loadVar_row m g dm dm #[.bool R,.slice E a b] (0,0) _ d underlying128 rfl Ok
def ad4{z:Func}{t g:Nat}{x0 x1 y0 y1:Value}(f:z.results= #[.cell t dm,.cell a dm])(G:Q.tmps.getD t undef=aI g 0)(k:Q.tmps.getD a undef=aI (g+1) 0)(H:Q.defers= [])
 (v:aq n g dm [x0,x1]) (s:aq n (g+1) dm [y0,y1]) (J:cj n (.agg #[.bool R,.slice E b c]) (B/C)) (I:cj n (.agg #[.bool S,.slice F d e]) (B%C)) (D:Ext m n) (u:m.heap.size<=g):
 bodyPost prog z (Ov B C m) .ret Q ((((n.setCell (aD g 0) (.bool R)).setCell (aD g 1) (.slice E b c)).setCell (aD (g+1) 0) (.bool S)).setCell (aD (g+1) 1) (.slice F d e)):=by
 have r:aq ((n.setCell (aD g 0) (.bool R)).setCell (aD g 1) (.slice E b c)) g dm [.bool R,.slice E b c]:=(v.bh 0 (.bool R)).bh 1 (.slice E b c);have j:aq ((n.setCell (aD g 0) (.bool R)).setCell (aD g 1) (.slice E b c)) (g+1) dm [y0,y1]:=(s.far (p:=aD g 0) (by show g+1≠g;omega) _).far (p:=aD g 1) (by show g+1≠g;omega) _;have i:=v.pW (t:=265) Od 0 1 (.bool R) (.slice E b c);have l:Ext m ((n.setCell (aD g 0) (.bool R)).setCell (aD g 1) (.slice E b c)):=(D.setCell u _).setCell u _;generalize(n.setCell (aD g 0) (.bool R)).setCell (aD g 1) (.slice E b c)=A at*;have q:aq ((A.setCell (aD (g+1) 0) (.bool S)).setCell (aD (g+1) 1) (.slice F d e)) g dm [.bool R,.slice E b c]:=(r.far (p:=aD (g+1) 0) (by show g≠g+1;omega) _).far (p:=aD (g+1) 1) (by show g≠g+1;omega) _;have o:aq ((A.setCell (aD (g+1) 0) (.bool S)).setCell (aD (g+1) 1) (.slice F d e)) (g+1) dm [.bool S,.slice F d e]:=(j.bh 0 (.bool S)).bh 1 (.slice F d e);have h:=j.pW (t:=265) Od 0 1 (.bool S) (.slice F d e);exact bodyPost_ret (Z4 f Q.tmps _ g (g+1) _ _ G k (adk q) (adk o)) H ⟨_,_,rfl,J.keep (i.trans h),I.keep (i.trans h),(l.setCell (show m.heap.size<=g+1 by omega) _).setCell (show m.heap.size<=g+1 by omega) _⟩
def q14.k16(h:ar:=by
 have s:ba=false\/ba=true/\decide (0<nr)=false:=by
  rw[HA.inv.1,Kk];have:=A.ae;by_cases h:x<0
  ·exact .inr ⟨decide_eq_true h,decide_eq_false (fun k=>this ⟨h,k⟩)⟩
  ·exact .inl (decide_eq_false h)
 clear Kk;rcases s with rfl|⟨rfl,s⟩;all_goals
  go_wp2_with fail
  refine(rO _ _ (x.natAbs/y.natAbs) _ HQ fq).mono ?_;rintro e C ⟨E,rfl,i,b⟩;obtain⟨Q,S,G,z,rfl,m⟩:=i.parts;go_wp2_with fail;refine(rO _ _ (x.natAbs%y.natAbs) _ (HR.ext b) fr).mono ?_;rintro e B ⟨D,rfl,f,a⟩;obtain⟨P,R,F,v,rfl,l⟩:=f.parts;have c:=af (m.ext a);have u:=af (H1.ext (b.trans a));have d:=af (H5.ext (b.trans a));have j:=af (cD.trans (b.trans a));obtain⟨O,N,M,L⟩:=u.res;have K:=d.aF 0;have J:=d.aF 1;have I:=d.frozen 0;have H:=d.frozen 1;go_wp2;exact ad4 rfl rfl rfl rfl u.r d (by rw[<-HD.1];first|(rw[show(false !=bb)=bb by cases bb<;>rfl];exact c)|(rw[show(true !=bb)= !bb by cases bb<;>rfl];exact c)) (by rw[<-HD.2];exact l) j Om):=h
def q13.Dr(h:ar:=by have HY:=af p;have A:=af t;have hd:=akW p t;open q14 in exact m16):=h
def aiO(o n:Value)(x y:Int)(w:au)(ha:cj w o x)(hb:cj w n y)(fx:cQ x)(fy:cQ y)(p:0<y)(t:¬(x<0/\0<x.natAbs%y.natAbs)):
 Calls prog 208 #[o,n] w (Ov x y w):=by
 open q13 in exact Dq
def aqd:Fit 1:=I9 (e:=1) Od Od
def aqD(w:au):eO (w.alloc (Obj.cells #[.int .u64 1] 265)).drew (aG w.heap.size 0 1 1) 1:=
 eO.mk' ⟨rT Od kK,by unfold gN;decide⟩ rfl Od (Sl.new w 265 #[.int .u64 1])
def aim(k:0<C)(c:B<0/\0<B.natAbs%C.natAbs):signed (decide (B<0) !=decide (C<0)) (B.natAbs/C.natAbs+1)=B/C/\signed false (C.natAbs - B.natAbs%C.natAbs)=B%C:=by
 obtain⟨b,rfl⟩:∃b:Nat,C=b:=⟨C.natAbs,by omega⟩;obtain⟨a,rfl⟩:∃a:Nat,B= -(a:Int):=⟨B.natAbs,by omega⟩;simp only[Int.natAbs_neg,ib] at c⊢;have e:decide ((b:Int)<0)=false:=aW;rw[e,decide_eq_true c.1];have j:=uX a b;have i:a%b<b:=fC _ Om;have d:(-(a:Int))= -((a/b+1:Nat):Int)*(b:Int)+((b - a%b:Nat):Int):=by
  rw[Int.ofNat_sub (rJ i)];have:((b*(a/b)+a%b:Nat):Int)=(a:Int):=by rw[j]
  push_cast at this⊢
  grind
 have h:(-(a:Int))/b= -((a/b+1:Nat):Int):=(by rw[d,Int.add_comm,Int.add_mul_ediv_right _ _ Om,Int.ediv_eq_zero_of_lt Om Om];omega);have f:(-(a:Int))%b=((b - a%b:Nat):Int):=(by rw[d,Int.add_comm,Int.add_mul_emod_self_right,Int.emod_eq_of_lt Om Om]);rw[h,f];exact⟨rfl,rfl⟩
def q16.k16(h:ar:=by
 have t:ba=true:=by rw[HA.inv.1];exact decide_eq_true L.1
 subst t;have ht:decide (0<nr)=true:=by rw[Kk];exact decide_eq_true L.2
 have s:x.natAbs%y.natAbs<=y.natAbs:=rJ (fC _ ayM);have E:=af s;go_wp2_with fail
 go_region_held3 (fun G=>aA G (w.heap.size+1) 0 (.bool bb)/\aA G (w.heap.size+1) 1 (.slice Ab nb cb)) (first|exact⟨c2,c3⟩|exact(H1.ext ((aB _).alloc _)).drew.cells.2.2|exact((H1.ext ((aB _).alloc _)).drew.ext a).cells.2.2|exact((H1.ext ((aB _).alloc _)).drew.ext (a.trans d)).cells.2.2)
  (first
    |(go_at_call 204;refine(aa0 _ _ (x.natAbs/y.natAbs) 1 _ (HQ.ext (by exact((aB _).alloc _).drew)) (by exact aqD w1) fq aqd).mono ?_;rintro e S ⟨X,rfl,p,a⟩)
    |(go_at_call 206;refine(R6 _ _ y.natAbs (x.natAbs%y.natAbs) _ (HB.inv.2.ext (by exact(cD.trans ((aB _).alloc _).drew).trans a)) (HR.ext (by exact((aB _).alloc _).drew.trans a)) FY.fit fr E).mono ?_;rintro e R ⟨V,rfl,o,d⟩))
 all_goals
  have f:=af (((aB w1).alloc (Obj.cells #[.int .u64 1] 265)).drew.trans (a.trans d));have D:=af (p.ext d);have C:=af o;have l:=af (H1.ext f);have F:=af (H5.ext f);have i:=af (cD.trans f);have v:ah (Fit (x.natAbs/y.natAbs+1)):=(FX.T6 FY).le (by have:=Ce x.natAbs y.natAbs;have:=HY.ae;omega);have u:ah (Fit (y.natAbs - x.natAbs%y.natAbs)):=FY.fit.le (Nat.sub_le _ _);obtain⟨c0,c1,c2,c3⟩:=l.cells;go_wp2_with fail
  refine(rO _ _ (x.natAbs/y.natAbs+1) _ D v).mono ?_;rintro e Q ⟨U,rfl,n,c⟩;obtain⟨b4,A4,Z,O,rfl,B⟩:=n.parts;go_wp2_with fail;refine(rO _ _ (y.natAbs - x.natAbs%y.natAbs) _ (C.ext c) u).mono ?_;rintro e P ⟨T,rfl,m,b⟩;obtain⟨b5,A5,Y,N,rfl,A⟩:=m.parts;have j:=af (B.ext b);have M:=af (l.ext (c.trans b));have k:=af (F.ext (c.trans b));have z:=af (i.trans (c.trans b));obtain⟨k0,k1,k2,k3⟩:=M.res;have l0:=k.aF 0;have l1:=k.aF 1;have l2:=k.frozen 0;have l3:=k.frozen 1;go_wp2;exact ad4 rfl rfl rfl rfl M.r k (by rw[<-HD.1];rw[show(true !=bb)= !bb by cases bb<;>rfl];exact j) (by rw[<-HD.2];exact A) z Om):=h
def q15.Dr(h:ar:=by have HY:=af J;have L:=af K;have hd:=aim J K;open q16 in exact m16):=h
def akk(I H:Value)(x y:Int)(w:au)(ha:cj w I x)(hb:cj w H y)(fx:cQ x)(fy:cQ y)(J:0<y)(K:x<0/\0<x.natAbs%y.natAbs):
 Calls prog 208 #[I,H] w (Ov x y w):=by
 open q15 in exact Dq
def aaY(b a:Value)(x y:Int)(w:au)(e:cj w b x)(d:cj w a y)(i:cQ x)(f:cQ y)(c:0<y):
 Calls prog 208 #[b,a] w (Ov x y w):=by
 by_cases h:x<0/\0<x.natAbs%y.natAbs
 ·exact akk b a x y w e d i f c h
 ·exact aiO b a x y w e d i f c h
abbrev cY:TypeId:=130
def bQ(w:au)(v:Value)(q:Rat):Prop:=∃a b c d,v= .agg #[a,b,c,d]/\cj w (.agg #[a,b]) q.num/\cj w (.agg #[c,d]) q.den
def bQ.ext{w':au}{q:Rat}(h:bQ m p q)(e:Ext m w'):bQ w' p q:=by obtain⟨a,b,c,d,rfl,i,f⟩:=h;exact⟨a,b,c,d,rfl,i.ext e,f.ext e⟩
def bQ.keep(h:bQ m p H)(e:Kept 265 m n):bQ n p H:=by obtain⟨a,b,c,d,rfl,i,f⟩:=h;exact⟨a,b,c,d,rfl,i.keep e,f.keep e⟩
def bQ.parts(h:bQ m p H):∃b A n c i j e f,p= .agg #[.bool b,.slice A n c,.bool i,.slice j e f]/\ah (cj m (.agg #[.bool b,.slice A n c]) H.num)/\ah (cj m (.agg #[.bool i,.slice j e f]) H.den):=by exact as7
def bQ.mk'{c:Value}(f:cj m (.agg #[p,q]) H.num)(e:cj m (.agg #[c,r]) H.den):bQ m (.agg #[p,q,c,r]) H:=⟨p,q,c,r,rfl,f,e⟩
def bR(e:Nat)(q:Rat):Prop:=q.num.natAbs<10^e/\q.den<10^e
def bR.num(h:bR e H)(a:e<=1000000):cQ H.num:=⟨e,a,h.1⟩
def bR.den(h:bR e H)(a:e<=1000000):cQ H.den:=⟨e,a,by simpa using h.2⟩
def bR.mono(h:bR e H)(b:e<=a):bR a H:=⟨cy h.1 (fK Od b),cy h.2 (fK Od b)⟩
def Fx:cQ 1:=⟨1,by decide,by decide⟩
def alc(q:Rat):(((q.den:Int) - 1).sign==0)=decide (q.den=1):=by
 by_cases h:q.den=1
 ·rw[h];rfl
 ·rw[decide_eq_false h];have:((q.den:Int) - 1).sign≠0:=by rw[Ne,Zl];omega
  simpa using this
def aR{P:World->Prop}{l:List Value}(h:∀W,ah (Ext m W)->ah (aq W m.heap.size w l)->P W):P (m.alloc (.cells l.toArray w)):=
 h _ ((aB m).alloc _) (jd m w l)
def gJ{P:World->Prop}(h:∀W,ah (Ext m W)->ah (aq W m.heap.size w t)->ah (aq W (m.heap.size+1) x u)->P W):P ((m.alloc (.cells t.toArray w)).alloc (.cells u.toArray x)):=
 h _ (((aB m).alloc _).alloc _) ((jd m w t).ext ((aB _).alloc _)) (l6 (m.alloc (.cells t.toArray w)) x u _ Ou)
def vG{P:World->Prop}{a:TypeId}(h:∀W,ah (Ext m W)->ah (aq W m.heap.size w t)->ah (aq W (m.heap.size+1) x u)->ah (aq W (m.heap.size+1+1) a v)->P W):P (((m.alloc (.cells t.toArray w)).alloc (.cells u.toArray x)).alloc (.cells v.toArray a)):=
 h _ ((((aB m).alloc _).alloc _).alloc _) ((jd m w t).ext (((aB _).alloc _).alloc _)) ((l6 (m.alloc (.cells t.toArray w)) x u _ Ou).ext ((aB _).alloc _)) (l6 ((m.alloc (.cells t.toArray w)).alloc (.cells u.toArray x)) a v _ Ou)
def aq.xG{g:Nat}(h:aq m g w t)(b:g≠a)(u0 u1 u2 u3:Value):aq ((((m.setCell (aD a 0) u0).setCell (aD a 1) u1).setCell (aD a 2) u2).setCell (aD a 3) u3) g w t:=
 (((h.far b u0).far b u1).far b u2).far b u3
def aq.oO{g k:Nat}{t:TypeId}(h:aq m g t u)(a:g≠k)(u0 u1:Value):aq ((m.setCell (aD k 0) u0).setCell (aD k 1) u1) g t u:=
 (h.far a u0).far a u1
def xU(g:Nat):g≠g+1:=Om
def J_(g:Nat):g≠g+1+1:=Om
def JQ(g:Nat):g+1≠g+1+1:=Om
def aq.four{g:Nat}(h:aq m g w [p,q,r,s]):aA m g 0 p/\aA m g 1 q/\aA m g 2 r/\aA m g 3 s:=
 ⟨h.cell rfl,h.cell rfl,h.cell rfl,h.cell rfl⟩
def aq.fX{g:Nat}(h:aq m g w t):m.frozen? (aD g 0)=false/\m.frozen? (aD g 1)=false/\m.frozen? (aD g 2)=false/\m.frozen? (aD g 3)=false:=
 ⟨h.frozen 0,h.frozen 1,h.frozen 2,h.frozen 3⟩
def aq.two{g:Nat}(h:aq m g w [p,q]):aA m g 0 p/\aA m g 1 q:=
 ⟨h.cell rfl,h.cell rfl⟩
def Sj(v:Value)(q:Rat)(w:au)(h:bQ w v q)(o:bR a q)(p:a<=1000000):
 Calls prog 127 #[v] w fun a j=>a= .returned (.bool (decide (q.den=1)))/\Ext w j:=by
 obtain⟨b,A,n,c,u,B,m,t,rfl,H,y⟩:=h.parts;have z:=af (o.den p);have x:=af (alc q);go_enter func127,ntmps127;go_wp2_with fail
 refine aR fun W i k=> ?_;obtain⟨G,F,s,r⟩:=k.four;go_region_held3 (fun j=>aA j w.heap.size 2 (.bool u)/\aA j w.heap.size 3 (.slice B m t)) (first|exact⟨s,r⟩|exact(k.ext (aB _).drew).four.2.2|exact(k.ext ((aB _).drew.trans d)).four.2.2|exact(k.ext (((aB _).drew.trans d).trans f)).four.2.2)
  (first
    |(go_at_call 126;refine(Ju 1 _ Od Od).mono ?_;rintro a D ⟨E,rfl,l,d⟩)
    |(go_at_call 191;refine(Ir _ _ q.den 1 _ (y.ext (by exact i.trans ((aB _).drew.trans d))) l z Fx).mono ?_;rintro a C ⟨rfl,f⟩))
 go_wp2;go_ret;exact⟨by rw[x.ae];rfl,i.trans (((aB _).drew.trans d).trans f)⟩
def zr{f:Func}{g:Nat}{x0 x1 u0 u1 u2 u3:Value}{R:Ending->World->Prop}(b:f.results= #[.cell a cY])(i:Q.tmps.getD a undef=aI g 0)(j:Q.defers= [])
 (e:aq n g cY [u0,u1,u2,u3]) (l:bQ n (.agg #[x0,x1,p,q]) H) (h:Ext m n) (c:m.heap.size<=g) (k:∀v W',bQ W' v H->Ext m W'->R (.returned v) W'):
 bodyPost prog f R .ret Q ((((n.setCell (aD g 0) x0).setCell (aD g 1) x1).setCell (aD g 2) p).setCell (aD g 3) q):=by
 have d:=(((e.bh 0 x0).bh 1 x1).bh 2 p).bh 3 q;exact bodyPost_ret (results_cell_row b Q.tmps _ g cY #[x0,x1,p,q] (0,0) _ i d underlying130 rfl Ok) j (k _ _ (l.keep (e.JD Od 0 1 2 3 x0 x1 p q)) ((((h.setCell c _).setCell c _).setCell c _).setCell c _))
def abc(v:Value)(z:Int)(w:au)(h:cj w v z):
 Calls prog 125 #[v] w fun e f=>∃o,e= .returned o/\bQ f o (z:Rat)/\Ext w f:=by
 obtain⟨b,A,n,c,rfl,H⟩:=h.parts;go_enter func125,ntmps125;go_wp2_with fail;refine gJ fun W i j u=> ?_;obtain⟨t,s⟩:=j.two;go_region_held3 (fun f=>aA f w.heap.size 0 (.bool b)/\aA f w.heap.size 1 (.slice A n c)) (first|with_reducible exact⟨t,s⟩|with_reducible exact j.ae.drew.two|with_reducible exact(j.ae.ext a).two|with_reducible exact((j.ae.ext a).xG (xU _) _ _ _ _).two)
  (first|(go_at_call 126;refine(Ju 1 _ Od Od).mono ?_;rintro e x ⟨y,rfl,l,k⟩;obtain⟨G,I,B,r,rfl,m⟩:=l.parts;have a:=(aB W).drew.trans k;have d:=af (u.ext a);obtain⟨F,E,D,C⟩:=d.four;obtain⟨f0,f1,f2,f3⟩:=d.fX))
 go_wp2;exact zr rfl rfl rfl d.ae (.mk' (H.ext (i.trans a)) m.ae) (i.trans a) Om (fun v W' q p=>⟨v,rfl,q,p⟩)
def zy(z:Int)(w:au)(q: -9223372036854775808<=z)(j:z<=9223372036854775807):
 Calls prog 60 #[av z] w fun e k=>∃l,e= .returned l/\bQ k l (z:Rat)/\Ext w k:=by
 have x:=af q;have u:=af j;go_enter func60,ntmps60;go_wp2_with fail
 refine aR (P:=fun W=>Calls _ _ _ W _) fun W r s=> ?_;refine(Ju z W x u).mono ?_;rintro e m ⟨o,rfl,i,f⟩;go_wp2_with fail;refine(abc o z m i).mono ?_;rintro e y ⟨B,rfl,h,d⟩;obtain⟨b,A,n,c,I,K,C,H,rfl,J,t⟩:=h.parts;have a:=af (s.ext (f.trans d));obtain⟨G,F,E,D⟩:=a.four;obtain⟨f0,f1,f2,f3⟩:=a.fX;go_wp2;exact zr rfl rfl rfl a.ae h (r.trans (f.trans d)) Om (fun v W' j p=>⟨v,rfl,j,p⟩)
def amO(v:Value)(q:Rat)(w:au)(h:bQ w v q)(j:bR a q)(k:a<=1000000):
 Calls prog 98 #[v] w fun a i=>a= .returned (av q.num.sign)/\Ext w i:=by
 obtain⟨b,A,n,c,r,u,o,p,rfl,H,t⟩:=h.parts;have l:=af (j.num k).wide;go_enter func98,ntmps98;go_wp2_with fail
 refine aR (P:=fun W=>Calls _ _ _ W _) fun W f s=> ?_;refine(RB _ q.num W (H.ext f) l).mono ?_;rintro a m ⟨rfl,d⟩;go_wp2;go_ret;exact⟨rfl,f.trans d⟩
def aaj(n d:Int)(a:0<d):(Rat.divInt n d).num=n/ (Int.gcd n d:Nat)/\((Rat.divInt n d).den:Int)=d/ (Int.gcd n d:Nat):=by rw[Rat.num_divInt,Rat.den_divInt,if_neg Om,Ie a,Int.one_mul,Int.gcd_comm d n];refine⟨rfl,?_⟩;rw[Cc];congr 1;omega
def afI{P:World->Prop}{g:Nat}{x0 x1 u0 u1:Value}(f:w≠265)(d:aq m g w [x0,x1])
 (h:∀W,ah (Kept 265 m W)->ah (∀k b l,k≠g->aq m k b l->aq W k b l)->ah (∀a,Ext a m->a.heap.size<=g->Ext a W)->ah (aq W g w [u0,u1])->P W):P ((m.setCell (aD g 0) u0).setCell (aD g 1) u1):=
 h _ (d.pW f 0 1 u0 u1) (fun _ _ _ i j=>j.oO i u0 u1) (fun _ e c=>(e.setCell c _).setCell c _) ((d.bh 0 u0).bh 1 u1)
def q17.Dr(h:ar:=by
 have HY:=af hy;have hs:=Ie hy;go_enter func129,ntmps129;go_wp2_with fail
 refine vG (P:=fun W=>Calls _ _ _ W _) fun W B BA BB BR=> ?_;refine(RB _ y W (HB.ext B) FY.wide).mono ?_;rintro e w1 ⟨rfl,k⟩;rw[hs];have S:=af (BA.ext k);have Q:=af (BB.ext k);have K:=af (BR.ext k);have o:=af (B.trans k);obtain⟨a0,a1⟩:=S.two;obtain⟨U,T⟩:=Q.two;go_wp2_with fail
 refine(aaX _ _ x y w1 (HA.ext o) (HB.ext o) FX FY).mono ?_;rintro e w2 ⟨v2,rfl,u,f⟩;obtain⟨bg,Ag,ng,cg,rfl,HG⟩:=u.parts;go_wp2_with fail;refine aR fun W2 j M=> ?_;have EL:=af (S.ext (f.trans j));have Bo:=af (Q.ext (f.trans j));have EK:=af (K.ext (f.trans j));have nC:=af (o.trans (f.trans j));have F:=af (u.ext j);have mE:=(K.ext f).lt;have Ey:=af mE;have WT:0<Int.gcd x y:=ZB (fun h=>by have:=(Int.gcd_eq_zero_iff.1 h).2;have:=HY.ae;omega);have G:=af WT;have PC:=FY.le (by rw[ib];exact Nat.le_of_dvd ayM (Int.gcd_dvd_natAbs_right x y));have FG:=af PC;obtain⟨g0,g1⟩:=M.two;go_region_held3 (fun t=>aA t w2.heap.size 0 (.bool bg)/\aA t w2.heap.size 1 (.slice Ag ng cg)) (first|with_reducible exact⟨g0,g1⟩|with_reducible exact M.ae.drew.two|with_reducible exact(M.ae.ext a).two|with_reducible exact(M.ae.ext (a.trans b)).two)
  (first
    |(go_at_call 126;refine(Ju 1 _ Od Od).mono ?_;rintro e w3 ⟨v3,rfl,Y,X⟩;have a:=(aB W2).drew.trans X)
    |(go_at_call 191;refine(Ir _ _ (Int.gcd x y:Nat) 1 _ (F.ext (by exact a)) Y FG Fx).mono ?_;rintro e w4 ⟨rfl,b⟩))
 all_goals
  have R:=af (EL.ext (a.trans b));have O:=af (Bo.ext (a.trans b));have l:=af (EK.ext (a.trans b));have L:=af (M.ext (a.trans b));have i:=af (nC.trans (a.trans b));have H:=af (F.ext (a.trans b));obtain⟨a0,a1⟩:=R.two;obtain⟨U,T⟩:=O.two;obtain⟨g0,g1⟩:=L.two;obtain⟨k0,k1,k2,k3⟩:=l.four;obtain⟨f0,f1,f2,f3⟩:=l.fX;have V:=af (aaj x y HY);by_cases z:Int.gcd x y=1
  ·have ht:((((Int.gcd x y:Nat):Int) - 1).sign !=0)=false:=by rw[z];rfl
   have I:=af z;go_wp2;refine zr rfl rfl rfl l.ae (.mk' ?_ ?_) i Om (fun v W' h1 h2=>⟨v,rfl,h1,h2⟩)
   ·rw[V.1,I.ae];simpa using HA.ext i
   ·rw[V.2,I.ae];simpa using HB.ext i
  ·have ht:((((Int.gcd x y:Nat):Int) - 1).sign !=0)=true:=by
    have:(((Int.gcd x y:Nat):Int) - 1).sign≠0:=by rw[Ne,Zl];omega
    simpa using this
   go_wp2_with fail
   refine(aaY _ _ x (Int.gcd x y:Nat) w4 (HA.ext i) H FX FG ays).mono ?_;rintro e w5 ⟨q,r,rfl,hq,hr,c⟩;obtain⟨bq,Aq,nq,cq,rfl,HQ⟩:=hq.parts;obtain⟨br,Ar,nr,cr,rfl,_⟩:=hr.parts;have n:=af (R.ext c);obtain⟨a0,a1⟩:=n.two;have a2:=n.frozen 0;have a3:=n.frozen 1;have Zc:=af (O.ext c);have BG5:=af (L.ext c);have kB:=af (l.ext c);have d8:=af (i.trans c);have Yt:=af (H.ext c);go_upto_region 6 with fail
   refine afI Od n fun W6 E p Hp QJ=> ?_;have N:=af (p _ _ _ (gU (xU _)) Zc);have BG6:=af (p _ _ _ (by have:=Ey.ae;omega) BG5);have pK:=af (p _ _ _ (gU (J_ _)) kB);have A:=af (Hp _ d8 (aL _));have XW:=af (HQ.keep E);have HG6:=af (Yt.keep E);obtain⟨U,T⟩:=N.two;obtain⟨g0,g1⟩:=BG6.two;go_wp2_with fail
   refine(aaY _ _ y (Int.gcd x y:Nat) W6 (HB.ext A) HG6 FY FG ays).mono ?_;rintro e w7 ⟨q7,r7,rfl,hq7,Z,d⟩;obtain⟨bq7,Aq7,nq7,cq7,rfl,XV⟩:=hq7.parts;obtain⟨br7,Ar7,nr7,cr7,rfl,_⟩:=Z.parts;have Zd:=af (QJ.ext d);have m:=af (N.ext d);have BR7:=af (pK.ext d);have f_:=af (A.trans d);have C:=af (XW.ext d);obtain⟨U,T⟩:=m.two;have b2:=m.frozen 0;have b3:=m.frozen 1;go_upto_region 7 with fail
   refine afI Od m fun W8 D J LN BB8=> ?_;have BA8:=af (J _ _ _ (xU _) Zd);have s:=af (J _ _ _ (gU (JQ _)) BR7);have lz:=af (LN _ f_ Om);have HN:=af (C.keep D);have HM:=af (XV.keep D);rw[<-V.1] at HN;rw[<-V.2] at HM;obtain⟨a0,a1⟩:=BA8.two;obtain⟨U,T⟩:=BB8.two;obtain⟨k0,k1,k2,k3⟩:=s.four;obtain⟨f0,f1,f2,f3⟩:=s.fX;go_wp2;exact zr rfl rfl rfl s.ae (.mk' HN.ae HM.ae) lz Om (fun v W' h1 h2=>⟨v,rfl,h1,h2⟩)):=h
def Ns(va vb:Value)(x y:Int)(w:au)(ha:cj w va x)(hb:cj w vb y)(fx:cQ x)(fy:cQ y)(hy:0<y):
 Calls prog 129 #[va,vb] w fun e t=>∃v',e= .returned v'/\bQ t v' (Rat.divInt x y)/\Ext w t:=by
 open q17 in exact Dq
def Fk(q:Rat):0<(q.den:Int):=ayz
def Si(a b:Rat):Rat.divInt (a.num*b.den+b.num*a.den) (a.den*b.den)=a+b:=by rw[Rat.add_def',<-Rat.divInt_ofNat,oG]
def R7(a b:Rat):Rat.divInt (a.num*b.num) (a.den*b.den)=a*b:=by rw[Rat.mul_def',<-Rat.divInt_ofNat,oG]
def abg(f:0<C)(h:B.natAbs<10^a)(i:C.natAbs<10^a):bR a (Rat.divInt B C):=by
 obtain⟨c,b⟩:=aaj B C f;refine⟨?_,?_⟩
 ·rw[c];refine Bv ?_ h;rw[Int.natAbs_ediv_of_dvd (Int.gcd_dvd_left ..)];exact Ce _ _
 ·have:(Rat.divInt B C).den<=C.natAbs:=by
   have:((Rat.divInt B C).den:Int)<=C:=by rw[b];exact Int.ediv_le_self _ Om
   omega
  omega
def bR.add(f:bR a H)(c:bR b I):bR (a+b+1) (H+I):=by
 rw[<-Si];have k:=Cn f.1 c.2;have h:=Cn c.1 f.2;have i:=Cn f.2 c.2;have j:10^(a+b)<10^(a+b+1):=Ih Od Om;refine abg (Int.mul_pos (Fk H) (Fk I)) ?_ ?_
 ·have l:(H.num*I.den+I.num*H.den).natAbs<=H.num.natAbs*I.den+I.num.natAbs*H.den:=(by refine aV (Int.natAbs_add_le _ _) ?_;rw[y8,y8,ib,ib];exact aL _);rw[nL b a] at h;rw[eA];omega
 ·rw[y8,ib,ib];omega
def cQ.mul(c:B.natAbs<10^a)(b:C.natAbs<10^e)(h:a+e<=1000000):cQ (B*C):=⟨a+e,h,by rw[y8];exact Cn c b⟩
def Jh:=@cQ.mul
def ald(d:H.den=1)(c:I.den=1):((H.num+I.num:Int):Rat)=H+I:=by rw[<-Si,d,c,ZH];simp only[Rat.intCast_add];grind
def alb(d:H.den=1)(c:I.den=1):((H.num*I.num:Int):Rat)=H*I:=by rw[<-R7,d,c,ZH];simp only[EU];grind
def Dw(p q:Rat):Int:=(p.num*q.den - q.num*p.den).sign
def aiY(x v:Value)(p q:Rat)(w:au)(A:bQ w x p)(z:bQ w v q)(l:bR a p)(k:bR b q)(y:a+b<=1000000):
 Calls prog 145 #[x,v] w fun b f=>b= .returned (av (Dw p q))/\Ext w f:=by
 obtain⟨C,Aa,G,K,M,Ab,F,J,rfl,Z,Y⟩:=A.parts;obtain⟨B,Ac,E,I,L,Ad,D,H,rfl,X,V⟩:=z.parts;have FA:=af (l.num Om);have FB:=af (l.den Om);have e:=af (k.num Om);have d:=af (k.den Om);have F1:=af (Jh l.1 (by simpa using k.2:((q.den:Int)).natAbs<_) y);have F2:=af (Jh k.1 (by simpa using l.2:((p.den:Int)).natAbs<_) Om);clear A z l k y;go_enter func145,ntmps145;go_wp2_with fail
 refine gJ fun W m o n=> ?_;obtain⟨U,T,S,R⟩:=o.four;obtain⟨Q,P,O,N⟩:=n.four;go_region_held3 (fun f=>(aA f w.heap.size 0 (.bool C)/\aA f w.heap.size 1 (.slice Aa G K)/\aA f w.heap.size 2 (.bool M)/\aA f w.heap.size 3 (.slice Ab F J))/\aA f (w.heap.size+1) 0 (.bool B)/\aA f (w.heap.size+1) 1 (.slice Ac E I)/\aA f (w.heap.size+1) 2 (.bool L)/\aA f (w.heap.size+1) 3 (.slice Ad D H)) (first|with_reducible exact⟨⟨U,T,S,R⟩,Q,P,O,N⟩|with_reducible exact⟨o.ae.drew.four,n.ae.drew.four⟩|with_reducible exact⟨(o.ae.ext c).four,(n.ae.ext c).four⟩|with_reducible exact⟨(o.ae.ext i).four,(n.ae.ext i).four⟩|with_reducible exact⟨(o.ae.ext h).four,(n.ae.ext h).four⟩)
  (first
    |(go_at_call 130;(with_reducible show Calls _ _ #[Value.agg #[Value.bool C,_],_] _ _);refine(qD _ _ p.num q.den _ (Z.ext (by exact m.drew)) (V.ext (by exact m.drew)) FA d).mono ?_;rintro b w1 ⟨v1,rfl,u,s⟩;have c:=(aB W).drew.trans s)
    |(go_at_call 130;(with_reducible show Calls _ _ #[Value.agg #[Value.bool B,_],_] _ _);refine(qD _ _ q.num p.den _ (X.ext (by exact m.trans c)) (Y.ext (by exact m.trans c)) e FB).mono ?_;rintro b w2 ⟨v2,rfl,t,j⟩;have i:=c.trans j)
    |(go_at_call 191;refine(Ir _ _ _ _ _ (u.ext (by exact j)) t F1 F2).mono ?_;rintro b w3 ⟨rfl,r⟩;have h:=i.trans r))
 all_goals
  go_wp2;go_ret;exact⟨rfl,m.trans h⟩
def q21.k86(h:ar:=by rw[<-alb HP1.ae m.ae];exact h1):=h
def q20.k96(h:ar:=by
 by_cases k:q.den=1
 ·have l:=decide_eq_true k;have m:=af k;go_wp2_with fail
  refine(qD _ _ p.num q.num w2 (HA.ext bk) (HC.ext bk) FA FC).mono ?_;open q21 in exact m86
 ·have l:=decide_eq_false k;have BA:=EL;have BB:=Bo;have BR:=EK;have HX:=bk;go_wp2_with fail
  go_region_held3 (fun c=>(aA c w.heap.size 0 (.bool ba)/\aA c w.heap.size 1 (.slice Aa na ca)/\aA c w.heap.size 2 (.bool bb)/\aA c w.heap.size 3 (.slice Ab nb cb))/\aA c (w.heap.size+1) 0 (.bool bc)/\aA c (w.heap.size+1) 1 (.slice Ac nc cc)/\aA c (w.heap.size+1) 2 (.bool bd)/\aA c (w.heap.size+1) 3 (.slice Ad nd cd)) (first|with_reducible exact⟨⟨a0,a1,a2,a3⟩,b0,b1,b2,b3⟩|with_reducible exact⟨BA.ae.drew.four,BB.ae.drew.four⟩|with_reducible exact⟨(BA.ae.ext b).four,(BB.ae.ext b).four⟩|with_reducible exact⟨(BA.ae.ext f).four,(BB.ae.ext f).four⟩|with_reducible exact⟨(BA.ae.ext sL).four,(BB.ae.ext sL).four⟩|with_reducible exact⟨((BA.ae.ext sL).xG (J_ _) _ _ _ _).four,((BB.ae.ext sL).xG (JQ _) _ _ _ _).four⟩)
   (first
     |(go_at_call 130;(with_reducible show Calls _ _ #[Value.agg #[Value.bool ba,_],_] _ _);refine(qD _ _ p.num q.num _ (HA.ext axI) (HC.ext axI) FA FC).mono ?_;rintro e w3 ⟨v3,rfl,hv3,hx3⟩;have b:=(aB w2).drew.trans hx3)
     |(go_at_call 130;(with_reducible show Calls _ _ #[Value.agg #[Value.bool bb,_],_] _ _);refine(qD _ _ p.den q.den _ (HB.ext axD) (HD.ext axD) FB FD).mono ?_;rintro e w4 ⟨v4,rfl,hv4,iL⟩;have f:=b.trans iL)
     |(go_at_call 129;refine(Ns _ _ _ _ _ (hv3.ext (by exact iL)) hv4 F4 F3 s).mono ?_;rintro e t ⟨u,rfl,j,i⟩;have sL:=f.trans i;obtain⟨r0,R0,r1,r2,s0,S0,s1,s2,rfl,jX,nG⟩:=(j).parts;have kB:=af (BR.ext sL);obtain⟨k0,k1,k2,k3⟩:=kB.four;obtain⟨f0,f1,f2,f3⟩:=kB.fX))
  all_goals
   exact af5):=h
def q19.agL(h:ar:=by
 by_cases dZ:p.den=1
 ·open q20 in exact m96
 ·have jf:=decide_eq_false dZ;clear dZ;have BA:=Bt;have BB:=Bp;have BR:=yR;have HX:=cD;obtain⟨a0,a1,a2,a3⟩:=BA.four;go_wp2_with fail
  go_region_held3 (fun c=>(aA c w.heap.size 0 (.bool ba)/\aA c w.heap.size 1 (.slice Aa na ca)/\aA c w.heap.size 2 (.bool bb)/\aA c w.heap.size 3 (.slice Ab nb cb))/\aA c (w.heap.size+1) 0 (.bool bc)/\aA c (w.heap.size+1) 1 (.slice Ac nc cc)/\aA c (w.heap.size+1) 2 (.bool bd)/\aA c (w.heap.size+1) 3 (.slice Ad nd cd)) (first|with_reducible exact⟨⟨a0,a1,a2,a3⟩,b0,b1,b2,b3⟩|with_reducible exact⟨BA.ae.drew.four,BB.ae.drew.four⟩|with_reducible exact⟨(BA.ae.ext b).four,(BB.ae.ext b).four⟩|with_reducible exact⟨(BA.ae.ext f).four,(BB.ae.ext f).four⟩|with_reducible exact⟨(BA.ae.ext sL).four,(BB.ae.ext sL).four⟩|with_reducible exact⟨((BA.ae.ext sL).xG (J_ _) _ _ _ _).four,((BB.ae.ext sL).xG (JQ _) _ _ _ _).four⟩)
   (first
     |(go_at_call 130;(with_reducible show Calls _ _ #[Value.agg #[Value.bool ba,_],_] _ _);refine(qD _ _ p.num q.num _ (HA.ext axI) (HC.ext axI) FA FC).mono ?_;rintro e w3 ⟨v3,rfl,hv3,hx3⟩;have b:=(aB w1).drew.trans hx3)
     |(go_at_call 130;(with_reducible show Calls _ _ #[Value.agg #[Value.bool bb,_],_] _ _);refine(qD _ _ p.den q.den _ (HB.ext axD) (HD.ext axD) FB FD).mono ?_;rintro e w4 ⟨v4,rfl,hv4,iL⟩;have f:=b.trans iL)
     |(go_at_call 129;refine(Ns _ _ _ _ _ (hv3.ext (by exact iL)) hv4 F4 F3 s).mono ?_;rintro e t ⟨u,rfl,j,i⟩;have sL:=f.trans i;obtain⟨r0,R0,r1,r2,s0,S0,s1,s2,rfl,jX,nG⟩:=(j).parts;have kB:=af (BR.ext sL);obtain⟨k0,k1,k2,k3⟩:=kB.four;obtain⟨f0,f1,f2,f3⟩:=kB.fX))
  all_goals
   exact af5):=h
def q18.k15(h:ar:=by have F4:=af (Jh fa.1 fb.1 Om);have s:=af (Int.mul_pos (Fk p) (Fk q));clear ha hb fa fb x;go_enter func96,ntmps96;open q19 in exact agj):=h
def TB(o n:Value)(p q:Rat)(w:au)(ha:bQ w o p)(hb:bQ w n q)(fa:bR a p)(fb:bR e q)(x:a+e+1<=1000000):
 Calls prog 96 #[o,n] w fun e c=>∃r,e= .returned r/\bQ c r (p*q)/\Ext w c:=by
 have HVA:=af ha;have HVB:=af hb;have Yz:=af (And.intro fa (show a<=1000000 by omega));have Yy:=af (And.intro fb (show e<=1000000 by omega));open q18 in exact m15
def bR.aua(f:bR a H)(c:bR b I)(h:a+b+1<=1000000):cQ (H.num*I.den+I.num*H.den):=by refine⟨a+b+1,h,?_⟩;have j:=Cn f.1 c.2;have i:=Cn c.1 f.2;rw[nL b a] at i;refine Bv (Int.natAbs_add_le _ _) ?_;rw[y8,y8,ib,ib,eA];omega
def q25.k86(h:ar:=by rw[<-ald HP1.ae u.ae];exact h1):=h
def q24.k96(h:ar:=by
 by_cases s:q.den=1
 ·have t:=decide_eq_true s;have u:=af s;go_wp2_with fail
  refine(MZ _ _ p.num q.num w2 (HA.ext bk) (HC.ext bk) FA FC).mono ?_;open q25 in exact m86
 ·have t:=decide_eq_false s;have BA:=EL;have BB:=Bo;have BR:=EK;have HX:=bk;go_wp2_with fail
  go_region_held3 (fun f=>(aA f w.heap.size 0 (.bool ba)/\aA f w.heap.size 1 (.slice Aa na ca)/\aA f w.heap.size 2 (.bool bb)/\aA f w.heap.size 3 (.slice Ab nb cb))/\aA f (w.heap.size+1) 0 (.bool bc)/\aA f (w.heap.size+1) 1 (.slice Ac nc cc)/\aA f (w.heap.size+1) 2 (.bool bd)/\aA f (w.heap.size+1) 3 (.slice Ad nd cd)) (first|with_reducible exact⟨⟨a0,a1,a2,a3⟩,b0,b1,b2,b3⟩|with_reducible exact⟨BA.ae.drew.four,BB.ae.drew.four⟩|with_reducible exact⟨(BA.ae.ext c).four,(BB.ae.ext c).four⟩|with_reducible exact⟨(BA.ae.ext j).four,(BB.ae.ext j).four⟩|with_reducible exact⟨(BA.ae.ext b).four,(BB.ae.ext b).four⟩|with_reducible exact⟨(BA.ae.ext i).four,(BB.ae.ext i).four⟩|with_reducible exact⟨(BA.ae.ext sK).four,(BB.ae.ext sK).four⟩|with_reducible exact⟨((BA.ae.ext sK).xG (J_ _) _ _ _ _).four,((BB.ae.ext sK).xG (JQ _) _ _ _ _).four⟩)
   (first
     |(go_at_call 130;(with_reducible show Calls _ _ #[Value.agg #[Value.bool ba,_],_] _ _);refine(qD _ _ p.num q.den _ (HA.ext axI) (HD.ext axI) FA FD).mono ?_;rintro e w3 ⟨v3,rfl,hv3,hx3⟩;have c:=(aB w2).drew.trans hx3)
     |(go_at_call 130;(with_reducible show Calls _ _ #[Value.agg #[Value.bool bc,_],_] _ _);refine(qD _ _ q.num p.den _ (HC.ext ayt) (HB.ext ayt) FC FB).mono ?_;rintro e w4 ⟨v4,rfl,hv4,iL⟩;have j:=c.trans iL)
     |(go_at_call 128;refine(MZ _ _ _ _ _ (hv3.ext (by exact iL)) hv4 F1 F2).mono ?_;rintro e E ⟨H,rfl,r,m⟩;have b:=j.trans m)
     |(go_at_call 130;(with_reducible show Calls _ _ #[Value.agg #[Value.bool bb,_],_] _ _);refine(qD _ _ p.den q.den _ (HB.ext axD) (HD.ext axD) FB FD).mono ?_;rintro e D ⟨G,rfl,o,k⟩;have i:=b.trans k)
     |(go_at_call 129;refine(Ns _ _ _ _ _ (r.ext (by exact k)) o F4 F3 B).mono ?_;rintro e C ⟨F,rfl,n,l⟩;have sK:=i.trans l;obtain⟨r0,R0,r1,r2,s0,S0,s1,s2,rfl,jX,nG⟩:=(n).parts;have kB:=af (BR.ext sK);obtain⟨k0,k1,k2,k3⟩:=kB.four;obtain⟨f0,f1,f2,f3⟩:=kB.fX))
  all_goals
   exact af4):=h
def q23.agL(h:ar:=by
 by_cases dZ:p.den=1
 ·open q24 in exact m96
 ·have jf:=decide_eq_false dZ;clear dZ;have BA:=Bt;have BB:=Bp;have BR:=yR;have HX:=cD;obtain⟨a0,a1,a2,a3⟩:=BA.four;go_wp2_with fail
  go_region_held3 (fun f=>(aA f w.heap.size 0 (.bool ba)/\aA f w.heap.size 1 (.slice Aa na ca)/\aA f w.heap.size 2 (.bool bb)/\aA f w.heap.size 3 (.slice Ab nb cb))/\aA f (w.heap.size+1) 0 (.bool bc)/\aA f (w.heap.size+1) 1 (.slice Ac nc cc)/\aA f (w.heap.size+1) 2 (.bool bd)/\aA f (w.heap.size+1) 3 (.slice Ad nd cd)) (first|with_reducible exact⟨⟨a0,a1,a2,a3⟩,b0,b1,b2,b3⟩|with_reducible exact⟨BA.ae.drew.four,BB.ae.drew.four⟩|with_reducible exact⟨(BA.ae.ext c).four,(BB.ae.ext c).four⟩|with_reducible exact⟨(BA.ae.ext j).four,(BB.ae.ext j).four⟩|with_reducible exact⟨(BA.ae.ext b).four,(BB.ae.ext b).four⟩|with_reducible exact⟨(BA.ae.ext i).four,(BB.ae.ext i).four⟩|with_reducible exact⟨(BA.ae.ext sK).four,(BB.ae.ext sK).four⟩|with_reducible exact⟨((BA.ae.ext sK).xG (J_ _) _ _ _ _).four,((BB.ae.ext sK).xG (JQ _) _ _ _ _).four⟩)
   (first
     |(go_at_call 130;(with_reducible show Calls _ _ #[Value.agg #[Value.bool ba,_],_] _ _);refine(qD _ _ p.num q.den _ (HA.ext axI) (HD.ext axI) FA FD).mono ?_;rintro e w3 ⟨v3,rfl,hv3,hx3⟩;have c:=(aB w1).drew.trans hx3)
     |(go_at_call 130;(with_reducible show Calls _ _ #[Value.agg #[Value.bool bc,_],_] _ _);refine(qD _ _ q.num p.den _ (HC.ext ayt) (HB.ext ayt) FC FB).mono ?_;rintro e w4 ⟨v4,rfl,hv4,iL⟩;have j:=c.trans iL)
     |(go_at_call 128;refine(MZ _ _ _ _ _ (hv3.ext (by exact iL)) hv4 F1 F2).mono ?_;rintro e E ⟨H,rfl,r,m⟩;have b:=j.trans m)
     |(go_at_call 130;(with_reducible show Calls _ _ #[Value.agg #[Value.bool bb,_],_] _ _);refine(qD _ _ p.den q.den _ (HB.ext axD) (HD.ext axD) FB FD).mono ?_;rintro e D ⟨G,rfl,o,k⟩;have i:=b.trans k)
     |(go_at_call 129;refine(Ns _ _ _ _ _ (r.ext (by exact k)) o F4 F3 B).mono ?_;rintro e C ⟨F,rfl,n,l⟩;have sK:=i.trans l;obtain⟨r0,R0,r1,r2,s0,S0,s1,s2,rfl,jX,nG⟩:=(n).parts;have kB:=af (BR.ext sK);obtain⟨k0,k1,k2,k3⟩:=kB.four;obtain⟨f0,f1,f2,f3⟩:=kB.fX))
  all_goals
   exact af4):=h
def q22.k15(h:ar:=by have F4:=af (fa.aua fb A);have B:=af (Int.mul_pos (Fk p) (Fk q));clear ha hb fa fb A;go_enter func61,ntmps61;open q23 in exact agj):=h
def TE(y x:Value)(p q:Rat)(w:au)(ha:bQ w y p)(hb:bQ w x q)(fa:bR a p)(fb:bR e q)(A:a+e+1<=1000000):
 Calls prog 61 #[y,x] w fun e f=>∃z,e= .returned z/\bQ f z (p+q)/\Ext w f:=by
 have HVA:=af ha;have HVB:=af hb;have Yz:=af (And.intro fa (show a<=1000000 by omega));have Yy:=af (And.intro fb (show e<=1000000 by omega));open q22 in exact m15
end Go.Proofs.YtehkcnbodcdijaaGreatDoor
