/- Texts of the proof, part 4. -/
import Derived.Test.YtadbchhdjbghkaaGreatDoorA3
namespace Go.Proofs.YtadbchhdjbghkaaGreatDoor
set_option maxHeartbeats 8000000
set_option linter.all false
set_option maxRecDepth 100000
variable{aq:Prop}
open Go.RowKit Go.Lib Go.Maps Go.ChangeShapes Go.WideShapes Go.ChangeAt Go.Proofs.Tryz
variable{a b c d e f g h:Nat}{i j k l:List Nat}{m n o:World}{p q r s:Value}{t u v:List Value}{w x:TypeId}{y z:Nat→Option Nat}{A:Nat→List Nat}{B C:Int}{E F:Option Addr}{H I:Rat}{J:Nat→Nat}{K:Nat→Bool}{L:List Int}{N:Array Bool}{O:Option Nat}{Q:Act}{R S:Bool}{T:List UInt8}
def cj(w:au)(v:Value)(z:Int):Prop:=∃s,v= .agg #[.bool (decide (z<0)),s]/\eA w s z.natAbs
def cj.ext{w':au}(h:cj m p B)(a:Ext m w'):cj w' p B:=by obtain⟨s,rfl,b⟩:=h;exact⟨s,rfl,b.ext a⟩
def cj.keep(h:cj m p B)(a:Kept 209 m n):cj n p B:=by obtain⟨s,rfl,b⟩:=h;exact⟨s,rfl,b.keep a⟩
def cj.mk'{z:Int}(a:R=decide (z<0))(h:eA m p z.natAbs):cj m (.agg #[.bool R,p]) z:=⟨p,by rw[a],h⟩
def cj.parts(h:cj m p B):∃b A n c,p= .agg #[.bool b,.slice A n c]/\ah (cj m (.agg #[.bool b,.slice A n c]) B):=by obtain⟨s,rfl,A,c,rfl,d,a⟩:=h;exact⟨_,A,_,c,rfl,⟨_,rfl,A,c,rfl,d,a⟩⟩
def cj.inv(h:cj m (.agg #[.bool R,p]) B):R=decide (B<0)/\eA m p B.natAbs:=by obtain⟨c,e,a⟩:=h;simp at e;obtain⟨rfl,rfl⟩:=e;exact⟨rfl,a⟩
def signed(a:Bool)(n:Nat):Int:=if a then -(n:Int) else n
def Ei(a:Bool)(n:Nat):(signed a n).natAbs=n:=by unfold signed;split<;>simp
def QU(a:Bool)(n:Nat):decide (signed a n<0)=(a&&decide (0<n)):=by
 unfold signed;cases a
 ·simp
 ·simp
def qX(b:Bool)(s:Value)(n:Nat)(w:au)(k:eA w s n)(l:Fit n):
 Calls prog 142 #[.bool b,s] w fun e f=>∃v,e= .returned v/\cj f v (signed b n)/\Ext w f:=by
 obtain⟨A,c,rfl,i,d⟩:=k;have a:decide (0<(aW n).length)=decide (0<n):=(by exact ae2)
 have m:=af a;have j:=af d;unfold Fit at l;clear a d;cases b
 ·go_enter func142,ntmps142;go_wp2;refine bodyPost_ret (v:= .agg #[.bool false,.slice A (aW n).length c]) (by simp [results,results142,go_sem]) rfl ⟨_,rfl,.mk' ?_ ?_,(aB w).alloc _⟩
  ·rw[QU];rfl
  ·rw[Ei];exact⟨A,c,rfl,i,j.ext ((aB w).alloc _)⟩
 ·go_enter func142,ntmps142;go_wp2;refine bodyPost_ret (v:= .agg #[.bool (decide (0<(aW n).length)),.slice A (aW n).length c]) (by simp [results,results142,go_sem]) rfl ⟨_,rfl,.mk' ?_ ?_,(aB w).alloc _⟩
  ·rw[QU,m.ae];rfl
  ·rw[Ei];exact⟨A,c,rfl,i,j.ext ((aB w).alloc _)⟩
def cE(z:Int):Prop:=∃e,e<=1000000/\z.natAbs<10^e
def cE.fit(h:cE B):Fit B.natAbs:=by obtain⟨e,b,a⟩:=h;exact Ig a Om
def ajb(h:a<10^c)(f:b<10^d):a+b<10^(c+d+1):=by have j:10^c<=10^(c+d):=fN Od Om;have i:10^d<=10^(c+d):=fN Od Om;rw[eU];omega
def AQ(h:a<10^c)(f:b<10^d):a*b<10^(c+d):=by rw[pW];exact Nat.mul_lt_mul'' h f
def cE.SU(b:cE B)(a:cE C):Fit (B.natAbs+C.natAbs):=by obtain⟨d,f,b⟩:=b;obtain⟨e,c,a⟩:=a;exact Ig (ajb b a) Om
def cE.aoQ(b:cE B)(a:cE C):Fit (B.natAbs*C.natAbs):=by obtain⟨d,f,b⟩:=b;obtain⟨e,c,a⟩:=a;exact Ig (AQ b a) Om
def cE.le(a:cE B)(h:C.natAbs<=B.natAbs):cE C:=by obtain⟨d,b,a⟩:=a;exact⟨d,b,by omega⟩
def d6(z:Int):Prop:=Fit z.natAbs
def cE.sub(b:cE B)(a:cE C):d6 (B - C):=(b.SU a).le Om
def cE.wide(a:cE B):d6 B:=a.fit
def cE.neg(a:cE B):cE (-B):=a.le Ou
def QG(v:Value)(z:Int)(w:au)(h:cj w v z)(i:d6 z):
 Calls prog 128 #[v] w fun e f=>e= .returned (av z.sign)/\Ext w f:=by
 obtain⟨s,rfl,A,c,rfl,k,j⟩:=h;unfold d6 Fit at i;rcases P9 z 0 with a|a|a
 ·have d:decide (z<0)=true:=decide_eq_true a;have HS:=af (G5 a);exact aeU
 ·subst a;have d:decide ((0:Int)<0)=false:=rfl;have b:(aW (0:Int).natAbs).length=0:=rfl;rw[b] at*;go_enter func128,ntmps128;go_wp2;go_ret;exact⟨rfl,(aB w).alloc _⟩
 ·have d:decide (z<0)=false:=aY;have HS:=af (Aj a);have b:0<(aW z.natAbs).length:=by
   rcases ip (aW z.natAbs).length with h|h
   ·have:=qW.1 (mh h);omega
   ·exact h
  exact aeU
def ai6(z:Int):signed (!decide (z<0)) z.natAbs= -z:=by
 unfold signed;by_cases h:z<0
 ·simp [h];omega
 ·simp [h];omega
def ai2(v:Value)(z:Int)(w:au)(h:cj w v z)(x:cE z):
 Calls prog 147 #[v] w fun e q=>∃r,e= .returned r/\cj q r (-z)/\Ext w q:=by
 obtain⟨b,A,n,c,rfl,H⟩:=h.parts;have y:=af x.fit;go_enter func147,ntmps147;go_wp2_with fail
 have f:Ext w ((w.alloc (Obj.cells #[Value.bool b,Value.slice A n c] 89)).alloc (Obj.cells #[Value.bool false,Value.slice none 0 0] 89)):=((aB w).alloc _).alloc _;have m:=iT (w.alloc (Obj.cells #[Value.bool b,Value.slice A n c] 89)) 89 [.bool false,.slice none 0 0];refine(qX (!b) _ z.natAbs _ (H.inv.2.ext f) y).mono ?_;rintro e p ⟨s,rfl,j,d⟩;have i:cj p s (-z):=by rw[<-ai6,<-H.inv.1];exact j
 obtain⟨E,F,C,D,rfl,B⟩:=i.parts;have a:ah (ar p (w.heap.size+1) 89 [.bool false,.slice none 0 0]):=(by have:=m.ext d;rw[show(w.alloc (Obj.cells #[Value.bool b,Value.slice A n c] 89)).heap.size=w.heap.size+1 by simp] at this;exact this)
 have o:=af (f.trans d);have l:=a.aF 0;have k:=a.aF 1;have u:=a.frozen 0;have t:=a.frozen 1;go_wp2;refine bodyPost_ret (by simp [results,results147,go_sem,l,k]) rfl ⟨_,rfl,B.keep (a.qh Od _ _ _ _),(o.setCell Ou _).setCell Ou _⟩
abbrev cV:TypeId:=89
def ar.TR(w:au)(t:TypeId)(l:List Value)(g:Nat)(a:g=w.heap.size):ar (w.alloc (.cells l.toArray t)) g t l:=by subst a;exact iT w t l
def jg:=@ar.TR
def vX{j:Func}{g:Nat}{d:Ending->World->Prop}{x0 x1:Value}(e:j.results= #[.cell a cV])(l:Q.tmps.getD a undef=aI g 0)(o:Q.defers= [])
 (i:ar n g cV [x0,x1]) (q:cj n (.agg #[.bool R,.slice E b c]) B) (k:Ext m n) (h:m.heap.size<=g) (p:∀v W',cj W' v B->Ext m W'->d (.returned v) W'):
 bodyPost prog j d .ret Q ((n.setCell (aC g 0) (.bool R)).setCell (aC g 1) (.slice E b c)):=by
 have f:=(i.bu 0 (.bool R)).bu 1 (.slice E b c);exact bodyPost_ret (results_cell_row e Q.tmps _ g cV #[.bool R,.slice E b c] (0,0) _ l f underlying89 rfl Ok) o (p _ _ (q.keep (i.qh Od _ _ _ _)) ((k.setCell h _).setCell h _))
def Z_(f d:Value)(a b:Nat)(w:au)(o:eA w f a)(n:eA w d b)(q:Fit a)(p:Fit b):
 Calls prog 144 #[f,d] w fun e w'=>∃i,e= .returned i/\eA w' i (a+b)/\Ext w w':=by
 obtain⟨v,t,rfl,m,k⟩:=o;obtain⟨u,s,rfl,l,j⟩:=n;unfold Fit at q p;refine(ao4 v u t s (aW a) (aW b) w Om Om (cW a).1 (cW b).1 k j).mono ?_;exact TZ
structure kP(W:au)(g:Nat)(x0 x1 y0 y1 z0 z1:Value):Prop where
 a:ar W g cV [x0,x1]
 b:ar W (g+1) cV [y0,y1]
 r:ar W (g+1+1) cV [z0,z1]
def kP.new(w:au)(x0 x1 y0 y1 z0 z1:Value):kP (((w.alloc (Obj.cells #[x0,x1] cV)).alloc (Obj.cells #[y0,y1] cV)).alloc (Obj.cells #[z0,z1] cV)) w.heap.size x0 x1 y0 y1 z0 z1:=
 ⟨((jg w cV [x0,x1] _ rfl).alloc _).alloc _,(jg (w.alloc (Obj.cells #[x0,x1] cV)) cV [y0,y1] _ Ou).alloc _,jg ((w.alloc (Obj.cells #[x0,x1] cV)).alloc (Obj.cells #[y0,y1] cV)) cV [z0,z1] _ Ou⟩
section
variable{W W':au}{g:Nat}{x0 x1 y0 y1 z0 z1:Value}
theorem kP.ext(h:kP W g x0 x1 y0 y1 z0 z1)(c:Ext W W'):kP W' g x0 x1 y0 y1 z0 z1:=⟨h.a.ext c,h.b.ext c,h.r.ext c⟩
theorem kP.drew(h:kP W g x0 x1 y0 y1 z0 z1):kP W.drew g x0 x1 y0 y1 z0 z1:=⟨h.a,h.b,h.r⟩
theorem kP.drewN(h:kP W g x0 x1 y0 y1 z0 z1)(n:Nat):kP (W.drewN n) g x0 x1 y0 y1 z0 z1:=⟨h.a,h.b,h.r⟩
theorem kP.put(h:kP W g x0 x1 y0 y1 z0 z1)(u v:Value):kP ((W.setCell (aC (g+1+1) 0) u).setCell (aC (g+1+1) 1) v) g x0 x1 y0 y1 u v:=
 ⟨(h.a.far awy u).far awy v,(h.b.far aws u).far aws v,(h.r.bu 0 u).bu 1 v⟩
theorem kP.cells(h:kP W g x0 x1 y0 y1 z0 z1):aA W g 0 x0/\aA W g 1 x1/\aA W (g+1) 0 y0/\aA W (g+1) 1 y1:=
 ⟨h.a.cell rfl,h.a.cell rfl,h.b.cell rfl,h.b.cell rfl⟩
theorem kP.res(h:kP W g x0 x1 y0 y1 z0 z1):aA W (g+1+1) 0 z0/\aA W (g+1+1) 1 z1/\W.frozen? (aC (g+1+1) 0)=false/\W.frozen? (aC (g+1+1) 1)=false:=
 ⟨h.r.cell rfl,h.r.cell rfl,h.r.frozen 0,h.r.frozen 1⟩
end
def Y8(h:decide (B<0)=decide (C<0)):signed (decide (B<0)) (B.natAbs+C.natAbs)=B+C:=by unfold signed;by_cases a:B<0<;>simp [a] at h⊢<;>omega
def LG(h:decide (B<0)≠decide (C<0))(b:C.natAbs<=B.natAbs):signed (decide (B<0)) (B.natAbs - C.natAbs)=B+C:=by unfold signed;by_cases a:B<0<;>simp [a] at h⊢<;>omega
def q2.Fx(h:aq:=by
 obtain⟨K,J,I,G⟩:=H0.cells;go_region_held3 (fun a=>aA a w.heap.size 0 (.bool ba)/\aA a w.heap.size 1 (.slice Aa na ca)/\aA a (w.heap.size+1) 0 (.bool bb)/\aA a (w.heap.size+1) 1 (.slice Ab nb cb)) (first|exact⟨K,J,I,G⟩|exact(H0.drew.ext b).cells|exact i.cells|exact(i.put _ _).cells)
  (first
    |(go_at_call 144;refine(Z_ _ _ x.natAbs y.natAbs _ (m.inv.2.ext avR) (s.inv.2.ext avR) u.fit t.fit).mono ?_;rintro e M ⟨z,rfl,j,b⟩)
    |(go_at_call 142;refine(qX ba z (x.natAbs+y.natAbs) _ j (u.SU t)).mono ?_;rintro e L ⟨N,rfl,f,d⟩;obtain⟨T,U,O,H,rfl,l⟩:=f.parts;have i:=af (H0.drew.ext (b.trans d));obtain⟨S,R,Q,P⟩:=i.res;clear f))
 go_wp2;refine vX rfl rfl rfl i.r l (bP.drew.trans (b.trans d)) Om (fun v W' q D=>⟨v,rfl,?_,D⟩);rw[m.inv.1,Y8 k.ae] at q;exact q):=h
def aid(o n:Value)(x y:Int)(w:au)(C:cj w o x)(B:cj w n y)(F:cE x)(E:cE y)(c:decide (x<0)=decide (y<0)):
 Calls prog 76 #[o,n] w fun e a=>∃p,e= .returned p/\cj a p (x+y)/\Ext w a:=by
 obtain⟨ba,Aa,na,ca,rfl,m⟩:=C.parts;obtain⟨bb,Ab,nb,cb,rfl,s⟩:=B.parts;have A:(ba==bb)=true:=by rw[m.inv.1,s.inv.1,c];simp
 have k:=af c;have u:=af F;have t:=af E;go_enter func76,ntmps76;open q2 in exact m10
def QY(i f:Value)(a b:Nat)(w:au)(p:eA w i a)(o:eA w f b)(s:Fit a)(q:Fit b)(d:b<=a):
 Calls prog 146 #[i,f] w fun e w'=>∃j,e= .returned j/\eA w' j (a - b)/\Ext w w':=by
 obtain⟨x,u,rfl,n,l⟩:=p;obtain⟨v,t,rfl,m,k⟩:=o;unfold Fit at s q;refine(anZ x v u t (aW a) (aW b) w Om Om (cW a) (cW b) (by rw[dm,dm];exact d) l k).mono ?_;exact TZ
def ai8(f d:Value)(a b:Nat)(w:au)(o:eA w f a)(n:eA w d b)(q:Fit a)(p:Fit b):
 Calls prog 149 #[f,d] w fun e w'=>∃i,e= .returned i/\eA w' i (a*b)/\Ext w w':=by
 obtain⟨v,t,rfl,m,k⟩:=o;obtain⟨u,s,rfl,l,j⟩:=n;unfold Fit at q p;refine(SM v u t s (aW a) (aW b) w Om Om (cW a).1 (cW b).1 k j).mono ?_;exact TZ
def Z'(d c:Value)(a b:Nat)(w:au)(m:eA w d a)(l:eA w c b)(p:Fit a)(o:Fit b):
 Calls prog 145 #[d,c] w fun e f=>e= .returned (av (d7 a b))/\∃n,f=w.drewN n:=by
 obtain⟨t,r,rfl,k,i⟩:=m;obtain⟨s,q,rfl,j,h⟩:=l;unfold Fit at p o;have:=LW t s r q (aW a) (aW b) w Om Om (cW a) (cW b) i h;rwa[dm,dm] at this
def q4.Fx(h:aq:=by
 refine(Z' _ _ x.natAbs y.natAbs W (HA.inv.2.ext bP) (HB.inv.2.ext bP) FX.fit FY.fit).mono ?_;rintro e a ⟨rfl,j,rfl⟩;have B:decide ((0:Int)<=d7 x.natAbs y.natAbs)=true:=by unfold d7;rw[if_neg Om];split<;>rfl
 have f:=af l;have bP:=af (bP.drewN j);have H0:=af (H0.drewN j);generalize d7 x.natAbs y.natAbs=M at*;generalize W.drewN j=W at*;obtain⟨z,u,t,s⟩:=H0.cells;go_wp2_with fail
 obtain⟨z,u,t,s⟩:=H0.cells;go_region_held3 (fun a=>aA a w.heap.size 0 (.bool ba)/\aA a w.heap.size 1 (.slice Aa na ca)/\aA a (w.heap.size+1) 0 (.bool bb)/\aA a (w.heap.size+1) 1 (.slice Ab nb cb)) (first|exact⟨z,u,t,s⟩|exact(H0.drew.ext b).cells|exact i.cells|exact(i.put _ _).cells)
  (first
    |(go_at_call 146;refine(QY _ _ x.natAbs y.natAbs _ (HA.inv.2.ext avR) (HB.inv.2.ext avR) FX.fit FY.fit f).mono ?_;rintro e F ⟨A,rfl,k,b⟩)
    |(go_at_call 142;refine(qX ba A (x.natAbs - y.natAbs) _ k (FX.fit.le Om)).mono ?_;rintro e E ⟨G,rfl,d,c⟩;obtain⟨N,O,H,D,rfl,m⟩:=d.parts;have i:=af (H0.drew.ext (b.trans c));obtain⟨L,K,J,I⟩:=i.res;clear d))
 go_wp2;refine vX rfl rfl rfl i.r m (bP.drew.trans (b.trans c)) Om (fun v W' q C=>⟨v,rfl,?_,C⟩);rw[HA.inv.1,LG J5.ae f.ae] at q;exact q):=h
def q3.aft(h:aq:=by open q4 in exact m10):=h
def akR(o n:Value)(x y:Int)(w:au)(ha:cj w o x)(hb:cj w n y)(fx:cE x)(fy:cE y)(uG:decide (x<0)≠decide (y<0))(l:y.natAbs<=x.natAbs):
 Calls prog 76 #[o,n] w fun e a=>∃p,e= .returned p/\cj a p (x+y)/\Ext w a:=by
 open q3 in exact aeX
def q6.Fx(h:aq:=by
 refine(Z' _ _ x.natAbs y.natAbs W (HA.inv.2.ext bP) (HB.inv.2.ext bP) FX.fit FY.fit).mono ?_;rintro e a ⟨rfl,k,rfl⟩;have B:decide ((0:Int)<=d7 x.natAbs y.natAbs)=false:=by rw[ET f];rfl
 have i:=af f;have bP:=af (bP.drewN k);have H0:=af (H0.drewN k);generalize d7 x.natAbs y.natAbs=M at*;generalize W.drewN k=W at*;obtain⟨z,u,t,s⟩:=H0.cells;go_wp2_with fail
 obtain⟨z,u,t,s⟩:=H0.cells;go_region_held3 (fun a=>aA a w.heap.size 0 (.bool ba)/\aA a w.heap.size 1 (.slice Aa na ca)/\aA a (w.heap.size+1) 0 (.bool bb)/\aA a (w.heap.size+1) 1 (.slice Ab nb cb)) (first|exact⟨z,u,t,s⟩|exact(H0.drew.ext b).cells|exact j.cells|exact(j.put _ _).cells)
  (first
    |(go_at_call 146;refine(QY _ _ y.natAbs x.natAbs _ (HB.inv.2.ext avR) (HA.inv.2.ext avR) FY.fit FX.fit (pd i)).mono ?_;rintro e F ⟨A,rfl,l,b⟩)
    |(go_at_call 142;refine(qX bb A (y.natAbs - x.natAbs) _ l (FY.fit.le Om)).mono ?_;rintro e E ⟨G,rfl,d,c⟩;obtain⟨N,O,H,D,rfl,m⟩:=d.parts;have j:=af (H0.drew.ext (b.trans c));obtain⟨L,K,J,I⟩:=j.res;clear d))
 go_wp2;refine vX rfl rfl rfl j.r m (bP.drew.trans (b.trans c)) Om (fun v W' q C=>⟨v,rfl,?_,C⟩);rw[HB.inv.1,LG (fP J5) (pd i),Qx] at q;exact q):=h
def q5.aft(h:aq:=by open q6 in exact m10):=h
def akQ(o n:Value)(x y:Int)(w:au)(ha:cj w o x)(hb:cj w n y)(fx:cE x)(fy:cE y)(uG:decide (x<0)≠decide (y<0))(f:x.natAbs<y.natAbs):
 Calls prog 76 #[o,n] w fun e a=>∃p,e= .returned p/\cj a p (x+y)/\Ext w a:=by
 open q5 in exact aeX
def Ma(b a:Value)(x y:Int)(w:au)(f:cj w b x)(d:cj w a y)(j:cE x)(i:cE y):
 Calls prog 76 #[b,a] w fun e k=>∃l,e= .returned l/\cj k l (x+y)/\Ext w k:=by
 by_cases h:decide (x<0)=decide (y<0)
 ·exact aid b a x y w f d j i h
 ·rcases cA x.natAbs y.natAbs with c|c
  ·exact akQ b a x y w f d j i h c
  ·exact akR b a x y w f d j i h c
def aac(x y:Int):signed (decide (x<0) !=decide (y<0)) (x.natAbs*y.natAbs)=x*y:=by
 unfold signed;rw[k6];by_cases d:x<0
 ·have c:(x.natAbs:Int)= -x:=Om;by_cases b:y<0
  ·have a:(y.natAbs:Int)= -y:=Om;simp [d,b,c,a,Int.neg_mul_neg]
  ·have a:(y.natAbs:Int)=y:=Om;simp [d,b,c,a,Int.neg_mul]
 ·have c:(x.natAbs:Int)=x:=Om;by_cases b:y<0
  ·have a:(y.natAbs:Int)= -y:=Om;simp [d,b,c,a,Int.mul_neg]
  ·have a:(y.natAbs:Int)=y:=Om;simp [d,b,c,a]
def q8.Fx(h:aq:=by
 obtain⟨u,t,s,p⟩:=H0.cells;go_region_held3 (fun b=>aA b w.heap.size 0 (.bool ba)/\aA b w.heap.size 1 (.slice Aa na ca)/\aA b (w.heap.size+1) 0 (.bool bb)/\aA b (w.heap.size+1) 1 (.slice Ab nb cb)) (first|exact⟨u,t,s,p⟩|exact(H0.drew.ext a).cells|exact f.cells|exact(f.put _ _).cells)
  (first
    |(go_at_call 147;refine(ai2 _ y _ (HB.ext avR) FY).mono ?_;rintro e A ⟨C,rfl,i,a⟩)
    |(go_at_call 76;refine(Ma _ _ x (-y) _ (HA.ext (by exact bP.drew.trans a)) i FX FY.neg).mono ?_;rintro e z ⟨B,rfl,d,c⟩;obtain⟨I,J,D,q,rfl,j⟩:=d.parts;have f:=af (H0.drew.ext (a.trans c));obtain⟨H,G,F,E⟩:=f.res;clear d))
 go_wp2;refine vX rfl rfl rfl f.r j (bP.drew.trans (a.trans c)) Om (fun v W' o n=>⟨v,rfl,?_,n⟩);rw[P5];exact o):=h
def q7.wG(h:aq:=by go_enter func197,ntmps197;open q8 in exact m10):=h
def ai1(l k:Value)(x y:Int)(w:au)(ha:cj w l x)(hb:cj w k y)(fx:cE x)(fy:cE y):
 Calls prog 197 #[l,k] w fun e b=>∃m,e= .returned m/\cj b m (x - y)/\Ext w b:=by
 open q7 in exact wE
def q10.Fx(h:aq:=by
 obtain⟨z,u,t,q⟩:=H0.cells;go_region_held3 (fun a=>aA a w.heap.size 0 (.bool ba)/\aA a w.heap.size 1 (.slice Aa na ca)/\aA a (w.heap.size+1) 0 (.bool bb)/\aA a (w.heap.size+1) 1 (.slice Ab nb cb)) (first|exact⟨z,u,t,q⟩|exact(H0.drew.ext b).cells|exact f.cells|exact(f.put _ _).cells)
  (first
    |(go_at_call 149;refine(ai8 _ _ x.natAbs y.natAbs _ (HA.inv.2.ext avR) (HB.inv.2.ext avR) FX.fit FY.fit).mono ?_;rintro e B ⟨o,rfl,i,b⟩)
    |(go_at_call 142;refine(qX (ba !=bb) o (x.natAbs*y.natAbs) _ i (FX.aoQ FY)).mono ?_;rintro e A ⟨C,rfl,d,c⟩;obtain⟨I,J,D,s,rfl,j⟩:=d.parts;have f:=af (H0.drew.ext (b.trans c));obtain⟨H,G,F,E⟩:=f.res;clear d))
 go_wp2;refine vX rfl rfl rfl f.r j (bP.drew.trans (b.trans c)) Om (fun v W' n p=>⟨v,rfl,?_,p⟩);rw[HA.inv.1,HB.inv.1,aac] at n;exact n):=h
def q9.wG(h:aq:=by go_enter func78,ntmps78;open q10 in exact m10):=h
def pY(l k:Value)(x y:Int)(w:au)(ha:cj w l x)(hb:cj w k y)(fx:cE x)(fy:cE y):
 Calls prog 78 #[l,k] w fun e a=>∃m,e= .returned m/\cj a m (x*y)/\Ext w a:=by
 open q9 in exact wE
def Cz.Fx(h:aq:=by
 refine(aoJ _ _ x.natAbs y.natAbs W FX.fit FY.fit (HA.inv.2.ext bP) (HB.inv.2.ext bP)).mono ?_;rintro e q ⟨s,rfl,d,b⟩;have f:Fit (Nat.gcd x.natAbs y.natAbs):=by
  rcases ip x.natAbs with i|i
  ·rw[i,Nat.gcd_zero_left];exact FY.fit
  ·exact FX.fit.le (Nat.gcd_le_left _ i)
 go_wp2_with fail
 refine(qX false s (Nat.gcd x.natAbs y.natAbs) q d f).mono ?_;rintro e A ⟨B,rfl,c,a⟩;obtain⟨H,I,C,z,rfl,k⟩:=c.parts;have p:=af (H0.ext (b.trans a));obtain⟨G,F,E,D⟩:=p.res;have j:=af (bP.trans (b.trans a));go_wp2;exact vX rfl rfl rfl p.r k j Om (fun v W' u t=>⟨v,rfl,u,t⟩)):=h
def q11.wG(h:aq:=by go_enter func139,ntmps139;open Cz in exact m10):=h
def Z8(n m:Value)(x y:Int)(w:au)(ha:cj w n x)(hb:cj w m y)(fx:cE x)(fy:cE y):
 Calls prog 139 #[n,m] w fun e l=>∃o,e= .returned o/\cj l o (Int.gcd x y:Nat)/\Ext w l:=by
 open q11 in exact wE
def q13.wG(h:aq:=by
 go_enter func140,ntmps140;go_wp2_with fail;have a:ah (Ext w ((w.alloc (Obj.cells #[Value.bool ba,Value.slice Aa na ca] cV)).alloc (Obj.cells #[Value.bool bb,Value.slice Ab nb cb] cV))):=((aB w).alloc _).alloc _;generalize(w.alloc (Obj.cells #[Value.bool ba,Value.slice Aa na ca] cV)).alloc (Obj.cells #[Value.bool bb,Value.slice Ab nb cb] cV)=W at*;refine(ai1 _ _ x y W (HA.ext a) (HB.ext a) FX FY).mono ?_;rintro e k ⟨m,rfl,d,c⟩;have f:=FX.sub FY;go_wp2_with fail
 refine(QG m (x - y) k d f).mono ?_;rintro e n ⟨rfl,b⟩;go_wp2;go_ret;exact⟨rfl,a.trans (c.trans b)⟩):=h
def Hi(j i:Value)(x y:Int)(w:au)(ha:cj w j x)(hb:cj w i y)(fx:cE x)(fy:cE y):
 Calls prog 140 #[j,i] w fun e l=>e= .returned (av (x - y).sign)/\Ext w l:=by
 open q13 in exact wE
def ahZ(u:Nat)(a:u<18446744073709551616):bH [u%B9,u/B9%B9,u/B9/B9]/\val [u%B9,u/B9%B9,u/B9/B9]=u:=by refine⟨rj (eF _ Od) (rj (eF _ Od) (rj avN jT)),?_⟩;simp only[mr,EP];unfold B9;omega
def Sl.TR(w:au)(t:TypeId)(a:Array Value)(g:Nat)(b:g=w.heap.size):Sl (w.alloc (.cells a t)) t (dC g 0) a.toList:=by subst b;exact Sl.new w t a
def IH(z:Int)(w:au)(n: -9223372036854775808<=z)(h1:z<=9223372036854775807):
 Calls prog 74 #[av z] w fun e w'=>∃c,e= .returned c/\cj w' c z/\Ext w w':=by
 obtain⟨u,hu⟩:∃u,u=z.natAbs:=⟨_,rfl⟩;have f:u<=9223372036854775808:=Om;have i:=ahZ u Om;have HL:=af i;have o:=af hu;have a:Fit u:=Ig (e:=20) Om Om;have HF:=af a;have b:signed (decide (z<0)) u=z:=by unfold signed;by_cases h:z<0<;>simp [h]<;>omega
 have Dz:=af b;clear i a b;have l:(u:Int)%1000000000=((u%B9:Nat):Int):=avN;have k:(u:Int)/1000000000%1000000000=((u/B9%B9:Nat):Int):=avN;have j:(u:Int)/1000000000/1000000000=((u/B9/B9:Nat):Int):=avN;have UK:=af (And.intro l (And.intro k j));clear l k j;by_cases d:z<0
 ·have hd:decide (z<0)=true:=decide_eq_true d;have m:IntKind.u64.wrap (-IntKind.u64.wrap z)=(u:Int):=by rw[kh,kh];omega
  exact m17
 ·have hd:decide (z<0)=false:=decide_eq_false d;have m:IntKind.u64.wrap z=(u:Int):=avX;exact m17
def Nk(x y:Int)(w:au)(e:Ending)(a:au):Prop:=
 ∃q r,e= .returned (.tuple #[q,r])/\cj a q (x/y)/\cj a r (x%y)/\Ext w a
def ai9(n m:Value)(a b:Nat)(w:au)(z:eA w n a)(y:eA w m b)(B:Fit a)(A:Fit b)(x:0<b):
 Calls prog 201 #[n,m] w fun e f=>∃q r,e= .returned (.tuple #[q,r])/\eA f q (a/b)/\eA f r (a%b)/\Ext w f:=by
 obtain⟨F,D,rfl,l,p⟩:=z;obtain⟨E,C,rfl,v,o⟩:=y;unfold Fit at B A;refine(Q_ F E D C (aW a) (aW b) w Om Om (cW a) (cW b) l p o (by rw[Ne,qW];omega)).mono ?_;rintro e f ⟨L,H,J,K,G,I,rfl,u,t,k,j,d,c,i,h,s⟩;rw[dm,dm] at d c;exact⟨_,_,rfl,.mk' k d u i,.mk' j c t h,s⟩
def eA.parts(h:eA m p a):∃A n c,p= .slice A n c/\decide (0<n)=decide (0<a)/\n<=c/\ah (eA m (.slice A n c) a):=by
 obtain⟨A,c,rfl,b,e⟩:=h;refine⟨A,_,c,rfl,?_,b,⟨A,c,rfl,b,e⟩⟩;have d:(aW a).length=0↔a=0:=by rw[List.length_eq_zero_iff,qW]
 by_cases h:a=0
 ·have:=d.2 h;rw[this,h]
 ·have:(aW a).length≠0:=fun k=>h (d.1 k);rw[decide_eq_true Om,decide_eq_true Om]
def ajB(i:0<C)(d:¬(B<0/\0<B.natAbs%C.natAbs)):signed (decide (B<0) !=decide (C<0)) (B.natAbs/C.natAbs)=B/C/\signed false (B.natAbs%C.natAbs)=B%C:=by
 obtain⟨b,rfl⟩:∃b:Nat,C=b:=⟨C.natAbs,by omega⟩;have e:decide ((b:Int)<0)=false:=aY;simp only[fY] at d⊢;unfold signed;by_cases c:B<0
 ·obtain⟨a,rfl⟩:∃a:Nat,B= -(a:Int):=⟨B.natAbs,by omega⟩;simp only[LD,fY] at d⊢;have h:a%b=0:=Om;have f:(b:Int)∣(a:Int):=Int.natCast_dvd_natCast.2 (Nat.dvd_of_mod_eq_zero h);rw[e,decide_eq_true c,h];refine⟨?_,?_⟩
  ·simp only[bne,Bool.true_beq,Bool.not_false,if_true];rw[Int.neg_ediv_of_dvd f,AD]
  ·exact(Int.emod_eq_zero_of_dvd (Int.dvd_neg.2 f)).symm
 ·obtain⟨a,rfl⟩:∃a:Nat,B=(a:Int):=⟨B.natAbs,by omega⟩;rw[e,decide_eq_false c];simp only[fY];exact⟨by simp,by simp⟩
def Zd{e:Func}{p q:Tmp}(h:e.results= #[.cell p w,.cell q x])(b:Array Value){P:Program}(a:au)(g k:Nat)(u v:Value)
 (i:b.getD p undef=aI g 0) (f:b.getD q undef=aI k 0)
 (l:(loadVar w ⟨g,0,none⟩).run P a= .ok u a) (j:(loadVar x ⟨k,0,none⟩).run P a= .ok v a):
 (results e b).run P a= .ok (.tuple #[u,v]) a:=by
 have d:b[p]?.getD undef=aI g 0:=by simpa using i
 have c:b[q]?.getD undef=aI k 0:=awp;simp [results,h,d,c,asAddr,Sem.run_bind,Result.andThen,l,j]
def acg{g:Nat}(d:ar m g cV [.bool R,.slice E a b]):(loadVar cV ⟨g,0,none⟩).run prog m= .ok (.agg #[.bool R,.slice E a b]) m:=
 run_loadVar_row m g cV cV #[.bool R,.slice E a b] (0,0) _ d underlying89 rfl Ok
def acZ{z:Func}{t g:Nat}{x0 x1 y0 y1:Value}(f:z.results= #[.cell t cV,.cell a cV])(G:Q.tmps.getD t undef=aI g 0)(k:Q.tmps.getD a undef=aI (g+1) 0)(H:Q.defers= [])
 (v:ar n g cV [x0,x1]) (s:ar n (g+1) cV [y0,y1]) (J:cj n (.agg #[.bool R,.slice E b c]) (B/C)) (I:cj n (.agg #[.bool S,.slice F d e]) (B%C)) (D:Ext m n) (u:m.heap.size<=g):
 bodyPost prog z (Nk B C m) .ret Q ((((n.setCell (aC g 0) (.bool R)).setCell (aC g 1) (.slice E b c)).setCell (aC (g+1) 0) (.bool S)).setCell (aC (g+1) 1) (.slice F d e)):=by
 have r:ar ((n.setCell (aC g 0) (.bool R)).setCell (aC g 1) (.slice E b c)) g cV [.bool R,.slice E b c]:=(v.bu 0 (.bool R)).bu 1 (.slice E b c);have j:ar ((n.setCell (aC g 0) (.bool R)).setCell (aC g 1) (.slice E b c)) (g+1) cV [y0,y1]:=(s.far (p:=aC g 0) (by show g+1≠g;omega) _).far (p:=aC g 1) (by show g+1≠g;omega) _;have i:=v.qh (t:=209) Od 0 1 (.bool R) (.slice E b c);have l:Ext m ((n.setCell (aC g 0) (.bool R)).setCell (aC g 1) (.slice E b c)):=(D.setCell u _).setCell u _;generalize(n.setCell (aC g 0) (.bool R)).setCell (aC g 1) (.slice E b c)=A at*;have q:ar ((A.setCell (aC (g+1) 0) (.bool S)).setCell (aC (g+1) 1) (.slice F d e)) g cV [.bool R,.slice E b c]:=(r.far (p:=aC (g+1) 0) (by show g≠g+1;omega) _).far (p:=aC (g+1) 1) (by show g≠g+1;omega) _;have o:ar ((A.setCell (aC (g+1) 0) (.bool S)).setCell (aC (g+1) 1) (.slice F d e)) (g+1) cV [.bool S,.slice F d e]:=(j.bu 0 (.bool S)).bu 1 (.slice F d e);have h:=j.qh (t:=209) Od 0 1 (.bool S) (.slice F d e);exact bodyPost_ret (Zd f Q.tmps _ g (g+1) _ _ G k (acg q) (acg o)) H ⟨_,_,rfl,J.keep (i.trans h),I.keep (i.trans h),(l.setCell (show m.heap.size<=g+1 by omega) _).setCell (show m.heap.size<=g+1 by omega) _⟩
def q15.k14(h:aq:=by
 have s:ba=false\/ba=true/\decide (0<nr)=false:=by
  rw[HA.inv.1,Oh];have:=A.ae;by_cases h:x<0
  ·exact .inr ⟨decide_eq_true h,decide_eq_false (fun k=>this ⟨h,k⟩)⟩
  ·exact .inl (decide_eq_false h)
 clear Oh;rcases s with rfl|⟨rfl,s⟩;all_goals
  go_wp2_with fail
  refine(qX _ _ (x.natAbs/y.natAbs) _ HQ fq).mono ?_;rintro e C ⟨E,rfl,i,b⟩;obtain⟨Q,S,G,z,rfl,m⟩:=i.parts;go_wp2_with fail;refine(qX _ _ (x.natAbs%y.natAbs) _ (HR.ext b) fr).mono ?_;rintro e B ⟨D,rfl,f,a⟩;obtain⟨P,R,F,v,rfl,l⟩:=f.parts;have c:=af (m.ext a);have u:=af (H1.ext (b.trans a));have d:=af (H5.ext (b.trans a));have j:=af (bQ.trans (b.trans a));obtain⟨O,N,M,L⟩:=u.res;have K:=d.aF 0;have J:=d.aF 1;have I:=d.frozen 0;have H:=d.frozen 1;go_wp2;exact acZ rfl rfl rfl rfl u.r d (by rw[<-HD.1];first|(rw[show(false !=bb)=bb by cases bb<;>rfl];exact c)|(rw[show(true !=bb)= !bb by cases bb<;>rfl];exact c)) (by rw[<-HD.2];exact l) j Om):=h
def q14.wG(h:aq:=by have HY:=af p;have A:=af t;have hd:=ajB p t;open q15 in exact m14):=h
def ahG(o n:Value)(x y:Int)(w:au)(ha:cj w o x)(hb:cj w n y)(fx:cE x)(fy:cE y)(p:0<y)(t:¬(x<0/\0<x.natAbs%y.natAbs)):
 Calls prog 148 #[o,n] w (Nk x y w):=by
 open q14 in exact wE
def aoP:Fit 1:=Ig (e:=1) Od Od
def apf(w:au):eA (w.alloc (Obj.cells #[.int .u64 1] 209)).drew (aG w.heap.size 0 1 1) 1:=
 eA.mk' ⟨rj Od jT,by unfold gC;decide⟩ rfl Od (Sl.new w 209 #[.int .u64 1])
def ahg(k:0<C)(c:B<0/\0<B.natAbs%C.natAbs):signed (decide (B<0) !=decide (C<0)) (B.natAbs/C.natAbs+1)=B/C/\signed false (C.natAbs - B.natAbs%C.natAbs)=B%C:=by
 obtain⟨b,rfl⟩:∃b:Nat,C=b:=⟨C.natAbs,by omega⟩;obtain⟨a,rfl⟩:∃a:Nat,B= -(a:Int):=⟨B.natAbs,by omega⟩;simp only[LD,fY] at c⊢;have e:decide ((b:Int)<0)=false:=aY;rw[e,decide_eq_true c.1];have j:=ua a b;have i:a%b<b:=eF _ Om;have d:(-(a:Int))= -((a/b+1:Nat):Int)*(b:Int)+((b - a%b:Nat):Int):=by
  rw[Int.ofNat_sub (pd i)];have:((b*(a/b)+a%b:Nat):Int)=(a:Int):=by rw[j]
  push_cast at this⊢
  grind
 have h:(-(a:Int))/b= -((a/b+1:Nat):Int):=(by rw[d,Qx,Int.add_mul_ediv_right _ _ Om,Int.ediv_eq_zero_of_lt Om Om];omega);have f:(-(a:Int))%b=((b - a%b:Nat):Int):=(by rw[d,Qx,Int.add_mul_emod_self_right,Int.emod_eq_of_lt Om Om]);rw[h,f];exact⟨rfl,rfl⟩
def q17.k14(h:aq:=by
 have t:ba=true:=by rw[HA.inv.1];exact decide_eq_true L.1
 subst t;have ht:decide (0<nr)=true:=by rw[Oh];exact decide_eq_true L.2
 have s:x.natAbs%y.natAbs<=y.natAbs:=pd (eF _ aw');have E:=af s;go_wp2_with fail
 go_region_held3 (fun G=>aA G (w.heap.size+1) 0 (.bool bb)/\aA G (w.heap.size+1) 1 (.slice Ab nb cb)) (first|exact⟨c2,c3⟩|exact(H1.ext ((aB _).alloc _)).drew.cells.2.2|exact((H1.ext ((aB _).alloc _)).drew.ext a).cells.2.2|exact((H1.ext ((aB _).alloc _)).drew.ext (a.trans d)).cells.2.2)
  (first
    |(go_at_call 144;refine(Z_ _ _ (x.natAbs/y.natAbs) 1 _ (HQ.ext (by exact((aB _).alloc _).drew)) (by exact apf w1) fq aoP).mono ?_;rintro e S ⟨X,rfl,p,a⟩)
    |(go_at_call 146;refine(QY _ _ y.natAbs (x.natAbs%y.natAbs) _ (HB.inv.2.ext (by exact(bQ.trans ((aB _).alloc _).drew).trans a)) (HR.ext (by exact((aB _).alloc _).drew.trans a)) FY.fit fr E).mono ?_;rintro e R ⟨V,rfl,o,d⟩))
 all_goals
  have f:=af (((aB w1).alloc (Obj.cells #[.int .u64 1] 209)).drew.trans (a.trans d));have D:=af (p.ext d);have C:=af o;have l:=af (H1.ext f);have F:=af (H5.ext f);have i:=af (bQ.trans f);have v:ah (Fit (x.natAbs/y.natAbs+1)):=(FX.SU FY).le (by have:=AE x.natAbs y.natAbs;have:=HY.ae;omega);have u:ah (Fit (y.natAbs - x.natAbs%y.natAbs)):=FY.fit.le (Nat.sub_le _ _);obtain⟨c0,c1,c2,c3⟩:=l.cells;go_wp2_with fail
  refine(qX _ _ (x.natAbs/y.natAbs+1) _ D v).mono ?_;rintro e Q ⟨U,rfl,n,c⟩;obtain⟨b4,A4,Z,O,rfl,B⟩:=n.parts;go_wp2_with fail;refine(qX _ _ (y.natAbs - x.natAbs%y.natAbs) _ (C.ext c) u).mono ?_;rintro e P ⟨T,rfl,m,b⟩;obtain⟨b5,A5,Y,N,rfl,A⟩:=m.parts;have j:=af (B.ext b);have M:=af (l.ext (c.trans b));have k:=af (F.ext (c.trans b));have z:=af (i.trans (c.trans b));obtain⟨k0,k1,k2,k3⟩:=M.res;have l0:=k.aF 0;have l1:=k.aF 1;have l2:=k.frozen 0;have l3:=k.frozen 1;go_wp2;exact acZ rfl rfl rfl rfl M.r k (by rw[<-HD.1];rw[show(true !=bb)= !bb by cases bb<;>rfl];exact j) (by rw[<-HD.2];exact A) z Om):=h
def q16.wG(h:aq:=by have HY:=af J;have L:=af K;have hd:=ahg J K;open q17 in exact m14):=h
def ai4(I H:Value)(x y:Int)(w:au)(ha:cj w I x)(hb:cj w H y)(fx:cE x)(fy:cE y)(J:0<y)(K:x<0/\0<x.natAbs%y.natAbs):
 Calls prog 148 #[I,H] w (Nk x y w):=by
 open q16 in exact wE
def Z9(b a:Value)(x y:Int)(w:au)(e:cj w b x)(d:cj w a y)(i:cE x)(f:cE y)(c:0<y):
 Calls prog 148 #[b,a] w (Nk x y w):=by
 by_cases h:x<0/\0<x.natAbs%y.natAbs
 ·exact ai4 b a x y w e d i f c h
 ·exact ahG b a x y w e d i f c h
abbrev dp:TypeId:=91
def bX(w:au)(v:Value)(q:Rat):Prop:=∃a b c d,v= .agg #[a,b,c,d]/\cj w (.agg #[a,b]) q.num/\cj w (.agg #[c,d]) q.den
def bX.ext{w':au}(h:bX m p H)(e:Ext m w'):bX w' p H:=by obtain⟨a,b,c,d,rfl,i,f⟩:=h;exact⟨a,b,c,d,rfl,i.ext e,f.ext e⟩
def bX.keep(h:bX m p H)(e:Kept 209 m n):bX n p H:=by obtain⟨a,b,c,d,rfl,i,f⟩:=h;exact⟨a,b,c,d,rfl,i.keep e,f.keep e⟩
def bX.parts(h:bX m p H):∃b A n c i j e f,p= .agg #[.bool b,.slice A n c,.bool i,.slice j e f]/\ah (cj m (.agg #[.bool b,.slice A n c]) H.num)/\ah (cj m (.agg #[.bool i,.slice j e f]) H.den):=by exact m97
def bX.mk'{c:Value}(f:cj m (.agg #[p,q]) H.num)(e:cj m (.agg #[c,r]) H.den):bX m (.agg #[p,q,c,r]) H:=⟨p,q,c,r,rfl,f,e⟩
def bF(e:Nat)(q:Rat):Prop:=q.num.natAbs<10^e/\q.den<10^e
def bF.num(h:bF e H)(a:e<=1000000):cE H.num:=⟨e,a,h.1⟩
def bF.den(h:bF e H)(a:e<=1000000):cE H.den:=⟨e,a,by simpa using h.2⟩
def bF.mono(h:bF e H)(b:e<=a):bF a H:=⟨cF h.1 (fN Od b),cF h.2 (fN Od b)⟩
def Bl:cE 1:=⟨1,by decide,by decide⟩
def ajS(q:Rat):(((q.den:Int) - 1).sign==0)=decide (q.den=1):=by
 by_cases h:q.den=1
 ·rw[h];rfl
 ·rw[decide_eq_false h];have:((q.den:Int) - 1).sign≠0:=by rw[Ne,YD];omega
  simpa using this
def aT{P:World->Prop}{l:List Value}(h:∀W,ah (Ext m W)->ah (ar W m.heap.size w l)->P W):P (m.alloc (.cells l.toArray w)):=
 h _ ((aB m).alloc _) (iT m w l)
def fR{P:World->Prop}(h:∀W,ah (Ext m W)->ah (ar W m.heap.size w t)->ah (ar W (m.heap.size+1) x u)->P W):P ((m.alloc (.cells t.toArray w)).alloc (.cells u.toArray x)):=
 h _ (((aB m).alloc _).alloc _) ((iT m w t).ext ((aB _).alloc _)) (jg (m.alloc (.cells t.toArray w)) x u _ Ou)
def qq{P:World->Prop}{a:TypeId}(h:∀W,ah (Ext m W)->ah (ar W m.heap.size w t)->ah (ar W (m.heap.size+1) x u)->ah (ar W (m.heap.size+1+1) a v)->P W):P (((m.alloc (.cells t.toArray w)).alloc (.cells u.toArray x)).alloc (.cells v.toArray a)):=
 h _ ((((aB m).alloc _).alloc _).alloc _) ((iT m w t).ext (((aB _).alloc _).alloc _)) ((jg (m.alloc (.cells t.toArray w)) x u _ Ou).ext ((aB _).alloc _)) (jg ((m.alloc (.cells t.toArray w)).alloc (.cells u.toArray x)) a v _ Ou)
def ar.qf{g:Nat}(h:ar m g w t)(b:g≠a)(u0 u1 u2 u3:Value):ar ((((m.setCell (aC a 0) u0).setCell (aC a 1) u1).setCell (aC a 2) u2).setCell (aC a 3) u3) g w t:=
 (((h.far b u0).far b u1).far b u2).far b u3
def ar.nX{g k:Nat}{t:TypeId}(h:ar m g t u)(a:g≠k)(u0 u1:Value):ar ((m.setCell (aC k 0) u0).setCell (aC k 1) u1) g t u:=
 (h.far a u0).far a u1
def tC(g:Nat):g≠g+1:=Om
def CK(g:Nat):g≠g+1+1:=Om
def Cm(g:Nat):g+1≠g+1+1:=Om
def ar.four{g:Nat}(h:ar m g w [p,q,r,s]):aA m g 0 p/\aA m g 1 q/\aA m g 2 r/\aA m g 3 s:=
 ⟨h.cell rfl,h.cell rfl,h.cell rfl,h.cell rfl⟩
def ar.eX{g:Nat}(h:ar m g w t):m.frozen? (aC g 0)=false/\m.frozen? (aC g 1)=false/\m.frozen? (aC g 2)=false/\m.frozen? (aC g 3)=false:=
 ⟨h.frozen 0,h.frozen 1,h.frozen 2,h.frozen 3⟩
def ar.two{g:Nat}{t:TypeId}(h:ar m g t [p,q]):aA m g 0 p/\aA m g 1 q:=
 ⟨h.cell rfl,h.cell rfl⟩
def Rb(v:Value)(q:Rat)(w:au)(h:bX w v q)(o:bF a q)(p:a<=1000000):
 Calls prog 75 #[v] w fun a j=>a= .returned (.bool (decide (q.den=1)))/\Ext w j:=by
 obtain⟨b,A,n,c,u,B,m,t,rfl,H,y⟩:=h.parts;have z:=af (o.den p);have x:=af (ajS q);go_enter func75,ntmps75;go_wp2_with fail
 refine aT fun W i k=> ?_;obtain⟨G,F,s,r⟩:=k.four;go_region_held3 (fun j=>aA j w.heap.size 2 (.bool u)/\aA j w.heap.size 3 (.slice B m t)) (first|exact⟨s,r⟩|exact(k.ext (aB _).drew).four.2.2|exact(k.ext ((aB _).drew.trans d)).four.2.2|exact(k.ext (((aB _).drew.trans d).trans f)).four.2.2)
  (first
    |(go_at_call 74;refine(IH 1 _ Od Od).mono ?_;rintro a D ⟨E,rfl,l,d⟩)
    |(go_at_call 140;refine(Hi _ _ q.den 1 _ (y.ext (by exact i.trans ((aB _).drew.trans d))) l z Bl).mono ?_;rintro a C ⟨rfl,f⟩))
 go_wp2;go_ret;exact⟨by rw[x.ae];rfl,i.trans (((aB _).drew.trans d).trans f)⟩
def yH{f:Func}{g:Nat}{x0 x1 u0 u1 u2 u3:Value}{R:Ending->World->Prop}(b:f.results= #[.cell a dp])(i:Q.tmps.getD a undef=aI g 0)(j:Q.defers= [])
 (e:ar n g dp [u0,u1,u2,u3]) (l:bX n (.agg #[x0,x1,p,q]) H) (h:Ext m n) (c:m.heap.size<=g) (k:∀v W',bX W' v H->Ext m W'->R (.returned v) W'):
 bodyPost prog f R .ret Q ((((n.setCell (aC g 0) x0).setCell (aC g 1) x1).setCell (aC g 2) p).setCell (aC g 3) q):=by
 have d:=(((e.bu 0 x0).bu 1 x1).bu 2 p).bu 3 q;exact bodyPost_ret (results_cell_row b Q.tmps _ g dp #[x0,x1,p,q] (0,0) _ i d underlying91 rfl Ok) j (k _ _ (l.keep (e.E6 Od 0 1 2 3 x0 x1 p q)) ((((h.setCell c _).setCell c _).setCell c _).setCell c _))
def ZJ(z:Int):((z:Rat)).num=z:=rfl
def ZK(z:Int):((z:Rat)).den=1:=rfl
def aam(v:Value)(z:Int)(w:au)(h:cj w v z):
 Calls prog 73 #[v] w fun e f=>∃o,e= .returned o/\bX f o (z:Rat)/\Ext w f:=by
 obtain⟨b,A,n,c,rfl,H⟩:=h.parts;go_enter func73,ntmps73;go_wp2_with fail;refine fR fun W i j u=> ?_;obtain⟨t,s⟩:=j.two;go_region_held3 (fun f=>aA f w.heap.size 0 (.bool b)/\aA f w.heap.size 1 (.slice A n c)) (first|with_reducible exact⟨t,s⟩|with_reducible exact j.ae.drew.two|with_reducible exact(j.ae.ext a).two|with_reducible exact((j.ae.ext a).qf (tC _) _ _ _ _).two)
  (first|(go_at_call 74;refine(IH 1 _ Od Od).mono ?_;rintro e x ⟨y,rfl,l,k⟩;obtain⟨G,I,B,r,rfl,m⟩:=l.parts;have a:=(aB W).drew.trans k;have d:=af (u.ext a);obtain⟨F,E,D,C⟩:=d.four;obtain⟨f0,f1,f2,f3⟩:=d.eX))
 go_wp2;exact yH rfl rfl rfl d.ae (.mk' (H.ext (i.trans a)) m.ae) (i.trans a) Om (fun v W' q p=>⟨v,rfl,q,p⟩)
def yR(z:Int)(w:au)(q: -9223372036854775808<=z)(j:z<=9223372036854775807):
 Calls prog 28 #[av z] w fun e k=>∃l,e= .returned l/\bX k l (z:Rat)/\Ext w k:=by
 have x:=af q;have u:=af j;go_enter func28,ntmps28;go_wp2_with fail
 refine aT (P:=fun W=>Calls _ _ _ W _) fun W r s=> ?_;refine(IH z W x u).mono ?_;rintro e m ⟨o,rfl,i,f⟩;go_wp2_with fail;refine(aam o z m i).mono ?_;rintro e y ⟨B,rfl,h,d⟩;obtain⟨b,A,n,c,I,K,C,H,rfl,J,t⟩:=h.parts;have a:=af (s.ext (f.trans d));obtain⟨G,F,E,D⟩:=a.four;obtain⟨f0,f1,f2,f3⟩:=a.eX;go_wp2;exact yH rfl rfl rfl a.ae h (r.trans (f.trans d)) Om (fun v W' j p=>⟨v,rfl,j,p⟩)
def alj(v:Value)(q:Rat)(w:au)(h:bX w v q)(j:bF a q)(k:a<=1000000):
 Calls prog 63 #[v] w fun a i=>a= .returned (av q.num.sign)/\Ext w i:=by
 obtain⟨b,A,n,c,r,u,o,p,rfl,H,t⟩:=h.parts;have l:=af (j.num k).wide;go_enter func63,ntmps63;go_wp2_with fail
 refine aT (P:=fun W=>Calls _ _ _ W _) fun W f s=> ?_;refine(QG _ q.num W (H.ext f) l).mono ?_;rintro a m ⟨rfl,d⟩;go_wp2;go_ret;exact⟨rfl,f.trans d⟩
def Qo(n d:Int)(a:0<d):(Rat.divInt n d).num=n/ (Int.gcd n d:Nat)/\((Rat.divInt n d).den:Int)=d/ (Int.gcd n d:Nat):=by rw[Rat.num_divInt,Rat.den_divInt,if_neg Om,Aj a,Int.one_mul,Int.gcd_comm d n];refine⟨rfl,?_⟩;rw[AD];congr 1;omega
def aey{P:World->Prop}{g:Nat}{x0 x1 u0 u1:Value}(f:w≠209)(d:ar m g w [x0,x1])
 (h:∀W,ah (Kept 209 m W)->ah (∀k b l,k≠g->ar m k b l->ar W k b l)->ah (∀a,Ext a m->a.heap.size<=g->Ext a W)->ah (ar W g w [u0,u1])->P W):P ((m.setCell (aC g 0) u0).setCell (aC g 1) u1):=
 h _ (d.qh f 0 1 u0 u1) (fun _ _ _ i j=>j.nX i u0 u1) (fun _ e c=>(e.setCell c _).setCell c _) ((d.bu 0 u0).bu 1 u1)
def q18.wG(h:aq:=by
 have HY:=af hy;have hs:=Aj hy;go_enter func77,ntmps77;go_wp2_with fail
 refine qq (P:=fun W=>Calls _ _ _ W _) fun W B BA BB BR=> ?_;refine(QG _ y W (HB.ext B) FY.wide).mono ?_;rintro e w1 ⟨rfl,k⟩;rw[hs];have S:=af (BA.ext k);have Q:=af (BB.ext k);have K:=af (BR.ext k);have o:=af (B.trans k);obtain⟨a0,a1⟩:=S.two;obtain⟨U,T⟩:=Q.two;go_wp2_with fail
 refine(Z8 _ _ x y w1 (HA.ext o) (HB.ext o) FX FY).mono ?_;rintro e w2 ⟨v2,rfl,u,f⟩;obtain⟨bg,Ag,ng,cg,rfl,HG⟩:=u.parts;go_wp2_with fail;refine aT fun W2 j M=> ?_;have xZ:=af (S.ext (f.trans j));have zY:=af (Q.ext (f.trans j));have D5:=af (K.ext (f.trans j));have oJ:=af (o.trans (f.trans j));have F:=af (u.ext j);have oD:=(K.ext f).lt;have HGL:=af oD;have VU:0<Int.gcd x y:=YT (fun h=>by have:=(Int.gcd_eq_zero_iff.1 h).2;have:=HY.ae;omega);have G:=af VU;have hgf:=FY.le (by rw[fY];exact Nat.le_of_dvd aw' (Int.gcd_dvd_natAbs_right x y));have FG:=af hgf;obtain⟨g0,g1⟩:=M.two;go_region_held3 (fun t=>aA t w2.heap.size 0 (.bool bg)/\aA t w2.heap.size 1 (.slice Ag ng cg)) (first|with_reducible exact⟨g0,g1⟩|with_reducible exact M.ae.drew.two|with_reducible exact(M.ae.ext a).two|with_reducible exact(M.ae.ext (a.trans b)).two)
  (first
    |(go_at_call 74;refine(IH 1 _ Od Od).mono ?_;rintro e w3 ⟨v3,rfl,Y,X⟩;have a:=(aB W2).drew.trans X)
    |(go_at_call 140;refine(Hi _ _ (Int.gcd x y:Nat) 1 _ (F.ext (by exact a)) Y FG Bl).mono ?_;rintro e w4 ⟨rfl,b⟩))
 all_goals
  have R:=af (xZ.ext (a.trans b));have O:=af (zY.ext (a.trans b));have l:=af (D5.ext (a.trans b));have L:=af (M.ext (a.trans b));have i:=af (oJ.trans (a.trans b));have H:=af (F.ext (a.trans b));obtain⟨a0,a1⟩:=R.two;obtain⟨U,T⟩:=O.two;obtain⟨g0,g1⟩:=L.two;obtain⟨k0,k1,k2,k3⟩:=l.four;obtain⟨f0,f1,f2,f3⟩:=l.eX;have V:=af (Qo x y HY);by_cases z:Int.gcd x y=1
  ·have ht:((((Int.gcd x y:Nat):Int) - 1).sign !=0)=false:=by rw[z];rfl
   have I:=af z;go_wp2;refine yH rfl rfl rfl l.ae (.mk' ?_ ?_) i Om (fun v W' h1 h2=>⟨v,rfl,h1,h2⟩)
   ·rw[V.1,I.ae];simpa using HA.ext i
   ·rw[V.2,I.ae];simpa using HB.ext i
  ·have ht:((((Int.gcd x y:Nat):Int) - 1).sign !=0)=true:=by
    have:(((Int.gcd x y:Nat):Int) - 1).sign≠0:=by rw[Ne,YD];omega
    simpa using this
   go_wp2_with fail
   refine(Z9 _ _ x (Int.gcd x y:Nat) w4 (HA.ext i) H FX FG awN).mono ?_;rintro e w5 ⟨q,r,rfl,hq,hr,c⟩;obtain⟨bq,Aq,nq,cq,rfl,HQ⟩:=hq.parts;obtain⟨br,Ar,nr,cr,rfl,_⟩:=hr.parts;have n:=af (R.ext c);obtain⟨a0,a1⟩:=n.two;have a2:=n.frozen 0;have a3:=n.frozen 1;have Yw:=af (O.ext c);have BG5:=af (L.ext c);have jC:=af (l.ext c);have dX:=af (i.trans c);have XH:=af (H.ext c);go_upto_region 6 with fail
   refine aey Od n fun W6 E p zW PL=> ?_;have N:=af (p _ _ _ (fP (tC _)) Yw);have BG6:=af (p _ _ _ (by have:=HGL.ae;omega) BG5);have Yr:=af (p _ _ _ (fP (CK _)) jC);have A:=af (zW _ dX (aK _));have Xc:=af (HQ.keep E);have HG6:=af (XH.keep E);obtain⟨U,T⟩:=N.two;obtain⟨g0,g1⟩:=BG6.two;go_wp2_with fail
   refine(Z9 _ _ y (Int.gcd x y:Nat) W6 (HB.ext A) HG6 FY FG awN).mono ?_;rintro e w7 ⟨q7,r7,rfl,hq7,Z,d⟩;obtain⟨bq7,Aq7,nq7,cq7,rfl,Xb⟩:=hq7.parts;obtain⟨br7,Ar7,nr7,cr7,rfl,_⟩:=Z.parts;have Yx:=af (PL.ext d);have m:=af (N.ext d);have BR7:=af (Yr.ext d);have gK:=af (A.trans d);have C:=af (Xc.ext d);obtain⟨U,T⟩:=m.two;have b2:=m.frozen 0;have b3:=m.frozen 1;go_upto_region 7 with fail
   refine aey Od m fun W8 D J KF BB8=> ?_;have BA8:=af (J _ _ _ (tC _) Yx);have s:=af (J _ _ _ (fP (Cm _)) BR7);have j8:=af (KF _ gK Om);have HN:=af (C.keep D);have HM:=af (Xb.keep D);rw[<-V.1] at HN;rw[<-V.2] at HM;obtain⟨a0,a1⟩:=BA8.two;obtain⟨U,T⟩:=BB8.two;obtain⟨k0,k1,k2,k3⟩:=s.four;obtain⟨f0,f1,f2,f3⟩:=s.eX;go_wp2;exact yH rfl rfl rfl s.ae (.mk' HN.ae HM.ae) j8 Om (fun v W' h1 h2=>⟨v,rfl,h1,h2⟩)):=h
def My(va vb:Value)(x y:Int)(w:au)(ha:cj w va x)(hb:cj w vb y)(fx:cE x)(fy:cE y)(hy:0<y):
 Calls prog 77 #[va,vb] w fun e t=>∃v',e= .returned v'/\bX t v' (Rat.divInt x y)/\Ext w t:=by
 open q18 in exact wE
def ug(q:Rat):0<(q.den:Int):=awU
def Ht(a b:Rat):Rat.divInt (a.num*b.den+b.num*a.den) (a.den*b.den)=a+b:=by rw[Rat.add_def',<-Rat.divInt_ofNat,k6]
def QZ(a b:Rat):Rat.divInt (a.num*b.num) (a.den*b.den)=a*b:=by rw[Rat.mul_def',<-Rat.divInt_ofNat,k6]
def aaq(f:0<C)(h:B.natAbs<10^a)(i:C.natAbs<10^a):bF a (Rat.divInt B C):=by
 obtain⟨c,b⟩:=Qo B C f;refine⟨?_,?_⟩
 ·rw[c];refine Ay ?_ h;rw[Int.natAbs_ediv_of_dvd (Int.gcd_dvd_left ..)];exact AE _ _
 ·have:(Rat.divInt B C).den<=C.natAbs:=by
   have:((Rat.divInt B C).den:Int)<=C:=by rw[b];exact Int.ediv_le_self _ Om
   omega
  omega
def bF.add(f:bF a H)(c:bF b I):bF (a+b+1) (H+I):=by
 rw[<-Ht];have k:=AQ f.1 c.2;have h:=AQ c.1 f.2;have i:=AQ f.2 c.2;have j:10^(a+b)<10^(a+b+1):=G9 Od Om;refine aaq (LZ (ug H) (ug I)) ?_ ?_
 ·have l:(H.num*I.den+I.num*H.den).natAbs<=H.num.natAbs*I.den+I.num.natAbs*H.den:=(by refine a7 (Int.natAbs_add_le _ _) ?_;rw[yj,yj,fY,fY];exact aK _);rw[mS b a] at h;rw[eU];omega
 ·rw[yj,fY,fY];omega
def bF.neg(b:bF a H):bF a (-H):=⟨by rw[Rat.neg_num,LD];exact b.1,by rw[Rat.neg_den];exact b.2⟩
def cE.mul(c:B.natAbs<10^a)(b:C.natAbs<10^e)(h:a+e<=1000000):cE (B*C):=⟨a+e,h,by rw[yj];exact AQ c b⟩
def Io:=@cE.mul
def ajT(d:H.den=1)(c:I.den=1):((H.num+I.num:Int):Rat)=H+I:=by rw[<-Ht,d,c,YZ];simp only[Rat.intCast_add];grind
def ajR(d:H.den=1)(c:I.den=1):((H.num*I.num:Int):Rat)=H*I:=by rw[<-QZ,d,c,YZ];simp only[He];grind
def wJ(p q:Rat):Int:=(p.num*q.den - q.num*p.den).sign
def ahQ(x v:Value)(p q:Rat)(w:au)(A:bX w x p)(z:bX w v q)(l:bF a p)(k:bF b q)(y:a+b<=1000000):
 Calls prog 104 #[x,v] w fun b f=>b= .returned (av (wJ p q))/\Ext w f:=by
 obtain⟨C,Aa,G,K,M,Ab,F,J,rfl,Z,Y⟩:=A.parts;obtain⟨B,Ac,E,I,L,Ad,D,H,rfl,X,V⟩:=z.parts;have FA:=af (l.num Om);have FB:=af (l.den Om);have e:=af (k.num Om);have d:=af (k.den Om);have F1:=af (Io l.1 (by simpa using k.2:((q.den:Int)).natAbs<_) y);have F2:=af (Io k.1 (by simpa using l.2:((p.den:Int)).natAbs<_) Om);clear A z l k y;go_enter func104,ntmps104;go_wp2_with fail
 refine fR fun W m o n=> ?_;obtain⟨U,T,S,R⟩:=o.four;obtain⟨Q,P,O,N⟩:=n.four;go_region_held3 (fun f=>(aA f w.heap.size 0 (.bool C)/\aA f w.heap.size 1 (.slice Aa G K)/\aA f w.heap.size 2 (.bool M)/\aA f w.heap.size 3 (.slice Ab F J))/\aA f (w.heap.size+1) 0 (.bool B)/\aA f (w.heap.size+1) 1 (.slice Ac E I)/\aA f (w.heap.size+1) 2 (.bool L)/\aA f (w.heap.size+1) 3 (.slice Ad D H)) (first|with_reducible exact⟨⟨U,T,S,R⟩,Q,P,O,N⟩|with_reducible exact⟨o.ae.drew.four,n.ae.drew.four⟩|with_reducible exact⟨(o.ae.ext c).four,(n.ae.ext c).four⟩|with_reducible exact⟨(o.ae.ext i).four,(n.ae.ext i).four⟩|with_reducible exact⟨(o.ae.ext h).four,(n.ae.ext h).four⟩)
  (first
    |(go_at_call 78;(with_reducible show Calls _ _ #[Value.agg #[Value.bool C,_],_] _ _);refine(pY _ _ p.num q.den _ (Z.ext (by exact m.drew)) (V.ext (by exact m.drew)) FA d).mono ?_;rintro b w1 ⟨v1,rfl,u,s⟩;have c:=(aB W).drew.trans s)
    |(go_at_call 78;(with_reducible show Calls _ _ #[Value.agg #[Value.bool B,_],_] _ _);refine(pY _ _ q.num p.den _ (X.ext (by exact m.trans c)) (Y.ext (by exact m.trans c)) e FB).mono ?_;rintro b w2 ⟨v2,rfl,t,j⟩;have i:=c.trans j)
    |(go_at_call 140;refine(Hi _ _ _ _ _ (u.ext (by exact j)) t F1 F2).mono ?_;rintro b w3 ⟨rfl,r⟩;have h:=i.trans r))
 all_goals
  go_wp2;go_ret;exact⟨rfl,m.trans h⟩
def q22.k84(h:aq:=by rw[<-ajR Xl.ae m.ae];exact h1):=h
def q21.k93(h:aq:=by
 by_cases k:q.den=1
 ·have l:=decide_eq_true k;have m:=af k;go_wp2_with fail
  refine(pY _ _ p.num q.num w2 (HA.ext aZ) (HC.ext aZ) FA FC).mono ?_;open q22 in exact m84
 ·have l:=decide_eq_false k;have BA:=xZ;have BB:=zY;have BR:=D5;have HX:=aZ;go_wp2_with fail
  go_region_held3 (fun c=>(aA c w.heap.size 0 (.bool ba)/\aA c w.heap.size 1 (.slice Aa na ca)/\aA c w.heap.size 2 (.bool bb)/\aA c w.heap.size 3 (.slice Ab nb cb))/\aA c (w.heap.size+1) 0 (.bool bc)/\aA c (w.heap.size+1) 1 (.slice Ac nc cc)/\aA c (w.heap.size+1) 2 (.bool bd)/\aA c (w.heap.size+1) 3 (.slice Ad nd cd)) (first|with_reducible exact⟨⟨a0,a1,a2,a3⟩,b0,b1,b2,b3⟩|with_reducible exact⟨BA.ae.drew.four,BB.ae.drew.four⟩|with_reducible exact⟨(BA.ae.ext b).four,(BB.ae.ext b).four⟩|with_reducible exact⟨(BA.ae.ext f).four,(BB.ae.ext f).four⟩|with_reducible exact⟨(BA.ae.ext rK).four,(BB.ae.ext rK).four⟩|with_reducible exact⟨((BA.ae.ext rK).qf (CK _) _ _ _ _).four,((BB.ae.ext rK).qf (Cm _) _ _ _ _).four⟩)
   (first
     |(go_at_call 78;(with_reducible show Calls _ _ #[Value.agg #[Value.bool ba,_],_] _ _);refine(pY _ _ p.num q.num _ (HA.ext av3) (HC.ext av3) FA FC).mono ?_;rintro e w3 ⟨v3,rfl,hv3,hx3⟩;have b:=(aB w2).drew.trans hx3)
     |(go_at_call 78;(with_reducible show Calls _ _ #[Value.agg #[Value.bool bb,_],_] _ _);refine(pY _ _ p.den q.den _ (HB.ext av0) (HD.ext av0) FB FD).mono ?_;rintro e w4 ⟨v4,rfl,hv4,g_⟩;have f:=b.trans g_)
     |(go_at_call 77;refine(My _ _ _ _ _ (hv3.ext (by exact g_)) hv4 F4 F3 s).mono ?_;rintro e t ⟨u,rfl,j,i⟩;have rK:=f.trans i;obtain⟨r0,R0,r1,r2,s0,S0,s1,s2,rfl,jO,iD⟩:=(j).parts;have jC:=af (BR.ext rK);obtain⟨k0,k1,k2,k3⟩:=jC.four;obtain⟨f0,f1,f2,f3⟩:=jC.eX))
  all_goals
   exact aeW):=h
def q20.afB(h:aq:=by
 by_cases et:p.den=1
 ·open q21 in exact m93
 ·have iN:=decide_eq_false et;clear et;have BA:=z8;have BB:=zZ;have BR:=tW;have HX:=bQ;obtain⟨a0,a1,a2,a3⟩:=BA.four;go_wp2_with fail
  go_region_held3 (fun c=>(aA c w.heap.size 0 (.bool ba)/\aA c w.heap.size 1 (.slice Aa na ca)/\aA c w.heap.size 2 (.bool bb)/\aA c w.heap.size 3 (.slice Ab nb cb))/\aA c (w.heap.size+1) 0 (.bool bc)/\aA c (w.heap.size+1) 1 (.slice Ac nc cc)/\aA c (w.heap.size+1) 2 (.bool bd)/\aA c (w.heap.size+1) 3 (.slice Ad nd cd)) (first|with_reducible exact⟨⟨a0,a1,a2,a3⟩,b0,b1,b2,b3⟩|with_reducible exact⟨BA.ae.drew.four,BB.ae.drew.four⟩|with_reducible exact⟨(BA.ae.ext b).four,(BB.ae.ext b).four⟩|with_reducible exact⟨(BA.ae.ext f).four,(BB.ae.ext f).four⟩|with_reducible exact⟨(BA.ae.ext rK).four,(BB.ae.ext rK).four⟩|with_reducible exact⟨((BA.ae.ext rK).qf (CK _) _ _ _ _).four,((BB.ae.ext rK).qf (Cm _) _ _ _ _).four⟩)
   (first
     |(go_at_call 78;(with_reducible show Calls _ _ #[Value.agg #[Value.bool ba,_],_] _ _);refine(pY _ _ p.num q.num _ (HA.ext av3) (HC.ext av3) FA FC).mono ?_;rintro e w3 ⟨v3,rfl,hv3,hx3⟩;have b:=(aB w1).drew.trans hx3)
     |(go_at_call 78;(with_reducible show Calls _ _ #[Value.agg #[Value.bool bb,_],_] _ _);refine(pY _ _ p.den q.den _ (HB.ext av0) (HD.ext av0) FB FD).mono ?_;rintro e w4 ⟨v4,rfl,hv4,g_⟩;have f:=b.trans g_)
     |(go_at_call 77;refine(My _ _ _ _ _ (hv3.ext (by exact g_)) hv4 F4 F3 s).mono ?_;rintro e t ⟨u,rfl,j,i⟩;have rK:=f.trans i;obtain⟨r0,R0,r1,r2,s0,S0,s1,s2,rfl,jO,iD⟩:=(j).parts;have jC:=af (BR.ext rK);obtain⟨k0,k1,k2,k3⟩:=jC.four;obtain⟨f0,f1,f2,f3⟩:=jC.eX))
  all_goals
   exact aeW):=h
def q19.NQ(h:aq:=by have F4:=af (Io fa.1 fb.1 Om);have s:=af (LZ (ug p) (ug q));clear ha hb fa fb x;go_enter func61,ntmps61;open q20 in exact ae'):=h
def Sr(o n:Value)(p q:Rat)(w:au)(ha:bX w o p)(hb:bX w n q)(fa:bF a p)(fb:bF e q)(x:a+e+1<=1000000):
 Calls prog 61 #[o,n] w fun e c=>∃r,e= .returned r/\bX c r (p*q)/\Ext w c:=by
 have HVA:=af ha;have HVB:=af hb;have XM:=af (And.intro fa (show a<=1000000 by omega));have XL:=af (And.intro fb (show e<=1000000 by omega));open q19 in exact m20
def bF.Ur(f:bF a H)(c:bF b I)(h:a+b+1<=1000000):cE (H.num*I.den+I.num*H.den):=by refine⟨a+b+1,h,?_⟩;have j:=AQ f.1 c.2;have i:=AQ c.1 f.2;rw[mS b a] at i;refine Ay (Int.natAbs_add_le _ _) ?_;rw[yj,yj,fY,fY,eU];omega
def q26.k84(h:aq:=by rw[<-ajT Xl.ae u.ae];exact h1):=h
def q25.k93(h:aq:=by
 by_cases s:q.den=1
 ·have t:=decide_eq_true s;have u:=af s;go_wp2_with fail
  refine(Ma _ _ p.num q.num w2 (HA.ext aZ) (HC.ext aZ) FA FC).mono ?_;open q26 in exact m84
 ·have t:=decide_eq_false s;have BA:=xZ;have BB:=zY;have BR:=D5;have HX:=aZ;go_wp2_with fail
  go_region_held3 (fun f=>(aA f w.heap.size 0 (.bool ba)/\aA f w.heap.size 1 (.slice Aa na ca)/\aA f w.heap.size 2 (.bool bb)/\aA f w.heap.size 3 (.slice Ab nb cb))/\aA f (w.heap.size+1) 0 (.bool bc)/\aA f (w.heap.size+1) 1 (.slice Ac nc cc)/\aA f (w.heap.size+1) 2 (.bool bd)/\aA f (w.heap.size+1) 3 (.slice Ad nd cd)) (first|with_reducible exact⟨⟨a0,a1,a2,a3⟩,b0,b1,b2,b3⟩|with_reducible exact⟨BA.ae.drew.four,BB.ae.drew.four⟩|with_reducible exact⟨(BA.ae.ext c).four,(BB.ae.ext c).four⟩|with_reducible exact⟨(BA.ae.ext j).four,(BB.ae.ext j).four⟩|with_reducible exact⟨(BA.ae.ext b).four,(BB.ae.ext b).four⟩|with_reducible exact⟨(BA.ae.ext i).four,(BB.ae.ext i).four⟩|with_reducible exact⟨(BA.ae.ext rJ).four,(BB.ae.ext rJ).four⟩|with_reducible exact⟨((BA.ae.ext rJ).qf (CK _) _ _ _ _).four,((BB.ae.ext rJ).qf (Cm _) _ _ _ _).four⟩)
   (first
     |(go_at_call 78;(with_reducible show Calls _ _ #[Value.agg #[Value.bool ba,_],_] _ _);refine(pY _ _ p.num q.den _ (HA.ext av3) (HD.ext av3) FA FD).mono ?_;rintro e w3 ⟨v3,rfl,hv3,hx3⟩;have c:=(aB w2).drew.trans hx3)
     |(go_at_call 78;(with_reducible show Calls _ _ #[Value.agg #[Value.bool bc,_],_] _ _);refine(pY _ _ q.num p.den _ (HC.ext awO) (HB.ext awO) FC FB).mono ?_;rintro e w4 ⟨v4,rfl,hv4,g_⟩;have j:=c.trans g_)
     |(go_at_call 76;refine(Ma _ _ _ _ _ (hv3.ext (by exact g_)) hv4 F1 F2).mono ?_;rintro e E ⟨H,rfl,r,m⟩;have b:=j.trans m)
     |(go_at_call 78;(with_reducible show Calls _ _ #[Value.agg #[Value.bool bb,_],_] _ _);refine(pY _ _ p.den q.den _ (HB.ext av0) (HD.ext av0) FB FD).mono ?_;rintro e D ⟨G,rfl,o,k⟩;have i:=b.trans k)
     |(go_at_call 77;refine(My _ _ _ _ _ (r.ext (by exact k)) o F4 F3 B).mono ?_;rintro e C ⟨F,rfl,n,l⟩;have rJ:=i.trans l;obtain⟨r0,R0,r1,r2,s0,S0,s1,s2,rfl,jO,iD⟩:=(n).parts;have jC:=af (BR.ext rJ);obtain⟨k0,k1,k2,k3⟩:=jC.four;obtain⟨f0,f1,f2,f3⟩:=jC.eX))
  all_goals
   exact aeV):=h
def q24.afB(h:aq:=by
 by_cases et:p.den=1
 ·open q25 in exact m93
 ·have iN:=decide_eq_false et;clear et;have BA:=z8;have BB:=zZ;have BR:=tW;have HX:=bQ;obtain⟨a0,a1,a2,a3⟩:=BA.four;go_wp2_with fail
  go_region_held3 (fun f=>(aA f w.heap.size 0 (.bool ba)/\aA f w.heap.size 1 (.slice Aa na ca)/\aA f w.heap.size 2 (.bool bb)/\aA f w.heap.size 3 (.slice Ab nb cb))/\aA f (w.heap.size+1) 0 (.bool bc)/\aA f (w.heap.size+1) 1 (.slice Ac nc cc)/\aA f (w.heap.size+1) 2 (.bool bd)/\aA f (w.heap.size+1) 3 (.slice Ad nd cd)) (first|with_reducible exact⟨⟨a0,a1,a2,a3⟩,b0,b1,b2,b3⟩|with_reducible exact⟨BA.ae.drew.four,BB.ae.drew.four⟩|with_reducible exact⟨(BA.ae.ext c).four,(BB.ae.ext c).four⟩|with_reducible exact⟨(BA.ae.ext j).four,(BB.ae.ext j).four⟩|with_reducible exact⟨(BA.ae.ext b).four,(BB.ae.ext b).four⟩|with_reducible exact⟨(BA.ae.ext i).four,(BB.ae.ext i).four⟩|with_reducible exact⟨(BA.ae.ext rJ).four,(BB.ae.ext rJ).four⟩|with_reducible exact⟨((BA.ae.ext rJ).qf (CK _) _ _ _ _).four,((BB.ae.ext rJ).qf (Cm _) _ _ _ _).four⟩)
   (first
     |(go_at_call 78;(with_reducible show Calls _ _ #[Value.agg #[Value.bool ba,_],_] _ _);refine(pY _ _ p.num q.den _ (HA.ext av3) (HD.ext av3) FA FD).mono ?_;rintro e w3 ⟨v3,rfl,hv3,hx3⟩;have c:=(aB w1).drew.trans hx3)
     |(go_at_call 78;(with_reducible show Calls _ _ #[Value.agg #[Value.bool bc,_],_] _ _);refine(pY _ _ q.num p.den _ (HC.ext awO) (HB.ext awO) FC FB).mono ?_;rintro e w4 ⟨v4,rfl,hv4,g_⟩;have j:=c.trans g_)
     |(go_at_call 76;refine(Ma _ _ _ _ _ (hv3.ext (by exact g_)) hv4 F1 F2).mono ?_;rintro e E ⟨H,rfl,r,m⟩;have b:=j.trans m)
     |(go_at_call 78;(with_reducible show Calls _ _ #[Value.agg #[Value.bool bb,_],_] _ _);refine(pY _ _ p.den q.den _ (HB.ext av0) (HD.ext av0) FB FD).mono ?_;rintro e D ⟨G,rfl,o,k⟩;have i:=b.trans k)
     |(go_at_call 77;refine(My _ _ _ _ _ (r.ext (by exact k)) o F4 F3 B).mono ?_;rintro e C ⟨F,rfl,n,l⟩;have rJ:=i.trans l;obtain⟨r0,R0,r1,r2,s0,S0,s1,s2,rfl,jO,iD⟩:=(n).parts;have jC:=af (BR.ext rJ);obtain⟨k0,k1,k2,k3⟩:=jC.four;obtain⟨f0,f1,f2,f3⟩:=jC.eX))
  all_goals
   exact aeV):=h
def q23.NQ(h:aq:=by have F4:=af (fa.Ur fb A);have B:=af (LZ (ug p) (ug q));clear ha hb fa fb A;go_enter func29,ntmps29;open q24 in exact ae'):=h
def acC(y x:Value)(p q:Rat)(w:au)(ha:bX w y p)(hb:bX w x q)(fa:bF a p)(fb:bF e q)(A:a+e+1<=1000000):
 Calls prog 29 #[y,x] w fun e f=>∃z,e= .returned z/\bX f z (p+q)/\Ext w f:=by
 have HVA:=af ha;have HVB:=af hb;have XM:=af (And.intro fa (show a<=1000000 by omega));have XL:=af (And.intro fb (show e<=1000000 by omega));open q23 in exact m20
end Go.Proofs.YtadbchhdjbghkaaGreatDoor
