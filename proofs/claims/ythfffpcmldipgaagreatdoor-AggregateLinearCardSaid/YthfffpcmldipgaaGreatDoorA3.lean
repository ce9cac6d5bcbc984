/- Texts of the proof, part 3. -/
import Derived.Test.YthfffpcmldipgaaGreatDoorA2
namespace Go.Proofs.YthfffpcmldipgaaGreatDoor
set_option maxHeartbeats 8000000
set_option linter.all false
set_option maxRecDepth 100000
variable{ai:Prop}
open Go.RowKit Go.Lib Go.Maps Go.ChangeShapes Go.WideShapes Go.ChangeAt Go.Proofs.Tryz
variable{a b c d e f g h:Nat}{i j k l:List Nat}{m n o:World}{p q r s:Value}{t u v:List Value}{w x:TypeId}{y z:Nat→Option Nat}{A:Nat→List Nat}{B C:Int}{E F:Option Addr}{H I:Rat}{J:Nat→Nat}{K:Nat→Bool}{L:List Int}{N:Array Bool}{O:Option Nat}{Q:Act}{R S:Bool}{T:List UInt8}
def cH(w:au)(v:Value)(z:Int):Prop:=∃s,v= .agg #[.bool (decide (z<0)),s]/\eU w s z.natAbs
def cH.ext{w':au}(h:cH m p B)(a:Ext m w'):cH w' p B:=by obtain⟨s,rfl,b⟩:=h;exact⟨s,rfl,b.ext a⟩
def cH.keep(h:cH m p B)(a:Kept 249 m n):cH n p B:=by obtain⟨s,rfl,b⟩:=h;exact⟨s,rfl,b.keep a⟩
def cH.mk'{z:Int}(a:R=decide (z<0))(h:eU m p z.natAbs):cH m (.agg #[.bool R,p]) z:=⟨p,by rw[a],h⟩
def cH.parts(h:cH m p B):∃b A n c,p= .agg #[.bool b,.slice A n c]/\ah (cH m (.agg #[.bool b,.slice A n c]) B):=by obtain⟨s,rfl,A,c,rfl,d,a⟩:=h;exact⟨_,A,_,c,rfl,⟨_,rfl,A,c,rfl,d,a⟩⟩
def cH.inv(h:cH m (.agg #[.bool R,p]) B):R=decide (B<0)/\eU m p B.natAbs:=by obtain⟨c,e,a⟩:=h;simp at e;obtain⟨rfl,rfl⟩:=e;exact⟨rfl,a⟩
def signed(a:Bool)(n:Nat):Int:=if a then -(n:Int) else n
def GW(a:Bool)(n:Nat):(signed a n).natAbs=n:=by unfold signed;split<;>simp
def Uk(a:Bool)(n:Nat):decide (signed a n<0)=(a&&decide (0<n)):=by
 unfold signed;cases a
 ·simp
 ·simp
def s6(b:Bool)(s:Value)(n:Nat)(w:au)(k:eU w s n)(l:Fit n):
 Calls prog 189 #[.bool b,s] w fun e f=>∃v,e= .returned v/\cH f v (signed b n)/\Ext w f:=by
 obtain⟨A,c,rfl,i,d⟩:=k;have a:decide (0<(a_ n).length)=decide (0<n):=(by exact agS)
 have m:=af a;have j:=af d;unfold Fit at l;clear a d;cases b
 ·go_enter func189,ntmps189;go_wp2;refine bodyPost_ret (v:= .agg #[.bool false,.slice A (a_ n).length c]) (by simp [results,results189,go_sem]) rfl ⟨_,rfl,.mk' ?_ ?_,(aC w).alloc _⟩
  ·rw[Uk];rfl
  ·rw[GW];exact⟨A,c,rfl,i,j.ext ((aC w).alloc _)⟩
 ·go_enter func189,ntmps189;go_wp2;refine bodyPost_ret (v:= .agg #[.bool (decide (0<(a_ n).length)),.slice A (a_ n).length c]) (by simp [results,results189,go_sem]) rfl ⟨_,rfl,.mk' ?_ ?_,(aC w).alloc _⟩
  ·rw[Uk,m.ae];rfl
  ·rw[GW];exact⟨A,c,rfl,i,j.ext ((aC w).alloc _)⟩
def cM(z:Int):Prop:=∃e,e<=1000000/\z.natAbs<10^e
def cM.fit(h:cM B):Fit B.natAbs:=by obtain⟨e,b,a⟩:=h;exact KD a Om
def alG(h:a<10^c)(f:b<10^d):a+b<10^(c+d+1):=by have j:10^c<=10^(c+d):=gM Od Om;have i:10^d<=10^(c+d):=gM Od Om;rw[fJ];omega
def xR(h:a<10^c)(f:b<10^d):a*b<10^(c+d):=by rw[rO];exact Nat.mul_lt_mul'' h f
def cM.V5(b:cM B)(a:cM C):Fit (B.natAbs+C.natAbs):=by obtain⟨d,f,b⟩:=b;obtain⟨e,c,a⟩:=a;exact KD (alG b a) Om
def cM.arj(b:cM B)(a:cM C):Fit (B.natAbs*C.natAbs):=by obtain⟨d,f,b⟩:=b;obtain⟨e,c,a⟩:=a;exact KD (xR b a) Om
def cM.le(a:cM B)(h:C.natAbs<=B.natAbs):cM C:=by obtain⟨d,b,a⟩:=a;exact⟨d,b,by omega⟩
def eJ(z:Int):Prop:=Fit z.natAbs
def cM.sub(b:cM B)(a:cM C):eJ (B - C):=(b.V5 a).le Om
def cM.wide(a:cM B):eJ B:=a.fit
def cM.neg(a:cM B):cM (-B):=a.le Ou
def T2(v:Value)(z:Int)(w:au)(h:cH w v z)(i:eJ z):
 Calls prog 146 #[v] w fun e f=>e= .returned (av z.sign)/\Ext w f:=by
 obtain⟨s,rfl,A,c,rfl,k,j⟩:=h;unfold eJ Fit at i;rcases Tm z 0 with a|a|a
 ·have d:decide (z<0)=true:=decide_eq_true a;have HS:=af (N2 a);exact agI
 ·subst a;have d:decide ((0:Int)<0)=false:=rfl;have b:(a_ (0:Int).natAbs).length=0:=rfl;rw[b] at*;go_enter func146,ntmps146;go_wp2;go_ret;exact⟨rfl,(aC w).alloc _⟩
 ·have d:decide (z<0)=false:=aW;have HS:=af (Dx a);have b:0<(a_ z.natAbs).length:=by
   rcases i7 (a_ z.natAbs).length with h|h
   ·have:=uH.1 (lH h);omega
   ·exact h
  exact agI
def alz(z:Int):signed (!decide (z<0)) z.natAbs= -z:=by
 unfold signed;by_cases h:z<0
 ·simp [h];omega
 ·simp [h];omega
def alv(v:Value)(z:Int)(w:au)(h:cH w v z)(x:cM z):
 Calls prog 194 #[v] w fun e q=>∃r,e= .returned r/\cH q r (-z)/\Ext w q:=by
 obtain⟨b,A,n,c,rfl,H⟩:=h.parts;have y:=af x.fit;go_enter func194,ntmps194;go_wp2_with fail
 have f:Ext w ((w.alloc (Obj.cells #[Value.bool b,Value.slice A n c] 126)).alloc (Obj.cells #[Value.bool false,Value.slice none 0 0] 126)):=((aC w).alloc _).alloc _;have m:=kq (w.alloc (Obj.cells #[Value.bool b,Value.slice A n c] 126)) 126 [.bool false,.slice none 0 0];refine(s6 (!b) _ z.natAbs _ (H.inv.2.ext f) y).mono ?_;rintro e p ⟨s,rfl,j,d⟩;have i:cH p s (-z):=by rw[<-alz,<-H.inv.1];exact j
 obtain⟨E,F,C,D,rfl,B⟩:=i.parts;have a:ah (ar p (w.heap.size+1) 126 [.bool false,.slice none 0 0]):=(by have:=m.ext d;rw[show(w.alloc (Obj.cells #[Value.bool b,Value.slice A n c] 126)).heap.size=w.heap.size+1 by simp] at this;exact this)
 have o:=af (f.trans d);have l:=a.aD 0;have k:=a.aD 1;have u:=a.frozen 0;have t:=a.frozen 1;go_wp2;refine bodyPost_ret (by simp [results,results194,go_sem,l,k]) rfl ⟨_,rfl,B.keep (a.rZ Od _ _ _ _),(o.setCell Ou _).setCell Ou _⟩
abbrev dC:TypeId:=126
def ar.agc(w:au)(t:TypeId)(l:List Value)(g:Nat)(a:g=w.heap.size):ar (w.alloc (.cells l.toArray t)) g t l:=by subst a;exact kq w t l
def mm:=@ar.agc
def x_{j:Func}{g:Nat}{d:Ending->World->Prop}{x0 x1:Value}(e:j.results= #[.cell a dC])(l:Q.tmps.getD a undef=aJ g 0)(o:Q.defers= [])
 (i:ar n g dC [x0,x1]) (q:cH n (.agg #[.bool R,.slice E b c]) B) (k:Ext m n) (h:m.heap.size<=g) (p:∀v W',cH W' v B->Ext m W'->d (.returned v) W'):
 bodyPost prog j d .ret Q ((n.setCell (aB g 0) (.bool R)).setCell (aB g 1) (.slice E b c)):=by
 have f:=(i.bu 0 (.bool R)).bu 1 (.slice E b c);exact bodyPost_ret (results_cell_row e Q.tmps _ g dC #[.bool R,.slice E b c] (0,0) _ l f underlying126 rfl Ok) o (p _ _ (q.keep (i.rZ Od _ _ _ _)) ((k.setCell h _).setCell h _))
def abP(f d:Value)(a b:Nat)(w:au)(o:eU w f a)(n:eU w d b)(q:Fit a)(p:Fit b):
 Calls prog 191 #[f,d] w fun e w'=>∃i,e= .returned i/\eU w' i (a+b)/\Ext w w':=by
 obtain⟨v,t,rfl,m,k⟩:=o;obtain⟨u,s,rfl,l,j⟩:=n;unfold Fit at q p;refine(arz v u t s (a_ a) (a_ b) w Om Om (df a).1 (df b).1 k j).mono ?_;exact Xd
structure lQ(W:au)(g:Nat)(x0 x1 y0 y1 z0 z1:Value):Prop where
 a:ar W g dC [x0,x1]
 b:ar W (g+1) dC [y0,y1]
 r:ar W (g+1+1) dC [z0,z1]
def lQ.new(w:au)(x0 x1 y0 y1 z0 z1:Value):lQ (((w.alloc (Obj.cells #[x0,x1] dC)).alloc (Obj.cells #[y0,y1] dC)).alloc (Obj.cells #[z0,z1] dC)) w.heap.size x0 x1 y0 y1 z0 z1:=
 ⟨((mm w dC [x0,x1] _ rfl).alloc _).alloc _,(mm (w.alloc (Obj.cells #[x0,x1] dC)) dC [y0,y1] _ Ou).alloc _,mm ((w.alloc (Obj.cells #[x0,x1] dC)).alloc (Obj.cells #[y0,y1] dC)) dC [z0,z1] _ Ou⟩
section
variable{W W':au}{g:Nat}{x0 x1 y0 y1 z0 z1:Value}
theorem lQ.ext(h:lQ W g x0 x1 y0 y1 z0 z1)(c:Ext W W'):lQ W' g x0 x1 y0 y1 z0 z1:=⟨h.a.ext c,h.b.ext c,h.r.ext c⟩
theorem lQ.drew(h:lQ W g x0 x1 y0 y1 z0 z1):lQ W.drew g x0 x1 y0 y1 z0 z1:=⟨h.a,h.b,h.r⟩
theorem lQ.drewN(h:lQ W g x0 x1 y0 y1 z0 z1)(n:Nat):lQ (W.drewN n) g x0 x1 y0 y1 z0 z1:=⟨h.a,h.b,h.r⟩
theorem lQ.put(h:lQ W g x0 x1 y0 y1 z0 z1)(u v:Value):lQ ((W.setCell (aB (g+1+1) 0) u).setCell (aB (g+1+1) 1) v) g x0 x1 y0 y1 u v:=
 ⟨(h.a.far azP u).far azP v,(h.b.far azI u).far azI v,(h.r.bu 0 u).bu 1 v⟩
theorem lQ.cells(h:lQ W g x0 x1 y0 y1 z0 z1):ay W g 0 x0/\ay W g 1 x1/\ay W (g+1) 0 y0/\ay W (g+1) 1 y1:=
 ⟨h.a.cell rfl,h.a.cell rfl,h.b.cell rfl,h.b.cell rfl⟩
theorem lQ.res(h:lQ W g x0 x1 y0 y1 z0 z1):ay W (g+1+1) 0 z0/\ay W (g+1+1) 1 z1/\W.frozen? (aB (g+1+1) 0)=false/\W.frozen? (aB (g+1+1) 1)=false:=
 ⟨h.r.cell rfl,h.r.cell rfl,h.r.frozen 0,h.r.frozen 1⟩
end
def aaK(h:decide (B<0)=decide (C<0)):signed (decide (B<0)) (B.natAbs+C.natAbs)=B+C:=by unfold signed;by_cases a:B<0<;>simp [a] at h⊢<;>omega
def OA(h:decide (B<0)≠decide (C<0))(b:C.natAbs<=B.natAbs):signed (decide (B<0)) (B.natAbs - C.natAbs)=B+C:=by unfold signed;by_cases a:B<0<;>simp [a] at h⊢<;>omega
def q2.IH(h:ai:=by
 obtain⟨K,J,I,G⟩:=H0.cells;go_region_held3 (fun a=>ay a w.heap.size 0 (.bool ba)/\ay a w.heap.size 1 (.slice Aa na ca)/\ay a (w.heap.size+1) 0 (.bool bb)/\ay a (w.heap.size+1) 1 (.slice Ab nb cb)) (first|exact⟨K,J,I,G⟩|exact(H0.drew.ext b).cells|exact i.cells|exact(i.put _ _).cells)
  (first
    |(go_at_call 191;refine(abP _ _ x.natAbs y.natAbs _ (m.inv.2.ext ay6) (s.inv.2.ext ay6) u.fit t.fit).mono ?_;rintro e M ⟨z,rfl,j,b⟩)
    |(go_at_call 189;refine(s6 ba z (x.natAbs+y.natAbs) _ j (u.V5 t)).mono ?_;rintro e L ⟨N,rfl,f,d⟩;obtain⟨T,U,O,H,rfl,l⟩:=f.parts;have i:=af (H0.drew.ext (b.trans d));obtain⟨S,R,Q,P⟩:=i.res;clear f))
 go_wp2;refine x_ rfl rfl rfl i.r l (bh.drew.trans (b.trans d)) Om (fun v W' q D=>⟨v,rfl,?_,D⟩);rw[m.inv.1,aaK k.ae] at q;exact q):=h
def aky(o n:Value)(x y:Int)(w:au)(C:cH w o x)(B:cH w n y)(F:cM x)(E:cM y)(c:decide (x<0)=decide (y<0)):
 Calls prog 143 #[o,n] w fun e a=>∃p,e= .returned p/\cH a p (x+y)/\Ext w a:=by
 obtain⟨ba,Aa,na,ca,rfl,m⟩:=C.parts;obtain⟨bb,Ab,nb,cb,rfl,s⟩:=B.parts;have A:(ba==bb)=true:=by rw[m.inv.1,s.inv.1,c];simp
 have k:=af c;have u:=af F;have t:=af E;go_enter func143,ntmps143;open q2 in exact m11
def Un(i f:Value)(a b:Nat)(w:au)(p:eU w i a)(o:eU w f b)(s:Fit a)(q:Fit b)(d:b<=a):
 Calls prog 193 #[i,f] w fun e w'=>∃j,e= .returned j/\eU w' j (a - b)/\Ext w w':=by
 obtain⟨x,u,rfl,n,l⟩:=p;obtain⟨v,t,rfl,m,k⟩:=o;unfold Fit at s q;refine(aqs x v u t (a_ a) (a_ b) w Om Om (df a) (df b) (by rw[dm,dm];exact d) l k).mono ?_;exact Xd
def alB(f d:Value)(a b:Nat)(w:au)(o:eU w f a)(n:eU w d b)(q:Fit a)(p:Fit b):
 Calls prog 197 #[f,d] w fun e w'=>∃i,e= .returned i/\eU w' i (a*b)/\Ext w w':=by
 obtain⟨v,t,rfl,m,k⟩:=o;obtain⟨u,s,rfl,l,j⟩:=n;unfold Fit at q p;refine(VV v u t s (a_ a) (a_ b) w Om Om (df a).1 (df b).1 k j).mono ?_;exact Xd
def abO(d c:Value)(a b:Nat)(w:au)(m:eU w d a)(l:eU w c b)(p:Fit a)(o:Fit b):
 Calls prog 192 #[d,c] w fun e f=>e= .returned (av (ew a b))/\∃n,f=w.drewN n:=by
 obtain⟨t,r,rfl,k,i⟩:=m;obtain⟨s,q,rfl,j,h⟩:=l;unfold Fit at p o;have:=OT t s r q (a_ a) (a_ b) w Om Om (df a) (df b) i h;rwa[dm,dm] at this
def q4.IH(h:ai:=by
 refine(abO _ _ x.natAbs y.natAbs W (HA.inv.2.ext bh) (HB.inv.2.ext bh) FX.fit FY.fit).mono ?_;rintro e a ⟨rfl,j,rfl⟩;have B:decide ((0:Int)<=ew x.natAbs y.natAbs)=true:=by unfold ew;rw[if_neg Om];split<;>rfl
 have f:=af l;have bh:=af (bh.drewN j);have H0:=af (H0.drewN j);generalize ew x.natAbs y.natAbs=M at*;generalize W.drewN j=W at*;obtain⟨z,u,t,s⟩:=H0.cells;go_wp2_with fail
 obtain⟨z,u,t,s⟩:=H0.cells;go_region_held3 (fun a=>ay a w.heap.size 0 (.bool ba)/\ay a w.heap.size 1 (.slice Aa na ca)/\ay a (w.heap.size+1) 0 (.bool bb)/\ay a (w.heap.size+1) 1 (.slice Ab nb cb)) (first|exact⟨z,u,t,s⟩|exact(H0.drew.ext b).cells|exact i.cells|exact(i.put _ _).cells)
  (first
    |(go_at_call 193;refine(Un _ _ x.natAbs y.natAbs _ (HA.inv.2.ext ay6) (HB.inv.2.ext ay6) FX.fit FY.fit f).mono ?_;rintro e F ⟨A,rfl,k,b⟩)
    |(go_at_call 189;refine(s6 ba A (x.natAbs - y.natAbs) _ k (FX.fit.le Om)).mono ?_;rintro e E ⟨G,rfl,d,c⟩;obtain⟨N,O,H,D,rfl,m⟩:=d.parts;have i:=af (H0.drew.ext (b.trans c));obtain⟨L,K,J,I⟩:=i.res;clear d))
 go_wp2;refine x_ rfl rfl rfl i.r m (bh.drew.trans (b.trans c)) Om (fun v W' q C=>⟨v,rfl,?_,C⟩);rw[HA.inv.1,OA MU.ae f.ae] at q;exact q):=h
def q3.ahC(h:ai:=by open q4 in exact m11):=h
def anq(o n:Value)(x y:Int)(w:au)(ha:cH w o x)(hb:cH w n y)(fx:cM x)(fy:cM y)(wQ:decide (x<0)≠decide (y<0))(l:y.natAbs<=x.natAbs):
 Calls prog 143 #[o,n] w fun e a=>∃p,e= .returned p/\cH a p (x+y)/\Ext w a:=by
 open q3 in exact agL
def q6.IH(h:ai:=by
 refine(abO _ _ x.natAbs y.natAbs W (HA.inv.2.ext bh) (HB.inv.2.ext bh) FX.fit FY.fit).mono ?_;rintro e a ⟨rfl,k,rfl⟩;have B:decide ((0:Int)<=ew x.natAbs y.natAbs)=false:=by rw[Er f];rfl
 have i:=af f;have bh:=af (bh.drewN k);have H0:=af (H0.drewN k);generalize ew x.natAbs y.natAbs=M at*;generalize W.drewN k=W at*;obtain⟨z,u,t,s⟩:=H0.cells;go_wp2_with fail
 obtain⟨z,u,t,s⟩:=H0.cells;go_region_held3 (fun a=>ay a w.heap.size 0 (.bool ba)/\ay a w.heap.size 1 (.slice Aa na ca)/\ay a (w.heap.size+1) 0 (.bool bb)/\ay a (w.heap.size+1) 1 (.slice Ab nb cb)) (first|exact⟨z,u,t,s⟩|exact(H0.drew.ext b).cells|exact j.cells|exact(j.put _ _).cells)
  (first
    |(go_at_call 193;refine(Un _ _ y.natAbs x.natAbs _ (HB.inv.2.ext ay6) (HA.inv.2.ext ay6) FY.fit FX.fit (qI i)).mono ?_;rintro e F ⟨A,rfl,l,b⟩)
    |(go_at_call 189;refine(s6 bb A (y.natAbs - x.natAbs) _ l (FY.fit.le Om)).mono ?_;rintro e E ⟨G,rfl,d,c⟩;obtain⟨N,O,H,D,rfl,m⟩:=d.parts;have j:=af (H0.drew.ext (b.trans c));obtain⟨L,K,J,I⟩:=j.res;clear d))
 go_wp2;refine x_ rfl rfl rfl j.r m (bh.drew.trans (b.trans c)) Om (fun v W' q C=>⟨v,rfl,?_,C⟩);rw[HB.inv.1,OA (fM MU) (qI i),TS] at q;exact q):=h
def q5.ahC(h:ai:=by open q6 in exact m11):=h
def anp(o n:Value)(x y:Int)(w:au)(ha:cH w o x)(hb:cH w n y)(fx:cM x)(fy:cM y)(wQ:decide (x<0)≠decide (y<0))(f:x.natAbs<y.natAbs):
 Calls prog 143 #[o,n] w fun e a=>∃p,e= .returned p/\cH a p (x+y)/\Ext w a:=by
 open q5 in exact agL
def O2(b a:Value)(x y:Int)(w:au)(f:cH w b x)(d:cH w a y)(j:cM x)(i:cM y):
 Calls prog 143 #[b,a] w fun e k=>∃l,e= .returned l/\cH k l (x+y)/\Ext w k:=by
 by_cases h:decide (x<0)=decide (y<0)
 ·exact aky b a x y w f d j i h
 ·rcases cA x.natAbs y.natAbs with c|c
  ·exact anp b a x y w f d j i h c
  ·exact anq b a x y w f d j i h c
def abS(x y:Int):signed (decide (x<0) !=decide (y<0)) (x.natAbs*y.natAbs)=x*y:=by
 unfold signed;rw[mM];by_cases d:x<0
 ·have c:(x.natAbs:Int)= -x:=Om;by_cases b:y<0
  ·have a:(y.natAbs:Int)= -y:=Om;simp [d,b,c,a,Int.neg_mul_neg]
  ·have a:(y.natAbs:Int)=y:=Om;simp [d,b,c,a,Int.neg_mul]
 ·have c:(x.natAbs:Int)=x:=Om;by_cases b:y<0
  ·have a:(y.natAbs:Int)= -y:=Om;simp [d,b,c,a,Int.mul_neg]
  ·have a:(y.natAbs:Int)=y:=Om;simp [d,b,c,a]
def q8.IH(h:ai:=by
 obtain⟨u,t,s,p⟩:=H0.cells;go_region_held3 (fun b=>ay b w.heap.size 0 (.bool ba)/\ay b w.heap.size 1 (.slice Aa na ca)/\ay b (w.heap.size+1) 0 (.bool bb)/\ay b (w.heap.size+1) 1 (.slice Ab nb cb)) (first|exact⟨u,t,s,p⟩|exact(H0.drew.ext a).cells|exact f.cells|exact(f.put _ _).cells)
  (first
    |(go_at_call 194;refine(alv _ y _ (HB.ext ay6) FY).mono ?_;rintro e A ⟨C,rfl,i,a⟩)
    |(go_at_call 143;refine(O2 _ _ x (-y) _ (HA.ext (by exact bh.drew.trans a)) i FX FY.neg).mono ?_;rintro e z ⟨B,rfl,d,c⟩;obtain⟨I,J,D,q,rfl,j⟩:=d.parts;have f:=af (H0.drew.ext (a.trans c));obtain⟨H,G,F,E⟩:=f.res;clear d))
 go_wp2;refine x_ rfl rfl rfl f.r j (bh.drew.trans (a.trans c)) Om (fun v W' o n=>⟨v,rfl,?_,n⟩);rw[aaz];exact o):=h
def q7.yx(h:ai:=by go_enter func228,ntmps228;open q8 in exact m11):=h
def alu(l k:Value)(x y:Int)(w:au)(ha:cH w l x)(hb:cH w k y)(fx:cM x)(fy:cM y):
 Calls prog 228 #[l,k] w fun e b=>∃m,e= .returned m/\cH b m (x - y)/\Ext w b:=by
 open q7 in exact yu
def q10.IH(h:ai:=by
 obtain⟨z,u,t,q⟩:=H0.cells;go_region_held3 (fun a=>ay a w.heap.size 0 (.bool ba)/\ay a w.heap.size 1 (.slice Aa na ca)/\ay a (w.heap.size+1) 0 (.bool bb)/\ay a (w.heap.size+1) 1 (.slice Ab nb cb)) (first|exact⟨z,u,t,q⟩|exact(H0.drew.ext b).cells|exact f.cells|exact(f.put _ _).cells)
  (first
    |(go_at_call 197;refine(alB _ _ x.natAbs y.natAbs _ (HA.inv.2.ext ay6) (HB.inv.2.ext ay6) FX.fit FY.fit).mono ?_;rintro e B ⟨o,rfl,i,b⟩)
    |(go_at_call 189;refine(s6 (ba !=bb) o (x.natAbs*y.natAbs) _ i (FX.arj FY)).mono ?_;rintro e A ⟨C,rfl,d,c⟩;obtain⟨I,J,D,s,rfl,j⟩:=d.parts;have f:=af (H0.drew.ext (b.trans c));obtain⟨H,G,F,E⟩:=f.res;clear d))
 go_wp2;refine x_ rfl rfl rfl f.r j (bh.drew.trans (b.trans c)) Om (fun v W' n p=>⟨v,rfl,?_,p⟩);rw[HA.inv.1,HB.inv.1,abS] at n;exact n):=h
def q9.yx(h:ai:=by go_enter func145,ntmps145;open q10 in exact m11):=h
def rQ(l k:Value)(x y:Int)(w:au)(ha:cH w l x)(hb:cH w k y)(fx:cM x)(fy:cM y):
 Calls prog 145 #[l,k] w fun e a=>∃m,e= .returned m/\cH a m (x*y)/\Ext w a:=by
 open q9 in exact yu
def E2.IH(h:ai:=by
 refine(ara _ _ x.natAbs y.natAbs W FX.fit FY.fit (HA.inv.2.ext bh) (HB.inv.2.ext bh)).mono ?_;rintro e q ⟨s,rfl,d,b⟩;have f:Fit (Nat.gcd x.natAbs y.natAbs):=by
  rcases i7 x.natAbs with i|i
  ·rw[i,Nat.gcd_zero_left];exact FY.fit
  ·exact FX.fit.le (Nat.gcd_le_left _ i)
 go_wp2_with fail
 refine(s6 false s (Nat.gcd x.natAbs y.natAbs) q d f).mono ?_;rintro e A ⟨B,rfl,c,a⟩;obtain⟨H,I,C,z,rfl,k⟩:=c.parts;have p:=af (H0.ext (b.trans a));obtain⟨G,F,E,D⟩:=p.res;have j:=af (bh.trans (b.trans a));go_wp2;exact x_ rfl rfl rfl p.r k j Om (fun v W' u t=>⟨v,rfl,u,t⟩)):=h
def q11.yx(h:ai:=by go_enter func195,ntmps195;open E2 in exact m11):=h
def abM(n m:Value)(x y:Int)(w:au)(ha:cH w n x)(hb:cH w m y)(fx:cM x)(fy:cM y):
 Calls prog 195 #[n,m] w fun e l=>∃o,e= .returned o/\cH l o (Int.gcd x y:Nat)/\Ext w l:=by
 open q11 in exact yu
def q13.yx(h:ai:=by
 go_enter func176,ntmps176;go_wp2_with fail;have a:ah (Ext w ((w.alloc (Obj.cells #[Value.bool ba,Value.slice Aa na ca] dC)).alloc (Obj.cells #[Value.bool bb,Value.slice Ab nb cb] dC))):=((aC w).alloc _).alloc _;generalize(w.alloc (Obj.cells #[Value.bool ba,Value.slice Aa na ca] dC)).alloc (Obj.cells #[Value.bool bb,Value.slice Ab nb cb] dC)=W at*;refine(alu _ _ x y W (HA.ext a) (HB.ext a) FX FY).mono ?_;rintro e k ⟨m,rfl,d,c⟩;have f:=FX.sub FY;go_wp2_with fail
 refine(T2 m (x - y) k d f).mono ?_;rintro e n ⟨rfl,b⟩;go_wp2;go_ret;exact⟨rfl,a.trans (c.trans b)⟩):=h
def J9(j i:Value)(x y:Int)(w:au)(ha:cH w j x)(hb:cH w i y)(fx:cM x)(fy:cM y):
 Calls prog 176 #[j,i] w fun e l=>e= .returned (av (x - y).sign)/\Ext w l:=by
 open q13 in exact yu
def akm(u:Nat)(a:u<18446744073709551616):bM [u%B9,u/B9%B9,u/B9/B9]/\val [u%B9,u/B9%B9,u/B9/B9]=u:=by refine⟨tj (fg _ Od) (tj (fg _ Od) (tj ay1 kJ)),?_⟩;simp only[nJ,H7];unfold B9;omega
def Sl.agc(w:au)(t:TypeId)(a:Array Value)(g:Nat)(b:g=w.heap.size):Sl (w.alloc (.cells a t)) t (cT g 0) a.toList:=by subst b;exact Sl.new w t a
def La(z:Int)(w:au)(n: -9223372036854775808<=z)(h1:z<=9223372036854775807):
 Calls prog 142 #[av z] w fun e w'=>∃c,e= .returned c/\cH w' c z/\Ext w w':=by
 obtain⟨u,hu⟩:∃u,u=z.natAbs:=⟨_,rfl⟩;have f:u<=9223372036854775808:=Om;have i:=akm u Om;have HL:=af i;have o:=af hu;have a:Fit u:=KD (e:=20) Om Om;have HF:=af a;have b:signed (decide (z<0)) u=z:=by unfold signed;by_cases h:z<0<;>simp [h]<;>omega
 have FW:=af b;clear i a b;have l:(u:Int)%1000000000=((u%B9:Nat):Int):=ay1;have k:(u:Int)/1000000000%1000000000=((u/B9%B9:Nat):Int):=ay1;have j:(u:Int)/1000000000/1000000000=((u/B9/B9:Nat):Int):=ay1;have X9:=af (And.intro l (And.intro k j));clear l k j;by_cases d:z<0
 ·have hd:decide (z<0)=true:=decide_eq_true d;have m:IntKind.u64.wrap (-IntKind.u64.wrap z)=(u:Int):=by rw[k7,k7];omega
  exact m21
 ·have hd:decide (z<0)=false:=decide_eq_false d;have m:IntKind.u64.wrap z=(u:Int):=ay_;exact m21
def Qm(x y:Int)(w:au)(e:Ending)(a:au):Prop:=
 ∃q r,e= .returned (.tuple #[q,r])/\cH a q (x/y)/\cH a r (x%y)/\Ext w a
def alC(n m:Value)(a b:Nat)(w:au)(z:eU w n a)(y:eU w m b)(B:Fit a)(A:Fit b)(x:0<b):
 Calls prog 241 #[n,m] w fun e f=>∃q r,e= .returned (.tuple #[q,r])/\eU f q (a/b)/\eU f r (a%b)/\Ext w f:=by
 obtain⟨F,D,rfl,l,p⟩:=z;obtain⟨E,C,rfl,v,o⟩:=y;unfold Fit at B A;refine(Uv F E D C (a_ a) (a_ b) w Om Om (df a) (df b) l p o (by rw[Ne,uH];omega)).mono ?_;rintro e f ⟨L,H,J,K,G,I,rfl,u,t,k,j,d,c,i,h,s⟩;rw[dm,dm] at d c;exact⟨_,_,rfl,.mk' k d u i,.mk' j c t h,s⟩
def eU.parts(h:eU m p a):∃A n c,p= .slice A n c/\decide (0<n)=decide (0<a)/\n<=c/\ah (eU m (.slice A n c) a):=by
 obtain⟨A,c,rfl,b,e⟩:=h;refine⟨A,_,c,rfl,?_,b,⟨A,c,rfl,b,e⟩⟩;have d:(a_ a).length=0↔a=0:=by rw[List.length_eq_zero_iff,uH]
 by_cases h:a=0
 ·have:=d.2 h;rw[this,h]
 ·have:(a_ a).length≠0:=fun k=>h (d.1 k);rw[decide_eq_true Om,decide_eq_true Om]
def al_(i:0<C)(d:¬(B<0/\0<B.natAbs%C.natAbs)):signed (decide (B<0) !=decide (C<0)) (B.natAbs/C.natAbs)=B/C/\signed false (B.natAbs%C.natAbs)=B%C:=by
 obtain⟨b,rfl⟩:∃b:Nat,C=b:=⟨C.natAbs,by omega⟩;have e:decide ((b:Int)<0)=false:=aW;simp only[f6] at d⊢;unfold signed;by_cases c:B<0
 ·obtain⟨a,rfl⟩:∃a:Nat,B= -(a:Int):=⟨B.natAbs,by omega⟩;simp only[Tx,f6] at d⊢;have h:a%b=0:=Om;have f:(b:Int)∣(a:Int):=Int.natCast_dvd_natCast.2 (Nat.dvd_of_mod_eq_zero h);rw[e,decide_eq_true c,h];refine⟨?_,?_⟩
  ·simp only[bne,Bool.true_beq,Bool.not_false,if_true];rw[Int.neg_ediv_of_dvd f,DM]
  ·exact(Int.emod_eq_zero_of_dvd (Int.dvd_neg.2 f)).symm
 ·obtain⟨a,rfl⟩:∃a:Nat,B=(a:Int):=⟨B.natAbs,by omega⟩;rw[e,decide_eq_false c];simp only[f6];exact⟨by simp,by simp⟩
def aaR{e:Func}{p q:Tmp}(h:e.results= #[.cell p w,.cell q x])(b:Array Value){P:Program}(a:au)(g k:Nat)(u v:Value)
 (i:b.getD p undef=aJ g 0) (f:b.getD q undef=aJ k 0)
 (l:(loadVar w ⟨g,0,none⟩).run P a= .ok u a) (j:(loadVar x ⟨k,0,none⟩).run P a= .ok v a):
 (results e b).run P a= .ok (.tuple #[u,v]) a:=by
 have d:b[p]?.getD undef=aJ g 0:=by simpa using i
 have c:b[q]?.getD undef=aJ k 0:=azG;simp [results,h,d,c,asAddr,Sem.run_bind,Result.andThen,l,j]
def adY{g:Nat}(d:ar m g dC [.bool R,.slice E a b]):(loadVar dC ⟨g,0,none⟩).run prog m= .ok (.agg #[.bool R,.slice E a b]) m:=
 run_loadVar_row m g dC dC #[.bool R,.slice E a b] (0,0) _ d underlying126 rfl Ok
def aeG{z:Func}{t g:Nat}{x0 x1 y0 y1:Value}(f:z.results= #[.cell t dC,.cell a dC])(G:Q.tmps.getD t undef=aJ g 0)(k:Q.tmps.getD a undef=aJ (g+1) 0)(H:Q.defers= [])
 (v:ar n g dC [x0,x1]) (s:ar n (g+1) dC [y0,y1]) (J:cH n (.agg #[.bool R,.slice E b c]) (B/C)) (I:cH n (.agg #[.bool S,.slice F d e]) (B%C)) (D:Ext m n) (u:m.heap.size<=g):
 bodyPost prog z (Qm B C m) .ret Q ((((n.setCell (aB g 0) (.bool R)).setCell (aB g 1) (.slice E b c)).setCell (aB (g+1) 0) (.bool S)).setCell (aB (g+1) 1) (.slice F d e)):=by
 have r:ar ((n.setCell (aB g 0) (.bool R)).setCell (aB g 1) (.slice E b c)) g dC [.bool R,.slice E b c]:=(v.bu 0 (.bool R)).bu 1 (.slice E b c);have j:ar ((n.setCell (aB g 0) (.bool R)).setCell (aB g 1) (.slice E b c)) (g+1) dC [y0,y1]:=(s.far (p:=aB g 0) (by show g+1≠g;omega) _).far (p:=aB g 1) (by show g+1≠g;omega) _;have i:=v.rZ (t:=249) Od 0 1 (.bool R) (.slice E b c);have l:Ext m ((n.setCell (aB g 0) (.bool R)).setCell (aB g 1) (.slice E b c)):=(D.setCell u _).setCell u _;generalize(n.setCell (aB g 0) (.bool R)).setCell (aB g 1) (.slice E b c)=A at*;have q:ar ((A.setCell (aB (g+1) 0) (.bool S)).setCell (aB (g+1) 1) (.slice F d e)) g dC [.bool R,.slice E b c]:=(r.far (p:=aB (g+1) 0) (by show g≠g+1;omega) _).far (p:=aB (g+1) 1) (by show g≠g+1;omega) _;have o:ar ((A.setCell (aB (g+1) 0) (.bool S)).setCell (aB (g+1) 1) (.slice F d e)) (g+1) dC [.bool S,.slice F d e]:=(j.bu 0 (.bool S)).bu 1 (.slice F d e);have h:=j.rZ (t:=249) Od 0 1 (.bool S) (.slice F d e);exact bodyPost_ret (aaR f Q.tmps _ g (g+1) _ _ G k (adY q) (adY o)) H ⟨_,_,rfl,J.keep (i.trans h),I.keep (i.trans h),(l.setCell (show m.heap.size<=g+1 by omega) _).setCell (show m.heap.size<=g+1 by omega) _⟩
def q15.k17(h:ai:=by
 have s:ba=false\/ba=true/\decide (0<nr)=false:=by
  rw[HA.inv.1,Q6];have:=A.ae;by_cases h:x<0
  ·exact .inr ⟨decide_eq_true h,decide_eq_false (fun k=>this ⟨h,k⟩)⟩
  ·exact .inl (decide_eq_false h)
 clear Q6;rcases s with rfl|⟨rfl,s⟩;all_goals
  go_wp2_with fail
  refine(s6 _ _ (x.natAbs/y.natAbs) _ HQ fq).mono ?_;rintro e C ⟨E,rfl,i,b⟩;obtain⟨Q,S,G,z,rfl,m⟩:=i.parts;go_wp2_with fail;refine(s6 _ _ (x.natAbs%y.natAbs) _ (HR.ext b) fr).mono ?_;rintro e B ⟨D,rfl,f,a⟩;obtain⟨P,R,F,v,rfl,l⟩:=f.parts;have c:=af (m.ext a);have u:=af (H1.ext (b.trans a));have d:=af (H5.ext (b.trans a));have j:=af (bW.trans (b.trans a));obtain⟨O,N,M,L⟩:=u.res;have K:=d.aD 0;have J:=d.aD 1;have I:=d.frozen 0;have H:=d.frozen 1;go_wp2;exact aeG rfl rfl rfl rfl u.r d (by rw[<-HD.1];first|(rw[show(false !=bb)=bb by cases bb<;>rfl];exact c)|(rw[show(true !=bb)= !bb by cases bb<;>rfl];exact c)) (by rw[<-HD.2];exact l) j Om):=h
def q14.yx(h:ai:=by have HY:=af p;have A:=af t;have hd:=al_ p t;open q15 in exact m17):=h
def aj4(o n:Value)(x y:Int)(w:au)(ha:cH w o x)(hb:cH w n y)(fx:cM x)(fy:cM y)(p:0<y)(t:¬(x<0/\0<x.natAbs%y.natAbs)):
 Calls prog 196 #[o,n] w (Qm x y w):=by
 open q14 in exact yu
def ari:Fit 1:=KD (e:=1) Od Od
def arN(w:au):eU (w.alloc (Obj.cells #[.int .u64 1] 249)).drew (aG w.heap.size 0 1 1) 1:=
 eU.mk' ⟨tj Od kJ,by unfold ic;decide⟩ rfl Od (Sl.new w 249 #[.int .u64 1])
def ajC(k:0<C)(c:B<0/\0<B.natAbs%C.natAbs):signed (decide (B<0) !=decide (C<0)) (B.natAbs/C.natAbs+1)=B/C/\signed false (C.natAbs - B.natAbs%C.natAbs)=B%C:=by
 obtain⟨b,rfl⟩:∃b:Nat,C=b:=⟨C.natAbs,by omega⟩;obtain⟨a,rfl⟩:∃a:Nat,B= -(a:Int):=⟨B.natAbs,by omega⟩;simp only[Tx,f6] at c⊢;have e:decide ((b:Int)<0)=false:=aW;rw[e,decide_eq_true c.1];have j:=vQ a b;have i:a%b<b:=fg _ Om;have d:(-(a:Int))= -((a/b+1:Nat):Int)*(b:Int)+((b - a%b:Nat):Int):=by
  rw[Int.ofNat_sub (qI i)];have:((b*(a/b)+a%b:Nat):Int)=(a:Int):=by rw[j]
  push_cast at this⊢
  grind
 have h:(-(a:Int))/b= -((a/b+1:Nat):Int):=(by rw[d,TS,Int.add_mul_ediv_right _ _ Om,Int.ediv_eq_zero_of_lt Om Om];omega);have f:(-(a:Int))%b=((b - a%b:Nat):Int):=(by rw[d,TS,Int.add_mul_emod_self_right,Int.emod_eq_of_lt Om Om]);rw[h,f];exact⟨rfl,rfl⟩
def q17.k17(h:ai:=by
 have t:ba=true:=by rw[HA.inv.1];exact decide_eq_true L.1
 subst t;have ht:decide (0<nr)=true:=by rw[Q6];exact decide_eq_true L.2
 have s:x.natAbs%y.natAbs<=y.natAbs:=qI (fg _ aAr);have E:=af s;go_wp2_with fail
 go_region_held3 (fun G=>ay G (w.heap.size+1) 0 (.bool bb)/\ay G (w.heap.size+1) 1 (.slice Ab nb cb)) (first|exact⟨c2,c3⟩|exact(H1.ext ((aC _).alloc _)).drew.cells.2.2|exact((H1.ext ((aC _).alloc _)).drew.ext a).cells.2.2|exact((H1.ext ((aC _).alloc _)).drew.ext (a.trans d)).cells.2.2)
  (first
    |(go_at_call 191;refine(abP _ _ (x.natAbs/y.natAbs) 1 _ (HQ.ext (by exact((aC _).alloc _).drew)) (by exact arN w1) fq ari).mono ?_;rintro e S ⟨X,rfl,p,a⟩)
    |(go_at_call 193;refine(Un _ _ y.natAbs (x.natAbs%y.natAbs) _ (HB.inv.2.ext (by exact(bW.trans ((aC _).alloc _).drew).trans a)) (HR.ext (by exact((aC _).alloc _).drew.trans a)) FY.fit fr E).mono ?_;rintro e R ⟨V,rfl,o,d⟩))
 all_goals
  have f:=af (((aC w1).alloc (Obj.cells #[.int .u64 1] 249)).drew.trans (a.trans d));have D:=af (p.ext d);have C:=af o;have l:=af (H1.ext f);have F:=af (H5.ext f);have i:=af (bW.trans f);have v:ah (Fit (x.natAbs/y.natAbs+1)):=(FX.V5 FY).le (by have:=DN x.natAbs y.natAbs;have:=HY.ae;omega);have u:ah (Fit (y.natAbs - x.natAbs%y.natAbs)):=FY.fit.le (Nat.sub_le _ _);obtain⟨c0,c1,c2,c3⟩:=l.cells;go_wp2_with fail
  refine(s6 _ _ (x.natAbs/y.natAbs+1) _ D v).mono ?_;rintro e Q ⟨U,rfl,n,c⟩;obtain⟨b4,A4,Z,O,rfl,B⟩:=n.parts;go_wp2_with fail;refine(s6 _ _ (y.natAbs - x.natAbs%y.natAbs) _ (C.ext c) u).mono ?_;rintro e P ⟨T,rfl,m,b⟩;obtain⟨b5,A5,Y,N,rfl,A⟩:=m.parts;have j:=af (B.ext b);have M:=af (l.ext (c.trans b));have k:=af (F.ext (c.trans b));have z:=af (i.trans (c.trans b));obtain⟨k0,k1,k2,k3⟩:=M.res;have l0:=k.aD 0;have l1:=k.aD 1;have l2:=k.frozen 0;have l3:=k.frozen 1;go_wp2;exact aeG rfl rfl rfl rfl M.r k (by rw[<-HD.1];rw[show(true !=bb)= !bb by cases bb<;>rfl];exact j) (by rw[<-HD.2];exact A) z Om):=h
def q16.yx(h:ai:=by have HY:=af J;have L:=af K;have hd:=ajC J K;open q17 in exact m17):=h
def alx(I H:Value)(x y:Int)(w:au)(ha:cH w I x)(hb:cH w H y)(fx:cM x)(fy:cM y)(J:0<y)(K:x<0/\0<x.natAbs%y.natAbs):
 Calls prog 196 #[I,H] w (Qm x y w):=by
 open q16 in exact yu
def abN(b a:Value)(x y:Int)(w:au)(e:cH w b x)(d:cH w a y)(i:cM x)(f:cM y)(c:0<y):
 Calls prog 196 #[b,a] w (Qm x y w):=by
 by_cases h:x<0/\0<x.natAbs%y.natAbs
 ·exact alx b a x y w e d i f c h
 ·exact aj4 b a x y w e d i f c h
abbrev dI:TypeId:=128
def b_(w:au)(v:Value)(q:Rat):Prop:=∃a b c d,v= .agg #[a,b,c,d]/\cH w (.agg #[a,b]) q.num/\cH w (.agg #[c,d]) q.den
def b_.ext{w':au}(h:b_ m p H)(e:Ext m w'):b_ w' p H:=by obtain⟨a,b,c,d,rfl,i,f⟩:=h;exact⟨a,b,c,d,rfl,i.ext e,f.ext e⟩
def b_.keep(h:b_ m p H)(e:Kept 249 m n):b_ n p H:=by obtain⟨a,b,c,d,rfl,i,f⟩:=h;exact⟨a,b,c,d,rfl,i.keep e,f.keep e⟩
def b_.parts(h:b_ m p H):∃b A n c i j e f,p= .agg #[.bool b,.slice A n c,.bool i,.slice j e f]/\ah (cH m (.agg #[.bool b,.slice A n c]) H.num)/\ah (cH m (.agg #[.bool i,.slice j e f]) H.den):=by exact ahl
def b_.mk'{c:Value}(f:cH m (.agg #[p,q]) H.num)(e:cH m (.agg #[c,r]) H.den):b_ m (.agg #[p,q,c,r]) H:=⟨p,q,c,r,rfl,f,e⟩
def bS(e:Nat)(q:Rat):Prop:=q.num.natAbs<10^e/\q.den<10^e
def bS.num(h:bS e H)(a:e<=1000000):cM H.num:=⟨e,a,h.1⟩
def bS.den(h:bS e H)(a:e<=1000000):cM H.den:=⟨e,a,by simpa using h.2⟩
def bS.mono(h:bS e H)(b:e<=a):bS a H:=⟨cE h.1 (gM Od b),cE h.2 (gM Od b)⟩
def Ef:cM 1:=⟨1,by decide,by decide⟩
def amr(q:Rat):(((q.den:Int) - 1).sign==0)=decide (q.den=1):=by
 by_cases h:q.den=1
 ·rw[h];rfl
 ·rw[decide_eq_false h];have:((q.den:Int) - 1).sign≠0:=by rw[Ne,aad];omega
  simpa using this
def aP{P:World->Prop}{l:List Value}(h:∀W,ah (Ext m W)->ah (ar W m.heap.size w l)->P W):P (m.alloc (.cells l.toArray w)):=
 h _ ((aC m).alloc _) (kq m w l)
def fX{P:World->Prop}(h:∀W,ah (Ext m W)->ah (ar W m.heap.size w t)->ah (ar W (m.heap.size+1) x u)->P W):P ((m.alloc (.cells t.toArray w)).alloc (.cells u.toArray x)):=
 h _ (((aC m).alloc _).alloc _) ((kq m w t).ext ((aC _).alloc _)) (mm (m.alloc (.cells t.toArray w)) x u _ Ou)
def sf{P:World->Prop}{a:TypeId}(h:∀W,ah (Ext m W)->ah (ar W m.heap.size w t)->ah (ar W (m.heap.size+1) x u)->ah (ar W (m.heap.size+1+1) a v)->P W):P (((m.alloc (.cells t.toArray w)).alloc (.cells u.toArray x)).alloc (.cells v.toArray a)):=
 h _ ((((aC m).alloc _).alloc _).alloc _) ((kq m w t).ext (((aC _).alloc _).alloc _)) ((mm (m.alloc (.cells t.toArray w)) x u _ Ou).ext ((aC _).alloc _)) (mm ((m.alloc (.cells t.toArray w)).alloc (.cells u.toArray x)) a v _ Ou)
def ar.pL{g:Nat}(h:ar m g w t)(b:g≠a)(u0 u1 u2 u3:Value):ar ((((m.setCell (aB a 0) u0).setCell (aB a 1) u1).setCell (aB a 2) u2).setCell (aB a 3) u3) g w t:=
 (((h.far b u0).far b u1).far b u2).far b u3
def ar.pM{g k:Nat}{t:TypeId}(h:ar m g t u)(a:g≠k)(u0 u1:Value):ar ((m.setCell (aB k 0) u0).setCell (aB k 1) u1) g t u:=
 (h.far a u0).far a u1
def u_(g:Nat):g≠g+1:=Om
def B_(g:Nat):g≠g+1+1:=Om
def Bu(g:Nat):g+1≠g+1+1:=Om
def ar.four{g:Nat}(h:ar m g w [p,q,r,s]):ay m g 0 p/\ay m g 1 q/\ay m g 2 r/\ay m g 3 s:=
 ⟨h.cell rfl,h.cell rfl,h.cell rfl,h.cell rfl⟩
def ar.fO{g:Nat}(h:ar m g w t):m.frozen? (aB g 0)=false/\m.frozen? (aB g 1)=false/\m.frozen? (aB g 2)=false/\m.frozen? (aB g 3)=false:=
 ⟨h.frozen 0,h.frozen 1,h.frozen 2,h.frozen 3⟩
def ar.two{g:Nat}(h:ar m g w [p,q]):ay m g 0 p/\ay m g 1 q:=
 ⟨h.cell rfl,h.cell rfl⟩
def Uy(v:Value)(q:Rat)(w:au)(h:b_ w v q)(o:bS a q)(p:a<=1000000):
 Calls prog 120 #[v] w fun a j=>a= .returned (.bool (decide (q.den=1)))/\Ext w j:=by
 obtain⟨b,A,n,c,u,B,m,t,rfl,H,y⟩:=h.parts;have z:=af (o.den p);have x:=af (amr q);go_enter func120,ntmps120;go_wp2_with fail
 refine aP fun W i k=> ?_;obtain⟨G,F,s,r⟩:=k.four;go_region_held3 (fun j=>ay j w.heap.size 2 (.bool u)/\ay j w.heap.size 3 (.slice B m t)) (first|exact⟨s,r⟩|exact(k.ext (aC _).drew).four.2.2|exact(k.ext ((aC _).drew.trans d)).four.2.2|exact(k.ext (((aC _).drew.trans d).trans f)).four.2.2)
  (first
    |(go_at_call 142;refine(La 1 _ Od Od).mono ?_;rintro a D ⟨E,rfl,l,d⟩)
    |(go_at_call 176;refine(J9 _ _ q.den 1 _ (y.ext (by exact i.trans ((aC _).drew.trans d))) l z Ef).mono ?_;rintro a C ⟨rfl,f⟩))
 go_wp2;go_ret;exact⟨by rw[x.ae];rfl,i.trans (((aC _).drew.trans d).trans f)⟩
def AP{f:Func}{g:Nat}{x0 x1 u0 u1 u2 u3:Value}{R:Ending->World->Prop}(b:f.results= #[.cell a dI])(i:Q.tmps.getD a undef=aJ g 0)(j:Q.defers= [])
 (e:ar n g dI [u0,u1,u2,u3]) (l:b_ n (.agg #[x0,x1,p,q]) H) (h:Ext m n) (c:m.heap.size<=g) (k:∀v W',b_ W' v H->Ext m W'->R (.returned v) W'):
 bodyPost prog f R .ret Q ((((n.setCell (aB g 0) x0).setCell (aB g 1) x1).setCell (aB g 2) p).setCell (aB g 3) q):=by
 have d:=(((e.bu 0 x0).bu 1 x1).bu 2 p).bu 3 q;exact bodyPost_ret (results_cell_row b Q.tmps _ g dI #[x0,x1,p,q] (0,0) _ i d underlying128 rfl Ok) j (k _ _ (l.keep (e.Ij Od 0 1 2 3 x0 x1 p q)) ((((h.setCell c _).setCell c _).setCell c _).setCell c _))
def akM(z:Int):((z:Rat)).num=z:=rfl
def akN(z:Int):((z:Rat)).den=1:=rfl
def ab3(v:Value)(z:Int)(w:au)(h:cH w v z):
 Calls prog 141 #[v] w fun e f=>∃o,e= .returned o/\b_ f o (z:Rat)/\Ext w f:=by
 obtain⟨b,A,n,c,rfl,H⟩:=h.parts;go_enter func141,ntmps141;go_wp2_with fail;refine fX fun W i j u=> ?_;obtain⟨t,s⟩:=j.two;go_region_held3 (fun f=>ay f w.heap.size 0 (.bool b)/\ay f w.heap.size 1 (.slice A n c)) (first|with_reducible exact⟨t,s⟩|with_reducible exact j.ae.drew.two|with_reducible exact(j.ae.ext a).two|with_reducible exact((j.ae.ext a).pL (u_ _) _ _ _ _).two)
  (first|(go_at_call 142;refine(La 1 _ Od Od).mono ?_;rintro e x ⟨y,rfl,l,k⟩;obtain⟨G,I,B,r,rfl,m⟩:=l.parts;have a:=(aC W).drew.trans k;have d:=af (u.ext a);obtain⟨F,E,D,C⟩:=d.four;obtain⟨f0,f1,f2,f3⟩:=d.fO))
 go_wp2;exact AP rfl rfl rfl d.ae (.mk' (H.ext (i.trans a)) m.ae) (i.trans a) Om (fun v W' q p=>⟨v,rfl,q,p⟩)
def Eo(z:Int)(w:au)(q: -9223372036854775808<=z)(j:z<=9223372036854775807):
 Calls prog 74 #[av z] w fun e k=>∃l,e= .returned l/\b_ k l (z:Rat)/\Ext w k:=by
 have x:=af q;have u:=af j;go_enter func74,ntmps74;go_wp2_with fail
 refine aP (P:=fun W=>Calls _ _ _ W _) fun W r s=> ?_;refine(La z W x u).mono ?_;rintro e m ⟨o,rfl,i,f⟩;go_wp2_with fail;refine(ab3 o z m i).mono ?_;rintro e y ⟨B,rfl,h,d⟩;obtain⟨b,A,n,c,I,K,C,H,rfl,J,t⟩:=h.parts;have a:=af (s.ext (f.trans d));obtain⟨G,F,E,D⟩:=a.four;obtain⟨f0,f1,f2,f3⟩:=a.fO;go_wp2;exact AP rfl rfl rfl a.ae h (r.trans (f.trans d)) Om (fun v W' j p=>⟨v,rfl,j,p⟩)
def anZ(v:Value)(q:Rat)(w:au)(h:b_ w v q)(j:bS a q)(k:a<=1000000):
 Calls prog 78 #[v] w fun a i=>a= .returned (av q.num.sign)/\Ext w i:=by
 obtain⟨b,A,n,c,r,u,o,p,rfl,H,t⟩:=h.parts;have l:=af (j.num k).wide;go_enter func78,ntmps78;go_wp2_with fail
 refine aP (P:=fun W=>Calls _ _ _ W _) fun W f s=> ?_;refine(T2 _ q.num W (H.ext f) l).mono ?_;rintro a m ⟨rfl,d⟩;go_wp2;go_ret;exact⟨rfl,f.trans d⟩
def TI(n d:Int)(a:0<d):(Rat.divInt n d).num=n/ (Int.gcd n d:Nat)/\((Rat.divInt n d).den:Int)=d/ (Int.gcd n d:Nat):=by rw[Rat.num_divInt,Rat.den_divInt,if_neg Om,Dx a,Int.one_mul,Int.gcd_comm d n];refine⟨rfl,?_⟩;rw[DM];congr 1;omega
def agb{P:World->Prop}{g:Nat}{x0 x1 u0 u1:Value}(f:w≠249)(d:ar m g w [x0,x1])
 (h:∀W,ah (Kept 249 m W)->ah (∀k b l,k≠g->ar m k b l->ar W k b l)->ah (∀a,Ext a m->a.heap.size<=g->Ext a W)->ah (ar W g w [u0,u1])->P W):P ((m.setCell (aB g 0) u0).setCell (aB g 1) u1):=
 h _ (d.rZ f 0 1 u0 u1) (fun _ _ _ i j=>j.pM i u0 u1) (fun _ e c=>(e.setCell c _).setCell c _) ((d.bu 0 u0).bu 1 u1)
def q18.yx(h:ai:=by
 have HY:=af hy;have hs:=Dx hy;go_enter func144,ntmps144;go_wp2_with fail
 refine sf (P:=fun W=>Calls _ _ _ W _) fun W B BA BB BR=> ?_;refine(T2 _ y W (HB.ext B) FY.wide).mono ?_;rintro e w1 ⟨rfl,k⟩;rw[hs];have S:=af (BA.ext k);have Q:=af (BB.ext k);have K:=af (BR.ext k);have o:=af (B.trans k);obtain⟨a0,a1⟩:=S.two;obtain⟨U,T⟩:=Q.two;go_wp2_with fail
 refine(abM _ _ x y w1 (HA.ext o) (HB.ext o) FX FY).mono ?_;rintro e w2 ⟨v2,rfl,u,f⟩;obtain⟨bg,Ag,ng,cg,rfl,HG⟩:=u.parts;go_wp2_with fail;refine aP fun W2 j M=> ?_;have zQ:=af (S.ext (f.trans j));have Dq:=af (Q.ext (f.trans j));have GA:=af (K.ext (f.trans j));have qo:=af (o.trans (f.trans j));have F:=af (u.ext j);have j8:=(K.ext f).lt;have HGL:=af j8;have Za:0<Int.gcd x y:=aav (fun h=>by have:=(Int.gcd_eq_zero_iff.1 h).2;have:=HY.ae;omega);have G:=af Za;have hgf:=FY.le (by rw[f6];exact Nat.le_of_dvd aAr (Int.gcd_dvd_natAbs_right x y));have FG:=af hgf;obtain⟨g0,g1⟩:=M.two;go_region_held3 (fun t=>ay t w2.heap.size 0 (.bool bg)/\ay t w2.heap.size 1 (.slice Ag ng cg)) (first|with_reducible exact⟨g0,g1⟩|with_reducible exact M.ae.drew.two|with_reducible exact(M.ae.ext a).two|with_reducible exact(M.ae.ext (a.trans b)).two)
  (first
    |(go_at_call 142;refine(La 1 _ Od Od).mono ?_;rintro e w3 ⟨v3,rfl,Y,X⟩;have a:=(aC W2).drew.trans X)
    |(go_at_call 176;refine(J9 _ _ (Int.gcd x y:Nat) 1 _ (F.ext (by exact a)) Y FG Ef).mono ?_;rintro e w4 ⟨rfl,b⟩))
 all_goals
  have R:=af (zQ.ext (a.trans b));have O:=af (Dq.ext (a.trans b));have l:=af (GA.ext (a.trans b));have L:=af (M.ext (a.trans b));have i:=af (qo.trans (a.trans b));have H:=af (F.ext (a.trans b));obtain⟨a0,a1⟩:=R.two;obtain⟨U,T⟩:=O.two;obtain⟨g0,g1⟩:=L.two;obtain⟨k0,k1,k2,k3⟩:=l.four;obtain⟨f0,f1,f2,f3⟩:=l.fO;have V:=af (TI x y HY);by_cases z:Int.gcd x y=1
  ·have ht:((((Int.gcd x y:Nat):Int) - 1).sign !=0)=false:=by rw[z];rfl
   have I:=af z;go_wp2;refine AP rfl rfl rfl l.ae (.mk' ?_ ?_) i Om (fun v W' h1 h2=>⟨v,rfl,h1,h2⟩)
   ·rw[V.1,I.ae];simpa using HA.ext i
   ·rw[V.2,I.ae];simpa using HB.ext i
  ·have ht:((((Int.gcd x y:Nat):Int) - 1).sign !=0)=true:=by
    have:(((Int.gcd x y:Nat):Int) - 1).sign≠0:=by rw[Ne,aad];omega
    simpa using this
   go_wp2_with fail
   refine(abN _ _ x (Int.gcd x y:Nat) w4 (HA.ext i) H FX FG az5).mono ?_;rintro e w5 ⟨q,r,rfl,hq,hr,c⟩;obtain⟨bq,Aq,nq,cq,rfl,HQ⟩:=hq.parts;obtain⟨br,Ar,nr,cr,rfl,_⟩:=hr.parts;have n:=af (R.ext c);obtain⟨a0,a1⟩:=n.two;have a2:=n.frozen 0;have a3:=n.frozen 1;have BB5:=af (O.ext c);have BG5:=af (L.ext c);have kh:=af (l.ext c);have en:=af (i.trans c);have HG5:=af (H.ext c);go_upto_region 6 with fail
   refine agb Od n fun W6 E p Dl SX=> ?_;have N:=af (p _ _ _ (fM (u_ _)) BB5);have BG6:=af (p _ _ _ (by have:=HGL.ae;omega) BG5);have qA:=af (p _ _ _ (fM (B_ _)) kh);have A:=af (Dl _ en (aK _));have Z9:=af (HQ.keep E);have HG6:=af (HG5.keep E);obtain⟨U,T⟩:=N.two;obtain⟨g0,g1⟩:=BG6.two;go_wp2_with fail
   refine(abN _ _ y (Int.gcd x y:Nat) W6 (HB.ext A) HG6 FY FG az5).mono ?_;rintro e w7 ⟨q7,r7,rfl,wU,Z,d⟩;obtain⟨bq7,Aq7,nq7,cq7,rfl,Nc⟩:=wU.parts;obtain⟨br7,Ar7,nr7,cr7,rfl,_⟩:=Z.parts;have BA7:=af (SX.ext d);have m:=af (N.ext d);have BR7:=af (qA.ext d);have iy:=af (A.trans d);have C:=af (Z9.ext d);obtain⟨U,T⟩:=m.two;have b2:=m.frozen 0;have b3:=m.frozen 1;go_upto_region 7 with fail
   refine agb Od m fun W8 D J Gl BB8=> ?_;have BA8:=af (J _ _ _ (u_ _) BA7);have s:=af (J _ _ _ (fM (Bu _)) BR7);have jS:=af (Gl _ iy Om);have HN:=af (C.keep D);have HM:=af (Nc.keep D);rw[<-V.1] at HN;rw[<-V.2] at HM;obtain⟨a0,a1⟩:=BA8.two;obtain⟨U,T⟩:=BB8.two;obtain⟨k0,k1,k2,k3⟩:=s.four;obtain⟨f0,f1,f2,f3⟩:=s.fO;go_wp2;exact AP rfl rfl rfl s.ae (.mk' HN.ae HM.ae) jS Om (fun v W' h1 h2=>⟨v,rfl,h1,h2⟩)):=h
def Pu(va vb:Value)(x y:Int)(w:au)(ha:cH w va x)(hb:cH w vb y)(fx:cM x)(fy:cM y)(hy:0<y):
 Calls prog 144 #[va,vb] w fun e t=>∃v',e= .returned v'/\b_ t v' (Rat.divInt x y)/\Ext w t:=by
 open q18 in exact yu
def qM(q:Rat):0<(q.den:Int):=aAd
def Kk(a b:Rat):Rat.divInt (a.num*b.den+b.num*a.den) (a.den*b.den)=a+b:=by rw[Rat.add_def',<-Rat.divInt_ofNat,mM]
def Kh(a b:Rat):Rat.divInt (a.num*b.num) (a.den*b.den)=a*b:=by rw[Rat.mul_def',<-Rat.divInt_ofNat,mM]
def Uw(f:0<C)(h:B.natAbs<10^a)(i:C.natAbs<10^a):bS a (Rat.divInt B C):=by
 obtain⟨c,b⟩:=TI B C f;refine⟨?_,?_⟩
 ·rw[c];refine DC ?_ h;rw[Int.natAbs_ediv_of_dvd (Int.gcd_dvd_left ..)];exact DN _ _
 ·have:(Rat.divInt B C).den<=C.natAbs:=by
   have:((Rat.divInt B C).den:Int)<=C:=by rw[b];exact Int.ediv_le_self _ Om
   omega
  omega
def bS.add(f:bS a H)(c:bS b I):bS (a+b+1) (H+I):=by
 rw[<-Kk];have k:=xR f.1 c.2;have h:=xR c.1 f.2;have i:=xR f.2 c.2;have j:10^(a+b)<10^(a+b+1):=JZ Od Om;refine Uw (Hd (qM H) (qM I)) ?_ ?_
 ·have l:(H.num*I.den+I.num*H.den).natAbs<=H.num.natAbs*I.den+I.num.natAbs*H.den:=(by refine a8 (Int.natAbs_add_le _ _) ?_;rw[vV,vV,f6,f6];exact aK _);rw[oD b a] at h;rw[fJ];omega
 ·rw[vV,f6,f6];omega
def bS.mul(f:bS a H)(c:bS e I):bS (a+e) (H*I):=by
 rw[<-Kh];have i:=xR f.1 c.1;have h:=xR f.2 c.2;refine Uw (Hd (qM H) (qM I)) ?_ ?_
 ·rw[vV];exact i
 ·rw[vV,f6,f6];exact h
def cM.mul(c:B.natAbs<10^a)(b:C.natAbs<10^e)(h:a+e<=1000000):cM (B*C):=⟨a+e,h,by rw[vV];exact xR c b⟩
def Hz:=@cM.mul
def ams(d:H.den=1)(c:I.den=1):((H.num+I.num:Int):Rat)=H+I:=by rw[<-Kk,d,c,aaB];simp only[Rat.intCast_add];grind
def amq(d:H.den=1)(c:I.den=1):((H.num*I.num:Int):Rat)=H*I:=by rw[<-Kh,d,c,aaB];simp only[GP];grind
def ER(p q:Rat):Int:=(p.num*q.den - q.num*p.den).sign
def akd(x v:Value)(p q:Rat)(w:au)(A:b_ w x p)(z:b_ w v q)(l:bS a p)(k:bS b q)(y:a+b<=1000000):
 Calls prog 118 #[x,v] w fun b f=>b= .returned (av (ER p q))/\Ext w f:=by
 obtain⟨C,Aa,G,K,M,Ab,F,J,rfl,Z,Y⟩:=A.parts;obtain⟨B,Ac,E,I,L,Ad,D,H,rfl,X,V⟩:=z.parts;have FA:=af (l.num Om);have FB:=af (l.den Om);have e:=af (k.num Om);have d:=af (k.den Om);have F1:=af (Hz l.1 (by simpa using k.2:((q.den:Int)).natAbs<_) y);have F2:=af (Hz k.1 (by simpa using l.2:((p.den:Int)).natAbs<_) Om);clear A z l k y;go_enter func118,ntmps118;go_wp2_with fail
 refine fX fun W m o n=> ?_;obtain⟨U,T,S,R⟩:=o.four;obtain⟨Q,P,O,N⟩:=n.four;go_region_held3 (fun f=>(ay f w.heap.size 0 (.bool C)/\ay f w.heap.size 1 (.slice Aa G K)/\ay f w.heap.size 2 (.bool M)/\ay f w.heap.size 3 (.slice Ab F J))/\ay f (w.heap.size+1) 0 (.bool B)/\ay f (w.heap.size+1) 1 (.slice Ac E I)/\ay f (w.heap.size+1) 2 (.bool L)/\ay f (w.heap.size+1) 3 (.slice Ad D H)) (first|with_reducible exact⟨⟨U,T,S,R⟩,Q,P,O,N⟩|with_reducible exact⟨o.ae.drew.four,n.ae.drew.four⟩|with_reducible exact⟨(o.ae.ext c).four,(n.ae.ext c).four⟩|with_reducible exact⟨(o.ae.ext i).four,(n.ae.ext i).four⟩|with_reducible exact⟨(o.ae.ext h).four,(n.ae.ext h).four⟩)
  (first
    |(go_at_call 145;(with_reducible show Calls _ _ #[Value.agg #[Value.bool C,_],_] _ _);refine(rQ _ _ p.num q.den _ (Z.ext (by exact m.drew)) (V.ext (by exact m.drew)) FA d).mono ?_;rintro b w1 ⟨v1,rfl,u,s⟩;have c:=(aC W).drew.trans s)
    |(go_at_call 145;(with_reducible show Calls _ _ #[Value.agg #[Value.bool B,_],_] _ _);refine(rQ _ _ q.num p.den _ (X.ext (by exact m.trans c)) (Y.ext (by exact m.trans c)) e FB).mono ?_;rintro b w2 ⟨v2,rfl,t,j⟩;have i:=c.trans j)
    |(go_at_call 176;refine(J9 _ _ _ _ _ (u.ext (by exact j)) t F1 F2).mono ?_;rintro b w3 ⟨rfl,r⟩;have h:=i.trans r))
 all_goals
  go_wp2;go_ret;exact⟨rfl,m.trans h⟩
def q22.k96(h:ai:=by rw[<-amq HP1.ae m.ae];exact h1):=h
def q21.ahW(h:ai:=by
 by_cases k:q.den=1
 ·have l:=decide_eq_true k;have m:=af k;go_wp2_with fail
  refine(rQ _ _ p.num q.num w2 (HA.ext aY) (HC.ext aY) FA FC).mono ?_;open q22 in exact m96
 ·have l:=decide_eq_false k;have BA:=zQ;have BB:=Dq;have BR:=GA;have HX:=aY;go_wp2_with fail
  go_region_held3 (fun c=>(ay c w.heap.size 0 (.bool ba)/\ay c w.heap.size 1 (.slice Aa na ca)/\ay c w.heap.size 2 (.bool bb)/\ay c w.heap.size 3 (.slice Ab nb cb))/\ay c (w.heap.size+1) 0 (.bool bc)/\ay c (w.heap.size+1) 1 (.slice Ac nc cc)/\ay c (w.heap.size+1) 2 (.bool bd)/\ay c (w.heap.size+1) 3 (.slice Ad nd cd)) (first|with_reducible exact⟨⟨a0,a1,a2,a3⟩,b0,b1,b2,b3⟩|with_reducible exact⟨BA.ae.drew.four,BB.ae.drew.four⟩|with_reducible exact⟨(BA.ae.ext b).four,(BB.ae.ext b).four⟩|with_reducible exact⟨(BA.ae.ext f).four,(BB.ae.ext f).four⟩|with_reducible exact⟨(BA.ae.ext tQ).four,(BB.ae.ext tQ).four⟩|with_reducible exact⟨((BA.ae.ext tQ).pL (B_ _) _ _ _ _).four,((BB.ae.ext tQ).pL (Bu _) _ _ _ _).four⟩)
   (first
     |(go_at_call 145;(with_reducible show Calls _ _ #[Value.agg #[Value.bool ba,_],_] _ _);refine(rQ _ _ p.num q.num _ (HA.ext azf) (HC.ext azf) FA FC).mono ?_;rintro e w3 ⟨v3,rfl,hv3,hx3⟩;have b:=(aC w2).drew.trans hx3)
     |(go_at_call 145;(with_reducible show Calls _ _ #[Value.agg #[Value.bool bb,_],_] _ _);refine(rQ _ _ p.den q.den _ (HB.ext azb) (HD.ext azb) FB FD).mono ?_;rintro e w4 ⟨v4,rfl,hv4,iW⟩;have f:=b.trans iW)
     |(go_at_call 144;refine(Pu _ _ _ _ _ (hv3.ext (by exact iW)) hv4 F4 F3 s).mono ?_;rintro e t ⟨u,rfl,j,i⟩;have tQ:=f.trans i;obtain⟨r0,R0,r1,r2,s0,S0,s1,s2,rfl,jT,f4⟩:=(j).parts;have kh:=af (BR.ext tQ);obtain⟨k0,k1,k2,k3⟩:=kh.four;obtain⟨f0,f1,f2,f3⟩:=kh.fO))
  all_goals
   exact agK):=h
def q20.ahK(h:ai:=by
 by_cases dD:p.den=1
 ·open q21 in exact ahn
 ·have iY:=decide_eq_false dD;clear dD;have BA:=Dt;have BB:=Dr;have BR:=vM;have HX:=bW;obtain⟨a0,a1,a2,a3⟩:=BA.four;go_wp2_with fail
  go_region_held3 (fun c=>(ay c w.heap.size 0 (.bool ba)/\ay c w.heap.size 1 (.slice Aa na ca)/\ay c w.heap.size 2 (.bool bb)/\ay c w.heap.size 3 (.slice Ab nb cb))/\ay c (w.heap.size+1) 0 (.bool bc)/\ay c (w.heap.size+1) 1 (.slice Ac nc cc)/\ay c (w.heap.size+1) 2 (.bool bd)/\ay c (w.heap.size+1) 3 (.slice Ad nd cd)) (first|with_reducible exact⟨⟨a0,a1,a2,a3⟩,b0,b1,b2,b3⟩|with_reducible exact⟨BA.ae.drew.four,BB.ae.drew.four⟩|with_reducible exact⟨(BA.ae.ext b).four,(BB.ae.ext b).four⟩|with_reducible exact⟨(BA.ae.ext f).four,(BB.ae.ext f).four⟩|with_reducible exact⟨(BA.ae.ext tQ).four,(BB.ae.ext tQ).four⟩|with_reducible exact⟨((BA.ae.ext tQ).pL (B_ _) _ _ _ _).four,((BB.ae.ext tQ).pL (Bu _) _ _ _ _).four⟩)
   (first
     |(go_at_call 145;(with_reducible show Calls _ _ #[Value.agg #[Value.bool ba,_],_] _ _);refine(rQ _ _ p.num q.num _ (HA.ext azf) (HC.ext azf) FA FC).mono ?_;rintro e w3 ⟨v3,rfl,hv3,hx3⟩;have b:=(aC w1).drew.trans hx3)
     |(go_at_call 145;(with_reducible show Calls _ _ #[Value.agg #[Value.bool bb,_],_] _ _);refine(rQ _ _ p.den q.den _ (HB.ext azb) (HD.ext azb) FB FD).mono ?_;rintro e w4 ⟨v4,rfl,hv4,iW⟩;have f:=b.trans iW)
     |(go_at_call 144;refine(Pu _ _ _ _ _ (hv3.ext (by exact iW)) hv4 F4 F3 s).mono ?_;rintro e t ⟨u,rfl,j,i⟩;have tQ:=f.trans i;obtain⟨r0,R0,r1,r2,s0,S0,s1,s2,rfl,jT,f4⟩:=(j).parts;have kh:=af (BR.ext tQ);obtain⟨k0,k1,k2,k3⟩:=kh.four;obtain⟨f0,f1,f2,f3⟩:=kh.fO))
  all_goals
   exact agK):=h
def q19.L0(h:ai:=by have F4:=af (Hz fa.1 fb.1 Om);have s:=af (Hd (qM p) (qM q));clear ha hb fa fb x;go_enter func76,ntmps76;open q20 in exact ag1):=h
def Vy(o n:Value)(p q:Rat)(w:au)(ha:b_ w o p)(hb:b_ w n q)(fa:bS a p)(fb:bS e q)(x:a+e+1<=1000000):
 Calls prog 76 #[o,n] w fun e c=>∃r,e= .returned r/\b_ c r (p*q)/\Ext w c:=by
 have HVA:=af ha;have R9:=af hb;have HFA:=af (And.intro fa (show a<=1000000 by omega));have HFB:=af (And.intro fb (show e<=1000000 by omega));open q19 in exact m16
def bS.aiT(f:bS a H)(c:bS b I)(h:a+b+1<=1000000):cM (H.num*I.den+I.num*H.den):=by refine⟨a+b+1,h,?_⟩;have j:=xR f.1 c.2;have i:=xR c.1 f.2;rw[oD b a] at i;refine DC (Int.natAbs_add_le _ _) ?_;rw[vV,vV,f6,f6,fJ];omega
def q26.k96(h:ai:=by rw[<-ams HP1.ae u.ae];exact h1):=h
def q25.ahW(h:ai:=by
 by_cases s:q.den=1
 ·have t:=decide_eq_true s;have u:=af s;go_wp2_with fail
  refine(O2 _ _ p.num q.num w2 (HA.ext aY) (HC.ext aY) FA FC).mono ?_;open q26 in exact m96
 ·have t:=decide_eq_false s;have BA:=zQ;have BB:=Dq;have BR:=GA;have HX:=aY;go_wp2_with fail
  go_region_held3 (fun f=>(ay f w.heap.size 0 (.bool ba)/\ay f w.heap.size 1 (.slice Aa na ca)/\ay f w.heap.size 2 (.bool bb)/\ay f w.heap.size 3 (.slice Ab nb cb))/\ay f (w.heap.size+1) 0 (.bool bc)/\ay f (w.heap.size+1) 1 (.slice Ac nc cc)/\ay f (w.heap.size+1) 2 (.bool bd)/\ay f (w.heap.size+1) 3 (.slice Ad nd cd)) (first|with_reducible exact⟨⟨a0,a1,a2,a3⟩,b0,b1,b2,b3⟩|with_reducible exact⟨BA.ae.drew.four,BB.ae.drew.four⟩|with_reducible exact⟨(BA.ae.ext c).four,(BB.ae.ext c).four⟩|with_reducible exact⟨(BA.ae.ext j).four,(BB.ae.ext j).four⟩|with_reducible exact⟨(BA.ae.ext b).four,(BB.ae.ext b).four⟩|with_reducible exact⟨(BA.ae.ext i).four,(BB.ae.ext i).four⟩|with_reducible exact⟨(BA.ae.ext mC).four,(BB.ae.ext mC).four⟩|with_reducible exact⟨((BA.ae.ext mC).pL (B_ _) _ _ _ _).four,((BB.ae.ext mC).pL (Bu _) _ _ _ _).four⟩)
   (first
     |(go_at_call 145;(with_reducible show Calls _ _ #[Value.agg #[Value.bool ba,_],_] _ _);refine(rQ _ _ p.num q.den _ (HA.ext azf) (HD.ext azf) FA FD).mono ?_;rintro e w3 ⟨v3,rfl,hv3,hx3⟩;have c:=(aC w2).drew.trans hx3)
     |(go_at_call 145;(with_reducible show Calls _ _ #[Value.agg #[Value.bool bc,_],_] _ _);refine(rQ _ _ q.num p.den _ (HC.ext az6) (HB.ext az6) FC FB).mono ?_;rintro e w4 ⟨v4,rfl,hv4,iW⟩;have j:=c.trans iW)
     |(go_at_call 143;refine(O2 _ _ _ _ _ (hv3.ext (by exact iW)) hv4 F1 F2).mono ?_;rintro e E ⟨H,rfl,r,m⟩;have b:=j.trans m)
     |(go_at_call 145;(with_reducible show Calls _ _ #[Value.agg #[Value.bool bb,_],_] _ _);refine(rQ _ _ p.den q.den _ (HB.ext azb) (HD.ext azb) FB FD).mono ?_;rintro e D ⟨G,rfl,o,k⟩;have i:=b.trans k)
     |(go_at_call 144;refine(Pu _ _ _ _ _ (r.ext (by exact k)) o F4 F3 B).mono ?_;rintro e C ⟨F,rfl,n,l⟩;have mC:=i.trans l;obtain⟨r0,R0,r1,r2,s0,S0,s1,s2,rfl,jT,f4⟩:=(n).parts;have kh:=af (BR.ext mC);obtain⟨k0,k1,k2,k3⟩:=kh.four;obtain⟨f0,f1,f2,f3⟩:=kh.fO))
  all_goals
   exact agJ):=h
def q24.ahK(h:ai:=by
 by_cases dD:p.den=1
 ·open q25 in exact ahn
 ·have iY:=decide_eq_false dD;clear dD;have BA:=Dt;have BB:=Dr;have BR:=vM;have HX:=bW;obtain⟨a0,a1,a2,a3⟩:=BA.four;go_wp2_with fail
  go_region_held3 (fun f=>(ay f w.heap.size 0 (.bool ba)/\ay f w.heap.size 1 (.slice Aa na ca)/\ay f w.heap.size 2 (.bool bb)/\ay f w.heap.size 3 (.slice Ab nb cb))/\ay f (w.heap.size+1) 0 (.bool bc)/\ay f (w.heap.size+1) 1 (.slice Ac nc cc)/\ay f (w.heap.size+1) 2 (.bool bd)/\ay f (w.heap.size+1) 3 (.slice Ad nd cd)) (first|with_reducible exact⟨⟨a0,a1,a2,a3⟩,b0,b1,b2,b3⟩|with_reducible exact⟨BA.ae.drew.four,BB.ae.drew.four⟩|with_reducible exact⟨(BA.ae.ext c).four,(BB.ae.ext c).four⟩|with_reducible exact⟨(BA.ae.ext j).four,(BB.ae.ext j).four⟩|with_reducible exact⟨(BA.ae.ext b).four,(BB.ae.ext b).four⟩|with_reducible exact⟨(BA.ae.ext i).four,(BB.ae.ext i).four⟩|with_reducible exact⟨(BA.ae.ext mC).four,(BB.ae.ext mC).four⟩|with_reducible exact⟨((BA.ae.ext mC).pL (B_ _) _ _ _ _).four,((BB.ae.ext mC).pL (Bu _) _ _ _ _).four⟩)
   (first
     |(go_at_call 145;(with_reducible show Calls _ _ #[Value.agg #[Value.bool ba,_],_] _ _);refine(rQ _ _ p.num q.den _ (HA.ext azf) (HD.ext azf) FA FD).mono ?_;rintro e w3 ⟨v3,rfl,hv3,hx3⟩;have c:=(aC w1).drew.trans hx3)
     |(go_at_call 145;(with_reducible show Calls _ _ #[Value.agg #[Value.bool bc,_],_] _ _);refine(rQ _ _ q.num p.den _ (HC.ext az6) (HB.ext az6) FC FB).mono ?_;rintro e w4 ⟨v4,rfl,hv4,iW⟩;have j:=c.trans iW)
     |(go_at_call 143;refine(O2 _ _ _ _ _ (hv3.ext (by exact iW)) hv4 F1 F2).mono ?_;rintro e E ⟨H,rfl,r,m⟩;have b:=j.trans m)
     |(go_at_call 145;(with_reducible show Calls _ _ #[Value.agg #[Value.bool bb,_],_] _ _);refine(rQ _ _ p.den q.den _ (HB.ext azb) (HD.ext azb) FB FD).mono ?_;rintro e D ⟨G,rfl,o,k⟩;have i:=b.trans k)
     |(go_at_call 144;refine(Pu _ _ _ _ _ (r.ext (by exact k)) o F4 F3 B).mono ?_;rintro e C ⟨F,rfl,n,l⟩;have mC:=i.trans l;obtain⟨r0,R0,r1,r2,s0,S0,s1,s2,rfl,jT,f4⟩:=(n).parts;have kh:=af (BR.ext mC);obtain⟨k0,k1,k2,k3⟩:=kh.four;obtain⟨f0,f1,f2,f3⟩:=kh.fO))
  all_goals
   exact agJ):=h
def q23.L0(h:ai:=by have F4:=af (fa.aiT fb A);have B:=af (Hd (qM p) (qM q));clear ha hb fa fb A;go_enter func75,ntmps75;open q24 in exact ag1):=h
def apT(y x:Value)(p q:Rat)(w:au)(ha:b_ w y p)(hb:b_ w x q)(fa:bS a p)(fb:bS e q)(A:a+e+1<=1000000):
 Calls prog 75 #[y,x] w fun e f=>∃z,e= .returned z/\b_ f z (p+q)/\Ext w f:=by
 have HVA:=af ha;have R9:=af hb;have HFA:=af (And.intro fa (show a<=1000000 by omega));have HFB:=af (And.intro fb (show e<=1000000 by omega));open q23 in exact m16
section
open Go.Sort
def eR(w:au):Prop:=Lib.TabIs prog w "internal/strconv.uint64pow10" .u64 Lib.pow10Tab
def arX(u:Nat)(a:u<18446744073709551616)(w:au)(g:eR w):
 Calls prog 230 #[.int .u64 u,av 10] w fun e l=>e= .returned (aO (Lib.decDigits u))/\Ext w l:=by
 by_cases t:u<100
 ·go_enter func230,ntmps230;go_wp2_with (go_at_call 267;refine(Tryz.internal_strconv_small u t _).mono ?_;rintro e l ⟨rfl,rfl⟩);go_ret;exact⟨rfl,aC _⟩
 ·have f:1<=u:=Om;have m:Lib.nDigits u<=20:=by have:=Lib.numDigits_eq u f a;split at this<;>omega
  have o:prog.arrayLen 320=24:=by simp [Program.arrayLen,underlying320]
  have s:∀W,(Instr.sliceAt 320 (aJ w.heap.size 0) none (some (av (Lib.nDigits u:Int))) none).run prog W= .ok (aG w.heap.size 0 (Lib.nDigits u) 24) W:=fun W=>by rw[run_sliceAt_array_h W 320 ⟨w.heap.size,0,none⟩ (by simp [Program.arrayLen,Program.elem,underlying320]) .i64 (Lib.nDigits u:Int) Om (by rw[o];omega)];go_simp
  have i:=Lib.holds_zero0 w 320 (Lib.nDigits u) Om;have c:=Tryz.internal_strconv_formatBase10 w.heap.size 0 24 u (Array.replicate (Lib.nDigits u) 0) (w.alloc (.cells Lib.zeros24 320)) i (by rw[Tg];exact Lib.lt_pow_nDigits u) a (by rw[Tg];omega);rw[Tg] at c;have p:=af i;go_enter func230,ntmps230;go_wp2_with (first
   |(go_at_call 268;refine(Tryz.internal_strconv_numDigits u f a _ (Lib.tabIs_alloc g _)).mono ?_;rintro e l ⟨rfl,rfl⟩))
  refine c.mono ?_;rintro e l ⟨rfl,k,y,d,rfl,hF⟩;have hcv:(convert 192 9 (aG w.heap.size 0 (Lib.nDigits u) 24)).run prog ((putRow (fun(b:UInt8)=>Value.int .u8 (b.toNat:Int)) (w.alloc (.cells Lib.zeros24 320)) w.heap.size 0 d).drewN k)= .ok (aO (Lib.decDigits u)) ((putRow (fun(b:UInt8)=>Value.int .u8 (b.toNat:Int)) (w.alloc (.cells Lib.zeros24 320)) w.heap.size 0 d).drewN k):=by have h:=run_convert_bytes_back ((putRow (fun(b:UInt8)=>Value.int .u8 (b.toNat:Int)) (w.alloc (.cells Lib.zeros24 320)) w.heap.size 0 d).drewN k) 192 9 5 ⟨w.heap.size,0,none⟩ 24 (Lib.decDigits u) underlying192 underlying5 underlying9 (fun j n=>by rw[Lib.row_is_numeral hF j n,Lib.add_plain,World.cell?_drewN];exact cell?_putRow (fun(b:UInt8)=>Value.int .u8 (b.toNat:Int)) _ w.heap.size 0 _ d p (by rw[hF.size,Tg]) j (by rw[hF.size];rw[Lib.decDigits_length] at n;exact n));rw[Lib.decDigits_length] at h;exact h
  have r:Ext w ((putRow (fun(b:UInt8)=>Value.int .u8 (b.toNat:Int)) (w.alloc (.cells Lib.zeros24 320)) w.heap.size 0 d).drewN k):=(by obtain⟨q,v⟩:=Lib.fin_at w (.cells Lib.zeros24 320) d k 0;rw[v];exact Lib.below_grow _ w (aK _) k q);have x:=af r;generalize(putRow (fun(b:UInt8)=>Value.int .u8 (b.toNat:Int)) (w.alloc (.cells Lib.zeros24 320)) w.heap.size 0 d).drewN k=W at*;go_wp2;go_ret;exact⟨rfl,x⟩
def arf(u:Nat)(a:u<18446744073709551616)(w:au)(b:eR w):
 Calls prog 178 #[.int .u64 u,av 10] w fun e c=>e= .returned (aO (Lib.decDigits u))/\Ext w c:=by
 have H:=af (arX u a w b);go_enter func178,ntmps178;go_wp2_with fail;refine H.mono ?_;rintro e c ⟨rfl,d⟩;go_wp2;go_ret;exact⟨rfl,d⟩
abbrev tB:TypeId:=243
abbrev t8:TypeId:=5
def aaQ(b:Nat)(w:au)(d:ay w b 0 (aJ b 0)):
 Calls prog 229 #[aJ b 0] w fun e a=>e= .returned (.tuple #[])/\a=w:=by
 obtain⟨j,c,_⟩:=Option.map_eq_some_iff.1 Tryz.DG.sizeBuilder;go_enter func229,ntmps229;go_wp2;rw[Lib.run_neq_ptr_same w _ underlying241 c];go_wp2;go_end0;exact⟨rfl,rfl⟩
def ajy(b:Nat)(w:au)(d:ay w b 0 (.pointer none))(YK:w.shape? b=some (tB,2))(c:w.frozen? (aB b 0)=false):
 Calls prog 229 #[aJ b 0] w fun e a=>e= .returned (.tuple #[])/\a=w.setCell (aB b 0) (aJ b 0):=by
 exact m42
def ajN(B b:Nat)(c:List Value)(w:au)(h:Lib.IsBuilder tB t8 B b c w):
 Calls prog 229 #[aJ b 0] w fun e a=>e= .returned (.tuple #[])/\(Lib.BuilderAt tB t8 B b (aJ b 0) c a/\Below B w a):=by
 rcases h with h|h
 ·refine(ajy b w h.cell0 h.shape h.frozen0).mono ?_;rintro e a ⟨rfl,rfl⟩;exact⟨rfl,h.used _,(AH B w).setCell h.1 _⟩
 ·refine(aaQ b w h.cell0).mono ?_;rintro e a ⟨rfl,rfl⟩;exact⟨rfl,h,AH B _⟩
def GM(B b:Nat)(bs:List Value)(s:ByteArray)(w:au)(h:Lib.IsBuilder tB t8 B b bs w)(c:bs.length+s.size<=140737488355328)(d:B<=w.heap.size):
 Calls prog 177 #[aJ b 0,.string s] w fun e a=>e= .returned (.tuple #[av s.size,.nilIface])/\(Lib.BuilderAt tB t8 B b (aJ b 0) (bs++Lib.strCells s) a/\Below B w a):=by
 obtain⟨i0,hi,hz0,hz1,hz2⟩:=info_parts Tryz.DG.infoByte;go_enter func177,ntmps177;go_wp2_with (go_at_call 229;refine(ajN B b bs _ h).mono ?_);exact m25
def eP:Nat->Nat->List UInt8
 |0,_=> []
 |k+1,x=>eP k (x/10)++ [UInt8.ofNat (48+x%10)]
def Hb(k x:Nat):(eP k x).length=k:=by
 induction k generalizing x with
 |zero=>rfl
 |succ k a=>simp [eP,a]
def l_(h:a<10):decDigits a= [UInt8.ofNat (48+a)]:=by rw[decDigits];simp [h]
def Ep(h:¬a<10):decDigits a=decDigits (a/10)++ [UInt8.ofNat (48+a%10)]:=by rw[decDigits];simp [h]
def Px(k h x:Nat)(f:0<h)(b:x<10^k):decDigits (h*10^k+x)=decDigits h++eP k x:=by
 induction k generalizing x with
 |zero=>have:x=0:=azn;subst this;simp [eP]
 |succ k c=>
  have d:0<10^k:=Nat.pow_pos Od;have e:h*10^(k+1)+x=10*(h*10^k)+x:=by rw[fJ];grind
  have a:¬h*10^(k+1)+x<10:=(by rw[e];have:=xN f d;omega);have i:(h*10^(k+1)+x)/10=h*10^k+x/10:=by rw[e];omega
  have g:(h*10^(k+1)+x)%10=x%10:=by rw[e];omega
  rw[Ep a,i,g,c (x/10) (by rw[fJ] at b;omega)];simp [eP]
def ane(k:Nat):eP k 0=List.replicate k 48:=by
 induction k with
 |zero=>rfl
 |succ k a=>rw[eP,Nat.zero_div,a,J0];rfl
def nDigits_pos(u:Nat):0<nDigits u:=by rw[nDigits];split<;>omega
def aeH(k x:Nat)(a:x<10^(k+1)):nDigits x<=k+1/\eP (k+1) x=List.replicate (k+1 - nDigits x) 48++decDigits x:=by
 induction k generalizing x with
 |zero=>have h:x<10:=aza;rw[nDigits_small h,l_ h];refine⟨aK _,?_⟩;have:=uB h;simp [eP,this]
 |succ k b=>
  by_cases h:x<10
  ·rw[nDigits_small h,l_ h];refine⟨by omega,?_⟩;have e:x/10=0:=Om;have d:x%10=x:=Om;rw[eP,e,d,ane];rfl
  ·have c:=b (x/10) (by rw[fJ] at a;omega);rw[nDigits_big h,Ep h];refine⟨by omega,?_⟩;rw[eP,c.2,show k+1+1 - (nDigits (x/10)+1)=k+1 - nDigits (x/10) by omega,iB]
def EI(b:a<B9):nDigits a<=9/\eP 9 a=List.replicate (9 - nDigits a) 48++decDigits a:=aeH 8 a (by unfold B9 at b;exact b)
def texts:List Nat->List UInt8
 | []=> []
 |x::r=>if r= [] then decDigits x else texts r++eP 9 x
def amC(h:Canon i)(c:i≠ []):texts i=decDigits (val i):=by
 induction i with
 |nil=>exact absurd rfl c
 |cons x r b=>
  by_cases a:r= []
  ·subst a;simp [texts]
  ·rw[texts,if_neg a,b h.tail a,nJ,oD,eI];exact(Px 9 (val r) x (Ej h.tail a) azr).symm
def aj5(k h x:Nat)(b:0<h)(a:x<10^k):nDigits (h*10^k+x)=nDigits h+k:=by rw[<-decDigits_length,<-decDigits_length,Px k h x b a,bC,Hb]
def aa7(h:Canon i)(b:i≠ []):nDigits (val i)=9*(i.length - 1)+nDigits (i.getLast b):=by
 induction i with
 |nil=>exact absurd rfl b
 |cons x r c=>
  by_cases a:r= []
  ·subst a;simp
  ·rw[nJ,oD,eI,List.getLast_cons a];have:=aj5 9 (val r) x (Ej h.tail a) azr;have e:val r*B9+x=val r*10^9+x:=rfl;rw[e,this,c h.tail a];have:r.length≠0:=fun h=>a (lH h);simp only[cW];omega
def eR.ext{w':au}(h:eR m)(d:Ext m w'):eR w':=by
 unfold eR Lib.TabIs World.var? at*;cases c:prog.globalNamed "internal/strconv.uint64pow10" with
 |none=>simp [c] at h
 |some g=>
  simp only[c,Ol] at h⊢;have a:g<m.heap.size:=by
   rcases cA g m.heap.size with b|b
   ·exact b
   ·simp [zS b] at h
  rw[d.block g a];exact h
def En{size:Nat}(h:m.ownsRow a w size p b t)(j:Ext m n):n.ownsRow a w size p b t:=by
 obtain⟨f,o|⟨g,d,c,k,l,i,r⟩⟩:=h
 ·exact⟨f,.inl o⟩
 ·exact⟨f,.inr ⟨g,d,c,k,l,(j.block g (ie i)).trans i,r⟩⟩
def ae5(h:IsBuilder tB t8 a b t m)(d:Ext m n):IsBuilder tB t8 a b t n:=by
 rcases h with⟨g,v,c,e,f⟩|⟨g,v,c,e,f⟩
 ·exact .inl ⟨g,v,(d.block b (ie c)).trans c,En e d,f⟩
 ·exact .inr ⟨g,v,(d.block b (ie c)).trans c,En e d,f⟩
def aR(z:Int):List UInt8:=(if z<0 then [45] else [])++decDigits z.natAbs
def ak3(b:a<i.length):texts (i.drop a)=if a+1=i.length then decDigits i[a] else texts (i.drop (a+1))++eP 9 i[a]:=by
 rw[i6 b,texts];by_cases h:a+1=i.length
 ·rw[if_pos h,if_pos (Dw Om)]
 ·rw[if_neg h,if_neg (fun c=>by have:=List.drop_eq_nil_iff.1 c;omega)]
def GS(l:List UInt8):strCells ⟨l.toArray⟩=byteCells l:=rfl
def byteCells_append(a b:List UInt8):byteCells (a++b)=byteCells a++byteCells b:=by simp [byteCells]
def TF(c:Nat):repeatL [48] c=List.replicate c 48:=by
 induction c with
 |zero=>rfl
 |succ c a=>rw[repeatL,a];rfl
def aa0(d:bM i):(texts i).length<=9*i.length:=by
 induction i with
 |nil=>simp [texts]
 |cons x r a=>
  rw[texts];have:=a d.tail;have b:=(EI d.head).1;split
  ·rw[decDigits_length];simp only[cW];omega
  ·rw[bC,Hb];simp only[cW];omega
def q28.k46(h:ai:=by
 have D:ah (IsBuilder tB t8 (w.heap.size+1) (w.heap.size+1) (byteCells ([45]++texts (l.drop (k+1))++List.replicate (9 - nDigits x) 48)) w4):=(by rw[GS,<-byteCells_append,TF] at hb4;exact .inr hb4);have q:ah ((byteCells ([45]++texts (l.drop (k+1))++List.replicate (9 - nDigits x) 48)).length<=9000011):=(by have:=JF.ae;rw[byteCells_length] at this;rw[ah,byteCells_length,bC,Oa];omega);clear hb4 iW;go_wp2_with fail;refine(GM (w.heap.size+1) (w.heap.size+1) _ ⟨(decDigits x).toArray⟩ w4 D (by rw[hlen];have:=q.ae;omega) ai2).mono ?_;rintro e I ⟨rfl,o8,iu⟩;have ut:ah (IsBuilder tB t8 (w.heap.size+1) (w.heap.size+1) (byteCells ([45]++texts (l.drop k))) I):=by rw[GS,<-byteCells_append,iB,iB,<-d.ae] at o8;exact .inr o8
 exact agA):=h
def q27.k33(h:ai:=by
 have i:(byteCells ([45]++texts (l.drop (k+1)))).length<=9000001:=by
  have Z:=aa0 (HC.1.drop (k+1));have Y:(l.drop (k+1)).length<=n:=by rw[oB,uj.ae];omega
  rw[byteCells_length,bC];have X:([45]:List UInt8).length<=1:=Od;omega
 have JF:=af i;clear i;by_cases b:k+1=n
 ·have d:ah (texts (l.drop k)=texts (l.drop (k+1))++decDigits x):=by rw[ah,M5.ae,if_pos b,Dw aAv];rfl
  have Q:=af b;go_wp2_with fail;refine(GM (w.heap.size+1) (w.heap.size+1) _ ⟨(decDigits x).toArray⟩ w2 eE (by rw[hlen];have:=JF.ae;omega) Qx).mono ?_;rintro e w3 ⟨rfl,hb3,hx3⟩;have g7:ah (IsBuilder tB t8 (w.heap.size+1) (w.heap.size+1) (byteCells ([45]++texts (l.drop k))) w3):=by rw[GS,<-byteCells_append,iB,<-d.ae] at hb3;exact .inr hb3
  exact agT
 ·have d:ah (texts (l.drop k)=texts (l.drop (k+1))++(List.replicate (9 - nDigits x) 48++decDigits x)):=by rw[ah,M5.ae,if_neg b,HL9.ae]
  open q28 in exact m46):=h
def q30.k46(h:ai:=by
 have D:ah (IsBuilder tB t8 (w.heap.size+1) (w.heap.size+1) (byteCells ([]++texts (l.drop (k+1))++List.replicate (9 - nDigits x) 48)) w4):=(by rw[GS,<-byteCells_append,TF] at hb4;exact .inr hb4);have q:ah ((byteCells ([]++texts (l.drop (k+1))++List.replicate (9 - nDigits x) 48)).length<=9000011):=(by have:=JF.ae;rw[byteCells_length] at this;rw[ah,byteCells_length,bC,Oa];omega);clear hb4 iW;go_wp2_with fail;refine(GM (w.heap.size+1) (w.heap.size+1) _ ⟨(decDigits x).toArray⟩ w4 D (by rw[hlen];have:=q.ae;omega) ai2).mono ?_;rintro e I ⟨rfl,o8,iu⟩;have ut:ah (IsBuilder tB t8 (w.heap.size+1) (w.heap.size+1) (byteCells ([]++texts (l.drop k))) I):=by rw[GS,<-byteCells_append,iB,iB,<-d.ae] at o8;exact .inr o8
 exact agA):=h
def q29.k33(h:ai:=by
 have i:(byteCells ([]++texts (l.drop (k+1)))).length<=9000001:=by
  have Z:=aa0 (HC.1.drop (k+1));have Y:(l.drop (k+1)).length<=n:=by rw[oB,uj.ae];omega
  rw[byteCells_length,bC];have X:([]:List UInt8).length<=1:=Od;omega
 have JF:=af i;clear i;by_cases b:k+1=n
 ·have d:ah (texts (l.drop k)=texts (l.drop (k+1))++decDigits x):=by rw[ah,M5.ae,if_pos b,Dw aAv];rfl
  have Q:=af b;go_wp2_with fail;refine(GM (w.heap.size+1) (w.heap.size+1) _ ⟨(decDigits x).toArray⟩ w2 eE (by rw[hlen];have:=JF.ae;omega) Qx).mono ?_;rintro e w3 ⟨rfl,hb3,hx3⟩;have g7:ah (IsBuilder tB t8 (w.heap.size+1) (w.heap.size+1) (byteCells ([]++texts (l.drop k))) w3):=by rw[GS,<-byteCells_append,iB,<-d.ae] at hb3;exact .inr hb3
  exact agT
 ·have d:ah (texts (l.drop k)=texts (l.drop (k+1))++(List.replicate (9 - nDigits x) 48++decDigits x)):=by rw[ah,M5.ae,if_neg b,HL9.ae]
  open q30 in exact m46):=h
def Ui(v:Value)(z:Int)(w:au)(h:cH w v z)(S:eJ z)(R:eR w):
 Calls prog 121 #[v] w fun e T=>e= .returned (aO (aR z))/\Ext w T:=by
 obtain⟨s,rfl,A,c,rfl,V,J⟩:=h;unfold eJ Fit at S;by_cases H:z.natAbs=0
 ·have L:(a_ z.natAbs).length=0:=by rw[H];rfl
  have C:aR z= [48]:=(by have:z=0:=Om;subst this;unfold aR;rw[l_ Od];rfl);have HN:=af C;clear C J;rw[L];go_enter func121,ntmps121;go_wp2;go_ret;exact⟨by rw[HN.ae];rfl,(aC w).alloc _⟩
 ·have N:a_ z.natAbs≠ []:=fun h=>H (uH.1 h);have L:0<(a_ z.natAbs).length:=J1.2 N;have G:=af (amC (df z.natAbs) N);have HC:=af (df z.natAbs);have O:=af (dm z.natAbs);have HS:=af J;obtain⟨n,C⟩:∃n,(a_ z.natAbs).length=n:=⟨_,rfl⟩;have uj:=af C;rw[C] at S L V;generalize a_ z.natAbs=l at*;clear N J;rw[C];clear C;have HT:=af R;clear R;have r:val l=z.natAbs:=O.ae;by_cases a:z<0
  ·have M:decide (z<0)=true:=decide_eq_true a;have FW:ah (aR z= [45]++texts l):=by rw[ah,G.ae,r,aR,if_pos a]
   clear r a H;generalize decide (z<0)=bz at*;subst M;go_enter func121,ntmps121;go_wp2_with fail;refine fX (P:=fun W=>Calls _ _ _ W _) fun W HX BX BB=> ?_;refine(GM (w.heap.size+1) (w.heap.size+1) [] ⟨#[45]⟩ W (.inl ⟨aK _,_,BB,lJ _ _ _ _,by simp [Value.ownBlock]⟩) Od (by have:=BX.lt;have:=BB.lt;omega)).mono ?_;rintro e E ⟨rfl,F,y⟩;have t:ah (IsBuilder tB t8 (w.heap.size+1) (w.heap.size+1) (byteCells [45]) E):= .inr F;have j:=af y;have lU:ay E w.heap.size 1 (.slice A n c):=(y.cell (p:=aB w.heap.size 1) ay9).trans (BX.aD 1);clear F y;go_wp2_with fail
   go_loopw [4,5] (fun u _ wr=>∃m:Nat,m<=n/\u=av ((m:Int) - 1)/\ah (IsBuilder tB t8 (w.heap.size+1) (w.heap.size+1) (byteCells ([45]++texts (l.drop m))) wr)/\ah (Below (w.heap.size+1) W wr)) (fun u _ _=>(RowKit.intOf u+1).toNat)
   exact⟨n,aK _,rfl,by rw[Dw (by rw[uj.ae];exact aK _)];simpa [texts] using t,j⟩;obtain⟨m,U,rfl,nH,bW⟩:=hrel;have lU:ay wr w.heap.size 1 (.slice A n c):=(bW.cell (p:=aB w.heap.size 1) ay9).trans (BX.aD 1);rcases i7 m with f|f
   ·subst f;go_wp2_with fail;refine(Tryz.Builder_String_any (w.heap.size+1) (w.heap.size+1) ([45]++texts (l.drop 0)) wr nH azS).mono ?_;exact agj
   ·open q27 in exact m33
  ·have M:decide (z<0)=false:=decide_eq_false a;have FW:ah (aR z= []++texts l):=by rw[ah,G.ae,r,aR,if_neg a]
   clear r a H;generalize decide (z<0)=bz at*;subst M;go_enter func121,ntmps121;go_wp2_with fail;refine fX fun W HX BX BB=> ?_;have t:ah (IsBuilder tB t8 (w.heap.size+1) (w.heap.size+1) (byteCells []) W):= .inl ⟨aK _,_,BB,lJ _ _ _ _,by simp [Value.ownBlock]⟩;have j:=af (AH (w.heap.size+1) W);obtain⟨E,B⟩:∃E,E=W:=⟨_,rfl⟩;rw[<-B] at t⊢;have j:ah (Below (w.heap.size+1) W E):=by rw[B];exact j
   clear B;have K:((n:Int)==0)=false:=ayZ;rw[K];go_loopw [4,5] (fun u _ wr=>∃m:Nat,m<=n/\u=av ((m:Int) - 1)/\ah (IsBuilder tB t8 (w.heap.size+1) (w.heap.size+1) (byteCells ([]++texts (l.drop m))) wr)/\ah (Below (w.heap.size+1) W wr)) (fun u _ _=>(RowKit.intOf u+1).toNat)
   exact⟨n,aK _,rfl,by rw[Dw (by rw[uj.ae];exact aK _)];simpa [texts] using t,j⟩;obtain⟨m,U,rfl,nH,bW⟩:=hrel;have lU:ay wr w.heap.size 1 (.slice A n c):=(bW.cell (p:=aB w.heap.size 1) ay9).trans (BX.aD 1);rcases i7 m with f|f
   ·subst f;go_wp2_with fail;refine(Tryz.Builder_String_any (w.heap.size+1) (w.heap.size+1) ([]++texts (l.drop 0)) wr nH azS).mono ?_;exact agj
   ·open q29 in exact m33
def gU(a:Nat)(l:List UInt8):Nat:=l.foldl (fun a c=>10*a+(c.toNat - 48)) a
def AQ(a:Nat):gU a []=a:=by rw[gU,List.foldl_nil]
def Hp(a:Nat)(c:UInt8)(r:List UInt8):gU a (c::r)=gU (10*a+(c.toNat - 48)) r:=by rw[gU,J7,gU]
def lM(c:UInt8):Prop:=48<=c.toNat/\c.toNat<=57
def akx(a:Nat)(l m:List UInt8):gU a (l++m)=gU (gU a l) m:=by rw[gU,DI,<-gU,<-gU]
def UO(a:Nat)(l:List UInt8)(c:UInt8):gU a (l++ [c])=10*gU a l+(c.toNat - 48):=by rw[akx,Hp,AQ]
def aqO(a:Nat)(l:List UInt8):a<=gU a l:=by
 induction l generalizing a with
 |nil=>rw[AQ];exact aK _
 |cons c r b=>rw[Hp];exact a8 Om (b _)
def Hx(h:a<10):(UInt8.ofNat (48+a)).toNat=48+a:=by rw[Ti];exact uB Om
def PP(h:a<10):lM (UInt8.ofNat (48+a)):=by unfold lM;rw[Hx h];omega
def AG(n:Nat):∀c∈decDigits n,lM c:=by
 induction n using Nat.strongRecOn with
 |_ n b=>
  by_cases h:n<10
  ·rw[l_ h];intro c a;simp only[bG] at a;subst a;exact PP h
  ·rw[Ep h];intro c a;rcases bQ.1 a with a|a
   ·exact b _ Om c a
   ·simp only[bG] at a;subst a;exact PP Om
def akw(k x:Nat):∀c∈eP k x,lM c:=by
 induction k generalizing x with
 |zero=>simp [eP]
 |succ k b=>
  intro c a;rcases bQ.1 a with a|a
  ·exact b _ c a
  ·simp only[bG] at a;subst a;exact PP Om
def acT(k x a:Nat)(h:x<10^k):gU a (eP k x)=a*10^k+x:=by
 induction k generalizing x with
 |zero=>have f:x=0:=azd;rw[f,eP,AQ,Am];omega
 |succ k b=>
  have c:x/10<10^k:=by rw[fJ] at h;omega
  have d:x%10<10:=fg _ Od;have e:a*(10^k*10)=10*(a*10^k):=by rw[eI (10^k) 10,aaC]
  rw[eP,UO,b (x/10) c,Hx d,fJ,e];clear b e h c;generalize a*10^k=y;omega
def Ht(n:Nat):gU 0 (decDigits n)=n:=by
 induction n using Nat.strongRecOn with
 |_ n a=>
  by_cases h:n<10
  ·rw[l_ h,Hp,Hx h,AQ];omega
  ·rw[Ep h,UO,a _ Om,Hx Om];omega
def V7(h:decDigits a=decDigits b):a=b:=by rw[<-Ht a,h,Ht]
def adP(l:List UInt8)(a:Nat)(b:∀c∈l,lM c)(h:gU a l<1000000000000000000):parseUintM (2^64 - 1) a l= .ok (gU a l):=by
 induction l generalizing a with
 |nil=>rw[AQ];rfl
 |cons c r f=>have d:=b c Ou;unfold lM at d;rw[Hp] at h;have i:=aqO (10*a+(c.toNat - 48)) r;have e:a*10+(c.toNat - 48)=10*a+(c.toNat - 48):=Om;rw[parseUintM,if_pos d,if_neg Om,if_neg Om,e,f _ (fun x g=>b x az9) h,Hp]
def DZ(n:Nat):decDigits n≠ []:=fun h=>by have:=nDigits_pos n;rw[<-decDigits_length,h] at this;simp at this
def ada(h:B9<=a):decDigits a=decDigits (a/B9)++eP 9 (a%B9):=by
 have c:0<a/B9:=Nat.div_pos h Od;have b:a%B9<10^9:=fg a (show 0<B9 by decide);rw[<-Px 9 (a/B9) (a%B9) c b];congr 1
 have e:(10:Nat)^9=B9:=rfl;rw[e,eI];exact(vQ a B9).symm
def alo(h:a<B9):parseUintB 64 (decDigits a)= .ok a:=by unfold B9 at h;rw[parseUintB,if_neg (DZ a),adP _ 0 (AG a) (by rw[Ht];omega),Ht]
def ana(h:a<B9):parseUintB 64 (eP 9 a)= .ok a:=by
 have e:gU 0 (eP 9 a)=a:=by rw[acT 9 a 0 h];omega
 unfold B9 at h;rw[parseUintB,if_neg (fun b=>by have:=Hb 9 a;rw[b] at this;simp at this),adP _ 0 (akw 9 a) (by rw[e];omega),e]
def VD{n:Nat}(h:0<n):∃c r,decDigits n=c::r/\c≠48/\lM c:=by
 induction n using Nat.strongRecOn with
 |_ n b=>
  by_cases a:n<10
  ·refine⟨_,_,l_ a,?_,PP a⟩;intro g;have:=congrArg UInt8.toNat g;rw[Hx a] at this;have:(48:UInt8).toNat=48:=rfl;omega
  ·obtain⟨c,r,e,f,d⟩:=b (n/10) Om Om;exact⟨c,r++ [UInt8.ofNat (48+n%10)],by rw[Ep a,e];rfl,f,d⟩
def Eg:decDigits 0= [48]:=l_ Od
def Wn{c:UInt8}(h:¬lM c):c∉decDigits a:=fun b=>h (AG a c b)
def x6(h:B<0):aR B=45::decDigits B.natAbs:=by rw[aR,if_pos h];rfl
def xZ(h:0<=B):aR B=decDigits B.natAbs:=by rw[aR,if_neg Om];rfl
def rS(n:Nat):aR (n:Int)=decDigits n:=by rw[xZ Om,f6]
def uJ(z:Int):(47:UInt8)∉aR z:=by
 rw[aR];intro h;rcases bQ.1 h with h|h
 ·split at h
  ·simp at h
  ·simp at h
 ·exact Wn aAs h
def U1(n:Nat)(r:List UInt8):decDigits n≠45::r:=fun h=>by have:=AG n 45 (by rw[h];simp);unfold lM at this;revert this;decide
def AV(h:aR B=aR C):B=C:=by
 rcases G_ B 0 with d|d
 ·rcases G_ C 0 with c|c
  ·rw[x6 d,x6 c] at h;injection h with _ h;have:=V7 h;omega
  ·rw[x6 d,xZ c] at h;exact absurd h.symm (U1 _ _)
 ·rcases G_ C 0 with c|c
  ·rw[xZ d,x6 c] at h;exact absurd h (U1 _ _)
  ·rw[xZ d,xZ c] at h;have:=V7 h;omega
def UD(z:Int):trimPrefix (aR z) [45]=decDigits z.natAbs/\hasPrefix (aR z) [45]=decide (z<0):=by
 rcases G_ z 0 with h|h
 ·rw[x6 h,decide_eq_true h];have e:hasPrefix (45::decDigits z.natAbs) [45]=true:=by simp [hasPrefix]
  exact⟨by rw[trimPrefix,e];rfl,e⟩
 ·rw[xZ h,decide_eq_false Om];have e:hasPrefix (decDigits z.natAbs) [45]=false:=by
   rw[hasPrefix];rcases b:decDigits z.natAbs with _|⟨c,r⟩
   ·rfl
   ·have a:c≠45:=fun a=>U1 z.natAbs r (by rw[b,a]);simp [List.isPrefixOf];exact fun h=>absurd h.symm a
  exact⟨by rw[trimPrefix,e];rfl,e⟩
def aaS{c:UInt8}(h:c∉T):indexByte T c= -1:=by
 induction T with
 |nil=>rfl
 |cons b r a=>
  rw[indexByte,a (fun d=>h azy)];have:(b==c)=false:=by simpa using fun e:b=c=>h aAj
  rw[this];rfl
def aaT{b:List UInt8}{c:UInt8}(h:c∉T):indexByte (T++c::b) c=T.length:=by
 induction T with
 |nil=>simp [indexByte]
 |cons x r d=>
  have f:(x==c)=false:=by simpa using fun j:x=c=>h (by simp [j])
  have e:=d (fun i=>h (by simp [i]));have g:(((r.length:Int))== -1)=false:=ayZ;rw[uC,indexByte,f,e,g];simp
def aro{c:UInt8}(h:c∉T):cut T [c]=(T,[],false):=by rw[cut,index_one,aaS h];rfl
def arp{b:List UInt8}{c:UInt8}(h:c∉T):cut (T++c::b) [c]=(T,b,true):=by rw[cut,index_one,aaT h,if_pos Om];simp
def cL(q:Rat):List UInt8:=if q.den=1 then aR q.num else aR q.num++47::decDigits q.den
def pG{q:Rat}(h:q.den=1):cL q=aR q.num:=by rw[cL,if_pos h]
def qH(h:H.den≠1):cL H=aR H.num++47::decDigits H.den:=by rw[cL,if_neg h]
def acA(z:Int):cL (z:Rat)=aR z:=pG rfl
def PQ(h:H.den=1):cut (cL H) [47]=(aR H.num,[],false):=by rw[pG h];exact aro (uJ _)
def Pz(h:H.den≠1):cut (cL H) [47]=(aR H.num,decDigits H.den,true):=by rw[qH h];exact arp (uJ _)
def abe(h:cL H=cL I):H=I:=by
 have a:cut (cL H) [47]=cut (cL I) [47]:=by rw[h]
 by_cases d:H.den=1
 ·by_cases c:I.den=1
  ·rw[PQ d,PQ c] at a;injection a with f _;exact Rat.ext (AV f) (by rw[d,c])
  ·rw[PQ d,Pz c] at a;injection a with _ b;injection b with _ e;cases e
 ·by_cases c:I.den=1
  ·rw[Pz d,PQ c] at a;injection a with _ b;injection b with _ e;cases e
  ·rw[Pz d,Pz c] at a;injection a with f b;injection b with b _;exact Rat.ext (AV f) (V7 b)
def AE{n:Nat}(h:n<10^(e+1)):nDigits n<=e+1:=(aeH e n h).1
def akz(n:Nat):n<10^nDigits n:=lt_pow_nDigits n
def vW(z:Int):(aR z).length<=nDigits z.natAbs+1:=by rw[aR,bC,decDigits_length];split<;>simp<;>omega
def anf(k x:Nat):eP (k+1) x=UInt8.ofNat (48+x/10^k%10)::eP k x:=by
 induction k generalizing x with
 |zero=>simp [eP]
 |succ k a=>rw[eP,a (x/10),Nat.div_div_eq_div_mul,eI 10,<-fJ];rfl
def oG:List Nat->List UInt8
 | []=> []
 |x::r=>(eP 9 x).reverse++oG r
def ajX(l:List Nat)(x:Nat):oG (l++ [x])=oG l++(eP 9 x).reverse:=by
 induction l with
 |nil=>simp [oG]
 |cons y r a=>simp [oG,a]
def ajB(l:List Nat):(oG l).length=9*l.length:=by
 induction l with
 |nil=>rfl
 |cons x r a=>simp [oG,a,Hb];omega
def alg(h:Canon i)(d:i≠ []):∃z,oG i=(decDigits (val i)).reverse++List.replicate z 48:=by
 induction i with
 |nil=>exact absurd rfl d
 |cons x r b=>
  by_cases a:r= []
  ·subst a;refine⟨9 - nDigits x,?_⟩;rw[oG,(EI h.1.head).2];simp [oG]
  ·obtain⟨z,c⟩:=b h.tail a;refine⟨z,?_⟩;have e:decDigits (val (x::r))=decDigits (val r)++eP 9 x:=(by rw[nJ,oD,eI];exact Px 9 (val r) x (Ej h.tail a) azr)
   rw[oG,c,e];simp
def abx(d:bM l){k:Nat}(o:k<=l.length)(n:l.length<=k+2):
 B9^k*(limb l k+limb l (k+1)*B9)<=val l/\val l<B9^k*(limb l k+limb l (k+1)*B9+1):=by
 have e:=D2 l k;have f:(l.take k).length=k:=ay8;have g:=kL (d.take k);rw[f] at e g;have h:val (l.drop k)=limb l k+limb l (k+1)*B9:=by
  have c:(l.drop k).length<=2:=by rw[oB];omega
  have j:limb l k=limb (l.drop k) 0:=by simp [limb,fG]
  have i:limb l (k+1)=limb (l.drop k) 1:=by simp [limb,fG]
  rw[j,i];generalize l.drop k=m at c;match m,c with
  | [],_=>rfl
  | [a],_=>simp [limb]
  | [a,b],_=>simp [limb];exact eI _ _
 rw[h] at e;generalize limb l k+limb l (k+1)*B9=t at e;rw[e,gO,l8];omega
def aqE(g:c*e<=a)(f:a<c*(e+1))(k:c*d<=b)(j:b<c*(d+1))(i:0<e):
 a*(d/ (e+1))<=b/\b<a*(d/e+1):=by
 constructor
 ·have h:a*(d/ (e+1))<=c*(e+1)*(d/ (e+1)):=fc _ (qI f);have l:c*(e+1)*(d/ (e+1))<=c*d:=(by rw[gF];exact jt _ (Nat.mul_div_le _ _))
  omega
 ·have h:d+1<=e*(d/e+1):=Nat.lt_mul_div_succ d i;have l:c*(d+1)<=c*(e*(d/e+1)):=jt _ h;have m:c*(e*(d/e+1))<=a*(d/e+1):=(by rw[<-gF];exact fc _ g)
  omega
def aqD(a:Canon i)(d:Canon j)(k:val j<=val i)(m:val i<B9*val j):j.length<=i.length/\i.length<=j.length+1:=by
 refine⟨GK a d k,?_⟩;rcases cA (j.length+1) i.length with h|h
 ·exfalso;have l:=GR a.2 Om;have g:=kL d.1;have f:B9^(j.length+1)<=B9^(i.length - 1):=gM Od Om;rw[fJ] at f;have e:B9*val j<=B9*B9^j.length:=jt _ (qI g);rw[eI B9 (B9^j.length)] at e;omega
 ·exact h
def aoR(f:a<i.length)(h:val (i.drop (a+1))=val j*c+b)(g:c*d<=limb i a+B9*b):
 val (i.drop a)=val (d::j)*c+(limb i a+B9*b - c*d):=by
 rw[gP f] at g⊢;rw[i6 f,nJ,nJ,h];have e:B9*(val j*c+b)=B9*val j*c+B9*b:=by rw[gO,gF]
 have k:(d+B9*val j)*c=c*d+B9*val j*c:=by rw[k9,eI d c]
 rw[e,k];omega
def amA:ko prog 124 249 1 8:= .mk' underlying124 adv rfl Od Od
def KW(n:Nat)(e:Int)(r:List Nat)(m:Nat):Prop:=
 bM r/\val r+B9^r.length*m=n/\((0<e/\e=nDigits m/\∃t,decDigits n=decDigits m++t)\/(e<=0/\m=0))
def ajJ(n:Nat):KW n (nDigits n) [] n:=⟨kJ,by simp,.inl ⟨by have:=nDigits_pos n;omega,rfl,[],by simp⟩⟩
def aek{l:List UInt8}(a b:Nat):((ByteArray.mk l.toArray).extract a b).data.toList=(l.take b).drop a:=by rw[ByteArray.data_extract,Array.toList_extract,List.extract_eq_take_drop,List.drop_take]
def ajK(h:KW a B i b)(w:0<B):
 ∃(k E x u:Nat),B=E/\k=E - 9/\k<=E/\E<=nDigits a/\x<B9/\parseUintB 64 (((decDigits a).take E).drop k)= .ok x/\KW a (B - 9) (i++ [x]) u:=by
 obtain⟨q,p,⟨_,s,t,j⟩|⟨z,_⟩⟩:=h
 ·have c:nDigits b<=nDigits a:=by rw[<-decDigits_length,<-decDigits_length,j,bC];omega
  have d:(decDigits a).take (nDigits b)=decDigits b:=by rw[j,<-decDigits_length b,List.take_left'];rfl
  by_cases f:b<B9
  ·have y:=(EI f).1;refine⟨0,nDigits b,b,0,s,by omega,by omega,c,f,by rw[d,mO];exact alo f,q.snoc f,?_,.inr ⟨by omega,rfl⟩⟩;rw[pH,Ay,jK];exact p
  ·have o:B9<=b:=aaH f;have l:=ada o;have v:nDigits b=nDigits (b/B9)+9:=by rw[<-decDigits_length,l,bC,Hb,decDigits_length]
   have g:b%B9<B9:=fg _ Od;refine⟨nDigits (b/B9),nDigits b,b%B9,b/B9,s,by omega,by omega,c,g,?_,q.snoc g,?_,.inl ⟨?_,by omega,eP 9 (b%B9)++t,by rw[j,l,iB]⟩⟩
   ·rw[d,l,<-decDigits_length (b/B9),List.drop_left];exact ana g
   ·rw[pH,bC,iM,fJ,<-p,gF,DR,<-gO];congr 2;rw[oD];exact vQ b B9
   ·have:=nDigits_pos (b/B9);omega
 ·omega
def akr(h:KW a B i b)(d:¬0<B):bM i/\val i=a:=by
 obtain⟨f,c,⟨j,_⟩|⟨_,g⟩⟩:=h
 ·exact absurd j d
 ·rw[g,Ay,jK] at c;exact⟨f,c⟩
def D7(z:Int)(w:au)(K:eJ z):
 Calls prog 175 #[aO (aR z)] w fun e X=>∃v,e= .returned v/\cH X v z/\Ext w X:=by
 have HT:=af (UD z);have HF:=af K;have vt:nDigits z.natAbs<=9000000:=(by unfold eJ Fit at K;exact m89)
 clear K;go_enter func175,ntmps175;go_wp2_with fail;refine aP (P:=fun W=>Calls _ _ _ W _) fun W HX HR=> ?_;refine(Tryz.strings_CutPrefix _ _ W).mono ?_;rintro e w1 ⟨rfl,rfl⟩;rw[HT.1,HT.2];have HZ:ah (signed (decide (z<0)) z.natAbs=z):=by unfold ah signed;by_cases h:z<0<;>simp [h]<;>omega
 generalize aR z=tz at*;generalize decide (z<0)=J at*;generalize hn:z.natAbs=n at*;have HN:=af hn;clear hn;have i:(decDigits n).length=nDigits n:=decDigits_length n;go_wp2_with fail
 have a:(ByteArray.mk (decDigits n).toArray).size=nDigits n:=by rw[<-i];rfl
 have qp:=af a;clear i a;go_loopw [5,6,7,8] (fun v5 I _ _ wr=>∃(e:Int) (m:Nat) (r:List Nat),I=av e/\ah (KW n e r m)/\r.length<=1000001/\ah (wr.ownsRow (w.heap.size+1) 249 1 v5 r.length (cX r))/\ah (Below (w.heap.size+1) w1 wr)/\e<=9000000 - 9*(r.length:Int)) (fun _ I _ _ _=>(RowKit.intOf I+9).toNat);exact⟨_,n,[],rfl,ajJ n,by simp,lJ _ _ _ _,AH _ _,by simp;omega⟩;obtain⟨e,m,r,rfl,C,h_,D,f,hel⟩:=hrel;by_cases he:0<e
 ·obtain⟨k,E,x,m',rfl,G,hkE,y,Y,hp,s⟩:=ajK C he;have Qs:max (0:Int) ((E:Int) - 9)=(k:Int):=Om;have HKE:=af G;have Q:=af s;have HP:=af hp;have hEl:E<=(decDigits n).length:=by rw[decDigits_length];exact y
  have Cv:=af Y;clear G hp s Y y;go_wp2_with fail;refine(Tryz.strconv_ParseUint_10_at64_ok _ ?_ x ?_ wr).mono ?_
  ·have:(ByteArray.extract ⟨(decDigits n).toArray⟩ k E).size<=E:=by simp [ByteArray.size_extract];omega
   omega
  ·rw[aek];exact HP
  rintro e H ⟨rfl,o⟩;have d:Ext wr H:=by
   rcases o with rfl|rfl
   ·exact aC _
   ·exact Lib.bytesWorld_below _ _ _
  have a:w.heap.size+1<=wr.heap.size:=by have:=f.size;have:=HR.lt;omega
  have g:w.heap.size+1<=H.heap.size:=a8 a d.size;have F:=af (En D d);have U:=af (f.trans (d.mono a));clear o d a;go_wp2_with (at_builtin;refine gG rfl _ _ 124 rfl (w.heap.size+1) amA _ _ _ rfl F.ae #[.int .u64 x] 1 1 rfl rfl rfl Om g ?_)
  intro v' V t u _;have b:=af (U.grown u g (fun k G=>(F.lt k G).1));have R:ah (V.ownsRow (w.heap.size+1) 249 1 v' (r++ [x]).length (cX (r++ [x]))):=by rw[ah,bC];simpa [cX] using t
  clear t u;go_wp2;go_roundw;exact⟨_,m',r++ [x],rfl,Q,by simp;omega,R,b,by simp;omega⟩;simp [RowKit.intOf];omega
 ·have HE:=af (akr C he);obtain⟨A,c,rfl,hc,_,O⟩:=dZ D;have HS:=af O;have M:ah (Ext w wr):=sZ HX (f.mono (l9 _));have T:ah (ar wr w.heap.size dC [.bool false,.slice none 0 0]):=(f.block w.heap.size Om).trans HR.ae;go_wp2_with fail
  refine(uO A c r.length r wr rfl hc Om HE.1 HS).mono ?_;rintro e H ⟨r2,L,rfl,j,Z,q,rfl⟩;have S:=af (eU.mk' (n:=n) j (Z.trans HE.2) (a8 L hc) q);clear j Z q;go_wp2_with fail
  refine(s6 J _ n wr S (by have:=HF.ae;rwa[eJ,HN.ae] at this)).mono ?_;rintro e V ⟨v3,rfl,p,l⟩;obtain⟨b3,A3,n3,c3,rfl,B⟩:=p.parts;have b:=af (T.ext l);have N:=af (M.trans l);obtain⟨k0,k1⟩:=b.two;have f0:=b.frozen 0;have f1:=b.frozen 1;rw[HZ.ae] at B;clear p l;go_wp2;exact x_ rfl rfl rfl b.ae B N (aK _) (fun v W' h1 h2=>⟨v,rfl,h1,h2⟩)
def DO(h:a<T.length):(byteCells T)[a]?=some (.int .u8 (T[a].toNat:Int)):=by simp [byteCells,h]
def ab9(l:List UInt8)(w:au):∃W b,(convert 9 192 (aO l)).run prog w= .ok (aG w.heap.size 0 l.length b) W/\Ext w W/\Sl W 5 (cT w.heap.size 0) (byteCells l):=by
 refine⟨_,_,Lib.run_convert_string_bytes w 9 192 5 ⟨l.toArray⟩ underlying9 underlying192 underlying5,Lib.bytesWorld_below _ _ _,?_⟩;intro j u a;refine⟨w.heap.size,0,_,_,rfl,Lib.bytesWorld_at_new _ _ _,?_⟩;have c:j<l.length:=by
  rcases cA j l.length with h|h
  ·exact h
  ·rw[fH (by simpa [byteCells] using h)] at a;cases a
 rw[<-a,jc,Lib.bytesCells,Array.getElem?_append_left ay7];simp [byteCells,c]
def Kn(z:Int)(w:au)(l:nDigits z.natAbs<=400):
 Calls prog 172 #[aO (aR z)] w fun e H=>e= .returned (.bool true)/\Ext w H:=by
 have F:=af (UD z);by_cases v:z=0
 ·subst v;have D:aR 0= [48]:=Eg;rw[D];clear D l;go_enter func172,ntmps172;go_wp2;go_ret;exact⟨rfl,aC _⟩
 ·obtain⟨c,r,j,E,t⟩:=VD (n:=z.natAbs) Om;have f:(c::r).length<=400:=by rw[<-j,decDigits_length];exact l
  have K:(aR z== [48])=false:=(by rw[beq_eq_false_iff_ne];intro h;have:aR z=aR 0:=h.trans Eg.symm;exact v (AV this));have i:((c.toNat:Int)==48)=false:=(by rw[beq_eq_false_iff_ne];intro h;exact E (Ts azs));have B:ah (∀x∈c::r,lM x):=by rw[ah,<-j];exact AG _
  rw[j] at F;clear E t j l v;generalize aR z=O at*;go_enter func172,ntmps172;go_wp2_with fail;refine(Tryz.strings_TrimPrefix _ _ w).mono ?_;rintro e G ⟨rfl,rfl⟩;rw[F.1];obtain⟨W,M,hcv,C,d⟩:=ab9 (c::r) G;have A:=af d;have N:=af C;clear d C;have L:(r.length:Int)+1<=400:=by rw[cW] at f;omega
  have m:0<(ByteArray.mk (c::r).toArray).size:=by simp [ByteArray.size]
  have u:((((ByteArray.mk (c::r).toArray)[0]'m).toNat:Int)==48)=false:=i;go_wp2_with fail;clear hcv;go_loop [5,25] (fun _ a=>∃k:Nat,k<=r.length+1/\a=av k) (fun _ a=>r.length+1 - (RowKit.intOf a).toNat);exact⟨0,aT _,rfl⟩;obtain⟨k,P,rfl⟩:=hrel;by_cases p:k<r.length+1
  ·have q:k<(c::r).length:=by rw[cW];exact p
   have s:=B ((c::r)[k]) Ou;unfold lM at s;obtain⟨g,o,y,_,b⟩:=A.at_ (DO q);injection y with y;cases y;rw[jc] at b;generalize(c::r)[k].toNat=x at*;have J:¬(x:Int)<48:=Om;have I:¬(57:Int)<x:=Om;exact Xc
  ·go_wp2;go_ret;exact⟨rfl,N⟩
def KJ(l:List UInt8)(i j:Nat):(ByteArray.mk l.toArray).extract i j=⟨((l.take j).drop i).toArray⟩:=by
 have h:=aek (l:=l) i j;generalize(ByteArray.mk l.toArray).extract i j=x at h;cases x with
 |mk d=>rw[<-h]
def ab1(l:List UInt8)(w:au)(_hl:l.length<=100000000)(a:l≠ [47]):
 Calls prog 261 #[aO l,.string ⟨#[47]⟩] w fun e b=>e= .returned (av (indexByte l 47))/\b=w:=by
 have c:([47]==l)=false:=by rw[beq_eq_false_iff_ne];exact fun h=>a h.symm
 go_enter func261,ntmps261;go_wp2_with fail;refine(Tryz.stringslite_IndexByte _ _ w).mono ?_;rintro e b ⟨rfl,rfl⟩;go_wp2;go_ret;exact⟨rfl,rfl⟩
def akg(l:List UInt8)(w:au)(c:l.length<=100000000)(b:(47:UInt8)∉l):
 Calls prog 222 #[aO l,.string ⟨#[47]⟩] w fun e a=>e= .returned (.tuple #[aO l,.string ⟨#[]⟩,.bool false])/\a=w:=by
 have f:=af (aaS b);have g:ah (l≠ [47]):=fun h=>b (by simp [h]);have d:=af c;go_enter func222,ntmps222;go_wp2_with fail
 refine(ab1 l w d g).mono ?_;rintro e a ⟨rfl,rfl⟩;rw[f.ae];go_wp2;go_ret3;exact⟨rfl,rfl⟩
def q31.ahB(h:ai:=by
 show Ending.returned (Value.tuple #[.string ((ByteArray.mk l.toArray).extract 0 a.length),.string ((ByteArray.mk l.toArray).extract (a.length+1) l.length),.bool true])=_
 rw[e1,e2]):=h
def akf(a b:List UInt8)(w:au)(p:a.length+b.length<=10000000)(i:b≠ [])(g:(47:UInt8)∉a):
 Calls prog 222 #[aO (a++47::b),.string ⟨#[47]⟩] w fun e f=>e= .returned (.tuple #[aO a,aO b,.bool true])/\∃n,f=w.drewN n:=by
 have k:=af (aaT (b:=b) g);have m:ah (a++47::b≠ [47]):=fun h=>by
  have:=congrArg List.length h;rcases b with _|⟨x,r⟩
  ·exact i rfl
  ·simp at this;omega
 have j:ah ((a++47::b).length<=100000000):=by rw[ah,bC,cW];omega
 have c:(a++47::b).length=a.length+b.length+1:=Oc;obtain⟨l,d⟩:∃l,l=a++47::b:=⟨_,rfl⟩;have Nr:=af d;rw[<-d] at k m j c⊢;have o:=af c;have s:(a.length:Int)<=(l.length:Int):=Om;have q:(a.length:Int)+1<=(l.length:Int):=Om;clear g i d c;go_enter func222,ntmps222;go_wp2_with fail
 refine(ab1 l w j m).mono ?_;rintro e f ⟨rfl,rfl⟩;rw[k.ae];go_wp2;go_quiet (fail);go_wp2;go_ret3;refine⟨?_,_,rfl⟩;open q31 in exact agF
def Py(l:List UInt8)(w:au)(c:l.length<=100000000)(b:(47:UInt8)∉l):
 Calls prog 171 #[aO l,.string ⟨#[47]⟩] w fun e a=>e= .returned (.tuple #[aO l,.string ⟨#[]⟩,.bool false])/\Ext w a:=by
 have H:=af (akg l w c b);go_enter func171,ntmps171;go_wp2_with fail;refine H.mono ?_;rintro e a ⟨rfl,rfl⟩;go_wp2;go_ret3;exact⟨rfl,aC _⟩
def VE(a b:List UInt8)(w:au)(f:a.length+b.length<=10000000)(g:b≠ [])(d:(47:UInt8)∉a):
 Calls prog 171 #[aO (a++47::b),.string ⟨#[47]⟩] w fun e c=>e= .returned (.tuple #[aO a,aO b,.bool true])/\Ext w c:=by
 have H:=af (akf a b w f g d);generalize a++47::b=l at*;go_enter func171,ntmps171;go_wp2_with fail;refine H.mono ?_;rintro e c ⟨rfl,n,rfl⟩;go_wp2;go_ret3;exact⟨rfl,(aC _).drewN _⟩
def bS.dn(h:bS (a+1) H):nDigits H.num.natAbs<=a+1:=AE h.1
def bS.dd(h:bS (a+1) H):nDigits H.den<=a+1:=AE h.2
def td:aR 1= [49]:=l_ Od
def aoO(w:au):Calls prog 175 #[.string ⟨#[49]⟩] w fun e a=>∃v,e= .returned v/\cH a v 1/\Ext w a:=by have h:=D7 1 w Ef.wide;rw[td] at h;exact h
def an0(q:Rat)(w:au)(d:bS (a+1) q)(y:a<=100000):
 Calls prog 112 #[aO (cL q)] w fun a r=>∃v,a= .returned v/\b_ r v q/\Ext w r:=by
 have s:=af (d.num Om).wide;have x:=af (d.den Om).wide;have i:=vW q.num;have g:=d.dn;have j:=d.dd;by_cases h1:q.den=1
 ·have m:=af (pG h1);have b:(aR q.num).length<=100000000:=Om;have n:=af b;have H1:=af h1;clear i g j b h1 d;rw[m.ae];go_enter func112,ntmps112;go_wp2_with fail
  refine aP (P:=fun W=>Calls _ _ _ W _) fun W HX HR=> ?_;refine(Py (aR q.num) W n (uJ _)).mono ?_;rintro a l ⟨rfl,hx1⟩;go_wp2_with fail;refine(D7 q.num l s).mono ?_;rintro a k ⟨u,rfl,hv2,hx2⟩;obtain⟨b2,A2,n2,c2,rfl,pd⟩:=hv2.parts;go_wp2_with fail;refine(aoO k).mono ?_;rintro a w3 ⟨t,rfl,hv3,hx3⟩;obtain⟨b3,A3,n3,c3,rfl,MX⟩:=hv3.parts;exact m65
 ·have m:=af (qH h1);have b:(aR q.num).length+(decDigits q.den).length<=10000000:=azZ;have n:=af b;have o:ah (decDigits q.den=aR q.den):=(rS _).symm;clear i g j b h1 d;rw[m.ae];generalize f:aR q.num=dn at*;generalize hdd:decDigits q.den=dd at*;have c:=af f;have p:=af hdd;clear f hdd;go_enter func112,ntmps112;go_wp2_with fail
  refine aP (P:=fun W=>Calls _ _ _ W _) fun W HX HR=> ?_;refine(VE dn dd W n (by rw[<-p.ae];exact DZ _) (by rw[<-c.ae];exact uJ _)).mono ?_;rintro a l ⟨rfl,hx1⟩;go_wp2_with fail;rw[<-c.ae];refine(D7 q.num l s).mono ?_;rintro a k ⟨u,rfl,hv2,hx2⟩;obtain⟨b2,A2,n2,c2,rfl,pd⟩:=hv2.parts;rw[c.ae];go_wp2_with fail;rw[o.ae];refine(D7 q.den k x).mono ?_;rintro a w3 ⟨t,rfl,hv3,hx3⟩;obtain⟨b3,A3,n3,c3,rfl,MX⟩:=hv3.parts;have H1:ah (((q.den:Nat):Int)=q.den):=rfl;exact m65
def ap9(a b:List UInt8):(ByteArray.mk a.toArray)++(ByteArray.mk b.toArray)=⟨(a++b).toArray⟩:=by
 apply ByteArray.ext
 rw[ByteArray.data_append];simp
def KU(a b:List UInt8)(w:au)(h:a.length+b.length<=1000000):(Op.stringOp .add ⟨a.toArray⟩ ⟨b.toArray⟩).run prog w= .ok (aO (a++b)) w:=by have:=run_string_add_sum (P:=prog) (w:=w) ⟨a.toArray⟩ ⟨b.toArray⟩ (by simp [ByteArray.size];omega);rw[ap9] at this;exact this
def aeh(v:Value)(q:Rat)(w:au)(h:b_ w v q)(p:bS a q)(S:a<=100000)(s:eR w):
 Calls prog 60 #[v] w fun a o=>a= .returned (aO (cL q))/\Ext w o:=by
 have L:=af (fun(w:au) (h:b_ w v q)=>Uy v q w h p Om);obtain⟨b,A,n,c,K,e,R,X,rfl,H,Y⟩:=h.parts;have N:=af (p.num Om).wide;have Z:=af (p.den Om).wide;have M:=af h;have y:=af s;have B:ah (decDigits q.den=aR q.den):=(rS _).symm;have r:ah ((aR q.num).length<=100002/\(aR q.den).length<=100002):=(by have l:=vW q.num;have V:=vW q.den;have h3:=AE (cE p.1 (gM Od (l9 a)));have h4:=AE (cE p.2 (gM Od (l9 a)));rw[f6] at V;exact⟨by omega,by omega⟩)
 clear h p S s;by_cases l:q.den=1
 ·have u:decide (q.den=1)=true:=decide_eq_true l;have z:=af (pG l);clear l;rw[z.ae];go_enter func60,ntmps60;go_wp2_with fail
  refine aP (P:=fun W=>Calls _ _ _ W _) fun W m C=> ?_;refine(L W (M.ext m)).mono ?_;rintro a D ⟨rfl,d⟩;rw[u];obtain⟨I,G,F,E⟩:=(C.ext d).four;go_wp2_with fail;refine(Ui _ q.num D (H.ext (m.trans d)) N (y.ext (m.trans d))).mono ?_;rintro a O ⟨rfl,i⟩;go_wp2;go_ret;exact⟨rfl,m.trans (d.trans i)⟩
 ·have u:decide (q.den=1)=false:=decide_eq_false l;have z:=af (qH l);clear l;go_enter func60,ntmps60;go_wp2_with fail
  refine aP (P:=fun W=>Calls _ _ _ W _) fun W m C=> ?_;refine(L W (M.ext m)).mono ?_;rintro a Q ⟨rfl,k⟩;rw[u];have j:=af (C.ext k);have g:=af (m.trans k);obtain⟨I,G,F,E⟩:=j.four;clear k;have t:=fun(x:au) (h:cH x (.agg #[.bool b,.slice A n c]) q.num) (s:eR x)=>Ui _ q.num x h N s;have U:=fun w=>KU (aR q.num) [47] w (by have:=r.ae;simp;omega);have T:=fun w=>KU (aR q.num++ [47]) (aR q.den) w (by have:=r.ae;simp;omega);generalize J:aR q.num=dn at*;have HQ:=af J;clear J;go_wp2_with fail
  go_region_held3 (fun o=>ay o w.heap.size 0 (.bool b)/\ay o w.heap.size 1 (.slice A n c)/\ay o w.heap.size 2 (.bool K)/\ay o w.heap.size 3 (.slice e R X)) (first|with_reducible exact⟨I,G,F,E⟩|with_reducible exact j.ae.drew.four|with_reducible exact(j.ae.ext f).four|with_reducible exact(j.ae.ext (f.trans i)).four)
   (first
     |(go_at_call 121;(with_reducible show Calls _ _ #[Value.agg #[Value.bool b,_]] _ _);refine(t _ (H.ext (by exact g.drew)) (y.ext (by exact g.drew))).mono ?_;rintro a D ⟨rfl,d⟩;have f:=(aC Q).drew.trans d)
     |(go_at_call 121;(with_reducible show Calls _ _ #[Value.agg #[Value.bool K,_]] _ _);refine(Ui _ q.den _ (Y.ext (by exact g.trans f)) Z (y.ext (by exact g.trans f))).mono ?_;rintro a O ⟨rfl,i⟩))
  go_wp2;go_ret;exact⟨by rw[z.ae,B.ae,List.append_cons];rfl,g.trans (f.trans i)⟩
def anF(h:nDigits a<=b):a<10^b:=cE (akz a) (gM Od h)
def arh(b:a<=1000000)(h:nDigits B.natAbs<=a):cM B:=⟨a,b,anF h⟩
def qL(h:nDigits B.natAbs<=400):cM B:=arh Od h
def UZ(z:Int)(w:au)(i:eJ z):
 Calls prog 173 #[aO (aR z)] w fun e h=>∃v,e= .returned v/\cH h v z/\Ext w h:=by
 have o:=af i;clear i;generalize j:aR z=d at*;have p:=af j;clear j;go_enter func173,ntmps173;go_wp2_with fail
 refine aP (P:=fun W=>Calls _ _ _ W _) fun W m n=> ?_;rw[<-p.ae];refine(D7 z W o).mono ?_;rintro e q ⟨r,rfl,c,b⟩;obtain⟨y,B,s,x,rfl,g⟩:=c.parts;have a:=af (n.ext b);have f:=af (m.trans b);obtain⟨u,t⟩:=a.two;have f0:=a.frozen 0;have f1:=a.frozen 1;clear c b;go_wp2;exact x_ rfl rfl rfl a.ae g f (aK _) (fun v A l k=>⟨v,rfl,l,k⟩)
def aj_(x y:Int)(w:au)(l:nDigits x.natAbs<=400)(g:nDigits y.natAbs<=400):
 Calls prog 221 #[aO (aR x),aO (aR y)] w fun e q=>e= .returned (av (x - y).sign)/\Ext w q:=by
 have s:=af (fun w=>Kn x w l);have r:=af (fun w=>Kn y w g);have u:=af (fun w=>UZ x w (qL l).wide);have t:=af (fun w=>UZ y w (qL g).wide);have B:=af (qL l);have A:=af (qL g);generalize aR x=a at*;generalize aR y=b at*;go_enter func221,ntmps221;go_wp2_with fail
 refine(s w).mono ?_;rintro e p ⟨rfl,k⟩;go_wp2_with fail;refine(r p).mono ?_;rintro e o ⟨rfl,j⟩;go_wp2_with fail;refine(u o).mono ?_;rintro e n ⟨E,rfl,f,i⟩;obtain⟨K,M,G,I,rfl,z⟩:=f.parts;go_wp2_with fail;refine(t n).mono ?_;rintro e m ⟨D,rfl,d,c⟩;obtain⟨J,L,F,H,rfl,v⟩:=d.parts;go_wp2_with fail;refine(J9 _ _ x y m (f.ext c) d B A).mono ?_;rintro e C ⟨rfl,h⟩;go_wp2;go_ret;exact⟨rfl,k.trans (j.trans (i.trans (c.trans h)))⟩
def aj'(x:Int)(w:au)(b:nDigits x.natAbs<=400):
 Calls prog 221 #[aO (aR x),.string ⟨#[49]⟩] w fun e a=>e= .returned (av (x - 1).sign)/\Ext w a:=by
 have h:=aj_ x 1 w b (by rw[show(1:Int).natAbs=1 from rfl,nDigits_small Od];decide);rw[td] at h;exact h
def arP(w:au):Calls prog 142 #[av 1] w fun e a=>∃b,e= .returned b/\cH a b 1/\Ext w a:=La 1 w Od Od
def ala(q:Rat)(w:au)(x:bS 400 q):
 Calls prog 170 #[aO (cL q)] w fun e Q=>e= .returned (.bool true)/\Ext w Q:=by
 have F:=af (fun w=>Kn q.num w x.dn);have v:=vW q.num;have f:=x.dn;have n:=x.dd;by_cases h1:q.den=1
 ·have G:=af (pG h1);rw[G.ae];have c:=uJ q.num;generalize aR q.num=a at*;have I:=af (fun w=>Py a w Om c);clear v f n h1 x c;go_enter func170,ntmps170;go_wp2_with fail
  refine(I w).mono ?_;rintro e A ⟨rfl,j⟩;go_wp2_with fail;refine(F A).mono ?_;rintro e z ⟨rfl,i⟩;go_wp2_with fail;refine(F z).mono ?_;rintro e J ⟨rfl,g⟩;go_wp2;go_ret;exact⟨rfl,j.trans (i.trans g)⟩
 ·have G:=af (qH h1);have d:nDigits (q.den:Int).natAbs<=400:=by rw[f6];exact n
  have S:=af (fun w=>Kn q.den w d);have C2:=af (fun w=>aj' q.den w d);have U:=af (fun w=>D7 q.num w (qL f).wide);have T:=af (fun w=>D7 q.den w (qL d).wide);have F1:=af (qL f);have F2:=af (qL d);have u:((q.den:Int) - 1).sign=1:=Dx aAd;have H:=af u;have R:(aR q.num== [48])=false:=(by exact agv)
  have K:Int.gcd q.num q.den=1:=q.reduced;have Z:=af K;have y:decDigits q.den=aR q.den:=(rS _).symm;rw[G.ae];have c:=uJ q.num;have l:=DZ q.den;have m:(aR q.num).length+(decDigits q.den).length<=10000000:=azZ;rw[y] at l m⊢;generalize aR q.num=a at*;generalize aR q.den=b at*;have I:=af (fun w=>VE a b w m l c);generalize a++47::b=ab at*;clear v f n h1 x c d u K y l m;go_enter func170,ntmps170;go_wp2_with fail
  refine(I w).mono ?_;rintro e A ⟨rfl,j⟩;go_wp2_with fail;refine(F A).mono ?_;rintro e z ⟨rfl,i⟩;go_wp2_with fail;refine(S z).mono ?_;rintro e J ⟨rfl,g⟩;go_wp2_with fail;refine(C2 J).mono ?_;rintro e P ⟨rfl,E⟩;rw[H.ae];go_wp2_with fail;refine(U P).mono ?_;rintro e O ⟨v5,rfl,t,D⟩;obtain⟨b5,A5,n5,c5,rfl,Y⟩:=t.parts;go_wp2_with fail;refine(T O).mono ?_;rintro e N ⟨v6,rfl,s,p⟩;obtain⟨b6,A6,n6,c6,rfl,X⟩:=s.parts;go_wp2_with fail;refine(abM _ _ q.num q.den N (t.ext p) s F1 F2).mono ?_;rintro e M ⟨v7,rfl,k,C⟩;rw[Z.ae] at k;obtain⟨b7,A7,n7,c7,rfl,W⟩:=k.parts;go_wp2_with fail;refine(arP M).mono ?_;rintro e L ⟨v8,rfl,r,o⟩;obtain⟨b8,A8,n8,c8,rfl,V⟩:=r.parts;go_wp2_with fail;refine(J9 _ _ 1 1 L (k.ext o) r Ef Ef).mono ?_;rintro e w9 ⟨rfl,B⟩;go_wp2;go_ret;exact⟨rfl,j.trans (i.trans (g.trans (E.trans (D.trans (p.trans (C.trans (o.trans B)))))))⟩
end
end Go.Proofs.YthfffpcmldipgaaGreatDoor
