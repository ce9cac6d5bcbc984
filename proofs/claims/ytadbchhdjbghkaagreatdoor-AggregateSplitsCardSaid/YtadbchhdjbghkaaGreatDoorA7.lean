/- Texts of the proof, part 7. -/
import Derived.Test.YtadbchhdjbghkaaGreatDoorA6
namespace Go.Proofs.YtadbchhdjbghkaaGreatDoor
set_option maxHeartbeats 8000000
set_option linter.all false
set_option maxRecDepth 100000
variable{aq:Prop}
open Go.RowKit Go.Lib Go.Maps Go.ChangeShapes Go.WideShapes Go.ChangeAt Go.Proofs.Tryz
variable{a b c d e f g h:Nat}{i j k l:List Nat}{m n o:World}{p q r s:Value}{t u v:List Value}{w x:TypeId}{y z:Nat→Option Nat}{A:Nat→List Nat}{B C:Int}{E F:Option Addr}{H I:Rat}{J:Nat→Nat}{K:Nat→Bool}{L:List Int}{N:Array Bool}{O:Option Nat}{Q:Act}{R S:Bool}{T:List UInt8}
def bK.inv(h:bK m (.agg #[.bool R,.slice E a b]) B):R=decide (B<0)/\a=(aW B.natAbs).length/\sG E a b/\l8 m E (aW B.natAbs):=by obtain⟨j,i,e,f,d⟩:=h;simp at e;obtain⟨rfl,rfl,rfl,rfl⟩:=e;exact⟨rfl,rfl,f,d⟩
structure fA(W:au)(g:Nat)(x0 x1 y0 y1 z0 z1:Value):Prop where
 a:ar W g bk [x0,x1]
 b:ar W (g+1) bk [y0,y1]
 r:ar W (g+1+1) bk [z0,z1]
def fA.new(w:au)(x0 x1 y0 y1 z0 z1:Value):fA (((w.alloc (Obj.cells #[x0,x1] bk)).alloc (Obj.cells #[y0,y1] bk)).alloc (Obj.cells #[z0,z1] bk)) w.heap.size x0 x1 y0 y1 z0 z1:=
 ⟨((jg w bk [x0,x1] _ rfl).alloc _).alloc _,(jg (w.alloc (Obj.cells #[x0,x1] bk)) bk [y0,y1] _ Ou).alloc _,jg ((w.alloc (Obj.cells #[x0,x1] bk)).alloc (Obj.cells #[y0,y1] bk)) bk [z0,z1] _ Ou⟩
section
variable{W W':au}{g:Nat}{x0 x1 y0 y1 z0 z1:Value}
theorem fA.ext(h:fA W g x0 x1 y0 y1 z0 z1)(c:Ext W W'):fA W' g x0 x1 y0 y1 z0 z1:=⟨h.a.ext c,h.b.ext c,h.r.ext c⟩
theorem fA.drew(h:fA W g x0 x1 y0 y1 z0 z1):fA W.drew g x0 x1 y0 y1 z0 z1:=⟨h.a,h.b,h.r⟩
theorem fA.drewN(h:fA W g x0 x1 y0 y1 z0 z1)(n:Nat):fA (W.drewN n) g x0 x1 y0 y1 z0 z1:=⟨h.a,h.b,h.r⟩
theorem fA.put(h:fA W g x0 x1 y0 y1 z0 z1)(u v:Value):fA ((W.setCell (aC (g+1+1) 0) u).setCell (aC (g+1+1) 1) v) g x0 x1 y0 y1 u v:=
 ⟨(h.a.far (p:=aC (g+1+1) 0) awy u).far (p:=aC (g+1+1) 1) awy v,(h.b.far (p:=aC (g+1+1) 0) aws u).far (p:=aC (g+1+1) 1) aws v,(h.r.bu 0 u).bu 1 v⟩
theorem fA.cells(h:fA W g x0 x1 y0 y1 z0 z1):aA W g 0 x0/\aA W g 1 x1/\aA W (g+1) 0 y0/\aA W (g+1) 1 y1:=
 ⟨h.a.aF 0,h.a.aF 1,h.b.aF 0,h.b.aF 1⟩
theorem fA.res(h:fA W g x0 x1 y0 y1 z0 z1):aA W (g+1+1) 0 z0/\aA W (g+1+1) 1 z1/\W.frozen? (aC (g+1+1) 0)=false/\W.frozen? (aC (g+1+1) 1)=false:=
 ⟨h.r.aF 0,h.r.aF 1,h.r.frozen 0,h.r.frozen 1⟩
end
def nZ(w:au)(v:Value)(n:Nat):Prop:=∃A l c,v= .slice A l.length c/\sG A l.length c/\bH l/\l8 w A l/\l.length<=100000000/\val l=n
def nZ.parts(h:nZ m p a):∃A b c,p= .slice A b c/\ah (nZ m (.slice A b c) a):=by obtain⟨A,l,c,rfl,r⟩:=h;exact⟨A,_,c,rfl,⟨A,l,c,rfl,r⟩⟩
def nZ.ext{w':au}{n:Nat}(h:nZ m p n)(a:Ext m w'):nZ w' p n:=by obtain⟨A,l,c,rfl,e,d,b,r⟩:=h;exact⟨A,l,c,rfl,e,d,b.ext a,r⟩
def Bd(a:Bool)(s:Value)(n:Nat)(w:au)(h:nZ w s n):
 Calls prog 156 #[.agg #[.bool a,s]] w fun e b=>∃d,e= .returned d/\bK b d (signed a n)/\Ext w b:=by
 obtain⟨A,l,c,rfl,k,j,f,i,rfl⟩:=h;exact Rj _ a l w ⟨A,c,rfl,k,j,f⟩ i
def amd(q:bK m (.agg #[.bool R,.slice E a b]) B)(p:bK m (.agg #[.bool S,.slice F c d]) C)(v:d6 B)(u:d6 C):
 Calls prog 160 #[.slice E a b,.slice F c d] m fun e h=>∃i,e= .returned i/\nZ h i (B.natAbs+C.natAbs)/\Ext m h:=by
 obtain⟨_,rfl,_,t⟩:=q.inv;obtain⟨_,rfl,_,s⟩:=p.inv;unfold d6 Fit at v u;refine(akg E F b d _ _ m Om Om (cW _).1 (cW _).1 t s).mono ?_;rintro e h ⟨A,r,f,o,z,rfl,n,k,l,j⟩;exact⟨_,rfl,⟨A,r,f,rfl,o,n,l,by omega,by rw[k,dm,dm]⟩,j⟩
def aaT{w:au}{Aa Ab:aR}{ca cb:Nat}(i:bK w (.agg #[.bool R,.slice Aa a ca]) B)(f:bK w (.agg #[.bool S,.slice Ab b cb]) C)(k:d6 B)(j:d6 C)(hle:C.natAbs<=B.natAbs):
 Calls prog 162 #[.slice Aa a ca,.slice Ab b cb] w fun e w'=>∃d,e= .returned d/\nZ w' d (B.natAbs - C.natAbs)/\Ext w w':=by
 obtain⟨_,rfl,iB,h1⟩:=i.inv;obtain⟨_,rfl,_,h2⟩:=f.inv;unfold d6 Fit at k j;exact m86
def abZ(i:bK m (.agg #[.bool R,.slice E a b]) B)(h:bK m (.agg #[.bool S,.slice F c d]) C)(o:d6 B)(l:d6 C):
 Calls prog 161 #[.slice E a b,.slice F c d] m fun e f=>e= .returned (av (d7 B.natAbs C.natAbs))/\∃n,f=m.drewN n:=by
 obtain⟨_,rfl,_,k⟩:=i.inv;obtain⟨_,rfl,_,j⟩:=h.inv;unfold d6 Fit at o l;have:=aaS E F b d _ _ m Om Om (cW B.natAbs) (cW C.natAbs) k j;rwa[dm,dm] at this
def q47.Jh(h:aq:=by
 go_region_held3 (fun a=>aA a w.heap.size 0 (.bool ba)/\aA a w.heap.size 1 (.slice Aa na ca)/\aA a (w.heap.size+1) 0 (.bool bb)/\aA a (w.heap.size+1) 1 (.slice Ab nb cb)) (first|with_reducible exact⟨c0,c1,c2,c3⟩|with_reducible exact H0.ae.drew.cells|with_reducible exact(H0.ae.drew.ext c).cells|with_reducible exact i.ae.cells|with_reducible exact(i.ae.put _ _).cells)
  (first
    |(go_at_call 160;refine(amd (n.ext avR) (B.ext avR) H G).mono ?_;rintro e J ⟨L,rfl,j,c⟩;obtain⟨T,m1,F,rfl,m⟩:=j.parts)
    |(go_at_call 156;refine(Bd ba _ _ _ m).mono ?_;rintro e I ⟨K,rfl,f,d⟩;obtain⟨R,S,M,E,rfl,l⟩:=f.parts;have i:=af (H0.drew.ext (c.trans d));obtain⟨Q,P,O,N⟩:=i.res;clear f))
 go_wp2;refine ul rfl rfl rfl i.r l (bP.drew.trans (c.trans d)) Om (fun v W' u D=>⟨v,rfl,?_,D⟩);rw[n.inv.1,Y8 k.ae] at u;exact u):=h
def akr(p o:Value)(x y:Int)(w:au)(t:bK w p x)(s:bK w o y)(A:d6 x)(z:d6 y)(b:decide (x<0)=decide (y<0)):
 Calls prog 87 #[p,o] w fun e a=>∃q,e= .returned q/\bK a q (x+y)/\Ext w a:=by
 obtain⟨ba,Aa,na,ca,rfl,n⟩:=t.parts;obtain⟨bb,Ab,nb,cb,rfl,B⟩:=s.parts;have C:(ba==bb)=true:=by rw[n.inv.1,B.inv.1,b];simp
 have k:=af b;have H:=af A;have G:=af z;clear t s A z b;go_enter func87,ntmps87;go_wp2_with fail
 open q47 in exact m12
def q50.afK(h:aq:=by
 go_region_held3 (fun a=>aA a w.heap.size 0 (.bool ba)/\aA a w.heap.size 1 (.slice Aa na ca)/\aA a (w.heap.size+1) 0 (.bool bb)/\aA a (w.heap.size+1) 1 (.slice Ab nb cb)) (first|with_reducible exact⟨c0,c1,c2,c3⟩|with_reducible exact H0.ae.drew.cells|with_reducible exact(H0.ae.drew.ext b).cells|with_reducible exact f.ae.cells|with_reducible exact(f.ae.put _ _).cells)
  (first
    |(go_at_call 162;refine(aaT (HA.ext avR) (HB.ext avR) FX FY si).mono ?_;rintro e z ⟨B,rfl,i,b⟩;obtain⟨J,m1,t,rfl,k⟩:=i.parts)
    |(go_at_call 156;refine(Bd _ _ _ _ k).mono ?_;rintro e u ⟨A,rfl,d,c⟩;obtain⟨H,I,C,s,rfl,j⟩:=d.parts;have f:=af (H0.drew.ext (b.trans c));obtain⟨G,F,E,D⟩:=f.res;clear d))
 go_wp2;refine ul rfl rfl rfl f.r j (bP.drew.trans (b.trans c)) Om (fun v W' o q=>⟨v,rfl,?_,q⟩);rw[HA.inv.1,LG J5.ae si.ae] at o;exact o):=h
def q49.Jh(h:aq:=by refine(abZ (HA.ext bP) (HB.ext bP) FX FY).mono ?_;rintro e a ⟨rfl,nn,rfl⟩;have p:decide ((0:Int)<=d7 x.natAbs y.natAbs)=true:=(by unfold d7;rw[if_neg Om];split<;>rfl);open q50 in exact afp):=h
def q48.afE(h:aq:=by open q49 in exact m12):=h
def an_(m l:Value)(x y:Int)(w:au)(ha:bK w m x)(hb:bK w l y)(fx:d6 x)(fy:d6 y)(uG:decide (x<0)≠decide (y<0))(hle:y.natAbs<=x.natAbs):
 Calls prog 87 #[m,l] w fun e a=>∃n,e= .returned n/\bK a n (x+y)/\Ext w a:=by
 open q48 in exact afe
def q53.afK(h:aq:=by
 go_region_held3 (fun a=>aA a w.heap.size 0 (.bool ba)/\aA a w.heap.size 1 (.slice Aa na ca)/\aA a (w.heap.size+1) 0 (.bool bb)/\aA a (w.heap.size+1) 1 (.slice Ab nb cb)) (first|with_reducible exact⟨c0,c1,c2,c3⟩|with_reducible exact H0.ae.drew.cells|with_reducible exact(H0.ae.drew.ext b).cells|with_reducible exact f.ae.cells|with_reducible exact(f.ae.put _ _).cells)
  (first
    |(go_at_call 162;refine(aaT (HB.ext avR) (HA.ext avR) FY FX (pd si)).mono ?_;rintro e z ⟨B,rfl,i,b⟩;obtain⟨J,m1,t,rfl,k⟩:=i.parts)
    |(go_at_call 156;refine(Bd _ _ _ _ k).mono ?_;rintro e u ⟨A,rfl,d,c⟩;obtain⟨H,I,C,s,rfl,j⟩:=d.parts;have f:=af (H0.drew.ext (b.trans c));obtain⟨G,F,E,D⟩:=f.res;clear d))
 go_wp2;refine ul rfl rfl rfl f.r j (bP.drew.trans (b.trans c)) Om (fun v W' o q=>⟨v,rfl,?_,q⟩);rw[HB.inv.1,LG (fP J5) (pd si),Qx] at o;exact o):=h
def q52.Jh(h:aq:=by refine(abZ (HA.ext bP) (HB.ext bP) FX FY).mono ?_;rintro e a ⟨rfl,nn,rfl⟩;have p:decide ((0:Int)<=d7 x.natAbs y.natAbs)=false:=(by unfold d7;rw[if_pos hle];rfl);open q53 in exact afp):=h
def q51.afE(h:aq:=by open q52 in exact m12):=h
def an'(m l:Value)(x y:Int)(w:au)(ha:bK w m x)(hb:bK w l y)(fx:d6 x)(fy:d6 y)(uG:decide (x<0)≠decide (y<0))(hle:x.natAbs<y.natAbs):
 Calls prog 87 #[m,l] w fun e a=>∃n,e= .returned n/\bK a n (x+y)/\Ext w a:=by
 open q51 in exact afe
def ab3(c b:Value)(x y:Int)(w:au)(f:bK w c x)(d:bK w b y)(j:d6 x)(i:d6 y):
 Calls prog 87 #[c,b] w fun e k=>∃l,e= .returned l/\bK k l (x+y)/\Ext w k:=by
 by_cases a:decide (x<0)=decide (y<0)
 ·exact akr c b x y w f d j i a
 ·rcases cA x.natAbs y.natAbs with h|h
  ·exact an' c b x y w f d j i a h
  ·exact an_ c b x y w f d j i a h
def acV{n:Nat}:decide (0<(aW n).length)=decide (0<n):=by exact ae2
def ame(v:Value)(z:Int)(w:au)(h:bK w v z)(r:d6 z):
 Calls prog 159 #[v] w fun e l=>∃m,e= .returned m/\bK l m (-z)/\Ext w l:=by
 obtain⟨A,c,rfl,q,o⟩:=h;have HS:=af o;have t:=af q;have j:=acV (n:=z.natAbs);unfold d6 Fit at r;have HN:ah (∀b n,b=decide (-z<0)->n=(aW z.natAbs).length->∀W,l8 W A (aW z.natAbs)->bK W (.agg #[.bool b,.slice A n c]) (-z)):=by
  intro b n s a W hW;refine⟨A,c,?_,?_,?_⟩<;>rw[LD]
  ·rw[s,a]
  ·exact t
  ·exact hW
 clear o q;generalize a:(aW z.natAbs).length=n at*;rcases AJ z 0 with i|i
 ·have d:decide (z<0)=true:=decide_eq_true i;have HD:ah (false=decide (-z<0)):=(decide_eq_false Om).symm;rw[d];clear d i j;have f:=af a;clear a;exact m38
 ·have d:decide (z<0)=false:=aY;have HD:ah (decide (0<n)=decide (-z<0)):=by rw[ah,j];congr 1;apply propext;omega
  rw[d];clear d i j;have f:=af a;clear a;rcases ip n with rfl|k
  ·have _h:=f;exact m38
  ·have HD:ah (true=decide (-z<0)):=by rw[ah,<-HD.ae,decide_eq_true k]
   go_enter func159,ntmps159;go_upto_region 1 with fail
   refine fR fun W HX HB HR=> ?_;obtain⟨k0,k1⟩:=HB.two;have f0:=HB.frozen 0;have eo:=af (HB.bu 0 (.bool true));have iD:=af (HR.far (p:=aC w.heap.size 0) (fP (tC _)) (.bool true));have aZ:=af (HX.setCell (p:=aC w.heap.size 0) (aK _) (.bool true));obtain⟨b0,b1⟩:=eo.two;obtain⟨r0,r1⟩:=iD.two;have Wv:=iD.frozen 0;have Wu:=iD.frozen 1;have HV:=af (HN true _ HD rfl _ (HS.ext aZ));go_wp2;exact ul rfl rfl rfl iD.ae HV aZ (lK _) (fun v W' h1 h2=>⟨v,rfl,h1,h2⟩)
def q55.Jh(h:aq:=by
 go_region_held3 (fun b=>aA b w.heap.size 0 (.bool ba)/\aA b w.heap.size 1 (.slice Aa na ca)/\aA b (w.heap.size+1) 0 (.bool bb)/\aA b (w.heap.size+1) 1 (.slice Ab nb cb)) (first|with_reducible exact⟨c0,c1,c2,c3⟩|with_reducible exact H0.ae.drew.cells|with_reducible exact(H0.ae.drew.ext a).cells|with_reducible exact f.ae.cells|with_reducible exact(f.ae.put _ _).cells)
  (first
    |(go_at_call 159;refine(ame _ y _ (HB.ext avR) FY).mono ?_;rintro e z ⟨B,rfl,i,a⟩;obtain⟨I,K,m1,s,rfl,k⟩:=i.parts)
    |(go_at_call 87;refine(ab3 _ _ x (-y) _ (HA.ext (by exact bP.drew.trans a)) k FX t).mono ?_;rintro e u ⟨A,rfl,d,c⟩;obtain⟨H,J,C,q,rfl,j⟩:=d.parts;have f:=af (H0.drew.ext (a.trans c));obtain⟨G,F,E,D⟩:=f.res;clear d))
 go_wp2;refine ul rfl rfl rfl f.r j (bP.drew.trans (a.trans c)) Om (fun v W' p o=>⟨v,rfl,?_,o⟩);rw[P5];exact p):=h
def q54.wG(h:aq:=by
 have t:ah (d6 (-y)):=by unfold ah d6 at*;rwa[LD]
 clear ha hb fx fy;go_enter func89,ntmps89;go_wp2_with fail;open q55 in exact m12):=h
def amc(m l:Value)(x y:Int)(w:au)(ha:bK w m x)(hb:bK w l y)(fx:d6 x)(fy:d6 y):
 Calls prog 89 #[m,l] w fun e b=>∃n,e= .returned n/\bK b n (x - y)/\Ext w b:=by
 open q54 in exact wE
def ai'{b:List Nat}{k:Nat}(d:b.length<=k)(e:j.length=a+b.length)(c:val j=val (l.take a)*val b)
 (h:val i+B9^(a+k)*0=val (j.take (a+k))+B9^a*(limb l a*val (b.take k))):val i=val (l.take (a+1))*val b:=by
 rw[dz Om,dz d,c,yt,iq] at h;rw[h,iH l a,ki,fO]
def ak1(m1 m2 n:Nat)(e:n=m1+m2+1)(h:n<=1000000000)(w:au):
 (Instr.makeSlice pI (av ((m1:Int)+m2+1)) (av ((m1:Int)+m2+1))).run prog w= .ok (aG w.heap.size 0 n n) (w.alloc (.cells (dF (pad [] n)).toArray tI)):=by
 obtain⟨f,i,c,b,a⟩:=info_parts Sj;have j:((m1:Int)+m2+1)=(n:Int):=Om;rw[j];have d:=run_make (P:=prog) w pI tI f (av 0) underlying22 i c .i64 .i64 (n:Int) (n:Int) Om (yz _) awk Om;simp only[kg,b,kG,Value.cells,ym] at d;rw[d,Ir,dF,x_];rfl
def Sp{g i:Nat}(h:ar m g tI (dF j))(a:i<j.length):aA m g i (av (limb j i:Nat)):=
 h.cell (by rw[lM a,f4 a])
def abl{g i x:Nat}{z:Int}(h:ar m g tI (dF j))(a:z=x):ar (m.setCell (aC g i) (av z)) g tI (dF (j.set i x)):=by have:=h.bu i (av z);rw[dF,Eo,<-dF,<-a];exact this
def ap0{P:World->Prop}{x0 x1 y0 y1 z0 z1:Value}(h:∀W,ah (Ext m W)->ah (fA W m.heap.size x0 x1 y0 y1 z0 z1)->ah (ar W (m.heap.size+1+1+1) w t)->P W):
 P ((((m.alloc (.cells #[x0,x1] bk)).alloc (.cells #[y0,y1] bk)).alloc (.cells #[z0,z1] bk)).alloc (.cells t.toArray w)):=
 h _ (((((aB m).alloc _).alloc _).alloc _).alloc _) ((fA.new m x0 x1 y0 y1 z0 z1).ext ((aB _).alloc _)) (jg (((m.alloc (.cells #[x0,x1] bk)).alloc (.cells #[y0,y1] bk)).alloc (.cells #[z0,z1] bk)) w t _ Ou)
def fA.setRow{W:au}{g:Nat}{x0 x1 y0 y1 z0 z1:Value}(h:fA W g x0 x1 y0 y1 z0 z1)(i:Nat)(u:Value):fA (W.setCell (aC (g+1+1+1) i) u) g x0 x1 y0 y1 z0 z1:=
 ⟨h.a.far (p:=aC (g+1+1+1) i) (by show g≠g+1+1+1;omega) u,h.b.far (p:=aC (g+1+1+1) i) (by show g+1≠g+1+1+1;omega) u,h.r.far (p:=aC (g+1+1+1) i) (by show g+1+1≠g+1+1+1;omega) u⟩
def q56.afI(h:aq:=by
 go_roundw
 ·refine⟨k+1,q,p++ [d],by omega,by omega,by go_num,by first|rfl|exact congrArg _ I|exact congrArg _ Om,Jm,?_,mM,HA,?_,o.setRow _ _,j.setCell (p:=aC (w.heap.size+1+1+1) (i+k)) (by show w.heap.size<=w.heap.size+1+1+1;omega) _⟩
  ·rw[bC,HP.ae];rfl
  ·have Z:i+(k+1)=i+k+1:=Om;rw[ah,Z,ie];exact DZ
 simp [RowKit.intOf];omega):=h
def q57.afI(h:aq:=by
 go_roundw
 ·refine⟨k+1,q,p++ [d],by omega,(fun _=>Xe.ae),by go_num,by first|rfl|exact congrArg _ I|exact congrArg _ Om,Jm,?_,mM,HA,?_,o.setRow _ _,j.setCell (p:=aC (w.heap.size+1+1+1) (i+k)) (by show w.heap.size<=w.heap.size+1+1+1;omega) _⟩
  ·rw[bC,HP.ae];rfl
  ·have Z:i+(k+1)=i+k+1:=Om;rw[ah,Z,ie];exact DZ
 simp [RowKit.intOf];omega):=h
def EH(va vb:Value)(x y:Int)(w:au)(ha:bK w va x)(hb:bK w vb y)(fx:d6 x)(fy:d6 y):
 Calls prog 86 #[va,vb] w fun e w'=>∃v',e= .returned v'/\bK w' v' (x*y)/\Ext w w':=by
 obtain⟨Aa,ca,rfl,nx,sa⟩:=ha;obtain⟨Ab,cb,rfl,hcb,sb⟩:=hb;have S1:=af sa;have S2:=af sb;have CA:=af (cW x.natAbs);have CB:=af (cW y.natAbs);have VA:=af (dm x.natAbs);have VB:=af (dm y.natAbs);have HS:=af (aac x y);unfold d6 Fit at fx fy;generalize aW x.natAbs=a at*;generalize aW y.natAbs=b at*;generalize decide (x<0)=na at*;generalize decide (y<0)=nb at*;obtain⟨N,hN⟩:∃N,N=a.length+b.length+1:=⟨_,rfl⟩;have kR:=ak1 a.length b.length N hN Om;have n:=af hN;clear sa sb nx hcb hN;go_enter func86,ntmps86;go_wp2_with fail
 clear kR;refine ap0 fun W HX HM HB=> ?_;go_loopw [6,7,8] (fun v6 _ _ wr=>∃(i:Nat) (r:List Nat),i<=a.length/\v6=av i/\r.length=i+b.length/\bH r/\ah (val r=val (a.take i)*val b)/\ah (ar wr (w.heap.size+1+1+1) tI (dF (pad r N)))/\ah (fA wr w.heap.size (.bool na) (.slice Aa a.length ca) (.bool nb) (.slice Ab b.length cb) (.bool false) (.slice none 0 0))/\ah (Ext w wr)) (fun v6 _ _ _=>a.length - (RowKit.intOf v6).toNat);exact⟨0,List.replicate b.length 0,aV _,rfl,by simp,awo,by rw[ah,AW (by intro x s;exact(qN.1 s).2)];simp,by rw[ah,aa7 _ _ awL];exact HB.ae,HM,HX⟩;obtain⟨i,r,hi,rfl,hr,hd,HV,oT,M,bQ⟩:=hrel;have E:=af hr;have HD:=af hd;clear hr hd;obtain⟨c0,c1,c2,c3⟩:=M.cells;by_cases J:i<a.length
 ·obtain⟨g1,o1,rfl,_,D⟩:=S1.at_ (lM J);have hg1:ah (∀W',Ext w W'->W'.cell? (aC g1 (o1+i))=some (av (limb a i:Nat))):=(by intro W' hW';obtain⟨g',o',e,_,hc⟩:=(S1.ext hW').at_ (lM J);injection e with e;injection e with Z e2;subst Z e2;rw[hc,f4 J])
  have R:=CA.1.getD i;have HXA:=af R;unfold B9 at R;clear D;go_wp2_with fail
  clear c0 c1 c2 c3;obtain⟨wo,rfl⟩:∃wo:World,wo=wr:=⟨_,rfl⟩;go_loopw [7,8] (fun v7 v8 ws=>∃(k c:Nat) (p:List Nat),k<=b.length+1/\(k=b.length+1->c=0)/\v8=av k/\v7=av c/\c<1000000000/\p.length=i+k/\bH p/\ah (val p+B9^(i+k)*c=val (r.take (i+k))+B9^i*(limb a i*val (b.take k)))/\ah (ar ws (w.heap.size+1+1+1) tI (dF (p++(pad r N).drop (i+k))))/\ah (fA ws w.heap.size (.bool na) (aG g1 o1 a.length ca) (.bool nb) (.slice Ab b.length cb) (.bool false) (.slice none 0 0))/\ah (Ext w ws)) (fun _ v8 _=>b.length+1 - (RowKit.intOf v8).toNat)
  ·refine⟨0,0,(pad r N).take i,by omega,by omega,rfl,rfl,by omega,?_,?_,?_,?_,M,bQ⟩
   ·rw[cJ,sU awc];have:=n.ae;omega
   ·refine bH.take ?_ i;exact HD.append awo
   ·have:(pad r N).take i=r.take i:=(by rw[pad,Lb axc]);simp [this,ah]
   ·simpa [ah] using oT.ae
  obtain⟨k,c,p,hk,nv,rfl,rfl,hc,hp,Y,K,eo,o,j⟩:=hrel;have HP:=af hp;have XQ:=af Y;clear hp Y;obtain⟨c0,c1,c2,c3⟩:=o.cells;have X:=eo.frozen (i+k);have S:=hg1 wr j;by_cases U:k<b.length
  ·obtain⟨g2,o2,rfl,_,m⟩:=(S2.ext j).at_ (lM U);rw[<-f4 U] at m;have hly:=CB.1.getD k;have hlz:=HD.getD (i+k);have uG:=Es HXA (CB.1.getD k);unfold B9 at hly hlz;have HQ:ah ((pad r N).drop (i+k)=limb r (i+k)::(pad r N).drop (i+k+1)):=by rw[ah,H_ _ _ (by rw[sU awc];have:=n.ae;omega),Mu]
   obtain⟨t,H⟩:∃t,t=limb r (i+k)+limb a i*limb b k+c:=⟨_,rfl⟩;have HA:=af (Rt HP K rfl H);have rM:t<=999999999999999999:=Om;have B:ah ((c:Int)+(limb r (i+k):Int)+(limb a i:Int)*(limb b k:Int)=t):=by rw[ah,H,LA,LA,k6];omega
   have f:wr.cell? (aC (w.heap.size+1+1+1) (i+k))=some (av (limb r (i+k):Nat)):=(by exact aeM);have hxi:(limb a i:Int)*(limb b k:Int)<=999999998000000001:=av5;have arH:0<=(limb a i:Int)*(limb b k:Int):=Eh Om Om;have V:i+k<N:=awL;clear H uG;generalize limb a i=P at*;generalize limb b k=O at*;generalize limb r (i+k)=Q at*;have uI:IntKind.i64.wrap ((P:Int)*(O:Int))=(P:Int)*(O:Int):=Eg _ Om;have hw2:IntKind.i64.wrap ((c:Int)+(Q:Int)+(P:Int)*(O:Int))=(c:Int)+(Q:Int)+(P:Int)*(O:Int):=Eg _ Om;go_wp2;go_quiet (fail);clear uI hw2 S m f c0 c1 c2 c3 X;have eo:ah (ar (wr.drewN nq) (w.heap.size+1+1+1) tI (dF (p++(pad r N).drop (i+k)))):=eo.drewN nq;have o:ah (fA (wr.drewN nq) w.heap.size (.bool na) (aG g1 o1 a.length ca) (.bool nb) (aG g2 o2 b.length cb) (.bool false) (.slice none 0 0)):=o.drewN nq;have j:ah (Ext w (wr.drewN nq)):=j.drewN nq;generalize wr.drewN nq=wr at*;have X:=eo.frozen (i+k);have f:wr.cell? (aC (w.heap.size+1+1+1) (i+k))=some (av (Q:Int)):=(by exact aeM)
   have et:((c:Int)+Q+P*O)%1000000000=((t%B9:Nat):Int):=awl;have I:((c:Int)+Q+P*O)/1000000000=((t/B9:Nat):Int):=awl;open q56 in exact afl
  ·have C:limb r (i+k)=0:=pg axc;have u:limb b k=0:=pg Om;by_cases hc0:0<c
   ·have HQ:ah ((pad r N).drop (i+k)=0::(pad r N).drop (i+k+1)):=by rw[ah,H_ _ _ (by rw[sU awc];have:=n.ae;omega),Mu,C]
    obtain⟨t,H⟩:∃t,t=limb r (i+k)+limb a i*limb b k+c:=⟨_,rfl⟩;have HA:=af (Rt HP K rfl H);rw[C,u,yt,iq,ja] at H;subst H;have B:ah ((t:Int)=t):=rfl;have rM:t<=999999999999999999:=Om;have Xe:ah (t/B9=0):=by unfold ah B9;omega
    have f:wr.cell? (aC (w.heap.size+1+1+1) (i+k))=some (av 0):=(by have:=Sp (i:=i+k) eo (by rw[HQ.ae,bC,HP.ae,cP];omega);rw[this,HQ.ae,Bg _ _ _ _ HP.ae];rfl);have V:i+k<N:=awL;clear C u S;have et:(t:Int)%1000000000=((t%B9:Nat):Int):=awl;have I:(t:Int)/1000000000=((t/B9:Nat):Int):=awl;open q57 in exact afl
   ·obtain rfl:c=0:=Om;have HE:ah (∃q:List Nat,q.length=i+1+b.length/\bH q/\val q=val (a.take (i+1))*val b/\p++(pad r N).drop (i+k)=pad q N):=by
     have hv:=ai' (k:=k) Om E HV K;have A:(pad r N).drop (i+k)=List.replicate (N - (i+k)) 0:=(by rw[pad,P_,pU axc,YR,E.ae,vE];congr 1;have:=n.ae;omega)
     rcases cA b.length k with h|h
     ·refine⟨p,by rw[HP.ae];omega,XQ,hv,?_⟩;rw[A,pad,HP.ae]
     ·have hkb':k=b.length:=Om;refine⟨p++ [0],by rw[bC,HP.ae];simp;omega,XQ.snoc Od,by rw[nR,yt,iq];exact hv,?_⟩;have Wl:N - (i+k)=(N - (i+k+1))+1:=awL;rw[A,Wl,List.replicate_succ,pad,bC,HP.ae,ie];rfl
    clear C u;go_wp2;go_roundw
    ·obtain⟨q,h1,h2,h3,h4⟩:=HE.ae;have h5:=eo.ae;rw[h4] at h5;exact⟨i+1,q,by omega,by go_num,h1,h2,h3,h5,o,j⟩
    simp [RowKit.intOf];omega
 ·obtain rfl:i=a.length:=Om;have HE:ah (val r=x.natAbs*y.natAbs):=by rw[ah,HV.ae,dz (aK _),VA.ae,VB.ae]
  have zN:=af (oT.sl 0);rw[lJ] at zN;have T:(pad r N).length=N:=sU awc;have L:=af T;clear T;have Kw:ah (nZ wr (aG (w.heap.size+1+1+1) 0 N N) (x.natAbs*y.natAbs)):=by
   refine⟨_,pad r N,N,by rw[L.ae],⟨by rw[L.ae];exact aK _,fun h=>by cases h⟩,?_,zN,by rw[L.ae];have:=n.ae;omega,?_⟩
   ·exact HD.append awo
   ·rw[pad,Ey,AW (l:=List.replicate _ 0) (by intro x s;exact(qN.1 s).2),HE.ae];rfl
  go_wp2_with fail
  refine(Bd (na !=nb) _ _ wr Kw).mono ?_;rintro e w2 ⟨v2,rfl,G,F⟩;rw[HS.ae] at G;obtain⟨b2,A2,n2,c2',rfl,nC⟩:=G.parts;have lD:=af (M.ext F);have cH:=af (bQ.trans F);obtain⟨k0,k1,k2,k3⟩:=lD.res;clear G F;go_wp2;exact ul rfl rfl rfl lD.r nC cH Om (fun v W' h1 h2=>⟨v,rfl,h1,h2⟩)
def ik(w:au)(v:Value)(n:Nat):Prop:=∃A c,v= .slice A (aW n).length c/\sG A (aW n).length c/\l8 w A (aW n)
def ik.ext{w':au}{n:Nat}(h:ik m p n)(a:Ext m w'):ik w' p n:=by obtain⟨A,c,rfl,d,b⟩:=h;exact⟨A,c,rfl,d,b.ext a⟩
def ik.parts(h:ik m p a):∃A b c,p= .slice A b c/\b=(aW a).length/\ah (ik m (.slice A b c) a):=by obtain⟨A,c,rfl,r⟩:=h;exact⟨A,_,c,rfl,rfl,⟨A,c,rfl,r⟩⟩
def bK.nat(h:bK m (.agg #[.bool R,.slice E a b]) B):ik m (.slice E a b) B.natAbs:=by obtain⟨_,rfl,e,d⟩:=h.inv;exact⟨E,b,rfl,e,d⟩
def ik.limbs(h:ik m p a)(d:Fit a):nZ m p a:=by obtain⟨A,c,rfl,e,b⟩:=h;unfold Fit at d;exact⟨A,aW a,c,rfl,e,(cW a).1,b,by omega,dm a⟩
def ik.nil(w:au):ik w (.slice none 0 0) 0:=⟨none,0,rfl,⟨aK _,fun _=>rfl⟩,Sl.nil⟩
def SX(b:Bool)(A:aR)(n c:Nat):∀w:World,(Instr.field bk (.agg #[.bool b,.slice A n c]) 1).run prog w= .ok (.slice A n c) w:=fun _=>by kernel_rfl
def ahY(f:i.length=a)(h:val i+B9^a*b=val (j.take a)*c)(e:d=b+limb j a*c):
 val (i++ [d%B9])+B9^(a+1)*(d/B9)=val (j.take (a+1))*c:=by
 rw[nR,f,iH j a,eU,fO,yq,<-fZ,Hf,e,fZ,ki,<-h];rw[fO];omega
def aaR(f:ik m p a)(d:ik m q b)(k:Fit a)(j:Fit b):
 Calls prog 161 #[p,q] m fun e c=>e= .returned (av (d7 a b))/\∃n,c=m.drewN n:=by
 obtain⟨s,o,rfl,_,i⟩:=f;obtain⟨r,l,rfl,_,h⟩:=d;unfold Fit at k j;have:=aaS s r o l _ _ m Om Om (cW a) (cW b) i h;rwa[dm,dm] at this
def at5{w:au}(i:ik w p a)(f:ik w q b)(k:Fit a)(j:Fit b)(hle:b<=a):
 Calls prog 162 #[p,q] w fun e w'=>∃d,e= .returned d/\nZ w' d (a - b)/\Ext w w':=by
 obtain⟨Aa,ca,rfl,iB,h1⟩:=i;obtain⟨Ab,cb,rfl,_,h2⟩:=f;unfold Fit at k j;exact m86
def q58.k56(h:aq:=by go_roundw;exact⟨k+1,q,r++ [p],by omega,by omega,by go_num,by first|rfl|exact congrArg _ j|exact congrArg _ Om,Jm,by simp [y.ae],mM,R,fX,cH⟩;simp [RowKit.intOf];omega):=h
def q59.k56(h:aq:=by go_roundw;exact⟨k+1,q,r++ [p],by omega,(fun _=>H.ae),by go_num,by first|rfl|exact congrArg _ j|exact congrArg _ Om,Jm,by simp [y.ae],mM,R,fX,cH⟩;simp [RowKit.intOf];omega):=h
def ZX(K:Value)(i n:Nat)(w:au)(ha:ik w K i)(hf:Fit i)(X:n<1000000000):
 Calls prog 207 #[K,av n] w fun e J=>∃v',e= .returned v'/\ik J v' (i*n)/\Ext w J:=by
 obtain⟨A1,c1,rfl,_,L⟩:=ha;have S1:=af L;have CA:=af (cW i);have VA:=af (dm i);unfold Fit at hf;generalize aW i=a at*;clear L;go_enter func207,ntmps207;go_wp2;go_loopw [5,6,7] (fun T S z wr=>∃(k c:Nat) (r:List Nat),k<=a.length+1/\(k=a.length+1->c=0)/\z=av k/\S=av c/\c<1000000000/\r.length=k/\bH r/\ah (val r+B9^k*c=val (a.take k)*n)/\ah (wr.ownsRow w.heap.size tI 1 T k (dF r))/\ah (Ext w wr)) (fun _ _ z _=>a.length+1 - (RowKit.intOf z).toNat)
 exact⟨0,0,[],aV _,by omega,rfl,rfl,by omega,rfl,jT,by simp [ah],mQ _ _ _ _,aB w⟩;obtain⟨k,c,r,hk,Y,rfl,rfl,hc,N,O,Q,HO,HX⟩:=hrel;have y:=af N;have HD:=af O;clear N O;obtain⟨t,f⟩:∃t,t=c+limb a k*n:=⟨_,rfl⟩;have R:=af (ahY y Q f);by_cases u:k<a.length
 ·obtain⟨g1,o1,rfl,_,d⟩:=(S1.ext HX).at_ (lM u);rw[<-f4 u] at d;have m:=CA.1.getD k;have C:=Es m (show n<B9 from X);have V:(limb a k:Int)*(n:Int)<=999999998000000001:=av5;have M:0<=(limb a k:Int)*(n:Int):=Eh Om Om;have b:ah ((c:Int)+(limb a k:Int)*(n:Int)=t):=by rw[ah,f,LA,k6]
  have E:t<=999999999999999999:=Om;unfold B9 at m;clear f C;generalize limb a k=x at*;have et:((c:Int)+x*n)%1000000000=((t%B9:Nat):Int):=awj;have j:((c:Int)+x*n)/1000000000=((t/B9:Nat):Int):=awj;open q58 in exact m56
 ·have B:=pg (l:=a) (k:=k) Om;rw[B,LK,iq] at f;by_cases hc0:0<c
  ·have b:ah ((c:Int)=t):=by rw[ah,f]
   have H:ah (t/B9=0):=by rw[f];unfold ah B9;omega
   have E:t<=999999999999999999:=Om;clear f B;have et:(c:Int)%1000000000=((t%B9:Nat):Int):=awj;have j:(c:Int)/1000000000=((t/B9:Nat):Int):=awj;open q59 in exact m56
  ·obtain rfl:c=0:=Om;have HE:ah (val r=i*n):=(by have:=Q.ae;rw[dz Om,VA.ae] at this;rw[ah];omega)
   obtain⟨A,P,rfl,hc',_,s⟩:=ej HO;have I:ah (nZ wr (.slice A k P) (i*n)):=(by have e:=y.ae;subst e;exact⟨A,r,P,rfl,vY HO,HD,s,by omega,HE⟩)
   clear s f B;go_wp2_with fail;refine(Bd false _ _ wr I).mono ?_;rintro e w2 ⟨v2,rfl,o,D⟩;obtain⟨b2,A2,U,F,rfl,G⟩:=o.parts;have v:=af G.nat;rw[Ei] at v;clear o;have Z:=SX b2 A2 U F;go_wp2;go_ret;exact⟨_,rfl,v,HX.trans D⟩
def apZ{P:World->Prop}{b a d0 d1:Value}(h:∀W,ah (Ext m W)->ah (ar W m.heap.size bk [p,q])->ah (ar W (m.heap.size+1) bk [r,s])->ah (ar W (m.heap.size+1+1) bk [b,a])->ah (ar W (m.heap.size+1+1+1) bk [d0,d1])->ah (ar W (m.heap.size+1+1+1+1) w t)->P W):
 P (((((m.alloc (.cells #[p,q] bk)).alloc (.cells #[r,s] bk)).alloc (.cells #[b,a] bk)).alloc (.cells #[d0,d1] bk)).alloc (.cells t.toArray w)):=by
 have d:∀W,ar W m.heap.size bk [p,q]/\ar W (m.heap.size+1) bk [r,s]/\ar W (m.heap.size+1+1) bk [b,a]->∀o,ar (W.alloc o) m.heap.size bk [p,q]/\ar (W.alloc o) (m.heap.size+1) bk [r,s]/\ar (W.alloc o) (m.heap.size+1+1) bk [b,a]:=fun W hW o=>⟨hW.1.alloc o,hW.2.1.alloc o,hW.2.2.alloc o⟩;have e:ar (((m.alloc (.cells #[p,q] bk)).alloc (.cells #[r,s] bk)).alloc (.cells #[b,a] bk)) m.heap.size bk [p,q]/\ar (((m.alloc (.cells #[p,q] bk)).alloc (.cells #[r,s] bk)).alloc (.cells #[b,a] bk)) (m.heap.size+1) bk [r,s]/\ar (((m.alloc (.cells #[p,q] bk)).alloc (.cells #[r,s] bk)).alloc (.cells #[b,a] bk)) (m.heap.size+1+1) bk [b,a]:=
  ⟨((iT m bk [p,q]).alloc _).alloc _,(jg (m.alloc (.cells #[p,q] bk)) bk [r,s] _ Ou).alloc _,jg ((m.alloc (.cells #[p,q] bk)).alloc (.cells #[r,s] bk)) bk [b,a] _ Ou⟩
 have c:=d _ (d _ e (.cells #[d0,d1] bk)) (.cells t.toArray w);refine h _ ((((((aB m).alloc _).alloc _).alloc _).alloc _).alloc _) c.1 c.2.1 c.2.2 ?_ ?_
 ·exact(jg (((m.alloc (.cells #[p,q] bk)).alloc (.cells #[r,s] bk)).alloc (.cells #[b,a] bk)) bk [d0,d1] _ Ou).alloc _
 ·exact jg ((((m.alloc (.cells #[p,q] bk)).alloc (.cells #[r,s] bk)).alloc (.cells #[b,a] bk)).alloc (.cells #[d0,d1] bk)) w t _ Ou
def ak2(n:Nat)(h:n<=1000000000)(w:au):
 (Instr.makeSlice pI (av (n:Int)) (av (n:Int))).run prog w= .ok (aG w.heap.size 0 n n) (w.alloc (.cells (dF (List.replicate n 0)).toArray tI)):=by
 obtain⟨e,f,c,b,a⟩:=info_parts Sj;have d:=run_make (P:=prog) w pI tI e (av 0) underlying22 f c .i64 .i64 (n:Int) (n:Int) Om (yz _) awk Om;simp only[kg,b,kG,Value.cells,ym] at d;rw[d,dF,x_];rfl
def ar.below{W wr:au}{g:Nat}(h:ar W g w t)(c:Below a W wr)(b:g<a):ar wr g w t:=(c.block g b).trans h
def aof(w:au)(e:TypeId)(u:Value)(a:Nat)(b:a<=w.heap.size):(w.alloc (.cells #[u] e)).ownsRow a e 1 (aG w.heap.size 0 1 1) 1 [u]:=
 ⟨rfl,.inr ⟨w.heap.size,1,#[u],rfl,b,heap_alloc_new w _,aK _,by unfold maxLen;omega,rfl,rfl⟩⟩
def pG(w:au)(B:Nat)(v:Value)(n:Nat):Prop:=∃A m c,v= .slice A m c/\ik w (.slice A m c) n/\∀a,A=some a->B<=a.block
def pG.nil(w:au)(B:Nat):pG w B (.slice none 0 0) 0:=⟨none,0,0,rfl,ik.nil w,fun _ h=>by cases h⟩
def pG.ext{w':au}{n:Nat}(h:pG m a p n)(d:Ext m w'):pG w' a p n:=by obtain⟨A,b,c,rfl,f,e⟩:=h;exact⟨A,b,c,rfl,f.ext d,e⟩
def pG.far(h:pG m a q b){p:Addr}(G:p.block<a)(u:Value):pG (m.setCell p u) a q b:=by obtain⟨A,d,c,rfl,⟨I,H,e,x,t⟩,l⟩:=h;injection e with F E D;subst F E D;refine⟨A,_,c,rfl,⟨A,c,rfl,x,?_⟩,l⟩;intro j r s;obtain⟨g,o,i,C,k,y,f⟩:=t j r s;have z:=l _ k;exact⟨g,o,i,C,k,(Ln m p u g (by show g≠p.block;have:a<=g:=z;omega)).trans y,f⟩
def ah5(v:ik m p a)(u:ik m q b)(B:Fit a)(z:Fit b)(f:b<=a):
 Calls prog 162 #[p,q] m fun e d=>∃A l c,e= .returned (.slice A l.length c)/\sG A l.length c/\(∀j,A=some j->m.heap.size<=j.block)/\bH l/\l8 d A l/\l.length<=100000000/\val l=a - b/\Ext m d:=by
 obtain⟨F,D,rfl,i,y⟩:=v;obtain⟨E,C,rfl,_,x⟩:=u;unfold Fit at B z;refine(ZZ F E D C _ _ m Om Om i (cW _) (cW _) (by rw[dm,dm];exact f) y x).mono ?_;rintro e d ⟨A,r,c,t,h,G,rfl,s,n,o,k⟩;exact⟨A,r,c,rfl,t,h,s,o,by omega,by rw[n,dm,dm],k⟩
structure lw(W:au)(g:Nat)(x0 x1 y0 y1 q0 q1 r0 r1:Value):Prop where
 a:ar W g bk [x0,x1]
 b:ar W (g+1) bk [y0,y1]
 q:ar W (g+1+1) bk [q0,q1]
 r:ar W (g+1+1+1) bk [r0,r1]
section
variable{W W':au}{g:Nat}{x0 x1 y0 y1 q0 q1 r0 r1:Value}
theorem lw.ext(h:lw W g x0 x1 y0 y1 q0 q1 r0 r1)(c:Ext W W'):lw W' g x0 x1 y0 y1 q0 q1 r0 r1:=⟨h.a.ext c,h.b.ext c,h.q.ext c,h.r.ext c⟩
theorem lw.drew(h:lw W g x0 x1 y0 y1 q0 q1 r0 r1):lw W.drew g x0 x1 y0 y1 q0 q1 r0 r1:=⟨h.a,h.b,h.q,h.r⟩
theorem lw.aew(h:lw W g x0 x1 y0 y1 q0 q1 r0 r1)(u v:Value):lw ((W.setCell (aC (g+1+1) 0) u).setCell (aC (g+1+1) 1) v) g x0 x1 y0 y1 u v r0 r1:=
 ⟨h.a.nX Om u v,h.b.nX Om u v,(h.q.bu 0 u).bu 1 v,h.r.nX Om u v⟩
theorem lw.arx(h:lw W g x0 x1 y0 y1 q0 q1 r0 r1)(u v:Value):lw ((W.setCell (aC (g+1+1+1) 0) u).setCell (aC (g+1+1+1) 1) v) g x0 x1 y0 y1 q0 q1 u v:=
 ⟨h.a.nX Om u v,h.b.nX Om u v,h.q.nX Om u v,(h.r.bu 0 u).bu 1 v⟩
theorem lw.cells(h:lw W g x0 x1 y0 y1 q0 q1 r0 r1):aA W g 0 x0/\aA W (g+1) 0 y0:=⟨h.a.aF 0,h.b.aF 0⟩
theorem lw.aqA(h:lw W g x0 x1 y0 y1 q0 q1 r0 r1):aA W (g+1+1) 0 q0/\aA W (g+1+1) 1 q1/\W.frozen? (aC (g+1+1) 0)=false/\W.frozen? (aC (g+1+1) 1)=false:=⟨h.q.aF 0,h.q.aF 1,h.q.frozen 0,h.q.frozen 1⟩
theorem lw.aqz(h:lw W g x0 x1 y0 y1 q0 q1 r0 r1):aA W (g+1+1+1) 0 r0/\aA W (g+1+1+1) 1 r1/\W.frozen? (aC (g+1+1+1) 0)=false/\W.frozen? (aC (g+1+1+1) 1)=false:=⟨h.r.aF 0,h.r.aF 1,h.r.frozen 0,h.r.frozen 1⟩
end
def ach{g:Nat}(d:ar m g bk [.bool R,.slice E a b]):(loadVar bk ⟨g,0,none⟩).run prog m= .ok (.agg #[.bool R,.slice E a b]) m:=
 run_loadVar_row m g bk bk #[.bool R,.slice E a b] (0,0) _ d underlying97 rfl Ok
def aef(q r:Int)(w:au)(e:Ending)(a:au):Prop:=∃c b,e= .returned (.tuple #[c,b])/\bK a c q/\bK a b r/\Ext w a
def an7{v:Func}{t g:Nat}{x0 x1 y0 y1:Value}(f:v.results= #[.cell t bk,.cell a bk])(D:Q.tmps.getD t undef=aI g 0)(k:Q.tmps.getD a undef=aI (g+1) 0)(G:Q.defers= [])
 (u:ar n g bk [x0,x1]) (r:ar n (g+1) bk [y0,y1]) (I:bK n (.agg #[.bool R,.slice E b c]) B) (H:bK n (.agg #[.bool S,.slice F d e]) C) (A:Ext m n) (s:m.heap.size<=g):
 bodyPost prog v (aef B C m) .ret Q ((((n.setCell (aC g 0) (.bool R)).setCell (aC g 1) (.slice E b c)).setCell (aC (g+1) 0) (.bool S)).setCell (aC (g+1) 1) (.slice F d e)):=by
 have q:ar ((n.setCell (aC g 0) (.bool R)).setCell (aC g 1) (.slice E b c)) g bk [.bool R,.slice E b c]:=(u.bu 0 (.bool R)).bu 1 (.slice E b c);have j:ar ((n.setCell (aC g 0) (.bool R)).setCell (aC g 1) (.slice E b c)) (g+1) bk [y0,y1]:=r.nX Om _ _;have i:=u.qh (t:=tI) Od 0 1 (.bool R) (.slice E b c);have l:Ext m ((n.setCell (aC g 0) (.bool R)).setCell (aC g 1) (.slice E b c)):=(A.setCell s _).setCell s _;generalize(n.setCell (aC g 0) (.bool R)).setCell (aC g 1) (.slice E b c)=z at*;have p:ar ((z.setCell (aC (g+1) 0) (.bool S)).setCell (aC (g+1) 1) (.slice F d e)) g bk [.bool R,.slice E b c]:=q.nX Om _ _;have o:ar ((z.setCell (aC (g+1) 0) (.bool S)).setCell (aC (g+1) 1) (.slice F d e)) (g+1) bk [.bool S,.slice F d e]:=(j.bu 0 (.bool S)).bu 1 (.slice F d e);have h:=j.qh (t:=tI) Od 0 1 (.bool S) (.slice F d e);exact bodyPost_ret (Zd f Q.tmps _ g (g+1) _ _ D k (ach p) (ach o)) G ⟨_,_,rfl,I.keep (i.trans h),H.keep (i.trans h),(l.setCell (show m.heap.size<=g+1 by omega) _).setCell (show m.heap.size<=g+1 by omega) _⟩
def akt(t:0<b)(q:b<=a)(o:a<B9*b):∃T s:Nat,∃n,(aW b).length=n+1/\s=limb (aW b) n/\0<s/\s<B9/\T=limb (aW a) n+limb (aW a) (n+1)*B9/\limb (aW a) n<B9/\limb (aW a) (n+1)<B9/\n<(aW a).length/\(aW a).length<=n+2/\b*(T/ (s+1))<=a/\a<b*(T/s+1)/\a<b*B9:=by
 have f:aW b≠ []:=fun h=>by have:=qW.1 h;omega
 have i:0<(aW b).length:=D6.2 f;obtain⟨n,p⟩:∃n,(aW b).length=n+1:=⟨(aW b).length - 1,by omega⟩;have r:=aoa (cW a) (cW b) (by rw[dm,dm];exact q) (by rw[dm,dm];exact o);have c:0<limb (aW b) n:=by
  have:=(cW b).2.last i;rw[f4 Om];have e:(aW b)[(aW b).length - 1]=(aW b)[n]'Om:=by congr 1;omega
  rw[e] at this;omega
 have j:=ZV (cW b).1 (k:=n) Om Om;rw[pg (l:=aW b) (k:=n+1) Om,LK,iq,dm] at j;have d:=ZV (cW a).1 (k:=n) Om Om;rw[dm] at d;have m:=aob j.1 j.2 d.1 d.2 c;exact⟨_,_,n,p,rfl,c,(cW b).1.getD n,rfl,(cW a).1.getD n,(cW a).1.getD (n+1),by omega,by omega,m.1,m.2,by rw[ed];exact o⟩
def adL(h:∃e,e<=1000000/\a<10^e)(f:b<=B9*a):Fit b:=by
 obtain⟨e,d,c⟩:=h;refine Ig (e:=9+e+1) ?_ Om;have k:B9*a<=B9*10^e:=iF _ (pd c);have j:B9*10^e=10^(9+e):=by rw[pW];rfl
 have i:10^(9+e)<10^(9+e+1):=G9 Od Om;omega
def q60.k42(h:aq:=by
 go_loopw [9,10,13] (fun E b _ ws=>∃(l h:Nat),E=av l/\b=av h/\l<=h/\h<1000000000/\ah (Y*l<=R1)/\ah (R1<Y*(h+1))/\ah (Ext wo ws)) (fun E b _ _=>(RowKit.intOf b).toNat - (RowKit.intOf E).toNat)
 exact⟨o,c,rfl,rfl,by omega,by omega,O,P,Pf⟩;exact m0):=h
def q61.k42(h:aq:=by
 go_loopw [9,10,13] (fun E b _ ws=>∃(l h:Nat),E=av l/\b=av h/\l<=h/\h<1000000000/\ah (Y*l<=R1)/\ah (R1<Y*(h+1))/\ah (Ext wo ws)) (fun E b _ _=>(RowKit.intOf b).toNat - (RowKit.intOf E).toNat)
 exact⟨o,c,rfl,rfl,by omega,by omega,O,P,Pf⟩;exact m0):=h
def R4(va vb:Value)(x y:Int)(w:au)(ha:bK w va x)(hb:bK w vb y)(fx:cE x)(fy:cE y)(hy:y≠0):
 Calls prog 158 #[va,vb] w (aef (signed (decide (x<0) !=decide (y<0)) (x.natAbs/y.natAbs)) (signed (decide (x<0)) (x.natAbs%y.natAbs)) w):=by
 have HNA:=af ha;have Pn:=af hb;obtain⟨Aa,ca,rfl,nx,sa⟩:=ha;obtain⟨Ab,cb,rfl,hcb,sb⟩:=hb;have S1:=af sa;have CA:=af (cW x.natAbs);have VA:=af (dm x.natAbs);have hla:=fx.fit;have Db:=fy.fit;have FA:=af hla;have FB:=af Db;have KC:ah (cE y):=fy;unfold ah cE at KC;have KC:=af KC;unfold Fit at hla Db;have Wc:0<y.natAbs:=Om;have kR:=ak2 (aW x.natAbs).length Om;have Xo:=af Pn.nat;generalize x.natAbs=X at*;generalize y.natAbs=Y at*;generalize aW X=a at*;generalize uM:(aW Y).length=nb at*;have atb:=af uM;generalize decide (x<0)=na at*;generalize decide (y<0)=CU at*;clear sa sb nx hcb uM;go_enter func158,ntmps158;go_wp2_with fail
 clear kR;refine apZ fun W HX BA BB BQ BR at0=> ?_;go_loopw [6,8,9,10,11,12,13] (fun v6 v8 _ _ _ _ _ wr=>∃(m R:Nat) (q:List Nat),m<=a.length/\v8=av ((m:Int) - 1)/\ah (pG wr (w.heap.size+1+1+1+1+1) v6 R)/\R<Y/\bH q/\q.length=a.length - m/\ah (val (a.drop m)=val q*Y+R)/\ah (ar wr (w.heap.size+1+1+1+1) tI (dF (List.replicate m 0++q)))/\ah (Below (w.heap.size+1+1+1+1) W wr)) (fun _ v8 _ _ _ _ _ _=>(RowKit.intOf v8+1).toNat);exact⟨a.length,0,[],aK _,rfl,pG.nil _ _,Wc,jT,by simp,by simp [ah],by simpa [ah] using at0.ae,yE _ _⟩;obtain⟨m,R,q,hm,rfl,HR,Wh,hdq,Vw,HV,J,C⟩:=hrel;have HDQ:=af hdq;have Kr:=af Vw;clear hdq Vw;have z8:=af (BA.below C Om);have zZ:=af (BB.below C Om);have N:ah (Ext w wr):=qV HX (C.mono Om);obtain⟨a0,a1⟩:=z8.two;obtain⟨b0,b1⟩:=zZ.two;have hsz:w.heap.size+1+1+1+1+1<=wr.heap.size:=by have:=J.lt;omega
 rcases ip m with rfl|Ow
 ·have hEQ:val q=X/Y/\R=X%Y:=(by have h1:=HV.ae;rw[lJ,VA.ae] at h1;rw[h1,mS,Nat.add_mul_div_right _ _ Wc,Lu Wh,Nat.add_mul_mod_self_right,sN Wh];exact⟨by omega,rfl⟩);have KE:=af hEQ;obtain⟨AR,mR,cR,rfl,hNR,_⟩:=HR.ae;have zS:ah (nZ wr (.slice AR mR cR) (X%Y)):=by rw[ah,<-KE.2];exact hNR.limbs (FB.le Om)
  have GA:ah (nZ wr (aG (w.heap.size+1+1+1+1) 0 a.length a.length) (X/Y)):=by
   have h1:=J.sl 0;rw[YP,vE,lJ] at h1;have h2:q.length=a.length:=by rw[Kr.ae];omega
   exact⟨_,q,a.length,by rw[h2],⟨by omega,fun h=>by cases h⟩,HDQ,h1,by omega,KE.1⟩
  have H0:ah (lw wr w.heap.size (.bool na) (.slice Aa a.length ca) (.bool CU) (.slice Ab nb cb) (.bool false) (.slice none 0 0) (.bool false) (.slice none 0 0)):=⟨z8,zZ,BQ.below C Om,BR.below C Om⟩;clear hEQ hNR a0 a1 b0 b1;go_wp2_with fail;obtain⟨c0,c1⟩:=H0.cells;go_region_held3 (fun w'=>aA w' w.heap.size 0 (.bool na)/\aA w' (w.heap.size+1) 0 (.bool CU)) (first|with_reducible exact⟨c0,c1⟩|with_reducible exact H0.ae.drew.cells|with_reducible exact(H0.ae.drew.ext K).cells|with_reducible exact H3.ae.cells|with_reducible exact(H3.ae.aew _ _).cells|with_reducible exact((H3.ae.aew _ _).arx _ _).cells)
   (first
     |(go_at_call 156;(with_reducible show Calls _ _ #[Value.agg #[_,Value.slice (dC (w.heap.size+1+1+1+1) 0) _ _]] _ _);refine(Bd (na !=CU) _ _ _ (GA.ext (by exact(aB _).drew))).mono ?_;rintro e w1 ⟨v1,rfl,NY,K⟩;obtain⟨b1,Q,n1,c1',rfl,xx⟩:=NY.parts)
     |(go_at_call 156;(with_reducible show Calls _ _ #[Value.agg #[_,Value.slice AR mR cR]] _ _);refine(Bd na _ _ _ (zS.ext (by exact(aB _).drew.trans K))).mono ?_;rintro e w2 ⟨v2,rfl,F,B⟩;obtain⟨b2,A2,n2,c2',rfl,nC⟩:=F.parts;have H3:=af (H0.drew.ext (K.trans B));obtain⟨k0,k1,k2,k3⟩:=H3.aqA;obtain⟨l0,l1,l2,l3⟩:=H3.aqz;have asL:=af (xx.ext B);clear F))
  go_wp2;exact an7 rfl rfl rfl rfl H3.q H3.r asL nC (N.trans ((aB _).drew.trans (K.trans B))) Om
 ·obtain⟨k,rfl⟩:∃k,m=k+1:=⟨m - 1,by omega⟩;obtain⟨g1,o1,rfl,_,v⟩:=(S1.ext N).at_ (lM (show k<a.length by omega));rw[<-f4 (show k<a.length by omega)] at v;obtain⟨AR,mR,cR,rfl,⟨AR',cR',e,V5,s⟩,hfR⟩:=HR.ae;injection e with e1 e2 e3;subst e1 e2 e3;have Kl:=af s;have HCR:=af V5;have hFR:Fit R:=FB.le Om;have ass:=hFR;unfold Fit at ass;clear s V5 hfR;go_wp2_with (at_builtin;refine AO rfl (.tmp 31) (.tmp 32) pI rfl wr.heap.size jE _ 1 _ rfl (aof wr tI (av (limb a k:Nat)) _ (aK _)) AR (aW R).length cR (dF (aW R)) rfl HCR.2 awv (Kl.ext ((aB _).alloc _)) (by intro u hu;simp [dF] at hu;obtain⟨x,_,rfl⟩:=hu;rfl) Om Ou ?_)
  intro v1 w1 Jr hg1 _;have bQ:ah (Ext wr w1):=ud ((aB wr).alloc _) hg1 Ou (fun k hk=>by simp [Value.ownBlock] at hk;omega);have t:w1.ownsRow wr.heap.size tI 1 v1 ((aW R).length+1) (dF (limb a k::aW R)):=by rw[mS];exact Jr
  obtain⟨Q,c1,rfl,hc1,_,Z⟩:=ej t;have atK:=af (vY t);have atA:=af (aa8 t);have asT:=af Z;have atH:ah (bH (limb a k::aW R)):=rj (CA.1.getD k) (cW R).1;clear Jr t hg1 Z;go_wp2_with fail
  refine(QV Q c1 false (limb a k::aW R) w1 atK atH asT (by rw[cP];omega)).mono ?_;rintro e w2 ⟨b2,n2,rfl,F,B⟩;have tO:=af F.nat;rw[Ei,mr,dm] at tO;have hR1:limb a k+B9*R<B9*Y:=by have h1:=CA.1.getD k;have h2:B9*(R+1)<=B9*Y:=iF _ Wh;rw[fZ] at h2;omega
  have DG:=af hR1;obtain⟨R1,I⟩:∃R1,R1=limb a k+B9*R:=⟨_,rfl⟩;rw[<-I] at tO DG;have agN:=af I;have Nj:ah (Fit R1):=adL KC (pd DG);have d:=af (bQ.trans B);have zY:=af (zZ.ext d);obtain⟨b0,b1⟩:=zY.two;have hfd:=SX b2 Q n2 c1;clear F B hR1 I a0 a1 v;go_wp2;go_quiet (fail);have d:ah (Ext wr (w2.drewN nq)):=d.drewN nq;have Xr:ah (ik (w2.drewN nq) (.slice Q n2 c1) R1):=tO.ext ((aB _).drewN nq);have BB3:ah (ar (w2.drewN nq) (w.heap.size+1) bk [.bool CU,.slice Ab nb cb]):=zY.drewN nq;clear hfd b0 b1;generalize w2.drewN nq=S at*;obtain⟨b0,b1⟩:=BB3.two;go_wp2_with fail
  refine(aaR Xr (Xo.ext (N.trans d)) Nj FB).mono ?_;rintro e w4 ⟨rfl,D,rfl⟩;have d:ah (Ext wr (S.drewN D)):=d.drewN D;have Ku:ah (pG (S.drewN D) (w.heap.size+1+1+1+1+1) (.slice Q n2 c1) R1):=⟨Q,n2,c1,rfl,Xr.ext ((aB _).drewN D),fun ad h=>a7 hsz (atA ad h)⟩;have Gx:ah (ik (S.drewN D) (.slice Q n2 c1) R1):=Xr.ext ((aB _).drewN D);have GW:ah (ar (S.drewN D) (w.heap.size+1) bk [.bool CU,.slice Ab nb cb]):=BB3.drewN D;have Cw:ah (ar (S.drewN D) (w.heap.size+1+1+1+1) tI (dF (List.replicate (k+1) 0++q))):=J.ext d;have I':ah (Below (w.heap.size+1+1+1+1) W (S.drewN D)):=C.trans (d.mono Om);have Fl:ah (ik (S.drewN D) (.slice Ab nb cb) Y):=Xo.ext (N.trans d);clear b0 b1;generalize S.drewN D=w4 at*;obtain⟨b0,b1⟩:=GW.two;by_cases G:R1<Y
  ·have hcm:decide ((0:Int)<=d7 R1 Y)=false:=by rw[ET G];rfl
   generalize d7 R1 Y=cm at*;have O:ah (Y*0<=R1):=by rw[ah];omega
   have P:ah (R1<Y*(0+1)):=by rw[ah];omega
   go_wp2_with fail
   clear b0 b1;obtain⟨wo,mD⟩:∃wo:World,wo=w4:=⟨_,rfl⟩;have Pf:ah (Ext wo w4):=by rw[mD];exact aB _
   have GW:ah (ar wo (w.heap.size+1) bk [.bool CU,.slice Ab (nb) cb]):=by rw[mD];exact GW
   have Ku:ah (pG wo (w.heap.size+1+1+1+1+1) (.slice Q n2 c1) R1):=by rw[mD];exact Ku
   have Gx:ah (ik wo (.slice Q n2 c1) R1):=by rw[mD];exact Gx
   have Cw:ah (ar wo (w.heap.size+1+1+1+1) tI (dF (List.replicate (k+1) 0++q))):=by rw[mD];exact Cw
   have I':ah (Below (w.heap.size+1+1+1+1) W wo):=by rw[mD];exact I'
   have Fl:ah (ik wo (.slice Ab (nb) cb) Y):=by rw[mD];exact Fl
   have arL:w.heap.size+1+1+1+1+1<=wo.heap.size:=by have:=Cw.lt;omega
   clear mD;go_loopw [9,10,13] (fun E b _ ws=>∃(l h:Nat),E=av l/\b=av h/\l<=h/\h<1000000000/\ah (Y*l<=R1)/\ah (R1<Y*(h+1))/\ah (Ext wo ws)) (fun E b _ _=>(RowKit.intOf b).toNat - (RowKit.intOf E).toNat);exact⟨0,0,rfl,rfl,by omega,by omega,O,P,Pf⟩;exact m0
  ·obtain⟨T,n,n0,zo,hst,auR,arO,hT,Wd,JP,M,qx,Da,VT,hB⟩:=akt Wc (Y4 G) DG;have hcm:decide ((0:Int)<=d7 R1 Y)=true:=by unfold d7;rw[if_neg G];split<;>rfl
   have arX:nb=n0+1:=by rw[<-atb.ae];exact zo
   subst arX;obtain⟨c,j⟩:∃c,c=min 999999999 (T/n):=⟨_,rfl⟩;obtain⟨o,f⟩:∃o,o=min c (T/ (n+1)):=⟨_,rfl⟩;have O:ah (Y*o<=R1):=a7 (iF _ (by rw[f];exact Nat.min_le_right _ _)) Da;have P:ah (R1<Y*(c+1)):=by
    rw[ah,j];rcases Nat.le_total (T/n) 999999999 with h|h
    ·rw[Nat.min_eq_right h];exact VT
    ·rw[iR h];exact hB
   have au1:o<=c:=by rw[f];exact Nat.min_le_left _ _
   have avb:c<1000000000:=by rw[j];have:=Nat.min_le_left 999999999 (T/n);omega
   have jK:min (999999999:Int) ((T:Int)/ (n:Int))=(c:Int):=by rw[j,<-AD];omega
   have nu:min (c:Int) ((T:Int)/ ((n:Int)+1))=(o:Int):=(by have:((n:Int)+1)=((n+1:Nat):Int):=Om;rw[f,this,<-AD];omega);have iN:0<=(T:Int)/ (n:Int):=by rw[<-AD];omega
   have j4:0<=(T:Int)/ ((n:Int)+1):=Int.ediv_nonneg Om Om;have hT9:T<=999999999999999999:=by unfold B9 at hT Wd JP;omega
   have Dg:(T:Int)/ (n:Int)<=999999999999999999:=by rw[<-AD];have:=AE T n;omega
   have OJ:(T:Int)/ ((n:Int)+1)<=999999999999999999:=Int.le_trans (Int.ediv_le_self _ Om) Om;obtain⟨A',c',e,_,s⟩:=Gx.ae;injection e with e1 e2 e3;subst e1 e3;obtain⟨gR,oR,rfl,_,A⟩:=s.at_ (lM M);rw[<-f4 M] at A;obtain⟨A'',c'',e',_,Vu⟩:=Fl.ae;injection e' with e1 e2' e3;subst e1 e3;obtain⟨gY,oY,rfl,_,H⟩:=Vu.at_ (lM (show n0<(aW Y).length by omega));rw[<-f4 (show n0<(aW Y).length by omega),<-hst] at H;have afZ:(n0:Int)<(n2:Int):=Om;have V:(n:Int)≠0:=Om;have U:(n:Int)+1≠0:=Om;unfold B9 at arO Wd JP;rcases cA (n0+1) n2 with aqc|L
   ·have asl:w4.cell? (aC gR (oR+(n0+1)))=some (av (limb (aW R1) (n0+1):Nat)):=(by obtain⟨g',o',e,_,hc⟩:=s.at_ (lM (show n0+1<(aW R1).length by omega));injection e with e;injection e with e1 e2;subst e1 e2;rw[hc,f4]);have tH:decide ((n0:Int)+1<(n2:Int))=true:=fU;have Dn:(limb (aW R1) n0:Int)+(limb (aW R1) (n0+1):Int)*1000000000=(T:Int):=by rw[hT];unfold B9;omega
    generalize limb (aW R1) n0=tA at*;generalize limb (aW R1) (n0+1)=tbb at*;generalize d7 R1 Y=cm at*;clear hst hT j f zo e2 e2' Da VT hB M qx G s Vu;go_wp2_with fail;clear jK nu iN j4 Dg OJ Dn A asl H V U afZ hcm aqc tH;open q60 in exact m42
   ·have hz:limb (aW R1) (n0+1)=0:=pg Om;have tH:decide ((n0:Int)+1<(n2:Int))=false:=aY;rw[hz,LK,iq] at hT;rw[<-hT] at A;generalize d7 R1 Y=cm at*;clear hst hT j f zo e2 e2' Da VT hB M qx G s Vu hz Wd JP;go_wp2_with fail
    clear jK nu iN j4 Dg OJ A H V U afZ hcm L tH;open q61 in exact m42
def fA.ap1{W:au}{g:Nat}{x0 x1 y0 y1 z0 z1:Value}(h:fA W g x0 x1 y0 y1 z0 z1)(a b c d:Value):fA ((((W.setCell (aC g 0) a).setCell (aC g 1) b).setCell (aC (g+1) 0) c).setCell (aC (g+1) 1) d) g a b c d z0 z1:=
 ⟨((h.a.bu 0 a).bu 1 b).nX Om c d,(((h.b.nX (k:=g) Om a b).bu 0 c).bu 1 d),(h.r.nX (k:=g) Om a b).nX Om c d⟩
def fA.apn{W:au}{g:Nat}{x0 x1 y0 y1 z0 z1:Value}(h:fA W g x0 x1 y0 y1 z0 z1)(a b c d:Value):Kept tI W ((((W.setCell (aC g 0) a).setCell (aC g 1) b).setCell (aC (g+1) 0) c).setCell (aC (g+1) 1) d):=
 (h.a.qh Od 0 1 a b).trans ((h.b.nX (k:=g) Om a b).qh Od 0 1 c d)
def ahy(n:Nat):signed false n=(n:Int):=rfl
def bK.abs(h:bK m (.agg #[.bool R,.slice E a b]) B):bK m (.agg #[.bool false,.slice E a b]) (B.natAbs:Int):=by obtain⟨_,rfl,e,d⟩:=h.inv;exact⟨E,b,by rw[fY,decide_eq_false Om],by rw[fY];exact e,by rw[fY];exact d⟩
def bK.len(h:bK m (.agg #[.bool R,.slice E a b]) (c:Int)):decide (0<a)=decide (0<c):=by obtain⟨_,rfl,_⟩:=h.inv;rw[fY];exact acV
def q62.Jh(h:aq:=by
 have f0:=H0.a.frozen 0;have f1:=H0.b.frozen 0;have H1:ah (fA ((W.setCell (aC w.heap.size 0) (.bool false)).setCell (aC (w.heap.size+1) 0) (.bool false)) w.heap.size (.bool false) (.slice Aa na ca) (.bool false) (.slice Ab nb cb) (.bool false) (.slice none 0 0)):=
  ⟨(H0.a.bu 0 (.bool false)).far (p:=aC (w.heap.size+1) 0) (by show w.heap.size≠w.heap.size+1;omega) _,(H0.b.far (p:=aC w.heap.size 0) (by show w.heap.size+1≠w.heap.size;omega) _).bu 0 (.bool false),(H0.r.far (p:=aC w.heap.size 0) (by show w.heap.size+1+1≠w.heap.size;omega) _).far (p:=aC (w.heap.size+1) 0) (by show w.heap.size+1+1≠w.heap.size+1;omega) _⟩
 have t:ah (Ext w ((W.setCell (aC w.heap.size 0) (.bool false)).setCell (aC (w.heap.size+1) 0) (.bool false))):=(bP.setCell (p:=aC w.heap.size 0) (aK _) _).setCell (p:=aC (w.heap.size+1) 0) (lK _) _;go_wp2;clear c0 c1 c2 c3 f0 f1;generalize(W.setCell (aC w.heap.size 0) (.bool false)).setCell (aC (w.heap.size+1) 0) (.bool false)=W1 at*;go_loopg [5,6] Y (fun k _ _ wr=>∃(p q:Nat) (Z:aR) (G J:Nat) (o:aR) (nq m:Nat),k=q/\ah (cE (p:Int))/\ah (cE (q:Int))/\ah (Nat.gcd p q=Nat.gcd X Y)/\ah (fA wr w.heap.size (.bool false) (.slice Z G J) (.bool false) (.slice o nq m) (.bool false) (.slice none 0 0))/\ah (bK wr (.agg #[.bool false,.slice Z G J]) (p:Int))/\ah (bK wr (.agg #[.bool false,.slice o nq m]) (q:Int))/\ah (Ext w wr));case atStart=>exact⟨X,Y,Aa,na,ca,Ab,nb,cb,rfl,FX,FY,rfl,H1,T.ext t,S.ext t,t⟩
 case round=>
  obtain⟨p,q,Z,G,J,o,nq,m,rfl,FP,U,HG,E,P,O,HX⟩:=hrel;obtain⟨c0,c1,c2,c3⟩:=E.cells;have l:=O.len;have n:=af l;clear l;rcases ip gk with rfl|z
  ·have hd:decide (0<nq)=false:=n.ae;have HE:ah (p=Nat.gcd X Y):=by rw[ah,<-HG.ae,YU]
   rw[HE.ae] at P;obtain⟨k0,k1,k2,k3⟩:=E.res;go_wp2;exact ul rfl rfl rfl E.r P HX Om (fun v W' h1 h2=>⟨v,rfl,h1,h2⟩)
  ·have hd:decide (0<nq)=true:=by rw[n.ae];exact decide_eq_true z
   go_wp2_with fail
   refine(R4 _ _ (p:Int) (gk:Int) wr P O FP U Om).mono ?_;rintro e w2 ⟨v1,v2,rfl,u,s,f⟩;obtain⟨b1,A1,n1,c1',rfl,xx⟩:=u.parts;rw[fY,fY,decide_eq_false Om,ahy] at s;obtain⟨b2,F,D,i,rfl,B⟩:=s.parts;have I:b2=false:=by rw[B.inv.1];exact decide_eq_false Om
   subst I;have R:=af (E.ext f);have A:=af (HX.trans f);have N:=af (O.ext f);clear u s f c0 c1 c2 c3;go_wp2_with fail
   refine fR fun W3 j _ V=> ?_;have c:=af (R.ext j);obtain⟨c0,c1,c2,c3⟩:=c.cells;obtain⟨d0,d1⟩:=V.two;have f0:=c.a.frozen 0;have f1:=c.a.frozen 1;have f2:=c.b.frozen 0;have f3:=c.b.frozen 1;have Q:=af (c.ap1 (.bool false) (.slice o nq m) (.bool false) (.slice F D i)).drew;have C:=af (c.apn (.bool false) (.slice o nq m) (.bool false) (.slice F D i));have K:=af ((((((A.trans j).setCell (p:=aC w.heap.size 0) (aK _) (.bool false)).setCell (p:=aC w.heap.size 1) (aK _) (.slice o nq m)).setCell (p:=aC (w.heap.size+1) 0) (lK _) (.bool false)).setCell (p:=aC (w.heap.size+1) 1) (lK _) (.slice F D i))).drew;have M:=af ((N.ext j).keep C);have L:=af ((B.ext j).keep C);have H:p%gk<gk:=eF _ z;have d:w2.heap.size+1≠w.heap.size:=by have:=A.size;omega
   have auY:w.heap.size≠w2.heap.size+1:=fun h=>d h.symm;obtain⟨e0,e1⟩:=(V.nX (k:=w.heap.size) d (.bool false) (.slice o nq m)).two;have e2:=(V.far (p:=aC w.heap.size 0) d (.bool false)).two;obtain⟨e2,e3⟩:=e2;go_region
   all_goals go_wp2
   all_goals
    go_roundg (p%gk)
    case measure=>exact H
    case rel=>exact⟨gk,p%gk,o,nq,m,F,D,i,rfl,U,U.le (by rw[fY,fY];omega),by rw[ah,<-HG.ae,AH p gk,QO gk p,AH],Q,M.ext (aB _).drew,L.ext (aB _).drew,K⟩):=h
def ab1(va vb:Value)(x y:Int)(w:au)(ha:bK w va x)(hb:bK w vb y)(fx:cE x)(fy:cE y):
 Calls prog 155 #[va,vb] w fun e w'=>∃v',e= .returned v'/\bK w' v' ((Nat.gcd x.natAbs y.natAbs:Nat):Int)/\Ext w w':=by
 obtain⟨ba,Aa,na,ca,rfl,HA⟩:=ha.parts;obtain⟨bb,Ab,nb,cb,rfl,HB⟩:=hb.parts;have FX:ah (cE (x.natAbs:Int)):=fx.le (by rw[fY];exact aK _);have FY:ah (cE (y.natAbs:Int)):=fy.le (by rw[fY];exact aK _);have T:=af HA.abs;have S:=af HB.abs;clear ha hb fx fy;generalize x.natAbs=X at*;generalize y.natAbs=Y at*;go_enter func155,ntmps155;go_upto_region 1 with fail
 open q62 in exact m12
end Go.Proofs.YtadbchhdjbghkaaGreatDoor
