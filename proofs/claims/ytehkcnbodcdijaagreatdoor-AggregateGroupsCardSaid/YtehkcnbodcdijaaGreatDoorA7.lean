/- Texts of the proof, part 7. -/
import Derived.Test.YtehkcnbodcdijaaGreatDoorA6
namespace Go.Proofs.YtehkcnbodcdijaaGreatDoor
set_option maxHeartbeats 8000000
set_option linter.all false
set_option maxRecDepth 100000
variable{ar:Prop}
open Go.RowKit Go.Lib Go.Maps Go.ChangeShapes Go.WideShapes Go.ChangeAt Go.Proofs.Tryz
variable{a b c d e f g h:Nat}{i j k l:List Nat}{m n o:World}{p q r s:Value}{t u v:List Value}{w x:TypeId}{y z:Nat→Option Nat}{A:Nat→List Nat}{B C:Int}{E F:Option Addr}{H I:Rat}{J:Nat→Nat}{K:Nat→Bool}{L:List Int}{N:Array Bool}{O:Option Nat}{Q:Act}{R S:Bool}{T:List UInt8}
def dJ.inv(h:dJ m (.agg #[.bool R,.slice E a b]) B):R=decide (B<0)/\a=(a7 B.natAbs).length/\tE E a b/\nB m E (a7 B.natAbs):=by obtain⟨j,i,e,f,d⟩:=h;simp at e;obtain⟨rfl,rfl,rfl,rfl⟩:=e;exact⟨rfl,rfl,f,d⟩
structure iV(W:au)(g:Nat)(x0 x1 y0 y1 z0 z1:Value):Prop where
 a:aq W g bF [x0,x1]
 b:aq W (g+1) bF [y0,y1]
 r:aq W (g+1+1) bF [z0,z1]
def iV.new(w:au)(x0 x1 y0 y1 z0 z1:Value):iV (((w.alloc (Obj.cells #[x0,x1] bF)).alloc (Obj.cells #[y0,y1] bF)).alloc (Obj.cells #[z0,z1] bF)) w.heap.size x0 x1 y0 y1 z0 z1:=
 ⟨((l6 w bF [x0,x1] _ rfl).alloc _).alloc _,(l6 (w.alloc (Obj.cells #[x0,x1] bF)) bF [y0,y1] _ Ou).alloc _,l6 ((w.alloc (Obj.cells #[x0,x1] bF)).alloc (Obj.cells #[y0,y1] bF)) bF [z0,z1] _ Ou⟩
section
variable{W W':au}{g:Nat}{x0 x1 y0 y1 z0 z1:Value}
theorem iV.ext(h:iV W g x0 x1 y0 y1 z0 z1)(c:Ext W W'):iV W' g x0 x1 y0 y1 z0 z1:=⟨h.a.ext c,h.b.ext c,h.r.ext c⟩
theorem iV.drew(h:iV W g x0 x1 y0 y1 z0 z1):iV W.drew g x0 x1 y0 y1 z0 z1:=⟨h.a,h.b,h.r⟩
theorem iV.put(h:iV W g x0 x1 y0 y1 z0 z1)(u v:Value):iV ((W.setCell (aD (g+1+1) 0) u).setCell (aD (g+1+1) 1) v) g x0 x1 y0 y1 u v:=
 ⟨(h.a.far (p:=aD (g+1+1) 0) ax' u).far (p:=aD (g+1+1) 1) ax' v,(h.b.far (p:=aD (g+1+1) 0) ax0 u).far (p:=aD (g+1+1) 1) ax0 v,(h.r.bh 0 u).bh 1 v⟩
theorem iV.cells(h:iV W g x0 x1 y0 y1 z0 z1):aA W g 0 x0/\aA W g 1 x1/\aA W (g+1) 0 y0/\aA W (g+1) 1 y1:=
 ⟨h.a.aF 0,h.a.aF 1,h.b.aF 0,h.b.aF 1⟩
theorem iV.res(h:iV W g x0 x1 y0 y1 z0 z1):aA W (g+1+1) 0 z0/\aA W (g+1+1) 1 z1/\W.frozen? (aD (g+1+1) 0)=false/\W.frozen? (aD (g+1+1) 1)=false:=
 ⟨h.r.aF 0,h.r.aF 1,h.r.frozen 0,h.r.frozen 1⟩
end
def qK(w:au)(v:Value)(n:Nat):Prop:=∃A l c,v= .slice A l.length c/\tE A l.length c/\bI l/\nB w A l/\l.length<=100000000/\val l=n
def qK.parts(h:qK m p a):∃A b c,p= .slice A b c/\ah (qK m (.slice A b c) a):=by obtain⟨A,l,c,rfl,r⟩:=h;exact⟨A,_,c,rfl,⟨A,l,c,rfl,r⟩⟩
def qK.ext{w':au}{n:Nat}(h:qK m p n)(a:Ext m w'):qK w' p n:=by obtain⟨A,l,c,rfl,e,d,b,r⟩:=h;exact⟨A,l,c,rfl,e,d,b.ext a,r⟩
def Ni(a:Bool)(s:Value)(n:Nat)(w:au)(h:qK w s n):
 Calls prog 152 #[.agg #[.bool a,s]] w fun e b=>∃d,e= .returned d/\dJ b d (signed a n)/\Ext w b:=by
 obtain⟨A,l,c,rfl,k,j,f,i,rfl⟩:=h;exact abK _ a l w ⟨A,c,rfl,k,j,f⟩ i
def anF(q:dJ m (.agg #[.bool R,.slice E a b]) B)(p:dJ m (.agg #[.bool S,.slice F c d]) C)(v:kL B)(u:kL C):
 Calls prog 244 #[.slice E a b,.slice F c d] m fun e h=>∃i,e= .returned i/\qK h i (B.natAbs+C.natAbs)/\Ext m h:=by
 obtain⟨_,rfl,_,t⟩:=q.inv;obtain⟨_,rfl,_,s⟩:=p.inv;unfold kL Fit at v u;refine(alH E F b d _ _ m Om Om (dE _).1 (dE _).1 t s).mono ?_;rintro e h ⟨A,r,f,o,z,rfl,n,k,l,j⟩;exact⟨_,rfl,⟨A,r,f,rfl,o,n,l,by omega,by rw[k,dG,dG]⟩,j⟩
def q30.k14(h:ar:=by
 go_region_held3 (fun a=>aA a w.heap.size 0 (.bool ba)/\aA a w.heap.size 1 (.slice Aa na ca)/\aA a (w.heap.size+1) 0 (.bool bb)/\aA a (w.heap.size+1) 1 (.slice Ab nb cb)) (first|with_reducible exact⟨c0,c1,c2,c3⟩|with_reducible exact H0.ae.drew.cells|with_reducible exact(H0.ae.drew.ext c).cells|with_reducible exact i.ae.cells|with_reducible exact(i.ae.put _ _).cells)
  (first
    |(go_at_call 244;refine(anF (n.ext axC) (B.ext axC) H G).mono ?_;rintro e J ⟨L,rfl,j,c⟩;obtain⟨T,m1,F,rfl,m⟩:=j.parts)
    |(go_at_call 152;refine(Ni ba _ _ _ m).mono ?_;rintro e I ⟨K,rfl,f,d⟩;obtain⟨R,S,M,E,rfl,l⟩:=f.parts;have i:=af (H0.drew.ext (c.trans d));obtain⟨Q,P,O,N⟩:=i.res;clear f))
 go_wp2;refine NE rfl rfl rfl i.r l (bS.drew.trans (c.trans d)) Om (fun v W' u D=>⟨v,rfl,?_,D⟩);rw[n.inv.1,ZV k.ae] at u;exact u):=h
def avM(p o:Value)(x y:Int)(w:au)(t:dJ w p x)(s:dJ w o y)(A:kL x)(z:kL y)(b:decide (x<0)=decide (y<0)):
 Calls prog 186 #[p,o] w fun e a=>∃q,e= .returned q/\dJ a q (x+y)/\Ext w a:=by
 obtain⟨ba,Aa,na,ca,rfl,n⟩:=t.parts;obtain⟨bb,Ab,nb,cb,rfl,B⟩:=s.parts;have C:(ba==bb)=true:=by rw[n.inv.1,B.inv.1,b];simp
 have k:=af b;have H:=af A;have G:=af z;clear t s A z b;go_enter func186,ntmps186;go_wp2_with fail
 open q30 in exact m14
def apn{n:Nat}:decide (0<(a7 n).length)=decide (0<n):=by exact aga
def aoB{g i:Nat}(h:aq m g tI (ed j))(a:i<j.length):aA m g i (av (limb j i:Nat)):=
 h.cell (by rw[oI a,gT a])
def amG{g i x:Nat}{z:Int}(h:aq m g tI (ed j))(a:z=x):aq (m.setCell (aD g i) (av z)) g tI (ed (j.set i x)):=by have:=h.bh i (av z);rw[ed,E7,<-ed,<-a];exact this
def iV.setRow{W:au}{g:Nat}{x0 x1 y0 y1 z0 z1:Value}(h:iV W g x0 x1 y0 y1 z0 z1)(i:Nat)(u:Value):iV (W.setCell (aD (g+1+1+1) i) u) g x0 x1 y0 y1 z0 z1:=
 ⟨h.a.far (p:=aD (g+1+1+1) i) (by show g≠g+1+1+1;omega) u,h.b.far (p:=aD (g+1+1+1) i) (by show g+1≠g+1+1+1;omega) u,h.r.far (p:=aD (g+1+1+1) i) (by show g+1+1≠g+1+1+1;omega) u⟩
def iC(w:au)(v:Value)(n:Nat):Prop:=∃A c,v= .slice A (a7 n).length c/\tE A (a7 n).length c/\nB w A (a7 n)
def iC.ext{w':au}{n:Nat}(h:iC m p n)(a:Ext m w'):iC w' p n:=by obtain⟨A,c,rfl,d,b⟩:=h;exact⟨A,c,rfl,d,b.ext a⟩
def iC.parts(h:iC m p a):∃A b c,p= .slice A b c/\b=(a7 a).length/\ah (iC m (.slice A b c) a):=by obtain⟨A,c,rfl,r⟩:=h;exact⟨A,_,c,rfl,rfl,⟨A,c,rfl,r⟩⟩
def dJ.nat(h:dJ m (.agg #[.bool R,.slice E a b]) B):iC m (.slice E a b) B.natAbs:=by obtain⟨_,rfl,e,d⟩:=h.inv;exact⟨E,b,rfl,e,d⟩
def iC.limbs(h:iC m p a)(d:Fit a):qK m p a:=by obtain⟨A,c,rfl,e,b⟩:=h;unfold Fit at d;exact⟨A,a7 a,c,rfl,e,(dE a).1,b,by omega,dG a⟩
def iC.nil(w:au):iC w (.slice none 0 0) 0:=⟨none,0,rfl,⟨aL _,fun _=>rfl⟩,Sl.nil⟩
def T7(b:Bool)(A:aQ)(n c:Nat):∀w:World,(Instr.field bF (.agg #[.bool b,.slice A n c]) 1).run prog w= .ok (.slice A n c) w:=fun _=>by kernel_rfl
def ai7(f:i.length=a)(h:val i+B9^a*b=val (j.take a)*c)(e:d=b+limb j a*c):
 val (i++ [d%B9])+B9^(a+1)*(d/B9)=val (j.take (a+1))*c:=by
 rw[pT,f,ja j a,eA,fS,Ci,<-gh,Iq,e,gh,kZ,<-h];rw[fS];omega
def abL(f:iC m p a)(d:iC m q b)(k:Fit a)(j:Fit b):
 Calls prog 154 #[p,q] m fun e c=>e= .returned (av (eM a b))/\∃n,c=m.drewN n:=by
 obtain⟨s,o,rfl,_,i⟩:=f;obtain⟨r,l,rfl,_,h⟩:=d;unfold Fit at k j;have:=abM s r o l _ _ m Om Om (dE a) (dE b) i h;rwa[dG,dG] at this
def avE{w:au}(i:iC w p a)(f:iC w q b)(k:Fit a)(j:Fit b)(hle:b<=a):
 Calls prog 241 #[p,q] w fun e w'=>∃d,e= .returned d/\qK w' d (a - b)/\Ext w w':=by
 obtain⟨Aa,ca,rfl,iZ,h1⟩:=i;obtain⟨Ab,cb,rfl,_,h2⟩:=f;unfold Fit at k j;exact m87
def q41.k57(h:ar:=by go_roundw;exact⟨k+1,q,r++ [p],by omega,by omega,by go_num,by first|rfl|exact congrArg _ j|exact congrArg _ Om,htq,by simp [y.ae],qq,R,fJ,cE⟩;simp [RowKit.intOf];omega):=h
def q42.k57(h:ar:=by go_roundw;exact⟨k+1,q,r++ [p],by omega,(fun _=>H.ae),by go_num,by first|rfl|exact congrArg _ j|exact congrArg _ Om,htq,by simp [y.ae],qq,R,fJ,cE⟩;simp [RowKit.intOf];omega):=h
def aaL(K:Value)(i n:Nat)(w:au)(ha:iC w K i)(hf:Fit i)(X:n<1000000000):
 Calls prog 240 #[K,av n] w fun e J=>∃v',e= .returned v'/\iC J v' (i*n)/\Ext w J:=by
 obtain⟨A1,c1,rfl,_,L⟩:=ha;have S1:=af L;have CA:=af (dE i);have VA:=af (dG i);unfold Fit at hf;generalize a7 i=a at*;clear L;go_enter func240,ntmps240;go_wp2;go_loopw [5,6,7] (fun T S z wr=>∃(k c:Nat) (r:List Nat),k<=a.length+1/\(k=a.length+1->c=0)/\z=av k/\S=av c/\c<1000000000/\r.length=k/\bI r/\ah (val r+B9^k*c=val (a.take k)*n)/\ah (wr.ownsRow w.heap.size tI 1 T k (ed r))/\ah (Ext w wr)) (fun _ _ z _=>a.length+1 - (RowKit.intOf z).toNat)
 exact⟨0,0,[],aU _,by omega,rfl,rfl,by omega,rfl,kK,by simp [ah],mQ _ _ _ _,aB w⟩;obtain⟨k,c,r,hk,Y,rfl,rfl,hc,N,O,Q,HO,HX⟩:=hrel;have y:=af N;have HD:=af O;clear N O;obtain⟨t,f⟩:∃t,t=c+limb a k*n:=⟨_,rfl⟩;have R:=af (ai7 y Q f);by_cases u:k<a.length
 ·obtain⟨g1,o1,rfl,_,d⟩:=(S1.ext HX).at_ (oI u);rw[<-gT u] at d;have m:=CA.1.getD k;have C:=II m (show n<B9 from X);have V:(limb a k:Int)*(n:Int)<=999999998000000001:=axW;have M:0<=(limb a k:Int)*(n:Int):=Iy Om Om;have b:ah ((c:Int)+(limb a k:Int)*(n:Int)=t):=by rw[ah,f,Z2,oG]
  have E:t<=999999999999999999:=Om;unfold B9 at m;clear f C;generalize limb a k=x at*;have dZ:((c:Int)+x*n)%1000000000=((t%B9:Nat):Int):=axY;have j:((c:Int)+x*n)/1000000000=((t/B9:Nat):Int):=axY;open q41 in exact m57
 ·have B:=rL (l:=a) (k:=k) Om;rw[B,IC,kH] at f;by_cases hc0:0<c
  ·have b:ah ((c:Int)=t):=by rw[ah,f]
   have H:ah (t/B9=0):=by rw[f];unfold ah B9;omega
   have E:t<=999999999999999999:=Om;clear f B;have dZ:(c:Int)%1000000000=((t%B9:Nat):Int):=axY;have j:(c:Int)/1000000000=((t/B9:Nat):Int):=axY;open q42 in exact m57
  ·obtain rfl:c=0:=Om;have HE:ah (val r=i*n):=(by have:=Q.ae;rw[dD Om,VA.ae] at this;rw[ah];omega)
   obtain⟨A,P,rfl,hc',_,s⟩:=eL HO;have I:ah (qK wr (.slice A k P) (i*n)):=(by have e:=y.ae;subst e;exact⟨A,r,P,rfl,C9 HO,HD,s,by omega,HE⟩)
   clear s f B;go_wp2_with fail;refine(Ni false _ _ wr I).mono ?_;rintro e w2 ⟨v2,rfl,o,D⟩;obtain⟨b2,A2,U,F,rfl,G⟩:=o.parts;have v:=af G.nat;rw[EY] at v;clear o;have Z:=T7 b2 A2 U F;go_wp2;go_ret;exact⟨_,rfl,v,HX.trans D⟩
def arn{P:World->Prop}{b a d0 d1:Value}(h:∀W,ah (Ext m W)->ah (aq W m.heap.size bF [p,q])->ah (aq W (m.heap.size+1) bF [r,s])->ah (aq W (m.heap.size+1+1) bF [b,a])->ah (aq W (m.heap.size+1+1+1) bF [d0,d1])->ah (aq W (m.heap.size+1+1+1+1) w t)->P W):
 P (((((m.alloc (.cells #[p,q] bF)).alloc (.cells #[r,s] bF)).alloc (.cells #[b,a] bF)).alloc (.cells #[d0,d1] bF)).alloc (.cells t.toArray w)):=by
 have d:∀W,aq W m.heap.size bF [p,q]/\aq W (m.heap.size+1) bF [r,s]/\aq W (m.heap.size+1+1) bF [b,a]->∀o,aq (W.alloc o) m.heap.size bF [p,q]/\aq (W.alloc o) (m.heap.size+1) bF [r,s]/\aq (W.alloc o) (m.heap.size+1+1) bF [b,a]:=fun W hW o=>⟨hW.1.alloc o,hW.2.1.alloc o,hW.2.2.alloc o⟩;have e:aq (((m.alloc (.cells #[p,q] bF)).alloc (.cells #[r,s] bF)).alloc (.cells #[b,a] bF)) m.heap.size bF [p,q]/\aq (((m.alloc (.cells #[p,q] bF)).alloc (.cells #[r,s] bF)).alloc (.cells #[b,a] bF)) (m.heap.size+1) bF [r,s]/\aq (((m.alloc (.cells #[p,q] bF)).alloc (.cells #[r,s] bF)).alloc (.cells #[b,a] bF)) (m.heap.size+1+1) bF [b,a]:=
  ⟨((jd m bF [p,q]).alloc _).alloc _,(l6 (m.alloc (.cells #[p,q] bF)) bF [r,s] _ Ou).alloc _,l6 ((m.alloc (.cells #[p,q] bF)).alloc (.cells #[r,s] bF)) bF [b,a] _ Ou⟩
 have c:=d _ (d _ e (.cells #[d0,d1] bF)) (.cells t.toArray w);refine h _ ((((((aB m).alloc _).alloc _).alloc _).alloc _).alloc _) c.1 c.2.1 c.2.2 ?_ ?_
 ·exact(l6 (((m.alloc (.cells #[p,q] bF)).alloc (.cells #[r,s] bF)).alloc (.cells #[b,a] bF)) bF [d0,d1] _ Ou).alloc _
 ·exact l6 ((((m.alloc (.cells #[p,q] bF)).alloc (.cells #[r,s] bF)).alloc (.cells #[b,a] bF)).alloc (.cells #[d0,d1] bF)) w t _ Ou
def amu(n:Nat)(h:n<=1000000000)(w:au):
 (Instr.makeSlice ui (av (n:Int)) (av (n:Int))).run prog w= .ok (aG w.heap.size 0 n n) (w.alloc (.cells (ed (List.replicate n 0)).toArray tI)):=by
 obtain⟨e,f,c,b,a⟩:=info_parts adw;have d:=run_make (P:=prog) w ui tI e (av 0) underlying22 f c .i64 .i64 (n:Int) (n:Int) Om (xd _) aye Om;simp only[kX,b,lF,Value.cells,Cf] at d;rw[d,ed,Bx];rfl
def aq.below{W wr:au}{g:Nat}(h:aq W g w t)(c:Below a W wr)(b:g<a):aq wr g w t:=(c.block g b).trans h
def apI(w:au)(e:TypeId)(u:Value)(a:Nat)(b:a<=w.heap.size):(w.alloc (.cells #[u] e)).ownsRow a e 1 (aG w.heap.size 0 1 1) 1 [u]:=
 ⟨rfl,.inr ⟨w.heap.size,1,#[u],rfl,b,heap_alloc_new w _,aL _,by unfold maxLen;omega,rfl,rfl⟩⟩
def p8(w:au)(B:Nat)(v:Value)(n:Nat):Prop:=∃A m c,v= .slice A m c/\iC w (.slice A m c) n/\∀a,A=some a->B<=a.block
def p8.nil(w:au)(B:Nat):p8 w B (.slice none 0 0) 0:=⟨none,0,0,rfl,iC.nil w,fun _ h=>by cases h⟩
def p8.ext{w':au}{n:Nat}(h:p8 m a p n)(d:Ext m w'):p8 w' a p n:=by obtain⟨A,b,c,rfl,f,e⟩:=h;exact⟨A,b,c,rfl,f.ext d,e⟩
def p8.far(h:p8 m a q b){p:Addr}(G:p.block<a)(u:Value):p8 (m.setCell p u) a q b:=by obtain⟨A,d,c,rfl,⟨I,H,e,x,t⟩,l⟩:=h;injection e with F E D;subst F E D;refine⟨A,_,c,rfl,⟨A,c,rfl,x,?_⟩,l⟩;intro j r s;obtain⟨g,o,i,C,k,y,f⟩:=t j r s;have z:=l _ k;exact⟨g,o,i,C,k,(Mm m p u g (by show g≠p.block;have:a<=g:=z;omega)).trans y,f⟩
def ajf(v:iC m p a)(u:iC m q b)(B:Fit a)(z:Fit b)(f:b<=a):
 Calls prog 241 #[p,q] m fun e d=>∃A l c,e= .returned (.slice A l.length c)/\tE A l.length c/\(∀j,A=some j->m.heap.size<=j.block)/\bI l/\nB d A l/\l.length<=100000000/\val l=a - b/\Ext m d:=by
 obtain⟨F,D,rfl,i,y⟩:=v;obtain⟨E,C,rfl,_,x⟩:=u;unfold Fit at B z;refine(aaN F E D C _ _ m Om Om i (dE _) (dE _) (by rw[dG,dG];exact f) y x).mono ?_;rintro e d ⟨A,r,c,t,h,G,rfl,s,n,o,k⟩;exact⟨A,r,c,rfl,t,h,s,o,by omega,by rw[n,dG,dG],k⟩
structure lL(W:au)(g:Nat)(x0 x1 y0 y1 q0 q1 r0 r1:Value):Prop where
 a:aq W g bF [x0,x1]
 b:aq W (g+1) bF [y0,y1]
 q:aq W (g+1+1) bF [q0,q1]
 r:aq W (g+1+1+1) bF [r0,r1]
section
variable{W W':au}{g:Nat}{x0 x1 y0 y1 q0 q1 r0 r1:Value}
theorem lL.ext(h:lL W g x0 x1 y0 y1 q0 q1 r0 r1)(c:Ext W W'):lL W' g x0 x1 y0 y1 q0 q1 r0 r1:=⟨h.a.ext c,h.b.ext c,h.q.ext c,h.r.ext c⟩
theorem lL.drew(h:lL W g x0 x1 y0 y1 q0 q1 r0 r1):lL W.drew g x0 x1 y0 y1 q0 q1 r0 r1:=⟨h.a,h.b,h.q,h.r⟩
theorem lL.afG(h:lL W g x0 x1 y0 y1 q0 q1 r0 r1)(u v:Value):lL ((W.setCell (aD (g+1+1) 0) u).setCell (aD (g+1+1) 1) v) g x0 x1 y0 y1 u v r0 r1:=
 ⟨h.a.oO Om u v,h.b.oO Om u v,(h.q.bh 0 u).bh 1 v,h.r.oO Om u v⟩
theorem lL.asY(h:lL W g x0 x1 y0 y1 q0 q1 r0 r1)(u v:Value):lL ((W.setCell (aD (g+1+1+1) 0) u).setCell (aD (g+1+1+1) 1) v) g x0 x1 y0 y1 q0 q1 u v:=
 ⟨h.a.oO Om u v,h.b.oO Om u v,h.q.oO Om u v,(h.r.bh 0 u).bh 1 v⟩
theorem lL.cells(h:lL W g x0 x1 y0 y1 q0 q1 r0 r1):aA W g 0 x0/\aA W (g+1) 0 y0:=⟨h.a.aF 0,h.b.aF 0⟩
theorem lL.ar5(h:lL W g x0 x1 y0 y1 q0 q1 r0 r1):aA W (g+1+1) 0 q0/\aA W (g+1+1) 1 q1/\W.frozen? (aD (g+1+1) 0)=false/\W.frozen? (aD (g+1+1) 1)=false:=⟨h.q.aF 0,h.q.aF 1,h.q.frozen 0,h.q.frozen 1⟩
theorem lL.ar4(h:lL W g x0 x1 y0 y1 q0 q1 r0 r1):aA W (g+1+1+1) 0 r0/\aA W (g+1+1+1) 1 r1/\W.frozen? (aD (g+1+1+1) 0)=false/\W.frozen? (aD (g+1+1+1) 1)=false:=⟨h.r.aF 0,h.r.aF 1,h.r.frozen 0,h.r.frozen 1⟩
end
def adl{g:Nat}(d:aq m g bF [.bool R,.slice E a b]):(loadVar bF ⟨g,0,none⟩).run prog m= .ok (.agg #[.bool R,.slice E a b]) m:=
 run_loadVar_row m g bF bF #[.bool R,.slice E a b] (0,0) _ d underlying105 rfl Ok
def afp(q r:Int)(w:au)(e:Ending)(a:au):Prop:=∃c b,e= .returned (.tuple #[c,b])/\dJ a c q/\dJ a b r/\Ext w a
def apy{v:Func}{t g:Nat}{x0 x1 y0 y1:Value}(f:v.results= #[.cell t bF,.cell a bF])(D:Q.tmps.getD t undef=aI g 0)(k:Q.tmps.getD a undef=aI (g+1) 0)(G:Q.defers= [])
 (u:aq n g bF [x0,x1]) (r:aq n (g+1) bF [y0,y1]) (I:dJ n (.agg #[.bool R,.slice E b c]) B) (H:dJ n (.agg #[.bool S,.slice F d e]) C) (A:Ext m n) (s:m.heap.size<=g):
 bodyPost prog v (afp B C m) .ret Q ((((n.setCell (aD g 0) (.bool R)).setCell (aD g 1) (.slice E b c)).setCell (aD (g+1) 0) (.bool S)).setCell (aD (g+1) 1) (.slice F d e)):=by
 have q:aq ((n.setCell (aD g 0) (.bool R)).setCell (aD g 1) (.slice E b c)) g bF [.bool R,.slice E b c]:=(u.bh 0 (.bool R)).bh 1 (.slice E b c);have j:aq ((n.setCell (aD g 0) (.bool R)).setCell (aD g 1) (.slice E b c)) (g+1) bF [y0,y1]:=r.oO Om _ _;have i:=u.pW (t:=tI) Od 0 1 (.bool R) (.slice E b c);have l:Ext m ((n.setCell (aD g 0) (.bool R)).setCell (aD g 1) (.slice E b c)):=(A.setCell s _).setCell s _;generalize(n.setCell (aD g 0) (.bool R)).setCell (aD g 1) (.slice E b c)=z at*;have p:aq ((z.setCell (aD (g+1) 0) (.bool S)).setCell (aD (g+1) 1) (.slice F d e)) g bF [.bool R,.slice E b c]:=q.oO Om _ _;have o:aq ((z.setCell (aD (g+1) 0) (.bool S)).setCell (aD (g+1) 1) (.slice F d e)) (g+1) bF [.bool S,.slice F d e]:=(j.bh 0 (.bool S)).bh 1 (.slice F d e);have h:=j.pW (t:=tI) Od 0 1 (.bool S) (.slice F d e);exact bodyPost_ret (Z4 f Q.tmps _ g (g+1) _ _ D k (adl p) (adl o)) G ⟨_,_,rfl,I.keep (i.trans h),H.keep (i.trans h),(l.setCell (show m.heap.size<=g+1 by omega) _).setCell (show m.heap.size<=g+1 by omega) _⟩
def alP(t:0<b)(q:b<=a)(o:a<B9*b):∃T s:Nat,∃n,(a7 b).length=n+1/\s=limb (a7 b) n/\0<s/\s<B9/\T=limb (a7 a) n+limb (a7 a) (n+1)*B9/\limb (a7 a) n<B9/\limb (a7 a) (n+1)<B9/\n<(a7 a).length/\(a7 a).length<=n+2/\b*(T/ (s+1))<=a/\a<b*(T/s+1)/\a<b*B9:=by
 have f:a7 b≠ []:=fun h=>by have:=ve.1 h;omega
 have i:0<(a7 b).length:=Ik.2 f;obtain⟨n,p⟩:∃n,(a7 b).length=n+1:=⟨(a7 b).length - 1,by omega⟩;have r:=apB (dE a) (dE b) (by rw[dG,dG];exact q) (by rw[dG,dG];exact o);have c:0<limb (a7 b) n:=by
  have:=(dE b).2.last i;rw[gT Om];have e:(a7 b)[(a7 b).length - 1]=(a7 b)[n]'Om:=by congr 1;omega
  rw[e] at this;omega
 have j:=aaJ (dE b).1 (k:=n) Om Om;rw[rL (l:=a7 b) (k:=n+1) Om,IC,kH,dG] at j;have d:=aaJ (dE a).1 (k:=n) Om Om;rw[dG] at d;have m:=apC j.1 j.2 d.1 d.2 c;exact⟨_,_,n,p,rfl,c,(dE b).1.getD n,rfl,(dE a).1.getD n,(dE a).1.getD (n+1),by omega,by omega,m.1,m.2,by rw[er];exact o⟩
def aeW(h:∃e,e<=1000000/\a<10^e)(f:b<=B9*a):Fit b:=by
 obtain⟨e,d,c⟩:=h;refine I9 (e:=9+e+1) ?_ Om;have k:B9*a<=B9*10^e:=h_ _ (rJ c);have j:B9*10^e=10^(9+e):=by rw[mW];rfl
 have i:10^(9+e)<10^(9+e+1):=Ih Od Om;omega
def q43.k42(h:ar:=by
 go_loopw [9,10,13] (fun E b _ ws=>∃(l h:Nat),E=av l/\b=av h/\l<=h/\h<1000000000/\ah (Y*l<=R1)/\ah (R1<Y*(h+1))/\ah (Ext wo ws)) (fun E b _ _=>(RowKit.intOf b).toNat - (RowKit.intOf E).toNat)
 exact⟨o,c,rfl,rfl,by omega,by omega,O,P,P5⟩;exact m0):=h
def q44.k42(h:ar:=by
 go_loopw [9,10,13] (fun E b _ ws=>∃(l h:Nat),E=av l/\b=av h/\l<=h/\h<1000000000/\ah (Y*l<=R1)/\ah (R1<Y*(h+1))/\ah (Ext wo ws)) (fun E b _ _=>(RowKit.intOf b).toNat - (RowKit.intOf E).toNat)
 exact⟨o,c,rfl,rfl,by omega,by omega,O,P,P5⟩;exact m0):=h
def anE(va vb:Value)(x y:Int)(w:au)(ha:dJ w va x)(hb:dJ w vb y)(fx:cQ x)(fy:cQ y)(hy:y≠0):
 Calls prog 181 #[va,vb] w (afp (signed (decide (x<0) !=decide (y<0)) (x.natAbs/y.natAbs)) (signed (decide (x<0)) (x.natAbs%y.natAbs)) w):=by
 have HNA:=af ha;have Qc:=af hb;obtain⟨Aa,ca,rfl,qh,sa⟩:=ha;obtain⟨Ab,cb,rfl,hcb,sb⟩:=hb;have S1:=af sa;have CA:=af (dE x.natAbs);have VA:=af (dG x.natAbs);have Kr:=fx.fit;have Ai:=fy.fit;have FA:=af Kr;have FB:=af Ai;have LL:ah (cQ y):=fy;unfold ah cQ at LL;have LL:=af LL;unfold Fit at Kr Ai;have Xe:0<y.natAbs:=Om;have mC:=amu (a7 x.natAbs).length Om;have Yb:=af Qc.nat;generalize x.natAbs=X at*;generalize y.natAbs=Y at*;generalize a7 X=a at*;generalize vP:(a7 Y).length=nb at*;have auO:=af vP;generalize decide (x<0)=na at*;generalize decide (y<0)=DM at*;clear sa sb qh hcb vP;go_enter func181,ntmps181;go_wp2_with fail
 clear mC;refine arn fun W HX BA BB BQ BR avB=> ?_;go_loopw [6,8,9,10,11,12,13] (fun v6 v8 _ _ _ _ _ wr=>∃(m R:Nat) (q:List Nat),m<=a.length/\v8=av ((m:Int) - 1)/\ah (p8 wr (w.heap.size+1+1+1+1+1) v6 R)/\R<Y/\bI q/\q.length=a.length - m/\ah (val (a.drop m)=val q*Y+R)/\ah (aq wr (w.heap.size+1+1+1+1) tI (ed (List.replicate m 0++q)))/\ah (Below (w.heap.size+1+1+1+1) W wr)) (fun _ v8 _ _ _ _ _ _=>(RowKit.intOf v8+1).toNat);exact⟨a.length,0,[],aL _,rfl,p8.nil _ _,Xe,kK,by simp,by simp [ah],by simpa [ah] using avB.ae,xe _ _⟩;obtain⟨m,R,q,hm,rfl,HR,Xi,hdq,Gx,HV,J,C⟩:=hrel;have HDQ:=af hdq;have Er:=af Gx;clear hdq Gx;have Bt:=af (BA.below C Om);have Bp:=af (BB.below C Om);have N:ah (Ext w wr):=pQ HX (C.mono Om);obtain⟨a0,a1⟩:=Bt.two;obtain⟨b0,b1⟩:=Bp.two;have hsz:w.heap.size+1+1+1+1+1<=wr.heap.size:=by have:=J.lt;omega
 rcases j4 m with rfl|z8
 ·have hEQ:val q=X/Y/\R=X%Y:=(by have h1:=HV.ae;rw[mV,VA.ae] at h1;rw[h1,nL,Nat.add_mul_div_right _ _ Xe,Mr Xi,Nat.add_mul_mod_self_right,uW Xi];exact⟨by omega,rfl⟩);have HEQ:=af hEQ;obtain⟨AR,mR,cR,rfl,hNR,_⟩:=HR.ae;have Yg:ah (qK wr (.slice AR mR cR) (X%Y)):=by rw[ah,<-HEQ.2];exact hNR.limbs (FB.le Om)
  have HLQ:ah (qK wr (aG (w.heap.size+1+1+1+1) 0 a.length a.length) (X/Y)):=by
   have h1:=J.sl 0;rw[Zx,tL,mV] at h1;have h2:q.length=a.length:=by rw[Er.ae];omega
   exact⟨_,q,a.length,by rw[h2],⟨by omega,fun h=>by cases h⟩,HDQ,h1,by omega,HEQ.1⟩
  have H0:ah (lL wr w.heap.size (.bool na) (.slice Aa a.length ca) (.bool DM) (.slice Ab nb cb) (.bool false) (.slice none 0 0) (.bool false) (.slice none 0 0)):=⟨Bt,Bp,BQ.below C Om,BR.below C Om⟩;clear hEQ hNR a0 a1 b0 b1;go_wp2_with fail;obtain⟨c0,c1⟩:=H0.cells;go_region_held3 (fun w'=>aA w' w.heap.size 0 (.bool na)/\aA w' (w.heap.size+1) 0 (.bool DM)) (first|with_reducible exact⟨c0,c1⟩|with_reducible exact H0.ae.drew.cells|with_reducible exact(H0.ae.drew.ext K).cells|with_reducible exact H3.ae.cells|with_reducible exact(H3.ae.afG _ _).cells|with_reducible exact((H3.ae.afG _ _).asY _ _).cells)
   (first
     |(go_at_call 152;(with_reducible show Calls _ _ #[Value.agg #[_,Value.slice (dV (w.heap.size+1+1+1+1) 0) _ _]] _ _);refine(Ni (na !=DM) _ _ _ (HLQ.ext (by exact(aB _).drew))).mono ?_;rintro e w1 ⟨v1,rfl,Pd,K⟩;obtain⟨b1,Q,n1,c1',rfl,AV⟩:=Pd.parts)
     |(go_at_call 152;(with_reducible show Calls _ _ #[Value.agg #[_,Value.slice AR mR cR]] _ _);refine(Ni na _ _ _ (Yg.ext (by exact(aB _).drew.trans K))).mono ?_;rintro e w2 ⟨v2,rfl,F,B⟩;obtain⟨b2,A2,n2,c2',rfl,uE⟩:=F.parts;have H3:=af (H0.drew.ext (K.trans B));obtain⟨k0,k1,k2,k3⟩:=H3.ar5;obtain⟨l0,l1,l2,l3⟩:=H3.ar4;have auk:=af (AV.ext B);clear F))
  go_wp2;exact apy rfl rfl rfl rfl H3.q H3.r auk uE (N.trans ((aB _).drew.trans (K.trans B))) Om
 ·obtain⟨k,rfl⟩:∃k,m=k+1:=⟨m - 1,by omega⟩;obtain⟨g1,o1,rfl,_,v⟩:=(S1.ext N).at_ (oI (show k<a.length by omega));rw[<-gT (show k<a.length by omega)] at v;obtain⟨AR,mR,cR,rfl,⟨AR',cR',e,Xb,s⟩,hfR⟩:=HR.ae;injection e with e1 e2 e3;subst e1 e2 e3;have Ll:=af s;have HCR:=af Xb;have hFR:Fit R:=FB.le Om;have at5:=hFR;unfold Fit at at5;clear s Xb hfR;go_wp2_with (at_builtin;refine IJ rfl (.tmp 31) (.tmp 32) ui rfl wr.heap.size jo _ 1 _ rfl (apI wr tI (av (limb a k:Nat)) _ (aL _)) AR (a7 R).length cR (ed (a7 R)) rfl HCR.2 ax4 (Ll.ext ((aB _).alloc _)) (by intro u hu;simp [ed] at hu;obtain⟨x,_,rfl⟩:=hu;rfl) Om Ou ?_)
  intro v1 w1 ho1 hg1 _;have cD:ah (Ext wr w1):=qB ((aB wr).alloc _) hg1 Ou (fun k hk=>by simp [Value.ownBlock] at hk;omega);have t:w1.ownsRow wr.heap.size tI 1 v1 ((a7 R).length+1) (ed (limb a k::a7 R)):=by rw[nL];exact ho1
  obtain⟨Q,c1,rfl,hc1,_,Z⟩:=eL t;have avf:=af (C9 t);have au7:=af (ab1 t);have aus:=af Z;have avc:ah (bI (limb a k::a7 R)):=rT (CA.1.getD k) (dE R).1;clear ho1 t hg1 Z;go_wp2_with fail
  refine(R2 Q c1 false (limb a k::a7 R) w1 avf avc aus (by rw[cT];omega)).mono ?_;rintro e w2 ⟨b2,n2,rfl,F,B⟩;have uJ:=af F.nat;rw[EY,mZ,dG] at uJ;have hR1:limb a k+B9*R<B9*Y:=by have h1:=CA.1.getD k;have h2:B9*(R+1)<=B9*Y:=h_ _ Xi;rw[gh] at h2;omega
  have Ep:=af hR1;obtain⟨R1,I⟩:∃R1,R1=limb a k+B9*R:=⟨_,rfl⟩;rw[<-I] at uJ Ep;have ahT:=af I;have Ot:ah (Fit R1):=aeW LL (rJ Ep);have d:=af (cD.trans B);have Bo:=af (Bp.ext d);obtain⟨b0,b1⟩:=Bo.two;have hfd:=T7 b2 Q n2 c1;clear F B hR1 I a0 a1 v;go_wp2;go_quiet (fail);have d:ah (Ext wr (w2.drewN nq)):=d.drewN nq;have Ye:ah (iC (w2.drewN nq) (.slice Q n2 c1) R1):=uJ.ext ((aB _).drewN nq);have BB3:ah (aq (w2.drewN nq) (w.heap.size+1) bF [.bool DM,.slice Ab nb cb]):=Bo.drewN nq;clear hfd b0 b1;generalize w2.drewN nq=S at*;obtain⟨b0,b1⟩:=BB3.two;go_wp2_with fail
  refine(abL Ye (Yb.ext (N.trans d)) Ot FB).mono ?_;rintro e w4 ⟨rfl,D,rfl⟩;have d:ah (Ext wr (S.drewN D)):=d.drewN D;have LC:ah (p8 (S.drewN D) (w.heap.size+1+1+1+1+1) (.slice Q n2 c1) R1):=⟨Q,n2,c1,rfl,Ye.ext ((aB _).drewN D),fun ad h=>aV hsz (au7 ad h)⟩;have Hg:ah (iC (S.drewN D) (.slice Q n2 c1) R1):=Ye.ext ((aB _).drewN D);have Hz:ah (aq (S.drewN D) (w.heap.size+1) bF [.bool DM,.slice Ab nb cb]):=BB3.drewN D;have DF:ah (aq (S.drewN D) (w.heap.size+1+1+1+1) tI (ed (List.replicate (k+1) 0++q))):=J.ext d;have DG:ah (Below (w.heap.size+1+1+1+1) W (S.drewN D)):=C.trans (d.mono Om);have Gi:ah (iC (S.drewN D) (.slice Ab nb cb) Y):=Yb.ext (N.trans d);clear b0 b1;generalize S.drewN D=w4 at*;obtain⟨b0,b1⟩:=Hz.two;by_cases G:R1<Y
  ·have hcm:decide ((0:Int)<=eM R1 Y)=false:=by rw[Da G];rfl
   generalize eM R1 Y=cm at*;have O:ah (Y*0<=R1):=by rw[ah];omega
   have P:ah (R1<Y*(0+1)):=by rw[ah];omega
   go_wp2_with fail
   clear b0 b1;obtain⟨wo,nu⟩:∃wo:World,wo=w4:=⟨_,rfl⟩;have P5:ah (Ext wo w4):=by rw[nu];exact aB _
   have Hz:ah (aq wo (w.heap.size+1) bF [.bool DM,.slice Ab (nb) cb]):=by rw[nu];exact Hz
   have LC:ah (p8 wo (w.heap.size+1+1+1+1+1) (.slice Q n2 c1) R1):=by rw[nu];exact LC
   have Hg:ah (iC wo (.slice Q n2 c1) R1):=by rw[nu];exact Hg
   have DF:ah (aq wo (w.heap.size+1+1+1+1) tI (ed (List.replicate (k+1) 0++q))):=by rw[nu];exact DF
   have DG:ah (Below (w.heap.size+1+1+1+1) W wo):=by rw[nu];exact DG
   have Gi:ah (iC wo (.slice Ab (nb) cb) Y):=by rw[nu];exact Gi
   have atn:w.heap.size+1+1+1+1+1<=wo.heap.size:=by have:=DF.lt;omega
   clear nu;go_loopw [9,10,13] (fun E b _ ws=>∃(l h:Nat),E=av l/\b=av h/\l<=h/\h<1000000000/\ah (Y*l<=R1)/\ah (R1<Y*(h+1))/\ah (Ext wo ws)) (fun E b _ _=>(RowKit.intOf b).toNat - (RowKit.intOf E).toNat);exact⟨0,0,rfl,rfl,by omega,by omega,O,P,P5⟩;exact m0
  ·obtain⟨T,n,n0,vQ,hst,awl,atu,hT,Xg,KM,M,sQ,D1,WQ,hB⟩:=alP Xe (ZO G) Ep;have hcm:decide ((0:Int)<=eM R1 Y)=true:=by unfold eM;rw[if_neg G];split<;>rfl
   have atB:nb=n0+1:=by rw[<-auO.ae];exact vQ
   subst atB;obtain⟨c,j⟩:∃c,c=min 999999999 (T/n):=⟨_,rfl⟩;obtain⟨o,f⟩:∃o,o=min c (T/ (n+1)):=⟨_,rfl⟩;have O:ah (Y*o<=R1):=aV (h_ _ (by rw[f];exact ZM _ _)) D1;have P:ah (R1<Y*(c+1)):=by
    rw[ah,j];rcases Nat.le_total (T/n) 999999999 with h|h
    ·rw[Nat.min_eq_right h];exact WQ
    ·rw[i9 h];exact hB
   have aww:o<=c:=by rw[f];exact ZY _ _
   have awJ:c<1000000000:=by rw[j];have:=ZY 999999999 (T/n);omega
   have jT:min (999999999:Int) ((T:Int)/ (n:Int))=(c:Int):=by rw[j,<-Cc];omega
   have n_:min (c:Int) ((T:Int)/ ((n:Int)+1))=(o:Int):=(by have:((n:Int)+1)=((n+1:Nat):Int):=Om;rw[f,this,<-Cc];omega);have jf:0<=(T:Int)/ (n:Int):=by rw[<-Cc];omega
   have lw:0<=(T:Int)/ ((n:Int)+1):=Int.ediv_nonneg Om Om;have hT9:T<=999999999999999999:=by unfold B9 at hT Xg KM;omega
   have D8:(T:Int)/ (n:Int)<=999999999999999999:=by rw[<-Cc];have:=Ce T n;omega
   have PE:(T:Int)/ ((n:Int)+1)<=999999999999999999:=Int.le_trans (Int.ediv_le_self _ Om) Om;obtain⟨A',c',e,_,s⟩:=Hg.ae;injection e with e1 e2 e3;subst e1 e3;obtain⟨gR,oR,rfl,_,A⟩:=s.at_ (oI M);rw[<-gT M] at A;obtain⟨A'',c'',e',_,Wy⟩:=Gi.ae;injection e' with e1 e2' e3;subst e1 e3;obtain⟨gY,oY,rfl,_,H⟩:=Wy.at_ (oI (show n0<(a7 Y).length by omega));rw[<-gT (show n0<(a7 Y).length by omega),<-hst] at H;have ag5:(n0:Int)<(n2:Int):=Om;have V:(n:Int)≠0:=Om;have U:(n:Int)+1≠0:=Om;unfold B9 at atu Xg KM;rcases cA (n0+1) n2 with arH|L
   ·have atY:w4.cell? (aD gR (oR+(n0+1)))=some (av (limb (a7 R1) (n0+1):Nat)):=(by obtain⟨g',o',e,_,hc⟩:=s.at_ (oI (show n0+1<(a7 R1).length by omega));injection e with e;injection e with e1 e2;subst e1 e2;rw[hc,gT]);have uv:decide ((n0:Int)+1<(n2:Int))=true:=fN;have Ec:(limb (a7 R1) n0:Int)+(limb (a7 R1) (n0+1):Int)*1000000000=(T:Int):=by rw[hT];unfold B9;omega
    generalize limb (a7 R1) n0=tA at*;generalize limb (a7 R1) (n0+1)=tbb at*;generalize eM R1 Y=cm at*;clear hst hT j f vQ e2 e2' D1 WQ hB M sQ G s Wy;go_wp2_with fail;clear jT n_ jf lw D8 PE Ec A atY H V U ag5 hcm arH uv;open q43 in exact m42
   ·have hz:limb (a7 R1) (n0+1)=0:=rL Om;have uv:decide ((n0:Int)+1<(n2:Int))=false:=aW;rw[hz,IC,kH] at hT;rw[<-hT] at A;generalize eM R1 Y=cm at*;clear hst hT j f vQ e2 e2' D1 WQ hB M sQ G s Wy hz Xg KM;go_wp2_with fail
    clear jT n_ jf lw D8 PE A H V U ag5 hcm L uv;open q44 in exact m42
def iV.aro{W:au}{g:Nat}{x0 x1 y0 y1 z0 z1:Value}(h:iV W g x0 x1 y0 y1 z0 z1)(a b c d:Value):iV ((((W.setCell (aD g 0) a).setCell (aD g 1) b).setCell (aD (g+1) 0) c).setCell (aD (g+1) 1) d) g a b c d z0 z1:=
 ⟨((h.a.bh 0 a).bh 1 b).oO Om c d,(((h.b.oO (k:=g) Om a b).bh 0 c).bh 1 d),(h.r.oO (k:=g) Om a b).oO Om c d⟩
def iV.aqN{W:au}{g:Nat}{x0 x1 y0 y1 z0 z1:Value}(h:iV W g x0 x1 y0 y1 z0 z1)(a b c d:Value):Kept tI W ((((W.setCell (aD g 0) a).setCell (aD g 1) b).setCell (aD (g+1) 0) c).setCell (aD (g+1) 1) d):=
 (h.a.pW Od 0 1 a b).trans ((h.b.oO (k:=g) Om a b).pW Od 0 1 c d)
def aiF(n:Nat):signed false n=(n:Int):=rfl
def dJ.abs(h:dJ m (.agg #[.bool R,.slice E a b]) B):dJ m (.agg #[.bool false,.slice E a b]) (B.natAbs:Int):=by obtain⟨_,rfl,e,d⟩:=h.inv;exact⟨E,b,by rw[ib,decide_eq_false Om],by rw[ib];exact e,by rw[ib];exact d⟩
def dJ.len(h:dJ m (.agg #[.bool R,.slice E a b]) (c:Int)):decide (0<a)=decide (0<c):=by obtain⟨_,rfl,_⟩:=h.inv;rw[ib];exact apn
def q45.k14(h:ar:=by
 have f0:=H0.a.frozen 0;have f1:=H0.b.frozen 0;have H1:ah (iV ((W.setCell (aD w.heap.size 0) (.bool false)).setCell (aD (w.heap.size+1) 0) (.bool false)) w.heap.size (.bool false) (.slice Aa na ca) (.bool false) (.slice Ab nb cb) (.bool false) (.slice none 0 0)):=
  ⟨(H0.a.bh 0 (.bool false)).far (p:=aD (w.heap.size+1) 0) (by show w.heap.size≠w.heap.size+1;omega) _,(H0.b.far (p:=aD w.heap.size 0) (by show w.heap.size+1≠w.heap.size;omega) _).bh 0 (.bool false),(H0.r.far (p:=aD w.heap.size 0) (by show w.heap.size+1+1≠w.heap.size;omega) _).far (p:=aD (w.heap.size+1) 0) (by show w.heap.size+1+1≠w.heap.size+1;omega) _⟩
 have t:ah (Ext w ((W.setCell (aD w.heap.size 0) (.bool false)).setCell (aD (w.heap.size+1) 0) (.bool false))):=(bS.setCell (p:=aD w.heap.size 0) (aL _) _).setCell (p:=aD (w.heap.size+1) 0) (mX _) _;go_wp2;clear c0 c1 c2 c3 f0 f1;generalize(W.setCell (aD w.heap.size 0) (.bool false)).setCell (aD (w.heap.size+1) 0) (.bool false)=W1 at*;go_loopg [5,6] Y (fun k _ _ wr=>∃(p q:Nat) (Z:aQ) (G J:Nat) (o:aQ) (nq m:Nat),k=q/\ah (cQ (p:Int))/\ah (cQ (q:Int))/\ah (Nat.gcd p q=Nat.gcd X Y)/\ah (iV wr w.heap.size (.bool false) (.slice Z G J) (.bool false) (.slice o nq m) (.bool false) (.slice none 0 0))/\ah (dJ wr (.agg #[.bool false,.slice Z G J]) (p:Int))/\ah (dJ wr (.agg #[.bool false,.slice o nq m]) (q:Int))/\ah (Ext w wr));case atStart=>exact⟨X,Y,Aa,na,ca,Ab,nb,cb,rfl,FX,FY,rfl,H1,T.ext t,S.ext t,t⟩
 case round=>
  obtain⟨p,q,Z,G,J,o,nq,m,rfl,FP,U,HG,E,P,O,HX⟩:=hrel;obtain⟨c0,c1,c2,c3⟩:=E.cells;have l:=O.len;have n:=af l;clear l;rcases j4 gk with rfl|z
  ·have hd:decide (0<nq)=false:=n.ae;have HE:ah (p=Nat.gcd X Y):=by rw[ah,<-HG.ae,ZC]
   rw[HE.ae] at P;obtain⟨k0,k1,k2,k3⟩:=E.res;go_wp2;exact NE rfl rfl rfl E.r P HX Om (fun v W' h1 h2=>⟨v,rfl,h1,h2⟩)
  ·have hd:decide (0<nq)=true:=by rw[n.ae];exact decide_eq_true z
   go_wp2_with fail
   refine(anE _ _ (p:Int) (gk:Int) wr P O FP U Om).mono ?_;rintro e w2 ⟨v1,v2,rfl,u,s,f⟩;obtain⟨b1,A1,n1,c1',rfl,AV⟩:=u.parts;rw[ib,ib,decide_eq_false Om,aiF] at s;obtain⟨b2,F,D,i,rfl,B⟩:=s.parts;have I:b2=false:=by rw[B.inv.1];exact decide_eq_false Om
   subst I;have R:=af (E.ext f);have A:=af (HX.trans f);have N:=af (O.ext f);clear u s f c0 c1 c2 c3;go_wp2_with fail
   refine gJ fun W3 j _ V=> ?_;have c:=af (R.ext j);obtain⟨c0,c1,c2,c3⟩:=c.cells;obtain⟨d0,d1⟩:=V.two;have f0:=c.a.frozen 0;have f1:=c.a.frozen 1;have f2:=c.b.frozen 0;have f3:=c.b.frozen 1;have Q:=af (c.aro (.bool false) (.slice o nq m) (.bool false) (.slice F D i)).drew;have C:=af (c.aqN (.bool false) (.slice o nq m) (.bool false) (.slice F D i));have K:=af ((((((A.trans j).setCell (p:=aD w.heap.size 0) (aL _) (.bool false)).setCell (p:=aD w.heap.size 1) (aL _) (.slice o nq m)).setCell (p:=aD (w.heap.size+1) 0) (mX _) (.bool false)).setCell (p:=aD (w.heap.size+1) 1) (mX _) (.slice F D i))).drew;have M:=af ((N.ext j).keep C);have L:=af ((B.ext j).keep C);have H:p%gk<gk:=fC _ z;have d:w2.heap.size+1≠w.heap.size:=by have:=A.size;omega
   have aws:w.heap.size≠w2.heap.size+1:=fun h=>d h.symm;obtain⟨e0,e1⟩:=(V.oO (k:=w.heap.size) d (.bool false) (.slice o nq m)).two;have e2:=(V.far (p:=aD w.heap.size 0) d (.bool false)).two;obtain⟨e2,e3⟩:=e2;go_region
   all_goals go_wp2
   all_goals
    go_roundg (p%gk)
    case measure=>exact H
    case rel=>exact⟨gk,p%gk,o,nq,m,F,D,i,rfl,U,U.le (by rw[ib,ib];omega),by rw[ah,<-HG.ae,Cj p gk,RP gk p,Cj],Q,M.ext (aB _).drew,L.ext (aB _).drew,K⟩):=h
def anG(va vb:Value)(x y:Int)(w:au)(ha:dJ w va x)(hb:dJ w vb y)(fx:cQ x)(fy:cQ y):
 Calls prog 180 #[va,vb] w fun e w'=>∃v',e= .returned v'/\dJ w' v' ((Nat.gcd x.natAbs y.natAbs:Nat):Int)/\Ext w w':=by
 obtain⟨ba,Aa,na,ca,rfl,HA⟩:=ha.parts;obtain⟨bb,Ab,nb,cb,rfl,HB⟩:=hb.parts;have FX:ah (cQ (x.natAbs:Int)):=fx.le (by rw[ib];exact aL _);have FY:ah (cQ (y.natAbs:Int)):=fy.le (by rw[ib];exact aL _);have T:=af HA.abs;have S:=af HB.abs;clear ha hb fx fy;generalize x.natAbs=X at*;generalize y.natAbs=Y at*;go_enter func180,ntmps180;go_upto_region 1 with fail
 open q45 in exact m14
def Ub{x y:UInt8}(h:x≠y):((x.toNat:Int)==(y.toNat:Int))=false:=by rw[beq_eq_false_iff_ne];intro a;exact h (Ra Om)
def ajc(l:List UInt8)(w:au)(j:l.length<=100000000)(d:(47:UInt8)∉l):
 Calls prog 179 #[aM l] w fun e f=>e= .returned (.tuple #[aM l,.string ⟨#[49]⟩,.bool false])/\Ext w f:=by
 have i:=af d;clear d;go_enter func179,ntmps179;go_wp2;go_loop [5] (fun b=>∃k:Nat,k<=l.length/\b=av k) (fun b=>l.length - (RowKit.intOf b).toNat);exact⟨0,aU _,rfl⟩;obtain⟨k,m,rfl⟩:=hrel;by_cases a:k<l.length
 ·have c:k<(ByteArray.mk l.toArray).size:=a;have g:((((ByteArray.mk l.toArray)[k]'c).toNat:Int)==47)=false:=Ub (y:=47) (fun h=>i (by rw[<-h];exact a8 a));exact UZ
 ·go_wp2;go_ret3;exact⟨rfl,aB _⟩
def ajb(a b:List UInt8)(w:au)(D:a.length+b.length<=10000000)(n:(47:UInt8)∉a):
 Calls prog 179 #[aM (a++47::b)] w fun e q=>e= .returned (.tuple #[aM a,aM b,.bool true])/\Ext w q:=by
 have A:=af n;have d:(a++47::b).length=a.length+b.length+1:=Oc;obtain⟨l,f⟩:∃l,l=a++47::b:=⟨_,rfl⟩;have c:=af f;rw[<-f] at d⊢;have z:=af d;have u:a.length<l.length:=Om;have t:l.length<=10000001:=Om;clear n d f;go_enter func179,ntmps179;go_wp2;go_loop [5] (fun j=>∃k:Nat,k<=a.length/\j=av k) (fun j=>l.length - (RowKit.intOf j).toNat)
 exact⟨0,aU _,rfl⟩;obtain⟨k,E,rfl⟩:=hrel;have m:k<l.length:=Om;have g:k<(ByteArray.mk l.toArray).size:=m;by_cases i:k<a.length
 ·have s:((((ByteArray.mk l.toArray)[k]'g).toNat:Int)==47)=false:=Ub (y:=47) (fun h=>A (by
   have e:l[k]=a[k]:=by simp [c.ae,i]
   rw[<-h];show l[k]∈a
   rw[e];exact a8 i))
  exact UZ
 ·obtain rfl:k=a.length:=Om;have v:((((ByteArray.mk l.toArray)[a.length]'g).toNat:Int)==47)=true:=by
   have e:l[a.length]=47:=by simp [c.ae]
   have x:((ByteArray.mk l.toArray)[a.length]'g)=47:=e;rw[x];rfl
  have G:(a.length:Int)<=(l.length:Int):=Om;have F:(a.length:Int)+1<=(l.length:Int):=Om;have p:(ByteArray.mk l.toArray).extract 0 a.length=⟨a.toArray⟩:=by rw[Cx,c.ae];simp
  have o:(ByteArray.mk l.toArray).extract (a.length+1) l.length=⟨b.toArray⟩:=by rw[Cx,dD (aL _),c.ae,show a++47::b=(a++ [47])++b by simp,List.drop_left' Ou]
  have C:=af p;have B:=af o;have r:IntKind.i64.wrap ((a.length:Int)+1)=(a.length:Int)+1:=Mz _ Om;clear p o;go_wp2;go_quiet (fail);go_wp2;go_ret3;refine⟨?_,(aB _).drewN _⟩;show Ending.returned (Value.tuple #[.string ((ByteArray.mk l.toArray).extract 0 a.length),.string ((ByteArray.mk l.toArray).extract (a.length+1) l.length),.bool true])=_
  rw[C.ae,B.ae]
def aji(w:au):Calls prog 78 #[.string ⟨#[49]⟩] w fun e a=>e= .returned (.bool true)/\w=a:=by have h:=MP 1 w (by rw[show(1:Int).natAbs=1 from rfl,nDigits_small Od];decide);rw[xt] at h;exact h
def alE(v:Value)(w:au)(h:dJ w v ((1:Nat):Int)):Calls prog 81 #[v] w fun e b=>e= .returned (.string ⟨#[49]⟩)/\Ext w b:=by have a:=alF v 1 w h Fx.wide;rw[xt] at a;exact a
def aj3(q:Rat)(w:au)(s:bR 400 q):
 Calls prog 104 #[aM (cP q)] w fun e T=>e= .returned (.tuple #[aM (aY q.num),aM (decDigits q.den),.bool true])/\Ext w T:=by
 have o:=zf q.num;have g:=s.dn;have j:=s.dd;have N:=af (fun w=>MP q.num w s.dn);by_cases h1:q.den=1
 ·have G:=af (pP h1);have c:decDigits q.den= [49]:=by rw[h1];exact lG Od
  rw[G.ae,c];have f:=vh q.num;have r:((aY q.num).length:Int)<=802:=Om;generalize aY q.num=a at*;have H:=af (fun w=>ajc a w Om f);clear o g j h1 s f c;go_enter func104,ntmps104;go_wp2_with fail
  refine(H w).mono ?_;rintro e k ⟨rfl,i⟩;go_wp2_with fail;refine(N k).mono ?_;rintro e S ⟨rfl,rfl⟩;go_wp2_with fail;refine(aji k).mono ?_;rintro e R ⟨rfl,rfl⟩;go_wp2;go_ret3;exact⟨rfl,i⟩
 ·have G:=af (qz h1);have c:nDigits (q.den:Int).natAbs<=400:=by rw[ib];exact j
  have W:=af (fun w=>MP q.den w c);have Y:=af (fun w=>Su q.num w (rP g).wide);have X:=af (fun w=>Su q.den w (rP c).wide);have F1:=af (rP g);have F2:=af (rP c);have U:(aY q.num== [48])=false:=(by exact afU)
  have d:decDigits q.den=aY q.den:=(rR _).symm;have J:(aY q.den== [49])=false:=(by rw[beq_eq_false_iff_ne];intro h;have h0:(q.den:Int)=1:=Cz (h.trans xt.symm);exact h1 Om)
  have K:(aY q.den== [48])=false:=(by rw[beq_eq_false_iff_ne];intro h;have h0:(q.den:Int)=0:=Cz (h.trans Cy.symm);have:=q.den_pos;omega);have I:Nat.gcd q.num.natAbs (q.den:Int).natAbs=1:=by rw[ib];exact q.reduced
  have Z:=af I;have f:=vh q.num;have p:(aY q.num).length+(aY q.den).length<=10000000:=by rw[<-d,decDigits_length];omega
  have r:((aY q.num++47::aY q.den).length:Int)<=802:=by rw[bD,cT,<-d,decDigits_length];omega
  obtain⟨v,u,t⟩:∃v u,aY q.den=v::u:=by
   rcases L:decDigits q.den with _|⟨v,u⟩
   ·exact absurd L (Co _)
   ·exact⟨v,u,by rw[<-d,L]⟩
  have n:0<(ByteArray.mk (aY q.den).toArray).size:=by show 0<(aY q.den).length;rw[t];simp
  have M:((((ByteArray.mk (aY q.den).toArray)[0]'n).toNat:Int)==45)=false:=Ub (y:=45) (fun h=>by
   have e:(aY q.den)[0]'n=45:=h;have V:(45:UInt8)∈decDigits q.den:=by rw[d,<-e];exact a8 _
   exact Ul ayN V)
  rw[G.ae,d];have H:=af (fun w=>ajb (aY q.num) (aY q.den) w p f);generalize aY q.num=a at*;generalize aY q.den=b at*;generalize a++47::b=ab at*;clear o g j h1 s f c I d p t;go_enter func104,ntmps104;go_wp2_with fail
  refine(H w).mono ?_;rintro e k ⟨rfl,i⟩;go_wp2_with fail;refine(N k).mono ?_;rintro e S ⟨rfl,rfl⟩;go_wp2_with fail;refine(W k).mono ?_;rintro e R ⟨rfl,rfl⟩;go_wp2_with fail;refine(Y k).mono ?_;rintro e Q ⟨v5,rfl,C,A⟩;obtain⟨b5,A5,n5,c5,rfl,F⟩:=C.parts;go_wp2_with fail;refine(X Q).mono ?_;rintro e P ⟨v6,rfl,B,l⟩;obtain⟨b6,A6,n6,c6,rfl,E⟩:=B.parts;go_wp2_with fail;refine(anG _ _ q.num q.den P (F.ext l) E F1 F2).mono ?_;rintro e O ⟨v7,rfl,m,z⟩;rw[Z.ae] at m;obtain⟨b7,A7,n7,c7,rfl,D⟩:=m.parts;go_wp2_with fail;refine(alE _ O D).mono ?_;rintro e w8 ⟨rfl,x⟩;go_wp2;go_ret3;exact⟨rfl,i.trans (A.trans (l.trans (z.trans x)))⟩
abbrev Ga:TypeId:=78
def eU(l:List Int):List Value:=l.map (Value.int .i64)
def Fb{l:List Int}{k:Nat}(h:k<l):(eU l)[k]? =some (av l[k]):=by simp [eU,h]
def cL(w:au)(g:Nat):Prop:=∃(t:TypeId) (A:aQ) (a:List Int) (c k:Nat),a.length<=600/\k<=a.length/\aq w g Ga [.slice A a.length c,av (k:Int)]/\Sl w t A (eU a)/\(0<a.length->∀b,A=some b->b.block<g)/\∀z∈a, -9223372036854775808<=z/\z<=9223372036854775807
def cL.ext{w':au}(h:cL m g)(a:Ext m w'):cL w' g:=by obtain⟨t,A,b,c,k,j,i,f,e,d⟩:=h;exact⟨t,A,b,c,k,j,i,f.ext a,e.ext a,d⟩
def cL.lt(h:cL m a):a<m.heap.size:=by obtain⟨t,A,d,c,k,j,i,b,f,e⟩:=h;exact b.lt
def cL.below(h:cL m a)(r:∀i,i<=a->n.heap[i]? =m.heap[i]?):cL n a:=by
 obtain⟨t,A,d,c,k,E,D,C,B,v,z⟩:=h;refine⟨t,A,d,c,k,E,D,(r a (aL _)).trans C,?_,v,z⟩;intro j u e;obtain⟨l,o,p,F,s,y,f⟩:=B j u e;have b:0<d.length:=by
  rcases cA j d.length with q|q
  ·omega
  ·rw[eT (by simpa [eU] using q)] at e;cases e
 have x:l<a:=v b _ s;exact⟨l,o,p,F,s,(r l Om).trans y,f⟩
def cL.grown{w:au}(h:cL w g)(b:w.grownBy m O)(a:∀k,O=some k->g<k):cL m g:=
 h.below fun i c=>b.block i (by have:=h.lt;omega) (fun e=>by have:=a i e.symm;omega)
def aof(t:TypeId)(A:aQ)(a:List Int)(c:Nat)(w:au)(u:a<=c)(_hm:c<=9223372036854775807)(m:a.length<=600)(j:Sl w t A (eU a))(i:∀z∈a, -9223372036854775808<=z/\z<=9223372036854775807):
 Calls prog 6 #[.slice A a c] w fun e d=>e= .returned (aI w.heap.size 0)/\cL d w.heap.size/\Ext w d:=by
 have h:=af j;have s:=af i;have f:min (a.length:Int) 600=(a.length:Int):=Om;go_enter func6,ntmps6;go_wp2;go_ret;refine⟨rfl,⟨t,A,a,_,0,m,aU _,jd w Ga [_,_],h.ext ((aB w).alloc _),?_,s⟩,(aB w).alloc _⟩;intro q v p;rcases a with _|⟨z,r⟩
 ·simp at q
 ·obtain⟨g,o,b,n,_⟩:=h.at_ (Fb (l:=z::r) (k:=0) Ou);rw[p] at b;injection b with b;subst b;exact n
def apS(x:Int)(n:Nat)(b:0<n):∃r:Nat,r<n/\(x.tmod n+n)%n=(r:Int):=by
 refine⟨((x.tmod n+n)%n).toNat,?_,?_⟩
 ·have c:=Int.emod_lt_of_pos (x.tmod n+n) (show(0:Int)<n by omega);have a:=Int.emod_nonneg (x.tmod n+n) (show(n:Int)≠0 by omega);omega
 ·have a:=Int.emod_nonneg (x.tmod n+n) (show(n:Int)≠0 by omega);omega
def Oy(x:Int)(n:Nat):Int:=(x.tmod n+n)%n
def apT(x:Int)(n:Nat)(w:au)(j:0<n)(c:n<=1000000000):
 Calls prog 47 #[av x,av n] w fun e a=>e= .returned (av (Oy x n))/\w=a:=by
 have d:(n:Int)≠0:=Om;have g:=Int.lt_tmod_of_pos x (show(0:Int)<n by omega);have f:=Int.tmod_lt_of_pos x (show(0:Int)<n by omega);have h:ah (Oy x n=(x.tmod n+n)%n):=rfl;generalize Oy x n=r at*;generalize b:x.tmod n=i at*;go_enter func47,ntmps47;go_wp2;go_ret;exact⟨qG h.symm,rfl⟩
def oP(g m:Nat)(w:au)(h:cL w g)(n:0<m)(K:m<=1000000):
 Calls prog 16 #[aI g 0,av m] w fun e B=>∃r:Nat,r<m/\e= .returned (av (r:Int))/\cL B g/\Only g w B:=by
 obtain⟨t,A,a,c,k,C,P,O,N,M,L⟩:=h;have u:=af N;have j:=af O;have y:=af M;have G:=af L;obtain⟨F,E⟩:=j.two;have f1:=j.frozen 1;by_cases p:k<a
 ·obtain⟨D,I,rfl,_,_⟩:=u.at_ (Fb p);have q:D≠g:=Rs (y Om _ rfl);have o:decide (a<=k)=false:=aW;obtain⟨r,J,l⟩:=apS a[k] m n;have v:ah (Oy a[k] m=(r:Int)):=l;have f:=af (Fb p);generalize a[k]=z at*;go_enter func16,ntmps16;go_wp2;go_quiet (fail);have b:ah (aq (w.drewN nq) g Ga [aG D I a c,av (k:Int)]):=j.drewN nq;have x:ah (Only g w (w.drewN nq)):=(gD g w).drewN nq;generalize w.drewN nq=H at*;obtain⟨F,E⟩:=b.two;have f1:=b.frozen 1;go_wp2;have i:=af (b.bh 1 (av ((k:Int)+1)));have d:=af (x.bh 1 (av ((k:Int)+1)));generalize H.setCell (aD g 1) (av ((k:Int)+1))=S at*;have en:=af (u.only d q);obtain⟨U,T,e,_,s⟩:=en.at_ f;injection e with e;injection e with R Q;subst R Q;obtain⟨F,E⟩:=i.two;go_quiet ((go_at_call 47;exact NX (apT z m _ n Om)));rw[v.ae];go_wp2;go_ret;exact⟨r,J,rfl,⟨t,_,a,c,k+1,C,p,i.drewN _,en.ext ((aB _).drewN _),y,G⟩,d.drewN _⟩
 ·have o:decide (a<=k)=true:=fN;go_enter func16,ntmps16;go_wp2;go_quiet (fail);go_wp2;go_ret;exact⟨0,n,rfl,⟨t,A,a,c,k,C,P,j.drewN _,u.ext ((aB _).drewN _),y,G⟩,(gD _ _).drewN _⟩
def abQ(g a b:Nat)(w:au)(h:cL w g)(k:a<=b)(l:b<=100000):
 Calls prog 48 #[aI g 0,av a,av b] w fun e c=>∃r:Nat,a<=r/\r<=b/\e= .returned (av (r:Int))/\cL c g/\Only g w c:=by
 have H:=af (oP g (b - a+1) w h Om Om);have e:(((b - a+1:Nat)):Int)=(b:Int) - a+1:=Om;rw[e] at H;go_enter func48,ntmps48;go_wp2_with fail
 refine H.mono ?_;rintro e i ⟨r,j,rfl,d,f⟩;go_wp2;go_ret;exact⟨a+r,by omega,by omega,qG Om,d,f⟩
def anX:ownKnob prog.godebug=none:=Ok
def aoo:laidOutB prog=true:=Ok
def aq8:List Int:= [0,1,28,2,29,14,24,3,30,22,20,15,25,17,4,8,31,27,13,23,21,19,16,7,26,12,18,6,11,5,10,9]
def aq7:List Int:= [0,1,56,2,57,49,28,3,61,58,42,50,38,29,17,4,62,47,59,36,45,43,51,22,53,39,33,30,24,18,12,5,63,55,48,27,60,41,37,16,46,35,44,21,52,32,23,11,54,26,40,15,34,20,31,10,25,14,19,9,13,8,7,6]
def at6:prog.globalNamed "internal/strconv.uint64pow10" =some 3:=Ok
noncomputable def low:Nat:=(World.holding prog default ⟨#[],#[],[]⟩).heap.size
def adp:Array Obj:= #[.cells #[.string {data:= #[118,97,108,117,101,32,111,117,116,32,111,102,32,114,97,110,103,101]}] 406,.cells #[.string {data:= #[105,110,118,97,108,105,100,32,115,121,110,116,97,120]}] 406]
noncomputable def amx(a:Os):World:=
 let w:=World.holding prog a ⟨adp,#[],[]⟩
 {w with heap:=((((w.heap.modify 11 fun
  | .cells _ t frozen=> .cells (aq8.map (Value.int .u8)).toArray t frozen
  |o=>o).modify 12 fun
  | .cells _ t frozen=> .cells (aq7.map (Value.int .u8)).toArray t frozen
  |o=>o).modify 3 fun
  | .cells _ t frozen=> .cells (Lib.pow10Tab.map (Value.int .u64)).toArray t frozen
  |o=>o).modify 2 fun
  | .cells _ t frozen=> .cells #[.iface 404 (aI low 0)] t frozen
  |o=>o).modify 1 fun
  | .cells _ t frozen=> .cells #[.iface 404 (aI (low+1) 0)] t frozen
  |o=>o}
def apN(d:∀(j:Nat) (c:j<L.length),∃a,E=some a/\m.cell? (a.add j)=some (av L[j])):∃t,Sl m t E (eU L):=Sl.an5 (by
 intro j u b;have c:j<L.length:=by
  rcases cA j L.length with h|h
  ·exact h
  ·rw[eT (by simpa [eU] using h)] at b;cases b
 obtain⟨a,f,e⟩:=d j c;refine⟨a,f,e.trans ?_⟩;rw[<-b];simp [eU,c])
def amI(h:(Lit.int .i64 B).wf=true): -9223372036854775808<=B/\B<=9223372036854775807:=by rw[Lit.wf,cV] at h;exact⟨of_decide_eq_true h.1,of_decide_eq_true h.2⟩
section
variable{P:Program}{ops:Array Oper}{Q:Exit->Act->World->Prop}{md:Region.Mode}{S:World->Prop}{T:Nat->Bool}
def bW(P:Program)(md:Region.Mode)(ops:Array Oper)(Q:Exit->Act->World->Prop)(S:World->Prop)(T:Nat->Bool):Nat->Array Bool->Act->World->Prop
 |0,b,a,w=>Region.ready md ops b= []/\Q .normal a w
 |c+1,b,a,w=>(Region.ready md ops b= []->Q .normal a w)/\
   ∀i∈Region.ready md ops b,wpOp P ops Q i (fun e d=>(T i=false->S d)/\bW P md ops Q S T c (b.setIfInBounds i true) e d) a w
theorem bW.any:∀(c:Nat) (b:Array Bool) (a:Act) (w:au),bW P md ops Q S T c b a w->wpAny P md ops Q c b a w
 |0,_,_,_,h=>h
 |c+1,_,_,_,h=>⟨h.1,fun i e=>wpOp_mono (fun g d f=>bW.any c _ g d f.2) (h.2 i e)⟩
def leads(md:Region.Mode)(ops:Array Oper):Nat->Nat->Nat->Bool
 |0,_,_=>false
 |n+1,j,i=>match ops[j]? with
  |some o=>o.after.any fun e=>Region.binds md e&&(e.on==i||leads md ops n e.on i)
  |none=>false
def waits(md:Region.Mode)(ops:Array Oper)(T:Nat->Bool)(i:Nat):Bool:=(List.range ops.size).all fun j=> !T j||j==i||leads md ops 4 j i
def closed(md:Region.Mode)(ops:Array Oper)(a:Array Bool):Bool:=(List.range ops.size).all fun m=> !a.getD m false||match ops[m]? with
 |some o=>o.after.all fun e=> !Region.binds md e||a.getD e.on false
 |none=>true
theorem aaD(h:closed md ops N=true){o:Oper}(c:ops[a]? =some o)(f:N.getD a false=true){e:Edge}(g:e∈o.after)(i:Region.binds md e=true):N.getD e.on false=true:=by unfold closed at h;rw[rH] at h;have b:=h a (dL.2 (Mf.1 c).1);rw[f,c] at b;simp only[E2,IA] at b;have d:=aic.1 b e g;rw[i] at d;simpa using d
theorem ak0(h:closed md ops N=true)(l:a∈Region.ready md ops N):closed md ops (N.setIfInBounds a true)=true:=by
 unfold closed;rw[rH];intro m p;cases g:(N.setIfInBounds a true).getD m false with
 |false=>simp
 |true=>
  simp only[E2,IA];cases f:ops[m]? with
  |none=>rfl
  |some o=>
   refine aic.2 fun e i=> ?_;cases k:Region.binds md e with
   |false=>rfl
   |true=>
    simp only[E2,IA];refine getD_set_true ?_;by_cases c:a=m
    ·subst c;obtain⟨_,n,b,d⟩:=mem_ready.1 l;rw[f] at b;injection b with b;subst b;exact d e i k
    ·rw[getD_set_ne false c] at g;exact aaD h f g i k
theorem R9{a:Array Bool}(h:closed md ops a=true){i:Nat}:∀(n j:Nat),leads md ops n j i=true->(∀o,ops[j]? =some o->∀e∈o.after,Region.binds md e=true->a.getD e.on false=true)->a.getD i false=true
 |0,_,b,_=>by cases b
 |n+1,j,b,q=>by
  unfold leads at b;cases f:ops[j]? with
  |none=>rw[f] at b;cases b
  |some o=>
   rw[f] at b;obtain⟨e,p,l⟩:=Array.any_eq_true'.1 b;rw[cV,kF] at l;have m:=q o f e p l.1;rcases l.2 with c|c
   ·rw[beq_iff_eq] at c;rw[<-c];exact m
   ·exact R9 h n e.on c (fun r d s g k=>aaD h d m g k)
theorem bW.one{c:Act}(f:Region.ready md ops N= [a])
 (h:wpOp P ops Q a (fun k e=>(T a=false->S e)/\bW P md ops Q S T b (N.setIfInBounds a true) k e) c m):bW P md ops Q S T (b+1) N c m:=
 ⟨fun g=>absurd g (by rw[f];simp),fun j d=>by rw[f] at d;simp only[bE] at d;subst d;exact h⟩
theorem bW.step(i:Nat){fuel:Nat}{listed:Array Bool}{a:Act}(b:Region.ready md ops listed= [i])
 (h:∀o,ops[i]? =some o->∀K:Act->World->Prop,ah (∀a' w',(T i=false->S w')->bW P md ops Q S T fuel (listed.setIfInBounds i true) a' w'->K a' w')->if Region.wanted o (yielded ops a.tmps)=true then o.wp P a m K Q else K (a.put o.dst undef) m):bW P md ops Q S T (fuel+1) listed a m:=by
 refine bW.one b ?_;obtain⟨o,hi⟩:∃o,ops[i]? =some o:=by
  have h1:i∈Region.ready md ops listed:=by rw[b];simp
  obtain⟨_,o,c,_⟩:=mem_ready.1 h1;exact⟨o,c⟩
 exact m90
def jM:=@bW.step
def xM:List Oper->Nat->Option Oper
 | [],_=>none
 |o::_,0=>some o
 |_::r,n+1=>xM r n
theorem Jb:∀(l:List Oper) (n:Nat),xM l n=l[n]?
 | [],n=>by simp [xM]
 |o::_,0=>rfl
 |_::r,n+1=>by rw[xM,Jb r n];rfl
theorem bW.av'(i:Nat){o:Oper}{b:Act}(h:∀K:Act->World->Prop,ah (∀f d,(T i=false->S d)->bW P md ops Q S T a (N.setIfInBounds i true) f d->K f d)->if Region.wanted o (yielded ops b.tmps)=true then o.wp P b m K Q else K (b.put o.dst undef) m)
 (g:Region.ready md ops N= [i]:=by kernel_rfl) (e:xM ops.toList i=some o:=by exact rfl):bW P md ops Q S T (a+1) N b m:=by
 refine jM i g fun k c=> ?_;rw[Jb] at e;have j:ops[i]? =some o:=axO;rw[j] at c;injection c with c;subst c;exact h
def aO:=@bW.av'
theorem zT{o:Oper}{R:Oper->Prop}(h:R o)(d:xM ops.toList a=some o:=by exact rfl):∀c,ops[a]? =some c->R c:=fun c b=>by rw[Jb] at d;have e:ops[a]? =some o:=axP;rw[e] at b;injection b with b;subst b;exact h
theorem bW.done{c:Nat}{b:Array Bool}{a:Act}{w:au}(d:Region.ready md ops b= [])(h:Q .normal a w):bW P md ops Q S T c b a w:=
 match c with
 |0=>⟨d,h⟩
 |_+1=>⟨fun _=>h,by rw[d];simp⟩
def bY:=@bW.done
theorem bW.start{id:Nat}{a:Act}(b:P.follows .mixedOrders=true)
 (h:bW P .any ops Q S T ops.size (Array.replicate ops.size false) a m.drew):(Code.region id ops true).wp P Q a m:=
 wp_region_any b (bW.any _ _ _ _ h)
def cG:=@bW.start
end
abbrev qL:TypeId:=265
def Ch{α:Type}(R:List Value->α->Prop):List Value->List α->Prop
 |a,[]=>a= []
 |a,x::l=>∃c r,a=c++r/\R c x/\Ch R r l
def Ch.mono{α:Type}{R S:List Value->α->Prop}(h:∀c x,R c x->S c x):∀{a:List Value} {l:List α},Ch R a l->Ch S a l
 |_,[],b=>b
 |_,_::_,⟨c,r,e,f,d⟩=>⟨c,r,e,h _ _ f,Ch.mono h d⟩
def FT:=@Ch.mono
def Ch.length{α:Type}{R:List Value->α->Prop}{k:Nat}(b:∀c x,R c x->c.length=k):∀{a:List Value} {l:List α},Ch R a l->a.length=l.length*k
 |_,[],d=>by rw[show _= [] from d];simp
 |_,x::l,⟨c,r,e,g,f⟩=>by rw[e,bD,b _ _ g,Ch.length b f,cT,oH];omega
def Ch.get{α:Type}{R:List Value->α->Prop}{k:Nat}(f:∀c x,R c x->c=k):∀{m:List Value} {l:List α} (_:Ch R m l) {i:Nat} (a:i<l),∃c,R c l[i]/\∀j,j<k->m[i*k+j]? =c[j]?
 |_,[],_,i,a=>by simp at a
 |_,x::l,⟨c,r,e,b,n⟩,0,a=>⟨c,b,fun j h=>by rw[e,IC,jL,oD (by rw[f _ _ b];exact h)]⟩
 |_,x::l,⟨c,r,e,b,n⟩,i+1,a=>by obtain⟨d,o,h⟩:=Ch.get f n (i:=i) axB;refine⟨d,o,fun j g=> ?_⟩;rw[e,yU (by rw[f _ _ b,oH];omega),f _ _ b,<-h j g];congr 1;rw[oH];omega
def Ch.snoc{α:Type}{R:List Value->α->Prop}{x:α}{c:List Value}(b:R c x):∀{a:List Value} {l:List α},Ch R a l->Ch R (a++c) (l++ [x])
 |_,[],h=>by rw[show _= [] from h];exact⟨c,[],by simp,b,rfl⟩
 |_,y::l,⟨d,r,e,g,f⟩=>⟨d,r++c,by rw[e,jk],g,Ch.snoc b f⟩
def Ch.append{α:Type}{R:List Value->α->Prop}{a:List Value}{m:List α}(c:Ch R a m):∀{b:List Value} {l:List α},Ch R b l->Ch R (b++a) (l++m)
 |_,[],h=>by rw[show _= [] from h];exact c
 |_,x::l,⟨d,r,e,g,f⟩=>⟨d,r++a,by rw[e,jk],g,Ch.append c f⟩
def Ch.take{α:Type}{R:List Value->α->Prop}{k:Nat}(d:∀c x,R c x->c=k):∀{a:List Value} {l:List α} (_:Ch R a l) (n:Nat),Ch R (a.take (n*k)) (l.take n)
 |_,[],h,n=>by rw[show _= [] from h];simp [Ch]
 |_,x::l,h,0=>by simp [Ch]
 |_,x::l,⟨c,r,e,f,g⟩,n+1=>by
  refine⟨c,r.take (n*k),?_,f,g.take d n⟩;have b:=d _ _ f;rw[e,List.take_append,dD (by rw[b,oH];omega),b];congr 2
  rw[oH];omega
def Ls{α:Type}(t:TypeId)(R:World->List Value->α->Prop)(w:au)(v:Value)(l:List α):Prop:=
 ∃A c a,v= .slice A l.length c/\l.length<=c/\c<=maxLen/\(A=none->c=0)/\Sl w t A a/\Ch (R w) a l
def jR{α:Type}(T:List TypeId)(R:World->List Value->α->Prop):Prop:=∀w a c x,(∀t∈T,Kept t w a)->R w c x->R a c x
def Ls.keep{α:Type}{T:List TypeId}{R:World->List Value->α->Prop}(f:jR T R){l:List α}(h:Ls w R m p l)(a:∀u∈w::T,Kept u m n):Ls w R n p l:=by obtain⟨A,c,b,q,o,k,j,i,g⟩:=h;exact⟨A,c,b,q,o,k,j,i.keep (a w Ou),g.mono fun c x e=>f _ _ _ _ (fun u d=>a u ayi) e⟩
def gF:=@Ls.keep
def Ls.ext{α:Type}{T:List TypeId}{R:World->List Value->α->Prop}(b:jR T R){w':au}{l:List α}(h:Ls w R m p l)(a:Ext m w'):Ls w R w' p l:=
 h.keep b fun _ _=> .jN a
def bU:=@Ls.ext
def Ls.parts{α:Type}{R:World->List Value->α->Prop}{l:List α}(h:Ls w R m p l):∃A c,p= .slice A l c/\l<=c/\c<=maxLen/\ah (Ls w R m (.slice A l c) l):=by obtain⟨A,c,d,rfl,b,a,g,f,e⟩:=h;exact⟨A,c,rfl,b,a,A,c,d,rfl,b,a,g,f,e⟩
def Ls.nil{α:Type}{R:World->List Value->α->Prop}:Ls w R m (.slice none 0 0) ([]:List α):=⟨none,0,[],rfl,aL _,by unfold maxLen;omega,fun _=>rfl,.nil,rfl⟩
def Ls.get{α:Type}{k:Nat}{R:World->List Value->α->Prop}(r:∀m a x,R m a x->a.length=k)(H:0<k){n:Nat}{l:List α}(h:Ls w R m (.slice E n a) l){i:Nat}(C:i<l.length):
 ∃g o d,E=dV g o/\g<m.heap.size/\R m d l[i]/\∀j u,d[j]? =some u->aA m g (o+(i*k+j)) u:=by
 obtain⟨S,Q,I,e,N,M,L,z,G⟩:=h;injection e with q B P;subst q;obtain⟨d,v,s⟩:=G.get (r m) C;have K:=r _ _ _ v;obtain⟨g,o,y,D,_⟩:=z.at_ (k:=i*k+0) (u:=d[0]) (by rw[s 0 H];simp);refine⟨g,o,d,y,D,v,fun j u f=> ?_⟩;have p:j<k:=by
  rcases cA j k with h|h
  ·exact h
  ·rw[eT Om] at f;cases f
 obtain⟨O,J,b,_,F⟩:=z.at_ (k:=i*k+j) (u:=u) (by rw[s j p];exact f);rw[y] at b;injection b with b;injection b with q B;subst q B;exact F
def rY:=@Ls.get
def Ls.aqE{α:Type}{R:World->List Value->α->Prop}{l:List α}(h:m.ownsRow b w a p l.length t)(e:Ch (R m) t l):Ls w R m p l:=by
 obtain⟨A,c,rfl,j,i,f⟩:=eL h;refine⟨A,c,t,rfl,j,i,?_,f,e⟩;rintro rfl;rcases h.2 with⟨d,_⟩|⟨g,o,n,d,_⟩
 ·injection d
 ·injection d with d;cases d
def Ng:=@Ls.aqE
def xi{w w':au}{base k:Nat}{t:TypeId}{v:Value}(h:w.ownsRow base t k v d u)(f:w.grownBy w' O)(e:∀k,O=some k->v.ownBlock≠some k):w'.ownsRow base t k v d u:=by
 refine World.ownsRow.kept h f ?_;cases O with
 |none=>cases v.ownBlock<;>simp
 |some k=>exact .inr (e k rfl)
def Nc{w w':au}(d:Ext w w'):w.grownBy w' none:=⟨d.os,d.tape,d.output,d.size,fun k e _=>d.block k e⟩
def SP{w w':au}(d:w.grownBy w' none):Ext w w':=⟨d.os,d.tape,d.output,d.size,fun k e=>d.block k e Ou⟩
def bG{α:Type}(t:TypeId)(k:Nat)(R:World->List Value->α->Prop)(base:Nat)(w:au)(v:Value)(l:List α):Prop:=∃d,w.ownsRow base t k v l.length d/\Ch (R w) d l
section
variable{α:Type}{t:TypeId}{k base:Nat}{R:World->List Value->α->Prop}{T:List TypeId}{w w':au}{v v':Value}{l:List α}
theorem bG.nil:bG t k R base w (.slice none 0 0) ([]:List α):=⟨[],mQ _ _ _ _,rfl⟩
def ii:=@bG.nil
theorem bG.grown(m:jR T R)(h:bG t k R base w v l)(i:w.grownBy w' O)(e:∀k,O=some k->v.ownBlock≠some k)(f:∀u∈T,Kept u w w'):bG t k R base w' v l:=by obtain⟨d,o,n⟩:=h;exact⟨d,xi o i e,n.mono fun c x j=>m _ _ _ _ f j⟩
theorem bG.ext(f:jR T R)(h:bG t k R base w v l)(d:Ext w w'):bG t k R base w' v l:=
 h.grown f (Nc d) Oe (fun _ _=> .jN d)
theorem bG.only(i:jR T R)(h:bG t k R base w v l){g:Nat}(e:Only g w w')(n:g<base)(d:∀u∈T,Kept u w w'):bG t k R base w' v l:=
 h.grown i e (fun k d f=>by injection d with d;obtain⟨m,j,_⟩:=h;have:=(j.lt k f).1;omega) d
theorem bG.snoc(j:jR T R)(hT:∀d∈T,t≠d){h:List Value}{x:α}(e:w.ownsRow base t k v l u)(f:Ch (R w) u l)(m:R w h x)
 (o:w'.ownsRow base t k v' (l.length+1) (u++h)) (p:w.grownBy w' v.ownBlock):bG t k R base w' v' (l++ [x]):=by
 have i:∀d∈T,Kept d w w':=fun d n=>tP e p (hT d n);refine⟨u++h,by rw[bD];exact o,?_⟩;exact Ch.snoc (j _ _ _ _ i m) (f.mono fun c x f=>j _ _ _ _ i f)
def iF:=@bG.snoc
theorem bG.ls(h:bG t k R base w v l):Ls t R w v l:=by obtain⟨f,e,d⟩:=h;exact Ng e d
theorem bG.parts(h:bG t k R base w v l):∃A c d,v= .slice A l c/\l<=c/\c<=maxLen/\ah (w.ownsRow base t k (.slice A l c) l d)/\ah (Ch (R w) d l):=by obtain⟨d,e,j⟩:=h;obtain⟨A,c,rfl,i,f,_⟩:=eL e;exact⟨A,c,d,rfl,i,f,e,j⟩
theorem bG.of{c:Nat}(e:w.ownsRow base t k (.slice E l c) l u)(d:Ch (R w) u l):bG t k R base w (.slice E l c) l:=⟨u,e,d⟩
end
def Ext.aqR{a w w':au}{t:TypeId}{k:Nat}{v:Value}(h:Ext a w)(e:w.ownsRow a.heap.size t k v d u)(i:w.grownBy w' v.ownBlock):Ext a w':=
 qB h i h.size (fun k f=>(e.lt k f).1)
def kI{a w w':au}{base:Nat}{t:TypeId}{k:Nat}{v:Value}(h:Ext a w)(e:w.ownsRow base t k v d u)(i:w.grownBy w' v.ownBlock)(j:a.heap.size<=base):Ext a w':=
 qB h i h.size (fun k f=>by have:=(e.lt k f).1;omega)
def Src.kept{w w':au}{g:Nat}{t:TypeId}(j:cL w g)(m:Only g w w')(i:Ga≠t):Kept t w w':=by intro n o q d;refine(m.block n (ie d) ?_).trans d;intro e;injection e with e;subst e;obtain⟨t,A,p,c,k,_,_,f,_⟩:=j;unfold aq at f;rw[f] at d;injection d with d;injection d with _ h;exact i h
def Jg:=@Src.kept
def nZ{α:Type}(t:TypeId)(R:World->List Value->α->Prop)(w:au)(c:List Value)(l:List α):Prop:=∃A d,c= [.slice A l.length d]/\Ls t R w (.slice A l.length d) l
def nZ.iH{α:Type}{t:TypeId}{T:List TypeId}{R:World->List Value->α->Prop}(e:jR T R):jR (t::T) (nZ t R):=fun _ _ _ _ d ⟨A,i,h,f⟩=>⟨A,i,h,f.keep e d⟩
def nZ.one{α:Type}{t:TypeId}{R:World->List Value->α->Prop}(w:au)(c:List Value)(l:List α)(h:nZ t R w c l):c.length=1:=ayg
def nZ.get{α:Type}{t:TypeId}{R:World->List Value->α->Prop}{w:au}{n c:Nat}{l:List (List α)}(h:Ls x (nZ t R) w (.slice E n c) l){i:Nat}(m:i<l):
 ∃g o f e,E=dV g o/\g<w.heap.size/\ah (Ls t R w (.slice f l[i] e) l[i])/\aA w g (o+i) (.slice f l[i] e):=by
 obtain⟨g,o,d,s,r,⟨f,e,rfl,q⟩,p⟩:=rY nZ.one Od h m;have j:=p 0 _ rfl;rw[lF,kH] at j;exact⟨g,o,f,e,s,r,q,j⟩
def FE:=@nZ.get
section
variable{a b c:au}{g:Nat}
theorem Only.trans(h:Only g a b)(k:Only g b c):Only g a c:=⟨k.os.trans h.os,k.tape.trans h.tape,k.output.trans h.output,aV h.size k.size,fun i e d=>(k.block i (cy e h.size) d).trans (h.block i e d)⟩
theorem Only.gV(h:Ext a b):Only g a b:=⟨h.os,h.tape,h.output,h.size,fun i d _=>h.block i d⟩
def dM:=@Only.gV
theorem Only.grown{t:TypeId}{k n:Nat}{v:Value}(h:Only g a b)(d:b.ownsRow a.heap.size t k v n u)(f:b.grownBy c v.ownBlock):Only g a c:=
 ⟨f.os.trans h.os,f.tape.trans h.tape,f.output.trans h.output,aV h.size f.size,fun i m j=>(f.block i (cy m h.size) (fun e=>by have:=(d.lt i e.symm).1;omega)).trans (h.block i m j)⟩
end
def Ch.split{α:Type}{R:List Value->α->Prop}{k:Nat}(q:∀c x,R c x->c=k):∀{p:List Value} {l:List α} (_:Ch R p l) {i:Nat} (j:i<l),∃h c m,p=h++(c++m)/\h=i*k/\Ch R h (l.take i)/\R c l[i]/\Ch R m (l.drop (i+1))
 |_,[],_,i,j=>by simp at j
 |_,x::l,⟨c,r,e,n,o⟩,0,j=>⟨[],c,r,by simpa using e,by simp,rfl,n,o⟩
 |_,x::l,⟨c,r,e,n,o⟩,i+1,j=>by obtain⟨h,d,m,u,s,a,b,f⟩:=Ch.split q o (i:=i) (by simpa using j);refine⟨c++h,d,m,by rw[e,u,jk],by rw[bD,q _ _ n,s,oH];omega,⟨c,h,rfl,n,a⟩,b,f⟩
def xm{w w':au}{base k:Nat}{t:TypeId}{v:Value}(h:w.ownsRow base t k v d u)(e:Ext w w'):w'.ownsRow base t k v d u:=xi h (Nc e) Oe
def nV{c:Prop} [Decidable c]{a b:Prop}(h:c)(d:a):if c then a else b:=by rw[if_pos h];exact d
def Ch.all{α:Type}{R:List Value->α->Prop}{P:Value->Prop}(h:∀c x,R c x->∀u∈c,P u):∀{f:List Value} {l:List α},Ch R f l->∀u∈f,P u
 |_,[],i=>by rw[show _= [] from i];simp
 |_,_::_,⟨c,r,e,m,j⟩=>by
  subst e;intro u d;rcases bO.1 d with d|d
  ·exact h _ _ m u d
  ·exact Ch.all h j u d
def ab2(w:au)(e:TypeId)(size:Nat):(w.alloc (.cells #[] e)).ownsRow w.heap.size e size (aG w.heap.size 0 0 0) 0 []:=
 ⟨by simp,.inr ⟨w.heap.size,0,#[],rfl,aL _,heap_alloc_new w _,aL _,by unfold maxLen;omega,by simp,by simp⟩⟩
end Go.Proofs.YtehkcnbodcdijaaGreatDoor
