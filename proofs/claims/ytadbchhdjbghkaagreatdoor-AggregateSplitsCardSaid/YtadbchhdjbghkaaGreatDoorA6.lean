/- Texts of the proof, part 6. -/
import Derived.Test.YtadbchhdjbghkaaGreatDoorA5
namespace Go.Proofs.YtadbchhdjbghkaaGreatDoor
set_option maxHeartbeats 8000000
set_option linter.all false
set_option maxRecDepth 100000
variable{aq:Prop}
open Go.RowKit Go.Lib Go.Maps Go.ChangeShapes Go.WideShapes Go.ChangeAt Go.Proofs.Tryz
variable{a b c d e f g h:Nat}{i j k l:List Nat}{m n o:World}{p q r s:Value}{t u v:List Value}{w x:TypeId}{y z:Nat→Option Nat}{A:Nat→List Nat}{B C:Int}{E F:Option Addr}{H I:Rat}{J:Nat→Nat}{K:Nat→Bool}{L:List Int}{N:Array Bool}{O:Option Nat}{Q:Act}{R S:Bool}{T:List UInt8}
abbrev bk:TypeId:=97
abbrev tI:TypeId:=3
abbrev pI:TypeId:=22
def dF(l:List Nat):List Value:=l.map fun x:Nat=>Value.int .i64 (x:Int)
def qU(l:List Nat):(dF l).length=l.length:=by simp [dF]
def lM(h:a<i):(dF i)[a]? =some (.int .i64 (i[a]:Int)):=by simp [dF,h]
def ald(l:List Nat)(k:Nat):(dF l).take k=dF (l.take k):=by simp [dF,El]
def EF(l:List Nat)(x:Nat):dF (l++ [x])=dF l++ [.int .i64 (x:Int)]:=by simp [dF]
abbrev l8(w:au)(A:aR)(l:List Nat):Prop:=Sl w tI A (dF l)
def sG(A:aR)(n c:Nat):Prop:=n<=c/\(A=none->c=0)
def vY{size:Nat}(h:m.ownsRow a w size (.slice E b c) b t):sG E b c:=by
 rcases h.2 with⟨d,rfl⟩|⟨g,o,l,d,_,_,k,_⟩
 ·injection d with i _ f;exact⟨by omega,fun _=>f⟩
 ·injection d with i _ f;subst f;exact⟨k,fun j=>by rw[i] at j;cases j⟩
def bK(w:au)(v:Value)(z:Int):Prop:=∃A c,v= .agg #[.bool (decide (z<0)),.slice A (aW z.natAbs).length c]/\sG A (aW z.natAbs).length c/\l8 w A (aW z.natAbs)
def bK.ext{w':au}(h:bK m p B)(a:Ext m w'):bK w' p B:=by obtain⟨A,c,rfl,d,b⟩:=h;exact⟨A,c,rfl,d,b.ext a⟩
def bK.keep(h:bK m p B)(a:Kept tI m n):bK n p B:=by obtain⟨A,c,rfl,d,b⟩:=h;exact⟨A,c,rfl,d,b.keep a⟩
def bK.parts(h:bK m p B):∃b A n c,p= .agg #[.bool b,.slice A n c]/\ah (bK m (.agg #[.bool b,.slice A n c]) B):=by obtain⟨A,c,rfl,d,a⟩:=h;exact⟨_,A,_,c,rfl,⟨A,c,rfl,d,a⟩⟩
def bK.mk'{A:aR}{neg:Bool}{z:Int}(d:Canon i)(a:val i=z.natAbs)(f:neg=decide (z<0))(g:sG A i c)(b:l8 m A i):bK m (.agg #[.bool neg,.slice A i c]) z:=by
 have e:aW z.natAbs=i:=by rw[<-a];exact acU d
 exact⟨A,c,by rw[e,f],by rw[e];exact g,by rw[e];exact b⟩
def asB(w:au)(v:Value)(a:Bool)(l:List Nat):Prop:=∃A c,v= .agg #[.bool a,.slice A l.length c]/\sG A l.length c/\bH l/\l8 w A l
def MV(o:Option Value):Nat:=match o with
 |some (.slice _ n _)=>n
 |_=>0
def ul{l:Func}{e:Ending->World->Prop}(f:l.results= #[.cell a bk])(r:Q.tmps.getD a undef=aI b 0)(s:Q.defers= [])
 (k:ar n b bk [p,q]) (x:bK n (.agg #[.bool R,.slice E c d]) B) (o:Ext m n) (j:m.heap.size<=b) (u:∀v i,bK i v B->Ext m i->e (.returned v) i):
 bodyPost prog l e .ret Q ((n.setCell (aC b 0) (.bool R)).setCell (aC b 1) (.slice E c d)):=by
 have h:ar ((n.setCell (aC b 0) (.bool R)).setCell (aC b 1) (.slice E c d)) b bk [.bool R,.slice E c d]:=(k.bu 0 (.bool R)).bu 1 (.slice E c d);exact bodyPost_ret (results_cell_row f Q.tmps _ b bk #[.bool R,.slice E c d] (0,0) _ r h underlying97 rfl Ok) s (u _ _ (x.keep (k.qh Od _ _ _ _)) ((o.setCell j _).setCell j _))
def ab2{l:Func}{e:Ending->World->Prop}(f:l.results= #[.cell a bk])(r:Q.tmps.getD a undef=aI b 0)(s:Q.defers= [])
 (k:ar n b bk [p,q]) (v:bK n (.agg #[.bool R,.slice E c d]) B) (o:Ext m n) (j:m.heap.size<=b) (u:∀i,bK i (.agg #[.bool R,.slice E c d]) B->Ext m i->e (.returned (.agg #[.bool R,.slice E c d])) i):
 bodyPost prog l e .ret Q ((n.setCell (aC b 0) (.bool R)).setCell (aC b 1) (.slice E c d)):=by
 have h:ar ((n.setCell (aC b 0) (.bool R)).setCell (aC b 1) (.slice E c d)) b bk [.bool R,.slice E c d]:=(k.bu 0 (.bool R)).bu 1 (.slice E c d);exact bodyPost_ret (results_cell_row f Q.tmps _ b bk #[.bool R,.slice E c d] (0,0) _ r h underlying97 rfl Ok) s (u _ (v.keep (k.qh Od _ _ _ _)) ((o.setCell j _).setCell j _))
def aiG(a:Bool)(n:Nat)(h:0<n):a=decide (signed a n<0):=by rw[QU,decide_eq_true h,Bool.and_true]
def QV(A:aR)(c:Nat)(neg:Bool)(l:List Nat)(w:au)(j:sG A l c)(J:bH l)(I:l8 w A l)(Z:l.length<=100000000):
 Calls prog 156 #[.agg #[.bool neg,.slice A l c]] w fun e H=>∃b n,e= .returned (.agg #[.bool b,.slice A n c])/\bK H (.agg #[.bool b,.slice A n c]) (signed neg (val l))/\Ext w H:=by
 have hc:=j.1;have F:=af j.2;clear j;have K:=af I;have V:=af J;clear I J;go_enter func156,ntmps156;go_wp2_with fail
 refine fR fun W T X U=> ?_;go_loopw [] (fun wr=>∃n:Nat,n<=l/\ah (Behind l n)/\ah (ar wr w.heap.size bk [.bool neg,.slice A n c])/\ah (ar wr (w.heap.size+1) bk [.bool false,.slice none 0 0])/\ah (Ext w wr)) (fun wr=>MV (wr.cell? (aC w.heap.size 1)));exact⟨l,aK _,⟨aK _,by simp⟩,X,U,T⟩;obtain⟨n,Q,q,d,a,f⟩:=hrel;obtain⟨Y,N⟩:=d.two;have f1:=d.frozen 1;by_cases h0:0<n
 ·obtain⟨k,rfl⟩:∃k,n=k+1:=⟨n - 1,by omega⟩;obtain⟨g,o,rfl,_,u⟩:=(K.ext f).at_ (lM (show k<l by omega));have R:decide ((0:Int)<(k:Int)+1)=true:=fU;by_cases r:l[k]=0
  ·have t:((l[k]:Int)==0)=true:=by simp [r]
   have C:=af r;clear r;go_wp2;go_roundw;exact⟨k,by omega,q.step (fun _=>C.ae),d.bu 1 _,a.far (p:=aC w.heap.size 1) (fP (tC _)) _,f.setCell (p:=aC w.heap.size 1) (aK _) _⟩;rw[N,(d.bu 1 _).aF 1];simp [MV]
  ·have t:((l[k]:Int)==0)=false:=by simpa using r
   have O:(((k:Int)+1)==0)=false:=avM;have s:ah (Canon (l.take (k+1))/\val (l.take (k+1))=val l):=⟨⟨V.take _,gC.SH Oc (by simpa [cJ,iR Q] using r)⟩,Lp l (k+1) q.2⟩;have m:ah ((l.take (k+1))=k+1):=by rw[ah,cJ];omega
   obtain⟨M,L⟩:=a.two;have B:=a.frozen 0;have y:=a.frozen 1;have E:ah (bK wr (.agg #[.bool neg,aG g o (k+1) c]) (signed neg (val l))):=(by have P:0<val (l.take (k+1)):=Bq s.1 (fun h=>by have:=m.ae;rw[h] at this;simp at this);have:=bK.mk' (A:=dC g o) (neg:=neg) (z:=signed neg (val l)) (c:=c) s.1 (by rw[Ei];exact s.2) (aiG _ _ (by rw[<-s.2];exact P)) ⟨by rw[m.ae];omega,fun h=>by cases h⟩ (by unfold l8;rw[<-ald];exact(K.ext f).take _);rwa[m.ae] at this)
   clear r;go_wp2;exact ab2 rfl rfl rfl a.ae E f (lK _) (fun S x v=>⟨_,_,rfl,x,v⟩)
 ·obtain rfl:n=0:=Om;have f0:=d.frozen 0;have G:=af (d.bu 0 (.bool false));have i:=af (a.far (p:=aC w.heap.size 0) (fP (tC _)) (.bool false));have D:=af (f.setCell (p:=aC w.heap.size 0) (aK _) (.bool false));have C:ah (signed neg (val l)=0):=(by have:=Lp l 0 q.2;rw[ah,<-this,kF];cases neg<;>rfl)
  obtain⟨b0,b1⟩:=G.two;obtain⟨M,L⟩:=i.two;have B:=i.frozen 0;have y:=i.frozen 1;have E:ah (bK (wr.setCell (aC w.heap.size 0) (.bool false)) (.agg #[.bool false,.slice A 0 c]) (signed neg (val l))):=by rw[ah,C.ae];exact⟨A,c,rfl,⟨aV _,F⟩,Sl.nil⟩
  go_wp2;exact ab2 rfl rfl rfl i.ae E D (lK _) (fun S x v=>⟨_,_,rfl,x,v⟩)
def Rj(v:Value)(a:Bool)(l:List Nat)(w:au)(h:asB w v a l)(j:l.length<=100000000):
 Calls prog 156 #[v] w fun e d=>∃g,e= .returned g/\bK d g (signed a (val l))/\Ext w d:=by
 obtain⟨A,c,rfl,f,k,i⟩:=h;refine(QV A c a l w f k i j).mono ?_;rintro e d ⟨b,n,rfl,o,m⟩;exact⟨_,rfl,o,m⟩
def Sj:(prog.info? tI).map (fun i=>(i.zero,i.size,i.bytes))=some (some (.int .i64 0),1,8):=Ok
def jE:jG prog pI tI 1 8:= .mk' underlying22 Sj rfl Od Od
def SF{size:Nat}(h:m.ownsRow a w size p b t){c:Addr}(q:c.block<a)(u:Value):(m.setCell c u).ownsRow a w size p b t:=by
 obtain⟨i,o|⟨g,f,d,j,l,k,r⟩⟩:=h
 ·exact⟨i,.inl o⟩
 ·exact⟨i,.inr ⟨g,f,d,j,l,(Ln m c u g Om).trans k,r⟩⟩
def E9(n a:Nat)(r:List Nat):Prop:=bH r/\(a=0->gC r)/\val r+B9^r.length*a=n/\r.length<=3/\(r.length=1->a<=9999999999)/\(r.length=2->a<=9)/\(r.length=3->a=0)
def ZC(n:Nat):E9 n n []:=⟨jT,fun _=>gC.nil,by simp,by simp,by simp,by simp,by simp⟩
def ai0(h:E9 a b i)(p:0<b)(m:a<=9223372036854775808):E9 a (b/B9) (i++ [b%B9])/\b<=9223372036854775808:=by
 obtain⟨e,l,c,o,j,g,f⟩:=h;have d:b<=a:=(by rw[<-c];have:=Nat.le_mul_of_pos_left b (apD i);omega)
 refine⟨⟨e.snoc (eF _ Od),fun k=> ?_,?_,?_,?_,?_,?_⟩,by omega⟩
 ·refine gC.SH Ou ?_;have:b%B9=b:=sN (by have:=ua b B9;rw[k] at this;have:=eF b (show 0<B9 by decide);omega);simp;omega
 ·rw[nR,bC,iE,eU,<-c,fO,yq,<-fZ];congr 2;rw[mS];exact ua b B9
 ·rw[bC,iE];rcases cA i 3 with h|h
  ·omega
  ·have:=f Om;omega
 ·rw[bC,iE];intro h;unfold B9;omega
 ·rw[bC,iE];intro h;have:=j Om;unfold B9;omega
 ·rw[bC,iE];intro h;have:=g Om;unfold B9;omega
def aa_(h:E9 a 0 i):Canon i/\val i=a:=⟨⟨h.1,h.2.1 rfl⟩,by have:=h.2.2.1;simpa using this⟩
def q32.afq(h:aq:=by have gO:ah (ar w3 (w.heap.size+1) bk [.bool true,.slice A r c]):=(hg3.block (w.heap.size+1) b.lt (fun h=>by have:=(HOW.lt _ h.symm).1;omega)).trans b.ae;exact m27):=h
def q33.NR(h:aq:=by exact m52):=h
def q31.k41(h:aq:=by
 rcases ip x with rfl|m
 ·have g:(-(a:Int)).tmod 1000000000=0:=FO;open q32 in exact aeB
 ·have l: -(x:Int)<0:=Om;have j:¬(x:Int)<0:=Om;go_wp2_with (at_builtin;refine gQ rfl _ _ pI rfl (w.heap.size+1+1) jE _ _ _ rfl HOW.ae #[.int .i64 ((x:Nat):Int)] 1 1 rfl rfl rfl Om hsz ?_)
  intro v' w3 eD hg3 hb3;obtain⟨A3,c3,rfl,hc3,_,_⟩:=ej eD;have gO:ah (ar w3 (w.heap.size+1) bk [.bool true,.slice A r c]):=(hg3.block (w.heap.size+1) b.lt (fun h=>by have:=(HOW.lt _ h.symm).1;omega)).trans b.ae;open q33 in exact m19):=h
def q35.afq(h:aq:=by have gO:ah (ar w3 (w.heap.size+1) bk [.bool false,.slice A r c]):=(hg3.block (w.heap.size+1) b.lt (fun h=>by have:=(HOW.lt _ h.symm).1;omega)).trans b.ae;exact m27):=h
def q36.NR(h:aq:=by exact m52):=h
def q34.k41(h:aq:=by
 rcases ip x with rfl|m
 ·have g:(-(a:Int)).tmod 1000000000=0:=FO;open q35 in exact aeB
 ·have l: -(x:Int)<0:=Om;have j:¬(x:Int)<0:=Om;go_wp2_with (at_builtin;refine gQ rfl _ _ pI rfl (w.heap.size+1+1) jE _ _ _ rfl HOW.ae #[.int .i64 ((x:Nat):Int)] 1 1 rfl rfl rfl Om hsz ?_)
  intro v' w3 eD hg3 hb3;obtain⟨A3,c3,rfl,hc3,_,_⟩:=ej eD;have gO:ah (ar w3 (w.heap.size+1) bk [.bool false,.slice A r c]):=(hg3.block (w.heap.size+1) b.lt (fun h=>by have:=(HOW.lt _ h.symm).1;omega)).trans b.ae;open q36 in exact m19):=h
def SE(z:Int)(w:au)(h0: -9223372036854775808<=z)(h1:z<=9223372036854775807):
 Calls prog 32 #[.int .i64 z] w fun e C=>∃v',e= .returned v'/\bK C v' z/\Ext w C:=by
 have HZ:ah (z.natAbs<=9223372036854775808):=by unfold ah;omega
 by_cases D:z<0
 ·have o:decide (z<0)=true:=decide_eq_true D;have f:=af o;go_enter func32,ntmps32;go_wp2_with fail
  refine fR fun W t u B=> ?_;go_loopw [0,4] (fun d _ wr=>∃(a:Nat) (r:List Nat) (A:aR) (c:Nat),d= .int .i64 (-(a:Int))/\a<=9223372036854775808/\ah (E9 z.natAbs a r)/\r.length<=3/\ah (wr.ownsRow (w.heap.size+1+1) tI 1 (.slice A r c) r (dF r))/\ah (ar wr (w.heap.size+1) bk [.bool true,.slice A r c])/\ah (ar wr w.heap.size bk [.bool false,.slice none 0 0])/\ah (Ext w wr)) (fun d _ _=>(RowKit.intOf d).natAbs);exact⟨z.natAbs,[],none,0,congrArg _ Om,by omega,ZC _,by simp,mQ _ _ _ _,B,u,t⟩;obtain⟨a,r,A,c,rfl,E,HO,n,HOW,b,jO,bQ⟩:=hrel;obtain⟨k0,k1⟩:=b.two;have f1:=b.frozen 1;have hsz:w.heap.size+1+1<=wr.heap.size:=by have:=b.lt;omega
  by_cases h0:a=0
  ·subst h0;have i:=af (aa_ HO);obtain⟨H,G,e,hc,_,hsl⟩:=ej HOW;injection e with s F q;subst s q;have HV:ah (bK wr (.agg #[.bool true,.slice A r c]) z):=bK.mk' i.1 i.2 f.symm (vY HOW) hsl;exact afd
  ·open q31 in exact m41
 ·have o:decide (z<0)=false:=decide_eq_false D;have f:=af o;go_enter func32,ntmps32;go_wp2_with fail
  refine fR fun W t u B=> ?_;go_loopw [0,4] (fun d _ wr=>∃(a:Nat) (r:List Nat) (A:aR) (c:Nat),d= .int .i64 (a:Int)/\a<=9223372036854775808/\ah (E9 z.natAbs a r)/\r.length<=3/\ah (wr.ownsRow (w.heap.size+1+1) tI 1 (.slice A r c) r (dF r))/\ah (ar wr (w.heap.size+1) bk [.bool false,.slice A r c])/\ah (ar wr w.heap.size bk [.bool false,.slice none 0 0])/\ah (Ext w wr)) (fun d _ _=>(RowKit.intOf d).natAbs);exact⟨z.natAbs,[],none,0,congrArg _ Om,by omega,ZC _,by simp,mQ _ _ _ _,B,u,t⟩;obtain⟨a,r,A,c,rfl,E,HO,n,HOW,b,jO,bQ⟩:=hrel;obtain⟨k0,k1⟩:=b.two;have f1:=b.frozen 1;have hsz:w.heap.size+1+1<=wr.heap.size:=by have:=b.lt;omega
  by_cases h0:a=0
  ·subst h0;have i:=af (aa_ HO);obtain⟨H,G,e,hc,_,hsl⟩:=ej HOW;injection e with s F q;subst s q;have HV:ah (bK wr (.agg #[.bool false,.slice A r c]) z):=bK.mk' i.1 i.2 f.symm (vY HOW) hsl;exact afd
  ·open q34 in exact m41
abbrev Cy:TypeId:=156
def anW:(prog.info? t8).map (fun i=>(i.zero,i.size,i.bytes))=some (some (.int .u8 0),1,1):=Ok
def abO:jG prog Cy t8 1 1:= .mk' underlying156 anW rfl Od Od
def ams{m:Nat}(h:n.ownsRow a w 1 (.slice E b c) b t)(s:m<=b)(y:0<b):n.ownsRow a w 1 (.slice E m c) m (t.take m):=by
 obtain⟨u,⟨_,x⟩|⟨g,r,f,j,o,l,v,d,k,i⟩⟩:=h
 ·omega
 ·injection j with q _ p;subst q p;refine⟨by rw[cJ];omega,.inr ⟨g,c,f,rfl,o,l,by omega,d,k,?_⟩⟩;rw[<-i,LB];congr 1;omega
def Th(h:m.ownsRow a w 1 (.slice E b c) b t)(v:0<b):∃g,E=dC g 0/\a<=g/\g<m.heap.size/\t=b:=by
 obtain⟨r,⟨_,u⟩|⟨g,o,l,d,j,i,s,f,q,p⟩⟩:=h
 ·omega
 ·injection d with k _ x;exact⟨g,k,j,gS i,by omega⟩
def tL(L M:List UInt8)(i:Nat):Prop:=M.length=L.length/\∀j,j<L.length->M[j]? =if j<i\/L.length<=j+i then L[L.length - 1 - j]? else L[j]?
def tL.start(L:List UInt8):tL L L 0:=⟨rfl,fun j a=>by rw[if_neg Om]⟩
def tL.step{M:List UInt8}(h:tL T M a)(p:a+b+1=T)(n:a<b)(x y:UInt8)(m:M[b]? =some x)(l:M[a]? =some y):tL T ((M.set a x).set b y) (a+1):=by
 refine⟨by simpa using h.1,fun j o=> ?_⟩;rw[o5];have q:=h.1;have f:=h.2 a Om;have e:=h.2 b Om;rw[if_neg Om] at f e;by_cases c:b=j
 ·subst c;rw[if_pos rfl,if_pos Oc,if_pos Om,<-l,f];congr 1;omega
 ·rw[if_neg c,o5];by_cases d:a=j
  ·subst d;rw[if_pos rfl,if_pos Om,if_pos Om,<-m,e];congr 1;omega
  ·rw[if_neg d,h.2 j o];by_cases g:j<a\/T<=j+a
   ·rw[if_pos g,if_pos Om]
   ·rw[if_neg g,if_neg Om]
def tL.done{M:List UInt8}{k:Nat}(h:tL T M a)(e:a+k+1=T)(d:¬a<k):M=T.reverse:=by
 apply sL
 intro j;rcases cA j T with b|b
 ·rw[h.2 j b,List.getElem?_reverse b];by_cases c:j<a\/T<=j+a
  ·rw[if_pos c]
  ·rw[if_neg c];congr 1;omega
 ·rw[fF (by rw[h.1];exact b),fF awr]
def Zj(M:List UInt8)(i:Nat)(x:UInt8):(byteCells M).set i (.int .u8 (x.toNat:Int))=byteCells (M.set i x):=by simp [byteCells,Eo]
def amr(j x:Nat):(er (j+1) x).reverse=(er j x).reverse++ [UInt8.ofNat (48+x/10^j%10)]:=by rw[akF,List.reverse_cons]
def ajD(d:Nat)(h:d<10):byteCells [UInt8.ofNat (48+d)]= [.int .u8 (48+(d:Int))]:=by simp only[byteCells,nO,Hn];rw[EM h];congr 2
def aj6(h:m.ownsRow a t8 1 (aG b 0 c d) c (byteCells T)):(convert Cy 9 (aG b 0 c d)).run prog m= .ok (.string ⟨T.toArray⟩) m:=by
 have e:T=c:=by have:=h.1;rw[byteCells_length] at this;omega
 subst e;refine run_convert_bytes_back (P:=prog) m Cy 9 t8 ⟨b,0,none⟩ d T underlying156 underlying5 underlying9 (fun j f=> ?_);rw[Lib.add_plain,ja,h.cellAt j Om,AG f]
def q37.k99(h:aq:=by
 go_region
 all_goals go_wp2
 all_goals
  go_roundw;exact⟨i+1,j - 1,(M.set i y).set j x,by have:=xG.ae;omega,by go_num,congrArg _ Om,Pi,oO.drew,((nI.setCell (p:=aC C i) F _).setCell (p:=aC C j) F _).drew⟩;simp [RowKit.intOf];omega):=h
def q38.k99(h:aq:=by
 go_region
 all_goals go_wp2
 all_goals
  go_roundw;exact⟨i+1,j - 1,(M.set i y).set j x,by have:=xG.ae;omega,by go_num,congrArg _ Om,Pi,oO.drew,((nI.setCell (p:=aC g4 i) E _).setCell (p:=aC g4 j) E _).drew⟩;simp [RowKit.intOf];omega):=h
def Rk(v:Value)(z:Int)(w:au)(h:bK w v z)(hf:d6 z):
 Calls prog 33 #[v] w fun e w'=>e= .returned (.string ⟨(aQ z).toArray⟩)/\Ext w w':=by
 obtain⟨A,c,rfl,hc,hs⟩:=h;unfold d6 Fit at hf;by_cases hz:z.natAbs=0
 ·have hl:(aW z.natAbs).length=0:=by rw[hz];rfl
  have hn:aQ z= [48]:=(by have:z=0:=Om;subst this;exact Bo);rw[hn,hl];clear hn hs hc hf hl;go_enter func33,ntmps33;go_wp2;go_ret;exact⟨rfl,(aB w).alloc _⟩
 ·have h0:aW z.natAbs≠ []:=fun h=>hz (qW.1 h);have hl:0<(aW z.natAbs).length:=D6.2 h0;have HC:=af (cW z.natAbs);have N:=af (dm z.natAbs);have HS:=af hs;have zP:=af h0;generalize aW z.natAbs=l at*;generalize U:decide (z<0)=R at*;have Gy:=af U;have hl0:((l.length:Int)==0)=false:=avM;clear U hs hc h0 hz;go_enter func33,ntmps33;go_wp2_with fail
  refine aT fun W HX HB=> ?_;clear hl0;go_loopw [3,4,5,6] (fun J v4 _ _ wr=>∃k:Nat,k<=l/\v4= .int .i64 k/\ah (wr.ownsRow (w.heap.size+1) t8 1 J (9*k) (byteCells (mU (l.take k))))/\ah (Below (w.heap.size+1) W wr)) (fun _ v4 _ _ _=>l - (RowKit.intOf v4).toNat);exact⟨0,aV _,rfl,mQ _ _ _ _,yE _ _⟩;obtain⟨k,Y,rfl,Q,b⟩:=hrel;have l6:aA wr w.heap.size 1 (.slice A l c):=(b.cell (p:=aC w.heap.size 1) avV).trans (HB.aF 1);have oJ:ah (Ext w wr):=qV HX (b.mono (lK _));have S:w.heap.size+1<=wr.heap.size:=by have:=b.size;have:=HB.lt;omega
  have oK:=af S;clear S;by_cases B:k<l
  ·obtain⟨g,o,rfl,_,a⟩:=(HS.ext oJ).at_ (lM B);have jJ:l[k]<B9:=HC.1.getElem B;have gh:ah (l.take (k+1)=l.take k++ [l[k]]):=fg B;generalize l[k]=x at*;unfold B9 at jJ;go_wp2_with fail
   clear l6 a;have DI:ah (wr.ownsRow (w.heap.size+1) t8 1 u3 (9*k+0) (byteCells (mU (l.take k)++(er 0 x).reverse))):=by rw[ah,er,List.reverse_nil,i7,iq];exact Q
   obtain⟨wo,rfl⟩:∃wo:World,wo=wr:=⟨_,rfl⟩;go_loopw [3,5,6] (fun J v5 v6 ws=>∃j:Nat,j<=9/\v6= .int .i64 j/\v5= .int .i64 ((x/10^j:Nat):Int)/\ah (ws.ownsRow (w.heap.size+1) t8 1 J (9*k+j) (byteCells (mU (l.take k)++(er j x).reverse)))/\ah (Below (w.heap.size+1) W ws)) (fun _ _ v6 _=>9 - (RowKit.intOf v6).toNat);exact⟨0,aV _,rfl,by simp,DI,b⟩;obtain⟨j,hj,rfl,rfl,P,u⟩:=hrel;by_cases hj9:j<9
   ·have D:w.heap.size+1<=wr.heap.size:=by have:=u.size;have:=HB.lt;omega
    have Xh:=af (amr j x);have hyx:x/10^j<=x:=AE _ _;have HDV:ah (x/10^(j+1)=x/10^j/10):=by rw[ah,eU,Nat.div_div_eq_div_mul]
    generalize x/10^j=y at*;have XS:=af (ajD (y%10) (eF _ Od));have Fz:(y:Int)%10=((y%10:Nat):Int):=Om;have hy3:(y:Int)/10=((y/10:Nat):Int):=Om;have ar_:y%10<10:=eF _ Od;generalize y%10=d at*;generalize y/10=e at*;go_wp2_with (at_builtin;refine gQ rfl _ _ Cy rfl (w.heap.size+1) abO _ _ _ rfl P.ae #[.int .u8 (48+(d:Int))] 1 1 rfl rfl rfl Om D ?_)
    intro v' w3 T hg3 _;have gO:=af (u.grown hg3 D (fun k Y=>(P.lt k Y).1));have fX:ah (w3.ownsRow (w.heap.size+1) t8 1 v' (9*k+(j+1)) (byteCells (mU (l.take k)++(er (j+1) x).reverse))):=by rw[ah,Xh.ae,<-ie,byteCells_append,XS.ae];exact T
    clear T hg3 Fz;go_wp2;go_roundw;exact⟨j+1,by omega,by go_num,by rw[HDV.ae],fX,gO⟩;simp [RowKit.intOf];omega
   ·obtain rfl:j=9:=Om;have dY:ah (wr.ownsRow (w.heap.size+1) t8 1 u3 (9*(k+1)) (byteCells (mU (l.take (k+1))))):=(by rw[ah,gh.ae,ahB];exact P)
    go_wp2;go_roundw;exact⟨k+1,by omega,by go_num,dY,u⟩;simp [RowKit.intOf];omega
  ·obtain rfl:k=l.length:=Om;obtain⟨A3,c3,rfl,hc3,_,_⟩:=ej Q;obtain⟨zc,K⟩:=aiP HC zP;rw[dz (aK _),K,N.ae] at Q;have f:=ahf l;rw[K,N.ae,bC,YQ,decDigits_length,Lg] at f;obtain⟨c0,r0,hd0,hc0,V4⟩:=Sv (n:=z.natAbs) (by have:=Bq HC zP;rw[N.ae] at this;exact this);have hm:=nDigits_pos z.natAbs;have t:=af (decDigits_length z.natAbs);rw[<-f] at Q;have KJ:=af hd0;generalize hm':nDigits z.natAbs=m at*;have G:=af f;have rQ:m+zc<=9000000:=Om;have PA:=af (HB.ext (w':=wr));clear f K hm' hd0;go_wp2_with fail
   rw[<-G.ae];obtain⟨C,rfl,F,avl,_⟩:=Th Q Om;have hcc:m+zc<=c3:=awN;have X:aA wr w.heap.size 0 (.bool R):=(b.cell (p:=aC w.heap.size 0) avV).trans (HB.aF 0);go_loop [3] (fun J=>∃n:Nat,m<=n/\n<=m+zc/\J=aG C 0 n c3) (fun J=>MV (some J))
   exact⟨m+zc,by omega,aK _,rfl⟩;obtain⟨n,VD,qx,rfl⟩:=hrel;obtain⟨k,rfl⟩:∃k,n=k+1:=⟨n - 1,by omega⟩;have a:=Q.cellAt k Om;by_cases FR:m<=k
   ·have hce:wr.cell? (aC C k)=some (.int .u8 48):=(by rw[a,byteCells,kD,x4 (by simp [t.ae];omega),x_,Ae,if_pos (by simp [t.ae];omega)];rfl);clear a;go_wp2;go_round;exact⟨k,by omega,by omega,rfl⟩;simp [MV]
   ·have hce:wr.cell? (aC C k)=some (.int .u8 (c0.toNat:Int)):=by
     have V:k<(decDigits z.natAbs).reverse.length:=by rw[YQ,t.ae];omega
     rw[a,byteCells,kD,nM (by simpa using V),dL,List.getElem?_reverse (by simpa using V),t.ae,show m - 1 - k=0 by omega,KJ.ae];rfl
    have avw:((c0.toNat:Int)==48)=false:=(by rw[beq_eq_false_iff_ne];intro h;exact hc0 (Qc awb));have s:ah (wr.ownsRow (w.heap.size+1) t8 1 (aG C 0 (k+1) c3) (k+1) (byteCells (decDigits z.natAbs).reverse)):=(by have:=ams Q (m:=k+1) Om Om;rwa[byteCells_append,List.take_left' (by rw[byteCells_length,YQ,t.ae];omega)] at this);have hk6:k<=9000000:=Om;clear a;clear Y B l6;cases R
    ·have HL:ah ((decDigits z.natAbs).reverse=(aQ z).reverse):=by rw[ah,vP (by have:=Gy.ae;simpa using this)]
     rw[HL.ae] at s;go_wp2_with fail;clear hce X;have r:(aQ z).reverse=k+1:=by have:=(s).1;rw[byteCells_length] at this;omega
     have vg:=af r;clear r;go_loopw [7,8] (fun I H wr=>∃(i j:Nat) (M:List UInt8),i+j+1=k+1/\I= .int .i64 i/\H= .int .i64 j/\ah (tL (aQ z).reverse M i)/\ah (wr.ownsRow (w.heap.size+1) t8 1 (aG C 0 (k+1) c3) (k+1) (byteCells M))/\ah (Below (w.heap.size+1) W wr)) (fun I H _=>(RowKit.intOf H).toNat - (RowKit.intOf I).toNat);exact⟨0,k,(aQ z).reverse,by omega,rfl,by go_num,tL.start _,s,b⟩;obtain⟨i,j,M,q,rfl,rfl,iO,kC,nI⟩:=hrel;have xG:=af q;have lY:(i:Int)<k+1:=Om;have FT:(j:Int)<k+1:=Om;have Z:i+j<=9000002:=Om;clear q;by_cases hlt:i<j
     ·have hML:M=k+1:=by rw[iO.1];exact vg
      have Dc:i<M.length:=awF;have qy:j<M.length:=awF;have zy:wr.cell? (aC C i)=some (.int .u8 (M[i].toNat:Int)):=by rw[kC.cellAt i Om,AG Dc]
      have Di:wr.cell? (aC C j)=some (.int .u8 (M[j].toNat:Int)):=by rw[kC.cellAt j Om,AG qy]
      open q37 in exact m99
     ·exact afb
    ·have HL:ah ((decDigits z.natAbs).reverse++ [45]=(aQ z).reverse):=by rw[ah,vQ (by have:=Gy.ae;simpa using this)];simp
     go_wp2_with (at_builtin;refine gQ rfl _ _ Cy rfl (w.heap.size+1) abO _ _ _ rfl s.ae #[.int .u8 45] 1 1 rfl rfl rfl Om oK ?_)
     intro v' w4 L hg4 _;have mg:=af (b.grown hg4 oK (fun k Y=>(s.lt k Y).1));obtain⟨A4,c4,rfl,OO,_,_⟩:=ej L;have O:ah (w4.ownsRow (w.heap.size+1) t8 1 (.slice A4 (k+1+1) c4) (k+1+1) (byteCells (aQ z).reverse)):=by rw[ah,<-HL.ae,byteCells_append];exact L
     obtain⟨g4,rfl,E,avk,_⟩:=Th O Om;clear L hg4 hce X;go_wp2_with fail;have r:(aQ z).reverse=k+1+1:=by have:=(O).1;rw[byteCells_length] at this;omega
     have vg:=af r;clear r;go_loopw [7,8] (fun I H wr=>∃(i j:Nat) (M:List UInt8),i+j+1=k+1+1/\I= .int .i64 i/\H= .int .i64 j/\ah (tL (aQ z).reverse M i)/\ah (wr.ownsRow (w.heap.size+1) t8 1 (aG g4 0 (k+1+1) c4) (k+1+1) (byteCells M))/\ah (Below (w.heap.size+1) W wr)) (fun I H _=>(RowKit.intOf H).toNat - (RowKit.intOf I).toNat);exact⟨0,k+1,(aQ z).reverse,by omega,rfl,by go_num,tL.start _,O,mg⟩;obtain⟨i,j,M,q,rfl,rfl,iO,kC,nI⟩:=hrel;have xG:=af q;have lY:(i:Int)<k+1+1:=Om;have FT:(j:Int)<k+1+1:=Om;have Z:i+j<=9000002:=Om;clear q;by_cases hlt:i<j
     ·have hML:M=k+1+1:=by rw[iO.1];exact vg
      have Dc:i<M.length:=awF;have qy:j<M.length:=awF;have zy:wr.cell? (aC g4 i)=some (.int .u8 (M[i].toNat:Int)):=by rw[kC.cellAt i Om,AG Dc]
      have Di:wr.cell? (aC g4 j)=some (.int .u8 (M[j].toNat:Int)):=by rw[kC.cellAt j Om,AG qy]
      open q38 in exact m99
     ·exact afb
def rv(y:Nat):Nat:=if y=0 then 0 else nDigits y
def aab(h:0<a):rv a=rv (a/10)+1:=by
 unfold rv;rw[if_neg Om];by_cases b:a<10
 ·rw[nDigits_small b,if_pos Om]
 ·rw[nDigits_big b,if_neg Om]
def ak5(h:Canon i)(b:i≠ []):∃x k:Nat,i=k+1/\(dF i)[k]? =some (.int .i64 (x:Int))/\nDigits (val i)=9*k+nDigits x/\x<1000000000/\x≠0:=by have c:0<i.length:=D6.2 b;have a:=Qp h b;rw[YI] at a;exact⟨i[i.length - 1],i.length - 1,by omega,lM Om,a,h.1.getElem Om,h.2.last c⟩
def ah8(v:Value)(z:Int)(w:au)(h:bK w v z)(n:d6 z):
 Calls prog 163 #[v] w fun e H=>e= .returned (.int .i64 (nDigits z.natAbs:Int))/\Ext w H:=by
 obtain⟨A,c,rfl,F,q⟩:=h;unfold d6 Fit at n;by_cases j:z.natAbs=0
 ·have C:(aW z.natAbs).length=0:=by rw[j];rfl
  have B:nDigits z.natAbs=1:=by rw[j,nDigits_small Od]
  rw[B,C];clear B q F n C;go_enter func163,ntmps163;go_wp2;go_ret;exact⟨rfl,(aB w).alloc _⟩
 ·have G:aW z.natAbs≠ []:=fun h=>j (qW.1 h);obtain⟨x,k,D,a,s,f,i⟩:=ak5 (cW z.natAbs) G;rw[dm] at s;have Q:=af q;rw[D] at n⊢;have S:=af s;have P:=af i;generalize aW z.natAbs=l at*;have L:k<=1000000:=Om;clear s i q F G j;have E:rv x<=9:=by unfold rv;split;omega;exact(y_ (show x<B9 from f)).1
  obtain⟨g,o,rfl,_,b⟩:=(Q.ext ((aB w).alloc (Obj.cells #[.bool (decide (z<0)),.slice A (k+1) c] bk))).at_ a;clear a D n;go_enter func163,ntmps163;go_wp2_with fail;clear b;go_loop [3,4] (fun I p=>∃m y:Nat,I= .int .i64 m/\p= .int .i64 y/\y<1000000000/\m<=9*k+9/\ah (m+rv y=9*k+rv x)) (fun _ p=>(RowKit.intOf p).toNat);exact⟨9*k,x,by go_num,rfl,f,by omega,rfl⟩;obtain⟨m,y,rfl,rfl,T,U,u⟩:=hrel;by_cases d:0<y
  ·have r:m+1<=9*k+9:=by have:=u.ae;rw[aab d] at this;omega
   have t:ah (m+1+rv (y/10)=9*k+rv x):=by have:=u.ae;rw[aab d] at this;unfold ah;omega
   have K:(y:Int)/10=((y/10:Nat):Int):=Om;have J:y/10<y:=Om;generalize y/10=e at*;go_wp2;go_round;exact⟨m+1,e,by go_num,rfl,by omega,r,t⟩;simp [RowKit.intOf];omega
  ·obtain rfl:y=0:=Om;have R:ah ((m:Int)=nDigits z.natAbs):=by
    have O:=u.ae;have N:rv x=nDigits x:=by unfold rv;rw[if_neg P.ae]
    have M:rv 0=0:=rfl;rw[N,M] at O;rw[ah,S.ae];omega
   go_wp2;go_ret;exact⟨mV R,(aB w).alloc _⟩
def aaU(v:Value)(z:Int)(w:au)(h:bK w v z)(g:nDigits z.natAbs<=400):
 Calls prog 88 #[v] w fun e k=>e= .returned (.tuple #[.string ⟨(aQ z).toArray⟩,.int .i64 0])/\Ext w k:=by
 have D:=af (fun(w:au) (h:bK w v z)=>ah8 v z w h (pu g).wide);have T:=af (fun(w:au) (h:bK w v z)=>Rk v z w h (pu g).wide);obtain⟨b,A,n,c,rfl,H⟩:=h.parts;have q:(nDigits z.natAbs:Int)<=400:=Om;clear h g;generalize nDigits z.natAbs=d at*;generalize aQ z=t at*;go_enter func88,ntmps88;go_wp2_with fail
 refine aT (P:=fun W=>Calls _ _ _ W _) fun W i l=> ?_;refine(D W (H.ext i)).mono ?_;rintro e j ⟨rfl,a⟩;obtain⟨p,o⟩:=(l.ext a).two;go_wp2_with fail;refine(T j (H.ext (i.trans a))).mono ?_;rintro e m ⟨rfl,f⟩;go_wp2;go_ret2;exact⟨rfl,i.trans (a.trans f)⟩
def aoF(b: -9223372036854775808<=B)(a:B<=9223372036854775807):cE B:=⟨20,by decide,by omega⟩
def aki(z:Int)(w:au)(i: -9223372036854775808<=z)(g:z<=9223372036854775807):
 Calls prog 10 #[.int .i64 z] w fun e k=>e= .returned (.string ⟨(aQ z).toArray⟩)/\Ext w k:=by
 have O:=af (fun w=>SE z w i g);have T:=af (fun(v:Value) (w:au) (h:bK w v z)=>Rk v z w h (aoF i g).wide);clear i g;generalize aQ z=t at*;go_enter func10,ntmps10;go_wp2_with fail
 refine(O w).mono ?_;rintro e j ⟨m,rfl,f,d⟩;obtain⟨b,A,n,c,rfl,H⟩:=f.parts;go_wp2_with fail;refine(T _ j H).mono ?_;rintro e l ⟨rfl,a⟩;go_wp2;go_ret;exact⟨rfl,d.trans a⟩
def QE(z:Int)(w:au)(q:nDigits z.natAbs<=400):
 Calls prog 154 #[.string ⟨(aQ z).toArray⟩] w fun e H=>e= .returned (.bool true)/\w=H:=by
 by_cases s:z=0
 ·subst s;have A:aQ 0= [48]:=Bo;rw[A];clear A q;go_enter func154,ntmps154;go_wp2;go_ret;exact⟨rfl,rfl⟩
 ·obtain⟨c,r,m,v,p⟩:=Sv (n:=z.natAbs) Om;have b:(c::r).length<=400:=by rw[<-m,decDigits_length];exact q
  have j:(aQ z== [48])=false:=(by rw[beq_eq_false_iff_ne];intro h;exact s (yL (h.trans Bo.symm)));have y:ah (∀x∈c::r,kN x):=by rw[ah,<-m];exact yD _
  have o:c.toNat≠48:=fun h=>v (Qc awb);obtain⟨S,l⟩:∃S:ByteArray,S=⟨(c::r).toArray⟩:=⟨_,rfl⟩;have d:S.size=(c::r).length:=by rw[l];rfl
  have agW:ah (∀k (hk:k<S.size),48<=S[k].toNat/\S[k].toNat<=57):=(by intro k hk;subst l;exact y ((c::r)[k]) Ou);have i:0<S.size:=by rw[d];simp
  have D:(((S[0]'i).toNat:Int)==48)=false:=by
   subst l;rw[beq_eq_false_iff_ne];intro h;have:c.toNat=48:=by have J:(c.toNat:Int)=48:=h;omega
   exact o this
  have u:S.size<=400:=by rw[d];exact b
  have G:=af l;have I:(S.size:Int)<=400:=Om;have C:((S.size:Int)==0)=false:=avM;have B:¬(S.size:Int)=0:=Om;rcases AJ z 0 with g|f
  ·have a:aQ z=45::c::r:=by rw[vQ g,m]
   rw[a] at j⊢;have t:(ByteArray.mk (45::c::r).toArray).extract 1 (r+1+1)=S:=by rw[Bn,l];congr 2;rw[dz Ou];rfl
   clear m v p b l a s q d g;go_enter func154,ntmps154;go_wp2_with fail;clear t;exact m47
  ·have a:aQ z=c::r:=by rw[vP f,m]
   have F:(S.toList== [48])=false:=(by have e:S.toList=c::r:=(by rw[G.ae];exact ByteArray.toList_mk _);rw[e,<-a];exact j);rw[a];rw[<-G.ae];have E:(((S[0]'i).toNat:Int)==45)=false:=by rw[beq_eq_false_iff_ne];have:=(agW 0 i).1;omega
   clear m v p b l a s q d f j;go_enter func154,ntmps154;go_wp2_with fail;exact m47
def Il(n:Nat)(T:List UInt8)(r:List Nat)(m:Nat):Prop:=
 bH r/\val r+B9^r.length*m=n/\(T=decDigits m\/(T= []/\m=0))
def ai3(l:List UInt8)(a:Nat)(h:∀c∈l,kN c):f_ a l<(a+1)*10^l.length:=by
 induction l generalizing a with
 |nil=>rw[yI];simp
 |cons c r b=>have e:=h c Ou;unfold kN at e;rw[EE,cP,eU];refine cF (b _ (fun x d=>h x awE)) ?_;rw[ed (10^r.length) 10,<-fO];exact eT _ Om
def akP(h:a<B9):f_ 0 (er 9 a)=a:=by rw[abb 9 a 0 h];omega
def ahe(h:Il a T i b)(hT:0<T.length):
 ∃(k q:Nat),k=T.length - 9/\(∀c∈T,kN c)/\f_ 0 (T.drop k)<B9/\Il a (T.take k) (i++ [f_ 0 (T.drop k)]) q:=by
 obtain⟨p,o,rfl|⟨rfl,_⟩⟩:=h
 ·by_cases f:b<B9
  ·have t:=(y_ f).1;refine⟨0,0,by rw[decDigits_length];omega,yD b,by rw[lJ,EI];exact f,?_⟩;rw[lJ,EI,kF];exact⟨p.snoc f,by rw[nR,yt,iq];exact o,.inr ⟨rfl,rfl⟩⟩
  ·have l:B9<=b:=Y4 f;have j:=abw l;have s:nDigits b=nDigits (b/B9)+9:=by rw[<-decDigits_length,j,bC,Er,decDigits_length]
   have g:b%B9<B9:=eF _ Od;have e:(decDigits b).drop (nDigits (b/B9))=er 9 (b%B9):=by rw[j,<-decDigits_length (b/B9),List.drop_left]
   have d:f_ 0 (er 9 (b%B9))=b%B9:=akP g;refine⟨nDigits (b/B9),b/B9,by rw[decDigits_length];omega,yD b,by rw[e,d];exact g,?_⟩;rw[e,d];refine⟨p.snoc g,?_,.inl ?_⟩
   ·rw[nR,bC,iE,eU,<-o,fO,yq,<-fZ];congr 2;rw[mS];exact ua b B9
   ·rw[j,<-decDigits_length (b/B9),List.take_left]
 ·simp at hT
def Zm(h:Il a T i b)(hT:¬0<T.length):bH i/\val i=a:=by
 obtain⟨d,c,rfl|⟨rfl,rfl⟩⟩:=h
 ·rw[decDigits_length] at hT;exact absurd (nDigits_pos b) hT
 ·rw[yt,iq] at c;exact⟨d,c⟩
def Tf(v:Value):Nat:=match v with
 | .string s=>s.size
 |_=>0
def q41.NR(h:aq:=by exact m45):=h
def q40.k69(h:aq:=by have gO:ah (ar w3 (w.heap.size+1) bk [.bool true,.slice A r c]):=(hg3.block (w.heap.size+1) a.lt (fun h=>by have:=(HOW.lt _ h.symm).1;omega)).trans a.ae;open q41 in exact m19):=h
def q39.afH(h:aq:=by
 go_loop [6,7] (fun J l=>∃i:Nat,k<=i/\i<=T/\l= .int .i64 i/\J= .int .i64 (f_ 0 ((T.take i).drop k):Nat)) (fun _ l=>T - (RowKit.intOf l).toNat)
 exact⟨k,aK _,dR,rfl,by rw[pU avU,yI];rfl⟩;obtain⟨i,L,M,rfl,rfl⟩:=hrel;by_cases hlt:i<T
 ·exact m26
 ·open q40 in exact m69):=h
def q44.NR(h:aq:=by exact m45):=h
def q43.k69(h:aq:=by have gO:ah (ar w3 (w.heap.size+1) bk [.bool false,.slice A r c]):=(hg3.block (w.heap.size+1) a.lt (fun h=>by have:=(HOW.lt _ h.symm).1;omega)).trans a.ae;open q44 in exact m19):=h
def q42.afH(h:aq:=by
 go_loop [6,7] (fun J l=>∃i:Nat,k<=i/\i<=T/\l= .int .i64 i/\J= .int .i64 (f_ 0 ((T.take i).drop k):Nat)) (fun _ l=>T - (RowKit.intOf l).toNat)
 exact⟨k,aK _,dR,rfl,by rw[pU avU,yI];rfl⟩;obtain⟨i,L,M,rfl,rfl⟩:=hrel;by_cases hlt:i<T
 ·exact m26
 ·open q43 in exact m69):=h
def Hy(z:Int)(w:au)(hf:d6 z):
 Calls prog 84 #[.string ⟨(aQ z).toArray⟩] w fun e w'=>∃v,e= .returned v/\bK w' v z/\Ext w w':=by
 have N:nDigits z.natAbs<=9000000:=(by unfold d6 Fit at hf;exact m76);clear hf;obtain⟨q,b⟩:∃q,q=decide (z<0):=⟨_,rfl⟩;have HZ:ah (signed q z.natAbs=z):=by rw[b];unfold ah signed;by_cases h:z<0<;>simp [h]<;>omega
 obtain⟨n,I⟩:∃n,n=z.natAbs:=⟨_,rfl⟩;rw[<-I] at HZ N;rcases AJ z 0 with B|B
 ·have f:=vQ B;rw[<-I] at f;rw[decide_eq_true B] at b;rw[f];have HD:ah (decDigits n=decDigits n):=rfl;have g:(ByteArray.mk (45::decDigits n).toArray).extract 1 ((decDigits n).length+1)=⟨(decDigits n).toArray⟩:=(by rw[Bn,dz Ou];rfl)
  clear f B I;go_enter func84,ntmps84;go_wp2_with fail;refine fR fun W U X u=> ?_;obtain⟨b0,b1⟩:=u.two;have P:=u.frozen 0;have Z:ah (ar ((W.setCell (aC (w.heap.size+1) 0) (.bool true)).drew) (w.heap.size+1) bk [.bool true,.slice none 0 0]):=(u.bu 0 (.bool true)).drew;have Y:ah (ar ((W.setCell (aC (w.heap.size+1) 0) (.bool true)).drew) w.heap.size bk [.bool false,.slice none 0 0]):=(X.far (p:=aC (w.heap.size+1) 0) (tC _) _).drew;have V:ah (Ext w ((W.setCell (aC (w.heap.size+1) 0) (.bool true)).drew)):=(U.setCell (p:=aC (w.heap.size+1) 0) (lK _) _).drew;go_region
  clear g b0 b1 P;subst b;generalize(W.setCell (aC (w.heap.size+1) 0) (.bool true)).drew=W1 at*;go_wp2_with fail;go_loopw [3,5,6,7] (fun o _ _ _ wr=>∃(T:List UInt8) (m:Nat) (r:List Nat) (A:aR) (c:Nat),o= .string ⟨T.toArray⟩/\ah (Il n T r m)/\(T.length=0\/T+9*r.length<=9000000)/\9*r.length<=9000009/\ah (wr.ownsRow (w.heap.size+1+1) tI 1 (.slice A r c) r (dF r))/\ah (ar wr (w.heap.size+1) bk [.bool true,.slice A r.length c])/\ah (ar wr w.heap.size bk [.bool false,.slice none 0 0])/\ah (Ext w wr)) (fun o _ _ _ _=>Tf o);exact⟨decDigits n,n,[],none,0,rfl,⟨jT,by simp,.inl rfl⟩,by rw[decDigits_length];simp;omega,by simp,mQ _ _ _ _,Z,Y,V⟩;obtain⟨T,m,r,A,c,rfl,DF,O,K,HOW,a,jO,bQ⟩:=hrel;obtain⟨k0,k1⟩:=a.two;have f1:=a.frozen 1;have hsz:w.heap.size+1+1<=wr.heap.size:=by have:=a.lt;omega
  by_cases hT:0<T.length
  ·open q39 in exact afk
  ·have HE:=af (Zm DF hT);obtain⟨A',c',e,hc,_,g⟩:=ej HOW;injection e with R e2 Q;subst R Q;have t:=af g;clear g;go_wp2_with fail
   refine(Rj _ true r wr ⟨A,c,rfl,vY HOW,HE.1,t⟩ Om).mono ?_;exact m67
 ·have f:=vP B;rw[<-I] at f;rw[decide_eq_false Om] at b;rw[f];obtain⟨s,r0,j⟩:∃s r0,decDigits n=s::r0:=by
   rcases hd:decDigits n with _|⟨s,r0⟩
   ·exact absurd hd (AU n)
   ·exact⟨s,r0,rfl⟩
  have uO:=yD n s (by rw[j];simp);have H:(decDigits n== [])=false:=by rw[j];rfl
  obtain⟨S,C⟩:∃S:ByteArray,S=⟨(decDigits n).toArray⟩:=⟨_,rfl⟩;have G:0<S.size:=by rw[C];show 0<(decDigits n).length;rw[j];simp
  have F:(((S[0]'G).toNat:Int)==45)=false:=by
   subst C;have e:((ByteArray.mk (decDigits n).toArray)[0]'G)=s:=by
    show(decDigits n)[0]'_=s
    simp [j]
   rw[beq_eq_false_iff_ne,e];unfold kN at uO;omega
  have E:(S.toList== [])=false:=(by rw[C,ByteArray.toList_mk];exact H);have D:(S.toList != [])=true:=(by rw[bne,E];rfl);have HS:=af C;rw[<-C];clear f B I j uO H C;go_enter func84,ntmps84;go_wp2_with fail;obtain rfl:=HS.ae;refine fR fun W V Y Z=> ?_;subst b;clear F E D;go_loopw [3,5,6,7] (fun o _ _ _ wr=>∃(T:List UInt8) (m:Nat) (r:List Nat) (A:aR) (c:Nat),o= .string ⟨T.toArray⟩/\ah (Il n T r m)/\(T.length=0\/T+9*r.length<=9000000)/\9*r.length<=9000009/\ah (wr.ownsRow (w.heap.size+1+1) tI 1 (.slice A r c) r (dF r))/\ah (ar wr (w.heap.size+1) bk [.bool false,.slice A r.length c])/\ah (ar wr w.heap.size bk [.bool false,.slice none 0 0])/\ah (Ext w wr)) (fun o _ _ _ _=>Tf o);exact⟨decDigits n,n,[],none,0,rfl,⟨jT,by simp,.inl rfl⟩,by rw[decDigits_length];simp;omega,by simp,mQ _ _ _ _,Z,Y,V⟩;obtain⟨T,m,r,A,c,rfl,DF,O,K,HOW,a,jO,bQ⟩:=hrel;obtain⟨k0,k1⟩:=a.two;have f1:=a.frozen 1;have hsz:w.heap.size+1+1<=wr.heap.size:=by have:=a.lt;omega
  by_cases hT:0<T.length
  ·open q42 in exact afk
  ·have HE:=af (Zm DF hT);obtain⟨A',c',e,hc,_,g⟩:=ej HOW;injection e with R e2 Q;subst R Q;have t:=af g;clear g;go_wp2_with fail
   refine(Rj _ false r wr ⟨A,c,rfl,vY HOW,HE.1,t⟩ Om).mono ?_;exact m67
def aaS(u t:aR)(C B:Nat)(a b:List Nat)(w:au)(h1:a.length<=1000000000)(_h2:b.length<=1000000000)(s:Canon a)(r:Canon b)(l:l8 w u a)(j:l8 w t b):
 Calls prog 161 #[.slice u a C,.slice t b B] w fun e v=>e= .returned (.int .i64 (d7 (val a) (val b)))/\∃n,v=w.drewN n:=by
 have E:=af l;have D:=af j;have CA:=af s;have CB:=af r;clear l j s r;by_cases hl:a.length=b
 ·have d:((a.length:Int) !=(b.length:Int))=false:=by simp [hl]
  have HL:=af hl;have A:a<=b.length:=Om;have z:b<=a.length:=Om;clear hl;go_enter func161,ntmps161;go_wp2;go_loopw [5] (fun i wr=>∃m:Int,i= .int .i64 m/\ -1<=m/\m<a/\a.drop (m+1).toNat=b.drop (m+1).toNat/\∃q,wr=w.drewN q) (fun i _=>(intOf i+1).toNat)
  exact⟨(a.length:Int) - 1,rfl,by omega,by omega,by rw[pU Om,pU Om],0,rfl⟩;obtain⟨m,rfl,y,x,p,q,rfl⟩:=hrel;have HD:=af p;clear p;by_cases G:0<=m
  ·obtain⟨k,rfl⟩:∃k:Nat,m=k:=⟨m.toNat,by omega⟩;have hk:k<a.length:=Om;have zv:k<b.length:=Om;obtain⟨g,o,rfl,_,f⟩:=E.at_ (lM hk);obtain⟨I,F,rfl,_,c⟩:=D.at_ (lM zv);exact m33
  ·exact ae7
 ·have d:((a.length:Int) !=(b.length:Int))=true:=Oc;rcases Nat.lt_or_gt_of_ne hl with h|h
  ·have HV:ah (d7 (val a) (val b)= -1):=ET (AB CA CB h);exact aeQ
  ·have HV:ah (d7 (val a) (val b)=1):=MU (AB CB CA h);have H:¬a<b.length:=Om;exact aeQ
def akg(N M:aR)(X W:Nat)(a b:List Nat)(w:au)(h1:a.length<=10000000)(h2:b.length<=10000000)(J:bH a)(I:bH b)(E:l8 w N a)(D:l8 w M b):
 Calls prog 160 #[.slice N a.length X,.slice M b.length W] w fun e C=>∃A r c,sG A r.length c/\r.length<=10000001/\e= .returned (.slice A r.length c)/\bH r/\val r=val a+val b/\l8 C A r/\Ext w C:=by
 have Z:=af E;have K:=af D;have DA:=af J;have DB:=af I;clear E D J I;go_enter func160,ntmps160;go_wp2;go_loopw [5,6,7] (fun P O n wr=>∃(k c:Nat) (r:List Nat),k<=max a.length b.length+1/\(max a.length b.length<k->c=0)/\n= .int .i64 k/\O= .int .i64 c/\c<=1/\r.length=k/\bH r/\ah (val r+B9^k*c=val (a.take k)+val (b.take k))/\ah (wr.ownsRow w.heap.size tI 1 P k (dF r))/\ah (Ext w wr)) (fun _ _ n _=>max a.length b.length+1 - (RowKit.intOf n).toNat)
 exact⟨0,0,[],aV _,by omega,rfl,rfl,by omega,rfl,jT,by simp [ah],mQ _ _ _ _,aB w⟩;obtain⟨k,c,r,hk,S,rfl,rfl,hc,F,G,L,HO,HX⟩:=hrel;have HR:=af F;have HD:=af G;clear F G;have H:=DA.getD k;have u:=DB.getD k;unfold B9 at H u;obtain⟨t,o⟩:∃t,t=limb a k+limb b k+c:=⟨_,rfl⟩;have HA:=af (RM HR L o);have HT:=af o;clear o;by_cases m:k<a
 ·obtain⟨g1,o1,rfl,_,g⟩:=(Z.ext HX).at_ (lM m);rw[<-f4 m] at g;by_cases f:k<b.length
  ·obtain⟨V,Q,rfl,_,d⟩:=(K.ext HX).at_ (lM f);rw[<-f4 f] at d;generalize limb a k=x at*;generalize limb b k=y at*;have et:((c:Int)+x+y)%1000000000=((t%B9:Nat):Int):=avP;have lA:((c:Int)+x+y)/1000000000=((t/B9:Nat):Int):=avP;exact m16
  ·have i:=pg (l:=b) (k:=k) Om;rw[i] at HT u;generalize limb a k=x at*;clear i;have et:((c:Int)+x)%1000000000=((t%B9:Nat):Int):=avP;have lA:((c:Int)+x)/1000000000=((t/B9:Nat):Int):=avP;exact m16
 ·have i:=pg (l:=a) (k:=k) Om;rw[i] at HT H;clear i;by_cases f:k<b.length
  ·obtain⟨V,Q,rfl,_,d⟩:=(K.ext HX).at_ (lM f);rw[<-f4 f] at d;generalize limb b k=y at*;have et:((c:Int)+y)%1000000000=((t%B9:Nat):Int):=avP;have lA:((c:Int)+y)/1000000000=((t/B9:Nat):Int):=avP;exact m16
  ·have i:=pg (l:=b) (k:=k) Om;rw[i] at HT u;clear i;by_cases T:0<c
   ·have s:t/B9=0:=avP;have R:k<=max a.length b.length:=Om;have z:=af s;have et:(c:Int)%1000000000=((t%B9:Nat):Int):=avP;have lA:(c:Int)/1000000000=((t/B9:Nat):Int):=avP;have Vr:t/B9<=1:=avP;have Vq:t%B9<1000000000:=eF _ Od;have mM:=af (HD.snoc (x:=t%B9) (eF _ Od));generalize t%B9=p at*;generalize t/B9=q at*;go_wp2_with (at_builtin;refine gQ rfl _ _ pI rfl w.heap.size jE _ _ _ rfl HO.ae #[.int .i64 (p:Int)] 1 1 rfl rfl rfl Om HX.size ?_)
    intro v' w3 eD hg3 _;have cH:ah (Ext w w3):=ud HX hg3 HX.size (fun k hk=>(HO.lt k hk).1);have fX:ah (w3.ownsRow w.heap.size tI 1 v' (k+1) (dF (r++ [p]))):=by rw[ah,EF];exact eD
    clear eD hg3 et;go_wp2;go_roundw;exact⟨k+1,q,r++ [p],by omega,(fun _=>z.ae),by go_num,by first|rfl|exact congrArg _ lA|exact congrArg _ Om,Vr,by simp [HR.ae],mM,HA,fX,cH⟩;simp [RowKit.intOf];omega
   ·obtain rfl:c=0:=Om;have HE:ah (val r=val a+val b):=(by have:=L.ae;rw[dz Om,dz Om] at this;rw[ah];omega)
    obtain⟨A,Y,rfl,U,_,j⟩:=ej HO;have v:=af j;have B:=af (vY HO);clear j;go_wp2;go_ret;have e:=HR.ae;subst e;exact⟨A,r,Y,B,by omega,rfl,HD,HE,v,HX⟩
def jd(a r:List Nat)(k c:Nat):List Value:=dF r++(if k<a.length then .int .i64 ((limb a k:Int) - c)::dF (a.drop (k+1)) else [])
def QC(d:j=a)(e:a<i):(jd i j a b)[a]? =some (.int .i64 ((limb i a:Int) - b)):=by rw[jd,if_pos e,x4 awv,qU,d];simp
def Qk(d:j=a)(e:a<i):(jd i j a b).set a (.int .i64 (c:Int))=jd i (j++ [c]) (a+1) 0:=by
 rw[jd,jd,if_pos e,PU _ _ awv,qU,d,LM,dP,EF,ie];congr 1;rw[List.singleton_append];congr 1;by_cases h:a+1<i
 ·rw[if_pos h,H_ _ _ h];simp [dF]
 ·rw[if_neg h,pU Om];rfl
def ahb(c:j=a)(b:a<i):(jd i j a 0).set a (.int .i64 ((limb i a:Int) - 1))=jd i j a 1:=by rw[jd,jd,if_pos b,if_pos b,PU _ _ awv,qU,c,LM,dP];rfl
def ahl(d:j=a)(e:a<i):(jd i j a b).set a (.int .i64 ((limb i a:Int) - b))=jd i j a b:=by rw[jd,if_pos e,PU _ _ awv,qU,d,LM,dP]
def Y7(d:j=a)(e:a<=i):(jd i j a b).length=i.length:=by
 rw[jd,bC,qU];split
 ·rw[cP,qU,o8];omega
 ·simp;omega
def ahd(a:List Nat):jd a [] 0 0=dF a:=by
 unfold jd;rcases a with _|⟨x,l⟩
 ·rfl
 ·simp [dF,limb]
def ahx(d:¬a<i):jd i j a b=dF j:=by rw[jd,if_neg d,i7]
def al0{r:List Nat}(n:Canon i)(m:Canon j)(d:val j<=val i)(g:r.length=i.length)(l:bH r)(h:val r+val (j.take i.length)=val (i.take i.length)+B9^i.length*c):c=0:=by
 have k:=Eb n m d;rw[dz k,dz (aK _)] at h;have f:=jV l;rw[g] at f;rcases ip c with e|e
 ·exact e
 ·have:=G7 (B9^i.length) e;omega
def aa8{size:Nat}(h:m.ownsRow a w size (.slice E b c) b t):∀f,E=some f->a<=f.block:=by
 rcases h.2 with⟨i,_⟩|⟨g,o,l,i,k,_⟩
 ·injection i with j;intro f d;rw[j] at d;cases d
 ·injection i with j;intro f d;rw[j] at d;injection d with d;subst d;exact k
def q45.k89(h:aq:=by have d:(H.setCell (aC g k) (.int .i64 (T:Int))).cell? (aC g (k+1))=some (.int .i64 (limb a (k+1):Nat)):=(by rw[dY.cellAt (k+1) Om,QC hr1 kS];simp);exact m48):=h
def q46.k89(h:aq:=by have d:(wr.setCell (aC g k) (.int .i64 (T:Int))).cell? (aC g (k+1))=some (.int .i64 (limb a (k+1):Nat)):=(by rw[dY.cellAt (k+1) Om,QC hr1 kS];simp);exact m48):=h
def ZZ(G A2:aR)(M c2:Nat)(a b:List Nat)(w:au)(h1:a.length<=10000000)(h2:b.length<=10000000)(C:sG G a M)(ca:Canon a)(cb:Canon b)(t:val b<=val a)(X:l8 w G a)(W:l8 w A2 b):
 Calls prog 162 #[.slice G a.length M,.slice A2 b.length c2] w fun e V=>∃A r c,sG A r.length c/\(∀N,A=some N->w.heap.size<=N.block)/\r.length<=10000001/\e= .returned (.slice A r.length c)/\bH r/\val r=val a - val b/\l8 V A r/\Ext w V:=by
 have S1:=af X;have S2:=af W;have CA:=af ca;have CB:=af cb;have HL:=af t;have R:=af C;clear X W ca cb t C;go_enter func162,ntmps162;go_wp2_with (at_builtin;refine AO rfl (.const _) (.tmp 7) pI rfl w.heap.size jE _ 0 [] rfl (mQ _ _ _ _) G a M (dF a) rfl R.2 awv S1 (by intro u Z;simp [dF] at Z;obtain⟨x,_,rfl⟩:=Z;rfl) Om (aK _) ?_)
 intro v1 I f n _;have f:I.ownsRow w.heap.size tI 1 v1 a (dF a):=awp;have D:ah (Ext w I):=ud (aB w) n (aK _) (fun k hk=>by simp [Value.ownBlock] at hk);obtain⟨A,o,rfl,_,_,_⟩:=ej f;by_cases h0:a.length=0
 ·have L:a= []:=mh h0;subst L;have U:=af (vY f);have Q:=af (aa8 f);clear f n h0;go_wp2;go_loop [6] (fun q=>q= .int .i64 0) (fun _=>0)
  rfl;subst hrel;go_wp2;go_ret;exact⟨A,[],o,U,Q,by simp,rfl,jT,by simp,Sl.nil,D⟩
 ·obtain⟨g,rfl,hgb,_,_⟩:=Th f Om;have P:ah (I.ownsRow w.heap.size tI 1 (aG g 0 a o) a (jd a [] 0 0)):=by rw[ah,ahd];exact f
  clear f n;go_wp2;go_loopw [6] (fun q wr=>∃(k c:Nat) (r:List Nat),k<=a/\q= .int .i64 k/\c<=1/\(k=a->c=0)/\r=k/\bH r/\ah (val r+val (b.take k)=val (a.take k)+B9^k*c)/\ah (wr.ownsRow w.heap.size tI 1 (aG g 0 a o) a (jd a r k c))/\ah (Ext w wr)) (fun q _=>a - (RowKit.intOf q).toNat);exact⟨0,0,[],aV _,rfl,by omega,by omega,rfl,jT,by simp [ah],P,D⟩;obtain⟨k,c,r,hk,rfl,hc,J,hr,hd,HV,E,F⟩:=hrel;have HR:=af hr;have HD:=af hd;clear hr hd;by_cases y:k<a
  ·have ha:=CA.1.getD k;have hb:=CB.1.getD k;unfold B9 at ha hb;obtain⟨T,hT⟩:∃T,T+limb b k+c=limb a k+B9:=⟨limb a k+B9 - limb b k - c,by unfold B9;omega⟩;have hA:=aaO HR HV hT;have j:=af hT;have bQ:=F;clear hT;have i:=E.cellAt k Om;rw[QC HR.ae y] at i;have B:=E.frozenAt k;by_cases v:k<b.length
   ·obtain⟨g2,o2,rfl,_,d⟩:=(S2.ext F).at_ (lM v);rw[<-f4 v] at d;have gM:=af (E.stored k (.int .i64 ((limb a k:Int) - c - limb b k))).1.drew;have bQ:ah (Ext w ((wr.setCell (aC g k) (.int .i64 ((limb a k:Int) - c - limb b k))).drew)):=(F.setCell (p:=aC g k) hgb _).drew;go_wp2;go_region
    clear i d B;generalize(wr.setCell (aC g k) (.int .i64 ((limb a k:Int) - c - limb b k))).drew=H at*;have m:H.cell? (aC g k)=some (.int .i64 ((limb a k:Int) - c - limb b k)):=by rw[gM.cellAt k Om,List.getElem?_set_self (by rw[Y7 HR.ae Om];omega)]
    have z:=gM.frozenAt k;by_cases s:((limb a k:Int) - c - limb b k)<0
    ·have wX:T/B9=0:=avO;have OU:T%B9=T:=avO;have j5:=hA Om;rw[wX,OU] at j5;have Ga:T<1000000000:=av1;have Dm:((limb a k:Int) - c - limb b k)+1000000000=(T:Int):=av1;open q45 in exact m89
    ·have wX:T/B9=1:=avO;have j5:=hA Om;rw[wX] at j5;have Ga:T%B9<1000000000:=eF _ Od;have Dm:((limb a k:Int) - c - limb b k)=((T%B9:Nat):Int):=avO;have hr1:(r++ [T%B9]).length=k+1:=by simp [HR.ae]
     have dY:ah (H.ownsRow w.heap.size tI 1 (aG g 0 a o) a (jd a (r++ [T%B9]) (k+1) 0)):=(by have:=gM.ae;rw[Dm,Qk HR.ae Om] at this;exact this);exact afj
   ·have Y:=pg (l:=b) (k:=k) Om;rw[Y] at j hb;have gM:ah (wr.ownsRow w.heap.size tI 1 (aG g 0 a o) a ((jd a r k c).set k (.int .i64 ((limb a k:Int) - c)))):=by rw[ah,ahl HR.ae y];exact E
    clear Y i B;have m:wr.cell? (aC g k)=some (.int .i64 ((limb a k:Int) - c)):=by rw[gM.cellAt k Om,List.getElem?_set_self (by rw[Y7 HR.ae Om];omega)]
    have z:=gM.frozenAt k;by_cases s:((limb a k:Int) - c)<0
    ·have wX:T/B9=0:=avO;have OU:T%B9=T:=avO;have j5:=hA Om;rw[wX,OU] at j5;have Ga:T<1000000000:=av1;have Dm:((limb a k:Int) - c)+1000000000=(T:Int):=av1;open q46 in exact m89
    ·have wX:T/B9=1:=avO;have j5:=hA Om;rw[wX] at j5;have Ga:T%B9<1000000000:=eF _ Od;have Dm:((limb a k:Int) - c)=((T%B9:Nat):Int):=avO;have hr1:(r++ [T%B9]).length=k+1:=by simp [HR.ae]
     have dY:ah (wr.ownsRow w.heap.size tI 1 (aG g 0 a o) a (jd a (r++ [T%B9]) (k+1) 0)):=(by have:=gM.ae;rw[Dm,Qk HR.ae Om] at this;exact this);exact afj
  ·obtain rfl:k=a.length:=Om;have K:=J rfl;subst K;have HE:=af (acY CA CB HR HD HL HV);have dY:=E.ae;rw[ahx Om] at dY;have O:=af (Ib dY);have S:=af (vY dY);go_wp2;go_ret;exact⟨dC g 0,r,o,by rw[HR.ae];exact S.ae,(fun N h=>by injection h with h;subst h;exact hgb),by rw[HR.ae];omega,by rw[HR.ae];rfl,HD,HE,O,F⟩
end Go.Proofs.YtadbchhdjbghkaaGreatDoor
