/- Texts of the proof, part 4. -/
import Derived.Test.YthfffpcmldipgaaGreatDoorA3
namespace Go.Proofs.YthfffpcmldipgaaGreatDoor
set_option maxHeartbeats 8000000
set_option linter.all false
set_option maxRecDepth 100000
variable{ai:Prop}
open Go.RowKit Go.Lib Go.Maps Go.ChangeShapes Go.WideShapes Go.ChangeAt Go.Proofs.Tryz
variable{a b c d e f g h:Nat}{i j k l:List Nat}{m n o:World}{p q r s:Value}{t u v:List Value}{w x:TypeId}{y z:Nat→Option Nat}{A:Nat→List Nat}{B C:Int}{E F:Option Addr}{H I:Rat}{J:Nat→Nat}{K:Nat→Bool}{L:List Int}{N:Array Bool}{O:Option Nat}{Q:Act}{R S:Bool}{T:List UInt8}
abbrev bD:TypeId:=99
abbrev tI:TypeId:=3
abbrev rh:TypeId:=22
def dW(l:List Nat):List Value:=l.map fun x:Nat=>Value.int .i64 (x:Int)
def sX(l:List Nat):(dW l).length=l.length:=by simp [dW]
def mh(h:a<i.length):(dW i)[a]?=some (.int .i64 (i[a]:Int)):=by simp [dW,h]
def anU(l:List Nat)(k:Nat):(dW l).take k=dW (l.take k):=by simp [dW,G5]
def Hq(l:List Nat)(x:Nat):dW (l++ [x])=dW l++ [.int .i64 (x:Int)]:=by simp [dW]
abbrev nz(w:au)(A:aS)(l:List Nat):Prop:=Sl w tI A (dW l)
def uv(A:aS)(n c:Nat):Prop:=n<=c/\(A=none->c=0)
def ya{size:Nat}(h:m.ownsRow a w size (.slice E b c) b t):uv E b c:=by
 rcases h.2 with⟨d,rfl⟩|⟨g,o,l,d,_,_,k,_⟩
 ·injection d with i _ f;exact⟨by omega,fun _=>f⟩
 ·injection d with i _ f;subst f;exact⟨k,fun j=>by rw[i] at j;cases j⟩
def bO(w:au)(v:Value)(z:Int):Prop:=∃A c,v= .agg #[.bool (decide (z<0)),.slice A (a_ z.natAbs).length c]/\uv A (a_ z.natAbs).length c/\nz w A (a_ z.natAbs)
def bO.ext{w':au}(h:bO m p B)(a:Ext m w'):bO w' p B:=by obtain⟨A,c,rfl,d,b⟩:=h;exact⟨A,c,rfl,d,b.ext a⟩
def bO.keep(h:bO m p B)(a:Kept tI m n):bO n p B:=by obtain⟨A,c,rfl,d,b⟩:=h;exact⟨A,c,rfl,d,b.keep a⟩
def bO.parts(h:bO m p B):∃b A n c,p= .agg #[.bool b,.slice A n c]/\ah (bO m (.agg #[.bool b,.slice A n c]) B):=by obtain⟨A,c,rfl,d,a⟩:=h;exact⟨_,A,_,c,rfl,⟨A,c,rfl,d,a⟩⟩
def bO.mk'{A:aS}{neg:Bool}{z:Int}(d:Canon i)(a:val i=z.natAbs)(f:neg=decide (z<0))(g:uv A i.length c)(b:nz m A i):bO m (.agg #[.bool neg,.slice A i.length c]) z:=by
 have e:a_ z.natAbs=i:=by rw[<-a];exact aeB d
 exact⟨A,c,by rw[e,f],by rw[e];exact g,by rw[e];exact b⟩
def avJ(w:au)(v:Value)(a:Bool)(l:List Nat):Prop:=∃A c,v= .agg #[.bool a,.slice A l.length c]/\uv A l.length c/\bM l/\nz w A l
def PS(o:Option Value):Nat:=match o with
 |some (.slice _ n _)=>n
 |_=>0
def ww{l:Func}{e:Ending->World->Prop}(f:l.results= #[.cell a bD])(r:Q.tmps.getD a undef=aJ b 0)(s:Q.defers= [])
 (k:ar n b bD [p,q]) (x:bO n (.agg #[.bool R,.slice E c d]) B) (o:Ext m n) (j:m.heap.size<=b) (u:∀v i,bO i v B->Ext m i->e (.returned v) i):
 bodyPost prog l e .ret Q ((n.setCell (aB b 0) (.bool R)).setCell (aB b 1) (.slice E c d)):=by
 have h:ar ((n.setCell (aB b 0) (.bool R)).setCell (aB b 1) (.slice E c d)) b bD [.bool R,.slice E c d]:=(k.bu 0 (.bool R)).bu 1 (.slice E c d);exact bodyPost_ret (results_cell_row f Q.tmps _ b bD #[.bool R,.slice E c d] (0,0) _ r h underlying99 rfl Ok) s (u _ _ (x.keep (k.rZ Od _ _ _ _)) ((o.setCell j _).setCell j _))
def adI{l:Func}{e:Ending->World->Prop}(f:l.results= #[.cell a bD])(r:Q.tmps.getD a undef=aJ b 0)(s:Q.defers= [])
 (k:ar n b bD [p,q]) (v:bO n (.agg #[.bool R,.slice E c d]) B) (o:Ext m n) (j:m.heap.size<=b) (u:∀i,bO i (.agg #[.bool R,.slice E c d]) B->Ext m i->e (.returned (.agg #[.bool R,.slice E c d])) i):
 bodyPost prog l e .ret Q ((n.setCell (aB b 0) (.bool R)).setCell (aB b 1) (.slice E c d)):=by
 have h:ar ((n.setCell (aB b 0) (.bool R)).setCell (aB b 1) (.slice E c d)) b bD [.bool R,.slice E c d]:=(k.bu 0 (.bool R)).bu 1 (.slice E c d);exact bodyPost_ret (results_cell_row f Q.tmps _ b bD #[.bool R,.slice E c d] (0,0) _ r h underlying99 rfl Ok) s (u _ (v.keep (k.rZ Od _ _ _ _)) ((o.setCell j _).setCell j _))
def ak8(a:Bool)(n:Nat)(h:0<n):a=decide (signed a n<0):=by rw[Uk,decide_eq_true h,TD]
def Ul(A:aS)(c:Nat)(neg:Bool)(l:List Nat)(w:au)(j:uv A l.length c)(J:bM l)(I:nz w A l)(Z:l.length<=100000000):
 Calls prog 157 #[.agg #[.bool neg,.slice A l.length c]] w fun e H=>∃b n,e= .returned (.agg #[.bool b,.slice A n c])/\bO H (.agg #[.bool b,.slice A n c]) (signed neg (val l))/\Ext w H:=by
 have hc:=j.1;have F:=af j.2;clear j;have K:=af I;have V:=af J;clear I J;go_enter func157,ntmps157;go_wp2_with fail
 refine fX fun W T X U=> ?_;go_loopw [] (fun wr=>∃n:Nat,n<=l.length/\ah (Behind l n)/\ah (ar wr w.heap.size bD [.bool neg,.slice A n c])/\ah (ar wr (w.heap.size+1) bD [.bool false,.slice none 0 0])/\ah (Ext w wr)) (fun wr=>PS (wr.cell? (aB w.heap.size 1)));exact⟨l.length,aK _,⟨aK _,by simp⟩,X,U,T⟩;obtain⟨n,Q,q,d,a,f⟩:=hrel;obtain⟨Y,N⟩:=d.two;have f1:=d.frozen 1;by_cases h0:0<n
 ·obtain⟨k,rfl⟩:∃k,n=k+1:=⟨n - 1,by omega⟩;obtain⟨g,o,rfl,_,u⟩:=(K.ext f).at_ (mh (show k<l.length by omega));have R:decide ((0:Int)<(k:Int)+1)=true:=fF;by_cases r:l[k]=0
  ·have t:((l[k]:Int)==0)=true:=by simp [r]
   have C:=af r;clear r;go_wp2;go_roundw;exact⟨k,by omega,q.step (fun _=>C.ae),d.bu 1 _,a.far (p:=aB w.heap.size 1) (fM (u_ _)) _,f.setCell (p:=aB w.heap.size 1) (aK _) _⟩;rw[N,(d.bu 1 _).aD 1];simp [PS]
  ·have t:((l[k]:Int)==0)=false:=by simpa using r
   have O:(((k:Int)+1)==0)=false:=ayZ;have s:ah (Canon (l.take (k+1))/\val (l.take (k+1))=val l):=⟨⟨V.take _,ic.VP Oc (by simpa [cP,jJ Q] using r)⟩,Oj l (k+1) q.2⟩;have m:ah ((l.take (k+1)).length=k+1):=by rw[ah,cP];omega
   obtain⟨M,L⟩:=a.two;have B:=a.frozen 0;have y:=a.frozen 1;have E:ah (bO wr (.agg #[.bool neg,aG g o (k+1) c]) (signed neg (val l))):=(by have P:0<val (l.take (k+1)):=Ej s.1 (fun h=>by have:=m.ae;rw[h] at this;simp at this);have:=bO.mk' (A:=cT g o) (neg:=neg) (z:=signed neg (val l)) (c:=c) s.1 (by rw[GW];exact s.2) (ak8 _ _ (by rw[<-s.2];exact P)) ⟨by rw[m.ae];omega,fun h=>by cases h⟩ (by unfold nz;rw[<-anU];exact(K.ext f).take _);rwa[m.ae] at this)
   clear r;go_wp2;exact adI rfl rfl rfl a.ae E f (l9 _) (fun S x v=>⟨_,_,rfl,x,v⟩)
 ·obtain rfl:n=0:=Om;have f0:=d.frozen 0;have G:=af (d.bu 0 (.bool false));have i:=af (a.far (p:=aB w.heap.size 0) (fM (u_ _)) (.bool false));have D:=af (f.setCell (p:=aB w.heap.size 0) (aK _) (.bool false));have C:ah (signed neg (val l)=0):=(by have:=Oj l 0 q.2;rw[ah,<-this,kH];cases neg<;>rfl)
  obtain⟨b0,b1⟩:=G.two;obtain⟨M,L⟩:=i.two;have B:=i.frozen 0;have y:=i.frozen 1;have E:ah (bO (wr.setCell (aB w.heap.size 0) (.bool false)) (.agg #[.bool false,.slice A 0 c]) (signed neg (val l))):=by rw[ah,C.ae];exact⟨A,c,rfl,⟨aT _,F⟩,Sl.nil⟩
  go_wp2;exact adI rfl rfl rfl i.ae E D (l9 _) (fun S x v=>⟨_,_,rfl,x,v⟩)
def UH(v:Value)(a:Bool)(l:List Nat)(w:au)(h:avJ w v a l)(j:l.length<=100000000):
 Calls prog 157 #[v] w fun e d=>∃g,e= .returned g/\bO d g (signed a (val l))/\Ext w d:=by
 obtain⟨A,c,rfl,f,k,i⟩:=h;refine(Ul A c a l w f k i j).mono ?_;rintro e d ⟨b,n,rfl,o,m⟩;exact⟨_,rfl,o,m⟩
def Vs:(prog.info? tI).map (fun i=>(i.zero,i.size,i.bytes))=some (some (.int .i64 0),1,8):=Ok
def jy:ko prog rh tI 1 8:= .mk' underlying22 Vs rfl Od Od
def VN{size:Nat}(h:m.ownsRow a w size p b t){c:Addr}(q:c.block<a)(u:Value):(m.setCell c u).ownsRow a w size p b t:=by
 obtain⟨i,o|⟨g,f,d,j,l,k,r⟩⟩:=h
 ·exact⟨i,.inl o⟩
 ·exact⟨i,.inr ⟨g,f,d,j,l,(Oi m c u g Om).trans k,r⟩⟩
def Im(n a:Nat)(r:List Nat):Prop:=bM r/\(a=0->ic r)/\val r+B9^r.length*a=n/\r.length<=3/\(r.length=1->a<=9999999999)/\(r.length=2->a<=9)/\(r.length=3->a=0)
def abh(n:Nat):Im n n []:=⟨kJ,fun _=>ic.nil,by simp,by simp,by simp,by simp,by simp⟩
def als(h:Im a b i)(p:0<b)(m:a<=9223372036854775808):Im a (b/B9) (i++ [b%B9])/\b<=9223372036854775808:=by
 obtain⟨e,l,c,o,j,g,f⟩:=h;have d:b<=a:=(by rw[<-c];have:=aak b (ar6 i.length);omega)
 refine⟨⟨e.snoc (fg _ Od),fun k=> ?_,?_,?_,?_,?_,?_⟩,by omega⟩
 ·refine ic.VP Ou ?_;have:b%B9=b:=uB (by have:=vQ b B9;rw[k] at this;have:=fg b (show 0<B9 by decide);omega);simp;omega
 ·rw[pH,bC,iM,fJ,<-c,gF,DR,<-gO];congr 2;rw[oD];exact vQ b B9
 ·rw[bC,iM];rcases cA i.length 3 with h|h
  ·omega
  ·have:=f Om;omega
 ·rw[bC,iM];intro h;unfold B9;omega
 ·rw[bC,iM];intro h;have:=j Om;unfold B9;omega
 ·rw[bC,iM];intro h;have:=g Om;unfold B9;omega
def acR(h:Im a 0 i):Canon i/\val i=a:=⟨⟨h.1,h.2.1 rfl⟩,by have:=h.2.2.1;simpa using this⟩
def q33.ahu(h:ai:=by have g7:ah (ar w3 (w.heap.size+1) bD [.bool true,.slice A r.length c]):=(hg3.block (w.heap.size+1) b.lt (fun h=>by have:=(HOW.lt _ h.symm).1;omega)).trans b.ae;exact m32):=h
def q34.QN(h:ai:=by exact m63):=h
def q32.k49(h:ai:=by
 rcases i7 x with rfl|m
 ·have g:(-(a:Int)).tmod 1000000000=0:=IX;open q33 in exact agf
 ·have l: -(x:Int)<0:=Om;have j:¬(x:Int)<0:=Om;go_wp2_with (at_builtin;refine gG rfl _ _ rh rfl (w.heap.size+1+1) jy _ _ _ rfl HOW.ae #[.int .i64 ((x:Nat):Int)] 1 1 rfl rfl rfl Om hsz ?_)
  intro v' w3 eX hg3 hb3;obtain⟨A3,c3,rfl,hc3,_,_⟩:=dZ eX;have g7:ah (ar w3 (w.heap.size+1) bD [.bool true,.slice A r.length c]):=(hg3.block (w.heap.size+1) b.lt (fun h=>by have:=(HOW.lt _ h.symm).1;omega)).trans b.ae;open q34 in exact m24):=h
def q36.ahu(h:ai:=by have g7:ah (ar w3 (w.heap.size+1) bD [.bool false,.slice A r.length c]):=(hg3.block (w.heap.size+1) b.lt (fun h=>by have:=(HOW.lt _ h.symm).1;omega)).trans b.ae;exact m32):=h
def q37.QN(h:ai:=by exact m63):=h
def q35.k49(h:ai:=by
 rcases i7 x with rfl|m
 ·have g:(-(a:Int)).tmod 1000000000=0:=IX;open q36 in exact agf
 ·have l: -(x:Int)<0:=Om;have j:¬(x:Int)<0:=Om;go_wp2_with (at_builtin;refine gG rfl _ _ rh rfl (w.heap.size+1+1) jy _ _ _ rfl HOW.ae #[.int .i64 ((x:Nat):Int)] 1 1 rfl rfl rfl Om hsz ?_)
  intro v' w3 eX hg3 hb3;obtain⟨A3,c3,rfl,hc3,_,_⟩:=dZ eX;have g7:ah (ar w3 (w.heap.size+1) bD [.bool false,.slice A r.length c]):=(hg3.block (w.heap.size+1) b.lt (fun h=>by have:=(HOW.lt _ h.symm).1;omega)).trans b.ae;open q37 in exact m24):=h
def PE(z:Int)(w:au)(h0: -9223372036854775808<=z)(h1:z<=9223372036854775807):
 Calls prog 93 #[.int .i64 z] w fun e C=>∃v',e= .returned v'/\bO C v' z/\Ext w C:=by
 have HZ:ah (z.natAbs<=9223372036854775808):=by unfold ah;omega
 by_cases D:z<0
 ·have o:decide (z<0)=true:=decide_eq_true D;have f:=af o;go_enter func93,ntmps93;go_wp2_with fail
  refine fX fun W t u B=> ?_;go_loopw [0,4] (fun d _ wr=>∃(a:Nat) (r:List Nat) (A:aS) (c:Nat),d= .int .i64 (-(a:Int))/\a<=9223372036854775808/\ah (Im z.natAbs a r)/\r.length<=3/\ah (wr.ownsRow (w.heap.size+1+1) tI 1 (.slice A r.length c) r.length (dW r))/\ah (ar wr (w.heap.size+1) bD [.bool true,.slice A r.length c])/\ah (ar wr w.heap.size bD [.bool false,.slice none 0 0])/\ah (Ext w wr)) (fun d _ _=>(RowKit.intOf d).natAbs);exact⟨z.natAbs,[],none,0,congrArg _ Om,by omega,abh _,by simp,lJ _ _ _ _,B,u,t⟩;obtain⟨a,r,A,c,rfl,E,HO,n,HOW,b,jT,bW⟩:=hrel;obtain⟨k0,k1⟩:=b.two;have f1:=b.frozen 1;have hsz:w.heap.size+1+1<=wr.heap.size:=by have:=b.lt;omega
  by_cases h0:a=0
  ·subst h0;have i:=af (acR HO);obtain⟨H,G,e,hc,_,vh⟩:=dZ HOW;injection e with s F q;subst s q;have HV:ah (bO wr (.agg #[.bool true,.slice A r.length c]) z):=bO.mk' i.1 i.2 f.symm (ya HOW) vh;exact ag8
  ·open q32 in exact m49
 ·have o:decide (z<0)=false:=decide_eq_false D;have f:=af o;go_enter func93,ntmps93;go_wp2_with fail
  refine fX fun W t u B=> ?_;go_loopw [0,4] (fun d _ wr=>∃(a:Nat) (r:List Nat) (A:aS) (c:Nat),d= .int .i64 (a:Int)/\a<=9223372036854775808/\ah (Im z.natAbs a r)/\r.length<=3/\ah (wr.ownsRow (w.heap.size+1+1) tI 1 (.slice A r.length c) r.length (dW r))/\ah (ar wr (w.heap.size+1) bD [.bool false,.slice A r.length c])/\ah (ar wr w.heap.size bD [.bool false,.slice none 0 0])/\ah (Ext w wr)) (fun d _ _=>(RowKit.intOf d).natAbs);exact⟨z.natAbs,[],none,0,congrArg _ Om,by omega,abh _,by simp,lJ _ _ _ _,B,u,t⟩;obtain⟨a,r,A,c,rfl,E,HO,n,HOW,b,jT,bW⟩:=hrel;obtain⟨k0,k1⟩:=b.two;have f1:=b.frozen 1;have hsz:w.heap.size+1+1<=wr.heap.size:=by have:=b.lt;omega
  by_cases h0:a=0
  ·subst h0;have i:=af (acR HO);obtain⟨H,G,e,hc,_,vh⟩:=dZ HOW;injection e with s F q;subst s q;have HV:ah (bO wr (.agg #[.bool false,.slice A r.length c]) z):=bO.mk' i.1 i.2 f.symm (ya HOW) vh;exact ag8
  ·open q35 in exact m49
abbrev E1:TypeId:=192
def aqo:(prog.info? t8).map (fun i=>(i.zero,i.size,i.bytes))=some (some (.int .u8 0),1,1):=Ok
def adu:ko prog E1 t8 1 1:= .mk' underlying192 aqo rfl Od Od
def aoY{m:Nat}(h:n.ownsRow a w 1 (.slice E b c) b t)(s:m<=b)(y:0<b):n.ownsRow a w 1 (.slice E m c) m (t.take m):=by
 obtain⟨u,⟨_,x⟩|⟨g,r,f,j,o,l,v,d,k,i⟩⟩:=h
 ·omega
 ·injection j with q _ p;subst q p;refine⟨by rw[cP];omega,.inr ⟨g,c,f,rfl,o,l,by omega,d,k,?_⟩⟩;rw[<-i,Ow];congr 1;omega
def Wm(h:m.ownsRow a w 1 (.slice E b c) b t)(v:0<b):∃g,E=cT g 0/\a<=g/\g<m.heap.size/\t.length=b:=by
 obtain⟨r,⟨_,u⟩|⟨g,o,l,d,j,i,s,f,q,p⟩⟩:=h
 ·omega
 ·injection d with k _ x;exact⟨g,k,j,ie i,by omega⟩
def vw(L M:List UInt8)(i:Nat):Prop:=M.length=L.length/\∀j,j<L.length->M[j]?=if j<i\/L.length<=j+i then L[L.length - 1 - j]? else L[j]?
def vw.start(L:List UInt8):vw L L 0:=⟨rfl,fun j a=>by rw[if_neg Om]⟩
def vw.step{M:List UInt8}(h:vw T M a)(p:a+b+1=T.length)(n:a<b)(x y:UInt8)(m:M[b]?=some x)(l:M[a]?=some y):vw T ((M.set a x).set b y) (a+1):=by
 refine⟨by simpa using h.1,fun j o=> ?_⟩;rw[qF];have q:=h.1;have f:=h.2 a Om;have e:=h.2 b Om;rw[if_neg Om] at f e;by_cases c:b=j
 ·subst c;rw[if_pos rfl,if_pos Oc,if_pos Om,<-l,f];congr 1;omega
 ·rw[if_neg c,qF];by_cases d:a=j
  ·subst d;rw[if_pos rfl,if_pos Om,if_pos Om,<-m,e];congr 1;omega
  ·rw[if_neg d,h.2 j o];by_cases g:j<a\/T.length<=j+a
   ·rw[if_pos g,if_pos Om]
   ·rw[if_neg g,if_neg Om]
def vw.done{M:List UInt8}{k:Nat}(h:vw T M a)(e:a+k+1=T.length)(d:¬a<k):M=T.reverse:=by
 apply uz
 intro j;rcases cA j T.length with b|b
 ·rw[h.2 j b,List.getElem?_reverse b];by_cases c:j<a\/T.length<=j+a
  ·rw[if_pos c]
  ·rw[if_neg c];congr 1;omega
 ·rw[fH (by rw[h.1];exact b),fH azn]
def aaX(M:List UInt8)(i:Nat)(x:UInt8):(byteCells M).set i (.int .u8 (x.toNat:Int))=byteCells (M.set i x):=by simp [byteCells,G8]
def aoX(j x:Nat):(eP (j+1) x).reverse=(eP j x).reverse++ [UInt8.ofNat (48+x/10^j%10)]:=by rw[anf,List.reverse_cons]
def amb(d:Nat)(h:d<10):byteCells [UInt8.ofNat (48+d)]= [.int .u8 (48+(d:Int))]:=by simp only[byteCells,sW,List.map_nil];rw[Hx h];congr 2
def amD(h:m.ownsRow a t8 1 (aG b 0 c d) c (byteCells T)):(convert E1 9 (aG b 0 c d)).run prog m= .ok (.string ⟨T.toArray⟩) m:=by
 have e:T.length=c:=by have:=h.1;rw[byteCells_length] at this;omega
 subst e;refine run_convert_bytes_back (P:=prog) m E1 9 t8 ⟨b,0,none⟩ d T underlying192 underlying5 underlying9 (fun j f=> ?_);rw[Lib.add_plain,jc,h.cellAt j Om,DO f]
def q38.ahV(h:ai:=by
 go_region
 all_goals go_wp2
 all_goals
  go_roundw;exact⟨i+1,j - 1,(M.set i y).set j x,by have:=zA.ae;omega,by go_num,congrArg _ Om,Sb,qu.drew,((py.setCell (p:=aB C i) F _).setCell (p:=aB C j) F _).drew⟩;simp [RowKit.intOf];omega):=h
def q39.ahV(h:ai:=by
 go_region
 all_goals go_wp2
 all_goals
  go_roundw;exact⟨i+1,j - 1,(M.set i y).set j x,by have:=zA.ae;omega,by go_num,congrArg _ Om,Sb,qu.drew,((py.setCell (p:=aB g4 i) E _).setCell (p:=aB g4 j) E _).drew⟩;simp [RowKit.intOf];omega):=h
def UI(v:Value)(z:Int)(w:au)(h:bO w v z)(hf:eJ z):
 Calls prog 94 #[v] w fun e w'=>e= .returned (.string ⟨(aR z).toArray⟩)/\Ext w w':=by
 obtain⟨A,c,rfl,hc,hs⟩:=h;unfold eJ Fit at hf;by_cases hz:z.natAbs=0
 ·have hl:(a_ z.natAbs).length=0:=by rw[hz];rfl
  have hn:aR z= [48]:=(by have:z=0:=Om;subst this;exact Eg);rw[hn,hl];clear hn hs hc hf hl;go_enter func94,ntmps94;go_wp2;go_ret;exact⟨rfl,(aC w).alloc _⟩
 ·have h0:a_ z.natAbs≠ []:=fun h=>hz (uH.1 h);have hl:0<(a_ z.natAbs).length:=J1.2 h0;have HC:=af (df z.natAbs);have N:=af (dm z.natAbs);have HS:=af hs;have Np:=af h0;generalize a_ z.natAbs=l at*;generalize U:decide (z<0)=R at*;have Jw:=af U;have hl0:((l.length:Int)==0)=false:=ayZ;clear U hs hc h0 hz;go_enter func94,ntmps94;go_wp2_with fail
  refine aP fun W HX HB=> ?_;clear hl0;go_loopw [3,4,5,6] (fun J v4 _ _ wr=>∃k:Nat,k<=l.length/\v4= .int .i64 k/\ah (wr.ownsRow (w.heap.size+1) t8 1 J (9*k) (byteCells (oG (l.take k))))/\ah (Below (w.heap.size+1) W wr)) (fun _ v4 _ _ _=>l.length - (RowKit.intOf v4).toNat);exact⟨0,aT _,rfl,lJ _ _ _ _,AH _ _⟩;obtain⟨k,Y,rfl,Q,b⟩:=hrel;have lU:ay wr w.heap.size 1 (.slice A l.length c):=(b.cell (p:=aB w.heap.size 1) ay9).trans (HB.aD 1);have qo:ah (Ext w wr):=sZ HX (b.mono (l9 _));have S:w.heap.size+1<=wr.heap.size:=by have:=b.size;have:=HB.lt;omega
  have qp:=af S;clear S;by_cases B:k<l.length
  ·obtain⟨g,o,rfl,_,a⟩:=(HS.ext qo).at_ (mh B);have pX:l[k]<B9:=HC.1.getElem B;have fp:ah (l.take (k+1)=l.take k++ [l[k]]):=g9 B;generalize l[k]=x at*;unfold B9 at pX;go_wp2_with fail
   clear lU a;have F9:ah (wr.ownsRow (w.heap.size+1) t8 1 u3 (9*k+0) (byteCells (oG (l.take k)++(eP 0 x).reverse))):=by rw[ah,eP,List.reverse_nil,kG,jK];exact Q
   obtain⟨wo,rfl⟩:∃wo:World,wo=wr:=⟨_,rfl⟩;go_loopw [3,5,6] (fun J v5 v6 ws=>∃j:Nat,j<=9/\v6= .int .i64 j/\v5= .int .i64 ((x/10^j:Nat):Int)/\ah (ws.ownsRow (w.heap.size+1) t8 1 J (9*k+j) (byteCells (oG (l.take k)++(eP j x).reverse)))/\ah (Below (w.heap.size+1) W ws)) (fun _ _ v6 _=>9 - (RowKit.intOf v6).toNat);exact⟨0,aT _,rfl,by simp,F9,b⟩;obtain⟨j,hj,rfl,rfl,P,u⟩:=hrel;by_cases hj9:j<9
   ·have D:w.heap.size+1<=wr.heap.size:=by have:=u.size;have:=HB.lt;omega
    have HPR:=af (aoX j x);have hyx:x/10^j<=x:=DN _ _;have HDV:ah (x/10^(j+1)=x/10^j/10):=by rw[ah,fJ,Nat.div_div_eq_div_mul]
    generalize x/10^j=y at*;have HDC:=af (amb (y%10) (fg _ Od));have IJ:(y:Int)%10=((y%10:Nat):Int):=Om;have hy3:(y:Int)/10=((y/10:Nat):Int):=Om;have avm:y%10<10:=fg _ Od;generalize y%10=d at*;generalize y/10=e at*;go_wp2_with (at_builtin;refine gG rfl _ _ E1 rfl (w.heap.size+1) adu _ _ _ rfl P.ae #[.int .u8 (48+(d:Int))] 1 1 rfl rfl rfl Om D ?_)
    intro v' w3 T hg3 _;have g7:=af (u.grown hg3 D (fun k Y=>(P.lt k Y).1));have gL:ah (w3.ownsRow (w.heap.size+1) t8 1 v' (9*k+(j+1)) (byteCells (oG (l.take k)++(eP (j+1) x).reverse))):=by rw[ah,HPR.ae,<-iB,byteCells_append,HDC.ae];exact T
    clear T hg3 IJ;go_wp2;go_roundw;exact⟨j+1,by omega,by go_num,by rw[HDV.ae],gL,g7⟩;simp [RowKit.intOf];omega
   ·obtain rfl:j=9:=Om;have et:ah (wr.ownsRow (w.heap.size+1) t8 1 u3 (9*(k+1)) (byteCells (oG (l.take (k+1))))):=(by rw[ah,fp.ae,ajX];exact P)
    go_wp2;go_roundw;exact⟨k+1,by omega,by go_num,et,u⟩;simp [RowKit.intOf];omega
  ·obtain rfl:k=l.length:=Om;obtain⟨A3,c3,rfl,hc3,_,_⟩:=dZ Q;obtain⟨zc,K⟩:=alg HC Np;rw[dA (aK _),K,N.ae] at Q;have f:=ajB l;rw[K,N.ae,bC,aar,decDigits_length,Oa] at f;obtain⟨c0,r0,hd0,hc0,Zg⟩:=VD (n:=z.natAbs) (by have:=Ej HC Np;rw[N.ae] at this;exact this);have hm:=nDigits_pos z.natAbs;have t:=af (decDigits_length z.natAbs);rw[<-f] at Q;have NC:=af hd0;generalize hm':nDigits z.natAbs=m at*;have G:=af f;have tW:m+zc<=9000000:=Om;have SG:=af (HB.ext (w':=wr));clear f K hm' hd0;go_wp2_with fail
   rw[<-G.ae];obtain⟨C,rfl,F,avl,_⟩:=Wm Q Om;have hcc:m+zc<=c3:=az5;have X:ay wr w.heap.size 0 (.bool R):=(b.cell (p:=aB w.heap.size 0) ay9).trans (HB.aD 0);go_loop [3] (fun J=>∃n:Nat,m<=n/\n<=m+zc/\J=aG C 0 n c3) (fun J=>PS (some J))
   exact⟨m+zc,by omega,aK _,rfl⟩;obtain⟨n,YV,rx,rfl⟩:=hrel;obtain⟨k,rfl⟩:∃k,n=k+1:=⟨n - 1,by omega⟩;have a:=Q.cellAt k Om;by_cases Fm:m<=k
   ·have hce:wr.cell? (aB C k)=some (.int .u8 48):=(by rw[a,byteCells,mL,zR (by simp [t.ae];omega),zW,Dv,if_pos (by simp [t.ae];omega)];rfl);clear a;go_wp2;go_round;exact⟨k,by omega,by omega,rfl⟩;simp [PS]
   ·have hce:wr.cell? (aB C k)=some (.int .u8 (c0.toNat:Int)):=by
     have V:k<(decDigits z.natAbs).reverse.length:=by rw[aar,t.ae];omega
     rw[a,byteCells,mL,pC (by simpa using V),dY,List.getElem?_reverse (by simpa using V),t.ae,show m - 1 - k=0 by omega,NC.ae];rfl
    have ayG:((c0.toNat:Int)==48)=false:=(by rw[beq_eq_false_iff_ne];intro h;exact hc0 (Ts azs));have s:ah (wr.ownsRow (w.heap.size+1) t8 1 (aG C 0 (k+1) c3) (k+1) (byteCells (decDigits z.natAbs).reverse)):=(by have:=aoY Q (m:=k+1) Om Om;rwa[byteCells_append,List.take_left' (by rw[byteCells_length,aar,t.ae];omega)] at this);have hk6:k<=9000000:=Om;clear a;clear Y B lU;cases R
    ·have HL:ah ((decDigits z.natAbs).reverse=(aR z).reverse):=by rw[ah,xZ (by have:=Jw.ae;simpa using this)]
     rw[HL.ae] at s;go_wp2_with fail;clear hce X;have r:(aR z).reverse.length=k+1:=by have:=(s).1;rw[byteCells_length] at this;omega
     have xE:=af r;clear r;go_loopw [7,8] (fun I H wr=>∃(i j:Nat) (M:List UInt8),i+j+1=k+1/\I= .int .i64 i/\H= .int .i64 j/\ah (vw (aR z).reverse M i)/\ah (wr.ownsRow (w.heap.size+1) t8 1 (aG C 0 (k+1) c3) (k+1) (byteCells M))/\ah (Below (w.heap.size+1) W wr)) (fun I H _=>(RowKit.intOf H).toNat - (RowKit.intOf I).toNat);exact⟨0,k,(aR z).reverse,by omega,rfl,by go_num,vw.start _,s,b⟩;obtain⟨i,j,M,q,rfl,rfl,lD,lW,py⟩:=hrel;have zA:=af q;have nv:(i:Int)<k+1:=Om;have Fp:(j:Int)<k+1:=Om;have Z:i+j<=9000002:=Om;clear q;by_cases hlt:i<j
     ·have hML:M.length=k+1:=by rw[lD.1];exact xE
      have Fq:i<M.length:=azX;have sw:j<M.length:=azX;have I5:wr.cell? (aB C i)=some (.int .u8 (M[i].toNat:Int)):=by rw[lW.cellAt i Om,DO Fq]
      have Fv:wr.cell? (aB C j)=some (.int .u8 (M[j].toNat:Int)):=by rw[lW.cellAt j Om,DO sw]
      open q38 in exact ahk
     ·exact ag6
    ·have HL:ah ((decDigits z.natAbs).reverse++ [45]=(aR z).reverse):=by rw[ah,x6 (by have:=Jw.ae;simpa using this)];simp
     go_wp2_with (at_builtin;refine gG rfl _ _ E1 rfl (w.heap.size+1) adu _ _ _ rfl s.ae #[.int .u8 45] 1 1 rfl rfl rfl Om qp ?_)
     intro v' w4 L hg4 _;have nG:=af (b.grown hg4 qp (fun k Y=>(s.lt k Y).1));obtain⟨A4,c4,rfl,Ry,_,_⟩:=dZ L;have O:ah (w4.ownsRow (w.heap.size+1) t8 1 (.slice A4 (k+1+1) c4) (k+1+1) (byteCells (aR z).reverse)):=by rw[ah,<-HL.ae,byteCells_append];exact L
     obtain⟨g4,rfl,E,ayq,_⟩:=Wm O Om;clear L hg4 hce X;go_wp2_with fail;have r:(aR z).reverse.length=k+1+1:=by have:=(O).1;rw[byteCells_length] at this;omega
     have xE:=af r;clear r;go_loopw [7,8] (fun I H wr=>∃(i j:Nat) (M:List UInt8),i+j+1=k+1+1/\I= .int .i64 i/\H= .int .i64 j/\ah (vw (aR z).reverse M i)/\ah (wr.ownsRow (w.heap.size+1) t8 1 (aG g4 0 (k+1+1) c4) (k+1+1) (byteCells M))/\ah (Below (w.heap.size+1) W wr)) (fun I H _=>(RowKit.intOf H).toNat - (RowKit.intOf I).toNat);exact⟨0,k+1,(aR z).reverse,by omega,rfl,by go_num,vw.start _,O,nG⟩;obtain⟨i,j,M,q,rfl,rfl,lD,lW,py⟩:=hrel;have zA:=af q;have nv:(i:Int)<k+1+1:=Om;have Fp:(j:Int)<k+1+1:=Om;have Z:i+j<=9000002:=Om;clear q;by_cases hlt:i<j
     ·have hML:M.length=k+1+1:=by rw[lD.1];exact xE
      have Fq:i<M.length:=azX;have sw:j<M.length:=azX;have I5:wr.cell? (aB g4 i)=some (.int .u8 (M[i].toNat:Int)):=by rw[lW.cellAt i Om,DO Fq]
      have Fv:wr.cell? (aB g4 j)=some (.int .u8 (M[j].toNat:Int)):=by rw[lW.cellAt j Om,DO sw]
      open q39 in exact ahk
     ·exact ag6
def tu(y:Nat):Nat:=if y=0 then 0 else nDigits y
def abR(h:0<a):tu a=tu (a/10)+1:=by
 unfold tu;rw[if_neg Om];by_cases b:a<10
 ·rw[nDigits_small b,if_pos Om]
 ·rw[nDigits_big b,if_neg Om]
def anJ(h:Canon i)(b:i≠ []):∃x k:Nat,i.length=k+1/\(dW i)[k]?=some (.int .i64 (x:Int))/\nDigits (val i)=9*k+nDigits x/\x<1000000000/\x≠0:=by have c:0<i.length:=J1.2 b;have a:=aa7 h b;rw[List.getLast_eq_getElem] at a;exact⟨i[i.length - 1],i.length - 1,by omega,mh Om,a,h.1.getElem Om,h.2.last c⟩
def TZ(v:Value)(z:Int)(w:au)(h:bO w v z)(n:eJ z):
 Calls prog 155 #[v] w fun e H=>e= .returned (.int .i64 (nDigits z.natAbs:Int))/\Ext w H:=by
 obtain⟨A,c,rfl,F,q⟩:=h;unfold eJ Fit at n;by_cases j:z.natAbs=0
 ·have C:(a_ z.natAbs).length=0:=by rw[j];rfl
  have B:nDigits z.natAbs=1:=by rw[j,nDigits_small Od]
  rw[B,C];clear B q F n C;go_enter func155,ntmps155;go_wp2;go_ret;exact⟨rfl,(aC w).alloc _⟩
 ·have G:a_ z.natAbs≠ []:=fun h=>j (uH.1 h);obtain⟨x,k,D,a,s,f,i⟩:=anJ (df z.natAbs) G;rw[dm] at s;have Q:=af q;rw[D] at n⊢;have S:=af s;have P:=af i;generalize a_ z.natAbs=l at*;have L:k<=1000000:=Om;clear s i q F G j;have E:tu x<=9:=by unfold tu;split;omega;exact(EI (show x<B9 from f)).1
  obtain⟨g,o,rfl,_,b⟩:=(Q.ext ((aC w).alloc (Obj.cells #[.bool (decide (z<0)),.slice A (k+1) c] bD))).at_ a;clear a D n;go_enter func155,ntmps155;go_wp2_with fail;clear b;go_loop [3,4] (fun I p=>∃m y:Nat,I= .int .i64 m/\p= .int .i64 y/\y<1000000000/\m<=9*k+9/\ah (m+tu y=9*k+tu x)) (fun _ p=>(RowKit.intOf p).toNat);exact⟨9*k,x,by go_num,rfl,f,by omega,rfl⟩;obtain⟨m,y,rfl,rfl,T,U,u⟩:=hrel;by_cases d:0<y
  ·have r:m+1<=9*k+9:=by have:=u.ae;rw[abR d] at this;omega
   have t:ah (m+1+tu (y/10)=9*k+tu x):=by have:=u.ae;rw[abR d] at this;unfold ah;omega
   have K:(y:Int)/10=((y/10:Nat):Int):=Om;have J:y/10<y:=Om;generalize y/10=e at*;go_wp2;go_round;exact⟨m+1,e,by go_num,rfl,by omega,r,t⟩;simp [RowKit.intOf];omega
  ·obtain rfl:y=0:=Om;have R:ah ((m:Int)=nDigits z.natAbs):=by
    have O:=u.ae;have N:tu x=nDigits x:=by unfold tu;rw[if_neg P.ae]
    have M:tu 0=0:=rfl;rw[N,M] at O;rw[ah,S.ae];omega
   go_wp2;go_ret;exact⟨pI R,(aC w).alloc _⟩
def acx(v:Value)(z:Int)(w:au)(h:bO w v z)(g:nDigits z.natAbs<=400):
 Calls prog 92 #[v] w fun e k=>e= .returned (.tuple #[.string ⟨(aR z).toArray⟩,.int .i64 0])/\Ext w k:=by
 have D:=af (fun(w:au) (h:bO w v z)=>TZ v z w h (qL g).wide);have T:=af (fun(w:au) (h:bO w v z)=>UI v z w h (qL g).wide);obtain⟨b,A,n,c,rfl,H⟩:=h.parts;have q:(nDigits z.natAbs:Int)<=400:=Om;clear h g;generalize nDigits z.natAbs=d at*;generalize aR z=t at*;go_enter func92,ntmps92;go_wp2_with fail
 refine aP (P:=fun W=>Calls _ _ _ W _) fun W i l=> ?_;refine(D W (H.ext i)).mono ?_;rintro e j ⟨rfl,a⟩;obtain⟨p,o⟩:=(l.ext a).two;go_wp2_with fail;refine(T j (H.ext (i.trans a))).mono ?_;rintro e m ⟨rfl,f⟩;go_wp2;go_ret2;exact⟨rfl,i.trans (a.trans f)⟩
def aq7(b: -9223372036854775808<=B)(a:B<=9223372036854775807):cM B:=⟨20,by decide,by omega⟩
def amS(z:Int)(w:au)(i: -9223372036854775808<=z)(g:z<=9223372036854775807):
 Calls prog 46 #[.int .i64 z] w fun e k=>e= .returned (.string ⟨(aR z).toArray⟩)/\Ext w k:=by
 have O:=af (fun w=>PE z w i g);have T:=af (fun(v:Value) (w:au) (h:bO w v z)=>UI v z w h (aq7 i g).wide);clear i g;generalize aR z=t at*;go_enter func46,ntmps46;go_wp2_with fail
 refine(O w).mono ?_;rintro e j ⟨m,rfl,f,d⟩;obtain⟨b,A,n,c,rfl,H⟩:=f.parts;go_wp2_with fail;refine(T _ j H).mono ?_;rintro e l ⟨rfl,a⟩;go_wp2;go_ret;exact⟨rfl,d.trans a⟩
def ak'(z:Int)(w:au)(c: -9223372036854775808<=z)(b:z<=9223372036854775807):
 Calls prog 16 #[.int .i64 z] w fun e d=>e= .returned (.string ⟨(cL (z:Rat)).toArray⟩)/\Ext w d:=by
 have O:=af (fun w=>amS z w c b);clear c b;rw[acA];generalize aR z=t at*;go_enter func16,ntmps16;go_wp2_with fail;refine(O w).mono ?_;rintro e f ⟨rfl,a⟩;go_wp2;go_ret;exact⟨rfl,a⟩
def OS(z:Int)(w:au)(q:nDigits z.natAbs<=400):
 Calls prog 96 #[.string ⟨(aR z).toArray⟩] w fun e H=>e= .returned (.bool true)/\w=H:=by
 by_cases s:z=0
 ·subst s;have A:aR 0= [48]:=Eg;rw[A];clear A q;go_enter func96,ntmps96;go_wp2;go_ret;exact⟨rfl,rfl⟩
 ·obtain⟨c,r,m,v,p⟩:=VD (n:=z.natAbs) Om;have b:(c::r).length<=400:=by rw[<-m,decDigits_length];exact q
  have j:(aR z== [48])=false:=(by rw[beq_eq_false_iff_ne];intro h;exact s (AV (h.trans Eg.symm)));have y:ah (∀x∈c::r,lM x):=by rw[ah,<-m];exact AG _
  have o:c.toNat≠48:=fun h=>v (Ts azs);obtain⟨S,l⟩:∃S:ByteArray,S=⟨(c::r).toArray⟩:=⟨_,rfl⟩;have d:S.size=(c::r).length:=by rw[l];rfl
  have ajd:ah (∀k (hk:k<S.size),48<=S[k].toNat/\S[k].toNat<=57):=(by intro k hk;subst l;exact y ((c::r)[k]) Ou);have i:0<S.size:=by rw[d];simp
  have D:(((S[0]'i).toNat:Int)==48)=false:=by
   subst l;rw[beq_eq_false_iff_ne];intro h;have:c.toNat=48:=by have J:(c.toNat:Int)=48:=h;omega
   exact o this
  have u:S.size<=400:=by rw[d];exact b
  have G:=af l;have I:(S.size:Int)<=400:=Om;have C:((S.size:Int)==0)=false:=ayZ;have B:¬(S.size:Int)=0:=Om;rcases G_ z 0 with g|f
  ·have a:aR z=45::c::r:=by rw[x6 g,m]
   rw[a] at j⊢;have t:(ByteArray.mk (45::c::r).toArray).extract 1 (r.length+1+1)=S:=by rw[KJ,l];congr 2;rw[dA Ou];rfl
   clear m v p b l a s q d g;go_enter func96,ntmps96;go_wp2_with fail;clear t;exact m57
  ·have a:aR z=c::r:=by rw[xZ f,m]
   have F:(S.toList== [48])=false:=(by have e:S.toList=c::r:=(by rw[G.ae];exact ByteArray.toList_mk _);rw[e,<-a];exact j);rw[a];rw[<-G.ae];have E:(((S[0]'i).toNat:Int)==45)=false:=by rw[beq_eq_false_iff_ne];have:=(ajd 0 i).1;omega
   clear m v p b l a s q d f j;go_enter func96,ntmps96;go_wp2_with fail;exact m57
def KM(n:Nat)(T:List UInt8)(r:List Nat)(m:Nat):Prop:=
 bM r/\val r+B9^r.length*m=n/\(T=decDigits m\/(T= []/\m=0))
def alw(l:List UInt8)(a:Nat)(h:∀c∈l,lM c):gU a l<(a+1)*10^l.length:=by
 induction l generalizing a with
 |nil=>rw[AQ];simp
 |cons c r b=>have e:=h c Ou;unfold lM at e;rw[Hp,cW,fJ];refine cE (b _ (fun x d=>h x azy)) ?_;rw[eI (10^r.length) 10,<-gF];exact fc _ Om
def ano(h:a<B9):gU 0 (eP 9 a)=a:=by rw[acT 9 a 0 h];omega
def ajA(h:KM a T i b)(hT:0<T.length):
 ∃(k q:Nat),k=T.length - 9/\(∀c∈T,lM c)/\gU 0 (T.drop k)<B9/\KM a (T.take k) (i++ [gU 0 (T.drop k)]) q:=by
 obtain⟨p,o,rfl|⟨rfl,_⟩⟩:=h
 ·by_cases f:b<B9
  ·have t:=(EI f).1;refine⟨0,0,by rw[decDigits_length];omega,AG b,by rw[mO,Ht];exact f,?_⟩;rw[mO,Ht,kH];exact⟨p.snoc f,by rw[pH,Ay,jK];exact o,.inr ⟨rfl,rfl⟩⟩
  ·have l:B9<=b:=aaH f;have j:=ada l;have s:nDigits b=nDigits (b/B9)+9:=by rw[<-decDigits_length,j,bC,Hb,decDigits_length]
   have g:b%B9<B9:=fg _ Od;have e:(decDigits b).drop (nDigits (b/B9))=eP 9 (b%B9):=by rw[j,<-decDigits_length (b/B9),List.drop_left]
   have d:gU 0 (eP 9 (b%B9))=b%B9:=ano g;refine⟨nDigits (b/B9),b/B9,by rw[decDigits_length];omega,AG b,by rw[e,d];exact g,?_⟩;rw[e,d];refine⟨p.snoc g,?_,.inl ?_⟩
   ·rw[pH,bC,iM,fJ,<-o,gF,DR,<-gO];congr 2;rw[oD];exact vQ b B9
   ·rw[j,<-decDigits_length (b/B9),List.take_left]
 ·simp at hT
def aa1(h:KM a T i b)(hT:¬0<T.length):bM i/\val i=a:=by
 obtain⟨d,c,rfl|⟨rfl,rfl⟩⟩:=h
 ·rw[decDigits_length] at hT;exact absurd (nDigits_pos b) hT
 ·rw[Ay,jK] at c;exact⟨d,c⟩
def Wi(v:Value):Nat:=match v with
 | .string s=>s.size
 |_=>0
def q42.QN(h:ai:=by exact m54):=h
def q41.k82(h:ai:=by have g7:ah (ar w3 (w.heap.size+1) bD [.bool true,.slice A r.length c]):=(hg3.block (w.heap.size+1) a.lt (fun h=>by have:=(HOW.lt _ h.symm).1;omega)).trans a.ae;open q42 in exact m24):=h
def q40.ahT(h:ai:=by
 go_loop [6,7] (fun J l=>∃i:Nat,k<=i/\i<=T.length/\l= .int .i64 i/\J= .int .i64 (gU 0 ((T.take i).drop k):Nat)) (fun _ l=>T.length - (RowKit.intOf l).toNat)
 exact⟨k,aK _,dE,rfl,by rw[qD ay8,AQ];rfl⟩;obtain⟨i,L,M,rfl,rfl⟩:=hrel;by_cases hlt:i<T.length
 ·exact m30
 ·open q41 in exact m82):=h
def q45.QN(h:ai:=by exact m54):=h
def q44.k82(h:ai:=by have g7:ah (ar w3 (w.heap.size+1) bD [.bool false,.slice A r.length c]):=(hg3.block (w.heap.size+1) a.lt (fun h=>by have:=(HOW.lt _ h.symm).1;omega)).trans a.ae;open q45 in exact m24):=h
def q43.ahT(h:ai:=by
 go_loop [6,7] (fun J l=>∃i:Nat,k<=i/\i<=T.length/\l= .int .i64 i/\J= .int .i64 (gU 0 ((T.take i).drop k):Nat)) (fun _ l=>T.length - (RowKit.intOf l).toNat)
 exact⟨k,aK _,dE,rfl,by rw[qD ay8,AQ];rfl⟩;obtain⟨i,L,M,rfl,rfl⟩:=hrel;by_cases hlt:i<T.length
 ·exact m30
 ·open q44 in exact m82):=h
def Hn(z:Int)(w:au)(hf:eJ z):
 Calls prog 89 #[.string ⟨(aR z).toArray⟩] w fun e w'=>∃v,e= .returned v/\bO w' v z/\Ext w w':=by
 have N:nDigits z.natAbs<=9000000:=(by unfold eJ Fit at hf;exact m89);clear hf;obtain⟨q,b⟩:∃q,q=decide (z<0):=⟨_,rfl⟩;have HZ:ah (signed q z.natAbs=z):=by rw[b];unfold ah signed;by_cases h:z<0<;>simp [h]<;>omega
 obtain⟨n,I⟩:∃n,n=z.natAbs:=⟨_,rfl⟩;rw[<-I] at HZ N;rcases G_ z 0 with B|B
 ·have f:=x6 B;rw[<-I] at f;rw[decide_eq_true B] at b;rw[f];have HD:ah (decDigits n=decDigits n):=rfl;have g:(ByteArray.mk (45::decDigits n).toArray).extract 1 ((decDigits n).length+1)=⟨(decDigits n).toArray⟩:=(by rw[KJ,dA Ou];rfl)
  clear f B I;go_enter func89,ntmps89;go_wp2_with fail;refine fX fun W U X u=> ?_;obtain⟨b0,b1⟩:=u.two;have P:=u.frozen 0;have Z:ah (ar ((W.setCell (aB (w.heap.size+1) 0) (.bool true)).drew) (w.heap.size+1) bD [.bool true,.slice none 0 0]):=(u.bu 0 (.bool true)).drew;have Y:ah (ar ((W.setCell (aB (w.heap.size+1) 0) (.bool true)).drew) w.heap.size bD [.bool false,.slice none 0 0]):=(X.far (p:=aB (w.heap.size+1) 0) (u_ _) _).drew;have V:ah (Ext w ((W.setCell (aB (w.heap.size+1) 0) (.bool true)).drew)):=(U.setCell (p:=aB (w.heap.size+1) 0) (l9 _) _).drew;go_region
  clear g b0 b1 P;subst b;generalize(W.setCell (aB (w.heap.size+1) 0) (.bool true)).drew=W1 at*;go_wp2_with fail;go_loopw [3,5,6,7] (fun o _ _ _ wr=>∃(T:List UInt8) (m:Nat) (r:List Nat) (A:aS) (c:Nat),o= .string ⟨T.toArray⟩/\ah (KM n T r m)/\(T.length=0\/T.length+9*r.length<=9000000)/\9*r.length<=9000009/\ah (wr.ownsRow (w.heap.size+1+1) tI 1 (.slice A r.length c) r.length (dW r))/\ah (ar wr (w.heap.size+1) bD [.bool true,.slice A r.length c])/\ah (ar wr w.heap.size bD [.bool false,.slice none 0 0])/\ah (Ext w wr)) (fun o _ _ _ _=>Wi o);exact⟨decDigits n,n,[],none,0,rfl,⟨kJ,by simp,.inl rfl⟩,by rw[decDigits_length];simp;omega,by simp,lJ _ _ _ _,Z,Y,V⟩;obtain⟨T,m,r,A,c,rfl,FZ,O,K,HOW,a,jT,bW⟩:=hrel;obtain⟨k0,k1⟩:=a.two;have f1:=a.frozen 1;have hsz:w.heap.size+1+1<=wr.heap.size:=by have:=a.lt;omega
  by_cases hT:0<T.length
  ·open q40 in exact ahg
  ·have HE:=af (aa1 FZ hT);obtain⟨A',c',e,hc,_,g⟩:=dZ HOW;injection e with R e2 Q;subst R Q;have t:=af g;clear g;go_wp2_with fail
   refine(UH _ true r wr ⟨A,c,rfl,ya HOW,HE.1,t⟩ Om).mono ?_;exact m80
 ·have f:=xZ B;rw[<-I] at f;rw[decide_eq_false Om] at b;rw[f];obtain⟨s,r0,j⟩:∃s r0,decDigits n=s::r0:=by
   rcases hd:decDigits n with _|⟨s,r0⟩
   ·exact absurd hd (DZ n)
   ·exact⟨s,r0,rfl⟩
  have xd:=AG n s (by rw[j];simp);have H:(decDigits n== [])=false:=by rw[j];rfl
  obtain⟨S,C⟩:∃S:ByteArray,S=⟨(decDigits n).toArray⟩:=⟨_,rfl⟩;have G:0<S.size:=by rw[C];show 0<(decDigits n).length;rw[j];simp
  have F:(((S[0]'G).toNat:Int)==45)=false:=by
   subst C;have e:((ByteArray.mk (decDigits n).toArray)[0]'G)=s:=by
    show(decDigits n)[0]'_=s
    simp [j]
   rw[beq_eq_false_iff_ne,e];unfold lM at xd;omega
  have E:(S.toList== [])=false:=(by rw[C,ByteArray.toList_mk];exact H);have D:(S.toList != [])=true:=(by rw[bne,E];rfl);have HS:=af C;rw[<-C];clear f B I j xd H C;go_enter func89,ntmps89;go_wp2_with fail;obtain rfl:=HS.ae;refine fX fun W V Y Z=> ?_;subst b;clear F E D;go_loopw [3,5,6,7] (fun o _ _ _ wr=>∃(T:List UInt8) (m:Nat) (r:List Nat) (A:aS) (c:Nat),o= .string ⟨T.toArray⟩/\ah (KM n T r m)/\(T.length=0\/T.length+9*r.length<=9000000)/\9*r.length<=9000009/\ah (wr.ownsRow (w.heap.size+1+1) tI 1 (.slice A r.length c) r.length (dW r))/\ah (ar wr (w.heap.size+1) bD [.bool false,.slice A r.length c])/\ah (ar wr w.heap.size bD [.bool false,.slice none 0 0])/\ah (Ext w wr)) (fun o _ _ _ _=>Wi o);exact⟨decDigits n,n,[],none,0,rfl,⟨kJ,by simp,.inl rfl⟩,by rw[decDigits_length];simp;omega,by simp,lJ _ _ _ _,Z,Y,V⟩;obtain⟨T,m,r,A,c,rfl,FZ,O,K,HOW,a,jT,bW⟩:=hrel;obtain⟨k0,k1⟩:=a.two;have f1:=a.frozen 1;have hsz:w.heap.size+1+1<=wr.heap.size:=by have:=a.lt;omega
  by_cases hT:0<T.length
  ·open q43 in exact ahg
  ·have HE:=af (aa1 FZ hT);obtain⟨A',c',e,hc,_,g⟩:=dZ HOW;injection e with R e2 Q;subst R Q;have t:=af g;clear g;go_wp2_with fail
   refine(UH _ false r wr ⟨A,c,rfl,ya HOW,HE.1,t⟩ Om).mono ?_;exact m80
def UJ(u t:aS)(C B:Nat)(a b:List Nat)(w:au)(h1:a.length<=1000000000)(_h2:b.length<=1000000000)(s:Canon a)(r:Canon b)(l:nz w u a)(j:nz w t b):
 Calls prog 161 #[.slice u a.length C,.slice t b.length B] w fun e v=>e= .returned (.int .i64 (ew (val a) (val b)))/\∃n,v=w.drewN n:=by
 have E:=af l;have D:=af j;have CA:=af s;have CB:=af r;clear l j s r;by_cases hl:a.length=b.length
 ·have d:((a.length:Int) !=(b.length:Int))=false:=by simp [hl]
  have HL:=af hl;have A:a.length<=b.length:=Om;have z:b.length<=a.length:=Om;clear hl;go_enter func161,ntmps161;go_wp2;go_loopw [5] (fun i wr=>∃m:Int,i= .int .i64 m/\ -1<=m/\m<a.length/\a.drop (m+1).toNat=b.drop (m+1).toNat/\∃q,wr=w.drewN q) (fun i _=>(intOf i+1).toNat)
  exact⟨(a.length:Int) - 1,rfl,by omega,by omega,by rw[qD Om,qD Om],0,rfl⟩;obtain⟨m,rfl,y,x,p,q,rfl⟩:=hrel;have HD:=af p;clear p;by_cases G:0<=m
  ·obtain⟨k,rfl⟩:∃k:Nat,m=k:=⟨m.toNat,by omega⟩;have hk:k<a.length:=Om;have Ci:k<b.length:=Om;obtain⟨g,o,rfl,_,f⟩:=E.at_ (mh hk);obtain⟨I,F,rfl,_,c⟩:=D.at_ (mh Ci);exact m38
  ·exact agY
 ·have d:((a.length:Int) !=(b.length:Int))=true:=Oc;rcases Nat.lt_or_gt_of_ne hl with h|h
  ·have HV:ah (ew (val a) (val b)= -1):=Er (DJ CA CB h);exact agE
  ·have HV:ah (ew (val a) (val b)=1):=PR (DJ CB CA h);have H:¬a.length<b.length:=Om;exact agE
def amO(N M:aS)(X W:Nat)(a b:List Nat)(w:au)(h1:a.length<=10000000)(h2:b.length<=10000000)(J:bM a)(I:bM b)(E:nz w N a)(D:nz w M b):
 Calls prog 211 #[.slice N a.length X,.slice M b.length W] w fun e C=>∃A r c,uv A r.length c/\r.length<=10000001/\e= .returned (.slice A r.length c)/\bM r/\val r=val a+val b/\nz C A r/\Ext w C:=by
 have Z:=af E;have K:=af D;have DA:=af J;have DB:=af I;clear E D J I;go_enter func211,ntmps211;go_wp2;go_loopw [5,6,7] (fun P O n wr=>∃(k c:Nat) (r:List Nat),k<=max a.length b.length+1/\(max a.length b.length<k->c=0)/\n= .int .i64 k/\O= .int .i64 c/\c<=1/\r.length=k/\bM r/\ah (val r+B9^k*c=val (a.take k)+val (b.take k))/\ah (wr.ownsRow w.heap.size tI 1 P k (dW r))/\ah (Ext w wr)) (fun _ _ n _=>max a.length b.length+1 - (RowKit.intOf n).toNat)
 exact⟨0,0,[],aT _,by omega,rfl,rfl,by omega,rfl,kJ,by simp [ah],lJ _ _ _ _,aC w⟩;obtain⟨k,c,r,hk,S,rfl,rfl,hc,F,G,L,HO,HX⟩:=hrel;have HR:=af F;have HD:=af G;clear F G;have H:=DA.getD k;have u:=DB.getD k;unfold B9 at H u;obtain⟨t,o⟩:∃t,t=limb a k+limb b k+c:=⟨_,rfl⟩;have HA:=af (U4 HR L o);have HT:=af o;clear o;by_cases m:k<a.length
 ·obtain⟨g1,o1,rfl,_,g⟩:=(Z.ext HX).at_ (mh m);rw[<-gP m] at g;by_cases f:k<b.length
  ·obtain⟨V,Q,rfl,_,d⟩:=(K.ext HX).at_ (mh f);rw[<-gP f] at d;generalize limb a k=x at*;generalize limb b k=y at*;have dD:((c:Int)+x+y)%1000000000=((t%B9:Nat):Int):=ay3;have mE:((c:Int)+x+y)/1000000000=((t/B9:Nat):Int):=ay3;exact m19
  ·have i:=qJ (l:=b) (k:=k) Om;rw[i] at HT u;generalize limb a k=x at*;clear i;have dD:((c:Int)+x)%1000000000=((t%B9:Nat):Int):=ay3;have mE:((c:Int)+x)/1000000000=((t/B9:Nat):Int):=ay3;exact m19
 ·have i:=qJ (l:=a) (k:=k) Om;rw[i] at HT H;clear i;by_cases f:k<b.length
  ·obtain⟨V,Q,rfl,_,d⟩:=(K.ext HX).at_ (mh f);rw[<-gP f] at d;generalize limb b k=y at*;have dD:((c:Int)+y)%1000000000=((t%B9:Nat):Int):=ay3;have mE:((c:Int)+y)/1000000000=((t/B9:Nat):Int):=ay3;exact m19
  ·have i:=qJ (l:=b) (k:=k) Om;rw[i] at HT u;clear i;by_cases T:0<c
   ·have s:t/B9=0:=ay3;have R:k<=max a.length b.length:=Om;have z:=af s;have dD:(c:Int)%1000000000=((t%B9:Nat):Int):=ay3;have mE:(c:Int)/1000000000=((t/B9:Nat):Int):=ay3;have YI:t/B9<=1:=ay3;have YH:t%B9<1000000000:=fg _ Od;have om:=af (HD.snoc (x:=t%B9) (fg _ Od));generalize t%B9=p at*;generalize t/B9=q at*;go_wp2_with (at_builtin;refine gG rfl _ _ rh rfl w.heap.size jy _ _ _ rfl HO.ae #[.int .i64 (p:Int)] 1 1 rfl rfl rfl Om HX.size ?_)
    intro v' w3 eX hg3 _;have bZ:ah (Ext w w3):=vX HX hg3 HX.size (fun k hk=>(HO.lt k hk).1);have gL:ah (w3.ownsRow w.heap.size tI 1 v' (k+1) (dW (r++ [p]))):=by rw[ah,Hq];exact eX
    clear eX hg3 dD;go_wp2;go_roundw;exact⟨k+1,q,r++ [p],by omega,(fun _=>z.ae),by go_num,by first|rfl|exact congrArg _ mE|exact congrArg _ Om,YI,by simp [HR.ae],om,HA,gL,bZ⟩;simp [RowKit.intOf];omega
   ·obtain rfl:c=0:=Om;have HE:ah (val r=val a+val b):=(by have:=L.ae;rw[dA Om,dA Om] at this;rw[ah];omega)
    obtain⟨A,Y,rfl,U,_,j⟩:=dZ HO;have v:=af j;have B:=af (ya HO);clear j;go_wp2;go_ret;have e:=HR.ae;subst e;exact⟨A,r,Y,B,by omega,rfl,HD,HE,v,HX⟩
def jX(a r:List Nat)(k c:Nat):List Value:=dW r++(if k<a.length then .int .i64 ((limb a k:Int) - c)::dW (a.drop (k+1)) else [])
def TY(d:j.length=a)(e:a<i.length):(jX i j a b)[a]?=some (.int .i64 ((limb i a:Int) - b)):=by rw[jX,if_pos e,zR azM,sX,d];simp
def TE(d:j.length=a)(e:a<i.length):(jX i j a b).set a (.int .i64 (c:Int))=jX i (j++ [c]) (a+1) 0:=by
 rw[jX,jX,if_pos e,Dy _ _ azM,sX,d,OD,dB,Hq,iB];congr 1;rw[List.singleton_append];congr 1;by_cases h:a+1<i.length
 ·rw[if_pos h,Kz _ _ h];simp [dW]
 ·rw[if_neg h,qD Om];rfl
def ajx(c:j.length=a)(b:a<i.length):(jX i j a 0).set a (.int .i64 ((limb i a:Int) - 1))=jX i j a 1:=by rw[jX,jX,if_pos b,if_pos b,Dy _ _ azM,sX,c,OD,dB];rfl
def ajH(d:j.length=a)(e:a<i.length):(jX i j a b).set a (.int .i64 ((limb i a:Int) - b))=jX i j a b:=by rw[jX,if_pos e,Dy _ _ azM,sX,d,OD,dB]
def aaJ(d:j.length=a)(e:a<=i.length):(jX i j a b).length=i.length:=by
 rw[jX,bC,sX];split
 ·rw[cW,sX,oB];omega
 ·simp;omega
def ajz(a:List Nat):jX a [] 0 0=dW a:=by
 unfold jX;rcases a with _|⟨x,l⟩
 ·rfl
 ·simp [dW,limb]
def ajT(d:¬a<i.length):jX i j a b=dW j:=by rw[jX,if_neg d,kG]
def aoz{r:List Nat}(n:Canon i)(m:Canon j)(d:val j<=val i)(g:r.length=i.length)(l:bM r)(h:val r+val (j.take i.length)=val (i.take i.length)+B9^i.length*c):c=0:=by
 have k:=GK n m d;rw[dA k,dA (aK _)] at h;have f:=kL l;rw[g] at f;rcases i7 c with e|e
 ·exact e
 ·have:=JU (B9^i.length) e;omega
def acN{size:Nat}(h:m.ownsRow a w size (.slice E b c) b t):∀f,E=some f->a<=f.block:=by
 rcases h.2 with⟨i,_⟩|⟨g,o,l,i,k,_⟩
 ·injection i with j;intro f d;rw[j] at d;cases d
 ·injection i with j;intro f d;rw[j] at d;injection d with d;subst d;exact k
def q46.ah1(h:ai:=by have d:(H.setCell (aB g k) (.int .i64 (T:Int))).cell? (aB g (k+1))=some (.int .i64 (limb a (k+1):Nat)):=(by rw[et.cellAt (k+1) Om,TY hr1 lS];simp);exact m58):=h
def q47.ah1(h:ai:=by have d:(wr.setCell (aB g k) (.int .i64 (T:Int))).cell? (aB g (k+1))=some (.int .i64 (limb a (k+1):Nat)):=(by rw[et.cellAt (k+1) Om,TY hr1 lS];simp);exact m58):=h
def abC(G A2:aS)(M c2:Nat)(a b:List Nat)(w:au)(h1:a.length<=10000000)(h2:b.length<=10000000)(C:uv G a.length M)(ca:Canon a)(cb:Canon b)(t:val b<=val a)(X:nz w G a)(W:nz w A2 b):
 Calls prog 212 #[.slice G a.length M,.slice A2 b.length c2] w fun e V=>∃A r c,uv A r.length c/\(∀N,A=some N->w.heap.size<=N.block)/\r.length<=10000001/\e= .returned (.slice A r.length c)/\bM r/\val r=val a - val b/\nz V A r/\Ext w V:=by
 have S1:=af X;have S2:=af W;have CA:=af ca;have CB:=af cb;have HL:=af t;have R:=af C;clear X W ca cb t C;go_enter func212,ntmps212;go_wp2_with (at_builtin;refine AC rfl (.const _) (.tmp 7) rh rfl w.heap.size jy _ 0 [] rfl (lJ _ _ _ _) G a.length M (dW a) rfl R.2 azM S1 (by intro u Z;simp [dW] at Z;obtain⟨x,_,rfl⟩:=Z;rfl) Om (aK _) ?_)
 intro v1 I f n _;have f:I.ownsRow w.heap.size tI 1 v1 a.length (dW a):=azG;have D:ah (Ext w I):=vX (aC w) n (aK _) (fun k hk=>by simp [Value.ownBlock] at hk);obtain⟨A,o,rfl,_,_,_⟩:=dZ f;by_cases h0:a.length=0
 ·have L:a= []:=lH h0;subst L;have U:=af (ya f);have Q:=af (acN f);clear f n h0;go_wp2;go_loop [6] (fun q=>q= .int .i64 0) (fun _=>0)
  rfl;subst hrel;go_wp2;go_ret;exact⟨A,[],o,U,Q,by simp,rfl,kJ,by simp,Sl.nil,D⟩
 ·obtain⟨g,rfl,hgb,_,_⟩:=Wm f Om;have P:ah (I.ownsRow w.heap.size tI 1 (aG g 0 a.length o) a.length (jX a [] 0 0)):=by rw[ah,ajz];exact f
  clear f n;go_wp2;go_loopw [6] (fun q wr=>∃(k c:Nat) (r:List Nat),k<=a.length/\q= .int .i64 k/\c<=1/\(k=a.length->c=0)/\r.length=k/\bM r/\ah (val r+val (b.take k)=val (a.take k)+B9^k*c)/\ah (wr.ownsRow w.heap.size tI 1 (aG g 0 a.length o) a.length (jX a r k c))/\ah (Ext w wr)) (fun q _=>a.length - (RowKit.intOf q).toNat);exact⟨0,0,[],aT _,rfl,by omega,by omega,rfl,kJ,by simp [ah],P,D⟩;obtain⟨k,c,r,hk,rfl,hc,J,hr,hd,HV,E,F⟩:=hrel;have HR:=af hr;have HD:=af hd;clear hr hd;by_cases y:k<a.length
  ·have ha:=CA.1.getD k;have hb:=CB.1.getD k;unfold B9 at ha hb;obtain⟨T,hT⟩:∃T,T+limb b k+c=limb a k+B9:=⟨limb a k+B9 - limb b k - c,by unfold B9;omega⟩;have hA:=acs HR HV hT;have j:=af hT;have bW:=F;clear hT;have i:=E.cellAt k Om;rw[TY HR.ae y] at i;have B:=E.frozenAt k;by_cases v:k<b.length
   ·obtain⟨g2,o2,rfl,_,d⟩:=(S2.ext F).at_ (mh v);rw[<-gP v] at d;have gZ:=af (E.stored k (.int .i64 ((limb a k:Int) - c - limb b k))).1.drew;have bW:ah (Ext w ((wr.setCell (aB g k) (.int .i64 ((limb a k:Int) - c - limb b k))).drew)):=(F.setCell (p:=aB g k) hgb _).drew;go_wp2;go_region
    clear i d B;generalize(wr.setCell (aB g k) (.int .i64 ((limb a k:Int) - c - limb b k))).drew=H at*;have m:H.cell? (aB g k)=some (.int .i64 ((limb a k:Int) - c - limb b k)):=by rw[gZ.cellAt k Om,JX (by rw[aaJ HR.ae Om];omega)]
    have z:=gZ.frozenAt k;by_cases s:((limb a k:Int) - c - limb b k)<0
    ·have yV:T/B9=0:=ay2;have RG:T%B9=T:=ay2;have kT:=hA Om;rw[yV,RG] at kT;have I_:T<1000000000:=azc;have Fx:((limb a k:Int) - c - limb b k)+1000000000=(T:Int):=azc;open q46 in exact ahs
    ·have yV:T/B9=1:=ay2;have kT:=hA Om;rw[yV] at kT;have I_:T%B9<1000000000:=fg _ Od;have Fx:((limb a k:Int) - c - limb b k)=((T%B9:Nat):Int):=ay2;have hr1:(r++ [T%B9]).length=k+1:=by simp [HR.ae]
     have et:ah (H.ownsRow w.heap.size tI 1 (aG g 0 a.length o) a.length (jX a (r++ [T%B9]) (k+1) 0)):=(by have:=gZ.ae;rw[Fx,TE HR.ae Om] at this;exact this);exact ahc
   ·have Y:=qJ (l:=b) (k:=k) Om;rw[Y] at j hb;have gZ:ah (wr.ownsRow w.heap.size tI 1 (aG g 0 a.length o) a.length ((jX a r k c).set k (.int .i64 ((limb a k:Int) - c)))):=by rw[ah,ajH HR.ae y];exact E
    clear Y i B;have m:wr.cell? (aB g k)=some (.int .i64 ((limb a k:Int) - c)):=by rw[gZ.cellAt k Om,JX (by rw[aaJ HR.ae Om];omega)]
    have z:=gZ.frozenAt k;by_cases s:((limb a k:Int) - c)<0
    ·have yV:T/B9=0:=ay2;have RG:T%B9=T:=ay2;have kT:=hA Om;rw[yV,RG] at kT;have I_:T<1000000000:=azc;have Fx:((limb a k:Int) - c)+1000000000=(T:Int):=azc;open q47 in exact ahs
    ·have yV:T/B9=1:=ay2;have kT:=hA Om;rw[yV] at kT;have I_:T%B9<1000000000:=fg _ Od;have Fx:((limb a k:Int) - c)=((T%B9:Nat):Int):=ay2;have hr1:(r++ [T%B9]).length=k+1:=by simp [HR.ae]
     have et:ah (wr.ownsRow w.heap.size tI 1 (aG g 0 a.length o) a.length (jX a (r++ [T%B9]) (k+1) 0)):=(by have:=gZ.ae;rw[Fx,TE HR.ae Om] at this;exact this);exact ahc
  ·obtain rfl:k=a.length:=Om;have K:=J rfl;subst K;have HE:=af (aeF CA CB HR HD HL HV);have et:=E.ae;rw[ajT Om] at et;have O:=af (wm et);have S:=af (ya et);go_wp2;go_ret;exact⟨cT g 0,r,o,by rw[HR.ae];exact S.ae,(fun N h=>by injection h with h;subst h;exact hgb),by rw[HR.ae];omega,by rw[HR.ae];rfl,HD,HE,O,F⟩
def bO.inv(h:bO m (.agg #[.bool R,.slice E a b]) B):R=decide (B<0)/\a=(a_ B.natAbs).length/\uv E a b/\nz m E (a_ B.natAbs):=by obtain⟨j,i,e,f,d⟩:=h;simp at e;obtain⟨rfl,rfl,rfl,rfl⟩:=e;exact⟨rfl,rfl,f,d⟩
structure fV(W:au)(g:Nat)(x0 x1 y0 y1 z0 z1:Value):Prop where
 a:ar W g bD [x0,x1]
 b:ar W (g+1) bD [y0,y1]
 r:ar W (g+1+1) bD [z0,z1]
def fV.new(w:au)(x0 x1 y0 y1 z0 z1:Value):fV (((w.alloc (Obj.cells #[x0,x1] bD)).alloc (Obj.cells #[y0,y1] bD)).alloc (Obj.cells #[z0,z1] bD)) w.heap.size x0 x1 y0 y1 z0 z1:=
 ⟨((mm w bD [x0,x1] _ rfl).alloc _).alloc _,(mm (w.alloc (Obj.cells #[x0,x1] bD)) bD [y0,y1] _ Ou).alloc _,mm ((w.alloc (Obj.cells #[x0,x1] bD)).alloc (Obj.cells #[y0,y1] bD)) bD [z0,z1] _ Ou⟩
section
variable{W W':au}{g:Nat}{x0 x1 y0 y1 z0 z1:Value}
theorem fV.ext(h:fV W g x0 x1 y0 y1 z0 z1)(c:Ext W W'):fV W' g x0 x1 y0 y1 z0 z1:=⟨h.a.ext c,h.b.ext c,h.r.ext c⟩
theorem fV.drew(h:fV W g x0 x1 y0 y1 z0 z1):fV W.drew g x0 x1 y0 y1 z0 z1:=⟨h.a,h.b,h.r⟩
theorem fV.drewN(h:fV W g x0 x1 y0 y1 z0 z1)(n:Nat):fV (W.drewN n) g x0 x1 y0 y1 z0 z1:=⟨h.a,h.b,h.r⟩
theorem fV.put(h:fV W g x0 x1 y0 y1 z0 z1)(u v:Value):fV ((W.setCell (aB (g+1+1) 0) u).setCell (aB (g+1+1) 1) v) g x0 x1 y0 y1 u v:=
 ⟨(h.a.far (p:=aB (g+1+1) 0) azP u).far (p:=aB (g+1+1) 1) azP v,(h.b.far (p:=aB (g+1+1) 0) azI u).far (p:=aB (g+1+1) 1) azI v,(h.r.bu 0 u).bu 1 v⟩
theorem fV.cells(h:fV W g x0 x1 y0 y1 z0 z1):ay W g 0 x0/\ay W g 1 x1/\ay W (g+1) 0 y0/\ay W (g+1) 1 y1:=
 ⟨h.a.aD 0,h.a.aD 1,h.b.aD 0,h.b.aD 1⟩
theorem fV.res(h:fV W g x0 x1 y0 y1 z0 z1):ay W (g+1+1) 0 z0/\ay W (g+1+1) 1 z1/\W.frozen? (aB (g+1+1) 0)=false/\W.frozen? (aB (g+1+1) 1)=false:=
 ⟨h.r.aD 0,h.r.aD 1,h.r.frozen 0,h.r.frozen 1⟩
end
def pO(w:au)(v:Value)(n:Nat):Prop:=∃A l c,v= .slice A l.length c/\uv A l.length c/\bM l/\nz w A l/\l.length<=100000000/\val l=n
def pO.parts(h:pO m p a):∃A b c,p= .slice A b c/\ah (pO m (.slice A b c) a):=by obtain⟨A,l,c,rfl,r⟩:=h;exact⟨A,_,c,rfl,⟨A,l,c,rfl,r⟩⟩
def pO.ext{w':au}{n:Nat}(h:pO m p n)(a:Ext m w'):pO w' p n:=by obtain⟨A,l,c,rfl,e,d,b,r⟩:=h;exact⟨A,l,c,rfl,e,d,b.ext a,r⟩
def D6(a:Bool)(s:Value)(n:Nat)(w:au)(h:pO w s n):
 Calls prog 157 #[.agg #[.bool a,s]] w fun e b=>∃d,e= .returned d/\bO b d (signed a n)/\Ext w b:=by
 obtain⟨A,l,c,rfl,k,j,f,i,rfl⟩:=h;exact UH _ a l w ⟨A,c,rfl,k,j,f⟩ i
def aoJ(q:bO m (.agg #[.bool R,.slice E a b]) B)(p:bO m (.agg #[.bool S,.slice F c d]) C)(v:eJ B)(u:eJ C):
 Calls prog 211 #[.slice E a b,.slice F c d] m fun e h=>∃i,e= .returned i/\pO h i (B.natAbs+C.natAbs)/\Ext m h:=by
 obtain⟨_,rfl,_,t⟩:=q.inv;obtain⟨_,rfl,_,s⟩:=p.inv;unfold eJ Fit at v u;refine(amO E F b d _ _ m Om Om (df _).1 (df _).1 t s).mono ?_;rintro e h ⟨A,r,f,o,z,rfl,n,k,l,j⟩;exact⟨_,rfl,⟨A,r,f,rfl,o,n,l,by omega,by rw[k,dm,dm]⟩,j⟩
def acw{w:au}{Aa Ab:aS}{ca cb:Nat}(i:bO w (.agg #[.bool R,.slice Aa a ca]) B)(f:bO w (.agg #[.bool S,.slice Ab b cb]) C)(k:eJ B)(j:eJ C)(hle:C.natAbs<=B.natAbs):
 Calls prog 212 #[.slice Aa a ca,.slice Ab b cb] w fun e w'=>∃d,e= .returned d/\pO w' d (B.natAbs - C.natAbs)/\Ext w w':=by
 obtain⟨_,rfl,jk,h1⟩:=i.inv;obtain⟨_,rfl,_,h2⟩:=f.inv;unfold eJ Fit at k j;exact m97
def adG(i:bO m (.agg #[.bool R,.slice E a b]) B)(h:bO m (.agg #[.bool S,.slice F c d]) C)(o:eJ B)(l:eJ C):
 Calls prog 161 #[.slice E a b,.slice F c d] m fun e f=>e= .returned (av (ew B.natAbs C.natAbs))/\∃n,f=m.drewN n:=by
 obtain⟨_,rfl,_,k⟩:=i.inv;obtain⟨_,rfl,_,j⟩:=h.inv;unfold eJ Fit at o l;have:=UJ E F b d _ _ m Om Om (df B.natAbs) (df C.natAbs) k j;rwa[dm,dm] at this
def q48.L1(h:ai:=by
 go_region_held3 (fun a=>ay a w.heap.size 0 (.bool ba)/\ay a w.heap.size 1 (.slice Aa na ca)/\ay a (w.heap.size+1) 0 (.bool bb)/\ay a (w.heap.size+1) 1 (.slice Ab nb cb)) (first|with_reducible exact⟨c0,c1,c2,c3⟩|with_reducible exact H0.ae.drew.cells|with_reducible exact(H0.ae.drew.ext c).cells|with_reducible exact i.ae.cells|with_reducible exact(i.ae.put _ _).cells)
  (first
    |(go_at_call 211;refine(aoJ (n.ext ay6) (B.ext ay6) H G).mono ?_;rintro e J ⟨L,rfl,j,c⟩;obtain⟨T,m1,F,rfl,m⟩:=j.parts)
    |(go_at_call 157;refine(D6 ba _ _ _ m).mono ?_;rintro e I ⟨K,rfl,f,d⟩;obtain⟨R,S,M,E,rfl,l⟩:=f.parts;have i:=af (H0.drew.ext (c.trans d));obtain⟨Q,P,O,N⟩:=i.res;clear f))
 go_wp2;refine ww rfl rfl rfl i.r l (bh.drew.trans (c.trans d)) Om (fun v W' u D=>⟨v,rfl,?_,D⟩);rw[n.inv.1,aaK k.ae] at u;exact u):=h
def amY(p o:Value)(x y:Int)(w:au)(t:bO w p x)(s:bO w o y)(A:eJ x)(z:eJ y)(b:decide (x<0)=decide (y<0)):
 Calls prog 156 #[p,o] w fun e a=>∃q,e= .returned q/\bO a q (x+y)/\Ext w a:=by
 obtain⟨ba,Aa,na,ca,rfl,n⟩:=t.parts;obtain⟨bb,Ab,nb,cb,rfl,B⟩:=s.parts;have C:(ba==bb)=true:=by rw[n.inv.1,B.inv.1,b];simp
 have k:=af b;have H:=af A;have G:=af z;clear t s A z b;go_enter func156,ntmps156;go_wp2_with fail
 open q48 in exact m13
def q51.ahU(h:ai:=by
 go_region_held3 (fun a=>ay a w.heap.size 0 (.bool ba)/\ay a w.heap.size 1 (.slice Aa na ca)/\ay a (w.heap.size+1) 0 (.bool bb)/\ay a (w.heap.size+1) 1 (.slice Ab nb cb)) (first|with_reducible exact⟨c0,c1,c2,c3⟩|with_reducible exact H0.ae.drew.cells|with_reducible exact(H0.ae.drew.ext b).cells|with_reducible exact f.ae.cells|with_reducible exact(f.ae.put _ _).cells)
  (first
    |(go_at_call 212;refine(acw (HA.ext ay6) (HB.ext ay6) FX FY zy).mono ?_;rintro e z ⟨B,rfl,i,b⟩;obtain⟨J,m1,t,rfl,k⟩:=i.parts)
    |(go_at_call 157;refine(D6 _ _ _ _ k).mono ?_;rintro e u ⟨A,rfl,d,c⟩;obtain⟨H,I,C,s,rfl,j⟩:=d.parts;have f:=af (H0.drew.ext (b.trans c));obtain⟨G,F,E,D⟩:=f.res;clear d))
 go_wp2;refine ww rfl rfl rfl f.r j (bh.drew.trans (b.trans c)) Om (fun v W' o q=>⟨v,rfl,?_,q⟩);rw[HA.inv.1,OA MU.ae zy.ae] at o;exact o):=h
def q50.L1(h:ai:=by refine(adG (HA.ext bh) (HB.ext bh) FX FY).mono ?_;rintro e a ⟨rfl,nn,rfl⟩;have p:decide ((0:Int)<=ew x.natAbs y.natAbs)=true:=(by unfold ew;rw[if_neg Om];split<;>rfl);open q51 in exact ahj):=h
def q49.ahO(h:ai:=by open q50 in exact m13):=h
def aqC(m l:Value)(x y:Int)(w:au)(ha:bO w m x)(hb:bO w l y)(fx:eJ x)(fy:eJ y)(wQ:decide (x<0)≠decide (y<0))(hle:y.natAbs<=x.natAbs):
 Calls prog 156 #[m,l] w fun e a=>∃n,e= .returned n/\bO a n (x+y)/\Ext w a:=by
 open q49 in exact ag9
def q54.ahU(h:ai:=by
 go_region_held3 (fun a=>ay a w.heap.size 0 (.bool ba)/\ay a w.heap.size 1 (.slice Aa na ca)/\ay a (w.heap.size+1) 0 (.bool bb)/\ay a (w.heap.size+1) 1 (.slice Ab nb cb)) (first|with_reducible exact⟨c0,c1,c2,c3⟩|with_reducible exact H0.ae.drew.cells|with_reducible exact(H0.ae.drew.ext b).cells|with_reducible exact f.ae.cells|with_reducible exact(f.ae.put _ _).cells)
  (first
    |(go_at_call 212;refine(acw (HB.ext ay6) (HA.ext ay6) FY FX (qI zy)).mono ?_;rintro e z ⟨B,rfl,i,b⟩;obtain⟨J,m1,t,rfl,k⟩:=i.parts)
    |(go_at_call 157;refine(D6 _ _ _ _ k).mono ?_;rintro e u ⟨A,rfl,d,c⟩;obtain⟨H,I,C,s,rfl,j⟩:=d.parts;have f:=af (H0.drew.ext (b.trans c));obtain⟨G,F,E,D⟩:=f.res;clear d))
 go_wp2;refine ww rfl rfl rfl f.r j (bh.drew.trans (b.trans c)) Om (fun v W' o q=>⟨v,rfl,?_,q⟩);rw[HB.inv.1,OA (fM MU) (qI zy),TS] at o;exact o):=h
def q53.L1(h:ai:=by refine(adG (HA.ext bh) (HB.ext bh) FX FY).mono ?_;rintro e a ⟨rfl,nn,rfl⟩;have p:decide ((0:Int)<=ew x.natAbs y.natAbs)=false:=(by unfold ew;rw[if_pos hle];rfl);open q54 in exact ahj):=h
def q52.ahO(h:ai:=by open q53 in exact m13):=h
def aqB(m l:Value)(x y:Int)(w:au)(ha:bO w m x)(hb:bO w l y)(fx:eJ x)(fy:eJ y)(wQ:decide (x<0)≠decide (y<0))(hle:x.natAbs<y.natAbs):
 Calls prog 156 #[m,l] w fun e a=>∃n,e= .returned n/\bO a n (x+y)/\Ext w a:=by
 open q52 in exact ag9
def adJ(c b:Value)(x y:Int)(w:au)(f:bO w c x)(d:bO w b y)(j:eJ x)(i:eJ y):
 Calls prog 156 #[c,b] w fun e k=>∃l,e= .returned l/\bO k l (x+y)/\Ext w k:=by
 by_cases a:decide (x<0)=decide (y<0)
 ·exact amY c b x y w f d j i a
 ·rcases cA x.natAbs y.natAbs with h|h
  ·exact aqB c b x y w f d j i a h
  ·exact aqC c b x y w f d j i a h
def aeC{n:Nat}:decide (0<(a_ n).length)=decide (0<n):=by exact agS
def aoK(v:Value)(z:Int)(w:au)(h:bO w v z)(r:eJ z):
 Calls prog 159 #[v] w fun e l=>∃m,e= .returned m/\bO l m (-z)/\Ext w l:=by
 obtain⟨A,c,rfl,q,o⟩:=h;have HS:=af o;have t:=af q;have j:=aeC (n:=z.natAbs);unfold eJ Fit at r;have HN:ah (∀b n,b=decide (-z<0)->n=(a_ z.natAbs).length->∀W,nz W A (a_ z.natAbs)->bO W (.agg #[.bool b,.slice A n c]) (-z)):=by
  intro b n s a W hW;refine⟨A,c,?_,?_,?_⟩<;>rw[Tx]
  ·rw[s,a]
  ·exact t
  ·exact hW
 clear o q;generalize a:(a_ z.natAbs).length=n at*;rcases G_ z 0 with i|i
 ·have d:decide (z<0)=true:=decide_eq_true i;have HD:ah (false=decide (-z<0)):=(decide_eq_false Om).symm;rw[d];clear d i j;have f:=af a;clear a;exact m45
 ·have d:decide (z<0)=false:=aW;have HD:ah (decide (0<n)=decide (-z<0)):=by rw[ah,j];congr 1;apply propext;omega
  rw[d];clear d i j;have f:=af a;clear a;rcases i7 n with rfl|k
  ·have _h:=f;exact m45
  ·have HD:ah (true=decide (-z<0)):=by rw[ah,<-HD.ae,decide_eq_true k]
   go_enter func159,ntmps159;go_upto_region 1 with fail
   refine fX fun W HX HB HR=> ?_;obtain⟨k0,k1⟩:=HB.two;have f0:=HB.frozen 0;have eE:=af (HB.bu 0 (.bool true));have f4:=af (HR.far (p:=aB w.heap.size 0) (fM (u_ _)) (.bool true));have aY:=af (HX.setCell (p:=aB w.heap.size 0) (aK _) (.bool true));obtain⟨b0,b1⟩:=eE.two;obtain⟨r0,r1⟩:=f4.two;have ZG:=f4.frozen 0;have ZF:=f4.frozen 1;have HV:=af (HN true _ HD rfl _ (HS.ext aY));go_wp2;exact ww rfl rfl rfl f4.ae HV aY (l9 _) (fun v W' h1 h2=>⟨v,rfl,h1,h2⟩)
def q56.L1(h:ai:=by
 go_region_held3 (fun b=>ay b w.heap.size 0 (.bool ba)/\ay b w.heap.size 1 (.slice Aa na ca)/\ay b (w.heap.size+1) 0 (.bool bb)/\ay b (w.heap.size+1) 1 (.slice Ab nb cb)) (first|with_reducible exact⟨c0,c1,c2,c3⟩|with_reducible exact H0.ae.drew.cells|with_reducible exact(H0.ae.drew.ext a).cells|with_reducible exact f.ae.cells|with_reducible exact(f.ae.put _ _).cells)
  (first
    |(go_at_call 159;refine(aoK _ y _ (HB.ext ay6) FY).mono ?_;rintro e z ⟨B,rfl,i,a⟩;obtain⟨I,K,m1,s,rfl,k⟩:=i.parts)
    |(go_at_call 156;refine(adJ _ _ x (-y) _ (HA.ext (by exact bh.drew.trans a)) k FX t).mono ?_;rintro e u ⟨A,rfl,d,c⟩;obtain⟨H,J,C,q,rfl,j⟩:=d.parts;have f:=af (H0.drew.ext (a.trans c));obtain⟨G,F,E,D⟩:=f.res;clear d))
 go_wp2;refine ww rfl rfl rfl f.r j (bh.drew.trans (a.trans c)) Om (fun v W' p o=>⟨v,rfl,?_,o⟩);rw[aaz];exact p):=h
def q55.yx(h:ai:=by
 have t:ah (eJ (-y)):=by unfold ah eJ at*;rwa[Tx]
 clear ha hb fx fy;go_enter func216,ntmps216;go_wp2_with fail;open q56 in exact m13):=h
def aoI(m l:Value)(x y:Int)(w:au)(ha:bO w m x)(hb:bO w l y)(fx:eJ x)(fy:eJ y):
 Calls prog 216 #[m,l] w fun e b=>∃n,e= .returned n/\bO b n (x - y)/\Ext w b:=by
 open q55 in exact yu
def alD{b:List Nat}{k:Nat}(d:b.length<=k)(e:j.length=a+b.length)(c:val j=val (l.take a)*val b)
 (h:val i+B9^(a+k)*0=val (j.take (a+k))+B9^a*(limb l a*val (b.take k))):val i=val (l.take (a+1))*val b:=by
 rw[dA Om,dA d,c,Ay,jK] at h;rw[h,jv l a,k9,gF]
def anD(m1 m2 n:Nat)(e:n=m1+m2+1)(h:n<=1000000000)(w:au):
 (Instr.makeSlice rh (av ((m1:Int)+m2+1)) (av ((m1:Int)+m2+1))).run prog w= .ok (aG w.heap.size 0 n n) (w.alloc (.cells (dW (pad [] n)).toArray tI)):=by
 obtain⟨f,i,c,b,a⟩:=info_parts Vs;have j:((m1:Int)+m2+1)=(n:Int):=Om;rw[j];have d:=run_make (P:=prog) w rh tI f (av 0) underlying22 i c .i64 .i64 (n:Int) (n:Int) Om (AB _) azC Om;simp only[kF,b,l8,Value.cells,Ai] at d;rw[d,KQ,dW,zW];rfl
def Vx{g i:Nat}(h:ar m g tI (dW j))(a:i<j.length):ay m g i (av (limb j i:Nat)):=
 h.cell (by rw[mh a,gP a])
def ac4{g i x:Nat}{z:Int}(h:ar m g tI (dW j))(a:z=x):ar (m.setCell (aB g i) (av z)) g tI (dW (j.set i x)):=by have:=h.bu i (av z);rw[dW,G8,<-dW,<-a];exact this
def asv{P:World->Prop}{x0 x1 y0 y1 z0 z1:Value}(h:∀W,ah (Ext m W)->ah (fV W m.heap.size x0 x1 y0 y1 z0 z1)->ah (ar W (m.heap.size+1+1+1) w t)->P W):
 P ((((m.alloc (.cells #[x0,x1] bD)).alloc (.cells #[y0,y1] bD)).alloc (.cells #[z0,z1] bD)).alloc (.cells t.toArray w)):=
 h _ (((((aC m).alloc _).alloc _).alloc _).alloc _) ((fV.new m x0 x1 y0 y1 z0 z1).ext ((aC _).alloc _)) (mm (((m.alloc (.cells #[x0,x1] bD)).alloc (.cells #[y0,y1] bD)).alloc (.cells #[z0,z1] bD)) w t _ Ou)
def fV.setRow{W:au}{g:Nat}{x0 x1 y0 y1 z0 z1:Value}(h:fV W g x0 x1 y0 y1 z0 z1)(i:Nat)(u:Value):fV (W.setCell (aB (g+1+1+1) i) u) g x0 x1 y0 y1 z0 z1:=
 ⟨h.a.far (p:=aB (g+1+1+1) i) (by show g≠g+1+1+1;omega) u,h.b.far (p:=aB (g+1+1+1) i) (by show g+1≠g+1+1+1;omega) u,h.r.far (p:=aB (g+1+1+1) i) (by show g+1+1≠g+1+1+1;omega) u⟩
def q57.ahR(h:ai:=by
 go_roundw
 ·refine⟨k+1,q,p++ [d],by omega,by omega,by go_num,by first|rfl|exact congrArg _ I|exact congrArg _ Om,Ma,?_,om,HA,?_,o.setRow _ _,j.setCell (p:=aB (w.heap.size+1+1+1) (i+k)) (by show w.heap.size<=w.heap.size+1+1+1;omega) _⟩
  ·rw[bC,HP.ae];rfl
  ·have Z:i+(k+1)=i+k+1:=Om;rw[ah,Z,iB];exact Gr
 simp [RowKit.intOf];omega):=h
def q58.ahR(h:ai:=by
 go_roundw
 ·refine⟨k+1,q,p++ [d],by omega,(fun _=>Nf.ae),by go_num,by first|rfl|exact congrArg _ I|exact congrArg _ Om,Ma,?_,om,HA,?_,o.setRow _ _,j.setCell (p:=aB (w.heap.size+1+1+1) (i+k)) (by show w.heap.size<=w.heap.size+1+1+1;omega) _⟩
  ·rw[bC,HP.ae];rfl
  ·have Z:i+(k+1)=i+k+1:=Om;rw[ah,Z,iB];exact Gr
 simp [RowKit.intOf];omega):=h
def AO(va vb:Value)(x y:Int)(w:au)(ha:bO w va x)(hb:bO w vb y)(fx:eJ x)(fy:eJ y):
 Calls prog 91 #[va,vb] w fun e w'=>∃v',e= .returned v'/\bO w' v' (x*y)/\Ext w w':=by
 obtain⟨Aa,ca,rfl,o7,sa⟩:=ha;obtain⟨Ab,cb,rfl,hcb,sb⟩:=hb;have S1:=af sa;have S2:=af sb;have CA:=af (df x.natAbs);have CB:=af (df y.natAbs);have VA:=af (dm x.natAbs);have VB:=af (dm y.natAbs);have HS:=af (abS x y);unfold eJ Fit at fx fy;generalize a_ x.natAbs=a at*;generalize a_ y.natAbs=b at*;generalize decide (x<0)=na at*;generalize decide (y<0)=nb at*;obtain⟨N,hN⟩:∃N,N=a.length+b.length+1:=⟨_,rfl⟩;have lR:=anD a.length b.length N hN Om;have n:=af hN;clear sa sb o7 hcb hN;go_enter func91,ntmps91;go_wp2_with fail
 clear lR;refine asv fun W HX HM HB=> ?_;go_loopw [6,7,8] (fun v6 _ _ wr=>∃(i:Nat) (r:List Nat),i<=a.length/\v6=av i/\r.length=i+b.length/\bM r/\ah (val r=val (a.take i)*val b)/\ah (ar wr (w.heap.size+1+1+1) tI (dW (pad r N)))/\ah (fV wr w.heap.size (.bool na) (.slice Aa a.length ca) (.bool nb) (.slice Ab b.length cb) (.bool false) (.slice none 0 0))/\ah (Ext w wr)) (fun v6 _ _ _=>a.length - (RowKit.intOf v6).toNat);exact⟨0,List.replicate b.length 0,aT _,rfl,by simp,azF,by rw[ah,D1 (by intro x s;exact(sU.1 s).2)];simp,by rw[ah,acL _ _ az3];exact HB.ae,HM,HX⟩;obtain⟨i,r,hi,rfl,hr,hd,HV,nH,M,bW⟩:=hrel;have E:=af hr;have HD:=af hd;clear hr hd;obtain⟨c0,c1,c2,c3⟩:=M.cells;by_cases J:i<a.length
 ·obtain⟨g1,o1,rfl,_,D⟩:=S1.at_ (mh J);have hg1:ah (∀W',Ext w W'->W'.cell? (aB g1 (o1+i))=some (av (limb a i:Nat))):=(by intro W' jp;obtain⟨g',o',e,_,hc⟩:=(S1.ext jp).at_ (mh J);injection e with e;injection e with Z e2;subst Z e2;rw[hc,gP J])
  have R:=CA.1.getD i;have R8:=af R;unfold B9 at R;clear D;go_wp2_with fail
  clear c0 c1 c2 c3;obtain⟨wo,rfl⟩:∃wo:World,wo=wr:=⟨_,rfl⟩;go_loopw [7,8] (fun v7 v8 ws=>∃(k c:Nat) (p:List Nat),k<=b.length+1/\(k=b.length+1->c=0)/\v8=av k/\v7=av c/\c<1000000000/\p.length=i+k/\bM p/\ah (val p+B9^(i+k)*c=val (r.take (i+k))+B9^i*(limb a i*val (b.take k)))/\ah (ar ws (w.heap.size+1+1+1) tI (dW (p++(pad r N).drop (i+k))))/\ah (fV ws w.heap.size (.bool na) (aG g1 o1 a.length ca) (.bool nb) (.slice Ab b.length cb) (.bool false) (.slice none 0 0))/\ah (Ext w ws)) (fun _ v8 _=>b.length+1 - (RowKit.intOf v8).toNat)
  ·refine⟨0,0,(pad r N).take i,by omega,by omega,rfl,rfl,by omega,?_,?_,?_,?_,M,bW⟩
   ·rw[cP,uI azu];have:=n.ae;omega
   ·refine bM.take ?_ i;exact HD.append azF
   ·have:(pad r N).take i=r.take i:=(by rw[pad,N1 aAu]);simp [this,ah]
   ·simpa [ah] using nH.ae
  obtain⟨k,c,p,hk,nu,rfl,rfl,hc,hp,Y,K,eE,o,j⟩:=hrel;have HP:=af hp;have HDP:=af Y;clear hp Y;obtain⟨c0,c1,c2,c3⟩:=o.cells;have X:=eE.frozen (i+k);have S:=hg1 wr j;by_cases U:k<b.length
  ·obtain⟨g2,o2,rfl,_,m⟩:=(S2.ext j).at_ (mh U);rw[<-gP U] at m;have hly:=CB.1.getD k;have hlz:=HD.getD (i+k);have wQ:=Hc R8 (CB.1.getD k);unfold B9 at hly hlz;have HQ:ah ((pad r N).drop (i+k)=limb r (i+k)::(pad r N).drop (i+k+1)):=by rw[ah,Kz _ _ (by rw[uI azu];have:=n.ae;omega),Pq]
   obtain⟨t,H⟩:∃t,t=limb r (i+k)+limb a i*limb b k+c:=⟨_,rfl⟩;have HA:=af (UR HP K rfl H);have tS:t<=999999999999999999:=Om;have B:ah ((c:Int)+(limb r (i+k):Int)+(limb a i:Int)*(limb b k:Int)=t):=by rw[ah,H,Tv,Tv,mM];omega
   have f:wr.cell? (aB (w.heap.size+1+1+1) (i+k))=some (av (limb r (i+k):Nat)):=(by exact agx);have hxi:(limb a i:Int)*(limb b k:Int)<=999999998000000001:=azj;have auR:0<=(limb a i:Int)*(limb b k:Int):=GV Om Om;have V:i+k<N:=az3;clear H wQ;generalize limb a i=P at*;generalize limb b k=O at*;generalize limb r (i+k)=Q at*;have ve:IntKind.i64.wrap ((P:Int)*(O:Int))=(P:Int)*(O:Int):=GU _ Om;have hw2:IntKind.i64.wrap ((c:Int)+(Q:Int)+(P:Int)*(O:Int))=(c:Int)+(Q:Int)+(P:Int)*(O:Int):=GU _ Om;go_wp2;go_quiet (fail);clear ve hw2 S m f c0 c1 c2 c3 X;have eE:ah (ar (wr.drewN nq) (w.heap.size+1+1+1) tI (dW (p++(pad r N).drop (i+k)))):=eE.drewN nq;have o:ah (fV (wr.drewN nq) w.heap.size (.bool na) (aG g1 o1 a.length ca) (.bool nb) (aG g2 o2 b.length cb) (.bool false) (.slice none 0 0)):=o.drewN nq;have j:ah (Ext w (wr.drewN nq)):=j.drewN nq;generalize wr.drewN nq=wr at*;have X:=eE.frozen (i+k);have f:wr.cell? (aB (w.heap.size+1+1+1) (i+k))=some (av (Q:Int)):=(by exact agx)
   have dD:((c:Int)+Q+P*O)%1000000000=((t%B9:Nat):Int):=azD;have I:((c:Int)+Q+P*O)/1000000000=((t/B9:Nat):Int):=azD;open q57 in exact ahe
  ·have C:limb r (i+k)=0:=qJ aAu;have u:limb b k=0:=qJ Om;by_cases hc0:0<c
   ·have HQ:ah ((pad r N).drop (i+k)=0::(pad r N).drop (i+k+1)):=by rw[ah,Kz _ _ (by rw[uI azu];have:=n.ae;omega),Pq,C]
    obtain⟨t,H⟩:∃t,t=limb r (i+k)+limb a i*limb b k+c:=⟨_,rfl⟩;have HA:=af (UR HP K rfl H);rw[C,u,Ay,jK,jc] at H;subst H;have B:ah ((t:Int)=t):=rfl;have tS:t<=999999999999999999:=Om;have Nf:ah (t/B9=0):=by unfold ah B9;omega
    have f:wr.cell? (aB (w.heap.size+1+1+1) (i+k))=some (av 0):=(by have:=Vx (i:=i+k) eE (by rw[HQ.ae,bC,HP.ae,cW];omega);rw[this,HQ.ae,D_ _ _ _ _ HP.ae];rfl);have V:i+k<N:=az3;clear C u S;have dD:(t:Int)%1000000000=((t%B9:Nat):Int):=azD;have I:(t:Int)/1000000000=((t/B9:Nat):Int):=azD;open q58 in exact ahe
   ·obtain rfl:c=0:=Om;have HE:ah (∃q:List Nat,q.length=i+1+b.length/\bM q/\val q=val (a.take (i+1))*val b/\p++(pad r N).drop (i+k)=pad q N):=by
     have hv:=alD (k:=k) Om E HV K;have A:(pad r N).drop (i+k)=List.replicate (N - (i+k)) 0:=(by rw[pad,Tp,qD aAu,aat,E.ae,vR];congr 1;have:=n.ae;omega)
     rcases cA b.length k with h|h
     ·refine⟨p,by rw[HP.ae];omega,HDP,hv,?_⟩;rw[A,pad,HP.ae]
     ·have hkb':k=b.length:=Om;refine⟨p++ [0],by rw[bC,HP.ae];simp;omega,HDP.snoc Od,by rw[pH,Ay,jK];exact hv,?_⟩;have Zv:N - (i+k)=(N - (i+k+1))+1:=az3;rw[A,Zv,List.replicate_succ,pad,bC,HP.ae,iB];rfl
    clear C u;go_wp2;go_roundw
    ·obtain⟨q,h1,h2,h3,h4⟩:=HE.ae;have h5:=eE.ae;rw[h4] at h5;exact⟨i+1,q,by omega,by go_num,h1,h2,h3,h5,o,j⟩
    simp [RowKit.intOf];omega
 ·obtain rfl:i=a.length:=Om;have HE:ah (val r=x.natAbs*y.natAbs):=by rw[ah,HV.ae,dA (aK _),VA.ae,VB.ae]
  have zo:=af (nH.sl 0);rw[mO] at zo;have T:(pad r N).length=N:=uI azu;have L:=af T;clear T;have Nq:ah (pO wr (aG (w.heap.size+1+1+1) 0 N N) (x.natAbs*y.natAbs)):=by
   refine⟨_,pad r N,N,by rw[L.ae],⟨by rw[L.ae];exact aK _,fun h=>by cases h⟩,?_,zo,by rw[L.ae];have:=n.ae;omega,?_⟩
   ·exact HD.append azF
   ·rw[pad,Hh,D1 (l:=List.replicate _ 0) (by intro x s;exact(sU.1 s).2),HE.ae];rfl
  go_wp2_with fail
  refine(D6 (na !=nb) _ _ wr Nq).mono ?_;rintro e w2 ⟨v2,rfl,G,F⟩;rw[HS.ae] at G;obtain⟨b2,A2,n2,c2',rfl,pd⟩:=G.parts;have mI:=af (M.ext F);have bZ:=af (bW.trans F);obtain⟨k0,k1,k2,k3⟩:=mI.res;clear G F;go_wp2;exact ww rfl rfl rfl mI.r pd bZ Om (fun v W' h1 h2=>⟨v,rfl,h1,h2⟩)
def iU(w:au)(v:Value)(n:Nat):Prop:=∃A c,v= .slice A (a_ n).length c/\uv A (a_ n).length c/\nz w A (a_ n)
def iU.ext{w':au}{n:Nat}(h:iU m p n)(a:Ext m w'):iU w' p n:=by obtain⟨A,c,rfl,d,b⟩:=h;exact⟨A,c,rfl,d,b.ext a⟩
def iU.parts(h:iU m p a):∃A b c,p= .slice A b c/\b=(a_ a).length/\ah (iU m (.slice A b c) a):=by obtain⟨A,c,rfl,r⟩:=h;exact⟨A,_,c,rfl,rfl,⟨A,c,rfl,r⟩⟩
def bO.nat(h:bO m (.agg #[.bool R,.slice E a b]) B):iU m (.slice E a b) B.natAbs:=by obtain⟨_,rfl,e,d⟩:=h.inv;exact⟨E,b,rfl,e,d⟩
def iU.limbs(h:iU m p a)(d:Fit a):pO m p a:=by obtain⟨A,c,rfl,e,b⟩:=h;unfold Fit at d;exact⟨A,a_ a,c,rfl,e,(df a).1,b,by omega,dm a⟩
def iU.nil(w:au):iU w (.slice none 0 0) 0:=⟨none,0,rfl,⟨aK _,fun _=>rfl⟩,Sl.nil⟩
def V6(b:Bool)(A:aS)(n c:Nat):∀w:World,(Instr.field bD (.agg #[.bool b,.slice A n c]) 1).run prog w= .ok (.slice A n c) w:=fun _=>by kernel_rfl
def akl(f:i.length=a)(h:val i+B9^a*b=val (j.take a)*c)(e:d=b+limb j a*c):
 val (i++ [d%B9])+B9^(a+1)*(d/B9)=val (j.take (a+1))*c:=by
 rw[pH,f,jv j a,fJ,gF,DR,<-gO,J6,e,gO,k9,<-h];rw[gF];omega
def acv(f:iU m p a)(d:iU m q b)(k:Fit a)(j:Fit b):
 Calls prog 161 #[p,q] m fun e c=>e= .returned (av (ew a b))/\∃n,c=m.drewN n:=by
 obtain⟨s,o,rfl,_,i⟩:=f;obtain⟨r,l,rfl,_,h⟩:=d;unfold Fit at k j;have:=UJ s r o l _ _ m Om Om (df a) (df b) i h;rwa[dm,dm] at this
def aw8{w:au}(i:iU w p a)(f:iU w q b)(k:Fit a)(j:Fit b)(hle:b<=a):
 Calls prog 212 #[p,q] w fun e w'=>∃d,e= .returned d/\pO w' d (a - b)/\Ext w w':=by
 obtain⟨Aa,ca,rfl,jk,h1⟩:=i;obtain⟨Ab,cb,rfl,_,h2⟩:=f;unfold Fit at k j;exact m97
def q59.k67(h:ai:=by go_roundw;exact⟨k+1,q,r++ [p],by omega,by omega,by go_num,by first|rfl|exact congrArg _ j|exact congrArg _ Om,Ma,by simp [y.ae],om,R,gL,bZ⟩;simp [RowKit.intOf];omega):=h
def q60.k67(h:ai:=by go_roundw;exact⟨k+1,q,r++ [p],by omega,(fun _=>H.ae),by go_num,by first|rfl|exact congrArg _ j|exact congrArg _ Om,Ma,by simp [y.ae],om,R,gL,bZ⟩;simp [RowKit.intOf];omega):=h
def abz(K:Value)(i n:Nat)(w:au)(ha:iU w K i)(hf:Fit i)(X:n<1000000000):
 Calls prog 213 #[K,av n] w fun e J=>∃v',e= .returned v'/\iU J v' (i*n)/\Ext w J:=by
 obtain⟨A1,c1,rfl,_,L⟩:=ha;have S1:=af L;have CA:=af (df i);have VA:=af (dm i);unfold Fit at hf;generalize a_ i=a at*;clear L;go_enter func213,ntmps213;go_wp2;go_loopw [5,6,7] (fun T S z wr=>∃(k c:Nat) (r:List Nat),k<=a.length+1/\(k=a.length+1->c=0)/\z=av k/\S=av c/\c<1000000000/\r.length=k/\bM r/\ah (val r+B9^k*c=val (a.take k)*n)/\ah (wr.ownsRow w.heap.size tI 1 T k (dW r))/\ah (Ext w wr)) (fun _ _ z _=>a.length+1 - (RowKit.intOf z).toNat)
 exact⟨0,0,[],aT _,by omega,rfl,rfl,by omega,rfl,kJ,by simp [ah],lJ _ _ _ _,aC w⟩;obtain⟨k,c,r,hk,Y,rfl,rfl,hc,N,O,Q,HO,HX⟩:=hrel;have y:=af N;have HD:=af O;clear N O;obtain⟨t,f⟩:∃t,t=c+limb a k*n:=⟨_,rfl⟩;have R:=af (akl y Q f);by_cases u:k<a.length
 ·obtain⟨g1,o1,rfl,_,d⟩:=(S1.ext HX).at_ (mh u);rw[<-gP u] at d;have m:=CA.1.getD k;have C:=Hc m (show n<B9 from X);have V:(limb a k:Int)*(n:Int)<=999999998000000001:=azj;have M:0<=(limb a k:Int)*(n:Int):=GV Om Om;have b:ah ((c:Int)+(limb a k:Int)*(n:Int)=t):=by rw[ah,f,Tv,mM]
  have E:t<=999999999999999999:=Om;unfold B9 at m;clear f C;generalize limb a k=x at*;have dD:((c:Int)+x*n)%1000000000=((t%B9:Nat):Int):=azB;have j:((c:Int)+x*n)/1000000000=((t/B9:Nat):Int):=azB;open q59 in exact m67
 ·have B:=qJ (l:=a) (k:=k) Om;rw[B,Kc,jK] at f;by_cases hc0:0<c
  ·have b:ah ((c:Int)=t):=by rw[ah,f]
   have H:ah (t/B9=0):=by rw[f];unfold ah B9;omega
   have E:t<=999999999999999999:=Om;clear f B;have dD:(c:Int)%1000000000=((t%B9:Nat):Int):=azB;have j:(c:Int)/1000000000=((t/B9:Nat):Int):=azB;open q60 in exact m67
  ·obtain rfl:c=0:=Om;have HE:ah (val r=i*n):=(by have:=Q.ae;rw[dA Om,VA.ae] at this;rw[ah];omega)
   obtain⟨A,P,rfl,hc',_,s⟩:=dZ HO;have I:ah (pO wr (.slice A k P) (i*n)):=(by have e:=y.ae;subst e;exact⟨A,r,P,rfl,ya HO,HD,s,by omega,HE⟩)
   clear s f B;go_wp2_with fail;refine(D6 false _ _ wr I).mono ?_;rintro e w2 ⟨v2,rfl,o,D⟩;obtain⟨b2,A2,U,F,rfl,G⟩:=o.parts;have v:=af G.nat;rw[GW] at v;clear o;have Z:=V6 b2 A2 U F;go_wp2;go_ret;exact⟨_,rfl,v,HX.trans D⟩
def asu{P:World->Prop}{b a d0 d1:Value}(h:∀W,ah (Ext m W)->ah (ar W m.heap.size bD [p,q])->ah (ar W (m.heap.size+1) bD [r,s])->ah (ar W (m.heap.size+1+1) bD [b,a])->ah (ar W (m.heap.size+1+1+1) bD [d0,d1])->ah (ar W (m.heap.size+1+1+1+1) w t)->P W):
 P (((((m.alloc (.cells #[p,q] bD)).alloc (.cells #[r,s] bD)).alloc (.cells #[b,a] bD)).alloc (.cells #[d0,d1] bD)).alloc (.cells t.toArray w)):=by
 have d:∀W,ar W m.heap.size bD [p,q]/\ar W (m.heap.size+1) bD [r,s]/\ar W (m.heap.size+1+1) bD [b,a]->∀o,ar (W.alloc o) m.heap.size bD [p,q]/\ar (W.alloc o) (m.heap.size+1) bD [r,s]/\ar (W.alloc o) (m.heap.size+1+1) bD [b,a]:=fun W hW o=>⟨hW.1.alloc o,hW.2.1.alloc o,hW.2.2.alloc o⟩;have e:ar (((m.alloc (.cells #[p,q] bD)).alloc (.cells #[r,s] bD)).alloc (.cells #[b,a] bD)) m.heap.size bD [p,q]/\ar (((m.alloc (.cells #[p,q] bD)).alloc (.cells #[r,s] bD)).alloc (.cells #[b,a] bD)) (m.heap.size+1) bD [r,s]/\ar (((m.alloc (.cells #[p,q] bD)).alloc (.cells #[r,s] bD)).alloc (.cells #[b,a] bD)) (m.heap.size+1+1) bD [b,a]:=
  ⟨((kq m bD [p,q]).alloc _).alloc _,(mm (m.alloc (.cells #[p,q] bD)) bD [r,s] _ Ou).alloc _,mm ((m.alloc (.cells #[p,q] bD)).alloc (.cells #[r,s] bD)) bD [b,a] _ Ou⟩
 have c:=d _ (d _ e (.cells #[d0,d1] bD)) (.cells t.toArray w);refine h _ ((((((aC m).alloc _).alloc _).alloc _).alloc _).alloc _) c.1 c.2.1 c.2.2 ?_ ?_
 ·exact(mm (((m.alloc (.cells #[p,q] bD)).alloc (.cells #[r,s] bD)).alloc (.cells #[b,a] bD)) bD [d0,d1] _ Ou).alloc _
 ·exact mm ((((m.alloc (.cells #[p,q] bD)).alloc (.cells #[r,s] bD)).alloc (.cells #[b,a] bD)).alloc (.cells #[d0,d1] bD)) w t _ Ou
def anE(n:Nat)(h:n<=1000000000)(w:au):
 (Instr.makeSlice rh (av (n:Int)) (av (n:Int))).run prog w= .ok (aG w.heap.size 0 n n) (w.alloc (.cells (dW (List.replicate n 0)).toArray tI)):=by
 obtain⟨e,f,c,b,a⟩:=info_parts Vs;have d:=run_make (P:=prog) w rh tI e (av 0) underlying22 f c .i64 .i64 (n:Int) (n:Int) Om (AB _) azC Om;simp only[kF,b,l8,Value.cells,Ai] at d;rw[d,dW,zW];rfl
def ar.below{W wr:au}{g:Nat}(h:ar W g w t)(c:Below a W wr)(b:g<a):ar wr g w t:=(c.block g b).trans h
def aqI(w:au)(e:TypeId)(u:Value)(a:Nat)(b:a<=w.heap.size):(w.alloc (.cells #[u] e)).ownsRow a e 1 (aG w.heap.size 0 1 1) 1 [u]:=
 ⟨rfl,.inr ⟨w.heap.size,1,#[u],rfl,b,heap_alloc_new w _,aK _,by unfold maxLen;omega,rfl,rfl⟩⟩
def qZ(w:au)(B:Nat)(v:Value)(n:Nat):Prop:=∃A m c,v= .slice A m c/\iU w (.slice A m c) n/\∀a,A=some a->B<=a.block
def qZ.nil(w:au)(B:Nat):qZ w B (.slice none 0 0) 0:=⟨none,0,0,rfl,iU.nil w,fun _ h=>by cases h⟩
def qZ.ext{w':au}{n:Nat}(h:qZ m a p n)(d:Ext m w'):qZ w' a p n:=by obtain⟨A,b,c,rfl,f,e⟩:=h;exact⟨A,b,c,rfl,f.ext d,e⟩
def qZ.far(h:qZ m a q b){p:Addr}(G:p.block<a)(u:Value):qZ (m.setCell p u) a q b:=by obtain⟨A,d,c,rfl,⟨I,H,e,x,t⟩,l⟩:=h;injection e with F E D;subst F E D;refine⟨A,_,c,rfl,⟨A,c,rfl,x,?_⟩,l⟩;intro j r s;obtain⟨g,o,i,C,k,y,f⟩:=t j r s;have z:=l _ k;exact⟨g,o,i,C,k,(Oi m p u g (by show g≠p.block;have:a<=g:=z;omega)).trans y,f⟩
def akp(v:iU m p a)(u:iU m q b)(B:Fit a)(z:Fit b)(f:b<=a):
 Calls prog 212 #[p,q] m fun e d=>∃A l c,e= .returned (.slice A l.length c)/\uv A l.length c/\(∀j,A=some j->m.heap.size<=j.block)/\bM l/\nz d A l/\l.length<=100000000/\val l=a - b/\Ext m d:=by
 obtain⟨F,D,rfl,i,y⟩:=v;obtain⟨E,C,rfl,_,x⟩:=u;unfold Fit at B z;refine(abC F E D C _ _ m Om Om i (df _) (df _) (by rw[dm,dm];exact f) y x).mono ?_;rintro e d ⟨A,r,c,t,h,G,rfl,s,n,o,k⟩;exact⟨A,r,c,rfl,t,h,s,o,by omega,by rw[n,dm,dm],k⟩
structure mv(W:au)(g:Nat)(x0 x1 y0 y1 q0 q1 r0 r1:Value):Prop where
 a:ar W g bD [x0,x1]
 b:ar W (g+1) bD [y0,y1]
 q:ar W (g+1+1) bD [q0,q1]
 r:ar W (g+1+1+1) bD [r0,r1]
section
variable{W W':au}{g:Nat}{x0 x1 y0 y1 q0 q1 r0 r1:Value}
theorem mv.ext(h:mv W g x0 x1 y0 y1 q0 q1 r0 r1)(c:Ext W W'):mv W' g x0 x1 y0 y1 q0 q1 r0 r1:=⟨h.a.ext c,h.b.ext c,h.q.ext c,h.r.ext c⟩
theorem mv.drew(h:mv W g x0 x1 y0 y1 q0 q1 r0 r1):mv W.drew g x0 x1 y0 y1 q0 q1 r0 r1:=⟨h.a,h.b,h.q,h.r⟩
theorem mv.af_(h:mv W g x0 x1 y0 y1 q0 q1 r0 r1)(u v:Value):mv ((W.setCell (aB (g+1+1) 0) u).setCell (aB (g+1+1) 1) v) g x0 x1 y0 y1 u v r0 r1:=
 ⟨h.a.pM Om u v,h.b.pM Om u v,(h.q.bu 0 u).bu 1 v,h.r.pM Om u v⟩
theorem mv.auI(h:mv W g x0 x1 y0 y1 q0 q1 r0 r1)(u v:Value):mv ((W.setCell (aB (g+1+1+1) 0) u).setCell (aB (g+1+1+1) 1) v) g x0 x1 y0 y1 q0 q1 u v:=
 ⟨h.a.pM Om u v,h.b.pM Om u v,h.q.pM Om u v,(h.r.bu 0 u).bu 1 v⟩
theorem mv.cells(h:mv W g x0 x1 y0 y1 q0 q1 r0 r1):ay W g 0 x0/\ay W (g+1) 0 y0:=⟨h.a.aD 0,h.b.aD 0⟩
theorem mv.as5(h:mv W g x0 x1 y0 y1 q0 q1 r0 r1):ay W (g+1+1) 0 q0/\ay W (g+1+1) 1 q1/\W.frozen? (aB (g+1+1) 0)=false/\W.frozen? (aB (g+1+1) 1)=false:=⟨h.q.aD 0,h.q.aD 1,h.q.frozen 0,h.q.frozen 1⟩
theorem mv.as4(h:mv W g x0 x1 y0 y1 q0 q1 r0 r1):ay W (g+1+1+1) 0 r0/\ay W (g+1+1+1) 1 r1/\W.frozen? (aB (g+1+1+1) 0)=false/\W.frozen? (aB (g+1+1+1) 1)=false:=⟨h.r.aD 0,h.r.aD 1,h.r.frozen 0,h.r.frozen 1⟩
end
def adZ{g:Nat}(d:ar m g bD [.bool R,.slice E a b]):(loadVar bD ⟨g,0,none⟩).run prog m= .ok (.agg #[.bool R,.slice E a b]) m:=
 run_loadVar_row m g bD bD #[.bool R,.slice E a b] (0,0) _ d underlying99 rfl Ok
def afV(q r:Int)(w:au)(e:Ending)(a:au):Prop:=∃c b,e= .returned (.tuple #[c,b])/\bO a c q/\bO a b r/\Ext w a
def aqy{v:Func}{t g:Nat}{x0 x1 y0 y1:Value}(f:v.results= #[.cell t bD,.cell a bD])(D:Q.tmps.getD t undef=aJ g 0)(k:Q.tmps.getD a undef=aJ (g+1) 0)(G:Q.defers= [])
 (u:ar n g bD [x0,x1]) (r:ar n (g+1) bD [y0,y1]) (I:bO n (.agg #[.bool R,.slice E b c]) B) (H:bO n (.agg #[.bool S,.slice F d e]) C) (A:Ext m n) (s:m.heap.size<=g):
 bodyPost prog v (afV B C m) .ret Q ((((n.setCell (aB g 0) (.bool R)).setCell (aB g 1) (.slice E b c)).setCell (aB (g+1) 0) (.bool S)).setCell (aB (g+1) 1) (.slice F d e)):=by
 have q:ar ((n.setCell (aB g 0) (.bool R)).setCell (aB g 1) (.slice E b c)) g bD [.bool R,.slice E b c]:=(u.bu 0 (.bool R)).bu 1 (.slice E b c);have j:ar ((n.setCell (aB g 0) (.bool R)).setCell (aB g 1) (.slice E b c)) (g+1) bD [y0,y1]:=r.pM Om _ _;have i:=u.rZ (t:=tI) Od 0 1 (.bool R) (.slice E b c);have l:Ext m ((n.setCell (aB g 0) (.bool R)).setCell (aB g 1) (.slice E b c)):=(A.setCell s _).setCell s _;generalize(n.setCell (aB g 0) (.bool R)).setCell (aB g 1) (.slice E b c)=z at*;have p:ar ((z.setCell (aB (g+1) 0) (.bool S)).setCell (aB (g+1) 1) (.slice F d e)) g bD [.bool R,.slice E b c]:=q.pM Om _ _;have o:ar ((z.setCell (aB (g+1) 0) (.bool S)).setCell (aB (g+1) 1) (.slice F d e)) (g+1) bD [.bool S,.slice F d e]:=(j.bu 0 (.bool S)).bu 1 (.slice F d e);have h:=j.rZ (t:=tI) Od 0 1 (.bool S) (.slice F d e);exact bodyPost_ret (aaR f Q.tmps _ g (g+1) _ _ D k (adZ p) (adZ o)) G ⟨_,_,rfl,I.keep (i.trans h),H.keep (i.trans h),(l.setCell (show m.heap.size<=g+1 by omega) _).setCell (show m.heap.size<=g+1 by omega) _⟩
def am0(t:0<b)(q:b<=a)(o:a<B9*b):∃T s:Nat,∃n,(a_ b).length=n+1/\s=limb (a_ b) n/\0<s/\s<B9/\T=limb (a_ a) n+limb (a_ a) (n+1)*B9/\limb (a_ a) n<B9/\limb (a_ a) (n+1)<B9/\n<(a_ a).length/\(a_ a).length<=n+2/\b*(T/ (s+1))<=a/\a<b*(T/s+1)/\a<b*B9:=by
 have f:a_ b≠ []:=fun h=>by have:=uH.1 h;omega
 have i:0<(a_ b).length:=J1.2 f;obtain⟨n,p⟩:∃n,(a_ b).length=n+1:=⟨(a_ b).length - 1,by omega⟩;have r:=aqD (df a) (df b) (by rw[dm,dm];exact q) (by rw[dm,dm];exact o);have c:0<limb (a_ b) n:=by
  have:=(df b).2.last i;rw[gP Om];have e:(a_ b)[(a_ b).length - 1]=(a_ b)[n]'Om:=by congr 1;omega
  rw[e] at this;omega
 have j:=abx (df b).1 (k:=n) Om Om;rw[qJ (l:=a_ b) (k:=n+1) Om,Kc,jK,dm] at j;have d:=abx (df a).1 (k:=n) Om Om;rw[dm] at d;have m:=aqE j.1 j.2 d.1 d.2 c;exact⟨_,_,n,p,rfl,c,(df b).1.getD n,rfl,(df a).1.getD n,(df a).1.getD (n+1),by omega,by omega,m.1,m.2,by rw[eI];exact o⟩
def afp(h:∃e,e<=1000000/\a<10^e)(f:b<=B9*a):Fit b:=by
 obtain⟨e,d,c⟩:=h;refine KD (e:=9+e+1) ?_ Om;have k:B9*a<=B9*10^e:=jt _ (qI c);have j:B9*10^e=10^(9+e):=by rw[rO];rfl
 have i:10^(9+e)<10^(9+e+1):=JZ Od Om;omega
def q61.k50(h:ai:=by
 go_loopw [9,10,13] (fun E b _ ws=>∃(l h:Nat),E=av l/\b=av h/\l<=h/\h<1000000000/\ah (Y*l<=R1)/\ah (R1<Y*(h+1))/\ah (Ext wo ws)) (fun E b _ _=>(RowKit.intOf b).toNat - (RowKit.intOf E).toNat)
 exact⟨o,c,rfl,rfl,by omega,by omega,O,P,R6⟩;exact m0):=h
def q62.k50(h:ai:=by
 go_loopw [9,10,13] (fun E b _ ws=>∃(l h:Nat),E=av l/\b=av h/\l<=h/\h<1000000000/\ah (Y*l<=R1)/\ah (R1<Y*(h+1))/\ah (Ext wo ws)) (fun E b _ _=>(RowKit.intOf b).toNat - (RowKit.intOf E).toNat)
 exact⟨o,c,rfl,rfl,by omega,by omega,O,P,R6⟩;exact m0):=h
def Ve(va vb:Value)(x y:Int)(w:au)(ha:bO w va x)(hb:bO w vb y)(fx:cM x)(fy:cM y)(hy:y≠0):
 Calls prog 158 #[va,vb] w (afV (signed (decide (x<0) !=decide (y<0)) (x.natAbs/y.natAbs)) (signed (decide (x<0)) (x.natAbs%y.natAbs)) w):=by
 have HNA:=af ha;have Sh:=af hb;obtain⟨Aa,ca,rfl,o7,sa⟩:=ha;obtain⟨Ab,cb,rfl,hcb,sb⟩:=hb;have S1:=af sa;have CA:=af (df x.natAbs);have VA:=af (dm x.natAbs);have Mg:=fx.fit;have Fk:=fy.fit;have FA:=af Mg;have FB:=af Fk;have Nx:ah (cM y):=fy;unfold ah cM at Nx;have Nx:=af Nx;unfold Fit at Mg Fk;have Zn:0<y.natAbs:=Om;have lR:=anE (a_ x.natAbs).length Om;have HNY:=af Sh.nat;generalize x.natAbs=X at*;generalize y.natAbs=Y at*;generalize a_ X=a at*;generalize wV:(a_ Y).length=nb at*;have awl:=af wV;generalize decide (x<0)=na at*;generalize decide (y<0)=E5 at*;clear sa sb o7 hcb wV;go_enter func158,ntmps158;go_wp2_with fail
 clear lR;refine asu fun W HX BA BB BQ BR aw3=> ?_;go_loopw [6,8,9,10,11,12,13] (fun v6 v8 _ _ _ _ _ wr=>∃(m R:Nat) (q:List Nat),m<=a.length/\v8=av ((m:Int) - 1)/\ah (qZ wr (w.heap.size+1+1+1+1+1) v6 R)/\R<Y/\bM q/\q.length=a.length - m/\ah (val (a.drop m)=val q*Y+R)/\ah (ar wr (w.heap.size+1+1+1+1) tI (dW (List.replicate m 0++q)))/\ah (Below (w.heap.size+1+1+1+1) W wr)) (fun _ v8 _ _ _ _ _ _=>(RowKit.intOf v8+1).toNat);exact⟨a.length,0,[],aK _,rfl,qZ.nil _ _,Zn,kJ,by simp,by simp [ah],by simpa [ah] using aw3.ae,AH _ _⟩;obtain⟨m,R,q,hm,rfl,HR,Zs,hdq,YO,HV,J,C⟩:=hrel;have HDQ:=af hdq;have Nb:=af YO;clear hdq YO;have Dt:=af (BA.below C Om);have Dr:=af (BB.below C Om);have N:ah (Ext w wr):=sZ HX (C.mono Om);obtain⟨a0,a1⟩:=Dt.two;obtain⟨b0,b1⟩:=Dr.two;have hsz:w.heap.size+1+1+1+1+1<=wr.heap.size:=by have:=J.lt;omega
 rcases i7 m with rfl|Rf
 ·have hEQ:val q=X/Y/\R=X%Y:=(by have h1:=HV.ae;rw[mO,VA.ae] at h1;rw[h1,oD,Nat.add_mul_div_right _ _ Zn,Oq Zs,Nat.add_mul_mod_self_right,uB Zs];exact⟨by omega,rfl⟩);have HEQ:=af hEQ;obtain⟨AR,mR,cR,rfl,hNR,_⟩:=HR.ae;have HLR:ah (pO wr (.slice AR mR cR) (X%Y)):=by rw[ah,<-HEQ.2];exact hNR.limbs (FB.le Om)
  have HLQ:ah (pO wr (aG (w.heap.size+1+1+1+1) 0 a.length a.length) (X/Y)):=by
   have h1:=J.sl 0;rw[aaq,vR,mO] at h1;have h2:q.length=a.length:=by rw[Nb.ae];omega
   exact⟨_,q,a.length,by rw[h2],⟨by omega,fun h=>by cases h⟩,HDQ,h1,by omega,HEQ.1⟩
  have H0:ah (mv wr w.heap.size (.bool na) (.slice Aa a.length ca) (.bool E5) (.slice Ab nb cb) (.bool false) (.slice none 0 0) (.bool false) (.slice none 0 0)):=⟨Dt,Dr,BQ.below C Om,BR.below C Om⟩;clear hEQ hNR a0 a1 b0 b1;go_wp2_with fail;obtain⟨c0,c1⟩:=H0.cells;go_region_held3 (fun w'=>ay w' w.heap.size 0 (.bool na)/\ay w' (w.heap.size+1) 0 (.bool E5)) (first|with_reducible exact⟨c0,c1⟩|with_reducible exact H0.ae.drew.cells|with_reducible exact(H0.ae.drew.ext K).cells|with_reducible exact H3.ae.cells|with_reducible exact(H3.ae.af_ _ _).cells|with_reducible exact((H3.ae.af_ _ _).auI _ _).cells)
   (first
     |(go_at_call 157;(with_reducible show Calls _ _ #[Value.agg #[_,Value.slice (cT (w.heap.size+1+1+1+1) 0) _ _]] _ _);refine(D6 (na !=E5) _ _ _ (HLQ.ext (by exact(aC _).drew))).mono ?_;rintro e w1 ⟨v1,rfl,E9,K⟩;obtain⟨b1,Q,n1,c1',rfl,vD⟩:=E9.parts)
     |(go_at_call 157;(with_reducible show Calls _ _ #[Value.agg #[_,Value.slice AR mR cR]] _ _);refine(D6 na _ _ _ (HLR.ext (by exact(aC _).drew.trans K))).mono ?_;rintro e w2 ⟨v2,rfl,F,B⟩;obtain⟨b2,A2,n2,c2',rfl,pd⟩:=F.parts;have H3:=af (H0.drew.ext (K.trans B));obtain⟨k0,k1,k2,k3⟩:=H3.as5;obtain⟨l0,l1,l2,l3⟩:=H3.as4;have avT:=af (vD.ext B);clear F))
  go_wp2;exact aqy rfl rfl rfl rfl H3.q H3.r avT pd (N.trans ((aC _).drew.trans (K.trans B))) Om
 ·obtain⟨k,rfl⟩:∃k,m=k+1:=⟨m - 1,by omega⟩;obtain⟨g1,o1,rfl,_,v⟩:=(S1.ext N).at_ (mh (show k<a.length by omega));rw[<-gP (show k<a.length by omega)] at v;obtain⟨AR,mR,cR,rfl,⟨AR',cR',e,Zh,s⟩,hfR⟩:=HR.ae;injection e with e1 e2 e3;subst e1 e2 e3;have M7:=af s;have HCR:=af Zh;have hFR:Fit R:=FB.le Om;have avC:=hFR;unfold Fit at avC;clear s Zh hfR;go_wp2_with (at_builtin;refine AC rfl (.tmp 31) (.tmp 32) rh rfl wr.heap.size jy _ 1 _ rfl (aqI wr tI (av (limb a k:Nat)) _ (aK _)) AR (a_ R).length cR (dW (a_ R)) rfl HCR.2 azM (M7.ext ((aC _).alloc _)) (by intro u hu;simp [dW] at hu;obtain⟨x,_,rfl⟩:=hu;rfl) Om Ou ?_)
  intro v1 w1 ho1 hg1 _;have bW:ah (Ext wr w1):=vX ((aC wr).alloc _) hg1 Ou (fun k hk=>by simp [Value.ownBlock] at hk;omega);have t:w1.ownsRow wr.heap.size tI 1 v1 ((a_ R).length+1) (dW (limb a k::a_ R)):=by rw[oD];exact ho1
  obtain⟨Q,c1,rfl,hc1,_,Z⟩:=dZ t;have awO:=af (ya t);have awF:=af (acN t);have av1:=af Z;have awL:ah (bM (limb a k::a_ R)):=tj (CA.1.getD k) (df R).1;clear ho1 t hg1 Z;go_wp2_with fail
  refine(Ul Q c1 false (limb a k::a_ R) w1 awO awL av1 (by rw[cW];omega)).mono ?_;rintro e w2 ⟨b2,n2,rfl,F,B⟩;have vG:=af F.nat;rw[GW,nJ,dm] at vG;have hR1:limb a k+B9*R<B9*Y:=by have h1:=CA.1.getD k;have h2:B9*(R+1)<=B9*Y:=jt _ Zs;rw[gO] at h2;omega
  have CU:=af hR1;obtain⟨R1,I⟩:∃R1,R1=limb a k+B9*R:=⟨_,rfl⟩;rw[<-I] at vG CU;have ai7:=af I;have Ql:ah (Fit R1):=afp Nx (qI CU);have d:=af (bW.trans B);have Dq:=af (Dr.ext d);obtain⟨b0,b1⟩:=Dq.two;have hfd:=V6 b2 Q n2 c1;clear F B hR1 I a0 a1 v;go_wp2;go_quiet (fail);have d:ah (Ext wr (w2.drewN nq)):=d.drewN nq;have HN3:ah (iU (w2.drewN nq) (.slice Q n2 c1) R1):=vG.ext ((aC _).drewN nq);have BB3:ah (ar (w2.drewN nq) (w.heap.size+1) bD [.bool E5,.slice Ab nb cb]):=Dq.drewN nq;clear hfd b0 b1;generalize w2.drewN nq=S at*;obtain⟨b0,b1⟩:=BB3.two;go_wp2_with fail
  refine(acv HN3 (HNY.ext (N.trans d)) Ql FB).mono ?_;rintro e w4 ⟨rfl,D,rfl⟩;have d:ah (Ext wr (S.drewN D)):=d.drewN D;have Nn:ah (qZ (S.drewN D) (w.heap.size+1+1+1+1+1) (.slice Q n2 c1) R1):=⟨Q,n2,c1,rfl,HN3.ext ((aC _).drewN D),fun ad h=>a8 hsz (awF ad h)⟩;have vF:ah (iU (S.drewN D) (.slice Q n2 c1) R1):=HN3.ext ((aC _).drewN D);have JO:ah (ar (S.drewN D) (w.heap.size+1) bD [.bool E5,.slice Ab nb cb]):=BB3.drewN D;have EX:ah (ar (S.drewN D) (w.heap.size+1+1+1+1) tI (dW (List.replicate (k+1) 0++q))):=J.ext d;have LM:ah (Below (w.heap.size+1+1+1+1) W (S.drewN D)):=C.trans (d.mono Om);have Iz:ah (iU (S.drewN D) (.slice Ab nb cb) Y):=HNY.ext (N.trans d);clear b0 b1;generalize S.drewN D=w4 at*;obtain⟨b0,b1⟩:=JO.two;by_cases G:R1<Y
  ·have hcm:decide ((0:Int)<=ew R1 Y)=false:=by rw[Er G];rfl
   generalize ew R1 Y=cm at*;have O:ah (Y*0<=R1):=by rw[ah];omega
   have P:ah (R1<Y*(0+1)):=by rw[ah];omega
   go_wp2_with fail
   clear b0 b1;obtain⟨wo,nR⟩:∃wo:World,wo=w4:=⟨_,rfl⟩;have R6:ah (Ext wo w4):=by rw[nR];exact aC _
   have JO:ah (ar wo (w.heap.size+1) bD [.bool E5,.slice Ab (nb) cb]):=by rw[nR];exact JO
   have Nn:ah (qZ wo (w.heap.size+1+1+1+1+1) (.slice Q n2 c1) R1):=by rw[nR];exact Nn
   have vF:ah (iU wo (.slice Q n2 c1) R1):=by rw[nR];exact vF
   have EX:ah (ar wo (w.heap.size+1+1+1+1) tI (dW (List.replicate (k+1) 0++q))):=by rw[nR];exact EX
   have LM:ah (Below (w.heap.size+1+1+1+1) W wo):=by rw[nR];exact LM
   have Iz:ah (iU wo (.slice Ab (nb) cb) Y):=by rw[nR];exact Iz
   have auW:w.heap.size+1+1+1+1+1<=wo.heap.size:=by have:=EX.lt;omega
   clear nR;go_loopw [9,10,13] (fun E b _ ws=>∃(l h:Nat),E=av l/\b=av h/\l<=h/\h<1000000000/\ah (Y*l<=R1)/\ah (R1<Y*(h+1))/\ah (Ext wo ws)) (fun E b _ _=>(RowKit.intOf b).toNat - (RowKit.intOf E).toNat);exact⟨0,0,rfl,rfl,by omega,by omega,O,P,R6⟩;exact m0
  ·obtain⟨T,n,n0,wX,hst,axT,auZ,hT,Zp,MB,M,rx,Fj,Y_,hB⟩:=am0 Zn (aaH G) CU;have hcm:decide ((0:Int)<=ew R1 Y)=true:=by unfold ew;rw[if_neg G];split<;>rfl
   have au7:nb=n0+1:=by rw[<-awl.ae];exact wX
   subst au7;obtain⟨c,j⟩:∃c,c=min 999999999 (T/n):=⟨_,rfl⟩;obtain⟨o,f⟩:∃o,o=min c (T/ (n+1)):=⟨_,rfl⟩;have O:ah (Y*o<=R1):=a8 (jt _ (by rw[f];exact Nat.min_le_right _ _)) Fj;have P:ah (R1<Y*(c+1)):=by
    rw[ah,j];rcases Nat.le_total (T/n) 999999999 with h|h
    ·rw[Nat.min_eq_right h];exact Y_
    ·rw[jJ h];exact hB
   have ax5:o<=c:=by rw[f];exact Nat.min_le_left _ _
   have ayg:c<1000000000:=by rw[j];have:=Nat.min_le_left 999999999 (T/n);omega
   have kA:min (999999999:Int) ((T:Int)/ (n:Int))=(c:Int):=by rw[j,<-DM];omega
   have nt:min (c:Int) ((T:Int)/ ((n:Int)+1))=(o:Int):=(by have:((n:Int)+1)=((n+1:Nat):Int):=Om;rw[f,this,<-DM];omega);have iY:0<=(T:Int)/ (n:Int):=by rw[<-DM];omega
   have kB:0<=(T:Int)/ ((n:Int)+1):=Int.ediv_nonneg Om Om;have hT9:T<=999999999999999999:=by unfold B9 at hT Zp MB;omega
   have Fs:(T:Int)/ (n:Int)<=999999999999999999:=by rw[<-DM];have:=DN T n;omega
   have Ru:(T:Int)/ ((n:Int)+1)<=999999999999999999:=Int.le_trans (Int.ediv_le_self _ Om) Om;obtain⟨A',c',e,_,s⟩:=vF.ae;injection e with e1 e2 e3;subst e1 e3;obtain⟨gR,oR,rfl,_,A⟩:=s.at_ (mh M);rw[<-gP M] at A;obtain⟨A'',c'',e',_,YL⟩:=Iz.ae;injection e' with e1 e2' e3;subst e1 e3;obtain⟨gY,oY,rfl,_,H⟩:=YL.at_ (mh (show n0<(a_ Y).length by omega));rw[<-gP (show n0<(a_ Y).length by omega),<-hst] at H;have aif:(n0:Int)<(n2:Int):=Om;have V:(n:Int)≠0:=Om;have U:(n:Int)+1≠0:=Om;unfold B9 at auZ Zp MB;rcases cA (n0+1) n2 with asJ|L
   ·have avv:w4.cell? (aB gR (oR+(n0+1)))=some (av (limb (a_ R1) (n0+1):Nat)):=(by obtain⟨g',o',e,_,hc⟩:=s.at_ (mh (show n0+1<(a_ R1).length by omega));injection e with e;injection e with e1 e2;subst e1 e2;rw[hc,gP]);have vt:decide ((n0:Int)+1<(n2:Int))=true:=fF;have Fy:(limb (a_ R1) n0:Int)+(limb (a_ R1) (n0+1):Int)*1000000000=(T:Int):=by rw[hT];unfold B9;omega
    generalize limb (a_ R1) n0=tA at*;generalize limb (a_ R1) (n0+1)=tbb at*;generalize ew R1 Y=cm at*;clear hst hT j f wX e2 e2' Fj Y_ hB M rx G s YL;go_wp2_with fail;clear kA nt iY kB Fs Ru Fy A avv H V U aif hcm asJ vt;open q61 in exact m50
   ·have hz:limb (a_ R1) (n0+1)=0:=qJ Om;have vt:decide ((n0:Int)+1<(n2:Int))=false:=aW;rw[hz,Kc,jK] at hT;rw[<-hT] at A;generalize ew R1 Y=cm at*;clear hst hT j f wX e2 e2' Fj Y_ hB M rx G s YL hz Zp MB;go_wp2_with fail
    clear kA nt iY kB Fs Ru A H V U aif hcm L vt;open q62 in exact m50
def fV.asw{W:au}{g:Nat}{x0 x1 y0 y1 z0 z1:Value}(h:fV W g x0 x1 y0 y1 z0 z1)(a b c d:Value):fV ((((W.setCell (aB g 0) a).setCell (aB g 1) b).setCell (aB (g+1) 0) c).setCell (aB (g+1) 1) d) g a b c d z0 z1:=
 ⟨((h.a.bu 0 a).bu 1 b).pM Om c d,(((h.b.pM (k:=g) Om a b).bu 0 c).bu 1 d),(h.r.pM (k:=g) Om a b).pM Om c d⟩
def fV.arT{W:au}{g:Nat}{x0 x1 y0 y1 z0 z1:Value}(h:fV W g x0 x1 y0 y1 z0 z1)(a b c d:Value):Kept tI W ((((W.setCell (aB g 0) a).setCell (aB g 1) b).setCell (aB (g+1) 0) c).setCell (aB (g+1) 1) d):=
 (h.a.rZ Od 0 1 a b).trans ((h.b.pM (k:=g) Om a b).rZ Od 0 1 c d)
def ajU(n:Nat):signed false n=(n:Int):=rfl
def bO.abs(h:bO m (.agg #[.bool R,.slice E a b]) B):bO m (.agg #[.bool false,.slice E a b]) (B.natAbs:Int):=by obtain⟨_,rfl,e,d⟩:=h.inv;exact⟨E,b,by rw[f6,decide_eq_false Om],by rw[f6];exact e,by rw[f6];exact d⟩
def bO.len(h:bO m (.agg #[.bool R,.slice E a b]) (c:Int)):decide (0<a)=decide (0<c):=by obtain⟨_,rfl,_⟩:=h.inv;rw[f6];exact aeC
def q63.L1(h:ai:=by
 have f0:=H0.a.frozen 0;have f1:=H0.b.frozen 0;have H1:ah (fV ((W.setCell (aB w.heap.size 0) (.bool false)).setCell (aB (w.heap.size+1) 0) (.bool false)) w.heap.size (.bool false) (.slice Aa na ca) (.bool false) (.slice Ab nb cb) (.bool false) (.slice none 0 0)):=
  ⟨(H0.a.bu 0 (.bool false)).far (p:=aB (w.heap.size+1) 0) (by show w.heap.size≠w.heap.size+1;omega) _,(H0.b.far (p:=aB w.heap.size 0) (by show w.heap.size+1≠w.heap.size;omega) _).bu 0 (.bool false),(H0.r.far (p:=aB w.heap.size 0) (by show w.heap.size+1+1≠w.heap.size;omega) _).far (p:=aB (w.heap.size+1) 0) (by show w.heap.size+1+1≠w.heap.size+1;omega) _⟩
 have t:ah (Ext w ((W.setCell (aB w.heap.size 0) (.bool false)).setCell (aB (w.heap.size+1) 0) (.bool false))):=(bh.setCell (p:=aB w.heap.size 0) (aK _) _).setCell (p:=aB (w.heap.size+1) 0) (l9 _) _;go_wp2;clear c0 c1 c2 c3 f0 f1;generalize(W.setCell (aB w.heap.size 0) (.bool false)).setCell (aB (w.heap.size+1) 0) (.bool false)=W1 at*;go_loopg [5,6] Y (fun k _ _ wr=>∃(p q:Nat) (Z:aS) (G J:Nat) (o:aS) (nq m:Nat),k=q/\ah (cM (p:Int))/\ah (cM (q:Int))/\ah (Nat.gcd p q=Nat.gcd X Y)/\ah (fV wr w.heap.size (.bool false) (.slice Z G J) (.bool false) (.slice o nq m) (.bool false) (.slice none 0 0))/\ah (bO wr (.agg #[.bool false,.slice Z G J]) (p:Int))/\ah (bO wr (.agg #[.bool false,.slice o nq m]) (q:Int))/\ah (Ext w wr));case atStart=>exact⟨X,Y,Aa,na,ca,Ab,nb,cb,rfl,FX,FY,rfl,H1,T.ext t,S.ext t,t⟩
 case round=>
  obtain⟨p,q,Z,G,J,o,nq,m,rfl,FP,U,HG,E,P,O,HX⟩:=hrel;obtain⟨c0,c1,c2,c3⟩:=E.cells;have l:=O.len;have n:=af l;clear l;rcases i7 gk with rfl|z
  ·have hd:decide (0<nq)=false:=n.ae;have HE:ah (p=Nat.gcd X Y):=by rw[ah,<-HG.ae,aaw]
   rw[HE.ae] at P;obtain⟨k0,k1,k2,k3⟩:=E.res;go_wp2;exact ww rfl rfl rfl E.r P HX Om (fun v W' h1 h2=>⟨v,rfl,h1,h2⟩)
  ·have hd:decide (0<nq)=true:=by rw[n.ae];exact decide_eq_true z
   go_wp2_with fail
   refine(Ve _ _ (p:Int) (gk:Int) wr P O FP U Om).mono ?_;rintro e w2 ⟨v1,v2,rfl,u,s,f⟩;obtain⟨b1,A1,n1,c1',rfl,vD⟩:=u.parts;rw[f6,f6,decide_eq_false Om,ajU] at s;obtain⟨b2,F,D,i,rfl,B⟩:=s.parts;have I:b2=false:=by rw[B.inv.1];exact decide_eq_false Om
   subst I;have R:=af (E.ext f);have A:=af (HX.trans f);have N:=af (O.ext f);clear u s f c0 c1 c2 c3;go_wp2_with fail
   refine fX fun W3 j _ V=> ?_;have c:=af (R.ext j);obtain⟨c0,c1,c2,c3⟩:=c.cells;obtain⟨d0,d1⟩:=V.two;have f0:=c.a.frozen 0;have f1:=c.a.frozen 1;have f2:=c.b.frozen 0;have f3:=c.b.frozen 1;have Q:=af (c.asw (.bool false) (.slice o nq m) (.bool false) (.slice F D i)).drew;have C:=af (c.arT (.bool false) (.slice o nq m) (.bool false) (.slice F D i));have K:=af ((((((A.trans j).setCell (p:=aB w.heap.size 0) (aK _) (.bool false)).setCell (p:=aB w.heap.size 1) (aK _) (.slice o nq m)).setCell (p:=aB (w.heap.size+1) 0) (l9 _) (.bool false)).setCell (p:=aB (w.heap.size+1) 1) (l9 _) (.slice F D i))).drew;have M:=af ((N.ext j).keep C);have L:=af ((B.ext j).keep C);have H:p%gk<gk:=fg _ z;have d:w2.heap.size+1≠w.heap.size:=by have:=A.size;omega
   have ax0:w.heap.size≠w2.heap.size+1:=fun h=>d h.symm;obtain⟨e0,e1⟩:=(V.pM (k:=w.heap.size) d (.bool false) (.slice o nq m)).two;have e2:=(V.far (p:=aB w.heap.size 0) d (.bool false)).two;obtain⟨e2,e3⟩:=e2;go_region
   all_goals go_wp2
   all_goals
    go_roundg (p%gk)
    case measure=>exact H
    case rel=>exact⟨gk,p%gk,o,nq,m,F,D,i,rfl,U,U.le (by rw[f6,f6];omega),by rw[ah,<-HG.ae,DT p gk,Ue gk p,DT],Q,M.ext (aC _).drew,L.ext (aC _).drew,K⟩):=h
def adH(va vb:Value)(x y:Int)(w:au)(ha:bO w va x)(hb:bO w vb y)(fx:cM x)(fy:cM y):
 Calls prog 154 #[va,vb] w fun e w'=>∃v',e= .returned v'/\bO w' v' ((Nat.gcd x.natAbs y.natAbs:Nat):Int)/\Ext w w':=by
 obtain⟨ba,Aa,na,ca,rfl,HA⟩:=ha.parts;obtain⟨bb,Ab,nb,cb,rfl,HB⟩:=hb.parts;have FX:ah (cM (x.natAbs:Int)):=fx.le (by rw[f6];exact aK _);have FY:ah (cM (y.natAbs:Int)):=fy.le (by rw[f6];exact aK _);have T:=af HA.abs;have S:=af HB.abs;clear ha hb fx fy;generalize x.natAbs=X at*;generalize y.natAbs=Y at*;go_enter func154,ntmps154;go_upto_region 1 with fail
 open q63 in exact m13
def V9{x y:UInt8}(h:x≠y):((x.toNat:Int)==(y.toNat:Int))=false:=by rw[beq_eq_false_iff_ne];intro a;exact h (Ts Om)
def abc(l:List UInt8)(w:au)(j:l.length<=100000000)(d:(47:UInt8)∉l):
 Calls prog 88 #[aO l] w fun e f=>e= .returned (.tuple #[aO l,.string ⟨#[49]⟩,.bool false])/\Ext w f:=by
 have i:=af d;clear d;go_enter func88,ntmps88;go_wp2;go_loop [5] (fun b=>∃k:Nat,k<=l.length/\b=av k) (fun b=>l.length - (RowKit.intOf b).toNat);exact⟨0,aT _,rfl⟩;obtain⟨k,m,rfl⟩:=hrel;by_cases a:k<l.length
 ·have c:k<(ByteArray.mk l.toArray).size:=a;have g:((((ByteArray.mk l.toArray)[k]'c).toNat:Int)==47)=false:=V9 (y:=47) (fun h=>i (by rw[<-h];exact aZ a));exact Xc
 ·go_wp2;go_ret3;exact⟨rfl,aC _⟩
def q64.ahB(h:ai:=by
 have z:=af e1;have x:=af e2;have o:IntKind.i64.wrap ((a.length:Int)+1)=(a.length:Int)+1:=GU _ Om;clear e1 e2;go_wp2;go_quiet (fail);go_wp2;go_ret3;refine⟨?_,(aC _).drewN _⟩;show Ending.returned (Value.tuple #[.string ((ByteArray.mk l.toArray).extract 0 a.length),.string ((ByteArray.mk l.toArray).extract (a.length+1) l.length),.bool true])=_
 rw[z.ae,x.ae]):=h
def abb(a b:List UInt8)(w:au)(A:a.length+b.length<=10000000)(m:(47:UInt8)∉a):
 Calls prog 88 #[aO (a++47::b)] w fun e n=>e= .returned (.tuple #[aO a,aO b,.bool true])/\Ext w n:=by
 have v:=af m;have c:(a++47::b).length=a.length+b.length+1:=Oc;obtain⟨l,d⟩:∃l,l=a++47::b:=⟨_,rfl⟩;have Nr:=af d;rw[<-d] at c⊢;have u:=af c;have r:a.length<l.length:=Om;have q:l.length<=10000001:=Om;clear m c d;go_enter func88,ntmps88;go_wp2;go_loop [5] (fun i=>∃k:Nat,k<=a.length/\i=av k) (fun i=>l.length - (RowKit.intOf i).toNat)
 exact⟨0,aT _,rfl⟩;obtain⟨k,B,rfl⟩:=hrel;have j:k<l.length:=Om;have f:k<(ByteArray.mk l.toArray).size:=j;by_cases g:k<a.length
 ·have p:((((ByteArray.mk l.toArray)[k]'f).toNat:Int)==47)=false:=V9 (y:=47) (fun h=>v (by
   have e:l[k]=a[k]:=by simp [Nr.ae,g]
   rw[<-h];show l[k]∈a
   rw[e];exact aZ g))
  exact Xc
 ·obtain rfl:k=a.length:=Om;have s:((((ByteArray.mk l.toArray)[a.length]'f).toNat:Int)==47)=true:=by
   have e:l[a.length]=47:=by simp [Nr.ae]
   have t:((ByteArray.mk l.toArray)[a.length]'f)=47:=e;rw[t];rfl
  have D:(a.length:Int)<=(l.length:Int):=Om;have C:(a.length:Int)+1<=(l.length:Int):=Om;open q64 in exact agF
def aks(w:au):Calls prog 96 #[.string ⟨#[49]⟩] w fun e a=>e= .returned (.bool true)/\w=a:=by have h:=OS 1 w (by rw[show(1:Int).natAbs=1 from rfl,nDigits_small Od];decide);rw[td] at h;exact h
def amL(v:Value)(w:au)(h:bO w v ((1:Nat):Int)):Calls prog 94 #[v] w fun e b=>e= .returned (.string ⟨#[49]⟩)/\Ext w b:=by have a:=UI v 1 w h Ef.wide;rw[td] at a;exact a
def abA(q:Rat)(w:au)(s:bS 400 q):
 Calls prog 84 #[aO (cL q)] w fun e T=>e= .returned (.tuple #[aO (aR q.num),aO (decDigits q.den),.bool true])/\Ext w T:=by
 have o:=vW q.num;have g:=s.dn;have j:=s.dd;have N:=af (fun w=>OS q.num w s.dn);by_cases h1:q.den=1
 ·have G:=af (pG h1);have c:decDigits q.den= [49]:=by rw[h1];exact l_ Od
  rw[G.ae,c];have f:=uJ q.num;have r:((aR q.num).length:Int)<=802:=Om;generalize aR q.num=a at*;have H:=af (fun w=>abc a w Om f);clear o g j h1 s f c;go_enter func84,ntmps84;go_wp2_with fail
  refine(H w).mono ?_;rintro e k ⟨rfl,i⟩;go_wp2_with fail;refine(N k).mono ?_;rintro e S ⟨rfl,rfl⟩;go_wp2_with fail;refine(aks k).mono ?_;rintro e R ⟨rfl,rfl⟩;go_wp2;go_ret3;exact⟨rfl,i⟩
 ·have G:=af (qH h1);have c:nDigits (q.den:Int).natAbs<=400:=by rw[f6];exact j
  have W:=af (fun w=>OS q.den w c);have Y:=af (fun w=>Hn q.num w (qL g).wide);have X:=af (fun w=>Hn q.den w (qL c).wide);have F1:=af (qL g);have F2:=af (qL c);have U:(aR q.num== [48])=false:=(by exact agv)
  have d:decDigits q.den=aR q.den:=(rS _).symm;have J:(aR q.den== [49])=false:=(by rw[beq_eq_false_iff_ne];intro h;have h0:(q.den:Int)=1:=AV (h.trans td.symm);exact h1 Om)
  have K:(aR q.den== [48])=false:=(by rw[beq_eq_false_iff_ne];intro h;have h0:(q.den:Int)=0:=AV (h.trans Eg.symm);have:=q.den_pos;omega);have I:Nat.gcd q.num.natAbs (q.den:Int).natAbs=1:=by rw[f6];exact q.reduced
  have Z:=af I;have f:=uJ q.num;have p:(aR q.num).length+(aR q.den).length<=10000000:=by rw[<-d,decDigits_length];omega
  have r:((aR q.num++47::aR q.den).length:Int)<=802:=by rw[bC,cW,<-d,decDigits_length];omega
  obtain⟨v,u,t⟩:∃v u,aR q.den=v::u:=by
   rcases L:decDigits q.den with _|⟨v,u⟩
   ·exact absurd L (DZ _)
   ·exact⟨v,u,by rw[<-d,L]⟩
  have n:0<(ByteArray.mk (aR q.den).toArray).size:=by show 0<(aR q.den).length;rw[t];simp
  have M:((((ByteArray.mk (aR q.den).toArray)[0]'n).toNat:Int)==45)=false:=V9 (y:=45) (fun h=>by
   have e:(aR q.den)[0]'n=45:=h;have V:(45:UInt8)∈decDigits q.den:=by rw[d,<-e];exact aZ _
   exact Wn aAs V)
  rw[G.ae,d];have H:=af (fun w=>abb (aR q.num) (aR q.den) w p f);generalize aR q.num=a at*;generalize aR q.den=b at*;generalize a++47::b=ab at*;clear o g j h1 s f c I d p t;go_enter func84,ntmps84;go_wp2_with fail
  refine(H w).mono ?_;rintro e k ⟨rfl,i⟩;go_wp2_with fail;refine(N k).mono ?_;rintro e S ⟨rfl,rfl⟩;go_wp2_with fail;refine(W k).mono ?_;rintro e R ⟨rfl,rfl⟩;go_wp2_with fail;refine(Y k).mono ?_;rintro e Q ⟨v5,rfl,C,A⟩;obtain⟨b5,A5,n5,c5,rfl,F⟩:=C.parts;go_wp2_with fail;refine(X Q).mono ?_;rintro e P ⟨v6,rfl,B,l⟩;obtain⟨b6,A6,n6,c6,rfl,E⟩:=B.parts;go_wp2_with fail;refine(adH _ _ q.num q.den P (F.ext l) E F1 F2).mono ?_;rintro e O ⟨v7,rfl,m,z⟩;rw[Z.ae] at m;obtain⟨b7,A7,n7,c7,rfl,D⟩:=m.parts;go_wp2_with fail;refine(amL _ O D).mono ?_;rintro e w8 ⟨rfl,x⟩;go_wp2;go_ret3;exact⟨rfl,i.trans (A.trans (l.trans (z.trans x)))⟩
def OQ(q:Rat)(w:au)(d:bS 400 q):
 Calls prog 38 #[aO (cL q)] w fun e f=>e= .returned (.bool true)/\Ext w f:=by
 have H:=af (fun w=>abA q w d);clear d;generalize cL q=t at*;generalize aR q.num=a at*;generalize decDigits q.den=b at*;go_enter func38,ntmps38;go_wp2_with fail;refine(H w).mono ?_;rintro e g ⟨rfl,c⟩;go_wp2;go_ret;exact⟨rfl,c⟩
abbrev QI:TypeId:=101
def fB(w:au)(v:Value)(q:Rat):Prop:=∃a b c d,v= .agg #[a,b,c,d]/\bO w (.agg #[a,b]) q.num/\bO w (.agg #[c,d]) q.den
def fB.ext{w':au}(h:fB m p H)(e:Ext m w'):fB w' p H:=by obtain⟨a,b,c,d,rfl,g,f⟩:=h;exact⟨a,b,c,d,rfl,g.ext e,f.ext e⟩
def fB.keep(h:fB m p H)(e:Kept tI m n):fB n p H:=by obtain⟨a,b,c,d,rfl,g,f⟩:=h;exact⟨a,b,c,d,rfl,g.keep e,f.keep e⟩
def fB.parts(h:fB m p H):∃b A n c g i e f,p= .agg #[.bool b,.slice A n c,.bool g,.slice i e f]/\ah (bO m (.agg #[.bool b,.slice A n c]) H.num)/\ah (bO m (.agg #[.bool g,.slice i e f]) H.den):=by exact ahl
def fB.mk'{c:Value}(f:bO m (.agg #[p,q]) H.num)(e:bO m (.agg #[c,r]) H.den):fB m (.agg #[p,q,c,r]) H:=⟨p,q,c,r,rfl,f,e⟩
def Kq{i:Func}{u0 u1 u2 u3:Value}{R:Ending->World->Prop}(c:i.results= #[.cell a QI])(k:Q.tmps.getD a undef=aJ b 0)(l:Q.defers= [])
 (h:ar n b QI [u0,u1,u2,u3]) (u:fB n (.agg #[p,q,r,s]) H) (j:Ext m n) (d:m.heap.size<=b) (o:∀v f,fB f v H->Ext m f->R (.returned v) f):
 bodyPost prog i R .ret Q ((((n.setCell (aB b 0) p).setCell (aB b 1) q).setCell (aB b 2) r).setCell (aB b 3) s):=by
 have e:ar ((((n.setCell (aB b 0) p).setCell (aB b 1) q).setCell (aB b 2) r).setCell (aB b 3) s) b QI [p,q,r,s]:=(((h.bu 0 p).bu 1 q).bu 2 r).bu 3 s;exact bodyPost_ret (results_cell_row c Q.tmps _ b QI #[p,q,r,s] (0,0) _ k e underlying101 rfl Ok) l (o _ _ (u.keep (h.Ij Od 0 1 2 3 p q r s)) ((((j.setCell d _).setCell d _).setCell d _).setCell d _))
def amN(w:au):Calls prog 89 #[.string ⟨#[49]⟩] w fun e a=>∃v,e= .returned v/\bO a v 1/\Ext w a:=by have h:=Hn 1 w Ef.wide;rw[td] at h;exact h
def q65.ahH(h:ai:=by refine(amN w2).mono ?_;rintro e m ⟨u,rfl,hv3,hx3⟩;obtain⟨p,s,n,o,rfl,f⟩:=hv3.parts;have bZ:=af (HX.trans (hx1.trans (hx2.trans hx3)));have gK:=af (HR.ext (hx1.trans (hx2.trans hx3)));have HF:ah (fB m (.agg #[.bool b2,.slice A2 n2 c2,.bool p,.slice s n o]) q):= .mk' (pd.ext hx3) (by rw[y.ae];exact f);exact Ys):=h
def q66.ahH(h:ai:=by refine(x w2).mono ?_;rintro e m ⟨u,rfl,hv3,hx3⟩;obtain⟨p,s,n,o,rfl,f⟩:=hv3.parts;have bZ:=af (HX.trans (hx1.trans (hx2.trans hx3)));have gK:=af (HR.ext (hx1.trans (hx2.trans hx3)));have HF:ah (fB m (.agg #[.bool b2,.slice A2 n2 c2,.bool p,.slice s n o]) q):= .mk' (pd.ext hx3) (by skip;exact f);exact Ys):=h
def OY(q:Rat)(w:au)(g:bS (e+1) q)(B:e<=100000):
 Calls prog 42 #[aO (cL q)] w fun e t=>∃v,e= .returned v/\fB t v q/\Ext w t:=by
 have z:=af (g.num Om).wide;have A:=af (g.den Om).wide;have j:=vW q.num;have i:=g.dn;have l:=g.dd;have c:=uJ q.num;have RN:=af (fun w=>Hn q.num w z);have x:=af (fun w=>Hn q.den w A);by_cases h1:q.den=1
 ·have r:=af (pG h1);have HC:=af (fun w=>abc (aR q.num) w Om c);have y:ah ((q.den:Int)=1):=by rw[ah,h1];rfl
  clear j i l h1 g c;rw[r.ae];generalize aR q.num=a at*;open q65 in exact agZ
 ·have r:=af (qH h1);have d:decDigits q.den=aR q.den:=(rS _).symm;have k:(aR q.num).length+(aR q.den).length<=10000000:=by rw[<-d,decDigits_length];omega
  have HC:=af (fun w=>abb (aR q.num) (aR q.den) w k c);rw[r.ae,d];clear j i l h1 g c k d;generalize aR q.num=a at*;generalize aR q.den=b at*;generalize a++47::b=C at*;open q66 in exact agZ
def axk(z:Int)(w:au)(i: -9223372036854775808<=z)(h1:z<=9223372036854775807):
 Calls prog 53 #[av z] w fun e g=>∃v,e= .returned v/\fB g v (z:Rat)/\Ext w g:=by
 have s:=af (fun w=>PE z w i h1);have t:=af (fun w=>PE 1 w Od Od);obtain⟨q,b⟩:∃q:Rat,q=(z:Rat):=⟨_,rfl⟩;rw[<-b];have d:ah (z=q.num):=by rw[ah,b];rfl
 have f:ah ((q.den:Int)=1):=by rw[ah,b];rfl
 clear i h1 b;go_enter func53,ntmps53;go_wp2_with fail;refine aP (P:=fun W=>Calls _ _ _ W _) fun W u x=> ?_;refine(s W).mono ?_;rintro e k ⟨C,rfl,hv2,hx2⟩;obtain⟨r,A,m,o,rfl,a⟩:=hv2.parts;go_wp2_with fail;refine(t k).mono ?_;rintro e j ⟨B,rfl,hv3,hx3⟩;obtain⟨p,y,l,n,rfl,c⟩:=hv3.parts;have hx1:=aC W;rw[d.ae] at a;have bZ:=af (u.trans (hx1.trans (hx2.trans hx3)));have gK:=af (x.ext (hx1.trans (hx2.trans hx3)));have HF:ah (fB j (.agg #[.bool r,.slice A m o,.bool p,.slice y l n]) q):= .mk' (a.ext hx3) (by rw[f.ae];exact c);exact Ys
def ama(x y:Int)(l:0<y):signed (decide (x<0) !=decide ((((Nat.gcd x.natAbs y.natAbs:Nat):Int))<0)) (x.natAbs/ (((Nat.gcd x.natAbs y.natAbs:Nat):Int)).natAbs)=(Rat.divInt x y).num/\signed (decide (y<0) !=decide ((((Nat.gcd x.natAbs y.natAbs:Nat):Int))<0)) (y.natAbs/ (((Nat.gcd x.natAbs y.natAbs:Nat):Int)).natAbs)=((Rat.divInt x y).den:Int):=by
 have g:=TI x y l;have e:Int.gcd x y=Nat.gcd x.natAbs y.natAbs:=rfl;rw[e] at g;have j:0<Nat.gcd x.natAbs y.natAbs:=Nat.gcd_pos_of_pos_right _ Om;have f:Nat.gcd x.natAbs y.natAbs∣x.natAbs:=Nat.gcd_dvd_left _ _;have d:Nat.gcd x.natAbs y.natAbs∣y.natAbs:=Nat.gcd_dvd_right _ _;rw[g.1,g.2];generalize Nat.gcd x.natAbs y.natAbs=G at*;rw[f6,decide_eq_false (show¬((G:Int)<0) by omega),decide_eq_false (show¬(y<0) by omega)];obtain⟨a,i⟩:=f;obtain⟨b,k⟩:=d;rw[i,k,Nat.mul_div_cancel_left _ j,Nat.mul_div_cancel_left _ j];constructor
 ·by_cases h:x<0
  ·have c:x=(G:Int)*(-(a:Int)):=by rw[Int.mul_neg,<-mM,<-i];omega
   rw[decide_eq_true h,c,aai _ Om];rfl
  ·have c:x=(G:Int)*(a:Int):=by rw[<-mM,<-i];omega
   rw[decide_eq_false h,c,aai _ Om];rfl
 ·have c:y=(G:Int)*(b:Int):=by rw[<-mM,<-k];omega
  rw[c,aai _ Om];rfl
def abr(h:bO m (.agg #[.bool R,.slice E a b]) B)(e:B≠0):0<a:=by
 obtain⟨_,rfl,_⟩:=h.inv;rcases i7 (a_ B.natAbs).length with d|d
 ·have:=uH.1 (lH d);omega
 ·exact d
def q67.yx(h:ai:=by
 have D:=af (ama x y hy);have E:=abr HB Om;have r:((nb:Int)==0)=false:=ayZ;have F:0<Nat.gcd x.natAbs y.natAbs:=Nat.gcd_pos_of_pos_right _ Om;have B:ah (((Nat.gcd x.natAbs y.natAbs:Nat):Int)≠0):=by unfold ah;omega
 have FG:ah (cM ((Nat.gcd x.natAbs y.natAbs:Nat):Int)):=FY.le (by rw[f6];exact Nat.gcd_le_right _ Om);have L:=af (fun(w:au) (n m:Value) (ha:bO w n x) (hb:bO w m y)=>adH n m x y w ha hb FX FY);generalize Nat.gcd x.natAbs y.natAbs=G at*;clear ha hb fx fy F;go_enter func90,ntmps90;go_wp2_with fail
 refine sf (P:=fun W=>Calls _ _ _ W _) fun W k BA BB BR=> ?_;refine(L W _ _ (HA.ext k) (HB.ext k)).mono ?_;rintro e w1 ⟨v1,rfl,j,q⟩;obtain⟨b1,A1,n1,c1,rfl,vD⟩:=j.parts;go_upto_region 4 with fail
 refine aP fun W2 A BG=> ?_;have f:=af (q.trans A);have U:=af (BA.ext f);have T:=af (BB.ext f);have O:=af (BR.ext f);have z:=af (k.trans f);have C:=af (j.ext A);obtain⟨a0,a1⟩:=U.two;obtain⟨Z,Y⟩:=BG.two;clear q j r E;go_wp2_with fail
 refine(Ve _ _ x G W2 (HA.ext z) C FX FG B).mono ?_;rintro e w3 ⟨v3,v3',rfl,c,i,p⟩;rw[D.1] at c;obtain⟨b3,A3,n3,c3,rfl,MX⟩:=c.parts;obtain⟨b3',A3',n3',c3',rfl,_⟩:=i.parts;go_upto_region 5 with fail
 refine fX fun W4 u BN _=> ?_;have a:=af (p.trans u);have S:=af (T.ext a);have N:=af (O.ext a);have R:=af (BG.ext a);have t:=af (z.trans a);have M:=af (C.ext a);have K:=af (c.ext u);obtain⟨b0,b1⟩:=S.two;obtain⟨Z,Y⟩:=R.two;clear p c i a0 a1;go_wp2_with fail
 refine(Ve _ _ y G W4 (HB.ext t) M FY FG B).mono ?_;rintro e w5 ⟨v5,v5',rfl,b,g,o⟩;rw[D.2] at b;obtain⟨b5,A5,n5,c5,rfl,J⟩:=b.parts;obtain⟨b5',A5',n5',c5',rfl,_⟩:=g.parts;have H:b5=false:=by rw[J.inv.1];exact decide_eq_false Om
 subst H;go_upto_region 6 with fail
 refine fX fun W6 s BD _=> ?_;have d:=af (o.trans s);have l:=af (N.ext d);have Q:=af (BN.ext d);have I:=af (t.trans d);have HF:ah (fB W6 (.agg #[.bool b3,.slice A3 n3 c3,.bool false,.slice A5 n5 c5]) (Rat.divInt x y)):= .mk' (K.ext d) (b.ext s);obtain⟨n0,n1⟩:=Q.two;obtain⟨d0,d1⟩:=BD.two;obtain⟨k0,k1,k2,k3⟩:=l.four;obtain⟨f0,f1,f2,f3⟩:=l.fO;clear o b g b0 b1 Z Y;go_wp2;exact Kq rfl rfl rfl l.ae HF I Om (fun v W' h1 h2=>⟨v,rfl,h1,h2⟩)):=h
def Vg(n m:Value)(x y:Int)(w:au)(ha:bO w n x)(hb:bO w m y)(fx:cM x)(fy:cM y)(hy:0<y):
 Calls prog 90 #[n,m] w fun e V=>∃X,e= .returned X/\fB V X (Rat.divInt x y)/\Ext w V:=by
 open q67 in exact yu
def ak6(a b:Rat):Rat.divInt (a.num*b.den - b.num*a.den) (a.den*b.den)=a - b:=by have h:=Kk a (-b);rw[Rat.neg_num,Rat.neg_den,Int.neg_mul,<-aaz] at h;rw[h,Rat.sub_eq_add_neg]
def q68.L0(h:ai:=by
 have N:=af (Hd (qM p) (qM q));clear ha hb fa fb C;go_enter func44,ntmps44;go_wp2_with fail;refine sf fun W n l k O=> ?_;obtain⟨M,L,K,J⟩:=l.four;obtain⟨I,H,G,F⟩:=k.four;go_region_held3 (fun f=>(ay f w.heap.size 0 (.bool ba)/\ay f w.heap.size 1 (.slice Aa na ca)/\ay f w.heap.size 2 (.bool bb)/\ay f w.heap.size 3 (.slice Ab nb cb))/\ay f (w.heap.size+1) 0 (.bool bc)/\ay f (w.heap.size+1) 1 (.slice Ac nc cc)/\ay f (w.heap.size+1) 2 (.bool bd)/\ay f (w.heap.size+1) 3 (.slice Ad nd cd)) (first|with_reducible exact⟨⟨M,L,K,J⟩,I,H,G,F⟩|with_reducible exact⟨l.ae.drew.four,k.ae.drew.four⟩|with_reducible exact⟨(l.ae.ext g).four,(k.ae.ext g).four⟩|with_reducible exact⟨(l.ae.ext i).four,(k.ae.ext i).four⟩|with_reducible exact⟨(l.ae.ext c).four,(k.ae.ext c).four⟩|with_reducible exact⟨((l.ae.ext c).pL (B_ _) _ _ _ _).four,((k.ae.ext c).pL (Bu _) _ _ _ _).four⟩)
  (first
    |(go_at_call 91;(with_reducible show Calls _ _ #[Value.agg #[Value.bool ba,_],_] _ _);refine(AO _ _ p.num q.num _ (HA.ext aAh) (HC.ext aAh) FA.wide FC.wide).mono ?_;rintro b R ⟨U,rfl,u,r⟩;have g:=(aC W).drew.trans r)
    |(go_at_call 91;(with_reducible show Calls _ _ #[Value.agg #[Value.bool bb,_],_] _ _);refine(AO _ _ p.den q.den _ (HB.ext az8) (HD.ext az8) FB.wide FD.wide).mono ?_;rintro b Q ⟨T,rfl,t,m⟩;have i:=g.trans m)
    |(go_at_call 90;refine(Vg _ _ _ _ _ (u.ext (by exact m)) t F4 F3 N).mono ?_;rintro b P ⟨S,rfl,s,o⟩;have c:=i.trans o;obtain⟨e,R0,d,Z,Y,S0,X,V,rfl,y,x⟩:=(s).parts;have j:=af (O.ext c);obtain⟨k0,k1,k2,k3⟩:=j.four;obtain⟨f0,f1,f2,f3⟩:=j.fO))
 all_goals
  go_wp2;refine Kq rfl rfl rfl j.ae (.mk' y.ae x.ae) (n.trans c) Om (fun v W' E D=>⟨v,rfl,?_,D⟩);rw[<-Kh];exact E):=h
def amU(A z:Value)(p q:Rat)(w:au)(ha:fB w A p)(hb:fB w z q)(fa:bS a p)(fb:bS b q)(C:a+b+1<=1000000):
 Calls prog 44 #[A,z] w fun b f=>∃B,b= .returned B/\fB f B (p*q)/\Ext w f:=by
 have F4:=af (Hz fa.1 fb.1 (show a+b<=1000000 by omega));open q68 in exact m16
def q69.L0(h:ai:=by
 have T:=af (Hd (qM p) (qM q));clear ha hb fa fb I;go_enter func87,ntmps87;go_wp2_with fail;refine sf fun W n k j U=> ?_;obtain⟨S,R,Q,P⟩:=k.four;obtain⟨O,N,M,L⟩:=j.four;go_region_held3 (fun f=>(ay f w.heap.size 0 (.bool ba)/\ay f w.heap.size 1 (.slice Aa na ca)/\ay f w.heap.size 2 (.bool bb)/\ay f w.heap.size 3 (.slice Ab nb cb))/\ay f (w.heap.size+1) 0 (.bool bc)/\ay f (w.heap.size+1) 1 (.slice Ac nc cc)/\ay f (w.heap.size+1) 2 (.bool bd)/\ay f (w.heap.size+1) 3 (.slice Ad nd cd)) (first|with_reducible exact⟨⟨S,R,Q,P⟩,O,N,M,L⟩|with_reducible exact⟨k.ae.drew.four,j.ae.drew.four⟩|with_reducible exact⟨(k.ae.ext i).four,(j.ae.ext i).four⟩|with_reducible exact⟨(k.ae.ext m).four,(j.ae.ext m).four⟩|with_reducible exact⟨(k.ae.ext g).four,(j.ae.ext g).four⟩|with_reducible exact⟨(k.ae.ext l).four,(j.ae.ext l).four⟩|with_reducible exact⟨(k.ae.ext c).four,(j.ae.ext c).four⟩|with_reducible exact⟨((k.ae.ext c).pL (B_ _) _ _ _ _).four,((j.ae.ext c).pL (Bu _) _ _ _ _).four⟩)
  (first
    |(go_at_call 91;(with_reducible show Calls _ _ #[Value.agg #[Value.bool ba,_],_] _ _);refine(AO _ _ p.num q.den _ (HA.ext aAh) (HD.ext aAh) FA.wide FD.wide).mono ?_;rintro b d ⟨v3,rfl,C,x⟩;have i:=(aC W).drew.trans x)
    |(go_at_call 91;(with_reducible show Calls _ _ #[Value.agg #[Value.bool bc,_],_] _ _);refine(AO _ _ q.num p.den _ (HC.ext (by exact n.trans i)) (HB.ext (by exact n.trans i)) FC.wide FB.wide).mono ?_;rintro b Z ⟨v4,rfl,B,s⟩;have m:=i.trans s)
    |(go_at_call 156;refine(adJ _ _ _ _ _ (C.ext (by exact s)) B F1.wide F2.wide).mono ?_;rintro b Y ⟨v5,rfl,A,u⟩;have g:=m.trans u)
    |(go_at_call 91;(with_reducible show Calls _ _ #[Value.agg #[Value.bool bb,_],_] _ _);refine(AO _ _ p.den q.den _ (HB.ext az8) (HD.ext az8) FB.wide FD.wide).mono ?_;rintro b X ⟨v6,rfl,z,r⟩;have l:=g.trans r)
    |(go_at_call 90;refine(Vg _ _ _ _ _ (A.ext (by exact r)) z F4 F3 T).mono ?_;rintro b V ⟨e,rfl,y,t⟩;have c:=l.trans t;obtain⟨r0,R0,r1,r2,s0,S0,s1,s2,rfl,E,D⟩:=(y).parts;have o:=af (U.ext c);obtain⟨k0,k1,k2,k3⟩:=o.four;obtain⟨f0,f1,f2,f3⟩:=o.fO))
 all_goals
  go_wp2;refine Kq rfl rfl rfl o.ae (.mk' E.ae D.ae) (n.trans c) Om (fun v W' K J=>⟨v,rfl,?_,J⟩);rw[<-Kk];exact K):=h
def amV(G F:Value)(p q:Rat)(w:au)(ha:fB w G p)(hb:fB w F q)(fa:bS a p)(fb:bS b q)(I:a+b+1<=1000000):
 Calls prog 87 #[G,F] w fun b f=>∃H,b= .returned H/\fB f H (p+q)/\Ext w f:=by
 have F4:=af (bS.aiT fa fb I);open q69 in exact m16
def q70.L0(h:ai:=by
 have P:=af (Hd (qM p) (qM q));clear ha hb fa fb he;go_enter func164,ntmps164;go_wp2_with fail;refine sf fun W k g f U=> ?_;obtain⟨O,N,M,L⟩:=g.four;obtain⟨K,J,I,H⟩:=f.four;go_region_held3 (fun d=>(ay d w.heap.size 0 (.bool G)/\ay d w.heap.size 1 (.slice Aa na ca)/\ay d w.heap.size 2 (.bool F)/\ay d w.heap.size 3 (.slice Ab nb cb))/\ay d (w.heap.size+1) 0 (.bool E)/\ay d (w.heap.size+1) 1 (.slice Ac nc cc)/\ay d (w.heap.size+1) 2 (.bool bd)/\ay d (w.heap.size+1) 3 (.slice Ad nd cd)) (first|with_reducible exact⟨⟨O,N,M,L⟩,K,J,I,H⟩|with_reducible exact⟨g.ae.drew.four,f.ae.drew.four⟩|with_reducible exact⟨(g.ae.ext c).four,(f.ae.ext c).four⟩|with_reducible exact⟨(g.ae.ext j).four,(f.ae.ext j).four⟩|with_reducible exact⟨(g.ae.ext b).four,(f.ae.ext b).four⟩|with_reducible exact⟨(g.ae.ext i).four,(f.ae.ext i).four⟩|with_reducible exact⟨(g.ae.ext a).four,(f.ae.ext a).four⟩|with_reducible exact⟨((g.ae.ext a).pL (B_ _) _ _ _ _).four,((f.ae.ext a).pL (Bu _) _ _ _ _).four⟩)
  (first
    |(go_at_call 91;(with_reducible show Calls _ _ #[Value.agg #[Value.bool G,_],_] _ _);refine(AO _ _ p.num q.den _ (HA.ext (by exact k.drew)) (Q.ext (by exact k.drew)) FA.wide S.wide).mono ?_;rintro e w3 ⟨v3,rfl,z,s⟩;have c:=(aC W).drew.trans s)
    |(go_at_call 91;(with_reducible show Calls _ _ #[Value.agg #[Value.bool E,_],_] _ _);refine(AO _ _ q.num p.den _ (HC.ext (by exact k.trans c)) (R.ext (by exact k.trans c)) FC.wide T.wide).mono ?_;rintro e Z ⟨v4,rfl,y,n⟩;have j:=c.trans n)
    |(go_at_call 216;refine(aoI _ _ _ _ _ (z.ext (by exact n)) y F1.wide F2.wide).mono ?_;rintro e Y ⟨v5,rfl,x,r⟩;have b:=j.trans r)
    |(go_at_call 91;(with_reducible show Calls _ _ #[Value.agg #[Value.bool F,_],_] _ _);refine(AO _ _ p.den q.den _ (R.ext (by exact k.trans b)) (Q.ext (by exact k.trans b)) T.wide S.wide).mono ?_;rintro e X ⟨v6,rfl,u,m⟩;have i:=b.trans m)
    |(go_at_call 90;refine(Vg _ _ _ _ _ (x.ext (by exact m)) u F4 F3 P).mono ?_;rintro e V ⟨v7,rfl,t,o⟩;have a:=i.trans o;obtain⟨r0,R0,r1,r2,s0,S0,s1,s2,rfl,B,A⟩:=(t).parts;have l:=af (U.ext a);obtain⟨k0,k1,k2,k3⟩:=l.four;obtain⟨f0,f1,f2,f3⟩:=l.fO))
 all_goals
  go_wp2;refine Kq rfl rfl rfl l.ae (.mk' B.ae A.ae) (k.trans a) Om (fun v W' D C=>⟨v,rfl,?_,C⟩);rw[<-ak6];exact D):=h
def abD(v:Value)(q:Rat)(w:au)(h:fB w v q)(hf:bS 400 q):
 Calls prog 45 #[v] w fun e k=>e= .returned (.tuple #[aO (cL q),av 0])/\Ext w k:=by
 obtain⟨b,A,n,c,r,t,m,p,rfl,H,H'⟩:=h.parts;have iY:nDigits (q.den:Int).natAbs<=400:=by rw[f6];exact hf.dd
 have GN:=af (fun(v:Value) (w:au) (h:bO w v q.num)=>acx v q.num w h hf.dn);have GD:=af (fun(v:Value) (w:au) (h:bO w v q.den)=>acx v q.den w h iY);have YV:=vW q.num;have rx:=hf.dn;have kB:=hf.dd;have Ms:decDigits q.den=aR q.den:=(rS _).symm;have IY:(aR q.num).length<=401:=Om;have yS:(aR q.den).length<=400:=by rw[<-Ms,decDigits_length];exact kB
 clear h;by_cases h1:q.den=1
 ·have g:=af (pG h1);have d:(aR q.den== [49])=true:=by rw[h1];rw[beq_iff_eq];exact td
  rw[g.ae];generalize aR q.num=a at*;generalize aR q.den=j at*;exact m61
 ·have g:=af (qH h1);have d:(aR q.den== [49])=false:=(by rw[beq_eq_false_iff_ne];intro h;have o:(q.den:Int)=1:=AV (h.trans td.symm);exact h1 Om)
  rw[g.ae,Ms];have l:=fun w=>KU (aR q.num) [47] w Oc;have f:=fun w=>KU (aR q.num++ [47]) (aR q.den) w Oc;have i:ah (aR q.num++ [47]++aR q.den=aR q.num++47::aR q.den):=by rw[ah];simp
  generalize aR q.num=a at*;generalize aR q.den=j at*;rw[i.ae] at f;generalize a++47::j=s at*;exact m61
def arw(h:bO m (.agg #[.bool R,.slice E a b]) B):(((a:Int)==0))=decide (B=0):=by
 obtain⟨_,rfl,_⟩:=h.inv;by_cases d:B=0
 ·subst d;rfl
 ·rw[decide_eq_false d,beq_eq_false_iff_ne];have:=abr h d;omega
def ale(v:Value)(q:Rat)(w:au)(h:fB w v q):
 Calls prog 217 #[v] w fun e a=>e= .returned (.bool (decide (q.num=0)))/\Ext w a:=by
 obtain⟨b,A,n,c,i,k,f,g,rfl,H,j⟩:=h.parts;have d:=af (arw H);clear h;go_enter func217,ntmps217;go_wp2;go_ret;exact⟨aoM d,(aC w).alloc _⟩
def alf(v:Value)(q:Rat)(w:au)(h:fB w v q):
 Calls prog 165 #[v] w fun e d=>e= .returned (av q.num.sign)/\Ext w d:=by
 have HZ:=af (fun(w:au) (h:fB w v q)=>ale v q w h);obtain⟨b,A,n,c,i,k,f,g,rfl,H,j⟩:=h.parts;have HV:=af h;have a:=H.inv.1;clear h;rcases Tm q.num 0 with hz|hz|hz
 ·rw[decide_eq_true hz] at a;subst a;have HS:=af (N2 hz);clear hz;go_enter func165,ntmps165;go_wp2;go_ret;exact⟨pI HS.symm,(aC w).alloc _⟩
 ·rw[decide_eq_false Om] at a;subst a;have hd:decide (q.num=0)=true:=decide_eq_true hz;have HS:ah (q.num.sign=0):=by rw[ah,hz];rfl
  exact m91
 ·rw[decide_eq_false Om] at a;subst a;have hd:decide (q.num=0)=false:=aW;have HS:=af (Dx hz);exact m91
def q71.k73(h:ai:=by refine(G _ w5 wR).mono ?_;rintro e l ⟨rfl,c⟩;go_wp2;go_ret2;exact⟨rfl,hx1.trans (hx2.trans (hx3.trans (iW.trans (iu.trans c))))⟩):=h
def amZ(p q:Rat)(w:au)(b:bS 400 p)(a:bS 400 q)(g:bS 400 (p*q)):
 Calls prog 15 #[aO (cL p),aO (cL q)] w fun e i=>e= .returned (.tuple #[aO (cL (p*q)),av 0])/\Ext w i:=by
 have G:=af (fun(v:Value) (w:au) (h:fB w v (p*q))=>abD v (p*q) w h g);clear g;have V1:=af (fun w=>OQ p w b);have V2:=af (fun w=>OQ q w a);have R1:=af (fun w=>OY p w (e:=399) b Od);have R2:=af (fun w=>OY q w (e:=399) a Od);have OP:=af (fun(f d:Value) (w:au) (k:fB w f p) (j:fB w d q)=>amU f d p q w k j b a Od);clear b a;generalize cL p=n at*;generalize cL q=m at*;go_enter func15,ntmps15;open q71 in exact m73
def q72.k73(h:ai:=by refine(alf _ (p - q) k i).mono ?_;rintro e j ⟨rfl,a⟩;go_wp2;go_ret;exact⟨rfl,g.trans (f.trans (d.trans (c.trans (b.trans a))))⟩):=h
end Go.Proofs.YthfffpcmldipgaaGreatDoor
