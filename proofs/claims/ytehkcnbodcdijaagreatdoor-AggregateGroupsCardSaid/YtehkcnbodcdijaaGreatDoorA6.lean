/- Texts of the proof, part 6. -/
import Derived.Test.YtehkcnbodcdijaaGreatDoorA5
namespace Go.Proofs.YtehkcnbodcdijaaGreatDoor
set_option maxHeartbeats 8000000
set_option linter.all false
set_option maxRecDepth 100000
variable{ar:Prop}
open Go.RowKit Go.Lib Go.Maps Go.ChangeShapes Go.WideShapes Go.ChangeAt Go.Proofs.Tryz
variable{a b c d e f g h:Nat}{i j k l:List Nat}{m n o:World}{p q r s:Value}{t u v:List Value}{w x:TypeId}{y z:Nat→Option Nat}{A:Nat→List Nat}{B C:Int}{E F:Option Addr}{H I:Rat}{J:Nat→Nat}{K:Nat→Bool}{L:List Int}{N:Array Bool}{O:Option Nat}{Q:Act}{R S:Bool}{T:List UInt8}
abbrev bF:TypeId:=105
abbrev tI:TypeId:=3
abbrev ui:TypeId:=22
def ed(l:List Nat):List Value:=l.map fun x:Nat=>Value.int .i64 (x:Int)
def rM(l:List Nat):(ed l).length=l.length:=by simp [ed]
def oI(h:a<i):(ed i)[a]? =some (.int .i64 (i[a]:Int)):=by simp [ed,h]
def amH(l:List Nat)(k:Nat):(ed l).take k=ed (l.take k):=by simp [ed,E1]
def Cs(l:List Nat)(x:Nat):ed (l++ [x])=ed l++ [.int .i64 (x:Int)]:=by simp [ed]
abbrev nB(w:au)(A:aQ)(l:List Nat):Prop:=Sl w tI A (ed l)
def tE(A:aQ)(n c:Nat):Prop:=n<=c/\(A=none->c=0)
def C9{size:Nat}(h:m.ownsRow a w size (.slice E b c) b t):tE E b c:=by
 rcases h.2 with⟨d,rfl⟩|⟨g,o,l,d,_,_,k,_⟩
 ·injection d with i _ f;exact⟨by omega,fun _=>f⟩
 ·injection d with i _ f;subst f;exact⟨k,fun j=>by rw[i] at j;cases j⟩
def dJ(w:au)(v:Value)(z:Int):Prop:=∃A c,v= .agg #[.bool (decide (z<0)),.slice A (a7 z.natAbs).length c]/\tE A (a7 z.natAbs).length c/\nB w A (a7 z.natAbs)
def dJ.ext{w':au}(h:dJ m p B)(a:Ext m w'):dJ w' p B:=by obtain⟨A,c,rfl,d,b⟩:=h;exact⟨A,c,rfl,d,b.ext a⟩
def dJ.keep(h:dJ m p B)(a:Kept tI m n):dJ n p B:=by obtain⟨A,c,rfl,d,b⟩:=h;exact⟨A,c,rfl,d,b.keep a⟩
def dJ.parts(h:dJ m p B):∃b A n c,p= .agg #[.bool b,.slice A n c]/\ah (dJ m (.agg #[.bool b,.slice A n c]) B):=by obtain⟨A,c,rfl,d,a⟩:=h;exact⟨_,A,_,c,rfl,⟨A,c,rfl,d,a⟩⟩
def dJ.mk'{A:aQ}{neg:Bool}{z:Int}(d:Canon i)(a:val i=z.natAbs)(f:neg=decide (z<0))(g:tE A i c)(b:nB m A i):dJ m (.agg #[.bool neg,.slice A i c]) z:=by
 have e:a7 z.natAbs=i:=by rw[<-a];exact ad0 d
 exact⟨A,c,by rw[e,f],by rw[e];exact g,by rw[e];exact b⟩
def aub(w:au)(v:Value)(a:Bool)(l:List Nat):Prop:=∃A c,v= .agg #[.bool a,.slice A l.length c]/\tE A l.length c/\bI l/\nB w A l
def NT(o:Option Value):Nat:=match o with
 |some (.slice _ n _)=>n
 |_=>0
def NE{l:Func}{e:Ending->World->Prop}(f:l.results= #[.cell a bF])(r:Q.tmps.getD a undef=aI b 0)(s:Q.defers= [])
 (k:aq n b bF [p,q]) (x:dJ n (.agg #[.bool R,.slice E c d]) B) (o:Ext m n) (j:m.heap.size<=b) (u:∀v i,dJ i v B->Ext m i->e (.returned v) i):
 bodyPost prog l e .ret Q ((n.setCell (aD b 0) (.bool R)).setCell (aD b 1) (.slice E c d)):=by
 have h:aq ((n.setCell (aD b 0) (.bool R)).setCell (aD b 1) (.slice E c d)) b bF [.bool R,.slice E c d]:=(k.bh 0 (.bool R)).bh 1 (.slice E c d);exact bodyPost_ret (results_cell_row f Q.tmps _ b bF #[.bool R,.slice E c d] (0,0) _ r h underlying105 rfl Ok) s (u _ _ (x.keep (k.pW Od _ _ _ _)) ((o.setCell j _).setCell j _))
def ac4{l:Func}{e:Ending->World->Prop}(f:l.results= #[.cell a bF])(r:Q.tmps.getD a undef=aI b 0)(s:Q.defers= [])
 (k:aq n b bF [p,q]) (v:dJ n (.agg #[.bool R,.slice E c d]) B) (o:Ext m n) (j:m.heap.size<=b) (u:∀i,dJ i (.agg #[.bool R,.slice E c d]) B->Ext m i->e (.returned (.agg #[.bool R,.slice E c d])) i):
 bodyPost prog l e .ret Q ((n.setCell (aD b 0) (.bool R)).setCell (aD b 1) (.slice E c d)):=by
 have h:aq ((n.setCell (aD b 0) (.bool R)).setCell (aD b 1) (.slice E c d)) b bF [.bool R,.slice E c d]:=(k.bh 0 (.bool R)).bh 1 (.slice E c d);exact bodyPost_ret (results_cell_row f Q.tmps _ b bF #[.bool R,.slice E c d] (0,0) _ r h underlying105 rfl Ok) s (u _ (v.keep (k.pW Od _ _ _ _)) ((o.setCell j _).setCell j _))
def aj0(a:Bool)(n:Nat)(h:0<n):a=decide (signed a n<0):=by rw[RZ,decide_eq_true h,Rm]
def R2(A:aQ)(c:Nat)(neg:Bool)(l:List Nat)(w:au)(j:tE A l c)(J:bI l)(I:nB w A l)(Z:l.length<=100000000):
 Calls prog 152 #[.agg #[.bool neg,.slice A l c]] w fun e H=>∃b n,e= .returned (.agg #[.bool b,.slice A n c])/\dJ H (.agg #[.bool b,.slice A n c]) (signed neg (val l))/\Ext w H:=by
 have hc:=j.1;have F:=af j.2;clear j;have K:=af I;have V:=af J;clear I J;go_enter func152,ntmps152;go_wp2_with fail
 refine gJ fun W T X U=> ?_;go_loopw [] (fun wr=>∃n:Nat,n<=l/\ah (Behind l n)/\ah (aq wr w.heap.size bF [.bool neg,.slice A n c])/\ah (aq wr (w.heap.size+1) bF [.bool false,.slice none 0 0])/\ah (Ext w wr)) (fun wr=>NT (wr.cell? (aD w.heap.size 1)));exact⟨l,aL _,⟨aL _,by simp⟩,X,U,T⟩;obtain⟨n,Q,q,d,a,f⟩:=hrel;obtain⟨Y,N⟩:=d.two;have f1:=d.frozen 1;by_cases h0:0<n
 ·obtain⟨k,rfl⟩:∃k,n=k+1:=⟨n - 1,by omega⟩;obtain⟨g,o,rfl,_,u⟩:=(K.ext f).at_ (oI (show k<l by omega));have R:decide ((0:Int)<(k:Int)+1)=true:=fN;by_cases r:l[k]=0
  ·have t:((l[k]:Int)==0)=true:=by simp [r]
   have C:=af r;clear r;go_wp2;go_roundw;exact⟨k,by omega,q.step (fun _=>C.ae),d.bh 1 _,a.far (p:=aD w.heap.size 1) (gU (xU _)) _,f.setCell (p:=aD w.heap.size 1) (aL _) _⟩;rw[N,(d.bh 1 _).aF 1];simp [NT]
  ·have t:((l[k]:Int)==0)=false:=by simpa using r
   have O:(((k:Int)+1)==0)=false:=axo;have s:ah (Canon (l.take (k+1))/\val (l.take (k+1))=val l):=⟨⟨V.take _,gN.TT Oc (by simpa [cO,i9 Q] using r)⟩,Mn l (k+1) q.2⟩;have m:ah ((l.take (k+1))=k+1):=by rw[ah,cO];omega
   obtain⟨M,L⟩:=a.two;have B:=a.frozen 0;have y:=a.frozen 1;have E:ah (dJ wr (.agg #[.bool neg,aG g o (k+1) c]) (signed neg (val l))):=(by have P:0<val (l.take (k+1)):=CK s.1 (fun h=>by have:=m.ae;rw[h] at this;simp at this);have:=dJ.mk' (A:=dV g o) (neg:=neg) (z:=signed neg (val l)) (c:=c) s.1 (by rw[EY];exact s.2) (aj0 _ _ (by rw[<-s.2];exact P)) ⟨by rw[m.ae];omega,fun h=>by cases h⟩ (by unfold nB;rw[<-amH];exact(K.ext f).take _);rwa[m.ae] at this)
   clear r;go_wp2;exact ac4 rfl rfl rfl a.ae E f (mX _) (fun S x v=>⟨_,_,rfl,x,v⟩)
 ·obtain rfl:n=0:=Om;have f0:=d.frozen 0;have G:=af (d.bh 0 (.bool false));have i:=af (a.far (p:=aD w.heap.size 0) (gU (xU _)) (.bool false));have D:=af (f.setCell (p:=aD w.heap.size 0) (aL _) (.bool false));have C:ah (signed neg (val l)=0):=(by have:=Mn l 0 q.2;rw[ah,<-this,kG];cases neg<;>rfl)
  obtain⟨b0,b1⟩:=G.two;obtain⟨M,L⟩:=i.two;have B:=i.frozen 0;have y:=i.frozen 1;have E:ah (dJ (wr.setCell (aD w.heap.size 0) (.bool false)) (.agg #[.bool false,.slice A 0 c]) (signed neg (val l))):=by rw[ah,C.ae];exact⟨A,c,rfl,⟨aU _,F⟩,Sl.nil⟩
  go_wp2;exact ac4 rfl rfl rfl i.ae E D (mX _) (fun S x v=>⟨_,_,rfl,x,v⟩)
def abK(v:Value)(a:Bool)(l:List Nat)(w:au)(h:aub w v a l)(j:l.length<=100000000):
 Calls prog 152 #[v] w fun e d=>∃g,e= .returned g/\dJ d g (signed a (val l))/\Ext w d:=by
 obtain⟨A,c,rfl,f,k,i⟩:=h;refine(R2 A c a l w f k i j).mono ?_;rintro e d ⟨b,n,rfl,o,m⟩;exact⟨_,rfl,o,m⟩
def adw:(prog.info? tI).map (fun i=>(i.zero,i.size,i.bytes))=some (some (.int .i64 0),1,8):=Ok
def jo:j7 prog ui tI 1 8:= .mk' underlying22 adw rfl Od Od
def TR{size:Nat}(h:m.ownsRow a w size p b t){c:Addr}(q:c.block<a)(u:Value):(m.setCell c u).ownsRow a w size p b t:=by
 obtain⟨i,o|⟨g,f,d,j,l,k,r⟩⟩:=h
 ·exact⟨i,.inl o⟩
 ·exact⟨i,.inr ⟨g,f,d,j,l,(Mm m c u g Om).trans k,r⟩⟩
def F7(n a:Nat)(r:List Nat):Prop:=bI r/\(a=0->gN r)/\val r+B9^r.length*a=n/\r.length<=3/\(r.length=1->a<=9999999999)/\(r.length=2->a<=9)/\(r.length=3->a=0)
def aax(n:Nat):F7 n n []:=⟨kK,fun _=>gN.nil,by simp,by simp,by simp,by simp,by simp⟩
def akg(h:F7 a b i)(p:0<b)(m:a<=9223372036854775808):F7 a (b/B9) (i++ [b%B9])/\b<=9223372036854775808:=by
 obtain⟨e,l,c,o,j,g,f⟩:=h;have d:b<=a:=(by rw[<-c];have:=Nat.le_mul_of_pos_left b (aq0 i);omega)
 refine⟨⟨e.snoc (fC _ Od),fun k=> ?_,?_,?_,?_,?_,?_⟩,by omega⟩
 ·refine gN.TT Ou ?_;have:b%B9=b:=uW (by have:=uX b B9;rw[k] at this;have:=fC b (show 0<B9 by decide);omega);simp;omega
 ·rw[pT,bD,gc,eA,<-c,fS,Ci,<-gh];congr 2;rw[nL];exact uX b B9
 ·rw[bD,gc];rcases cA i 3 with h|h
  ·omega
  ·have:=f Om;omega
 ·rw[bD,gc];intro h;unfold B9;omega
 ·rw[bD,gc];intro h;have:=j Om;unfold B9;omega
 ·rw[bD,gc];intro h;have:=g Om;unfold B9;omega
def ame(h:F7 a 0 i):Canon i/\val i=a:=⟨⟨h.1,h.2.1 rfl⟩,by have:=h.2.2.1;simpa using this⟩
def apw(z:Int)(w:au)(h0: -9223372036854775808<=z)(h1:z<=9223372036854775807):
 Calls prog 75 #[.int .i64 z] w fun e m=>∃v',e= .returned v'/\dJ m v' z/\Ext w m:=by
 have HZ:ah (z.natAbs<=9223372036854775808):=by unfold ah;omega
 by_cases n:z<0
 ·have i:decide (z<0)=true:=decide_eq_true n;have uI:=af i;go_enter func75,ntmps75;go_wp2_with fail
  refine gJ fun W j l g=> ?_;obtain⟨bz,d⟩:∃b:Bool,true=b:=⟨_,rfl⟩;rw[d] at g uI;clear d;go_loopw [0,4] (fun f _ wr=>∃(a:Nat) (r:List Nat) (A:aQ) (c:Nat),f= .int .i64 (-(a:Int))/\a<=9223372036854775808/\ah (F7 z.natAbs a r)/\r.length<=3/\ah (wr.ownsRow (w.heap.size+1+1) tI 1 (.slice A r c) r (ed r))/\ah (aq wr (w.heap.size+1) bF [.bool bz,.slice A r c])/\ah (aq wr w.heap.size bF [.bool false,.slice none 0 0])/\ah (Ext w wr)) (fun f _ _=>(RowKit.intOf f).natAbs);exact⟨z.natAbs,[],none,0,congrArg _ Om,by omega,aax _,by simp,mQ _ _ _ _,g,l,j⟩;exact m6
 ·have i:decide (z<0)=false:=decide_eq_false n;have uI:=af i;go_enter func75,ntmps75;go_wp2_with fail
  refine gJ fun W j l g=> ?_;obtain⟨bz,d⟩:∃b:Bool,false=b:=⟨_,rfl⟩;rw[d] at g uI;clear d;go_loopw [0,4] (fun f _ wr=>∃(a:Nat) (r:List Nat) (A:aQ) (c:Nat),f= .int .i64 (a:Int)/\a<=9223372036854775808/\ah (F7 z.natAbs a r)/\r.length<=3/\ah (wr.ownsRow (w.heap.size+1+1) tI 1 (.slice A r c) r (ed r))/\ah (aq wr (w.heap.size+1) bF [.bool bz,.slice A r c])/\ah (aq wr w.heap.size bF [.bool false,.slice none 0 0])/\ah (Ext w wr)) (fun f _ _=>(RowKit.intOf f).natAbs);exact⟨z.natAbs,[],none,0,congrArg _ Om,by omega,aax _,by simp,mQ _ _ _ _,g,l,j⟩;exact m6
abbrev DJ:TypeId:=199
def apl:(prog.info? t8).map (fun i=>(i.zero,i.size,i.bytes))=some (some (.int .u8 0),1,1):=Ok
def acP:j7 prog DJ t8 1 1:= .mk' underlying199 apl rfl Od Od
def anU{m:Nat}(h:n.ownsRow a w 1 (.slice E b c) b t)(s:m<=b)(y:0<b):n.ownsRow a w 1 (.slice E m c) m (t.take m):=by
 obtain⟨u,⟨_,x⟩|⟨g,r,f,j,o,l,v,d,k,i⟩⟩:=h
 ·omega
 ·injection j with q _ p;subst q p;refine⟨by rw[cO];omega,.inr ⟨g,c,f,rfl,o,l,by omega,d,k,?_⟩⟩;rw[<-i,My];congr 1;omega
def Uj(h:m.ownsRow a w 1 (.slice E b c) b t)(v:0<b):∃g,E=dV g 0/\a<=g/\g<m.heap.size/\t=b:=by
 obtain⟨r,⟨_,u⟩|⟨g,o,l,d,j,i,s,f,q,p⟩⟩:=h
 ·omega
 ·injection d with k _ x;exact⟨g,k,j,ie i,by omega⟩
def uA(L M:List UInt8)(i:Nat):Prop:=M.length=L.length/\∀j,j<L.length->M[j]? =if j<i\/L.length<=j+i then L[L.length - 1 - j]? else L[j]?
def uA.start(L:List UInt8):uA L L 0:=⟨rfl,fun j a=>by rw[if_neg Om]⟩
def uA.step{M:List UInt8}(h:uA T M a)(p:a+b+1=T)(n:a<b)(x y:UInt8)(m:M[b]? =some x)(l:M[a]? =some y):uA T ((M.set a x).set b y) (a+1):=by
 refine⟨by simpa using h.1,fun j o=> ?_⟩;rw[pN];have q:=h.1;have f:=h.2 a Om;have e:=h.2 b Om;rw[if_neg Om] at f e;by_cases c:b=j
 ·subst c;rw[if_pos rfl,if_pos Oc,if_pos Om,<-l,f];congr 1;omega
 ·rw[if_neg c,pN];by_cases d:a=j
  ·subst d;rw[if_pos rfl,if_pos Om,if_pos Om,<-m,e];congr 1;omega
  ·rw[if_neg d,h.2 j o];by_cases g:j<a\/T<=j+a
   ·rw[if_pos g,if_pos Om]
   ·rw[if_neg g,if_neg Om]
def uA.done{M:List UInt8}{k:Nat}(h:uA T M a)(e:a+k+1=T)(d:¬a<k):M=T.reverse:=by
 apply rF
 intro j;rcases cA j T with b|b
 ·rw[h.2 j b,List.getElem?_reverse b];by_cases c:j<a\/T<=j+a
  ·rw[if_pos c]
  ·rw[if_neg c];congr 1;omega
 ·rw[eT (by rw[h.1];exact b),eT axG]
def Z'(M:List UInt8)(i:Nat)(x:UInt8):(byteCells M).set i (.int .u8 (x.toNat:Int))=byteCells (M.set i x):=by simp [byteCells,E7]
def anT(j x:Nat):(eJ (j+1) x).reverse=(eJ j x).reverse++ [UInt8.ofNat (48+x/10^j%10)]:=by rw[al2,List.reverse_cons]
def akX(d:Nat)(h:d<10):byteCells [UInt8.ofNat (48+d)]= [.int .u8 (48+(d:Int))]:=by simp only[byteCells,jc,List.map_nil];rw[Fy h];congr 2
def alp(h:m.ownsRow a t8 1 (aG b 0 c d) c (byteCells T)):(convert DJ 9 (aG b 0 c d)).run prog m= .ok (.string ⟨T.toArray⟩) m:=by
 have e:T=c:=by have:=h.1;rw[byteCells_length] at this;omega
 subst e;refine run_convert_bytes_back (P:=prog) m DJ 9 t8 ⟨b,0,none⟩ d T underlying199 underlying5 underlying9 (fun j f=> ?_);rw[Lib.add_plain,jL,h.cellAt j Om,Cg f]
def q26.agR(h:ar:=by
 go_region
 all_goals go_wp2
 all_goals
  go_roundw;exact⟨i+1,j - 1,(M.set i y).set j x,by have:=yD.ae;omega,by go_num,congrArg _ Om,HRS,pD.drew,((ox.setCell (p:=aD C i) F _).setCell (p:=aD C j) F _).drew⟩;simp [RowKit.intOf];omega):=h
def q27.agR(h:ar:=by
 go_region
 all_goals go_wp2
 all_goals
  go_roundw;exact⟨i+1,j - 1,(M.set i y).set j x,by have:=yD.ae;omega,by go_num,congrArg _ Om,HRS,pD.drew,((ox.setCell (p:=aD g4 i) E _).setCell (p:=aD g4 j) E _).drew⟩;simp [RowKit.intOf];omega):=h
def alF(v:Value)(z:Int)(w:au)(h:dJ w v z)(hf:kL z):
 Calls prog 81 #[v] w fun e w'=>e= .returned (.string ⟨(aY z).toArray⟩)/\Ext w w':=by
 obtain⟨A,c,rfl,hc,hs⟩:=h;unfold kL Fit at hf;by_cases hz:z.natAbs=0
 ·have hl:(a7 z.natAbs).length=0:=by rw[hz];rfl
  have hn:aY z= [48]:=(by have:z=0:=Om;subst this;exact Cy);rw[hn,hl];clear hn hs hc hf hl;go_enter func81,ntmps81;go_wp2;go_ret;exact⟨rfl,(aB w).alloc _⟩
 ·have h0:a7 z.natAbs≠ []:=fun h=>hz (ve.1 h);have hl:0<(a7 z.natAbs).length:=Ik.2 h0;have HC:=af (dE z.natAbs);have N:=af (dG z.natAbs);have HS:=af hs;have LD:=af h0;generalize a7 z.natAbs=l at*;generalize U:decide (z<0)=R at*;have uI:=af U;have hl0:((l.length:Int)==0)=false:=axo;clear U hs hc h0 hz;go_enter func81,ntmps81;go_wp2_with fail
  refine aR fun W HX HB=> ?_;clear hl0;go_loopw [3,4,5,6] (fun J v4 _ _ wr=>∃k:Nat,k<=l/\v4= .int .i64 k/\ah (wr.ownsRow (w.heap.size+1) t8 1 J (9*k) (byteCells (nN (l.take k))))/\ah (Below (w.heap.size+1) W wr)) (fun _ v4 _ _ _=>l - (RowKit.intOf v4).toNat);exact⟨0,aU _,rfl,mQ _ _ _ _,xe _ _⟩;obtain⟨k,Y,rfl,Q,b⟩:=hrel;have nz:aA wr w.heap.size 1 (.slice A l c):=(b.cell (p:=aD w.heap.size 1) axA).trans (HB.aF 1);have nC:ah (Ext w wr):=pQ HX (b.mono (mX _));have S:w.heap.size+1<=wr.heap.size:=by have:=b.size;have:=HB.lt;omega
  have pz:=af S;clear S;by_cases B:k<l
  ·obtain⟨g,o,rfl,_,a⟩:=(HS.ext nC).at_ (oI B);have lj:l[k]<B9:=HC.1.getElem B;have fQ:ah (l.take (k+1)=l.take k++ [l[k]]):=fR B;generalize l[k]=x at*;unfold B9 at lj;go_wp2_with fail
   clear nz a;have Es:ah (wr.ownsRow (w.heap.size+1) t8 1 u3 (9*k+0) (byteCells (nN (l.take k)++(eJ 0 x).reverse))):=by rw[ah,eJ,List.reverse_nil,j5,kH];exact Q
   obtain⟨wo,rfl⟩:∃wo:World,wo=wr:=⟨_,rfl⟩;go_loopw [3,5,6] (fun J v5 v6 ws=>∃j:Nat,j<=9/\v6= .int .i64 j/\v5= .int .i64 ((x/10^j:Nat):Int)/\ah (ws.ownsRow (w.heap.size+1) t8 1 J (9*k+j) (byteCells (nN (l.take k)++(eJ j x).reverse)))/\ah (Below (w.heap.size+1) W ws)) (fun _ _ v6 _=>9 - (RowKit.intOf v6).toNat);exact⟨0,aU _,rfl,by simp,Es,b⟩;obtain⟨j,hj,rfl,rfl,P,u⟩:=hrel;by_cases hj9:j<9
   ·have D:w.heap.size+1<=wr.heap.size:=by have:=u.size;have:=HB.lt;omega
    have XZ:=af (anT j x);have hyx:x/10^j<=x:=Ce _ _;have HDV:ah (x/10^(j+1)=x/10^j/10):=by rw[ah,eA,Nat.div_div_eq_div_mul]
    generalize x/10^j=y at*;have YF:=af (akX (y%10) (fC _ Od));have Gs:(y:Int)%10=((y%10:Nat):Int):=Om;have hy3:(y:Int)/10=((y/10:Nat):Int):=Om;have atO:y%10<10:=fC _ Od;generalize y%10=d at*;generalize y/10=e at*;go_wp2_with (at_builtin;refine gf rfl _ _ DJ rfl (w.heap.size+1) acP _ _ _ rfl P.ae #[.int .u8 (48+(d:Int))] 1 1 rfl rfl rfl Om D ?_)
    intro v' w3 T hg3 _;have gP:=af (u.grown hg3 D (fun k Y=>(P.lt k Y).1));have fJ:ah (w3.ownsRow (w.heap.size+1) t8 1 v' (9*k+(j+1)) (byteCells (nN (l.take k)++(eJ (j+1) x).reverse))):=by rw[ah,XZ.ae,<-jk,byteCells_append,YF.ae];exact T
    clear T hg3 Gs;go_wp2;go_roundw;exact⟨j+1,by omega,by go_num,by rw[HDV.ae],fJ,gP⟩;simp [RowKit.intOf];omega
   ·obtain rfl:j=9:=Om;have ey:ah (wr.ownsRow (w.heap.size+1) t8 1 u3 (9*(k+1)) (byteCells (nN (l.take (k+1))))):=(by rw[ah,fQ.ae,aiI];exact P)
    go_wp2;go_roundw;exact⟨k+1,by omega,by go_num,ey,u⟩;simp [RowKit.intOf];omega
  ·obtain rfl:k=l.length:=Om;obtain⟨A3,c3,rfl,hc3,_,_⟩:=eL Q;obtain⟨zc,K⟩:=aj7 HC LD;rw[dD (aL _),K,N.ae] at Q;have f:=ail l;rw[K,N.ae,bD,Zy,decDigits_length,QU] at f;obtain⟨c0,r0,hd0,hc0,Xa⟩:=TF (n:=z.natAbs) (by have:=CK HC LD;rw[N.ae] at this;exact this);have hm:=nDigits_pos z.natAbs;have t:=af (decDigits_length z.natAbs);rw[<-f] at Q;have LR:=af hd0;generalize hm':nDigits z.natAbs=m at*;have G:=af f;have o8:m+zc<=9000000:=Om;have ED:=af (HB.ext (w':=wr));clear f K hm' hd0;go_wp2_with fail
   rw[<-G.ae];obtain⟨C,rfl,F,awU,_⟩:=Uj Q Om;have hcc:m+zc<=c3:=ays;have X:aA wr w.heap.size 0 (.bool R):=(b.cell (p:=aD w.heap.size 0) axA).trans (HB.aF 0);go_loop [3] (fun J=>∃n:Nat,m<=n/\n<=m+zc/\J=aG C 0 n c3) (fun J=>NT (some J))
   exact⟨m+zc,by omega,aL _,rfl⟩;obtain⟨n,hn1,sQ,rfl⟩:=hrel;obtain⟨k,rfl⟩:∃k,n=k+1:=⟨n - 1,by omega⟩;have a:=Q.cellAt k Om;by_cases Aj:m<=k
   ·have hce:wr.cell? (aD C k)=some (.int .u8 48):=(by rw[a,byteCells,kE,yU (by simp [t.ae];omega),Bx,Bu,if_pos (by simp [t.ae];omega)];rfl);clear a;go_wp2;go_round;exact⟨k,by omega,by omega,rfl⟩;simp [NT]
   ·have hce:wr.cell? (aD C k)=some (.int .u8 (c0.toNat:Int)):=by
     have V:k<(decDigits z.natAbs).reverse.length:=by rw[Zy,t.ae];omega
     rw[a,byteCells,kE,oD (by simpa using V),dK,List.getElem?_reverse (by simpa using V),t.ae,show m - 1 - k=0 by omega,LR.ae];rfl
    have aw7:((c0.toNat:Int)==48)=false:=(by rw[beq_eq_false_iff_ne];intro h;exact hc0 (Ra axT));have s:ah (wr.ownsRow (w.heap.size+1) t8 1 (aG C 0 (k+1) c3) (k+1) (byteCells (decDigits z.natAbs).reverse)):=(by have:=anU Q (m:=k+1) Om Om;rwa[byteCells_append,List.take_left' (by rw[byteCells_length,Zy,t.ae];omega)] at this);have hk6:k<=9000000:=Om;clear a;clear Y B nz;cases R
    ·have HL:ah ((decDigits z.natAbs).reverse=(aY z).reverse):=by rw[ah,xy (by have:=uI.ae;simpa using this)]
     rw[HL.ae] at s;go_wp2_with fail;clear hce X;have r:(aY z).reverse=k+1:=by have:=(s).1;rw[byteCells_length] at this;omega
     have lB:=af r;clear r;go_loopw [7,8] (fun I H wr=>∃(i j:Nat) (M:List UInt8),i+j+1=k+1/\I= .int .i64 i/\H= .int .i64 j/\ah (uA (aY z).reverse M i)/\ah (wr.ownsRow (w.heap.size+1) t8 1 (aG C 0 (k+1) c3) (k+1) (byteCells M))/\ah (Below (w.heap.size+1) W wr)) (fun I H _=>(RowKit.intOf H).toNat - (RowKit.intOf I).toNat);exact⟨0,k,(aY z).reverse,by omega,rfl,by go_num,uA.start _,s,b⟩;obtain⟨i,j,M,q,rfl,rfl,kU,pC,ox⟩:=hrel;have yD:=af q;have mD:(i:Int)<k+1:=Om;have D3:(j:Int)<k+1:=Om;have Z:i+j<=9000002:=Om;clear q;by_cases hlt:i<j
     ·have hML:M=k+1:=by rw[kU.1];exact lB
      have D4:i<M.length:=ayl;have qW:j<M.length:=ayl;have GJ:wr.cell? (aD C i)=some (.int .u8 (M[i].toNat:Int)):=by rw[pC.cellAt i Om,Cg D4]
      have D9:wr.cell? (aD C j)=some (.int .u8 (M[j].toNat:Int)):=by rw[pC.cellAt j Om,Cg qW]
      open q26 in exact agA
     ·exact agm
    ·have HL:ah ((decDigits z.natAbs).reverse++ [45]=(aY z).reverse):=by rw[ah,xz (by have:=uI.ae;simpa using this)];simp
     go_wp2_with (at_builtin;refine gf rfl _ _ DJ rfl (w.heap.size+1) acP _ _ _ rfl s.ae #[.int .u8 45] 1 1 rfl rfl rfl Om pz ?_)
     intro v' w4 L hg4 _;have kV:=af (b.grown hg4 pz (fun k Y=>(s.lt k Y).1));obtain⟨A4,c4,rfl,PI,_,_⟩:=eL L;have O:ah (w4.ownsRow (w.heap.size+1) t8 1 (.slice A4 (k+1+1) c4) (k+1+1) (byteCells (aY z).reverse)):=by rw[ah,<-HL.ae,byteCells_append];exact L
     obtain⟨g4,rfl,E,awT,_⟩:=Uj O Om;clear L hg4 hce X;go_wp2_with fail;have r:(aY z).reverse=k+1+1:=by have:=(O).1;rw[byteCells_length] at this;omega
     have lB:=af r;clear r;go_loopw [7,8] (fun I H wr=>∃(i j:Nat) (M:List UInt8),i+j+1=k+1+1/\I= .int .i64 i/\H= .int .i64 j/\ah (uA (aY z).reverse M i)/\ah (wr.ownsRow (w.heap.size+1) t8 1 (aG g4 0 (k+1+1) c4) (k+1+1) (byteCells M))/\ah (Below (w.heap.size+1) W wr)) (fun I H _=>(RowKit.intOf H).toNat - (RowKit.intOf I).toNat);exact⟨0,k+1,(aY z).reverse,by omega,rfl,by go_num,uA.start _,O,kV⟩;obtain⟨i,j,M,q,rfl,rfl,kU,pC,ox⟩:=hrel;have yD:=af q;have mD:(i:Int)<k+1+1:=Om;have D3:(j:Int)<k+1+1:=Om;have Z:i+j<=9000002:=Om;clear q;by_cases hlt:i<j
     ·have hML:M=k+1+1:=by rw[kU.1];exact lB
      have D4:i<M.length:=ayl;have qW:j<M.length:=ayl;have GJ:wr.cell? (aD g4 i)=some (.int .u8 (M[i].toNat:Int)):=by rw[pC.cellAt i Om,Cg D4]
      have D9:wr.cell? (aD g4 j)=some (.int .u8 (M[j].toNat:Int)):=by rw[pC.cellAt j Om,Cg qW]
      open q27 in exact agA
     ·exact agm
def MP(z:Int)(w:au)(q:nDigits z.natAbs<=400):
 Calls prog 78 #[.string ⟨(aY z).toArray⟩] w fun e H=>e= .returned (.bool true)/\w=H:=by
 by_cases s:z=0
 ·subst s;have A:aY 0= [48]:=Cy;rw[A];clear A q;go_enter func78,ntmps78;go_wp2;go_ret;exact⟨rfl,rfl⟩
 ·obtain⟨c,r,m,v,p⟩:=TF (n:=z.natAbs) Om;have b:(c::r).length<=400:=by rw[<-m,decDigits_length];exact q
  have j:(aY z== [48])=false:=(by rw[beq_eq_false_iff_ne];intro h;exact s (Cz (h.trans Cy.symm)));have y:ah (∀x∈c::r,jA x):=by rw[ah,<-m];exact vg _
  have o:c.toNat≠48:=fun h=>v (Ra axT);obtain⟨S,l⟩:∃S:ByteArray,S=⟨(c::r).toArray⟩:=⟨_,rfl⟩;have d:S.size=(c::r).length:=by rw[l];rfl
  have ah5:ah (∀k (hk:k<S.size),48<=S[k].toNat/\S[k].toNat<=57):=(by intro k hk;subst l;exact y ((c::r)[k]) Ou);have i:0<S.size:=by rw[d];simp
  have D:(((S[0]'i).toNat:Int)==48)=false:=by
   subst l;rw[beq_eq_false_iff_ne];intro h;have:c.toNat=48:=by have J:(c.toNat:Int)=48:=h;omega
   exact o this
  have u:S.size<=400:=by rw[d];exact b
  have G:=af l;have I:(S.size:Int)<=400:=Om;have C:((S.size:Int)==0)=false:=axo;have B:¬(S.size:Int)=0:=Om;rcases IG z 0 with g|f
  ·have a:aY z=45::c::r:=by rw[xz g,m]
   rw[a] at j⊢;have t:(ByteArray.mk (45::c::r).toArray).extract 1 (r+1+1)=S:=by rw[Cx,l];congr 2;rw[dD Ou];rfl
   clear m v p b l a s q d g;go_enter func78,ntmps78;go_wp2_with fail;clear t;exact m48
  ·have a:aY z=c::r:=by rw[xy f,m]
   have F:(S.toList== [48])=false:=(by have e:S.toList=c::r:=(by rw[G.ae];exact ByteArray.toList_mk _);rw[e,<-a];exact j);rw[a];rw[<-G.ae];have E:(((S[0]'i).toNat:Int)==45)=false:=by rw[beq_eq_false_iff_ne];have:=(ah5 0 i).1;omega
   clear m v p b l a s q d f j;go_enter func78,ntmps78;go_wp2_with fail;exact m48
def NA(n:Nat)(T:List UInt8)(r:List Nat)(m:Nat):Prop:=
 bI r/\val r+B9^r.length*m=n/\(T=decDigits m\/(T= []/\m=0))
def akj(l:List UInt8)(a:Nat)(h:∀c∈l,jA c):gI a l<(a+1)*10^l.length:=by
 induction l generalizing a with
 |nil=>rw[Cw];simp
 |cons c r b=>have e:=h c Ou;unfold jA at e;rw[Fl,cT,eA];refine cy (b _ (fun x d=>h x ayi)) ?_;rw[er (10^r.length) 10,<-fS];exact eK _ Om
def amg(h:a<B9):gI 0 (eJ 9 a)=a:=by rw[ab5 9 a 0 h];omega
def aik(h:NA a T i b)(hT:0<T.length):
 ∃(k q:Nat),k=T.length - 9/\(∀c∈T,jA c)/\gI 0 (T.drop k)<B9/\NA a (T.take k) (i++ [gI 0 (T.drop k)]) q:=by
 obtain⟨p,o,rfl|⟨rfl,_⟩⟩:=h
 ·by_cases f:b<B9
  ·have t:=(Dp f).1;refine⟨0,0,by rw[decDigits_length];omega,vg b,by rw[mV,Fr];exact f,?_⟩;rw[mV,Fr,kG];exact⟨p.snoc f,by rw[pT,ID,kH];exact o,.inr ⟨rfl,rfl⟩⟩
  ·have l:B9<=b:=ZO f;have j:=acv l;have s:nDigits b=nDigits (b/B9)+9:=by rw[<-decDigits_length,j,bD,E8,decDigits_length]
   have g:b%B9<B9:=fC _ Od;have e:(decDigits b).drop (nDigits (b/B9))=eJ 9 (b%B9):=by rw[j,<-decDigits_length (b/B9),List.drop_left]
   have d:gI 0 (eJ 9 (b%B9))=b%B9:=amg g;refine⟨nDigits (b/B9),b/B9,by rw[decDigits_length];omega,vg b,by rw[e,d];exact g,?_⟩;rw[e,d];refine⟨p.snoc g,?_,.inl ?_⟩
   ·rw[pT,bD,gc,eA,<-o,fS,Ci,<-gh];congr 2;rw[nL];exact uX b B9
   ·rw[j,<-decDigits_length (b/B9),List.take_left]
 ·simp at hT
def aiH(h:NA a T i b)(hT:¬0<T.length):bI i/\val i=a:=by
 obtain⟨d,c,rfl|⟨rfl,rfl⟩⟩:=h
 ·rw[decDigits_length] at hT;exact absurd (nDigits_pos b) hT
 ·rw[ID,kH] at c;exact⟨d,c⟩
def aeF(v:Value):Nat:=match v with
 | .string s=>s.size
 |_=>0
def Su(z:Int)(w:au)(K:kL z):
 Calls prog 79 #[.string ⟨(aY z).toArray⟩] w fun e J=>∃v,e= .returned v/\dJ J v z/\Ext w J:=by
 have F:nDigits z.natAbs<=9000000:=(by unfold kL Fit at K;exact m76);clear K;obtain⟨j,a⟩:∃j,j=decide (z<0):=⟨_,rfl⟩;have HZ:ah (signed j z.natAbs=z):=by rw[a];unfold ah signed;by_cases h:z<0<;>simp [h]<;>omega
 obtain⟨n,E⟩:∃n,n=z.natAbs:=⟨_,rfl⟩;rw[<-E] at HZ F;rcases IG z 0 with q|q
 ·have f:=xz q;rw[<-E] at f;rw[decide_eq_true q] at a;rw[f];have Q:ah (decDigits n=decDigits n):=rfl;have hsl:(ByteArray.mk (45::decDigits n).toArray).extract 1 ((decDigits n).length+1)=⟨(decDigits n).toArray⟩:=(by rw[Cx,dD Ou];rfl)
  clear f q E;go_enter func79,ntmps79;go_wp2_with fail;refine gJ fun W H I o=> ?_;obtain⟨N,M⟩:=o.two;have G:=o.frozen 0;have HB:ah (aq ((W.setCell (aD (w.heap.size+1) 0) (.bool true)).drew) (w.heap.size+1) bF [.bool true,.slice none 0 0]):=(o.bh 0 (.bool true)).drew;have HR:ah (aq ((W.setCell (aD (w.heap.size+1) 0) (.bool true)).drew) w.heap.size bF [.bool false,.slice none 0 0]):=(I.far (p:=aD (w.heap.size+1) 0) (xU _) _).drew;have HX:ah (Ext w ((W.setCell (aD (w.heap.size+1) 0) (.bool true)).drew)):=(H.setCell (p:=aD (w.heap.size+1) 0) (mX _) _).drew;go_region
  clear hsl N M G;subst a;generalize(W.setCell (aD (w.heap.size+1) 0) (.bool true)).drew=P at*;go_wp2_with fail;obtain⟨bz,vZ⟩:∃b:Bool,true=b:=⟨_,rfl⟩;exact m5
 ·have f:=xy q;rw[<-E] at f;rw[decide_eq_false Om] at a;rw[f];obtain⟨l,r0,g⟩:∃l r0,decDigits n=l::r0:=by
   rcases L:decDigits n with _|⟨l,r0⟩
   ·exact absurd L (Co n)
   ·exact⟨l,r0,rfl⟩
  have vW:=vg n l (by rw[g];simp);have D:(decDigits n== [])=false:=by rw[g];rfl
  obtain⟨S,s⟩:∃S:ByteArray,S=⟨(decDigits n).toArray⟩:=⟨_,rfl⟩;have C:0<S.size:=by rw[s];show 0<(decDigits n).length;rw[g];simp
  have B:(((S[0]'C).toNat:Int)==45)=false:=by
   subst s;have e:((ByteArray.mk (decDigits n).toArray)[0]'C)=l:=by
    show(decDigits n)[0]'_=l
    simp [g]
   rw[beq_eq_false_iff_ne,e];unfold jA at vW;omega
  have u:(S.toList== [])=false:=(by rw[s,ByteArray.toList_mk];exact D);have t:(S.toList != [])=true:=(by rw[bne,u];rfl);have O:=af s;rw[<-s];clear f q E g vW D s;go_enter func79,ntmps79;go_wp2_with fail;obtain rfl:=O.ae;refine gJ fun W HX HR HB=> ?_;subst a;clear B u t;obtain⟨bz,vZ⟩:∃b:Bool,false=b:=⟨_,rfl⟩;exact m5
def abM(u t:aQ)(C B:Nat)(a b:List Nat)(w:au)(h1:a.length<=1000000000)(_h2:b.length<=1000000000)(s:Canon a)(r:Canon b)(l:nB w u a)(j:nB w t b):
 Calls prog 154 #[.slice u a C,.slice t b B] w fun e v=>e= .returned (.int .i64 (eM (val a) (val b)))/\∃n,v=w.drewN n:=by
 have E:=af l;have D:=af j;have CA:=af s;have CB:=af r;clear l j s r;by_cases hl:a.length=b
 ·have d:((a.length:Int) !=(b.length:Int))=false:=by simp [hl]
  have HL:=af hl;have A:a<=b.length:=Om;have z:b<=a.length:=Om;clear hl;go_enter func154,ntmps154;go_wp2;go_loopw [5] (fun i wr=>∃m:Int,i= .int .i64 m/\ -1<=m/\m<a/\a.drop (m+1).toNat=b.drop (m+1).toNat/\∃q,wr=w.drewN q) (fun i _=>(intOf i+1).toNat)
  exact⟨(a.length:Int) - 1,rfl,by omega,by omega,by rw[rz Om,rz Om],0,rfl⟩;obtain⟨m,rfl,y,x,p,q,rfl⟩:=hrel;have HD:=af p;clear p;by_cases G:0<=m
  ·obtain⟨k,rfl⟩:∃k:Nat,m=k:=⟨m.toNat,by omega⟩;have hk:k<a.length:=Om;have vR:k<b.length:=Om;obtain⟨g,o,rfl,_,f⟩:=E.at_ (oI hk);obtain⟨I,F,rfl,_,c⟩:=D.at_ (oI vR);exact m33
  ·exact age
 ·have d:((a.length:Int) !=(b.length:Int))=true:=Oc;rcases Nat.lt_or_gt_of_ne hl with h|h
  ·have HV:ah (eM (val a) (val b)= -1):=Da (B_ CA CB h);exact afZ
  ·have HV:ah (eM (val a) (val b)=1):=NS (B_ CB CA h);have H:¬a<b.length:=Om;exact afZ
def alH(N M:aQ)(X W:Nat)(a b:List Nat)(w:au)(h1:a.length<=10000000)(h2:b.length<=10000000)(J:bI a)(I:bI b)(E:nB w N a)(D:nB w M b):
 Calls prog 244 #[.slice N a.length X,.slice M b.length W] w fun e C=>∃A r c,tE A r.length c/\r.length<=10000001/\e= .returned (.slice A r.length c)/\bI r/\val r=val a+val b/\nB C A r/\Ext w C:=by
 have Z:=af E;have K:=af D;have DA:=af J;have DB:=af I;clear E D J I;go_enter func244,ntmps244;go_wp2;go_loopw [5,6,7] (fun P O n wr=>∃(k c:Nat) (r:List Nat),k<=max a.length b.length+1/\(max a.length b.length<k->c=0)/\n= .int .i64 k/\O= .int .i64 c/\c<=1/\r.length=k/\bI r/\ah (val r+B9^k*c=val (a.take k)+val (b.take k))/\ah (wr.ownsRow w.heap.size tI 1 P k (ed r))/\ah (Ext w wr)) (fun _ _ n _=>max a.length b.length+1 - (RowKit.intOf n).toNat)
 exact⟨0,0,[],aU _,by omega,rfl,rfl,by omega,rfl,kK,by simp [ah],mQ _ _ _ _,aB w⟩;obtain⟨k,c,r,hk,S,rfl,rfl,hc,F,G,L,HO,HX⟩:=hrel;have HR:=af F;have HD:=af G;clear F G;have H:=DA.getD k;have u:=DB.getD k;unfold B9 at H u;obtain⟨t,o⟩:∃t,t=limb a k+limb b k+c:=⟨_,rfl⟩;have HA:=af (SX HR L o);have HT:=af o;clear o;by_cases m:k<a
 ·obtain⟨g1,o1,rfl,_,g⟩:=(Z.ext HX).at_ (oI m);rw[<-gT m] at g;by_cases f:k<b.length
  ·obtain⟨V,Q,rfl,_,d⟩:=(K.ext HX).at_ (oI f);rw[<-gT f] at d;generalize limb a k=x at*;generalize limb b k=y at*;have dZ:((c:Int)+x+y)%1000000000=((t%B9:Nat):Int):=axs;have lQ:((c:Int)+x+y)/1000000000=((t/B9:Nat):Int):=axs;exact m18
  ·have i:=rL (l:=b) (k:=k) Om;rw[i] at HT u;generalize limb a k=x at*;clear i;have dZ:((c:Int)+x)%1000000000=((t%B9:Nat):Int):=axs;have lQ:((c:Int)+x)/1000000000=((t/B9:Nat):Int):=axs;exact m18
 ·have i:=rL (l:=a) (k:=k) Om;rw[i] at HT H;clear i;by_cases f:k<b.length
  ·obtain⟨V,Q,rfl,_,d⟩:=(K.ext HX).at_ (oI f);rw[<-gT f] at d;generalize limb b k=y at*;have dZ:((c:Int)+y)%1000000000=((t%B9:Nat):Int):=axs;have lQ:((c:Int)+y)/1000000000=((t/B9:Nat):Int):=axs;exact m18
  ·have i:=rL (l:=b) (k:=k) Om;rw[i] at HT u;clear i;by_cases T:0<c
   ·have s:t/B9=0:=axs;have R:k<=max a.length b.length:=Om;have z:=af s;have dZ:(c:Int)%1000000000=((t%B9:Nat):Int):=axs;have lQ:(c:Int)/1000000000=((t/B9:Nat):Int):=axs;have Wu:t/B9<=1:=axs;have htp:t%B9<1000000000:=fC _ Od;have qq:=af (HD.snoc (x:=t%B9) (fC _ Od));generalize t%B9=p at*;generalize t/B9=q at*;go_wp2_with (at_builtin;refine gf rfl _ _ ui rfl w.heap.size jo _ _ _ rfl HO.ae #[.int .i64 (p:Int)] 1 1 rfl rfl rfl Om HX.size ?_)
    intro v' w3 fu hg3 _;have cE:ah (Ext w w3):=qB HX hg3 HX.size (fun k hk=>(HO.lt k hk).1);have fJ:ah (w3.ownsRow w.heap.size tI 1 v' (k+1) (ed (r++ [p]))):=by rw[ah,Cs];exact fu
    clear fu hg3 dZ;go_wp2;go_roundw;exact⟨k+1,q,r++ [p],by omega,(fun _=>z.ae),by go_num,by first|rfl|exact congrArg _ lQ|exact congrArg _ Om,Wu,by simp [HR.ae],qq,HA,fJ,cE⟩;simp [RowKit.intOf];omega
   ·obtain rfl:c=0:=Om;have HE:ah (val r=val a+val b):=(by have:=L.ae;rw[dD Om,dD Om] at this;rw[ah];omega)
    obtain⟨A,Y,rfl,U,_,j⟩:=eL HO;have v:=af j;have B:=af (C9 HO);clear j;go_wp2;go_ret;have e:=HR.ae;subst e;exact⟨A,r,Y,B,by omega,rfl,HD,HE,v,HX⟩
def js(a r:List Nat)(k c:Nat):List Value:=ed r++(if k<a.length then .int .i64 ((limb a k:Int) - c)::ed (a.drop (k+1)) else [])
def Rz(d:j=a)(e:a<i):(js i j a b)[a]? =some (.int .i64 ((limb i a:Int) - b)):=by rw[js,if_pos e,yU ax4,rM,d];simp
def Rn(d:j=a)(e:a<i):(js i j a b).set a (.int .i64 (c:Int))=js i (j++ [c]) (a+1) 0:=by
 rw[js,js,if_pos e,QT _ _ ax4,rM,d,MF,d9,Cs,jk];congr 1;rw[List.singleton_append];congr 1;by_cases h:a+1<i
 ·rw[if_pos h,SQ _ _ h];simp [ed]
 ·rw[if_neg h,rz Om];rfl
def aih(c:j=a)(b:a<i):(js i j a 0).set a (.int .i64 ((limb i a:Int) - 1))=js i j a 1:=by rw[js,js,if_pos b,if_pos b,QT _ _ ax4,rM,c,MF,d9];rfl
def air(d:j=a)(e:a<i):(js i j a b).set a (.int .i64 ((limb i a:Int) - b))=js i j a b:=by rw[js,if_pos e,QT _ _ ax4,rM,d,MF,d9]
def ZT(d:j=a)(e:a<=i):(js i j a b).length=i.length:=by
 rw[js,bD,rM];split
 ·rw[cT,rM,qx];omega
 ·simp;omega
def aij(a:List Nat):js a [] 0 0=ed a:=by
 unfold js;rcases a with _|⟨x,l⟩
 ·rfl
 ·simp [ed,limb]
def aiE(d:¬a<i):js i j a b=ed j:=by rw[js,if_neg d,j5]
def ant{r:List Nat}(n:Canon i)(m:Canon j)(d:val j<=val i)(g:r.length=i.length)(l:bI r)(h:val r+val (j.take i.length)=val (i.take i.length)+B9^i.length*c):c=0:=by
 have k:=ER n m d;rw[dD k,dD (aL _)] at h;have f:=j9 l;rw[g] at f;rcases j4 c with e|e
 ·exact e
 ·have:=Mi (B9^i.length) e;omega
def ab1{size:Nat}(h:m.ownsRow a w size (.slice E b c) b t):∀f,E=some f->a<=f.block:=by
 rcases h.2 with⟨i,_⟩|⟨g,o,l,i,k,_⟩
 ·injection i with j;intro f d;rw[j] at d;cases d
 ·injection i with j;intro f d;rw[j] at d;injection d with d;subst d;exact k
def q28.k92(h:ar:=by have d:(H.setCell (aD g k) (.int .i64 (T:Int))).cell? (aD g (k+1))=some (.int .i64 (limb a (k+1):Nat)):=(by rw[ey.cellAt (k+1) Om,Rz hr1 lm];simp);exact m49):=h
def q29.k92(h:ar:=by have d:(wr.setCell (aD g k) (.int .i64 (T:Int))).cell? (aD g (k+1))=some (.int .i64 (limb a (k+1):Nat)):=(by rw[ey.cellAt (k+1) Om,Rz hr1 lm];simp);exact m49):=h
def aaN(G A2:aQ)(M c2:Nat)(a b:List Nat)(w:au)(h1:a.length<=10000000)(h2:b.length<=10000000)(C:tE G a M)(ca:Canon a)(cb:Canon b)(t:val b<=val a)(X:nB w G a)(W:nB w A2 b):
 Calls prog 241 #[.slice G a.length M,.slice A2 b.length c2] w fun e V=>∃A r c,tE A r.length c/\(∀N,A=some N->w.heap.size<=N.block)/\r.length<=10000001/\e= .returned (.slice A r.length c)/\bI r/\val r=val a - val b/\nB V A r/\Ext w V:=by
 have S1:=af X;have S2:=af W;have CA:=af ca;have CB:=af cb;have HL:=af t;have R:=af C;clear X W ca cb t C;go_enter func241,ntmps241;go_wp2_with (at_builtin;refine IJ rfl (.const _) (.tmp 7) ui rfl w.heap.size jo _ 0 [] rfl (mQ _ _ _ _) G a M (ed a) rfl R.2 ax4 S1 (by intro u Z;simp [ed] at Z;obtain⟨x,_,rfl⟩:=Z;rfl) Om (aL _) ?_)
 intro v1 I f n _;have f:I.ownsRow w.heap.size tI 1 v1 a (ed a):=ayh;have D:ah (Ext w I):=qB (aB w) n (aL _) (fun k hk=>by simp [Value.ownBlock] at hk);obtain⟨A,o,rfl,_,_,_⟩:=eL f;by_cases h0:a.length=0
 ·have L:a= []:=lU h0;subst L;have U:=af (C9 f);have Q:=af (ab1 f);clear f n h0;go_wp2;go_loop [6] (fun q=>q= .int .i64 0) (fun _=>0)
  rfl;subst hrel;go_wp2;go_ret;exact⟨A,[],o,U,Q,by simp,rfl,kK,by simp,Sl.nil,D⟩
 ·obtain⟨g,rfl,hgb,_,_⟩:=Uj f Om;have P:ah (I.ownsRow w.heap.size tI 1 (aG g 0 a o) a (js a [] 0 0)):=by rw[ah,aij];exact f
  clear f n;go_wp2;go_loopw [6] (fun q wr=>∃(k c:Nat) (r:List Nat),k<=a/\q= .int .i64 k/\c<=1/\(k=a->c=0)/\r=k/\bI r/\ah (val r+val (b.take k)=val (a.take k)+B9^k*c)/\ah (wr.ownsRow w.heap.size tI 1 (aG g 0 a o) a (js a r k c))/\ah (Ext w wr)) (fun q _=>a - (RowKit.intOf q).toNat);exact⟨0,0,[],aU _,rfl,by omega,by omega,rfl,kK,by simp [ah],P,D⟩;obtain⟨k,c,r,hk,rfl,hc,J,hr,hd,HV,E,F⟩:=hrel;have HR:=af hr;have HD:=af hd;clear hr hd;by_cases y:k<a
  ·have ha:=CA.1.getD k;have hb:=CB.1.getD k;unfold B9 at ha hb;obtain⟨T,hT⟩:∃T,T+limb b k+c=limb a k+B9:=⟨limb a k+B9 - limb b k - c,by unfold B9;omega⟩;have hA:=abI HR HV hT;have j:=af hT;have cD:=F;clear hT;have i:=E.cellAt k Om;rw[Rz HR.ae y] at i;have B:=E.frozenAt k;by_cases v:k<b.length
   ·obtain⟨g2,o2,rfl,_,d⟩:=(S2.ext F).at_ (oI v);rw[<-gT v] at d;have i5:=af (E.stored k (.int .i64 ((limb a k:Int) - c - limb b k))).1.drew;have cD:ah (Ext w ((wr.setCell (aD g k) (.int .i64 ((limb a k:Int) - c - limb b k))).drew)):=(F.setCell (p:=aD g k) hgb _).drew;go_wp2;go_region
    clear i d B;generalize(wr.setCell (aD g k) (.int .i64 ((limb a k:Int) - c - limb b k))).drew=H at*;have m:H.cell? (aD g k)=some (.int .i64 ((limb a k:Int) - c - limb b k)):=by rw[i5.cellAt k Om,List.getElem?_set_self (by rw[ZT HR.ae Om];omega)]
    have z:=i5.frozenAt k;by_cases s:((limb a k:Int) - c - limb b k)<0
    ·have x7:T/B9=0:=axr;have PO:T%B9=T:=axr;have ko:=hA Om;rw[x7,PO] at ko;have GP:T<1000000000:=axE;have Eb:((limb a k:Int) - c - limb b k)+1000000000=(T:Int):=axE;open q28 in exact m92
    ·have x7:T/B9=1:=axr;have ko:=hA Om;rw[x7] at ko;have GP:T%B9<1000000000:=fC _ Od;have Eb:((limb a k:Int) - c - limb b k)=((T%B9:Nat):Int):=axr;have hr1:(r++ [T%B9]).length=k+1:=by simp [HR.ae]
     have ey:ah (H.ownsRow w.heap.size tI 1 (aG g 0 a o) a (js a (r++ [T%B9]) (k+1) 0)):=(by have:=i5.ae;rw[Eb,Rn HR.ae Om] at this;exact this);exact agt
   ·have Y:=rL (l:=b) (k:=k) Om;rw[Y] at j hb;have i5:ah (wr.ownsRow w.heap.size tI 1 (aG g 0 a o) a ((js a r k c).set k (.int .i64 ((limb a k:Int) - c)))):=by rw[ah,air HR.ae y];exact E
    clear Y i B;have m:wr.cell? (aD g k)=some (.int .i64 ((limb a k:Int) - c)):=by rw[i5.cellAt k Om,List.getElem?_set_self (by rw[ZT HR.ae Om];omega)]
    have z:=i5.frozenAt k;by_cases s:((limb a k:Int) - c)<0
    ·have x7:T/B9=0:=axr;have PO:T%B9=T:=axr;have ko:=hA Om;rw[x7,PO] at ko;have GP:T<1000000000:=axE;have Eb:((limb a k:Int) - c)+1000000000=(T:Int):=axE;open q29 in exact m92
    ·have x7:T/B9=1:=axr;have ko:=hA Om;rw[x7] at ko;have GP:T%B9<1000000000:=fC _ Od;have Eb:((limb a k:Int) - c)=((T%B9:Nat):Int):=axr;have hr1:(r++ [T%B9]).length=k+1:=by simp [HR.ae]
     have ey:ah (wr.ownsRow w.heap.size tI 1 (aG g 0 a o) a (js a (r++ [T%B9]) (k+1) 0)):=(by have:=i5.ae;rw[Eb,Rn HR.ae Om] at this;exact this);exact agt
  ·obtain rfl:k=a.length:=Om;have K:=J rfl;subst K;have HE:=af (ad2 CA CB HR HD HL HV);have ey:=E.ae;rw[aiE Om] at ey;have O:=af (I8 ey);have S:=af (C9 ey);go_wp2;go_ret;exact⟨dV g 0,r,o,by rw[HR.ae];exact S.ae,(fun N h=>by injection h with h;subst h;exact hgb),by rw[HR.ae];omega,by rw[HR.ae];rfl,HD,HE,O,F⟩
end Go.Proofs.YtehkcnbodcdijaaGreatDoor
