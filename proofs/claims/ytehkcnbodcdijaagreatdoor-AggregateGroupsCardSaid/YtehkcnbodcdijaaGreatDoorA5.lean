/- Texts of the proof, part 5. -/
import Derived.Test.YtehkcnbodcdijaaGreatDoorA4
namespace Go.Proofs.YtehkcnbodcdijaaGreatDoor
set_option maxHeartbeats 8000000
set_option linter.all false
set_option maxRecDepth 100000
variable{ar:Prop}
open Go.RowKit Go.Lib Go.Maps Go.ChangeShapes Go.WideShapes Go.ChangeAt Go.Proofs.Tryz
variable{a b c d e f g h:Nat}{i j k l:List Nat}{m n o:World}{p q r s:Value}{t u v:List Value}{w x:TypeId}{y z:Nat→Option Nat}{A:Nat→List Nat}{B C:Int}{E F:Option Addr}{H I:Rat}{J:Nat→Nat}{K:Nat→Bool}{L:List Int}{N:Array Bool}{O:Option Nat}{Q:Act}{R S:Bool}{T:List UInt8}
section
open Go.Sort
def d7(w:au):Prop:=Lib.TabIs prog w "internal/strconv.uint64pow10" .u64 Lib.pow10Tab
def aqS(u:Nat)(a:u<18446744073709551616)(w:au)(g:d7 w):
 Calls prog 261 #[.int .u64 u,av 10] w fun e l=>e= .returned (aM (Lib.decDigits u))/\Ext w l:=by
 by_cases t:u<100
 ·go_enter func261,ntmps261;go_wp2_with (go_at_call 316;refine(Tryz.internal_strconv_small u t _).mono ?_;rintro e l ⟨rfl,rfl⟩);go_ret;exact⟨rfl,aB _⟩
 ·have f:1<=u:=Om;have m:Lib.nDigits u<=20:=by have:=Lib.numDigits_eq u f a;split at this<;>omega
  have o:prog.arrayLen 360=24:=by simp [Program.arrayLen,underlying360]
  have s:∀W,(Instr.sliceAt 360 (aI w.heap.size 0) none (some (av (Lib.nDigits u:Int))) none).run prog W= .ok (aG w.heap.size 0 (Lib.nDigits u) 24) W:=fun W=>by rw[run_sliceAt_array_h W 360 ⟨w.heap.size,0,none⟩ (by simp [Program.arrayLen,Program.elem,underlying360]) .i64 (Lib.nDigits u:Int) Om (by rw[o];omega)];go_simp
  have i:=Lib.holds_zero0 w 360 (Lib.nDigits u) Om;have c:=Tryz.internal_strconv_formatBase10 w.heap.size 0 24 u (Array.replicate (Lib.nDigits u) 0) (w.alloc (.cells Lib.zeros24 360)) i (by rw[QX];exact Lib.lt_pow_nDigits u) a (by rw[QX];omega);rw[QX] at c;have p:=af i;go_enter func261,ntmps261;go_wp2_with (first
   |(go_at_call 317;refine(Tryz.internal_strconv_numDigits u f a _ (Lib.tabIs_alloc g _)).mono ?_;rintro e l ⟨rfl,rfl⟩))
  refine c.mono ?_;rintro e l ⟨rfl,k,y,d,rfl,hF⟩;have hcv:(convert 199 9 (aG w.heap.size 0 (Lib.nDigits u) 24)).run prog ((putRow (fun(b:UInt8)=>Value.int .u8 (b.toNat:Int)) (w.alloc (.cells Lib.zeros24 360)) w.heap.size 0 d).drewN k)= .ok (aM (Lib.decDigits u)) ((putRow (fun(b:UInt8)=>Value.int .u8 (b.toNat:Int)) (w.alloc (.cells Lib.zeros24 360)) w.heap.size 0 d).drewN k):=by have h:=run_convert_bytes_back ((putRow (fun(b:UInt8)=>Value.int .u8 (b.toNat:Int)) (w.alloc (.cells Lib.zeros24 360)) w.heap.size 0 d).drewN k) 199 9 5 ⟨w.heap.size,0,none⟩ 24 (Lib.decDigits u) underlying199 underlying5 underlying9 (fun j n=>by rw[Lib.row_is_numeral hF j n,Lib.add_plain,World.cell?_drewN];exact cell?_putRow (fun(b:UInt8)=>Value.int .u8 (b.toNat:Int)) _ w.heap.size 0 _ d p (by rw[hF.size,QX]) j (by rw[hF.size];rw[Lib.decDigits_length] at n;exact n));rw[Lib.decDigits_length] at h;exact h
  have r:Ext w ((putRow (fun(b:UInt8)=>Value.int .u8 (b.toNat:Int)) (w.alloc (.cells Lib.zeros24 360)) w.heap.size 0 d).drewN k):=(by obtain⟨q,v⟩:=Lib.fin_at w (.cells Lib.zeros24 360) d k 0;rw[v];exact Lib.below_grow _ w (aL _) k q);have x:=af r;generalize(putRow (fun(b:UInt8)=>Value.int .u8 (b.toNat:Int)) (w.alloc (.cells Lib.zeros24 360)) w.heap.size 0 d).drewN k=W at*;go_wp2;go_ret;exact⟨rfl,x⟩
def aen(u:Nat)(a:u<18446744073709551616)(w:au)(b:d7 w):
 Calls prog 210 #[.int .u64 u,av 10] w fun e c=>e= .returned (aM (Lib.decDigits u))/\Ext w c:=by
 have H:=af (aqS u a w b);go_enter func210,ntmps210;go_wp2_with fail;refine H.mono ?_;rintro e c ⟨rfl,d⟩;go_wp2;go_ret;exact⟨rfl,d⟩
abbrev tB:TypeId:=201
abbrev t8:TypeId:=5
def Z3(b:Nat)(w:au)(d:aA w b 0 (aI b 0)):
 Calls prog 193 #[aI b 0] w fun e a=>e= .returned (.tuple #[])/\a=w:=by
 obtain⟨j,c,_⟩:=Option.map_eq_some_iff.1 Tryz.BH.sizeBuilder;go_enter func193,ntmps193;go_wp2;rw[Lib.run_neq_ptr_same w _ underlying198 c];go_wp2;go_end0;exact⟨rfl,rfl⟩
def aii(b:Nat)(w:au)(d:aA w b 0 (.pointer none))(Ww:w.shape? b=some (tB,2))(c:w.frozen? (aD b 0)=false):
 Calls prog 193 #[aI b 0] w fun e a=>e= .returned (.tuple #[])/\a=w.setCell (aD b 0) (aI b 0):=by
 exact m36
def aiy(B b:Nat)(c:List Value)(w:au)(h:Lib.IsBuilder tB t8 B b c w):
 Calls prog 193 #[aI b 0] w fun e a=>e= .returned (.tuple #[])/\(Lib.BuilderAt tB t8 B b (aI b 0) c a/\Below B w a):=by
 rcases h with h|h
 ·refine(aii b w h.cell0 h.shape h.frozen0).mono ?_;rintro e a ⟨rfl,rfl⟩;exact⟨rfl,h.used _,(xe B w).setCell h.1 _⟩
 ·refine(Z3 b w h.cell0).mono ?_;rintro e a ⟨rfl,rfl⟩;exact⟨rfl,h,xe B _⟩
def Mt(B b:Nat)(bs:List Value)(s:ByteArray)(w:au)(h:Lib.IsBuilder tB t8 B b bs w)(c:bs+s.size<=140737488355328)(d:B<=w.heap.size):
 Calls prog 116 #[aI b 0,.string s] w fun e a=>e= .returned (.tuple #[av s.size,.nilIface])/\(Lib.BuilderAt tB t8 B b (aI b 0) (bs++Lib.strCells s) a/\Below B w a):=by
 obtain⟨i0,hi,hz0,hz1,hz2⟩:=info_parts Tryz.BH.infoByte;go_enter func116,ntmps116;go_wp2_with (go_at_call 193;refine(aiy B b bs _ h).mono ?_);exact m21
def eJ:Nat->Nat->List UInt8
 |0,_=> []
 |k+1,x=>eJ k (x/10)++ [UInt8.ofNat (48+x%10)]
def E8(k x:Nat):(eJ k x)=k:=by
 induction k generalizing x with
 |zero=>rfl
 |succ k a=>simp [eJ,a]
def lG(h:a<10):decDigits a= [UInt8.ofNat (48+a)]:=by rw[decDigits];simp [h]
def C_(h:¬a<10):decDigits a=decDigits (a/10)++ [UInt8.ofNat (48+a%10)]:=by rw[decDigits];simp [h]
def Nv(k h x:Nat)(f:0<h)(b:x<10^k):decDigits (h*10^k+x)=decDigits h++eJ k x:=by
 induction k generalizing x with
 |zero=>have:x=0:=axG;subst this;simp [eJ]
 |succ k c=>
  have d:0<10^k:=Nat.pow_pos Od;have e:h*10^(k+1)+x=10*(h*10^k)+x:=by rw[eA];grind
  have a:¬h*10^(k+1)+x<10:=(by rw[e];have:=wV f d;omega);have i:(h*10^(k+1)+x)/10=h*10^k+x/10:=by rw[e];omega
  have g:(h*10^(k+1)+x)%10=x%10:=by rw[e];omega
  rw[C_ a,i,g,c (x/10) (by rw[eA] at b;omega)];simp [eJ]
def al1(k:Nat):eJ k 0=List.replicate k 48:=by
 induction k with
 |zero=>rfl
 |succ k a=>rw[eJ,Nat.zero_div,a,Ii];rfl
def nDigits_pos(u:Nat):0<nDigits u:=by rw[nDigits];split<;>omega
def ad5(k x:Nat)(a:x<10^(k+1)):nDigits x<=k+1/\eJ (k+1) x=List.replicate (k+1 - nDigits x) 48++decDigits x:=by
 induction k generalizing x with
 |zero=>have h:x<10:=axB;rw[nDigits_small h,lG h];refine⟨aL _,?_⟩;have:=uW h;simp [eJ,this]
 |succ k b=>
  by_cases h:x<10
  ·rw[nDigits_small h,lG h];refine⟨by omega,?_⟩;have e:x/10=0:=Om;have d:x%10=x:=Om;rw[eJ,e,d,al1];rfl
  ·have c:=b (x/10) (by rw[eA] at a;omega);rw[nDigits_big h,C_ h];refine⟨by omega,?_⟩;rw[eJ,c.2,show k+1+1 - (nDigits (x/10)+1)=k+1 - nDigits (x/10) by omega,jk]
def Dp(b:a<B9):nDigits a<=9/\eJ 9 a=List.replicate (9 - nDigits a) 48++decDigits a:=ad5 8 a (by unfold B9 at b;exact b)
def texts:List Nat->List UInt8
 | []=> []
 |x::r=>if r= [] then decDigits x else texts r++eJ 9 x
def alo(h:Canon i)(c:i≠ []):texts i=decDigits (val i):=by
 induction i with
 |nil=>exact absurd rfl c
 |cons x r b=>
  by_cases a:r= []
  ·subst a;simp [texts]
  ·rw[texts,if_neg a,b h.tail a,mZ,nL,er];exact(Nv 9 (val r) x (CK h.tail a) axS).symm
def aiP(k h x:Nat)(b:0<h)(a:x<10^k):nDigits (h*10^k+x)=nDigits h+k:=by rw[<-decDigits_length,<-decDigits_length,Nv k h x b a,bD,E8]
def aak(h:Canon i)(b:i≠ []):nDigits (val i)=9*(i.length - 1)+nDigits (i.getLast b):=by
 induction i with
 |nil=>exact absurd rfl b
 |cons x r c=>
  by_cases a:r= []
  ·subst a;simp
  ·rw[mZ,nL,er,List.getLast_cons a];have:=aiP 9 (val r) x (CK h.tail a) axS;have e:val r*B9+x=val r*10^9+x:=rfl;rw[e,this,c h.tail a];have:r.length≠0:=fun h=>a (lU h);simp only[cT];omega
def d7.ext{w':au}(h:d7 m)(d:Ext m w'):d7 w':=by
 unfold d7 Lib.TabIs World.var? at*;cases c:prog.globalNamed "internal/strconv.uint64pow10" with
 |none=>simp [c] at h
 |some g=>
  simp only[c,Mp] at h⊢;have a:g<m.heap.size:=by
   rcases cA g m.heap.size with b|b
   ·exact b
   ·simp [wQ b] at h
  rw[d.block g a];exact h
def C8{size:Nat}(h:m.ownsRow a w size p b t)(j:Ext m n):n.ownsRow a w size p b t:=by
 obtain⟨f,o|⟨g,d,c,k,l,i,r⟩⟩:=h
 ·exact⟨f,.inl o⟩
 ·exact⟨f,.inr ⟨g,d,c,k,l,(j.block g (ie i)).trans i,r⟩⟩
def Uc(h:IsBuilder tB t8 a b t m)(d:Ext m n):IsBuilder tB t8 a b t n:=by
 rcases h with⟨g,v,c,e,f⟩|⟨g,v,c,e,f⟩
 ·exact .inl ⟨g,v,(d.block b (ie c)).trans c,C8 e d,f⟩
 ·exact .inr ⟨g,v,(d.block b (ie c)).trans c,C8 e d,f⟩
def aY(z:Int):List UInt8:=(if z<0 then [45] else [])++decDigits z.natAbs
def ajW(b:a<i):texts (i.drop a)=if a+1=i then decDigits i[a] else texts (i.drop (a+1))++eJ 9 i[a]:=by
 rw[jK b,texts];by_cases h:a+1=i
 ·rw[if_pos h,if_pos (Ic Om)]
 ·rw[if_neg h,if_neg (fun c=>by have:=List.drop_eq_nil_iff.1 c;omega)]
def Mx(l:List UInt8):strCells ⟨l.toArray⟩=byteCells l:=rfl
def byteCells_append(a b:List UInt8):byteCells (a++b)=byteCells a++byteCells b:=by simp [byteCells]
def aac(c:Nat):repeatL [48] c=List.replicate c 48:=by
 induction c with
 |zero=>rfl
 |succ c a=>rw[repeatL,a];rfl
def aiC(d:bI i):(texts i)<=9*i.length:=by
 induction i with
 |nil=>simp [texts]
 |cons x r a=>
  rw[texts];have:=a d.tail;have b:=(Dp d.head).1;split
  ·rw[decDigits_length];simp only[cT];omega
  ·rw[bD,E8];simp only[cT];omega
def RX(v:Value)(z:Int)(w:au)(h:cj w v z)(G:kL z)(F:d7 w):
 Calls prog 147 #[v] w fun e H=>e= .returned (aM (aY z))/\Ext w H:=by
 obtain⟨s,rfl,A,c,rfl,I,u⟩:=h;unfold kL Fit at G;by_cases t:z.natAbs=0
 ·have B:(a7 z.natAbs).length=0:=by rw[t];rfl
  have i:aY z= [48]:=(by have:z=0:=Om;subst this;unfold aY;rw[lG Od];rfl);have K:=af i;clear i u;rw[B];go_enter func147,ntmps147;go_wp2;go_ret;exact⟨by rw[K.ae];rfl,(aB w).alloc _⟩
 ·have D:a7 z.natAbs≠ []:=fun h=>t (ve.1 h);have B:0<(a7 z.natAbs).length:=Ik.2 D;have r:=af (alo (dE z.natAbs) D);have HC:=af (dE z.natAbs);have E:=af (dG z.natAbs);have HS:=af u;obtain⟨n,i⟩:∃n,(a7 z.natAbs).length=n:=⟨_,rfl⟩;have uK:=af i;rw[i] at G B I;generalize a7 z.natAbs=l at*;clear D u;rw[i];clear i;have HT:=af F;clear F;have b:val l=z.natAbs:=E.ae;by_cases a:z<0
  ·have C:decide (z<0)=true:=decide_eq_true a;have AY:ah (aY z= [45]++texts l):=by rw[ah,r.ae,b,aY,if_pos a]
   clear b a t;generalize decide (z<0)=J at*;subst C;go_enter func147,ntmps147;go_wp2_with fail;refine gJ (P:=fun W=>Calls _ _ _ W _) fun W HX BX BB=> ?_;refine(Mt (w.heap.size+1) (w.heap.size+1) [] ⟨#[45]⟩ W (.inl ⟨aL _,_,BB,mQ _ _ _ _,by simp [Value.ownBlock]⟩) Od (by have:=BX.lt;have:=BB.lt;omega)).mono ?_;rintro e j ⟨rfl,q,d⟩;have tC:ah (IsBuilder tB t8 (w.heap.size+1) (w.heap.size+1) (byteCells [45]) j):= .inr q;have bS:=af d;have nz:aA j w.heap.size 1 (.slice A n c):=(d.cell (p:=aD w.heap.size 1) axA).trans (BX.aF 1);clear q d;go_wp2_with fail
   obtain⟨p,hp⟩:∃p:List UInt8,[45]=p:=⟨_,rfl⟩;exact m4
  ·have C:decide (z<0)=false:=decide_eq_false a;have AY:ah (aY z= []++texts l):=by rw[ah,r.ae,b,aY,if_neg a]
   clear b a t;generalize decide (z<0)=J at*;subst C;go_enter func147,ntmps147;go_wp2_with fail;refine gJ fun W HX BX BB=> ?_;have tC:ah (IsBuilder tB t8 (w.heap.size+1) (w.heap.size+1) (byteCells []) W):= .inl ⟨aL _,_,BB,mQ _ _ _ _,by simp [Value.ownBlock]⟩;have bS:=af (xe (w.heap.size+1) W);obtain⟨j,f⟩:∃j,j=W:=⟨_,rfl⟩;rw[<-f] at tC⊢;have bS:ah (Below (w.heap.size+1) W j):=by rw[f];exact bS
   clear f;have y:((n:Int)==0)=false:=axo;rw[y];obtain⟨p,hp⟩:∃p:List UInt8,[]=p:=⟨_,rfl⟩;exact m4
def gI(a:Nat)(l:List UInt8):Nat:=l.foldl (fun a c=>10*a+(c.toNat - 48)) a
def Cw(a:Nat):gI a []=a:=by rw[gI,List.foldl_nil]
def Fl(a:Nat)(c:UInt8)(r:List UInt8):gI a (c::r)=gI (10*a+(c.toNat - 48)) r:=by rw[gI,y5,gI]
def jA(c:UInt8):Prop:=48<=c.toNat/\c.toNat<=57
def ajo(a:Nat)(l m:List UInt8):gI a (l++m)=gI (gI a l) m:=by rw[gI,wS,<-gI,<-gI]
def Sz(a:Nat)(l:List UInt8)(c:UInt8):gI a (l++ [c])=10*gI a l+(c.toNat - 48):=by rw[ajo,Fl,Cw]
def apO(a:Nat)(l:List UInt8):a<=gI a l:=by
 induction l generalizing a with
 |nil=>rw[Cw];exact aL _
 |cons c r b=>rw[Fl];exact aV Om (b _)
def Fy(h:a<10):(UInt8.ofNat (48+a)).toNat=48+a:=by rw[ZA];exact uW Om
def NQ(h:a<10):jA (UInt8.ofNat (48+a)):=by unfold jA;rw[Fy h];omega
def vg(n:Nat):∀c∈decDigits n,jA c:=by
 induction n using Nat.strongRecOn with
 |_ n b=>
  by_cases h:n<10
  ·rw[lG h];intro c a;simp only[bE] at a;subst a;exact NQ h
  ·rw[C_ h];intro c a;rcases bO.1 a with a|a
   ·exact b _ Om c a
   ·simp only[bE] at a;subst a;exact NQ Om
def ajn(k x:Nat):∀c∈eJ k x,jA c:=by
 induction k generalizing x with
 |zero=>simp [eJ]
 |succ k b=>
  intro c a;rcases bO.1 a with a|a
  ·exact b _ c a
  ·simp only[bE] at a;subst a;exact NQ Om
def ab5(k x a:Nat)(h:x<10^k):gI a (eJ k x)=a*10^k+x:=by
 induction k generalizing x with
 |zero=>have f:x=0:=axF;rw[f,eJ,Cw,E5];omega
 |succ k b=>
  have c:x/10<10^k:=by rw[eA] at h;omega
  have d:x%10<10:=fC _ Od;have e:a*(10^k*10)=10*(a*10^k):=by rw[er (10^k) 10,ZI]
  rw[eJ,Sz,b (x/10) c,Fy d,eA,e];clear b e h c;generalize a*10^k=y;omega
def Fr(n:Nat):gI 0 (decDigits n)=n:=by
 induction n using Nat.strongRecOn with
 |_ n a=>
  by_cases h:n<10
  ·rw[lG h,Fl,Fy h,Cw];omega
  ·rw[C_ h,Sz,a _ Om,Fy Om];omega
def T8(h:decDigits a=decDigits b):a=b:=by rw[<-Fr a,h,Fr]
def ac9(l:List UInt8)(a:Nat)(b:∀c∈l,jA c)(h:gI a l<1000000000000000000):parseUintM (2^64 - 1) a l= .ok (gI a l):=by
 induction l generalizing a with
 |nil=>rw[Cw];rfl
 |cons c r f=>have d:=b c Ou;unfold jA at d;rw[Fl] at h;have i:=apO (10*a+(c.toNat - 48)) r;have e:a*10+(c.toNat - 48)=10*a+(c.toNat - 48):=Om;rw[parseUintM,if_pos d,if_neg Om,if_neg Om,e,f _ (fun x g=>b x ayw) h,Fl]
def Co(n:Nat):decDigits n≠ []:=fun h=>by have:=nDigits_pos n;rw[<-decDigits_length,h] at this;simp at this
def acv(h:B9<=a):decDigits a=decDigits (a/B9)++eJ 9 (a%B9):=by
 have c:0<a/B9:=Nat.div_pos h Od;have b:a%B9<10^9:=fC a (show 0<B9 by decide);rw[<-Nv 9 (a/B9) (a%B9) c b];congr 1
 have e:(10:Nat)^9=B9:=rfl;rw[e,er];exact(uX a B9).symm
def akc(h:a<B9):parseUintB 64 (decDigits a)= .ok a:=by unfold B9 at h;rw[parseUintB,if_neg (Co a),ac9 _ 0 (vg a) (by rw[Fr];omega),Fr]
def alZ(h:a<B9):parseUintB 64 (eJ 9 a)= .ok a:=by
 have e:gI 0 (eJ 9 a)=a:=by rw[ab5 9 a 0 h];omega
 unfold B9 at h;rw[parseUintB,if_neg (fun b=>by have:=E8 9 a;rw[b] at this;simp at this),ac9 _ 0 (ajn 9 a) (by rw[e];omega),e]
def TF{n:Nat}(h:0<n):∃c r,decDigits n=c::r/\c≠48/\jA c:=by
 induction n using Nat.strongRecOn with
 |_ n b=>
  by_cases a:n<10
  ·refine⟨_,_,lG a,?_,NQ a⟩;intro g;have:=congrArg UInt8.toNat g;rw[Fy a] at this;have:(48:UInt8).toNat=48:=rfl;omega
  ·obtain⟨c,r,e,f,d⟩:=b (n/10) Om Om;exact⟨c,r++ [UInt8.ofNat (48+n%10)],by rw[C_ a,e];rfl,f,d⟩
def Cy:decDigits 0= [48]:=lG Od
def Ul{c:UInt8}(h:¬jA c):c∉decDigits a:=fun b=>h (vg a c b)
def xz(h:B<0):aY B=45::decDigits B.natAbs:=by rw[aY,if_pos h];rfl
def xy(h:0<=B):aY B=decDigits B.natAbs:=by rw[aY,if_neg Om];rfl
def rR(n:Nat):aY (n:Int)=decDigits n:=by rw[xy Om,ib]
def vh(z:Int):(47:UInt8)∉aY z:=by
 rw[aY];intro h;rcases bO.1 h with h|h
 ·split at h
  ·simp at h
  ·simp at h
 ·exact Ul ayN h
def SS(n:Nat)(r:List UInt8):decDigits n≠45::r:=fun h=>by have:=vg n 45 (by rw[h];simp);unfold jA at this;revert this;decide
def Cz(h:aY B=aY C):B=C:=by
 rcases IG B 0 with d|d
 ·rcases IG C 0 with c|c
  ·rw[xz d,xz c] at h;injection h with _ h;have:=T8 h;omega
  ·rw[xz d,xy c] at h;exact absurd h.symm (SS _ _)
 ·rcases IG C 0 with c|c
  ·rw[xy d,xz c] at h;exact absurd h (SS _ _)
  ·rw[xy d,xy c] at h;have:=T8 h;omega
def M7(z:Int):trimPrefix (aY z) [45]=decDigits z.natAbs/\hasPrefix (aY z) [45]=decide (z<0):=by
 rcases IG z 0 with h|h
 ·rw[xz h,decide_eq_true h];have e:hasPrefix (45::decDigits z.natAbs) [45]=true:=by simp [hasPrefix]
  exact⟨by rw[trimPrefix,e];rfl,e⟩
 ·rw[xy h,decide_eq_false Om];have e:hasPrefix (decDigits z.natAbs) [45]=false:=by
   rw[hasPrefix];rcases b:decDigits z.natAbs with _|⟨c,r⟩
   ·rfl
   ·have a:c≠45:=fun a=>SS z.natAbs r (by rw[b,a]);simp [List.isPrefixOf];exact fun h=>absurd h.symm a
  exact⟨by rw[trimPrefix,e];rfl,e⟩
def Z5{c:UInt8}(h:c∉T):indexByte T c= -1:=by
 induction T with
 |nil=>rfl
 |cons b r a=>
  rw[indexByte,a (fun d=>h ayi)];have:(b==c)=false:=by simpa using fun e:b=c=>h ayF
  rw[this];rfl
def Z6{b:List UInt8}{c:UInt8}(h:c∉T):indexByte (T++c::b) c=T.length:=by
 induction T with
 |nil=>simp [indexByte]
 |cons x r d=>
  have f:(x==c)=false:=by simpa using fun j:x=c=>h (by simp [j])
  have e:=d (fun i=>h (by simp [i]));have g:(((r.length:Int))== -1)=false:=axo;rw[nK,indexByte,f,e,g];simp
def aqi{c:UInt8}(h:c∉T):cut T [c]=(T,[],false):=by rw[cut,index_one,Z5 h];rfl
def aqj{b:List UInt8}{c:UInt8}(h:c∉T):cut (T++c::b) [c]=(T,b,true):=by rw[cut,index_one,Z6 h,if_pos Om];simp
def cP(q:Rat):List UInt8:=if q.den=1 then aY q.num else aY q.num++47::decDigits q.den
def pP{q:Rat}(h:q.den=1):cP q=aY q.num:=by rw[cP,if_pos h]
def qz(h:H.den≠1):cP H=aY H.num++47::decDigits H.den:=by rw[cP,if_neg h]
def alN(z:Int):cP (z:Rat)=aY z:=pP rfl
def NR(h:H.den=1):cut (cP H) [47]=(aY H.num,[],false):=by rw[pP h];exact aqi (vh _)
def Nx(h:H.den≠1):cut (cP H) [47]=(aY H.num,decDigits H.den,true):=by rw[qz h];exact aqj (vh _)
def aat(h:cP H=cP I):H=I:=by
 have a:cut (cP H) [47]=cut (cP I) [47]:=by rw[h]
 by_cases d:H.den=1
 ·by_cases c:I.den=1
  ·rw[NR d,NR c] at a;injection a with f _;exact Rat.ext (Cz f) (by rw[d,c])
  ·rw[NR d,Nx c] at a;injection a with _ b;injection b with _ e;cases e
 ·by_cases c:I.den=1
  ·rw[Nx d,NR c] at a;injection a with _ b;injection b with _ e;cases e
  ·rw[Nx d,Nx c] at a;injection a with f b;injection b with b _;exact Rat.ext (Cz f) (T8 b)
def zi{n:Nat}(h:n<10^(e+1)):nDigits n<=e+1:=(ad5 e n h).1
def ajq(n:Nat):n<10^nDigits n:=lt_pow_nDigits n
def zf(z:Int):(aY z)<=nDigits z.natAbs+1:=by rw[aY,bD,decDigits_length];split<;>simp<;>omega
def al2(k x:Nat):eJ (k+1) x=UInt8.ofNat (48+x/10^k%10)::eJ k x:=by
 induction k generalizing x with
 |zero=>simp [eJ]
 |succ k a=>rw[eJ,a (x/10),Nat.div_div_eq_div_mul,er 10,<-eA];rfl
def nN:List Nat->List UInt8
 | []=> []
 |x::r=>(eJ 9 x).reverse++nN r
def aiI(l:List Nat)(x:Nat):nN (l++ [x])=nN l++(eJ 9 x).reverse:=by
 induction l with
 |nil=>simp [nN]
 |cons y r a=>simp [nN,a]
def ail(l:List Nat):(nN l)=9*l.length:=by
 induction l with
 |nil=>rfl
 |cons x r a=>simp [nN,a,E8];omega
def aj7(h:Canon i)(d:i≠ []):∃z,nN i=(decDigits (val i)).reverse++List.replicate z 48:=by
 induction i with
 |nil=>exact absurd rfl d
 |cons x r b=>
  by_cases a:r= []
  ·subst a;refine⟨9 - nDigits x,?_⟩;rw[nN,(Dp h.1.head).2];simp [nN]
  ·obtain⟨z,c⟩:=b h.tail a;refine⟨z,?_⟩;have e:decDigits (val (x::r))=decDigits (val r)++eJ 9 x:=(by rw[mZ,nL,er];exact Nv 9 (val r) x (CK h.tail a) axS)
   rw[nN,c,e];simp
def aaJ(d:bI l){k:Nat}(o:k<=l.length)(n:l.length<=k+2):
 B9^k*(limb l k+limb l (k+1)*B9)<=val l/\val l<B9^k*(limb l k+limb l (k+1)*B9+1):=by
 have e:=Cp l k;have f:(l.take k).length=k:=axw;have g:=j9 (d.take k);rw[f] at e g;have h:val (l.drop k)=limb l k+limb l (k+1)*B9:=by
  have c:(l.drop k).length<=2:=by rw[qx];omega
  have j:limb l k=limb (l.drop k) 0:=by simp [limb,eG]
  have i:limb l (k+1)=limb (l.drop k) 1:=by simp [limb,eG]
  rw[j,i];generalize l.drop k=m at c;match m,c with
  | [],_=>rfl
  | [a],_=>simp [limb]
  | [a,b],_=>simp [limb];exact er _ _
 rw[h] at e;generalize limb l k+limb l (k+1)*B9=t at e;rw[e,gh,lF];omega
def apC(g:c*e<=a)(f:a<c*(e+1))(k:c*d<=b)(j:b<c*(d+1))(i:0<e):
 a*(d/ (e+1))<=b/\b<a*(d/e+1):=by
 constructor
 ·have h:a*(d/ (e+1))<=c*(e+1)*(d/ (e+1)):=eK _ (rJ f);have l:c*(e+1)*(d/ (e+1))<=c*d:=(by rw[fS];exact h_ _ (Nat.mul_div_le _ _))
  omega
 ·have h:d+1<=e*(d/e+1):=Nat.lt_mul_div_succ d i;have l:c*(d+1)<=c*(e*(d/e+1)):=h_ _ h;have m:c*(e*(d/e+1))<=a*(d/e+1):=(by rw[<-fS];exact eK _ g)
  omega
def apB(a:Canon i)(d:Canon j)(k:val j<=val i)(m:val i<B9*val j):j<=i.length/\i.length<=j.length+1:=by
 refine⟨ER a d k,?_⟩;rcases cA (j.length+1) i with h|h
 ·exfalso;have l:=EX a.2 Om;have g:=j9 d.1;have f:B9^(j.length+1)<=B9^(i.length - 1):=fK Od Om;rw[eA] at f;have e:B9*val j<=B9*B9^j.length:=h_ _ (rJ g);rw[er B9 (B9^j.length)] at e;omega
 ·exact h
def anK(f:a<i.length)(h:val (i.drop (a+1))=val j*c+b)(g:c*d<=limb i a+B9*b):
 val (i.drop a)=val (d::j)*c+(limb i a+B9*b - c*d):=by
 rw[gT f] at g⊢;rw[jK f,mZ,mZ,h];have e:B9*(val j*c+b)=B9*val j*c+B9*b:=by rw[gh,fS]
 have k:(d+B9*val j)*c=c*d+B9*val j*c:=by rw[kZ,er d c]
 rw[e,k];omega
def alj:j7 prog 126 265 1 8:= .mk' underlying126 acQ rfl Od Od
def Jo(n:Nat)(e:Int)(r:List Nat)(m:Nat):Prop:=
 bI r/\val r+B9^r.length*m=n/\((0<e/\e=nDigits m/\∃t,decDigits n=decDigits m++t)\/(e<=0/\m=0))
def ait(n:Nat):Jo n (nDigits n) [] n:=⟨kK,by simp,.inl ⟨by have:=nDigits_pos n;omega,rfl,[],by simp⟩⟩
def adL{l:List UInt8}(a b:Nat):((ByteArray.mk l.toArray).extract a b).data.toList=(l.take b).drop a:=by rw[ByteArray.data_extract,Array.toList_extract,List.extract_eq_take_drop,List.drop_take]
def aiu(h:Jo a B i b)(w:0<B):
 ∃(k E x u:Nat),B=E/\k=E - 9/\k<=E/\E<=nDigits a/\x<B9/\parseUintB 64 (((decDigits a).take E).drop k)= .ok x/\Jo a (B - 9) (i++ [x]) u:=by
 obtain⟨q,p,⟨_,s,t,j⟩|⟨z,_⟩⟩:=h
 ·have c:nDigits b<=nDigits a:=by rw[<-decDigits_length,<-decDigits_length,j,bD];omega
  have d:(decDigits a).take (nDigits b)=decDigits b:=by rw[j,<-decDigits_length b,List.take_left'];rfl
  by_cases f:b<B9
  ·have y:=(Dp f).1;refine⟨0,nDigits b,b,0,s,by omega,by omega,c,f,by rw[d,mV];exact akc f,q.snoc f,?_,.inr ⟨by omega,rfl⟩⟩;rw[pT,ID,kH];exact p
  ·have o:B9<=b:=ZO f;have l:=acv o;have v:nDigits b=nDigits (b/B9)+9:=by rw[<-decDigits_length,l,bD,E8,decDigits_length]
   have g:b%B9<B9:=fC _ Od;refine⟨nDigits (b/B9),nDigits b,b%B9,b/B9,s,by omega,by omega,c,g,?_,q.snoc g,?_,.inl ⟨?_,by omega,eJ 9 (b%B9)++t,by rw[j,l,jk]⟩⟩
   ·rw[d,l,<-decDigits_length (b/B9),List.drop_left];exact alZ g
   ·rw[pT,bD,gc,eA,<-p,fS,Ci,<-gh];congr 2;rw[nL];exact uX b B9
   ·have:=nDigits_pos (b/B9);omega
 ·omega
def ajh(h:Jo a B i b)(d:¬0<B):bI i/\val i=a:=by
 obtain⟨f,c,⟨j,_⟩|⟨_,g⟩⟩:=h
 ·exact absurd j d
 ·rw[g,ID,kH] at c;exact⟨f,c⟩
def Cu(z:Int)(w:au)(K:kL z):
 Calls prog 120 #[aM (aY z)] w fun e X=>∃v,e= .returned v/\cj X v z/\Ext w X:=by
 have HT:=af (M7 z);have HF:=af K;have uv:nDigits z.natAbs<=9000000:=(by unfold kL Fit at K;exact m76)
 clear K;go_enter func120,ntmps120;go_wp2_with fail;refine aR (P:=fun W=>Calls _ _ _ W _) fun W HX HR=> ?_;refine(Tryz.strings_CutPrefix _ _ W).mono ?_;rintro e w1 ⟨rfl,rfl⟩;rw[HT.1,HT.2];have HZ:ah (signed (decide (z<0)) z.natAbs=z):=by unfold ah signed;by_cases h:z<0<;>simp [h]<;>omega
 generalize aY z=tz at*;generalize decide (z<0)=J at*;generalize hn:z.natAbs=n at*;have HN:=af hn;clear hn;have i:(decDigits n)=nDigits n:=decDigits_length n;go_wp2_with fail
 have a:(ByteArray.mk (decDigits n).toArray).size=nDigits n:=by rw[<-i];rfl
 have pz:=af a;clear i a;go_loopw [5,6,7,8] (fun v5 I _ _ wr=>∃(e:Int) (m:Nat) (r:List Nat),I=av e/\ah (Jo n e r m)/\r.length<=1000001/\ah (wr.ownsRow (w.heap.size+1) 265 1 v5 r (cZ r))/\ah (Below (w.heap.size+1) w1 wr)/\e<=9000000 - 9*(r.length:Int)) (fun _ I _ _ _=>(RowKit.intOf I+9).toNat);exact⟨_,n,[],rfl,ait n,by simp,mQ _ _ _ _,xe _ _,by simp;omega⟩;obtain⟨e,m,r,rfl,C,gL,D,f,hel⟩:=hrel;by_cases he:0<e
 ·obtain⟨k,E,x,m',rfl,G,hkE,y,Y,hp,s⟩:=aiu C he;have OB:max (0:Int) ((E:Int) - 9)=(k:Int):=Om;have HKE:=af G;have Q:=af s;have HP:=af hp;have hEl:E<=(decDigits n).length:=by rw[decDigits_length];exact y
  have HXB:=af Y;clear G hp s Y y;go_wp2_with fail;refine(Tryz.strconv_ParseUint_10_at64_ok _ ?_ x ?_ wr).mono ?_
  ·have:(ByteArray.extract ⟨(decDigits n).toArray⟩ k E).size<=E:=by simp [ByteArray.size_extract];omega
   omega
  ·rw[adL];exact HP
  rintro e H ⟨rfl,o⟩;have d:Ext wr H:=by
   rcases o with rfl|rfl
   ·exact aB _
   ·exact Lib.bytesWorld_below _ _ _
  have a:w.heap.size+1<=wr.heap.size:=by have:=f.size;have:=HR.lt;omega
  have g:w.heap.size+1<=H.heap.size:=aV a d.size;have F:=af (C8 D d);have U:=af (f.trans (d.mono a));clear o d a;go_wp2_with (at_builtin;refine gf rfl _ _ 126 rfl (w.heap.size+1) alj _ _ _ rfl F.ae #[.int .u64 x] 1 1 rfl rfl rfl Om g ?_)
  intro v' V t u _;have b:=af (U.grown u g (fun k G=>(F.lt k G).1));have R:ah (V.ownsRow (w.heap.size+1) 265 1 v' (r++ [x]) (cZ (r++ [x]))):=by rw[ah,bD];simpa [cZ] using t
  clear t u;go_wp2;go_roundw;exact⟨_,m',r++ [x],rfl,Q,by simp;omega,R,b,by simp;omega⟩;simp [RowKit.intOf];omega
 ·have HE:=af (ajh C he);obtain⟨A,c,rfl,hc,_,O⟩:=eL D;have HS:=af O;have M:ah (Ext w wr):=pQ HX (f.mono (mX _));have T:ah (aq wr w.heap.size dm [.bool false,.slice none 0 0]):=(f.block w.heap.size Om).trans HR.ae;go_wp2_with fail
  refine(tS A c r r wr rfl hc Om HE.1 HS).mono ?_;rintro e H ⟨r2,L,rfl,j,Z,q,rfl⟩;have S:=af (eO.mk' (n:=n) j (Z.trans HE.2) (aV L hc) q);clear j Z q;go_wp2_with fail
  refine(rO J _ n wr S (by have:=HF.ae;rwa[kL,HN.ae] at this)).mono ?_;rintro e V ⟨v3,rfl,p,l⟩;obtain⟨b3,A3,n3,c3,rfl,B⟩:=p.parts;have b:=af (T.ext l);have N:=af (M.trans l);obtain⟨k0,k1⟩:=b.two;have f0:=b.frozen 0;have f1:=b.frozen 1;rw[HZ.ae] at B;clear p l;go_wp2;exact xC rfl rfl rfl b.ae B N (aL _) (fun v W' h1 h2=>⟨v,rfl,h1,h2⟩)
def Cg(h:a<T):(byteCells T)[a]? =some (.int .u8 (T[a].toNat:Int)):=by simp [byteCells,h]
def abl(l:List UInt8)(w:au):∃W b,(convert 9 199 (aM l)).run prog w= .ok (aG w.heap.size 0 l.length b) W/\Ext w W/\Sl W 5 (dV w.heap.size 0) (byteCells l):=by
 refine⟨_,_,Lib.run_convert_string_bytes w 9 199 5 ⟨l.toArray⟩ underlying9 underlying199 underlying5,Lib.bytesWorld_below _ _ _,?_⟩;intro j u a;refine⟨w.heap.size,0,_,_,rfl,Lib.bytesWorld_at_new _ _ _,?_⟩;have c:j<l.length:=by
  rcases cA j l.length with h|h
  ·exact h
  ·rw[eT (by simpa [byteCells] using h)] at a;cases a
 rw[<-a,jL,Lib.bytesCells,Array.getElem?_append_left axv];simp [byteCells,c]
def IW(z:Int)(w:au)(l:nDigits z.natAbs<=400):
 Calls prog 188 #[aM (aY z)] w fun e H=>e= .returned (.bool true)/\Ext w H:=by
 have F:=af (M7 z);by_cases v:z=0
 ·subst v;have D:aY 0= [48]:=Cy;rw[D];clear D l;go_enter func188,ntmps188;go_wp2;go_ret;exact⟨rfl,aB _⟩
 ·obtain⟨c,r,j,E,t⟩:=TF (n:=z.natAbs) Om;have f:(c::r).length<=400:=by rw[<-j,decDigits_length];exact l
  have K:(aY z== [48])=false:=(by rw[beq_eq_false_iff_ne];intro h;have:aY z=aY 0:=h.trans Cy.symm;exact v (Cz this));have i:((c.toNat:Int)==48)=false:=(by rw[beq_eq_false_iff_ne];intro h;exact E (Ra axT));have B:ah (∀x∈c::r,jA x):=by rw[ah,<-j];exact vg _
  rw[j] at F;clear E t j l v;generalize aY z=O at*;go_enter func188,ntmps188;go_wp2_with fail;refine(Tryz.strings_TrimPrefix _ _ w).mono ?_;rintro e G ⟨rfl,rfl⟩;rw[F.1];obtain⟨W,M,hcv,C,d⟩:=abl (c::r) G;have A:=af d;have N:=af C;clear d C;have L:(r.length:Int)+1<=400:=by rw[cT] at f;omega
  have m:0<(ByteArray.mk (c::r).toArray).size:=ax7;have u:((((ByteArray.mk (c::r).toArray)[0]'m).toNat:Int)==48)=false:=i;go_wp2_with fail
  clear hcv;go_loop [5,25] (fun _ a=>∃k:Nat,k<=r.length+1/\a=av k) (fun _ a=>r.length+1 - (RowKit.intOf a).toNat);exact⟨0,aU _,rfl⟩;obtain⟨k,P,rfl⟩:=hrel;by_cases p:k<r.length+1
  ·have q:k<(c::r).length:=by rw[cT];exact p
   have s:=B ((c::r)[k]) Ou;unfold jA at s;obtain⟨g,o,y,_,b⟩:=A.at_ (Cg q);injection y with y;cases y;rw[jL] at b;generalize(c::r)[k].toNat=x at*;have J:¬(x:Int)<48:=Om;have I:¬(57:Int)<x:=Om;exact UZ
  ·go_wp2;go_ret;exact⟨rfl,N⟩
def Cx(l:List UInt8)(i j:Nat):(ByteArray.mk l.toArray).extract i j=⟨((l.take j).drop i).toArray⟩:=by
 have h:=adL (l:=l) i j;generalize(ByteArray.mk l.toArray).extract i j=x at h;cases x with
 |mk d=>rw[<-h]
def aa_(l:List UInt8)(w:au)(_hl:l.length<=100000000)(a:l≠ [47]):
 Calls prog 250 #[aM l,.string ⟨#[47]⟩] w fun e b=>e= .returned (av (indexByte l 47))/\b=w:=by
 have c:([47]==l)=false:=by rw[beq_eq_false_iff_ne];exact fun h=>a h.symm
 go_enter func250,ntmps250;go_wp2_with fail;refine(Tryz.stringslite_IndexByte _ _ w).mono ?_;rintro e b ⟨rfl,rfl⟩;go_wp2;go_ret;exact⟨rfl,rfl⟩
def ai1(l:List UInt8)(w:au)(c:l.length<=100000000)(b:(47:UInt8)∉l):
 Calls prog 195 #[aM l,.string ⟨#[47]⟩] w fun e a=>e= .returned (.tuple #[aM l,.string ⟨#[]⟩,.bool false])/\a=w:=by
 have f:=af (Z5 b);have g:ah (l≠ [47]):=fun h=>b (by simp [h]);have d:=af c;go_enter func195,ntmps195;go_wp2_with fail
 refine(aa_ l w d g).mono ?_;rintro e a ⟨rfl,rfl⟩;rw[f.ae];go_wp2;go_ret3;exact⟨rfl,rfl⟩
def ai0(a b:List UInt8)(w:au)(t:a+b.length<=10000000)(j:b≠ [])(i:(47:UInt8)∉a):
 Calls prog 195 #[aM (a++47::b),.string ⟨#[47]⟩] w fun e g=>e= .returned (.tuple #[aM a,aM b,.bool true])/\∃n,g=w.drewN n:=by
 have m:=af (Z6 (b:=b) i);have o:ah (a++47::b≠ [47]):=fun h=>by
  have:=congrArg List.length h;rcases b with _|⟨x,r⟩
  ·exact j rfl
  ·simp at this;omega
 have k:ah ((a++47::b).length<=100000000):=by rw[ah,bD,cT];omega
 have c:(a++47::b).length=a+b.length+1:=Oc;obtain⟨l,d⟩:∃l,l=a++47::b:=⟨_,rfl⟩;have f:=af d;rw[<-d] at m o k c⊢;have s:=af c;have v:(a.length:Int)<=(l.length:Int):=Om;have u:(a.length:Int)+1<=(l.length:Int):=Om;clear i j d c;go_enter func195,ntmps195;go_wp2_with fail
 refine(aa_ l w k o).mono ?_;rintro e g ⟨rfl,rfl⟩;rw[m.ae];go_wp2;go_quiet (fail);go_wp2;go_ret3;refine⟨?_,_,rfl⟩;have q:(ByteArray.mk l.toArray).extract 0 a=⟨a.toArray⟩:=by rw[Cx,f.ae];simp
 have p:(ByteArray.mk l.toArray).extract (a.length+1) l=⟨b.toArray⟩:=by rw[Cx,dD (aL _),f.ae,show a++47::b=(a++ [47])++b by simp,List.drop_left' Ou]
 show Ending.returned (Value.tuple #[.string ((ByteArray.mk l.toArray).extract 0 a),.string ((ByteArray.mk l.toArray).extract (a.length+1) l),.bool true])=_
 rw[q,p]
def Nw(l:List UInt8)(w:au)(c:l.length<=100000000)(b:(47:UInt8)∉l):
 Calls prog 119 #[aM l,.string ⟨#[47]⟩] w fun e a=>e= .returned (.tuple #[aM l,.string ⟨#[]⟩,.bool false])/\Ext w a:=by
 have H:=af (ai1 l w c b);go_enter func119,ntmps119;go_wp2_with fail;refine H.mono ?_;rintro e a ⟨rfl,rfl⟩;go_wp2;go_ret3;exact⟨rfl,aB _⟩
def TG(a b:List UInt8)(w:au)(f:a+b.length<=10000000)(g:b≠ [])(d:(47:UInt8)∉a):
 Calls prog 119 #[aM (a++47::b),.string ⟨#[47]⟩] w fun e c=>e= .returned (.tuple #[aM a,aM b,.bool true])/\Ext w c:=by
 have H:=af (ai0 a b w f g d);generalize a++47::b=l at*;go_enter func119,ntmps119;go_wp2_with fail;refine H.mono ?_;rintro e c ⟨rfl,n,rfl⟩;go_wp2;go_ret3;exact⟨rfl,(aB _).drewN _⟩
def bR.dn(h:bR (e+1) H):nDigits H.num.natAbs<=e+1:=zi h.1
def bR.dd(h:bR (a+1) H):nDigits H.den<=a+1:=zi h.2
def xt:aY 1= [49]:=lG Od
def anI(w:au):Calls prog 120 #[.string ⟨#[49]⟩] w fun e a=>∃v,e= .returned v/\cj a v 1/\Ext w a:=by have h:=Cu 1 w Fx.wide;rw[xt] at h;exact h
def SL(q:Rat)(w:au)(c:bR (e+1) q)(x:e<=100000):
 Calls prog 58 #[aM (cP q)] w fun e p=>∃v,e= .returned v/\bQ p v q/\Ext w p:=by
 have r:=af (c.num Om).wide;have u:=af (c.den Om).wide;have g:=zf q.num;have f:=c.dn;have i:=c.dd;by_cases h1:q.den=1
 ·have l:=af (pP h1);have a:(aY q.num).length<=100000000:=Om;have m:=af a;have H1:=af h1;clear g f i a h1 c;rw[l.ae];go_enter func58,ntmps58;go_wp2_with fail
  refine aR (P:=fun W=>Calls _ _ _ W _) fun W HX HR=> ?_;refine(Nw (aY q.num) W m (vh _)).mono ?_;rintro e k ⟨rfl,hx1⟩;go_wp2_with fail;refine(Cu q.num k r).mono ?_;rintro e j ⟨t,rfl,hv2,hx2⟩;obtain⟨b2,A2,n2,c2,rfl,uE⟩:=hv2.parts;go_wp2_with fail;refine(anI j).mono ?_;rintro e w3 ⟨s,rfl,hv3,hx3⟩;obtain⟨b3,A3,n3,c3,rfl,G7⟩:=hv3.parts;exact m55
 ·have l:=af (qz h1);have a:(aY q.num)+(decDigits q.den).length<=10000000:=ayn;have m:=af a;have n:ah (decDigits q.den=aY q.den):=(rR _).symm;clear g f i a h1 c;rw[l.ae];generalize d:aY q.num=dn at*;generalize hdd:decDigits q.den=dd at*;have b:=af d;have o:=af hdd;clear d hdd;go_enter func58,ntmps58;go_wp2_with fail
  refine aR (P:=fun W=>Calls _ _ _ W _) fun W HX HR=> ?_;refine(TG dn dd W m (by rw[<-o.ae];exact Co _) (by rw[<-b.ae];exact vh _)).mono ?_;rintro e k ⟨rfl,hx1⟩;go_wp2_with fail;rw[<-b.ae];refine(Cu q.num k r).mono ?_;rintro e j ⟨t,rfl,hv2,hx2⟩;obtain⟨b2,A2,n2,c2,rfl,uE⟩:=hv2.parts;rw[b.ae];go_wp2_with fail;rw[n.ae];refine(Cu q.den j u).mono ?_;rintro e w3 ⟨s,rfl,hv3,hx3⟩;obtain⟨b3,A3,n3,c3,rfl,G7⟩:=hv3.parts;have H1:ah (((q.den:Nat):Int)=q.den):=rfl;exact m55
def ao4(a b:List UInt8):(ByteArray.mk a.toArray)++(ByteArray.mk b.toArray)=⟨(a++b).toArray⟩:=by
 apply ByteArray.ext
 rw[ByteArray.data_append];simp
def Ua(a b:List UInt8)(w:au)(h:a+b.length<=1000000):(Op.stringOp .add ⟨a.toArray⟩ ⟨b.toArray⟩).run prog w= .ok (aM (a++b)) w:=by have:=run_string_add_sum (P:=prog) (w:=w) ⟨a.toArray⟩ ⟨b.toArray⟩ ayk;rw[ao4] at this;exact this
def TA(v:Value)(q:Rat)(w:au)(h:bQ w v q)(p:bR a q)(S:a<=100000)(s:d7 w):
 Calls prog 69 #[v] w fun a o=>a= .returned (aM (cP q))/\Ext w o:=by
 have L:=af (fun(w:au) (h:bQ w v q)=>Sj v q w h p Om);obtain⟨b,A,n,c,K,e,R,X,rfl,H,Y⟩:=h.parts;have N:=af (p.num Om).wide;have Z:=af (p.den Om).wide;have M:=af h;have y:=af s;have B:ah (decDigits q.den=aY q.den):=(rR _).symm;have r:ah ((aY q.num).length<=100002/\(aY q.den).length<=100002):=(by have l:=zf q.num;have V:=zf q.den;have h3:=zi (cy p.1 (fK Od (mX a)));have h4:=zi (cy p.2 (fK Od (mX a)));rw[ib] at V;exact⟨by omega,by omega⟩)
 clear h p S s;by_cases l:q.den=1
 ·have u:decide (q.den=1)=true:=decide_eq_true l;have z:=af (pP l);clear l;rw[z.ae];go_enter func69,ntmps69;go_wp2_with fail
  refine aR (P:=fun W=>Calls _ _ _ W _) fun W m C=> ?_;refine(L W (M.ext m)).mono ?_;rintro a D ⟨rfl,d⟩;rw[u];obtain⟨I,G,F,E⟩:=(C.ext d).four;go_wp2_with fail;refine(RX _ q.num D (H.ext (m.trans d)) N (y.ext (m.trans d))).mono ?_;rintro a O ⟨rfl,i⟩;go_wp2;go_ret;exact⟨rfl,m.trans (d.trans i)⟩
 ·have u:decide (q.den=1)=false:=decide_eq_false l;have z:=af (qz l);clear l;go_enter func69,ntmps69;go_wp2_with fail
  refine aR (P:=fun W=>Calls _ _ _ W _) fun W m C=> ?_;refine(L W (M.ext m)).mono ?_;rintro a Q ⟨rfl,k⟩;rw[u];have j:=af (C.ext k);have g:=af (m.trans k);obtain⟨I,G,F,E⟩:=j.four;clear k;have t:=fun(x:au) (h:cj x (.agg #[.bool b,.slice A n c]) q.num) (s:d7 x)=>RX _ q.num x h N s;have U:=fun w=>Ua (aY q.num) [47] w (by have:=r.ae;simp;omega);have T:=fun w=>Ua (aY q.num++ [47]) (aY q.den) w (by have:=r.ae;simp;omega);generalize J:aY q.num=dn at*;have HQ:=af J;clear J;go_wp2_with fail
  go_region_held3 (fun o=>aA o w.heap.size 0 (.bool b)/\aA o w.heap.size 1 (.slice A n c)/\aA o w.heap.size 2 (.bool K)/\aA o w.heap.size 3 (.slice e R X)) (first|with_reducible exact⟨I,G,F,E⟩|with_reducible exact j.ae.drew.four|with_reducible exact(j.ae.ext f).four|with_reducible exact(j.ae.ext (f.trans i)).four)
   (first
     |(go_at_call 147;(with_reducible show Calls _ _ #[Value.agg #[Value.bool b,_]] _ _);refine(t _ (H.ext (by exact g.drew)) (y.ext (by exact g.drew))).mono ?_;rintro a D ⟨rfl,d⟩;have f:=(aB Q).drew.trans d)
     |(go_at_call 147;(with_reducible show Calls _ _ #[Value.agg #[Value.bool K,_]] _ _);refine(RX _ q.den _ (Y.ext (by exact g.trans f)) Z (y.ext (by exact g.trans f))).mono ?_;rintro a O ⟨rfl,i⟩))
  go_wp2;go_ret;exact⟨by rw[z.ae,B.ae,List.append_cons];rfl,g.trans (f.trans i)⟩
def amv(h:nDigits a<=b):a<10^b:=cy (ajq a) (fK Od h)
def aqc(b:a<=1000000)(h:nDigits B.natAbs<=a):cQ B:=⟨a,b,amv h⟩
def rP(h:nDigits B.natAbs<=400):cQ B:=aqc Od h
def SK(z:Int)(w:au)(i:kL z):
 Calls prog 215 #[aM (aY z)] w fun e h=>∃v,e= .returned v/\cj h v z/\Ext w h:=by
 have o:=af i;clear i;generalize j:aY z=d at*;have p:=af j;clear j;go_enter func215,ntmps215;go_wp2_with fail
 refine aR (P:=fun W=>Calls _ _ _ W _) fun W m n=> ?_;rw[<-p.ae];refine(Cu z W o).mono ?_;rintro e q ⟨r,rfl,c,b⟩;obtain⟨y,B,s,x,rfl,g⟩:=c.parts;have a:=af (n.ext b);have f:=af (m.trans b);obtain⟨u,t⟩:=a.two;have f0:=a.frozen 0;have f1:=a.frozen 1;clear c b;go_wp2;exact xC rfl rfl rfl a.ae g f (aL _) (fun v A l k=>⟨v,rfl,l,k⟩)
def aiV(x y:Int)(w:au)(l:nDigits x.natAbs<=400)(g:nDigits y.natAbs<=400):
 Calls prog 189 #[aM (aY x),aM (aY y)] w fun e q=>e= .returned (av (x - y).sign)/\Ext w q:=by
 have s:=af (fun w=>IW x w l);have r:=af (fun w=>IW y w g);have u:=af (fun w=>SK x w (rP l).wide);have t:=af (fun w=>SK y w (rP g).wide);have B:=af (rP l);have A:=af (rP g);generalize aY x=a at*;generalize aY y=b at*;go_enter func189,ntmps189;go_wp2_with fail
 refine(s w).mono ?_;rintro e p ⟨rfl,k⟩;go_wp2_with fail;refine(r p).mono ?_;rintro e o ⟨rfl,j⟩;go_wp2_with fail;refine(u o).mono ?_;rintro e n ⟨E,rfl,f,i⟩;obtain⟨K,M,G,I,rfl,z⟩:=f.parts;go_wp2_with fail;refine(t n).mono ?_;rintro e m ⟨D,rfl,d,c⟩;obtain⟨J,L,F,H,rfl,v⟩:=d.parts;go_wp2_with fail;refine(Ir _ _ x y m (f.ext c) d B A).mono ?_;rintro e C ⟨rfl,h⟩;go_wp2;go_ret;exact⟨rfl,k.trans (j.trans (i.trans (c.trans h)))⟩
def aiU(x:Int)(w:au)(b:nDigits x.natAbs<=400):
 Calls prog 189 #[aM (aY x),.string ⟨#[49]⟩] w fun e a=>e= .returned (av (x - 1).sign)/\Ext w a:=by
 have h:=aiV x 1 w b (by rw[show(1:Int).natAbs=1 from rfl,nDigits_small Od];decide);rw[xt] at h;exact h
def aqF(w:au):Calls prog 126 #[av 1] w fun e a=>∃b,e= .returned b/\cj a b 1/\Ext w a:=Ju 1 w Od Od
def aaK(q:Rat)(w:au)(x:bR 400 q):
 Calls prog 114 #[aM (cP q)] w fun e Q=>e= .returned (.bool true)/\Ext w Q:=by
 have F:=af (fun w=>IW q.num w x.dn);have v:=zf q.num;have f:=x.dn;have n:=x.dd;by_cases h1:q.den=1
 ·have G:=af (pP h1);rw[G.ae];have c:=vh q.num;generalize aY q.num=a at*;have I:=af (fun w=>Nw a w Om c);clear v f n h1 x c;go_enter func114,ntmps114;go_wp2_with fail
  refine(I w).mono ?_;rintro e A ⟨rfl,j⟩;go_wp2_with fail;refine(F A).mono ?_;rintro e z ⟨rfl,i⟩;go_wp2_with fail;refine(F z).mono ?_;rintro e J ⟨rfl,g⟩;go_wp2;go_ret;exact⟨rfl,j.trans (i.trans g)⟩
 ·have G:=af (qz h1);have d:nDigits (q.den:Int).natAbs<=400:=by rw[ib];exact n
  have S:=af (fun w=>IW q.den w d);have C2:=af (fun w=>aiU q.den w d);have U:=af (fun w=>Cu q.num w (rP f).wide);have T:=af (fun w=>Cu q.den w (rP d).wide);have F1:=af (rP f);have F2:=af (rP d);have u:((q.den:Int) - 1).sign=1:=Ie ayz;have H:=af u;have R:(aY q.num== [48])=false:=(by exact afU)
  have K:Int.gcd q.num q.den=1:=q.reduced;have Z:=af K;have y:decDigits q.den=aY q.den:=(rR _).symm;rw[G.ae];have c:=vh q.num;have l:=Co q.den;have m:(aY q.num)+(decDigits q.den).length<=10000000:=ayn;rw[y] at l m⊢;generalize aY q.num=a at*;generalize aY q.den=b at*;have I:=af (fun w=>TG a b w m l c);generalize a++47::b=ab at*;clear v f n h1 x c d u K y l m;go_enter func114,ntmps114;go_wp2_with fail
  refine(I w).mono ?_;rintro e A ⟨rfl,j⟩;go_wp2_with fail;refine(F A).mono ?_;rintro e z ⟨rfl,i⟩;go_wp2_with fail;refine(S z).mono ?_;rintro e J ⟨rfl,g⟩;go_wp2_with fail;refine(C2 J).mono ?_;rintro e P ⟨rfl,E⟩;rw[H.ae];go_wp2_with fail;refine(U P).mono ?_;rintro e O ⟨v5,rfl,t,D⟩;obtain⟨b5,A5,n5,c5,rfl,Y⟩:=t.parts;go_wp2_with fail;refine(T O).mono ?_;rintro e N ⟨v6,rfl,s,p⟩;obtain⟨b6,A6,n6,c6,rfl,X⟩:=s.parts;go_wp2_with fail;refine(aaX _ _ q.num q.den N (t.ext p) s F1 F2).mono ?_;rintro e M ⟨v7,rfl,k,C⟩;rw[Z.ae] at k;obtain⟨b7,A7,n7,c7,rfl,W⟩:=k.parts;go_wp2_with fail;refine(aqF M).mono ?_;rintro e L ⟨v8,rfl,r,o⟩;obtain⟨b8,A8,n8,c8,rfl,V⟩:=r.parts;go_wp2_with fail;refine(Ir _ _ 1 1 L (k.ext o) r Fx Fx).mono ?_;rintro e w9 ⟨rfl,B⟩;go_wp2;go_ret;exact⟨rfl,j.trans (i.trans (g.trans (E.trans (D.trans (p.trans (C.trans (o.trans B)))))))⟩
end
end Go.Proofs.YtehkcnbodcdijaaGreatDoor
