/- Texts of the proof, part 5. -/
import Derived.Test.YtadbchhdjbghkaaGreatDoorA4
namespace Go.Proofs.YtadbchhdjbghkaaGreatDoor
set_option maxHeartbeats 8000000
set_option linter.all false
set_option maxRecDepth 100000
variable{aq:Prop}
open Go.RowKit Go.Lib Go.Maps Go.ChangeShapes Go.WideShapes Go.ChangeAt Go.Proofs.Tryz
variable{a b c d e f g h:Nat}{i j k l:List Nat}{m n o:World}{p q r s:Value}{t u v:List Value}{w x:TypeId}{y z:Nat→Option Nat}{A:Nat→List Nat}{B C:Int}{E F:Option Addr}{H I:Rat}{J:Nat→Nat}{K:Nat→Bool}{L:List Int}{N:Array Bool}{O:Option Nat}{Q:Act}{R S:Bool}{T:List UInt8}
section
open Go.Sort
def dW(w:au):Prop:=Lib.TabIs prog w "internal/strconv.uint64pow10" .u64 Lib.pow10Tab
def aps(u:Nat)(a:u<18446744073709551616)(w:au)(g:dW w):
 Calls prog 206 #[.int .u64 u,av 10] w fun e l=>e= .returned (aL (Lib.decDigits u))/\Ext w l:=by
 by_cases t:u<100
 ·go_enter func206,ntmps206;go_wp2_with (go_at_call 252;refine(Tryz.internal_strconv_small u t _).mono ?_;rintro e l ⟨rfl,rfl⟩);go_ret;exact⟨rfl,aB _⟩
 ·have f:1<=u:=Om;have m:Lib.nDigits u<=20:=by have:=Lib.numDigits_eq u f a;split at this<;>omega
  have o:prog.arrayLen 305=24:=by simp [Program.arrayLen,underlying305]
  have s:∀W,(Instr.sliceAt 305 (aI w.heap.size 0) none (some (av (Lib.nDigits u:Int))) none).run prog W= .ok (aG w.heap.size 0 (Lib.nDigits u) 24) W:=fun W=>by rw[run_sliceAt_array_h W 305 ⟨w.heap.size,0,none⟩ (by simp [Program.arrayLen,Program.elem,underlying305]) .i64 (Lib.nDigits u:Int) Om (by rw[o];omega)];go_simp
  have i:=Lib.holds_zero0 w 305 (Lib.nDigits u) Om;have c:=Tryz.internal_strconv_formatBase10 w.heap.size 0 24 u (Array.replicate (Lib.nDigits u) 0) (w.alloc (.cells Lib.zeros24 305)) i (by rw[PX];exact Lib.lt_pow_nDigits u) a (by rw[PX];omega);rw[PX] at c;have p:=af i;go_enter func206,ntmps206;go_wp2_with (first
   |(go_at_call 253;refine(Tryz.internal_strconv_numDigits u f a _ (Lib.tabIs_alloc g _)).mono ?_;rintro e l ⟨rfl,rfl⟩))
  refine c.mono ?_;rintro e l ⟨rfl,k,y,d,rfl,hF⟩;have hcv:(convert 156 9 (aG w.heap.size 0 (Lib.nDigits u) 24)).run prog ((putRow (fun(b:UInt8)=>Value.int .u8 (b.toNat:Int)) (w.alloc (.cells Lib.zeros24 305)) w.heap.size 0 d).drewN k)= .ok (aL (Lib.decDigits u)) ((putRow (fun(b:UInt8)=>Value.int .u8 (b.toNat:Int)) (w.alloc (.cells Lib.zeros24 305)) w.heap.size 0 d).drewN k):=by have h:=run_convert_bytes_back ((putRow (fun(b:UInt8)=>Value.int .u8 (b.toNat:Int)) (w.alloc (.cells Lib.zeros24 305)) w.heap.size 0 d).drewN k) 156 9 5 ⟨w.heap.size,0,none⟩ 24 (Lib.decDigits u) underlying156 underlying5 underlying9 (fun j n=>by rw[Lib.row_is_numeral hF j n,Lib.add_plain,World.cell?_drewN];exact cell?_putRow (fun(b:UInt8)=>Value.int .u8 (b.toNat:Int)) _ w.heap.size 0 _ d p (by rw[hF.size,PX]) j (by rw[hF.size];rw[Lib.decDigits_length] at n;exact n));rw[Lib.decDigits_length] at h;exact h
  have r:Ext w ((putRow (fun(b:UInt8)=>Value.int .u8 (b.toNat:Int)) (w.alloc (.cells Lib.zeros24 305)) w.heap.size 0 d).drewN k):=(by obtain⟨q,v⟩:=Lib.fin_at w (.cells Lib.zeros24 305) d k 0;rw[v];exact Lib.below_grow _ w (aK _) k q);have x:=af r;generalize(putRow (fun(b:UInt8)=>Value.int .u8 (b.toNat:Int)) (w.alloc (.cells Lib.zeros24 305)) w.heap.size 0 d).drewN k=W at*;go_wp2;go_ret;exact⟨rfl,x⟩
def adg(u:Nat)(a:u<18446744073709551616)(w:au)(b:dW w):
 Calls prog 153 #[.int .u64 u,av 10] w fun e c=>e= .returned (aL (Lib.decDigits u))/\Ext w c:=by
 have H:=af (aps u a w b);go_enter func153,ntmps153;go_wp2_with fail;refine H.mono ?_;rintro e c ⟨rfl,d⟩;go_wp2;go_ret;exact⟨rfl,d⟩
abbrev tB:TypeId:=239
abbrev t8:TypeId:=5
def Zb(b:Nat)(w:au)(d:aA w b 0 (aI b 0)):
 Calls prog 212 #[aI b 0] w fun e a=>e= .returned (.tuple #[])/\a=w:=by
 obtain⟨j,c,_⟩:=Option.map_eq_some_iff.1 Tryz.AA.sizeBuilder;go_enter func212,ntmps212;go_wp2;rw[Lib.run_neq_ptr_same w _ underlying237 c];go_wp2;go_end0;exact⟨rfl,rfl⟩
def ahc(b:Nat)(w:au)(d:aA w b 0 (.pointer none))(Vt:w.shape? b=some (tB,2))(c:w.frozen? (aC b 0)=false):
 Calls prog 212 #[aI b 0] w fun e a=>e= .returned (.tuple #[])/\a=w.setCell (aC b 0) (aI b 0):=by
 exact m35
def ahs(B b:Nat)(c:List Value)(w:au)(h:Lib.IsBuilder tB t8 B b c w):
 Calls prog 212 #[aI b 0] w fun e a=>e= .returned (.tuple #[])/\(Lib.BuilderAt tB t8 B b (aI b 0) c a/\Below B w a):=by
 rcases h with h|h
 ·refine(ahc b w h.cell0 h.shape h.frozen0).mono ?_;rintro e a ⟨rfl,rfl⟩;exact⟨rfl,h.used _,(yE B w).setCell h.1 _⟩
 ·refine(Zb b w h.cell0).mono ?_;rintro e a ⟨rfl,rfl⟩;exact⟨rfl,h,yE B _⟩
def Ed(B b:Nat)(bs:List Value)(s:ByteArray)(w:au)(h:Lib.IsBuilder tB t8 B b bs w)(c:bs+s.size<=140737488355328)(d:B<=w.heap.size):
 Calls prog 170 #[aI b 0,.string s] w fun e a=>e= .returned (.tuple #[av s.size,.nilIface])/\(Lib.BuilderAt tB t8 B b (aI b 0) (bs++Lib.strCells s) a/\Below B w a):=by
 obtain⟨i0,hi,hz0,hz1,hz2⟩:=info_parts Tryz.AA.infoByte;go_enter func170,ntmps170;go_wp2_with (go_at_call 212;refine(ahs B b bs _ h).mono ?_);exact m21
def er:Nat->Nat->List UInt8
 |0,_=> []
 |k+1,x=>er k (x/10)++ [UInt8.ofNat (48+x%10)]
def Er(k x:Nat):(er k x)=k:=by
 induction k generalizing x with
 |zero=>rfl
 |succ k a=>simp [er,a]
def k8(h:a<10):decDigits a= [UInt8.ofNat (48+a)]:=by rw[decDigits];simp [h]
def Bx(h:¬a<10):decDigits a=decDigits (a/10)++ [UInt8.ofNat (48+a%10)]:=by rw[decDigits];simp [h]
def MA(k h x:Nat)(f:0<h)(b:x<10^k):decDigits (h*10^k+x)=decDigits h++er k x:=by
 induction k generalizing x with
 |zero=>have:x=0:=awr;subst this;simp [er]
 |succ k c=>
  have d:0<10^k:=Nat.pow_pos Od;have e:h*10^(k+1)+x=10*(h*10^k)+x:=by rw[eU];grind
  have a:¬h*10^(k+1)+x<10:=(by rw[e];have:=vF f d;omega);have i:(h*10^(k+1)+x)/10=h*10^k+x/10:=by rw[e];omega
  have g:(h*10^(k+1)+x)%10=x%10:=by rw[e];omega
  rw[Bx a,i,g,c (x/10) (by rw[eU] at b;omega)];simp [er]
def akE(k:Nat):er k 0=List.replicate k 48:=by
 induction k with
 |zero=>rfl
 |succ k a=>rw[er,Nat.zero_div,a,G_];rfl
def nDigits_pos(u:Nat):0<nDigits u:=by rw[nDigits];split<;>omega
def ac0(k x:Nat)(a:x<10^(k+1)):nDigits x<=k+1/\er (k+1) x=List.replicate (k+1 - nDigits x) 48++decDigits x:=by
 induction k generalizing x with
 |zero=>have h:x<10:=avY;rw[nDigits_small h,k8 h];refine⟨aK _,?_⟩;have:=sN h;simp [er,this]
 |succ k b=>
  by_cases h:x<10
  ·rw[nDigits_small h,k8 h];refine⟨by omega,?_⟩;have e:x/10=0:=Om;have d:x%10=x:=Om;rw[er,e,d,akE];rfl
  ·have c:=b (x/10) (by rw[eU] at a;omega);rw[nDigits_big h,Bx h];refine⟨by omega,?_⟩;rw[er,c.2,show k+1+1 - (nDigits (x/10)+1)=k+1 - nDigits (x/10) by omega,ie]
def y_(b:a<B9):nDigits a<=9/\er 9 a=List.replicate (9 - nDigits a) 48++decDigits a:=ac0 8 a (by unfold B9 at b;exact b)
def texts:List Nat->List UInt8
 | []=> []
 |x::r=>if r= [] then decDigits x else texts r++er 9 x
def aj5(h:Canon i)(c:i≠ []):texts i=decDigits (val i):=by
 induction i with
 |nil=>exact absurd rfl c
 |cons x r b=>
  by_cases a:r= []
  ·subst a;simp [texts]
  ·rw[texts,if_neg a,b h.tail a,mr,mS,ed];exact(MA 9 (val r) x (Bq h.tail a) awa).symm
def ahH(k h x:Nat)(b:0<h)(a:x<10^k):nDigits (h*10^k+x)=nDigits h+k:=by rw[<-decDigits_length,<-decDigits_length,MA k h x b a,bC,Er]
def Qp(h:Canon i)(b:i≠ []):nDigits (val i)=9*(i.length - 1)+nDigits (i.getLast b):=by
 induction i with
 |nil=>exact absurd rfl b
 |cons x r c=>
  by_cases a:r= []
  ·subst a;simp
  ·rw[mr,mS,ed,List.getLast_cons a];have:=ahH 9 (val r) x (Bq h.tail a) awa;have e:val r*B9+x=val r*10^9+x:=rfl;rw[e,this,c h.tail a];have:r.length≠0:=fun h=>a (mh h);simp only[cP];omega
def dW.ext{w':au}(h:dW m)(d:Ext m w'):dW w':=by
 unfold dW Lib.TabIs World.var? at*;cases c:prog.globalNamed "internal/strconv.uint64pow10" with
 |none=>simp [c] at h
 |some g=>
  simp only[c,Lr] at h⊢;have a:g<m.heap.size:=by
   rcases cA g m.heap.size with b|b
   ·exact b
   ·simp [x6 b] at h
  rw[d.block g a];exact h
def yQ{size:Nat}(h:m.ownsRow a w size p b t)(j:Ext m n):n.ownsRow a w size p b t:=by
 obtain⟨f,o|⟨g,d,c,k,l,i,r⟩⟩:=h
 ·exact⟨f,.inl o⟩
 ·exact⟨f,.inr ⟨g,d,c,k,l,(j.block g (gS i)).trans i,r⟩⟩
def adl(h:IsBuilder tB t8 a b t m)(d:Ext m n):IsBuilder tB t8 a b t n:=by
 rcases h with⟨g,v,c,e,f⟩|⟨g,v,c,e,f⟩
 ·exact .inl ⟨g,v,(d.block b (gS c)).trans c,yQ e d,f⟩
 ·exact .inr ⟨g,v,(d.block b (gS c)).trans c,yQ e d,f⟩
def aQ(z:Int):List UInt8:=(if z<0 then [45] else [])++decDigits z.natAbs
def aiA(b:a<i):texts (i.drop a)=if a+1=i then decDigits i[a] else texts (i.drop (a+1))++er 9 i[a]:=by
 rw[jR b,texts];by_cases h:a+1=i
 ·rw[if_pos h,if_pos (Ai Om)]
 ·rw[if_neg h,if_neg (fun c=>by have:=List.drop_eq_nil_iff.1 c;omega)]
def Ef(l:List UInt8):strCells ⟨l.toArray⟩=byteCells l:=rfl
def byteCells_append(a b:List UInt8):byteCells (a++b)=byteCells a++byteCells b:=by simp [byteCells]
def Ql(c:Nat):repeatL [48] c=List.replicate c 48:=by
 induction c with
 |zero=>rfl
 |succ c a=>rw[repeatL,a];rfl
def Zl(d:bH i):(texts i)<=9*i.length:=by
 induction i with
 |nil=>simp [texts]
 |cons x r a=>
  rw[texts];have:=a d.tail;have b:=(y_ d.head).1;split
  ·rw[decDigits_length];simp only[cP];omega
  ·rw[bC,Er];simp only[cP];omega
def q28.k39(h:aq:=by
 have D:ah (IsBuilder tB t8 (w.heap.size+1) (w.heap.size+1) (byteCells ([45]++texts (l.drop (k+1))++List.replicate (9 - nDigits x) 48)) w4):=(by rw[Ef,<-byteCells_append,Ql] at hb4;exact .inr hb4);have q:ah ((byteCells ([45]++texts (l.drop (k+1))++List.replicate (9 - nDigits x) 48)).length<=9000011):=(by have:=GM.ae;rw[byteCells_length] at this;rw[ah,byteCells_length,bC,Lg];omega);clear hb4 g_;go_wp2_with fail;refine(Ed (w.heap.size+1) (w.heap.size+1) _ ⟨(decDigits x).toArray⟩ w4 D (by rw[hlen];have:=q.ae;omega) agH).mono ?_;rintro e I ⟨rfl,ny,fM⟩;have sB:ah (IsBuilder tB t8 (w.heap.size+1) (w.heap.size+1) (byteCells ([45]++texts (l.drop k))) I):=by rw[Ef,<-byteCells_append,ie,ie,<-d.ae] at ny;exact .inr ny
 exact aeN):=h
def q27.k28(h:aq:=by
 have i:(byteCells ([45]++texts (l.drop (k+1)))).length<=9000001:=by
  have Z:=Zl (HC.1.drop (k+1));have Y:(l.drop (k+1)).length<=n:=by rw[o8,l_.ae];omega
  rw[byteCells_length,bC];have X:([45]:List UInt8).length<=1:=Od;omega
 have GM:=af i;clear i;by_cases b:k+1=n
 ·have d:ah (texts (l.drop k)=texts (l.drop (k+1))++decDigits x):=by rw[ah,Kg.ae,if_pos b,Ai awQ];rfl
  have Q:=af b;go_wp2_with fail;refine(Ed (w.heap.size+1) (w.heap.size+1) _ ⟨(decDigits x).toArray⟩ w2 eo (by rw[hlen];have:=GM.ae;omega) NA).mono ?_;rintro e w3 ⟨rfl,hb3,hx3⟩;have gO:ah (IsBuilder tB t8 (w.heap.size+1) (w.heap.size+1) (byteCells ([45]++texts (l.drop k))) w3):=by rw[Ef,<-byteCells_append,ie,<-d.ae] at hb3;exact .inr hb3
  exact ae3
 ·have d:ah (texts (l.drop k)=texts (l.drop (k+1))++(List.replicate (9 - nDigits x) 48++decDigits x)):=by rw[ah,Kg.ae,if_neg b,HL9.ae]
  open q28 in exact m39):=h
def q30.k39(h:aq:=by
 have D:ah (IsBuilder tB t8 (w.heap.size+1) (w.heap.size+1) (byteCells ([]++texts (l.drop (k+1))++List.replicate (9 - nDigits x) 48)) w4):=(by rw[Ef,<-byteCells_append,Ql] at hb4;exact .inr hb4);have q:ah ((byteCells ([]++texts (l.drop (k+1))++List.replicate (9 - nDigits x) 48)).length<=9000011):=(by have:=GM.ae;rw[byteCells_length] at this;rw[ah,byteCells_length,bC,Lg];omega);clear hb4 g_;go_wp2_with fail;refine(Ed (w.heap.size+1) (w.heap.size+1) _ ⟨(decDigits x).toArray⟩ w4 D (by rw[hlen];have:=q.ae;omega) agH).mono ?_;rintro e I ⟨rfl,ny,fM⟩;have sB:ah (IsBuilder tB t8 (w.heap.size+1) (w.heap.size+1) (byteCells ([]++texts (l.drop k))) I):=by rw[Ef,<-byteCells_append,ie,ie,<-d.ae] at ny;exact .inr ny
 exact aeN):=h
def q29.k28(h:aq:=by
 have i:(byteCells ([]++texts (l.drop (k+1)))).length<=9000001:=by
  have Z:=Zl (HC.1.drop (k+1));have Y:(l.drop (k+1)).length<=n:=by rw[o8,l_.ae];omega
  rw[byteCells_length,bC];have X:([]:List UInt8).length<=1:=Od;omega
 have GM:=af i;clear i;by_cases b:k+1=n
 ·have d:ah (texts (l.drop k)=texts (l.drop (k+1))++decDigits x):=by rw[ah,Kg.ae,if_pos b,Ai awQ];rfl
  have Q:=af b;go_wp2_with fail;refine(Ed (w.heap.size+1) (w.heap.size+1) _ ⟨(decDigits x).toArray⟩ w2 eo (by rw[hlen];have:=GM.ae;omega) NA).mono ?_;rintro e w3 ⟨rfl,hb3,hx3⟩;have gO:ah (IsBuilder tB t8 (w.heap.size+1) (w.heap.size+1) (byteCells ([]++texts (l.drop k))) w3):=by rw[Ef,<-byteCells_append,ie,<-d.ae] at hb3;exact .inr hb3
  exact ae3
 ·have d:ah (texts (l.drop k)=texts (l.drop (k+1))++(List.replicate (9 - nDigits x) 48++decDigits x)):=by rw[ah,Kg.ae,if_neg b,HL9.ae]
  open q30 in exact m39):=h
def QS(v:Value)(z:Int)(w:au)(h:cj w v z)(S:d6 z)(R:dW w):
 Calls prog 106 #[v] w fun e T=>e= .returned (aL (aQ z))/\Ext w T:=by
 obtain⟨s,rfl,A,c,rfl,V,J⟩:=h;unfold d6 Fit at S;by_cases H:z.natAbs=0
 ·have L:(aW z.natAbs).length=0:=by rw[H];rfl
  have C:aQ z= [48]:=(by have:z=0:=Om;subst this;unfold aQ;rw[k8 Od];rfl);have HN:=af C;clear C J;rw[L];go_enter func106,ntmps106;go_wp2;go_ret;exact⟨by rw[HN.ae];rfl,(aB w).alloc _⟩
 ·have N:aW z.natAbs≠ []:=fun h=>H (qW.1 h);have L:0<(aW z.natAbs).length:=D6.2 N;have G:=af (aj5 (cW z.natAbs) N);have HC:=af (cW z.natAbs);have O:=af (dm z.natAbs);have HS:=af J;obtain⟨n,C⟩:∃n,(aW z.natAbs).length=n:=⟨_,rfl⟩;have l_:=af C;rw[C] at S L V;generalize aW z.natAbs=l at*;clear N J;rw[C];clear C;have HT:=af R;clear R;have r:val l=z.natAbs:=O.ae;by_cases a:z<0
  ·have M:decide (z<0)=true:=decide_eq_true a;have Dz:ah (aQ z= [45]++texts l):=by rw[ah,G.ae,r,aQ,if_pos a]
   clear r a H;generalize decide (z<0)=bz at*;subst M;go_enter func106,ntmps106;go_wp2_with fail;refine fR (P:=fun W=>Calls _ _ _ W _) fun W HX BX BB=> ?_;refine(Ed (w.heap.size+1) (w.heap.size+1) [] ⟨#[45]⟩ W (.inl ⟨aK _,_,BB,mQ _ _ _ _,by simp [Value.ownBlock]⟩) Od (by have:=BX.lt;have:=BB.lt;omega)).mono ?_;rintro e E ⟨rfl,F,y⟩;have t:ah (IsBuilder tB t8 (w.heap.size+1) (w.heap.size+1) (byteCells [45]) E):= .inr F;have j:=af y;have l6:aA E w.heap.size 1 (.slice A n c):=(y.cell (p:=aC w.heap.size 1) avV).trans (BX.aF 1);clear F y;go_wp2_with fail
   go_loopw [4,5] (fun u _ wr=>∃m:Nat,m<=n/\u=av ((m:Int) - 1)/\ah (IsBuilder tB t8 (w.heap.size+1) (w.heap.size+1) (byteCells ([45]++texts (l.drop m))) wr)/\ah (Below (w.heap.size+1) W wr)) (fun u _ _=>(RowKit.intOf u+1).toNat)
   exact⟨n,aK _,rfl,by rw[Ai (by rw[l_.ae];exact aK _)];simpa [texts] using t,j⟩;obtain⟨m,U,rfl,oT,bQ⟩:=hrel;have l6:aA wr w.heap.size 1 (.slice A n c):=(bQ.cell (p:=aC w.heap.size 1) avV).trans (BX.aF 1);rcases ip m with f|f
   ·subst f;go_wp2_with fail;refine(Tryz.Builder_String_any (w.heap.size+1) (w.heap.size+1) ([45]++texts (l.drop 0)) wr oT awz).mono ?_;exact aeE
   ·open q27 in exact m28
  ·have M:decide (z<0)=false:=decide_eq_false a;have Dz:ah (aQ z= []++texts l):=by rw[ah,G.ae,r,aQ,if_neg a]
   clear r a H;generalize decide (z<0)=bz at*;subst M;go_enter func106,ntmps106;go_wp2_with fail;refine fR fun W HX BX BB=> ?_;have t:ah (IsBuilder tB t8 (w.heap.size+1) (w.heap.size+1) (byteCells []) W):= .inl ⟨aK _,_,BB,mQ _ _ _ _,by simp [Value.ownBlock]⟩;have j:=af (yE (w.heap.size+1) W);obtain⟨E,B⟩:∃E,E=W:=⟨_,rfl⟩;rw[<-B] at t⊢;have j:ah (Below (w.heap.size+1) W E):=by rw[B];exact j
   clear B;have K:((n:Int)==0)=false:=avM;rw[K];go_loopw [4,5] (fun u _ wr=>∃m:Nat,m<=n/\u=av ((m:Int) - 1)/\ah (IsBuilder tB t8 (w.heap.size+1) (w.heap.size+1) (byteCells ([]++texts (l.drop m))) wr)/\ah (Below (w.heap.size+1) W wr)) (fun u _ _=>(RowKit.intOf u+1).toNat)
   exact⟨n,aK _,rfl,by rw[Ai (by rw[l_.ae];exact aK _)];simpa [texts] using t,j⟩;obtain⟨m,U,rfl,oT,bQ⟩:=hrel;have l6:aA wr w.heap.size 1 (.slice A n c):=(bQ.cell (p:=aC w.heap.size 1) avV).trans (BX.aF 1);rcases ip m with f|f
   ·subst f;go_wp2_with fail;refine(Tryz.Builder_String_any (w.heap.size+1) (w.heap.size+1) ([]++texts (l.drop 0)) wr oT awz).mono ?_;exact aeE
   ·open q29 in exact m28
def f_(a:Nat)(l:List UInt8):Nat:=l.foldl (fun a c=>10*a+(c.toNat - 48)) a
def yI(a:Nat):f_ a []=a:=by rw[f_,List.foldl_nil]
def EE(a:Nat)(c:UInt8)(r:List UInt8):f_ a (c::r)=f_ (10*a+(c.toNat - 48)) r:=by rw[f_,Hh,f_]
def kN(c:UInt8):Prop:=48<=c.toNat/\c.toNat<=57
def aic(a:Nat)(l m:List UInt8):f_ a (l++m)=f_ (f_ a l) m:=by rw[f_,vz,<-f_,<-f_]
def Rq(a:Nat)(l:List UInt8)(c:UInt8):f_ a (l++ [c])=10*f_ a l+(c.toNat - 48):=by rw[aic,EE,yI]
def aon(a:Nat)(l:List UInt8):a<=f_ a l:=by
 induction l generalizing a with
 |nil=>rw[yI];exact aK _
 |cons c r b=>rw[EE];exact a7 Om (b _)
def EM(h:a<10):(UInt8.ofNat (48+a)).toNat=48+a:=by rw[PZ];exact sN Om
def MS(h:a<10):kN (UInt8.ofNat (48+a)):=by unfold kN;rw[EM h];omega
def yD(n:Nat):∀c∈decDigits n,kN c:=by
 induction n using Nat.strongRecOn with
 |_ n b=>
  by_cases h:n<10
  ·rw[k8 h];intro c a;simp only[bG] at a;subst a;exact MS h
  ·rw[Bx h];intro c a;rcases bV.1 a with a|a
   ·exact b _ Om c a
   ·simp only[bG] at a;subst a;exact MS Om
def aib(k x:Nat):∀c∈er k x,kN c:=by
 induction k generalizing x with
 |zero=>simp [er]
 |succ k b=>
  intro c a;rcases bV.1 a with a|a
  ·exact b _ c a
  ·simp only[bG] at a;subst a;exact MS Om
def abb(k x a:Nat)(h:x<10^k):f_ a (er k x)=a*10^k+x:=by
 induction k generalizing x with
 |zero=>have f:x=0:=av7;rw[f,er,yI,yr];omega
 |succ k b=>
  have c:x/10<10^k:=by rw[eU] at h;omega
  have d:x%10<10:=eF _ Od;have e:a*(10^k*10)=10*(a*10^k):=by rw[ed (10^k) 10,Y1]
  rw[er,Rq,b (x/10) c,EM d,eU,e];clear b e h c;generalize a*10^k=y;omega
def EI(n:Nat):f_ 0 (decDigits n)=n:=by
 induction n using Nat.strongRecOn with
 |_ n a=>
  by_cases h:n<10
  ·rw[k8 h,EE,EM h,yI];omega
  ·rw[Bx h,Rq,a _ Om,EM Om];omega
def SY(h:decDigits a=decDigits b):a=b:=by rw[<-EI a,h,EI]
def ab9(l:List UInt8)(a:Nat)(b:∀c∈l,kN c)(h:f_ a l<1000000000000000000):parseUintM (2^64 - 1) a l= .ok (f_ a l):=by
 induction l generalizing a with
 |nil=>rw[yI];rfl
 |cons c r f=>have d:=b c Ou;unfold kN at d;rw[EE] at h;have i:=aon (10*a+(c.toNat - 48)) r;have e:a*10+(c.toNat - 48)=10*a+(c.toNat - 48):=Om;rw[parseUintM,if_pos d,if_neg Om,if_neg Om,e,f _ (fun x g=>b x aw2) h,EE]
def AU(n:Nat):decDigits n≠ []:=fun h=>by have:=nDigits_pos n;rw[<-decDigits_length,h] at this;simp at this
def abw(h:B9<=a):decDigits a=decDigits (a/B9)++er 9 (a%B9):=by
 have c:0<a/B9:=Nat.div_pos h Od;have b:a%B9<10^9:=eF a (show 0<B9 by decide);rw[<-MA 9 (a/B9) (a%B9) c b];congr 1
 have e:(10:Nat)^9=B9:=rfl;rw[e,ed];exact(ua a B9).symm
def aiW(h:a<B9):parseUintB 64 (decDigits a)= .ok a:=by unfold B9 at h;rw[parseUintB,if_neg (AU a),ab9 _ 0 (yD a) (by rw[EI];omega),EI]
def akC(h:a<B9):parseUintB 64 (er 9 a)= .ok a:=by
 have e:f_ 0 (er 9 a)=a:=by rw[abb 9 a 0 h];omega
 unfold B9 at h;rw[parseUintB,if_neg (fun b=>by have:=Er 9 a;rw[b] at this;simp at this),ab9 _ 0 (aib 9 a) (by rw[e];omega),e]
def Sv{n:Nat}(h:0<n):∃c r,decDigits n=c::r/\c≠48/\kN c:=by
 induction n using Nat.strongRecOn with
 |_ n b=>
  by_cases a:n<10
  ·refine⟨_,_,k8 a,?_,MS a⟩;intro g;have:=congrArg UInt8.toNat g;rw[EM a] at this;have:(48:UInt8).toNat=48:=rfl;omega
  ·obtain⟨c,r,e,f,d⟩:=b (n/10) Om Om;exact⟨c,r++ [UInt8.ofNat (48+n%10)],by rw[Bx a,e];rfl,f,d⟩
def Bo:decDigits 0= [48]:=k8 Od
def Ti{c:UInt8}(h:¬kN c):c∉decDigits a:=fun b=>h (yD a c b)
def vQ(h:B<0):aQ B=45::decDigits B.natAbs:=by rw[aQ,if_pos h];rfl
def vP(h:0<=B):aQ B=decDigits B.natAbs:=by rw[aQ,if_neg Om];rfl
def p6(n:Nat):aQ (n:Int)=decDigits n:=by rw[vP Om,fY]
def sV(z:Int):(47:UInt8)∉aQ z:=by
 rw[aQ];intro h;rcases bV.1 h with h|h
 ·split at h
  ·simp at h
  ·simp at h
 ·exact Ti aw_ h
def RI(n:Nat)(r:List UInt8):decDigits n≠45::r:=fun h=>by have:=yD n 45 (by rw[h];simp);unfold kN at this;revert this;decide
def yL(h:aQ B=aQ C):B=C:=by
 rcases AJ B 0 with d|d
 ·rcases AJ C 0 with c|c
  ·rw[vQ d,vQ c] at h;injection h with _ h;have:=SY h;omega
  ·rw[vQ d,vP c] at h;exact absurd h.symm (RI _ _)
 ·rcases AJ C 0 with c|c
  ·rw[vP d,vQ c] at h;exact absurd h (RI _ _)
  ·rw[vP d,vP c] at h;have:=SY h;omega
def Mg(z:Int):trimPrefix (aQ z) [45]=decDigits z.natAbs/\hasPrefix (aQ z) [45]=decide (z<0):=by
 rcases AJ z 0 with h|h
 ·rw[vQ h,decide_eq_true h];have e:hasPrefix (45::decDigits z.natAbs) [45]=true:=by simp [hasPrefix]
  exact⟨by rw[trimPrefix,e];rfl,e⟩
 ·rw[vP h,decide_eq_false Om];have e:hasPrefix (decDigits z.natAbs) [45]=false:=by
   rw[hasPrefix];rcases b:decDigits z.natAbs with _|⟨c,r⟩
   ·rfl
   ·have a:c≠45:=fun a=>RI z.natAbs r (by rw[b,a]);simp [List.isPrefixOf];exact fun h=>absurd h.symm a
  exact⟨by rw[trimPrefix,e];rfl,e⟩
def Ze{c:UInt8}(h:c∉T):indexByte T c= -1:=by
 induction T with
 |nil=>rfl
 |cons b r a=>
  rw[indexByte,a (fun d=>h awE)];have:(b==c)=false:=by simpa using fun e:b=c=>h aw3
  rw[this];rfl
def Zf{b:List UInt8}{c:UInt8}(h:c∉T):indexByte (T++c::b) c=T.length:=by
 induction T with
 |nil=>simp [indexByte]
 |cons x r d=>
  have f:(x==c)=false:=by simpa using fun j:x=c=>h (by simp [j])
  have e:=d (fun i=>h (by simp [i]));have g:(((r.length:Int))== -1)=false:=avM;rw[sO,indexByte,f,e,g];simp
def aoU{c:UInt8}(h:c∉T):cut T [c]=(T,[],false):=by rw[cut,index_one,Ze h];rfl
def aoV{b:List UInt8}{c:UInt8}(h:c∉T):cut (T++c::b) [c]=(T,b,true):=by rw[cut,index_one,Zf h,if_pos Om];simp
def bS(q:Rat):List UInt8:=if q.den=1 then aQ q.num else aQ q.num++47::decDigits q.den
def nP{q:Rat}(h:q.den=1):bS q=aQ q.num:=by rw[bS,if_pos h]
def o_(h:H.den≠1):bS H=aQ H.num++47::decDigits H.den:=by rw[bS,if_neg h]
def akp(z:Int):bS (z:Rat)=aQ z:=nP rfl
def MT(h:H.den=1):cut (bS H) [47]=(aQ H.num,[],false):=by rw[nP h];exact aoU (sV _)
def MC(h:H.den≠1):cut (bS H) [47]=(aQ H.num,decDigits H.den,true):=by rw[o_ h];exact aoV (sV _)
def ZA(h:bS H=bS I):H=I:=by
 have a:cut (bS H) [47]=cut (bS I) [47]:=by rw[h]
 by_cases d:H.den=1
 ·by_cases c:I.den=1
  ·rw[MT d,MT c] at a;injection a with f _;exact Rat.ext (yL f) (by rw[d,c])
  ·rw[MT d,MC c] at a;injection a with _ b;injection b with _ e;cases e
 ·by_cases c:I.den=1
  ·rw[MC d,MT c] at a;injection a with _ b;injection b with _ e;cases e
  ·rw[MC d,MC c] at a;injection a with f b;injection b with b _;exact Rat.ext (yL f) (SY b)
def yC{n:Nat}(h:n<10^(e+1)):nDigits n<=e+1:=(ac0 e n h).1
def aie(n:Nat):n<10^nDigits n:=lt_pow_nDigits n
def ub(z:Int):(aQ z)<=nDigits z.natAbs+1:=by rw[aQ,bC,decDigits_length];split<;>simp<;>omega
def akF(k x:Nat):er (k+1) x=UInt8.ofNat (48+x/10^k%10)::er k x:=by
 induction k generalizing x with
 |zero=>simp [er]
 |succ k a=>rw[er,a (x/10),Nat.div_div_eq_div_mul,ed 10,<-eU];rfl
def mU:List Nat->List UInt8
 | []=> []
 |x::r=>(er 9 x).reverse++mU r
def ahB(l:List Nat)(x:Nat):mU (l++ [x])=mU l++(er 9 x).reverse:=by
 induction l with
 |nil=>simp [mU]
 |cons y r a=>simp [mU,a]
def ahf(l:List Nat):(mU l)=9*l.length:=by
 induction l with
 |nil=>rfl
 |cons x r a=>simp [mU,a,Er];omega
def aiP(h:Canon i)(d:i≠ []):∃z,mU i=(decDigits (val i)).reverse++List.replicate z 48:=by
 induction i with
 |nil=>exact absurd rfl d
 |cons x r b=>
  by_cases a:r= []
  ·subst a;refine⟨9 - nDigits x,?_⟩;rw[mU,(y_ h.1.head).2];simp [mU]
  ·obtain⟨z,c⟩:=b h.tail a;refine⟨z,?_⟩;have e:decDigits (val (x::r))=decDigits (val r)++er 9 x:=(by rw[mr,mS,ed];exact MA 9 (val r) x (Bq h.tail a) awa)
   rw[mU,c,e];simp
def ZV(d:bH l){k:Nat}(o:k<=l.length)(n:l.length<=k+2):
 B9^k*(limb l k+limb l (k+1)*B9)<=val l/\val l<B9^k*(limb l k+limb l (k+1)*B9+1):=by
 have e:=AX l k;have f:(l.take k).length=k:=avU;have g:=jV (d.take k);rw[f] at e g;have h:val (l.drop k)=limb l k+limb l (k+1)*B9:=by
  have c:(l.drop k).length<=2:=by rw[o8];omega
  have j:limb l k=limb (l.drop k) 0:=by simp [limb,fh]
  have i:limb l (k+1)=limb (l.drop k) 1:=by simp [limb,fh]
  rw[j,i];generalize l.drop k=m at c;match m,c with
  | [],_=>rfl
  | [a],_=>simp [limb]
  | [a,b],_=>simp [limb];exact ed _ _
 rw[h] at e;generalize limb l k+limb l (k+1)*B9=t at e;rw[e,fZ,kG];omega
def aob(g:c*e<=a)(f:a<c*(e+1))(k:c*d<=b)(j:b<c*(d+1))(i:0<e):
 a*(d/ (e+1))<=b/\b<a*(d/e+1):=by
 constructor
 ·have h:a*(d/ (e+1))<=c*(e+1)*(d/ (e+1)):=eT _ (pd f);have l:c*(e+1)*(d/ (e+1))<=c*d:=(by rw[fO];exact iF _ (Nat.mul_div_le _ _))
  omega
 ·have h:d+1<=e*(d/e+1):=Nat.lt_mul_div_succ d i;have l:c*(d+1)<=c*(e*(d/e+1)):=iF _ h;have m:c*(e*(d/e+1))<=a*(d/e+1):=(by rw[<-fO];exact eT _ g)
  omega
def aoa(a:Canon i)(d:Canon j)(k:val j<=val i)(m:val i<B9*val j):j<=i.length/\i.length<=j.length+1:=by
 refine⟨Eb a d k,?_⟩;rcases cA (j.length+1) i with h|h
 ·exfalso;have l:=Ee a.2 Om;have g:=jV d.1;have f:B9^(j.length+1)<=B9^(i.length - 1):=fN Od Om;rw[eU] at f;have e:B9*val j<=B9*B9^j.length:=iF _ (pd g);rw[ed B9 (B9^j.length)] at e;omega
 ·exact h
def amj(f:a<i.length)(h:val (i.drop (a+1))=val j*c+b)(g:c*d<=limb i a+B9*b):
 val (i.drop a)=val (d::j)*c+(limb i a+B9*b - c*d):=by
 rw[f4 f] at g⊢;rw[jR f,mr,mr,h];have e:B9*(val j*c+b)=B9*val j*c+B9*b:=by rw[fZ,fO]
 have k:(d+B9*val j)*c=c*d+B9*val j*c:=by rw[ki,ed d c]
 rw[e,k];omega
def aj1:jG prog 87 209 1 8:= .mk' underlying87 abP rfl Od Od
def IA(n:Nat)(e:Int)(r:List Nat)(m:Nat):Prop:=
 bH r/\val r+B9^r.length*m=n/\((0<e/\e=nDigits m/\∃t,decDigits n=decDigits m++t)\/(e<=0/\m=0))
def ahn(n:Nat):IA n (nDigits n) [] n:=⟨jT,by simp,.inl ⟨by have:=nDigits_pos n;omega,rfl,[],by simp⟩⟩
def acD{l:List UInt8}(a b:Nat):((ByteArray.mk l.toArray).extract a b).data.toList=(l.take b).drop a:=by rw[ByteArray.data_extract,Array.toList_extract,List.extract_eq_take_drop,List.drop_take]
def aho(h:IA a B i b)(w:0<B):
 ∃(k E x u:Nat),B=E/\k=E - 9/\k<=E/\E<=nDigits a/\x<B9/\parseUintB 64 (((decDigits a).take E).drop k)= .ok x/\IA a (B - 9) (i++ [x]) u:=by
 obtain⟨q,p,⟨_,s,t,j⟩|⟨z,_⟩⟩:=h
 ·have c:nDigits b<=nDigits a:=by rw[<-decDigits_length,<-decDigits_length,j,bC];omega
  have d:(decDigits a).take (nDigits b)=decDigits b:=by rw[j,<-decDigits_length b,List.take_left'];rfl
  by_cases f:b<B9
  ·have y:=(y_ f).1;refine⟨0,nDigits b,b,0,s,by omega,by omega,c,f,by rw[d,lJ];exact aiW f,q.snoc f,?_,.inr ⟨by omega,rfl⟩⟩;rw[nR,yt,iq];exact p
  ·have o:B9<=b:=Y4 f;have l:=abw o;have v:nDigits b=nDigits (b/B9)+9:=by rw[<-decDigits_length,l,bC,Er,decDigits_length]
   have g:b%B9<B9:=eF _ Od;refine⟨nDigits (b/B9),nDigits b,b%B9,b/B9,s,by omega,by omega,c,g,?_,q.snoc g,?_,.inl ⟨?_,by omega,er 9 (b%B9)++t,by rw[j,l,ie]⟩⟩
   ·rw[d,l,<-decDigits_length (b/B9),List.drop_left];exact akC g
   ·rw[nR,bC,iE,eU,<-p,fO,yq,<-fZ];congr 2;rw[mS];exact ua b B9
   ·have:=nDigits_pos (b/B9);omega
 ·omega
def ah7(h:IA a B i b)(d:¬0<B):bH i/\val i=a:=by
 obtain⟨f,c,⟨j,_⟩|⟨_,g⟩⟩:=h
 ·exact absurd j d
 ·rw[g,yt,iq] at c;exact⟨f,c⟩
def Be(z:Int)(w:au)(K:d6 z):
 Calls prog 80 #[aL (aQ z)] w fun e X=>∃v,e= .returned v/\cj X v z/\Ext w X:=by
 have HT:=af (Mg z);have HF:=af K;have tH:nDigits z.natAbs<=9000000:=(by unfold d6 Fit at K;exact m76)
 clear K;go_enter func80,ntmps80;go_wp2_with fail;refine aT (P:=fun W=>Calls _ _ _ W _) fun W HX HR=> ?_;refine(Tryz.strings_CutPrefix _ _ W).mono ?_;rintro e w1 ⟨rfl,rfl⟩;rw[HT.1,HT.2];have HZ:ah (signed (decide (z<0)) z.natAbs=z):=by unfold ah signed;by_cases h:z<0<;>simp [h]<;>omega
 generalize aQ z=tz at*;generalize decide (z<0)=J at*;generalize hn:z.natAbs=n at*;have HN:=af hn;clear hn;have i:(decDigits n)=nDigits n:=decDigits_length n;go_wp2_with fail
 have a:(ByteArray.mk (decDigits n).toArray).size=nDigits n:=by rw[<-i];rfl
 have oK:=af a;clear i a;go_loopw [5,6,7,8] (fun v5 I _ _ wr=>∃(e:Int) (m:Nat) (r:List Nat),I=av e/\ah (IA n e r m)/\r.length<=1000001/\ah (wr.ownsRow (w.heap.size+1) 209 1 v5 r (cU r))/\ah (Below (w.heap.size+1) w1 wr)/\e<=9000000 - 9*(r.length:Int)) (fun _ I _ _ _=>(RowKit.intOf I+9).toNat);exact⟨_,n,[],rfl,ahn n,by simp,mQ _ _ _ _,yE _ _,by simp;omega⟩;obtain⟨e,m,r,rfl,C,ju,D,f,hel⟩:=hrel;by_cases he:0<e
 ·obtain⟨k,E,x,m',rfl,G,hkE,y,Y,hp,s⟩:=aho C he;have Nt:max (0:Int) ((E:Int) - 9)=(k:Int):=Om;have HKE:=af G;have Q:=af s;have HP:=af hp;have hEl:E<=(decDigits n).length:=by rw[decDigits_length];exact y
  have HXB:=af Y;clear G hp s Y y;go_wp2_with fail;refine(Tryz.strconv_ParseUint_10_at64_ok _ ?_ x ?_ wr).mono ?_
  ·have:(ByteArray.extract ⟨(decDigits n).toArray⟩ k E).size<=E:=by simp [ByteArray.size_extract];omega
   omega
  ·rw[acD];exact HP
  rintro e H ⟨rfl,o⟩;have d:Ext wr H:=by
   rcases o with rfl|rfl
   ·exact aB _
   ·exact Lib.bytesWorld_below _ _ _
  have a:w.heap.size+1<=wr.heap.size:=by have:=f.size;have:=HR.lt;omega
  have g:w.heap.size+1<=H.heap.size:=a7 a d.size;have F:=af (yQ D d);have U:=af (f.trans (d.mono a));clear o d a;go_wp2_with (at_builtin;refine gQ rfl _ _ 87 rfl (w.heap.size+1) aj1 _ _ _ rfl F.ae #[.int .u64 x] 1 1 rfl rfl rfl Om g ?_)
  intro v' V t u _;have b:=af (U.grown u g (fun k G=>(F.lt k G).1));have R:ah (V.ownsRow (w.heap.size+1) 209 1 v' (r++ [x]) (cU (r++ [x]))):=by rw[ah,bC];simpa [cU] using t
  clear t u;go_wp2;go_roundw;exact⟨_,m',r++ [x],rfl,Q,by simp;omega,R,b,by simp;omega⟩;simp [RowKit.intOf];omega
 ·have HE:=af (ah7 C he);obtain⟨A,c,rfl,hc,_,O⟩:=ej D;have HS:=af O;have M:ah (Ext w wr):=qV HX (f.mono (lK _));have T:ah (ar wr w.heap.size cV [.bool false,.slice none 0 0]):=(f.block w.heap.size Om).trans HR.ae;go_wp2_with fail
  refine(sX A c r r wr rfl hc Om HE.1 HS).mono ?_;rintro e H ⟨r2,L,rfl,j,Z,q,rfl⟩;have S:=af (eA.mk' (n:=n) j (Z.trans HE.2) (a7 L hc) q);clear j Z q;go_wp2_with fail
  refine(qX J _ n wr S (by have:=HF.ae;rwa[d6,HN.ae] at this)).mono ?_;rintro e V ⟨v3,rfl,p,l⟩;obtain⟨b3,A3,n3,c3,rfl,B⟩:=p.parts;have b:=af (T.ext l);have N:=af (M.trans l);obtain⟨k0,k1⟩:=b.two;have f0:=b.frozen 0;have f1:=b.frozen 1;rw[HZ.ae] at B;clear p l;go_wp2;exact vX rfl rfl rfl b.ae B N (aK _) (fun v W' h1 h2=>⟨v,rfl,h1,h2⟩)
def AG(h:a<T):(byteCells T)[a]? =some (.int .u8 (T[a].toNat:Int)):=by simp [byteCells,h]
def aau(l:List UInt8)(w:au):∃W b,(convert 9 156 (aL l)).run prog w= .ok (aG w.heap.size 0 l.length b) W/\Ext w W/\Sl W 5 (dC w.heap.size 0) (byteCells l):=by
 refine⟨_,_,Lib.run_convert_string_bytes w 9 156 5 ⟨l.toArray⟩ underlying9 underlying156 underlying5,Lib.bytesWorld_below _ _ _,?_⟩;intro j u a;refine⟨w.heap.size,0,_,_,rfl,Lib.bytesWorld_at_new _ _ _,?_⟩;have c:j<l.length:=by
  rcases cA j l.length with h|h
  ·exact h
  ·rw[fF (by simpa [byteCells] using h)] at a;cases a
 rw[<-a,ja,Lib.bytesCells,Array.getElem?_append_left avT];simp [byteCells,c]
def Hv(z:Int)(w:au)(l:nDigits z.natAbs<=400):
 Calls prog 137 #[aL (aQ z)] w fun e H=>e= .returned (.bool true)/\Ext w H:=by
 have F:=af (Mg z);by_cases v:z=0
 ·subst v;have D:aQ 0= [48]:=Bo;rw[D];clear D l;go_enter func137,ntmps137;go_wp2;go_ret;exact⟨rfl,aB _⟩
 ·obtain⟨c,r,j,E,t⟩:=Sv (n:=z.natAbs) Om;have f:(c::r).length<=400:=by rw[<-j,decDigits_length];exact l
  have K:(aQ z== [48])=false:=(by rw[beq_eq_false_iff_ne];intro h;have:aQ z=aQ 0:=h.trans Bo.symm;exact v (yL this));have i:((c.toNat:Int)==48)=false:=(by rw[beq_eq_false_iff_ne];intro h;exact E (Qc awb));have B:ah (∀x∈c::r,kN x):=by rw[ah,<-j];exact yD _
  rw[j] at F;clear E t j l v;generalize aQ z=O at*;go_enter func137,ntmps137;go_wp2_with fail;refine(Tryz.strings_TrimPrefix _ _ w).mono ?_;rintro e G ⟨rfl,rfl⟩;rw[F.1];obtain⟨W,M,hcv,C,d⟩:=aau (c::r) G;have A:=af d;have N:=af C;clear d C;have L:(r.length:Int)+1<=400:=by rw[cP] at f;omega
  have m:0<(ByteArray.mk (c::r).toArray).size:=by simp [ByteArray.size]
  have u:((((ByteArray.mk (c::r).toArray)[0]'m).toNat:Int)==48)=false:=i;go_wp2_with fail;clear hcv;go_loop [5,25] (fun _ a=>∃k:Nat,k<=r.length+1/\a=av k) (fun _ a=>r.length+1 - (RowKit.intOf a).toNat);exact⟨0,aV _,rfl⟩;obtain⟨k,P,rfl⟩:=hrel;by_cases p:k<r.length+1
  ·have q:k<(c::r).length:=by rw[cP];exact p
   have s:=B ((c::r)[k]) Ou;unfold kN at s;obtain⟨g,o,y,_,b⟩:=A.at_ (AG q);injection y with y;cases y;rw[ja] at b;generalize(c::r)[k].toNat=x at*;have J:¬(x:Int)<48:=Om;have I:¬(57:Int)<x:=Om;exact TY
  ·go_wp2;go_ret;exact⟨rfl,N⟩
def Bn(l:List UInt8)(i j:Nat):(ByteArray.mk l.toArray).extract i j=⟨((l.take j).drop i).toArray⟩:=by
 have h:=acD (l:=l) i j;generalize(ByteArray.mk l.toArray).extract i j=x at h;cases x with
 |mk d=>rw[<-h]
def aaj(l:List UInt8)(w:au)(_hl:l.length<=100000000)(a:l≠ [47]):
 Calls prog 202 #[aL l,.string ⟨#[47]⟩] w fun e b=>e= .returned (av (indexByte l 47))/\b=w:=by
 have c:([47]==l)=false:=by rw[beq_eq_false_iff_ne];exact fun h=>a h.symm
 go_enter func202,ntmps202;go_wp2_with fail;refine(Tryz.stringslite_IndexByte _ _ w).mono ?_;rintro e b ⟨rfl,rfl⟩;go_wp2;go_ret;exact⟨rfl,rfl⟩
def ahT(l:List UInt8)(w:au)(c:l.length<=100000000)(b:(47:UInt8)∉l):
 Calls prog 150 #[aL l,.string ⟨#[47]⟩] w fun e a=>e= .returned (.tuple #[aL l,.string ⟨#[]⟩,.bool false])/\a=w:=by
 have f:=af (Ze b);have g:ah (l≠ [47]):=fun h=>b (by simp [h]);have d:=af c;go_enter func150,ntmps150;go_wp2_with fail
 refine(aaj l w d g).mono ?_;rintro e a ⟨rfl,rfl⟩;rw[f.ae];go_wp2;go_ret3;exact⟨rfl,rfl⟩
def ahS(a b:List UInt8)(w:au)(t:a+b.length<=10000000)(j:b≠ [])(i:(47:UInt8)∉a):
 Calls prog 150 #[aL (a++47::b),.string ⟨#[47]⟩] w fun e g=>e= .returned (.tuple #[aL a,aL b,.bool true])/\∃n,g=w.drewN n:=by
 have m:=af (Zf (b:=b) i);have o:ah (a++47::b≠ [47]):=fun h=>by
  have:=congrArg List.length h;rcases b with _|⟨x,r⟩
  ·exact j rfl
  ·simp at this;omega
 have k:ah ((a++47::b).length<=100000000):=by rw[ah,bC,cP];omega
 have c:(a++47::b).length=a+b.length+1:=Oc;obtain⟨l,d⟩:∃l,l=a++47::b:=⟨_,rfl⟩;have f:=af d;rw[<-d] at m o k c⊢;have s:=af c;have v:(a.length:Int)<=(l.length:Int):=Om;have u:(a.length:Int)+1<=(l.length:Int):=Om;clear i j d c;go_enter func150,ntmps150;go_wp2_with fail
 refine(aaj l w k o).mono ?_;rintro e g ⟨rfl,rfl⟩;rw[m.ae];go_wp2;go_quiet (fail);go_wp2;go_ret3;refine⟨?_,_,rfl⟩;have q:(ByteArray.mk l.toArray).extract 0 a=⟨a.toArray⟩:=by rw[Bn,f.ae];simp
 have p:(ByteArray.mk l.toArray).extract (a.length+1) l=⟨b.toArray⟩:=by rw[Bn,dz (aK _),f.ae,show a++47::b=(a++ [47])++b by simp,List.drop_left' Ou]
 show Ending.returned (Value.tuple #[.string ((ByteArray.mk l.toArray).extract 0 a),.string ((ByteArray.mk l.toArray).extract (a.length+1) l),.bool true])=_
 rw[q,p]
def MB(l:List UInt8)(w:au)(c:l.length<=100000000)(b:(47:UInt8)∉l):
 Calls prog 79 #[aL l,.string ⟨#[47]⟩] w fun e a=>e= .returned (.tuple #[aL l,.string ⟨#[]⟩,.bool false])/\Ext w a:=by
 have H:=af (ahT l w c b);go_enter func79,ntmps79;go_wp2_with fail;refine H.mono ?_;rintro e a ⟨rfl,rfl⟩;go_wp2;go_ret3;exact⟨rfl,aB _⟩
def Sw(a b:List UInt8)(w:au)(f:a+b.length<=10000000)(g:b≠ [])(d:(47:UInt8)∉a):
 Calls prog 79 #[aL (a++47::b),.string ⟨#[47]⟩] w fun e c=>e= .returned (.tuple #[aL a,aL b,.bool true])/\Ext w c:=by
 have H:=af (ahS a b w f g d);generalize a++47::b=l at*;go_enter func79,ntmps79;go_wp2_with fail;refine H.mono ?_;rintro e c ⟨rfl,n,rfl⟩;go_wp2;go_ret3;exact⟨rfl,(aB _).drewN _⟩
def bF.dn(h:bF (a+1) H):nDigits H.num.natAbs<=a+1:=yC h.1
def bF.dd(h:bF (a+1) H):nDigits H.den<=a+1:=yC h.2
def ui:aQ 1= [49]:=k8 Od
def amh(w:au):Calls prog 80 #[.string ⟨#[49]⟩] w fun e a=>∃v,e= .returned v/\cj a v 1/\Ext w a:=by have h:=Be 1 w Bl.wide;rw[ui] at h;exact h
def abt(q:Rat)(w:au)(c:bF (e+1) q)(x:e<=100000):
 Calls prog 30 #[aL (bS q)] w fun e p=>∃v,e= .returned v/\bX p v q/\Ext w p:=by
 have r:=af (c.num Om).wide;have u:=af (c.den Om).wide;have g:=ub q.num;have f:=c.dn;have i:=c.dd;by_cases h1:q.den=1
 ·have l:=af (nP h1);have a:(aQ q.num).length<=100000000:=Om;have m:=af a;have H1:=af h1;clear g f i a h1 c;rw[l.ae];go_enter func30,ntmps30;go_wp2_with fail
  refine aT (P:=fun W=>Calls _ _ _ W _) fun W HX HR=> ?_;refine(MB (aQ q.num) W m (sV _)).mono ?_;rintro e k ⟨rfl,hx1⟩;go_wp2_with fail;refine(Be q.num k r).mono ?_;rintro e j ⟨t,rfl,hv2,hx2⟩;obtain⟨b2,A2,n2,c2,rfl,nC⟩:=hv2.parts;go_wp2_with fail;refine(amh j).mono ?_;rintro e w3 ⟨s,rfl,hv3,hx3⟩;obtain⟨b3,A3,n3,c3,rfl,J_⟩:=hv3.parts;exact m54
 ·have l:=af (o_ h1);have a:(aQ q.num)+(decDigits q.den).length<=10000000:=awH;have m:=af a;have n:ah (decDigits q.den=aQ q.den):=(p6 _).symm;clear g f i a h1 c;rw[l.ae];generalize d:aQ q.num=dn at*;generalize hdd:decDigits q.den=dd at*;have b:=af d;have o:=af hdd;clear d hdd;go_enter func30,ntmps30;go_wp2_with fail
  refine aT (P:=fun W=>Calls _ _ _ W _) fun W HX HR=> ?_;refine(Sw dn dd W m (by rw[<-o.ae];exact AU _) (by rw[<-b.ae];exact sV _)).mono ?_;rintro e k ⟨rfl,hx1⟩;go_wp2_with fail;rw[<-b.ae];refine(Be q.num k r).mono ?_;rintro e j ⟨t,rfl,hv2,hx2⟩;obtain⟨b2,A2,n2,c2,rfl,nC⟩:=hv2.parts;rw[b.ae];go_wp2_with fail;rw[n.ae];refine(Be q.den j u).mono ?_;rintro e w3 ⟨s,rfl,hv3,hx3⟩;obtain⟨b3,A3,n3,c3,rfl,J_⟩:=hv3.parts;have H1:ah (((q.den:Nat):Int)=q.den):=rfl;exact m54
def anE(a b:List UInt8):(ByteArray.mk a.toArray)++(ByteArray.mk b.toArray)=⟨(a++b).toArray⟩:=by
 apply ByteArray.ext
 rw[ByteArray.data_append];simp
def Iy(a b:List UInt8)(w:au)(h:a+b.length<=1000000):(Op.stringOp .add ⟨a.toArray⟩ ⟨b.toArray⟩).run prog w= .ok (aL (a++b)) w:=by have:=run_string_add_sum (P:=prog) (w:=w) ⟨a.toArray⟩ ⟨b.toArray⟩ (by simp [ByteArray.size];omega);rw[anE] at this;exact this
def Sq(v:Value)(q:Rat)(w:au)(h:bX w v q)(p:bF a q)(S:a<=100000)(s:dW w):
 Calls prog 46 #[v] w fun a o=>a= .returned (aL (bS q))/\Ext w o:=by
 have L:=af (fun(w:au) (h:bX w v q)=>Rb v q w h p Om);obtain⟨b,A,n,c,K,e,R,X,rfl,H,Y⟩:=h.parts;have N:=af (p.num Om).wide;have Z:=af (p.den Om).wide;have M:=af h;have y:=af s;have B:ah (decDigits q.den=aQ q.den):=(p6 _).symm;have r:ah ((aQ q.num).length<=100002/\(aQ q.den).length<=100002):=(by have l:=ub q.num;have V:=ub q.den;have h3:=yC (cF p.1 (fN Od (lK a)));have h4:=yC (cF p.2 (fN Od (lK a)));rw[fY] at V;exact⟨by omega,by omega⟩)
 clear h p S s;by_cases l:q.den=1
 ·have u:decide (q.den=1)=true:=decide_eq_true l;have z:=af (nP l);clear l;rw[z.ae];go_enter func46,ntmps46;go_wp2_with fail
  refine aT (P:=fun W=>Calls _ _ _ W _) fun W m C=> ?_;refine(L W (M.ext m)).mono ?_;rintro a D ⟨rfl,d⟩;rw[u];obtain⟨I,G,F,E⟩:=(C.ext d).four;go_wp2_with fail;refine(QS _ q.num D (H.ext (m.trans d)) N (y.ext (m.trans d))).mono ?_;rintro a O ⟨rfl,i⟩;go_wp2;go_ret;exact⟨rfl,m.trans (d.trans i)⟩
 ·have u:decide (q.den=1)=false:=decide_eq_false l;have z:=af (o_ l);clear l;go_enter func46,ntmps46;go_wp2_with fail
  refine aT (P:=fun W=>Calls _ _ _ W _) fun W m C=> ?_;refine(L W (M.ext m)).mono ?_;rintro a Q ⟨rfl,k⟩;rw[u];have j:=af (C.ext k);have g:=af (m.trans k);obtain⟨I,G,F,E⟩:=j.four;clear k;have t:=fun(x:au) (h:cj x (.agg #[.bool b,.slice A n c]) q.num) (s:dW x)=>QS _ q.num x h N s;have U:=fun w=>Iy (aQ q.num) [47] w (by have:=r.ae;simp;omega);have T:=fun w=>Iy (aQ q.num++ [47]) (aQ q.den) w (by have:=r.ae;simp;omega);generalize J:aQ q.num=dn at*;have HQ:=af J;clear J;go_wp2_with fail
  go_region_held3 (fun o=>aA o w.heap.size 0 (.bool b)/\aA o w.heap.size 1 (.slice A n c)/\aA o w.heap.size 2 (.bool K)/\aA o w.heap.size 3 (.slice e R X)) (first|with_reducible exact⟨I,G,F,E⟩|with_reducible exact j.ae.drew.four|with_reducible exact(j.ae.ext f).four|with_reducible exact(j.ae.ext (f.trans i)).four)
   (first
     |(go_at_call 106;(with_reducible show Calls _ _ #[Value.agg #[Value.bool b,_]] _ _);refine(t _ (H.ext (by exact g.drew)) (y.ext (by exact g.drew))).mono ?_;rintro a D ⟨rfl,d⟩;have f:=(aB Q).drew.trans d)
     |(go_at_call 106;(with_reducible show Calls _ _ #[Value.agg #[Value.bool K,_]] _ _);refine(QS _ q.den _ (Y.ext (by exact g.trans f)) Z (y.ext (by exact g.trans f))).mono ?_;rintro a O ⟨rfl,i⟩))
  go_wp2;go_ret;exact⟨by rw[z.ae,B.ae,List.append_cons];rfl,g.trans (f.trans i)⟩
def ak3(h:nDigits a<=b):a<10^b:=cF (aie a) (fN Od h)
def aoN(b:a<=1000000)(h:nDigits B.natAbs<=a):cE B:=⟨a,b,ak3 h⟩
def pu(h:nDigits B.natAbs<=400):cE B:=aoN Od h
def RB(z:Int)(w:au)(i:d6 z):
 Calls prog 168 #[aL (aQ z)] w fun e h=>∃v,e= .returned v/\cj h v z/\Ext w h:=by
 have o:=af i;clear i;generalize j:aQ z=d at*;have p:=af j;clear j;go_enter func168,ntmps168;go_wp2_with fail
 refine aT (P:=fun W=>Calls _ _ _ W _) fun W m n=> ?_;rw[<-p.ae];refine(Be z W o).mono ?_;rintro e q ⟨r,rfl,c,b⟩;obtain⟨y,B,s,x,rfl,g⟩:=c.parts;have a:=af (n.ext b);have f:=af (m.trans b);obtain⟨u,t⟩:=a.two;have f0:=a.frozen 0;have f1:=a.frozen 1;clear c b;go_wp2;exact vX rfl rfl rfl a.ae g f (aK _) (fun v A l k=>⟨v,rfl,l,k⟩)
def ahN(x y:Int)(w:au)(l:nDigits x.natAbs<=400)(g:nDigits y.natAbs<=400):
 Calls prog 138 #[aL (aQ x),aL (aQ y)] w fun e q=>e= .returned (av (x - y).sign)/\Ext w q:=by
 have s:=af (fun w=>Hv x w l);have r:=af (fun w=>Hv y w g);have u:=af (fun w=>RB x w (pu l).wide);have t:=af (fun w=>RB y w (pu g).wide);have B:=af (pu l);have A:=af (pu g);generalize aQ x=a at*;generalize aQ y=b at*;go_enter func138,ntmps138;go_wp2_with fail
 refine(s w).mono ?_;rintro e p ⟨rfl,k⟩;go_wp2_with fail;refine(r p).mono ?_;rintro e o ⟨rfl,j⟩;go_wp2_with fail;refine(u o).mono ?_;rintro e n ⟨E,rfl,f,i⟩;obtain⟨K,M,G,I,rfl,z⟩:=f.parts;go_wp2_with fail;refine(t n).mono ?_;rintro e m ⟨D,rfl,d,c⟩;obtain⟨J,L,F,H,rfl,v⟩:=d.parts;go_wp2_with fail;refine(Hi _ _ x y m (f.ext c) d B A).mono ?_;rintro e C ⟨rfl,h⟩;go_wp2;go_ret;exact⟨rfl,k.trans (j.trans (i.trans (c.trans h)))⟩
def ahM(x:Int)(w:au)(b:nDigits x.natAbs<=400):
 Calls prog 138 #[aL (aQ x),.string ⟨#[49]⟩] w fun e a=>e= .returned (av (x - 1).sign)/\Ext w a:=by
 have h:=ahN x 1 w b (by rw[show(1:Int).natAbs=1 from rfl,nDigits_small Od];decide);rw[ui] at h;exact h
def aph(w:au):Calls prog 74 #[av 1] w fun e a=>∃b,e= .returned b/\cj a b 1/\Ext w a:=IH 1 w Od Od
def ZW(q:Rat)(w:au)(x:bF 400 q):
 Calls prog 71 #[aL (bS q)] w fun e Q=>e= .returned (.bool true)/\Ext w Q:=by
 have F:=af (fun w=>Hv q.num w x.dn);have v:=ub q.num;have f:=x.dn;have n:=x.dd;by_cases h1:q.den=1
 ·have G:=af (nP h1);rw[G.ae];have c:=sV q.num;generalize aQ q.num=a at*;have I:=af (fun w=>MB a w Om c);clear v f n h1 x c;go_enter func71,ntmps71;go_wp2_with fail
  refine(I w).mono ?_;rintro e A ⟨rfl,j⟩;go_wp2_with fail;refine(F A).mono ?_;rintro e z ⟨rfl,i⟩;go_wp2_with fail;refine(F z).mono ?_;rintro e J ⟨rfl,g⟩;go_wp2;go_ret;exact⟨rfl,j.trans (i.trans g)⟩
 ·have G:=af (o_ h1);have d:nDigits (q.den:Int).natAbs<=400:=by rw[fY];exact n
  have S:=af (fun w=>Hv q.den w d);have C2:=af (fun w=>ahM q.den w d);have U:=af (fun w=>Be q.num w (pu f).wide);have T:=af (fun w=>Be q.den w (pu d).wide);have F1:=af (pu f);have F2:=af (pu d);have u:((q.den:Int) - 1).sign=1:=Aj awU;have H:=af u;have R:(aQ q.num== [48])=false:=(by exact aeK)
  have K:Int.gcd q.num q.den=1:=q.reduced;have Z:=af K;have y:decDigits q.den=aQ q.den:=(p6 _).symm;rw[G.ae];have c:=sV q.num;have l:=AU q.den;have m:(aQ q.num)+(decDigits q.den).length<=10000000:=awH;rw[y] at l m⊢;generalize aQ q.num=a at*;generalize aQ q.den=b at*;have I:=af (fun w=>Sw a b w m l c);generalize a++47::b=ab at*;clear v f n h1 x c d u K y l m;go_enter func71,ntmps71;go_wp2_with fail
  refine(I w).mono ?_;rintro e A ⟨rfl,j⟩;go_wp2_with fail;refine(F A).mono ?_;rintro e z ⟨rfl,i⟩;go_wp2_with fail;refine(S z).mono ?_;rintro e J ⟨rfl,g⟩;go_wp2_with fail;refine(C2 J).mono ?_;rintro e P ⟨rfl,E⟩;rw[H.ae];go_wp2_with fail;refine(U P).mono ?_;rintro e O ⟨v5,rfl,t,D⟩;obtain⟨b5,A5,n5,c5,rfl,Y⟩:=t.parts;go_wp2_with fail;refine(T O).mono ?_;rintro e N ⟨v6,rfl,s,p⟩;obtain⟨b6,A6,n6,c6,rfl,X⟩:=s.parts;go_wp2_with fail;refine(Z8 _ _ q.num q.den N (t.ext p) s F1 F2).mono ?_;rintro e M ⟨v7,rfl,k,C⟩;rw[Z.ae] at k;obtain⟨b7,A7,n7,c7,rfl,W⟩:=k.parts;go_wp2_with fail;refine(aph M).mono ?_;rintro e L ⟨v8,rfl,r,o⟩;obtain⟨b8,A8,n8,c8,rfl,V⟩:=r.parts;go_wp2_with fail;refine(Hi _ _ 1 1 L (k.ext o) r Bl Bl).mono ?_;rintro e w9 ⟨rfl,B⟩;go_wp2;go_ret;exact⟨rfl,j.trans (i.trans (g.trans (E.trans (D.trans (p.trans (C.trans (o.trans B)))))))⟩
end
end Go.Proofs.YtadbchhdjbghkaaGreatDoor
