/- Texts of the proof, part 12. -/
import Derived.Test.YtadbchhdjbghkaaGreatDoorA11
namespace Go.Proofs.YtadbchhdjbghkaaGreatDoor
set_option maxHeartbeats 8000000
set_option linter.all false
set_option maxRecDepth 100000
variable{aq:Prop}
open Go.RowKit Go.Lib Go.Maps Go.ChangeShapes Go.WideShapes Go.ChangeAt Go.Proofs.Tryz
variable{a b c d e f g h:Nat}{i j k l:List Nat}{m n o:World}{p q r s:Value}{t u v:List Value}{w x:TypeId}{y z:Nat→Option Nat}{A:Nat→List Nat}{B C:Int}{E F:Option Addr}{H I:Rat}{J:Nat→Nat}{K:Nat→Bool}{L:List Int}{N:Array Bool}{O:Option Nat}{Q:Act}{R S:Bool}{T:List UInt8}
abbrev lS:TypeId:=192
def uU(_:au)(c:List Value)(m:Nat):Prop:=c= [.int .u64 (m:Int)]
def uU.iI:js [] uU:=fun _ _ _ _ _ h=>h
def p8:=@uU.iI
def uU.one(w:au)(c:List Value)(m:Nat)(h:uU w c m):c.length=1:=awn
abbrev fD:=Ls lS uU
def fD.ext{w':au}(h:fD m p i)(a:Ext m w'):fD w' p i:=bU p8 h a
def fD.get{n:Nat}(h:fD m (.slice E n a) j){i:Nat}(b:i<j):∃g o,E=dC g o/\g<m.heap.size/\aA m g (o+i) (.int .u64 ((j.getD i 0:Nat):Int)):=by obtain⟨g,o,d,q,p,k,f⟩:=qd uU.one Od h b;have e:=f 0 _ (by rw[show d=_ from k];rfl);rw[kG,iq] at e;rw[fh,aX b,Option.getD_some];exact⟨g,o,q,p,e⟩
def vZ(a:Nat)(w:au)(c:a<32):
 Calls prog 126 #[av a] w fun e b=>e= .returned (.int .u64 ((2^a:Nat):Int))/\b=w:=by
 go_enter func126,ntmps126;go_wp2;go_ret;exact⟨by rw[<-apF c];rfl,rfl⟩
def Bf(m a:Nat)(w:au)(c:m<4096)(d:a<32):
 Calls prog 124 #[.int .u64 m,av a] w fun e b=>e= .returned (.bool (m.testBit a))/\b=w:=by
 go_enter func124,ntmps124;go_wp2;go_ret;exact⟨by rw[<-apG c,<-Tm];rfl,rfl⟩
def adu(b:a<4294967296)(h:a≠0):IntKind.u64.wrap ((a:Int) - 1)=((a - 1:Nat):Int):=by rw[kh];omega
def aa'(m:Nat)(w:au)(t:m<4096):
 Calls prog 262 #[.int .u64 m] w fun e q=>e= .returned (av (cnt m:Nat))/\q=w:=by
 have A:ah (cnt m=0+cnt m):=(ja _).symm;have y:ah (∀x:Nat,cnt x<=12):=fun x=>by have:=Lh (p:=x.testBit) (l:=List.range 12);rwa[iG] at this
 generalize u:cnt m=k at*;have n:=af u;go_enter func262,ntmps262;go_wp2_with fail
 go_loopw [0,3] (fun b r wr=>∃x i:Nat,b= .int .u64 x/\r=av i/\ah (x<4096)/\ah (k=i+cnt x)/\wr=w) (fun b _ _=>cnt (RowKit.intOf b).toNat)
 exact⟨m,0,rfl,rfl,t,by rw[ah,n.ae];omega,rfl⟩;obtain⟨x,i,rfl,rfl,a,g,rfl⟩:=hrel;by_cases d:x=0
 ·subst d;have v:ah (k=i):=by have h:=g.ae;have c:cnt 0=0:=Od;rw[c] at h;exact h
  go_wp2;go_ret;exact⟨by rw[v.ae];rfl,rfl⟩
 ·have s:((x:Int) !=0)=true:=Oc;have f:=af (anw a d);have j:=af (adu (Qv a Om) d);have o:=af (Tn a (show x - 1<4096 by have:=a.ae;unfold ah at*;omega));have z:i<=12:=by have h:=g.ae;have c:=y m;rw[n.ae] at c;omega
  go_wp2;go_roundw;exact⟨x&&&(x - 1),i+1,by rw[j.ae,o.ae],by go_num,f.2,by have h:=g.ae;have:=f.1;rw[ah];omega,trivial⟩;rw[j.ae,o.ae];show cnt (((x&&&(x - 1):Nat):Int)).toNat<cnt ((x:Int)).toNat
  rw[kg,kg];have:=f.1;omega
def aca(A:aR)(n c:Nat)(g:List Nat)(w:au)(h:fD w (.slice A n c) g)(q:g.length<=12):
 Calls prog 122 #[.slice A n c] w fun e f=>e= .returned (.int .u64 ((2^g.length - 1:Nat):Int))/\f=w:=by
 obtain⟨j,i,k⟩:=bD h;subst j;have d:=af (vZ g w Om);have l:2^g.length<4294967296:=G9 (a:=2) (m:=g) (n:=32) Om Om;have b:=af (adu l axb);generalize 2^g.length=p at d b⊢;go_enter func122,ntmps122;go_wp2_with fail
 refine d.mono ?_;rintro e o ⟨rfl,rfl⟩;go_wp2;go_ret;exact⟨by rw[<-b.ae];rfl,rfl⟩
def aba(A:aR)(n c:Nat)(g:List Nat)(rest a:Nat)(w:au)(h:fD w (.slice A n c) g)(y:kI g)(O:rest<2^g.length)(J:a<g.length):
 Calls prog 125 #[.slice A n c,.int .u64 rest,av a] w fun e M=>∃m:Nat,e= .returned (.int .u64 m)/\m.testBit=part (eZ g) rest.testBit a/\m<2^g.length/\M=w:=by
 obtain⟨R,Q,T⟩:=bD h;subst R;have W:=af h;have f:=af y;have K:=af O;have HA:=af J;have V:=af (vZ a w (by have:=y.le;omega));have D:=af (tj.start (rest:=rest) J);have S:=y.le;go_enter func125,ntmps125;go_wp2_with fail
 refine V.mono ?_;rintro e F ⟨rfl,rfl⟩;generalize 2^a=G at*;go_upto_region 3 with fail
 go_loopw [7,8,9,10,11] (fun v u _ _ _ wr=>∃ae next:Nat,v= .int .u64 ae/\u= .int .u64 next/\ah (tj g rest a ae next)/\wr=F) (fun v u _ _ _ _=>2*(12 - cnt (RowKit.intOf v).toNat)+if (RowKit.intOf u).toNat=0 then 0 else 1)
 exact⟨G,G,rfl,rfl,D,rfl⟩;obtain⟨ae,next,rfl,rfl,t,rfl⟩:=hrel;by_cases z:next=0
 ·subst z;have Y:=af (tj.done t);go_wp2;go_ret;exact⟨ae,rfl,Y,t.lo,rfl⟩
 ·have P:((next:Int) !=0)=true:=Oc;have r:=af (tj.round f K t z);have C:=af (f.jt t.ln);have s:=af (f.jt t.lo);have B:=af (f.jt K);go_upto_region 6 with fail
  go_loopw [9,10,11,19] (fun N _ _ k L=>∃i:Nat,i<=g/\k=av i/\N= .int .u64 (gp g next i:Nat)/\L=wr) (fun _ _ _ k _=>g - (RowKit.intOf k).toNat)
  exact⟨0,aV _,rfl,rfl,rfl⟩;obtain⟨i,hi,rfl,rfl,rfl⟩:=hrel;by_cases x:i<g
  ·obtain⟨gg,o,rfl,_,hc⟩:=fD.get W x;have X:=af (Bf next i wr C Om);have j:ah (gp g next (i+1)=if next.testBit i=true then gp g next i|||g.getD i 0 else gp g next i):=rfl;have d:=af (f.jt (EJ f next i));have E:=af (f.jt (f.lt i));generalize g.getD i 0=U at*;generalize gp g next i=H at*
   go_wp2_with fail
   refine X.mono ?_;rintro e F ⟨rfl,rfl⟩;cases I:next.testBit i with
   |true=>rw[I] at j;have HW:=af (Cg d E);have tO:ah (gp g next (i+1)=H|||U):=j.ae;exact aeI
   |false=>rw[I] at j;have tO:ah (gp g next (i+1)=H):=j.ae;exact aeD
  ·obtain rfl:i=g.length:=Om;have d:=af (f.jt (EJ f next g));generalize gp g next g.length=Z at*
   have p:=af (Tn d B);have l:=af (yU (M6 (b:=rest) d) s);have q:=af (Cg s (Ta (b:=ae) (M6 (b:=rest) d)));have d1:decide (g<g)=false:=Ou;go_wp2;go_roundw;exact⟨_,_,by rw[p.ae,l.ae,q.ae],by rw[p.ae,l.ae],r.1,trivial⟩;rw[p.ae,l.ae,q.ae];simp only[RowKit.intOf,kg,z,if_false];exact r.2
def akc:jG prog 185 lS 1 8:= .mk' (z:= .int .u64 0) Ok Ok rfl Od Od
def aiV{adj:Nat->Nat->Prop}(c:b<a)(rest:VS):parts adj ((List.range a).drop b) rest=if rest b=true then part adj rest b::parts adj ((List.range a).drop (b+1)) (rest.less (part adj rest b)) else parts adj ((List.range a).drop (b+1)) rest:=by rw[jR avT,P3];rfl
structure M8(g:List Nat)(rest:Nat)(i:Nat)(ms:List Nat)(r:Nat):Prop where
 lt:r<2^g.length
 eq:ms.map Nat.testBit++parts (eZ g) ((List.range g.length).drop i) r.testBit=parts (eZ g) (List.range g.length) rest.testBit
 ml:∀m∈ms,m<2^g.length
 sz:ms.length<=i
def Z7(A:aR)(n c:Nat)(g:List Nat)(rest:Nat)(w:au)(h:fD w (.slice A n c) g)(K:kI g)(S:rest<2^g.length):
 Calls prog 181 #[.slice A n c,.int .u64 rest] w fun e J=>∃(v:Value) (a:List Nat),e= .returned v/\fD J v a/\a.map Nat.testBit=parts (eZ g) (List.range g.length) rest.testBit/\(∀m∈a,m<2^g.length)/\Ext w J:=by
 obtain⟨U,T,X⟩:=bD h;subst U;have HL:=af h;have I:=af K;have W:=K.le;have H:ah (M8 g rest 0 [] rest):=⟨S,rfl,(fun _ h=>nomatch h),aK _⟩;go_enter func181,ntmps181;go_upto_region 3 with fail
 go_loopw [1,5,6,7,10] (fun O N _ _ f wr=>∃(r i:Nat) (a:List Nat),O= .int .u64 r/\f=av i/\i<=g/\ah (M8 g rest i a r)/\ah (bI lS 1 uU w.heap.size wr N a)/\ah (Ext w wr)) (fun _ _ _ _ f _=>g - (RowKit.intOf f).toNat)
 exact⟨rest,0,[],rfl,rfl,aV _,H,jf,aB _⟩;obtain⟨r,i,a,rfl,rfl,hi,b,E,y⟩:=hrel;by_cases q:i<g
 ·have G:=af (HL.ext y);have z:=af (I.jt b.lt);have HH:=af (Bf r i wr z Om);have HC:=af (aba A _ c g r i wr G I b.lt q);have B:=af (aiV (adj:=eZ g) q r.testBit);have V:=b.sz;go_wp2_with fail
  refine HH.mono ?_;rintro e w1 ⟨rfl,rfl⟩;cases L:r.testBit i with
  |true=>
   rw[L,if_pos rfl] at B;go_wp2_with fail;refine HC.mono ?_;rintro e w2 ⟨m,rfl,p,o,rfl⟩;have F:=af (I.jt o);have j:ah (M8 g rest (i+1) (a++ [m]) (dM r m)):=⟨x9 b.lt (by rw[yu];exact qM _ b.lt),by
    rw[kD,ie,yK,p,<-b.eq,B.ae];simp [p],fun x l=>by
    rcases bV.1 l with l|l
    ·exact b.ml x l
    ·rw[bG.1 l];exact o,by simp;omega⟩
   have HW:=af (yU z F);obtain⟨A',Y,M,rfl,_,t,d,k⟩:=E.parts;have P:=y.size;have D:(a.length+1)*8<=140737488355328:=Om;go_wp2_with (at_builtin;refine gQ rfl _ _ 185 rfl w.heap.size akc _ _ _ rfl d.ae #[.int .u64 (m:Int)] 1 1 rfl rfl rfl D P ?_)
   intro v' w3 C s _;have Z:=af (jc (R:=uU) (x:=m) p8 Oe d k rfl C s);have E3:=af (mn y d s (aK _));go_wp2;go_roundw;exact⟨dM r m,i+1,a++ [m],by rw[HW.ae],by go_num,by omega,j,Z,E3⟩;simp [RowKit.intOf];omega
  |false=>rw[L] at B;have j:ah (M8 g rest (i+1) a r):=⟨b.lt,by rw[<-b.eq,B.ae];simp,b.ml,by omega⟩;go_wp2;go_roundw;exact⟨r,i+1,a,rfl,by go_num,by omega,j,E,y⟩;simp [RowKit.intOf];omega
 ·obtain rfl:i=g.length:=Om;obtain⟨A',Y,M,rfl,_,t,d,k⟩:=E.parts;have HE:ah (a.map Nat.testBit=parts (eZ g) (List.range g) rest.testBit):=(by have h:=b.eq;rw[pU Ou] at h;simp only[parts,i7] at h;exact h)
  have d1:decide (g<g)=false:=Ou;go_wp2;go_ret;exact⟨_,a,rfl,(bI.of d k).ls,HE,b.ml,y⟩
noncomputable def pJ(g:List Nat)(s:VS):Nat:=VS.count 12 fun y=> @decide (∃b,b<g.length/\s b=true/\eZ g b y) (Classical.propDecidable _)&& !s y
def am2(g:List Nat)(c:Nat):cnt (dM (gp g c g) c)=pJ g c.testBit:=by unfold cnt pJ;congr 1;funext y;rw[EN];congr 1;rw[lI,Rs];exact(@decide_eq_true_iff _ (Classical.propDecidable _)).symm
def adH(q:kI i)(s:VS)(v:∃a,a<i.length/\s a=true):pJ i s+1<=i.length:=by
 obtain⟨a,r,h⟩:=v;have x:pJ i s<VS.count 12 (iK i.length):=by
  have t:=sT (n:=12) (c:=iK i.length) (a:=a) (decide_eq_true r) (cF r q.le);refine Ay (vH fun y o=> ?_) t;rw[cZ,sM,@decide_eq_true_iff _ (Classical.propDecidable _)] at o;obtain⟨⟨b,_,_,m⟩,d⟩:=o;have f:y<i.length:=rq (q.lt b) m;have j:y≠a:=fun e=>by rw[e,h] at d;cases d
  simp [VS.less,VS.one,iK,f,j]
 have t:VS.count 12 (iK i)<=i.length:=by
  have m:∀k,(List.range k).countP (iK i)<=i.length:=fun k=>by
   induction k with
   |zero=>simp
   |succ k u=>
    rw[Hg,List.countP_append,List.countP_singleton];by_cases w:k<i
    ·have d:=Lh (p:=iK i) (l:=List.range k);rw[iG] at d;split<;>omega
    ·rw[if_neg (by simp [iK,w])];exact u
  exact m 12
 omega
def amB(A:aR)(n c:Nat)(g:List Nat)(s:Nat)(w:au)(h:fD w (.slice A n c) g)(l:kI g)(y:s<2^g.length):
 Calls prog 220 #[.slice A n c,.int .u64 s] w fun e u=>e= .returned (av (pJ g s.testBit:Nat))/\u=w:=by
 obtain⟨B,z,D⟩:=bD h;subst B;have G:=af h;have f:=af l;have C:=l.le;have j:=af (l.jt y);have H:=af (am2 g s);generalize pJ g s.testBit=J at*;go_enter func220,ntmps220;go_upto_region 3 with fail
 go_loopw [5,6,7,10] (fun v _ _ d wr=>∃i:Nat,i<=g/\d=av i/\v= .int .u64 (gp g s i:Nat)/\wr=w) (fun _ _ _ d _=>g - (RowKit.intOf d).toNat)
 exact⟨0,aV _,rfl,rfl,rfl⟩;obtain⟨i,K,rfl,rfl,rfl⟩:=hrel;by_cases k:i<g
 ·obtain⟨M,o,rfl,_,L⟩:=fD.get G k;have I:=af (Bf s i wr j Om);have b:ah (gp g s (i+1)=if s.testBit i=true then gp g s i|||g.getD i 0 else gp g s i):=rfl;have a:=af (f.jt (EJ f s i));have p:=af (f.jt (f.lt i));generalize g.getD i 0=E at*;generalize gp g s i=q at*;go_wp2_with fail
  refine I.mono ?_;rintro e t ⟨rfl,rfl⟩;cases r:s.testBit i with
  |true=>rw[r] at b;have HW:=af (Cg a p);have tO:ah (gp g s (i+1)=q|||E):=b.ae;exact aeI
  |false=>rw[r] at b;have tO:ah (gp g s (i+1)=q):=b.ae;exact aeD
 ·obtain rfl:i=g.length:=Om;have a:=af (f.jt (EJ f s g));generalize gp g s g.length=x at*;have m:=af (yU a j);have F:=af (aa' (dM x s) wr (Ta a));have d1:decide (g<g)=false:=Ou;go_wp2_with fail
  rw[m.ae];refine F.mono ?_;rintro e t ⟨rfl,rfl⟩;go_wp2;go_ret;exact⟨by rw[<-H.ae];rfl,rfl⟩
def mC(l:List Int):Nat:=l.foldl (fun m a=>m|||2^a.toNat) 0
def my(b:Nat)(g:List Nat)(l:List Int):List Nat:=l.foldl (fun g a=>g.set a.toNat (g.getD a.toNat 0|||dM b (2^a.toNat))) g
def gF(n:Nat)(a:List Rl):List Nat:=a.foldl (fun g r=>my (mC r.2) g r.2) (List.replicate n 0)
def fold_succ{α β:Type}(f:β->α->β)(b:β){l:List α}(h:a<l):(l.take (a+1)).foldl f b=f ((l.take a).foldl f b) l[a]:=by rw[fg h,vz];rfl
def abE(l:List Int)(a:Int):mC (l++ [a])=mC l|||2^a.toNat:=by unfold mC;rw[vz];rfl
def acP:∀{k:Nat} {l:List Int} {y:Nat},l=k->(∀a∈l,0<=a)->((mC l).testBit y=true↔(y:Int)∈l)
 |0,l,y,b,_=>by rw[mh b];simp [mC]
 |k+1,l,y,b,h=>by
  obtain⟨d,a,rfl⟩:∃d a,l=d++ [a]:=⟨l.dropLast,l.getLast (by intro e;rw[e] at b;cases b),(ag9 _).symm⟩;have g:=h a Ou;rw[abE,Hk,kE,acP (k:=k) awr (fun x f=>h x (by simp [f])),p_,VS.one,beq_iff_eq,bV,bG];constructor
  ·rintro(c|c)
   ·exact .inl c
   ·exact .inr Om
  ·rintro(c|c)
   ·exact .inl c
   ·exact .inr Om
def Iz{n:Nat}:∀{k:Nat} {l:List Int},l=k->(∀a∈l,0<=a/\a<n)->mC l<2^n
 |0,l,b,_=>by rw[mh b];exact yf _
 |k+1,l,b,h=>by obtain⟨c,a,rfl⟩:∃c a,l=c++ [a]:=⟨l.dropLast,l.getLast (by intro e;rw[e] at b;cases b),(ag9 _).symm⟩;have f:=h a Ou;rw[abE];exact Hb (Iz (k:=k) awr (fun x d=>h x awE)) (Mi Om)
structure tU(n:Nat)(P:Nat->Nat->Prop)(g:List Nat):Prop where
 len:g.length=n
 lt:∀x,g.getD x 0<2^n
 bit:∀x y,(g.getD x 0).testBit y=true↔P x y
def acy(d:a<i):(i.set a c).getD b 0=if b=a then c else i.getD b 0:=by
 rw[fh,fh,o5];by_cases h:a=b
 ·subst h;simp [d]
 ·rw[if_neg h,if_neg (fP h)]
def R7{n c:Nat}(d:c<2^n):∀(l:List Int) {P:Nat->Nat->Prop} {g:List Nat},tU n P g->(∀a∈l,0<=a/\a<n)->tU n (fun x y=>P x y\/((x:Int)∈l/\c.testBit y=true/\y≠x)) (my c g l)
 | [],P,g,h,_=>⟨h.len,h.lt,fun x y=>by rw[show my c g []=g from rfl,h.bit];simp⟩
 |a::l,P,g,h,m=>by
  have p:=m a Ou;have k:a.toNat<g.length:=by rw[h.len];omega
  have o:tU n (fun x y=>P x y\/(x=a.toNat/\c.testBit y=true/\y≠x)) (g.set a.toNat (g.getD a.toNat 0|||dM c (2^a.toNat))):=by
   refine⟨by rw[sR,h.len],fun x=> ?_,fun x y=> ?_⟩
   ·rw[acy k];split
    ·exact Hb (h.lt _) (x9 d awY)
    ·exact h.lt x
   ·rw[acy k];by_cases f:x=a.toNat
    ·rw[if_pos f,Hk,kE,EN,p_,VS.one,h.bit,f];simp
    ·rw[if_neg f,h.bit];simp [f]
  have j:=R7 d l o fun x f=>m x (by simp [f]);refine⟨j.len,j.lt,fun x y=> ?_⟩;rw[show my c g (a::l)=my c (g.set a.toNat (g.getD a.toNat 0|||dM c (2^a.toNat))) l from rfl,j.bit,or_assoc];have e:(x:Int)=a↔x=a.toNat:=Om;rw[aJ,e];constructor
  ·rintro(b|⟨b,i⟩|⟨b,i⟩)
   ·exact .inl b
   ·exact .inr ⟨.inl b,i⟩
   ·exact .inr ⟨.inr b,i⟩
  ·rintro(b|⟨b|b,i⟩)
   ·exact .inl b
   ·exact .inr (.inl ⟨b,i⟩)
   ·exact .inr (.inr ⟨b,i⟩)
def aal{n:Nat}:∀(b:List Rl) {P:Nat->Nat->Prop} {g:List Nat},tU n P g->(∀r∈b,∀a∈r.2,0<=a/\a<n)->tU n (fun x y=>P x y\/∃r∈b,(x:Int)∈r.2/\(y:Int)∈r.2/\y≠x) (b.foldl (fun g r=>my (mC r.2) g r.2) g)
 | [],P,g,h,_=>⟨h.len,h.lt,fun x y=>by rw[List.foldl_nil,h.bit];simp⟩
 |r::b,P,g,h,e=>by have c:=e r Ou;have j:=R7 (Iz rfl c) r.2 h c;have d:=aal b j fun x f=>e x (by simp [f]);refine⟨d.len,d.lt,fun x y=> ?_⟩;rw[Hh,d.bit,or_assoc,acP rfl fun a i=>(c a i).1];simp
def yG{c:List Rl}(e:∀r∈c,∀b∈r.2,0<=b/\b<a):tU a (fun x y=>∃r∈c,(x:Int)∈r.2/\(y:Int)∈r.2/\y≠x) (gF a c):=by have f:tU a (fun _ _=>False) (List.replicate a 0):=⟨Lg,fun x=>by rw[fh,Ae];split<;>exact yf _,fun x y=>by rw[fh,Ae];split<;>simp⟩;have d:=aal c f e;exact⟨d.len,d.lt,fun x y=>by rw[gF,d.bit,false_or]⟩
def tU.ok{n:Nat}{a:List Rl}{g:List Nat}(h:tU n (fun x y=>∃r∈a,(x:Int)∈r.2/\(y:Int)∈r.2/\y≠x) g)(d:n<=12):kI g:=
 ⟨by rw[h.len];exact d,fun x=>by rw[h.len];exact h.lt x,fun x y b=>by
  obtain⟨r,i,f,e,c⟩:=(h.bit x y).1 b;exact(h.bit y x).2 ⟨r,i,e,f,c.symm⟩,fun x b=>by
  obtain⟨_,_,_,_,c⟩:=(h.bit x x).1 b;exact c rfl⟩
def qs(g:List Nat):List Value:=g.map fun m:Nat=>Value.int .u64 (m:Int)
def anQ(g:List Nat)(i m:Nat):(qs g).set i (.int .u64 (m:Int))=qs (g.set i m):=by simp [qs,Eo]
def anR(h:a<i):(qs i)[a]? =some (.int .u64 ((i.getD a 0:Nat):Int)):=by unfold qs;rw[dL,fh,aX h];rfl
def adt{w:au}:∀(g:List Nat),Ch (uU w) (qs g) g
 | []=>rfl
 |m::g=>⟨[.int .u64 (m:Int)],qs g,rfl,rfl,adt g⟩
def al9:(prog.info? lS).map (fun i=>(i.zero,i.size,i.bytes))=some (some (.int .u64 0),1,8):=Ok
def aja(n:Nat)(h:n<=1000)(w:au):
 (Instr.makeSlice 186 (av (n:Int)) (av (n:Int))).run prog w= .ok (aG w.heap.size 0 n n) (w.alloc (.cells (qs (List.replicate n 0)).toArray lS)):=by
 obtain⟨e,f,c,b,a⟩:=info_parts al9;have d:=run_make (P:=prog) w 186 lS e (.int .u64 0) underlying186 f c .i64 .i64 (n:Int) (n:Int) Om (yz _) awk Om;simp only[kg,b,kG,Value.cells,ym] at d;rw[d];simp [qs]
def Sc(v:Value)(x:aP)(w:au)(h:dN w v x)(ok:bR x):
 Calls prog 121 #[v] w fun e H=>∃A,e= .returned (.slice A x.ai x.ai)/\fD H (.slice A x.ai x.ai) (gF x.ai x.ay)/\Ext w H:=by
 obtain⟨A,c,B,d,D,e,rfl,I,y,hf⟩:=h;obtain⟨-,iN,j4⟩:=bD y;have HR:=af y;have r6:=ok.r6;have a12:=ok.a12;have ic:=af ok.ri;have kR:=aja x.ai Om;have gL:ah (∀r∈x.ay,r.2.length<=12):=fun r y=>by
  have h1:=EU (k:=0) (n:=x.ai) (ok.ra r y) (ok.ri r y);rcases h1 with h1|h1
  ·rw[h1];simp
  ·omega
 have Z:ah (∀l:List Rl,(∀r∈l,r∈x.ay)->∃P,tU x.ai P (gF x.ai l)):=fun l hl=>⟨_,yG fun r y=>ok.ri r (hl r y)⟩;have xJ:ah (gF x.ai (x.ay.take 0)=List.replicate x.ai 0):=rfl;obtain⟨RN,uR⟩:∃RN,x.ay.length=RN:=⟨_,rfl⟩;have jN:=af uR;obtain⟨N,hN⟩:∃N,x.ai.length=N:=⟨_,rfl⟩;rw[uR] at iN HR r6⊢;rw[hN] at a12 ic kR Z xJ⊢;go_enter func121,ntmps121;go_upto_region 1 with fail
 refine aT fun W HX BX=> ?_;obtain⟨s0,s1,s2,s3⟩:=BX.four;go_upto_region 2 with fail
 refine aT fun W2 aZ BG=> ?_;have ke:=af (BX.ext aZ);have xL:=af (HX.trans aZ);have hbg:=BX.lt;have hgb:=BG.lt;obtain⟨s0,s1,s2,s3⟩:=ke.four;generalize W.heap.size=L at*;have BG0:ah (ar W2 L lS (qs (gF N (x.ay.take 0)))):=by rw[xJ.ae];exact BG
 go_upto_region 3 with fail
 go_loopw [18] (fun U wr=>∃i:Nat,i<=RN/\U=av i/\ah (ar wr L lS (qs (gF N (x.ay.take i))))/\ah (Ext w wr)) (fun U _=>RN - (RowKit.intOf U).toNat)
 exact⟨0,aV _,rfl,BG0,xL⟩;obtain⟨i,hi,rfl,F,HE⟩:=hrel;by_cases zw:i<RN
 ·have E:i<x.ay.length:=aw4;obtain⟨g,o,Bi,mi,di,rfl,_,et,gz,s⟩:=rp (bU nS HR HE) E;have hm:=(bD s).1;subst hm;have s:=af s;have f:=af (ic _ (a_ E));have KB:ah (gF N (x.ay.take (i+1))=my (mC x.ay[i].2) (gF N (x.ay.take i)) x.ay[i].2):=fold_succ _ _ E;have HGP:=af (Z (x.ay.take i) fun r y=>oW y);have JR:=gL _ (a_ E);generalize gF N (x.ay.take i)=t at*;generalize x.ay[i]=r at*;obtain⟨rn,ra⟩:=r;simp only at et gz s f KB JR;obtain⟨M,hM⟩:∃M,ra.length=M:=⟨_,rfl⟩;have HM:=af hM;rw[hM] at gz s JR;go_upto_region 5 with fail
  refine aT fun W3 V BR=> ?_;have X:=af (kJ s V);have gO:=af (F.ext V);have KG:=af (HE.trans V);obtain⟨b0,b1⟩:=BR.two;go_upto_region 7 with fail
  go_loopw [6,25] (fun v6 Q wq=>∃j:Nat,j<=M/\Q=av j/\v6= .int .u64 (mC (ra.take j):Nat)/\wq=W3) (fun _ Q _=>M - (RowKit.intOf Q).toNat)
  exact⟨0,aV _,rfl,rfl,rfl⟩;obtain⟨j,hj,rfl,rfl,rfl⟩:=hrel;by_cases qy:j<M
  ·have C:j<ra.length:=by rw[HM.ae];exact qy
   obtain⟨g2,o2,rfl,_,hc⟩:=gX X C;obtain⟨q,hq⟩:∃q:Nat,ra[j]=(q:Int):=⟨ra[j].toNat,by have:=(f _ (a_ C)).1;omega⟩;have rO:q<N:=by have:=(f _ (a_ C)).2;omega
   have HA:ah (mC (ra.take (j+1))=mC (ra.take j)|||2^q):=(by have h:=fold_succ (fun m a=>m|||2^a.toNat) 0 C;rw[hq] at h;exact h);have G:ah (mC (ra.take j)<4096):=cF (Iz rfl fun a I=>f a (oW I)) (fN (j:=12) Om a12);have HO:=af (vZ q wr Om);have HQ:=af (B_ (show q<12 by omega));rw[hq] at hc;generalize mC (ra.take j)=p at*;go_wp2_with fail
   refine HO.mono ?_;rintro e1 w1 ⟨rfl,rfl⟩;generalize 2^q=pq at*;have HW:=af (Cg G HQ);go_wp2;go_roundw;exact⟨j+1,by omega,by go_num,by rw[HW.ae,HA.ae],trivial⟩;simp [RowKit.intOf];omega
  ·obtain rfl:j=M:=Om;have HT:ah (ra.take j=ra):=by rw[ah,<-HM.ae];exact fj
   rw[HT.ae];have d1:decide (j<j)=false:=Ou;have G:ah (mC ra<4096):=cF (Iz rfl fun a I=>f a I) (fN (j:=12) Om a12);have xF:ah (ra=j):=(bD X).1.symm;have HAP:ah (mC ra<2^N):=Iz rfl fun a I=>f a I;generalize mC ra=p at*;have Gv:ah (my p t (ra.take 0)=t):=rfl;have mg:ah (ar wr L lS (qs (my p t (ra.take 0)))):=by rw[Gv.ae];exact gO
   go_upto_region 12 with fail
   go_loopw [37] (fun O wq=>∃j':Nat,j'<=j/\O=av j'/\ah (ar wq L lS (qs (my p t (ra.take j'))))/\ah (Ext w wq)/\ah (IL wq (.slice Bi j di) ra)) (fun O _=>j - (RowKit.intOf O).toNat)
   exact⟨0,aV _,rfl,mg,KG,X⟩;obtain⟨k,hk,rfl,F,HE,HI⟩:=hrel;by_cases hkM:k<j
   ·have z:k<ra.length:=by rw[xF.ae];exact hkM
    obtain⟨g2,o2,rfl,_,hc⟩:=gX HI z;obtain⟨q,hq⟩:∃q:Nat,ra[k]=(q:Int):=⟨ra[k].toNat,by have:=(f _ (a_ z)).1;omega⟩;have rO:q<N:=by have:=(f _ (a_ z)).2;omega
    have HS:ah (my p t (ra.take (k+1))=(my p t (ra.take k)).set q ((my p t (ra.take k)).getD q 0|||dM p (2^q))):=(by have h:=fold_succ (fun g (a:Int)=>g.set a.toNat (g.getD a.toNat 0|||dM p (2^a.toNat))) t z;rw[hq] at h;exact h);have zV:ah (∃P,tU N P (my p t (ra.take k))):=(by obtain⟨P,J⟩:=HGP.ae;exact⟨_,R7 HAP _ J fun a I=>f a (oW I)⟩);have Y:ah ((my p t (ra.take k)).getD q 0<4096):=(by obtain⟨P,J⟩:=zV.ae;exact cF (J.lt q) (fN (j:=12) Om a12));have V3:aA wr L q (.int .u64 (((my p t (ra.take k)).getD q 0:Nat):Int)):=(by obtain⟨P,J⟩:=zV.ae;exact F.cell (anR (by rw[J.len];exact rO)));have HO:=af (vZ q wr.drew Om);have HQ:=af (B_ (show q<12 by omega));have JF:=F.frozen q;rw[hq] at hc;generalize my p t (ra.take k)=gk at*;generalize gk.getD q 0=gq at*;generalize 2^q=pq at*;have Du:=af (yU G HQ);have qE:=af (Cg Y (Ta (b:=pq) G));go_upto_region 14 with fail
    have bO:ah (∀H,H=wr.drew->aA H L q (.int .u64 (gq:Int))):=fun H h=>by rw[h];exact V3
    have aH:ah (wr.drew=wr.drew):=rfl;have HBd:=af F.drew;have HEd:=af HE.drew;have Xz:=af (bU cK HI (aB wr).drew);have avt:aA wr.drew L q (.int .u64 (gq:Int)):=V3;have avo:wr.drew.frozen? (aC L q)=false:=JF;refine cD (S:=fun H=>H=wr.drew) (T:=fun j=>decide (10<=j)) Ok ?_;generalize wr.drew=wd at*;refine ax 0 41 ?_;refine ax 1 42 ?_;refine ax 2 43 ?_;refine ax 3 44 ?_;refine ax 4 45 ?_;refine ax 5 46 ?_;refine aO 6 ?_;intro K hK;go_simp;refine HO.mono ?_;rintro e1 w1 ⟨rfl,rfl⟩;refine hK.ae _ _ (fun _=>rfl) ?_;refine ax 7 48 ?_;refine ax 8 49 ?_;refine ax 9 50 ?_;obtain⟨W',hW',B7,K7,N7⟩:=gG (i:=q) HBd (.int .u64 ((gq|||dM p pq:Nat):Int));rw[anQ,<-HS.ae] at B7;have xH:=af (Ls.kept cK Xz K7 ⟨by decide,fun u hu=>by cases hu⟩);have GH:=af (Ext.only HEd N7 (pd hbg));refine aO 10 ?_;intro K hK;go_simp;rw[Du.ae,qE.ae,hW'];refine hK.ae _ _ Oe ?_;refine b_ Ok ?_;go_wp2;go_roundw;exact⟨k+1,by omega,by go_num,B7,GH,xH⟩;simp [RowKit.intOf];omega
   ·obtain rfl:k=j:=Om;have HT:ah (ra.take k=ra):=by rw[ah,<-xF.ae];exact fj
    rw[HT.ae,<-KB.ae] at F;have d2:decide (k<k)=false:=Ou;go_wp2;go_roundw;exact⟨i+1,by omega,by go_num,F,HE⟩;simp [RowKit.intOf];omega
 ·obtain rfl:i=RN:=Om;have HT:ah (x.ay.take i=x.ay):=by rw[ah,<-jN.ae];exact fj
  rw[HT.ae] at F;have Y:=af (Z x.ay fun _ h=>h);have d1:decide (i<i)=false:=Ou;go_wp2;go_ret;refine⟨_,rfl,?_,HE⟩;obtain⟨P,J⟩:=Y.ae;have h:=k9 (R:=uU) F (adt _) (by rw[J.len];omega);rwa[J.len] at h
def uA(v:Value):Option (DataW Value×List MemPlace):=some (.held v,[])
def dH(w:au)(k:TypeId)(b n:Nat)(f:Lit->Option Value):Prop:=
 ∃D:DataW Value,w.ownsMap prog k uA b n D/\∀l,WideAt.IsKeyLit l->has D l=(f l).isSome/\∀v,f l=some v->∀z,D.atKey l z= .held v
noncomputable def lU(f:Lit->Option Value)(a:Lit)(v:Value):Lit->Option Value:=fun l=> @ite _ (l=a) (Classical.propDecidable _) (some v) (f l)
def AZ(f:Lit->Option Value)(a:Lit)(v:Value):lU f a v a=some v:=by unfold lU;rw[if_pos rfl]
def ue{f:Lit->Option Value}{a l:Lit}(h:l≠a):lU f a p l=f l:=by unfold lU;rw[if_neg h]
section
variable{w w':au}{k b n:Nat}{f:Lit->Option Value}
theorem dH.made(w:au)(k:TypeId):dH (w.alloc (.map #[] 0)) k w.heap.size 0 fun _=>none:=
 ⟨_,World.ownsMap_made w _ _ _,fun _ _=>⟨rfl,fun v h=>by cases h⟩⟩
def Ic:=@dH.made
theorem dH.lt(h:dH w k b n f):b<w.heap.size:=by obtain⟨D,h,_⟩:=h;exact h.lt
theorem dH.kept(h:dH w k b n f)(c:w.grownBy w' O)(a:some b≠O):dH w' k b n f:=by obtain⟨D,h,d⟩:=h;exact⟨D,h.kept c a,d⟩
theorem dH.ext(h:dH w k b n f)(a:Ext w w'):dH w' k b n f:=h.kept (Mk a) Ou
theorem dH.put{e:TypeId}(h:dH w k b n f)(K:Keyed prog k)(j:prog.underlying x=some (.map k e))(m:n<maxLen){key:Value}{g:Lit}(c:keyOf prog k key=some g)(val:Value):
 ∃w',(Instr.mapUpdate x (.map (some b)) key val).run prog w= .ok () w'/\dH w' k b (n+1) (lU f g val)/\Only b w w':=by
 obtain⟨D,h,u⟩:=h;obtain⟨w',s,r,q⟩:=h.update K j m c (show uA val=some (.held val,[]) from rfl);refine⟨w',s,⟨_,r,fun l i=> ?_⟩,q⟩;by_cases d:l=g
 ·subst d;rw[AZ];refine⟨has_put_same h.isMap i _,fun v a z=> ?_⟩;injection a with a;rw[<-a];exact atKey_put_same h.isMap i _ z
 ·rw[ue d];obtain⟨p,o⟩:=u l i;exact⟨by rw[has_put_other d,p],fun v a z=>by rw[atKey_put_other d,o v a z]⟩
theorem dH.look{e:TypeId}(h:dH w k b n f)(K:Keyed prog k)(l:prog.underlying x=some (.map k e))(j:(zeroValue e).run prog w= .ok p w){key:Value}{d:Lit}(c:keyOf prog k key=some d):
 (Instr.lookup x (.map (some b)) key true).run prog w= .ok (.tuple #[(f d).getD p,.bool (f d).isSome]) w:=by
 obtain⟨D,h,q⟩:=h;obtain⟨g,m⟩:=q d (K.key c);obtain⟨v,s,o,a⟩:=h.look_ok K l j (show uA p=some (.held p,[]) from rfl) c;have r:v=(f d).getD p:=by
  unfold uA at a;injection a with a;injection a with a _;cases i:f d with
  |some u=>rw[m u i] at a;injection a with a
  |none=>rw[i] at g;rw[atKey_of_not_has g] at a;injection a with a
 rw[o,g,r]
theorem dH.get{e:TypeId}(h:dH w k b n f)(K:Keyed prog k)(l:prog.underlying x=some (.map k e)){z:Value}(j:(zeroValue e).run prog w= .ok z w){key:Value}{d:Lit}(c:keyOf prog k key=some d):
 (Instr.lookup x (.map (some b)) key false).run prog w= .ok ((f d).getD z) w:=by
 obtain⟨D,h,p⟩:=h;obtain⟨i,m⟩:=p d (K.key c);obtain⟨v,r,o,a⟩:=h.lookup K l j (show uA z=some (.held z,[]) from rfl) c;have q:v=(f d).getD z:=by
  unfold uA at a;injection a with a;injection a with a _;cases g:f d with
  |some u=>rw[m u g] at a;injection a with a
  |none=>rw[g] at i;rw[atKey_of_not_has i] at a;injection a with a
 rw[o,q]
theorem abc{α:Type}:∀{l L:List α},l.Pairwise (·≠·)->(∀x∈l,x∈L)->l.length<=L.length
 | [],_,_,_=>aV _
 |x::l,L,d,h=>by
  obtain⟨j,i⟩:=mP.1 d;obtain⟨A,B,rfl⟩:=YX (h x Ou);have g:=abc (L:=A++B) i fun y c=>by
   have a:=h y awh;have e:=j y c;simp only[bV,aJ] at a⊢;rcases a with a|a|a
   ·exact .inl a
   ·exact absurd a.symm e
   ·exact .inr a
  simp only[cP,bC] at g⊢;omega
theorem dH.bound(h:dH w k b n f)(K:Keyed prog k)(L:List Lit)(t:∀l,(f l).isSome=true->l∈L):dH w k b L.length f:=by
 obtain⟨D,h,i⟩:=h;refine⟨D,?_,i⟩;have q:=h.tidy K;obtain⟨j,c,u,F,_,rfl⟩:=h;refine⟨j,c,u,F,?_,rfl⟩;obtain⟨e,d,r⟩:=q;injection d with d;have s:e.length=j.size:=by rw[<-d,length_sorted];simp
 rw[<-s,<-bW (f:=Prod.fst)];refine abc (Lq.2 r) fun x m=> ?_;obtain⟨p,a,rfl⟩:=dU.1 m;have g:WideAt.IsKeyLit p.1:=by rw[<-d] at a;obtain⟨v,o⟩:=fit_keys F p ((Go.WideShapes.sorted_perm _).mem_iff.1 a);exact K.key o
 refine t _ ?_;rw[<-(i _ g).1,d,has_eq];exact o9.2 ⟨p,a,WideAt.sameKey_self g⟩
end
def ahi(w:au){g:Array Oper}{rest:List Oper}{o:Oper}{c:Exit->Act->World->Prop}
 (D:o.guard=none) (m d v:Operand) (t:TypeId) (p:o.op=Op.mapUpdate t m d v) {k:TypeId} (K:Keyed prog k) (A:prog.underlying t=some (.map k x)) {b n:Nat} {f:Lit->Option Value}
 (C:Q.eval m= .map (some b)) (h:dH w k b n f) (B:n<maxLen) (i val:Value) (r:Lit) (y:Q.eval d=i) (z:Q.eval v=val) (l:keyOf prog k i=some r)
 (E:∀w',dH w' k b (n+1) (lU f r val)->Only b w w'->wpList prog g c rest (Q.put o.dst undef) w'):
 wpList prog g c (o::rest) Q w:=by
 refine wpList_plain D fun F q=> ?_;obtain⟨w',j,u,s⟩:=h.put K A B l val;unfold Oper.wp;simp [execOp,p,C,y,z,j,Result.andThen];exact q _ _ (E w' u s)
abbrev y8:TypeId:=190
noncomputable def li(g:List Nat)(m:Nat):Nat:=Ce g.length (eZ g) (pJ g) g.length m.testBit
noncomputable def jU(g:List Nat)(m:Nat):Nat:=mW g.length (eZ g) (pJ g) (g.length+1) m.testBit
def ap6:List Lit:=(List.range 4096).map fun m:Nat=>Lit.int .u64 (m:Int)
def io(g:List Nat)(w:au)(b:Nat):Prop:=∃f,dH w lS b 4096 f/\∀l v,f l=some v->∃m:Nat,l= .int .u64 (m:Int)/\m<4096/\v=av (li g m:Nat)
def Ri:Keyed prog lS:=int_keyed (q:= .u64) Ok
def apE(h:a<4096):(Lit.int .u64 (a:Int)).wf=true:=by have c:IntKind.min .u64=0:=Od;have b:IntKind.max .u64=18446744073709551615:=Od;simp only[Lit.wf,c,b,cZ,decide_eq_true_eq];omega
def ads(h:a<4096):keyOf prog lS (.int .u64 (a:Int))=some (.int .u64 (a:Int)):=keyOf_int_mk Ok (apE h)
def am8(w:au):(zeroValue aS).run prog w= .ok (av 0) w:=Ok
def ack:prog.underlying 188=some (.map lS aS):=Ok
def Rp{f:Lit->Option Value}(h:dH m a b c f)(j:Only b m n)(t:TypeId):Kept t m n:=fun g o p d=>(j.block g (gS d) fun e=>by injection e with e;subst e;obtain⟨D,⟨q,i,l,_⟩,_⟩:=h;rw[l] at d;injection d with d;cases d).trans d
def io.step{f:Lit->Option Value}(s:∀l v,f l=some v->∃b:Nat,l= .int .u64 (b:Int)/\b<4096/\v=av (li i b:Nat))(p:b<4096)(r:dH m lS a c (lU f (.int .u64 (b:Int)) (av (li i b:Nat)))):io i m a:=by
 have j:∀l v,lU f (.int .u64 (b:Int)) (av (li i b:Nat)) l=some v->∃b:Nat,l= .int .u64 (b:Int)/\b<4096/\v=av (li i b:Nat):=fun l v d=>by
  by_cases h:l= .int .u64 (b:Int)
  ·rw[h,AZ] at d;injection d with d;exact⟨b,h,p,d.symm⟩
  ·rw[ue h] at d;exact s l v d
 refine⟨_,r.bound Ri ap6 fun l d=> ?_,j⟩;obtain⟨v,o⟩:=G6.1 d;obtain⟨k,e,q,_⟩:=j l v o;rw[e];exact dU.2 ⟨k,dB.2 q,rfl⟩
def io.ext{g:List Nat}{w':au}(h:io g m b)(a:Ext m w'):io g w' b:=by obtain⟨f,d,c⟩:=h;exact⟨f,d.ext a,c⟩
def io.wd(h:io i m a)(c:Only a m n)(d:fD m p j):fD n p j:=by obtain⟨f,e,_⟩:=h;exact d.keep p8 fun u _=>Rp e c u
def io.lt(h:io i m a):a<m.heap.size:=by obtain⟨f,c,_⟩:=h;exact c.lt
def Nh(g:List Nat)(A:aR)(c b:Nat)(m:Nat):Prop:=∀w,fD w (.slice A g.length c) g->io g w b->
 Calls prog 182 #[.agg #[.slice A g.length c,.map (some b)],.int .u64 (m:Int)] w fun e a=>e= .returned (av (li g m:Nat))/\io g a b/\Only b w a
def IJ(g:List Nat)(A:aR)(c b:Nat)(m:Nat):Prop:=∀w,fD w (.slice A g.length c) g->io g w b->
 Calls prog 123 #[.agg #[.slice A g.length c,.map (some b)],.int .u64 (m:Int)] w fun e a=>e= .returned (av (jU g m:Nat))/\io g a b/\Only b w a
def akX(l:List Nat)(x:Nat):qo (l++ [x])=max (qo l) x:=by unfold qo;rw[vz];rfl
def ajQ(h:j.map Nat.testBit=parts (eZ i) (List.range i) a.testBit):jU i a=qo (j.map (li i)):=by unfold jU;rw[AK,<-h,Ep];rfl
def alL{g:List Nat}(S:kI g){rest:Nat}(hr:rest<2^g.length)(hP:∀m,m<2^g.length->(∀x,m.testBit x=true->rest.testBit x=true)->m≠0->Nh g E a b m):IJ g E a b rest:=by
 intro w h hM;have U:=bD h;have s:=af h;have n:=af hM;have HC:=af (fun W (f:Ext w W)=>Z7 E g a g rest W (h.ext f) S hr);have C:=af hP;have Z:=af S;go_enter func123,ntmps123;go_upto_region 1 with fail
 refine aT fun W q p=> ?_;have O:=af (HC W q);obtain⟨s0,c⟩:=p.two;go_wp2_with fail
 refine O.mono ?_;rintro e1 w1 ⟨v,e,rfl,hv,T,u,f⟩;obtain⟨A',c',rfl,hc1,z,r⟩:=hv.parts;unfold maxLen at z;have HE:=af (ajQ T);have Q:=af (p.ext f);have J:=af (n.ext (q.trans f));have L:=af (s.ext (q.trans f));have G:=af (ep (g:=b) (q.trans f));have qA:b<w.heap.size:=n.lt;have D:ah (∀m∈e,Nh g E a b m):=fun m R=>by
  have h1:m.testBit∈parts (eZ g) (List.range g) rest.testBit:=by rw[<-T];exact dU.2 ⟨m,R,rfl⟩
  obtain⟨_,d,_,h2,X⟩:=(Ez Z.symm (List.range g.length) rest.testBit (rest0:=rest.testBit) fun _ f=>⟨f,rfl⟩).1 _ h1;refine C.ae m (u m R) (fun x f=>p4 Z.symm h2 (by rw[<-X];exact f)) fun e0=> ?_;have V:m.testBit d=true:=by rw[X];exact eV.2 .refl
  rw[e0,Ec] at V;cases V
 have H:ah (∀i,i<e.length->qo ((e.take (i+1)).map (li g))=max (qo ((e.take i).map (li g))) (li g (e.getD i 0))):=fun i y=>by rw[fg y,kD,Ll,akX,fh,aX y];rfl
 go_upto_region 3 with fail
 go_loopw [5,13] (fun A l wr=>∃i:Nat,i<=e/\l=av i/\A=av (qo ((e.take i).map (li g)):Nat)/\ah (io g wr b)/\ah (Only b w wr)/\ah (ar wr w.heap.size y8 [.slice E g a,.map (some b)])/\ah (fD wr (.slice A' e c') e)/\ah (fD wr (.slice E g a) g)) (fun _ l _=>e - (RowKit.intOf l).toNat)
 exact⟨0,aV _,rfl,rfl,J,G,Q,r,L⟩;obtain⟨i,y,rfl,rfl,n,Y,p,r,s⟩:=hrel;by_cases k:i<e.length
 ·obtain⟨gg,o,rfl,_,hc⟩:=fD.get r k;have HI:=af (H i k);have HQ:ah (Nh g E a b (e.getD i 0)):=D _ (by rw[fh,aX k];exact a_ k);generalize e.getD i 0=m at*;generalize qo ((e.take i).map (li g))=mx at*;have N:=af (HQ wr s n);generalize li g m=pm at*;obtain⟨s0,c⟩:=p.two;go_wp2_with fail
  refine N.mono ?_;rintro e2 w2 ⟨rfl,t,j⟩;have I:=af t;have F:=af (Y.trans j);have P:=af (p.only j Om);have B:=af (n.wd j r);have K:=af (n.wd j s);go_wp2;go_roundw;exact⟨i+1,by omega,by go_num,by rw[HI.ae];exact congrArg _ Om,I,F,P,B,K⟩;simp [RowKit.intOf];omega
 ·obtain rfl:i=e.length:=Om;have M:ah (qo ((e.take e).map (li g))=jU g rest):=by rw[fj];exact HE.symm
  rw[M.ae];have d1:decide (e<e)=false:=Ou;go_wp2;go_ret;exact⟨rfl,n,Y⟩
def ai_{c:VS}(m:Nat)(_hi:b<a):ii c J (List.range (b+1)) m=if c b=true then min (ii c J (List.range b) m) (J b) else ii c J (List.range b) m:=by unfold ii;rw[Hg,vz];rfl
def acF{n:Nat}(c:a<2^n)(h:a.testBit b=true)(k:Nat)(d:VS.count n a.testBit<=k+1):VS.count n (dM a (2^b)).testBit<=k:=by rw[yK,p_];have:=sT (n:=n) h (rq c h);omega
def amp{g:List Nat}(f:kI g)(d:a<2^g.length):li g a=max (ii a.testBit (fun b=>jU g (dM a (2^b))) (List.range g.length) (g.length+1)) (pJ g a.testBit+1):=by
 unfold li Ce;rw[QH (g:=fun b=>jU g (dM a (2^b))) fun b e=> ?_];unfold jU;rw[yK,p_];have i:=sT (n:=g) e (rq d e);have h:VS.count g a.testBit<=g.length:=by have:=Lh (p:=a.testBit) (l:=List.range g);rwa[iG] at this
 exact LP f.symm _ _ _ (fun x c=>by unfold VS.less at c;rw[cZ] at c;exact rq d c.1) Om Om
def aod{g:List Nat}(t:kI g)(J:c<2^g.length)(h0:∃d,d<g.length/\c.testBit d=true)(hW:∀d,c.testBit d=true->IJ g E a b (dM c (2^d))):Nh g E a b c:=by
 intro w h hM;have wI:=bD h;have F:=af h;have l:=af hM;have A:=af hW;have HG:=af t;have hle:=t.le;have HR:=af J;have xF:=af (t.jt J);have e:=t.jt J;have hky:=adH t c.testBit h0;have z:ah (li g c=max (ii c.testBit (fun d=>jU g (dM c (2^d))) (List.range g) (g.length+1)) (pJ g c.testBit+1)):=amp t J;have B:ah (∀i,i<g.length->∀k,ii c.testBit (fun d=>jU g (dM c (2^d))) (List.range (i+1)) k=if c.testBit i=true then min (ii c.testBit (fun d=>jU g (dM c (2^d))) (List.range i) k) (jU g (dM c (2^i))) else ii c.testBit (fun d=>jU g (dM c (2^d))) (List.range i) k):=fun i hi k=>ai_ k hi;have C:ah (ii c.testBit (fun d=>jU g (dM c (2^d))) (List.range 0) (g.length+1)=g.length+1):=rfl;have r:ah (∀i,ii c.testBit (fun d=>jU g (dM c (2^d))) (List.range i) (g.length+1)<=g.length+1):=fun i=>(Hr _ _).1;generalize(fun d=>jU g (dM c (2^d)))=I at z B C r;have DM:ah (∀W,io g W b->∃v:Option Value,(Instr.lookup 188 (.map (some b)) (.int .u64 (c:Int)) true).run prog W= .ok (.tuple #[v.getD (av 0),.bool v.isSome]) W/\(v=none\/v=some (av (li g c:Nat)))):=fun W ⟨f,h1,h2⟩=>by
  refine⟨f (.int .u64 (c:Int)),h1.look Ri ack (am8 W) (ads e),?_⟩;cases hf:f (.int .u64 (c:Int)) with
  |none=>exact .inl rfl
  |some v=>obtain⟨m',h3,_,h4⟩:=h2 _ _ hf;injection h3 with _ h3;have h5:m'=c:=Om;rw[h5] at h4;exact .inr (by rw[h4])
 go_enter func182,ntmps182;go_upto_region 1 with fail
 refine aT fun W u n=> ?_;obtain⟨v,hlk,hv⟩:=DM W (l.ext u);obtain⟨s0,s1⟩:=n.two;have qA:b<w.heap.size:=l.lt;rcases hv with rfl|rfl
 ·have nG:=af (l.ext u);have sj:=af (F.ext u);have gM:=af (ep (g:=b) u);have l6:=n.lt;go_upto_region 6 with fail
  go_loopw [7,25] (fun v7 o wr=>∃i:Nat,i<=g/\o=av i/\v7=av (ii c.testBit I (List.range i) (g.length+1):Nat)/\ah (io g wr b)/\ah (Only b w wr)/\ah (ar wr w.heap.size y8 [.slice E g a,.map (some b)])/\ah (fD wr (.slice E g a) g)) (fun _ o _=>g - (RowKit.intOf o).toNat)
  exact⟨0,aV _,rfl,by rw[C.ae];rfl,nG,gM,n,sj⟩;obtain⟨i,hi,rfl,rfl,l,HO,n,F⟩:=hrel;by_cases V:i<g
  ·have HH:=af (Bf c i wr e Om);have L:=af (B i V (g.length+1));have R:=r i;generalize ii c.testBit I (List.range i) (g.length+1)=N at*;obtain⟨s0,s1⟩:=n.two;go_wp2_with fail
   refine HH.mono ?_;rintro e1 x ⟨rfl,rfl⟩;cases Z:c.testBit i with
   |true=>
    rw[Z,if_pos rfl] at L;have HQ:ah (IJ g E a b (dM c (2^i))):=A i Z;have HP:=af (B_ (show i<12 by omega));go_upto_region 9 with fail
    have xE:=af (vZ i x.drew Om);have H:=af n.drew;have j:=af (l.ext (aB x).drew);have D:=af (F.ext (aB x).drew);have q:=af HO.drew;refine cD (S:=fun s=>ar s w.heap.size y8 [.slice E g a,.map (some b)]) (T:=fun _=>false) Ok ?_;generalize x.drew=wd at*;have bO:ah (∀s,ar s w.heap.size y8 [.slice E g a,.map (some b)]->aA s w.heap.size 0 (.slice E g a)/\aA s w.heap.size 1 (.map (some b))):=fun s h=>h.two;have aH:=H;refine ax 0 31 ?_;refine ax 1 32 ?_;refine ax 2 33 ?_;refine ax 3 34 ?_;refine aO 4 ?_;intro K y;go_simp;refine xE.mono ?_;rintro e2 M ⟨rfl,rfl⟩;refine y.ae _ _ (fun _=>aH.ae) ?_;have HW:=af (yU xF HP);have m:=af (HQ M D j);generalize 2^i=pi at*;generalize jU g (dM c pi)=wv at*;refine ax 5 36 ?_;rw[HW.ae];refine aO 6 ?_;intro K y;go_simp;refine m.mono ?_;rintro e3 w3 ⟨rfl,U,p⟩;have lD:=af U;have fX:=af (q.trans p);have G:=af (H.only p Om);have GC:=af (j.wd p D);have aH:=G;refine y.ae _ _ (fun _=>aH.ae) ?_;refine ax 7 38 ?_;refine aO 8 ?_;intro K y;go_simp;refine y.ae _ _ (fun _=>aH.ae) ?_;refine b_ Ok ?_;go_wp2;go_roundw;exact⟨i+1,by omega,by go_num,by rw[L.ae];exact congrArg _ Om,lD,fX,G,GC⟩;simp [RowKit.intOf];omega
   |false=>rw[Z] at L;have ei:ah (ii c.testBit I (List.range (i+1)) (g.length+1)=N):=L.ae;go_wp2;go_roundw;exact⟨i+1,by omega,by go_num,by rw[ei.ae],l,HO,n,F⟩;simp [RowKit.intOf];omega
  ·obtain rfl:i=g.length:=Om;have R:=r g;generalize ii c.testBit I (List.range g.length) (g.length+1)=N at*;have HK:=af (amB E g a g c wr F HG HR);generalize pJ g c.testBit=ky at*;obtain⟨s0,s1⟩:=n.two;have d1:decide (g<g)=false:=Ou;go_wp2_with fail
   refine HK.mono ?_;rintro e1 x ⟨rfl,rfl⟩;have HV:ah (max (N:Int) ((ky:Int)+1)=(li g c:Nat)):=by rw[ah,z.ae];omega
   go_upto_region 12 with fail
   rw[HV.ae];obtain⟨f,Y,X⟩:=l.ae;have HF:=af Y;have Q:4096<maxLen:=avW;go_wp2_with (at_mapUpdate;refine ahi _ rfl _ _ _ 188 rfl Ri ack rfl HF.ae Q _ _ (.int .u64 (c:Int)) rfl rfl (ads e) ?_)
   intro M O P;have j:ah (io g M b):=io.step X e O;have q:=af (HO.trans P);go_wp2;go_ret;exact⟨rfl,j,q⟩
 ·go_wp2;go_ret;exact⟨rfl,l.ext u,ep u⟩
def aaB{g:List Nat}(p:kI g)(A:aR)(c b:Nat):∀(k m:Nat),m<2^g.length->VS.count g.length m.testBit<=k->IJ g A c b m
 |k,m,s,t=>alL p s fun h d e o=>by
  have f:VS.count g h.testBit<=VS.count g m.testBit:=vH e;obtain⟨a,r⟩:∃a,h.testBit a=true:=by
   rcases Classical.em (∃y,h.testBit y=true) with f|f
   ·exact f
   ·exact absurd (PW fun i=>by rw[Ec];simpa using fun q=>f ⟨i,q⟩) o
  refine aod p d ⟨a,rq d r,r⟩ fun x j=> ?_;have q:=sT (n:=g.length) j (rq d j);match k with
  |0=>exact absurd q Om
  |k+1=>exact aaB p A c b k _ (x9 d awY) (acF d j k Om)
def aaC{g:List Nat}(e:kI g)(A:aR)(c b:Nat)(d:a<2^g.length):IJ g A c b a:=aaB e A c b _ a d (aK _)
def ints(l:List Nat):List Int:=l.map fun a:Nat=>(a:Int)
structure th(g:List Nat)(most:Nat)(l:List Nat)(rest:Nat):Prop where
 lt:rest<2^g.length
 bit:∀x,rest.testBit x=true↔x<g.length/\x∉l
 nd:l.Nodup
 mem:∀x∈l,x<g.length
 wd:jU g rest<=most
 sz:l.length+VS.count g.length rest.testBit<=g.length
noncomputable def v_(g:List Nat)(rest a:Nat):Nat:=mW g.length (eZ g) (pJ g) (g.length+1) (VS.less (part (eZ g) rest.testBit a) (VS.one a))
section
variable{g:List Nat}{most rest:Nat}{l:List Nat}
theorem th.step(j:kI g)(h:th g most l rest)(d:rest.testBit a=true)(i:v_ g rest a<=most):th g most (l++ [a]) (dM rest (2^a)):=by
 have c:=(h.bit a).1 d;have m:=sT (n:=g) d c.1;refine⟨x9 h.lt (by rw[yu];exact qM _ h.lt),fun x=> ?_,?_,fun x b=> ?_,?_,?_⟩
 ·rw[EN,p_,cZ,h.bit,sM,VS.one];simp only[bV,bG,beq_eq_false_iff_ne,not_or,and_assoc]
 ·refine qP.2 ⟨h.nd,by simp,fun x b y f=> ?_⟩;rw[bG.1 f];intro e;exact c.2 (e▸b)
 ·rcases bV.1 b with b|b
  ·exact h.mem x b
  ·rw[bG.1 b];exact c.1
 ·have:=ahj (n:=g) (ky:=pJ g) j.symm (k:=g) d h.wd i;unfold jU;rwa[yK,p_]
 ·rw[yK,p_,bC,iE];have:=h.sz;omega
theorem th.some(e:kI g)(h:th g most l rest)(o:rest≠0):∃a,a<g.length/\rest.testBit a=true/\v_ g rest a<=most:=by
 obtain⟨x,d⟩:∃y,rest.testBit y=true:=by
  rcases Classical.em (∃y,rest.testBit y=true) with b|b
  ·exact b
  ·exact absurd (PW fun i=>by rw[Ec];simpa using fun f=>b ⟨i,f⟩) o
 have j:VS.count g.length rest.testBit<=g.length:=(by have:=Lh (p:=rest.testBit) (l:=List.range g.length);rwa[iG] at this);obtain⟨a,b,f⟩:=aiy (n:=g.length) (ky:=pJ g) e.symm (fun c j=>adH e c j) (k:=g.length) (s:=rest.testBit) (fun x d=>rq h.lt d) Om d;have m:=p4 e.symm d b;exact⟨a,rq h.lt m,m,a7 f h.wd⟩
theorem th.done(h:th g most l 0):l.Nodup/\∀x,x∈l↔x<g:=
 ⟨h.nd,fun x=>⟨h.mem x,fun a=>PP fun b=>by have:=(h.bit x).2 ⟨a,b⟩;rw[Ec] at this;cases this⟩⟩
end
def asz{P:World->Prop}{k:TypeId}{l:List Value}(h:∀W,ah (Ext m W)->ah (dH W k m.heap.size 0 fun _=>none)->ah (ar W (m.heap.size+1) w l)->P W):P ((m.alloc (.map #[] 0)).alloc (.cells l.toArray w)):=
 h _ (((aB m).alloc _).alloc _) ((Ic m k).ext ((aB _).alloc _)) (jg (m.alloc (.map #[] 0)) w l _ Ou)
def io.new{g:List Nat}(h:dH m lS a 0 fun _=>none):io g m a:=by obtain⟨D,d,c⟩:=h;exact⟨_,⟨D,d.mono Om,c⟩,fun l v h=>by cases h⟩
def io.grown{g:List Nat}(h:io g m b)(e:m.ownsRow a w c p d t)(i:m.grownBy n p.ownBlock)(r:b<a):io g n b:=by obtain⟨f,q,o⟩:=h;exact⟨f,q.kept i (fun j=>by have:=(e.lt b j.symm).1;omega),o⟩
def th.start{g:List Nat}:th g (jU g (2^g.length - 1)) [] (2^g.length - 1):=by
 have a:(2^g.length - 1).testBit=iK g.length:=by
  funext x
  rw[ag'];rfl
 refine⟨by have:=yf g;omega,fun x=> ?_,LC,(fun x b=>nomatch b),aK _,?_⟩
 ·rw[a,iK,decide_eq_true_eq];simp
 ·rw[a,EB];simp
def q75.afA(h:aq:=by
 have oC:l.length<=12:=(by have:=M.sz;omega);have dA:ah (ints (l++ [i])=ints l++ [(i:Int)]):=by unfold ints;rw[ah,kD];rfl
 have ava:(ints l).length<=12:=by unfold ints;rw[bW];exact oC
 obtain⟨A',c',xs,rfl,_,Uf,o,XT⟩:=fX.parts;have cM:((ints l).length+1)*8<=140737488355328:=Om;go_wp2_with (at_builtin;refine gQ rfl _ _ 22 rfl bs jE _ _ _ rfl o.ae #[av (i:Int)] 1 1 rfl rfl rfl cM hs3 ?_)
 intro v' w6 ho6 j _;have O6:=af (jc (R:=dO) (x:=(i:Int)) cK Oe o XT rfl ho6 j);rw[<-dA.ae] at O6;have xO:=af (gH gO o j qA);have HL6:ah (fD w6 (.slice A1 g.length g.length) g):=GC.keep p8 fun u hu=>pZ o j (by simp only[bG] at hu;rw[hu];decide);have zW:=af (mn r o j hws);have DL:ah (io g w6 b):=q.grown o j Om;have N9:bs<=w6.heap.size:=a7 hs3 j.size;go_wp2_with fail
 refine(as7 w6).mono ?_;rintro e7 w7 ⟨rfl,rfl⟩;go_wp2;go_roundw;exact⟨dM rest pi,l++ [i],by rw[qE.ae],rZ,O6,DL,xO,HL6,zW,N9⟩;rw[qE.ae];simp only[RowKit.intOf,kg];exact KL):=h
def q76.afA(h:aq:=by go_wp2;go_roundw;exact⟨i+1,by omega,by go_num,rfl,H,fX,q,gO,GC,r,hs3⟩;simp [RowKit.intOf];omega):=h
def q74.T2(h:aq:=by
 go_upto_region 2 with fail
 refine asz (k:=lS) fun W2 aZ Kv C=> ?_;have gN:ah (io g W2 w1.heap.size):=io.new Kv;have mK:=af (sj.ext aZ);have t:=af (bQ.trans aZ);have G:=bQ.size;have hb2:=C.lt;have GP:=af (X9 A1 W2 mK);have asE:=af (HWA A1 _ W2 mK gN);generalize w1.heap.size=b at*;obtain⟨s0,s1⟩:=C.two;go_wp2_with fail
 refine GP.mono ?_;rintro e1 w2 ⟨rfl,rfl⟩;go_wp2_with fail;refine asE.mono ?_;rintro e1 P ⟨rfl,p,eD⟩;rw[HMO.ae];have q:=af p;have hb4:b<w2.heap.size:=gN.lt;have BF3:=af (C.only eD Om);have GC:=af (gN.wd eD mK);have r:=af (t.only eD G);have hz3:w2.heap.size<=P.heap.size:=eD.size;obtain⟨bs,Dj⟩:∃bs,P.heap.size=bs:=⟨_,rfl⟩;have qA:b+1<bs:=Om;have hws:w.heap.size<=bs:=Om;have V:bs<=P.heap.size:=En Dj.symm;have J7:=af (fun(m:Nat) (hm:m<2^g.length)=>aaC O A1 g.length b hm);go_upto_region 5 with fail
 go_loopw [4,6,7] (fun Q v6 _ wr=>∃(rest:Nat) (l:List Nat),Q= .int .u64 rest/\ah (th g most l rest)/\ah (bI aS 1 dO bs wr v6 (ints l))/\ah (io g wr b)/\ah (ar wr (b+1) y8 [.slice A1 g g,.map (some b)])/\ah (fD wr (.slice A1 g g) g)/\ah (Ext w wr)/\bs<=wr.heap.size) (fun Q _ _ _=>cnt (RowKit.intOf Q).toNat)
 exact⟨all,[],rfl,Pl,jf,q,BF3,GC,r,V⟩;obtain⟨rest,l,rfl,M,HO,HM,C,HL,HE,hsz⟩:=hrel;by_cases h0:rest=0
 ·subst h0;have HD:=af M.done;go_wp2;go_ret;exact⟨_,l,rfl,HO.ls,HD.1,HD.2,HE⟩
 ·have hne:((rest:Int) !=0)=true:=Oc;have HPS:=af (M.some O h0);have jO:=af (O.jt M.lt);have kT:=vH (n:=12) (c:=rest.testBit) (s:=rest.testBit) fun _ h=>h;obtain⟨s0,s1⟩:=C.two;obtain⟨wo,rfl⟩:∃wo:World,wo=wr:=⟨_,rfl⟩;have zQ:ah (∀a,a<0->rest.testBit a=true->¬v_ g rest a<=most):=fun a ha=>by omega
  go_upto_region 7 with fail
  go_loopw [4,6,7,23] (fun Q v6 _ E I=>∃i:Nat,i<=g/\E=av i/\Q= .int .u64 rest/\ah (∀a,a<i->rest.testBit a=true->¬v_ g rest a<=most)/\ah (bI aS 1 dO bs I v6 (ints l))/\ah (io g I b)/\ah (ar I (b+1) y8 [.slice A1 g g,.map (some b)])/\ah (fD I (.slice A1 g g) g)/\ah (Ext w I)/\bs<=I.heap.size) (fun _ _ _ E _=>g - (RowKit.intOf E).toNat)
  exact⟨0,aV _,rfl,rfl,zQ,HO,HM,C,HL,HE,hsz⟩;obtain⟨i,hi,rfl,rfl,HN,HO,HM,C,HL,HE,N0⟩:=hrel;by_cases iM:i<g
  ·go_upto_region 9 with fail
   have HH:=af (Bf rest i wr.drew jO Om);have eo:=af C.drew;have gN:=af (HM.ext (aB wr).drew);have mK:=af (bU p8 HL (aB wr).drew);have t:=af HE.drew;have dY:=af (HO.ext cK (aB wr).drew);have hsd:bs<=wr.drew.heap.size:=N0;refine cD (S:=fun f=>ar f (b+1) y8 [.slice A1 g g,.map (some b)]) (T:=fun _=>false) Ok ?_;generalize wr.drew=wd at*;have bO:ah (∀f,ar f (b+1) y8 [.slice A1 g g,.map (some b)]->aA f (b+1) 0 (.slice A1 g g.length)/\aA f (b+1) 1 (.map (some b))):=fun f h=>h.two;have aH:=eo;refine ax 0 26 ?_;refine ax 1 27 ?_;refine aO 2 ?_;intro K hK;go_simp;refine HH.mono ?_;rintro e2 w2 ⟨rfl,rfl⟩;refine hK.ae _ _ (fun _=>aH.ae) ?_;cases hb:rest.testBit i with
   |true=>
    have HB:=af hb;refine ax 3 29 ?_;refine ax 4 30 ?_;refine ax 5 31 ?_;refine ax 6 32 ?_;refine ax 7 33 ?_;refine ax 8 34 ?_;refine ax 10 36 ?_;refine ax 14 40 ?_;have HC:=af (aba A1 _ g.length g rest i w2 mK O M.lt iM);refine aO 9 ?_;intro K hK;go_simp;refine HC.mono ?_;rintro e3 P ⟨m,rfl,jK,F,rfl⟩;refine hK.ae _ _ (fun _=>aH.ae) ?_;have xE:=af (vZ i P Om);refine aO 11 ?_;intro K hK;go_simp;refine xE.mono ?_;rintro e4 w4 ⟨rfl,rfl⟩;refine hK.ae _ _ (fun _=>aH.ae) ?_;have HW:=af (yU (O.jt F) (B_ (show i<12 by omega)));have xF:=af (show dM m (2^i)<2^g.length from x9 F (by rw[yu];exact qM _ F));have HQ:=af (J7 _ xF w4 mK gN);have y:ah (jU g (dM m (2^i))=v_ g rest i):=(by unfold jU v_;rw[ah,yK,p_,jK])
    rw[y.ae] at HQ;obtain⟨U,z⟩:∃U,v_ g rest i=U:=⟨_,rfl⟩;have y:=af z;rw[z] at HQ;by_cases X:U<=most
    ·have rZ:=af (M.step O HB (by rw[y.ae];exact X));have d1:decide ((U:Int)<=(most:Int))=true:=fU;have as7:=af (fun f=>vZ i f (show i<32 by omega));have qE:=af (yU jO (B_ (show i<12 by omega)));have KL:ah (cnt (dM rest (2^i))<cnt rest):=(by have h:=sT (n:=12) (c:=rest.testBit) HB (show i<12 by omega);unfold cnt;rwa[yK,p_])
     generalize 2^i=pi at*;refine ax 12 38 ?_;rw[HW.ae];refine aO 13 ?_;intro K hK;go_simp;refine HQ.mono ?_;rintro e5 w5 ⟨rfl,p,eD⟩;have q:=af p;have V7:w.heap.size<=b:=G;have r:=af (t.only eD V7);open q75 in exact ae9
    ·have d1:decide ((U:Int)<=(most:Int))=false:=aY;have H:ah (∀a,a<i+1->rest.testBit a=true->¬v_ g rest a<=most):=fun a ha J=>by
      rcases cA a i with L|L
      ·exact HN a L J
      ·obtain rfl:a=i:=Om;rw[y.ae];exact X
     generalize 2^i=pi at*;refine ax 12 38 ?_;rw[HW.ae];refine aO 13 ?_;intro K hK;go_simp;refine HQ.mono ?_;rintro e5 w5 ⟨rfl,p,eD⟩;have q:=af p;have r:=af (t.only eD G);open q76 in exact ae9
   |false=>
    refine ax 3 29 ?_;refine lh 4 30 ?_;refine lh 5 31 ?_;refine lh 6 32 ?_;refine lh 7 33 ?_;refine lh 8 34 ?_;refine lh 9 35 ?_;refine lh 10 36 ?_;refine lh 11 37 ?_;refine lh 12 38 ?_;refine lh 13 39 ?_;refine lh 14 40 ?_;refine lh 15 41 ?_;refine ax 16 42 ?_;refine b_ Ok ?_;have H:ah (∀a,a<i+1->rest.testBit a=true->¬v_ g rest a<=most):=fun a ha J=>by
     rcases cA a i with L|L
     ·exact HN a L J
     ·obtain rfl:a=i:=Om;rw[hb] at J;cases J
    go_wp2;go_roundw;exact⟨i+1,by omega,by go_num,rfl,H,dY,gN,eo,mK,t,hsd⟩;simp [RowKit.intOf];omega
  ·have Pm:=af HPS.ae;exfalso;obtain⟨a,L,h2,h3⟩:=HPS.ae;exact HN a Om h2 h3):=h
def aiZ(v:Value)(x:aP)(w:au)(h:dN w v x)(ok:bR x):
 Calls prog 59 #[v] w fun e f=>∃u l,e= .returned u/\IL f u (ints l)/\l.Nodup/\(∀a,a∈l↔a<x.ai.length)/\Ext w f:=by
 have CN:=af (fun W (hx:Ext w W)=>Sc v x W (h.ext hx) ok);have Z:=yG ok.ri;have hg:=Z.ok ok.a12;have FW:=Z.len;generalize gF x.ai.length x.ay=g at*;have O:=af hg;have hle:=hg.le;obtain⟨A,c,B,d,D,e,rfl,ha,J,hf⟩:=h;obtain⟨N,hN⟩:∃N,x.ai.length=N:=⟨_,rfl⟩;rw[hN] at CN FW⊢;subst FW;have Pl:=af (th.start (g:=g));have gz:2^g.length - 1<2^g.length:=axb;have HWA:=af (fun A b=>aaC hg A g.length b gz);have X9:=af (fun A f (h:fD f (.slice A g g) g)=>aca A g g g f h hle);generalize 2^g.length - 1=all at*;obtain⟨most,Y⟩:∃most,jU g all=most:=⟨_,rfl⟩;have HMO:=af Y;rw[Y] at Pl;have hmm:= @run_makeMap prog;go_enter func59,ntmps59;go_upto_region 1 with fail
 refine aT fun W HX BX=> ?_;open q74 in exact TS
section
variable{n:Nat}{p:Nat->Option Nat}{d:Nat->Nat}{homes:Nat->List Nat}
theorem R8(r:cX n p d)(f:a<n)(e:p a=O):fQ d (some a)=fQ d O+1:=by
 cases O with
 |none=>simp only[fQ];rw[r.root a f e]
 |some b=>simp only[fQ];rw[(r.up a b f e).2]
theorem Sh(r:cX n p d)(h:n<=fQ d O):kids n p O= []:=by
 rcases e:kids n p O with _|⟨a,l⟩
 ·rfl
 ·exfalso;obtain⟨b,c⟩:=gU.1 (show a∈kids n p O by rw[e];simp);have hl:=r.lt a b;have:=R8 r b c;simp only[fQ] at this h;cases O<;>simp only at this h<;>omega
theorem Qn{homes:Nat->List Nat}{f g:Nat->Fo}:∀{l:List Nat},(∀a∈l,f a=g a)->dZ homes f l=dZ homes g l
 | [],_=>rfl
 |a::l,h=>by unfold dZ;rw[h a Ou,Qn fun b c=>h b awh]
theorem Zg(r:cX n p d):∀(k b:Nat) (u:Option Nat),n<=k+fQ d u->n<=b+fQ d u->d_ n p homes k u=d_ n p homes b u
 |0,0,_,_,_=>rfl
 |0,b+1,u,h,_=>by
  show Fo.nil=dZ homes (fun a=>d_ n p homes b (some a)) (kids n p u)
  rw[Sh r Om];rfl
 |k+1,0,u,_,h=>by
  show dZ homes (fun a=>d_ n p homes k (some a)) (kids n p u)=Fo.nil
  rw[Sh r Om];rfl
 |k+1,b+1,u,h,g=>Qn fun a c=>by obtain⟨f,e⟩:=gU.1 c;have:=R8 r f e;exact Zg r k b (some a) Om Om
def ji(n:Nat)(p:Nat->Option Nat)(homes:Nat->List Nat)(v:Nat):Fo:=d_ n p homes n (some v)
def eH(n:Nat)(p:Nat->Option Nat)(homes:Nat->List Nat)(v:Nat):Fo:= .cons v (homes v) (ji n p homes v) .nil
theorem sS(r:cX n p d){k:Nat}(h:n<=k+fQ d O):d_ n p homes k O=dZ homes (ji n p homes) (kids n p O):=by
 match k with
 |0=>rw[Sh r Om];rfl
 |k+1=>refine Qn fun a b=> ?_;obtain⟨e,c⟩:=gU.1 b;have:=R8 r e c;exact Zg r k n (some a) Om Om
theorem Md{α β:Type}{R:SR α}{U:List β}{g:Nat->β->α}{W:Nat->(Nat->β)->α}{f:Nat->Fo}:∀(l:List Nat) (env:Nat->β),(dZ homes f l).val R U g W env=R.prod l fun a=>(Fo.cons a (homes a) (f a) .nil).val R U g W env
 | [],_=>rfl
 |a::l,env=>by
  show R.mul _ ((dZ homes f l).val R U g W env)=R.mul (R.mul _ R.one) (R.prod l _)
  rw[SR.zh,Md l env]
theorem aua(r:cX n p d){α β:Type}{R:SR α}{U:List β}{g:Nat->β->α}{W:Nat->(Nat->β)->α}(v:Nat)(env:Nat->β):
 (eH n p homes v).val R U g W env=R.sum U fun x=>R.mul (R.mul (g v x) (R.prod (homes v) fun h=>W h (put env v x))) (R.prod (kids n p (some v)) fun c=>(eH n p homes c).val R U g W (put env v x)):=by
 show R.mul (R.sum U _) R.one=_
 rw[SR.zh];refine vJ fun x _=> ?_;have h:ji n p homes v=dZ homes (ji n p homes) (kids n p (some v)):=sS r Om;rw[h,Md];rfl
theorem L1(r:cX n p d){v:Nat}(e:v<n):a∈(eH n p homes v).vars↔a=v\/(a<n/\dw p (some v) a):=by have h:=vG (homes:=homes) r n (some v) a (fun b c=>by injection c with c;omega) Om;simp only[eH,Fo.vars,aJ,i7,ji,h]
theorem LS(r:cX n p d){v:Nat}(e:v<n):(eH n p homes v).vars.Nodup:=by
 have a:∀b,some v=some b->b<n:=fun b c=>by injection c with c;omega
 have f:=Hj (homes:=homes) r n (some v) a Om;simp only[eH,Fo.vars,i7,ji];refine i6.2 ⟨fun h=> ?_,f⟩;have g:=((vG r n (some v) v a Om).1 h).2.lQ r v rfl e;omega
theorem Ry{at_:Nat->List Nat}{hl:List Nat}{f:Nat->Fo}{S:List Nat}:∀{l:List Nat},(dZ homes f l).Ok at_ hl S->∀c∈l,(Fo.cons c (homes c) (f c) .nil).Ok at_ hl S
 | [],_,c,b=>by cases b
 |a::l,⟨i,h,g,e⟩,c,b=>by
  rcases aJ.1 b with rfl|b
  ·exact⟨i,h,g,trivial⟩
  ·exact Ry e c b
end
def dV(sb:Nat->Bool)(env:Nat->aM):List Nat->List aM->Bool
 |a::l,x::r=>(!(sb a)||env a==x)&&dV sb env l r
 |_,_=>true
def rD(sb:Nat->Bool)(env:Nat->aM)(l:List Nat)(a:List (List aM×Int)):Bool:=a.any fun y=>dV sb env l y.1
def cQ(sb:Nat->Bool)(v:Nat):Nat->Bool:=fun a=>a==v||sb a
def vU{sb:Nat->Bool}{env:Nat->aM}:∀{l:List Nat} {r:List aM},dV sb env l r=true↔∀(i a:Nat) (x:aM),l[i]? =some a->r[i]? =some x->sb a=true->env a=x
 | [],r=>by simp [dV]
 |a::l,[]=>by simp [dV]
 |a::l,x::r=>by
  unfold dV;rw[cZ,vU];constructor
  ·rintro⟨g,k⟩ i b y e c f;cases i with
   |zero=>simp only[dy,cY] at e c;subst e c;rw[f] at g;simpa using g
   |succ i=>exact k i b y av8 avT f
  ·intro h;refine⟨?_,fun i b y e c f=>h (i+1) b y av8 avT f⟩;cases j:sb a with
   |false=>rfl
   |true=>simpa using h 0 a x rfl rfl j
def abG{sb:Nat->Bool}{env:Nat->aM}{r:List aM}(hl:r.length=i.length)(j:∀a∈i,sb a=true):dV sb env i r=true↔r=i.map env:=by
 rw[vU];constructor
 ·intro h;refine sL fun b=> ?_;rw[dL];rcases cA b i.length with c|c
  ·have g:r[b]? =some (r[b]'Om):=aX Om;have f:i[b]? =some i[b]:=aX c;rw[g,f];exact congrArg some (h b _ _ f g (j _ (a_ c))).symm
  ·rw[fF Om,fF c];rfl
 ·rintro rfl b a x c e _;rw[dL,c] at e;injection e
def anO{sb:Nat->Bool}{env:Nat->aM}:dV sb env i (i.map env)=true:=vU.2 fun b a x e c _=>by rw[dL,e] at c;injection c
def Ra{sb NI:Nat->Bool}{env Nv:Nat->aM}{r:List aM}(h:∀a∈i,sb a=NI a/\(sb a=true->env a=Nv a)):dV sb env i r=dV NI Nv i r:=by
 rw[lI,vU,vU];constructor
 ·intro g b a x e j c;have f:=h a (sK e);rw[<-f.1] at c;rw[<-f.2 c];exact g b a x e j c
 ·intro g b a x e j c;have f:=h a (sK e);rw[f.2 c];rw[f.1] at c;exact g b a x e j c
def oc(x:aM):List aM->List aM
 | []=> [x]
 |y::l=>if Op.bytesLess y x=true then y::oc x l else if (y==x)=true then y::l else x::y::l
def jH(l:List aM):List aM:=l.foldr oc []
abbrev rI(x y:aM):Prop:=Op.bytesLess x y=true
def Sk{x z:aM}:∀{l:List aM},z∈oc x l↔z=x\/z∈l
 | []=>by simp [oc]
 |y::l=>by
  unfold oc;split
  ·rw[aJ,Sk,aJ];constructor
   ·rintro(h|h|h)
    ·exact .inr (.inl h)
    ·exact .inl h
    ·exact .inr (.inr h)
   ·rintro(h|h|h)
    ·exact .inr (.inl h)
    ·exact .inl h
    ·exact .inr (.inr h)
  ·split
   ·rename_i a;have a:=beq_iff_eq.1 a;rw[aJ];constructor
    ·exact fun h=> .inr h
    ·rintro(h|h)
     ·exact .inl (h.trans a.symm)
     ·exact h
   ·rw[aJ]
def acp{x:aM}:∀{l:List aM},l.Pairwise rI->(oc x l).Pairwise rI
 | [],_=>by simp [oc]
 |y::l,h=>by
  obtain⟨g,j⟩:=mP.1 h;unfold oc;split
  ·rename_i c;refine mP.2 ⟨fun z a=> ?_,acp j⟩;rcases Sk.1 a with rfl|a
   ·exact c
   ·exact g z a
  ·rename_i c;split
   ·exact h
   ·rename_i f;have b:Op.bytesLess x y=true:=by
     cases i:Op.bytesLess x y with
     |true=>rfl
     |false=>have e:=vN.Fp x y i avT;rw[e] at f;simp at f
    refine mP.2 ⟨fun z a=> ?_,h⟩;rcases aJ.1 a with rfl|a
    ·exact b
    ·exact vN.tr _ _ _ b (g z a)
def Hw:∀l,(jH l).Pairwise rI
 | []=>List.Pairwise.nil
 |_::l=>acp (Hw l)
def yF{x:aM}:∀{l},x∈jH l↔x∈l
 | []=>by simp [jH]
 |y::l=>by
  show x∈oc y (jH l)↔_
  rw[Sk,yF,aJ]
def Rx{l:List aM}(h:l.Pairwise rI):l.Nodup:=h.imp fun {a b} c e=>by rw[rI,e,vN.pK] at c;cases c
def SN:∀{l m:List aM},l.Pairwise rI->m.Pairwise rI->(∀x,x∈l↔x∈m)->l=m
 | [],[],_,_,_=>rfl
 | [],y::m,_,_,h=>by have:=(h y).2 Ou;cases this
 |x::l,[],_,_,h=>by have:=(h x).1 Ou;cases this
 |x::l,y::m,hl,q,h=>by
  obtain⟨f,j⟩:=mP.1 hl;obtain⟨m1,m2⟩:=mP.1 q;have b:x=y:=by
   rcases aJ.1 ((h x).1 Ou) with e|o
   ·exact e
   ·rcases aJ.1 ((h y).2 Ou) with e|k
    ·exact e.symm
    ·have i:=m1 x o;have c:=f y k;rw[rI] at i c;rw[vN.asym i] at c;cases c
  subst b;have pK:∀z,rI x z->z≠x:=fun z a e=>by rw[rI,e,vN.pK] at a;cases a
  rw[SN j m2 fun z=> ?_];constructor
  ·intro a;rcases aJ.1 ((h z).1 avS) with e|g
   ·exact absurd e (pK z (f z a))
   ·exact g
  ·intro a;rcases aJ.1 ((h z).2 avS) with e|g
   ·exact absurd e (pK z (m1 z a))
   ·exact g
def f6(at_:Nat->List Nat)(hl:List Nat)(v:Nat):List Nat:=hl.filter fun h=>(at_ h).contains v
def uD(l:List Nat)(v:Nat)(y:List aM):aM:=y.getD (l.idxOf v) []
def wm(at_:Nat->List Nat)(tab:jZ)(hl:List Nat)(fx:Nat->Option aM)(sb:Nat->Bool)(env:Nat->aM)(v:Nat):List aM:=match f6 at_ hl v with
 | []=> []
 |h::_=>((tab h).filter fun y=>dV sb env (at_ h) y.1&&cL fx v (uD (at_ h) v y.1)).map fun y=>uD (at_ h) v y.1
def gZ(at_:Nat->List Nat)(tab:jZ)(hl:List Nat)(fx:Nat->Option aM)(sb:Nat->Bool)(env:Nat->aM)(v:Nat):List aM:=
 (jH (wm at_ tab hl fx sb env v)).filter fun x=>(f6 at_ hl v).all fun h=>rD (cQ sb v) (put env v x) (at_ h) (tab h)
def aby{at_:Nat->List Nat}{tab:jZ}{hl:List Nat}{fx:Nat->Option aM}{sb:Nat->Bool}{env:Nat->aM}{v:Nat}:(gZ at_ tab hl fx sb env v).Pairwise rI:=x7 x8 (Hw _)
structure yV(at_:Nat->List Nat)(tab:jZ)(hl:List Nat):Prop where
 nd:∀h∈hl,(at_ h).Nodup
 len:∀h∈hl,∀y∈tab h,y.1.length=(at_ h).length
 ap:∀h∈hl,(tab h).Pairwise fun y z=>y.1≠z.1
section
variable{at_:Nat->List Nat}{tab:jZ}{hl:List Nat}{fx:Nat->Option aM}{sb:Nat->Bool}{env:Nat->aM}{v:Nat}
theorem yB:a∈f6 at_ hl v↔a∈hl/\v∈at_ a:=by unfold f6;rw[fp,nN]
theorem adc{v:Nat}(h:v∈i):i[i.idxOf v]? =some v:=by have a:=PO h;rw[aX a,YV]
theorem Mm(B:yV at_ tab hl)(o:sb v=false)(r:f6 at_ hl v≠ []){x:aM}:
 x∈gZ at_ tab hl fx sb env v↔cL fx v x=true/\∀h∈f6 at_ hl v,rD (cQ sb v) (put env v x) (at_ h) (tab h)=true:=by
 unfold gZ;rw[fp,yF,sP];unfold wm;rcases w:f6 at_ hl v with _|⟨f,l⟩
 ·exact absurd w r
 ·obtain⟨G,u⟩:=yB.1 (show f∈f6 at_ hl v by rw[w];simp);simp only;rw[dU];constructor
  ·rintro⟨⟨y,k,rfl⟩,m⟩;obtain⟨c,A⟩:=fp.1 k;rw[cZ] at A;exact⟨A.2,m⟩
  ·rintro⟨H,m⟩;refine⟨?_,m⟩;obtain⟨y,k,j⟩:=o9.1 (m f Ou);have F:=adc u;have D:=B.len f G y k;have E:=PO u;have g:y.1[(at_ f).idxOf v]? =some (y.1[(at_ f).idxOf v]'Om):=aX Om;have b:uD (at_ f) v y.1=x:=by have c:=vU.1 j _ _ _ F g (by simp [cQ]);unfold put at c;rw[if_pos rfl] at c;unfold uD;rw[fh,g,c];rfl
   refine⟨y,fp.2 ⟨k,?_⟩,b⟩;rw[cZ,b];refine⟨vU.2 fun i a z s C q=> ?_,H⟩;have t:a≠v:=fun e=>by rw[e,o] at q;cases q
   have c:=vU.1 j i a z s C (by simp [cQ,q]);unfold put at c;rwa[if_neg t] at c
theorem anh(A:yV at_ tab hl)(D:a∈hl)(F:∀c∈at_ a,sb c=true)(hit:rD sb env (at_ a) (tab a)=true){α:Type}(R:SR α)(E:Int->α):
 ∃y,y∈tab a/\(tab a).filter (fun y=>dV sb env (at_ a) y.1)= [y]/\fC R at_ tab E a env=E y.2:=by
 obtain⟨y,o,w⟩:=o9.1 hit;have u:=(abG (A.len a D y o) F).1 w;have m:=A.ap a D;have g:=A.len a D;have hF:Func (tab a):=fun c M b L x=>by
  rcases iQ M with⟨i,H,rfl⟩;rcases iQ L with⟨j,G,rfl⟩;rcases P7 i j with k|k|k
  ·exact absurd x (pT.1 m i j H G k)
  ·subst k;rfl
  ·exact absurd x.symm (pT.1 m j i G H k)
 refine⟨y,o,?_,?_⟩
 ·have f:∀z∈tab a,dV sb env (at_ a) z.1=true->z=y:=fun z r B=>hF z r y o (((abG (g z r) F).1 B).trans u.symm);revert m g f o;generalize tab a=t;intro o m g f;induction t with
  |nil=>cases o
  |cons z l K=>
   obtain⟨J,I⟩:=mP.1 m;by_cases r:dV sb env (at_ a) z.1=true
   ·have e:=f z Ou r;subst e;rw[List.filter_cons_of_pos (p:=fun y:List aM×Int=>dV sb env (at_ a) y.1) r,YL.2 fun q s C=>J q s (by rw[f q aw1 C])]
   ·rw[List.filter_cons_of_neg (p:=fun y:List aM×Int=>dV sb env (at_ a) y.1) r];rcases aJ.1 o with rfl|o
    ·exact absurd w r
    ·exact K o I (fun q s=>g q aw1) (fun q s=>f q aw1)
 ·unfold fC;rw[(ah3 hF).2 ⟨o,u⟩]
end
end Go.Proofs.YtadbchhdjbghkaaGreatDoor
