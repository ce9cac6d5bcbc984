/- Texts of the proof, part 17. -/
import Derived.Test.YtehkcnbodcdijaaGreatDoorA16
namespace Go.Proofs.YtehkcnbodcdijaaGreatDoor
set_option maxHeartbeats 8000000
set_option linter.all false
set_option maxRecDepth 100000
variable{ar:Prop}
open Go.RowKit Go.Lib Go.Maps Go.ChangeShapes Go.WideShapes Go.ChangeAt Go.Proofs.Tryz
variable{a b c d e f g h:Nat}{i j k l:List Nat}{m n o:World}{p q r s:Value}{t u v:List Value}{w x:TypeId}{y z:Nat→Option Nat}{A:Nat→List Nat}{B C:Int}{E F:Option Addr}{H I:Rat}{J:Nat→Nat}{K:Nat→Bool}{L:List Int}{N:Array Bool}{O:Option Nat}{Q:Act}{R S:Bool}{T:List UInt8}
section
variable{α:Type}
def vT(R:SR α)(x:aP)(T:List (List Rw))(p:Nat->Option Nat)(homes:Nat->List Nat)(g:Nat->aH->α)(wt:Int->α)(U:List aH)(v:Nat)(e:Nat->aH):α:=(eV x.ai.length p homes v).val R U g (fH R (bu x) (bL T) wt) e
def hW(R:SR α)(x:aP)(T:List (List Rw))(wt:Int->α)(h:Nat)(e:Nat->aH):α:=fH R (bu x) (bL T) wt h e
def bT(R:SR α)(x:aP)(T:List (List Rw))(p:Nat->Option Nat)(homes:Nat->List Nat)(g:Nat->aH->α)(wt:Int->α)(U:List aH)(v:Nat)(t:aH)(e:Nat->aH):α:=
 R.mul (R.mul (g v t) (R.prod (homes v) fun h=>hW R x T wt h (put e v t))) (R.prod (kids x.ai.length p (some v)) fun c=>vT R x T p homes g wt U c (put e v t))
structure Wk(R:SR α)(G:Nat->Nat->α->Prop)(wt:Int->α)(g:Nat->aH->α)(fx:Nat->Option aH)(U:List aH)(x:aP)(T:List (List Rw))(p:Nat->Option Nat)(d:Nat->Nat)(homes:Nat->List Nat):Prop where
 gr:xQ R G
 r:dr x.ai.length p d
 sc:bV x
 tb:zF (bu x) (bL T) (bM x)
 hg:∀v t,cH fx v t=false->g v t=R.zero
 un:U.Nodup
 hU:∀h∈bM x,∀y∈bL T h,∀t∈y.1,t∈U
 gg:∀v t,v<x.ai.length->t∈U->G 1 1 (g v t)
 hw:∀h∈bM x,∀y∈bL T h,G 1 1 (wt y.2)
 hK:∀h∈bM x,(bL T h).length<=60
 whole:(et x.ai.length p homes x.ai.length none).Ok (bu x) (bM x) []
 hh:∀v h,h∈homes v->h∈bM x
 nd:∀v,(homes v).Nodup
 ap:∀v w h,h∈homes v->h∈homes w->v=w
variable{R:SR α}{G:Nat->Nat->α->Prop}{wt:Int->α}{g:Nat->aH->α}{fx:Nat->Option aH}{U:List aH}{x:aP}{T:List (List Rw)}{p:Nat->Option Nat}{d:Nat->Nat}{homes:Nat->List Nat}{v:Nat}{e:Nat->aH}{t:aH}
theorem Jf{p:Nat->Option Nat}{v:Nat}(h:p v=none):bH p v a=false:=by
 cases f:bH p v a with
 |false=>rfl
 |true=>
  rcases(rS.1 f).inv with c|⟨b,c,_⟩
  ·rw[h] at c;cases c
  ·rw[h] at c;cases c
theorem apc(j:∀f,f∈i↔bH p a f=true)(h:p b=some a)(f:Nat):f∈a::i↔bH p b f=true:=by rw[aK,j f,zv h,kF];unfold VS.one;rw[beq_iff_eq];exact Or.comm
theorem xB(f:p a=some v):cW (bH p v) v=bH p a:=by rw[zv f];funext b;unfold cW VS.one;exact Bool.or_comm _ _
theorem Wk.DL(k:Wk R G wt g fx U x T p d homes):∀(m v:Nat),v<x.ai->d v<=m->∃S,(eV x.ai p homes v).Ok (bu x) (bM x) S/\∀a,a∈S↔bH p v a=true
 |m,v,f,l=>by
  cases c:p v with
  |none=>exact⟨[],aaH k.r k.whole v (ig.2 ⟨f,c⟩),fun a=>by rw[Jf c];simp⟩
  |some b=>
   obtain⟨j,n⟩:=k.r.up v b f c;match m with
   |0=>omega
   |m+1=>obtain⟨S,i,h⟩:=k.DL m b j Om;exact⟨b::S,Sp k.r i v (ig.2 ⟨f,c⟩),apc h c⟩
theorem Wk.ne(k:Wk R G wt g fx U x T p d homes):∀v,v<x.ai.length->gm (bu x) (bM x) v≠ []:=fun _ a=>apz k.sc a
theorem Wk.step(k:Wk R G wt g fx U x T p d homes)(a:v<x.ai)(e:Nat->aH):vT R x T p homes g wt U v e=R.sum (io (bu x) (bL T) (bM x) fx (bH p v) e v) fun t=>bT R x T p homes g wt U v t e:=by obtain⟨S,c,b⟩:=k.DL (d v) v a (aL _);exact abC k.r k.tb k.hg k.un k.hU k.ne a c b e
theorem Wk.Oj(k:Wk R G wt g fx U x T p d homes)(a:v<x.ai)(e:Nat->aH):G (dT x.ai p homes v) (60^nT x.ai p homes v) (vT R x T p homes g wt U v e):=by obtain⟨S,c,b⟩:=k.DL (d v) v a (aL _);exact aaI k.gr k.r k.tb k.hg k.un k.hU k.ne k.gg k.hw k.hh k.hK (x.ai - d v) v S e a Om c b
theorem Wk.Wi(k:Wk R G wt g fx U x T p d homes)(a:v<x.ai.length)(c:t∈io (bu x) (bL T) (bM x) fx (bH p v) e v):t∈U:=by obtain⟨S,f,b⟩:=k.DL (d v) v a (aL _);exact(Nd k.r a k.tb k.hg k.hU (k.ne v a) b e).2.1 t c
theorem Wk.home(k:Wk R G wt g fx U x T p d homes)(c:v<x.ai.length)(n:t∈io (bu x) (bL T) (bM x) fx (bH p v) e v)(hh:a∈homes v):
 a<x.ay.length/\∃y,y∈bL T a/\(bL T a).filter (fun y=>eh (cW (bH p v) v) (put e v t) (bu x a) y.1)= [y]/\hW R x T wt a (put e v t)=wt y.2:=by
 obtain⟨S,m,l⟩:=k.DL (d v) v c (aL _);have i:=k.hh v a hh;have f:bH p v v=false:=by
  cases a:bH p v v with
  |false=>rfl
  |true=>have:=(rS.1 a).l8 k.r v rfl c;omega
 have j:=m.1 a hh;have hit:=((Nf k.tb f (k.ne v c)).1 n).2 a (zh.2 ⟨i,j.1⟩);refine⟨j6.1 i,aoH k.tb i (fun b o=> ?_) hit R wt⟩;unfold cW;rw[kF,beq_iff_eq,<-l b];rcases j.2 b o with a|a
 ·exact .inl a
 ·exact .inr a
theorem Wk.aeU(k:Wk R G wt g fx U x T p d homes)(b:v<x.ai)(c:t∈U)(e:Nat->aH)(i:Nat):G (1+i) 1 (R.mul (g v t) (R.prod ((homes v).take i) fun h=>hW R x T wt h e)):=by have a:=k.gr.prod (K:=60) (s:=fun _=>1) (e:=fun _=>0) (l:=(homes v).take i) (f:=fun h=>hW R x T wt h e) fun h hh=>abv k.gr k.hw (k.hh v h (nJ hh)) _;rw[RT,RU] at a;refine k.gr.mono (k.gr.mul (k.gg v t b c) a) ?_ Ou;rw[cO];omega
theorem Fq{f:Nat->Nat}(l:List Nat)(i:Nat):((l.take i).map f).sum<=(l.map f).sum:=by have h:=congrArg (fun l=>(l.map f).sum) (tH i l);simp only[kE,ZZ] at h;omega
theorem Wk.aff(k:Wk R G wt g fx U x T p d homes)(m:v<x.ai)(n:t∈U)(e:Nat->aH)(i:Nat):
 G (1+(homes v)+(((kids x.ai p (some v)).take i).map (dT x.ai p homes)).sum) (60^(((kids x.ai p (some v)).take i).map (nT x.ai p homes)).sum)
  (R.mul (R.mul (g v t) (R.prod (homes v) fun h=>hW R x T wt h e)) (R.prod ((kids x.ai p (some v)).take i) fun c=>vT R x T p homes g wt U c e)):=by
 have a:=k.aeU m n e (homes v);rw[fB] at a;have j:=k.gr.prod (K:=60) (s:=dT x.ai p homes) (e:=nT x.ai p homes) (l:=(kids x.ai p (some v)).take i) (f:=fun c=>vT R x T p homes g wt U c e) fun c o=>k.Oj (ig.1 (nJ o)).1 e;have b:=k.gr.mul a j;rwa[lX] at b
theorem Wk.JC(k:Wk R G wt g fx U x T p d homes)(i:Nat):1+(homes v)+(((kids x.ai p (some v)).take i).map (dT x.ai p homes)).sum<=dT x.ai p homes v/\(((kids x.ai p (some v)).take i).map (nT x.ai p homes)).sum+1<=nT x.ai p homes v:=by have b:=Fq (f:=dT x.ai p homes) (kids x.ai p (some v)) i;have a:=Fq (f:=nT x.ai p homes) (kids x.ai p (some v)) i;rw[aep k.r v,TY k.r v];omega
theorem Fh(f:i.Nodup)(c:∀b∈i,b<a):i<=a:=by have h:=f.length_le_of_subset fun b j=>dL.2 (c b j);rwa[i7] at h
theorem Wk.KU(k:Wk R G wt g fx U x T p d homes)(c:v<x.ai.length):nT x.ai.length p homes v<=x.ai.length/\dT x.ai.length p homes v<=x.ai.length+x.ay.length:=by
 have i:=ML (homes:=homes) k.r c;have l:nT x.ai.length p homes v<=x.ai.length:=Fh i fun a f=>by
  rcases(MS k.r c).1 f with rfl|h
  ·exact c
  ·exact h.1
 have b:(eV x.ai.length p homes v).By homes:=⟨rfl,ze _ _,trivial⟩;have m:hT x.ai.length p homes v<=x.ay.length:=Fh (RR k.nd k.ap b i) fun a f=>by obtain⟨w,_,j⟩:=(b.mem a).1 f;exact j6.1 (k.hh w a j)
 exact⟨l,by unfold dT;omega⟩
theorem Wk.aer(k:Wk R G wt g fx U x T p d homes)(b:v<x.ai)(c:t∈U)(e:Nat->aH):G (dT x.ai p homes v) (60^(nT x.ai p homes v - 1)) (bT R x T p homes g wt U v t e):=by have h:=k.aff b c (put e v t) (kids x.ai p (some v));have a:=k.JC (v:=v) (kids x.ai p (some v));rw[fB] at h a;exact k.gr.mono h a.1 (fK Od Om)
theorem Wk.arZ(k:Wk R G wt g fx U x T p d homes)(a:v<x.ai){l:List aH}(c:∀t∈l,t∈U)(e:Nat->aH)(i:Nat):G (dT x.ai p homes v) (i*60^(nT x.ai p homes v - 1)) (R.sum (l.take i) fun t=>bT R x T p homes g wt U v t e):=
 k.gr.mono (k.gr.sum fun t b=>k.aer a (c t (nJ b)) e) (aL _) (eK _ axw)
theorem Wk.ar0(k:Wk R G wt g fx U x T p d homes)(b:v<x.ai)(h:x.ai.length<=12)(j:a<60):a*60^(nT x.ai p homes v - 1)+60^(nT x.ai p homes v - 1)<=lh:=by
 have o:=(k.KU b).1;have n:=(k.JC (v:=v) 0).2;have f:(60:Nat)^(nT x.ai p homes v - 1)<=60^11:=fK Od Om;have m:a*60^(nT x.ai p homes v - 1)<=59*60^11:=wV Om f;have c:lh=60^12:=rfl;rw[c];have l:(60:Nat)^12=60^11*60:=show(60:Nat)^(11+1)=_ from eA 60 11
 omega
theorem Wk.UR(k:Wk R G wt g fx U x T p d homes)(a:v<x.ai)(b:x.ai.length<=12){i:Nat}(c:i<=nT x.ai p homes v):60^i<=lh:=by have f:=(k.KU a).1;exact fK Od Om
theorem Wk.arz(k:Wk R G wt g fx U x T p d homes)(b:v<x.ai.length)(r:t∈U)(e:Nat->aH)(a:x.ai.length<=12)(z:x.ay.length<=6)(i:Nat):
 (∃s j,s<=40/\j<=lh/\G s j (R.mul (R.mul (g v t) (R.prod (homes v) fun h=>hW R x T wt h e)) (R.prod ((kids x.ai.length p (some v)).take i) fun c=>vT R x T p homes g wt U c e)))/\
 ∀f:i<(kids x.ai.length p (some v)).length,∃s j l m,s+l<=40/\j<=lh/\m<=lh/\G s j (R.mul (R.mul (g v t) (R.prod (homes v) fun h=>hW R x T wt h e)) (R.prod ((kids x.ai.length p (some v)).take i) fun c=>vT R x T p homes g wt U c e))/\G l m (vT R x T p homes g wt U (kids x.ai.length p (some v))[i] e):=by
 have q:=k.aff b r e i;have B:=k.JC (v:=v) i;have A:=(k.KU b).2;have o:=k.UR b a (i:=(((kids x.ai.length p (some v)).take i).map (nT x.ai.length p homes)).sum) Om;refine⟨⟨_,_,by omega,o,q⟩,fun f=> ?_⟩;have n:=(ig.1 (a8 f)).1;have y:=k.Oj n e;have w:=k.UR n a (aL _);have u:=(k.JC (v:=v) (i+1)).1;rw[fR f,kE,ZZ,Il,List.sum_singleton] at u;exact⟨_,_,_,_,by omega,o,w,q,y⟩
theorem SR.Tk{β:Type}{f:β->α}:∀(l m:List β),R.prod (l++m) f=R.mul (R.prod l f) (R.prod m f)
 | [],m=>(R.mo _).symm
 |a::l,m=>by rw[nK,kY,kY,SR.Tk l m,R.ma]
theorem SR.abT{β:Type}{f:β->α}(l:List β)(a:β):R.prod (l++ [a]) f=R.mul (R.prod l f) (f a):=by rw[SR.Tk,kY];congr 1;exact SR.zV _
theorem SR.ad1{β:Type}{f:β->α}:∀(l m:List β),R.sum (l++m) f=R.add (R.sum l f) (R.sum m f)
 | [],m=>(R.az _).symm
 |a::l,m=>by rw[nK,iQ,iQ,SR.ad1 l m,R.aa]
theorem SR.ans{β:Type}{f:β->α}(l:List β)(a:β):R.sum (l++ [a]) f=R.add (R.sum l f) (f a):=by rw[SR.ad1,iQ];congr 1;rw[R.ac];exact R.az _
theorem SR.abS{β:Type}{f:β->α}{l:List β}(h:a<l)(b:α):R.mul b (R.prod (l.take (a+1)) f)=R.mul (R.mul b (R.prod (l.take a) f)) (f l[a]):=by rw[fR h,SR.abT,R.ma]
theorem SR.Fq{β:Type}{f:β->α}{l:List β}(h:a<l):R.sum (l.take (a+1)) f=R.add (R.sum (l.take a) f) (f l[a]):=by rw[fR h,SR.ans]
theorem SR.alR{β:Type}{f:β->α}{l:List β}{i:Nat}{b:α}(h:R.mul b (R.prod (l.take i) f)=R.zero):R.mul b (R.prod l f)=R.zero:=by
 have e:R.prod l f=R.mul (R.prod (l.take i) f) (R.prod (l.drop i) f):=by rw[<-SR.Tk,tH]
 rw[e,<-R.ma,h,R.mz]
end
def ad8{β:Type}{q:β->Bool}{y:β}:∀{l:List β},l.filter q= [y]->∀{i:Nat} (m:i<l.length),q l[i]=true->l[i]=y/\(l.take i).any q=false
 |a::l,h,i,m,c=>by
  by_cases b:q a=true
  ·rw[List.filter_cons_of_pos b] at h;injection h with j f;match i with
   |0=>exact⟨j,rfl⟩
   |i+1=>have k:=eE.2 ⟨a8 _,by simpa using c⟩;rw[f] at k;cases k
  ·rw[List.filter_cons_of_neg b] at h;match i with
   |0=>exact absurd axv b
   |i+1=>obtain⟨j,f⟩:=ad8 h (by simpa using m) axv;refine⟨by simpa using j,?_⟩;rw[QZ,Ri,f,w_];simpa using b
def aew{β:Type}{q:β->Bool}{y:β}{l:List β}(h:l.filter q= [y]):l.any q=true:=by
 have a:y∈l.filter q:=by rw[h];simp
 exact mU.2 ⟨y,eE.1 a⟩
def apb{β:Type}{q:β->Bool}{l:List β}(b:a<l):(l.take (a+1)).any q=((l.take a).any q||q l[a]):=by rw[fR b,Rc,Ri,Rv,w_]
def RM{c:fG}{fx:Nat->Option aH}{e e':Nat->aH}{v:Nat}(h:∀a,K a=true->e a=e' a):io A c i fx K e v=io A c i fx K e' v:=by
 have j:xI A c i fx K e v=xI A c i fx K e' v:=by
  unfold xI;rcases gm A i v with _|⟨q,l⟩
  ·rfl
  ·simp only;congr 1;refine EQ fun y _=> ?_;rw[Sh (OT:=K) (OE:=e') fun a _=>⟨rfl,h a⟩]
 unfold io;rw[j];refine EQ fun t _=> ?_;congr 1;funext q;unfold sw;congr 1;funext y;refine Sh fun a _=>⟨rfl,fun f=> ?_⟩;unfold put;by_cases b:a=v
 ·rw[if_pos b,if_pos b]
 ·rw[if_neg b,if_neg b];refine h a ?_;unfold cW at f;rw[kF,beq_iff_eq] at f;exact f.resolve_left b
def amT(b:Nat)(w:au)(d:aA w b 0 (.pointer none))(Ww:w.shape? b=some (tB,2))(c:w.frozen? (aD b 0)=false):
 Calls prog 193 #[aI b 0] w fun e a=>e= .returned (.tuple #[])/\a=w.setCell (aD b 0) (aI b 0):=by
 exact m36
def acw(B b:Nat)(c:List Value)(w:au)(h:Lib.IsBuilder tB t8 B b c w):
 Calls prog 193 #[aI b 0] w fun e a=>e= .returned (.tuple #[])/\(Lib.BuilderAt tB t8 B b (aI b 0) c a/\Below B w a):=by
 rcases h with h|h
 ·refine(amT b w h.cell0 h.shape h.frozen0).mono ?_;rintro e a ⟨rfl,rfl⟩;exact⟨rfl,h.used _,(xe B w).setCell h.1 _⟩
 ·refine(Z3 b w h.cell0).mono ?_;rintro e a ⟨rfl,rfl⟩;exact⟨rfl,h,xe B _⟩
def acL(B b:Nat)(bs:List Value)(s:ByteArray)(w:au)(h:Lib.IsBuilder tB t8 B b bs w)(c:bs.length+s.size<=140737488355328)(d:B<=w.heap.size):
 Calls prog 116 #[aI b 0,.string s] w fun e a=>e= .returned (.tuple #[av s.size,.nilIface])/\(Lib.BuilderAt tB t8 B b (aI b 0) (bs++Lib.strCells s) a/\Below B w a):=by
 obtain⟨i0,hi,hz0,hz1,hz2⟩:=info_parts Tryz.BH.infoByte;go_enter func116,ntmps116;go_wp2_with (go_at_call 193;refine(acw B b bs _ h).mono ?_);exact m21
def ak2:j7 prog 199 t8 1 1:= .mk' (z:= .int .u8 0) Ok Ok rfl Od Od
def ale(B b:Nat)(n:List Value)(c:Int)(w:au)(h:Lib.IsBuilder tB t8 B b n w)(A:n.length+1<=140737488355328)(G:B<=w.heap.size):
 Calls prog 276 #[aI b 0,.int .u8 c] w fun e y=>e= .returned .nilIface/\(Lib.BuilderAt tB t8 B b (aI b 0) (n++ [.int .u8 c]) y/\Below B w y):=by
 go_enter func276,ntmps276;go_wp2_with (go_at_call 193;refine(acw B b n _ h).mono ?_);rintro e o ⟨rfl,H,l⟩;obtain⟨C,v,f,j,s⟩:=H;have K:o.cell? (aD b 0)=some (aI b 0):=by rw[Ca f];rfl
 have J:o.cell? (aD b 1)=some v:=by rw[Ca f];rfl
 have u:(n.length+1)*1<=140737488355328:=Om;have q:B<=o.heap.size:=by have:=l.size;omega
 go_wp2_with (at_builtin;refine gf rfl _ _ 199 rfl B ak2 _ _ _ rfl j #[.int .u8 c] 1 1 rfl rfl rfl u q ?_)
 intro E p a d _;have t:b<o.heap.size:=by
  rcases cA b o.heap.size with x|x
  ·exact x
  ·simp [wQ x] at f
 have i:p.heap[b]? =some (.cells #[aI b 0,v] tB (0,0)):=(by rw[d.block b t (fun e=>s e.symm)];exact f);have d0:p.cell? (aD b 0)=some (aI b 0):=by rw[Ca i];rfl
 have d1:p.cell? (aD b 1)=some v:=by rw[Ca i];rfl
 have f1:=Lib.frozen_of_heap i 1;obtain⟨D,z,m,rfl⟩:∃D z m,E= .slice D z m:=by
  rcases a.2 with⟨r,_⟩|⟨g,m,I,r,_⟩
  ·exact⟨_,_,_,r⟩
  ·exact⟨_,_,_,r⟩
 go_wp2;go_ret;refine⟨rfl,?_,?_⟩
 ·exact Lib.BuilderAt.put C i (bs':=n++ [.int .u8 c]) axB Od
 ·exact(l.grown d (by have:=l.size;omega) (fun k F=>(j.lt k F).1)).setCell C _
def Dv(x:aP)(T:List (List Rw))(v:Nat)(t:aC):Prop:=∃h∈bM x,v∈bu x h/\∃y∈bL T h,nY (bu x h) v y.1=t
def adR{x:aP}{T:List (List Rw)}{i:Nat->Option aC}{c:Nat->aC}{v:Nat}{t:aC}(h:t∈io (bu x) (bL T) (bM x) i K c v):Dv x T v t:=by
 unfold io at h;have b:=zm.1 (eE.1 h).1;unfold xI at b;split at b
 ·cases b
 ·rename_i d l g;obtain⟨y,f,e⟩:=b_.1 b;have a:d∈gm (bu x) (bM x) v:=by rw[g];exact eH
  unfold gm at a;rw[eE,oF] at a;exact⟨d,a.1,a.2,y,(eE.1 f).1,e⟩
structure Pw(α:Type) where
 R:SR α
 V:World->Value->α->Prop
 G:Nat->Nat->α->Prop
 wt:Int->α
 xV:α->Bool
 fa:FuncId
 fm:FuncId
 fz:FuncId
 fw:FuncId
 fl:FuncId
 g:Nat->aC->α
 fx:Nat->Option aC
 fv:Value
 U:List aC
 x:aP
 T:List (List Rw)
 p:Nat->Option Nat
 d:Nat->Nat
 homes:Nat->List Nat
 key:Nat->List Nat
 ch:List (List Nat)
 ks:List (List Nat)
 hs:List (List Nat)
 wl:List Nat
 w0:World
 w1:World
 cs:List Value
 tX:TypeId
 xb:Nat
 jb:Nat
 nb:Nat
 sb:Nat
 kb:Nat
section
variable{α:Type}
abbrev Pw.dB(D:Pw α):Nat:=D.x.ai.length
abbrev Pw.vT(D:Pw α)(v:Nat)(e:Nat->aC):α:=Go.Proofs.YtehkcnbodcdijaaGreatDoor.vT D.R D.x D.T D.p D.homes D.g D.wt D.U v e
abbrev Pw.bT(D:Pw α)(v:Nat)(t:aC)(e:Nat->aC):α:=Go.Proofs.YtehkcnbodcdijaaGreatDoor.bT D.R D.x D.T D.p D.homes D.g D.wt D.U v t e
noncomputable abbrev Pw.sB(D:Pw α)(v:Nat)(e:Nat->aC):List aC:=io (bu D.x) (bL D.T) (bM D.x) D.fx (bH D.p v) e v
structure ce(D:Pw α)(oN oS:Nat)(cur:Nat->aC)(on:Nat->Bool)(w:au):Prop where
 st:eF oN oS D.tX D.cs D.w0 w D.xb D.jb D.nb D.sb D.x D.T cur on
 mem:lM D.V D.dB D.key D.U D.vT w D.kb
 k1:Kept cK D.w1 w
 k2:Kept aS D.w1 w
structure iI(D:Pw α)(oA:Nat)(lc:Array Value):Prop where
 ring:GX D.R D.V D.G D.wt D.xV D.fa D.fm D.fz D.fw
 wk:Wk D.R D.G D.wt D.g D.fx D.U D.x D.T D.p D.d D.homes
 pl:PY D.w1 D.cs D.dB D.ch D.ks D.hs D.wl
 ch:∀v,v<D.dB->D.ch[v]? =some (kids D.dB D.p (some v))
 cr:D.ch[D.dB]? =some (kids D.dB D.p none)
 hs:∀v,v<D.dB->D.hs[v]? =some (D.homes v)
 ks:∀v,v<D.dB->D.ks[v]? =some (D.key v)
 ka:∀v,v<D.dB->∀a∈D.key v,bH D.p v a=true/\a<D.dB
 kl:∀v,v<D.dB->(D.key v).length<=5
 kv:∀v,v<D.dB->∀e e',(∀a∈D.key v,e' a=e a)->D.vT v e'=D.vT v e
 ca:D.cs[oA]? =some (.func (.func D.fa) #[] #[])
 cm:D.cs[oA+1]? =some (.func (.func D.fm) #[] #[])
 cz:D.cs[oA+2]? =some (.func (.func D.fz) #[] #[])
 cl:D.cs[oA+3]? =some (.func (.func D.fl) #[] lc)
 cw:D.cs[oA+4]? =some (.func (.func D.fw) #[] #[])
 cf:D.cs[oA+5]? =some D.fv
 ck:D.cs[oA+8]? =some (.map (some D.kb))
 kw:D.w0.heap.size<=D.kb
 kx:D.xb≠D.kb
 kn:D.nb≠D.kb
 Wd:D.sb≠D.kb
 il:∀args w,(callFunc D.fl args).run prog w= .ok (.enter D.fl args) w
 lift:∀w,Ext D.w0 w->∀v t,v<D.dB->Dv D.x D.T v t->cH D.fx v t=true->Calls prog D.fl (#[av v,aM t]++lc) w fun e w'=>∃u,e= .returned u/\D.V w' u (D.g v t)/\Ext w w'
 Vn:uQ D.w0 D.fv D.fx
 r6:D.x.ay.length<=6
 a12:D.dB<=12
 tl:∀l∈D.T,l.length<=60
 wb:∀h∈bM D.x,∀y∈bL D.T h,1<=y.2/\y.2<=1000000
 u0:∀t∈D.U,(0:UInt8)∉t/\t.length<=1000
 u1:1<=D.U.length
 um:D.dB*D.U.length^5<maxLen
def GW(D:Pw α)(oN oS:Nat)(f:FuncId)(v:Nat):Prop:=∀(cur:Nat->aC) (w:au),ce D oN oS cur (bH D.p v) w->(∀a,bH D.p v a=true->cur a∈D.U)->
 Calls prog f #[aI D.xb 0,av v] w fun e w'=>∃u cur',e= .returned u/\D.V w' u (D.vT v cur)/\ce D oN oS cur' (bH D.p v) w'/\(∀a,bH D.p v a=true->cur' a=cur a)/\aZ [D.nb,D.sb,D.kb] w w'
def L3(D:Pw α)(oN oS:Nat)(f:FuncId)(v:Nat):Prop:=∀(t:aC) (cur:Nat->aC) (w:au),ce D oN oS cur (bH D.p v) w->(∀a,bH D.p v a=true->cur a∈D.U)->t∈D.sB v cur->
 Calls prog f #[aI D.xb 0,av v,aM t] w fun e w'=>∃u cur',e= .returned u/\D.V w' u (D.bT v t cur)/\ce D oN oS cur' (bH D.p v) w'/\(∀a,bH D.p v a=true->cur' a=cur a)/\aZ [D.nb,D.sb,D.kb] w w'
variable{D:Pw α}{oN oS oA v:Nat}{lc:Array Value}{cur cur':Nat->aC}{on J9:Nat->Bool}{w w':au}
theorem dt.same{f:Lit->Option Value}(h:dt w x a b f)(e:w'.heap[a]? =w.heap[a]?):dt w' x a b f:=by obtain⟨D,⟨i,c,d,F⟩,g⟩:=h;exact⟨D,⟨i,c,e.trans d,F⟩,g⟩
theorem lM.same{V:World->Value->α->Prop}{U:List aC}{val:Nat->(Nat->aC)->α}(h:lM V a A U val w b)(e:w'.heap[b]? =w.heap[b]?)(j:∀{u c},V w u c->V w' u c):lM V a A U val w' b:=by obtain⟨m,f,g,i⟩:=h;refine⟨m,f,g.same e,fun l u d=> ?_⟩;obtain⟨v,e,q,p,o,k⟩:=i l u d;exact⟨v,e,q,p,o,j k⟩
theorem lM.lt{V:World->Value->α->Prop}{n:Nat}{U:List aC}{val:Nat->(Nat->aC)->α}(h:lM V n A U val w a):a<w.heap.size:=by obtain⟨_,_,b,_⟩:=h;exact b.lt
theorem lM.art{V:World->Value->α->Prop}{U:List aC}{val:Nat->(Nat->aC)->α}(h:lM V a A U val w b){cur:Array Value}{f:Nat×Nat}(c:w.heap[b]? =some (.cells cur x f)):False:=by obtain⟨_,_,⟨D,⟨g,d,e,_⟩,_⟩,_⟩:=h;rw[e] at c;injection c with c;cases c
theorem ce.drew(h:ce D oN oS cur on w)(a:iI D oA lc):ce D oN oS cur on w.drew:=⟨h.st.drew,h.mem.same rfl fun b=>a.ring.vk b (jp _ _).drew,h.k1.drew,h.k2.drew⟩
theorem ce.fL(h:ce D oN oS cur on w)(a:iI D oA lc)(k:Ext w w'):ce D oN oS cur on w':=⟨h.st.ext k,h.mem.same (k.block _ h.mem.lt) fun b=>a.ring.vk b (.jN k),h.k1.trans (.jN k),h.k2.trans (.jN k)⟩
theorem ce.past(h:ce D oN oS cur on w)(c:iI D oA lc)(k:Only g w w')(b:aq w g x t)(a:x≠qL/\x≠cK/\x≠aS)(e:D.w0.heap.size<=g)(m:g≠D.xb)(j:g≠D.nb)(i:g≠D.sb)(f:g≠D.kb):ce D oN oS cur on w':=
 ⟨h.st.past k e m j i,h.mem.same (k.block _ h.mem.lt (by simpa using gU f)) fun d=>c.ring.vk d (k.kept b a.1),h.k1.trans (k.kept b a.2.1),h.k2.trans (k.kept b a.2.2)⟩
theorem ce.arB(h:ce D oN oS cur on w)(k:Only D.nb w w'):Kept qL w w':=k.kept h.st.nc Od
theorem ce.Uy(h:ce D oN oS cur on w)(k:Only D.sb w w'):Kept qL w w':=k.kept h.st.sc Od
theorem ce.Ox(h:ce D oN oS cur on w)(d:iI D oA lc){v:Nat}(c:v<D.dB)(t:aC):∃b,w.setCell (aD D.nb v) (aM t)=b/\ah (ce D oN oS (put cur v t) on b)/\ah (Only D.nb w b):=by obtain⟨b,e,f,a⟩:=h.st.Ox c t;exact⟨b,e,⟨f,h.mem.same (a.block _ h.mem.lt (by simpa using d.kn.symm)) fun c=>d.ring.vk c (h.arB a),h.k1.trans (vo a h.st.nc Od),h.k2.trans (vo a h.st.nc Od)⟩,a⟩
theorem ce.Dn(h:ce D oN oS cur on w)(g:iI D oA lc){v:Nat}(f:v<D.dB)(b:Bool):∃d,w.setCell (aD D.sb v) (.bool b)=d/\ah (ce D oN oS cur (fun a=>if a=v then b else on a) d)/\ah (Only D.sb w d):=by obtain⟨d,e,i,c⟩:=h.st.Dn f b;exact⟨d,e,⟨i,h.mem.same (c.block _ h.mem.lt (by simpa using g.Wd.symm)) fun f=>g.ring.vk f (h.Uy c),h.k1.trans (vo c h.st.sc Od),h.k2.trans (vo c h.st.sc Od)⟩,c⟩
theorem ce.vB(h:ce D oN oS cur on w)(k:aZ [D.nb,D.sb,D.kb] w w')(f:bC≠x)(e:fV≠x):Kept x w w':=fun g j i a=>by
 refine(k.block g (ie a) fun d=> ?_).trans a;simp only[aK,bJ,or_false] at d;have c:=h.st.nc;have b:=h.st.sc;unfold aq at c b;rcases d with rfl|rfl|rfl
 ·rw[c] at a;injection a with a;injection a with _ a;exact f a
 ·rw[b] at a;injection a with a;injection a with _ a;exact e a
 ·exact h.mem.art a
theorem ce.Og(h:ce D oN oS cur on w)(k:aZ [D.nb,D.sb,D.kb] w w'):Kept qL w w':=h.vB k Od Od
theorem ce.vC(h:ce D oN oS cur on w)(b:iI D oA lc)(k:aZ [D.nb,D.sb,D.kb] w w'){a:α}(c:D.V w p a):D.V w' p a:=b.ring.vk c (h.Og k)
theorem ce.sB(h:ce D oN oS cur on w)(b:iI D oA lc)(e:eF oN oS D.tX D.cs D.w0 w' D.xb D.jb D.nb D.sb D.x D.T cur' J9)(k:aZ [D.nb,D.sb] w w'):ce D oN oS cur' J9 w':=by
 have c:aZ [D.nb,D.sb,D.kb] w w':=k.mono fun i f _=>by simp only[aK,bJ,or_false] at f⊢;omega
 refine⟨e,h.mem.same (k.block _ h.mem.lt ?_) fun d=>h.vC b c d,h.k1.trans (h.vB c Od Od),h.k2.trans (h.vB c Od Od)⟩;simp only[aK,bJ,or_false];exact fun a=>by
  rcases a with a|a
  ·exact b.kn a.symm
  ·exact b.Wd a.symm
theorem ce.read(h:ce D oN oS cur on w)(r:iI D oA lc)(k:Below a w w')(o:OthersKept t8 (some b) w w')(m:aq w b tB [p,q])(E:D.w0.heap.size<=a)(C:D.xb<a)(A:D.nb<a)(z:D.sb<a)(y:D.kb<a):ce D oN oS cur on w'/\Kept qL w w':=by
 have f:∀t,t≠tB->t≠t8->Kept t w w':=fun t u s g H G d=>by
  refine o g _ d (fun e=> ?_) (fun c F e=> ?_)
  ·injection e with e;subst e;unfold aq at m;rw[m] at d;injection d with d;injection d with _ d;exact u d.symm
  ·injection e with _ e;exact s e
 have n:=f qL Od Od;have j:=h.st.ex;refine⟨⟨⟨h.st.ly,⟨k.os.trans j.os,k.tape.trans j.tape,k.output.trans j.output,aV j.size k.size,fun i l=>(k.block i (cy l E)).trans (j.block i l)⟩,h.st.nl,h.st.sl,h.st.ne,h.st.xn,h.st.xs,(k.block _ C).trans h.st.sx,h.st.c0,h.st.cN,h.st.cS,(k.block _ A).trans h.st.nc,(k.block _ z).trans h.st.sc⟩,h.mem.same (k.block _ y) fun x=>r.ring.vk x n,h.k1.trans (f _ Od Od),h.k2.trans (f _ Od Od)⟩,n⟩
theorem acO{on:Nat->Bool}{v:Nat}(h:cW on v a=true)(b:a≠v):on a=true:=by unfold cW at h;rw[kF,beq_iff_eq] at h;exact h.resolve_left b
theorem iI.aeX(g:iI D oA lc)(o:v<D.dB){t:aC}{e i:Nat->aC}(h:∀a,bH D.p v a=true->i a=e a):D.bT v t i=D.bT v t e:=by
 have k:∀a,cW (bH D.p v) v a=true->put i v t a=put e v t a:=fun a f=>by
  unfold put;by_cases b:a=v
  ·rw[if_pos b,if_pos b]
  ·rw[if_neg b,if_neg b];exact h a (acO f b)
 obtain⟨S,m,l⟩:=g.wk.DL (D.d v) v o (aL _);unfold Pw.bT Go.Proofs.YtehkcnbodcdijaaGreatDoor.bT;congr 1
 ·congr 1
  refine wZ fun q r=>IV q _ _ fun a f=>k a ?_;unfold cW;rw[kF,beq_iff_eq,<-l a];exact(m.1 q r).2 a f
 ·refine wZ fun c s=> ?_;obtain⟨j,n⟩:=ig.1 s;refine g.kv c j _ _ fun a f=>k a ?_;rw[xB n];exact(g.ka c j a f).1
theorem iI.self(a:iI D oA lc)(b:v<D.dB):bH D.p v v=false:=by
 cases h:bH D.p v v with
 |false=>rfl
 |true=>have:=(rS.1 h).l8 a.wk.r v rfl b;omega
theorem adr:∀{l:List aC},(∀t∈l,t.length<=1000)->(kf l).length<=1001*l.length
 | [],_=>aU _
 |t::l,h=>by have b:=adr (l:=l) fun s a=>h s axx;have c:=h t Ou;unfold kf at b⊢;rw[uV,bD,bD,gc,cT];omega
theorem amA(l:List aC)(t:aC):kf (l++ [t])=kf l++(t++ [0]):=by unfold kf;rw[EN,uV,ZP,j5]
theorem ank{on:Nat->Bool}{v:Nat}{cur:Nat->aC}{t:aC}{P:aC->Prop}(c:P t)(h:∀a,on a=true->P (cur a))(a:Nat)(d:cW on v a=true):P (put cur v t a):=by
 unfold put;by_cases b:a=v
 ·rw[if_pos b];exact c
 ·rw[if_neg b];exact h a (acO d b)
theorem aZ.below(h:aZ i m n)(k:Below m.heap.size n o):aZ i m o:=⟨k.os.trans h.os,k.tape.trans h.tape,k.output.trans h.output,aV h.size k.size,fun d e f=>(k.block d e).trans (h.block d e f)⟩
theorem ce.afK(h:ce D oN oS cur on w)(ok:iI D oA lc)(i:v<D.dB){z:TypeId}(l:prog.underlying x=some (.map bC z)){e:Nat->aC}(r:∀a∈D.key v,(0:UInt8)∉e a/\e a∈D.U){g:aC}(n:m_ v (D.key v) e=g)(q:g.length<=100000)(j:D.V w p (D.vT v e)):
 ∃w',(Instr.mapUpdate x (.map (some D.kb)) (aM g) p).run prog w= .ok () w'/\ah (ce D oN oS cur on w')/\ah (D.V w' p (D.vT v e))/\ah (Only D.kb w w'):=by
 subst n;have b:∀{w'} (x:TypeId),Only D.kb w w'->Kept x w w':=fun x c=>by obtain⟨m,f,o,_⟩:=h.mem;exact Sy o c x
 have k:∀{w'},Only D.kb w w'->Kept qL w w':=fun c=>b _ c;obtain⟨w',y,s,d⟩:=h.mem.put l ok.kl ok.u1 ok.um (fun i c=>ok.ring.vk i (k c)) i r q j;exact⟨w',y,⟨h.st.past d ok.kw ok.kx.symm ok.kn.symm ok.Wd.symm,s,h.k1.trans (b _ d),h.k2.trans (b _ d)⟩,ok.ring.vk j (k d),d⟩
theorem ce.look(h:ce D oN oS cur on w)(ok:iI D oA lc)(c:v<D.dB){d:TypeId}(j:prog.underlying x=some (.map bC d))(g:(zeroValue d).run prog w= .ok p w){e:Nat->aC}(q:∀a∈D.key v,(0:UInt8)∉e a/\e a∈D.U){b:aC}(k:m_ v (D.key v) e=b)(n:b.length<=100000):
 ∃r:Option Value,(Instr.lookup x (.map (some D.kb)) (aM b) true).run prog w= .ok (.tuple #[r.getD p,.bool r.isSome]) w/\∀u,r=some u->D.V w u (D.vT v e):=by
 subst k;obtain⟨m,f,l,o⟩:=h.mem;have y:=ok.a12;exact⟨_,l.look tQ j g (zx _ n),fun u i=>lM.hit o (show D.dB<=256 by omega) (ok.kv v c) c (fun a s=>(q a s).1) i⟩
theorem ce.lookW(h:ce D oN oS cur on w)(ok:iI D oA lc)(c:v<D.dB){d:TypeId}(j:prog.underlying x=some (.map bC d))(g:∀w,(zeroValue d).run prog w= .ok p w){e:Nat->aC}(q:∀a∈D.key v,(0:UInt8)∉e a/\e a∈D.U){b:aC}(k:m_ v (D.key v) e=b)(n:b.length<=100000):
 ∃r:Option Value,(∀W:World,W.heap[D.kb]? =w.heap[D.kb]?->(Instr.lookup x (.map (some D.kb)) (aM b) true).run prog W= .ok (.tuple #[r.getD p,.bool r.isSome]) W)/\∀u,r=some u->D.V w u (D.vT v e):=by
 subst k;obtain⟨m,f,l,o⟩:=h.mem;have y:=ok.a12;exact⟨_,fun W hW=>(l.same hW).look tQ j (g W) (zx _ n),fun u i=>lM.hit o (show D.dB<=256 by omega) (ok.kv v c) c (fun a s=>(q a s).1) i⟩
end
def dI.bX{S:List Nat}(h:dI m a H)(k:aZ S m n)(i:a∉S)(f:Kept qL m n):dI n a H:=by obtain⟨b,A,d,c,p,r,e,o,l,j⟩:=h;exact⟨b,A,d,c,p,r,e,o,l.bX k i,j.keep f⟩
def dI.drew(h:dI m a H):dI m.drew a H:=h.ext (aB m).drew
def rQ{h:Go.Func}{u0 u1 u2 u3:Value}{R:Ending->World->Prop}(c:h.results= #[.cell a cY])(i:Q.tmps.getD a undef=aI b 0)(j:Q.defers= [])
 (f:aq m b cY [u0,u1,u2,u3]) (l:bQ m (.agg #[p,q,r,s]) H) (k:∀v e,bQ e v H->Only b m e->R (.returned v) e):
 bodyPost prog h R .ret Q ((((m.setCell (aD b 0) p).setCell (aD b 1) q).setCell (aD b 2) r).setCell (aD b 3) s):=by
 have d:aq ((((m.setCell (aD b 0) p).setCell (aD b 1) q).setCell (aD b 2) r).setCell (aD b 3) s) b cY [p,q,r,s]:=(((f.bh 0 p).bh 1 q).bh 2 r).bh 3 s;exact bodyPost_ret (results_cell_row c Q.tmps _ b cY #[p,q,r,s] (0,0) _ i d underlying130 rfl Ok) j (k _ _ (l.keep (f.JD Od 0 1 2 3 p q r s)) ((((gD b m).bh 0 _).bh 1 _).bh 2 _|>.bh 3 _))
abbrev zG:List Value:= [.bool false,.slice none 0 0,.bool false,.slice none 0 0]
def q78.k75(h:ar:=by
 have BZa:=af (qs.ext fp);have bB:ah (aq w8 D.xb D.tX D.cs/\aq w8 bq fg [.slice Bk yv.length dk,.int .i64 yw]/\aq w8 d cY [.bool o0,.slice O0 o1 o2,.bool p0,.slice P0 p1 p2]):=⟨uD.st.sx,aJ.2.1.ext fp,aJ.2.2.ext fp⟩;have CM:ah (Calls prog D.fm #[.agg #[.bool o0,.slice O0 o1 o2,.bool p0,.slice P0 p1 p2],u8] w8 fun e w'=>∃u,e= .returned u/\bQ w' u (D.R.mul a0 (D.wt yw))/\Ext w8 w'):=(by rw[<-hF];exact aN.ring.mul w8 _ u8 a0 (D.wt yw) (1+k) 1 1 1 (by rw[hF];exact VO.ext fp) o5 yF (aN.ring.gw yw Ei.1 Ei.2) Om Od Od)
 refine hK.ae _ _ (fun _=>bB.ae) ?_;clear hK CW aJ dQ jZ qs o5 fp BO VO;refine aO 13 ?_;intro K hK;go_simp;refine CM.mono ?_;rintro e9 w9 ⟨u9,rfl,B,m⟩;obtain⟨r0,R0,r1,r2,s0,S0,s1,s2,rfl,_,_⟩:=B.parts;have Z:=af (uD.fL aN m);have Qr:=af (YK.ext m);have BZb:=af (BZa.ext m);have I:=af (bB.2.2.ext m);have aJ:ah (aq w9 D.xb D.tX D.cs/\aq w9 bq fg [.slice Bk yv.length dk,.int .i64 yw]/\aq w9 d cY [.bool o0,.slice O0 o1 o2,.bool p0,.slice P0 p1 p2]):=⟨Z.st.sx,bB.2.1.ext m,I⟩;refine hK.ae _ _ (fun _=>aJ.ae) ?_;obtain⟨k0,k1,k2,k3⟩:=I.four;obtain⟨f0,f1,f2,f3⟩:=I.fX;obtain⟨W',N,tx,_,_,jY⟩:=dI.put I B Z.st.ex Om;have HW:=af N;have po:=af (Z.past aN jY I Od Om Om Om Om Om);have EC:=af (Qr.only jY (.inr Om));have yP:=af (BZb.only jY Om);clear hK CM bB uD YK BZa B m aJ bK N I Z Qr BZb;refine aO 14 ?_;intro K hK;go_simp;refine hK.ae _ _ Oe ?_;refine bY Ok ?_;rw[HW.ae];clear k0 k1 k2 k3 f0 f1 f2 f3 hK HW jY;have bK:=F;go_wp2_with fail
 go_roundw;exact⟨j+1,by omega,by go_num,by rw[Q.ae,if_pos rfl,Vt.ae];exact tx,yP,po,EC⟩;simp [RowKit.intOf];omega):=h
def q77.k47(h:ar:=by
 have G8:=af (HU.ext dR);have QE:=af (o.ext dR);have iq:d<wr.heap.size:=HU.lt;have uG:=af (eB sZ f_.st.ex);have nA:=BY.lt;obtain⟨y0,y1⟩:=BY.two;have CA:=af (TD D.xb D.jb D.nb D.sb r D.x (put cur v t) (cW (bH D.p v) v) rl Bk dk yv yw W6 f_.st.uz.st s6 Hc XT uG);rw[<-Lx.ae] at CA;clear HX HC HU o dZ eY dR;generalize wr.heap.size=bq at*;go_wp2_with fail
 refine CA.mono ?_;rintro e7 w7 ⟨rfl,C⟩;have E:=af (f_.fL aN C);have G:=af (LV.ext C);have ww:=af (G8.ext C);have H:=af (QE.ext C);have EH:=af (BY.ext C);clear CA y0 y1 f_ LV G8 QE BY C uG;cases M:q (yv,yw) with
 |false=>
  have Q:ah ((rows.take (j+1)).any q=(rows.take j).any q):=by rw[ah,Hu.ae,M,w_]
  clear M Hu jY Lx;go_wp2_with fail;go_roundw;exact⟨j+1,by omega,by go_num,by rw[Q.ae];exact ww,H,E,G⟩;simp [RowKit.intOf];omega
 |true=>
  obtain⟨he,ahw⟩:=jY M;have Q:ah ((rows.take (j+1)).any q=true):=by rw[ah,Hu.ae,M,Ry]
  have Vt:ah (wh r=D.wt yw):=by rw[ah,XF.ae,<-he]
  have ym:ah (dI w7.drew d a0):=(by have h:=ww.ae;rw[ahw,if_neg Od] at h;exact h.drew);obtain⟨o0,O0,o1,o2,p0,P0,p1,p2,BO,VO⟩:=ym.parts;have dQ:=af (E.drew aN);have jZ:=af G.drew;have qs:=af H.drew;have aJ:ah (aq w7.drew D.xb D.tX D.cs/\aq w7.drew bq fg [.slice Bk yv.length dk,.int .i64 yw]/\aq w7.drew d cY [.bool o0,.slice O0 o1 o2,.bool p0,.slice P0 p1 p2]):=⟨dQ.st.sx,EH.drew,BO⟩;have F:=bK;clear he ahw M Hu jY Lx ww E G EH H bK ym;have bK:ah (∀w',(aq w' D.xb D.tX D.cs/\aq w' bq fg [.slice Bk yv.length dk,.int .i64 yw]/\aq w' d cY [.bool o0,.slice O0 o1 o2,.bool p0,.slice P0 p1 p2])->aA w' D.xb 14 (.func (.func D.fm) #[] #[])/\aA w' D.xb 17 (.func (.func D.fw) #[] #[])/\aA w' bq 1 (.int .i64 yw)/\F4 w' d (.bool o0) (.slice O0 o1 o2) (.bool p0) (.slice P0 p1 p2)):=fun w' h=>⟨(F w' h.1).1,(F w' h.1).2.1,h.2.1.aF 1,h.2.2.four⟩;unfold F4 at bK;go_upto_region 10 with fail
  refine cG (S:=fun w'=>aq w' D.xb D.tX D.cs/\aq w' bq fg [.slice Bk yv.length dk,.int .i64 yw]/\aq w' d cY [.bool o0,.slice O0 o1 o2,.bool p0,.slice P0 p1 p2]) (T:=fun j=>decide (14<=j)) Ok ?_;open q78 in exact m75):=h
def q76.k22(h:ar:=by
 have sY:ah (dI w4 d (if (rows.take 0).any q=true then D.R.mul a0 (wh r) else a0)):=(by rw[ah,kG,Rv,if_neg Od];exact HU);go_loopw [11,58] (fun _ v58 X=>∃j:Nat,j<=rows.length/\v58= .int .i64 j/\ah (dI X d (if (rows.take j).any q=true then D.R.mul a0 (wh r) else a0))/\ah (aq X w.heap.size cY zG)/\ah (ce D 19 20 (put cur v t) (cW (bH D.p v) v) X)/\ah (aZ [D.nb,D.sb,D.kb] w X)) (fun _ v58 _=>rows.length - (RowKit.intOf v58).toNat);exact⟨0,aU _,rfl,sY,o,HX,HC⟩;clear sY HU HX HC o;obtain⟨j,hj,rfl,HU,o,HX,HC⟩:=hrel;by_cases d6:j<rows.length
 ·open q77 in exact m47
 ·obtain rfl:j=rows.length:=Om;have XK:ah (dI wr d (D.R.mul a0 (wh r))):=(by have h:=HU.ae;rw[fB,aew HF.ae,if_pos rfl] at h;exact h)
  have d1:decide ((rows.length:Int)<(rows.length:Int))=false:=aW;clear HU P7 K_ HF XF HQ Hi;go_wp2_with fail;go_roundw;exact⟨k+1,by omega,by go_num,by rw[fQ.ae];exact XK,o,HX,HC⟩;simp [RowKit.intOf];omega):=h
def q80.agI(h:ar:=by
 have E:ah (ce D 19 20 PR (cW (bH D.p v) v) w8):=by rw[ah,<-yl.ae];exact fp
 have YU:ah (∀a,cW (bH D.p v) v a=true->PR a=put cur v t a):=fun a ha=>(PM a (by rw[yl.ae];exact ha)).trans (HA a ha);have hk8:=Gg.Og vY;have G:=af (rv.trans vY);have Y_:=af (uT.bX vY axn);have H:=af (qu.bX vY axn);have bB:ah (aq w8 D.xb D.tX D.cs/\aq w8 d cY [.bool o0,.slice O0 o1 o2,.bool p0,.slice P0 p1 p2]):=⟨fp.st.sx,Y_⟩;have CM:ah (Calls prog D.fm #[.agg #[.bool o0,.slice O0 o1 o2,.bool p0,.slice P0 p1 p2],u8] w8 fun e w'=>∃u,e= .returned u/\bQ w' u (D.R.mul acc (D.vT c cu))/\Ext w8 w'):=(by rw[<-hF];exact aN.ring.mul w8 _ u8 acc (D.vT c cu) s1 s2 j1 j2 (by rw[hF];exact PW.keep hk8) o5 Bd (by rw[AU.ae];exact wG) m1 m2 m3)
 refine hK.ae _ _ (fun _=>bB.ae) ?_;clear hK CV aJ Gg rv uT PW qu o5 fp PM vY HA hk8 bB;refine aO 9 ?_;intro K hK;go_simp;refine CM.mono ?_;rintro e9 w9 ⟨u9,rfl,B,m⟩;obtain⟨r0,R0,r1,r2,s0,S0,s1,s2,rfl,_,_⟩:=B.parts;have dQ:=af (E.fL aN m);have jZ:=af (G.ext m);have J:=af (Y_.ext m);have qs:=af (H.ext m);have aJ:ah (aq w9 D.xb D.tX D.cs/\aq w9 d cY [.bool o0,.slice O0 o1 o2,.bool p0,.slice P0 p1 p2]):=⟨dQ.st.sx,J⟩;refine hK.ae _ _ (fun _=>aJ.ae) ?_;obtain⟨k0,k1,k2,k3⟩:=J.four;obtain⟨f0,f1,f2,f3⟩:=J.fX;obtain⟨W',N,tx,_,_,jY⟩:=dI.put J B dQ.st.ex Om;have HW:=af N;have po:=af (dQ.past aN jY J Od Om Om Om Om Om);have EC:=af (jZ.only jY (.inr Om));have yP:=af (qs.only jY Om);clear hK CM E G Y_ H B m aJ bK N J dQ jZ qs;refine aO 10 ?_;intro K hK;go_simp;refine hK.ae _ _ Oe ?_;refine bY Ok ?_;rw[HW.ae];clear k0 k1 k2 k3 f0 f1 f2 f3 hK HW jY;have bK:=F;go_wp2_with fail
 go_roundw;exact⟨k+1,_,by omega,by go_num,yP,by rw[fQ.ae,<-AU.ae];exact tx,po,YU,EC⟩;simp [RowKit.intOf];omega):=h
def q79.k68(h:ar:=by
 have KY:=af (fun h=>aN.ring.z0 (D.R.mul b0 (D.R.prod (kl.take k) fun c=>D.vT c (put cur v t))) h);have Hq:ah (∀a,bH D.p kl[k] a=true->cu a∈D.U):=fun a ha=>by rw[<-xB iZ] at ha;rw[HA.ae a ha];exact ahq a ha
 have P3:ah (ce D 19 20 cu (bH D.p kl[k]) wr):=by rw[ah,<-xB iZ];exact HX
 have AU:ah (D.vT kl[k] cu=D.vT kl[k] (put cur v t)):=aN.kv _ lx _ _ fun a ha=>by have h1:=(aN.ka _ lx a ha).1;rw[<-xB iZ] at h1;exact HA a h1
 have yl:ah (bH D.p kl[k]=cW (bH D.p v) v):=(xB iZ).symm;have atR:kl[k]<D.dB:=lx;clear jE m4 m5 hM iZ lx;generalize D.R.mul b0 (D.R.prod (kl.take k) fun c=>D.vT c (put cur v t))=acc at*;generalize kl[k]=c at*;go_upto_region 16 with fail
 obtain⟨o0,O0,o1,o2,p0,P0,p1,p2,BO,VO⟩:=HU.drew.parts;have n:=af (HX.drew aN);have ahK:=af (P3.drew aN);have pE:=af HC.drew;have Hx:=af o.drew;have CZ:=af (aN.ring.OZ wr.drew (.agg #[.bool o0,.slice O0 o1 o2,.bool p0,.slice P0 p1 p2]) _ sz jz (by rw[hF];exact VO) z3 z1 z2);have aJ:ah (aq wr.drew D.xb D.tX D.cs/\aq wr.drew d cY [.bool o0,.slice O0 o1 o2,.bool p0,.slice P0 p1 p2]):=⟨n.st.sx,BO⟩;have F:=bK;clear HX P3 HC HU bK e3 o z3;have bK:ah (∀w',(aq w' D.xb D.tX D.cs/\aq w' d cY [.bool o0,.slice O0 o1 o2,.bool p0,.slice P0 p1 p2])->aA w' D.xb 14 (.func (.func D.fm) #[] #[])/\aA w' D.xb 15 (.func (.func D.fz) #[] #[])/\F4 w' d (.bool o0) (.slice O0 o1 o2) (.bool p0) (.slice P0 p1 p2)):=fun w' h=>⟨(F w' h.1).1,h.1.cell aN.cz,h.2.four⟩;unfold F4 at bK;refine cG (S:=fun w'=>aq w' D.xb D.tX D.cs/\aq w' d cY [.bool o0,.slice O0 o1 o2,.bool p0,.slice P0 p1 p2]) (T:=fun _=>false) Ok ?_;generalize wr.drew=wd at*;refine ax 0 95 ?_;refine ax 1 96 ?_;refine ax 2 97 ?_;refine ax 3 98 ?_;refine ax 4 99 ?_;refine ax 5 100 ?_;refine aO 6 ?_;intro K hK;go_simp;refine CZ.mono ?_;rintro e5 w5 ⟨rfl,A⟩;have d8:=af (n.fL aN A);have O:=af (ahK.fL aN A);have mL:=af (pE.ext A);have W:=af (BO.ext A);have Y:=af (VO.ext A);have wN:=af (Hx.ext A);have bB:ah (aq w5 D.xb D.tX D.cs/\aq w5 d cY [.bool o0,.slice O0 o1 o2,.bool p0,.slice P0 p1 p2]):=⟨d8.st.sx,W⟩;refine hK.ae _ _ (fun _=>bB.ae) ?_;clear hK CZ n ahK pE BO VO Hx A aJ bB;refine bY Ok ?_;cases hz:D.xV acc with
 |true=>have wu:ah (dI w5 d (D.bT v t cur)):=(by have h1:=KY hz;rw[ah,Hs.ae,HST.ae h1,<-h1];exact dI.of W Y);have kr:=d8;have Bf:=mL;have Y2:=wN;clear d8 O mL hz KY HST fQ G5 Bd wG AU yl Hq W Y wN;generalize w5=wf at*;exact m28
 |false=>
  clear hz KY HST d8;go_upto_region 17 with fail
  have Gg:=af (O.drew aN);have rv:=af mL.drew;have uT:=af W.drew;have PW:=af (Y.ext (aB w5).drew);have qu:=af wN.drew;have aJ:ah (aq w5.drew D.xb D.tX D.cs/\aq w5.drew d cY [.bool o0,.slice O0 o1 o2,.bool p0,.slice P0 p1 p2]):=⟨Gg.st.sx,uT⟩;clear O mL W Y wN;refine cG (S:=fun w'=>aq w' D.xb D.tX D.cs/\aq w' d cY [.bool o0,.slice O0 o1 o2,.bool p0,.slice P0 p1 p2]) (T:=fun j=>decide (10<=j)) Ok ?_;open q80 in exact agb):=h
def q75.agG(h:ar:=by
 clear hK aJ wn lx hfn;have aJ:=bB;clear bB;refine ax 13 26 ?_;refine aO 14 ?_;intro K hK;go_simp;rw[pu.ae];refine hK.ae _ _ Oe ?_;refine bY Ok ?_;clear hK aJ pu hcs qX cD i5 ey jI;go_wp2_with fail
 refine CL.mono ?_;rintro e3 w3 ⟨u3,rfl,xW,L⟩;obtain⟨a0,A0,a1,a2,b0,B0,b1,b2,rfl,_,_⟩:=xW.parts;clear CL;go_upto_region 3 with fail
 refine FU xW fun w4 n kV JS=> ?_;have Pm:w.heap.size<w3.heap.size:=cy oB.lt L.size;have cE:=af (bk.fL aN (L.trans n));have mM:=af (iA.ext (L.trans n));have L5:=af (oB.ext (L.trans n));have uF:ah (dI w4 w3.heap.size (D.R.mul (D.g v t) (D.R.prod ((D.homes v).take 0) fun h=>hW D.R D.x D.T D.wt h (put cur v t)))):=by rw[ah,kG];rw[show D.R.prod ([]:List Nat) (fun h=>hW D.R D.x D.T D.wt h (put cur v t))=D.R.one from rfl,SR.zV];exact kV
 have c3:=cE.st.sx.cell k3;have Xu:=hhc _ cE.k1;clear c10 L xW bk iA n kV JS oB cI o;generalize w3.heap.size=d at*;go_upto_region 4 with fail
 clear c3 Xu;obtain⟨wh,qa⟩:∃wh:Nat->Rat,wh=fun h=>hW D.R D.x D.T D.wt h (put cur v t):=⟨_,rfl⟩;have VB:ah (∀h∈D.homes v,h<D.x.ay.length/\∃y,y∈bL D.T h/\(bL D.T h).filter (fun y=>eh (cW (bH D.p v) v) (put cur v t) (bu D.x h) y.1)= [y]/\wh h=D.wt y.2):=by rw[qa];exact Yq
 rw[<-qa] at Hs HG uF Be;clear Yq qa;generalize D.homes v=hl at*;go_loopw [9,11,43] (fun _ _ v43 wr=>∃k:Nat,k<=hl.length/\v43= .int .i64 k/\ah (dI wr d (D.R.mul (D.g v t) (D.R.prod (hl.take k) wh)))/\ah (aq wr w.heap.size cY zG)/\ah (ce D 19 20 (put cur v t) (cW (bH D.p v) v) wr)/\ah (aZ [D.nb,D.sb,D.kb] w wr)) (fun _ _ v43 _=>hl.length - (RowKit.intOf v43).toNat);exact⟨0,aU _,rfl,uF,L5,cE,mM⟩;clear uF cE mM L5;obtain⟨k,hk,rfl,HU,o,HX,HC⟩:=hrel;by_cases df:k<hl.length
 ·open q76 in exact m22
 ·obtain rfl:k=hl.length:=Om;have d1:decide ((hl.length:Int)<(hl.length:Int))=false:=aW;have rp:ah (dI wr d (D.R.mul (D.R.mul (D.g v t) (D.R.prod hl wh)) (D.R.prod ((kids D.dB D.p (some v)).take 0) fun c=>D.vT c (put cur v t)))):=(by exact af2)
  have c1:=HX.st.sx.cell k1;have Xv:=hcc _ HX.k1;clear HU HG yo OL ou VB d_ vL;generalize D.R.mul (D.g v t) (D.R.prod hl wh)=b0 at*;go_upto_region 14 with fail
  clear c1 Xv d1;generalize kids D.dB D.p (some v)=kl at*;generalize wr=w4 at*;have tD:ah (∀a,cW (bH D.p v) v a=true->put cur v t a=put cur v t a):=fun _ _=>rfl;go_loopw [13,91] (fun _ v91 X=>∃(k:Nat) (cu:Nat->aC),k<=kl.length/\v91= .int .i64 k/\ah (aq X w.heap.size cY zG)/\ah (dI X d (D.R.mul b0 (D.R.prod (kl.take k) fun c=>D.vT c (put cur v t))))/\ah (ce D 19 20 cu (cW (bH D.p v) v) X)/\ah (∀a,cW (bH D.p v) v a=true->cu a=put cur v t a)/\ah (aZ [D.nb,D.sb,D.kb] w X)) (fun _ v91 _=>kl.length - (RowKit.intOf v91).toNat)
  exact⟨0,_,aU _,rfl,o,rp,HX,tD,HC⟩;clear rp HX tD HC o;obtain⟨k,cu,hk,rfl,o,HU,HX,HA,HC⟩:=hrel;have iq:d<wr.heap.size:=HU.lt;by_cases df:k<kl.length
  ·open q79 in exact m68
  ·obtain rfl:k=kl.length:=Om;have d1:decide ((kl.length:Int)<(kl.length:Int))=false:=aW;have wu:ah (dI wr d (D.bT v t cur)):=(by rw[ah,Hs.ae];have h:=HU.ae;rwa[fB] at h)
   have kr:=HX;have Bf:=HC;have Y2:=o;clear HU HX HC o;generalize wr=wf at*;exact m28):=h
def q74.k31(h:ar:=by clear hW1 hW2 h hV ht HLH HLC vX qU;refine cG (S:=fun w'=>aq w' D.xb D.tX D.cs) (T:=fun j=>decide (14<=j)) Ok ?_;generalize wz.drew=wd at*;open q75 in exact af8):=h
def q73.k89(h:ar:=by
 have jI:=af (((gS (S:= [D.nb,D.sb,D.kb]) cI).drew).only i5.ae (.inl Ou));have oB:ah (aq W2 w.heap.size cY zG):=(o.drew.only i5 Om).only ey.ae Om;have iA:=af (jI.only ey (.inl Ou));have aN:=af ok;have HV:=af hV;have wn:=af hW1;have pu:=af hW2;have aJ:=af h.st.drew.sx;have bB:=af cD.st.sx;have bK:ah (∀w',aq w' D.xb D.tX D.cs->w'.cell? (aD D.xb 14)=some (.func (.func D.fm) #[] #[])/\w'.cell? (aD D.xb 17)=some (.func (.func D.fw) #[] #[])/\w'.cell? (aD D.xb 19)=some (aG D.nb 0 D.x.ai.length D.x.ai.length)/\w'.cell? (aD D.xb 20)=some (aG D.sb 0 D.x.ai.length D.x.ai.length)):=(by exact afR)
 have gp:=ok.il;have him:=ok.ring.im;have Px:=ok.ring.iz;have hiw:=ok.ring.iw;have CL:ah (Calls prog D.fl #[.int .i64 v,.string ⟨t.toArray⟩,s] W2 fun e w'=>∃u,e= .returned u/\bQ w' u (D.g v t)/\Ext W2 w'):=(by rw[<-hF];exact ok.lift W2 bk.st.ex v t hv (adR ht) qU)
 open q74 in exact m31):=h
def akU{D:Pw Rat}(ok:iI D 13 #[s])(hF:D.V=bQ){v:Nat}(hv:v<D.dB)(hV:∀c∈kids D.dB D.p (some v),GW D 19 20 239 c):L3 D 19 20 290 v:=by
 intro t cur w h1 vX ht;have HST:=af h1;clear h1;have vP:D.nb<w.heap.size:=HST.st.nc.lt;have z7:D.sb<w.heap.size:=HST.st.sc.lt;have hkb:D.kb<w.heap.size:=HST.mem.lt;have Gt:D.xb<w.heap.size:=HST.st.sx.lt;have hw0:D.w0.heap.size<=w.heap.size:=HST.st.ex.size;go_enter func290,ntmps290;go_upto_region 1 with fail
 refine aR fun wz cI o=> ?_;have h:=HST.fL ok cI;have vN:w.heap.size<wz.heap.size:=o.lt;open q73 in exact m89
def q86.k75(h:ar:=by
 have bB:ah (aq w8 D.xb D.tX D.cs/\aq w8 W fg [.slice Bk yv.length dk,av yw]):=⟨uD.st.sx,aJ.2.ext fp⟩;have CM:=af (aN.ring.mul w8 u7 u8 a0 (D.wt yw) (1+k) 1 1 1 (aN.ring.vk ym (.jN fp)) o5 yF (aN.ring.gw yw Ei.1 Ei.2) Om Od Od);refine hK.ae _ _ (fun _=>bB.ae) ?_;clear hK o5 fp;refine aO 13 ?_;intro K hK;go_simp;refine CM.mono ?_;rintro e9 w9 ⟨u9,rfl,o,d⟩;have G0:=af (uD.fL aN d);have Qr:=af (YK.ext d);have HUb:=af o;have aJ:ah (aq w9 D.xb D.tX D.cs/\aq w9 W fg [.slice Bk yv.length dk,av yw]):=⟨G0.st.sx,bB.2.ext d⟩;refine hK.ae _ _ (fun _=>aJ.ae) ?_;clear hK o d;refine ax 14 7 ?_;refine bY Ok ?_;have bK:=Q;go_wp2_with fail
 go_roundw;exact⟨j+1,_,by omega,by go_num,af rfl,by rw[B.ae,if_pos rfl,Vt.ae];exact HUb,G0,Qr⟩;simp [RowKit.intOf];omega):=h
def q85.k47(h:ar:=by
 have G8:=af (aN.ring.vk HU (.jN dR.ae));have uG:=af (eB sZ f_.st.ex);have nA:=BY.lt;obtain⟨y0,y1⟩:=BY.two;have CA:=af (TH D.xb D.jb D.nb D.sb r D.x (put cur v t) (cW (bH D.p v) v) rl Bk dk yv yw W6 f_.st.uz.st s6 Hc XT uG);rw[<-Lx.ae] at CA;clear dZ eY;generalize wr.heap.size=W at*;go_wp2_with fail
 refine CA.mono ?_;rintro e7 w7 ⟨rfl,m⟩;have C:=af (f_.fL aN m);have E:=af (LV.ext m);have ww:=af (aN.ring.vk G8 (.jN m));have EH:=af (BY.ext m);clear y0 y1 BY m;cases A:q (yv,yw) with
 |false=>
  have B:ah ((rows.take (j+1)).any q=(rows.take j).any q):=by rw[ah,Hu.ae,A,w_]
  clear A;go_wp2_with fail;go_roundw;exact⟨j+1,_,by omega,by go_num,af rfl,by rw[B.ae];exact ww,C,E⟩;simp [RowKit.intOf];omega
 |true=>
  obtain⟨he,F⟩:=jY A;have B:ah ((rows.take (j+1)).any q=true):=by rw[ah,Hu.ae,A,Ry]
  have Vt:ah (wh r=D.wt yw):=by rw[ah,XF.ae,<-he]
  have ym:ah (D.V w7.drew u7 a0):=(by have h:=ww.ae;rw[F,if_neg Od] at h;exact aN.ring.vk h (jp _ _).drew);have dQ:=af (C.drew aN);have jZ:=af E.drew;have aJ:ah (aq w7.drew D.xb D.tX D.cs/\aq w7.drew W fg [.slice Bk yv.length dk,av yw]):=⟨dQ.st.sx,EH.drew⟩;have Q:=bK;clear he F A;have bK:ah (∀w',(aq w' D.xb D.tX D.cs/\aq w' W fg [.slice Bk yv.length dk,av yw])->aA w' D.xb 8 (.func (.func D.fm) #[] #[])/\aA w' D.xb 11 (.func (.func D.fw) #[] #[])/\aA w' W 1 (av yw)):=fun w' h=>⟨(Q w' h.1).1,(Q w' h.1).2.1,h.2.aF 1⟩;go_upto_region 10 with fail
  refine cG (S:=fun w'=>aq w' D.xb D.tX D.cs/\aq w' W fg [.slice Bk yv.length dk,av yw]) (T:=fun _=>false) Ok ?_;open q86 in exact m75):=h
def q84.k22(h:ar:=by
 have sY:ah (D.V w4 u (if (rows.take 0).any q=true then D.R.mul a0 (wh r) else a0)):=(by rw[ah,kG,Rv,if_neg Od];exact HU);go_loopw [7,11,58] (fun X _ J H=>∃(j:Nat) (u:Value),j<=rows.length/\J=av j/\ah (u=X)/\ah (D.V H u (if (rows.take j).any q=true then D.R.mul a0 (wh r) else a0))/\ah (ce D 13 14 (put cur v t) (cW (bH D.p v) v) H)/\ah (aZ [D.nb,D.sb,D.kb] w H)) (fun _ _ J _=>rows.length - (RowKit.intOf J).toNat);exact⟨0,_,aU _,rfl,af rfl,sY,HX,HC⟩;obtain⟨j,u7,hj,rfl,s,HU,HX,HC⟩:=hrel;have s:=s.ae;subst s;by_cases d6:j<rows.length
 ·open q85 in exact m47
 ·obtain rfl:j=rows.length:=Om;have XK:ah (D.V wr u7 (D.R.mul a0 (wh r))):=(by have h:=HU.ae;rw[fB,aew HF.ae,if_pos rfl] at h;exact h)
  have d1:decide ((rows.length:Int)<(rows.length:Int))=false:=aW;go_wp2_with fail;go_roundw;exact⟨k+1,_,by omega,by go_num,af rfl,by rw[fQ.ae];exact XK,HX,HC⟩;simp [RowKit.intOf];omega):=h
def q88.agI(h:ar:=by
 have C:ah (ce D 13 14 PR (cW (bH D.p v) v) w8):=by rw[ah,<-yl.ae];exact fp
 have YU:ah (∀a,cW (bH D.p v) v a=true->PR a=put cur v t a):=fun a ha=>(PM a (by rw[yl.ae];exact ha)).trans (HA a ha);have E:=af (rv.trans vY);have bB:=af fp.st.sx;have CM:=af (aN.ring.mul w8 u u8 Z (D.vT c cu) s1 s2 j1 j2 (Gg.vC aN vY Le) o5 Bd (by rw[AU.ae];exact wG) m1 m2 m3);refine hK.ae _ _ (fun _=>bB.ae) ?_;clear hK o5 fp PM vY;refine aO 9 ?_;intro K hK;go_simp;refine CM.mono ?_;rintro e9 w9 ⟨u9,rfl,o,d⟩;have dQ:=af (C.fL aN d);have jZ:=af (E.ext d);have ym:=af o;have aJ:=af dQ.st.sx;refine hK.ae _ _ (fun _=>aJ.ae) ?_;clear hK o d;refine ax 10 7 ?_;refine bY Ok ?_;go_wp2_with fail
 go_roundw;exact⟨k+1,_,_,by omega,by go_num,af rfl,by rw[fQ.ae,<-AU.ae];exact ym,dQ,YU,jZ⟩;simp [RowKit.intOf];omega):=h
def q87.k68(h:ar:=by
 have e4:=HX.st.sx.cell aN.cz;have CZ:=af (aN.ring.OZ wr u _ sz jz HU z3 z1 z2);have KY:=af (fun h=>aN.ring.z0 (D.R.mul b0 (D.R.prod (kl.take k) fun c=>D.vT c (put cur v t))) h);have Hq:ah (∀a,bH D.p kl[k] a=true->cu a∈D.U):=fun a ha=>by rw[<-xB iZ] at ha;rw[HA.ae a ha];exact ahq a ha
 have P3:ah (ce D 13 14 cu (bH D.p kl[k]) wr):=by rw[ah,<-xB iZ];exact HX
 have AU:ah (D.vT kl[k] cu=D.vT kl[k] (put cur v t)):=aN.kv _ lx _ _ fun a ha=>by have h1:=(aN.ka _ lx a ha).1;rw[<-xB iZ] at h1;exact HA a h1
 have yl:ah (bH D.p kl[k]=cW (bH D.p v) v):=(xB iZ).symm;have atR:kl[k]<D.dB:=lx;clear jE m4 m5 z3 hM iZ lx;generalize D.R.mul b0 (D.R.prod (kl.take k) fun c=>D.vT c (put cur v t))=Z at*;generalize kl[k]=c at*;go_wp2_with fail
 refine CZ.mono ?_;rintro e5 w5 ⟨rfl,n⟩;have d8:=af (HX.fL aN n);have G:=af (P3.fL aN n);have mL:=af (HC.ext n);have qm:=af (aN.ring.vk HU (.jN n));clear n e3 e4;cases hz:D.xV Z with
 |true=>have wu:ah (D.V w5 u (D.bT v t cur)):=(by have h1:=KY hz;rw[ah,Hs.ae,HST.ae h1,<-h1];exact qm);have kr:=d8;have Bf:=mL;clear hz;generalize w5=wf at*;exact m37
 |false=>
  clear hz;go_upto_region 17 with fail
  have aJ:=af G.st.drew.sx;have Gg:=af (G.drew aN);have rv:=af mL.drew;have Le:=af (aN.ring.vk qm (jp _ _).drew);refine cG (S:=fun w'=>aq w' D.xb D.tX D.cs) (T:=fun _=>false) Ok ?_;open q88 in exact agb):=h
def q83.agG(h:ar:=by
 clear hK lx hfn;have aJ:=bB;refine ax 13 26 ?_;refine aO 14 ?_;intro K hK;go_simp;rw[pu.ae];refine hK.ae _ _ Oe ?_;refine bY Ok ?_;clear hK hcs qX;go_wp2_with fail
 refine CL.mono ?_;rintro e3 w3 ⟨u3,rfl,Y,M⟩;have O:=af (bk.fL aN M);have mM:=af (iA.ext M);have uF:ah (D.V w3 u3 (D.R.mul (D.g v t) (D.R.prod ((D.homes v).take 0) fun h=>hW D.R D.x D.T D.wt h (put cur v t)))):=by rw[ah,kG];rw[show D.R.prod ([]:List Nat) (fun h=>hW D.R D.x D.T D.wt h (put cur v t))=D.R.one from rfl,SR.zV];exact Y
 have c3:=O.st.sx.cell k3;have Xu:=hhc _ O.k1;clear c10 M Y;go_upto_region 4 with fail
 clear c3 Xu;obtain⟨wh,N⟩:∃wh:Nat->α,wh=fun h=>hW D.R D.x D.T D.wt h (put cur v t):=⟨_,rfl⟩;have VB:ah (∀h∈D.homes v,h<D.x.ay.length/\∃y,y∈bL D.T h/\(bL D.T h).filter (fun y=>eh (cW (bH D.p v) v) (put cur v t) (bu D.x h) y.1)= [y]/\wh h=D.wt y.2):=by rw[N];exact Yq
 rw[<-N] at Hs HG uF Be;clear N;generalize D.homes v=hl at*;go_loopw [7,9,11,43] (fun X _ _ L wr=>∃(k:Nat) (u:Value),k<=hl.length/\L=av k/\ah (u=X)/\ah (D.V wr u (D.R.mul (D.g v t) (D.R.prod (hl.take k) wh)))/\ah (ce D 13 14 (put cur v t) (cW (bH D.p v) v) wr)/\ah (aZ [D.nb,D.sb,D.kb] w wr)) (fun _ _ _ L _=>hl.length - (RowKit.intOf L).toNat);exact⟨0,_,aU _,rfl,af rfl,uF,O,mM⟩;obtain⟨k,u,hk,rfl,s,HU,HX,HC⟩:=hrel;have s:=s.ae;subst s;by_cases df:k<hl.length
 ·open q84 in exact m22
 ·obtain rfl:k=hl.length:=Om;have d1:decide ((hl.length:Int)<(hl.length:Int))=false:=aW;have rp:ah (D.V wr u (D.R.mul (D.R.mul (D.g v t) (D.R.prod hl wh)) (D.R.prod ((kids D.dB D.p (some v)).take 0) fun c=>D.vT c (put cur v t)))):=(by exact af2)
  have c1:=HX.st.sx.cell k1;have Xv:=hcc _ HX.k1;clear vL;generalize D.R.mul (D.g v t) (D.R.prod hl wh)=b0 at*;go_upto_region 14 with fail
  clear c1 Xv d1;generalize kids D.dB D.p (some v)=kl at*;generalize wr=w4 at*;have tD:ah (∀a,cW (bH D.p v) v a=true->put cur v t a=put cur v t a):=fun _ _=>rfl;go_loopw [7,13,91] (fun X _ I H=>∃(k:Nat) (u:Value) (cu:Nat->aC),k<=kl.length/\I=av k/\ah (u=X)/\ah (D.V H u (D.R.mul b0 (D.R.prod (kl.take k) fun c=>D.vT c (put cur v t))))/\ah (ce D 13 14 cu (cW (bH D.p v) v) H)/\ah (∀a,cW (bH D.p v) v a=true->cu a=put cur v t a)/\ah (aZ [D.nb,D.sb,D.kb] w H)) (fun _ _ I _=>kl.length - (RowKit.intOf I).toNat)
  exact⟨0,_,_,aU _,rfl,af rfl,rp,HX,tD,HC⟩;obtain⟨k,u,cu,hk,rfl,s,HU,HX,HA,HC⟩:=hrel;have s:=s.ae;subst s;by_cases df:k<kl.length
  ·open q87 in exact m68
  ·obtain rfl:k=kl.length:=Om;have d1:decide ((kl.length:Int)<(kl.length:Int))=false:=aW;have wu:ah (D.V wr u (D.bT v t cur)):=(by rw[ah,Hs.ae];have h:=HU.ae;rwa[fB] at h)
   have kr:=HX;have Bf:=HC;generalize wr=wf at*;exact m37):=h
def q82.k31(h:ar:=by
 clear hW1 hW2 h hV ht vX qU;go_enter func236,ntmps236;go_upto_region 1 with fail
 refine cG (S:=fun w'=>aq w' D.xb D.tX D.cs) (T:=fun j=>decide (14<=j)) Ok ?_;generalize w.drew=wd at*;open q83 in exact af8):=h
def q81.k89(h:ar:=by
 have jI:=af (((gS (S:= [D.nb,D.sb,D.kb]) (aB w)).drew).only i5.ae (.inl Ou));have iA:=af (jI.only ey (.inl Ou));have aN:=af ok;have HV:=af hV;have wn:=af hW1;have pu:=af hW2;have aJ:=af h.st.drew.sx;have bB:=af cD.st.sx;have bK:ah (∀w',aq w' D.xb D.tX D.cs->aA w' D.xb 8 (.func (.func D.fm) #[] #[])/\aA w' D.xb 11 (.func (.func D.fw) #[] #[])/\aA w' D.xb 13 (aG D.nb 0 D.x.ai.length D.x.ai.length)/\aA w' D.xb 14 (aG D.sb 0 D.x.ai.length D.x.ai.length)):=(by exact afR)
 have gp:=ok.il;have him:=ok.ring.im;have Px:=ok.ring.iz;have hiw:=ok.ring.iw;have CL:=af (ok.lift W2 bk.st.ex v t hv (adR ht) qU);open q82 in exact m31):=h
def ak7{α:Type}{D:Pw α}(ok:iI D 7 #[]){v:Nat}(hv:v<D.dB)(hV:∀c∈kids D.dB D.p (some v),GW D 13 14 232 c):L3 D 13 14 236 v:=by intro t cur w h vX ht;open q81 in exact m89
def am4(w:au):(zeroValue fV).run prog w= .ok (.bool false) w:=Ok
def acA:prog.underlying 298=some (.map bC fV):=Ok
def ak3(h:a<256):byteCells [UInt8.ofNat a]= [.int .u8 (a:Int)]:=by unfold byteCells;rw[Il];congr 2;simp;omega
def CJ{S:List Nat}(h:IsBuilderF tB t8 a b t m)(k:aZ S m n)(l:∀i∈S,i<a):IsBuilderF tB t8 a b t n:=by
 have d:∀{v:Value},m.ownsRowF a t8 1 v t t->n.ownsRowF a t8 1 v t t:=fun {v} ⟨s,c⟩=>by
  refine⟨s,?_⟩;rcases c with c|⟨g,q,p,u,z,y,r,x⟩
  ·exact .inl c
  ·exact .inr ⟨g,q,p,u,z,y,(k.block g (ie r) fun e=>by have:=l g e;omega).trans r,x⟩
 rcases h with⟨o,v,f,c,j⟩|⟨o,v,f,c,j⟩
 ·exact .inl ⟨o,v,(k.block b (ie f) fun e=>by have:=l b e;omega).trans f,d c,j⟩
 ·exact .inr ⟨o,v,(k.block b (ie f) fun e=>by have:=l b e;omega).trans f,d c,j⟩
def Ny(h:IsBuilderF tB t8 a b t m):∃p q,aq m b tB [p,q]:=by
 rcases h with⟨f,v,c,d,e⟩|⟨f,v,c,d,e⟩
 ·exact⟨_,_,c⟩
 ·exact⟨_,_,c⟩
def q92.agC(h:ar:=by go_wp2;go_roundw;exact⟨k+1,by omega,by go_num,pG,dR⟩;simp [RowKit.intOf];omega):=h
def q91.k30(h:ar:=by open q92 in exact afQ):=h
def q96.k84(h:ar:=by
 have C:=af (d.trans o9);have bB:=af iK.st.sx;have CM:=af (aN.ring.add w5 u u5 acc bt dg _ _ (bk.vC aN o9 A) DN yF Hn vW hgb);refine hK.ae _ _ (fun _=>bB.ae) ?_;refine aO 10 ?_;intro K hK;go_simp;refine CM.mono ?_;rintro e6 w6 ⟨u6,rfl,Y,jS⟩;have dR:=af (d8.fL aN jS);have B:=af (C.ext jS);have z:=af Y;have aJ:=af dR.st.sx;refine hK.ae _ _ (fun _=>aJ.ae) ?_;refine ax 11 10 ?_;refine bY Ok ?_;go_wp2_with fail
 go_roundw;exact⟨k+1,_,_,by omega,by go_num,af rfl,by rw[fQ.ae];exact z,dR,Qz,B⟩;simp [RowKit.intOf];omega):=h
def q95.k72(h:ar:=by
 have CB:=af (fun b (h:ce D 13 14 n (bH D.p v) b)=>HB cb[k] n b h (fun a ha=>by rw[HA.ae a ha];exact Hq a ha) (by rw[Qt.ae n HA.ae];exact hm));rw[Qx.ae _ n HA.ae] at CB;have yF:=af (AY k);have Hn:=af (Qw _ hm);have hgb:=mH k Om;generalize cb[k]=t at*;generalize D.bT v t cur=bt at*;generalize D.R.sum (cb.take k) (fun t=>D.bT v t cur)=acc at*;go_upto_region 15 with fail
 have bk:=af (HX.drew aN);have d:=af HC.drew;have A:=af (aN.ring.vk F (jp _ _).drew);have aJ:=af bk.st.sx;refine cG (S:=fun b=>aq b D.xb D.tX D.cs) (T:=fun _=>false) Ok ?_;open q96 in exact m84):=h
def q94.k26(h:ar:=by
 have vP:D.nb<w.heap.size:=HST.st.nc.lt;have z7:D.sb<w.heap.size:=HST.st.sc.lt;have hkb:D.kb<w.heap.size:=HST.mem.lt;have P:D.xb<w.heap.size:=HST.st.sx.lt;have X:D.w0.heap.size<=w.heap.size:=HST.st.ex.size;have I:=af (CJ J zP fun i hi=>by simp only[aK,bJ,or_false] at hi;omega);have jZ:ah (aZ [D.nb,D.sb,D.kb] w w9):=(gS c).trans (zP.mono fun i hi _=>by simp only[aK,bJ,or_false] at hi⊢;omega);have G6:=af (eQ.vC aN (zP.mono fun i hi _=>by simp only[aK,bJ,or_false] at hi⊢;omega) HVZ);have ru:=af hcb;have O_:=c.size;have Bh:ah (∀a,bH D.p v a=true->put cur v tc a=cur a):=fun a ha=>by unfold put;rw[if_neg fun e=>by rw[e,vD] at ha;cases ha]
 have Lc:ah (D.V w9 q (D.R.sum (cb.take 0) fun t=>D.bT v t cur)):=by rw[ah,kG];exact G6
 have Hr:ah (aZ [D.nb,D.sb,D.kb] w9 w9):= .gV (aB w9);go_upto_region 13 with fail
 go_loopw [10,12,59] (fun N _ s L=>∃(k:Nat) (u:Value) (n:Nat->aC),k<=cb/\s=av k/\ah (u=N)/\ah (D.V L u (D.R.sum (cb.take k) fun t=>D.bT v t cur))/\ah (ce D 13 14 n (bH D.p v) L)/\ah (∀a,bH D.p v a=true->n a=cur a)/\ah (aZ [D.nb,D.sb,D.kb] w9 L)) (fun _ _ s _=>cb - (RowKit.intOf s).toNat)
 exact⟨0,_,_,aU _,rfl,af rfl,Lc,nD,Bh,Hr⟩;obtain⟨k,u,n,hk,rfl,Z,F,HX,HA,HC⟩:=hrel;have Z:=Z.ae;subst Z;by_cases lR:k<cb
 ·open q95 in exact m72
 ·obtain rfl:k=cb.length:=Om;have d1:decide ((cb.length:Int)<(cb.length:Int))=false:=aW;have wu:ah (D.V wr u (D.vT v cur)):=(by rw[ah,cF.ae];have h:=F.ae;rwa[fB] at h)
  go_upto_region 17 with fail
  have bk:=af (HX.drew aN);have d:=af (jZ.trans HC).drew;have A:=af (aN.ring.vk wu (jp _ _).drew);have o:ah (IsBuilderF tB t8 w.heap.size w.heap.size (byteCells nm) wr.drew):=CJ I HC.drew fun i hi=>by simp only[aK,bJ,or_false] at hi;omega
  have CS:=af (Tryz.Builder_String_any_k w.heap.size w.heap.size nm wr.drew o d.size);have aJ:=af bk.st.sx;refine cG (S:=fun b=>aq b D.xb D.tX D.cs) (T:=fun j=>decide (6<=j)) Ok ?_;generalize wr.drew=wd at*;refine ax 0 75 ?_;refine ax 1 76 ?_;refine ax 2 77 ?_;refine ax 3 78 ?_;refine ax 5 80 ?_;refine aO 4 ?_;intro K hK;go_simp;refine CS.mono ?_;rintro e5 w5 ⟨rfl,_,iK,ny⟩;obtain⟨bp,bq,GK⟩:=Ny o;have H:=af (bk.read aN iK ny GK X P vP z7 hkb);have d8:=af H.1;have qm:=af (aN.ring.vk A H.2);have C:=af (d.below iK);have bB:=af d8.st.sx;obtain⟨w6,hrun,dR,z,pD⟩:=d8.afK aN hv acA Et OO Om qm;have B:=af (C.only pD (.inl Ou));refine hK.ae _ _ (fun _=>bB.ae) ?_;refine aO 6 ?_;intro K hK;go_simp;refine hK.ae _ _ Oe ?_;refine bY Ok ?_;go_wp2_with fail
  exact bodyPost_ret (v:=u) (by simp [results,results232,go_sem]) rfl ⟨u,rfl,z,n,dR,HA,B⟩):=h
def q93.k97(h:ar:=by
 have CS:=af (Tryz.Builder_String_any_k w.heap.size w.heap.size nm wr.drew HBF bk.size);go_upto_region 8 with fail
 have bK:ah (∀b,aq b D.xb D.tX D.cs->aA b D.xb 15 (.map (some D.kb))/\aA b D.xb 7 (.func (.func D.fa) #[] #[])):=fun b h=>⟨h.cell aN.ck,h.cell aN.ca⟩;have aJ:=af en.st.sx;refine cG (S:=fun b=>aq b D.xb D.tX D.cs) (T:=fun _=>false) Ok ?_;generalize wr.drew=wd at*;refine ax 0 40 ?_;refine ax 1 41 ?_;refine ax 2 42 ?_;refine ax 3 43 ?_;refine aO 4 ?_;intro K hK;go_simp;refine CS.mono ?_;rintro e8 M ⟨rfl,E,Q,Po⟩;have c:ah (Ext w M):=pQ bk Q;have eQ:=af (HST.fL aN c);have J:=af E;have bB:=af eQ.st.sx;obtain⟨r,hlk,vM⟩:=eQ.look aN hv acA (am4 M) Et OO Om;have kU:=af vM;refine hK.ae _ _ (fun _=>bB.ae) ?_;have aJ:=bB;refine aO 5 ?_;intro K hK;go_simp;refine hK.ae _ _ (fun _=>aJ.ae) ?_;refine ax 6 39 ?_;refine ax 7 46 ?_;refine ax 8 47 ?_;refine ax 9 8 ?_;refine ax 10 9 ?_;refine bY Ok ?_;cases r with
 |some u=>have F:=af (kU u rfl);go_wp2_with fail;exact bodyPost_ret (v:=u) (by simp [results,results232,go_sem]) rfl (by first|exact⟨u,rfl,F,cur,eQ,fun _ _=>rfl,.gV c⟩|exact⟨u,cur,rfl,F,eQ,fun _ _=>rfl,.gV c⟩)
 |none=>have c5:=eQ.st.sx.cell O;have HVZ:=af (aN.ring.vk hz (.jN eQ.st.ex));have tu:=af (adT D.tX D.cs D.xb D.jb D.nb D.sb v D.x D.T cur (bH D.p v) D.fv D.fx D.w0 M eQ.st vD hv aN.cf aN.Vn (aN.wk.ne v hv) aN.r6 a12 (fun l hl=>aV (aN.tl l hl) Od));open q94 in exact m26):=h
def q90.k67(h:ar:=by
 go_upto_region 4 with fail
 go_loopw [7,25] (fun _ y wr=>∃k:Nat,k<=kl/\y=av k/\ah (IsBuilder tB t8 w.heap.size w.heap.size (byteCells (UInt8.ofNat v::kf ((kl.take k).map cur))) wr)/\ah (Ext w wr)) (fun _ y _=>kl - (RowKit.intOf y).toNat)
 exact⟨0,aU _,rfl,jJ,cD⟩;obtain⟨k,hk,rfl,jJ,cD⟩:=hrel;by_cases Am:k<kl
 ·open q91 in exact m30
 ·open q93 in exact m97):=h
def q89.k29(h:ar:=by
 have HKV:=af (ok.kv v hv);obtain⟨kl,m⟩:∃kl,D.key v=kl:=⟨_,rfl⟩;have Vz:=af m;rw[m] at df lB Yd Ql lR Hl Et xO;go_enter func232,ntmps232;go_upto_region 2 with fail
 refine aR fun W HX BB=> ?_;have tC:ah (IsBuilder tB t8 w.heap.size w.heap.size [] W):= .inl ⟨aL _,_,BB,mQ _ _ _ _,by simp [Value.ownBlock]⟩;have hsz:w.heap.size<=W.heap.size:=HX.size;open q90 in exact m67):=h
def ao7{α:Type}{D:Pw α}(ok:iI D 7 #[]){v:Nat}(hv:v<D.dB)(O:D.cs[5]? =some q)(hz:D.V D.w0 q D.R.zero)(hB:L3 D 13 14 236 v):GW D 13 14 232 v:=by intro cur w h vX;open q89 in exact m29
end Go.Proofs.YtehkcnbodcdijaaGreatDoor
