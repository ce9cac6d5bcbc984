/- Texts of the proof, part 13. -/
import Derived.Test.YtadbchhdjbghkaaGreatDoorA12
namespace Go.Proofs.YtadbchhdjbghkaaGreatDoor
set_option maxHeartbeats 8000000
set_option linter.all false
set_option maxRecDepth 100000
variable{aq:Prop}
open Go.RowKit Go.Lib Go.Maps Go.ChangeShapes Go.WideShapes Go.ChangeAt Go.Proofs.Tryz
variable{a b c d e f g h:Nat}{i j k l:List Nat}{m n o:World}{p q r s:Value}{t u v:List Value}{w x:TypeId}{y z:Nat→Option Nat}{A:Nat→List Nat}{B C:Int}{E F:Option Addr}{H I:Rat}{J:Nat→Nat}{K:Nat→Bool}{L:List Int}{N:Array Bool}{O:Option Nat}{Q:Act}{R S:Bool}{T:List UInt8}
abbrev uB:TypeId:=32
abbrev IZ:TypeId:=186
abbrev Fc:TypeId:=323
def rE:Option Nat->Int
 |none=> -1
 |some a=>a
def iu(n:Nat)(q:Nat->Option Nat):List Value:=(List.range n).map fun a=>av (rE (q a))
def L_(n:Nat)(q:Nat->Option Nat):(iu n q)=n:=by unfold iu;simp
def AP(h:b<a):(iu a y)[b]? =some (av (rE (y b))):=by unfold iu;rw[dL,lG h];rfl
def Z6(h:b<a):(iu a y).set b (av (rE O))=iu a (iJ y b O):=by
 refine sL fun i=> ?_;rw[o5,L_];by_cases e:b=i
 ·subst e;rw[if_pos rfl,if_pos h,AP h];unfold iJ;rw[if_pos rfl]
 ·rw[if_neg e];rcases cA i a with c|c
  ·rw[AP c,AP c];unfold iJ;rw[if_neg (fP e)]
  ·rw[fF (by rw[L_];exact c),fF (by rw[L_];exact c)]
def alo{c:VS}(d:a<i)(h:(i.take a).find? c=none):(c i[a]=true->i.find? c=some i[a])/\(c i[a]=false->(i.take (a+1)).find? c=none):=by
 constructor
 ·intro b;have e:i.find? c=(i.take a++i.drop a).find? c:=by rw[sJ]
  rw[e,List.find?_append,h,jR d,List.find?_cons,b];rfl
 ·intro b;rw[fg d,List.find?_append,h];simp [b]
def uC(d a c b:Nat):Value:= .func (.func 269) #[] #[aI d 0,aI a 0,aI c 0,aI b 0]
def Only.kept{u:TypeId}(f:Only a m n)(h:ar m a w t)(d:w≠u):Kept u m n:=fun g i j c=>(f.block g (gS c) fun e=>by injection e with e;subst e;unfold ar at h;rw[h] at c;injection c with c;injection c with _ c;exact d c).trans c
def uh:=@Only.kept
structure J2(g:List Nat)(gb UZ ob pb NK:Nat)(w0 W:au)(q:Nat->Option Nat):Prop where
 ext:Ext w0 W
 o:ar W ob uB [aG pb 0 g.length g.length]
 pl:ar W NK Fc [uC gb UZ ob NK]
 p:ar W pb aS (iu g.length q)
structure Pc(g perm:List Nat)(A B:aR)(c gb UZ ob pb NK:Nat)(w0:au):Prop where
 gl:fD w0 (.slice A g.length g.length) g
 gx:ar w0 gb IZ [.slice A g.length g.length]
 il:IL w0 (.slice B perm.length c) (ints perm)
 px:ar w0 UZ 22 [.slice B perm.length c]
 hp:w0.heap.size<=pb
 ho:ob≠pb
 hl:NK≠pb
noncomputable def td(g b:List Nat)(k:Nat)(u:Option Nat)(p:Nat->Option Nat)(c:VS):Nat->Option Nat:=match b.find? c with
 |some a=>jh g.length (eZ g) b k (VS.less c (VS.one a)) (some a) (iJ p a u)
 |none=>p
def ah_{g perm:List Nat}{k:Nat}{rest:VS}{u:Option Nat}{p:Nat->Option Nat}:jh g (eZ g) perm (k+1) rest u p=(parts (eZ g) (List.range g) rest).foldl (td g perm k u) p:=rfl
def M7(g c:List Nat)(h a f d b:Nat)(i:au)(k m:Nat)(u:Option Nat):Prop:=∀W q,J2 g h a f d b i W q->
 Calls prog 269 #[.int .u64 (m:Int),av (rE u),aI h 0,aI a 0,aI f 0,aI b 0] W fun e j=>
  e= .returned (.tuple #[])/\J2 g h a f d b i j (jh g.length (eZ g) c k m.testBit u q)/\Only d W j
def amn{g perm:List Nat}(hg:kI g)(hN:Pc g perm E F a b c d e f m)(X:∀l∈perm,l<g.length){k rest:Nat}{u:Option Nat}(hr:rest<2^g.length)
 (hC:∀s l,s.testBit∈parts (eZ g) (List.range g) rest.testBit->s.testBit l=true->M7 g perm b c d e f m k (dM s (2^l)) (some l)):M7 g perm b c d e f m (k+1) rest u:=by
 intro W q hS;obtain⟨M,L,r,U,hhp,hho,OE⟩:=hN;obtain⟨he,ho,Y,hp⟩:=hS;have HG:=af hg;have hle:=hg.le;have HR:=af hr;have zO:=af X;have qI:=af hC;have HGL:=af M;have HGX:=af L;have dA:=af r;have HPX:=af U;have HE:=af he;have HO:=af ho;have Xi:=af Y;have HP:=af hp;have HPF:=af (ah_ (g:=g) (perm:=perm) (k:=k) (rest:=rest.testBit) (u:=u) (p:=q));have wI:=(bD r).2;have w:perm=(ints perm).length:=(bD r).1;have CO:=af (Z7 E g g g rest W (M.ext he) hg hr);have s0:=(L.ext he).aF 0;have y:=af w;clear hg hr X hC M L r U he ho Y hp w;go_enter func269,ntmps269;go_wp2_with fail
 refine CO.mono ?_;rintro e1 w1 ⟨v,n,rfl,hv,H,A,O⟩;obtain⟨A',c',rfl,hc1,hc2,HV⟩:=hv.parts;unfold maxLen at hc2;rw[<-H] at HPF;have HMS:ah (∀j,j<n.length->(n.getD j 0).testBit∈parts (eZ g) (List.range g.length) rest.testBit/\n.getD j 0<2^g.length):=fun j J=>by rw[fh,aX J,<-H];exact⟨dU.2 ⟨_,a_ J,rfl⟩,A _ (a_ J)⟩
 have HFS:ah (∀j,j<n.length->((n.map Nat.testBit).take (j+1)).foldl (td g perm k u) q=td g perm k u (((n.map Nat.testBit).take j).foldl (td g perm k u) q) (n.getD j 0).testBit):=fun j J=>by rw[fold_succ _ _ (by simpa using J),vD,fh,aX J];rfl
 have bB:ah (J2 g b c d e f m w1 (((n.map Nat.testBit).take 0).foldl (td g perm k u) q)):=⟨HE.trans O,HO.ext O,Xi.ext O,HP.ext O⟩;have HY1:ah (Only e W w1):=ep O;clear s0 hv H A O;go_upto_region 1 with fail
 go_loopw [9,11,16] (fun _ _ D wr=>∃j:Nat,j<=n/\D=av j/\ah (J2 g b c d e f m wr (((n.map Nat.testBit).take j).foldl (td g perm k u) q))/\ah (Only e W wr)/\ah (fD wr (.slice A' n c') n)) (fun _ _ D _=>n - (RowKit.intOf D).toNat)
 exact⟨0,aV _,rfl,bB,HY1,HV⟩;obtain⟨j,J,rfl,t,HY,HV⟩:=hrel;by_cases I:j<n.length
 ·obtain⟨gg,o,rfl,_,hc⟩:=fD.get HV I;have HM:=af (HMS j I);have HF:=af (HFS j I);generalize((n.map Nat.testBit).take j).foldl (td g perm k u) q=qj at*;generalize n.getD j 0=s at*;have xF:=af (HG.jt HM.2);have hp0:=(HPX.ext t.ext).aF 0;have xI:ah ((perm.take 0).find? s.testBit=none):=rfl;obtain⟨wo,rfl⟩:∃wo:World,wo=wr:=⟨_,rfl⟩;go_upto_region 4 with fail
  clear hp0 hc;go_loopw [11,22] (fun _ C wq=>∃i:Nat,i<=perm/\C=av i/\ah ((perm.take i).find? s.testBit=none)/\wq=wo) (fun _ C _=>perm - (RowKit.intOf C).toNat);exact⟨0,aV _,rfl,xI,rfl⟩;obtain⟨i,hi,rfl,HI,rfl⟩:=hrel;by_cases r:i<perm
  ·obtain⟨g2,o2,rfl,_,hc⟩:=gX (bU cK dA t.ext) (i:=i) (by rw[<-y.ae];exact r);have Z:(ints perm)[i]'(by rw[<-y.ae];exact r)=((perm[i]:Nat):Int):=awA;rw[Z] at hc;have V:=zO _ (a_ r);have HNX:=af (alo r HI);clear Z;generalize perm[i]=l at*;have HH:=af (Bf s l wr xF Om);go_wp2_with fail
   refine HH.mono ?_;rintro e2 w2 ⟨rfl,rfl⟩;cases B:s.testBit l with
   |true=>
    have HFD:=af (HNX.1 B);have HQ:ah (M7 g perm b c d e f m k (dM s (2^l)) (some l)):=qI s l HM.1 B;have N:ah (td g perm k u qj s.testBit=jh g (eZ g) perm k (dM s (2^l)).testBit (some l) (iJ qj l u)):=(by unfold td;rw[HFD.ae];simp only;rw[yK,p_];exact rfl)
    have s1:=t.o.aF 0;have s2:=t.p.frozen l;have s3:=t.p.cell (AP V);have jv:=t.p.lt;obtain⟨W',hW',B7,K7,P⟩:=gG (i:=l) t.p (av (rE u));rw[Z6 V] at B7;have Dv:=af hW';clear B hW';go_upto_region 8 with fail
    rw[Dv.ae];have r_:=af (t.o.only P hho);have as3:=af (t.pl.only P OE);have GH:=af (t.ext.only P hhp);have xj:=af (HY.trans P);have Dw:ah (fD W' (aG gg o n c') n):=HV.keep p8 fun u R=>by simp only[bG] at R;rw[R];exact uh P t.p Od
    clear s1 s2 s3 K7 hc jv P;have bO:ah (∀Q,ar Q f Fc [uC b c d f]->aA Q f 0 (uC b c d f)):=fun Q h=>h.cell rfl;have z:=af as3.drew;have HB8:=af B7.drew;have nE:=af r_.drew;have KF:=af GH.drew;have HY8:=af xj.drew;have J9:=af (bU p8 Dw (aB W').drew);clear B7;have xE:=af (vZ l W'.drew Om);refine cD (S:=fun Q=>ar Q f Fc [uC b c d f]) (T:=fun _=>false) Ok ?_;generalize W'.drew=wd at*;have aH:=z;refine ax 0 34 ?_;refine ax 1 35 ?_;refine ax 2 36 ?_;refine ax 5 39 ?_;refine aO 3 ?_;intro K hK;go_simp;refine xE.mono ?_;rintro e3 w3 ⟨rfl,rfl⟩;refine hK.ae _ _ (fun _=>aH.ae) ?_;clear hK;have HW:=af (yU xF (B_ (show l<12 by omega)));generalize 2^l=pa at*;refine ax 4 38 ?_;rw[HW.ae];have pQ:=af (HQ w3 _ ⟨KF,nE,z,HB8⟩);rw[<-N.ae] at pQ;refine aO 6 ?_;intro K hK;go_simp;refine pQ.mono ?_;rintro e4 w4 ⟨rfl,x,G⟩;refine hK.ae _ _ (fun _=>x.pl) ?_;refine b_ Ok ?_;rw[<-HF.ae] at x;have uZ:=af x;have HY9:=af (HY8.trans G);have Gq:ah (fD w4 (aG gg o n c') n):=J9.keep p8 fun u R=>by simp only[bG] at R;rw[R];exact uh G HB8 Od
    clear hK x G;go_wp2;go_roundw;exact⟨j+1,by omega,by go_num,uZ,HY9,Gq⟩;simp [RowKit.intOf];omega
   |false=>have tO:=af (HNX.2 B);clear B;go_wp2;go_roundw;exact⟨i+1,by omega,by go_num,tO,trivial⟩;simp [RowKit.intOf];omega
  ·obtain rfl:i=perm.length:=Om;have N:ah (td g perm k u qj s.testBit=qj):=(by have h:=HI.ae;rw[fj] at h;unfold td;rw[ah,h])
   rw[N.ae] at HF;have d1:decide (perm<perm)=false:=Ou;go_wp2;go_roundw;exact⟨j+1,by omega,by go_num,by rw[HF.ae];exact t,HY,HV⟩;simp [RowKit.intOf];omega
 ·obtain rfl:j=n.length:=Om;have d1:decide (n<n)=false:=Ou;have ei:ah (J2 g b c d e f m wr (jh g (eZ g) perm (k+1) rest.testBit u q)):=(by have h:=t.ae;rw[show n.length=(n.map Nat.testBit).length by simp,fj] at h;rw[HPF.ae];exact h)
  go_wp2;refine bodyPost_end (results_none rfl _ _ _) rfl ?_;exact⟨rfl,ei,HY⟩
def aa3{g b:List Nat}{A B:aR}{c C h v t j:Nat}{s:au}(o:kI g)(z:Pc g b A B c C h v t j s)(l:∀a∈b,a<g.length):∀(k m:Nat) (u:Option Nat),m<2^g.length->VS.count g.length m.testBit<=k->M7 g b C h v t j s (k+1) m u
 |k,m,u,w,H=>amn o z l w fun p a E r=>by
  obtain⟨x,G,q,e⟩:=yl o.symm E;have f:∀y,p.testBit y=true->m.testBit y=true:=fun y D=>p4 o.symm q (by rw[<-e];exact D);have d:p<2^g.length:=by
   refine Nat.lt_pow_two_of_testBit _ fun i I=> ?_;cases F:p.testBit i with
   |false=>rfl
   |true=>exact absurd (rq w (f i F)) Om
  have K:=vH (n:=g) f;have J:=sT (n:=g.length) r (rq d r);match k with
  |0=>omega
  |k+1=>exact aa3 o z l k _ _ (x9 d awY) (acF d r k Om)
def Mc(n:Nat)(h:n<=1000)(w:au):
 (Instr.makeSlice 22 (av (n:Int)) (av (n:Int))).run prog w= .ok (aG w.heap.size 0 n n) (w.alloc (.cells (iu n fun _=>some 0).toArray aS)):=by
 obtain⟨g,a,d,c,b⟩:=info_parts (show(prog.info? aS).map (fun i=>(i.zero,i.size,i.bytes))=some (some (av 0),1,8) by kernel_rfl);have f:=run_make (P:=prog) w 22 aS g (av 0) underlying22 a d .i64 .i64 (n:Int) (n:Int) Om (yz _) (by rw[b];omega) Om;simp only[kg,c,kG,Value.cells,ym] at f;rw[f];have e:List.replicate n (Value.int .i64 0)=iu n fun _=>some 0:=by
  refine sL fun i=> ?_;rcases cA i n with a|a
  ·rw[AP a,Ae,if_pos a];rfl
  ·rw[fF avY,fF (by rw[L_];exact a)]
 rw[e]
noncomputable def mA(x:aP)(a:List Nat):Nat->Option Nat:=jh x.ai.length (eZ (gF x.ai.length x.ay)) a (x.ai.length+1) (iK x.ai.length) none fun _=>some 0
def q77.T2(h:aq:=by
 have Yt:=af (BP.ext hx);have tW:=af (BR.ext hx);clear s0 s1 s2 s3 hx hv BX BP BR;go_upto_region 2 with fail
 refine aT fun r l BG=> ?_;have s0:=BG.aF 0;go_upto_region 3 with fail
 refine fR fun W3 cH BPA BO=> ?_;clear s0 kR;go_upto_region 4 with fail
 refine aT fun W4 H BL=> ?_;have f0:=BL.frozen 0;have s0:=BL.aF 0;obtain⟨E,U,B5,K5,N5⟩:=gG (i:=0) BL.ae (uC w1.heap.size (w.heap.size+1) (r.heap.size+1) W3.heap.size);have X:=af U;unfold uC at X;clear U;go_upto_region 5 with fail
 rw[X.ae];have h21:=BO.lt;have h12:=BG.lt;have h01:=tW.lt;have hws:=bQ.size;have n:ah (Ext r E):=(cH.trans H).only N5.ae Om;have vw:=af ((BO.ext H).only N5.ae Om);have at1:=af ((BPA.ext H).only N5.ae Om);have HPN:ah (Pc g b A1 B c w1.heap.size (w.heap.size+1) (r.heap.size+1) r.heap.size W3.heap.size r):=
  ⟨bU p8 sj l,BG,bU cK dA (bQ.trans l),Yt.ext l,aK _,by omega,by omega⟩
 have Z:=af (HPC _ _ _ _ _ _ _ HPN);have XH:=af (BG.ext n);have HL5:=af (bU p8 sj (l.trans n));have jC:=af (tW.ext (l.trans n));have Ds:ah (Ext w E):=bQ.trans (l.trans n);have O:w.heap.size<=r.heap.size:=Om;have F:w.heap.size+1+1≠r.heap.size:=Om;have VU:w1.heap.size≠r.heap.size:=Om;clear f0 s0 K5 N5 BL BO BPA BG h21 h12 h01;obtain⟨rb,M⟩:∃rb,w.heap.size+1+1=rb:=⟨_,rfl⟩;have L:w.heap.size<=rb:=Om;rw[M] at jC F⊢;clear M;generalize w1.heap.size=q at*;generalize w.heap.size+1=k at*;generalize W3.heap.size=f at*;obtain⟨C,P⟩:∃C,r.heap.size+1=C:=⟨_,rfl⟩;rw[P] at vw Z B5⊢;clear P;generalize r.heap.size=s at*;have bO:ah (∀j,(ar j f Fc [uC q k C f]/\ar j q IZ [.slice A1 g g])->aA j f 0 (uC q k C f)/\aA j q 0 (.slice A1 g g)):=fun j h=>⟨h.1.cell rfl,h.2.cell rfl⟩;have aH:ah (ar E.drew f Fc [uC q k C f]/\ar E.drew q IZ [.slice A1 g g]):=⟨B5.drew,XH.drew⟩;have PF:=af (X9 A1 E.drew (bU p8 HL5 (aB E).drew));have Y:=af (Z E.drew _ ⟨n.drew,vw.drew,B5.drew,at1.drew⟩);rw[<-I.ae] at Y;have dX:=af Ds.drew;have Yr:=af jC.drew;clear B5;refine cD (S:=fun j=>ar j f Fc [uC q k C f]/\ar j q IZ [.slice A1 g g]) (T:=fun _=>false) Ok ?_;generalize E.drew=wd at*;refine ax 0 15 ?_;refine ax 1 16 ?_;refine aO 2 ?_;intro K V;go_simp;refine PF.mono ?_;rintro e2 w2 ⟨rfl,rfl⟩;refine V.ae _ _ (fun _=>aH.ae) ?_;clear V;refine aO 3 ?_;intro K V;go_simp;refine Y.mono ?_;rintro e3 w3 ⟨rfl,u,t⟩;refine V.ae _ _ (fun _=>⟨u.pl,aH.2.only t VU⟩) ?_;refine b_ Ok ?_;have J:=af (Yr.only t F);have gK:=af (dX.only t O);have BP7:=af u.p;have s0:=u.o.aF 0;have r0:=J.aF 0;have f0:=J.frozen 0;obtain⟨W8,R,B8,K8,N8⟩:=gG (i:=0) J.ae (aG s 0 g g);have J8:=af R;have j8:=af (gK.only N8 L);have KZ:=af (BP7.only N8 (fP F));clear V u t R K8 N8;go_wp2_with fail
 rw[J8.ae];exact bodyPost_ret (results_cell_row rfl _ _ rb uB #[aG s 0 g g] (0,0) _ rfl B8.ae underlying32 rfl Ok) rfl ⟨s,rfl,KZ,O,j8⟩):=h
def amz(v:Value)(x:aP)(B:aR)(c:Nat)(b:List Nat)(w:au)(h:dN w v x)(ok:bR x)(hp:IL w (.slice B b c) (ints b))(z:∀a∈b,a<x.ai):
 Calls prog 236 #[v,.slice B b c] w fun e j=>∃s,e= .returned (.agg #[aG s 0 x.ai x.ai])/\ar j s aS (iu x.ai (mA x b))/\w.heap.size<=s/\Ext w j:=by
 have CN:=af (fun W (hx:Ext w W)=>Sc v x W (h.ext hx) ok);have G:=yG ok.ri;have hg:=G.ok ok.a12;have Q:=G.len;have I:ah (mA x b=jh x.ai (eZ (gF x.ai x.ay)) b (x.ai.length+1) (iK x.ai) none fun _=>some 0):=rfl;generalize mA x b=pF at*;generalize gF x.ai.length x.ay=g at*;obtain⟨A,c1,B1,d,D,e,rfl,ha,hr,hf⟩:=h;obtain⟨N,hN⟩:∃N,x.ai.length=N:=⟨_,rfl⟩;rw[hN] at CN Q I z⊢;subst Q;have hle:=hg.le;have HG:=af hg;have dA:=af hp;have zO:=af z;have kR:=Mc g Om;have X9:=af (fun A j (h:fD j (.slice A g g) g)=>aca A g g g j h hle);have m:(2^g.length - 1).testBit=iK g.length:=by
  funext y
  rw[ag'];rfl
 have HPC:=af (fun(A:aR) (q k C s f:Nat) (w0:au) (hN:Pc g b A B c q k C s f w0)=>aa3 (A:=A) hg hN z g (2^g.length - 1) none axb (by rw[m,EB];exact aK _));rw[<-m] at I;generalize 2^g.length - 1=all at*;clear hg hp z G ha hr hf ok hN m;go_enter func236,ntmps236;go_upto_region 1 with fail
 refine qq fun W HX BX BP BR=> ?_;open q77 in exact TS
def aml{b:Act}(h:b.tmps[a]? =some p):b.put (some a) p=b:=by
 obtain⟨tmps,c⟩:=b;simp only[Act.put,Act.mk.injEq,and_true];apply Array.ext
 ·simp
 ·intro i g f;rw[Array.getElem_setIfInBounds];split
  ·rename_i e;subst e;rw[YE f] at h;injection h with h;exact h.symm
  ·rfl
def aoc(a:Act)(d:Nat)(u v:Value):(a.put (some d) u).put (some d) v=a.put (some d) v:=by obtain⟨c,b⟩:=a;simp [Act.put,Array.setIfInBounds_setIfInBounds]
section
variable{P:Program}{ops:Array Oper}{Q:Exit->Act->World->Prop}{md:Region.Mode}{S:World->Prop}{T:Nat->Bool}
section
variable{fT i1 d1 i2 d2 base:Nat}{t1 t2:TypeId}{z1 z2:List Value}
end
end
def eK(a:Act):List Nat->Nat->(Nat->Value)->Act
 | [],_,_=>a
 |d::ds,k,b=>(eK a ds (k+1) b).put (some d) (b k)
def wu(a:Nat->Value)(k:Nat)(v:Value):Nat->Value:=fun j=>if j=k then v else a j
def Zo{a:Act}{b UV:Nat->Value}:∀{ds:List Nat} {k:Nat},(∀j,k<=j->b j=UV j)->eK a ds k b=eK a ds k UV
 | [],_,_=>rfl
 |d::ds,k,h=>by unfold eK;rw[Zo (ds:=ds) (k:=k+1) fun j c=>h j Om,h k (aK _)]
def Z4{a:Act}{f:Nat->Value}{v:Value}:∀{ds:List Nat} {b i d:Nat},ds.Nodup->ds[i]? =some d->(eK a ds b f).put (some d) v=eK a ds b (wu f (b+i) v)
 | [],_,_,_,_,h=>by simp at h
 |c::ds,b,0,d,l,h=>by simp only[dy,cY] at h;subst h;unfold eK;rw[aoc,Zo (UV:=wu f (b+0) v) fun j q=>by unfold wu;rw[if_neg Om]];congr 1;unfold wu;rw[if_pos Om]
 |c::ds,b,i+1,d,l,h=>by
  obtain⟨o,n⟩:=i6.1 l;have m:ds[i]? =some d:=av7;have g:c≠d:=fun e=>o (e▸sK m);unfold eK;rw[Act.put_comm _ _ _ (fun e k=>by injection k with k;simp [<-k,fP g]),Z4 n m];have p:wu f (b+(i+1)) v b=f b:=by unfold wu;rw[if_neg Om]
  rw[p,show b+1+i=b+(i+1) by omega]
def ZB{a:Act}{e:Nat->Value}:∀{ds:List Nat} {b:Nat},(∀i d,ds[i]? =some d->a.tmps[d]? =some (e (b+i)))->eK a ds b e=a
 | [],_,_=>rfl
 |d::ds,b,h=>by unfold eK;rw[ZB fun i c f=>by have:=h (i+1) c awp;rwa[show b+1+i=b+(i+1) by omega]];exact aml (by simpa using h 0 d rfl)
structure sZ where
 i:Nat
 d:Nat
 R:Value->World->Prop
section
variable{P:Program}{ops:Array Oper}{Q:Exit->Act->World->Prop}{md:Region.Mode}{S:World->Prop}{T:Nat->Bool}
def II(md:Region.Mode)(ops:Array Oper)(is:List Nat)(deps:List (List Nat))(Lf:Array Bool):Nat->List Nat->Array Bool->Bool
 |0,a,L=>a.isEmpty&&L==Lf
 |f+1,a,L=> !(Region.ready md ops L).isEmpty&&(Region.ready md ops L).all fun i=>a.any fun k=>is.getD k 0==i&&(deps.getD k []).all (fun j=> !a.contains j&&decide (j<is.length))&&II md ops is deps Lf f (a.erase k) (L.setIfInBounds (is.getD k 0) true)
variable{items:List sZ}{I:World->Prop}{D:Value->Value->Prop}{a0:Act}{ds is:List Nat}{deps:List (List Nat)}{Lf:Array Bool}{fT:Nat}
theorem bZ.adO(y:items.map (·.i)=is)(H:items.map (·.d)=ds)(hn:ds.Nodup)(J:∀w,I w->S w)
 (hstep:∀(k:Nat) (b:sZ),items[k]? =some b->∀(g:Nat->Value) (w:au),I w->(∀j∈deps.getD k [],∀(c:sZ),items[j]? =some c->c.R (g j) w)->(∀j∈deps.getD k [],∀p∈deps.getD k [],j≠p->D (g j) (g p))->∀o,ops[b.i]? =some o->∀K:Act->World->Prop,ah (∀v E,I E->b.R v E->(∀(j:Nat) (c:sZ),items[j]? =some c->j≠k->∀u,c.R u w->c.R u E/\D u v/\D v u)->K ((eK a0 ds 0 g).put (some b.d) v) E)->if Region.wanted o (yielded ops (eK a0 ds 0 g).tmps)=true then o.wp P (eK a0 ds 0 g) w K Q else K ((eK a0 ds 0 g).put o.dst undef) w)
 (A:∀(g:Nat->Value) (w:au),I w->(∀(k:Nat) (b:sZ),items[k]? =some b->b.R (g k) w)->(∀(j k:Nat),j<items->k<items->j≠k->D (g j) (g k))->bZ P md ops Q S T fT Lf (eK a0 ds 0 g) w):
 ∀(f:Nat) (a:List Nat) (L:Array Bool) (g:Nat->Value) (w:au),II md ops is deps Lf f a L=true->a.Nodup->(∀k∈a,k<items)->I w->(∀(k:Nat) (b:sZ),items[k]? =some b->k∉a->b.R (g k) w)->
  (∀(j k:Nat),j<items->k<items->j∉a->k∉a->j≠k->D (g j) (g k))->bZ P md ops Q S T (f+fT) L (eK a0 ds 0 g) w
 |0,a,L,g,w,z,_,_,W,F,N=>by
  unfold II at z;rw[cZ,beq_iff_eq] at z;obtain⟨G,rfl⟩:=z;have G:a= []:=by simpa using G
  subst G;rw[ja];exact A g w W (fun k b C=>F k b C Ou) (fun j k n U=>N j k n U Ou Ou)
 |f+1,a,L,g,w,z,hr,hl,W,F,N=>by
  unfold II at z;rw[cZ] at z;obtain⟨G,h2⟩:=z;rw[show f+1+fT=(f+fT)+1 by omega];refine⟨fun h0=>by rw[h0] at G;simp at G,fun i hi=> ?_⟩;rw[sP] at h2;obtain⟨k,U,q⟩:=o9.1 (h2 i hi);rw[cZ,cZ] at q;obtain⟨⟨q,r⟩,h4⟩:=q;have r:∀j∈deps.getD k [],j∉a/\j<items.length:=fun j n=>by have h:=sP.1 r j n;rw[cZ,sM,<-sQ,nN,decide_eq_true_eq,<-y,bW] at h;exact h
  have O:=hl k U;have C:items[k]? =some items[k]:=aX O;have q:i=items[k].i:=(by rw[beq_iff_eq] at q;rw[<-q,<-y,fh,dL,C];rfl)
  subst q;have V:ds[k]? =some items[k].d:=by rw[<-H,dL,C];rfl
  rw[show is.getD k 0=items[k].i by rw[<-y,fh,dL,C];rfl] at h4;refine bZ.of (items[k].i) hi fun o ho K hK=> ?_;refine hstep k _ C g w W (fun j n c z=>F j c z (r j n).1) (fun j n p t l=>N j p (r j n).2 (r p t).2 (r j n).1 (r p t).1 l) o ho K fun v E M hv B=> ?_;rw[Z4 hn V,ja];refine hK.ae _ _ (fun _=>J _ M) ?_;have m:∀j,j∉a.erase k->j≠k->j∉a:=fun j n l hm=>n ((List.mem_erase_of_ne l).2 hm);refine bZ.adO y H hn J hstep A f (a.erase k) _ (wu g k v) E h4 (hr.erase k) (fun j n=>hl j (List.mem_of_mem_erase n)) M (fun j b s n=> ?_) (fun j p n t Z Y l=> ?_)
  ·unfold wu;by_cases e:j=k
   ·subst e;rw[if_pos rfl];rw[C] at s;injection s with s;rw[<-s];exact hv
   ·rw[if_neg e];exact(B j b s e _ (F j b s (m j n e))).1
  ·unfold wu;by_cases e:j=k
   ·subst e;rw[if_pos rfl,if_neg (fP l)];have x:items[p]? =some items[p]:=aX t;exact(B p _ x (fP l) _ (F p _ x (m p Y (fP l)))).2.2
   ·by_cases X:p=k
    ·subst X;rw[if_neg e,if_pos rfl];have x:items[j]? =some items[j]:=aX n;exact(B j _ x e _ (F j _ x (m j Z e))).2.1
    ·rw[if_neg e,if_neg X];exact N j p n t (m j Z e) (m p Y X) l
theorem bZ.O8(items:List sZ)(I:World->Prop)(D:Value->Value->Prop)(is ds:List Nat)(deps:List (List Nat))(Lf:Array Bool)(f fT:Nat){g:Act}(y:a=f+fT)
 (p:items.map (·.i)=is) (z:items.map (·.d)=ds) (G:ds.Nodup) (s:ds.all (fun d=>decide (d<g.tmps.size))=true) (A:II md ops is deps Lf f (List.range is.length) N=true) (B:∀m,I m->S m) (M:I m)
 (hstep:∀(k:Nat) (b:sZ),items[k]? =some b->∀(l:Nat->Value) (m:au),I m->(∀j∈deps.getD k [],∀(c:sZ),items[j]? =some c->c.R (l j) m)->(∀j∈deps.getD k [],∀E∈deps.getD k [],j≠E->D (l j) (l E))->∀o,ops[b.i]? =some o->∀K:Act->World->Prop,ah (∀v r,I r->b.R v r->(∀(j:Nat) (c:sZ),items[j]? =some c->j≠k->∀u,c.R u m->c.R u r/\D u v/\D v u)->K ((eK g ds 0 l).put (some b.d) v) r)->if Region.wanted o (yielded ops (eK g ds 0 l).tmps)=true then o.wp P (eK g ds 0 l) m K Q else K ((eK g ds 0 l).put o.dst undef) m)
 (q:∀(l:Nat->Value) (m:au),I m->(∀(k:Nat) (b:sZ),items[k]? =some b->b.R (l k) m)->(∀(j k:Nat),j<items.length->k<items.length->j≠k->D (l j) (l k))->bZ P md ops Q S T fT Lf (eK g ds 0 l) m):
 bZ P md ops Q S T a N g m:=by
 have n:is.length=items.length:=by rw[<-p];simp
 have e:eK g ds 0 (fun k=>g.tmps.getD (ds.getD k 0) undef)=g:=ZB fun i d F=>by
  rw[ja,fh,F];have C:=sP.1 s d (sK F);have C:d<g.tmps.size:=by simpa using C
  simp [Array.getD,C]
 rw[y];have h:=bZ.adO p z G B hstep q f (List.range is.length) N (fun k=>g.tmps.getD (ds.getD k 0) undef) m A qQ (fun k t=>by rw[<-n];exact dB.1 t) M
  (fun k b J t=>absurd (dB.2 (by rw[n];exact(t_.1 J).1)) t) (fun j k H _ x _ _=>absurd (dB.2 (by rw[n];exact H)) x)
 rwa[e] at h
end
abbrev cI:TypeId:=22
structure cO(w:au)(base:Nat)(vs:List Value)(ls:List (List Nat)):Prop where
 len:vs.length=ls.length
 own:∀(i:Nat) (v:Value) (l:List Nat),vs[i]? =some v->ls[i]? =some l->bI aS 1 dO base w v (ints l)
 ap:∀(i j:Nat) (v u:Value),vs[i]? =some v->vs[j]? =some u->i≠j->∀b,v.ownBlock=some b->u.ownBlock≠some b
def lg(l:List Nat):(ints l).length=l.length:=by unfold ints;simp
def RD(l:List Nat)(a:Nat):ints (l++ [a])=ints l++ [(a:Int)]:=by unfold ints;rw[kD];rfl
section
variable{w w':au}{base:Nat}{vs:List Value}{ls:List (List Nat)}
theorem bI.blk{α:Type}{R:World->List Value->α->Prop}{l:List α}(h:bI x a R base w p l)(d:p.ownBlock=some b):base<=b/\b<w.heap.size/\∃c,w.heap[b]? =some (.cells c x (0,0)):=by
 obtain⟨j,f,_⟩:=h;have e:=f.lt b d;refine⟨e.1,e.2,?_⟩;rcases f.2 with⟨rfl,_⟩|⟨m,i,c,rfl,_,g,_⟩
 ·cases d
 ·simp only[Value.ownBlock,cY] at d;subst d;exact⟨c,g⟩
theorem bI.lower{α:Type}{R:World->List Value->α->Prop}{l:List α}(h:bI x a R c w p l)(n:b<=c):bI x a R b w p l:=by
 obtain⟨j,⟨r,d⟩,q⟩:=h;refine⟨j,⟨r,?_⟩,q⟩;rcases d with d|⟨g,i,f,e,m,o⟩
 ·exact .inl d
 ·exact .inr ⟨g,i,f,e,a7 n m,o⟩
theorem cO.at_(h:cO w base vs ls)(c:a<ls):∃v,vs[a]? =some v/\bI aS 1 dO base w v (ints ls[a]):=by have b:vs[a]? =some (vs[a]'(by rw[h.len];exact c)):=aX _;exact⟨_,b,h.own a _ _ b (aX c)⟩
theorem cO.grown(h:cO w base vs ls)(f:w.grownBy w' O)(c:∀k,O=some k->∀v∈vs,v.ownBlock≠some k):cO w' base vs ls:=
 ⟨h.len,fun i v l a d=>(h.own i v l a d).grown cK f (fun k e=>c k e v (sK a)) Oe,h.ap⟩
theorem cO.ext(h:cO w base vs ls)(a:Ext w w'):cO w' base vs ls:=h.grown (Mk a) fun k b=>by cases b
theorem cO.only(h:cO w base vs ls){l:List Value}(m:Only g w w')(e:ar w g x l)(j:x≠aS):cO w' base vs ls:=h.grown m fun k b v f n=>by
 injection b with b;subst b;obtain⟨i,d⟩:=List.getElem?_of_mem f;have c:i<ls.length:=by rw[<-h.len];exact(t_.1 d).1
 obtain⟨_,_,o,a⟩:=(h.own i v _ d (aX c)).blk n;unfold ar at e;rw[e] at a;injection a with a;injection a with _ a;exact j a
theorem cO.low(h:cO w base vs ls)(f:Only a w w')(l:a<base):cO w' base vs ls:=h.grown f fun k b v e j=>by
 injection b with b;subst b;obtain⟨i,d⟩:=List.getElem?_of_mem e;have c:i<ls.length:=by rw[<-h.len];exact(t_.1 d).1
 have:=((h.own i v _ d (aX c)).blk j).1;omega
theorem cO.app(h:cO w base vs ls){i x:Nat}(B:vs[i]? =some p)(r:i<ls.length)(n:w.ownsRow base aS 1 p (ints ls[i]).length t)(F:Ch (dO w) t (ints ls[i]))
 (D:w'.ownsRow base aS 1 q ((ints ls[i]).length+1) (t++ [av (x:Int)])) (C:w.grownBy w' p.ownBlock) (hb:q.ownBlock=p.ownBlock\/∃k,q.ownBlock=some k/\w.heap.size<=k):cO w' base (vs.set i q) (ls.set i (ls[i]++ [x])):=by
 have y:∀(j:Nat) (u:Value),vs[j]? =some u->∀b,u.ownBlock=some b->b<w.heap.size:=fun j u hu b hb=>by exact aeO
 have o:∀(j:Nat) (u:Value),vs[j]? =some u->i≠j->∀b,q.ownBlock=some b->u.ownBlock≠some b:=fun j u hu c b d m=>by
  rcases hb with hb|⟨k,z,E⟩
  ·exact h.ap i j p u B hu c b (by rw[<-hb];exact d) m
  ·rw[z] at d;injection d with d;have:=y j u hu b m;omega
 refine⟨by rw[sR,sR,h.len],fun j u l hu g=> ?_,fun j s u A hu a e=> ?_⟩
 ·rw[o5] at hu g;by_cases c:i=j
  ·subst c;rw[if_pos rfl,if_pos aw7] at hu;rw[if_pos rfl,if_pos r] at g;injection hu with hu;injection g with g;subst hu g;rw[RD];exact jc (R:=dO) (x:=(x:Int)) cK Oe n F rfl D C
  ·rw[if_neg c] at hu g;exact(h.own j u l hu g).grown cK C (fun k z m=>h.ap i j p u B hu c k z m) Oe
 ·rw[o5] at hu a;by_cases c:i=j
  ·subst c;rw[if_pos rfl,if_pos aw7] at hu;rw[if_neg e] at a;injection hu with hu;subst hu;exact o s A a e
  ·rw[if_neg c] at hu;by_cases f:i=s
   ·subst f;rw[if_pos rfl,if_pos aw7] at a;injection a with a;subst a;exact fun b hb m=>o j u hu (fP e) b m hb
   ·rw[if_neg f] at a;exact h.ap j s u A hu a e
theorem cO.put(h:cO w base vs ls){i:Nat}(x:Ext w w')(m:i<ls.length)(t:bI aS 1 dO w.heap.size w' p (ints k))(hb:base<=w.heap.size):cO w' base (vs.set i p) (ls.set i k):=by
 have q:∀(j:Nat) (u:Value),vs[j]? =some u->∀b,u.ownBlock=some b->b<w.heap.size:=fun j u hu b hb=>by exact aeO
 have f:∀(j:Nat) (u:Value),vs[j]? =some u->∀b,p.ownBlock=some b->u.ownBlock≠some b:=fun j u hu b o r=>by have y:=(t.blk o).1;have v:=q j u hu b r;omega
 have v:=h.ext x;refine⟨by rw[sR,sR,h.len],fun j u l hu e=> ?_,fun j n u s hu a g=> ?_⟩
 ·rw[o5] at hu e;by_cases c:i=j
  ·subst c;rw[if_pos rfl,if_pos aw8] at hu;rw[if_pos rfl,if_pos m] at e;injection hu with hu;injection e with e;subst hu e;exact t.lower hb
  ·rw[if_neg c] at hu e;exact v.own j u l hu e
 ·rw[o5] at hu a;by_cases c:i=j
  ·subst c;rw[if_pos rfl,if_pos aw8] at hu;rw[if_neg g] at a;injection hu with hu;subst hu;exact f n s a
  ·rw[if_neg c] at hu;by_cases d:i=n
   ·subst d;rw[if_pos rfl,if_pos aw8] at a;injection a with a;subst a;exact fun b hb r=>f j u hu b r hb
   ·rw[if_neg d] at a;exact h.ap j n u s hu a g
theorem cO.TQ(w:au)(base n:Nat):cO w base (List.replicate n (.slice none 0 0)) (List.replicate n []):=
 ⟨by simp,fun i v l a c=>by
  have a:=(qN.1 (sK a)).2;have c:=(qN.1 (sK c)).2;subst a c;exact jf,fun i j v u a _ _ b d=>by
  have a:=(qN.1 (sK a)).2;subst a;cases d⟩
end
def cO.O9{w:au}{base:Nat}{vs:List Value}{ls:List (List Nat)}(h:cO w base vs ls)(g:ls[a]? =some i):∃A c b,vs[a]? =some (.slice A i c)/\ah (w.ownsRow base aS 1 (.slice A i c) i b)/\ah (Ch (dO w) b (ints i)):=by obtain⟨j,rfl⟩:=t_.1 g;obtain⟨v,d,f⟩:=h.at_ j;obtain⟨A,c,b,rfl,_,_,e,k⟩:=f.parts;rw[lg] at d e;exact⟨A,c,b,d,e,k⟩
def cO.agB{w w':au}{base:Nat}{vs:List Value}{ls:List (List Nat)}(h:cO w base vs ls)(d:vs[a]? =some p)(f:ls[a]? =some i)(c:w.ownsRow base aS 1 p i t)(m:Ch (dO w) t (ints i))
 (e:w'.ownsRow base aS 1 q (i.length+1) (t++ [av (b:Int)])) (j:w.grownBy w' p.ownBlock) (n:q.ownBlock=p.ownBlock\/∃k,q.ownBlock=some k/\w.heap.size<=k):cO w' base (vs.set a q) (ls.set a (i++ [b])):=by
 obtain⟨g,rfl⟩:=t_.1 f;exact h.app d g (by rw[lg];exact c) m (by rw[lg];exact e) j n
abbrev qD:=Ls cI (np aS dO)
def qD.iI:js [aS,aS] (np aS dO):=fun w w' c x b h=>np.iI (T:= []) cK w w' c x (fun t a=>b t avY) h
def cO.ch{w:au}{base:Nat}:∀{vs:List Value} {ls:List (List Nat)},cO w base vs ls->Ch (np aS dO w) vs (ls.map ints)
 | [],[],_=>rfl
 | [],_::_,h=>by have:=h.len;simp at this
 |_::_,[],h=>by have:=h.len;simp at this
 |v::vs,l::ls,h=>by have b:=h.own 0 v l rfl rfl;obtain⟨A,c,g,rfl,_,_,_,_⟩:=b.parts;refine⟨[.slice A (ints l) c],vs,rfl,⟨A,c,rfl,b.ls⟩,?_⟩;exact cO.ch ⟨by have:=h.len;simpa using this,fun i v l a e=>h.own (i+1) v l avY av8,fun i j v u a d f=>h.ap (i+1) (j+1) v u avY awq Om⟩
def cO.Vb{w:au}{base:Nat}{vs:List Value}{ls:List (List Nat)}(h:cO w base vs ls)(d:ar w a cI vs)(c:ls.length=b)(e:b<=1000):qD w (aG a 0 b b) (ls.map ints):=by have:=k9 (R:=np aS dO) d h.ch Oc;simpa [c] using this
def IP(m:Nat):List Nat:=(List.range 12).filter m.testBit
def aci(d:a<2^b)(g:b<=12):IP a=(List.range b).filter a.testBit:=by
 unfold IP;have e:List.range 12=List.range b++(List.range (12 - b)).map (b+·):=by rw[<-List.range_add];congr 1;omega
 have f:((List.range (12 - b)).map (b+·)).filter a.testBit= []:=YL.2 fun x c=>by obtain⟨y,_,rfl⟩:=dU.1 c;rw[YJ (cF d (fN Om Om))];decide
 rw[e,qO,f,i7]
def akN(m:Nat)(w:au)(E:m<4096):
 Calls prog 268 #[.int .u64 m] w fun e w'=>∃v,e= .returned v/\bI aS 1 dO w.heap.size w' v (ints (IP m))/\Ext w w':=by
 have A:=af E;go_enter func268,ntmps268;go_upto_region 3 with fail
 go_loopw [3,4] (fun B k wr=>∃a:Nat,a<=12/\k=av a/\ah (bI aS 1 dO w.heap.size wr B (ints ((List.range a).filter m.testBit)))/\ah (Ext w wr)) (fun _ k _=>12 - (RowKit.intOf k).toNat)
 exact⟨0,aV _,rfl,jf,aB _⟩;obtain⟨a,G,rfl,g,f⟩:=hrel;by_cases q:m/2^a=0
 ·have o:m<2^a:=by
   rcases cA m (2^a) with h|h
   ·exact h
   ·have:=Nat.div_pos h (yf a);omega
  have J:ah ((List.range a).filter m.testBit=IP m):=(aci o G).symm;rw[J.ae] at g;have d1:((m:Int)/2^a !=0)=false:=by rw[Tm,q];rfl
  go_wp2;go_ret;exact⟨_,rfl,g,f⟩
 ·have y:a<12:=by
   rcases cA a 12 with h|h
   ·exact h
   ·exact absurd (Lu (cF A (fN (n:=2) (i:=12) Om h))) q
  have d1:((m:Int)/2^a !=0)=true:=by rw[Tm,bne_iff_ne];exact Int.natCast_ne_zero.2 q
  have I:=af (Bf m a wr A Om);have j:ah ((List.range (a+1)).filter m.testBit=(List.range a).filter m.testBit++if m.testBit a=true then [a] else []):=(by rw[ah,Hg,qO];congr 1;by_cases d:m.testBit a=true<;>simp [d])
  have F:((List.range a).filter m.testBit)<=a:=by have:=mm m.testBit (List.range a);simpa using this
  go_wp2_with fail
  refine I.mono ?_;rintro P N ⟨rfl,rfl⟩;cases d:m.testBit a with
  |false=>
   rw[d] at j;have r:ah ((List.range (a+1)).filter m.testBit=(List.range a).filter m.testBit):=by rw[ah,j.ae];simp
   go_wp2;go_roundw;exact⟨a+1,by omega,by go_num,by rw[r.ae];exact g,f⟩;simp [RowKit.intOf];omega
  |true=>
   rw[d,if_pos rfl] at j;generalize(List.range a).filter m.testBit=H at*;obtain⟨S,Q,L,rfl,_,t,b,s⟩:=g.parts;have C:=f.size;have p:((ints H).length+1)*8<=140737488355328:=by rw[lg];omega
   go_wp2_with (at_builtin;refine gQ rfl _ _ cI rfl w.heap.size jE _ _ _ rfl b.ae #[av (a:Int)] 1 1 rfl rfl rfl p C ?_)
   intro O M l c _;have z:=af (jc (R:=dO) (x:=(a:Int)) cK Oe b s rfl l c);rw[<-RD,<-j.ae] at z;have K:=af (mn f b c (aK _));go_wp2;go_roundw;exact⟨a+1,by omega,by go_num,z,K⟩;simp [RowKit.intOf];omega
def tv(n:Nat)(p:Nat->Option Nat)(v:Nat):List Nat:=(eH n p (fun _=> []) v).vars
def Hc{a:Nat->List Nat}{f:Nat->Fo}:∀l:List Nat,(dZ a f l).vars=l.flatMap fun c=>c::(f c).vars
 | []=>rfl
 |c::l=>by
  show c::((f c).vars++(dZ a f l).vars)=_
  rw[Hc l,vB];rfl
def adX(r:cX a y J)(v:Nat):tv a y v=v::(kids a y (some v)).flatMap (tv a y):=by have h:ji a y (fun _=> []) v=dZ (fun _=> []) (ji a y (fun _=> [])) (kids a y (some v)):=sS r Om;unfold tv eH;simp only[Fo.vars,i7];rw[h,Hc]
def YY{n:Nat}{p:Nat->Option Nat}{b h2:Nat->List Nat}:∀(k:Nat) (u:Option Nat),(d_ n p b k u).vars=(d_ n p h2 k u).vars
 |0,_=>rfl
 |k+1,u=>by
  show(dZ b (fun a=>d_ n p b k (some a)) (kids n p u)).vars=(dZ h2 (fun a=>d_ n p h2 k (some a)) (kids n p u)).vars
  rw[Hc,Hc];congr 1;funext c;rw[YY k (some c) (h2:=h2)]
def anX(v:Nat):(eH a y A v).vars=tv a y v:=by unfold tv eH ji;simp only[Fo.vars];rw[YY a (some v) (h2:=fun _=> [])]
def pB(n:Nat)(p:Nat->Option Nat)(g:List Nat)(v:Nat):VS:=fun y=>(tv n p v).any fun b=>(g.getD b 0).testBit y
def amN{g:List Nat}(r:cX a y J)(v b:Nat):pB a y g v b=((g.getD v 0).testBit b||(kids a y (some v)).any fun c=>pB a y g c b):=by unfold pB;rw[adX r v,Qh,List.any_flatMap]
noncomputable def bE(p:Nat->Option Nat)(v:Nat):VS:=fun a=> @decide (dw p (some a) v) (Classical.propDecidable _)
def qZ:bE y a b=true↔dw y (some b) a:=by unfold bE;exact @decide_eq_true_iff _ (Classical.propDecidable _)
noncomputable def n_(n:Nat)(p:Nat->Option Nat)(g:List Nat)(v:Nat):List Nat:=(List.range n).filter fun a=>pB n p g v a&&bE p v a
def yM{p:Nat->Option Nat}(h:p b=some a):bE p b=fun d=>bE p a d||VS.one a d:=by
 funext d
 rw[lI,qZ,kE,qZ];unfold VS.one;rw[beq_iff_eq];constructor
 ·intro k;rcases k.inv with e|⟨f,e,k⟩
  ·rw[h] at e;injection e with e;exact .inr e.symm
  ·rw[h] at e;injection e with e;subst e;exact .inl k
 ·rintro(k|k)
  ·exact .up h k
  ·subst k;have:=dw.step (p:=p) b;rwa[h] at this
def abD(h:y a=none):bE y a=fun _=>false:=by
 funext d
 rw[<-sQ,qZ];intro k;rcases k.inv with e|⟨b,e,k⟩
 ·rw[h] at e;cases e
 ·rw[h] at e;cases e
def Zi{c:VS}{v:Nat}(g:c v=false):∀{l:List Nat},l.Nodup->v∈l->l.countP (fun a=>c a||VS.one v a)=l.countP c+1
 |x::l,j,h=>by
  obtain⟨n,m⟩:=i6.1 j;have d:∀l:List Nat,v∉l->l.countP (fun a=>c a||VS.one v a)=l.countP c:=fun l f=>List.countP_congr fun a k=>by
   have:VS.one v a=false:=by unfold VS.one;rw[beq_eq_false_iff_ne];exact fun e=>f (e▸k)
   rw[this,vI]
  by_cases e:x=v
  ·subst e;have b:VS.one x x=true:=by simp [VS.one]
   rw[PR (by rw[b];simp),PS (by rw[g];decide),d l n]
  ·have f:v∈l:=by
    rcases aJ.1 h with h|h
    ·exact absurd h.symm e
    ·exact h
   have b:VS.one v x=false:=by unfold VS.one;rw[beq_eq_false_iff_ne];exact e
   have i:=Zi g m f;rw[List.countP_cons,List.countP_cons,i,b,vI];omega
def Z2{n m:Nat}{p:Nat->Option Nat}{d:Nat->Nat}(r:cX n p d)(i:n<=m):∀(k v:Nat),v<n->d v=k->VS.count m (bE p v)=k
 |0,v,a,j=>by
  have g:p v=none:=by
   cases h:p v with
   |none=>rfl
   |some b=>have:=(r.up v b a h).2;omega
  rw[abD g];exact List.countP_eq_zero.2 fun _ _=>by decide
 |k+1,v,a,j=>by
  obtain⟨b,e⟩:∃b,p v=some b:=by
   cases h:p v with
   |none=>have:=r.root v a h;omega
   |some b=>exact⟨b,rfl⟩
  obtain⟨f,l⟩:=r.up v b a e;have c:=Z2 r i k b f Om;rw[yM e];unfold VS.count at c⊢;rw[Zi _ qQ (dB.2 Om),c];rw[<-sQ,qZ];intro k;have:=(k.lQ r b rfl f).2;omega
def ZY(r:cX a y J):((kids a y none).flatMap (tv a y)).Nodup/\∀f,f∈(kids a y none).flatMap (tv a y)↔f<a:=by
 have g:∀b,(none:Option Nat)=some b->b<a:=fun b h=>by cases h
 have e:(d_ a y (fun _=> []) a none).vars=(kids a y none).flatMap (tv a y):=(by rw[sS r awX,Hc];congr 1;funext c;unfold tv eH;simp only[Fo.vars,i7]);rw[<-e];refine⟨Hj r a none g awX,fun f=> ?_⟩;rw[vG r a none f g awX];exact⟨fun h=>h.1,fun h=>⟨h,dw.all r (J f) f h (aK _)⟩⟩
def akS{L:List Nat}(f:i.Nodup)(h:∀x∈i,x∈L):i<=L.length:=by
 induction i generalizing L with
 |nil=>exact aV _
 |cons x i d=>
  obtain⟨j,g⟩:=i6.1 f;obtain⟨A,B,rfl⟩:=YX (h x Ou);have:=d (L:=A++B) g fun y c=>by
   have a:=h y awh;have b:y≠x:=fun e=>j (e▸c);simp only[bV,aJ] at a⊢;rcases a with a|a|a
   ·exact .inl a
   ·exact absurd a b
   ·exact .inr a
  simp only[cP,bC] at this⊢;omega
def akh(r:cX a y J):((kids a y none).flatMap (tv a y))<=a:=by obtain⟨e,c⟩:=ZY r;have:=akS (L:=List.range a) e fun x b=>dB.2 ((c x).1 b);rwa[iG] at this
def mB(m:Nat)(f:Nat->Nat)(j:Nat):List (List Nat):=(List.range m).map fun u=>(List.range j).filter fun a=>f a==u
def Ij(h:c<a):(mB a J b)[c]? =some ((List.range b).filter fun d=>J d==c):=by unfold mB;rw[dL,lG h];rfl
def Mv(m j:Nat)(f:Nat->Nat):(mB m f j)=m:=by unfold mB;simp
def abr{m j:Nat}{f:Nat->Nat}(h:f j<m):mB m f (j+1)=(mB m f j).set (f j) (((List.range j).filter fun a=>f a==f j)++ [j]):=by
 refine sL fun u=> ?_;rw[o5,Mv];rcases cA u m with c|c
 ·rw[Ij c,Ij c];have e:(List.range (j+1)).filter (fun a=>f a==u)=(List.range j).filter (fun a=>f a==u)++if f j=u then [j] else []:=by rw[Hg,qO];congr 1;by_cases b:f j=u<;>simp [b]
  rw[e];by_cases b:f j=u
  ·rw[if_pos b,if_pos b,if_pos Om,b]
  ·rw[if_neg b,if_neg b,i7]
 ·rw[fF (by rw[Mv];omega),if_neg Om,fF (by rw[Mv];omega)]
def abq(m:Nat)(f:Nat->Nat):mB m f 0=List.replicate m []:=by
 unfold mB;refine sL fun i=> ?_;rw[dL,Ae];rcases cA i m with h|h
 ·rw[lG h,if_pos h];rfl
 ·rw[fF av7,if_neg Om];rfl
def Zs{d:Nat->Nat}{a:Nat}:∀{l:List Nat} {m:Nat},eJ d (l++ [a]) m=if d a>d (eJ d l m) then a else eJ d l m
 | [],_=>rfl
 |x::l,m=>Zs (l:=l) (m:=if d x>d m then x else m)
def aas{d:Nat->Nat}(f:∀c∈i,c<a)(e:b<a):eJ d i b<a:=by
 rcases(LJ d i b).1 with h|h
 ·rw[h];exact e
 ·exact f _ h
structure a8(S:List Nat)(w w':au):Prop where
 os:w'.os=w.os
 tape:w'.tape=w.tape
 output:w'.output=w.output
 size:w.heap.size<=w'.heap.size
 block:∀i,i<w.heap.size->i∉S->w'.heap[i]? =w.heap[i]?
section
variable{S:List Nat}{a b c w w':au}{g:Nat}{t:TypeId}{l:List Value}
theorem a8.gV(h:Ext a b):a8 S a b:=⟨h.os,h.tape,h.output,h.size,fun i e _=>h.block i e⟩
def gT:=@a8.gV
theorem a8.trans(h:a8 S a b)(k:a8 S b c):a8 S a c:=⟨k.os.trans h.os,k.tape.trans h.tape,k.output.trans h.output,a7 h.size k.size,fun i f e=>(k.block i (cF f h.size) e).trans (h.block i f e)⟩
theorem a8.only(h:a8 S a b)(k:Only g b c)(f:g∈S\/a.heap.size<=g):a8 S a c:=⟨k.os.trans h.os,k.tape.trans h.tape,k.output.trans h.output,a7 h.size k.size,fun i m j=>(k.block i (cF m h.size) (fun e=>by
 injection e with e;subst e;rcases f with f|f
 ·exact j f
 ·omega)).trans (h.block i m j)⟩
theorem a8.ext(h:a8 S a b)(k:Ext b c):a8 S a c:=h.trans (.gV k)
theorem a8.grown{base:Nat}(h:a8 S a b)(j:b.ownsRow base x e q f u)(m:b.grownBy c q.ownBlock)(hb:a.heap.size<=base):a8 S a c:=
 ⟨m.os.trans h.os,m.tape.trans h.tape,m.output.trans h.output,a7 h.size m.size,fun i o r=>(m.block i (cF o h.size) (fun x=>by have:=(j.lt i x.symm).1;omega)).trans (h.block i o r)⟩
theorem a8.drew(h:a8 S a b):a8 S a b.drew:=⟨h.os,h.tape,h.output,h.size,h.block⟩
theorem a8.mono{S':List Nat}(h:a8 S a b)(f:∀i∈S,i<a.heap.size->i∈S'):a8 S' a b:=⟨h.os,h.tape,h.output,h.size,fun i e j=>h.block i e fun k=>j (f i k e)⟩
theorem ar.cy(h:ar w g t l)(k:a8 S w w')(e:g∉S):ar w' g t l:=(k.block g h.lt e).trans h
theorem a8.kept(k:a8 S w w'){u:TypeId}(m:∀i∈S,∃t l,ar w i t l/\t≠u):Kept u w w':=fun g n o e=>(k.block g (gS e) fun j=>by obtain⟨t,l,h,f⟩:=m g j;unfold ar at h;rw[h] at e;injection e with e;injection e with _ e;exact f e).trans e
end
abbrev f9:TypeId:=256
abbrev Te:TypeId:=254
abbrev TH:TypeId:=322
def Ci(eB eh gb fc:Nat):Value:= .func (.func 267) #[] #[aI eB 0,aI eh 0,aI gb 0,aI fc 0]
def ow(n u:Nat):Option Nat:=if u=n then none else some u
def uv(n:Nat)(d:Nat->Nat)(wl:List Nat):List Value:=(List.range n).map fun a=>av (if a∈wl then d a else 0:Nat)
noncomputable def mY(g:List Nat)(p:Nat->Option Nat)(dk:Nat->Bool):List (List Nat):=(List.range g.length).map fun a=>if dk a=true then n_ g.length p g a else []
def Me{a:Nat}{d:Nat->Nat}{wl:List Nat}(h:a<e):(uv e d wl)[a]? =some (av (if a∈wl then d a else 0:Nat)):=by unfold uv;rw[dL,lG h];rfl
def ajE{d:Nat->Nat}{wl:List Nat}(h:f<e):(uv e d wl).set f (av (d f:Nat))=uv e d (wl++ [f]):=by
 refine sL fun i=> ?_;have m:∀wl,(uv e d wl)=e:=fun wl=>by unfold uv;simp
 rw[o5,m];by_cases j:f=i
 ·subst j;rw[if_pos rfl,if_pos h,Me h];simp
 ·rw[if_neg j];rcases cA i e with k|k
  ·rw[Me k,Me k];simp [fP j]
  ·rw[fF (by rw[m];exact k),fF (by rw[m];exact k)]
def ajh{g:List Nat}{p:Nat->Option Nat}{dk:Nat->Bool}{v:Nat}(h:∀a,K a=(dk a||a==v)):(mY g p dk).set v (n_ g p g v)=mY g p K:=by
 have j:∀dk,(mY g p dk).length=g.length:=fun dk=>by unfold mY;simp
 refine sL fun i=> ?_;rw[o5,j];have k:∀(dk:Nat->Bool) (a:Nat),a<g->(mY g p dk)[a]? =some (if dk a=true then n_ g p g a else []):=fun dk a n=>by unfold mY;rw[dL,lG n];rfl
 by_cases e:v=i
 ·subst e;rw[if_pos rfl];split
  ·rename_i m;rw[k _ _ m,h];simp
  ·rename_i m;rw[fF (by rw[j];omega)]
 ·rw[if_neg e];rcases cA i g with f|f
  ·have:(i==v)=false:=by rw[beq_eq_false_iff_ne];exact fP e
   rw[k _ _ f,k _ _ f,h,this,vI]
  ·rw[fF (by rw[j];exact f),fF (by rw[j];exact f)]
structure Ge(g:List Nat)(p:Nat->Option Nat)(A:aR)(cb kb eB gb eh fc db base:Nat)(xd:List Value)(w0:au):Prop where
 gl:fD w0 (.slice A g.length g.length) g
 gx:ar w0 gb IZ [.slice A g.length g.length]
 cx:ar w0 cb cI xd
 cr:∀u,u<=g.length->∃B c,xd[u]? =some (.slice B (ints (kids g.length p (ow g.length u))).length c)/\IL w0 (.slice B (ints (kids g.length p (ow g.length u))).length c) (ints (kids g.length p (ow g.length u)))
 kx:∃l,ar w0 kb cI l
 px:∃l,ar w0 eB f9 l
 hk:cb≠kb
 h1:w0.heap.size<=db/\w0.heap.size<=eh/\w0.heap.size<=fc
 h2:db<base/\eh<base/\fc<base
 h3:eh≠db/\fc≠db
structure nA(g:List Nat)(p:Nat->Option Nat)(d:Nat->Nat)(cb kb hb eB gb eh fc db base:Nat)(w0 W:au)(wl:List Nat)(dk:Nat->Bool)(wv:Value)(nt:List Value):Prop where
 cy:a8 [eB,kb] w0 W
 sz:base<=W.heap.size
 pp:ar W eB f9 [aG cb 0 (g.length+1) (g.length+1),aG kb 0 g.length g.length,aG hb 0 g.length g.length,wv]
 dx:ar W eh cI [aG db 0 g.length g.length]
 vx:ar W fc TH [Ci eB eh gb fc]
 db:ar W db aS (uv g.length d wl)
 kb:ar W kb cI nt
 JX:cO W base (wv::nt) (wl::mY g p dk)
section
variable{g:List Nat}{p:Nat->Option Nat}{d:Nat->Nat}{A:aR}{cb kb hb eB gb eh fc db base:Nat}{xd:List Value}{w0 W:au}{wl:List Nat}{dk:Nat->Bool}{wv:Value}{nt:List Value}
theorem nA.Nb(f:Ge g p A cb kb eB gb eh fc db base xd w0)(h:a8 [eB,kb] w0 W)(k:f9≠x)(j:cI≠x):Kept x w0 W:=h.kept fun i e=>by
 rcases aJ.1 e with rfl|e
 ·obtain⟨l,h⟩:=f.px;exact⟨_,l,h,k⟩
 ·rw[bG] at e;subst e;obtain⟨l,h⟩:=f.kx;exact⟨_,l,h,j⟩
theorem Ge.ne(i:Ge g p A cb kb eB gb eh fc db base xd w0):gb∉ [eB,kb]/\cb∉ [eB,kb]:=by
 have f:∀{x y:Nat} {t u:TypeId} {l m:List Value},ar w0 x t l->ar w0 y u m->t≠u->x≠y:=fun n h j e=>by subst e;unfold ar at n h;rw[n] at h;injection h with h;injection h with _ h;exact j h
 obtain⟨l,hk⟩:=i.kx;obtain⟨m,k⟩:=i.px;constructor
 ·simp only[aJ,bL,or_false,not_or];exact⟨f i.gx k Od,f i.gx hk Od⟩
 ·simp only[aJ,bL,or_false,not_or];exact⟨f i.cx k Od,i.hk⟩
theorem nA.ext(h:nA g p d cb kb hb eB gb eh fc db base w0 W wl dk wv nt)(e:Ext W m):nA g p d cb kb hb eB gb eh fc db base w0 m wl dk wv nt:=
 ⟨h.cy.ext e,a7 h.sz e.size,h.pp.ext e,h.dx.ext e,h.vx.ext e,h.db.ext e,h.kb.ext e,h.JX.ext e⟩
end
def H9{α β:Type}{f:α->List β}{k:List α}(h:e<k.length):((k.take e).flatMap f).length+(f k[e]).length<=(k.flatMap f).length/\(k.take (e+1)).flatMap f=(k.take e).flatMap f++f k[e]:=by
 have m:(k.take (e+1)).flatMap f=(k.take e).flatMap f++f k[e]:=by rw[fg h,D7];simp
 refine⟨?_,m⟩;have j:k.flatMap f=(k.take (e+1)).flatMap f++(k.drop (e+1)).flatMap f:=by rw[<-D7,sJ]
 rw[j,m];simp only[bC];omega
def Nx(g:List Nat)(p:Nat->Option Nat)(d:Nat->Nat)(cb kb hb eB gb eh fc db base:Nat)(w0:au)(v j:Nat):Prop:=∀W wl dk wv nt,nA g p d cb kb hb eB gb eh fc db base w0 W wl dk wv nt->wl.length+(tv g.length p v).length<=12->
 Calls prog 267 #[av (v:Int),.int .u64 (j:Int),aI eB 0,aI eh 0,aI gb 0,aI fc 0] W fun e w'=>
  ∃m i f h,e= .returned (.int .u64 (m:Nat))/\m<2^g.length/\m.testBit=pB g.length p g v/\(∀a,h a=(dk a||(tv g.length p v).contains a))/\nA g p d cb kb hb eB gb eh fc db base w0 w' (wl++tv g.length p v) h i f
def ao5{g:List Nat}{p:Nat->Option Nat}{d:Nat->Nat}{A:aR}{cb kb hb eB gb eh fc db base:Nat}{xd:List Value}{w0:au}(hg:kI g)(hr:cX g.length p d)(H:Ge g p A cb kb eB gb eh fc db base xd w0){v:Nat}(hv:v<g.length)(hab:e<2^g.length)(Wb:e.testBit=bE p v)
 (hC:∀c∈kids g p (some v),Nx g p d cb kb hb eB gb eh fc db base w0 c (e|||2^v)):Nx g p d cb kb hb eB gb eh fc db base w0 v e:=by
 intro W wl dk wv nt hS Vk;have HG:=af hg;have hle:=hg.le;have Ko:=af hr;have P:=af H;have Ya:=af hab;have qI:=af hC;have htv:=adX hr v;have X:cnt e=d v:=by unfold cnt;rw[Wb];exact Z2 hr hg.le (d v) v hv rfl
 have atL:=af X;have WV:=af htv;have HKL:ah (∀m:Nat,m.testBit=pB g p g v->IP (m&&&e)=n_ g p g v):=fun m hm=>by rw[aci (qM _ hab) hg.le];unfold n_;refine D_ fun a _=> ?_;rw[Y',hm,Wb]
 obtain⟨hh1,O,hh3⟩:=And.intro H.h1 (And.intro H.h2 H.h3);obtain⟨q1,q2,q3,q4,q5,q6,q7,q8⟩:=hS;have HCH:=af q1;have HP:=af q3;have HDX:=af q4;have HVX:=af q5;have DW:=af q6;have HKB:=af q7;have HF:=af q8;have HO:=af (q8.own 0 wv wl rfl rfl);have ap_:wl.length<=12:=Om;have wU:eB<base:=(by obtain⟨l,h⟩:=H.px;have:=h.lt;have:=H.h1.2.1;have:=H.h2.2.1;omega)
 have hkb:kb<base:=(by obtain⟨l,h⟩:=H.kx;have:=h.lt;have:=H.h1.2.1;have:=H.h2.2.1;omega);have FJ:w0.heap.size<=base:=Om;have auU:eB<w0.heap.size:=(by obtain⟨l,h⟩:=H.px;exact h.lt)
 have au7:kb<w0.heap.size:=(by obtain⟨l,h⟩:=H.kx;exact h.lt);clear hg hr H hab Wb hC htv X q1 q3 q4 q5 q6 q7 q8;obtain⟨Aw,cw,xs,rfl,_,hcw,C,XT⟩:=HO.parts;have cM:((ints wl).length+1)*8<=140737488355328:=by rw[lg];omega
 obtain⟨s0,s1,s2,s3⟩:=HP.four;have f3:=HP.frozen 3;go_enter func267,ntmps267;go_wp2_with (at_builtin;refine gQ rfl _ _ cI rfl base jE _ _ _ rfl C.ae #[av (v:Int)] 1 1 rfl rfl rfl cM q2 ?_)
 intro v' w3 E r hb3;have HF3:ah (cO w3 base (v'::nt) ((wl++ [v])::mY g p dk)):=cO.app (i:=0) HF.ae rfl Ou C XT E r (hb3.imp id fun h=>⟨_,h,by omega⟩);obtain⟨Ax,cx,rfl,_,_,_⟩:=ej E;have J:=af (gH HP C r wU);have atG:=af (gH HDX C r O.2.1);have asK:=af (gH HVX C r O.2.2);have atJ:=af (gH DW C r O.1);have agU:=af (gH HKB C r hkb);have atN:=af (HCH.grown C r FJ);have q3:base<=w3.heap.size:=a7 q2 r.size;clear E r hb3 cM s0 s1 s2 s3 f3 q2;have s3:=J.aF 3;have f3:=J.frozen 3;obtain⟨Y,F9,B4,K4,Z⟩:=gG (i:=3) J.ae (.slice Ax ((ints wl).length+1) cx);have HW4:=af F9;clear F9;go_upto_region 2 with fail
 rw[HW4.ae];have HP4:ah (ar Y eB f9 [aG cb 0 (g.length+1) (g.length+1),aG kb 0 g g,aG hb 0 g g,.slice Ax ((ints wl).length+1) cx]):=B4;have XN:=af (HF3.only Z J Od);have atF:=af (atG.only Z Om);have asJ:=af (asK.only Z Om);have atI:=af (atJ.only Z Om);have ato:ah (ar Y kb cI nt):=agU.only Z (fun k=>by have h1:=agU.ae;have h2:=J.ae;unfold ar at h1 h2;rw[k,h2] at h1;injection h1 with h1;injection h1 with _ h1;exact absurd h1 Od)
 have UH:=af (atN.only Z (.inl Ou));have q4:base<=Y.heap.size:=a7 q3 Z.size;clear s3 f3 B4 K4 Z q3;have oK:=af (aa' e Y.drew (HG.jt Ya));rw[atL.ae] at oK;have HP5:=af HP4.drew;have HF5:ah (cO Y.drew base (.slice Ax ((ints wl).length+1) cx::nt) ((wl++ [v])::mY g p dk)):=XN.ext (aB Y).drew;have ag0:=af atF.drew;have asI:=af asJ.drew;have M:=af atI.drew;have atn:=af ato.drew;have atM:=af UH.drew;have q5:base<=Y.drew.heap.size:=q4;have bO:ah (∀w',ar w' eh cI [aG db 0 g g]->aA w' eh 0 (aG db 0 g g)):=fun w' h=>h.cell rfl;have aH:=ag0;clear q4;refine cD (S:=fun w'=>ar w' eh cI [aG db 0 g g]) (T:=fun j=>decide (5<=j)) Ok ?_;generalize Y.drew=wd at*;refine ax 0 18 ?_;refine ax 1 19 ?_;refine ax 2 20 ?_;refine aO 3 ?_;intro K q;go_simp;refine oK.mono ?_;rintro e2 w2 ⟨rfl,rfl⟩;refine q.ae _ _ (fun _=>aH.ae) ?_;clear q;refine ax 4 22 ?_;obtain⟨W6,OS,B6,K6,x⟩:=gG (i:=v) M (av (d v:Nat));rw[ajE hv] at B6;have s1:=M.cell (Me hv);have f1:=M.frozen v;refine aO 5 ?_;intro K q;go_simp;refine q.ae _ _ Oe ?_;refine b_ Ok ?_;have HP6:=af (HP5.only x Om);have HF6:=af (HF5.low x O.1);have atE:=af (ag0.only x hh3.1);have asH:=af (asI.only x hh3.2);have atm:=af (atn.only x Om);have G:=af (atM.only x (.inr hh1.1));have q6:base<=W6.heap.size:=a7 q5 x.size;clear q OS K6 x s1 f1 q5;have oD:fD W6 (.slice A g g) g:=P.gl.keep p8 fun u R=>by simp only[bG] at R;rw[R];exact nA.Nb P G Od Od
 obtain⟨gg,og,rfl,_,hc⟩:=fD.get oD hv;have g0:=(P.gx.cy G P.ne.1).aF 0;clear oD;obtain⟨Bc,cc,hcv,o⟩:=P.cr v (pd hv);have c0:=(P.cx.cy G P.ne.2).cell hcv;rw[show ow g.length v=some v by unfold ow;rw[if_neg Om]] at c0 o;have dA:=af (gm cK o (fun u R=>by simp only[bG] at R;rw[R];exact nA.Nb P (gT (aB w0)) Od Od))
 have dR:(ints (kids g p (some v)))=(kids g p (some v)).length:=lg _;have atl:=af dR;rw[dR] at c0 dA;clear dR hcv o;obtain⟨s0,s1,s2,s3⟩:=HP6.four;have Gt:ah (wl+1+((kids g p (some v)).flatMap (tv g p)).length<=12):=(by rw[WV.ae] at Vk;simp only[cP] at Vk;rw[ah];omega)
 have Xx:ah (∀c∈kids g p (some v),c<g):=fun c hc=>(gU.1 hc).1;have au8:(kids g p (some v)).length<=12:=(by have:=mm (fun a=>p a==some v) (List.range g);rw[iG] at this;exact a7 this hle)
 have HNV:=af (fun y=>amN (g:=g) Ko v y);clear Vk ap_;have HGV:=af (HG.lt v);generalize g.getD v 0=gv at*;generalize FQ:kids g.length p (some v)=n at*;clear FQ;have oM:ah (nA g p d cb kb hb eB gb eh fc db base w0 W6 (wl++v::(n.take 0).flatMap (tv g p)) dk (.slice Ax ((ints wl).length+1) cx) nt):=⟨G,q6,HP6,atE,asH,B6,atm,HF6⟩;have HM0:ah (∀y,gv.testBit y=(gv.testBit y||(n.take 0).any fun c=>pB g p g c y)):=fun y=>by simp
 have KJ:ah (∀a,dk a=(dk a||((n.take 0).flatMap (tv g p)).contains a)):=fun a=>by simp
 go_upto_region 5 with fail
 clear hc g0 c0 s0 s1 s2 s3 B6 q6;go_loopw [9,11,33] (fun v9 _ v33 wr=>∃(i m:Nat) (F:Nat->Bool) (D:Value) (s:List Value),i<=n.length/\v33=av i/\v9= .int .u64 m/\ah (m<2^g.length)/\ah (∀y,m.testBit y=(gv.testBit y||(n.take i).any fun c=>pB g.length p g c y))/\ah (∀a,F a=(dk a||((n.take i).flatMap (tv g.length p)).contains a))/\ah (nA g p d cb kb hb eB gb eh fc db base w0 wr (wl++v::(n.take i).flatMap (tv g.length p)) F D s)) (fun _ _ v33 _=>n.length - (RowKit.intOf v33).toNat);exact⟨0,gv,dk,_,_,aV _,rfl,rfl,HGV,HM0,KJ,oM⟩;obtain⟨i,m,F,D,s,hi,rfl,rfl,L,HM,HD,HS⟩:=hrel;by_cases o:i<n
 ·have CX:=af (H9 (f:=tv g p) o);have Q:=H9 (f:=tv g p) o;have nH:=af Q.2;clear Q;have U:i<(ints n).length:=by rw[atl.ae];exact o
  have hir:IL wr (.slice Bc n cc) (ints n):=dA.keep cK fun u R=>by simp only[bG] at R;rw[R];exact nA.Nb P HS.cy Od Od
  obtain⟨g2,o2,rfl,_,hc⟩:=gX hir U;have tG:(ints n)[i]=((n[i]:Nat):Int):=awA;rw[tG] at hc;have kT:=Xx _ (a_ o);have HQ:=af (qI _ (a_ o));have HTA:ah (∀y,((n.take (i+1)).any fun c=>pB g p g c y)=(((n.take i).any fun c=>pB g p g c y)||pB g p g n[i] y)):=fun y=>by rw[fg o,Za];simp
  clear tG hir U;generalize n[i]=c at*;have l_:ah ((wl++v::(n.take i).flatMap (tv g.length p)).length+(tv g.length p c).length<=12):=by have h1:=CX.1;have h2:=Gt.ae;rw[ah];simp only[bC,cP];unfold ah at h2;omega
  go_upto_region 7 with fail
  have B:=af (HS.ext (aB wr).drew);have bO:ah (∀w',ar w' fc TH [Ci eB eh gb fc]->aA w' fc 0 (Ci eB eh gb fc)):=fun w' h=>h.cell rfl;have aH:=af B.vx;have xE:=af (vZ v wr.drew Om);clear hc;refine cD (S:=fun w'=>ar w' fc TH [Ci eB eh gb fc]) (T:=fun j=>decide (j=9)) Ok ?_;generalize wr.drew=wd at*;refine ax 0 37 ?_;refine ax 1 38 ?_;refine ax 2 39 ?_;refine ax 3 40 ?_;refine ax 4 41 ?_;refine aO 5 ?_;intro K q;go_simp;refine xE.mono ?_;rintro e3 w3 ⟨rfl,rfl⟩;refine q.ae _ _ (fun _=>aH.ae) ?_;clear q;have HW:=af (Cg (HG.jt Ya) (B_ (show v<12 by omega)));have pQ:=af (HQ w3 _ _ _ _ B l_);generalize 2^v=pv at*;refine ax 6 43 ?_;rw[HW.ae];refine aO 7 ?_;intro K q;go_simp;refine pQ.mono ?_;rintro e4 w4 ⟨mc,UN,T1,JY,rfl,jK,nu,V,I⟩;refine q.ae _ _ (fun _=>I.vx) ?_;clear q;have aH:=af I.vx;have qE:=af (Cg (HG.jt L) (HG.jt jK));refine ax 8 45 ?_;rw[qE.ae];refine aO 9 ?_;intro K q;go_simp;refine q.ae _ _ Oe ?_;refine b_ Ok ?_;have gN:ah (∀y,(m|||mc).testBit y=(gv.testBit y||(n.take (i+1)).any fun c=>pB g p g c y)):=fun y=>by rw[HTA.ae,<-Qj,<-HM.ae,Hk,nu]
  have atc:ah (m|||mc<2^g.length):=Hb L jK;rw[ie,sO,<-nH.ae] at I;have ei:=af I;have KI:ah (∀a,JY a=(dk a||((n.take (i+1)).flatMap (tv g p)).contains a)):=fun a=>by rw[V,HD.ae,nH.ae,Qj];congr 1;simp
  clear q I V jK nu;go_wp2;go_roundw;exact⟨i+1,m|||mc,JY,UN,T1,by omega,by go_num,rfl,atc,gN,KI,ei⟩;simp [RowKit.intOf];omega
 ·obtain rfl:i=n.length:=Om;rw[fj] at HM HD HS;have HMV:ah (m.testBit=pB g p g v):=funext fun y=>by rw[HM.ae,HNV.ae]
  rw[<-WV.ae] at HS;have d1:decide (n<n)=false:=Ou;have HDT:ah (∀a,(F a||a==v)=(dk a||(tv g p v).contains a)):=fun a=>by rw[HD.ae,WV.ae,List.contains_cons,Qj,Bool.or_comm _ (a==v)]
  have HKY:=af (HKL m HMV);go_upto_region 9 with fail
  have B:=af (HS.ext (aB wr).drew);have Pp:=af (akN (m&&&e) wr.drew (M6 (HG.jt L)));rw[HKY.ae] at Pp;have bO:ah (∀w',ar w' eB f9 [aG cb 0 (g.length+1) (g.length+1),aG kb 0 g g,aG hb 0 g g,D]->aA w' eB 1 (aG kb 0 g g)):=fun w' h=>h.cell rfl;have aH:=af B.pp;refine cD (S:=fun w'=>ar w' eB f9 [aG cb 0 (g.length+1) (g.length+1),aG kb 0 g g,aG hb 0 g g,D]) (T:=fun j=>decide (8<=j)) Ok ?_;generalize wr.drew=wd at*;have HW:=af (Tn (HG.jt L) (HG.jt Ya));refine ax 0 47 ?_;refine ax 1 48 ?_;refine ax 2 49 ?_;refine ax 3 50 ?_;refine ax 4 51 ?_;refine ax 5 52 ?_;rw[HW.ae];refine aO 6 ?_;intro K q;go_simp;refine Pp.mono ?_;rintro e3 w3 ⟨v',rfl,E,hx3⟩;have hf3:=B.JX.put (i:=v+1) hx3 (by simp [mY];omega) E B.sz;have z:=af (B.ext hx3);refine q.ae _ _ (fun _=>z.pp) ?_;clear q;have aH:=af z.pp;obtain⟨Al,cl,xl,rfl,_,_,_,_⟩:=E.parts;generalize(ints (n_ g.length p g v)).length=nl at*;refine ax 7 54 ?_;have Jk:v<s.length:=(by have h:=B.JX.len;simp only[cP,mY,bW,iG] at h;omega)
  obtain⟨W6,OS,B6,K6,x⟩:=gG (i:=v) z.kb (.slice Al nl cl);have s1:=z.kb.cell (aX Jk);have f1:=z.kb.frozen v;have N:kb≠eh/\kb≠fc/\kb≠db:=Om;have Jw:eB≠kb:=fun k=>by have h1:=z.kb;have h2:=z.pp;unfold ar at h1 h2;rw[<-k,h2] at h1;injection h1 with h1;injection h1 with _ h1;exact absurd h1 Od
  have uZ:ah (nA g p d cb kb hb eB gb eh fc db base w0 W6 (wl++tv g p v) (fun a=>F a||a==v) D (s.set v (.slice Al nl cl))):=by
   have h8:=z.ae;have hf:cO W6 base (D::s.set v (.slice Al nl cl)) ((wl++tv g p v)::mY g p fun a=>F a||a==v):=(by have h:=hf3.only x h8.kb Od;rw[<-ajh (p:=p) (dk:=F) (v:=v) fun a=>rfl];exact h)
   exact⟨h8.cy.only x (.inl Ou),a7 h8.sz x.size,h8.pp.only x Jw,h8.dx.only x (fP N.1),h8.vx.only x (fP N.2.1),h8.db.only x (fP N.2.2),B6,hf⟩
  clear hf3 E hx3 N Jw B6 K6 x;refine aO 8 ?_;intro K q;go_simp;refine q.ae _ _ Oe ?_;refine b_ Ok ?_;clear q OS s1 f1 Jk;go_wp2;go_ret;exact⟨m,D,_,_,rfl,L,HMV,HDT,uZ⟩
def acS{g:List Nat}{p:Nat->Option Nat}{d:Nat->Nat}{A:aR}{cb kb hb eB gb eh fc db base:Nat}{xd:List Value}{w0:au}(m:kI g)(i:cX g.length p d)(n:Ge g p A cb kb eB gb eh fc db base xd w0):∀(k v j:Nat),v<g.length->g.length<=k+d v->j<2^g.length->j.testBit=bE p v->Nx g p d cb kb hb eB gb eh fc db base w0 v j
 |0,v,_,h,r,_,_=>by have:=i.lt v h;omega
 |k+1,v,j,h,r,e,f=>ao5 m i n h e f fun c s=>by
  obtain⟨q,o⟩:=gU.1 s;have u:=(i.up c v q o).2;refine acS m i n k c _ q Om (Hb e (Mi h)) ?_;rw[yM o];funext a
  rw[Hk,f,p_]
end Go.Proofs.YtadbchhdjbghkaaGreatDoor
