/- Texts of the proof, part 9. -/
import Derived.Test.YthfffpcmldipgaaGreatDoorA8
namespace Go.Proofs.YthfffpcmldipgaaGreatDoor
set_option maxHeartbeats 8000000
set_option linter.all false
set_option maxRecDepth 100000
variable{ai:Prop}
open Go.RowKit Go.Lib Go.Maps Go.ChangeShapes Go.WideShapes Go.ChangeAt Go.Proofs.Tryz
variable{a b c d e f g h:Nat}{i j k l:List Nat}{m n o:World}{p q r s:Value}{t u v:List Value}{w x:TypeId}{y z:Nat→Option Nat}{A:Nat→List Nat}{B C:Int}{E F:Option Addr}{H I:Rat}{J:Nat→Nat}{K:Nat→Bool}{L:List Int}{N:Array Bool}{O:Option Nat}{Q:Act}{R S:Bool}{T:List UInt8}
abbrev Lg:TypeId:=162
def bJ(x:aQ)(h:Nat):List Nat:=cj ((x.aA[h]?.map (·.2)).getD [])
def bR(T:List (List Rw)):iT:=fun h=>T[h]?.getD []
def bV(x:aQ):List Nat:=List.range x.aA.length
def vL(w:au)(b:Value)(a:Nat->Option aF):Prop:=∀W,Ext w W->∀v:Nat,v<100->(Instr.lookup Lg b (.int .i64 v) true).run prog W= .ok (.tuple #[.string ⟨((a v).getD []).toArray⟩,.bool (a v).isSome]) W
def aeb(h:IL m (.slice (some ⟨a,b,none⟩) c d) L):∀j,j<L.length->m.cell? ⟨a,b+j,none⟩=some (.int .i64 (L.getD j 0)):=fun j f=>by obtain⟨r,q,e,_,i⟩:=io h f;injection e with e;injection e with p k;subst p k;rw[i,fG,aV f];rfl
def ael(A:aS)(n c:Nat)(l:List Int)(a:Int)(w:au)(h:IL w (.slice A n c) l):
 Calls prog 182 #[.slice A n c,.int .i64 a] w fun e b=>e= .returned (.bool (l.contains a))/\b=w:=by
 obtain⟨rfl,f,d⟩:=bE h;rcases l with _|⟨y,l⟩
 ·exact Tryz.slices_Contains_int_empty A c a w
 ·obtain⟨g,o,rfl,_,_⟩:=io h (i:=0) Ou;refine(Tryz.slices_Contains_int g o (y::l).length c (y::l) a w (aK _) Om (aeb h)).mono ?_;rintro e b ⟨rfl,rfl⟩;exact⟨by rw[f9],rfl⟩
def aeW{a:Int}:∀{l:List Int} {i:Nat},a∈l->Lib.idxFrom l a i=((i+l.idxOf a:Nat):Int)
 | [],_,h=>by cases h
 |z::l,i,h=>by
  by_cases e:z=a
  ·subst e;simp [Lib.idxFrom]
  ·have c:a∈l:=by
    rcases aI.1 h with h|h
    ·exact absurd h.symm e
    ·exact h
   have b:(z==a)=false:=beq_eq_false_iff_ne.2 e;simp only[Lib.idxFrom,Tu,b,cond_false,aeW c];omega
def arU(h:B∈L):Lib.idxOf L B=(L.idxOf B:Nat):=by unfold Lib.idxOf;rw[aeW h,jc]
def apL(A:aS)(n c:Nat)(l:List Int)(a:Int)(w:au)(h:IL w (.slice A n c) l)(d:a∈l):
 Calls prog 236 #[.slice A n c,.int .i64 a] w fun e b=>e= .returned (.int .i64 (l.idxOf a:Nat))/\b=w:=by
 obtain⟨rfl,j,f⟩:=bE h;rcases l with _|⟨y,l⟩
 ·cases d
 ·obtain⟨g,o,rfl,_,_⟩:=io h (i:=0) Ou;refine(Tryz.slices_Index_int g o (y::l).length c (y::l) a w (aK _) Om (aeb h)).mono ?_;rintro e b ⟨rfl,rfl⟩;exact⟨by rw[f9,arU d],rfl⟩
def uP{x:aQ}(h:a<x.aA.length):bJ x a=cj x.aA[a].2:=by unfold bJ;rw[aV h];rfl
def ajL(h:∀b∈L,(0:Int)<=b):(cj L).contains a=L.contains (a:Int):=by
 rw[lZ,pD,pD];unfold cj;rw[dH];constructor
 ·rintro⟨b,d,e⟩;have:=h b d;rwa[show(a:Int)=b by omega]
 ·exact fun c=>⟨a,c,by simp⟩
def mZ(x:aQ)(v k:Nat):List Nat:=gQ (bJ x) (List.range k) v
def amW{x:aQ}{v:Nat}(h:a<x.aA.length)(c:∀b∈x.aA[a].2,(0:Int)<=b):mZ x v (a+1)=if x.aA[a].2.contains (v:Int)=true then mZ x v a++ [a] else mZ x v a:=by unfold mZ gQ;rw[GQ,rI,rJ,J8,uP h,ajL c];split<;>simp
def aoN(x:aQ)(v k:Nat):(mZ x v k).length<=k:=by unfold mZ gQ;exact a8 (mK _ _) (by rw[gN];exact aK _)
def adU{v:Nat}:∀{l:List Int},(∀a∈l,(0:Int)<=a)->(cj l).idxOf v=l.idxOf (v:Int)
 | [],_=>rfl
 |a::l,h=>by
  have f:=h a Ou;have c:=adU (v:=v) (l:=l) fun b d=>h b azy;unfold cj at c⊢;rw[sW,Tu,Tu,c];have e:(a.toNat==v)=(a==(v:Int)):=(by rw[lZ,beq_iff_eq,beq_iff_eq];omega)
  rw[e]
def lj(e:Nat->Option aF)(d:Nat->Bool)(a:Nat->aF)(v c:Nat)(b:List Nat)(l:List Rw):List aF:=(l.filter fun y=>ey d a b y.1&&dt e v (y.1.getD c [])).map fun y=>y.1.getD c []
def ank{d:Nat->Option aF}{c:Nat->aF}{l:List Rw}{y:Rw}:lj d K c a b i (l++ [y])=if (ey K c i y.1&&dt d a (y.1.getD b []))=true then lj d K c a b i l++ [y.1.getD b []] else lj d K c a b i l:=by unfold lj;rw[rI,rJ,J8];split<;>simp
def apU(a:FuncId)(hid:∀b w,(callFunc a b).run prog w= .ok (.enter a b) w)(g f d:Value)(A:aS)(c:Nat)(w:au)(i:c<=maxLen):
 Calls prog 204 #[.slice A 0 c,.func (.func a) #[] #[g,f,d]] w fun e w'=>e= .returned (.slice A 0 c)/\w'=w:=by
 have CI:=af (aec a hid g f d (fun _=>undef) (fun _=>false) (fun W=>W=w) A 0 c w rfl (aT _) i (fun W k _ j=>by omega) (fun W k _ j=>by omega));exact m84
def apW(a:FuncId)(hid:∀b w,(callFunc a b).run prog w= .ok (.enter a b) w)(f d:Value)(A:aS)(c:Nat)(w:au)(g:c<=maxLen):
 Calls prog 204 #[.slice A 0 c,.func (.func a) #[] #[f,d]] w fun e w'=>e= .returned (.slice A 0 c)/\w'=w:=by
 have CI:=af (aed a hid f d (fun _=>undef) (fun _=>false) (fun W=>W=w) A 0 c w rfl (aT _) g (fun W k _ i=>by omega) (fun W k _ i=>by omega));exact m84
def Wt{w:au}:∀{a:List Value} {l:List aF},Ch (jq w) a l->a=l.map encStr
 |_,[],h=>h
 |_,t::l,⟨c,r,e,d,b⟩=>by rw[e,Wt b,show c=_ from d];rfl
def aqJ{l:List aF}(h:bH bI 1 jq a m (.slice E b c) l)(j:l≠ []):∃g rest,E=some ⟨g,0,none⟩/\a<=g/\ar m g bI (l.map encStr++rest):=by
 obtain⟨u,⟨_,q⟩,p⟩:=h;have f:=Wt p;rcases q with⟨_,r⟩|⟨g,t,d,e,o,k,_,_,_,i⟩
 ·exact absurd (lH r) j
 ·injection e with s x v;refine⟨g,d.toList.drop (l.length*1),s,o,?_⟩;unfold ar;rw[k,<-f,<-i,sQ]
def aeU(t:aF):∀l:List aF,(pT t l).length<=l.length+1
 | []=>by simp [pT]
 |y::l=>by
  have:=aeU t l;unfold pT;split
  ·simp only[cW];omega
  ·split<;>simp
def adA:∀l:List aF,(kr l).length<=l.length
 | []=>by simp [kr]
 |t::l=>a8 (aeU t (kr l)) (by have:=adA l;simp only[cW];omega)
def adK{c:Nat->aF}{t u:aF}:put (put c a u) a t=put c a t:=by
 funext b
 unfold put;by_cases h:b=a<;>simp [h]
def acD{c:Nat->aF}:put c a (c a)=c:=by
 funext b
 unfold put;by_cases h:b=a<;>simp [h]
def Vn{on:Nat->Bool}(h:on a=false):(fun b=>if b=a then false else on b)=on:=by
 funext b
 by_cases e:b=a
 ·rw[if_pos e,e,h]
 ·rw[if_neg e]
def afR(h:ai:=by
 obtain⟨cb,hcb⟩:∃cb,iE (bJ x) (bR T) (bV x) fx on cur v=cb:=⟨_,rfl⟩;have XZ:=af hcb;rw[hcb];clear hcb;have HST:=af h;have mD:=h.xl;have jR:=h.jn;obtain⟨B,d,hr1,j_⟩:=h.FE.st.jr;have dX:=h.FE.st.jl;obtain⟨-,iY,kB⟩:=bE j_;have lV:=af h.qh.ok.ra;have Qy:=af h.qh.ok.rl;obtain⟨At,ct,tS,zm⟩:=h.FE.tb;have RB:=h.qh.ok.len;obtain⟨-,ht2,ht3⟩:=bE zm;have HTm:=af hT;have HFX:=af (fun W (hX:Ext w W)=>hF W (h.ex.trans hX) v Om);clear h hT hF;obtain⟨RN,rz⟩:∃RN,x.aA.length=RN:=⟨_,rfl⟩;have j9:=af rz;rw[rz] at hr1 iY j_ RB;have hR6:RN<=6:=Om;clear rz;go_enter Bn,Bl;go_upto_region 2 with fail
 refine sf fun W HX B2 B3 B5=> ?_;have hbl:=B5.lt;have IK:xb<w.heap.size:=mD;generalize sG:w.heap.size=bb at*;have p2:=B2.aD 0;have c1:=(HX.cell (p:=⟨xb,0,none⟩) aAw).trans jR;have c2:=(HX.cell (p:=⟨jb,1,none⟩) aAx).trans hr1;go_upto_region 3 with fail
 clear p2 c1 c2;have HW0:=af (aC W);have CY:ah (bH aU 1 dr W.heap.size W (.slice none 0 0) (ints (mZ x v 0))):=f_;go_loopw [6,7,24] (fun _ _ v24 wr=>∃(k:Nat) (sv:Value),k<=RN/\v24= .int .i64 k/\ah (Ext w wr)/\ah (ar wr bb LP [.pointer (some ⟨xb,0,none⟩)])/\ah (ar wr (bb+1) aU [.int .i64 v])/\ah (ar wr (bb+1+1) cO [sv])/\ah (bH aU 1 dr W.heap.size wr sv (ints (mZ x v k)))/\W.heap.size<=wr.heap.size) (fun _ _ v24 _=>RN - (RowKit.intOf v24).toNat)
 exact⟨0,_,aT _,rfl,HX,B2,B3,B5,CY,aK _⟩;clear B2 B3 B5;obtain⟨k,sv,hk,rfl,HX,B2,B3,B5,HO,hsz⟩:=hrel;by_cases hkN:k<RN
 ·have dE:k<x.aA.length:=by rw[j9.ae];exact hkN
  obtain⟨g,o,Bi,mi,di,hB,tZ,mE,tV,kC⟩:=qQ j_ dE;have dD:=(HX.cell (p:=⟨g,o+k*2,none⟩) tZ).trans mE;have eH:=(HX.cell (p:=⟨g,o+k*2+1,none⟩) tZ).trans tV;have hm:=(bE kC).1;subst hm;have d_:=af kC;have M6:=af (amW (v:=v) dE (fun a ha=>(lV k _ (aV dE) a ha).1));have hle:=aoN x v k;obtain⟨As,RP,xsv,rfl,aiw,aiv,_,_⟩:=HO.parts;clear mE tV kC;generalize x.aA[k]=rk at*;obtain⟨rn,ra⟩:=rk;simp only at dD eH d_ M6;subst hB;go_upto_region 5 with fail
  refine aP fun W3 bZ BR=> ?_;have hbr:=BR.lt;have dU:=af (HX.trans bZ);have JR:=af (B2.ext bZ);have JP:=af (B3.ext bZ);have NX:=af (B5.ext bZ);have C9:=af (HO.ext cI bZ);have hsz':W.heap.size<=W3.heap.size:=a8 hsz bZ.size;obtain⟨b0,b1⟩:=BR.two;have b2:=JP.aD 0;have CC:=af (ael Bi ra.length di ra v W3 (bX cI d_ dU));clear B2 B3 B5 hsz dD eH;go_wp2_with fail
  refine CC.mono ?_;rintro e3 w3 ⟨rfl,rfl⟩;clear b0 b1 b2;cases Rx:ra.contains (v:Int) with
  |false=>rw[Rx] at M6;have XM:ah (mZ x v (k+1)=mZ x v k):=M6.ae;clear Rx;go_wp2;go_roundw;exact⟨k+1,_,by omega,by go_num,dU,JR,JP,NX,by rw[XM.ae];exact C9,hsz'⟩;simp [RowKit.intOf];omega
  |true=>
   rw[Rx] at M6;have XM:ah (mZ x v (k+1)=mZ x v k++ [k]):=M6.ae;clear Rx;have av0:ah (ints (mZ x v (k+1))=ints (mZ x v k)++ [((k:Nat):Int)]):=by rw[ah,XM.ae];unfold ints;rw[mL];rfl
   have gV:(ints (mZ x v k)).length<=6:=by unfold ints;rw[cy];omega
   clear hle;generalize ints (mZ x v k)=zl at*;obtain⟨_,_,xo,ee,_,_,lC,xH⟩:=C9.parts;injection ee with y5 _ Fz;subst y5 Fz;have cK:(zl.length+1)*8<=140737488355328:=Om;have b5:=NX.aD 0;go_wp2_with (at_builtin;refine gG rfl _ _ cO rfl W.heap.size jy _ _ _ rfl lC.ae #[.int .i64 (k:Int)] 1 1 rfl rfl rfl cK hsz' ?_)
   intro v' IA tJ ni _;obtain⟨N0,c10,rfl,_,_,_⟩:=dZ tJ;have ub:=af (iN (R:=dr) (x:=((k:Nat):Int)) cI Oy9 lC xH rfl tJ ni);have Je:=af (jV dU lC ni Om);have NY:=af (ip JR lC ni Om);have SZ:=af (ip JP lC ni Om);have B5n:=af (ip NX lC ni Om);have au1:W.heap.size<=IA.heap.size:=a8 hsz' ni.size;have b5n:=B5n.aD 0;have f5n:=B5n.frozen 0;obtain⟨MN,XA,B11,K11,Ji⟩:=gp (i:=0) B5n (.slice N0 (zl.length+1) c10);have avN:=af XA;have ZN:=af (ub.only cI Ji hbl Oy9);have X11:=af (Je.only Ji Om);have B2m:ah (ar MN bb LP [.pointer (some ⟨xb,0,none⟩)]):=(Ji.block _ NY.lt Oc).trans NY.ae;have B3m:ah (ar MN (bb+1) aU [.int .i64 v]):=(Ji.block _ SZ.lt Ou).trans SZ.ae;have au0:W.heap.size<=MN.heap.size:=a8 au1 Ji.size;clear tJ ni XA Ji K11 b5;go_wp2;rw[avN.ae];go_roundw;exact⟨k+1,_,by omega,by go_num,X11,B2m,B3m,B11,by rw[av0.ae];exact ZN,au0⟩;simp [RowKit.intOf];omega
 ·have Rh:k=RN:=Om;subst Rh;have d1:decide ((k:Int)<(k:Int))=false:=aW;have n_:ah (mZ x v k=gQ (bJ x) (bV x) v):=by unfold mZ bV;rw[j9.ae];rfl
  have aic:∀f∈gQ (bJ x) (bV x) v,f<k/\v∈bJ x f:=fun f hf=>by obtain⟨h1,h2⟩:=AD.1 hf;unfold bV at h1;rw[j9.ae] at h1;exact⟨dP.1 h1,h2⟩
  have M9:=af aic;rw[n_.ae] at HO;clear aic IK;obtain⟨rl,h_⟩:∃rl,gQ (bJ x) (bV x) v=rl:=⟨_,rfl⟩;have afX:=af h_;rw[h_] at HO M9 hne;clear h_;rcases rl with _|⟨f,tl⟩
  ·exact absurd rfl hne
  obtain⟨hfk,Cc⟩:=M9 f Ou;have nx:f<x.aA.length:=by rw[j9.ae];exact hfk
  rw[uP nx] at Cc;obtain⟨gi,oi,Bi,mi,di,hB,mF,nv,tY,kC⟩:=qQ j_ nx;have yR:=(bE kC).1;subst yR hB;obtain⟨EN,aiu⟩:=(bE kC).2;have YG:(v:Int)∈x.aA[f].2:=by unfold cj at Cc;obtain⟨a,ha,e⟩:=dH.1 Cc;have:=(lV f _ (aV nx) a ha).1;rwa[show(v:Int)=a by omega]
  have HAF:ah (bJ x f=cj x.aA[f].2):=uP nx;have Jt:=af (lV f _ (aV nx));generalize hrf:x.aA[f]=rf at*;have ai6:ah (x.aA[f]?=some rf):=by rw[ah,aV nx,hrf]
  clear hrf;obtain⟨rn,ra⟩:=rf;simp only at nv tY kC EN YG HAF Jt;obtain⟨w4,rfl⟩:∃w4:World,w4=wr:=⟨_,rfl⟩;have HIX:ah (∀m,Calls prog 236 #[.slice Bi ra.length di,.int .i64 v] (w4.drewN m) fun e w'=>e= .returned (.int .i64 (ra.idxOf (v:Int):Nat))/\∃q,w'=w4.drewN q):=fun m=>by refine(apL Bi ra.length di ra v _ (bX cI kC (HX.drewN m)) YG).mono ?_;rintro e w' ⟨h1,rfl⟩;exact⟨h1,m,rfl⟩
  obtain⟨As,RP,xsv,rfl,aiw,aiv,hro,Mt⟩:=HO.parts;have Cf:=HO.ls;obtain⟨gl,ol,hAs,_,hc0⟩:=io Cf (i:=0) azT;subst hAs;have avw:w4.cell? ⟨gl,ol,none⟩=some (.int .i64 (f:Nat)):=hc0;have hlen:(ints (f::tl)).length=(f::tl).length:=azg;have b2:=B2.aD 0;have b3:=B3.aD 0;have b5:=B5.aD 0;have c1:=(HX.cell (p:=⟨xb,0,none⟩) aAw).trans jR;have c2:=(HX.cell (p:=⟨jb,1,none⟩) aAx).trans hr1;have c4:=(HX.cell (p:=⟨gi,oi+f*2,none⟩) mF).trans nv;have c5:=(HX.cell (p:=⟨gi,oi+f*2+1,none⟩) mF).trans tY;clear hc0 Cf hro Mt nv tY hr1;go_upto_region 9 with fail
  go_quiet ((go_at_call 236;exact HIX _));have X5:=af (HX.drewN nq);have JR:=af (B2.drewN nq);have JP:=af (B3.drewN nq);have NX:=af (B5.drewN nq);have j8:W.heap.size<=gl/\gl<(w4.drewN nq).heap.size:=by have h:=HO.blk rfl;exact⟨h.1,h.2.1⟩
  have C9:=af (HO.ext cI ((aC w4).drewN nq));have hsz':W.heap.size<=(w4.drewN nq).heap.size:=hsz;clear B2 B3 B5 hsz b2 b3 b5 c1 c2 c4 c5 avw kC;generalize w4.drewN nq=w5 at*;have Mo:f<T.length:=by rw[RB];exact hfk
  obtain⟨gt,ot,Af,cf,hA,I2,hLf,Mb⟩:=fS.get zm Mo;have Jy:=af hLf.ae;have ai1:ah (T[f]?=some T[f]):=aV Mo;have HLl:=af (Qy f (rn,ra) T[f] ai6.ae ai1);have ax6:=HTm _ (aZ Mo);generalize T[f]=lf at*;subst hA;obtain⟨-,ax8,ax7⟩:=bE Jy;have b2:=JR.aD 0;have c1:=(X5.cell (p:=⟨xb,0,none⟩) aAw).trans jR;have c2:=(X5.cell (p:=⟨jb,4,none⟩) aAx).trans tS;have c4:=(X5.cell (p:=⟨gt,ot+f,none⟩) I2).trans Mb;clear hLf tS Mb jR;generalize T.length=TN at*;go_upto_region 12 with fail
  clear b2 c1 c2 c4;have hia:ra.idxOf (v:Int)<ra.length:=S9 YG;have HIA:ah ((cj ra).idxOf v=ra.idxOf (v:Int)):=adU fun a ha=>(Jt a ha).1;generalize ra.idxOf (v:Int)=ia at*;have F9:ah (bH bI 1 jq w5.heap.size w5 (.slice none 0 0) (lj fx on cur v ia (cj ra) (lf.take 0))):=f_;have bh:ah (Ext w5 w5):=aC w5;go_loopw [10,12,13,14,66] (fun v10 _ _ _ v66 wr=>∃j:Nat,j<=lf.length/\v66= .int .i64 j/\ah (bH bI 1 jq w5.heap.size wr v10 (lj fx on cur v ia (cj ra) (lf.take j)))/\ah (Ext w5 wr)) (fun _ _ _ _ v66 _=>lf.length - (RowKit.intOf v66).toNat)
  exact⟨0,aT _,rfl,F9,bh⟩;obtain⟨j,hj,rfl,HO,HX⟩:=hrel;by_cases dX:j<lf.length
  ·have X6:=af (X5.trans HX);obtain⟨gl2,ol2,Bk,dk,hAf,aiq,mE,tV,nZ⟩:=yf Jy dX;have dD:=(X6.cell (p:=⟨gl2,ol2+j*2,none⟩) aiq).trans mE;have eH:=(X6.cell (p:=⟨gl2,ol2+j*2+1,none⟩) aiq).trans tV;have I':=HLl _ (aZ dX);have fp:ah (lf.take (j+1)=lf.take j++ [lf[j]]):=g9 dX;have Nk:ah (lj fx on cur v ia (cj ra) (lf.take (j+1))=if (ey on cur (cj ra) lf[j].1&&dt fx v (lf[j].1.getD ia []))=true then lj fx on cur v ia (cj ra) (lf.take j)++ [lf[j].1.getD ia []] else lj fx on cur v ia (cj ra) (lf.take j)):=by rw[ah,fp.ae];exact ank
   have Ce:(lj fx on cur v ia (cj ra) (lf.take j)).length<=1000:=(by unfold lj;rw[cy];exact a8 (mK _ _) ay8);clear mE tV;generalize lj fx on cur v ia (cj ra) (lf.take j)=lo at*;generalize lf[j]=y at*;obtain⟨yv,yw⟩:=y;simp only at dD eH nZ I' Nk;subst hAf;go_upto_region 14 with fail
   refine aP fun W6 cY BY=> ?_;rw[I'] at nZ;have YB:ia<yv.length:=by rw[I'];exact hia
   have HTE:ah (yv.getD ia []=yv[ia]):=by rw[ah,fG,aV YB];rfl
   rw[HTE.ae] at Nk;have X7:=af (X6.trans cY);have ai5:=af (HST.ext X7);have NY:=af ((JR.ext HX).ext cY.ae);have SZ:=af ((JP.ext HX).ext cY.ae);have F8:=af (HO.ext jY cY);have H57:=af (HX.trans cY);have QQ:w5.heap.size<=W6.heap.size:=H57.size;have pg:=af (cQ nZ X7);have awf:ah (fx v=none->dt fx v yv[ia]=true):=fun h=>by unfold dt;rw[h]
   have awe:ah (∀z,fx v=some z->dt fx v yv[ia]=(z==yv[ia])):=fun z h=>by unfold dt;rw[h]
   obtain⟨gy,oy,t_,Rn,Rv⟩:=tq pg YB;subst t_;obtain⟨S,dw⟩:∃S:World->Prop,S=fun w'=>w'.cell? ⟨bb,0,none⟩=some (.pointer (some ⟨xb,0,none⟩))/\w'.cell? ⟨bb+1,0,none⟩=some (.int .i64 v)/\w'.cell? ⟨xb,X_,none⟩=some fv/\(Instr.lookup Lg fv (.int .i64 v) true).run prog w'= .ok (.tuple #[.string ⟨((fx v).getD []).toArray⟩,.bool (fx v).isSome]) w':=⟨_,rfl⟩;have bL:ah (∀w',S w'->w'.cell? ⟨bb,0,none⟩=some (.pointer (some ⟨xb,0,none⟩))/\w'.cell? ⟨bb+1,0,none⟩=some (.int .i64 v)/\w'.cell? ⟨xb,X_,none⟩=some fv/\(Instr.lookup Lg fv (.int .i64 v) true).run prog w'= .ok (.tuple #[.string ⟨((fx v).getD []).toArray⟩,.bool (fx v).isSome]) w'):=ay4;have aH:ah (S W6.drew):=by rw[ah,dw];exact⟨NY.drew.aD 0,SZ.drew.aD 0,ai5.drew.sx.cell Rs,HFX.ae _ X7.drew⟩
   clear dw dD eH;refine b9 (S:=S) (T:=fun j=>decide (11<=j)) Ok ?_;have CA:=af (LQ xb jb nb sb f x cur on (rn,ra) (some ⟨gy,oy,none⟩) dk yv yw W6.drew ai5.drew.FE.st ai6 Jt I' (by rw[I'];exact bX jY pg (aC W6).drew));rw[I'] at CA;have qs:=af (F8.ext jY (aC W6).drew);have H58:=af H57.drew;have Gw:=af BY.drew;have FT:=af (cQ pg (aC W6).drew);have JQ:=af NY.drew;have YA:w5.heap.size<=W6.drew.heap.size:=QQ;clear BY QQ Rv;generalize W6.drew=wd at*;refine ax 0 71 ?_;refine ax 1 72 ?_;refine ax 2 73 ?_;refine ax 3 74 ?_;refine ax 4 75 ?_;refine ax 5 76 ?_;refine ax 6 70 ?_;refine ax 7 77 ?_;refine ax 8 78 ?_;refine ax 9 13 ?_;refine ax 10 14 ?_;refine bY Ok ?_;have b2:=JQ.aD 0;obtain⟨y0,y1⟩:=Gw.two;go_wp2_with fail
   refine CA.mono ?_;rintro e9 w9 ⟨rfl,pX⟩;have ke:=af (qs.ext jY pX);have H59:=af (H58.trans pX);have BY9:=af (Gw.ext pX);have hz9:w5.heap.size<=w9.heap.size:=H59.size;obtain⟨gy2,oy2,XB,_,Rv⟩:=tq (cQ FT pX) YB;injection XB with XB;injection XB with e1 e2;subst e1 e2;obtain⟨Ao,co,xo,rfl,Mt,_,lC,xH⟩:=ke.parts;obtain⟨y0,y1⟩:=BY9.two;clear pX b2 y0 y1 YA;obtain⟨y0,y1⟩:=BY9.two;generalize ey on cur (cj ra) yv=ab at*;generalize dt fx v yv[ia]=kb at*;generalize yv[ia]=t at*;have cK:(lo.length+1)*16<=140737488355328:=Om;cases ab with
   |false=>exact ahi
   |true=>
    rcases xc:fx v with _|z
    ·have hkb:=awf xc;subst hkb;have Qz:ah (lj fx on cur v ia (cj ra) (lf.take (j+1))=lo++ [t]):=aAq;exact m59
    ·have hkb:=awe z xc;by_cases hzt:z=t
     ·subst hzt;rw[beq_self_eq_true] at hkb;subst hkb;have Qz:ah (lj fx on cur v ia (cj ra) (lf.take (j+1))=lo++ [z]):=aAq;exact m59
     ·have auO:(z==t)=false:=beq_eq_false_iff_ne.2 hzt;rw[auO] at hkb;subst hkb;exact ahi
  ·have hT:lf.take j=lf:=dA Om;rw[hT] at HO;have d1:decide ((j:Int)<(lf.length:Int))=false:=aW;clear hT;have rE:ah (ym (bJ x) (bR T) (bV x) fx on cur v=lj fx on cur v ia (cj ra) lf):=by
    unfold ah ym;rw[afX.ae];simp only;have e1:bR T f=lf:=by unfold bR;rw[ai1.ae];rfl
    unfold lj EQ;rw[e1,HAF.ae,HIA.ae]
   have oq:ah (cb=(kr (lj fx on cur v ia (cj ra) lf)).filter fun t=>(f::tl).all fun i=>tK x T (put cur v t) (cV on v) i):=(by rw[ah,<-XZ.ae];unfold iE;rw[rE.ae,afX.ae];rfl);have Ce:(lj fx on cur v ia (cj ra) lf).length<=1000:=(by unfold lj;rw[cy];exact a8 (mK _ _) Om);generalize lj fx on cur v ia (cj ra) lf=lo at*;obtain⟨Ao,co,xo,rfl,Mt,hcm,lC,xH⟩:=HO.parts;by_cases Fj:lo= []
   ·subst Fj;have hce:cb= []:=by rw[oq.ae];rfl
    subst hce;have X8:=af (X5.trans HX);have Jr:=af (Tryz.slices_Sort_string_none Ao co wr);have NF:ah (Calls prog 249 #[.slice Ao 0 co] wr fun e w'=>e= .returned (.slice Ao 0 co)/\w'=wr):=Any.slices_Compact_string_empty aeQ Ao co wr;have HDN:=af (apU WK (fun _ _=>by rfl) (.pointer (some ⟨bb,0,none⟩)) (.pointer (some ⟨bb+1,0,none⟩)) (.pointer (some ⟨bb+1+1,0,none⟩)) Ao co wr hcm);have eZ:ah (eY pV pU tX cs w0 wr xb jb nb sb x T (put cur v (cur v)) on):=by rw[acD];exact HST.ext X8
    go_wp2_with fail
    refine Jr.mono ?_;rintro e1 w' ⟨rfl,rfl⟩;go_wp2_with fail;refine NF.mono ?_;rintro e1 w' ⟨rfl,rfl⟩;go_wp2_with fail;refine HDN.mono ?_;rintro e1 w' ⟨rfl,rfl⟩;go_wp2_with fail;exact bodyPost_ret (v:= .slice Ao 0 co) azA rfl ⟨Ao,co,cur v,rfl,aT _,hcm,fun h=>absurd rfl h,eZ,.ij X8⟩
   ·obtain⟨g,rest,hA,hgb,t_⟩:=aqJ HO Fj;subst hA;have HB9:=af t_;have X8:=af (X5.trans HX);have eZ:=af (HST.ext X8);have JQ:=af (JR.ext HX);have B38:=af (JP.ext HX);have B58:=af (NX.ext HX);have qs:=af (C9.ext cI HX);have Jr:=af (amI (c:=co) HB9 Ce);have tZ:w.heap.size<=g:=by have:=X5.size;omega
    clear t_;go_wp2_with fail;refine Jr.mono ?_;rintro e1 w1 ⟨rfl,hO1,hB1⟩;have NF:=af (an7 (c:=co) hB1 Ce Mt);have gZ:=af hO1;clear hB1 hO1;go_wp2_with fail
    refine NF.mono ?_;rintro e1 w2 ⟨rfl,hO2,ast,Cp⟩;have et:=af (gZ.trans hO2);have eE:=af Cp;have zy:ah ((kr lo).length<=co/\co<=maxLen):=⟨a8 (adA lo) Mt,hcm⟩;clear hO2 Cp;have ayL:bb+1+1<g:=Om;have wV:nb<bb:=by rw[<-sG];exact HST.nc.lt
    have E_:sb<bb:=by rw[<-sG];exact HST.sc.lt
    have ah5:w0.heap.size<=g:=by have:=HST.ex.size;omega
    have aip:g<w2.heap.size:=eE.lt;have d9:ah (eY pV pU tX cs w0 w2 xb jb nb sb x T (put cur v (cur v)) on):=by rw[acD];exact eZ.past et ah5 Om Om Om
    have B22:ah (ar w2 bb LP [.pointer (some ⟨xb,0,none⟩)]):=(et.block _ JQ.lt Oc).trans JQ.ae;have B32:ah (ar w2 (bb+1) aU [.int .i64 v]):=(et.block _ B38.lt Oc).trans B38.ae;have B52:ah (ar w2 (bb+1+1) cO [.slice (some ⟨gl,ol,none⟩) (f::tl).length RP]):=(by rw[<-hlen];exact(et.block _ B58.lt Oc).trans B58.ae)
    have HCX:ah (∀W',a7 [nb,sb,g] w2 W'->ar W' bb LP [.pointer (some ⟨xb,0,none⟩)]/\ar W' (bb+1) aU [.int .i64 v]/\ar W' (bb+1+1) cO [.slice (some ⟨gl,ol,none⟩) (f::tl).length RP]):=fun W' hc=>
     ⟨(hc.block _ B22.lt Oc).trans B22.ae,(hc.block _ B32.lt Oc).trans B32.ae,(hc.block _ B52.lt Oc).trans B52.ae⟩
    have SE:ah (∀W',a7 [nb,sb,g] w2 W'->∀q (hq:q<(f::tl).length),∃g' o',(some ⟨gl,ol,none⟩:aS)=some ⟨g',o',none⟩/\W'.cell? ⟨g',o'+q,none⟩=some (.int .i64 (((f::tl)[q]:Nat):Int))):=(by intro W' hc q hq;obtain⟨g',o',e,hlt,gX⟩:=io qs.ls (i:=q) (by rw[hlen];exact hq);injection e with e;injection e with e1 e2;subst e1 e2;refine⟨gl,ol,rfl,?_⟩;have h1:=et.block gl hlt Oc;have h2:=hc.block gl (cE hlt et.size) Oc;rw[show(ints (f::tl))[q]'(by rw[hlen];exact hq)=(((f::tl)[q]:Nat):Int) by unfold ints;rw[DK]] at gX;rw[<-gX];unfold World.cell?;simp only;rw[h2,h1]);obtain⟨Q,hQ⟩:∃Q:aF->Bool,Q=fun t=> !(f::tl).all fun i=>tK x T (put cur v t) (cV on v) i:=⟨_,rfl⟩;have HQ:=af (fun t=>congrFun hQ t);have HCQ:ah ((kr lo).filter (fun t=> !Q t)=cb):=(by rw[ah,oq.ae];refine GJ fun t _=> ?_;rw[HQ.ae t,Bool.not_not])
    clear hQ;have NA:=af (apV WK (fun _ _=>by rfl) (.pointer (some ⟨bb,0,none⟩)) (.pointer (some ⟨bb+1,0,none⟩)) (.pointer (some ⟨bb+1+1,0,none⟩)) Q (fun W'=>∃u,eY pV pU tX cs w0 W' xb jb nb sb x T (put cur v u) on/\a7 [nb,sb,g] w2 W') g co (kr lo) ast w2 ⟨cur v,d9,.ij (aC w2)⟩ eE zy.1 zy.2
     (fun W' W'' h ho=>by obtain⟨u,hs,hc⟩:=h;exact⟨u,hs.past ho ah5 Om Om Om,hc.only ho (.inl Ou)⟩)
     (fun W' t ys h ht II=>by
       obtain⟨u,hs,hc⟩:=h;obtain⟨k2,k3,k5⟩:=HCX W' hc;refine(zcn tX cs xb jb nb sb bb (bb+1) (bb+1+1) v x T (put cur v u) on (f::tl) (some ⟨gl,ol,none⟩) RP t w0 W' hs hv (fun i hi=>by rw[j9.ae];exact(M9 i hi).1) k2.lt k3.lt k5.lt ⟨by omega,by omega,by omega,by omega,by omega,by omega⟩ (k2.aD 0) (k3.aD 0) (k5.aD 0) ⟨by rw[<-hlen];exact aiw,aiv⟩
        (fun W3 h3=>SE W3 (hc.trans (h3.mono fun i hi _=>by simp only[aI,bF,or_false] at hi⊢;omega)))).mono ?_
       rintro e w' ⟨rfl,hs',hc'⟩;rw[adK] at hs';rw[Vn Q9] at hs';refine⟨by rw[HQ.ae t,adK],⟨t,hs',hc.trans (hc'.mono fun i hi _=>by simp only[aI,bF,or_false] at hi⊢;omega)⟩,?_⟩;exact(hc'.block g II.lt Oc).trans II))
    rw[HCQ.ae] at NA;have aY:=af (X8.only et Om);have avs:cb.length<=co:=by rw[oq.ae];exact a8 (mK _ _) zy.1
    go_wp2_with fail
    refine NA.mono ?_;rintro e3 w3 ⟨rfl,⟨u,hs3,hc3⟩,ass,hB3⟩;have n9:=af hs3;have iK:=af hc3;have g7:=af hB3;clear hs3 hc3 hB3;have nE:ah (a7 [nb,sb] w w3):=((ig aY).trans iK.ae).mono fun i hi hlt=>by simp only[aI,bF,or_false] at hi⊢;omega
    go_wp2_with fail
    exact bodyPost_ret (v:= .slice (some ⟨g,0,none⟩) cb.length co) azA rfl ⟨some ⟨g,0,none⟩,co,u,rfl,avs,hcm,fun _=>⟨g,ass,rfl,tZ,g7⟩,n9,nE⟩):=h
abbrev wH.Bn:= @func205
abbrev wH.Bl:= @ntmps205
abbrev wH.wM:= @results205
abbrev wH.WK:=(250:Nat)
abbrev wH.zcn:= @asQ
abbrev wH.LQ:= @VF
abbrev wH.LP:=(219:TypeId)
abbrev wH.X_:=(12:Nat)
abbrev wH.pV:=(13:Nat)
abbrev wH.pU:=(14:Nat)
open wH in
def aer(tX:TypeId)(cs:List Value)(xb jb nb sb v:Nat)(x:aQ)(T:List (List Rw))(cur:Nat->aF)(on:Nat->Bool)(fv:Value)(fx:Nat->Option aF)(w0 w:au)(h:eY 13 14 tX cs w0 w xb jb nb sb x T cur on)(Q9:on v=false)(hv:v<x.aq.length)(Rs:cs[12]?=some fv)(hF:vL w0 fv fx)(hne:gQ (bJ x) (bV x) v≠ [])
 (r6:x.aA.length<=6) (a12:x.aq.length<=12) (hT:∀l∈T,l.length<=1000):
 Calls prog 205 #[.pointer (some ⟨xb,0,none⟩),.int .i64 v] w fun e w'=>∃A c t,e= .returned (.slice A (iE (bJ x) (bR T) (bV x) fx on cur v).length c)/\(iE (bJ x) (bR T) (bV x) fx on cur v).length<=c/\c<=maxLen/\
  (iE (bJ x) (bR T) (bV x) fx on cur v≠ []->∃g rest,A=some ⟨g,0,none⟩/\w.heap.size<=g/\ar w' g bI ((iE (bJ x) (bR T) (bV x) fx on cur v).map encStr++rest))/\eY 13 14 tX cs w0 w' xb jb nb sb x T (put cur v t) on/\a7 [nb,sb] w w':=afR
abbrev wG.Bn:= @func258
abbrev wG.Bl:= @ntmps258
abbrev wG.wM:= @results258
abbrev wG.WK:=(287:Nat)
abbrev wG.zcn:= @asM
abbrev wG.LQ:= @VC
abbrev wG.LP:=(223:TypeId)
abbrev wG.X_:=(18:Nat)
abbrev wG.pV:=(19:Nat)
abbrev wG.pU:=(20:Nat)
open wG in
def apR(tX:TypeId)(cs:List Value)(xb jb nb sb v:Nat)(x:aQ)(T:List (List Rw))(cur:Nat->aF)(on:Nat->Bool)(fv:Value)(fx:Nat->Option aF)(w0 w:au)(h:eY 19 20 tX cs w0 w xb jb nb sb x T cur on)(Q9:on v=false)(hv:v<x.aq.length)(Rs:cs[18]?=some fv)(hF:vL w0 fv fx)(hne:gQ (bJ x) (bV x) v≠ [])
 (r6:x.aA.length<=6) (a12:x.aq.length<=12) (hT:∀l∈T,l.length<=1000):
 Calls prog 258 #[.pointer (some ⟨xb,0,none⟩),.int .i64 v] w fun e w'=>∃A c t,e= .returned (.slice A (iE (bJ x) (bR T) (bV x) fx on cur v).length c)/\(iE (bJ x) (bR T) (bV x) fx on cur v).length<=c/\c<=maxLen/\
  (iE (bJ x) (bR T) (bV x) fx on cur v≠ []->∃g rest,A=some ⟨g,0,none⟩/\w.heap.size<=g/\ar w' g bI ((iE (bJ x) (bR T) (bV x) fx on cur v).map encStr++rest))/\eY 19 20 tX cs w0 w' xb jb nb sb x T (put cur v t) on/\a7 [nb,sb] w w':=afR
def arv(a b:Bool)(w:au):Calls prog 242 #[.bool a,.bool b] w fun e c=>e= .returned (.bool (a||b))/\c=w:=by go_enter func242,ntmps242;cases a<;>cases b<;>(go_wp2;exact bodyPost_ret (by simp [results,results242,go_sem]) rfl ⟨rfl,rfl⟩)
def aqd(a b:Bool)(w:au):Calls prog 243 #[.bool a,.bool b] w fun e c=>e= .returned (.bool (a&&b))/\c=w:=by go_enter func243,ntmps243;cases a<;>cases b<;>(go_wp2;exact bodyPost_ret (by simp [results,results243,go_sem]) rfl ⟨rfl,rfl⟩)
def aqb(a:Bool)(w:au):Calls prog 244 #[.bool a] w fun e b=>e= .returned (.bool (!a))/\b=w:=by go_enter func244,ntmps244;cases a<;>(go_wp2;exact bodyPost_ret (by simp [results,results244,go_sem]) rfl ⟨rfl,rfl⟩)
def aoc(n:Int)(t:ByteArray)(w:au):Calls prog 200 #[av n,.string t] w fun e a=>e= .returned (.bool true)/\a=w:=by go_enter func200,ntmps200;go_wp2;exact bodyPost_ret (by simp [results,results200,go_sem]) rfl ⟨rfl,rfl⟩
def aru(n:Int)(w:au):Calls prog 201 #[av n] w fun e a=>e= .returned (.bool true)/\a=w:=by go_enter func201,ntmps201;go_wp2;exact bodyPost_ret (by simp [results,results201,go_sem]) rfl ⟨rfl,rfl⟩
def akX(w:au):Calls prog 199 #[] w fun e a=>e= .returned (.agg #[.bool false,.bool true,.func (.func 242) #[] #[],.func (.func 243) #[] #[],.func (.func 244) #[] #[]])/\Ext w a:=by go_enter func199,ntmps199;go_wp2;exact bodyPost_ret (by simp [results,results199,go_sem]) rfl ⟨rfl,(aC w).alloc _⟩
def RZ(a:au)(b:List Value)(n:Nat)(j h i:List (List Nat))(d:List Nat):Prop:=
 ∃g e f A c,b[1]?=some (.slice (some ⟨g,0,none⟩) (n+1) (n+1))/\b[2]?=some (.slice (some ⟨e,0,none⟩) n n)/\b[3]?=some (.slice (some ⟨f,0,none⟩) n n)/\b[4]?=some (.slice A d.length c)/\
  sI a (.slice (some ⟨g,0,none⟩) (n+1) (n+1)) (j.map ints)/\sI a (.slice (some ⟨e,0,none⟩) n n) (h.map ints)/\sI a (.slice (some ⟨f,0,none⟩) n n) (i.map ints)/\IL a (.slice A d.length c) (ints d)
def arS{k:List (List Nat)}(h:sI m (.slice (some ⟨a,0,none⟩) b c) (k.map ints)){i:Nat}(f:k[i]?=some j):
 ∃A d,a<m.heap.size/\m.cell? ⟨a,i,none⟩=some (.slice A j.length d)/\ah (IL m (.slice A j.length d) (ints j))/\i<b:=by
 have p:i<k.length:=by
  rcases cA i k.length with h|h
  ·exact h
  ·rw[fH h] at f;cases f
 have t:=(bE h).1;obtain⟨z,o,A,d,r,u,s,q⟩:=Ei h (i:=i) (by rw[cy];exact p);injection r with r;injection r with y x;subst y x;have e:(k.map ints)[i]'(by rw[cy];exact p)=ints j:=(by rw[DK];rw[aV p] at f;injection f with f;rw[f])
 have v:(ints j).length=j.length:=azg;rw[e,v] at s q;rw[jc] at q;exact⟨A,d,u,q,s,by rw[t,cy];exact p⟩
def PL{p:List (List Nat)}(h:sI m (.slice (some ⟨a,0,none⟩) b c) (p.map ints))(x:p[d]?=some i):
 ∃A f,ah (∀W,Kept cO m W->W.cell? ⟨a,d,none⟩=some (.slice A i.length f))/\ah (IL m (.slice A i.length f) (ints i))/\d<b:=by
 obtain⟨A,f,E,s,D,C⟩:=arS h x;refine⟨A,f,fun W k=> ?_,D,C⟩;obtain⟨O,N,t,e,_,_,_,B,_⟩:=h;injection e with e _ _;subst e;have K:(m.heap[a]?).isSome=true:=by rw[aae E];rfl
 have J:=s;unfold World.cell? at s⊢;simp only at s⊢;have F:∃j o,m.heap[a]?=some (.cells j cO o):=by
  obtain⟨u,z⟩:∃u,t[0]?=some u:=by
   rcases t with _|⟨u,t⟩
   ·exfalso;rename_i v;rcases p with _|⟨q,p⟩
    ·simp at x
    ·obtain⟨M,H,y,⟨_,_,G,_⟩,_⟩:=v;rw[G] at y;cases y
   ·exact⟨u,rfl⟩
  obtain⟨L,I,j,o,e,r,_⟩:=B 0 u z;injection e with e;injection e with e _;subst e;exact⟨j,o,r⟩
 obtain⟨j,o,r⟩:=F;rw[k a j o r,<-r];exact s
def nK(h:IL m (.slice E a b) (ints j)){k:Nat}(f:k<j.length)(e:Kept aU m n):∃g o,E=some ⟨g,o,none⟩/\n.cell? ⟨g,o+k,none⟩=some (.int .i64 (j[k]:Nat)):=by obtain⟨g,o,q,r,p⟩:=io (fN cI h fun t d=>by simp only[aI,bF,or_false] at d;subst d;exact e) (i:=k) (by unfold ints;rw[cy];exact f);refine⟨g,o,q,?_⟩;rw[p];unfold ints;rw[DK]
def q89.ahY(h:ai:=by
 go_enter func202,ntmps202;go_upto_region 1 with fail
 go_quiet (fail);go_wp2;exact bodyPost_ret (v:= .slice B l.length d) (by simp [results,results202,go_sem]) rfl ⟨B,d,rfl,HB,_,rfl⟩):=h
def amj(n:TypeId)(g:List Value)(f t r o:Nat)(x:aQ)(T:List (List Rw))(b:Nat->aF)(p:Nat->Bool)(i s u:List (List Nat))(j l:List Nat)(k a w:au)(h:eY 13 14 n g k w f t r o x T b p)(hp:RZ a g x.aq.length i s u j)(Mi:Kept cO a w)(hl:i[x.aq.length]?=some l)(y:x.aq.length<=12):
 Calls prog 202 #[.pointer (some ⟨f,0,none⟩)] w fun e m=>∃A c,e= .returned (.slice A l.length c)/\ah (IL a (.slice A l.length c) (ints l))/\∃q,m=w.drewN q:=by
 open q89 in exact ahp
def q90.ahY(h:ai:=by
 go_enter func209,ntmps209;go_upto_region 1 with fail
 go_quiet (fail);go_wp2;exact bodyPost_ret (v:= .slice B l.length d) (by simp [results,results209,go_sem]) rfl ⟨B,d,rfl,HB,_,rfl⟩):=h
def al5(n:TypeId)(g:List Value)(f t r o:Nat)(x:aQ)(T:List (List Rw))(b:Nat->aF)(p:Nat->Bool)(i s u:List (List Nat))(j l:List Nat)(k a w:au)(h:eY 19 20 n g k w f t r o x T b p)(hp:RZ a g x.aq.length i s u j)(Mi:Kept cO a w)(hl:i[x.aq.length]?=some l)(y:x.aq.length<=12):
 Calls prog 209 #[.pointer (some ⟨f,0,none⟩)] w fun e m=>∃A c,e= .returned (.slice A l.length c)/\ah (IL a (.slice A l.length c) (ints l))/\∃q,m=w.drewN q:=by
 open q90 in exact ahp
def pK.adj{n:Nat}{adj b:Nat->Nat->Prop}{c:VS}(h:pK adj n c O y)(j:∀x a,c x=true->c a=true->b x a->x≠a->adj x a):pK b n c O y:=
 ⟨h.ch,fun x a i g f e=>h.way x a i g (j x a i g f e) e⟩
def q91.k78(h:ai:=by
 refine⟨d,r,T8 r w n none [] hu hk (fun a h=> ?_),QU,YE,fun h=> ?_,?_⟩
 ·rcases h with h|⟨b,h,_⟩<;>cases h
 ·exact ag4
 ·refine Uf (fun v=>zT zU c) (fun v j h f e=> ?_) (AA n none) QU;have i:=beq_iff_eq.1 (fI.1 f).2;have g:=beq_iff_eq.1 (fI.1 e).2;exact i.symm.trans g):=h
def aj1{n:Nat}{at_:Nat->List Nat}{hl:List Nat}(c:hl.Nodup)(hne:∀t∈hl,at_ t≠ [])(hlt:∀t∈hl,∀a∈at_ t,a<n){q:Nat->Option Nat}(hpl:pK (Bw at_ hl) n (jC n) none q):
 ∃d,dp n q d/\Whole n at_ hl (eF n q (fun v=>hl.filter fun t=>fu d (at_ t) ((at_ t).headD 0)==v) n none):=by
 open q91 in exact m78
def km{x:aQ}:a∈bV x↔a<x.aA.length:=by unfold bV;exact dP
def wD{x:aQ}(f:a<x.aA.length)(g:∀c∈x.aA[a].2,(0:Int)<=c):b∈bJ x a↔(b:Int)∈x.aA[a].2:=by
 rw[uP f];unfold cj;rw[dH];constructor
 ·rintro⟨c,i,e⟩;have:=g c i;rwa[show(b:Int)=c by omega]
 ·exact fun h=>⟨_,h,by simp⟩
def alp{x:aQ}(k:cF x)(g:∀a,a<x.aq.length->a∈i):
 ∃d,dp x.aq.length (nN x i) d/\Whole x.aq.length (bJ x) (bV x) (eF x.aq.length (nN x i) (fun v=>(bV x).filter fun t=>fu d (bJ x t) ((bJ x t).headD 0)==v) x.aq.length none):=by
 have s:=AJ k.ri;have w:∀a b,fP (ik x.aq.length x.aA) a b->fP (ik x.aq.length x.aA) b a:=fun a b h=>by obtain⟨r,j,l,C,B⟩:=(s.bit a b).1 h;exact(s.bit b a).2 ⟨r,j,C,l,B.symm⟩
 obtain⟨_,m⟩:=OZ w g (x.aq.length+1) (jC x.aq.length) none (fun _=>some 0) (fun y u=>of_decide_eq_true u) (by rw[Hl];omega);have f:∀{t:Nat} (c:t<x.aA.length),∀b∈x.aA[t].2,(0:Int)<=b:=fun c b z=>(k.ri _ (aZ c) b z).1;refine aj1 (sV) (fun t c=> ?_) (fun t c a A=> ?_) (m.adj fun a b _ _ q o=> ?_)
 ·have c:=km.1 c;rw[uP c];intro e;have j:=k.rn _ (aZ c);unfold cj at e;exact j (List.map_eq_nil_iff.1 e)
 ·have c:=km.1 c;have j:=(wD c (f c)).1 A;have l:=(k.ri _ (aZ c) _ j).2;omega
 ·obtain⟨t,c,j,l⟩:=q;have c:=km.1 c;exact(s.bit a b).2 ⟨_,aZ c,(wD c (f c)).1 j,(wD c (f c)).1 l,o.symm⟩
def anW{x:aQ}{d:Nat->Nat}{v:Nat}(b:v<x.aq.length):(Ey x.aq.length d x.aA)[v]?=some ((bV x).filter fun t=>fu d (bJ x t) ((bJ x t).headD 0)==v):=by
 unfold Ey;rw[KI b];refine congrArg some (GJ fun t a=> ?_);have a:=km.1 a;have e:x.aA.getD t ([],[])=x.aA[t]:=by rw[fG,aV a];rfl
 rw[e,uP a];rfl
def apv{n v:Nat}{p:Nat->Option Nat}(a:v<n):(oO n p)[v]?=some (kids n p (some v)):=by
 unfold oO;rw[dY,lX Om];show some (kids n p (pW n v))=_
 unfold pW;rw[if_neg Om]
def alO{n:Nat}{p:Nat->Option Nat}:(oO n p)[n]?=some (kids n p none):=by
 unfold oO;rw[dY,lX Om];show some (kids n p (pW n n))=_
 unfold pW;rw[if_pos rfl]
def apw{g:List Nat}{v:Nat}{p:Nat->Option Nat}(a:v<g.length):(Bf g p)[v]?=some (pS g.length p g v):=by unfold Bf;rw[dY,lX a];rfl
def Fo.Ok.WD{at_:Nat->List Nat}{hl:List Nat}:∀{f:Fo} {S:List Nat},f.Ok at_ hl S->∀h∈f.homes,∃u∈f.vars,u∈at_ h
 | .nil,_,_,h,a=>by cases a
 | .cons v k b n,S,⟨j,_,i,g⟩,h,a=>by
   simp only[Fo.homes,bQ] at a;simp only[Fo.vars,aI,bQ];rcases a with a|a|a
   ·exact⟨v,.inl rfl,(j h a).1⟩
   ·obtain⟨u,e,c⟩:=i.WD h a;exact⟨u,.inr (.inl e),c⟩
   ·obtain⟨u,e,c⟩:=g.WD h a;exact⟨u,.inr (.inr e),c⟩
section
variable{n:Nat}{p:Nat->Option Nat}{d:Nat->Nat}{homes:Nat->List Nat}{at_:Nat->List Nat}{hl S:List Nat}{v:Nat}
theorem UE(r:dp n p d)(b:(fj n p homes v).Ok at_ hl S):∀c∈kids n p (some v),(fj n p homes c).Ok at_ hl (v::S):=by obtain⟨_,_,a,_⟩:=b;have h:j4 n p homes v=eD homes (j4 n p homes) (kids n p (some v)):=uF r Om;rw[h] at a;exact UW a
theorem abv(r:dp n p d)(a:(eF n p homes n none).Ok at_ hl []):∀c∈kids n p none,(fj n p homes c).Ok at_ hl []:=by have h:eF n p homes n none=eD homes (j4 n p homes) (kids n p none):=uF r (Oo _ _);rw[h] at a;exact UW a
end
def aow{α:Type}{R:SR α}{U:List aM}{g:Nat->aM->α}{W:Nat->(Nat->aM)->α}{x:aQ}(o:cF x){p:Nat->Option Nat}{d:Nat->Nat}{homes:Nat->List Nat}{S:List Nat}{v:Nat}(r:dp x.aq.length p d)(q:v<x.aq.length)
 (hW:∀h e l,(∀a∈bJ x h,l a=e a)->W h l=W h e) (i:(fj x.aq.length p homes v).Ok (bJ x) (bV x) S) (E:∀a∈S,dM p (some a) v) (j:∀h∈(fj x.aq.length p homes v).homes,h<x.aA.length) {e l:Nat->aM}
 (F:∀a∈pS x.aq.length p (ik x.aq.length x.aA) v,l a=e a):
 (fj x.aq.length p homes v).val R U g W l=(fj x.aq.length p homes v).val R U g W e:=by
 have f:∀{t:Nat} (c:t<x.aA.length),∀b∈x.aA[t].2,(0:Int)<=b:=fun c b G=>(o.ri _ (aZ c) b G).1;have k:∀a∈(fj x.aq.length p homes v).vars,a∉S:=fun a z m=>by
  have B:=(E a m).mW r a rfl q;rcases(OU r q).1 z with rfl|⟨A,H⟩
  ·omega
  ·have I:=H.mW r v rfl A;omega
 refine Fo.aqm hW i (OJ r q) k (fun h D a z m=> ?_) F;obtain⟨u,C,s⟩:=i.WD h D;have c:=j h D;have B:=(wD c (f c)).1 z;have A:=(wD c (f c)).1 s;have w:u≠a:=fun e=>k u C (e▸m);have y:a<x.aq.length:=by have:=(o.ri _ (aZ c) _ B).2;omega
 unfold pS;refine fI.2 ⟨dP.2 y,?_⟩;rw[cZ,th];refine⟨?_,E a m⟩;unfold qT;rw[<-aqp v];refine qG.2 ⟨u,C,?_⟩;exact((AJ o.ri).bit u a).2 ⟨_,aZ c,A,B,w.symm⟩
def afT{S:List Nat}{b:Nat->aM}:∀{l:List Nat} {r:List aM},sH S b l r=ey (fun a=>S.contains a) b l r
 | [],_=>by unfold sH ey;rfl
 |_::_,[]=>by unfold sH ey;rfl
 |a::l,x::r=>by
  unfold sH ey;rw[afT];congr 2;show decide (b a=x)=_
  rw[lZ,decide_eq_true_eq,beq_iff_eq]
section
variable{n:Nat}{p:Nat->Option Nat}{d:Nat->Nat}{homes:Nat->List Nat}{at_:Nat->List Nat}{hl:List Nat}{tab:iT}{fx:Nat->Option aM}{α:Type}{R:SR α}{g:Nat->aM->α}{U:List aM}
noncomputable def Bh(at_:Nat->List Nat)(tab:iT)(hl:List Nat)(fx:Nat->Option aM)(p:Nat->Option Nat)(v:Nat)(a:Nat->aM):List aM:=iE at_ tab hl fx (bK p v) a v
theorem Pi(r:dp n p d)(I:a<n)(F:Bb at_ tab hl)(L:∀a x,dt fx a x=false->g a x=R.zero)(M:∀h∈hl,∀y∈tab h,∀t∈y.1,t∈U)(o:gQ at_ hl a≠ [])(N:∀b,b∈i↔bK p a b=true)(c:Nat->aM):
 (Bh at_ tab hl fx p a c).Nodup/\(∀x∈Bh at_ tab hl fx p a c,x∈U)/\∀x∈U,x∉Bh at_ tab hl fx p a c->g a x=R.zero\/∃h∈hl,a∈at_ h/\∀y∈tab h,sH (a::i) (put c a x) (at_ h) y.1=false:=by
 have z:bK p a a=false:=by
  cases h:bK p a a with
  |false=>rfl
  |true=>have:=(th.1 h).mW r a rfl I;omega
 have G:∀x,x∈Bh at_ tab hl fx p a c↔dt fx a x=true/\∀h∈gQ at_ hl a,tL (cV (bK p a) a) (put c a x) (at_ h) (tab h)=true:=fun x=>Pj F z o;have A:(fun b=>(a::i).contains b)=cV (bK p a) a:=by
  funext b
  unfold cV;rw[lZ,pD,aI,lK,beq_iff_eq,N]
 refine⟨UV adc,fun x w=> ?_,fun x _ w=> ?_⟩
 ·obtain⟨_,E⟩:=(G x).1 w;rcases B:gQ at_ hl a with _|⟨j,l⟩
  ·exact absurd B o
  ·obtain⟨f,k⟩:=AD.1 (show j∈gQ at_ hl a by rw[B];simp);obtain⟨y,s,e⟩:=qG.1 (E j (by rw[B];simp));have K:=aeX k;have J:=S9 k;have H:=F.len j f y s;have u:y.1[(at_ j).idxOf a]?=some (y.1[(at_ j).idxOf a]'Om):=aV Om;have q:=x7.1 e _ _ _ K u (by simp [cV]);unfold put at q;rw[if_pos rfl] at q;rw[q];exact M j f y s _ (aZ _)
 ·by_cases m:dt fx a x=true
  ·refine .inr ?_;have O:∃h∈gQ at_ hl a,tL (cV (bK p a) a) (put c a x) (at_ h) (tab h)≠true:=S_ fun C=>w ((G x).2 ⟨m,fun h f=>S_ fun D=>C ⟨h,f,D⟩⟩);obtain⟨h,f,D⟩:=O;obtain⟨E,q⟩:=AD.1 f;refine⟨h,E,q,fun y s=> ?_⟩;rw[afT,A];cases e:ey (cV (bK p a) a) (put c a x) (at_ h) y.1 with
   |false=>rfl
   |true=>exact absurd (qG.2 ⟨y,s,e⟩) D
  ·exact .inl (L a x (by simpa using m))
theorem abl{f:Nat->Fo}{a:Nat->(Nat->aM)->List aM}{S:List Nat}:∀{l:List Nat},(∀c∈l,(Fo.cons c (homes c) (f c) .nil).Ii at_ hl tab a g U R S)->(eD homes f l).Ii at_ hl tab a g U R S
 | [],_=>trivial
 |c::l,h=>by obtain⟨j,i,_⟩:=h c Ou;exact⟨j,i,abl fun b e=>h b aAj⟩
theorem abq(r:dp n p d)(j:Bb at_ tab hl)(l:∀v x,dt fx v x=false->g v x=R.zero)(m:∀h∈hl,∀y∈tab h,∀t∈y.1,t∈U)(e:∀v,v<n->gQ at_ hl v≠ []):
 ∀(k:Nat) (u:Option Nat) (S:List Nat),(∀c,c<n->p c=u->∀a,a∈S↔bK p c a=true)->(eF n p homes k u).Ii at_ hl tab (Bh at_ tab hl fx p) g U R S
 |0,_,_,_=>trivial
 |k+1,u,S,o=>by refine abl fun c s=> ?_;obtain⟨f,q⟩:=iC.1 s;refine⟨Pi r f j l m (e c f) (o c f q),?_,trivial⟩;refine abq r j l m e k (some c) (c::S) fun b w i a=> ?_;rw[aI,o c f q a,AW i,lK];unfold VS.one;rw[beq_iff_eq];exact Or.comm
theorem abW{β:Type}{c:Nat->(Nat->β)->List β}{g:Nat->β->α}{W:Nat->(Nat->β)->α}{f:Nat->Fo}:∀(l:List Nat) (b:Nat->β),(eD homes f l).yG R c g W b=R.prod l fun a=>(Fo.cons a (homes a) (f a) .nil).yG R c g W b
 | [],_=>rfl
 |a::l,b=>by
  show R.mul _ ((eD homes f l).yG R c g W b)=R.mul (R.mul _ R.one) (R.prod l _)
  rw[SR.Ca,abW l b]
theorem amB(r:dp n p d){β:Type}{a:Nat->(Nat->β)->List β}{g:Nat->β->α}{W:Nat->(Nat->β)->α}(v:Nat)(b:Nat->β):
 (fj n p homes v).yG R a g W b=R.sum (a v b) fun x=>R.mul (R.mul (g v x) (R.prod (homes v) fun h=>W h (put b v x))) (R.prod (kids n p (some v)) fun c=>(fj n p homes c).yG R a g W (put b v x)):=by
 show R.mul (R.sum _ _) R.one=_
 rw[SR.Ca];refine oC fun x _=> ?_;have h:j4 n p homes v=eD homes (j4 n p homes) (kids n p (some v)):=uF r Om;rw[h,abW];rfl
theorem acm{s:Int->α}(r:dp n p d)(z:Bb at_ tab hl)(A:∀a x,dt fx a x=false->g a x=R.zero)(q:U.Nodup)(C:∀h∈hl,∀y∈tab h,∀t∈y.1,t∈U)(o:∀a,a<n->gQ at_ hl a≠ [])
 (l:a<n) (k:(fj n p homes a).Ok at_ hl i) (m:∀e,e∈i↔bK p a e=true) (j:Nat->aM):
 (fj n p homes a).val R U g (dS R at_ tab s) j=R.sum (Bh at_ tab hl fx p a j) fun x=>R.mul (R.mul (g a x) (R.prod (homes a) fun h=>dS R at_ tab s h (put j a x))) (R.prod (kids n p (some a)) fun c=>(fj n p homes c).val R U g (dS R at_ tab s) (put j a x)):=by
 have f:∀(a:Nat) (i:List Nat),a<n->(fj n p homes a).Ok at_ hl i->(∀e,e∈i↔bK p a e=true)->(fj n p homes a).Right U (Bh at_ tab hl fx p) g (dS R at_ tab s) R:=fun a i l k m=>by
  refine k.right (OJ r l) (fun e F E=> ?_) ⟨Pi r l z A C (o a l) m,?_,trivial⟩
  ·have D:=(th.1 ((m e).1 E)).mW r e rfl l;rcases(OU r l).1 F with rfl|⟨w,G⟩
   ·omega
   ·have I:=G.mW r a rfl w;omega
  ·refine abq r z A C o n (some a) (a::i) fun b H u e=> ?_;rw[aI,m e,AW u,lK];unfold VS.one;rw[beq_iff_eq];exact Or.comm
 rw[<-Km q _ j (f a i l k m),amB r a j];refine oC fun x _=> ?_;congr 1;refine rK fun c B=> ?_;obtain⟨D,w⟩:=iC.1 B;refine Km q _ _ (f c (a::i) D (UE r k c B) fun e=> ?_);rw[aI,m e,AW w,lK];unfold VS.one;rw[beq_iff_eq];exact Or.comm
end
def q92.ahE(h:ai:=by
 clear hall HU bs;generalize wr=w3 at*;go_upto_region 43 with fail
 go_loopw [14,158] (fun _ V wr=>∃j:Nat,j<=N/\V= .int .i64 j/\ah (Ext w3 wr)) (fun _ V _=>N - (RowKit.intOf V).toNat)
 exact⟨0,aT _,rfl,aC _⟩;obtain⟨j,hj,rfl,C⟩:=hrel;by_cases Y7:j<N
 ·have Fv:=(BU.ext C).cell (i:=j) (u:= .bool true) (by rw[Dv,if_pos Y7]);go_wp2_with fail;go_roundw;exact⟨j+1,by omega,by go_num,C⟩;simp [RowKit.intOf];omega
 ·obtain rfl:N=j:=Om;have dU:=af (s.trans C);clear BU s C;generalize wr=w4 at*;have qz:=af (kg.ext dU);obtain⟨s0,s1,s2,s3⟩:=qz.four;go_upto_region 49 with fail
  clear s0 s1 s2 s3;go_loopw [15,16,17,18,19,168] (fun _ _ _ _ _ U wr=>∃i:Nat,i<=M/\U= .int .i64 i/\ah (Ext w4 wr)) (fun _ _ _ _ _ U _=>M - (RowKit.intOf U).toNat);exact⟨0,aT _,rfl,aC _⟩;obtain⟨i,hi,rfl,jG⟩:=hrel;by_cases Fq:i<M
  ·have n:i<x.bk.length:=by rw[HM.ae];exact Fq
   have O:=af (J.trans (dU.trans jG));obtain⟨g,o,rfl,Q,b,m,eH⟩:=zL.get HF n;have HP:ah (∀w',Ext w w'->∀k (E:k<x.bk.length),ay w' g (o+k*3) (.int .i64 x.bk[k].1)):=fun w' hx k E=>by obtain⟨g',o',F,w_,h',_⟩:=zL.get HF E;injection F with F;injection F with e1 e2;subst e1 e2;exact(hx.cell (p:=aB g (o+k*3)) Q).trans h'
   have b:=(O.cell (p:=aB g (o+i*3)) Q).trans b;have m:=(O.cell (p:=aB g (o+i*3+1)) Q).trans m;have eH:=(O.cell (p:=aB g (o+i*3+2)) Q).trans eH;have f:=aZ n;have xc:=aN.fo _ f;have nx:=aN.fl _ f;rw[HLB.ae] at nx;have zF:ah (∀k (E:k<i),((x.bk[k]'Om).1==x.bk[i].1)=false):=fun k E=>by rw[beq_eq_false_iff_ne];exact rH.1 aN.fd k i Om n E
   clear f;generalize x.bk[i]=fe at*;obtain⟨fa,fk,fm⟩:=fe;simp only at b m eH nx zF;obtain⟨ly,y,hy,xc⟩:=xc;simp only at ly hy xc;obtain⟨q,rfl⟩:=Int.eq_ofNat_of_zero_le ly;rw[kF] at hy;obtain⟨H,hye⟩:=vO.1 hy;obtain⟨ga,oa,rfl,Rq, -,o7⟩:=oL HA H;rw[hye] at o7;have H:q<N:=by rw[<-HN.ae];exact H
   have hlq:((q:Int)==t)=false:=by rw[beq_eq_false_iff_ne];exact nx
   have Z:decide ((q:Int)<0)=false:=aW;have hqd:decide (N<=q)=false:=aW;clear hy hye nx ly;generalize wr=wo at*;go_upto_region 51 with fail
   refine aP fun w6 cY BA=> ?_;have jG:=af (jG.trans cY);have Dl:=af (O.trans cY);have lF:=af (qz.ext jG);obtain⟨s0,s1,s2,s3⟩:=lF.four;have q0:=BA.aD 0;have q1:=BA.aD 1;have q2:=BA.aD 2;have o7:=(Dl.cell (p:=aB ga (oa+q*2+1)) Rq).trans o7;clear b m eH O cY;rcases xc with⟨rfl,IJ,rfl|rfl⟩|⟨rfl,IJ,rfl⟩
   ·rw[IJ] at o7;exact m6
   ·rw[IJ] at o7;exact m6
   ·rw[IJ] at o7;exact m6
  ·obtain rfl:M=i:=Om;have ed:=af (J.trans (dU.trans jG));have BX9:=af (qz.ext jG);obtain⟨s0,s1,s2,s3⟩:=BX9.four;have l1:decide (t< -1)=false:=aW;by_cases hl0:0<=t
   ·obtain⟨a,ha,E⟩:=aN.lk (by rw[HLB.ae];exact hl0);rw[HLB.ae] at ha;obtain⟨q,rfl⟩:∃q:Nat,t=(q:Int):=⟨t.toNat,by omega⟩;rw[kF] at ha;obtain⟨H,hqe⟩:=vO.1 ha;obtain⟨g,o,rfl, -, -,hp⟩:=oL (bX mS HA ed) H;rw[hqe,E] at hp;have au5:q<N:=by rw[<-HN.ae];exact H
    have l2:decide ((q:Int)≥(N:Int))=false:=aW;have l2':decide (N<=q)=false:=aW;have l3:decide ((q:Int)≥0)=true:=fF;clear ha hqe hl0;go_wp2;go_ret;exact⟨rfl,ed⟩
   ·have l2:decide (t≥(N:Int))=false:=aW;have l2':decide ((N:Int)<=t)=false:=aW;have l3:decide (t≥0)=false:=aW;have l3':decide (0<=t)=false:=aW;go_wp2;go_ret;exact⟨rfl,ed⟩):=h
def abE(v:Value)(x:aQ)(w:au)(h:dK w v x)(ok:cF x):
 Calls prog 30 #[v] w fun e w'=>e= .returned (.int .i64 0)/\Ext w w':=by
 have aN:=af ok;obtain⟨A,c,B,d,D,e,rfl,ha,hr,hf⟩:=h;obtain⟨-,kT,Jc⟩:=bE ha;obtain⟨-,iY,kB⟩:=bE hr;obtain⟨-,he1,he2⟩:=bE hf;have HA:=af ha;have HR:=af hr;have HF:=af hf;have a1:=ok.a1;have a12:=ok.a12;have r1:=ok.r1;have r6:=ok.r6;have f8:=ok.f8;have lb:=ok.lb;clear ha hr hf ok;obtain⟨t,Xp⟩:∃t,x.label=t:=⟨_,rfl⟩;have HLB:=af Xp;rw[Xp] at lb⊢;clear Xp;obtain⟨N,hN⟩:∃N,x.aq.length=N:=⟨_,rfl⟩;have HN:=af hN;rw[hN] at HA a1 a12 lb kT⊢;clear hN;obtain⟨R,hR⟩:∃R,x.aA.length=R:=⟨_,rfl⟩;have j9:=af hR;rw[hR] at HR r1 r6 iY⊢;clear hR;obtain⟨M,hM⟩:∃M,x.bk.length=M:=⟨_,rfl⟩;have HM:=af hM;rw[hM] at HF f8 he1⊢;clear hM;have d1:decide ((N:Int)>12)=false:=aW;have d2:decide ((R:Int)>6)=false:=aW;have d3:decide ((M:Int)>8)=false:=aW;have b1:((N:Int)==0)=false:=ayZ;have b2:((R:Int)==0)=false:=ayZ;go_enter func30,ntmps30;go_upto_region 1 with fail
 refine aP fun W HX BX=> ?_;obtain⟨s0,s1,s2,s3⟩:=BX.four;go_upto_region 4 with fail
 clear s0 s1 s2 s3 d1 d2 d3 b1 b2;go_loopw [3,4,5,51] (fun _ _ _ v51 wr=>∃i:Nat,i<=N/\v51= .int .i64 i/\ah (Ext W wr)) (fun _ _ _ v51 _=>N - (RowKit.intOf v51).toNat);exact⟨0,aT _,rfl,aC _⟩;obtain⟨i,hi,rfl,s⟩:=hrel;by_cases Y':i<N
 ·have n:i<x.aq.length:=by rw[HN.ae];exact Y'
  have O:=af (HX.trans s);obtain⟨g,o,rfl,Q,b,m⟩:=oL HA n;have HP:ah (∀w',Ext w w'->∀k (E:k<x.aq.length),ay w' g (o+k*2) (.string ⟨x.aq[k].1.toArray⟩)):=fun w' hx k E=>by obtain⟨g',o',F,w_,h',_⟩:=oL HA E;injection F with F;injection F with e1 e2;subst e1 e2;exact(hx.cell (p:=aB g (o+k*2)) Q).trans h'
  have b:=(O.cell (p:=aB g (o+i*2)) Q).trans b;have m:=(O.cell (p:=aB g (o+i*2+1)) Q).trans m;have WR:=af (fun w'=>UG x.aq[i].1 w' (aN.aw _ (aZ n)));have E:=aN.ak _ (aZ n);have zF:ah (∀k (E:k<i),((x.aq[k]'Om).1==x.aq[i].1)=false):=fun k E=>by rw[beq_eq_false_iff_ne];intro h;exact rH.1 aN.ad k i Om n E h
  obtain⟨sn,Y⟩:∃sn,x.aq[i].1=sn:=⟨_,rfl⟩;obtain⟨kd,Ml⟩:∃kd,x.aq[i].2=kd:=⟨_,rfl⟩;rw[Y] at b WR zF;rw[Ml] at m E;clear Y Ml;have k1:decide (kd<1)=false:=aW;have k3:decide (kd>3)=false:=aW;generalize wr=wo at*;go_upto_region 6 with fail
  refine aP fun W3 L BA=> ?_;have Z:=BA.aD 0;clear b m;go_wp2_with fail
  refine(WR _).mono ?_;rintro F w4 ⟨rfl,G⟩;have I:=af (s.trans (L.trans G));have P:=af (BA.ext G);clear Z L BA G O s;go_upto_region 9 with fail
  go_loopw [5] (fun v5 wr=>∃k:Nat,k<=i/\v5= .int .i64 k/\ah (Ext w4 wr)) (fun v5 _=>i - (RowKit.intOf v5).toNat)
  exact⟨0,aT _,rfl,aC _⟩;obtain⟨k,Ci,rfl,iI⟩:=hrel;by_cases Mk:k<i
  ·have dE:k<x.aq.length:=Om;have hkN:k<N:=Om;have Mx:=zF k Mk;have F7:=af (fun w' hx=>HP w' hx k dE);generalize x.aq[k].1=sk at*;clear dE;have Gy:=af (BX.ext (I.trans iI));have qB:=af (P.ext iI);have Gj:=af (HX.trans (I.trans iI));go_upto_region 11 with fail
   have bL:ah (∀w',Ext wr w'->ay w' w.heap.size 0 (aG g o N c)/\ay w' g (o+k*2) (.string ⟨sk.toArray⟩)/\ay w' wo.heap.size 0 (.string ⟨sn.toArray⟩)):=fun w' hx=>⟨(Gy.ext hx).aD 0,F7.ae w' (Gj.trans hx),(qB.ext hx).aD 0⟩;have aH:ah (Ext wr wr.drew):=(aC wr).drew;refine b9 (S:=fun w'=>Ext wr w') (T:=fun _=>false) Ok ?_;refine ax 0 65 ?_;refine ax 1 66 ?_;refine ax 2 67 ?_;refine ax 3 68 ?_;refine ax 4 69 ?_;refine ax 5 70 ?_;refine ax 6 71 ?_;refine ax 7 72 ?_;refine ax 8 73 (v:= .bool false) ?_;refine bY Ok ?_;have kV:=af (iI.trans aH);clear bL aH;exact LZ
  ·obtain rfl:k=i:=Om;have qB:=af (P.ext iI);have K:=qB.aD 1;have kV:=af (I.trans iI);exact LZ
 ·obtain rfl:N=i:=Om;generalize wr=w1 at*;have kg:=af (BX.ext s);have J:=af (HX.trans s);clear BX HX s;obtain⟨s0,s1,s2,s3⟩:=kg.four;have hgx:w.heap.size<w1.heap.size:=kg.lt;have lR:=Kj N Om w1;go_upto_region 17 with fail
  refine aP fun W2 aY BU=> ?_;clear lR s0 s1 s2 s3;have js:=af (kg.ext aY);obtain⟨s0,s1,s2,s3⟩:=js.four;have uf:ah (Us (List.replicate N false) N ([]:List Int)):=⟨by simp,fun a h=>by cases h⟩;have Gz:ah (ar W2 w1.heap.size gh (qV (List.replicate N false))):=by rw[qV,zW];exact BU
  clear BU js;go_upto_region 18 with fail
  clear s0 s1 s2 s3;go_loopw [7,8,9,11,12,90] (fun _ _ _ _ _ Ye wr=>∃(i:Nat) (bs:List Bool),i<=R/\Ye= .int .i64 i/\ah (Us bs N ((x.aA.take i).flatMap (·.2)))/\ah (ar wr w1.heap.size gh (qV bs))/\ah (Ext w1 wr)) (fun _ _ _ _ _ Ye _=>R - (RowKit.intOf Ye).toNat);exact⟨0,_,aT _,rfl,uf,Gz,aY⟩;clear uf Gz aY;obtain⟨i,bs,hi,rfl,HU,BU,s⟩:=hrel;by_cases Cj:i<R
  ·have n:i<x.aA.length:=aAk;have O:=af (J.trans s);obtain⟨g,o,Bi,mi,di,rfl,Q,b,m,kC⟩:=qQ HR n;have HP:ah (∀w',Ext w w'->∀k (E:k<x.aA.length),ay w' g (o+k*2) (.string ⟨x.aA[k].1.toArray⟩)):=fun w' hx k E=>by obtain⟨g',o',B',m',d',F,w_,h',_,_⟩:=qQ HR E;injection F with F;injection F with e1 e2;subst e1 e2;exact(hx.cell (p:=aB g (o+k*2)) Q).trans h'
   have b:=(O.cell (p:=aB g (o+i*2)) Q).trans b;have m:=(O.cell (p:=aB g (o+i*2+1)) Q).trans m;have d_:ah (∀w',Ext w w'->IL w' (.slice Bi mi di) x.aA[i].2):=fun w' hx=>iP kC hx;have f:=aZ n;have WR:=af (fun w'=>UG x.aA[i].1 w' (aN.rw' _ f));have zF:ah (∀k (E:k<i),((x.aA[k]'Om).1==x.aA[i].1)=false):=fun k E=>by rw[beq_eq_false_iff_ne];intro h;exact rH.1 aN.rd k i Om n E h
   have hne:=aN.rn _ f;have fZ:=af (aN.ri _ f);have lV:=af (aN.ra _ f);have Gh:ah ((x.aA.take (i+1)).flatMap (·.2)=(x.aA.take i).flatMap (·.2)++x.aA[i].2):=(by rw[ah,Hm n,GF,List.flatMap_singleton])
   rw[HN.ae] at fZ;obtain⟨tW,YW,hdm⟩:=bE kC;have kA:0<mi:=by rw[tW];exact J1.2 hne
   have Rc:((mi:Int)==0)=false:=ayZ;have De:=af tW;clear kC f tW hne;obtain⟨sn,Y⟩:∃sn,x.aA[i].1=sn:=⟨_,rfl⟩;obtain⟨l,aiE⟩:∃l,x.aA[i].2=l:=⟨_,rfl⟩;rw[Y] at b WR zF;rw[aiE] at d_ fZ lV Gh De;clear Y aiE;generalize hLF:(x.aA.take i).flatMap (·.2)=lf at*;clear hLF;generalize wr=wo at*;have Ro:w1.heap.size<wo.heap.size:=BU.lt;go_upto_region 20 with fail
   refine aP fun W3 L BA=> ?_;have Z:=BA.aD 0;clear b m;go_wp2_with fail
   refine(WR _).mono ?_;rintro F w4 ⟨rfl,G⟩;have I:=af (s.trans (L.trans G));have NT:=af (BU.ext (L.trans G));have P:=af (BA.ext G);clear Z L BA G O s BU;go_upto_region 23 with fail
   go_loopw [9] (fun v9 wr=>∃k:Nat,k<=i/\v9= .int .i64 k/\ah (Ext w4 wr)) (fun v9 _=>i - (RowKit.intOf v9).toNat)
   exact⟨0,aT _,rfl,aC _⟩;obtain⟨k,Ci,rfl,iI⟩:=hrel;by_cases Mk:k<i
   ·have dE:k<x.aA.length:=Om;have Rh:k<R:=Om;have Mx:=zF k Mk;have F7:=af (fun w' hx=>HP w' hx k dE);generalize x.aA[k].1=sk at*;clear dE;have Gy:=af (kg.ext (I.trans iI));have qB:=af (P.ext iI);have Gj:=af (J.trans (I.trans iI));go_upto_region 25 with fail
    have bL:ah (∀w',Ext wr w'->ay w' w.heap.size 1 (aG g o R d)/\ay w' g (o+k*2) (.string ⟨sk.toArray⟩)/\ay w' wo.heap.size 0 (.string ⟨sn.toArray⟩)):=fun w' hx=>⟨(Gy.ext hx).aD 1,F7.ae w' (Gj.trans hx),(qB.ext hx).aD 0⟩;have aH:ah (Ext wr wr.drew):=(aC wr).drew;refine b9 (S:=fun w'=>Ext wr w') (T:=fun _=>false) Ok ?_;refine ax 0 104 ?_;refine ax 1 105 ?_;refine ax 2 106 ?_;refine ax 3 107 ?_;refine ax 4 108 ?_;refine ax 5 109 ?_;refine ax 6 110 ?_;refine ax 7 111 ?_;refine ax 8 112 (v:= .bool false) ?_;refine bY Ok ?_;have kV:=af (iI.trans aH);clear bL aH;exact LZ
   ·obtain rfl:i=k:=Om;have zP:=af (P.ext iI);have NS:=af (NT.ext iI);have HE5:=af (I.trans iI);clear P NT I iI WR zF HP;generalize wr=w5 at*;have K:=zP.aD 1;go_upto_region 30 with fail
    clear K;have ue:ah (Us bs N (lf++l.take 0)):=by rw[kH,kG];exact HU
    go_loopw [11,120] (fun _ X wr=>∃(j:Nat) (bs:List Bool),j<=mi/\X= .int .i64 j/\ah (Us bs N (lf++l.take j))/\ah (ar wr w1.heap.size gh (qV bs))/\ah (ar wr wo.heap.size tE [.string ⟨sn.toArray⟩,.slice Bi mi di])/\ah (Ext w1 wr)) (fun _ X _=>mi - (RowKit.intOf X).toNat)
    exact⟨0,bs,aT _,rfl,ue,NS,zP,HE5⟩;clear ue NS HU bs zP HE5;obtain⟨j,bs,hj,rfl,HU,BU,BA,C⟩:=hrel;by_cases Rj:j<mi
    ·have dX:j<l.length:=by rw[<-De.ae];exact Rj
     obtain⟨gi,oi,rfl,_,I5⟩:=io (d_ _ (J.trans C)) dX;have p6:=fZ _ (aZ dX);have Z5:=af (Hm dX);generalize l[j]=y at*;clear dX;obtain⟨q,rfl⟩:∃q:Nat,y=(q:Int):=⟨y.toNat,by omega⟩;have H:q<N:=Om;have Z:decide ((q:Int)<0)=false:=aW;have hqd:decide (N<=q)=false:=aW;have axV:decide ((q:Int)≥(N:Int))=false:=aW;have hfz:=BU.frozen q;have xe:∃u,wr.cell? (aB w1.heap.size q)=some u:=(by exact age)
     obtain⟨uq,xe⟩:=xe;obtain⟨W7,jo,B7,K7,N7⟩:=gp (i:=q) BU (.bool true);rw[aeq] at B7;have M0:=af (HU.set H);rw[iB,<-Z5.ae] at M0;have BA7:=af (BA.only N7 Om);have iy:=af (C.only N7 (aK _));clear p6 K7 N7 BA C BU;go_wp2_with fail
     go_roundw;exact⟨j+1,_,by omega,by go_num,M0,B7,BA7,iy⟩;simp [RowKit.intOf];omega
    ·obtain rfl:j=mi:=Om;rw[dA (by rw[<-De.ae];exact aK _),<-Gh.ae] at HU;generalize wr=w6 at*;have K:=BA.aD 1;go_upto_region 37 with fail
     clear K;go_loopw [12] (fun v12 wr=>∃k:Nat,1<=k/\k<=j/\v12= .int .i64 k/\ah (Ext w6 wr)) (fun v12 _=>j - (RowKit.intOf v12).toNat);exact⟨1,aK _,kA,rfl,aC _⟩;obtain⟨k,lS,hkj,rfl,iI⟩:=hrel;have qB:=af (BA.ext iI);have K:=qB.aD 1;by_cases Fm:k<j
     ·obtain⟨z,hz⟩:∃z,k=z+1:=⟨k - 1,by omega⟩;have hz1:k<l.length:=by rw[<-De.ae];exact Fm
      have hz0:z<l.length:=Om;have hlt:l[z]<l[k]:=rH.1 lV z k hz0 hz1 Om;obtain⟨gi,oi,rfl, -, -⟩:=io (d_ _ (J.trans C)) hz1;have sO:ah (∀w',Ext w w'->ay w' gi (oi+k) (.int .i64 l[k])/\ay w' gi (oi+z) (.int .i64 l[z])):=fun w' hx=>by
       refine⟨?_,?_⟩
       ·obtain⟨g',o',F,_,h⟩:=io (d_ _ hx) hz1;injection F with F;injection F with e1 e2;subst e1 e2;exact h
       ·obtain⟨g',o',F,_,h⟩:=io (d_ _ hx) hz0;injection F with F;injection F with e1 e2;subst e1 e2;exact h
      have Gj:=af (J.trans (C.trans iI));generalize l[k]=y1 at*;generalize l[z]=y0 at*;clear hz0 hz1;have rp:IntKind.i64.wrap ((k:Int) - 1)=(z:Int):=azL;have QP:z<j:=Om;clear hz;go_upto_region 39 with fail
      clear K;have bL:ah (∀w',Ext wr w'->ay w' wo.heap.size 1 (aG gi oi j di)/\ay w' gi (oi+k) (.int .i64 y1)/\ay w' gi (oi+z) (.int .i64 y0)):=fun w' hx=>⟨(qB.ext hx).aD 1,sO.ae w' (Gj.trans hx)⟩;have aH:ah (Ext wr wr.drew):=(aC wr).drew;refine b9 (S:=fun w'=>Ext wr w') (T:=fun _=>false) Ok ?_;refine ax 0 143 ?_;refine ax 1 144 ?_;refine ax 2 145 ?_;refine ax 3 146 ?_;refine ax 4 147 ?_;refine ax 5 148 ?_;refine ax 6 149 ?_;refine ax 7 150 ?_;refine ax 8 151 (v:= .int .i64 z) ?_;refine ax 9 152 ?_;refine ax 10 153 ?_;refine ax 11 154 (v:= .bool false) ?_;refine bY Ok ?_;have kV:=af (iI.trans aH);clear bL aH sO;go_wp2_with fail
      go_roundw;exact⟨k+1,by omega,by omega,by go_num,kV⟩;simp [RowKit.intOf];omega
     ·have Ml:decide (k<j)=false:=decide_eq_false Fm;have BU7:=af (BU.ext iI);have iy:=af (C.trans iI);go_wp2_with fail
      go_roundw;exact⟨i+1,bs,by omega,by go_num,HU,BU7,iy⟩;simp [RowKit.intOf];omega
  ·obtain rfl:R=i:=Om;open q92 in exact agR
def ajS{c b:List aF}(f:a<c.length)(e:a<b.length)(h:c.take a=b.take a)(d:c[a]=b[a]):c.take (a+1)=b.take (a+1):=by rw[pE,pE,h,aV f,aV e,d]
def Kf(H G:aS)(A F z E:Nat)(a b:List aF)(w:au)(t:TL w (.slice H A F) a)(s:TL w (.slice G z E) b):
 Calls prog 17 #[.slice H A F,.slice G z E] w fun e I=>e= .returned (.bool (a==b))/\∃n,I=w.drewN n:=by
 obtain⟨R,P,K⟩:=bE t;obtain⟨Q,O,J⟩:=bE s;subst R Q;have U:=af t;have T:=af s;clear t s;by_cases j:a.length=b.length
 ·have S:=af j;have p:((a.length:Int) !=(b.length:Int))=false:=by simp [j]
  have M:a.length<=b.length:=Om;have L:b.length<=a.length:=Om;clear j;go_enter func17,ntmps17;go_wp2;go_loopw [13] (fun v wr=>∃i:Nat,i<=a.length/\v= .int .i64 i/\ah (a.take i=b.take i)/\∃q,wr=w.drewN q) (fun v _=>a.length - (RowKit.intOf v).toNat)
  exact⟨0,aT _,rfl,rfl,0,rfl⟩;obtain⟨i,N,rfl,m,q,rfl⟩:=hrel;by_cases D:i<a.length
  ·have C:i<b.length:=Om;obtain⟨g,o,rfl,_,r⟩:=tq U D;obtain⟨W,V,rfl,_,l⟩:=tq T C;have d:=af (fun h=>ajS D C m h);have f:ah (a[i]≠b[i]->(a==b)=false):=fun h=>by rw[beq_eq_false_iff_ne];intro e;subst e;exact h rfl
   generalize a[i]=x at*;generalize b[i]=y at*;by_cases c:(x==y)=true
   ·have u:=af (d (beq_iff_eq.1 c));clear d f m;go_wp2;go_quiet (fail);go_wp2;go_roundw;exact⟨i+1,by omega,by go_num,u,_,rfl⟩;simp [RowKit.intOf];omega
   ·have B:(x==y)=false:=ay7;have k:=af (f ay7);clear c d f m;go_wp2;go_quiet (fail);go_wp2;go_ret;exact⟨by rw[k.ae];rfl,Ll _ _ _⟩
  ·obtain rfl:i=a.length:=Om;have k:ah ((a==b)=true):=(by have h:=m.ae;rw[f9,S.ae,f9] at h;exact beq_iff_eq.2 h)
   have d1:decide (a.length<a.length)=false:=Ou;go_wp2;go_ret;exact⟨by rw[k.ae];rfl,_,rfl⟩
 ·have p:((a.length:Int) !=(b.length:Int))=true:=Oc;have k:ah ((a==b)=false):=(by rw[ah,beq_eq_false_iff_ne];intro e;exact j (by rw[e]))
  clear j;go_enter func17,ntmps17;go_wp2;go_ret;exact⟨by rw[k.ae];rfl,0,rfl⟩
def Pm(A:aS)(n c:Nat)(l:List Int)(z:Int)(w:au)(h:IL w (.slice A n c) l):
 Calls prog 122 #[.slice A n c,.int .i64 z] w fun e u=>e= .returned (.bool (l.contains z))/\∃n,u=w.drewN n:=by
 obtain⟨x,v,B⟩:=bE h;subst x;have C:=af h;have p:ah (z∉l.take 0):=by simp [ah]
 clear h;go_enter func122,ntmps122;go_wp2_with fail;go_loopw [6,9] (fun _ f wr=>∃i:Nat,i<=l.length/\f= .int .i64 i/\ah (z∉l.take i)/\∃q,wr=w.drewN q) (fun _ f _=>l.length - (RowKit.intOf f).toNat);exact⟨0,aT _,rfl,p,0,rfl⟩;obtain⟨i,D,rfl,r,q,rfl⟩:=hrel;by_cases a:i<l.length
 ·obtain⟨g,o,rfl,_,E⟩:=io C a;have t:ah (l[i]≠z->z∉l.take (i+1)):=fun j b=>by
   rw[g9 a] at b;rcases bQ.1 b with b|b
   ·exact r b
   ·exact j (bG.1 b).symm
  have k:ah (l[i]=z->l.contains z=true):=fun h=>by rw[pD,<-h];exact aZ a
  generalize l[i]=y at*;by_cases d:y=z
  ·have m:=af (k d);subst d;clear k t r;go_wp2;go_ret;exact⟨by rw[m.ae];rfl,_,rfl⟩
  ·have F:(y==z)=false:=by rw[beq_eq_false_iff_ne];exact d
   have s:=af (t d);clear k;go_wp2;go_roundw;exact⟨i+1,by omega,by go_num,s,_,rfl⟩;simp [RowKit.intOf];omega
 ·obtain rfl:i=l.length:=Om;have m:ah (l.contains z=false):=(by have h:=r.ae;rw[f9] at h;rw[ah,<-uE,pD];exact h)
  have d1:decide (l.length<l.length)=false:=Ou;go_wp2;go_ret;exact⟨by rw[m.ae];rfl,_,rfl⟩
def yh(b:List Rl)(a:Int)(i:Nat):List Int:=(upto i).filter fun k=>match b[k.toNat]? with
 |some r=>r.2.contains a
 |none=>false
def ak0{c:List Rl}{a:Int}(h:b<c.length):yh c a (b+1)=if c[b].2.contains a=true then yh c a b++ [(b:Int)] else yh c a b:=by unfold yh;rw[acj,rI];simp only[rJ,kF,aV h,J8];split<;>simp
def aop(b:List Rl)(a:Int)(i:Nat):(yh b a i).length<=i:=by
 have:=mK (fun k:Int=>match b[k.toNat]? with
  |some r=>r.2.contains a
  |none=>false) (upto i)
 rw[TX] at this;exact this
def q93.yJ(h:ai:=by
 obtain⟨t0,t1,t2,t3⟩:=(BX.ext n).four;have l:=af (HX.trans n);clear CH SN s0 s1 s2 s3 HX n;go_upto_region 5 with fail
 clear t0 t1 t2 t3 BX;have V:=l.size;go_loopw [5,6,7,14] (fun Q _ _ j wr=>∃i:Nat,i<=E/\j= .int .i64 i/\ah (bH aU 1 dr I.heap.size wr Q (yh x.aA a i))/\ah (Ext I wr)) (fun _ _ _ j _=>E - (RowKit.intOf j).toNat)
 exact⟨0,aT _,rfl,f_,aC _⟩;obtain⟨i,hi,rfl,G,e⟩:=hrel;by_cases B:i<E
 ·have s:i<x.aA.length:=by rw[j9.ae];exact B
  obtain⟨g,o,Bi,S,X,rfl,hg,q,p,d⟩:=qQ (bX oF HR (l.trans e)) s;have b:=af (ak0 (a:=a) s);have W:=aop x.aA a i;have d:=af d;generalize x.aA[i]=rel at*;obtain⟨rn,J⟩:=rel;simp only at q p d b;generalize yh x.aA a i=z at*;go_upto_region 7 with fail
  refine aP fun L f N=> ?_;have M:=af (Pm Bi S X J a L (iP d f));have v:=af (G.ext cI f);have w:=af (e.trans f);obtain⟨Z,Y⟩:=N.two;clear G e f N q p;go_wp2_with fail
  refine M.mono ?_;rintro e2 w2 ⟨rfl,A,rfl⟩;have t:=af (v.ext cI ((aC _).drewN A));have m:=af (w.drewN A);generalize L.drewN A=W3 at*;clear M v w Z Y;cases y:J.contains a with
  |false=>rw[y] at b;have F:ah (yh x.aA a (i+1)=z):=b.ae;clear b y;go_wp2;go_roundw;exact⟨i+1,by omega,by go_num,by rw[F.ae];exact t,m⟩;simp [RowKit.intOf];omega
  |true=>
   rw[y] at b;have F:ah (yh x.aA a (i+1)=z++ [(i:Int)]):=b.ae;clear b y;obtain⟨O,K,P,rfl,_,C,c,H⟩:=t.parts;have T:=m.size;have D:(z.length+1)*8<=140737488355328:=Om;go_wp2_with (at_builtin;refine gG rfl _ _ 22 rfl I.heap.size jy _ _ _ rfl c.ae #[.int .i64 (i:Int)] 1 1 rfl rfl rfl D T ?_)
   intro v' w3 r k _;have O3:=af (iN (R:=dr) (x:=(i:Int)) cI Oy9 c H rfl r k);have E3:=af (jV m c k (aK _));clear r k;go_wp2;go_roundw;exact⟨i+1,by omega,by go_num,by rw[F.ae];exact O3,E3⟩;simp [RowKit.intOf];omega
 ·obtain rfl:i=E:=Om;obtain⟨O,K,P,rfl,_,C,c,H⟩:=G.parts;have d1:decide (i<i)=false:=Ou;go_wp2;go_ret;exact⟨O,K,rfl,(AZ c H).ls,l.trans e⟩):=h
def gC(x:Rw):List Rw->List Rw
 | []=> [x]
 |y::l=>if eA y.1 x.1=true then y::gC x l else if (y.1==x.1)=true then (y.1,y.2+x.2)::l else x::y::l
def j5(l:List Rw)(i:Nat):List Rw:=(l.take i).foldl (fun o x=>gC x o) []
def Uu{l:List Rw}(h:a<l.length):j5 l (a+1)=gC l[a] (j5 l a):=by unfold j5;rw[pE,aV h,DI];rfl
def rY(l:List Rw)(i:Nat):List Rw:=(l.take i).filter fun x=>x.2 !=0
def alR{l:List Rw}(h:a<l.length):rY l (a+1)=if (l[a].2 !=0)=true then rY l a++ [l[a]] else rY l a:=by unfold rY;rw[pE,aV h,rI];simp only[Option.toList,rJ,J8];split<;>simp
def Be(l:List Rw):List Rw:=rY (j5 l l.length) (j5 l l.length).length
def anS{x:Rw}{o:List Rw}(b:a<o.length)(h:gC x o=o.take a++gC x (o.drop a))(c:eA o[a].1 x.1=true):gC x o=o.take (a+1)++gC x (o.drop (a+1)):=by
 rw[h,i6 b];show o.take a++(if eA o[a].1 x.1=true then o[a]::gC x (o.drop (a+1)) else _)=_
 rw[if_pos c,pE,aV b,iB];rfl
def apC{x:Rw}{o:List Rw}{k:Nat}(a:k<o.length)(h:gC x o=o.take k++gC x (o.drop k))(hl:eA o[k].1 x.1=false)(he:(o[k].1==x.1)=false):gC x o=o.take k++x::o.drop k:=by rw[h,i6 a];exact agu
def apB{x:Rw}{o:List Rw}{k:Nat}(a:k<o.length)(h:gC x o=o.take k++gC x (o.drop k))(hl:eA o[k].1 x.1=false)(he:(o[k].1==x.1)=true):gC x o=o.set k (o[k].1,o[k].2+x.2):=by rw[h,S8,if_pos a,i6 a];exact agu
def apD{x:Rw}{o:List Rw}(h:gC x o=o.take o.length++gC x (o.drop o.length)):gC x o=o.take o.length++x::o.drop o.length:=by rw[h,Tn];rfl
def Vv(x:Rw):∀o:List Rw,(gC x o).length<=o.length+1
 | []=>aK _
 |y::l=>by
  unfold gC;have h:=Vv x l;split
  ·simp only[cW];omega
  ·split<;>simp only[cW]<;>omega
def afm{x:Rw}{m:Nat}(b:x.2.natAbs<=1000000):∀{o:List Rw},(∀y∈o,y.2.natAbs<=m)->∀y∈gC x o,y.2.natAbs<=m+1000000
 | [],_,y,a=>by rw[bG.1 a];omega
 |z::l,h,y,a=>by
  have d:=h z Ou;have c:=afm (o:=l) b (fun y a=>h y ay5);unfold gC at a;split at a
  ·rcases aI.1 a with rfl|a
   ·omega
   ·exact c y a
  ·split at a
   ·rcases aI.1 a with rfl|a
    ·simp only;omega
    ·have:=h y ay5;omega
   ·rcases aI.1 a with rfl|a
    ·omega
    ·have:=h y a;omega
def aeY{l:List Rw}(a:∀y∈l,y.2.natAbs<=1000000):∀i,i<=l.length->(j5 l i).length<=i/\∀y∈j5 l i,y.2.natAbs<=i*1000000
 |0,_=>⟨by simp [j5],fun y b=>by simp [j5] at b⟩
 |i+1,h=>by obtain⟨d,c⟩:=aeY a i Om;rw[Uu Om];refine⟨a8 (Vv _ _) Om,?_⟩;rw[rM];exact afm (a _ (aZ _)) c
def Ex(h:m.ownsRow a w b (aG c 0 d e) d t):c<m.heap.size:=(h.lt c rfl).2
def Ho(h:m.ownsRow a w b (aG c 0 d e) d t)(p:f<=d):m.ownsRow a w b (aG c 0 f e) f (t.take (f*b)):=by
 obtain⟨y,x|⟨C,A,l,o,r,q,B,v,u,s⟩⟩:=h
 ·cases x.1
 ·injection o with i D z;injection i with i;injection i with i;subst i z;have j:f*b<=d*b:=fc _ p;refine⟨by rw[cP,y];omega,.inr ⟨c,e,l,rfl,r,q,by omega,v,u,?_⟩⟩;rw[<-s,Ow,jJ j]
def acM(h:m.ownsRow a w b (aG c 0 d e) d t):Sl m w (cT c f) (t.drop f):=by intro j u p;obtain⟨y,o,l,s,i,q,r⟩:=wm h (f+j) u (by rw[<-p,GH]);injection i with i;injection i with x v;subst x v;exact⟨c,f,l,s,rfl,q,by rw[<-r,jc]⟩
def AX{P:Program}{o:Oper}{K:Act->World->Prop}{b:Exit->Act->World->Prop}(s f:Operand)(t:TypeId)
 (ho:o.op= .call {callee:= .builtin .append,args:= #[s,f],argTypes:= #[t,t]})
 (l:Nat) {size bytes:Nat} (T:ko P t w size bytes)
 (v:Value) (n:Nat) (B:List Value) (hs:Q.eval s=v) (y:m.ownsRow l w size v n B)
 (A:Addr) (d c:Nat) (k:List Value) (hx:Q.eval f= .slice (some A) d c) (M:k.length=d*size) (q:Sl m x (some A) k) (S:∀u∈k,u.oneCell'=true)
 (p:(n+d)*bytes<=140737488355328) (r:l<=m.heap.size)
 (h:∀v' w',w'.ownsRow l w size v' (n+d) (B++k)->m.grownBy w' v.ownBlock->(v'.ownBlock=v.ownBlock\/v'.ownBlock=some m.heap.size)->K (Q.put o.dst v') w'):o.wp P Q m K b:=by
 obtain⟨i,z,N,I,E,D,C⟩:=T.inf;have G:n+d<=maxLen:=(by have L:=T.XH;have:=JU (n+d) L;unfold maxLen;omega)
 have F:∀j u,k[j]?=some u->m.cell? (A.add j)=some u:=(by intro j u J;obtain⟨g,V,U,W,H,O,R⟩:=q j u J;injection H with H;subst H;rw[OE];simp [World.cell?,O,R]);obtain⟨v',w',hr,h2,h3,_,h5⟩:=run_append_own_at (P:=P) m l t o.type w i z size bytes T.ht N I E D C T.pos v n B y A d c k M F S G p r;exact agX
def Ch.drop{α:Type}{R:List Value->α->Prop}{k:Nat}(b:∀c x,R c x->c.length=k):∀{a:List Value} {l:List α} (_:Ch R a l) (n:Nat),Ch R (a.drop (n*k)) (l.drop n)
 |a,l,h,0=>by simpa using h
 |a,[],h,n+1=>by rw[show a= [] from h];simp [Ch]
 |a,x::l,⟨c,r,e,g,f⟩,n+1=>by
  subst e;have d:=b _ _ g;have e:(n+1)*k=c.length+n*k:=by rw[d,rM];omega
  rw[e,<-z8,List.drop_left];exact Ch.drop b f n
def PH(h:ar m a w t)(e:t.length=d*c)(f:b<=a)(i:d<=1000):m.ownsRow b w c (aG a 0 d d) d t:=
 ⟨e,.inr ⟨a,d,t.toArray,rfl,f,h,aK _,by unfold maxLen;omega,by simp [e],by simp [<-e]⟩⟩
def ao0{o:List Rw}(h:n.ownsRow a dJ 2 (aG b 0 c d) c t)(D:Ch (eh n) t o)(C:o.length=c)(r:e<o.length)(z:Int):
 bH dJ 2 eh a (n.setCell (aB b (e*2+1)) (av z)) (aG b 0 c d) (o.set e (o[e].1,z))/\n.grownBy (n.setCell (aB b (e*2+1)) (av z)) (some b):=by
 obtain⟨H,s⟩:=h.stored (e*2+1) (av z);refine⟨⟨_,by rw[lY,C];exact H,?_⟩,s⟩;have E:Kept bI n (n.setCell (aB b (e*2+1)) (av z)):=jW h s Od;have p:Ch (eh (n.setCell (aB b (e*2+1)) (av z))) t o:=D.mono fun d x y=>fL _ _ _ _ (fun u A=>by rw[bG.1 A];exact E) y;obtain⟨j,J,q,rfl,v,G,⟨B,f,rfl,hT⟩,F⟩:=Ch.split (eh.two _) p r;have I:(j++([Value.slice B o[e].1.length f,av o[e].2]++q)).set (e*2+1) (av z)=j++([Value.slice B o[e].1.length f,av z]++q):=(by rw[Dy _ _ Om];have i:e*2+1 - j.length=1:=Om;rw[i];rfl)
 rw[I,S8,if_pos r];exact KE (l:=o.take e) (m:=(o[e].1,z)::o.drop (e+1)) ⟨_,_,rfl,⟨B,f,rfl,hT⟩,F⟩ G
def VH{P:Program}{o:Oper}{w:au}{K:Act->World->Prop}{b:Exit->Act->World->Prop}(s c:Operand)(t:TypeId)
 (r:o.op= .call {callee:= .builtin .append,args:= #[s,c],argTypes:= #[t,t]})
 {size bytes:Nat} (T:ko P t x size bytes)
 (d n:Nat) (v:Value) (j:List Value) (q:Q.eval s=v) (g:w.ownsRow d x size v n j) (p:Q.eval c= .slice none 0 0)
 (h:K (Q.put o.dst v) w):o.wp P Q w K b:=by
 obtain⟨i,z,u,y,m,l,k⟩:=T.inf;have f:=run_append_owned_none (P:=P) (w:=w) d t o.type x i size T.ht u v n j g;unfold Oper.wp;simp [execOp,r,resolve,invoke,builtin,q,p,f,Result.andThen];exact h
def acP(h:m.ownsRow a w b (.slice E c d) c t):(E=none/\c=0/\d=0)\/∃g,E=cT g 0/\a<=g/\g<m.heap.size:=by
 rcases h.2 with⟨f,o⟩|⟨g,r,q,f,l,j,_⟩
 ·injection f with f p i;exact .inl ⟨f,o,i⟩
 ·injection f with f p i;exact .inr ⟨g,f,l,ie j⟩
def adE{l:List Rw}(h:Ch (eh m) t l):∀u∈t,u.oneCell'=true:=
 Ch.all (fun c x b u a=>by
  obtain⟨B,d,rfl,_⟩:=b;rcases aI.1 a with rfl|a
  ·rfl
  ·rw[bG.1 a];rfl) h
def ar3{o:List Rw}{k:Nat}{x:Rw}(h:Ch (eh n) t o)(b:TL n (.slice E x.1.length a) x.1):
 Ch (eh n) (t.take (k*2)++([.slice E x.1.length a,av x.2]++t.drop (k*2))) (o.take k++x::o.drop k):=
 KE (l:=o.take k) (m:=x::o.drop k) ⟨_,_,rfl,⟨E,a,rfl,b⟩,Ch.drop (eh.two _) h k⟩ (Ch.take (eh.two _) h k)
def Ch.PD{l:List Rw}(h:Ch (eh m) t l)(b:Kept bI m n):Ch (eh n) t l:=h.mono fun c x d=>fL _ _ _ _ (fun u a=>by rw[bG.1 a];exact b) d
def TL.yl{l:List aF}(h:TL m p l)(b:Kept bI m n):TL n p l:=fN jY h (fun u a=>by rw[bG.1 a];exact b)
def bH.weaken{α:Type}{b':Nat}{R:World->List Value->α->Prop}{l:List α}(h:bH w a R b' m p l)(r:b<=b'):bH w a R b m p l:=by
 obtain⟨f,⟨n,c⟩,j⟩:=h;refine⟨f,⟨n,?_⟩,j⟩;rcases c with c|⟨g,e,d,o,q,i⟩
 ·exact .inl c
 ·exact .inr ⟨g,e,d,o,by omega,i⟩
def apx(l:List Rw)(i:Nat):(rY l i).length<=i:=by unfold rY;have h:=mK (fun x:Rw=>x.2 !=0) (l.take i);rw[cP] at h;omega
def own_rw{o:List Rw}(h:bH dJ 2 eh a m (aG b 0 c d) o)(p:e<o.length):
 ∃B f,b<m.heap.size/\ay m b (e*2) (.slice B o[e].1.length f)/\ay m b (e*2+1) (av o[e].2)/\ah (TL m (.slice B o[e].1.length f) o[e].1):=by
 obtain⟨t,s,B,f,i,r,l,j,q⟩:=yf h.ls p;injection i with i;cases i;rw[jc] at l j;exact⟨B,f,r,l,j,q⟩
def q95.k41(h:ai:=by
 refine Et 7 63 (.slice (if co=k then cT go' 0 else cT go' (k*2)) (o.length - k) (co - k)) _ rfl rfl Ok (fun _ _ _ h=>h) aH rfl ?_ ?_;focus (intro w' O;go_simp)
 exact m5):=h
def q94.ahX(h:ai:=by
 have XK:=af (cQ H bh);have s:=(bh.cell (p:=aB go' (k*2)) G).trans s;have a:=(bh.cell (p:=aB go' (k*2+1)) G).trans a;have B:=cE G bh.size;obtain⟨b0,b1⟩:=js.two;have r:ah (∀n,Calls prog 17 #[.slice Bk y.1.length dk,.slice Bi xv.length di] (W2.drewN n) fun e w'=>e= .returned (.bool (y.1==xv))/\∃m,w'=W2.drewN m):=fun n=>by refine(Kf _ _ _ _ _ _ y.1 xv _ (cQ XK ((aC W2).drewN n)) (cQ kW ((aC W2).drewN n))).mono ?_;rintro e w' ⟨h1,m,rfl⟩;exact⟨h1,_,wj _ _ _⟩
 clear BX G;cases g:y.1==xv with
 |true=>
  rw[g] at r;have HN:=af (Jv g);clear g;go_quiet ((go_at_call 17;exact r _));go_upto_region 9 with fail
  have bh:ah (Ext W2 (W2.drewN nq).drew):=((aC W2).drewN nq).drew;generalize hW3:W2.drewN nq=W3 at*;clear hW3;have gL:=af (et.ext fL bh);have lG:=af (js.ext bh);have bZ:=af (aY.trans bh);have gK:=af (jM f4 bh);have iK:ah (Ch (eh W3.drew) xs o):=lg (fun c x hc=>fL _ _ _ _ (fun _ _=>rL bh) hc) fR;have a:=(bh.cell (p:=aB go' (k*2+1)) B).trans a;have Jl:ah (IntKind.i64.wrap (y.2+xw)=y.2+xw):=by have:=MV.ae;have:=HWi.ae;rw[ah,zY];omega
  clear s B b0 b1;have bL:ah (∀w',Ext W3.drew w'->ay w' bx 1 (av xw)/\ay w' go' (k*2+1) (av y.2)):=fun w' hx=>⟨(lG.ext hx).aD 1,(hx.cell (p:=aB go' (k*2+1)) (by have:=hgb.2;have:=hx.size;exact Ex gK)).trans a⟩;have aH:ah (Ext W3.drew W3.drew):=aC _;refine b9 (S:=fun w'=>Ext W3.drew w') (T:=fun j=>decide (10<=j)) Ok ?_;generalize W3.drew=wd at*;refine ax 0 46 ?_;refine ax 1 47 ?_;refine ax 2 48 ?_;refine ax 3 49 ?_;refine ax 4 50 ?_;refine ax 5 51 ?_;refine ax 6 52 ?_;refine Et 7 53 (av (y.2+xw)) _ rfl rfl Ok (fun _ _ _ h=>h) aH rfl ?_ ?_;focus (intro w' O;have hs:=bL w' O;go_split_ands;go_simp;exact Jl)
  simp only[Act.put,dN,dB,dO];refine ax 8 54 ?_;refine ax 9 55 ?_;obtain⟨P,MF⟩:=ao0 gK iK rfl d (y.2+xw);have Ze:wd.frozen? (aB go' (k*2+1))=false:=gK.frozenAt _;have Gk:=af (jV bZ gK MF (aK _));rw[<-HY.ae] at P;have rD:=af P;clear P MF;refine aL 10 ?_;intro K hK;go_simp;refine hK.ae _ _ Oy9 ?_;generalize wd.setCell (aB go' (k*2+1)) (av (y.2+xw))=W9 at*;refine bY Ok ?_;clear a Ze hK;go_wp2_with fail
  go_roundw;exact⟨i+1,by omega,by go_num,by rw[nC.ae,HN.ae];exact rD,Gk⟩;simp [RowKit.intOf];omega
 |false=>
  rw[g] at r;have HN:=af (HNN g);clear g;go_quiet ((go_at_call 17;exact r _));go_upto_region 10 with fail
  clear s a B b0 b1;open q95 in exact m41):=h
def q98.EK(h:ai:=by
 have tR:w.heap.size<=WZ.heap.size:=dU.size;refine AX _ _ eG rfl w.heap.size xT _ 0 [] rfl (lJ _ _ _ _) ⟨wd.heap.size,0,none⟩ 1 1 [.slice Bi xv.length di,av xw] rfl rfl (wm qm) ?_ Od tR ?_
 ·intro u hu;rcases aI.1 hu with rfl|hu
  ·rfl
  ·rw[bG.1 hu];rfl
 intro v9 w9 p8 uX _;have o5:Ext WZ w9:=AK uX;clear uX;have ed:=af (dU.trans o5);have ke:ah (bH dJ 2 eh w.heap.size w9 v9 [(xv,xw)]):=⟨_,p8,⟨_,[],rfl,⟨Bi,di,rfl,cQ FV o5⟩,rfl⟩⟩;obtain⟨A9,c9,rfl,_,_,_⟩:=dZ p8;clear p8 o5 BZ;simp only[Act.put,dN,dB,dO];refine hK.ae _ _ Oy9 ?_;clear hK;refine aL 10 ?_;intro K hK;go_simp;refine hK.ae _ _ Oy9 ?_;refine bY Ok ?_;clear hK;go_wp2_with fail
 go_roundw;exact⟨i+1,by omega,by go_num,by rw[nC.ae,HN.ae];exact ke,ed⟩;simp [RowKit.intOf];omega):=h
def q97.EK(h:ai:=by refine VH _ _ eG rfl xT wd.heap.size 1 _ _ rfl qm.ae rfl ?_;simp only[Act.put,dN,dB,dO];refine hK.ae _ _ (fun _=>cD.ae) ?_;clear hK;refine iO 9 Ok ?_;open q98 in exact EJ):=h
def q99.k41(h:ai:=by
 refine Et 7 63 (.slice (if co=k then cT go' 0 else cT go' (k*2)) (o.length - k) (co - k)) _ rfl rfl Ok (fun _ _ _ h=>h) aH rfl ?_ ?_;focus (intro w' O;go_simp)
 exact m5):=h
def q96.ahX(h:ai:=by
 clear BX b0 b1;go_quiet (fail);go_upto_region 10 with fail
 clear d1;rcases acP f4 with⟨rfl,h0,rfl⟩|⟨go',rfl,hgb⟩
 ·have h0:o= []:=lH h0;subst h0;have wY:k=0:=by simpa using hk
  subst wY;have bh:ah (Ext W2 (W2.drewN nq).drew):=((aC W2).drewN nq).drew;generalize hW3:W2.drewN nq=W3 at*;clear hW3;have gL:=af (et.ext fL bh);have lG:=af (js.ext bh);have bZ:=af (aY.trans bh);have zn:=af (cQ kW bh);have gK:=af (jM f4 bh);have iK:ah (Ch (eh W3.drew) xs []):=lg (fun c x hc=>fL _ _ _ _ (fun _ _=>rL bh) hc) fR;have bL:ah (∀w',Ext W3.drew w'->ay w' bx 0 (.slice Bi xv.length di)/\ay w' bx 1 (av xw)):=fun w' hx=>(lG.ext hx).two;have aH:ah (Ext W3.drew W3.drew):=aC _;have L3:w.heap.size<=W3.drew.heap.size:=bZ.size;refine b9 (S:=fun w'=>Ext W3.drew w') (T:=fun j=>decide (9<=j)) Ok ?_;generalize W3.drew=wd at*;refine ax 0 56 ?_;refine ax 1 57 ?_;refine ax 2 58 ?_;refine ax 3 59 ?_;refine ax 5 61 ?_;refine ax 6 62 ?_;refine ax 7 63 ?_;refine aL 4 ?_;intro K hK;go_simp;refine hK.ae _ _ (fun _=>aH.alloc _) ?_;refine aP fun WZ cD BZ=> ?_;have CX:=af (jM gK cD);have nE:=af (iK.PD (.jd cD.ae));have FV:=af (cQ zn cD);have dU:=af (bZ.trans cD);have qm:ah (WZ.ownsRow wd.heap.size dJ 2 (aG wd.heap.size 0 1 1) 1 [.slice Bi xv.length di,av xw]):=PH BZ rfl (aK _) Od;have hzz:wd.heap.size<=WZ.heap.size:=cD.size;clear hK;refine iO 8 Ok ?_;open q97 in exact EJ
 ·clear yQ;open q99 in exact m41):=h
def amM(A:aS)(n c:Nat)(l:List Rw)(w:au)(h:ny w (.slice A n c) l)(hl:l.length<=1000)(Y:∀y∈l,y.2.natAbs<=1000000):
 Calls prog 124 #[.slice A n c] w fun e w'=>∃v,e= .returned v/\bH dJ 2 eh w.heap.size w' v (Be l)/\Ext w w':=by
 obtain⟨hn,Me,hcm⟩:=bE h;subst hn;have HL:=af h;have HF:=af (aeY Y);have HWt:=af Y;clear h Y;go_enter func124,ntmps124;go_upto_region 3 with fail
 go_loopw [3,5,6,12] (fun v3 _ _ L wr=>∃i:Nat,i<=l.length/\L=av i/\ah (bH dJ 2 eh w.heap.size wr v3 (j5 l i))/\ah (Ext w wr)) (fun _ _ _ L _=>l.length - (RowKit.intOf L).toNat)
 exact⟨0,aT _,rfl,f_,aC _⟩;obtain⟨i,hi,rfl,U,HX⟩:=hrel;by_cases M:i<l.length
 ·obtain⟨gi,oi,Bi,di,rfl,mF,z,t,HTi⟩:=yf (yg HL HX) M;have nC:=af (Uu M);have HWi:=af (HWt _ (aZ M));obtain⟨hf1,hf2⟩:=HF i hi;have uo:=af hf2;clear hf2;generalize l[i]=x at*;generalize j5 l i=o at*;obtain⟨xv,xw⟩:=x;simp only at z t HTi HWi;obtain⟨Ao,co,xs,rfl,Fg,avo,HR,HC⟩:=U.parts;go_upto_region 5 with fail
  refine aP fun W f BX=> ?_;have gZ:=af (U.ext fL f);have bW:=af (HX.trans f);have ug:=af (cQ HTi f);have vu:=BX.lt;have E8:w.heap.size<=wr.heap.size:=HX.size;generalize wr.heap.size=bx at*;clear z t;have XT:ah (gC (xv,xw) o=o.take 0++gC (xv,xw) (o.drop 0)):=rfl;go_upto_region 6 with fail
  go_loopw [6] (fun v6 wr=>∃k:Nat,k<=o.length/\v6=av k/\ah (gC (xv,xw) o=o.take k++gC (xv,xw) (o.drop k))/\ah (bH dJ 2 eh w.heap.size wr (.slice Ao o.length co) o)/\ah (ar wr bx dJ [.slice Bi xv.length di,av xw])/\ah (TL wr (.slice Bi xv.length di) xv)/\ah (Ext w wr)) (fun v6 _=>o.length - (RowKit.intOf v6).toNat)
  exact⟨0,aT _,rfl,XT,gZ,BX,ug,bW⟩;clear BX vu;obtain⟨k,hk,rfl,I,gZ,BX,ug,bW⟩:=hrel;obtain⟨b0,b1⟩:=BX.two;have vu:=BX.lt;generalize wr=W at*;by_cases d:k<o.length
  ·obtain⟨_,_,xs,e,_,_,HR,HC⟩:=gZ.parts;cases e;obtain⟨go',rfl,hgb⟩:=xX HR Om;obtain⟨Bk,dk,G,s,a,H⟩:=own_rw gZ d;have D:ah (∀n,Calls prog 86 #[.slice Bk o[k].1.length dk,.slice Bi xv.length di] (W.drewN n) fun e w'=>e= .returned (.bool (eA o[k].1 xv))/\∃m,w'=W.drewN m):=fun n=>by refine(UK _ _ _ _ _ _ o[k].1 xv _ (cQ H ((aC W).drewN n)) (cQ ug ((aC W).drewN n))).mono ?_;rintro e w' ⟨h1,m,rfl⟩;exact⟨h1,_,wj _ _ _⟩
   have r:ah (∀n,Calls prog 17 #[.slice Bk o[k].1.length dk,.slice Bi xv.length di] (W.drewN n) fun e w'=>e= .returned (.bool (o[k].1==xv))/\∃m,w'=W.drewN m):=fun n=>by refine(Kf _ _ _ _ _ _ o[k].1 xv _ (cQ H ((aC W).drewN n)) (cQ ug ((aC W).drewN n))).mono ?_;rintro e w' ⟨h1,m,rfl⟩;exact⟨h1,_,wj _ _ _⟩
   have bB:=af (fun h=>anS d I h);have d9:=af (fun h h'=>apC d I h h');have Q:=af (fun h h'=>apB d I h h');have MV:=af (uo _ (aZ d));simp only at bB d9 Q;obtain⟨y,hy⟩:∃y,y=o[k]:=⟨_,rfl⟩;have HY:=af hy;rw[<-hy] at D r bB d9 Q MV s a H;clear hy;cases b:eA y.1 xv with
   |true=>
    rw[b] at D;have HN:=af (bB b);clear b;go_wp2_with fail
    go_quiet ((go_at_call 86;exact D _));go_wp2;go_roundw;exact⟨k+1,by omega,by go_num,HN,gZ.ext fL ((aC W).drewN _),BX.drewN _,cQ ug ((aC W).drewN _),bW.drewN _⟩;simp [RowKit.intOf];omega
   |false=>
    rw[b] at D;have HNN:=af (d9 b);have Jv:=af (Q b);clear b;go_wp2_with fail
    go_quiet ((go_at_call 86;exact D _));open q94 in exact aho
  ·have yQ:o.length<=k:=Om;obtain⟨_,_,xs,e,_,_,HR,HC⟩:=gZ.parts;cases e;have HN:ah (gC (xv,xw) o=o.take k++(xv,xw)::o.drop k):=(by have e:k=o.length:=Om;rw[ah,e];exact apD (by rw[<-e];exact I))
   have d1:decide ((k:Int)<(o.length:Int))=false:=aW;go_wp2_with fail;go_quiet (fail);open q96 in exact aho
 ·obtain rfl:i=l.length:=Om;have hFL:=(HF l.length (aK _)).1;have M7:ah (Be l=rY (j5 l l.length) (j5 l l.length).length):=rfl;have d1:decide (l.length<l.length)=false:=Ou;generalize j5 l l.length=F at*;have HFo:ah (ny wr u3 F):=U.ls;obtain⟨Ao,co,xs,rfl,Fg,avo,_,_⟩:=U.parts;have hwr:w.heap.size<=wr.heap.size:=HX.size;go_upto_region 14 with fail
  clear d1;go_loopw [7,9,69] (fun v7 _ J w2=>∃j:Nat,j<=F.length/\J=av j/\ah (bH dJ 2 eh wr.heap.size w2 v7 (rY F j))/\ah (Ext wr w2)) (fun _ _ J _=>F.length - (RowKit.intOf J).toNat);exact⟨0,aT _,rfl,f_,aC _⟩;generalize wr=wF at*;obtain⟨j,hj,rfl,U,HE⟩:=hrel;by_cases dX:j<F.length
  ·obtain⟨gj,oj,Bj,dj,rfl,hgj,z,t,HTj⟩:=yf (yg HFo HE) dX;have E:=af (alR dX);have d:=apx F j;generalize F[j]=x at*;generalize rY F j=o at*;obtain⟨xv,xw⟩:=x;simp only at z t HTj E;go_upto_region 16 with fail
   refine aP fun W f BX=> ?_;have gZ:=af (U.ext fL f);have V:=af (HE.trans f);have ug:=af (cQ HTj f);obtain⟨b0,b1⟩:=BX.two;have lU:=BX.lt;clear z t BX;cases hc:xw !=0 with
   |false=>rw[hc] at E;have HU:ah (rY F (j+1)=o):=E.ae;go_wp2;go_roundw;exact⟨j+1,by omega,by go_num,by rw[HU.ae];exact gZ,V⟩;simp [RowKit.intOf];omega
   |true=>
    rw[hc] at E;have HU:ah (rY F (j+1)=o++ [(xv,xw)]):=E.ae;obtain⟨A7,c7,xs7,rfl,_,_,C,X⟩:=gZ.parts;have Y:=V.size;have cK:(o.length+1)*32<=140737488355328:=Om;go_wp2_with (at_builtin;refine gG rfl _ _ eG rfl _ xT _ _ _ rfl C.ae #[.slice Bj xv.length dj,av xw] 1 1 rfl rfl rfl cK Y ?_)
    intro v' w3 Z N _;have O3:=af (iN (R:=eh) (x:=(xv,xw)) fL (fun u hu=>by rw[bG.1 hu];decide) C X ⟨Bj,dj,rfl,ug⟩ Z N);have E3:=af (jV V C N (aK _));clear Z N;go_wp2;go_roundw;exact⟨j+1,by omega,by go_num,by rw[HU.ae];exact O3,E3⟩;simp [RowKit.intOf];omega
  ·obtain rfl:j=F.length:=Om;have d1:decide (F.length<F.length)=false:=Ou;obtain⟨A7,c7,xs7,rfl,_,_,C,X⟩:=U.parts;go_wp2;go_ret;exact⟨_,rfl,by rw[M7.ae];exact(AZ C X).weaken hwr,HX.trans HE⟩
def kd(x:aQ)(a:Int):Int:=(x.aq[a.toNat]?.getD ([],1)).2
def pJ(x:aQ)(c:List Int)(b:List aF):Prop:=b.length=c.length/\∀(i:Nat) (a:Int) (t:aF),c[i]?=some a->b[i]?=some t->eL (kd x a) t
def pJ.nil{x:aQ}:pJ x [] []:=⟨rfl,fun i a t h=>by simp at h⟩
def pJ.snoc{x:aQ}{f:List aF}{t:aF}(h:pJ x L f)(l:eL (kd x B) t):pJ x (L++ [B]) (f++ [t]):=by
 refine⟨by rw[bC,bC,h.1];rfl,fun i b u c d=> ?_⟩;rcases cA i L.length with e|e
 ·rw[pC e] at c;rw[pC (by rw[h.1];exact e)] at d;exact h.2 i b u c d
 ·rw[zR e] at c;rw[zR (by rw[h.1];exact e),h.1] at d;rcases k:i - L.length with _|j
  ·rw[k] at c d;simp only[dR,dG] at c d;subst c d;exact l
  ·rw[k] at c;simp at c
def EC(x:aQ)(a:List Int)(m:Int)(l:List Rw):Prop:=∀y∈l,pJ x a y.1/\1<=y.2/\y.2<=m
def EC.snoc{x:aQ}{m:Int}{l:List Rw}{y:Rw}(h:EC x L m l)(d:pJ x L y.1)(c:1<=y.2)(b:y.2<=m):EC x L m (l++ [y]):=by
 intro z a;rcases bQ.1 a with a|a
 ·exact h z a
 ·rw[bG.1 a];exact⟨d,c,b⟩
section
variable{w w':au}{g:Nat}{v:Value}
theorem dK.past{x:aQ}(h:dK w v x)(a:cJ w g)(b:Only g w w'):dK w' v x:=h.kept (Src.Wy a b) Od Od Od Od
theorem AL.past{l:List k6}(h:AL w v l)(b:cJ w g)(c:Only g w w'):AL w' v l:=Ls.kept mS h (Src.Wy b c) ⟨by decide,fun u a=>by cases a⟩
theorem IL.past(h:IL w v L)(b:cJ w g)(c:Only g w w'):IL w' v L:=Ls.kept cI h (Src.Wy b c) ⟨by decide,fun u a=>by cases a⟩
theorem ani{l:List Rw}(h:bH dJ 2 eh a w v l)(e:cJ w g)(c:Only g w w')(f:g<a):bH dJ 2 eh a w' v l:=h.only fL c f (fun u d=>by rw[bG.1 d];exact uM e c Od)
theorem anh{l:List (List Rw)}(h:bH eG 1 lz a w v l)(e:cJ w g)(d:Only g w w')(f:g<a):bH eG 1 lz a w' v l:=h.only mU d f (fun u c=>by
 rcases aI.1 c with rfl|c
 ·exact uM e d Od
 ·rw[bG.1 c];exact uM e d Od)
theorem ang{l:List aF}(h:bH bI 1 jq a w v l)(d:Only g w w')(e:g<a):bH bI 1 jq a w' v l:=h.only jY d e Oy9
end
abbrev IE(a b:Rw):Prop:=eA a.1 b.1=true
structure tC(x:aQ)(cs:List Int)(l:List Rw):Prop where
 len:l.length<=60
 val:∀y∈l,pJ x cs y.1
 wt:∀y∈l,1<=y.2/\y.2<=100
 ord:l.Pairwise IE
def jD(x:aQ)(D:List (List Rw)):Prop:=D.length=x.aA.length/\∀(k:Nat) (t:List Rw) (r:Rl),D[k]?=some t->x.aA[k]?=some r->tC x r.2 t
def Vu{x:Rw}{Q:List aF->Prop}(b:Q x.1):∀{o:List Rw},(∀y∈o,Q y.1)->∀y∈gC x o,Q y.1
 | [],_,y,a=>by rw[bG.1 a];exact b
 |z::l,h,y,a=>by
  have c:=h z Ou;have d:=Vu (o:=l) b (fun y a=>h y ay5);unfold gC at a;split at a
  ·rcases aI.1 a with rfl|a
   ·exact c
   ·exact d y a
  ·split at a
   ·rcases aI.1 a with rfl|a
    ·exact c
    ·exact h y ay5
   ·rcases aI.1 a with rfl|a
    ·exact b
    ·exact h y a
def aeV{x:Rw}{m k:Int}(b:1<=x.2/\x.2<=k)(c:0<=m):∀{o:List Rw},(∀y∈o,1<=y.2/\y.2<=m)->∀y∈gC x o,1<=y.2/\y.2<=m+k
 | [],_,y,a=>by rw[bG.1 a];omega
 |z::l,h,y,a=>by
  have e:=h z Ou;have d:=aeV (o:=l) b c (fun y a=>h y ay5);unfold gC at a;split at a
  ·rcases aI.1 a with rfl|a
   ·omega
   ·exact d y a
  ·split at a
   ·rcases aI.1 a with rfl|a
    ·simp only;omega
    ·have:=h y ay5;omega
   ·rcases aI.1 a with rfl|a
    ·omega
    ·have:=h y a;omega
def ad8{x:Rw}:∀{o:List Rw},o.Pairwise IE->(gC x o).Pairwise IE
 | [],_=>by simp [gC]
 |z::l,h=>by
  obtain⟨d,g⟩:=jI.1 h;unfold gC;split
  ·rename_i b;exact jI.2 ⟨Vu (Q:=fun t=>eA z.1 t=true) b d,ad8 g⟩
  ·rename_i b;split
   ·exact jI.2 ⟨d,g⟩
   ·rename_i f;have a:eA x.1 z.1=true:=by
     cases i:eA x.1 z.1 with
     |true=>rfl
     |false=>have e:=qP.EZ x.1 z.1 i azn;rw[e] at f;simp at f
    refine jI.2 ⟨fun y c=> ?_,h⟩;rcases aI.1 c with rfl|c
    ·exact a
    ·exact qP.tr _ _ _ a (d y c)
def aei{x:aQ}{b:List Int}{m:Int}{l:List Rw}(c:0<=m)(h:EC x b m l):∀i:Nat,i<=l.length->(j5 l i).length<=i/\(∀y∈j5 l i,pJ x b y.1)/\(∀y∈j5 l i,1<=y.2/\y.2<=(i:Int)*m)/\(j5 l i).Pairwise IE
 |0,_=>⟨by simp [j5],fun y a=>by simp [j5] at a,fun y a=>by simp [j5] at a,by simp [j5]⟩
 |i+1,j=>by
  obtain⟨k,g,f,d⟩:=aei c h i Om;have a:=h _ (aZ (show i<l.length by omega));rw[Uu Om];refine⟨a8 (Vv _ _) Om,Vu (Q:=fun t=>pJ x b t) a.1 g,?_,ad8 d⟩;have e:((i+1:Nat):Int)*m=(i:Int)*m+m:=(by rw[Tv,Int.add_mul];omega)
  rw[e];exact aeV a.2 (GV Om c) f
def aX(x:aQ)(D:List (List Rw)):List (List Rw):=(List.range x.aA.length).map fun i=>iR x.aA ((x.aA[i]?.map (·.2)).getD []) (D[i]?.getD [])
def mP(x:aQ)(D:List (List Rw)):(aX x D).length=x.aA.length:=by unfold aX;simp
def Ks{x:aQ}{D:List (List Rw)}(b:a<x.aA.length)(c:a<D.length):(aX x D)[a]?=some (iR x.aA x.aA[a].2 D[a]):=by unfold aX;rw[dY,lX b];simp only[aaL,aV b,aV c,aaF]
def xY{a:List Rl}{l:List Rw}{y:Rw}(h:y∈iR a L l):y∈l:=(fI.1 h).1
section
variable{x:aQ}{D:List (List Rw)}
theorem PV(d:jD x D)(e:a∈bV x):∃(b:a<x.aA.length) (c:a<D.length),bR (aX x D) a=iR x.aA x.aA[a].2 D[a]/\tC x x.aA[a].2 D[a]:=by
 have b:=km.1 e;have c:a<D.length:=by rw[d.1];exact b
 refine⟨b,c,?_,d.2 a _ _ (aV c) (aV b)⟩;unfold bR;rw[Ks b c];rfl
theorem acW(i:cF x)(m:jD x D):Bb (bJ x) (bR (aX x D)) (bV x):=by
 refine⟨fun h c=> ?_,fun h c y j=> ?_,fun h c=> ?_⟩
 ·have f:=km.1 c;rw[uP f];unfold cj;have k:=aZ f;have l:=i.ri _ k;refine zX.2 ((i.ra _ k).imp_of_mem fun {a b} q p d=> ?_);have:=l a q;have:=l b p;omega
 ·obtain⟨f,r,e,g⟩:=PV m c;rw[e] at j;rw[uP f];unfold cj;rw[cy];exact(g.val y (xY j)).1
 ·obtain⟨f,r,e,g⟩:=PV m c;rw[e];refine zT zU (g.ord.imp fun {a b} d o=> ?_);have n:eA a.1 b.1=true:=d;rw[o,qP.lm] at n;cases n
theorem apl(g:cF x)(f:jD x D):RX x (aX x D):=by
 refine⟨mP x D,fun i r hr a j=>g.ri r (uy hr) a j,fun i r l hr b y c=> ?_⟩;have d:i<x.aA.length:=by exact Xb
 have e:i<D.length:=by rw[f.1];exact d
 rw[Ks d e] at b;injection b with b;rw[<-b] at c;exact((f.2 i _ r (aV e) hr).val y (xY c)).1
theorem aqz(d:cF x)(f:a<x.aq.length):gQ (bJ x) (bV x) a≠ []:=by obtain⟨r,g,i⟩:=d.used a f;obtain⟨t,c,rfl⟩:=ju g;intro e;have h:t∈gQ (bJ x) (bV x) a:=AD.2 ⟨km.2 c,(wD c fun b j=>(d.ri _ (aZ c) b j).1).2 i⟩;rw[e] at h;cases h
end
def aa6{homes:Nat->List Nat}{α β:Type}{R:SR α}{U:List β}{g:Nat->β->α}{W:Nat->(Nat->β)->α}(r:dp a y J)(env:Nat->β):
 (eF a y homes a none).val R U g W env=R.prod (kids a y none) fun c=>(fj a y homes c).val R U g W env:=by
 rw[uF r (Oo _ _),O_];rfl
structure yE{α:Type}(R:SR α)(G:Nat->Nat->α->Prop):Prop where
 add:∀{s j j':Nat} {a b:α},G s j a->G s j' b->G s (j+j') (R.add a b)
 mul:∀{s s' j j':Nat} {a b:α},G s j a->G s' j' b->G (s+s') (j*j') (R.mul a b)
 mono:∀{s s' j j':Nat} {a:α},G s j a->s<=s'->j<=j'->G s' j' a
 zero:G 0 0 R.zero
 one:G 0 1 R.one
section
variable{α:Type}{R:SR α}{G:Nat->Nat->α->Prop}
theorem yE.sum{β:Type}{s j:Nat}{f:β->α}(g:yE R G):∀{l:List β},(∀x∈l,G s j (f x))->G s (l.length*j) (R.sum l f)
 | [],_=>g.mono g.zero (aT _) (aT _)
 |x::l,h=>by rw[ki];refine g.mono (g.add (h x Ou) (g.sum fun y a=>h y ay5)) (aK _) ?_;rw[cW,k9,qK,oD];exact aK _
theorem yE.prod{β:Type}{K:Nat}{s e:β->Nat}{f:β->α}(g:yE R G):∀{l:List β},(∀x∈l,G (s x) (K^e x) (f x))->G (l.map s).sum (K^(l.map e).sum) (R.prod l f)
 | [],_=>g.one
 |x::l,h=>by rw[k8,sW,sW,GZ,GZ,rO];exact g.mul (h x Ou) (g.prod fun y a=>h y ay5)
end
def ac3(t:aM):∀l:List aM,(pT t l).length<=l.length+1
 | []=>by simp [pT]
 |y::l=>by
  have:=ac3 t l;unfold pT;split
  ·simp only[cW];omega
  ·split<;>simp
def Uj:∀l:List aM,(kr l).length<=l.length
 | []=>by simp [kr]
 |t::l=>a8 (ac3 t (kr l)) (by have:=Uj l;simp only[cW];omega)
def ade{at_:Nat->List Nat}{tab:iT}{hl:List Nat}{fx:Nat->Option aM}{c:Nat->Bool}{b:Nat->aM}{K:Nat}(i:∀h∈hl,(tab h).length<=K):(iE at_ tab hl fx c b a).length<=K:=by
 unfold iE;refine a8 (mK _ _) (a8 (Uj _) ?_);unfold ym;rcases e:gQ at_ hl a with _|⟨h,l⟩
 ·simp
 ·have f:=(AD.1 (show h∈gQ at_ hl a by rw[e];simp)).1;simp only[cy];exact a8 (mK _ _) (i h f)
def TG{homes:Nat->List Nat}{f:Nat->Fo}:∀(l:List Nat),(eD homes f l).vars.length=(l.map fun a=>(Fo.cons a (homes a) (f a) .nil).vars.length).sum
 | []=>rfl
 |a::l=>by
  rw[sW,GZ,<-TG l];show(a::((f a).vars++(eD homes f l).vars)).length=(a::((f a).vars++ [])).length+_
  simp only[cW,bC,vU];omega
def Tz{homes:Nat->List Nat}{f:Nat->Fo}:∀(l:List Nat),(eD homes f l).homes.length=(l.map fun a=>(Fo.cons a (homes a) (f a) .nil).homes.length).sum
 | []=>rfl
 |a::l=>by
  rw[sW,GZ,<-Tz l];show(homes a++((f a).homes++(eD homes f l).homes)).length=(homes a++((f a).homes++ [])).length+_
  simp only[bC,vU];omega
section
variable{n:Nat}{p:Nat->Option Nat}{d:Nat->Nat}{homes:Nat->List Nat}{at_:Nat->List Nat}{hl:List Nat}{tab:iT}{fx:Nat->Option aM}{α:Type}{R:SR α}{g:Nat->aM->α}{U:List aM}{G:Nat->Nat->α->Prop}{K:Nat}{wt:Int->α}
def nT(n:Nat)(p:Nat->Option Nat)(homes:Nat->List Nat)(v:Nat):Nat:=(fj n p homes v).vars.length
def hT(n:Nat)(p:Nat->Option Nat)(homes:Nat->List Nat)(v:Nat):Nat:=(fj n p homes v).homes.length
def dT(n:Nat)(p:Nat->Option Nat)(homes:Nat->List Nat)(v:Nat):Nat:=nT n p homes v+hT n p homes v
theorem Vc{f h:Nat->Nat}:∀l:List Nat,(l.map fun a=>f a+h a).sum=(l.map f).sum+(l.map h).sum
 | []=>rfl
 |a::l=>by simp only[sW,GZ,Vc l];omega
theorem VU(r:dp n p d)(v:Nat):nT n p homes v=1+((kids n p (some v)).map (nT n p homes)).sum:=by have h:j4 n p homes v=eD homes (j4 n p homes) (kids n p (some v)):=uF r Om;have e:nT n p homes v=(v::((j4 n p homes v).vars++ [])).length:=rfl;rw[e,h,cW,kG,TG,oD];rfl
theorem aq'(r:dp n p d)(v:Nat):hT n p homes v=(homes v).length+((kids n p (some v)).map (hT n p homes)).sum:=by have h:j4 n p homes v=eD homes (j4 n p homes) (kids n p (some v)):=uF r Om;have e:hT n p homes v=(homes v++((j4 n p homes v).homes++ [])).length:=rfl;rw[e,h,kG,bC,Tz];rfl
theorem ae1(r:dp n p d)(v:Nat):dT n p homes v=1+(homes v).length+((kids n p (some v)).map (dT n p homes)).sum:=by have e:((kids n p (some v)).map (dT n p homes)).sum=((kids n p (some v)).map (nT n p homes)).sum+((kids n p (some v)).map (hT n p homes)).sum:=Vc _;unfold dT at e⊢;rw[e,VU r v,aq' r v];omega
theorem ach(c:yE R G)(e:∀a∈hl,∀y∈tab a,G 1 1 (wt y.2))(i:a∈hl)(b:Nat->aM):G 1 1 (dS R at_ tab wt a b):=by
 unfold dS;cases f:lL (at_ a) (tab a) b with
 |none=>exact c.mono c.zero Om Om
 |some y=>exact e a i y (Du f)
theorem Ug{β:Type}:∀l:List β,(l.map fun _=>(1:Nat)).sum=l.length
 | []=>rfl
 |a::l=>by rw[sW,GZ,Ug l,cW,oD]
theorem Uh{β:Type}:∀l:List β,(l.map fun _=>(0:Nat)).sum=0
 | []=>rfl
 |a::l=>by rw[sW,GZ,Uh l]
theorem abw(i:yE R G)(r:dp n p d)(z:Bb at_ tab hl)(A:∀v x,dt fx v x=false->g v x=R.zero)(w:U.Nodup)(B:∀h∈hl,∀y∈tab h,∀t∈y.1,t∈U)(j:∀v,v<n->gQ at_ hl v≠ [])
 (u:∀v t,v<n->t∈U->G 1 1 (g v t)) (H:∀h∈hl,∀y∈tab h,G 1 1 (wt y.2)) (q:∀v h,h∈homes v->h∈hl) (J:∀h∈hl,(tab h).length<=K):
 ∀(m v:Nat) (S:List Nat) (b:Nat->aM),v<n->n<=d v+m->(fj n p homes v).Ok at_ hl S->(∀a,a∈S↔bK p v a=true)->G (dT n p homes v) (K^nT n p homes v) ((fj n p homes v).val R U g (dS R at_ tab wt) b)
 |0,v,S,b,k,O,_,_=>by have:=r.lt v k;omega
 |m+1,v,S,b,k,O,o,C=>by
  rw[acm r z A w B j k o C b];obtain⟨W,T,_⟩:=Pi (fx:=fx) r k z A B (j v k) C b;have Q:∀x∈Bh at_ tab hl fx p v b,G (dT n p homes v) (K^((kids n p (some v)).map (nT n p homes)).sum) (R.mul (R.mul (g v x) (R.prod (homes v) fun h=>dS R at_ tab wt h (put b v x))) (R.prod (kids n p (some v)) fun c=>(fj n p homes c).val R U g (dS R at_ tab wt) (put b v x))):=fun x N=>by
   have M:=u v x k (T x N);have D:=i.prod (K:=K) (s:=fun _=>1) (e:=fun _=>0) (l:=homes v) (f:=fun h=>dS R at_ tab wt h (put b v x)) fun h P=>ach i H (q v h P) _;have L:=i.prod (K:=K) (s:=dT n p homes) (e:=nT n p homes) (l:=kids n p (some v)) (f:=fun c=>(fj n p homes c).val R U g (dS R at_ tab wt) (put b v x)) fun c I=>by obtain⟨F,E⟩:=iC.1 I;have V:=(r.up c v F E).2;refine abw i r z A w B j u H q J m c (v::S) _ F Om (UE r o c I) fun a=> ?_;rw[aI,C a,AW E,lK];unfold VS.one;rw[beq_iff_eq];exact Or.comm
   rw[Ug,Uh] at D;refine i.mono (i.mul (i.mul M D) L) ?_ ?_
   ·rw[ae1 r v];exact aK _
   ·simp only[Am,qK];exact aK _
  refine i.mono (i.sum Q) (aK _) ?_;rw[VU r v,rO,sY];exact fc _ (ade J)
end
abbrev lO:Nat:=60^12
structure Jh{α:Type}(R:SR α)(V:World->Value->α->Prop)(G:Nat->Nat->α->Prop)(wt:Int->α)(yK:α->Bool)(fa fm fz fw:FuncId):Prop where
 ia:∀args w,(callFunc fa args).run prog w= .ok (.enter fa args) w
 im:∀args w,(callFunc fm args).run prog w= .ok (.enter fm args) w
 iz:∀args w,(callFunc fz args).run prog w= .ok (.enter fz args) w
 iw:∀args w,(callFunc fw args).run prog w= .ok (.enter fw args) w
 vk:∀{w w':au} {u:Value} {a:α},V w u a->Kept r_ w w'->V w' u a
 add:∀(w:au) (u1 u2:Value) (a b:α) (s j j':Nat),V w u1 a->V w u2 b->G s j a->G s j' b->s<=40->j+j'<=lO->Calls prog fa #[u1,u2] w fun e w'=>∃u,e= .returned u/\V w' u (R.add a b)/\Ext w w'
 mul:∀(w:au) (u1 u2:Value) (a b:α) (s s' j j':Nat),V w u1 a->V w u2 b->G s j a->G s' j' b->s+s'<=40->j<=lO->j'<=lO->Calls prog fm #[u1,u2] w fun e w'=>∃u,e= .returned u/\V w' u (R.mul a b)/\Ext w w'
 QO:∀(w:au) (u:Value) (a:α) (s j:Nat),V w u a->G s j a->s<=40->j<=lO->Calls prog fz #[u] w fun e w'=>e= .returned (.bool (yK a))/\Ext w w'
 Yb:∀(w:au) (k:Int),1<=k->k<=1000000->Calls prog fw #[av k] w fun e w'=>∃u,e= .returned u/\V w' u (wt k)/\Ext w w'
 gw:∀k:Int,1<=k->k<=1000000->G 1 1 (wt k)
 XD:∀{s j j':Nat} {a b:α},G s j a->G s j' b->G s (j+j') (R.add a b)
 XC:∀{s s' j j':Nat} {a b:α},G s j a->G s' j' b->G (s+s') (j*j') (R.mul a b)
 WF:∀{s s' j j':Nat} {a:α},G s j a->s<=s'->j<=j'->G s' j' a
 WE:G 0 0 R.zero
 gone:G 0 1 R.one
 z0:∀a,yK a=true->a=R.zero
def asP:Jh dV (fun _ u a=>u= .bool a) (fun _ _ _=>True) (fun _=>true) (fun a=> !a) 242 243 244 201 where
 ia:=fun _ _=>by rfl
 im:=fun _ _=>by rfl
 iz:=fun _ _=>by rfl
 iw:=fun _ _=>by rfl
 vk:=fun h _=>h
 add:=fun w u1 u2 a b _ _ _ f d _ _ _ _=>by subst f d;refine(arv a b w).mono ?_;rintro e c ⟨rfl,rfl⟩;exact⟨_,rfl,rfl,aC _⟩
 mul:=fun w u1 u2 a b _ _ _ _ f d _ _ _ _ _=>by subst f d;refine(aqd a b w).mono ?_;rintro e c ⟨rfl,rfl⟩;exact⟨_,rfl,rfl,aC _⟩
 QO:=fun w u a _ _ h _ _ _=>by subst h;refine(aqb a w).mono ?_;rintro e c ⟨rfl,rfl⟩;exact⟨rfl,aC _⟩
 Yb:=fun w k _ _=>by refine(aru k w).mono ?_;rintro e c ⟨rfl,rfl⟩;exact⟨_,rfl,rfl,aC _⟩
 gw:=fun _ _ _=>trivial
 XD:=fun _ _=>trivial
 XC:=fun _ _=>trivial
 WF:=fun _ _ _=>trivial
 WE:=trivial
 gone:=trivial
 z0:=fun a h=>by
  cases a with
  |false=>rfl
  |true=>cases h
def dQ(B N:Nat)(q:Rat):Prop:=∃z:Int,q*(B:Int)=(z:Rat)/\z.natAbs<=N
def dQ.add(h:dQ a b H)(k:dQ a c I):dQ a (b+c) (H+I):=by obtain⟨x,e,g⟩:=h;obtain⟨y,d,f⟩:=k;exact⟨x+y,by rw[Rat.intCast_add,<-e,<-d];grind,by omega⟩
def dQ.mul(h:dQ a c H)(k:dQ b d I):dQ (a*b) (c*d) (H*I):=by
 obtain⟨x,i,g⟩:=h;obtain⟨y,f,e⟩:=k;refine⟨x*y,?_,?_⟩
 ·rw[GP,<-i,<-f,mM,GP];grind
 ·rw[vV];exact xN g e
def dQ.mono{B M:Nat}(h:dQ B M H)(c:M<=a):dQ B a H:=by obtain⟨x,b,d⟩:=h;exact⟨x,b,by omega⟩
def dQ.fit(h:dQ a b H)(j:0<a)(k:b<10^e)(d:a<10^e):bS e H:=by
 obtain⟨x,i,l⟩:=h;have c:¬(((a:Int):Rat))=0:=fun f=>by have:=Rat.intCast_inj.1 (show(((a:Int)):Rat)=((0:Int):Rat) from f);omega
 have g:H=Rat.divInt x (a:Int):=(by rw[aaB,<-i,Rat.mul_div_cancel c]);rw[g];exact Uw Om Om (by rw[f6];exact d)
def iL(D M s j:Nat)(q:Rat):Prop:=dQ (D^s) (j*M^s) q
def iL.add(h:iL a b c d H)(k:iL a b c e I):iL a b c (d+e) (H+I):=by have f:=dQ.add h k;unfold iL;rwa[k9]
def iL.mul{s:Nat}(h:iL a b s d H)(k:iL a b c e I):iL a b (s+c) (d*e) (H*I):=by have f:=dQ.mul h k;unfold iL;rw[rO,rO];rwa[Nat.mul_mul_mul_comm] at f
def iL.mono{M:Nat}(f:a<=M)(h:iL a M b d H)(i:b<=c)(k:d<=e):iL a M c e H:=by obtain⟨t,rfl⟩:=Nat.le.dest i;have l:dQ (a^t) (a^t) 1:=⟨((a^t:Nat):Int),by rw[Uc],by simp⟩;have g:=dQ.mul h l;rw[Ud,<-rO] at g;refine g.mono ?_;rw[rO,<-gF];exact xN (fc _ k) (Nat.pow_le_pow_left f t)
def iL.fit(f:0<a)(h:iL a b c d H)(i:d*b^c<10^e)(g:a^c<10^e):bS e H:=dQ.fit h (Nat.pow_pos f) i g
def iL.zero:iL a b 0 0 0:=⟨0,by rw[Rat.zero_mul];rfl,by simp⟩
def iL.one:iL a b 0 1 1:=⟨1,by rw[Am];decide +kernel,by simp⟩
def apQ(v:Value)(q:Rat)(w:au)(h:b_ w v q)(k:bS a q)(s:a<=1000000):
 Calls prog 77 #[v] w fun a g=>a= .returned (.bool (q==0))/\Ext w g:=by
 have y:=af (fun W (t:Ext w W)=>anZ v q W (h.ext t) k s);have i:(q.num.sign==0)=(q==0):=(by rw[lZ,beq_iff_eq,beq_iff_eq,aad,Rat.num_eq_zero])
 have u:=af i;obtain⟨b,A,n,c,D,E,B,C,rfl,_,_⟩:=h.parts;generalize q.num.sign=z at*;clear i k;go_enter func77,ntmps77;go_upto_region 1 with fail
 refine aP fun W d l=> ?_;obtain⟨r,p,o,m⟩:=l.four;have f:=af (y W d);go_wp2_with fail
 refine f.mono ?_;rintro a g ⟨rfl,j⟩;have x:=af (d.trans j);clear j r p o m l;go_wp2;exact bodyPost_ret (v:= .bool (z==0)) (by simp [results,results77,go_sem]) rfl ⟨by rw[u.ae],x⟩
def KT(p:0<a)(f:a<=b)(i:b<10^e)(n:lO<10^e)(h:iL a b c d H)(m:c<=40)(o:d<=lO):bS (e+e*40) H:=by
 have t:iL a b 40 lO H:=h.mono f m o;have g:∀{x:Nat},x<10^e->x^40<10^(e*40):=fun {x} l=>by have r:=Nat.pow_lt_pow_left l (show(40:Nat)≠0 by decide);rwa[<-Nat.pow_mul] at r
 refine t.fit p ?_ ?_
 ·have q:lO*b^40<10^e*10^(e*40):=Nat.mul_lt_mul'' n (g i);rwa[<-rO] at q
 ·exact cE (g (DC f i)) (gM Od (Tt _ _))
def auN:lO<10^100:=by decide +kernel
def asL(m:0<a)(q:1000000*a<=b)(l:b<10^100)(i:lO<10^100):Jh gm b_ (iL a b) (fun k=>(k:Rat)) (fun c=>c==0) 75 76 77 74 where
 ia:=fun _ _=>by rfl
 im:=fun _ _=>by rfl
 iz:=fun _ _=>by rfl
 iw:=fun _ _=>by rfl
 vk:=fun h k=>h.keep k
 add:=fun w u1 u2 c d s j v o n t r e f=>apT u1 u2 c d w o n (KT m Om l i t e Om) (KT m Om l i r e Om) Om
 mul:=fun w u1 u2 c d s x j v o n t r e f p=>Vy u1 u2 c d w o n (KT m Om l i t Om f) (KT m Om l i r Om p) Om
 QO:=fun w u c s j h g e f=>apQ u c w h (KT m Om l i g e f) Om
 Yb:=fun w k o n=>Eo k w Om Om
 gw:=fun k o n=>⟨k*(a:Int),by rw[sY,GP],by rw[vV,f6,qK,sY];exact a8 (fc _ Om) q⟩
 XD:=fun h k=>h.add k
 XC:=fun h k=>h.mul k
 WF:=fun h e f=>h.mono Om e f
 WE:=iL.zero
 gone:=iL.one
 z0:=fun c h=>beq_iff_eq.1 h
def KP:prog.underlying Lg=some (.map aU bI):=underlying162
def adz(w:au):(zeroValue bI).run prog w= .ok (.string ⟨#[]⟩) w:=Ok
def mQ:Keyed prog aU:=int_keyed (q:= .i64) Ok
def arV(h:a<100):(Lit.int .i64 (a:Int)).wf=true:=by have c:IntKind.min .i64= -9223372036854775808:=Od;have b:IntKind.max .i64=9223372036854775807:=Od;simp only[Lit.wf,c,b,cZ,decide_eq_true_eq];omega
def H_{v:Nat}(h:v<100):keyOf prog aU (.int .i64 (v:Int))=some (.int .i64 (v:Int)):=keyOf_int_mk Ok (arV h)
def vL.nil(w:au):vL w (.map none) fun _=>none:=fun W _ _ a=>Maps.look_nil true mQ KP (adz W) (H_ a)
def NL(w:au)(b:Nat)(a:Nat->Option aF):Prop:=∃n f,d7 w aU b n f/\∀v:Nat,v<100->f (.int .i64 (v:Int))=(a v).map fun t=> .string ⟨t.toArray⟩
def NL.look{w:au}{b:Nat}{a:Nat->Option aF}(h:NL w b a):vL w (.map (some b)) a:=fun W g v c=>by
 obtain⟨n,f,d,e⟩:=h;have i:=(d.ext g).look mQ KP (adz W) (H_ c);rw[i,e v c];cases a v with
 |none=>rfl
 |some t=>rfl
def nL(v:Nat)(a:List Nat)(e:Nat->aF):aF:=UInt8.ofNat v::kO (a.map e)
def ant{e g:Nat->aF}(x:a<256)(l:b<256)(m:a=b->i=j)(s:∀c∈i,(0:UInt8)∉e c)(r:∀c∈j,(0:UInt8)∉g c)(h:nL a i e=nL b j g):a=b/\∀c∈i,e c=g c:=by
 unfold nL at h;injection h with q p;have k:a=b:=by have:=congrArg UInt8.toNat q;simp at this;omega
 have u:=m k;subst u;have o:=ad4 Ou (fun t f=>by
  obtain⟨c,d,rfl⟩:=dH.1 f;exact s c d) (fun t f=>by
  obtain⟨c,d,rfl⟩:=dH.1 f;exact r c d) p
 exact⟨k,fun c d=>List.map_inj_left.1 o c d⟩
def Pd:Keyed prog bI:=string_keyed Ok
def Bt(U:List aF):Nat->List (List aF)
 |0=> [[]]
 |k+1=>U.flatMap fun t=>(Bt U k).map fun l=>t::l
def adC{U:List aF}:∀{l:List aF},(∀t∈l,t∈U)->l∈Bt U l.length
 | [],_=>by simp [Bt]
 |t::l,h=>by unfold Bt;exact ox.2 ⟨t,h t Ou,dH.2 ⟨l,adC fun s a=>h s ay5,rfl⟩⟩
def adD(U:List aF):∀k,(Bt U k).length=U.length^k
 |0=>rfl
 |k+1=>by unfold Bt;rw[List.length_flatMap];simp only[cy,adD U k,List.map_const',List.sum_replicate_nat];rw[fJ,eI]
def my{α:Type}(V:World->Value->α->Prop)(n:Nat)(keys:Nat->List Nat)(U:List aF)(val:Nat->(Nat->aF)->α)(w:au)(kb:Nat):Prop:=
 ∃m f,d7 w bI kb m f/\∀l u,f l=some u->∃v e,v<n/\l= .string (nL v (keys v) e)/\(∀a∈keys v,(0:UInt8)∉e a/\e a∈U)/\V w u (val v e)
section
variable{α:Type}{V:World->Value->α->Prop}{n:Nat}{keys:Nat->List Nat}{U:List aF}{val:Nat->(Nat->aF)->α}{w w':au}{kb:Nat}
theorem my.new(h:d7 w bI kb 0 fun _=>none):my V n keys U val w kb:=⟨0,_,h,fun l u a=>by cases a⟩
theorem my.hit{f:Lit->Option Value}(o:∀l p,f l=some p->∃a e,a<n/\l= .string (nL a (keys a) e)/\(∀b∈keys a,(0:UInt8)∉e b/\e b∈U)/\V w p (val a e))(z:n<=256)
 (c:∀e d,(∀b∈keys a,d b=e b)->val a d=val a e) (y:a<n) {e:Nat->aF} (q:∀b∈keys a,(0:UInt8)∉e b) (m:f (.string (nL a (keys a) e))=some p):V w p (val a e):=by
 obtain⟨x,d,k,g,t,j⟩:=o _ _ m;injection g with g;obtain⟨s,r⟩:=ant Om Om (fun h=>by rw[h]) q (fun b i=>(t b i).1) g;subst s;rw[c e d fun b i=>(r b i).symm] at j;exact j
theorem my.bound{m:Nat}{f:Lit->Option Value}(h:d7 w bI kb m f)(q:∀l u,f l=some u->∃v e,v<n/\l= .string (nL v (keys v) e)/\(∀b∈keys v,(0:UInt8)∉e b/\e b∈U)/\V w u (val v e))(p:∀v,v<n->(keys v).length<=a)(s:1<=U.length):
 ∃g,g<=n*U.length^a/\d7 w bI kb g f:=by
 refine⟨_,?_,h.bound Pd ((List.range n).flatMap fun v=>(Bt U (keys v).length).map fun l=>Lit.string (UInt8.ofNat v::kO l)) fun l o=> ?_⟩
 ·have d:=V4 (l:=List.range n) (f:=fun v=>(Bt U (keys v).length).map fun l=>Lit.string (UInt8.ofNat v::kO l)) (m:=U.length^a) fun v c=>by rw[cy,adD];exact gM s (p v (dP.1 c))
  rwa[gN] at d
 ·obtain⟨u,i⟩:=JT.1 o;obtain⟨v,e,c,rfl,d,_⟩:=q l u i;refine ox.2 ⟨v,dP.2 c,dH.2 ⟨(keys v).map e,?_,rfl⟩⟩;have x:=adC (U:=U) (l:=(keys v).map e) fun t j=>by obtain⟨b,r,rfl⟩:=dH.1 j;exact(d b r).2
  rwa[cy] at x
theorem VJ(t:aF)(h:t.length<=100000):keyOf prog bI (aO t)=some (.string t):=by
 have a:(⟨t.toArray⟩:ByteArray).size<=maxLen:=by
  show t.toArray.size<=maxLen
  rw[List.size_toArray];unfold maxLen;omega
 have b:prog.underlying bI=some .string:=Ok;simp [keyOf,b,mapKey,a]
theorem my.put{I:TypeId}(h:my V n keys U val w kb)(z:prog.underlying x=some (.map bI I))(D:∀v,v<n->(keys v).length<=a)(F:1<=U.length)(P:n*U.length^a<maxLen)(j:∀{p b w'},V w p b->Only kb w w'->V w' p b)
 {v:Nat} (s:v<n) {e:Nat->aF} (E:∀b∈keys v,(0:UInt8)∉e b/\e b∈U) (C:(nL v (keys v) e).length<=100000) (y:V w p (val v e)):
 ∃w',(Instr.mapUpdate x (.map (some kb)) (aO (nL v (keys v) e)) p).run prog w= .ok () w'/\my V n keys U val w' kb/\Only kb w w':=by
 obtain⟨m,f,B,i⟩:=h;obtain⟨O,A,d⟩:=my.bound B i D F;obtain⟨w',H,G,g⟩:=d.put Pd z Om (VJ _ C) p;refine⟨w',H,⟨_,_,G,fun l r c=> ?_⟩,g⟩;by_cases o:l= .string (nL v (keys v) e)
 ·subst o;rw[D3] at c;injection c with c;subst c;exact⟨v,e,s,rfl,E,j y g⟩
 ·rw[vY o] at c;obtain⟨q,J,N,M,L,K⟩:=i l r c;exact⟨q,J,N,M,L,j K g⟩
end
section
variable{α:Type}
def vT(R:SR α)(x:aQ)(T:List (List Rw))(p:Nat->Option Nat)(homes:Nat->List Nat)(g:Nat->aM->α)(wt:Int->α)(U:List aM)(v:Nat)(e:Nat->aM):α:=(fj x.aq.length p homes v).val R U g (dS R (bJ x) (bR T) wt) e
def hW(R:SR α)(x:aQ)(T:List (List Rw))(wt:Int->α)(h:Nat)(e:Nat->aM):α:=dS R (bJ x) (bR T) wt h e
def bT(R:SR α)(x:aQ)(T:List (List Rw))(p:Nat->Option Nat)(homes:Nat->List Nat)(g:Nat->aM->α)(wt:Int->α)(U:List aM)(v:Nat)(t:aM)(e:Nat->aM):α:=
 R.mul (R.mul (g v t) (R.prod (homes v) fun h=>hW R x T wt h (put e v t))) (R.prod (kids x.aq.length p (some v)) fun c=>vT R x T p homes g wt U c (put e v t))
structure Wk(R:SR α)(G:Nat->Nat->α->Prop)(wt:Int->α)(g:Nat->aM->α)(fx:Nat->Option aM)(U:List aM)(x:aQ)(T:List (List Rw))(p:Nat->Option Nat)(d:Nat->Nat)(homes:Nat->List Nat):Prop where
 gr:yE R G
 r:dp x.aq.length p d
 sc:cF x
 tb:Bb (bJ x) (bR T) (bV x)
 hg:∀v t,dt fx v t=false->g v t=R.zero
 un:U.Nodup
 hU:∀h∈bV x,∀y∈bR T h,∀t∈y.1,t∈U
 gg:∀v t,v<x.aq.length->t∈U->G 1 1 (g v t)
 hw:∀h∈bV x,∀y∈bR T h,G 1 1 (wt y.2)
 hK:∀h∈bV x,(bR T h).length<=60
 whole:(eF x.aq.length p homes x.aq.length none).Ok (bJ x) (bV x) []
 hh:∀v h,h∈homes v->h∈bV x
 nd:∀v,(homes v).Nodup
 ap:∀v w h,h∈homes v->h∈homes w->v=w
variable{R:SR α}{G:Nat->Nat->α->Prop}{wt:Int->α}{g:Nat->aM->α}{fx:Nat->Option aM}{U:List aM}{x:aQ}{T:List (List Rw)}{p:Nat->Option Nat}{d:Nat->Nat}{homes:Nat->List Nat}{v:Nat}{e:Nat->aM}{t:aM}
theorem KL{p:Nat->Option Nat}{v:Nat}(h:p v=none):bK p v a=false:=by
 cases f:bK p v a with
 |false=>rfl
 |true=>
  rcases(th.1 f).inv with c|⟨b,c,_⟩
  ·rw[h] at c;cases c
  ·rw[h] at c;cases c
theorem aqg(j:∀f,f∈i↔bK p a f=true)(h:p b=some a)(f:Nat):f∈a::i↔bK p b f=true:=by rw[aI,j f,AW h,lK];unfold VS.one;rw[beq_iff_eq];exact Or.comm
theorem x9(f:p a=some v):cV (bK p v) v=bK p a:=by rw[AW f];funext b;unfold cV VS.one;exact Bool.or_comm _ _
theorem Wk.E4(k:Wk R G wt g fx U x T p d homes):∀(m v:Nat),v<x.aq.length->d v<=m->∃S,(fj x.aq.length p homes v).Ok (bJ x) (bV x) S/\∀a,a∈S↔bK p v a=true
 |m,v,f,l=>by
  cases c:p v with
  |none=>exact⟨[],abv k.r k.whole v (iC.2 ⟨f,c⟩),fun a=>by rw[KL c];simp⟩
  |some b=>
   obtain⟨j,n⟩:=k.r.up v b f c;match m with
   |0=>omega
   |m+1=>obtain⟨S,i,h⟩:=k.E4 m b j Om;exact⟨b::S,UE k.r i v (iC.2 ⟨f,c⟩),aqg h c⟩
theorem Wk.ne(k:Wk R G wt g fx U x T p d homes):∀v,v<x.aq.length->gQ (bJ x) (bV x) v≠ []:=fun _ a=>aqz k.sc a
theorem Wk.step(k:Wk R G wt g fx U x T p d homes)(a:v<x.aq.length)(e:Nat->aM):vT R x T p homes g wt U v e=R.sum (iE (bJ x) (bR T) (bV x) fx (bK p v) e v) fun t=>bT R x T p homes g wt U v t e:=by obtain⟨S,c,b⟩:=k.E4 (d v) v a (aK _);exact acm k.r k.tb k.hg k.un k.hU k.ne a c b e
theorem Wk.Qg(k:Wk R G wt g fx U x T p d homes)(a:v<x.aq.length)(e:Nat->aM):G (dT x.aq.length p homes v) (60^nT x.aq.length p homes v) (vT R x T p homes g wt U v e):=by obtain⟨S,c,b⟩:=k.E4 (d v) v a (aK _);exact abw k.gr k.r k.tb k.hg k.un k.hU k.ne k.gg k.hw k.hh k.hK (x.aq.length - d v) v S e a Om c b
theorem Wk.Yz(k:Wk R G wt g fx U x T p d homes)(a:v<x.aq.length)(c:t∈iE (bJ x) (bR T) (bV x) fx (bK p v) e v):t∈U:=by obtain⟨S,f,b⟩:=k.E4 (d v) v a (aK _);exact(Pi k.r a k.tb k.hg k.hU (k.ne v a) b e).2.1 t c
theorem Wk.home(k:Wk R G wt g fx U x T p d homes)(c:v<x.aq.length)(n:t∈iE (bJ x) (bR T) (bV x) fx (bK p v) e v)(hh:a∈homes v):
 a<x.aA.length/\∃y,y∈bR T a/\(bR T a).filter (fun y=>ey (cV (bK p v) v) (put e v t) (bJ x a) y.1)= [y]/\hW R x T wt a (put e v t)=wt y.2:=by
 obtain⟨S,m,l⟩:=k.E4 (d v) v c (aK _);have i:=k.hh v a hh;have f:bK p v v=false:=by
  cases a:bK p v v with
  |false=>rfl
  |true=>have:=(th.1 a).mW k.r v rfl c;omega
 have j:=m.1 a hh;have hit:=((Pj k.tb f (k.ne v c)).1 n).2 a (AD.2 ⟨i,j.1⟩);refine⟨km.1 i,apM k.tb i (fun b o=> ?_) hit R wt⟩;unfold cV;rw[lK,beq_iff_eq,<-l b];rcases j.2 b o with a|a
 ·exact .inl a
 ·exact .inr a
theorem Wk.afn(k:Wk R G wt g fx U x T p d homes)(b:v<x.aq.length)(c:t∈U)(e:Nat->aM)(i:Nat):G (1+i) 1 (R.mul (g v t) (R.prod ((homes v).take i) fun h=>hW R x T wt h e)):=by have a:=k.gr.prod (K:=60) (s:=fun _=>1) (e:=fun _=>0) (l:=(homes v).take i) (f:=fun h=>hW R x T wt h e) fun h hh=>ach k.gr k.hw (k.hh v h (sR hh)) _;rw[Ug,Uh] at a;refine k.gr.mono (k.gr.mul (k.gg v t b c) a) ?_ Ou;rw[cP];omega
theorem Hs{f:Nat->Nat}(l:List Nat)(i:Nat):((l.take i).map f).sum<=(l.map f).sum:=by have h:=congrArg (fun l=>(l.map f).sum) (sQ i l);simp only[mL,aaO] at h;omega
theorem Wk.afK(k:Wk R G wt g fx U x T p d homes)(m:v<x.aq.length)(n:t∈U)(e:Nat->aM)(i:Nat):
 G (1+(homes v).length+(((kids x.aq.length p (some v)).take i).map (dT x.aq.length p homes)).sum) (60^(((kids x.aq.length p (some v)).take i).map (nT x.aq.length p homes)).sum)
  (R.mul (R.mul (g v t) (R.prod (homes v) fun h=>hW R x T wt h e)) (R.prod ((kids x.aq.length p (some v)).take i) fun c=>vT R x T p homes g wt U c e)):=by
 have a:=k.afn m n e (homes v).length;rw[f9] at a;have j:=k.gr.prod (K:=60) (s:=dT x.aq.length p homes) (e:=nT x.aq.length p homes) (l:=(kids x.aq.length p (some v)).take i) (f:=fun c=>vT R x T p homes g wt U c e) fun c o=>k.Qg (iC.1 (sR o)).1 e;have b:=k.gr.mul a j;rwa[qK] at b
theorem Wk.Lj(k:Wk R G wt g fx U x T p d homes)(i:Nat):1+(homes v).length+(((kids x.aq.length p (some v)).take i).map (dT x.aq.length p homes)).sum<=dT x.aq.length p homes v/\(((kids x.aq.length p (some v)).take i).map (nT x.aq.length p homes)).sum+1<=nT x.aq.length p homes v:=by have b:=Hs (f:=dT x.aq.length p homes) (kids x.aq.length p (some v)) i;have a:=Hs (f:=nT x.aq.length p homes) (kids x.aq.length p (some v)) i;rw[ae1 k.r v,VU k.r v];omega
theorem Hk(f:i.Nodup)(c:∀b∈i,b<a):i.length<=a:=by have h:=f.length_le_of_subset fun b j=>dP.2 (c b j);rwa[gN] at h
theorem Wk.MK(k:Wk R G wt g fx U x T p d homes)(c:v<x.aq.length):nT x.aq.length p homes v<=x.aq.length/\dT x.aq.length p homes v<=x.aq.length+x.aA.length:=by
 have i:=OJ (homes:=homes) k.r c;have l:nT x.aq.length p homes v<=x.aq.length:=Hk i fun a f=>by
  rcases(OU k.r c).1 f with rfl|h
  ·exact c
  ·exact h.1
 have b:(fj x.aq.length p homes v).By homes:=⟨rfl,AA _ _,trivial⟩;have m:hT x.aq.length p homes v<=x.aA.length:=Hk (Uf k.nd k.ap b i) fun a f=>by obtain⟨w,_,j⟩:=(b.mem a).1 f;exact km.1 (k.hh w a j)
 exact⟨l,by unfold dT;omega⟩
theorem Wk.ae3(k:Wk R G wt g fx U x T p d homes)(b:v<x.aq.length)(c:t∈U)(e:Nat->aM):G (dT x.aq.length p homes v) (60^(nT x.aq.length p homes v - 1)) (bT R x T p homes g wt U v t e):=by have h:=k.afK b c (put e v t) (kids x.aq.length p (some v)).length;have a:=k.Lj (v:=v) (kids x.aq.length p (some v)).length;rw[f9] at h a;exact k.gr.mono h a.1 (gM Od Om)
theorem Wk.as0(k:Wk R G wt g fx U x T p d homes)(a:v<x.aq.length){l:List aM}(c:∀t∈l,t∈U)(e:Nat->aM)(i:Nat):G (dT x.aq.length p homes v) (i*60^(nT x.aq.length p homes v - 1)) (R.sum (l.take i) fun t=>bT R x T p homes g wt U v t e):=
 k.gr.mono (k.gr.sum fun t b=>k.ae3 a (c t (sR b)) e) (aK _) (fc _ ay8)
theorem Wk.as1(k:Wk R G wt g fx U x T p d homes)(b:v<x.aq.length)(h:x.aq.length<=12)(j:a<60):a*60^(nT x.aq.length p homes v - 1)+60^(nT x.aq.length p homes v - 1)<=lO:=by
 have o:=(k.MK b).1;have n:=(k.Lj (v:=v) 0).2;have f:(60:Nat)^(nT x.aq.length p homes v - 1)<=60^11:=gM Od Om;have m:a*60^(nT x.aq.length p homes v - 1)<=59*60^11:=xN Om f;have c:lO=60^12:=rfl;rw[c];have l:(60:Nat)^12=60^11*60:=show(60:Nat)^(11+1)=_ from fJ 60 11
 omega
theorem Wk.WT(k:Wk R G wt g fx U x T p d homes)(a:v<x.aq.length)(b:x.aq.length<=12){i:Nat}(c:i<=nT x.aq.length p homes v):60^i<=lO:=by have f:=(k.MK a).1;exact gM Od Om
theorem Wk.asA(k:Wk R G wt g fx U x T p d homes)(b:v<x.aq.length)(r:t∈U)(e:Nat->aM)(a:x.aq.length<=12)(z:x.aA.length<=6)(i:Nat):
 (∃s j,s<=40/\j<=lO/\G s j (R.mul (R.mul (g v t) (R.prod (homes v) fun h=>hW R x T wt h e)) (R.prod ((kids x.aq.length p (some v)).take i) fun c=>vT R x T p homes g wt U c e)))/\
 ∀f:i<(kids x.aq.length p (some v)).length,∃s j l m,s+l<=40/\j<=lO/\m<=lO/\G s j (R.mul (R.mul (g v t) (R.prod (homes v) fun h=>hW R x T wt h e)) (R.prod ((kids x.aq.length p (some v)).take i) fun c=>vT R x T p homes g wt U c e))/\G l m (vT R x T p homes g wt U (kids x.aq.length p (some v))[i] e):=by
 have q:=k.afK b r e i;have B:=k.Lj (v:=v) i;have A:=(k.MK b).2;have o:=k.WT b a (i:=(((kids x.aq.length p (some v)).take i).map (nT x.aq.length p homes)).sum) Om;refine⟨⟨_,_,by omega,o,q⟩,fun f=> ?_⟩;have n:=(iC.1 (aZ f)).1;have y:=k.Qg n e;have w:=k.WT n a (aK _);have u:=(k.Lj (v:=v) (i+1)).1;rw[g9 f,mL,aaO,Oh,List.sum_singleton] at u;exact⟨_,_,_,_,by omega,o,w,q,y⟩
theorem SR.Vj{β:Type}{f:β->α}:∀(l m:List β),R.prod (l++m) f=R.mul (R.prod l f) (R.prod m f)
 | [],m=>(R.mo _).symm
 |a::l,m=>by rw[uC,k8,k8,SR.Vj l m,R.ma]
theorem SR.acF{β:Type}{f:β->α}(l:List β)(a:β):R.prod (l++ [a]) f=R.mul (R.prod l f) (f a):=by rw[SR.Vj,k8];congr 1;exact SR.Ca _
theorem SR.aeE{β:Type}{f:β->α}:∀(l m:List β),R.sum (l++m) f=R.add (R.sum l f) (R.sum m f)
 | [],m=>(R.az _).symm
 |a::l,m=>by rw[uC,ki,ki,SR.aeE l m,R.aa]
theorem SR.aoy{β:Type}{f:β->α}(l:List β)(a:β):R.sum (l++ [a]) f=R.add (R.sum l f) (f a):=by rw[SR.aeE,ki];congr 1;rw[R.ac];exact R.az _
theorem SR.acE{β:Type}{f:β->α}{l:List β}(h:a<l.length)(b:α):R.mul b (R.prod (l.take (a+1)) f)=R.mul (R.mul b (R.prod (l.take a) f)) (f l[a]):=by rw[g9 h,SR.acF,R.ma]
theorem SR.Hs{β:Type}{f:β->α}{l:List β}(h:a<l.length):R.sum (l.take (a+1)) f=R.add (R.sum (l.take a) f) (f l[a]):=by rw[g9 h,SR.aoy]
theorem SR.am2{β:Type}{f:β->α}{l:List β}{i:Nat}{b:α}(h:R.mul b (R.prod (l.take i) f)=R.zero):R.mul b (R.prod l f)=R.zero:=by
 have e:R.prod l f=R.mul (R.prod (l.take i) f) (R.prod (l.drop i) f):=by rw[<-SR.Vj,sQ]
 rw[e,<-R.ma,h,R.mz]
end
def aeK{β:Type}{q:β->Bool}{y:β}:∀{l:List β},l.filter q= [y]->∀{i:Nat} (m:i<l.length),q l[i]=true->l[i]=y/\(l.take i).any q=false
 |a::l,h,i,m,c=>by
  by_cases b:q a=true
  ·rw[List.filter_cons_of_pos b] at h;injection h with j f;match i with
   |0=>exact⟨j,rfl⟩
   |i+1=>have k:=fI.2 ⟨aZ _,by simpa using c⟩;rw[f] at k;cases k
  ·rw[List.filter_cons_of_neg b] at h;match i with
   |0=>exact absurd ay7 b
   |i+1=>obtain⟨j,f⟩:=aeK h (by simpa using m) ay7;refine⟨by simpa using j,?_⟩;rw[Th,TA,f,xQ];simpa using b
def ae9{β:Type}{q:β->Bool}{y:β}{l:List β}(h:l.filter q= [y]):l.any q=true:=by
 have a:y∈l.filter q:=by rw[h];simp
 exact qG.2 ⟨y,fI.1 a⟩
def aqf{β:Type}{q:β->Bool}{l:List β}(b:a<l.length):(l.take (a+1)).any q=((l.take a).any q||q l[a]):=by rw[g9 b,aaP,TA,TR,xQ]
def Ua{c:iT}{fx:Nat->Option aM}{e e':Nat->aM}{v:Nat}(h:∀a,K a=true->e a=e' a):iE A c i fx K e v=iE A c i fx K e' v:=by
 have j:ym A c i fx K e v=ym A c i fx K e' v:=by
  unfold ym;rcases gQ A i v with _|⟨q,l⟩
  ·rfl
  ·simp only;congr 1;refine GJ fun y _=> ?_;rw[Ux (QJ:=K) (Qu:=e') fun a _=>⟨rfl,h a⟩]
 unfold iE;rw[j];refine GJ fun t _=> ?_;congr 1;funext q;unfold tL;congr 1;funext y;refine Ux fun a _=>⟨rfl,fun f=> ?_⟩;unfold put;by_cases b:a=v
 ·rw[if_pos b,if_pos b]
 ·rw[if_neg b,if_neg b];refine h a ?_;unfold cV at f;rw[lK,beq_iff_eq] at f;exact f.resolve_left b
def an6(b:Nat)(w:au)(d:ay w b 0 (.pointer none))(YK:w.shape? b=some (tB,2))(c:w.frozen? (aB b 0)=false):
 Calls prog 229 #[aJ b 0] w fun e a=>e= .returned (.tuple #[])/\a=w.setCell (aB b 0) (aJ b 0):=by
 exact m42
def adb(B b:Nat)(c:List Value)(w:au)(h:Lib.IsBuilder tB t8 B b c w):
 Calls prog 229 #[aJ b 0] w fun e a=>e= .returned (.tuple #[])/\(Lib.BuilderAt tB t8 B b (aJ b 0) c a/\Below B w a):=by
 rcases h with h|h
 ·refine(an6 b w h.cell0 h.shape h.frozen0).mono ?_;rintro e a ⟨rfl,rfl⟩;exact⟨rfl,h.used _,(AH B w).setCell h.1 _⟩
 ·refine(aaQ b w h.cell0).mono ?_;rintro e a ⟨rfl,rfl⟩;exact⟨rfl,h,AH B _⟩
def aoi(B b:Nat)(bs:List Value)(s:ByteArray)(w:au)(h:Lib.IsBuilder tB t8 B b bs w)(c:bs.length+s.size<=140737488355328)(d:B<=w.heap.size):
 Calls prog 177 #[aJ b 0,.string s] w fun e a=>e= .returned (.tuple #[av s.size,.nilIface])/\(Lib.BuilderAt tB t8 B b (aJ b 0) (bs++Lib.strCells s) a/\Below B w a):=by
 obtain⟨i0,hi,hz0,hz1,hz2⟩:=info_parts Tryz.DG.infoByte;go_enter func177,ntmps177;go_wp2_with (go_at_call 229;refine(adb B b bs _ h).mono ?_);exact m25
def amf:ko prog 192 t8 1 1:= .mk' (z:= .int .u8 0) Ok Ok rfl Od Od
def amt(B b:Nat)(n:List Value)(c:Int)(w:au)(h:Lib.IsBuilder tB t8 B b n w)(A:n.length+1<=140737488355328)(G:B<=w.heap.size):
 Calls prog 245 #[aJ b 0,.int .u8 c] w fun e y=>e= .returned .nilIface/\(Lib.BuilderAt tB t8 B b (aJ b 0) (n++ [.int .u8 c]) y/\Below B w y):=by
 go_enter func245,ntmps245;go_wp2_with (go_at_call 229;refine(adb B b n _ h).mono ?_);rintro e o ⟨rfl,H,l⟩;obtain⟨C,v,f,j,s⟩:=H;have K:o.cell? (aB b 0)=some (aJ b 0):=by rw[DL f];rfl
 have J:o.cell? (aB b 1)=some v:=by rw[DL f];rfl
 have u:(n.length+1)*1<=140737488355328:=Om;have q:B<=o.heap.size:=by have:=l.size;omega
 go_wp2_with (at_builtin;refine gG rfl _ _ 192 rfl B amf _ _ _ rfl j #[.int .u8 c] 1 1 rfl rfl rfl u q ?_)
 intro E p a d _;have t:b<o.heap.size:=by
  rcases cA b o.heap.size with x|x
  ·exact x
  ·simp [zS x] at f
 have i:p.heap[b]?=some (.cells #[aJ b 0,v] tB (0,0)):=(by rw[d.block b t (fun e=>s e.symm)];exact f);have d0:p.cell? (aB b 0)=some (aJ b 0):=by rw[DL i];rfl
 have d1:p.cell? (aB b 1)=some v:=by rw[DL i];rfl
 have f1:=Lib.frozen_of_heap i 1;obtain⟨D,z,m,rfl⟩:∃D z m,E= .slice D z m:=by
  rcases a.2 with⟨r,_⟩|⟨g,m,I,r,_⟩
  ·exact⟨_,_,_,r⟩
  ·exact⟨_,_,_,r⟩
 go_wp2;go_ret;refine⟨rfl,?_,?_⟩
 ·exact Lib.BuilderAt.put C i (bs':=n++ [.int .u8 c]) aza Od
 ·exact(l.grown d (by have:=l.size;omega) (fun k F=>(j.lt k F).1)).setCell C _
end Go.Proofs.YthfffpcmldipgaaGreatDoor
