/- Texts of the proof, part 16. -/
import Derived.Test.YtadbchhdjbghkaaGreatDoorA15
namespace Go.Proofs.YtadbchhdjbghkaaGreatDoor
set_option maxHeartbeats 8000000
set_option linter.all false
set_option maxRecDepth 100000
variable{aq:Prop}
open Go.RowKit Go.Lib Go.Maps Go.ChangeShapes Go.WideShapes Go.ChangeAt Go.Proofs.Tryz
variable{a b c d e f g h:Nat}{i j k l:List Nat}{m n o:World}{p q r s:Value}{t u v:List Value}{w x:TypeId}{y z:Nat→Option Nat}{A:Nat→List Nat}{B C:Int}{E F:Option Addr}{H I:Rat}{J:Nat→Nat}{K:Nat→Bool}{L:List Int}{N:Array Bool}{O:Option Nat}{Q:Act}{R S:Bool}{T:List UInt8}
abbrev IK:TypeId:=141
def bh(x:aP)(h:Nat):List Nat:=b9 ((x.ay[h]?.map (·.2)).getD [])
def bY(T:List (List Rw)):jZ:=fun h=>T[h]?.getD []
def bM(x:aP):List Nat:=List.range x.ay.length
def tV(w:au)(b:Value)(a:Nat->Option aD):Prop:=∀W,Ext w W->∀v:Nat,v<100->(Instr.lookup IK b (.int .i64 v) true).run prog W= .ok (.tuple #[.string ⟨((a v).getD []).toArray⟩,.bool (a v).isSome]) W
def acr(h:IL m (.slice (some ⟨a,b,none⟩) c d) L):∀j,j<L.length->m.cell? ⟨a,b+j,none⟩=some (.int .i64 (L.getD j 0)):=fun j f=>by obtain⟨r,q,e,_,i⟩:=gX h f;injection e with e;injection e with p k;subst p k;rw[i,fh,aX f];rfl
def acE(A:aR)(n c:Nat)(l:List Int)(a:Int)(w:au)(h:IL w (.slice A n c) l):
 Calls prog 176 #[.slice A n c,.int .i64 a] w fun e b=>e= .returned (.bool (l.contains a))/\b=w:=by
 obtain⟨rfl,f,d⟩:=bD h;rcases l with _|⟨y,l⟩
 ·exact Tryz.slices_Contains_int_empty A c a w
 ·obtain⟨g,o,rfl,_,_⟩:=gX h (i:=0) Ou;refine(Tryz.slices_Contains_int g o (y::l).length c (y::l) a w (aK _) Om (acr h)).mono ?_;rintro e b ⟨rfl,rfl⟩;exact⟨by rw[fj],rfl⟩
def adb{a:Int}:∀{l:List Int} {i:Nat},a∈l->Lib.idxFrom l a i=((i+l.idxOf a:Nat):Int)
 | [],_,h=>by cases h
 |z::l,i,h=>by
  by_cases e:z=a
  ·subst e;simp [Lib.idxFrom]
  ·have c:a∈l:=by
    rcases aJ.1 h with h|h
    ·exact absurd h.symm e
    ·exact h
   have b:(z==a)=false:=beq_eq_false_iff_ne.2 e;simp only[Lib.idxFrom,Qe,b,cond_false,adb c];omega
def apo(h:B∈L):Lib.idxOf L B=(L.idxOf B:Nat):=by unfold Lib.idxOf;rw[adb h,ja]
def ang(A:aR)(n c:Nat)(l:List Int)(a:Int)(w:au)(h:IL w (.slice A n c) l)(d:a∈l):
 Calls prog 218 #[.slice A n c,.int .i64 a] w fun e b=>e= .returned (.int .i64 (l.idxOf a:Nat))/\b=w:=by
 obtain⟨rfl,j,f⟩:=bD h;rcases l with _|⟨y,l⟩
 ·cases d
 ·obtain⟨g,o,rfl,_,_⟩:=gX h (i:=0) Ou;refine(Tryz.slices_Index_int g o (y::l).length c (y::l) a w (aK _) Om (acr h)).mono ?_;rintro e b ⟨rfl,rfl⟩;exact⟨by rw[fj,apo d],rfl⟩
def sY{x:aP}(h:a<x.ay.length):bh x a=b9 x.ay[a].2:=by unfold bh;rw[aX h];rfl
def ahq(h:∀b∈L,(0:Int)<=b):(b9 L).contains a=L.contains (a:Int):=by
 rw[lI,nN,nN];unfold b9;rw[dU];constructor
 ·rintro⟨b,d,e⟩;have:=h b d;rwa[show(a:Int)=b by omega]
 ·exact fun c=>⟨a,c,by simp⟩
def lT(x:aP)(v k:Nat):List Nat:=f6 (bh x) (List.range k) v
def akn{x:aP}{v:Nat}(h:a<x.ay.length)(c:∀b∈x.ay[a].2,(0:Int)<=b):lT x v (a+1)=if x.ay[a].2.contains (v:Int)=true then lT x v a++ [a] else lT x v a:=by unfold lT f6;rw[Hg,qO,qR,Lx,sY h,ahq c];split<;>simp
def amg(x:aP)(v k:Nat):(lT x v k).length<=k:=by unfold lT f6;exact a7 (mm _ _) (by rw[iG];exact aK _)
def acd{v:Nat}:∀{l:List Int},(∀a∈l,(0:Int)<=a)->(b9 l).idxOf v=l.idxOf (v:Int)
 | [],_=>rfl
 |a::l,h=>by
  have f:=h a Ou;have c:=acd (v:=v) (l:=l) fun b d=>h b awE;unfold b9 at c⊢;rw[nO,Qe,Qe,c];have e:(a.toNat==v)=(a==(v:Int)):=(by rw[lI,beq_iff_eq,beq_iff_eq];omega)
  rw[e]
def kr(e:Nat->Option aD)(d:Nat->Bool)(a:Nat->aD)(v c:Nat)(b:List Nat)(l:List Rw):List aD:=(l.filter fun y=>dV d a b y.1&&cL e v (y.1.getD c [])).map fun y=>y.1.getD c []
def akL{d:Nat->Option aD}{c:Nat->aD}{l:List Rw}{y:Rw}:kr d K c a b i (l++ [y])=if (dV K c i y.1&&cL d a (y.1.getD b []))=true then kr d K c a b i l++ [y.1.getD b []] else kr d K c a b i l:=by unfold kr;rw[qO,qR,Lx];split<;>simp
def anp(a:FuncId)(hid:∀b w,(callFunc a b).run prog w= .ok (.enter a b) w)(g f d:Value)(A:aR)(c:Nat)(w:au)(i:c<=maxLen):
 Calls prog 189 #[.slice A 0 c,.func (.func a) #[] #[g,f,d]] w fun e w'=>e= .returned (.slice A 0 c)/\w'=w:=by
 have CI:=af (acs a hid g f d (fun _=>undef) (fun _=>false) (fun W=>W=w) A 0 c w rfl (aV _) i (fun W k _ j=>by omega) (fun W k _ j=>by omega));exact m72
def anr(a:FuncId)(hid:∀b w,(callFunc a b).run prog w= .ok (.enter a b) w)(f d:Value)(A:aR)(c:Nat)(w:au)(g:c<=maxLen):
 Calls prog 189 #[.slice A 0 c,.func (.func a) #[] #[f,d]] w fun e w'=>e= .returned (.slice A 0 c)/\w'=w:=by
 have CI:=af (acu a hid f d (fun _=>undef) (fun _=>false) (fun W=>W=w) A 0 c w rfl (aV _) g (fun W k _ i=>by omega) (fun W k _ i=>by omega));exact m72
def Tl{w:au}:∀{a:List Value} {l:List aD},Ch (jM w) a l->a=l.map encStr
 |_,[],h=>h
 |_,t::l,⟨c,r,e,d,b⟩=>by rw[e,Tl b,show c=_ from d];rfl
def aog{l:List aD}(h:bI bJ 1 jM a m (.slice E b c) l)(j:l≠ []):∃g rest,E=some ⟨g,0,none⟩/\a<=g/\ar m g bJ (l.map encStr++rest):=by
 obtain⟨u,⟨_,q⟩,p⟩:=h;have f:=Tl p;rcases q with⟨_,r⟩|⟨g,t,d,e,o,k,_,_,_,i⟩
 ·exact absurd (mh r) j
 ·injection e with s x v;refine⟨g,d.toList.drop (l.length*1),s,o,?_⟩;unfold ar;rw[k,<-f,<-i,sJ]
def ac_(t:aD):∀l:List aD,(oc t l).length<=l.length+1
 | []=>by simp [oc]
 |y::l=>by
  have:=ac_ t l;unfold oc;split
  ·simp only[cP];omega
  ·split<;>simp
def abV:∀l:List aD,(jH l).length<=l.length
 | []=>by simp [jH]
 |t::l=>a7 (ac_ t (jH l)) (by have:=abV l;simp only[cP];omega)
def ab4{c:Nat->aD}{t u:aD}:put (put c a u) a t=put c a t:=by
 funext b
 unfold put;by_cases h:b=a<;>simp [h]
def aaY{c:Nat->aD}:put c a (c a)=c:=by
 funext b
 unfold put;by_cases h:b=a<;>simp [h]
def Sd{on:Nat->Bool}(h:on a=false):(fun b=>if b=a then false else on b)=on:=by
 funext b
 by_cases e:b=a
 ·rw[if_pos e,e,h]
 ·rw[if_neg e]
def aeb(h:aq:=by
 obtain⟨cb,hcb⟩:∃cb,gZ (bh x) (bY T) (bM x) fx on cur v=cb:=⟨_,rfl⟩;have UI:=af hcb;rw[hcb];clear hcb;have HST:=af h;have rL:=h.xl;have kt:=h.jn;obtain⟨B,d,hr1,gL⟩:=h.tJ.st.jr;have dI:=h.tJ.st.jl;obtain⟨-,iN,j4⟩:=bD gL;have nD:=af h.kU.ok.ra;have NB:=af h.kU.ok.rl;obtain⟨At,ct,rM,xA⟩:=h.tJ.tb;have OT:=h.kU.ok.len;obtain⟨-,ht2,ht3⟩:=bD xA;have HTm:=af hT;have XK:=af (fun W (hX:Ext w W)=>hF W (h.ex.trans hX) v Om);clear h hT hF;obtain⟨RN,uR⟩:∃RN,x.ay.length=RN:=⟨_,rfl⟩;have jN:=af uR;rw[uR] at hr1 iN gL OT;have hR6:RN<=6:=Om;clear uR;go_enter y7,y6;go_upto_region 2 with fail
 refine qq fun W HX B2 B3 B5=> ?_;have hbl:=B5.lt;have FE:xb<w.heap.size:=rL;generalize qA:w.heap.size=bb at*;have p2:=B2.aF 0;have c1:=(HX.cell (p:=⟨xb,0,none⟩) axd).trans kt;have c2:=(HX.cell (p:=⟨jb,1,none⟩) axe).trans hr1;go_upto_region 3 with fail
 clear p2 c1 c2;have HW0:=af (aB W);have Gv:ah (bI aS 1 dO W.heap.size W (.slice none 0 0) (ints (lT x v 0))):=jf;go_loopw [6,7,24] (fun _ _ v24 wr=>∃(k:Nat) (sv:Value),k<=RN/\v24= .int .i64 k/\ah (Ext w wr)/\ah (ar wr bb Jb [.pointer (some ⟨xb,0,none⟩)])/\ah (ar wr (bb+1) aS [.int .i64 v])/\ah (ar wr (bb+1+1) cI [sv])/\ah (bI aS 1 dO W.heap.size wr sv (ints (lT x v k)))/\W.heap.size<=wr.heap.size) (fun _ _ v24 _=>RN - (RowKit.intOf v24).toNat)
 exact⟨0,_,aV _,rfl,HX,B2,B3,B5,Gv,aK _⟩;clear B2 B3 B5;obtain⟨k,sv,hk,rfl,HX,B2,B3,B5,HO,hsz⟩:=hrel;by_cases hkN:k<RN
 ·have dR:k<x.ay.length:=by rw[jN.ae];exact hkN
  obtain⟨g,o,Bi,mi,di,hB,rT,lA,rP,jL⟩:=rp gL dR;have et:=(HX.cell (p:=⟨g,o+k*2,none⟩) rT).trans lA;have gz:=(HX.cell (p:=⟨g,o+k*2+1,none⟩) rT).trans rP;have hm:=(bD jL).1;subst hm;have dA:=af jL;have Kk:=af (akn (v:=v) dR (fun a ha=>(nD k _ (aX dR) a ha).1));have hle:=amg x v k;obtain⟨As,O2,xsv,rfl,agj,agi,_,_⟩:=HO.parts;clear lA rP jL;generalize x.ay[k]=rk at*;obtain⟨rn,ra⟩:=rk;simp only at et gz dA Kk;subst hB;go_upto_region 5 with fail
  refine aT fun W3 cH BR=> ?_;have hbr:=BR.lt;have dD:=af (HX.trans cH);have G2:=af (B2.ext cH);have GZ:=af (B3.ext cH);have K0:=af (B5.ext cH);have qG:=af (HO.ext cK cH);have hsz':W.heap.size<=W3.heap.size:=a7 hsz cH.size;obtain⟨b0,b1⟩:=BR.two;have b2:=GZ.aF 0;have CC:=af (acE Bi ra.length di ra v W3 (bU cK dA dD));clear B2 B3 B5 hsz et gz;go_wp2_with fail
  refine CC.mono ?_;rintro e3 w3 ⟨rfl,rfl⟩;clear b0 b1 b2;cases Dh:ra.contains (v:Int) with
  |false=>rw[Dh] at Kk;have Ux:ah (lT x v (k+1)=lT x v k):=Kk.ae;clear Dh;go_wp2;go_roundw;exact⟨k+1,_,by omega,by go_num,dD,G2,GZ,K0,by rw[Ux.ae];exact qG,hsz'⟩;simp [RowKit.intOf];omega
  |true=>
   rw[Dh] at Kk;have Ux:ah (lT x v (k+1)=lT x v k++ [k]):=Kk.ae;clear Dh;have asS:ah (ints (lT x v (k+1))=ints (lT x v k)++ [((k:Nat):Int)]):=by rw[ah,Ux.ae];unfold ints;rw[kD];rfl
   have iM:(ints (lT x v k)).length<=6:=by unfold ints;rw[bW];omega
   clear hle;generalize ints (lT x v k)=zl at*;obtain⟨_,_,xo,ee,_,_,kW,vo⟩:=qG.parts;injection ee with xc _ Do;subst xc Do;have cM:(zl.length+1)*8<=140737488355328:=Om;have b5:=K0.aF 0;go_wp2_with (at_builtin;refine gQ rfl _ _ cI rfl W.heap.size jE _ _ _ rfl kW.ae #[.int .i64 (k:Int)] 1 1 rfl rfl rfl cM hsz' ?_)
   intro v' Fm Co tq _;obtain⟨La,c10,rfl,_,_,_⟩:=ej Co;have xi:=af (jc (R:=dO) (x:=((k:Nat):Int)) cK Oe kW vo rfl Co tq);have WC:=af (mn dD kW tq Om);have K9:=af (gH G2 kW tq Om);have PN:=af (gH GZ kW tq Om);have Yy:=af (gH K0 kW tq Om);have arQ:W.heap.size<=Fm.heap.size:=a7 hsz' tq.size;have b5n:=Yy.aF 0;have f5n:=Yy.frozen 0;obtain⟨J0,Uj,Yz,K11,Gh⟩:=gG (i:=0) Yy.ae (.slice La (zl.length+1) c10);have asF:=af Uj;have WG:=af (xi.only cK Gh hbl Oe);have X11:=af (WC.only Gh Om);have B2m:ah (ar J0 bb Jb [.pointer (some ⟨xb,0,none⟩)]):=(Gh.block _ K9.lt Oc).trans K9.ae;have B3m:ah (ar J0 (bb+1) aS [.int .i64 v]):=(Gh.block _ PN.lt Ou).trans PN.ae;have arP:W.heap.size<=J0.heap.size:=a7 arQ Gh.size;clear Co tq Uj Gh K11 b5;go_wp2;rw[asF.ae];go_roundw;exact⟨k+1,_,by omega,by go_num,X11,B2m,B3m,Yz,by rw[asS.ae];exact WG,arP⟩;simp [RowKit.intOf];omega
 ·have OA:k=RN:=Om;subst OA;have d1:decide ((k:Int)<(k:Int))=false:=aY;have pP:ah (lT x v k=f6 (bh x) (bM x) v):=by unfold lT bM;rw[jN.ae];rfl
  have afX:∀f∈f6 (bh x) (bM x) v,f<k/\v∈bh x f:=fun f hf=>by obtain⟨h1,h2⟩:=yB.1 hf;unfold bM at h1;rw[jN.ae] at h1;exact⟨dB.1 h1,h2⟩
  have Kn:=af afX;rw[pP.ae] at HO;clear afX FE;obtain⟨rl,ju⟩:∃rl,f6 (bh x) (bM x) v=rl:=⟨_,rfl⟩;have aeh:=af ju;rw[ju] at HO Kn hne;clear ju;rcases rl with _|⟨f,tl⟩
  ·exact absurd rfl hne
  obtain⟨hfk,zm⟩:=Kn f Ou;have lZ:f<x.ay.length:=by rw[jN.ae];exact hfk
  rw[sY lZ] at zm;obtain⟨gi,oi,Bi,mi,di,hB,lB,lY,rS,jL⟩:=rp gL lZ;have rR:=(bD jL).1;subst rR hB;obtain⟨Cp,agh⟩:=(bD jL).2;have Vp:(v:Int)∈x.ay[f].2:=by unfold b9 at zm;obtain⟨a,ha,e⟩:=dU.1 zm;have:=(nD f _ (aX lZ) a ha).1;rwa[show(v:Int)=a by omega]
  have HAF:ah (bh x f=b9 x.ay[f].2):=sY lZ;have Gu:=af (nD f _ (aX lZ));generalize hrf:x.ay[f]=rf at*;have agM:ah (x.ay[f]? =some rf):=by rw[ah,aX lZ,hrf]
  clear hrf;obtain⟨rn,ra⟩:=rf;simp only at lY rS jL Cp Vp HAF Gu;obtain⟨w4,rfl⟩:∃w4:World,w4=wr:=⟨_,rfl⟩;have HIX:ah (∀m,Calls prog 218 #[.slice Bi ra.length di,.int .i64 v] (w4.drewN m) fun e w'=>e= .returned (.int .i64 (ra.idxOf (v:Int):Nat))/\∃q,w'=w4.drewN q):=fun m=>by refine(ang Bi ra.length di ra v _ (bU cK jL (HX.drewN m)) Vp).mono ?_;rintro e w' ⟨h1,rfl⟩;exact⟨h1,m,rfl⟩
  obtain⟨As,O2,xsv,rfl,agj,agi,hro,JI⟩:=HO.parts;have zr:=HO.ls;obtain⟨gl,ol,hAs,_,hc0⟩:=gX zr (i:=0) awA;subst hAs;have asm:w4.cell? ⟨gl,ol,none⟩=some (.int .i64 (f:Nat)):=hc0;have hlen:(ints (f::tl)).length=(f::tl).length:=awg;have b2:=B2.aF 0;have b3:=B3.aF 0;have b5:=B5.aF 0;have c1:=(HX.cell (p:=⟨xb,0,none⟩) axd).trans kt;have c2:=(HX.cell (p:=⟨jb,1,none⟩) axe).trans hr1;have c4:=(HX.cell (p:=⟨gi,oi+f*2,none⟩) lB).trans lY;have c5:=(HX.cell (p:=⟨gi,oi+f*2+1,none⟩) lB).trans rS;clear hc0 zr hro JI lY rS hr1;go_upto_region 9 with fail
  go_quiet ((go_at_call 218;exact HIX _));have X5:=af (HX.drewN nq);have G2:=af (B2.drewN nq);have GZ:=af (B3.drewN nq);have K0:=af (B5.drewN nq);have oD:W.heap.size<=gl/\gl<(w4.drewN nq).heap.size:=by have h:=HO.blk rfl;exact⟨h.1,h.2.1⟩
  have qG:=af (HO.ext cK ((aB w4).drewN nq));have hsz':W.heap.size<=(w4.drewN nq).heap.size:=hsz;clear B2 B3 B5 hsz b2 b3 b5 c1 c2 c4 c5 asm jL;generalize w4.drewN nq=w5 at*;have JE:f<T.length:=by rw[OT];exact hfk
  obtain⟨gt,ot,Af,cf,hA,FV,hLf,Jn⟩:=iP.get xA JE;have Gz:=af hLf.ae;have agG:ah (T[f]? =some T[f]):=aX JE;have HLl:=af (NB f (rn,ra) T[f] agM.ae agG);have au2:=HTm _ (a_ JE);generalize T[f]=lf at*;subst hA;obtain⟨-,au4,au3⟩:=bD Gz;have b2:=G2.aF 0;have c1:=(X5.cell (p:=⟨xb,0,none⟩) axd).trans kt;have c2:=(X5.cell (p:=⟨jb,4,none⟩) axe).trans rM;have c4:=(X5.cell (p:=⟨gt,ot+f,none⟩) FV).trans Jn;clear hLf rM Jn kt;generalize T.length=TN at*;go_upto_region 12 with fail
  clear b2 c1 c2 c4;have hia:ra.idxOf (v:Int)<ra.length:=PO Vp;have XA:ah ((b9 ra).idxOf v=ra.idxOf (v:Int)):=acd fun a ha=>(Gu a ha).1;generalize ra.idxOf (v:Int)=ia at*;have DI:ah (bI bJ 1 jM w5.heap.size w5 (.slice none 0 0) (kr fx on cur v ia (b9 ra) (lf.take 0))):=jf;have bP:ah (Ext w5 w5):=aB w5;go_loopw [10,12,13,14,66] (fun v10 _ _ _ v66 wr=>∃j:Nat,j<=lf.length/\v66= .int .i64 j/\ah (bI bJ 1 jM w5.heap.size wr v10 (kr fx on cur v ia (b9 ra) (lf.take j)))/\ah (Ext w5 wr)) (fun _ _ _ _ v66 _=>lf.length - (RowKit.intOf v66).toNat)
  exact⟨0,aV _,rfl,DI,bP⟩;obtain⟨j,hj,rfl,HO,HX⟩:=hrel;by_cases dI:j<lf.length
  ·have X6:=af (X5.trans HX);obtain⟨gl2,ol2,Bk,dk,hAf,agb,lA,rP,rY⟩:=yS Gz dI;have et:=(X6.cell (p:=⟨gl2,ol2+j*2,none⟩) agb).trans lA;have gz:=(X6.cell (p:=⟨gl2,ol2+j*2+1,none⟩) agb).trans rP;have F_:=HLl _ (a_ dI);have gh:ah (lf.take (j+1)=lf.take j++ [lf[j]]):=fg dI;have Ks:ah (kr fx on cur v ia (b9 ra) (lf.take (j+1))=if (dV on cur (b9 ra) lf[j].1&&cL fx v (lf[j].1.getD ia []))=true then kr fx on cur v ia (b9 ra) (lf.take j)++ [lf[j].1.getD ia []] else kr fx on cur v ia (b9 ra) (lf.take j)):=by rw[ah,gh.ae];exact akL
   have FM:(kr fx on cur v ia (b9 ra) (lf.take j)).length<=1000:=(by unfold kr;rw[bW];exact a7 (mm _ _) avU);clear lA rP;generalize kr fx on cur v ia (b9 ra) (lf.take j)=lo at*;generalize lf[j]=y at*;obtain⟨yv,yw⟩:=y;simp only at et gz rY F_ Ks;subst hAf;go_upto_region 14 with fail
   refine aT fun W6 dG BY=> ?_;rw[F_] at rY;have Vi:ia<yv.length:=by rw[F_];exact hia
   have HTE:ah (yv.getD ia []=yv[ia]):=by rw[ah,fh,aX Vi];rfl
   rw[HTE.ae] at Ks;have X7:=af (X6.trans dG);have agK:=af (HST.ext X7);have K9:=af ((G2.ext HX).ext dG.ae);have PN:=af ((GZ.ext HX).ext dG.ae);have r_:=af (HO.ext jS dG);have H57:=af (HX.trans dG);have NU:w5.heap.size<=W6.heap.size:=H57.size;have tN:=af (fu rY X7);have as6:ah (fx v=none->cL fx v yv[ia]=true):=fun h=>by unfold cL;rw[h]
   have UB:ah (∀z,fx v=some z->cL fx v yv[ia]=(z==yv[ia])):=fun z h=>by unfold cL;rw[h]
   obtain⟨gy,oy,rU,hgy,OL⟩:=s6 tN Vi;subst rU;obtain⟨S,eQ⟩:∃S:World->Prop,S=fun w'=>w'.cell? ⟨bb,0,none⟩=some (.pointer (some ⟨xb,0,none⟩))/\w'.cell? ⟨bb+1,0,none⟩=some (.int .i64 v)/\w'.cell? ⟨xb,UM,none⟩=some fv/\(Instr.lookup IK fv (.int .i64 v) true).run prog w'= .ok (.tuple #[.string ⟨((fx v).getD []).toArray⟩,.bool (fx v).isSome]) w':=⟨_,rfl⟩;have bO:ah (∀w',S w'->w'.cell? ⟨bb,0,none⟩=some (.pointer (some ⟨xb,0,none⟩))/\w'.cell? ⟨bb+1,0,none⟩=some (.int .i64 v)/\w'.cell? ⟨xb,UM,none⟩=some fv/\(Instr.lookup IK fv (.int .i64 v) true).run prog w'= .ok (.tuple #[.string ⟨((fx v).getD []).toArray⟩,.bool (fx v).isSome]) w'):=avQ;have aH:ah (S W6.drew):=by rw[ah,eQ];exact⟨K9.drew.aF 0,PN.drew.aF 0,agK.drew.sx.cell OI,XK.ae _ X7.drew⟩
   clear eQ et gz;refine cD (S:=S) (T:=fun j=>decide (11<=j)) Ok ?_;have CA:=af (Jc xb jb nb sb f x cur on (rn,ra) (some ⟨gy,oy,none⟩) dk yv yw W6.drew agK.drew.tJ.st agM Gu F_ (by rw[F_];exact bU jS tN (aB W6).drew));rw[F_] at CA;have nE:=af (r_.ext jS (aB W6).drew);have H58:=af H57.drew;have D2:=af BY.drew;have Kh:=af (fu tN (aB W6).drew);have G1:=af K9.drew;have Vg:w5.heap.size<=W6.drew.heap.size:=NU;clear BY NU OL;generalize W6.drew=wd at*;refine ax 0 71 ?_;refine ax 1 72 ?_;refine ax 2 73 ?_;refine ax 3 74 ?_;refine ax 4 75 ?_;refine ax 5 76 ?_;refine ax 6 70 ?_;refine ax 7 77 ?_;refine ax 8 78 ?_;refine ax 9 13 ?_;refine ax 10 14 ?_;refine b_ Ok ?_;have b2:=G1.aF 0;obtain⟨y0,y1⟩:=D2.two;go_wp2_with fail
   refine CA.mono ?_;rintro e9 w9 ⟨rfl,jJ⟩;have kX:=af (nE.ext jS jJ);have Yc:=af (H58.trans jJ);have BY9:=af (D2.ext jJ);have hz9:w5.heap.size<=w9.heap.size:=Yc.size;obtain⟨gy2,oy2,Uk,_,OL⟩:=s6 (fu Kh jJ) Vi;injection Uk with Uk;injection Uk with e1 e2;subst e1 e2;obtain⟨Ao,co,xo,rfl,JI,_,kW,vo⟩:=kX.parts;obtain⟨y0,y1⟩:=BY9.two;clear jJ b2 y0 y1 Vg;obtain⟨y0,y1⟩:=BY9.two;generalize dV on cur (b9 ra) yv=ab at*;generalize cL fx v yv[ia]=kb at*;generalize yv[ia]=t at*;have cM:(lo.length+1)*16<=140737488355328:=Om;cases ab with
   |false=>exact afo
   |true=>
    rcases Df:fx v with _|z
    ·have hkb:=as6 Df;subst hkb;have NC:ah (kr fx on cur v ia (b9 ra) (lf.take (j+1))=lo++ [t]):=aw9;exact m49
    ·have hkb:=UB z Df;by_cases hzt:z=t
     ·subst hzt;rw[beq_self_eq_true] at hkb;subst hkb;have NC:ah (kr fx on cur v ia (b9 ra) (lf.take (j+1))=lo++ [z]):=aw9;exact m49
     ·have arE:(z==t)=false:=beq_eq_false_iff_ne.2 hzt;rw[arE] at hkb;subst hkb;exact afo
  ·have hT:lf.take j=lf:=dz Om;rw[hT] at HO;have d1:decide ((j:Int)<(lf.length:Int))=false:=aY;clear hT;have pQ:ah (wm (bh x) (bY T) (bM x) fx on cur v=kr fx on cur v ia (b9 ra) lf):=by
    unfold ah wm;rw[aeh.ae];simp only;have e1:bY T f=lf:=by unfold bY;rw[agG.ae];rfl
    unfold kr uD;rw[e1,HAF.ae,XA.ae]
   have sA:ah (cb=(jH (kr fx on cur v ia (b9 ra) lf)).filter fun t=>(f::tl).all fun i=>rC x T (put cur v t) (cQ on v) i):=(by rw[ah,<-UI.ae];unfold gZ;rw[pQ.ae,aeh.ae];rfl);have FM:(kr fx on cur v ia (b9 ra) lf).length<=1000:=(by unfold kr;rw[bW];exact a7 (mm _ _) Om);generalize kr fx on cur v ia (b9 ra) lf=lo at*;obtain⟨Ao,co,xo,rfl,JI,hcm,kW,vo⟩:=HO.parts;by_cases Da:lo= []
   ·subst Da;have hce:cb= []:=by rw[sA.ae];rfl
    subst hce;have X8:=af (X5.trans HX);have xB:=af (Tryz.slices_Sort_string_none Ao co wr);have KL:ah (Calls prog 228 #[.slice Ao 0 co] wr fun e w'=>e= .returned (.slice Ao 0 co)/\w'=wr):=Any.slices_Compact_string_empty ac7 Ao co wr;have XR:=af (anp TD (fun _ _=>by rfl) (.pointer (some ⟨bb,0,none⟩)) (.pointer (some ⟨bb+1,0,none⟩)) (.pointer (some ⟨bb+1+1,0,none⟩)) Ao co wr hcm);have fE:ah (en om oh tX cs w0 wr xb jb nb sb x T (put cur v (cur v)) on):=by rw[aaY];exact HST.ext X8
    go_wp2_with fail
    refine xB.mono ?_;rintro e1 w' ⟨rfl,rfl⟩;go_wp2_with fail;refine KL.mono ?_;rintro e1 w' ⟨rfl,rfl⟩;go_wp2_with fail;refine XR.mono ?_;rintro e1 w' ⟨rfl,rfl⟩;go_wp2_with fail;exact bodyPost_ret (v:= .slice Ao 0 co) awi rfl ⟨Ao,co,cur v,rfl,aV _,hcm,fun h=>absurd rfl h,fE,.gV X8⟩
   ·obtain⟨g,rest,hA,hgb,rU⟩:=aog HO Da;subst hA;have X4:=af rU;have X8:=af (X5.trans HX);have fE:=af (HST.ext X8);have G1:=af (G2.ext HX);have B38:=af (GZ.ext HX);have B58:=af (K0.ext HX);have nE:=af (qG.ext cK HX);have xB:=af (aka (c:=co) X4 FM);have rT:w.heap.size<=g:=by have:=X5.size;omega
    clear rU;go_wp2_with fail;refine xB.mono ?_;rintro e1 w1 ⟨rfl,hO1,hB1⟩;have KL:=af (als (c:=co) hB1 FM JI);have gM:=af hO1;clear hB1 hO1;go_wp2_with fail
    refine KL.mono ?_;rintro e1 w2 ⟨rfl,hO2,apY,zB⟩;have dY:=af (gM.trans hO2);have eo:=af zB;have si:ah ((jH lo).length<=co/\co<=maxLen):=⟨a7 (abV lo) JI,hcm⟩;clear hO2 zB;have avA:bb+1+1<g:=Om;have uM:nb<bb:=by rw[<-qA];exact HST.nc.lt
    have CY:sb<bb:=by rw[<-qA];exact HST.sc.lt
    have afQ:w0.heap.size<=g:=by have:=HST.ex.size;omega
    have aga:g<w2.heap.size:=eo.lt;have ei:ah (en om oh tX cs w0 w2 xb jb nb sb x T (put cur v (cur v)) on):=by rw[aaY];exact fE.past dY afQ Om Om Om
    have B22:ah (ar w2 bb Jb [.pointer (some ⟨xb,0,none⟩)]):=(dY.block _ G1.lt Oc).trans G1.ae;have B32:ah (ar w2 (bb+1) aS [.int .i64 v]):=(dY.block _ B38.lt Oc).trans B38.ae;have B52:ah (ar w2 (bb+1+1) cI [.slice (some ⟨gl,ol,none⟩) (f::tl).length O2]):=(by rw[<-hlen];exact(dY.block _ B58.lt Oc).trans B58.ae)
    have HCX:ah (∀W',a8 [nb,sb,g] w2 W'->ar W' bb Jb [.pointer (some ⟨xb,0,none⟩)]/\ar W' (bb+1) aS [.int .i64 v]/\ar W' (bb+1+1) cI [.slice (some ⟨gl,ol,none⟩) (f::tl).length O2]):=fun W' hc=>
     ⟨(hc.block _ B22.lt Oc).trans B22.ae,(hc.block _ B32.lt Oc).trans B32.ae,(hc.block _ B52.lt Oc).trans B52.ae⟩
    have Py:ah (∀W',a8 [nb,sb,g] w2 W'->∀q (hq:q<(f::tl).length),∃g' o',(some ⟨gl,ol,none⟩:aR)=some ⟨g',o',none⟩/\W'.cell? ⟨g',o'+q,none⟩=some (.int .i64 (((f::tl)[q]:Nat):Int))):=(by intro W' hc q hq;obtain⟨g',o',e,hlt,jv⟩:=gX nE.ls (i:=q) (by rw[hlen];exact hq);injection e with e;injection e with e1 e2;subst e1 e2;refine⟨gl,ol,rfl,?_⟩;have h1:=dY.block gl hlt Oc;have h2:=hc.block gl (cF hlt dY.size) Oc;rw[show(ints (f::tl))[q]'(by rw[hlen];exact hq)=(((f::tl)[q]:Nat):Int) by unfold ints;rw[vD]] at jv;rw[<-jv];unfold World.cell?;simp only;rw[h2,h1]);obtain⟨Q,hQ⟩:∃Q:aD->Bool,Q=fun t=> !(f::tl).all fun i=>rC x T (put cur v t) (cQ on v) i:=⟨_,rfl⟩;have HQ:=af (fun t=>congrFun hQ t);have HCQ:ah ((jH lo).filter (fun t=> !Q t)=cb):=(by rw[ah,sA.ae];refine D_ fun t _=> ?_;rw[HQ.ae t,Bool.not_not])
    clear hQ;have KH:=af (anq TD (fun _ _=>by rfl) (.pointer (some ⟨bb,0,none⟩)) (.pointer (some ⟨bb+1,0,none⟩)) (.pointer (some ⟨bb+1+1,0,none⟩)) Q (fun W'=>∃u,en om oh tX cs w0 W' xb jb nb sb x T (put cur v u) on/\a8 [nb,sb,g] w2 W') g co (jH lo) apY w2 ⟨cur v,ei,.gV (aB w2)⟩ eo si.1 si.2
     (fun W' W'' h ho=>by obtain⟨u,hs,hc⟩:=h;exact⟨u,hs.past ho afQ Om Om Om,hc.only ho (.inl Ou)⟩)
     (fun W' t ys h ht Fy=>by
       obtain⟨u,hs,hc⟩:=h;obtain⟨k2,k3,k5⟩:=HCX W' hc;refine(zcn tX cs xb jb nb sb bb (bb+1) (bb+1+1) v x T (put cur v u) on (f::tl) (some ⟨gl,ol,none⟩) O2 t w0 W' hs hv (fun i hi=>by rw[jN.ae];exact(Kn i hi).1) k2.lt k3.lt k5.lt ⟨by omega,by omega,by omega,by omega,by omega,by omega⟩ (k2.aF 0) (k3.aF 0) (k5.aF 0) ⟨by rw[<-hlen];exact agj,agi⟩
        (fun W3 h3=>Py W3 (hc.trans (h3.mono fun i hi _=>by simp only[aJ,bL,or_false] at hi⊢;omega)))).mono ?_
       rintro e w' ⟨rfl,hs',hc'⟩;rw[ab4] at hs';rw[Sd Ol] at hs';refine⟨by rw[HQ.ae t,ab4],⟨t,hs',hc.trans (hc'.mono fun i hi _=>by simp only[aJ,bL,or_false] at hi⊢;omega)⟩,?_⟩;exact(hc'.block g Fy.lt Oc).trans Fy))
    rw[HCQ.ae] at KH;have aZ:=af (X8.only dY Om);have ash:cb.length<=co:=by rw[sA.ae];exact a7 (mm _ _) si.1
    go_wp2_with fail
    refine KH.mono ?_;rintro e3 w3 ⟨rfl,⟨u,hs3,hc3⟩,apX,hB3⟩;have xC:=af hs3;have jy:=af hc3;have gO:=af hB3;clear hs3 hc3 hB3;have oQ:ah (a8 [nb,sb] w w3):=((gT aZ).trans jy.ae).mono fun i hi hlt=>by simp only[aJ,bL,or_false] at hi⊢;omega
    go_wp2_with fail
    exact bodyPost_ret (v:= .slice (some ⟨g,0,none⟩) cb.length co) awi rfl ⟨some ⟨g,0,none⟩,co,u,rfl,ash,hcm,fun _=>⟨g,apX,rfl,rT,gO⟩,xC,oQ⟩):=h
abbrev ut.y7:= @func190
abbrev ut.y6:= @ntmps190
abbrev ut.uz:= @results190
abbrev ut.TD:=(229:Nat)
abbrev ut.zcn:= @aqk
abbrev ut.Jc:= @Sy
abbrev ut.Jb:=(198:TypeId)
abbrev ut.UM:=(12:Nat)
abbrev ut.om:=(13:Nat)
abbrev ut.oh:=(14:Nat)
open ut in
def acM(tX:TypeId)(cs:List Value)(xb jb nb sb v:Nat)(x:aP)(T:List (List Rw))(cur:Nat->aD)(on:Nat->Bool)(fv:Value)(fx:Nat->Option aD)(w0 w:au)(h:en 13 14 tX cs w0 w xb jb nb sb x T cur on)(Ol:on v=false)(hv:v<x.ai.length)(OI:cs[12]? =some fv)(hF:tV w0 fv fx)(hne:f6 (bh x) (bM x) v≠ [])
 (r6:x.ay.length<=6) (a12:x.ai.length<=12) (hT:∀l∈T,l.length<=1000):
 Calls prog 190 #[.pointer (some ⟨xb,0,none⟩),.int .i64 v] w fun e w'=>∃A c t,e= .returned (.slice A (gZ (bh x) (bY T) (bM x) fx on cur v).length c)/\(gZ (bh x) (bY T) (bM x) fx on cur v).length<=c/\c<=maxLen/\
  (gZ (bh x) (bY T) (bM x) fx on cur v≠ []->∃g rest,A=some ⟨g,0,none⟩/\w.heap.size<=g/\ar w' g bJ ((gZ (bh x) (bY T) (bM x) fx on cur v).map encStr++rest))/\en 13 14 tX cs w0 w' xb jb nb sb x T (put cur v t) on/\a8 [nb,sb] w w':=aeb
abbrev ur.y7:= @func237
abbrev ur.y6:= @ntmps237
abbrev ur.uz:= @results237
abbrev ur.TD:=(271:Nat)
abbrev ur.zcn:= @aqf
abbrev ur.Jc:= @Su
abbrev ur.Jb:=(202:TypeId)
abbrev ur.UM:=(18:Nat)
abbrev ur.om:=(19:Nat)
abbrev ur.oh:=(20:Nat)
open ur in
def ann(tX:TypeId)(cs:List Value)(xb jb nb sb v:Nat)(x:aP)(T:List (List Rw))(cur:Nat->aD)(on:Nat->Bool)(fv:Value)(fx:Nat->Option aD)(w0 w:au)(h:en 19 20 tX cs w0 w xb jb nb sb x T cur on)(Ol:on v=false)(hv:v<x.ai.length)(OI:cs[18]? =some fv)(hF:tV w0 fv fx)(hne:f6 (bh x) (bM x) v≠ [])
 (r6:x.ay.length<=6) (a12:x.ai.length<=12) (hT:∀l∈T,l.length<=1000):
 Calls prog 237 #[.pointer (some ⟨xb,0,none⟩),.int .i64 v] w fun e w'=>∃A c t,e= .returned (.slice A (gZ (bh x) (bY T) (bM x) fx on cur v).length c)/\(gZ (bh x) (bY T) (bM x) fx on cur v).length<=c/\c<=maxLen/\
  (gZ (bh x) (bY T) (bM x) fx on cur v≠ []->∃g rest,A=some ⟨g,0,none⟩/\w.heap.size<=g/\ar w' g bJ ((gZ (bh x) (bY T) (bM x) fx on cur v).map encStr++rest))/\en 19 20 tX cs w0 w' xb jb nb sb x T (put cur v t) on/\a8 [nb,sb] w w':=aeb
def ao0(a b:Bool)(w:au):Calls prog 221 #[.bool a,.bool b] w fun e c=>e= .returned (.bool (a||b))/\c=w:=by go_enter func221,ntmps221;cases a<;>cases b<;>(go_wp2;exact bodyPost_ret (by simp [results,results221,go_sem]) rfl ⟨rfl,rfl⟩)
def anK(a b:Bool)(w:au):Calls prog 222 #[.bool a,.bool b] w fun e c=>e= .returned (.bool (a&&b))/\c=w:=by go_enter func222,ntmps222;cases a<;>cases b<;>(go_wp2;exact bodyPost_ret (by simp [results,results222,go_sem]) rfl ⟨rfl,rfl⟩)
def anI(a:Bool)(w:au):Calls prog 223 #[.bool a] w fun e b=>e= .returned (.bool (!a))/\b=w:=by go_enter func223,ntmps223;cases a<;>(go_wp2;exact bodyPost_ret (by simp [results,results223,go_sem]) rfl ⟨rfl,rfl⟩)
def alA(n:Int)(t:ByteArray)(w:au):Calls prog 185 #[av n,.string t] w fun e a=>e= .returned (.bool true)/\a=w:=by go_enter func185,ntmps185;go_wp2;exact bodyPost_ret (by simp [results,results185,go_sem]) rfl ⟨rfl,rfl⟩
def aoZ(n:Int)(w:au):Calls prog 186 #[av n] w fun e a=>e= .returned (.bool true)/\a=w:=by go_enter func186,ntmps186;go_wp2;exact bodyPost_ret (by simp [results,results186,go_sem]) rfl ⟨rfl,rfl⟩
def aix(w:au):Calls prog 184 #[] w fun e a=>e= .returned (.agg #[.bool false,.bool true,.func (.func 221) #[] #[],.func (.func 222) #[] #[],.func (.func 223) #[] #[]])/\Ext w a:=by go_enter func184,ntmps184;go_wp2;exact bodyPost_ret (by simp [results,results184,go_sem]) rfl ⟨rfl,(aB w).alloc _⟩
def Pb(a:au)(b:List Value)(n:Nat)(j h i:List (List Nat))(d:List Nat):Prop:=
 ∃g e f A c,b[1]? =some (.slice (some ⟨g,0,none⟩) (n+1) (n+1))/\b[2]? =some (.slice (some ⟨e,0,none⟩) n n)/\b[3]? =some (.slice (some ⟨f,0,none⟩) n n)/\b[4]? =some (.slice A d.length c)/\
  qD a (.slice (some ⟨g,0,none⟩) (n+1) (n+1)) (j.map ints)/\qD a (.slice (some ⟨e,0,none⟩) n n) (h.map ints)/\qD a (.slice (some ⟨f,0,none⟩) n n) (i.map ints)/\IL a (.slice A d.length c) (ints d)
def apm{k:List (List Nat)}(h:qD m (.slice (some ⟨a,0,none⟩) b c) (k.map ints)){i:Nat}(f:k[i]? =some j):
 ∃A d,a<m.heap.size/\m.cell? ⟨a,i,none⟩=some (.slice A j d)/\ah (IL m (.slice A j d) (ints j))/\i<b:=by
 have p:i<k.length:=by
  rcases cA i k with h|h
  ·exact h
  ·rw[fF h] at f;cases f
 have t:=(bD h).1;obtain⟨z,o,A,d,r,u,s,q⟩:=yN h (i:=i) (by rw[bW];exact p);injection r with r;injection r with y x;subst y x;have e:(k.map ints)[i]'(by rw[bW];exact p)=ints j:=(by rw[vD];rw[aX p] at f;injection f with f;rw[f])
 have v:(ints j).length=j.length:=awg;rw[e,v] at s q;rw[ja] at q;exact⟨A,d,u,q,s,by rw[t,bW];exact p⟩
def MP{p:List (List Nat)}(h:qD m (.slice (some ⟨a,0,none⟩) b c) (p.map ints))(x:p[d]? =some i):
 ∃A f,ah (∀W,Kept cI m W->W.cell? ⟨a,d,none⟩=some (.slice A i.length f))/\ah (IL m (.slice A i.length f) (ints i))/\d<b:=by
 obtain⟨A,f,E,s,D,C⟩:=apm h x;refine⟨A,f,fun W k=> ?_,D,C⟩;obtain⟨O,N,t,e,_,_,_,B,_⟩:=h;injection e with e _ _;subst e;have K:(m.heap[a]?).isSome=true:=by rw[YE E];rfl
 have J:=s;unfold World.cell? at s⊢;simp only at s⊢;have F:∃j o,m.heap[a]? =some (.cells j cI o):=by
  obtain⟨u,z⟩:∃u,t[0]? =some u:=by
   rcases t with _|⟨u,t⟩
   ·exfalso;rename_i v;rcases p with _|⟨q,p⟩
    ·simp at x
    ·obtain⟨M,H,y,⟨_,_,G,_⟩,_⟩:=v;rw[G] at y;cases y
   ·exact⟨u,rfl⟩
  obtain⟨L,I,j,o,e,r,_⟩:=B 0 u z;injection e with e;injection e with e _;subst e;exact⟨j,o,r⟩
 obtain⟨j,o,r⟩:=F;rw[k a j o r,<-r];exact s
def qb(h:IL m (.slice E a b) (ints j)){k:Nat}(f:k<j)(e:Kept aS m n):∃g o,E=some ⟨g,o,none⟩/\n.cell? ⟨g,o+k,none⟩=some (.int .i64 (j[k]:Nat)):=by obtain⟨g,o,q,r,p⟩:=gX (gm cK h fun t d=>by simp only[aJ,bL,or_false] at d;subst d;exact e) (i:=k) (by unfold ints;rw[bW];exact f);refine⟨g,o,q,?_⟩;rw[p];unfold ints;rw[vD]
def q87.k90(h:aq:=by
 go_enter func187,ntmps187;go_upto_region 1 with fail
 go_quiet (fail);go_wp2;exact bodyPost_ret (v:= .slice B l d) (by simp [results,results187,go_sem]) rfl ⟨B,d,rfl,HB,_,rfl⟩):=h
def ajL(n:TypeId)(g:List Value)(f t r o:Nat)(x:aP)(T:List (List Rw))(b:Nat->aD)(p:Nat->Bool)(i s u:List (List Nat))(j l:List Nat)(k a w:au)(h:en 13 14 n g k w f t r o x T b p)(hp:Pb a g x.ai.length i s u j)(Jw:Kept cI a w)(hl:i[x.ai.length]? =some l)(y:x.ai.length<=12):
 Calls prog 187 #[.pointer (some ⟨f,0,none⟩)] w fun e m=>∃A c,e= .returned (.slice A l c)/\ah (IL a (.slice A l c) (ints l))/\∃q,m=w.drewN q:=by
 open q87 in exact m90
def q88.k90(h:aq:=by
 go_enter func194,ntmps194;go_upto_region 1 with fail
 go_quiet (fail);go_wp2;exact bodyPost_ret (v:= .slice B l d) (by simp [results,results194,go_sem]) rfl ⟨B,d,rfl,HB,_,rfl⟩):=h
def ajw(n:TypeId)(g:List Value)(f t r o:Nat)(x:aP)(T:List (List Rw))(b:Nat->aD)(p:Nat->Bool)(i s u:List (List Nat))(j l:List Nat)(k a w:au)(h:en 19 20 n g k w f t r o x T b p)(hp:Pb a g x.ai.length i s u j)(Jw:Kept cI a w)(hl:i[x.ai.length]? =some l)(y:x.ai.length<=12):
 Calls prog 194 #[.pointer (some ⟨f,0,none⟩)] w fun e m=>∃A c,e= .returned (.slice A l c)/\ah (IL a (.slice A l c) (ints l))/\∃q,m=w.drewN q:=by
 open q88 in exact m90
def nV.adj{n:Nat}{adj b:Nat->Nat->Prop}{c:VS}(h:nV adj n c O y)(j:∀x a,c x=true->c a=true->b x a->x≠a->adj x a):nV b n c O y:=
 ⟨h.ch,fun x a i g f e=>h.way x a i g (j x a i g f e) e⟩
def q89.k65(h:aq:=by
 refine⟨d,r,QJ r w n none [] hu hk (fun a h=> ?_),NX,Vn,fun h=> ?_,?_⟩
 ·rcases h with h|⟨b,h,_⟩<;>cases h
 ·exact afa
 ·refine QP (fun v=>x7 x8 c) (fun v j h f e=> ?_) (yx n none) NX;have i:=beq_iff_eq.1 (fp.1 f).2;have g:=beq_iff_eq.1 (fp.1 e).2;exact i.symm.trans g):=h
def ahD{n:Nat}{at_:Nat->List Nat}{hl:List Nat}(c:hl.Nodup)(hne:∀t∈hl,at_ t≠ [])(hlt:∀t∈hl,∀a∈at_ t,a<n){q:Nat->Option Nat}(hpl:nV (ze at_ hl) n (iK n) none q):
 ∃d,cX n q d/\Whole n at_ hl (d_ n q (fun v=>hl.filter fun t=>eJ d (at_ t) ((at_ t).headD 0)==v) n none):=by
 open q89 in exact m65
def lN{x:aP}:a∈bM x↔a<x.ay.length:=by unfold bM;exact dB
def uo{x:aP}(f:a<x.ay)(g:∀c∈x.ay[a].2,(0:Int)<=c):b∈bh x a↔(b:Int)∈x.ay[a].2:=by
 rw[sY f];unfold b9;rw[dU];constructor
 ·rintro⟨c,i,e⟩;have:=g c i;rwa[show(b:Int)=c by omega]
 ·exact fun h=>⟨_,h,by simp⟩
def aiX{x:aP}(k:bR x)(g:∀a,a<x.ai.length->a∈i):
 ∃d,cX x.ai (mA x i) d/\Whole x.ai (bh x) (bM x) (d_ x.ai (mA x i) (fun v=>(bM x).filter fun t=>eJ d (bh x t) ((bh x t).headD 0)==v) x.ai none):=by
 have s:=yG k.ri;have w:∀a b,eZ (gF x.ai x.ay) a b->eZ (gF x.ai x.ay) b a:=fun a b h=>by obtain⟨r,j,l,C,B⟩:=(s.bit a b).1 h;exact(s.bit b a).2 ⟨r,j,C,l,B.symm⟩
 obtain⟨_,m⟩:=L9 w g (x.ai.length+1) (iK x.ai) none (fun _=>some 0) (fun y u=>of_decide_eq_true u) (by rw[EB];omega);have f:∀{t:Nat} (c:t<x.ay),∀b∈x.ay[t].2,(0:Int)<=b:=fun c b z=>(k.ri _ (a_ c) b z).1;refine ahD (qQ) (fun t c=> ?_) (fun t c a A=> ?_) (m.adj fun a b _ _ q o=> ?_)
 ·have c:=lN.1 c;rw[sY c];intro e;have j:=k.rn _ (a_ c);unfold b9 at e;exact j (List.map_eq_nil_iff.1 e)
 ·have c:=lN.1 c;have j:=(uo c (f c)).1 A;have l:=(k.ri _ (a_ c) _ j).2;omega
 ·obtain⟨t,c,j,l⟩:=q;have c:=lN.1 c;exact(s.bit a b).2 ⟨_,a_ c,(uo c (f c)).1 j,(uo c (f c)).1 l,o.symm⟩
def alf{x:aP}{d:Nat->Nat}{v:Nat}(b:v<x.ai):(Ca x.ai d x.ay)[v]? =some ((bM x).filter fun t=>eJ d (bh x t) ((bh x t).headD 0)==v):=by
 unfold Ca;rw[Ij b];refine congrArg some (D_ fun t a=> ?_);have a:=lN.1 a;have e:x.ay.getD t ([],[])=x.ay[t]:=by rw[fh,aX a];rfl
 rw[e,sY a];rfl
def am3{n v:Nat}{p:Nat->Option Nat}(a:v<n):(m_ n p)[v]? =some (kids n p (some v)):=by
 unfold m_;rw[dL,lG Om];show some (kids n p (ow n v))=_
 unfold ow;rw[if_neg Om]
def ajj{n:Nat}{p:Nat->Option Nat}:(m_ n p)[n]? =some (kids n p none):=by
 unfold m_;rw[dL,lG Om];show some (kids n p (ow n n))=_
 unfold ow;rw[if_pos rfl]
def am4{g:List Nat}{v:Nat}{p:Nat->Option Nat}(a:v<g):(yZ g p)[v]? =some (n_ g p g v):=by unfold yZ;rw[dL,lG a];rfl
def Fo.Ok.Tu{at_:Nat->List Nat}{hl:List Nat}:∀{f:Fo} {S:List Nat},f.Ok at_ hl S->∀h∈f.homes,∃u∈f.vars,u∈at_ h
 | .nil,_,_,h,a=>by cases a
 | .cons v k b n,S,⟨j,_,i,g⟩,h,a=>by
   simp only[Fo.homes,bV] at a;simp only[Fo.vars,aJ,bV];rcases a with a|a|a
   ·exact⟨v,.inl rfl,(j h a).1⟩
   ·obtain⟨u,e,c⟩:=i.Tu h a;exact⟨u,.inr (.inl e),c⟩
   ·obtain⟨u,e,c⟩:=g.Tu h a;exact⟨u,.inr (.inr e),c⟩
section
variable{n:Nat}{p:Nat->Option Nat}{d:Nat->Nat}{homes:Nat->List Nat}{at_:Nat->List Nat}{hl S:List Nat}{v:Nat}
theorem Rg(r:cX n p d)(b:(eH n p homes v).Ok at_ hl S):∀c∈kids n p (some v),(eH n p homes c).Ok at_ hl (v::S):=by obtain⟨_,_,a,_⟩:=b;have h:ji n p homes v=dZ homes (ji n p homes) (kids n p (some v)):=sS r Om;rw[h] at a;exact Ry a
theorem ZT(r:cX n p d)(a:(d_ n p homes n none).Ok at_ hl []):∀c∈kids n p none,(eH n p homes c).Ok at_ hl []:=by have h:d_ n p homes n none=dZ homes (ji n p homes) (kids n p none):=sS r (Lt _ _);rw[h] at a;exact Ry a
end
def alX{α:Type}{R:SR α}{U:List aM}{g:Nat->aM->α}{W:Nat->(Nat->aM)->α}{x:aP}(o:bR x){p:Nat->Option Nat}{d:Nat->Nat}{homes:Nat->List Nat}{S:List Nat}{v:Nat}(r:cX x.ai.length p d)(q:v<x.ai.length)
 (hW:∀h e l,(∀a∈bh x h,l a=e a)->W h l=W h e) (i:(eH x.ai.length p homes v).Ok (bh x) (bM x) S) (E:∀a∈S,dw p (some a) v) (j:∀h∈(eH x.ai.length p homes v).homes,h<x.ay.length) {e l:Nat->aM}
 (F:∀a∈n_ x.ai.length p (gF x.ai.length x.ay) v,l a=e a):
 (eH x.ai.length p homes v).val R U g W l=(eH x.ai.length p homes v).val R U g W e:=by
 have f:∀{t:Nat} (c:t<x.ay.length),∀b∈x.ay[t].2,(0:Int)<=b:=fun c b G=>(o.ri _ (a_ c) b G).1;have k:∀a∈(eH x.ai.length p homes v).vars,a∉S:=fun a z m=>by
  have B:=(E a m).lQ r a rfl q;rcases(L1 r q).1 z with rfl|⟨A,H⟩
  ·omega
  ·have I:=H.lQ r v rfl A;omega
 refine Fo.anU hW i (LS r q) k (fun h D a z m=> ?_) F;obtain⟨u,C,s⟩:=i.Tu h D;have c:=j h D;have B:=(uo c (f c)).1 z;have A:=(uo c (f c)).1 s;have w:u≠a:=fun e=>k u C (e▸m);have y:a<x.ai.length:=by have:=(o.ri _ (a_ c) _ B).2;omega
 unfold n_;refine fp.2 ⟨dB.2 y,?_⟩;rw[cZ,qZ];refine⟨?_,E a m⟩;unfold pB;rw[<-anX v];refine o9.2 ⟨u,C,?_⟩;exact((yG o.ri).bit u a).2 ⟨_,a_ c,A,B,w.symm⟩
def aed{S:List Nat}{b:Nat->aM}:∀{l:List Nat} {r:List aM},qB S b l r=dV (fun a=>S.contains a) b l r
 | [],_=>by unfold qB dV;rfl
 |_::_,[]=>by unfold qB dV;rfl
 |a::l,x::r=>by
  unfold qB dV;rw[aed];congr 2;show decide (b a=x)=_
  rw[lI,decide_eq_true_eq,beq_iff_eq]
section
variable{n:Nat}{p:Nat->Option Nat}{d:Nat->Nat}{homes:Nat->List Nat}{at_:Nat->List Nat}{hl:List Nat}{tab:jZ}{fx:Nat->Option aM}{α:Type}{R:SR α}{g:Nat->aM->α}{U:List aM}
noncomputable def y5(at_:Nat->List Nat)(tab:jZ)(hl:List Nat)(fx:Nat->Option aM)(p:Nat->Option Nat)(v:Nat)(a:Nat->aM):List aM:=gZ at_ tab hl fx (bE p v) a v
theorem Ml(r:cX n p d)(I:a<n)(F:yV at_ tab hl)(L:∀a x,cL fx a x=false->g a x=R.zero)(M:∀h∈hl,∀y∈tab h,∀t∈y.1,t∈U)(o:f6 at_ hl a≠ [])(N:∀b,b∈i↔bE p a b=true)(c:Nat->aM):
 (y5 at_ tab hl fx p a c).Nodup/\(∀x∈y5 at_ tab hl fx p a c,x∈U)/\∀x∈U,x∉y5 at_ tab hl fx p a c->g a x=R.zero\/∃h∈hl,a∈at_ h/\∀y∈tab h,qB (a::i) (put c a x) (at_ h) y.1=false:=by
 have z:bE p a a=false:=by
  cases h:bE p a a with
  |false=>rfl
  |true=>have:=(qZ.1 h).lQ r a rfl I;omega
 have G:∀x,x∈y5 at_ tab hl fx p a c↔cL fx a x=true/\∀h∈f6 at_ hl a,rD (cQ (bE p a) a) (put c a x) (at_ h) (tab h)=true:=fun x=>Mm F z o;have A:(fun b=>(a::i).contains b)=cQ (bE p a) a:=by
  funext b
  unfold cQ;rw[lI,nN,aJ,kE,beq_iff_eq,N]
 refine⟨Rx aby,fun x w=> ?_,fun x _ w=> ?_⟩
 ·obtain⟨_,E⟩:=(G x).1 w;rcases B:f6 at_ hl a with _|⟨j,l⟩
  ·exact absurd B o
  ·obtain⟨f,k⟩:=yB.1 (show j∈f6 at_ hl a by rw[B];simp);obtain⟨y,s,e⟩:=o9.1 (E j (by rw[B];simp));have K:=adc k;have J:=PO k;have H:=F.len j f y s;have u:y.1[(at_ j).idxOf a]? =some (y.1[(at_ j).idxOf a]'Om):=aX Om;have q:=vU.1 e _ _ _ K u (by simp [cQ]);unfold put at q;rw[if_pos rfl] at q;rw[q];exact M j f y s _ (a_ _)
 ·by_cases m:cL fx a x=true
  ·refine .inr ?_;have O:∃h∈f6 at_ hl a,rD (cQ (bE p a) a) (put c a x) (at_ h) (tab h)≠true:=PP fun C=>w ((G x).2 ⟨m,fun h f=>PP fun D=>C ⟨h,f,D⟩⟩);obtain⟨h,f,D⟩:=O;obtain⟨E,q⟩:=yB.1 f;refine⟨h,E,q,fun y s=> ?_⟩;rw[aed,A];cases e:dV (cQ (bE p a) a) (put c a x) (at_ h) y.1 with
   |false=>rfl
   |true=>exact absurd (o9.2 ⟨y,s,e⟩) D
  ·exact .inl (L a x (by simpa using m))
theorem ZF{f:Nat->Fo}{a:Nat->(Nat->aM)->List aM}{S:List Nat}:∀{l:List Nat},(∀c∈l,(Fo.cons c (homes c) (f c) .nil).E0 at_ hl tab a g U R S)->(dZ homes f l).E0 at_ hl tab a g U R S
 | [],_=>trivial
 |c::l,h=>by obtain⟨j,i,_⟩:=h c Ou;exact⟨j,i,ZF fun b e=>h b aw3⟩
theorem ZM(r:cX n p d)(j:yV at_ tab hl)(l:∀v x,cL fx v x=false->g v x=R.zero)(m:∀h∈hl,∀y∈tab h,∀t∈y.1,t∈U)(e:∀v,v<n->f6 at_ hl v≠ []):
 ∀(k:Nat) (u:Option Nat) (S:List Nat),(∀c,c<n->p c=u->∀a,a∈S↔bE p c a=true)->(d_ n p homes k u).E0 at_ hl tab (y5 at_ tab hl fx p) g U R S
 |0,_,_,_=>trivial
 |k+1,u,S,o=>by refine ZF fun c s=> ?_;obtain⟨f,q⟩:=gU.1 s;refine⟨Ml r f j l m (e c f) (o c f q),?_,trivial⟩;refine ZM r j l m e k (some c) (c::S) fun b w i a=> ?_;rw[aJ,o c f q a,yM i,kE];unfold VS.one;rw[beq_iff_eq];exact Or.comm
theorem aae{β:Type}{c:Nat->(Nat->β)->List β}{g:Nat->β->α}{W:Nat->(Nat->β)->α}{f:Nat->Fo}:∀(l:List Nat) (b:Nat->β),(dZ homes f l).wP R c g W b=R.prod l fun a=>(Fo.cons a (homes a) (f a) .nil).wP R c g W b
 | [],_=>rfl
 |a::l,b=>by
  show R.mul _ ((dZ homes f l).wP R c g W b)=R.mul (R.mul _ R.one) (R.prod l _)
  rw[SR.zh,aae l b]
theorem aj2(r:cX n p d){β:Type}{a:Nat->(Nat->β)->List β}{g:Nat->β->α}{W:Nat->(Nat->β)->α}(v:Nat)(b:Nat->β):
 (eH n p homes v).wP R a g W b=R.sum (a v b) fun x=>R.mul (R.mul (g v x) (R.prod (homes v) fun h=>W h (put b v x))) (R.prod (kids n p (some v)) fun c=>(eH n p homes c).wP R a g W (put b v x)):=by
 show R.mul (R.sum _ _) R.one=_
 rw[SR.zh];refine vJ fun x _=> ?_;have h:ji n p homes v=dZ homes (ji n p homes) (kids n p (some v)):=sS r Om;rw[h,aae];rfl
theorem aaI{s:Int->α}(r:cX n p d)(z:yV at_ tab hl)(A:∀a x,cL fx a x=false->g a x=R.zero)(q:U.Nodup)(C:∀h∈hl,∀y∈tab h,∀t∈y.1,t∈U)(o:∀a,a<n->f6 at_ hl a≠ [])
 (l:a<n) (k:(eH n p homes a).Ok at_ hl i) (m:∀e,e∈i↔bE p a e=true) (j:Nat->aM):
 (eH n p homes a).val R U g (fC R at_ tab s) j=R.sum (y5 at_ tab hl fx p a j) fun x=>R.mul (R.mul (g a x) (R.prod (homes a) fun h=>fC R at_ tab s h (put j a x))) (R.prod (kids n p (some a)) fun c=>(eH n p homes c).val R U g (fC R at_ tab s) (put j a x)):=by
 have f:∀(a:Nat) (i:List Nat),a<n->(eH n p homes a).Ok at_ hl i->(∀e,e∈i↔bE p a e=true)->(eH n p homes a).Right U (y5 at_ tab hl fx p) g (fC R at_ tab s) R:=fun a i l k m=>by
  refine k.right (LS r l) (fun e F E=> ?_) ⟨Ml r l z A C (o a l) m,?_,trivial⟩
  ·have D:=(qZ.1 ((m e).1 E)).lQ r e rfl l;rcases(L1 r l).1 F with rfl|⟨w,G⟩
   ·omega
   ·have I:=G.lQ r a rfl w;omega
  ·refine ZM r z A C o n (some a) (a::i) fun b H u e=> ?_;rw[aJ,m e,yM u,kE];unfold VS.one;rw[beq_iff_eq];exact Or.comm
 rw[<-Hu q _ j (f a i l k m),aj2 r a j];refine vJ fun x _=> ?_;congr 1;refine yo fun c B=> ?_;obtain⟨D,w⟩:=gU.1 B;refine Hu q _ _ (f c (a::i) D (Rg r k c B) fun e=> ?_);rw[aJ,m e,yM w,kE];unfold VS.one;rw[beq_iff_eq];exact Or.comm
end
def q90.afv(h:aq:=by
 clear hall HU bs;generalize wr=w3 at*;go_upto_region 43 with fail
 go_loopw [14,158] (fun _ V wr=>∃j:Nat,j<=N/\V= .int .i64 j/\ah (Ext w3 wr)) (fun _ V _=>N - (RowKit.intOf V).toNat)
 exact⟨0,aV _,rfl,aB _⟩;obtain⟨j,hj,rfl,C⟩:=hrel;by_cases VM:j<N
 ·have Di:=(BU.ext C).cell (i:=j) (u:= .bool true) (by rw[Ae,if_pos VM]);go_wp2_with fail;go_roundw;exact⟨j+1,by omega,by go_num,C⟩;simp [RowKit.intOf];omega
 ·obtain rfl:N=j:=Om;have dD:=af (s.trans C);clear BU s C;generalize wr=w4 at*;have oU:=af (kZ.ext dD);obtain⟨s0,s1,s2,s3⟩:=oU.four;go_upto_region 49 with fail
  clear s0 s1 s2 s3;go_loopw [15,16,17,18,19,168] (fun _ _ _ _ _ U wr=>∃i:Nat,i<=M/\U= .int .i64 i/\ah (Ext w4 wr)) (fun _ _ _ _ _ U _=>M - (RowKit.intOf U).toNat);exact⟨0,aV _,rfl,aB _⟩;obtain⟨i,hi,rfl,j7⟩:=hrel;by_cases Dc:i<M
  ·have n:i<x.bf.length:=by rw[HM.ae];exact Dc
   have O:=af (J.trans (dD.trans j7));obtain⟨g,o,rfl,Q,b,m,gz⟩:=xT.get HF n;have HP:ah (∀w',Ext w w'->∀k (E:k<x.bf.length),aA w' g (o+k*3) (.int .i64 x.bf[k].1)):=fun w' hx k E=>by obtain⟨g',o',F,oF,h',_⟩:=xT.get HF E;injection F with F;injection F with e1 e2;subst e1 e2;exact(hx.cell (p:=aC g (o+k*3)) Q).trans h'
   have b:=(O.cell (p:=aC g (o+i*3)) Q).trans b;have m:=(O.cell (p:=aC g (o+i*3+1)) Q).trans m;have gz:=(O.cell (p:=aC g (o+i*3+2)) Q).trans gz;have f:=a_ n;have Df:=aN.fo _ f;have lZ:=aN.fl _ f;rw[Xu.ae] at lZ;have xM:ah (∀k (E:k<i),((x.bf[k]'Om).1==x.bf[i].1)=false):=fun k E=>by rw[beq_eq_false_iff_ne];exact pT.1 aN.fd k i Om n E
   clear f;generalize x.bf[i]=fe at*;obtain⟨fa,fk,fm⟩:=fe;simp only at b m gz lZ xM;obtain⟨ku,y,hy,Df⟩:=Df;simp only at ku hy Df;obtain⟨q,rfl⟩:=Int.eq_ofNat_of_zero_le ku;rw[kg] at hy;obtain⟨H,hye⟩:=t_.1 hy;obtain⟨ga,oa,rfl,OH, -,nx⟩:=pz HA H;rw[hye] at nx;have H:q<N:=by rw[<-HN.ae];exact H
   have hlq:((q:Int)==t)=false:=by rw[beq_eq_false_iff_ne];exact lZ
   have Z:decide ((q:Int)<0)=false:=aY;have hqd:decide (N<=q)=false:=aY;clear hy hye lZ ku;generalize wr=wo at*;go_upto_region 51 with fail
   refine aT fun w6 dG BA=> ?_;have j7:=af (j7.trans dG);have zW:=af (O.trans dG);have qK:=af (oU.ext j7);obtain⟨s0,s1,s2,s3⟩:=qK.four;have q0:=BA.aF 0;have q1:=BA.aF 1;have q2:=BA.aF 2;have nx:=(zW.cell (p:=aC ga (oa+q*2+1)) OH).trans nx;clear b m gz O dG;rcases Df with⟨rfl,Fz,rfl|rfl⟩|⟨rfl,Fz,rfl⟩
   ·rw[Fz] at nx;exact m5
   ·rw[Fz] at nx;exact m5
   ·rw[Fz] at nx;exact m5
  ·obtain rfl:M=i:=Om;have eE:=af (J.trans (dD.trans j7));have BX9:=af (oU.ext j7);obtain⟨s0,s1,s2,s3⟩:=BX9.four;have l1:decide (t< -1)=false:=aY;by_cases hl0:0<=t
   ·obtain⟨a,ha,E⟩:=aN.lk (by rw[Xu.ae];exact hl0);rw[Xu.ae] at ha;obtain⟨q,rfl⟩:∃q:Nat,t=(q:Int):=⟨t.toNat,by omega⟩;rw[kg] at ha;obtain⟨H,hqe⟩:=t_.1 ha;obtain⟨g,o,rfl, -, -,hp⟩:=pz (bU mq HA eE) H;rw[hqe,E] at hp;have arU:q<N:=by rw[<-HN.ae];exact H
    have l2:decide ((q:Int)≥(N:Int))=false:=aY;have l2':decide (N<=q)=false:=aY;have l3:decide ((q:Int)≥0)=true:=fU;clear ha hqe hl0;go_wp2;go_ret;exact⟨rfl,eE⟩
   ·have l2:decide (t≥(N:Int))=false:=aY;have l2':decide ((N:Int)<=t)=false:=aY;have l3:decide (t≥0)=false:=aY;have l3':decide (0<=t)=false:=aY;go_wp2;go_ret;exact⟨rfl,eE⟩):=h
def aiQ(v:Value)(x:aP)(w:au)(h:dN w v x)(ok:bR x):
 Calls prog 107 #[v] w fun e w'=>e= .returned (.int .i64 0)/\Ext w w':=by
 have aN:=af ok;obtain⟨A,c,B,d,D,e,rfl,ha,hr,hf⟩:=h;obtain⟨-,j5,Gd⟩:=bD ha;obtain⟨-,iN,j4⟩:=bD hr;obtain⟨-,he1,he2⟩:=bD hf;have HA:=af ha;have HR:=af hr;have HF:=af hf;have a1:=ok.a1;have a12:=ok.a12;have r1:=ok.r1;have r6:=ok.r6;have f8:=ok.f8;have lb:=ok.lb;clear ha hr hf ok;obtain⟨t,T9⟩:∃t,x.label=t:=⟨_,rfl⟩;have Xu:=af T9;rw[T9] at lb⊢;clear T9;obtain⟨N,hN⟩:∃N,x.ai.length=N:=⟨_,rfl⟩;have HN:=af hN;rw[hN] at HA a1 a12 lb j5⊢;clear hN;obtain⟨R,hR⟩:∃R,x.ay.length=R:=⟨_,rfl⟩;have jN:=af hR;rw[hR] at HR r1 r6 iN⊢;clear hR;obtain⟨M,hM⟩:∃M,x.bf.length=M:=⟨_,rfl⟩;have HM:=af hM;rw[hM] at HF f8 he1⊢;clear hM;have d1:decide ((N:Int)>12)=false:=aY;have d2:decide ((R:Int)>6)=false:=aY;have d3:decide ((M:Int)>8)=false:=aY;have b1:((N:Int)==0)=false:=avM;have b2:((R:Int)==0)=false:=avM;go_enter func107,ntmps107;go_upto_region 1 with fail
 refine aT fun W HX BX=> ?_;obtain⟨s0,s1,s2,s3⟩:=BX.four;go_upto_region 4 with fail
 clear s0 s1 s2 s3 d1 d2 d3 b1 b2;go_loopw [3,4,5,51] (fun _ _ _ v51 wr=>∃i:Nat,i<=N/\v51= .int .i64 i/\ah (Ext W wr)) (fun _ _ _ v51 _=>N - (RowKit.intOf v51).toNat);exact⟨0,aV _,rfl,aB _⟩;obtain⟨i,hi,rfl,s⟩:=hrel;by_cases VQ:i<N
 ·have n:i<x.ai.length:=by rw[HN.ae];exact VQ
  have O:=af (HX.trans s);obtain⟨g,o,rfl,Q,b,m⟩:=pz HA n;have HP:ah (∀w',Ext w w'->∀k (E:k<x.ai.length),aA w' g (o+k*2) (.string ⟨x.ai[k].1.toArray⟩)):=fun w' hx k E=>by obtain⟨g',o',F,oF,h',_⟩:=pz HA E;injection F with F;injection F with e1 e2;subst e1 e2;exact(hx.cell (p:=aC g (o+k*2)) Q).trans h'
  have b:=(O.cell (p:=aC g (o+i*2)) Q).trans b;have m:=(O.cell (p:=aC g (o+i*2+1)) Q).trans m;have WR:=af (fun w'=>aaQ x.ai[i].1 w' (aN.aw _ (a_ n)));have E:=aN.ak _ (a_ n);have xM:ah (∀k (E:k<i),((x.ai[k]'Om).1==x.ai[i].1)=false):=fun k E=>by rw[beq_eq_false_iff_ne];intro h;exact pT.1 aN.ad k i Om n E h
  obtain⟨sn,Y⟩:∃sn,x.ai[i].1=sn:=⟨_,rfl⟩;obtain⟨kd,Jz⟩:∃kd,x.ai[i].2=kd:=⟨_,rfl⟩;rw[Y] at b WR xM;rw[Jz] at m E;clear Y Jz;have k1:decide (kd<1)=false:=aY;have k3:decide (kd>3)=false:=aY;generalize wr=wo at*;go_upto_region 6 with fail
  refine aT fun W3 L BA=> ?_;have Z:=BA.aF 0;clear b m;go_wp2_with fail
  refine(WR _).mono ?_;rintro F w4 ⟨rfl,G⟩;have I:=af (s.trans (L.trans G));have P:=af (BA.ext G);clear Z L BA G O s;go_upto_region 9 with fail
  go_loopw [5] (fun v5 wr=>∃k:Nat,k<=i/\v5= .int .i64 k/\ah (Ext w4 wr)) (fun v5 _=>i - (RowKit.intOf v5).toNat)
  exact⟨0,aV _,rfl,aB _⟩;obtain⟨k,zv,rfl,ib⟩:=hrel;by_cases Jy:k<i
  ·have dR:k<x.ai.length:=Om;have hkN:k<N:=Om;have JM:=xM k Jy;have xD:=af (fun w' hx=>HP w' hx k dR);generalize x.ai[k].1=sk at*;clear dR;have D3:=af (BX.ext (I.trans ib));have oV:=af (P.ext ib);have DT:=af (HX.trans (I.trans ib));go_upto_region 11 with fail
   have bO:ah (∀w',Ext wr w'->aA w' w.heap.size 0 (aG g o N c)/\aA w' g (o+k*2) (.string ⟨sk.toArray⟩)/\aA w' wo.heap.size 0 (.string ⟨sn.toArray⟩)):=fun w' hx=>⟨(D3.ext hx).aF 0,xD.ae w' (DT.trans hx),(oV.ext hx).aF 0⟩;have aH:ah (Ext wr wr.drew):=(aB wr).drew;refine cD (S:=fun w'=>Ext wr w') (T:=fun _=>false) Ok ?_;refine ax 0 65 ?_;refine ax 1 66 ?_;refine ax 2 67 ?_;refine ax 3 68 ?_;refine ax 4 69 ?_;refine ax 5 70 ?_;refine ax 6 71 ?_;refine ax 7 72 ?_;refine ax 8 73 (v:= .bool false) ?_;refine b_ Ok ?_;have kV:=af (ib.trans aH);clear bO aH;exact NL
  ·obtain rfl:k=i:=Om;have oV:=af (P.ext ib);have K:=oV.aF 1;have kV:=af (I.trans ib);exact NL
 ·obtain rfl:N=i:=Om;generalize wr=w1 at*;have kZ:=af (BX.ext s);have J:=af (HX.trans s);clear BX HX s;obtain⟨s0,s1,s2,s3⟩:=kZ.four;have hgx:w.heap.size<w1.heap.size:=kZ.lt;have kR:=Hs N Om w1;go_upto_region 17 with fail
  refine aT fun W2 aZ BU=> ?_;clear kR s0 s1 s2 s3;have ke:=af (kZ.ext aZ);obtain⟨s0,s1,s2,s3⟩:=ke.four;have rX:ah (Us (List.replicate N false) N ([]:List Int)):=⟨by simp,fun a h=>by cases h⟩;have D4:ah (ar W2 w1.heap.size fH (pD (List.replicate N false))):=by rw[pD,x_];exact BU
  clear BU ke;go_upto_region 18 with fail
  clear s0 s1 s2 s3;go_loopw [7,8,9,11,12,90] (fun _ _ _ _ _ UU wr=>∃(i:Nat) (bs:List Bool),i<=R/\UU= .int .i64 i/\ah (Us bs N ((x.ay.take i).flatMap (·.2)))/\ah (ar wr w1.heap.size fH (pD bs))/\ah (Ext w1 wr)) (fun _ _ _ _ _ UU _=>R - (RowKit.intOf UU).toNat);exact⟨0,_,aV _,rfl,rX,D4,aZ⟩;clear rX D4 aZ;obtain⟨i,bs,hi,rfl,HU,BU,s⟩:=hrel;by_cases zw:i<R
  ·have n:i<x.ay.length:=aw4;have O:=af (J.trans s);obtain⟨g,o,Bi,mi,di,rfl,Q,b,m,jL⟩:=rp HR n;have HP:ah (∀w',Ext w w'->∀k (E:k<x.ay.length),aA w' g (o+k*2) (.string ⟨x.ay[k].1.toArray⟩)):=fun w' hx k E=>by obtain⟨g',o',B',m',d',F,oF,h',_,_⟩:=rp HR E;injection F with F;injection F with e1 e2;subst e1 e2;exact(hx.cell (p:=aC g (o+k*2)) Q).trans h'
   have b:=(O.cell (p:=aC g (o+i*2)) Q).trans b;have m:=(O.cell (p:=aC g (o+i*2+1)) Q).trans m;have dA:ah (∀w',Ext w w'->IL w' (.slice Bi mi di) x.ay[i].2):=fun w' hx=>kJ jL hx;have f:=a_ n;have WR:=af (fun w'=>aaQ x.ay[i].1 w' (aN.rw' _ f));have xM:ah (∀k (E:k<i),((x.ay[k]'Om).1==x.ay[i].1)=false):=fun k E=>by rw[beq_eq_false_iff_ne];intro h;exact pT.1 aN.rd k i Om n E h
   have hne:=aN.rn _ f;have ic:=af (aN.ri _ f);have nD:=af (aN.ra _ f);have DR:ah ((x.ay.take (i+1)).flatMap (·.2)=(x.ay.take i).flatMap (·.2)++x.ay[i].2):=(by rw[ah,ED n,D7,List.flatMap_singleton])
   rw[HN.ae] at ic;obtain⟨rQ,VE,hdm⟩:=bD jL;have jK:0<mi:=by rw[rQ];exact D6.2 hne
   have Ov:((mi:Int)==0)=false:=avM;have zR:=af rQ;clear jL f rQ hne;obtain⟨sn,Y⟩:∃sn,x.ay[i].1=sn:=⟨_,rfl⟩;obtain⟨l,agq⟩:∃l,x.ay[i].2=l:=⟨_,rfl⟩;rw[Y] at b WR xM;rw[agq] at dA ic nD DR zR;clear Y agq;generalize hLF:(x.ay.take i).flatMap (·.2)=lf at*;clear hLF;generalize wr=wo at*;have OG:w1.heap.size<wo.heap.size:=BU.lt;go_upto_region 20 with fail
   refine aT fun W3 L BA=> ?_;have Z:=BA.aF 0;clear b m;go_wp2_with fail
   refine(WR _).mono ?_;rintro F w4 ⟨rfl,G⟩;have I:=af (s.trans (L.trans G));have KX:=af (BU.ext (L.trans G));have P:=af (BA.ext G);clear Z L BA G O s BU;go_upto_region 23 with fail
   go_loopw [9] (fun v9 wr=>∃k:Nat,k<=i/\v9= .int .i64 k/\ah (Ext w4 wr)) (fun v9 _=>i - (RowKit.intOf v9).toNat)
   exact⟨0,aV _,rfl,aB _⟩;obtain⟨k,zv,rfl,ib⟩:=hrel;by_cases Jy:k<i
   ·have dR:k<x.ay.length:=Om;have OA:k<R:=Om;have JM:=xM k Jy;have xD:=af (fun w' hx=>HP w' hx k dR);generalize x.ay[k].1=sk at*;clear dR;have D3:=af (kZ.ext (I.trans ib));have oV:=af (P.ext ib);have DT:=af (J.trans (I.trans ib));go_upto_region 25 with fail
    have bO:ah (∀w',Ext wr w'->aA w' w.heap.size 1 (aG g o R d)/\aA w' g (o+k*2) (.string ⟨sk.toArray⟩)/\aA w' wo.heap.size 0 (.string ⟨sn.toArray⟩)):=fun w' hx=>⟨(D3.ext hx).aF 1,xD.ae w' (DT.trans hx),(oV.ext hx).aF 0⟩;have aH:ah (Ext wr wr.drew):=(aB wr).drew;refine cD (S:=fun w'=>Ext wr w') (T:=fun _=>false) Ok ?_;refine ax 0 104 ?_;refine ax 1 105 ?_;refine ax 2 106 ?_;refine ax 3 107 ?_;refine ax 4 108 ?_;refine ax 5 109 ?_;refine ax 6 110 ?_;refine ax 7 111 ?_;refine ax 8 112 (v:= .bool false) ?_;refine b_ Ok ?_;have kV:=af (ib.trans aH);clear bO aH;exact NL
   ·obtain rfl:i=k:=Om;have xY:=af (P.ext ib);have KW:=af (KX.ext ib);have HE5:=af (I.trans ib);clear P KX I ib WR xM HP;generalize wr=w5 at*;have K:=xY.aF 1;go_upto_region 30 with fail
    clear K;have pO:ah (Us bs N (lf++l.take 0)):=by rw[kF,i7];exact HU
    go_loopw [11,120] (fun _ X wr=>∃(j:Nat) (bs:List Bool),j<=mi/\X= .int .i64 j/\ah (Us bs N (lf++l.take j))/\ah (ar wr w1.heap.size fH (pD bs))/\ah (ar wr wo.heap.size tk [.string ⟨sn.toArray⟩,.slice Bi mi di])/\ah (Ext w1 wr)) (fun _ X _=>mi - (RowKit.intOf X).toNat)
    exact⟨0,bs,aV _,rfl,pO,KW,xY,HE5⟩;clear pO KW HU bs xY HE5;obtain⟨j,bs,hj,rfl,HU,BU,BA,C⟩:=hrel;by_cases VK:j<mi
    ·have dI:j<l.length:=by rw[<-zR.ae];exact VK
     obtain⟨gi,oi,rfl,_,zy⟩:=gX (dA _ (J.trans C)) dI;have oB:=ic _ (a_ dI);have WW:=af (ED dI);generalize l[j]=y at*;clear dI;obtain⟨q,rfl⟩:∃q:Nat,y=(q:Int):=⟨y.toNat,by omega⟩;have H:q<N:=Om;have Z:decide ((q:Int)<0)=false:=aY;have hqd:decide (N<=q)=false:=aY;have auT:decide ((q:Int)≥(N:Int))=false:=aY;have hfz:=BU.frozen q;have wV:∃u,wr.cell? (aC w1.heap.size q)=some u:=(by exact aeA)
     obtain⟨uq,wV⟩:=wV;obtain⟨W7,iC,B7,K7,N7⟩:=gG (i:=q) BU (.bool true);rw[acK] at B7;have Kb:=af (HU.set H);rw[ie,<-WW.ae] at Kb;have Yx:=af (BA.only N7 Om);have gK:=af (C.only N7 (aK _));clear oB K7 N7 BA C BU;go_wp2_with fail
     go_roundw;exact⟨j+1,_,by omega,by go_num,Kb,B7,Yx,gK⟩;simp [RowKit.intOf];omega
    ·obtain rfl:j=mi:=Om;rw[dz (by rw[<-zR.ae];exact aK _),<-DR.ae] at HU;generalize wr=w6 at*;have K:=BA.aF 1;go_upto_region 37 with fail
     clear K;go_loopw [12] (fun v12 wr=>∃k:Nat,1<=k/\k<=j/\v12= .int .i64 k/\ah (Ext w6 wr)) (fun v12 _=>j - (RowKit.intOf v12).toNat);exact⟨1,aK _,jK,rfl,aB _⟩;obtain⟨k,kS,hkj,rfl,ib⟩:=hrel;have oV:=af (BA.ext ib);have K:=oV.aF 1;by_cases FR:k<j
     ·obtain⟨z,hz⟩:∃z,k=z+1:=⟨k - 1,by omega⟩;have hz1:k<l.length:=by rw[<-zR.ae];exact FR
      have hz0:z<l.length:=Om;have hlt:l[z]<l[k]:=pT.1 nD z k hz0 hz1 Om;obtain⟨gi,oi,rfl, -, -⟩:=gX (dA _ (J.trans C)) hz1;have qI:ah (∀w',Ext w w'->aA w' gi (oi+k) (.int .i64 l[k])/\aA w' gi (oi+z) (.int .i64 l[z])):=fun w' hx=>by
       refine⟨?_,?_⟩
       ·obtain⟨g',o',F,_,h⟩:=gX (dA _ hx) hz1;injection F with F;injection F with e1 e2;subst e1 e2;exact h
       ·obtain⟨g',o',F,_,h⟩:=gX (dA _ hx) hz0;injection F with F;injection F with e1 e2;subst e1 e2;exact h
      have DT:=af (J.trans (C.trans ib));generalize l[k]=y1 at*;generalize l[z]=y0 at*;clear hz0 hz1;have hwz:IntKind.i64.wrap ((k:Int) - 1)=(z:Int):=awe;have NT:z<j:=Om;clear hz;go_upto_region 39 with fail
      clear K;have bO:ah (∀w',Ext wr w'->aA w' wo.heap.size 1 (aG gi oi j di)/\aA w' gi (oi+k) (.int .i64 y1)/\aA w' gi (oi+z) (.int .i64 y0)):=fun w' hx=>⟨(oV.ext hx).aF 1,qI.ae w' (DT.trans hx)⟩;have aH:ah (Ext wr wr.drew):=(aB wr).drew;refine cD (S:=fun w'=>Ext wr w') (T:=fun _=>false) Ok ?_;refine ax 0 143 ?_;refine ax 1 144 ?_;refine ax 2 145 ?_;refine ax 3 146 ?_;refine ax 4 147 ?_;refine ax 5 148 ?_;refine ax 6 149 ?_;refine ax 7 150 ?_;refine ax 8 151 (v:= .int .i64 z) ?_;refine ax 9 152 ?_;refine ax 10 153 ?_;refine ax 11 154 (v:= .bool false) ?_;refine b_ Ok ?_;have kV:=af (ib.trans aH);clear bO aH qI;go_wp2_with fail
      go_roundw;exact⟨k+1,by omega,by omega,by go_num,kV⟩;simp [RowKit.intOf];omega
     ·have Jz:decide (k<j)=false:=decide_eq_false FR;have Yp:=af (BU.ext ib);have gK:=af (C.trans ib);go_wp2_with fail
      go_roundw;exact⟨i+1,bs,by omega,by go_num,HU,Yp,gK⟩;simp [RowKit.intOf];omega
  ·obtain rfl:R=i:=Om;open q90 in exact ae1
def ahw{c b:List aD}(f:a<c)(e:a<b)(h:c.take a=b.take a)(d:c[a]=b[a]):c.take (a+1)=b.take (a+1):=by rw[ya,ya,h,aX f,aX e,d]
def QW(H G:aR)(A F z E:Nat)(a b:List aD)(w:au)(t:TL w (.slice H A F) a)(s:TL w (.slice G z E) b):
 Calls prog 34 #[.slice H A F,.slice G z E] w fun e I=>e= .returned (.bool (a==b))/\∃n,I=w.drewN n:=by
 obtain⟨R,P,K⟩:=bD t;obtain⟨Q,O,J⟩:=bD s;subst R Q;have U:=af t;have T:=af s;clear t s;by_cases j:a.length=b
 ·have S:=af j;have p:((a.length:Int) !=(b.length:Int))=false:=by simp [j]
  have M:a<=b.length:=Om;have L:b<=a.length:=Om;clear j;go_enter func34,ntmps34;go_wp2;go_loopw [13] (fun v wr=>∃i:Nat,i<=a/\v= .int .i64 i/\ah (a.take i=b.take i)/\∃q,wr=w.drewN q) (fun v _=>a - (RowKit.intOf v).toNat)
  exact⟨0,aV _,rfl,rfl,0,rfl⟩;obtain⟨i,N,rfl,m,q,rfl⟩:=hrel;by_cases D:i<a
  ·have C:i<b.length:=Om;obtain⟨g,o,rfl,_,r⟩:=s6 U D;obtain⟨W,V,rfl,_,l⟩:=s6 T C;have d:=af (fun h=>ahw D C m h);have f:ah (a[i]≠b[i]->(a==b)=false):=fun h=>by rw[beq_eq_false_iff_ne];intro e;subst e;exact h rfl
   generalize a[i]=x at*;generalize b[i]=y at*;by_cases c:(x==y)=true
   ·have u:=af (d (beq_iff_eq.1 c));clear d f m;go_wp2;go_quiet (fail);go_wp2;go_roundw;exact⟨i+1,by omega,by go_num,u,_,rfl⟩;simp [RowKit.intOf];omega
   ·have B:(x==y)=false:=avT;have k:=af (f avT);clear c d f m;go_wp2;go_quiet (fail);go_wp2;go_ret;exact⟨by rw[k.ae];rfl,IR _ _ _⟩
  ·obtain rfl:i=a.length:=Om;have k:ah ((a==b)=true):=(by have h:=m.ae;rw[fj,S.ae,fj] at h;exact beq_iff_eq.2 h)
   have d1:decide (a<a)=false:=Ou;go_wp2;go_ret;exact⟨by rw[k.ae];rfl,_,rfl⟩
 ·have p:((a.length:Int) !=(b.length:Int))=true:=Oc;have k:ah ((a==b)=false):=(by rw[ah,beq_eq_false_iff_ne];intro e;exact j (by rw[e]))
  clear j;go_enter func34,ntmps34;go_wp2;go_ret;exact⟨by rw[k.ae];rfl,0,rfl⟩
def R6(A:aR)(n c:Nat)(l:List Int)(z:Int)(w:au)(h:IL w (.slice A n c) l):
 Calls prog 108 #[.slice A n c,.int .i64 z] w fun e u=>e= .returned (.bool (l.contains z))/\∃n,u=w.drewN n:=by
 obtain⟨x,v,B⟩:=bD h;subst x;have C:=af h;have p:ah (z∉l.take 0):=by simp [ah]
 clear h;go_enter func108,ntmps108;go_wp2_with fail;go_loopw [6,9] (fun _ f wr=>∃i:Nat,i<=l/\f= .int .i64 i/\ah (z∉l.take i)/\∃q,wr=w.drewN q) (fun _ f _=>l - (RowKit.intOf f).toNat);exact⟨0,aV _,rfl,p,0,rfl⟩;obtain⟨i,D,rfl,r,q,rfl⟩:=hrel;by_cases a:i<l
 ·obtain⟨g,o,rfl,_,E⟩:=gX C a;have t:ah (l[i]≠z->z∉l.take (i+1)):=fun j b=>by
   rw[fg a] at b;rcases bV.1 b with b|b
   ·exact r b
   ·exact j (bG.1 b).symm
  have k:ah (l[i]=z->l.contains z=true):=fun h=>by rw[nN,<-h];exact a_ a
  generalize l[i]=y at*;by_cases d:y=z
  ·have m:=af (k d);subst d;clear k t r;go_wp2;go_ret;exact⟨by rw[m.ae];rfl,_,rfl⟩
  ·have F:(y==z)=false:=by rw[beq_eq_false_iff_ne];exact d
   have s:=af (t d);clear k;go_wp2;go_roundw;exact⟨i+1,by omega,by go_num,s,_,rfl⟩;simp [RowKit.intOf];omega
 ·obtain rfl:i=l.length:=Om;have m:ah (l.contains z=false):=(by have h:=r.ae;rw[fj] at h;rw[ah,<-sQ,nN];exact h)
  have d1:decide (l<l)=false:=Ou;go_wp2;go_ret;exact⟨by rw[m.ae];rfl,_,rfl⟩
end Go.Proofs.YtadbchhdjbghkaaGreatDoor
