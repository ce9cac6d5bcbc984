/- Texts of the proof, part 13. -/
import Derived.Test.YtehkcnbodcdijaaGreatDoorA12
namespace Go.Proofs.YtehkcnbodcdijaaGreatDoor
set_option maxHeartbeats 8000000
set_option linter.all false
set_option maxRecDepth 100000
variable{ar:Prop}
open Go.RowKit Go.Lib Go.Maps Go.ChangeShapes Go.WideShapes Go.ChangeAt Go.Proofs.Tryz
variable{a b c d e f g h:Nat}{i j k l:List Nat}{m n o:World}{p q r s:Value}{t u v:List Value}{w x:TypeId}{y z:Nat→Option Nat}{A:Nat→List Nat}{B C:Int}{E F:Option Addr}{H I:Rat}{J:Nat→Nat}{K:Nat→Bool}{L:List Int}{N:Array Bool}{O:Option Nat}{Q:Act}{R S:Bool}{T:List UInt8}
structure aZ(S:List Nat)(w w':au):Prop where
 os:w'.os=w.os
 tape:w'.tape=w.tape
 output:w'.output=w.output
 size:w.heap.size<=w'.heap.size
 block:∀i,i<w.heap.size->i∉S->w'.heap[i]? =w.heap[i]?
section
variable{S:List Nat}{a b c w w':au}{g:Nat}{t:TypeId}{l:List Value}
theorem aZ.gV(h:Ext a b):aZ S a b:=⟨h.os,h.tape,h.output,h.size,fun i e _=>h.block i e⟩
def gS:=@aZ.gV
theorem aZ.trans(h:aZ S a b)(k:aZ S b c):aZ S a c:=⟨k.os.trans h.os,k.tape.trans h.tape,k.output.trans h.output,aV h.size k.size,fun i f e=>(k.block i (cy f h.size) e).trans (h.block i f e)⟩
theorem aZ.only(h:aZ S a b)(k:Only g b c)(f:g∈S\/a.heap.size<=g):aZ S a c:=⟨k.os.trans h.os,k.tape.trans h.tape,k.output.trans h.output,aV h.size k.size,fun i m j=>(k.block i (cy m h.size) (fun e=>by
 injection e with e;subst e;rcases f with f|f
 ·exact j f
 ·omega)).trans (h.block i m j)⟩
theorem aZ.ext(h:aZ S a b)(k:Ext b c):aZ S a c:=h.trans (.gV k)
theorem aZ.grown{n base:Nat}(h:aZ S a b)(f:b.ownsRow base x e q n u)(j:b.grownBy c q.ownBlock)(hb:a.heap.size<=base):aZ S a c:=
 ⟨j.os.trans h.os,j.tape.trans h.tape,j.output.trans h.output,aV h.size j.size,fun i m o=>(j.block i (cy m h.size) (fun x=>by have:=(f.lt i x.symm).1;omega)).trans (h.block i m o)⟩
theorem aZ.drew(h:aZ S a b):aZ S a b.drew:=⟨h.os,h.tape,h.output,h.size,h.block⟩
theorem aZ.mono{S':List Nat}(h:aZ S a b)(f:∀i∈S,i<a.heap.size->i∈S'):aZ S' a b:=⟨h.os,h.tape,h.output,h.size,fun i e j=>h.block i e fun k=>j (f i k e)⟩
theorem aq.bX(h:aq w g t l)(k:aZ S w w')(e:g∉S):aq w' g t l:=(k.block g h.lt e).trans h
theorem aZ.kept(k:aZ S w w'){u:TypeId}(m:∀i∈S,∃t l,aq w i t l/\t≠u):Kept u w w':=fun g n o e=>(k.block g (ie e) fun j=>by obtain⟨t,l,h,f⟩:=m g j;unfold aq at h;rw[h] at e;injection e with e;injection e with _ e;exact f e).trans e
end
abbrev gH:TypeId:=297
abbrev Uh:TypeId:=295
abbrev UN:TypeId:=372
def Dl(eP eD gb fI:Nat):Value:= .func (.func 328) #[] #[aI eP 0,aI eD 0,aI gb 0,aI fI 0]
def oZ(n u:Nat):Option Nat:=if u=n then none else some u
def vy(n:Nat)(d:Nat->Nat)(wl:List Nat):List Value:=(List.range n).map fun a=>av (if a∈wl then d a else 0:Nat)
noncomputable def nR(g:List Nat)(p:Nat->Option Nat)(dk:Nat->Bool):List (List Nat):=(List.range g.length).map fun a=>if dk a=true then oT g.length p g a else []
def M4{a:Nat}{d:Nat->Nat}{wl:List Nat}(h:a<e):(vy e d wl)[a]? =some (av (if a∈wl then d a else 0:Nat)):=by unfold vy;rw[dK,lV h];rfl
def akY{d:Nat->Nat}{wl:List Nat}(h:f<e):(vy e d wl).set f (av (d f:Nat))=vy e d (wl++ [f]):=by
 refine rF fun i=> ?_;have m:∀wl,(vy e d wl)=e:=fun wl=>by unfold vy;simp
 rw[pN,m];by_cases j:f=i
 ·subst j;rw[if_pos rfl,if_pos h,M4 h];simp
 ·rw[if_neg j];rcases cA i e with k|k
  ·rw[M4 k,M4 k];simp [gU j]
  ·rw[eT (by rw[m];exact k),eT (by rw[m];exact k)]
def akA{g:List Nat}{p:Nat->Option Nat}{dk:Nat->Bool}{v:Nat}(h:∀a,K a=(dk a||a==v)):(nR g p dk).set v (oT g p g v)=nR g p K:=by
 have j:∀dk,(nR g p dk).length=g.length:=fun dk=>by unfold nR;simp
 refine rF fun i=> ?_;rw[pN,j];have k:∀(dk:Nat->Bool) (a:Nat),a<g->(nR g p dk)[a]? =some (if dk a=true then oT g p g a else []):=fun dk a n=>by unfold nR;rw[dK,lV n];rfl
 by_cases e:v=i
 ·subst e;rw[if_pos rfl];split
  ·rename_i m;rw[k _ _ m,h];simp
  ·rename_i m;rw[eT (by rw[j];omega)]
 ·rw[if_neg e];rcases cA i g with f|f
  ·have:(i==v)=false:=by rw[beq_eq_false_iff_ne];exact gU e
   rw[k _ _ f,k _ _ f,h,this,w_]
  ·rw[eT (by rw[j];exact f),eT (by rw[j];exact f)]
structure GV(g:List Nat)(p:Nat->Option Nat)(A:aQ)(cb kb eP gb eD fI db base:Nat)(ye:List Value)(w0:au):Prop where
 gl:fO w0 (.slice A g.length g.length) g
 gx:aq w0 gb JM [.slice A g.length g.length]
 cx:aq w0 cb cK ye
 cr:∀u,u<=g.length->∃B c,ye[u]? =some (.slice B (ints (kids g.length p (oZ g.length u))).length c)/\IL w0 (.slice B (ints (kids g.length p (oZ g.length u))).length c) (ints (kids g.length p (oZ g.length u)))
 kx:∃l,aq w0 kb cK l
 px:∃l,aq w0 eP gH l
 hk:cb≠kb
 h1:w0.heap.size<=db/\w0.heap.size<=eD/\w0.heap.size<=fI
 h2:db<base/\eD<base/\fI<base
 h3:eD≠db/\fI≠db
structure oh(g:List Nat)(p:Nat->Option Nat)(d:Nat->Nat)(cb kb hb eP gb eD fI db base:Nat)(w0 W:au)(wl:List Nat)(dk:Nat->Bool)(wv:Value)(n9:List Value):Prop where
 bX:aZ [eP,kb] w0 W
 sz:base<=W.heap.size
 pp:aq W eP gH [aG cb 0 (g.length+1) (g.length+1),aG kb 0 g.length g.length,aG hb 0 g.length g.length,wv]
 dx:aq W eD cK [aG db 0 g.length g.length]
 vx:aq W fI UN [Dl eP eD gb fI]
 db:aq W db aS (vy g.length d wl)
 kb:aq W kb cK n9
 KS:cU W base (wv::n9) (wl::nR g p dk)
section
variable{g:List Nat}{p:Nat->Option Nat}{d:Nat->Nat}{A:aQ}{cb kb hb eP gb eD fI db base:Nat}{ye:List Value}{w0 W:au}{wl:List Nat}{dk:Nat->Bool}{wv:Value}{n9:List Value}
theorem oh.Ob(f:GV g p A cb kb eP gb eD fI db base ye w0)(h:aZ [eP,kb] w0 W)(k:gH≠x)(j:cK≠x):Kept x w0 W:=h.kept fun i e=>by
 rcases aK.1 e with rfl|e
 ·obtain⟨l,h⟩:=f.px;exact⟨_,l,h,k⟩
 ·rw[bE] at e;subst e;obtain⟨l,h⟩:=f.kx;exact⟨_,l,h,j⟩
theorem GV.ne(i:GV g p A cb kb eP gb eD fI db base ye w0):gb∉ [eP,kb]/\cb∉ [eP,kb]:=by
 have f:∀{x y:Nat} {t u:TypeId} {l m:List Value},aq w0 x t l->aq w0 y u m->t≠u->x≠y:=fun n h j e=>by subst e;unfold aq at n h;rw[n] at h;injection h with h;injection h with _ h;exact j h
 obtain⟨l,hk⟩:=i.kx;obtain⟨m,k⟩:=i.px;constructor
 ·simp only[aK,bJ,or_false,not_or];exact⟨f i.gx k Od,f i.gx hk Od⟩
 ·simp only[aK,bJ,or_false,not_or];exact⟨f i.cx k Od,i.hk⟩
theorem oh.ext(h:oh g p d cb kb hb eP gb eD fI db base w0 W wl dk wv n9)(e:Ext W m):oh g p d cb kb hb eP gb eD fI db base w0 m wl dk wv n9:=
 ⟨h.bX.ext e,aV h.sz e.size,h.pp.ext e,h.dx.ext e,h.vx.ext e,h.db.ext e,h.kb.ext e,h.KS.ext e⟩
end
def I4{α β:Type}{f:α->List β}{k:List α}(h:e<k.length):((k.take e).flatMap f).length+(f k[e]).length<=(k.flatMap f).length/\(k.take (e+1)).flatMap f=(k.take e).flatMap f++f k[e]:=by
 have m:(k.take (e+1)).flatMap f=(k.take e).flatMap f++f k[e]:=by rw[fR h,EN];simp
 refine⟨?_,m⟩;have j:k.flatMap f=(k.take (e+1)).flatMap f++(k.drop (e+1)).flatMap f:=by rw[<-EN,tH]
 rw[j,m];simp only[bD];omega
def OH(g:List Nat)(p:Nat->Option Nat)(d:Nat->Nat)(cb kb hb eP gb eD fI db base:Nat)(w0:au)(v j:Nat):Prop:=∀W wl dk wv n9,oh g p d cb kb hb eP gb eD fI db base w0 W wl dk wv n9->wl.length+(tv g.length p v).length<=12->
 Calls prog 328 #[av (v:Int),.int .u64 (j:Int),aI eP 0,aI eD 0,aI gb 0,aI fI 0] W fun e w'=>
  ∃m i f h,e= .returned (.int .u64 (m:Nat))/\m<2^g.length/\m.testBit=pV g.length p g v/\(∀a,h a=(dk a||(tv g.length p v).contains a))/\oh g p d cb kb hb eP gb eD fI db base w0 w' (wl++tv g.length p v) h i f
def aqt{g:List Nat}{p:Nat->Option Nat}{d:Nat->Nat}{A:aQ}{cb kb hb eP gb eD fI db base:Nat}{ye:List Value}{w0:au}(hg:k7 g)(hr:dr g.length p d)(H:GV g p A cb kb eP gb eD fI db base ye w0){v:Nat}(hv:v<g.length)(hab:e<2^g.length)(Xd:e.testBit=bH p v)
 (hC:∀c∈kids g p (some v),OH g p d cb kb hb eP gb eD fI db base w0 c (e|||2^v)):OH g p d cb kb hb eP gb eD fI db base w0 v e:=by
 intro W wl dk wv n9 hS Wo;have HG:=af hg;have hle:=hg.le;have Lr:=af hr;have P:=af H;have YT:=af hab;have ru:=af hC;have htv:=ae8 hr v;have X:cnt e=d v:=by unfold cnt;rw[Xd];exact aaP hr hg.le (d v) v hv rfl
 have avg:=af X;have XN:=af htv;have HKL:ah (∀m:Nat,m.testBit=pV g p g v->JB (m&&&e)=oT g p g v):=fun m hm=>by rw[adm (rA _ hab) hg.le];unfold oT;refine EQ fun a _=> ?_;rw[ZX,hm,Xd]
 obtain⟨hh1,O,hh3⟩:=And.intro H.h1 (And.intro H.h2 H.h3);obtain⟨q1,q2,q3,q4,q5,q6,q7,q8⟩:=hS;have HCH:=af q1;have HP:=af q3;have HDX:=af q4;have HVX:=af q5;have YG:=af q6;have HKB:=af q7;have HF:=af q8;have HO:=af (q8.own 0 wv wl rfl rfl);have arE:wl.length<=12:=Om;have xY:eP<base:=(by obtain⟨l,h⟩:=H.px;have:=h.lt;have:=H.h1.2.1;have:=H.h2.2.1;omega)
 have hkb:kb<base:=(by obtain⟨l,h⟩:=H.kx;have:=h.lt;have:=H.h1.2.1;have:=H.h2.2.1;omega);have Gv:w0.heap.size<=base:=Om;have awo:eP<w0.heap.size:=(by obtain⟨l,h⟩:=H.px;exact h.lt)
 have awD:kb<w0.heap.size:=(by obtain⟨l,h⟩:=H.kx;exact h.lt);clear hg hr H hab Xd hC htv X q1 q3 q4 q5 q6 q7 q8;obtain⟨Aw,cw,xs,rfl,_,hcw,C,YI⟩:=HO.parts;have dC:((ints wl).length+1)*8<=140737488355328:=by rw[jt];omega
 obtain⟨s0,s1,s2,s3⟩:=HP.four;have f3:=HP.frozen 3;go_enter func328,ntmps328;go_wp2_with (at_builtin;refine gf rfl _ _ cK rfl base jo _ _ _ rfl C.ae #[av (v:Int)] 1 1 rfl rfl rfl dC q2 ?_)
 intro v' w3 E r hb3;have HF3:ah (cU w3 base (v'::n9) ((wl++ [v])::nR g p dk)):=cU.app (i:=0) HF.ae rfl Ou C YI E r (hb3.imp id fun h=>⟨_,h,by omega⟩);obtain⟨Ax,cx,rfl,_,_,_⟩:=eL E;have J:=af (gK HP C r xY);have avb:=af (gK HDX C r O.2.1);have auj:=af (gK HVX C r O.2.2);have ave:=af (gK YG C r O.1);have ah0:=af (gK HKB C r hkb);have avi:=af (HCH.grown C r Gv);have q3:base<=w3.heap.size:=aV q2 r.size;clear E r hb3 dC s0 s1 s2 s3 f3 q2;have s3:=J.aF 3;have f3:=J.frozen 3;obtain⟨Y,D_,B4,K4,Z⟩:=fM (i:=3) J.ae (.slice Ax ((ints wl).length+1) cx);have HW4:=af D_;clear D_;go_upto_region 2 with fail
 rw[HW4.ae];have HP4:ah (aq Y eP gH [aG cb 0 (g.length+1) (g.length+1),aG kb 0 g g,aG hb 0 g g,.slice Ax ((ints wl).length+1) cx]):=B4;have YA:=af (HF3.only Z J Od);have ava:=af (avb.only Z Om);have aui:=af (auj.only Z Om);have avd:=af (ave.only Z Om);have auX:ah (aq Y kb cK n9):=ah0.only Z (fun k=>by have h1:=ah0.ae;have h2:=J.ae;unfold aq at h1 h2;rw[k,h2] at h1;injection h1 with h1;injection h1 with _ h1;exact absurd h1 Od)
 have VF:=af (avi.only Z (.inl Ou));have q4:base<=Y.heap.size:=aV q3 Z.size;clear s3 f3 B4 K4 Z q3;have pz:=af (ab3 e Y.drew (HG.jC YT));rw[avg.ae] at pz;have HP5:=af HP4.drew;have HF5:ah (cU Y.drew base (.slice Ax ((ints wl).length+1) cx::n9) ((wl++ [v])::nR g p dk)):=YA.ext (aB Y).drew;have ah8:=af ava.drew;have auh:=af aui.drew;have M:=af avd.drew;have auW:=af auX.drew;have avh:=af VF.drew;have q5:base<=Y.drew.heap.size:=q4;have bK:ah (∀w',aq w' eD cK [aG db 0 g g]->aA w' eD 0 (aG db 0 g g)):=fun w' h=>h.cell rfl;have aJ:=ah8;clear q4;refine cG (S:=fun w'=>aq w' eD cK [aG db 0 g g]) (T:=fun j=>decide (5<=j)) Ok ?_;generalize Y.drew=wd at*;refine ax 0 18 ?_;refine ax 1 19 ?_;refine ax 2 20 ?_;refine aO 3 ?_;intro K q;go_simp;refine pz.mono ?_;rintro e2 w2 ⟨rfl,rfl⟩;refine q.ae _ _ (fun _=>aJ.ae) ?_;clear q;refine ax 4 22 ?_;obtain⟨W6,KL,B6,K6,x⟩:=fM (i:=v) M (av (d v:Nat));rw[akY hv] at B6;have s1:=M.cell (M4 hv);have f1:=M.frozen v;refine aO 5 ?_;intro K q;go_simp;refine q.ae _ _ Oe ?_;refine bY Ok ?_;have HP6:=af (HP5.only x Om);have HF6:=af (HF5.low x O.1);have au_:=af (ah8.only x hh3.1);have aug:=af (auh.only x hh3.2);have auV:=af (auW.only x Om);have G:=af (avh.only x (.inr hh1.1));have q6:base<=W6.heap.size:=aV q5 x.size;clear q KL K6 x s1 f1 q5;have mE:fO W6 (.slice A g g) g:=P.gl.keep qF fun u R=>by simp only[bE] at R;rw[R];exact oh.Ob P G Od Od
 obtain⟨gg,og,rfl,_,hc⟩:=fO.get mE hv;have g0:=(P.gx.bX G P.ne.1).aF 0;clear mE;obtain⟨Bc,cc,hcv,o⟩:=P.cr v (rJ hv);have c0:=(P.cx.bX G P.ne.2).cell hcv;rw[show oZ g.length v=some v by unfold oZ;rw[if_neg Om]] at c0 o;have d_:=af (gF cJ o (fun u R=>by simp only[bE] at R;rw[R];exact oh.Ob P (gS (aB w0)) Od Od))
 have df:(ints (kids g p (some v)))=(kids g p (some v)).length:=jt _;have auU:=af df;rw[df] at c0 d_;clear df hcv o;obtain⟨s0,s1,s2,s3⟩:=HP6.four;have AW:ah (wl+1+((kids g p (some v)).flatMap (tv g p)).length<=12):=(by rw[XN.ae] at Wo;simp only[cT] at Wo;rw[ah];omega)
 have Qi:ah (∀c∈kids g p (some v),c<g):=fun c hc=>(ig.1 hc).1;have awE:(kids g p (some v)).length<=12:=(by have:=mP (fun a=>p a==some v) (List.range g);rw[i7] at this;exact aV this hle)
 have HNV:=af (fun y=>aob (g:=g) Lr v y);clear Wo arE;have Qn:=af (HG.lt v);generalize g.getD v 0=gv at*;generalize qd:kids g.length p (some v)=n at*;clear qd;have Hb:ah (oh g p d cb kb hb eP gb eD fI db base w0 W6 (wl++v::(n.take 0).flatMap (tv g p)) dk (.slice Ax ((ints wl).length+1) cx) n9):=⟨G,q6,HP6,au_,aug,B6,auV,HF6⟩;have HM0:ah (∀y,gv.testBit y=(gv.testBit y||(n.take 0).any fun c=>pV g p g c y)):=fun y=>by simp
 have LR:ah (∀a,dk a=(dk a||((n.take 0).flatMap (tv g p)).contains a)):=fun a=>by simp
 go_upto_region 5 with fail
 clear hc g0 c0 s0 s1 s2 s3 B6 q6;go_loopw [9,11,33] (fun v9 _ v33 wr=>∃(i m:Nat) (F:Nat->Bool) (D:Value) (s:List Value),i<=n.length/\v33=av i/\v9= .int .u64 m/\ah (m<2^g.length)/\ah (∀y,m.testBit y=(gv.testBit y||(n.take i).any fun c=>pV g.length p g c y))/\ah (∀a,F a=(dk a||((n.take i).flatMap (tv g.length p)).contains a))/\ah (oh g p d cb kb hb eP gb eD fI db base w0 wr (wl++v::(n.take i).flatMap (tv g.length p)) F D s)) (fun _ _ v33 _=>n.length - (RowKit.intOf v33).toNat);exact⟨0,gv,dk,_,_,aU _,rfl,rfl,Qn,HM0,LR,Hb⟩;obtain⟨i,m,F,D,s,hi,rfl,rfl,L,HM,HD,HS⟩:=hrel;by_cases o:i<n
 ·have Ke:=af (I4 (f:=tv g p) o);have Q:=I4 (f:=tv g p) o;have ow:=af Q.2;clear Q;have U:i<(ints n).length:=by rw[auU.ae];exact o
  have hir:IL wr (.slice Bc n cc) (ints n):=d_.keep cJ fun u R=>by simp only[bE] at R;rw[R];exact oh.Ob P HS.bX Od Od
  obtain⟨g2,o2,rfl,_,hc⟩:=ij hir U;have ut:(ints n)[i]=((n[i]:Nat):Int):=ayd;rw[ut] at hc;have lx:=Qi _ (a8 o);have HQ:=af (ru _ (a8 o));have HTA:ah (∀y,((n.take (i+1)).any fun c=>pV g p g c y)=(((n.take i).any fun c=>pV g p g c y)||pV g p g n[i] y)):=fun y=>by rw[fR o,Rc];simp
  clear ut hir U;generalize n[i]=c at*;have uK:ah ((wl++v::(n.take i).flatMap (tv g.length p)).length+(tv g.length p c).length<=12):=by have h1:=Ke.1;have h2:=AW.ae;rw[ah];simp only[bD,cT];unfold ah at h2;omega
  go_upto_region 7 with fail
  have B:=af (HS.ext (aB wr).drew);have bK:ah (∀w',aq w' fI UN [Dl eP eD gb fI]->aA w' fI 0 (Dl eP eD gb fI)):=fun w' h=>h.cell rfl;have aJ:=af B.vx;have yx:=af (xD v wr.drew Om);clear hc;refine cG (S:=fun w'=>aq w' fI UN [Dl eP eD gb fI]) (T:=fun j=>decide (j=9)) Ok ?_;generalize wr.drew=wd at*;refine ax 0 37 ?_;refine ax 1 38 ?_;refine ax 2 39 ?_;refine ax 3 40 ?_;refine ax 4 41 ?_;refine aO 5 ?_;intro K q;go_simp;refine yx.mono ?_;rintro e3 w3 ⟨rfl,rfl⟩;refine q.ae _ _ (fun _=>aJ.ae) ?_;clear q;have HW:=af (F9 (HG.jC YT) (Df (show v<12 by omega)));have qr:=af (HQ w3 _ _ _ _ B uK);generalize 2^v=pv at*;refine ax 6 43 ?_;rw[HW.ae];refine aO 7 ?_;intro K q;go_simp;refine qr.mono ?_;rintro e4 w4 ⟨mc,VL,U2,KT,rfl,jT,n_,V,I⟩;refine q.ae _ _ (fun _=>I.vx) ?_;clear q;have aJ:=af I.vx;have pu:=af (F9 (HG.jC L) (HG.jC jT));refine ax 8 45 ?_;rw[pu.ae];refine aO 9 ?_;intro K q;go_simp;refine q.ae _ _ Oe ?_;refine bY Ok ?_;have lC:ah (∀y,(m|||mc).testBit y=(gv.testBit y||(n.take (i+1)).any fun c=>pV g p g c y)):=fun y=>by rw[HTA.ae,<-Rk,<-HM.ae,Iw,n_]
  have auP:ah (m|||mc<2^g.length):=Im L jT;rw[jk,nK,<-ow.ae] at I;have en:=af I;have YH:ah (∀a,KT a=(dk a||((n.take (i+1)).flatMap (tv g p)).contains a)):=fun a=>by rw[V,HD.ae,ow.ae,Rk];congr 1;simp
  clear q I V jT n_;go_wp2;go_roundw;exact⟨i+1,m|||mc,KT,VL,U2,by omega,by go_num,rfl,auP,lC,YH,en⟩;simp [RowKit.intOf];omega
 ·obtain rfl:i=n.length:=Om;rw[fB] at HM HD HS;have HMV:ah (m.testBit=pV g p g v):=funext fun y=>by rw[HM.ae,HNV.ae]
  rw[<-XN.ae] at HS;have d1:decide (n<n)=false:=Ou;have HDT:ah (∀a,(F a||a==v)=(dk a||(tv g p v).contains a)):=fun a=>by rw[HD.ae,XN.ae,List.contains_cons,Rk,Bool.or_comm _ (a==v)]
  have HKY:=af (HKL m HMV);go_upto_region 9 with fail
  have B:=af (HS.ext (aB wr).drew);have Qf:=af (amd (m&&&e) wr.drew (N1 (HG.jC L)));rw[HKY.ae] at Qf;have bK:ah (∀w',aq w' eP gH [aG cb 0 (g.length+1) (g.length+1),aG kb 0 g g,aG hb 0 g g,D]->aA w' eP 1 (aG kb 0 g g)):=fun w' h=>h.cell rfl;have aJ:=af B.pp;refine cG (S:=fun w'=>aq w' eP gH [aG cb 0 (g.length+1) (g.length+1),aG kb 0 g g,aG hb 0 g g,D]) (T:=fun j=>decide (8<=j)) Ok ?_;generalize wr.drew=wd at*;have HW:=af (Uu (HG.jC L) (HG.jC YT));refine ax 0 47 ?_;refine ax 1 48 ?_;refine ax 2 49 ?_;refine ax 3 50 ?_;refine ax 4 51 ?_;refine ax 5 52 ?_;rw[HW.ae];refine aO 6 ?_;intro K q;go_simp;refine Qf.mono ?_;rintro e3 w3 ⟨v',rfl,E,hx3⟩;have hf3:=B.KS.put (i:=v+1) hx3 (by simp [nR];omega) E B.sz;have z:=af (B.ext hx3);refine q.ae _ _ (fun _=>z.pp) ?_;clear q;have aJ:=af z.pp;obtain⟨Al,cl,xl,rfl,_,_,_,_⟩:=E.parts;generalize(ints (oT g.length p g v)).length=nl at*;refine ax 7 54 ?_;have Kg:v<s.length:=(by have h:=B.KS.len;simp only[cT,nR,bP,i7] at h;omega)
  obtain⟨W6,KL,B6,K6,x⟩:=fM (i:=v) z.kb (.slice Al nl cl);have s1:=z.kb.cell (aX Kg);have f1:=z.kb.frozen v;have N:kb≠eD/\kb≠fI/\kb≠db:=Om;have Ks:eP≠kb:=fun k=>by have h1:=z.kb;have h2:=z.pp;unfold aq at h1 h2;rw[<-k,h2] at h1;injection h1 with h1;injection h1 with _ h1;exact absurd h1 Od
  have nD:ah (oh g p d cb kb hb eP gb eD fI db base w0 W6 (wl++tv g p v) (fun a=>F a||a==v) D (s.set v (.slice Al nl cl))):=by
   have h8:=z.ae;have hf:cU W6 base (D::s.set v (.slice Al nl cl)) ((wl++tv g p v)::nR g p fun a=>F a||a==v):=(by have h:=hf3.only x h8.kb Od;rw[<-akA (p:=p) (dk:=F) (v:=v) fun a=>rfl];exact h)
   exact⟨h8.bX.only x (.inl Ou),aV h8.sz x.size,h8.pp.only x Ks,h8.dx.only x (gU N.1),h8.vx.only x (gU N.2.1),h8.db.only x (gU N.2.2),B6,hf⟩
  clear hf3 E hx3 N Ks B6 K6 x;refine aO 8 ?_;intro K q;go_simp;refine q.ae _ _ Oe ?_;refine bY Ok ?_;clear q KL s1 f1 Kg;go_wp2;go_ret;exact⟨m,D,_,_,rfl,L,HMV,HDT,nD⟩
def adX{g:List Nat}{p:Nat->Option Nat}{d:Nat->Nat}{A:aQ}{cb kb hb eP gb eD fI db base:Nat}{ye:List Value}{w0:au}(m:k7 g)(i:dr g.length p d)(n:GV g p A cb kb eP gb eD fI db base ye w0):∀(k v j:Nat),v<g.length->g.length<=k+d v->j<2^g.length->j.testBit=bH p v->OH g p d cb kb hb eP gb eD fI db base w0 v j
 |0,v,_,h,r,_,_=>by have:=i.lt v h;omega
 |k+1,v,j,h,r,e,f=>aqt m i n h e f fun c s=>by
  obtain⟨q,o⟩:=ig.1 s;have u:=(i.up c v q o).2;refine adX m i n k c _ q Om (Im e (M9 h)) ?_;rw[zv o];funext a
  rw[Iw,f,qH]
def cU.kept{f:List (List Nat)}(h:cU m a t f)(p:Kept aS m n):cU n a t f:=
 ⟨h.len,fun i v l k o=>by
  obtain⟨j,⟨x,b⟩,u⟩:=h.own i v l k o;refine⟨j,⟨x,?_⟩,u⟩;rcases b with b|⟨g,d,c,e,r,q,s⟩
  ·exact .inl b
  ·exact .inr ⟨g,d,c,e,r,p _ _ _ q,s⟩,h.ap⟩
def cU.tail{d:List (List Nat)}(h:cU m a (p::t) (i::d)):cU m a t d:=
 ⟨by have:=h.len;simpa using this,fun b p i c f=>h.own (b+1) p i axv ayh,fun b j p u c e g=>h.ap (b+1) (j+1) p u axv axO Om⟩
def Ext.bX{S:List Nat}(h:Ext m n)(k:aZ S n o)(f:∀i∈S,m.heap.size<=i):Ext m o:=
 ⟨k.os.trans h.os,k.tape.trans h.tape,k.output.trans h.output,aV h.size k.size,fun i d=>(k.block i (cy d h.size) (fun e=>by have:=f i e;omega)).trans (h.block i d)⟩
def aa3(n:Nat)(h:n<=1000)(w:au):
 (Instr.makeSlice Uh (av (n:Int)) (av (n:Int))).run prog w= .ok (aG w.heap.size 0 n n) (w.alloc (.cells (List.replicate n (Value.slice none 0 0)).toArray cK)):=by
 obtain⟨e,f,c,b,a⟩:=info_parts (show(prog.info? cK).map (fun i=>(i.zero,i.size,i.bytes))=some (some (.slice none 0 0),1,24) by kernel_rfl);have d:=run_make (P:=prog) w Uh cK e (.slice none 0 0) underlying295 f c .i64 .i64 (n:Int) (n:Int) Om (xd _) aye Om;simp only[kX,b,lF,Value.cells,Cf] at d;rw[d]
def si(n:Nat)(p:Nat->Option Nat):List Int:=(List.range n).map fun a=>sA (p a)
def nU(n:Nat)(p:Nat->Option Nat):List (List Nat):=(List.range (n+1)).map fun u=>kids n p (oZ n u)
noncomputable def zI(g:List Nat)(p:Nat->Option Nat):List (List Nat):=(List.range g.length).map fun v=>oT g.length p g v
def F0(l:List Int):List Nat:=l.map Int.toNat
def pX(d:Nat->Nat)(l:List Int):Nat:=eZ d (F0 l) ((F0 l).headD 0)
def Dg(n:Nat)(d:Nat->Nat)(a:List Rl):List (List Nat):=np n (fun i=>pX d ((a.getD i ([],[])).2)) a.length
def F6(w:au)(u:Value)(n:Nat)(h f g:List (List Nat))(a:List Nat):Prop:=
 ∃e b d A c,u= .agg #[aG e 0 (n+1) (n+1),aG b 0 n n,aG d 0 n n,.slice A a.length c]/\rj w (aG e 0 (n+1) (n+1)) (h.map ints)/\rj w (aG b 0 n n) (f.map ints)/\rj w (aG d 0 n n) (g.map ints)/\IL w (.slice A a.length c) (ints a)
def kg(n:Nat):Option Nat->Nat
 |none=>n
 |some b=>b
def rZ(n:Nat)(p:Nat->Option Nat)(j:Nat):List (List Nat):=np (n+1) (fun a=>kg n (p a)) j
def amy(h:c<=a):(rZ a y b)[c]? =some ((List.range b).filter fun d=>kg a (y d)==c):=Jd Om
def akE{n j:Nat}{p:Nat->Option Nat}(h:kg n (p j)<=n):rZ n p (j+1)=(rZ n p j).set (kg n (p j)) (((List.range j).filter fun a=>kg n (p a)==kg n (p j))++ [j]):=acr (f:=fun a=>kg n (p a)) Om
def amz(r:dr a y J):rZ a y a=nU a y:=by
 unfold rZ np nU;refine kW fun u g=> ?_;have g:=dL.1 g;unfold kids;refine EQ fun c f=> ?_;have f:=dL.1 f;rw[lW,beq_iff_eq,beq_iff_eq];show kg a (y c)=u↔y c=oZ a u
 unfold oZ;cases i:y c with
 |none=>
  simp only[kg];constructor
  ·intro e;rw[if_pos e.symm]
  ·intro e;by_cases h:u=a
   ·exact h.symm
   ·rw[if_neg h] at e;cases e
 |some b=>
  have j:=(r.up c b f i).1;simp only[kg];constructor
  ·intro e;rw[if_neg Om,e]
  ·intro e;by_cases h:u=a
   ·rw[if_pos h] at e;cases e
   ·rw[if_neg h] at e;injection e
def akD(n:Nat)(p:Nat->Option Nat):rZ n p 0=List.replicate (n+1) []:=acq _ _
def ajC(g:List Nat)(p:Nat->Option Nat):nR g p (fun _=>false)=List.replicate g []:=by
 unfold nR;refine rF fun i=> ?_;rw[dK,Bu];rcases cA i g with h|h
 ·rw[lV h,if_pos h];rfl
 ·rw[eT axF,if_neg Om];rfl
def ajm(d:Nat->Nat):iT a (fun _=>some 0)=vy a d []:=by unfold iT vy;refine kW fun b _=> ?_;simp [sA]
def anS(h:b<(si a y)):(si a y)[b]=sA (y b):=by simp only[si,ET,Q1]
def JG:Value->Option Nat
 | .slice (some a) _ _=>some a.block
 | .pointer (some a)=>some a.block
 |_=>none
def Dh(u v:Value):Prop:=∀b,JG u=some b->JG v≠some b
def my(n:Nat):List Value:=List.replicate n (.slice none 0 0)
def JH(a n:Nat)(v:Value)(w:au):Prop:=∃g,v=aG g 0 n n/\aq w g cK (my n)/\a<=g
def UI(a:Nat)(v:Value)(w:au):Prop:=∃g,v=aI g 0/\aq w g gH (my 4)/\a<=g
def JI(d n:Nat)(v:Value)(w:au):Prop:=∃a b c,v= .agg #[aG a 0 (n+1) (n+1),aG b 0 n n,aG c 0 n n,.slice none 0 0]/\(aq w a cK (my (n+1))/\d<=a)/\(aq w b cK (my n)/\d<=b)/\(aq w c cK (my n)/\d<=c)/\a≠b/\a≠c/\b≠c
def aqH(o:Obj)(h:JI a b p m):JI a b p (m.alloc o)/\Dh p q/\Dh q p:=by obtain⟨d,e,c,rfl,⟨t,s⟩,⟨r,l⟩,⟨k,j⟩,i⟩:=h;exact⟨⟨d,e,c,rfl,⟨t.alloc _,s⟩,⟨r.alloc _,l⟩,⟨k.alloc _,j⟩,i⟩,fun e g=>(by have g:none=some e:=g;cases g),fun e _ f=>(by have f:none=some e:=f;cases f)⟩
def Um(o:Obj)(hv:JG q=some m.heap.size)(h:JH a c p m):JH a c p (m.alloc o)/\Dh p q/\Dh q p:=by exact m77
def aqG(o:Obj)(hv:JG q=some m.heap.size)(h:UI a p m):UI a p (m.alloc o)/\Dh p q/\Dh q p:=by exact m77
def q56.Gn(h:ar:=by exact ku _ _ rfl ⟨_,rfl,by rw[ag3];exact jd w3 cK nt1,L⟩):=h
def q57.Gn(h:ar:=by exact ku _ _ rfl ⟨_,rfl,jd w3 cK (my g),L⟩):=h
def q58.Gn(h:ar:=by exact ku _ _ rfl ⟨_,rfl,jd w3 cK (my g),L⟩):=h
def q59.Gn(h:ar:=by exact ku _ _ rfl ⟨_,rfl,jd w3 gH (my 4),L⟩):=h
def q60.agJ(h:ar:=by refine rU _ _ cK rfl base jo _ _ _ rfl vH.ae _ [av (j:Int)] BZ.ae 1 1 rfl rfl rfl dC DO ?_;intro v' DI P E JX;obtain⟨H_,c12,rfl,_,_,_⟩:=eL P;have VE:ah (cU DI base (vs.set (ix) (.slice H_ ((l).length+1) c12)) ((rZ g p j).set (ix) (l++ [j]))):=Yv.ahI kU hl vH ahR P E (JX.imp id fun h=>⟨_,h,aL _⟩);have V:=af (gK XX vH E xY);have F:=af (gK Em vH E uo);have VD:=af (Yp.grown vH E Wp);have Ds:base<=DI.heap.size:=aV DO E.size;clear P E JX;simp only[Act.put,eo,d9,ep];refine hK.ae _ _ (fun _=>mH _ V F) ?_;clear hK DO BZ;have aJ:=af (mH _ V F);refine ax 11 53 ?_;have Vg:=F.cell kU;have Vc:=F.frozen (ix);obtain⟨Xy,Vi,Md,XB,U⟩:=fM (i:=ix) F (.slice H_ ((l).length+1) c12);refine aO 12 ?_;intro K hK;go_simp;refine hK.ae _ _ Oe ?_;refine bY Ok ?_;have J0:=af (VE.only U F Od);have Vy:=af (V.only U Km);have VC:=af (VD.only U (.inl Ou));have U4:base<=Xy.heap.size:=aV Ds U.size;clear hK Vi Vg Vc XB U Ds dC;rw[<-HKJ.ae] at J0;clear hl jU xY uo Km;go_wp2;go_roundw;exact⟨j+1,_,by omega,by go_num,Md,J0,VC,U4,Vy⟩;simp [RowKit.intOf];omega):=h
def q61.agJ(h:ar:=by refine rU _ _ cK rfl O jo _ _ _ rfl vH.ae _ [av (i:Int)] BZ.ae 1 1 rfl rfl rfl dC DO ?_;intro v' DI P E JX;obtain⟨H_,c12,rfl,_,_,_⟩:=eL P;have VE:ah (cU DI O (vs.set (hm) (.slice H_ ((l).length+1) c12)) ((gj).set (hm) (l++ [i]))):=Yv.ahI kU hl vH ahR P E (JX.imp id fun h=>⟨_,h,aL _⟩);have V:=af (gK XX vH E xY);have F:=af (gK Em vH E uo);have VD:=af (Yp.grown vH E Wp);have Ds:O<=DI.heap.size:=aV DO E.size;clear P E JX;simp only[Act.put,eo,d9,ep];refine hK.ae _ _ (fun _=>mH _ V F) ?_;clear hK DO BZ;have aJ:=af (mH _ V F);refine ax 11 113 ?_;have Vg:=F.cell kU;have Vc:=F.frozen (hm);obtain⟨Xy,Vi,Md,XB,U⟩:=fM (i:=hm) F (.slice H_ ((l).length+1) c12);refine aO 12 ?_;intro K hK;go_simp;refine hK.ae _ _ Oe ?_;refine bY Ok ?_;have J0:=af (VE.only U F Od);have Vy:=af (V.only U Km);have VC:=af (VD.only U (.inl Ou));have U4:O<=Xy.heap.size:=aV Ds U.size;clear hK Vi Vg Vc XB U Ds dC;rw[<-Be.ae] at J0;clear hl jU xY uo Km;go_wp2;go_roundw;exact⟨i+1,_,by omega,by go_num,Md,J0,VC,U4,Vy⟩;simp [RowKit.intOf];omega):=h
def an2(v:Value)(x:aP)(B:aQ)(c:Nat)(p:Nat->Option Nat)(d:Nat->Nat)(w:au)(h:dP w v x)(ok:bV x)(hr:dr x.ai p d)(hp:IL w (.slice B x.ai c) (si x.ai p)):
 Calls prog 287 #[v,.agg #[.slice B x.ai c]] w fun e z=>∃u wl,e= .returned u/\F6 z u x.ai (nU x.ai p) (zI (gX x.ai x.ay) p) (Dg x.ai d x.ay) wl/\Ext w z:=by
 have CN:=af (fun W (hx:Ext w W)=>Tp v x W (h.ext hx) ok);have hgr:=zn ok.ri;have hg:=hgr.ok ok.a12;have GH:=hgr.len;generalize gX x.ai.length x.ay=g at*;obtain⟨A,c1,B1,Xt,D,e,rfl,ha,gL,hf⟩:=h;have gC:=af ok.ri;have jW:=af ok.rn;have Pi:=ok.r6;obtain⟨N,hN⟩:∃N,x.ai.length=N:=⟨_,rfl⟩;rw[hN] at CN GH hr hp gC⊢;subst GH;have hle:=hg.le;have HG:=af hg;have HR:=af hr;have d_:=af hp;have jH:=af gL;have xO:=(bl hp).2;have ag7:∀w,(Instr.makeSlice Uh (av ((g.length:Int)+1)) (av ((g.length:Int)+1))).run prog w= .ok (aG w.heap.size 0 (g.length+1) (g.length+1)) (w.alloc (.cells (my (g.length+1)).toArray cK)):=aa3 (g.length+1) Om;have HNT:=af (show my (g.length+1)=my (g.length+1) from rfl);generalize ag3:my (g.length+1)=nt1 at ag7;have U8:=aa3 g Om;have atC:=M2 g Om;clear hg hp hgr ha gL hf ok hN hr;go_enter func287,ntmps287;go_upto_region 1 with fail
 refine vG fun W HX BX BP BR=> ?_;have YX:=af (CN W HX);obtain⟨s0,s1,s2,s3⟩:=BX.four;go_wp2_with fail
 refine YX.mono ?_;rintro e1 w1 ⟨A1,rfl,hv,hx⟩;have cD:=af (HX.trans hx);have th:=af hv;have qw:=af (BX.ext hx);have Y':=af (BP.ext hx);have yR:=af (BR.ext hx);clear s0 s1 s2 s3 hx hv BX BP BR;go_upto_region 2 with fail
 refine aR fun W2 bk BG=> ?_;have s0:=BG.aF 0;go_upto_region 3 with fail
 refine cG (S:=fun z=>Ext W2 z) (T:=fun j=>decide (j=9)) Ok ?_;clear s0;have bK:ah (∀z,Ext W2 z->True):=fun _ _=>trivial;have aJ:ah (Ext W2 W2.drew):=(aB W2).drew;generalize W2.drew=wd at*;have XG:ah (IntKind.i64.wrap ((g.length:Int)+1)=(g.length:Int)+1):=by rw[ah,Cb];omega
 refine ax 0 23 ?_;refine ax 1 24 ?_;refine ax 3 26 ?_;refine ax 5 28 ?_;rw[XG.ae];refine bW.PU [⟨2,25,JH W2.heap.size (g.length+1)⟩,⟨4,27,JH W2.heap.size g⟩,⟨6,29,JH W2.heap.size g⟩,⟨8,7,UI W2.heap.size⟩,⟨7,30,JI W2.heap.size g⟩] (fun z=>Ext W2 z) Dh [2,4,6,8,7] [25,27,29,7,30] [[],[],[],[],[0,1,2]] #[true,true,true,true,true,true,true,true,true,false] 5 1 rfl rfl rfl Od Ok Ok (fun _ h=>h) aJ ?_ ?_
 ·intro k b s us w3 hI qg AB o ho K hK;have L:W2.heap.size<=w3.heap.size:=hI.size;have HK:=af (fun v o (hv:JG v=some w3.heap.size) (h0:b.R v (w3.alloc o))=>hK v (w3.alloc o) (hI.alloc o) h0 fun j c hj _ u I=>by
   rcases j with _|_|_|_|_|j;all_goals simp only[dA,dX,ZK,dl,reduceCtorEq] at hj
   all_goals subst hj
   ·exact Um o hv I
   ·exact Um o hv I
   ·exact Um o hv I
   ·exact aqG o hv I
   ·exact aqH o I)
  rcases k with _|_|_|_|_|k
  ·simp only[dA,dl] at s;subst s;clear qg AB;open q56 in exact Gm
  ·simp only[dA,dX,dl] at s;subst s;clear qg AB;open q57 in exact Gm
  ·simp only[dA,dX,dl] at s;subst s;clear qg AB;open q58 in exact Gm
  ·simp only[dA,dX,dl] at s;subst s;clear qg AB;open q59 in exact Gm
  ·simp only[dA,dX,dl] at s;subst s;obtain⟨a,ea,a1,a2⟩:=qg 0 Ou _ rfl;obtain⟨b,eb,b1,b2⟩:=qg 1 Ou _ rfl;obtain⟨c',ec,c1,c2⟩:=qg 2 Ou _ rfl;have n1:=AB 0 Ou 1 Ou Od;have n2:=AB 0 Ou 2 Ou Od;have n3:=AB 1 Ou 2 Ou Od;rw[ea,eb] at n1;rw[ea,ec] at n2;rw[eb,ec] at n3;have n1:a≠b:=fun e=>n1 a rfl ayB;have n2:a≠c':=fun e=>n2 a rfl ayB;have n3:b≠c':=fun e=>n3 b rfl ayB;have HK2:=af (fun v (h0:JI W2.heap.size g v w3)=>hK v w3 hI h0 fun j c hj hne u I=>by obtain⟨_,_,_,rfl,_⟩:=h0;refine⟨I,fun b _ he=>(by cases he),fun b s=>(by cases s)⟩)
   have HM:ah (JI W2.heap.size g (.agg #[aG a 0 (g.length+1) (g.length+1),aG b 0 g g,aG c' 0 g g,.slice none 0 0]) w3):=⟨a,b,c',rfl,⟨a1,a2⟩,⟨b1,b2⟩,⟨c1,c2⟩,n1,n2,n3⟩;clear qg AB n1 n2 n3 hK a1 a2 b1 b2 c1 c2;simp only[eR,dX,dA,dl] at ho;subst ho;simp only[fc,ea,eb,ec];go_simp;have ku:=HK2.ae;simp only[fc,ea,eb,ec,Act.put,eo,d9,ep] at ku;exact ku _ HM
  ·simp at s
 ·intro us w3 hx3 hR hD;clear hD;obtain⟨q,e3,hpx,atA⟩:=hR 3 _ rfl;obtain⟨G,kb,s,e4,⟨a1,a2⟩,⟨a3,a4⟩,⟨a5,a6⟩,n1,n2,n3⟩:=hR 4 _ rfl;simp only[fc];rw[e3,e4];generalize us 0=u25;generalize us 1=u27;generalize us 2=u29;clear hR e3 e4 us ag7 U8;simp only[Act.put,eo,d9,ep];have wE:=af hpx;have mM:=af a1;have HK3:=af a3;have HH3:=af a5;clear hpx a1 a3 a5;obtain⟨W4,D_,B4,K4,N4⟩:=Do wE (aG G 0 (g.length+1) (g.length+1)) (aG kb 0 g g) (aG s 0 g g) (.slice none 0 0);obtain⟨q0,q1,q2,q3⟩:=wE.four;have f0:=wE.frozen 0;have f1:=wE.frozen 1;have f2:=wE.frozen 2;have f3:=wE.frozen 3;refine aO 9 ?_;intro K hK;go_simp;refine hK.ae _ _ Oe ?_;refine bY Ok ?_;have wL:ah (Ext W2 W4):=Ext.only hx3 N4 atA;have iZ:G≠q/\kb≠q/\s≠q:=by
   have h:=wE.ae;have h1:=mM.ae;have Z:=HK3.ae;have h3:=HH3.ae;unfold aq at h h1 Z h3;refine⟨fun e=> ?_,fun e=> ?_,fun e=> ?_⟩
   ·rw[e,h] at h1;injection h1 with h1;injection h1 with _ h1;exact absurd h1 Od
   ·rw[e,h] at Z;injection Z with Z;injection Z with _ Z;exact absurd Z Od
   ·rw[e,h] at h3;injection h3 with h3;injection h3 with _ h3;exact absurd h3 Od
  have pE:=af (mM.only N4 iZ.1);have Yl:=af (HK3.only N4 iZ.2.1);have HH4:=af (HH3.only N4 iZ.2.2);clear hK hx3 D_ K4 N4 q0 q1 q2 q3 f0 f1 f2 f3 ag3;have tu:=pE;have HG4:=af (BG.ext wL);have dW:ah (Ext w W4):=cD.trans (bk.trans wL);have oC:=af (qw.ext (bk.trans wL));have Y9:=af (Y'.ext (bk.trans wL));have Bl:=af (yR.ext (bk.trans wL));have HL4:ah (fO W4 (.slice A1 g g) g):=bU qF th (bk.trans wL);have hw2:w1.heap.size<W2.heap.size/\w.heap.size+1+1<w1.heap.size:=⟨BG.lt,yR.lt⟩;have Wn:=cD.size;clear BG;generalize w1.heap.size=gb at*;generalize W2.heap.size=z2 at*;have ag':=B4.lt;have ag_:=pE.lt;have atG:=Yl.lt;have atH:=HH4.lt;obtain⟨base,hbase⟩:∃b,W4.heap.size=b:=⟨_,rfl⟩;have JS:base<=W4.heap.size:=E6 hbase.symm;have YA:ah (cU W4 base (my (g.length+1)) (rZ g p 0)):=by rw[akD];exact cU.UU _ _ _
  have VF:ah (aZ [G] W4 W4):= .gV (aB W4);have Wp:W4.heap.size<=base:=E6 hbase;have ahz:=(bl d_).1;have au1:=af ahz;have tj:=af (fun j=>akE (n:=g) (p:=p) (j:=j));have XZ:ah (∀j,j<g.length->∀b,p j=some b->b<g.length):=fun j hj b s=>(HR.up j b hj s).1;have Hl:=af (amz HR);clear ahz;rw[hbase] at ag' ag_ atG atH;clear hbase;have s0:=Y9.aF 0;go_upto_region 5 with fail
  clear s0;go_loopw [8,9,34] (fun _ _ v34 wr=>∃(j:Nat) (vs:List Value),j<=g/\v34=av j/\ah (aq wr G cK vs)/\ah (cU wr base vs (rZ g p j))/\ah (aZ [G] W4 wr)/\base<=wr.heap.size/\ah (aq wr q gH [aG G 0 (g.length+1) (g.length+1),aG kb 0 g g,aG s 0 g g,.slice none 0 0])) (fun _ _ v34 _=>g - (RowKit.intOf v34).toNat);exact⟨0,_,aU _,rfl,pE,YA,VF,JS,B4⟩;clear JS B4;obtain⟨j,vs,hj,rfl,HT,HF,C,L,HP⟩:=hrel;by_cases kR:j<g
  ·have d6:j<(si g p).length:=by rw[<-au1.ae];exact kR
   have Y:IL wr (.slice B g c) (si g.length p):=(bU cJ d_ dW).keep cJ fun u I=>by simp only[bE] at I;rw[I];exact C.kept fun i J=>by rw[bE] at J;subst J;exact⟨_,_,tu,by decide⟩
   obtain⟨gi,oi,rfl,_,hc⟩:=ij Y d6;rw[anS] at hc;have DT:=XZ j kR;have WN:kg g (p j)<=g.length:=by
    cases Gy:p j with
    |none=>exact aL _
    |some b=>exact rJ (DT b Gy)
   have HKJ:=af (tj j WN);have hl:(rZ g p j)[kg g (p j)]? =some ((List.range j).filter fun a=>kg g (p a)==kg g (p j)):=amy WN;have jU:((List.range j).filter fun a=>kg g (p a)==kg g (p j)).length<=12:=(by have:=mP (fun a=>kg g (p a)==kg g (p j)) (List.range j);rw[i7] at this;omega)
   have HPJ:ah (∀b,p j=some b->b<g):=DT;clear Y d6 DT;generalize((List.range j).filter fun a=>kg g.length (p a)==kg g.length (p j))=l at*;go_upto_if 40 with fail
   go_cut [8,9,34] from 34 to 54 (fun s8 s9 s34 wx=>s8=av j/\s34=av j/\s9=av (kg g (p j):Nat)/\wx=wr)
   case first=>
    cases Gy:p j with
    |none=>rw[Gy] at hc;go_wp2;go_meet;case rel=>exact⟨rfl,rfl,by rw[Gy];rfl,rfl⟩
    |some b=>rw[Gy] at hc;have hc:aA wr gi (oi+j) (av (b:Nat)):=hc;have d1:decide ((b:Int)<0)=false:=aW;go_wp2;go_meet;case rel=>exact⟨rfl,rfl,by rw[Gy];rfl,rfl⟩
   case rest=>
    obtain⟨rfl,rfl,rfl,hw⟩:=hcut;clear hc;obtain rfl:wr=wc:=hw.symm;clear hw;have xY:=ag';have uo:=ag_;have Km:q≠G:=fun e=>iZ.1 e.symm;generalize kg g.length (p j)=ix at*;have awG:(ix:Int)<(g.length:Int)+1:=Om;go_upto_region 9 with fail
    have td:=af HP.drew;have py:=af HT.drew;have EA:ah (cU wr.drew base vs (rZ g p j)):=HF.ext (aB wr).drew;have Yr:=af C.drew;have hs2:base<=wr.drew.heap.size:=L;obtain⟨Ar,cr,xr,vM,i4,HRc⟩:=EA.PV hl;have kU:=af vM;have bK:ah (∀z,(aq z q gH [aG G 0 (g.length+1) (g.length+1),aG kb 0 g g,aG s 0 g g,.slice none 0 0]/\aq z G cK vs)->(aA z q 0 (aG G 0 (g.length+1) (g.length+1))/\aA z q 1 (aG kb 0 g g)/\aA z q 2 (aG s 0 g g)/\aA z q 3 (.slice none 0 0))/\aA z G ix (.slice Ar (l) cr)):=fun z h=>⟨h.1.four,h.2.cell kU⟩;have aJ:ah (aq wr.drew q gH [aG G 0 (g.length+1) (g.length+1),aG kb 0 g g,aG s 0 g g,.slice none 0 0]/\aq wr.drew G cK vs):=⟨td,py⟩;have mH:ah (∀z,aq z q gH [aG G 0 (g.length+1) (g.length+1),aG kb 0 g g,aG s 0 g g,.slice none 0 0]->aq z G cK vs->aq z q gH [aG G 0 (g.length+1) (g.length+1),aG kb 0 g g,aG s 0 g g,.slice none 0 0]/\aq z G cK vs):=fun z h1 Z=>⟨h1,Z⟩;clear vM;refine cG (S:=fun z=>aq z q gH [aG G 0 (g.length+1) (g.length+1),aG kb 0 g g,aG s 0 g g,.slice none 0 0]/\aq z G cK vs) (T:=fun j=>decide (12<=j)) Ok ?_;generalize wr.drew=wd at*;refine ax 0 42 ?_;refine ax 1 43 ?_;refine ax 2 44 ?_;refine ax 3 45 ?_;refine ax 4 46 ?_;refine ax 5 47 ?_;refine ax 6 48 ?_;refine ax 7 49 ?_;refine ax 8 50 ?_;refine aO 9 ?_;intro K hK;go_simp;refine hK.ae _ _ (fun _=>mH _ (td.alloc _) (py.alloc _)) ?_;refine aR fun WZ cI BZ=> ?_;have XX:=af (td.ext cI);have Em:=af (py.ext cI);have Yv:ah (cU WZ base vs (rZ g p j)):=EA.ext cI;have Yp:=af (Yr.ext cI);have DO:base<=WZ.heap.size:=aV hs2 cI.size;open q60 in exact agd
  ·obtain rfl:j=g.length:=Om;rw[Hl.ae] at HF;have d1:decide (g<g)=false:=Ou;go_upto_region 12 with fail
   refine gJ fun W5 d8 BD Zb=> ?_;clear atC;go_upto_region 13 with fail
   refine aR fun W6 dR BV=> ?_;have f0:=BV.frozen 0;have s0:=BV.aF 0;obtain⟨W7,iM,B7,K7,N7⟩:=fM (i:=0) BV.ae (Dl q (wr.heap.size+1) gb W5.heap.size);have kT:=af iM;unfold Dl at kT;clear iM;go_upto_region 14 with fail
   rw[kT.ae];have jf:=BD.lt;have lw:=Zb.lt;have D8:=N7.size;have PE:=BV.lt;have HKx:=af (C.kept (u:=mh) fun i J=>by rw[bE] at J;subst J;exact⟨_,_,tu,by decide⟩)
   have ahh:gb∉ [G]:=axH;have Va:kb∉ [G]:=by simp only[bE];exact gU n1
   have ahf:s∉ [G]:=by simp only[bE];exact gU n2
   have HVN:ah (GV g p A1 G kb q gb (wr.heap.size+1) W5.heap.size wr.heap.size W7.heap.size vs wr):=by
    refine⟨HL4.keep qF fun u I=> ?_,HG4.bX C ahh,HT,fun u I=> ?_,⟨_,Yl.bX C Va⟩,⟨_,HP⟩,n1,by omega,by omega,by omega⟩
    ·simp only[bE] at I;rw[I];exact HKx
    ·have Ps:(nU g p)[u]? =some (kids g p (oZ g u)):=(by unfold nU;rw[dK,lV Om];rfl);obtain⟨Au,cu,xu,h1,Z,h3⟩:=HF.PV Ps;exact⟨Au,cu,by rw[jt];exact h1,by rw[jt];exact(bG.of (R:=dw) (by rw[jt];exact Z) h3.ae|>fun h=>by rw[jt] at h;exact h.ls)⟩
   have wH:=af (ajC g p);have KQ:Ext wr W7:=(d8.trans dR).only N7.ae Om;have HVS:ah (oh g p d G kb s q gb (wr.heap.size+1) W5.heap.size wr.heap.size W7.heap.size wr W7 [] (fun _=>false) (.slice none 0 0) (my g)):=by
    refine⟨.gV KQ,aL _,HP.ext KQ,(Zb.ext dR).only N7.ae Om,B7,?_,(Yl.bX C Va).ext KQ,?_⟩
    ·have h:=(BD.ext dR).only N7.ae Om;rwa[ajm d] at h
    ·rw[wH.ae];exact cU.UU W7 W7.heap.size (g.length+1)
   have HHW:ah (aq wr s cK (my g)):=HH4.bX C ahf;have HKI:=af (C.kept (u:=aS) fun i J=>by rw[bE] at J;subst J;exact⟨_,_,tu,by decide⟩)
   have HKR:=af (C.kept (u:=ub) fun i J=>by rw[bE] at J;subst J;exact⟨_,_,tu,by decide⟩);have auA:ah (yh wr (.slice B1 x.ay Xt) x.ay):=(bU oJ jH dW).keep oJ fun u I=>by
    simp only[aK,bJ,or_false] at I;rcases I with rfl|rfl
    ·exact HKR
    ·exact HKI
   have Eg:ah (Ext w wr):=⟨C.os.trans dW.os,C.tape.trans dW.tape,C.output.trans dW.output,aV dW.size C.size,fun i J=>(C.block i (cy J dW.size) axH).trans (dW.block i J)⟩;have Y5:=af (oC.bX C axH);have BRw:=af (Bl.bX C axH);obtain⟨aph,Kg⟩:∃v,vs=v:=⟨_,rfl⟩;have HTw:=HT;have HFw:=HF;rw[Kg] at HTw HFw;clear Kg;have atF:G<wr.heap.size/\kb<wr.heap.size/\s<wr.heap.size/\q<wr.heap.size/\w.heap.size+1+1<wr.heap.size:=(by have:=L;refine⟨by omega,by omega,by omega,by omega,by omega⟩)
   have hrt:=HR.ae;have Lq:=af (aaM HR);have auz:=af (alI HR);have G5:ah (∀c∈kids g p none,OH g p d G kb s q gb (wr.heap.size+1) W5.heap.size wr.heap.size W7.heap.size wr c 0):=fun c hc=>by obtain⟨h1,Z⟩:=ig.1 hc;exact adX HG hrt HVN g c 0 h1 Om (y4 _) (by rw[acE Z];funext a;rw[ES])
   have Ps:(nU g.length p)[g.length]? =some (kids g.length p none):=by
    unfold nU;rw[dK,lV Om];show some (kids g p (oZ g g))=_
    unfold oZ;rw[if_pos rfl]
   obtain⟨Ar,cr,xr,hr1,hr2,hr3⟩:=HF.PV Ps;have LJ:ah (IL wr (.slice Ar (kids g p none) cr) (ints (kids g p none))):=(by have h:=bG.of (R:=dw) (l:=ints (kids g p none)) (by rw[jt];exact hr2) hr3;rw[jt] at h;exact h.ls)
   have sR:(kids g p none).length<=12:=(by have:=mP (fun a=>p a==none) (List.range g);rw[i7] at this;exact aV this hle);have Qi:ah ((ints (kids g.length p none)).length=(kids g.length p none).length):=jt _;have c0:=(HT.ext KQ).cell hr1;have p0:=HVS.pp.aF 0;clear Ps hr1 hr2 hr3 hrt KQ jf lw D8 PE f0 s0 B7 K7 N7 BV Zb BD ahh Va ahf;generalize kids g.length p none=X at*;have Lc:ah (oh g p d G kb s q gb (wr.heap.size+1) W5.heap.size wr.heap.size W7.heap.size wr W7 ((X.take 0).flatMap (tv g p)) (fun _=>false) (.slice none 0 0) (my g)):=HVS;have LR:ah (∀a,(fun _:Nat=>false) a=((X.take 0).flatMap (tv g p)).contains a):=fun a=>by simp
   have Qj:=af (fun(W:au) (h:aZ [q,kb] wr W) (u:TypeId) (h1:gH≠u) (Z:cK≠u)=>oh.Ob HVN h h1 Z);obtain⟨M,rfl⟩:∃M:World,M=wr:=⟨_,rfl⟩;have awZ:M.heap.size<=M.heap.size+1:=Om;generalize M.heap.size+1=eD at*;generalize W5.heap.size=fI at*;generalize W7.heap.size=bs2 at*;go_upto_region 15 with fail
   clear c0 p0;go_loopw [13,64] (fun _ v64 wr=>∃(i:Nat) (dk:Nat->Bool) (wv:Value) (n9:List Value),i<=X/\v64=av i/\ah (∀a,dk a=((X.take i).flatMap (tv g p)).contains a)/\ah (oh g p d G kb s q gb eD fI M.heap.size bs2 M wr ((X.take i).flatMap (tv g p)) dk wv n9)) (fun _ v64 _=>X - (RowKit.intOf v64).toNat);exact⟨0,_,_,_,aU _,rfl,LR,Lc⟩;obtain⟨i,dk,wv,n9,J,rfl,HD,HS⟩:=hrel;by_cases Q:i<X
   ·have Ke:=I4 (f:=tv g p) Q;have ow:=af Ke.2;have uK:ah (((X.take i).flatMap (tv g p))+(tv g p X[i]).length<=12):=aV Ke.1 (aV auz hle);have Y:IL wr (.slice Ar X cr) (ints X):=LJ.keep cJ fun u I=>by simp only[bE] at I;rw[I];exact Qj wr HS.bX _ Od Od
    have ahe:i<(ints X).length:=by rw[Qi.ae];exact Q
    obtain⟨g2,o2,rfl,_,hc⟩:=ij Y ahe;have ut:(ints X)[i]=((X[i]:Nat):Int):=ayd;rw[ut] at hc;have HQ:=af (G5 _ (a8 Q));clear ut Y ahe Ke;generalize X[i]=cc at*;have qr:=af (HQ wr _ _ _ _ HS uK);have v0:=HS.vx.aF 0;unfold Dl at v0;go_wp2_with fail
    refine qr.mono ?_;rintro e4 w4 ⟨mc,VL,U2,KT,rfl,_,_,OC,hs2⟩;rw[<-ow.ae] at hs2;have en:=af hs2;have YH:ah (∀a,KT a=((X.take (i+1)).flatMap (tv g p)).contains a):=fun a=>by rw[OC,HD.ae,ow.ae];simp
    clear hs2 OC v0 hc;go_wp2;go_roundw;exact⟨i+1,KT,VL,U2,by omega,by go_num,YH,en⟩;simp [RowKit.intOf];omega
   ·obtain rfl:i=X.length:=Om;rw[fB] at HD HS;have d2:decide (X<X)=false:=Ou;have ED:=af (Y5.bX HS.bX (by simp only[aK,bJ,or_false,not_or];omega));obtain⟨s0,s1,s2,s3⟩:=ED.four;have HDM:ah (∀a,a<g.length->dk a=true/\a∈X.flatMap (tv g.length p)):=fun a ha=>by have h:=(Lq.2 a).2 ha;exact⟨by rw[HD.ae];simpa using h,h⟩
    have Yk:ah (nR g p dk=zI g p):=kW fun a ha=>by rw[if_pos (HDM a (dL.1 ha)).1]
    have YF:ah (vy g.length d (X.flatMap (tv g.length p))=(List.range g.length).map fun a=>av (d a:Nat)):=kW fun a ha=>by rw[if_pos (HDM a (dL.1 ha)).2]
    generalize X.flatMap (tv g.length p)=wl at*;obtain⟨O,GL⟩:∃b,wr.heap.size=b:=⟨_,rfl⟩;have agX:O<=wr.heap.size:=E6 GL.symm;have atJ:wr.heap.size<=O:=E6 GL;have awQ:M.heap.size<=O:=by rw[<-GL];exact HS.bX.size
    have aw0:M.heap.size<O/\eD<O:=by rw[<-GL];exact⟨HS.db.lt,HS.dx.lt⟩
    have Qm:ah (aq wr s cK (my g)):=HHW.bX HS.bX (by simp only[aK,bJ,or_false,not_or];exact⟨iZ.2.2,gU n3⟩);have HF8:ah (cU wr O (my g) (np g (fun i=>pX d ((x.ay.getD i ([],[])).2)) 0)):=by rw[acq];exact cU.UU _ _ _
    have yJ:ah (aZ [s] wr wr):= .gV (aB wr);have X9:=af HS.pp;have Lv:ah (yh wr (.slice B1 x.ay Xt) x.ay):=auA.keep oJ fun u I=>by
     simp only[aK,bJ,or_false] at I;rcases I with rfl|rfl
     ·exact Qj wr HS.bX _ Od Od
     ·exact Qj wr HS.bX _ Od Od
    have ah7:=af HS.dx;have ah_:ah (aq wr M.heap.size aS ((List.range g).map fun a=>av (d a:Nat))):=by rw[<-YF.ae];exact HS.db
    have axm:=af (show x.ay.length=x.ay from rfl);clear GL;go_upto_region 20 with fail
    clear s0 s1 s2 s3;obtain⟨w8,rfl⟩:∃w8:World,w8=wr:=⟨_,rfl⟩;go_loopw [14,16,18,75] (fun _ _ _ v75 wr=>∃(i:Nat) (vs:List Value),i<=x.ay/\v75=av i/\ah (aq wr s cK vs)/\ah (cU wr O vs (np g (fun i=>pX d ((x.ay.getD i ([],[])).2)) i))/\ah (aZ [s] w8 wr)/\O<=wr.heap.size/\ah (aq wr q gH [aG G 0 (g.length+1) (g.length+1),aG kb 0 g g,aG s 0 g g,wv])) (fun _ _ _ v75 _=>x.ay - (RowKit.intOf v75).toNat);exact⟨0,_,aU _,rfl,Qm,HF8,yJ,agX,X9⟩;clear agX;obtain⟨i,vs,J,rfl,HT,HF,C,L,HP⟩:=hrel;by_cases Y:i<x.ay
    ·have Qh:ah (∀u,cK≠u->Kept u w8 wr):=fun u I=>C.kept fun i J=>by rw[bE] at J;subst J;exact⟨_,_,Qm,I⟩
     have gL:yh wr (.slice B1 x.ay Xt) x.ay:=Lv.keep oJ fun u I=>by
      simp only[aK,bJ,or_false] at I;rcases I with rfl|rfl
      ·exact Qh _ Od
      ·exact Qh _ Od
     obtain⟨g1,o1,Bi,mi,di,rfl,_,dZ,eY,Q⟩:=rV gL Y;have hm:=(bl Q).1;subst hm;have OA:=gC _ (a8 Y);have U5:=jW _ (a8 Y);have Qo:=af (fun h=>acr (m:=g) (j:=i) (f:=fun i=>pX d ((x.ay.getD i ([],[])).2)) h);have D5:∀u,u<g.length->(np g.length (fun i=>pX d ((x.ay.getD i ([],[])).2)) i)[u]? =some ((List.range i).filter fun a=>pX d ((x.ay.getD a ([],[])).2)==u):=fun u I=>Jd I;have HGG:=af D5;have kQ:x.ay.getD i ([],[])=x.ay[i]:=by rw[eG,aX Y];rfl
     simp only[kQ] at Qo;clear D5 kQ gL;generalize x.ay[i]=r at*;obtain⟨rn,ra⟩:=r;simp only at dZ eY Q OA U5 Qo;obtain⟨H,rfl⟩:∃H,ra=ints H:=⟨F0 ra,by unfold ints F0;rw[rK];exact(List.map_id' _).symm.trans (kW fun a ha=>by have:=(OA a ha).1;simp only[Function.comp];omega)⟩;have arI:=(bl Q).2;have Xs:0<(ints H).length:=by
      rcases H with _|⟨y,t⟩
      ·exact absurd rfl U5
      ·rw[jt];simp
     have h0:0<H.length:=by rw[<-jt H];exact Xs
     have Bg:ah (∀a∈H,a<g):=fun a ha=>by have:=(OA (a:Int) (by unfold ints;exact b_.2 ⟨a,ha,rfl⟩)).2;omega
     have hat:F0 (ints H)=H:=(by unfold F0 ints;rw[rK];exact List.map_id' _);have Py:pX d (ints H)=eZ d H H[0]:=by
      unfold pX;rw[hat];congr 1;rcases H with _|⟨y,t⟩
      ·simp at h0
      ·rfl
     have aha:=Bg _ (a8 h0);have uv:=abj (d:=d) Bg aha;rw[Py] at Qo;obtain⟨g3,o3,rfl,_,qh⟩:=ij Q Xs;have ut:(ints H)[0]=((H[0]:Nat):Int):=ayd;rw[ut,kH] at qh;rw[jt] at eY Q arI;have Yn:=af Q;have ah1:=af (jt H);clear ut hat Py OA U5 Xs Q;generalize H[0]=a0 at*;have avw:ah (eZ d (H.take 0) a0=a0):=rfl;have awe:wr.heap.size≥O:=L;go_upto_region 22 with fail
     refine aR fun W9 dQ B9=> ?_;obtain⟨b0,b1⟩:=B9.two;have atW:aA W9 g3 o3 (av (a0:Nat)):=(dQ.cell (p:=aD g3 o3) (by assumption)).trans qh;have HT9:=af (HT.ext dQ);have HF9:ah (cU W9 O vs (np g (fun i=>pX d ((x.ay.getD i ([],[])).2)) i)):=HF.ext dQ;have jZ:=af (C.ext dQ);have HP9:=af (HP.ext dQ);have hs9:O<=W9.heap.size:=aV L dQ.size;have HI9:=af (bU cJ Yn dQ);clear dZ eY qh;go_upto_region 24 with fail
     clear b0 b1 atW;obtain⟨wq,rfl⟩:∃wq:World,wq=wr:=⟨_,rfl⟩;have YC:ah (Ext W9 W9):=aB W9;go_loopw [16,18,87] (fun v16 _ v87 wr=>∃j:Nat,j<=H/\v87=av j/\v16=av (eZ d (H.take j) a0:Nat)/\ah (Ext W9 wr)) (fun _ _ v87 _=>H - (RowKit.intOf v87).toNat)
     exact⟨0,aU _,rfl,by rw[avw.ae],YC⟩;obtain⟨j,hj,rfl,rfl,HE⟩:=hrel;by_cases d6:j<H
     ·obtain⟨g4,o4,e4,_,hc⟩:=ij (bU cJ HI9 HE) (i:=j) (by rw[ah1.ae];exact d6);injection e4 with e4;injection e4 with e41 e42;subst e41 e42;have ut:(ints H)[j]'(by rw[ah1.ae];exact d6)=((H[j]:Nat):Int):=ayd;rw[ut] at hc;have ha:=Bg _ (a8 d6);have qq:ah (eZ d (H.take (j+1)) a0=if d H[j]>d (eZ d (H.take j) a0) then H[j] else eZ d (H.take j) a0):=by rw[ah,fR d6];exact aal
      have o8:eZ d (H.take j) a0<g.length:=abj (fun a ha=>Bg a (nJ ha)) aha;clear ut;generalize H[j]=aj at*;generalize eZ d (H.take j) a0=mj at*;have W_:M.heap.size∉ [s]/\eD∉ [s]:=(by have h1:=Qm.ae;have Z:=ah7.ae;have h3:=ah_.ae;unfold aq at h1 Z h3;simp only[bE];refine⟨fun e=> ?_,by omega⟩;rw[e,h1] at h3;injection h3 with h3;injection h3 with _ h3;exact absurd h3 Od)
      have au':=af ((ah7.bX jZ W_.2).ext HE.ae);have ah':=af ((ah_.bX jZ W_.1).ext HE.ae);have lm:((List.range g).map fun a=>(Value.int .i64 (d a:Nat)))[aj]? =some (av (d aj:Nat)):=by rw[dK,lV ha];rfl
      have hk2:((List.range g).map fun a=>(Value.int .i64 (d a:Nat)))[mj]? =some (av (d mj:Nat)):=by rw[dK,lV o8];rfl
      have bK:ah (∀z:World,(aA z eD 0 (aG M.heap.size 0 g g)/\aA z M.heap.size aj (av (d aj:Nat))/\aA z M.heap.size mj (av (d mj:Nat)))->aA z eD 0 (aG M.heap.size 0 g g)/\aA z M.heap.size aj (av (d aj:Nat))/\aA z M.heap.size mj (av (d mj:Nat))):=fun _ h=>h;have aJ:ah (aA wr.drew eD 0 (aG M.heap.size 0 g g)/\aA wr.drew M.heap.size aj (av (d aj:Nat))/\aA wr.drew M.heap.size mj (av (d mj:Nat))):=⟨au'.drew.cell rfl,ah'.drew.cell lm,ah'.drew.cell hk2⟩;have yG:=af HE.drew;clear lm hk2 W_;go_upto_region 26 with fail
      clear hc;refine cG (S:=fun z=>aA z eD 0 (aG M.heap.size 0 g g)/\aA z M.heap.size aj (av (d aj:Nat))/\aA z M.heap.size mj (av (d mj:Nat))) (T:=fun _=>false) Ok ?_;generalize wr.drew=wd at*;by_cases GG:d aj>d mj
      ·rw[if_pos GG] at qq;have dgt:decide ((d aj:Int)>(d mj:Int))=true:=fN;exact m74
      ·rw[if_neg GG] at qq;have dgt:decide ((d aj:Int)>(d mj:Int))=false:=aW;exact m74
     ·obtain rfl:j=H.length:=Om;rw[fB];have d3:decide (H<H)=false:=Ou;have Be:=af (Qo uv);have hl:=HGG _ uv;have jU:((List.range i).filter fun a=>pX d ((x.ay.getD a ([],[])).2)==eZ d H a0).length<=12:=(by have:=mP (fun a=>pX d ((x.ay.getD a ([],[])).2)==eZ d H a0) (List.range i);rw[i7] at this;omega)
      have HT:=af (HT9.ext HE);have HF:ah (cU wr O vs (np g (fun i=>pX d ((x.ay.getD i ([],[])).2)) i)):=HF9.ext HE;have C:=af (jZ.ext HE);have HP:=af (HP9.ext HE);have L:O<=wr.heap.size:=aV hs9 HE.size;clear hs9;generalize((List.range i).filter fun a=>pX d ((x.ay.getD a ([],[])).2)==eZ d H a0)=l at*;generalize eZ d H a0=hm at*;have Wp:=atJ;have xY:q<O:=Om;have uo:s<O:=Om;have Km:q≠s:=fun e=>iZ.2.2 e.symm;generalize(np g.length (fun i=>pX d ((x.ay.getD i ([],[])).2)) i)=gj at*;go_upto_region 29 with fail
      have td:=af HP.drew;have py:=af HT.drew;have EA:ah (cU wr.drew O vs (gj)):=HF.ext (aB wr).drew;have Yr:=af C.drew;have hs2:O<=wr.drew.heap.size:=L;obtain⟨Ar,cr,xr,vM,i4,HRc⟩:=EA.PV hl;have kU:=af vM;have bK:ah (∀z,(aq z q gH [aG G 0 (g.length+1) (g.length+1),aG kb 0 g g,aG s 0 g g,wv]/\aq z s cK vs)->(aA z q 0 (aG G 0 (g.length+1) (g.length+1))/\aA z q 1 (aG kb 0 g g)/\aA z q 2 (aG s 0 g g)/\aA z q 3 (wv))/\aA z s hm (.slice Ar (l) cr)):=fun z h=>⟨h.1.four,h.2.cell kU⟩;have aJ:ah (aq wr.drew q gH [aG G 0 (g.length+1) (g.length+1),aG kb 0 g g,aG s 0 g g,wv]/\aq wr.drew s cK vs):=⟨td,py⟩;have mH:ah (∀z,aq z q gH [aG G 0 (g.length+1) (g.length+1),aG kb 0 g g,aG s 0 g g,wv]->aq z s cK vs->aq z q gH [aG G 0 (g.length+1) (g.length+1),aG kb 0 g g,aG s 0 g g,wv]/\aq z s cK vs):=fun z h1 Z=>⟨h1,Z⟩;clear vM;refine cG (S:=fun z=>aq z q gH [aG G 0 (g.length+1) (g.length+1),aG kb 0 g g,aG s 0 g g,wv]/\aq z s cK vs) (T:=fun j=>decide (12<=j)) Ok ?_;generalize wr.drew=wd at*;refine ax 0 102 ?_;refine ax 1 103 ?_;refine ax 2 104 ?_;refine ax 3 105 ?_;refine ax 4 106 ?_;refine ax 5 107 ?_;refine ax 6 108 ?_;refine ax 7 109 ?_;refine ax 8 110 ?_;refine aO 9 ?_;intro K hK;go_simp;refine hK.ae _ _ (fun _=>mH _ (td.alloc _) (py.alloc _)) ?_;refine aR fun WZ cI BZ=> ?_;have XX:=af (td.ext cI);have Em:=af (py.ext cI);have Yv:ah (cU WZ O vs (gj)):=EA.ext cI;have Yp:=af (Yr.ext cI);have DO:O<=WZ.heap.size:=aV hs2 cI.size;open q61 in exact agd
    ·obtain rfl:i=x.ay.length:=Om;have d3:decide (x.ay.length<x.ay.length)=false:=Ou;have AG:=HS.ae;have ox:=af ((BRw.bX AG.bX (by simp only[aK,bJ,or_false,not_or];omega)).bX C axH);obtain⟨p0,p1,p2,p3⟩:=HP.four;obtain⟨r0,r1,r2,r3⟩:=ox.four;have f0:=ox.frozen 0;have f1:=ox.frozen 1;have f2:=ox.frozen 2;have f3:=ox.frozen 3;obtain⟨A',c',xs',rfl,_,_,zX,hw2⟩:=(AG.KS.own 0 _ _ rfl rfl).parts;obtain⟨Xz,ahy,H',XD,KX⟩:=Do ox (aG G 0 (g.length+1) (g.length+1)) (aG kb 0 g g) (aG s 0 g g) (.slice A' (ints wl) c');have auf:=af ahy;have Qh:ah (∀u,cK≠u->Kept u w8 wr):=fun u I=>C.kept fun i J=>by rw[bE] at J;subst J;exact⟨_,_,Qm,I⟩
     have XY:ah (F6 Xz (.agg #[aG G 0 (g.length+1) (g.length+1),aG kb 0 g g,aG s 0 g g,.slice A' (ints wl) c']) g (nU g p) (zI g p) (Dg g d x.ay) wl):=by
      have WJ:=(Qh aS Od).trans (XD aS Od);have ahb:w.heap.size+1+1<M.heap.size:=atF.2.2.2.2;refine⟨G,kb,s,A',c',by rw[jt],?_,?_,?_,?_⟩
      ·refine cU.V_ (base:=base) (vs:=aph) (HFw.kept ((Qj w8 AG.bX _ Od Od).trans WJ)) ?_ (by unfold nU;simp) Om;exact((HTw.bX AG.bX (by simp only[aK,bJ,or_false,not_or];exact⟨iZ.1,n1⟩)).bX C (by simp only[bE];exact n2)).only KX.ae Om
      ·rw[<-Yk.ae];refine cU.V_ (base:=bs2) (vs:=n9) (AG.KS.tail.kept WJ) ?_ (by unfold nR;simp) Om;exact(AG.kb.bX C (by simp only[bE];exact n3)).only KX.ae Om
      ·refine cU.V_ (base:=O) (vs:=vs) (HF.kept (XD aS Od)) ?_ (Np _ _ _) Om;exact HT.only KX Om
      ·have h:=(bG.of (R:=dw) zX hw2).ls;have Z:IL Xz (.slice A' (ints wl) c') (ints wl):=h.keep cJ fun u I=>by simp only[bE] at I;rw[I];exact WJ
       rwa[jt] at Z
     have HXF:ah (Ext w Xz):=((Eg.bX AG.bX (fun i J=>by
      simp only[aK,bJ,or_false] at J;omega)).bX C (fun i J=>by
      rw[bE] at J;omega)).only KX.ae Om
     clear AG zX hw2 ahy XD KX;go_wp2_with fail;rw[auf.ae];exact bodyPost_ret (results_cell_row rfl _ _ (w.heap.size+1+1) gH #[aG G 0 (g.length+1) (g.length+1),aG kb 0 g g,aG s 0 g g,.slice A' (ints wl) c'] (0,0) _ rfl H'.ae underlying297 rfl Ok) rfl ⟨_,_,rfl,XY,HXF⟩
abbrev aC:=List UInt8
abbrev nS:TypeId:=67
abbrev fg:TypeId:=75
abbrev lI:TypeId:=37
abbrev tDb:TypeId:=34
abbrev Rw:=List aC×Int
abbrev TL:=Ls bC i3
def fP(w:au)(c:List Value)(x:Rw):Prop:=∃A d,c= [.slice A x.1.length d,av x.2]/\TL w (.slice A x.1.length d) x.1
def fP.iH:jR [bC] fP:=fun _ _ _ _ a ⟨A,d,e,h⟩=>⟨A,d,e,gF jO h a⟩
def k6:=@fP.iH
def fP.two(w:au)(c:List Value)(x:Rw)(h:fP w c x):c.length=2:=ayg
abbrev oq:=Ls fg fP
def sW:=nZ fg fP
def sW.iH:jR [fg,bC] sW:=nZ.iH k6
def tR:=@sW.iH
abbrev iO:=Ls lI sW
def TL.ext{w':au}{l:List aC}(h:TL m p l)(a:Ext m w'):TL w' p l:=bU jO h a
def eB:=@TL.ext
def oq.ext{w':au}{l:List Rw}(h:oq m p l)(a:Ext m w'):oq w' p l:=bU k6 h a
def zD:=@oq.ext
def iO.ext{w':au}{l:List (List Rw)}(h:iO m p l)(a:Ext m w'):iO w' p l:=bU tR h a
def TL.get{n:Nat}{l:List aC}(h:TL m (.slice E n a) l){i:Nat}(f:i<l):
 ∃g o,E=dV g o/\g<m.heap.size/\aA m g (o+i) (aM l[i]):=by
 obtain⟨g,o,d,p,k,j,e⟩:=rY i3.one Od h f;rw[show d=_ from j] at e;have b:=e 0 _ rfl;rw[lF,kH] at b;exact⟨g,o,p,k,b⟩
def rX:=@TL.get
def oq.get{n:Nat}{l:List Rw}(h:oq m (.slice E n a) l){i:Nat}(e:i<l):
 ∃g o B d,E=dV g o/\g<m.heap.size/\aA m g (o+i*2) (.slice B l[i].1 d)/\aA m g (o+i*2+1) (av l[i].2)/\ah (TL m (.slice B l[i].1 d) l[i].1):=by
 obtain⟨g,o,d,k,j,⟨B,p,rfl,f⟩,b⟩:=rY fP.two Od h e;exact⟨g,o,B,p,k,j,b 0 _ rfl,b 1 _ rfl,f⟩
def zC:=@oq.get
def iO.get{n:Nat}{l:List (List Rw)}(h:iO m (.slice E n a) l){i:Nat}(e:i<l):
 ∃g o d b,E=dV g o/\g<m.heap.size/\ah (oq m (.slice d l[i] b) l[i])/\aA m g (o+i) (.slice d l[i] b):=FE h e
def Cq:j7 prog lI fg 2 32:= .mk' (z:= .agg #[.slice none 0 0,av 0]) Ok Ok rfl Od Od
def aj4:j7 prog tDb lI 1 24:= .mk' (z:= .slice none 0 0) Ok Ok rfl Od Od
def alJ(F E:aQ)(A D z C:Nat)(a b:List aC)(w:au)(k:TL w (.slice F A D) a)(B:TL w (.slice E z C) b):
 Calls prog 86 #[.slice F A D,.slice E z C] w fun e G=>e= .returned (.bool (dU a b))/\∃n,G=w.drewN n:=by
 obtain⟨O,M,I⟩:=bl k;obtain⟨N,L,H⟩:=bl B;subst O N;have Q:=af k;have P:=af B;go_enter func86,ntmps86;go_wp2;go_loopw [5] (fun v wr=>∃i:Nat,i<=a/\i<=b/\v=av i/\ah (a.take i=b.take i)/\∃q,wr=w.drewN q) (fun v _=>a - (RowKit.intOf v).toNat)
 exact⟨0,aU _,aU _,rfl,rfl,0,rfl⟩;obtain⟨i,K,J,rfl,l,q,rfl⟩:=hrel;by_cases r:i<a
 ·by_cases j:i<b
  ·obtain⟨g,o,rfl,_,p⟩:=rX Q r;obtain⟨S,R,rfl,_,m⟩:=rX P j;have u:=af (fun h=>aeP r j l h);have s:ah ((a[i]==b[i])=true->a.take (i+1)=b.take (i+1)):=fun h=>by rw[tJ,tJ,l.ae,aX r,aX j,beq_iff_eq.1 h]
   generalize a[i]=x at*;generalize b[i]=y at*;by_cases f:(x==y)=true
   ·have t:=af (s f);go_wp2;go_quiet (fail);go_wp2;go_roundw;exact⟨i+1,by omega,by omega,by go_num,t,_,rfl⟩;simp [RowKit.intOf];omega
   ·have d:(x==y)=false:=ayh;have c:=af (u d);go_wp2;go_quiet (fail);go_wp2;go_quiet (fail);go_wp2;go_ret;exact⟨by rw[c.ae];rfl,UF _ _ _ _⟩
  ·obtain rfl:i=b.length:=Om;have c:=af (Tt l);have d1:decide (b<b)=false:=Ou;have d2:decide (a.length<b.length)=false:=aW;go_wp2;go_ret;exact⟨by rw[c.ae];rfl,_,rfl⟩
 ·obtain rfl:i=a.length:=Om;by_cases j:a<b.length
  ·have c:=af (adh j l);go_wp2;go_ret;exact⟨by rw[c.ae];rfl,_,rfl⟩
  ·have c:ah (dU a b=false):=(by have k:=l.ae;have e:a.length=b.length:=Om;rw[e] at k;exact Tt k);go_wp2;go_ret;exact⟨by rw[c.ae];rfl,_,rfl⟩
def abm(A:aQ)(n c:Nat)(a:List Value)(w:au)(x:A=none->c=0)(o:Sl w bC A a)(s:a.length=n*1)(r:n<=c)(y:∀u∈a,u.oneCell'=true)(D:n<=1000000):
 Calls prog 170 #[.slice A n c] w fun e b=>∃d,e= .returned d/\b.ownsRow w.heap.size bC 1 d n a/\Ext w b:=by
 have B:=af o;have C:=af y;have l:=af s;rcases A with _|j
 ·have v:=x rfl;subst v;obtain rfl:n=0:=Om;have m:a= []:=lU (by rw[l.ae]);subst m;have p:=fun w=>QV w nS bC none 0 0 0 0 str_slice.ht;go_enter func170,ntmps170;go_wp2;go_ret;exact⟨_,rfl,mQ _ _ _ _,aB w⟩
 ·have k:=af (ab2 w bC 1);have g:=af (B.ext ((aB w).alloc (.cells #[] bC)));have f:(0+n)*16<=140737488355328:=Om;have p:=fun w=>QV w nS bC (some j) n c 0 0 str_slice.ht;go_enter func170,ntmps170;go_wp2_with (at_builtin;refine IJ rfl _ _ nS rfl w.heap.size str_slice _ _ _ rfl k.ae (some j) n c a rfl Oe l g C f Ou ?_)
  intro d b q t _;have z:ah (Ext w b):=kI ((aB w).alloc _) k t (aL _);have i:ah (b.ownsRow w.heap.size bC 1 d n a):=by rw[ah];simpa using q
  go_wp2;go_ret;exact⟨_,rfl,i,z⟩
def abn(A:aQ)(n c:Nat)(l:List aC)(w:au)(h:TL w (.slice A n c) l)(t:l.length<=1000):
 Calls prog 170 #[.slice A n c] w fun e f=>∃d b,e= .returned (.slice d n b)/\TL f (.slice d n b) l/\Ext w f:=by
 obtain⟨rfl,j,q,m,o,a⟩:=adi h;have g:=Ch.length (k:=1) (fun c x h=>by rw[show c=_ from h];rfl) a;refine(abm A _ c m w q o g j (Ch.all (fun c x j u i=>by rw[show c=_ from j] at i;simp only[aK,bJ,or_false] at i;rw[i];rfl) a) Om).mono ?_
 rintro e f ⟨s,rfl,p,g⟩;obtain⟨d,b,rfl,r⟩:=aqC (R:=i3) p rfl a;exact⟨d,b,rfl,r,g⟩
end Go.Proofs.YtehkcnbodcdijaaGreatDoor
