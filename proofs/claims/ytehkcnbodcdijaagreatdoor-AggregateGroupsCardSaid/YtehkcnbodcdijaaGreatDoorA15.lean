/- Texts of the proof, part 15. -/
import Derived.Test.YtehkcnbodcdijaaGreatDoorA14
namespace Go.Proofs.YtehkcnbodcdijaaGreatDoor
set_option maxHeartbeats 8000000
set_option linter.all false
set_option maxRecDepth 100000
variable{ar:Prop}
open Go.RowKit Go.Lib Go.Maps Go.ChangeShapes Go.WideShapes Go.ChangeAt Go.Proofs.Tryz
variable{a b c d e f g h:Nat}{i j k l:List Nat}{m n o:World}{p q r s:Value}{t u v:List Value}{w x:TypeId}{y z:Nat→Option Nat}{A:Nat→List Nat}{B C:Int}{E F:Option Addr}{H I:Rat}{J:Nat→Nat}{K:Nat→Bool}{L:List Int}{N:Array Bool}{O:Option Nat}{Q:Act}{R S:Bool}{T:List UInt8}
structure PX(x:aP)(T:List (List Rw)):Prop where
 len:T.length=x.ay.length
 ra:∀(i:Nat) (r:Rl),x.ay[i]? =some r->∀a∈r.2,0<=a/\a<(x.ai.length:Int)
 rl:∀(i:Nat) (r:Rl) (l:List Rw),x.ay[i]? =some r->T[i]? =some l->∀y∈l,y.1.length=r.2.length
def su(x:aP)(T:List (List Rw))(cur:Nat->aC)(on:Nat->Bool)(i:Nat):Bool:=sw on cur (bZ ((x.ay[i]?.map (·.2)).getD [])) (T[i]?.getD [])
structure Y1(w0:au)(jb:Nat)(x:aP)(T:List (List Rw)):Prop where
 jl:jb<w0.heap.size
 jr:∃B d,w0.cell? ⟨jb,1,none⟩=some (.slice B x.ay.length d)/\ah (yh w0 (.slice B x.ay.length d) x.ay)
 tb:∃A c,w0.cell? ⟨jb,4,none⟩=some (.slice A T.length c)/\ah (iO w0 (.slice A T.length c) T)
 ok:PX x T
structure eF(oN oS:Nat)(tX:TypeId)(cs:List Value)(w0 w:au)(xb jb nb sb:Nat)(x:aP)(T:List (List Rw))(cur:Nat->aC)(on:Nat->Bool):Prop where
 ly:Y1 w0 jb x T
 ex:Ext w0 w
 nl:w0.heap.size<=nb
 sl:w0.heap.size<=sb
 ne:nb≠sb
 xn:xb≠nb
 xs:xb≠sb
 sx:aq w xb tX cs
 c0:cs[0]? =some (.pointer (some ⟨jb,0,none⟩))
 cN:cs[oN]? =some (.slice (some ⟨nb,0,none⟩) x.ai.length x.ai.length)
 cS:cs[oS]? =some (.slice (some ⟨sb,0,none⟩) x.ai.length x.ai.length)
 nc:aq w nb bC (tV x.ai.length cur)
 sc:aq w sb fV (fU x.ai.length on)
section
variable{oN oS xb jb nb sb:Nat}{tX:TypeId}{cs:List Value}{w0 w w':au}{x:aP}{T:List (List Rw)}{cur:Nat->aC}{on:Nat->Bool}
theorem eF.xl(h:eF oN oS tX cs w0 w xb jb nb sb x T cur on):xb<w.heap.size:=h.sx.lt
theorem eF.jn(h:eF oN oS tX cs w0 w xb jb nb sb x T cur on):w.cell? ⟨xb,0,none⟩=some (.pointer (some ⟨jb,0,none⟩)):=h.sx.cell h.c0
theorem eF.nw(h:eF oN oS tX cs w0 w xb jb nb sb x T cur on):w.cell? ⟨xb,oN,none⟩=some (.slice (some ⟨nb,0,none⟩) x.ai x.ai):=h.sx.cell h.cN
theorem eF.st(h:eF oN oS tX cs w0 w xb jb nb sb x T cur on):w.cell? ⟨xb,oS,none⟩=some (.slice (some ⟨sb,0,none⟩) x.ai x.ai):=h.sx.cell h.cS
theorem eF.uz(h:eF oN oS tX cs w0 w xb jb nb sb x T cur on):KV oN oS w xb jb nb sb x T cur on:=by obtain⟨B,d,f,e⟩:=h.ly.jr;obtain⟨A,c,b,a⟩:=h.ly.tb;exact⟨⟨h.xl,cy h.ly.jl h.ex.size,h.jn,h.nw,h.st,h.nc,h.sc,B,d,(h.ex.cell h.ly.jl).trans f,bU oJ e h.ex⟩,A,c,(h.ex.cell h.ly.jl).trans b,iO.ext a h.ex⟩
theorem eF.drew(h:eF oN oS tX cs w0 w xb jb nb sb x T cur on):eF oN oS tX cs w0 w.drew xb jb nb sb x T cur on:=⟨h.ly,h.ex.drew,h.nl,h.sl,h.ne,h.xn,h.xs,h.sx,h.c0,h.cN,h.cS,h.nc,h.sc⟩
theorem eF.ext(h:eF oN oS tX cs w0 w xb jb nb sb x T cur on)(k:Ext w w'):eF oN oS tX cs w0 w' xb jb nb sb x T cur on:=
 ⟨h.ly,h.ex.trans k,h.nl,h.sl,h.ne,h.xn,h.xs,h.sx.ext k,h.c0,h.cN,h.cS,h.nc.ext k,h.sc.ext k⟩
theorem eF.past(h:eF oN oS tX cs w0 w xb jb nb sb x T cur on)(k:Only g w w')(a:w0.heap.size<=g)(d:g≠xb)(c:g≠nb)(b:g≠sb):eF oN oS tX cs w0 w' xb jb nb sb x T cur on:=
 ⟨h.ly,h.ex.only k a,h.nl,h.sl,h.ne,h.xn,h.xs,(k.block xb h.xl (by simpa using gU d)).trans h.sx,h.c0,h.cN,h.cS,
  (k.block nb h.nc.lt (by simpa using gU c)).trans h.nc,(k.block sb h.sc.lt (by simpa using gU b)).trans h.sc⟩
theorem eF.Ox(h:eF oN oS tX cs w0 w xb jb nb sb x T cur on)(d:a<x.ai)(t:aC):∃b,w.setCell ⟨nb,a,none⟩ (.string ⟨t.toArray⟩)=b/\ah (eF oN oS tX cs w0 b xb jb nb sb x T (put cur a t) on)/\ah (Only nb w b):=by
 obtain⟨b,e,c,_,f⟩:=fM (i:=a) h.nc (.string ⟨t.toArray⟩);rw[akn d] at c;have k:=f.ae;exact⟨b,e,⟨h.ly,h.ex.only k h.nl,h.nl,h.sl,h.ne,h.xn,h.xs,(k.block xb h.xl (by simpa using h.xn)).trans h.sx,h.c0,h.cN,h.cS,
  c,(k.block sb h.sc.lt (by simpa using gU h.ne)).trans h.sc⟩,k⟩
theorem eF.Dn(h:eF oN oS tX cs w0 w xb jb nb sb x T cur on)(g:a<x.ai)(b:Bool):∃d,w.setCell ⟨sb,a,none⟩ (.bool b)=d/\ah (eF oN oS tX cs w0 d xb jb nb sb x T cur (fun c=>if c=a then b else on c))/\ah (Only sb w d):=by
 obtain⟨d,e,f,_,j⟩:=fM (i:=a) h.sc (.bool b);rw[MU g] at f;have k:=j.ae;exact⟨d,e,⟨h.ly,h.ex.only k h.sl,h.nl,h.sl,h.ne,h.xn,h.xs,(k.block xb h.xl (by simpa using h.xs)).trans h.sx,h.c0,h.cN,h.cS,
  (k.block nb h.nc.lt (by simpa using h.ne)).trans h.nc,f⟩,k⟩
end
def adY{on:Nat->Bool}:(fun b=>if b=a then true else on b)=cW on a:=by
 funext b
 unfold cW;by_cases h:b=a<;>simp [h]
def S8{on:Nat->Bool}:(fun b=>if b=a then false else cW on a b)=fun b=>if b=a then false else on b:=by
 funext b
 unfold cW;by_cases h:b=a<;>simp [h]
def aqq{f:Nat->Bool}:((List.range i).any fun k=> !f (i[k]?.getD 0))= !i.all f:=by rw[aaQ (f:=fun a=> !f a) (fun k b=>by rw[aX b];rfl),lW];simp
def afj(h:ar:=by
 have hit:i<T.length:=by rw[hT.len];exact hi
 have CS:=af (zsm xb jb nb sb i x T cur on x.ay[i] T[i] w h (aX hi) (aX hit) (hT.ra i _ (aX hi)) (hT.rl i _ _ (aX hi) (aX hit)));have he:sw on cur (bZ x.ay[i].2) T[i]=su x T cur on i:=by unfold su;rw[aX hi,aX hit];rfl
 rw[he] at CS;generalize su x T cur on i=b at*;clear he h hT;go_enter ae5,ae3;go_wp2_with fail;refine CS.mono ?_;rintro e w2 ⟨rfl,KJ⟩;have bk:=af KJ;clear KJ hx;go_wp2;exact bodyPost_ret (v:= .bool (!b)) (by simp [results,ae2,go_sem]) rfl ⟨rfl,bk⟩):=h
def afi(h:ar:=by
 obtain⟨n1,n2,n3,n4,n5,n6⟩:=hn;obtain⟨W1,hW1,cD,i5⟩:=h.drew.Ox hv t;obtain⟨W2,hW2,bk,ey⟩:=cD.Dn hv true;have lx:=(h.drew.nc.cell (M0 (cur:=cur) hv));have hfn:=h.drew.nc.frozen v;have hcs:=(cD.sc.cell (qC (on:=on) hv));have qX:=cD.sc.frozen v;rw[adY] at bk;have jI:=af (((gS (S:= [nb,sb]) (aB w)).drew).only i5.ae (.inl Ou));have iA:=af (jI.only ey (.inl Ou));obtain⟨S,fA⟩:∃S:World->Prop,S=fun w'=>w'.cell? ⟨bx,0,none⟩=some (.pointer (some ⟨xb,0,none⟩))/\w'.cell? ⟨bv,0,none⟩=some (.int .i64 v)/\w'.cell? ⟨xb,oX,none⟩=some (.slice (some ⟨nb,0,none⟩) x.ai x.ai)/\w'.cell? ⟨xb,oW,none⟩=some (.slice (some ⟨sb,0,none⟩) x.ai x.ai):=⟨_,rfl⟩;have bK:ah (∀w',S w'->w'.cell? ⟨bx,0,none⟩=some (.pointer (some ⟨xb,0,none⟩))/\w'.cell? ⟨bv,0,none⟩=some (.int .i64 v)/\w'.cell? ⟨xb,oX,none⟩=some (.slice (some ⟨nb,0,none⟩) x.ai x.ai)/\w'.cell? ⟨xb,oW,none⟩=some (.slice (some ⟨sb,0,none⟩) x.ai x.ai)):=axt;have cF:ah (∀w' cur' J9,aZ [nb,sb] w w'->eF oX oW tX cs w0 w' xb jb nb sb x T cur' J9->S w'):=by
  rw[ah,fA];intro w' cur' J9 hc hs;refine⟨?_,?_,hs.nw,hs.st⟩
  ·rw[<-hx];unfold World.cell?;simp only;rw[hc.block bx nz (by simp [n1,n2])]
  ·rw[<-Ws];unfold World.cell?;simp only;rw[hc.block bv KF (by simp [n3,n4])]
 have HRC:ah (∀w',aZ [nb,sb] w w'->w'.cell? ⟨br,0,none⟩=some (.slice Ar rl cr)/\w'.cell? ⟨bx,0,none⟩=some (.pointer (some ⟨xb,0,none⟩))):=by
  intro w' hc;refine⟨?_,?_⟩
  ·rw[<-hr];unfold World.cell?;simp only;rw[hc.block br hbr (by simp [n5,n6])]
  ·rw[<-hx];unfold World.cell?;simp only;rw[hc.block bx nz (by simp [n1,n2])]
 have aJ:ah (S w.drew):=cF _ _ _ ((gS (aB w)).drew) h.drew;have bB:ah (S W1):=cF _ _ _ jI cD;have wn:=af hW1;have pu:=af hW2;have d_:=af gp;have jH:=af gL;have at1:bx<W2.heap.size:=cy nz iA.size;have qU:=h.ly.ok;have aN:=af qU;clear fA hW1 hW2 hx Ws hr gp gL h qU;go_enter afz,afy;go_upto_region 1 with fail
 refine cG (S:=S) (T:=fun j=>decide (14<=j)) Ok ?_;generalize w.drew=wd at*;refine ax 0 7 ?_;refine ax 1 8 ?_;refine ax 2 9 ?_;refine ax 3 10 ?_;refine ax 4 11 ?_;refine ax 5 12 ?_;refine ax 6 13 ?_;refine ax 7 14 ?_;refine ax 8 15 ?_;refine ax 9 16 ?_;refine ax 10 17 ?_;refine ax 11 18 ?_;refine aO 12 ?_;intro K hK;go_simp;rw[wn.ae];refine hK.ae _ _ (fun _=>bB.ae) ?_;clear hK lx hfn;have aJ:=bB;refine ax 13 19 ?_;refine aO 14 ?_;intro K hK;go_simp;rw[pu.ae];refine hK.ae _ _ Oe ?_;refine bY Ok ?_;clear hK hcs qX;obtain⟨r0,r1⟩:=HRC W2 iA;have at0:=r1;have aw1:=PH.1;have yI:=af (adQ ae4 (fun _ _=>by rfl) (.pointer (some ⟨bx,0,none⟩)) (fun k=> .int .i64 ((rl[k]?.getD 0:Nat):Int)) (fun k=> !su x T (put cur v t) (cW on v) (rl[k]?.getD 0)) (fun W'=>Ext W2 W') Ar rl cr W2 (aB W2) PH.1 PH.2
  (fun W' k hX hk=>by obtain⟨g,o,hA,hc⟩:=d_ W' (iA.ext hX) k hk;exact⟨g,o,hA,by rw[hc,aX hk];rfl⟩)
  (fun W' k hX hk=>by rw[aX hk];exact(ae1 xb jb nb sb rl[k] bx x T _ _ W' (bk.ext hX).uz aN (jH _ (a8 hk)) ((HRC W' (iA.ext hX)).2)).mono fun e w' hh=>⟨hh.1,hX.trans hh.2⟩))
 rw[aqq (f:=fun i=>su x T (put cur v t) (cW on v) i)] at yI;have hb:∃b,b= !rl.all fun i=>su x T (put cur v t) (cW on v) i:=⟨_,rfl⟩;obtain⟨b,hb⟩:=hb;rw[<-hb] at yI;have Qx:=af hb;clear hb;go_wp2_with fail
 refine yI.mono ?_;rintro e8 w8 ⟨rfl,fp⟩;have lz:=af (bk.ext fp);have yJ:=af (iA.ext fp);clear fp r0 r1 at0;go_upto_region 3 with fail
 obtain⟨W9,AE,dQ,lA⟩:=lz.drew.Dn hv false;rw[S8] at dQ;have hcs:=(lz.drew.sc.cell (qC (on:=cW on v) hv));have qX:=lz.drew.sc.frozen v;have aJ:ah (S w8.drew):=cF _ _ _ yJ.drew lz.drew;have jZ:=af (yJ.drew.only lA (.inl Ou));have XH:=af AE;clear AE;refine cG (S:=S) (T:=fun j=>decide (6<=j)) Ok ?_;generalize w8.drew=wd at*;refine ax 0 23 ?_;refine ax 1 24 ?_;refine ax 2 25 ?_;refine ax 3 26 ?_;refine ax 4 27 ?_;refine ax 5 28 ?_;refine aO 6 ?_;intro K hK;go_simp;rw[XH.ae];refine hK.ae _ _ Oe ?_;refine bY Ok ?_;clear hK hcs qX;go_wp2_with fail
 exact bodyPost_ret (v:= .bool b) (by simp [results,afx,go_sem]) rfl ⟨by rw[Qx.ae],dQ,jZ⟩):=h
abbrev NZ.ae5:= @func282
abbrev NZ.ae3:= @ntmps282
abbrev NZ.ae2:= @results282
abbrev NZ.zsm:= @am3
open NZ in
def aqY(xb jb nb sb i bx:Nat)(x:aP)(T:List (List Rw))(cur:Nat->aC)(on:Nat->Bool)(w:au)(h:KV 13 14 w xb jb nb sb x T cur on)(hT:PX x T)(hi:i<x.ay)(hx:w.cell? ⟨bx,0,none⟩=some (.pointer (some ⟨xb,0,none⟩))):
 Calls prog 282 #[.int .i64 i,.pointer (some ⟨bx,0,none⟩)] w fun e w'=>e= .returned (.bool (!su x T cur on i))/\Ext w w':=afj
abbrev De.ae4:=(282:Nat)
abbrev De.afz:= @func281
abbrev De.afy:= @ntmps281
abbrev De.afx:= @results281
abbrev De.ae1:= @aqY
abbrev De.oX:=(13:Nat)
abbrev De.oW:=(14:Nat)
open De in
def arQ(tX:TypeId)(cs:List Value)(xb jb nb sb bx bv br v:Nat)(x:aP)(T:List (List Rw))(cur:Nat->aC)(on:Nat->Bool)(rl:List Nat)(Ar:aQ)(cr:Nat)(t:aC)(w0 w:au)(h:eF 13 14 tX cs w0 w xb jb nb sb x T cur on)(hv:v<x.ai)(gL:∀i∈rl,i<x.ay)
 (nz:bx<w.heap.size) (KF:bv<w.heap.size) (hbr:br<w.heap.size) (hn:bx≠nb/\bx≠sb/\bv≠nb/\bv≠sb/\br≠nb/\br≠sb)
 (hx:w.cell? ⟨bx,0,none⟩=some (.pointer (some ⟨xb,0,none⟩))) (Ws:w.cell? ⟨bv,0,none⟩=some (.int .i64 v)) (hr:w.cell? ⟨br,0,none⟩=some (.slice Ar rl cr))
 (PH:rl.length<=cr/\cr<=maxLen) (gp:∀W3,aZ [nb,sb] w W3->∀k (hk:k<rl.length),∃g o,Ar=some ⟨g,o,none⟩/\W3.cell? ⟨g,o+k,none⟩=some (.int .i64 (rl[k]:Nat))):
 Calls prog 281 #[.string ⟨t.toArray⟩,.pointer (some ⟨bx,0,none⟩),.pointer (some ⟨bv,0,none⟩),.pointer (some ⟨br,0,none⟩)] w fun e w'=>e= .returned (.bool (!rl.all fun i=>su x T (put cur v t) (cW on v) i))/\eF 13 14 tX cs w0 w' xb jb nb sb x T (put cur v t) (fun a=>if a=v then false else on a)/\aZ [nb,sb] w w':=afi
abbrev NY.ae5:= @func333
abbrev NY.ae3:= @ntmps333
abbrev NY.ae2:= @results333
abbrev NY.zsm:= @amN
open NY in
def aqT(xb jb nb sb i bx:Nat)(x:aP)(T:List (List Rw))(cur:Nat->aC)(on:Nat->Bool)(w:au)(h:KV 19 20 w xb jb nb sb x T cur on)(hT:PX x T)(hi:i<x.ay)(hx:w.cell? ⟨bx,0,none⟩=some (.pointer (some ⟨xb,0,none⟩))):
 Calls prog 333 #[.int .i64 i,.pointer (some ⟨bx,0,none⟩)] w fun e w'=>e= .returned (.bool (!su x T cur on i))/\Ext w w':=afj
abbrev Dc.ae4:=(333:Nat)
abbrev Dc.afz:= @func332
abbrev Dc.afy:= @ntmps332
abbrev Dc.afx:= @results332
abbrev Dc.ae1:= @aqT
abbrev Dc.oX:=(19:Nat)
abbrev Dc.oW:=(20:Nat)
open Dc in
def arK(tX:TypeId)(cs:List Value)(xb jb nb sb bx bv br v:Nat)(x:aP)(T:List (List Rw))(cur:Nat->aC)(on:Nat->Bool)(rl:List Nat)(Ar:aQ)(cr:Nat)(t:aC)(w0 w:au)(h:eF 19 20 tX cs w0 w xb jb nb sb x T cur on)(hv:v<x.ai)(gL:∀i∈rl,i<x.ay)
 (nz:bx<w.heap.size) (KF:bv<w.heap.size) (hbr:br<w.heap.size) (hn:bx≠nb/\bx≠sb/\bv≠nb/\bv≠sb/\br≠nb/\br≠sb)
 (hx:w.cell? ⟨bx,0,none⟩=some (.pointer (some ⟨xb,0,none⟩))) (Ws:w.cell? ⟨bv,0,none⟩=some (.int .i64 v)) (hr:w.cell? ⟨br,0,none⟩=some (.slice Ar rl cr))
 (PH:rl.length<=cr/\cr<=maxLen) (gp:∀W3,aZ [nb,sb] w W3->∀k (hk:k<rl.length),∃g o,Ar=some ⟨g,o,none⟩/\W3.cell? ⟨g,o+k,none⟩=some (.int .i64 (rl[k]:Nat))):
 Calls prog 332 #[.string ⟨t.toArray⟩,.pointer (some ⟨bx,0,none⟩),.pointer (some ⟨bv,0,none⟩),.pointer (some ⟨br,0,none⟩)] w fun e w'=>e= .returned (.bool (!rl.all fun i=>su x T (put cur v t) (cW on v) i))/\eF 19 20 tX cs w0 w' xb jb nb sb x T (put cur v t) (fun a=>if a=v then false else on a)/\aZ [nb,sb] w w':=afi
abbrev Jz:TypeId:=179
def bu(x:aP)(h:Nat):List Nat:=bZ ((x.ay[h]?.map (·.2)).getD [])
def bL(T:List (List Rw)):fG:=fun h=>T[h]?.getD []
def bM(x:aP):List Nat:=List.range x.ay.length
def uQ(w:au)(b:Value)(a:Nat->Option aC):Prop:=∀W,Ext w W->∀v:Nat,v<100->(Instr.lookup Jz b (.int .i64 v) true).run prog W= .ok (.tuple #[.string ⟨((a v).getD []).toArray⟩,.bool (a v).isSome]) W
def adD(h:IL m (.slice (some ⟨a,b,none⟩) c d) L):∀j,j<L.length->m.cell? ⟨a,b+j,none⟩=some (.int .i64 (L.getD j 0)):=fun j f=>by obtain⟨r,q,e,_,i⟩:=ij h f;injection e with e;injection e with p k;subst p k;rw[i,eG,aX f];rfl
def adM(A:aQ)(n c:Nat)(l:List Int)(a:Int)(w:au)(h:IL w (.slice A n c) l):
 Calls prog 221 #[.slice A n c,.int .i64 a] w fun e b=>e= .returned (.bool (l.contains a))/\b=w:=by
 obtain⟨rfl,f,d⟩:=bl h;rcases l with _|⟨y,l⟩
 ·exact Tryz.slices_Contains_int_empty A c a w
 ·obtain⟨g,o,rfl,_,_⟩:=ij h (i:=0) Ou;refine(Tryz.slices_Contains_int g o (y::l).length c (y::l) a w (aL _) Om (adD h)).mono ?_;rintro e b ⟨rfl,rfl⟩;exact⟨by rw[fB],rfl⟩
def aej{a:Int}:∀{l:List Int} {i:Nat},a∈l->Lib.idxFrom l a i=((i+l.idxOf a:Nat):Int)
 | [],_,h=>by cases h
 |z::l,i,h=>by
  by_cases e:z=a
  ·subst e;simp [Lib.idxFrom]
  ·have c:a∈l:=by
    rcases aK.1 h with h|h
    ·exact absurd h.symm e
    ·exact h
   have b:(z==a)=false:=beq_eq_false_iff_ne.2 e;simp only[Lib.idxFrom,Rb,b,cond_false,aej c];omega
def aqO(h:B∈L):Lib.idxOf L B=(L.idxOf B:Nat):=by unfold Lib.idxOf;rw[aej h,jL]
def aoG(A:aQ)(n c:Nat)(l:List Int)(a:Int)(w:au)(h:IL w (.slice A n c) l)(d:a∈l):
 Calls prog 271 #[.slice A n c,.int .i64 a] w fun e b=>e= .returned (.int .i64 (l.idxOf a:Nat))/\b=w:=by
 obtain⟨rfl,j,f⟩:=bl h;rcases l with _|⟨y,l⟩
 ·cases d
 ·obtain⟨g,o,rfl,_,_⟩:=ij h (i:=0) Ou;refine(Tryz.slices_Index_int g o (y::l).length c (y::l) a w (aL _) Om (adD h)).mono ?_;rintro e b ⟨rfl,rfl⟩;exact⟨by rw[fB,aqO d],rfl⟩
def tT{x:aP}(h:a<x.ay.length):bu x a=bZ x.ay[a].2:=by unfold bu;rw[aX h];rfl
def aiw(h:∀b∈L,(0:Int)<=b):(bZ L).contains a=L.contains (a:Int):=by
 rw[lW,oF,oF];unfold bZ;rw[b_];constructor
 ·rintro⟨b,d,e⟩;have:=h b d;rwa[show(a:Int)=b by omega]
 ·exact fun c=>⟨a,c,by simp⟩
def mq(x:aP)(v k:Nat):List Nat:=gm (bu x) (List.range k) v
def alL{x:aP}{v:Nat}(h:a<x.ay.length)(c:∀b∈x.ay[a].2,(0:Int)<=b):mq x v (a+1)=if x.ay[a].2.contains (v:Int)=true then mq x v a++ [a] else mq x v a:=by unfold mq gm;rw[EW,rB,qy,Mw,tT h,aiw c];split<;>simp
def anH(x:aP)(v k:Nat):(mq x v k).length<=k:=by unfold mq gm;exact af9
def adf{v:Nat}:∀{l:List Int},(∀a∈l,(0:Int)<=a)->(bZ l).idxOf v=l.idxOf (v:Int)
 | [],_=>rfl
 |a::l,h=>by
  have f:=h a Ou;have c:=adf (v:=v) (l:=l) fun b d=>h b ayi;unfold bZ at c⊢;rw[jc,Rb,Rb,c];have e:(a.toNat==v)=(a==(v:Int)):=(by rw[lW,beq_iff_eq,beq_iff_eq];omega)
  rw[e]
def kN(e:Nat->Option aC)(d:Nat->Bool)(a:Nat->aC)(v c:Nat)(b:List Nat)(l:List Rw):List aC:=(l.filter fun y=>eh d a b y.1&&cH e v (y.1.getD c [])).map fun y=>y.1.getD c []
def ama{d:Nat->Option aC}{c:Nat->aC}{l:List Rw}{y:Rw}:kN d K c a b i (l++ [y])=if (eh K c i y.1&&cH d a (y.1.getD b []))=true then kN d K c a b i l++ [y.1.getD b []] else kN d K c a b i l:=by unfold kN;rw[rB,qy,Mw];split<;>simp
def aoO(a:FuncId)(hid:∀b w,(callFunc a b).run prog w= .ok (.enter a b) w)(g f d:Value)(A:aQ)(c:Nat)(w:au)(i:c<=maxLen):
 Calls prog 233 #[.slice A 0 c,.func (.func a) #[] #[g,f,d]] w fun e w'=>e= .returned (.slice A 0 c)/\w'=w:=by
 have CI:=af (adE a hid g f d (fun _=>undef) (fun _=>false) (fun W=>W=w) A 0 c w rfl (aU _) i (fun W k _ j=>by omega) (fun W k _ j=>by omega));exact m69
def aoQ(a:FuncId)(hid:∀b w,(callFunc a b).run prog w= .ok (.enter a b) w)(f d:Value)(A:aQ)(c:Nat)(w:au)(g:c<=maxLen):
 Calls prog 233 #[.slice A 0 c,.func (.func a) #[] #[f,d]] w fun e w'=>e= .returned (.slice A 0 c)/\w'=w:=by
 have CI:=af (adF a hid f d (fun _=>undef) (fun _=>false) (fun W=>W=w) A 0 c w rfl (aU _) g (fun W k _ i=>by omega) (fun W k _ i=>by omega));exact m69
def Up{w:au}:∀{a:List Value} {l:List aC},Ch (i3 w) a l->a=l.map encStr
 |_,[],h=>h
 |_,t::l,⟨c,r,e,d,b⟩=>by rw[e,Up b,show c=_ from d];rfl
def apJ{l:List aC}(h:bG bC 1 i3 a m (.slice E b c) l)(j:l≠ []):∃g rest,E=some ⟨g,0,none⟩/\a<=g/\aq m g bC (l.map encStr++rest):=by
 obtain⟨u,⟨_,q⟩,p⟩:=h;have f:=Up p;rcases q with⟨_,r⟩|⟨g,t,d,e,o,k,_,_,_,i⟩
 ·exact absurd (lU r) j
 ·injection e with s x v;refine⟨g,d.toList.drop (l.length*1),s,o,?_⟩;unfold aq;rw[k,<-f,<-i,tH]
def aeh(t:aC):∀l:List aC,(oU t l).length<=l.length+1
 | []=>by simp [oU]
 |y::l=>by
  have:=aeh t l;unfold oU;split
  ·simp only[cT];omega
  ·split<;>simp
def acZ:∀l:List aC,(jP l).length<=l.length
 | []=>by simp [jP]
 |t::l=>aV (aeh t (jP l)) (by have:=acZ l;simp only[cT];omega)
def ac5{c:Nat->aC}{t u:aC}:put (put c a u) a t=put c a t:=by
 funext b
 unfold put;by_cases h:b=a<;>simp [h]
def abR{c:Nat->aC}:put c a (c a)=c:=by
 funext b
 unfold put;by_cases h:b=a<;>simp [h]
def Tq{on:Nat->Bool}(h:on a=false):(fun b=>if b=a then false else on b)=on:=by
 funext b
 by_cases e:b=a
 ·rw[if_pos e,e,h]
 ·rw[if_neg e]
def afl(h:ar:=by
 obtain⟨cb,hcb⟩:∃cb,io (bu x) (bL T) (bM x) fx on cur v=cb:=⟨_,rfl⟩;have VG:=af hcb;rw[hcb];clear hcb;have HST:=af h;have sM:=h.xl;have kR:=h.jn;obtain⟨B,d,hr1,jH⟩:=h.uz.st.jr;have d6:=h.uz.st.jl;obtain⟨-,jf,lw⟩:=bl jH;have ou:=af h.ly.ok.ra;have OL:=af h.ly.ok.rl;obtain⟨At,ct,vL,yo⟩:=h.uz.tb;have PN:=h.ly.ok.len;obtain⟨-,ht2,ht3⟩:=bl yo;have HTm:=af hT;have Yw:=af (fun W (hX:Ext w W)=>hF W (h.ex.trans hX) v Om);clear h hT hF;obtain⟨RN,qi⟩:∃RN,x.ay.length=RN:=⟨_,rfl⟩;have jW:=af qi;rw[qi] at hr1 jf jH PN;have hR6:RN<=6:=Om;clear qi;go_enter zL,zK;go_upto_region 2 with fail
 refine vG fun W HX B2 B3 B5=> ?_;have hbl:=B5.lt;have Gt:xb<w.heap.size:=sM;generalize sU:w.heap.size=bb at*;have p2:=B2.aF 0;have c1:=(HX.cell (p:=⟨xb,0,none⟩) ayQ).trans kR;have c2:=(HX.cell (p:=⟨jb,1,none⟩) ayR).trans hr1;go_upto_region 3 with fail
 clear p2 c1 c2;have HW0:=af (aB W);have Hd:ah (bG aS 1 dw W.heap.size W (.slice none 0 0) (ints (mq x v 0))):=ii;go_loopw [6,7,24] (fun _ _ v24 wr=>∃(k:Nat) (sv:Value),k<=RN/\v24= .int .i64 k/\ah (Ext w wr)/\ah (aq wr bb J3 [.pointer (some ⟨xb,0,none⟩)])/\ah (aq wr (bb+1) aS [.int .i64 v])/\ah (aq wr (bb+1+1) cK [sv])/\ah (bG aS 1 dw W.heap.size wr sv (ints (mq x v k)))/\W.heap.size<=wr.heap.size) (fun _ _ v24 _=>RN - (RowKit.intOf v24).toNat)
 exact⟨0,_,aU _,rfl,HX,B2,B3,B5,Hd,aL _⟩;clear B2 B3 B5;obtain⟨k,sv,hk,rfl,HX,B2,B3,B5,HO,hsz⟩:=hrel;by_cases hkN:k<RN
 ·have df:k<x.ay.length:=by rw[jW.ae];exact hkN
  obtain⟨g,o,Bi,mi,di,hB,sT,lQ,sP,jV⟩:=rV jH df;have dZ:=(HX.cell (p:=⟨g,o+k*2,none⟩) sT).trans lQ;have eY:=(HX.cell (p:=⟨g,o+k*2+1,none⟩) sT).trans sP;have hm:=(bl jV).1;subst hm;have d_:=af jV;have Lj:=af (alL (v:=v) df (fun a ha=>(ou k _ (aX df) a ha).1));have hle:=anH x v k;obtain⟨As,PT,xsv,rfl,ahn,ahm,_,_⟩:=HO.parts;clear lQ sP jV;generalize x.ay[k]=rk at*;obtain⟨rn,ra⟩:=rk;simp only at dZ eY d_ Lj;subst hB;go_upto_region 5 with fail
  refine aR fun W3 cE BR=> ?_;have hbr:=BR.lt;have dW:=af (HX.trans cE);have H9:=af (B2.ext cE);have H7:=af (B3.ext cE);have Mb:=af (B5.ext cE);have Hf:=af (HO.ext cJ cE);have hsz':W.heap.size<=W3.heap.size:=aV hsz cE.size;obtain⟨b0,b1⟩:=BR.two;have b2:=H7.aF 0;have CC:=af (adM Bi ra.length di ra v W3 (bU cJ d_ dW));clear B2 B3 B5 hsz dZ eY;go_wp2_with fail
  refine CC.mono ?_;rintro e3 w3 ⟨rfl,rfl⟩;clear b0 b1 b2;cases PG:ra.contains (v:Int) with
  |false=>rw[PG] at Lj;have Vw:ah (mq x v (k+1)=mq x v k):=Lj.ae;clear PG;go_wp2;go_roundw;exact⟨k+1,_,by omega,by go_num,dW,H9,H7,Mb,by rw[Vw.ae];exact Hf,hsz'⟩;simp [RowKit.intOf];omega
  |true=>
   rw[PG] at Lj;have Vw:ah (mq x v (k+1)=mq x v k++ [k]):=Lj.ae;clear PG;have aur:ah (ints (mq x v (k+1))=ints (mq x v k)++ [((k:Nat):Int)]):=by rw[ah,Vw.ae];unfold ints;rw[kE];rfl
   have gp:(ints (mq x v k)).length<=6:=by unfold ints;rw[bP];omega
   clear hle;generalize ints (mq x v k)=zl at*;obtain⟨_,_,xo,ee,_,_,i4,tk⟩:=Hf.parts;injection ee with uy _ ux;subst uy ux;have dC:(zl.length+1)*8<=140737488355328:=Om;have b5:=Mb.aF 0;go_wp2_with (at_builtin;refine gf rfl _ _ cK rfl W.heap.size jo _ _ _ rfl i4.ae #[.int .i64 (k:Int)] 1 1 rfl rfl rfl dC hsz' ?_)
   intro v' sH qN oV _;obtain⟨QL,c10,rfl,_,_,_⟩:=eL qN;have pd:=af (iF (R:=dw) (x:=((k:Nat):Int)) cJ Oe i4 tk rfl qN oV);have Ed:=af (kI dW i4 oV Om);have Mc:=af (gK H9 i4 oV Om);have QK:=af (gK H7 i4 oV Om);have Zf:=af (gK Mb i4 oV Om);have atw:W.heap.size<=sH.heap.size:=aV hsz' oV.size;have b5n:=Zf.aF 0;have f5n:=Zf.frozen 0;obtain⟨GU,OD,Me,XC,uB⟩:=fM (i:=0) Zf.ae (.slice QL (zl.length+1) c10);have aue:=af OD;have XA:=af (pd.only cJ uB hbl Oe);have X11:=af (Ed.only uB Om);have B2m:ah (aq GU bb J3 [.pointer (some ⟨xb,0,none⟩)]):=(uB.block _ Mc.lt Oc).trans Mc.ae;have B3m:ah (aq GU (bb+1) aS [.int .i64 v]):=(uB.block _ QK.lt Ou).trans QK.ae;have atv:W.heap.size<=GU.heap.size:=aV atw uB.size;clear qN oV OD uB XC b5;go_wp2;rw[aue.ae];go_roundw;exact⟨k+1,_,by omega,by go_num,X11,B2m,B3m,Me,by rw[aur.ae];exact XA,atv⟩;simp [RowKit.intOf];omega
 ·have Pu:k=RN:=Om;subst Pu;have d1:decide ((k:Int)<(k:Int))=false:=aW;have s6:ah (mq x v k=gm (bu x) (bM x) v):=by unfold mq bM;rw[jW.ae];rfl
  have ag2:∀f∈gm (bu x) (bM x) v,f<k/\v∈bu x f:=fun f hf=>by obtain⟨h1,h2⟩:=zh.1 hf;unfold bM at h1;rw[jW.ae] at h1;exact⟨dL.1 h1,h2⟩
  have Lq:=af ag2;rw[s6.ae] at HO;clear ag2 Gt;obtain⟨rl,gL⟩:∃rl,gm (bu x) (bM x) v=rl:=⟨_,rfl⟩;have afr:=af gL;rw[gL] at HO Lq hne;clear gL;rcases rl with _|⟨f,tl⟩
  ·exact absurd rfl hne
  obtain⟨hfk,zZ⟩:=Lq f Ou;have mF:f<x.ay.length:=by rw[jW.ae];exact hfk
  rw[tT mF] at zZ;obtain⟨gi,oi,Bi,mi,di,hB,kj,mD,sS,jV⟩:=rV jH mF;have xZ:=(bl jV).1;subst xZ hB;obtain⟨Dt,ahl⟩:=(bl jV).2;have Wt:(v:Int)∈x.ay[f].2:=by unfold bZ at zZ;obtain⟨a,ha,e⟩:=b_.1 zZ;have:=(ou f _ (aX mF) a ha).1;rwa[show(v:Int)=a by omega]
  have EE:ah (bu x f=bZ x.ay[f].2):=tT mF;have Hc:=af (ou f _ (aX mF));generalize hrf:x.ay[f]=rf at*;have ahS:ah (x.ay[f]? =some rf):=by rw[ah,aX mF,hrf]
  clear hrf;obtain⟨rn,ra⟩:=rf;simp only at mD sS jV Dt Wt EE Hc;obtain⟨w4,rfl⟩:∃w4:World,w4=wr:=⟨_,rfl⟩;have HIX:ah (∀m,Calls prog 271 #[.slice Bi ra.length di,.int .i64 v] (w4.drewN m) fun e w'=>e= .returned (.int .i64 (ra.idxOf (v:Int):Nat))/\∃q,w'=w4.drewN q):=fun m=>by refine(aoG Bi ra.length di ra v _ (bU cJ jV (HX.drewN m)) Wt).mono ?_;rintro e w' ⟨h1,rfl⟩;exact⟨h1,m,rfl⟩
  obtain⟨As,PT,xsv,rfl,ahn,ahm,hro,KD⟩:=HO.parts;have z_:=HO.ls;obtain⟨gl,ol,hAs,_,hc0⟩:=ij z_ (i:=0) ayd;subst hAs;have atZ:w4.cell? ⟨gl,ol,none⟩=some (.int .i64 (f:Nat)):=hc0;have hlen:(ints (f::tl)).length=(f::tl).length:=axJ;have b2:=B2.aF 0;have b3:=B3.aF 0;have b5:=B5.aF 0;have c1:=(HX.cell (p:=⟨xb,0,none⟩) ayQ).trans kR;have c2:=(HX.cell (p:=⟨jb,1,none⟩) ayR).trans hr1;have c4:=(HX.cell (p:=⟨gi,oi+f*2,none⟩) kj).trans mD;have c5:=(HX.cell (p:=⟨gi,oi+f*2+1,none⟩) kj).trans sS;clear hc0 z_ hro KD mD sS hr1;go_upto_region 9 with fail
  go_quiet ((go_at_call 271;exact HIX _));have X5:=af (HX.drewN nq);have H9:=af (B2.drewN nq);have H7:=af (B3.drewN nq);have Mb:=af (B5.drewN nq);have mE:W.heap.size<=gl/\gl<(w4.drewN nq).heap.size:=by have h:=HO.blk rfl;exact⟨h.1,h.2.1⟩
  have Hf:=af (HO.ext cJ ((aB w4).drewN nq));have hsz':W.heap.size<=(w4.drewN nq).heap.size:=hsz;clear B2 B3 B5 hsz b2 b3 b5 c1 c2 c4 c5 atZ jV;generalize w4.drewN nq=w5 at*;have Kz:f<T.length:=by rw[PN];exact hfk
  obtain⟨gt,ot,Af,cf,hA,GG,hLf,Kj⟩:=iO.get yo Kz;have Hi:=af hLf.ae;have ahN:ah (T[f]? =some T[f]):=aX Kz;have HLl:=af (OL f (rn,ra) T[f] ahS.ae ahN);have awx:=HTm _ (a8 Kz);generalize T[f]=lf at*;subst hA;obtain⟨-,awz,awy⟩:=bl Hi;have b2:=H9.aF 0;have c1:=(X5.cell (p:=⟨xb,0,none⟩) ayQ).trans kR;have c2:=(X5.cell (p:=⟨jb,4,none⟩) ayR).trans vL;have c4:=(X5.cell (p:=⟨gt,ot+f,none⟩) GG).trans Kj;clear hLf vL Kj kR;generalize T.length=TN at*;go_upto_region 12 with fail
  clear b2 c1 c2 c4;have hia:ra.idxOf (v:Int)<ra.length:=Zh Wt;have Yn:ah ((bZ ra).idxOf v=ra.idxOf (v:Int)):=adf fun a ha=>(Hc a ha).1;generalize ra.idxOf (v:Int)=ia at*;have Es:ah (bG bC 1 i3 w5.heap.size w5 (.slice none 0 0) (kN fx on cur v ia (bZ ra) (lf.take 0))):=ii;have bS:ah (Ext w5 w5):=aB w5;go_loopw [10,12,13,14,66] (fun v10 _ _ _ v66 wr=>∃j:Nat,j<=lf.length/\v66= .int .i64 j/\ah (bG bC 1 i3 w5.heap.size wr v10 (kN fx on cur v ia (bZ ra) (lf.take j)))/\ah (Ext w5 wr)) (fun _ _ _ _ v66 _=>lf.length - (RowKit.intOf v66).toNat)
  exact⟨0,aU _,rfl,Es,bS⟩;obtain⟨j,hj,rfl,HO,HX⟩:=hrel;by_cases d6:j<lf.length
  ·have X6:=af (X5.trans HX);obtain⟨gl2,ol2,Bk,dk,hAf,ahg,lQ,sP,sZ⟩:=zC Hi d6;have dZ:=(X6.cell (p:=⟨gl2,ol2+j*2,none⟩) ahg).trans lQ;have eY:=(X6.cell (p:=⟨gl2,ol2+j*2+1,none⟩) ahg).trans sP;have GN:=HLl _ (a8 d6);have fQ:ah (lf.take (j+1)=lf.take j++ [lf[j]]):=fR d6;have LA:ah (kN fx on cur v ia (bZ ra) (lf.take (j+1))=if (eh on cur (bZ ra) lf[j].1&&cH fx v (lf[j].1.getD ia []))=true then kN fx on cur v ia (bZ ra) (lf.take j)++ [lf[j].1.getD ia []] else kN fx on cur v ia (bZ ra) (lf.take j)):=by rw[ah,fQ.ae];exact ama
   have vO:(kN fx on cur v ia (bZ ra) (lf.take j)).length<=1000:=(by unfold kN;rw[bP];exact aV (mP _ _) axw);clear lQ sP;generalize kN fx on cur v ia (bZ ra) (lf.take j)=lo at*;generalize lf[j]=y at*;obtain⟨yv,yw⟩:=y;simp only at dZ eY sZ GN LA;subst hAf;go_upto_region 14 with fail
   refine aR fun W6 dR BY=> ?_;rw[GN] at sZ;have Wl:ia<yv.length:=by rw[GN];exact hia
   have Li:ah (yv.getD ia []=yv[ia]):=by rw[ah,eG,aX Wl];rfl
   rw[Li.ae] at LA;have X7:=af (X6.trans dR);have ahQ:=af (HST.ext X7);have Mc:=af ((H9.ext HX).ext dR.ae);have QK:=af ((H7.ext HX).ext dR.ae);have rr:=af (HO.ext jO dR);have H57:=af (HX.trans dR);have O2:w5.heap.size<=W6.heap.size:=H57.size;have uG:=af (eB sZ X7);have auG:ah (fx v=none->cH fx v yv[ia]=true):=fun h=>by unfold cH;rw[h]
   have auF:ah (∀z,fx v=some z->cH fx v yv[ia]=(z==yv[ia])):=fun z h=>by unfold cH;rw[h]
   obtain⟨gy,oy,sV,hgy,PF⟩:=rX uG Wl;subst sV;obtain⟨S,fA⟩:∃S:World->Prop,S=fun w'=>w'.cell? ⟨bb,0,none⟩=some (.pointer (some ⟨xb,0,none⟩))/\w'.cell? ⟨bb+1,0,none⟩=some (.int .i64 v)/\w'.cell? ⟨xb,VK,none⟩=some fv/\(Instr.lookup Jz fv (.int .i64 v) true).run prog w'= .ok (.tuple #[.string ⟨((fx v).getD []).toArray⟩,.bool (fx v).isSome]) w':=⟨_,rfl⟩;have bK:ah (∀w',S w'->w'.cell? ⟨bb,0,none⟩=some (.pointer (some ⟨xb,0,none⟩))/\w'.cell? ⟨bb+1,0,none⟩=some (.int .i64 v)/\w'.cell? ⟨xb,VK,none⟩=some fv/\(Instr.lookup Jz fv (.int .i64 v) true).run prog w'= .ok (.tuple #[.string ⟨((fx v).getD []).toArray⟩,.bool (fx v).isSome]) w'):=axt;have aJ:ah (S W6.drew):=by rw[ah,fA];exact⟨Mc.drew.aF 0,QK.drew.aF 0,ahQ.drew.sx.cell GI,Yw.ae _ X7.drew⟩
   clear fA dZ eY;refine cG (S:=S) (T:=fun j=>decide (11<=j)) Ok ?_;have CA:=af (J4 xb jb nb sb f x cur on (rn,ra) (some ⟨gy,oy,none⟩) dk yv yw W6.drew ahQ.drew.uz.st ahS Hc GN (by rw[GN];exact bU jO uG (aB W6).drew));rw[GN] at CA;have uH:=af (rr.ext jO (aB W6).drew);have H58:=af H57.drew;have EH:=af BY.drew;have XQ:=af (eB uG (aB W6).drew);have H8:=af Mc.drew;have Wj:w5.heap.size<=W6.drew.heap.size:=O2;clear BY O2 PF;generalize W6.drew=wd at*;refine ax 0 71 ?_;refine ax 1 72 ?_;refine ax 2 73 ?_;refine ax 3 74 ?_;refine ax 4 75 ?_;refine ax 5 76 ?_;refine ax 6 70 ?_;refine ax 7 77 ?_;refine ax 8 78 ?_;refine ax 9 13 ?_;refine ax 10 14 ?_;refine bY Ok ?_;have b2:=H8.aF 0;obtain⟨y0,y1⟩:=EH.two;go_wp2_with fail
   refine CA.mono ?_;rintro e9 w9 ⟨rfl,lj⟩;have lA:=af (uH.ext jO lj);have YV:=af (H58.trans lj);have BY9:=af (EH.ext lj);have hz9:w5.heap.size<=w9.heap.size:=YV.size;obtain⟨gy2,oy2,Vj,_,PF⟩:=rX (eB XQ lj) Wl;injection Vj with Vj;injection Vj with e1 e2;subst e1 e2;obtain⟨Ao,co,xo,rfl,KD,_,i4,tk⟩:=lA.parts;obtain⟨y0,y1⟩:=BY9.two;clear lj b2 y0 y1 Wj;obtain⟨y0,y1⟩:=BY9.two;generalize eh on cur (bZ ra) yv=ab at*;generalize cH fx v yv[ia]=kb at*;generalize yv[ia]=t at*;have dC:(lo.length+1)*16<=140737488355328:=Om;cases ab with
   |false=>exact agz
   |true=>
    rcases x4:fx v with _|z
    ·have hkb:=auG x4;subst hkb;have OM:ah (kN fx on cur v ia (bZ ra) (lf.take (j+1))=lo++ [t]):=ayL;exact m50
    ·have hkb:=auF z x4;by_cases hzt:z=t
     ·subst hzt;rw[beq_self_eq_true] at hkb;subst hkb;have OM:ah (kN fx on cur v ia (bZ ra) (lf.take (j+1))=lo++ [z]):=ayL;exact m50
     ·have ath:(z==t)=false:=beq_eq_false_iff_ne.2 hzt;rw[ath] at hkb;subst hkb;exact agz
  ·have hT:lf.take j=lf:=dD Om;rw[hT] at HO;have d1:decide ((j:Int)<(lf.length:Int))=false:=aW;clear hT;have qr:ah (xI (bu x) (bL T) (bM x) fx on cur v=kN fx on cur v ia (bZ ra) lf):=by
    unfold ah xI;rw[afr.ae];simp only;have e1:bL T f=lf:=by unfold bL;rw[ahN.ae];rfl
    unfold kN nY;rw[e1,EE.ae,Yn.ae]
   have tu:ah (cb=(jP (kN fx on cur v ia (bZ ra) lf)).filter fun t=>(f::tl).all fun i=>su x T (put cur v t) (cW on v) i):=(by rw[ah,<-VG.ae];unfold io;rw[qr.ae,afr.ae];rfl);have vO:(kN fx on cur v ia (bZ ra) lf).length<=1000:=(by unfold kN;rw[bP];exact aV (mP _ _) Om);generalize kN fx on cur v ia (bZ ra) lf=lo at*;obtain⟨Ao,co,xo,rfl,KD,hcm,i4,tk⟩:=HO.parts;by_cases D1:lo= []
   ·subst D1;have hce:cb= []:=by rw[tu.ae];rfl
    subst hce;have X8:=af (X5.trans HX);have Ln:=af (Tryz.slices_Sort_string_none Ao co wr);have LU:ah (Calls prog 280 #[.slice Ao 0 co] wr fun e w'=>e= .returned (.slice Ao 0 co)/\w'=wr):=Any.slices_Compact_string_empty aed Ao co wr;have YE:=af (aoO UK (fun _ _=>by rfl) (.pointer (some ⟨bb,0,none⟩)) (.pointer (some ⟨bb+1,0,none⟩)) (.pointer (some ⟨bb+1+1,0,none⟩)) Ao co wr hcm);have eQ:ah (eF oX oW tX cs w0 wr xb jb nb sb x T (put cur v (cur v)) on):=by rw[abR];exact HST.ext X8
    go_wp2_with fail
    refine Ln.mono ?_;rintro e1 w' ⟨rfl,rfl⟩;go_wp2_with fail;refine LU.mono ?_;rintro e1 w' ⟨rfl,rfl⟩;go_wp2_with fail;refine YE.mono ?_;rintro e1 w' ⟨rfl,rfl⟩;go_wp2_with fail;exact bodyPost_ret (v:= .slice Ao 0 co) axX rfl ⟨Ao,co,cur v,rfl,aU _,hcm,fun h=>absurd rfl h,eQ,.gV X8⟩
   ·obtain⟨g,rest,hA,hgb,sV⟩:=apJ HO D1;subst hA;have YQ:=af sV;have X8:=af (X5.trans HX);have eQ:=af (HST.ext X8);have H8:=af (H9.ext HX);have B38:=af (H7.ext HX);have B58:=af (Mb.ext HX);have uH:=af (Hf.ext cJ HX);have Ln:=af (alz (c:=co) YQ vO);have sT:w.heap.size<=g:=by have:=X5.size;omega
    clear sV;go_wp2_with fail;refine Ln.mono ?_;rintro e1 w1 ⟨rfl,hO1,hB1⟩;have LU:=af (amU (c:=co) hB1 vO KD);have i5:=af hO1;clear hB1 hO1;go_wp2_with fail
    refine LU.mono ?_;rintro e1 w2 ⟨rfl,hO2,arl,AH⟩;have ey:=af (i5.trans hO2);have iN:=af AH;have Hj:ah ((jP lo).length<=co/\co<=maxLen):=⟨aV (acZ lo) KD,hcm⟩;clear hO2 AH;have axa:bb+1+1<g:=Om;have vP:nb<bb:=by rw[<-sU];exact HST.nc.lt
    have z7:sb<bb:=by rw[<-sU];exact HST.sc.lt
    have agU:w0.heap.size<=g:=by have:=HST.ex.size;omega
    have awK:g<w2.heap.size:=iN.lt;have en:ah (eF oX oW tX cs w0 w2 xb jb nb sb x T (put cur v (cur v)) on):=by rw[abR];exact eQ.past ey agU Om Om Om
    have B22:ah (aq w2 bb J3 [.pointer (some ⟨xb,0,none⟩)]):=(ey.block _ H8.lt Oc).trans H8.ae;have B32:ah (aq w2 (bb+1) aS [.int .i64 v]):=(ey.block _ B38.lt Oc).trans B38.ae;have B52:ah (aq w2 (bb+1+1) cK [.slice (some ⟨gl,ol,none⟩) (f::tl).length PT]):=(by rw[<-hlen];exact(ey.block _ B58.lt Oc).trans B58.ae)
    have HCX:ah (∀W',aZ [nb,sb,g] w2 W'->aq W' bb J3 [.pointer (some ⟨xb,0,none⟩)]/\aq W' (bb+1) aS [.int .i64 v]/\aq W' (bb+1+1) cK [.slice (some ⟨gl,ol,none⟩) (f::tl).length PT]):=fun W' hc=>
     ⟨(hc.block _ B22.lt Oc).trans B22.ae,(hc.block _ B32.lt Oc).trans B32.ae,(hc.block _ B52.lt Oc).trans B52.ae⟩
    have Qt:ah (∀W',aZ [nb,sb,g] w2 W'->∀q (hq:q<(f::tl).length),∃g' o',(some ⟨gl,ol,none⟩:aQ)=some ⟨g',o',none⟩/\W'.cell? ⟨g',o'+q,none⟩=some (.int .i64 (((f::tl)[q]:Nat):Int))):=(by intro W' hc q hq;obtain⟨g',o',e,hlt,jE⟩:=ij uH.ls (i:=q) (by rw[hlen];exact hq);injection e with e;injection e with e1 e2;subst e1 e2;refine⟨gl,ol,rfl,?_⟩;have h1:=ey.block gl hlt Oc;have h2:=hc.block gl (cy hlt ey.size) Oc;rw[show(ints (f::tl))[q]'(by rw[hlen];exact hq)=(((f::tl)[q]:Nat):Int) by unfold ints;rw[ET]] at jE;rw[<-jE];unfold World.cell?;simp only;rw[h2,h1]);obtain⟨Q,hQ⟩:∃Q:aC->Bool,Q=fun t=> !(f::tl).all fun i=>su x T (put cur v t) (cW on v) i:=⟨_,rfl⟩;have HQ:=af (fun t=>congrFun hQ t);have HCQ:ah ((jP lo).filter (fun t=> !Q t)=cb):=(by rw[ah,tu.ae];refine EQ fun t _=> ?_;rw[HQ.ae t,Bool.not_not])
    clear hQ;have LP:=af (aoP UK (fun _ _=>by rfl) (.pointer (some ⟨bb,0,none⟩)) (.pointer (some ⟨bb+1,0,none⟩)) (.pointer (some ⟨bb+1+1,0,none⟩)) Q (fun W'=>∃u,eF oX oW tX cs w0 W' xb jb nb sb x T (put cur v u) on/\aZ [nb,sb,g] w2 W') g co (jP lo) arl w2 ⟨cur v,en,.gV (aB w2)⟩ iN Hj.1 Hj.2
     (fun W' W'' h ho=>by obtain⟨u,hs,hc⟩:=h;exact⟨u,hs.past ho agU Om Om Om,hc.only ho (.inl Ou)⟩)
     (fun W' t ys h ht Gr=>by
       obtain⟨u,hs,hc⟩:=h;obtain⟨k2,k3,k5⟩:=HCX W' hc;refine(zcn tX cs xb jb nb sb bb (bb+1) (bb+1+1) v x T (put cur v u) on (f::tl) (some ⟨gl,ol,none⟩) PT t w0 W' hs hv (fun i hi=>by rw[jW.ae];exact(Lq i hi).1) k2.lt k3.lt k5.lt ⟨by omega,by omega,by omega,by omega,by omega,by omega⟩ (k2.aF 0) (k3.aF 0) (k5.aF 0) ⟨by rw[<-hlen];exact ahn,ahm⟩
        (fun W3 h3=>Qt W3 (hc.trans (h3.mono fun i hi _=>by simp only[aK,bJ,or_false] at hi⊢;omega)))).mono ?_
       rintro e w' ⟨rfl,hs',hc'⟩;rw[ac5] at hs';rw[Tq Pl] at hs';refine⟨by rw[HQ.ae t,ac5],⟨t,hs',hc.trans (hc'.mono fun i hi _=>by simp only[aK,bJ,or_false] at hi⊢;omega)⟩,?_⟩;exact(hc'.block g Gr.lt Oc).trans Gr))
    rw[HCQ.ae] at LP;have bk:=af (X8.only ey Om);have atU:cb.length<=co:=by rw[tu.ae];exact aV (mP _ _) Hj.1
    go_wp2_with fail
    refine LP.mono ?_;rintro e3 w3 ⟨rfl,⟨u,hs3,hc3⟩,ark,hB3⟩;have qo:=af hs3;have mM:=af hc3;have gP:=af hB3;clear hs3 hc3 hB3;have pE:ah (aZ [nb,sb] w w3):=((gS bk).trans mM.ae).mono fun i hi hlt=>by simp only[aK,bJ,or_false] at hi⊢;omega
    go_wp2_with fail
    exact bodyPost_ret (v:= .slice (some ⟨g,0,none⟩) cb.length co) axX rfl ⟨some ⟨g,0,none⟩,co,u,rfl,atU,hcm,fun _=>⟨g,ark,rfl,sT,gP⟩,qo,pE⟩):=h
abbrev vu.zL:= @func234
abbrev vu.zK:= @ntmps234
abbrev vu.vE:= @results234
abbrev vu.UK:=(281:Nat)
abbrev vu.zcn:= @arQ
abbrev vu.J4:= @TH
abbrev vu.J3:=(249:TypeId)
abbrev vu.VK:=(12:Nat)
abbrev vu.oX:=(13:Nat)
abbrev vu.oW:=(14:Nat)
open vu in
def adT(tX:TypeId)(cs:List Value)(xb jb nb sb v:Nat)(x:aP)(T:List (List Rw))(cur:Nat->aC)(on:Nat->Bool)(fv:Value)(fx:Nat->Option aC)(w0 w:au)(h:eF 13 14 tX cs w0 w xb jb nb sb x T cur on)(Pl:on v=false)(hv:v<x.ai.length)(GI:cs[12]? =some fv)(hF:uQ w0 fv fx)(hne:gm (bu x) (bM x) v≠ [])
 (r6:x.ay.length<=6) (a12:x.ai.length<=12) (hT:∀l∈T,l.length<=1000):
 Calls prog 234 #[.pointer (some ⟨xb,0,none⟩),.int .i64 v] w fun e w'=>∃A c t,e= .returned (.slice A (io (bu x) (bL T) (bM x) fx on cur v).length c)/\(io (bu x) (bL T) (bM x) fx on cur v).length<=c/\c<=maxLen/\
  (io (bu x) (bL T) (bM x) fx on cur v≠ []->∃g rest,A=some ⟨g,0,none⟩/\w.heap.size<=g/\aq w' g bC ((io (bu x) (bL T) (bM x) fx on cur v).map encStr++rest))/\eF 13 14 tX cs w0 w' xb jb nb sb x T (put cur v t) on/\aZ [nb,sb] w w':=afl
abbrev vt.zL:= @func289
abbrev vt.zK:= @ntmps289
abbrev vt.vE:= @results289
abbrev vt.UK:=(332:Nat)
abbrev vt.zcn:= @arK
abbrev vt.J4:= @TD
abbrev vt.J3:=(253:TypeId)
abbrev vt.VK:=(18:Nat)
abbrev vt.oX:=(19:Nat)
abbrev vt.oW:=(20:Nat)
open vt in
def aoM(tX:TypeId)(cs:List Value)(xb jb nb sb v:Nat)(x:aP)(T:List (List Rw))(cur:Nat->aC)(on:Nat->Bool)(fv:Value)(fx:Nat->Option aC)(w0 w:au)(h:eF 19 20 tX cs w0 w xb jb nb sb x T cur on)(Pl:on v=false)(hv:v<x.ai.length)(GI:cs[18]? =some fv)(hF:uQ w0 fv fx)(hne:gm (bu x) (bM x) v≠ [])
 (r6:x.ay.length<=6) (a12:x.ai.length<=12) (hT:∀l∈T,l.length<=1000):
 Calls prog 289 #[.pointer (some ⟨xb,0,none⟩),.int .i64 v] w fun e w'=>∃A c t,e= .returned (.slice A (io (bu x) (bL T) (bM x) fx on cur v).length c)/\(io (bu x) (bL T) (bM x) fx on cur v).length<=c/\c<=maxLen/\
  (io (bu x) (bL T) (bM x) fx on cur v≠ []->∃g rest,A=some ⟨g,0,none⟩/\w.heap.size<=g/\aq w' g bC ((io (bu x) (bL T) (bM x) fx on cur v).map encStr++rest))/\eF 19 20 tX cs w0 w' xb jb nb sb x T (put cur v t) on/\aZ [nb,sb] w w':=afl
def aqp(a b:Bool)(w:au):Calls prog 273 #[.bool a,.bool b] w fun e c=>e= .returned (.bool (a||b))/\c=w:=by go_enter func273,ntmps273;cases a<;>cases b<;>(go_wp2;exact bodyPost_ret (by simp [results,results273,go_sem]) rfl ⟨rfl,rfl⟩)
def ao_(a b:Bool)(w:au):Calls prog 274 #[.bool a,.bool b] w fun e c=>e= .returned (.bool (a&&b))/\c=w:=by go_enter func274,ntmps274;cases a<;>cases b<;>(go_wp2;exact bodyPost_ret (by simp [results,results274,go_sem]) rfl ⟨rfl,rfl⟩)
def ao9(a:Bool)(w:au):Calls prog 275 #[.bool a] w fun e b=>e= .returned (.bool (!a))/\b=w:=by go_enter func275,ntmps275;cases a<;>(go_wp2;exact bodyPost_ret (by simp [results,results275,go_sem]) rfl ⟨rfl,rfl⟩)
def am6(n:Int)(t:ByteArray)(w:au):Calls prog 229 #[av n,.string t] w fun e a=>e= .returned (.bool true)/\a=w:=by go_enter func229,ntmps229;go_wp2;exact bodyPost_ret (by simp [results,results229,go_sem]) rfl ⟨rfl,rfl⟩
def aqo(n:Int)(w:au):Calls prog 230 #[av n] w fun e a=>e= .returned (.bool true)/\a=w:=by go_enter func230,ntmps230;go_wp2;exact bodyPost_ret (by simp [results,results230,go_sem]) rfl ⟨rfl,rfl⟩
def ajP(w:au):Calls prog 228 #[] w fun e a=>e= .returned (.agg #[.bool false,.bool true,.func (.func 273) #[] #[],.func (.func 274) #[] #[],.func (.func 275) #[] #[]])/\Ext w a:=by go_enter func228,ntmps228;go_wp2;exact bodyPost_ret (by simp [results,results228,go_sem]) rfl ⟨rfl,(aB w).alloc _⟩
def PY(a:au)(b:List Value)(n:Nat)(j h i:List (List Nat))(d:List Nat):Prop:=
 ∃g e f A c,b[1]? =some (.slice (some ⟨g,0,none⟩) (n+1) (n+1))/\b[2]? =some (.slice (some ⟨e,0,none⟩) n n)/\b[3]? =some (.slice (some ⟨f,0,none⟩) n n)/\b[4]? =some (.slice A d.length c)/\
  rj a (.slice (some ⟨g,0,none⟩) (n+1) (n+1)) (j.map ints)/\rj a (.slice (some ⟨e,0,none⟩) n n) (h.map ints)/\rj a (.slice (some ⟨f,0,none⟩) n n) (i.map ints)/\IL a (.slice A d.length c) (ints d)
def aqI{k:List (List Nat)}(h:rj m (.slice (some ⟨a,0,none⟩) b c) (k.map ints)){i:Nat}(f:k[i]? =some j):
 ∃A d,a<m.heap.size/\m.cell? ⟨a,i,none⟩=some (.slice A j d)/\ah (IL m (.slice A j d) (ints j))/\i<b:=by
 have p:i<k.length:=by
  rcases cA i k with h|h
  ·exact h
  ·rw[eT h] at f;cases f
 have t:=(bl h).1;obtain⟨z,o,A,d,r,u,s,q⟩:=FE h (i:=i) (by rw[bP];exact p);injection r with r;injection r with y x;subst y x;have e:(k.map ints)[i]'(by rw[bP];exact p)=ints j:=(by rw[ET];rw[aX p] at f;injection f with f;rw[f])
 have v:(ints j).length=j.length:=axJ;rw[e,v] at s q;rw[jL] at q;exact⟨A,d,u,q,s,by rw[t,bP];exact p⟩
def NL{p:List (List Nat)}(h:rj m (.slice (some ⟨a,0,none⟩) b c) (p.map ints))(x:p[d]? =some i):
 ∃A f,ah (∀W,Kept cK m W->W.cell? ⟨a,d,none⟩=some (.slice A i.length f))/\ah (IL m (.slice A i.length f) (ints i))/\d<b:=by
 obtain⟨A,f,E,s,D,C⟩:=aqI h x;refine⟨A,f,fun W k=> ?_,D,C⟩;obtain⟨O,N,t,e,_,_,_,B,_⟩:=h;injection e with e _ _;subst e;have K:(m.heap[a]?).isSome=true:=by rw[Zm E];rfl
 have J:=s;unfold World.cell? at s⊢;simp only at s⊢;have F:∃j o,m.heap[a]? =some (.cells j cK o):=by
  obtain⟨u,z⟩:∃u,t[0]? =some u:=by
   rcases t with _|⟨u,t⟩
   ·exfalso;rename_i v;rcases p with _|⟨q,p⟩
    ·simp at x
    ·obtain⟨M,H,y,⟨_,_,G,_⟩,_⟩:=v;rw[G] at y;cases y
   ·exact⟨u,rfl⟩
  obtain⟨L,I,j,o,e,r,_⟩:=B 0 u z;injection e with e;injection e with e _;subst e;exact⟨j,o,r⟩
 obtain⟨j,o,r⟩:=F;rw[k a j o r,<-r];exact s
def nO(h:IL m (.slice E a b) (ints j)){k:Nat}(f:k<j)(e:Kept aS m n):∃g o,E=some ⟨g,o,none⟩/\n.cell? ⟨g,o+k,none⟩=some (.int .i64 (j[k]:Nat)):=by obtain⟨g,o,q,r,p⟩:=ij (gF cJ h fun t d=>by simp only[aK,bJ,or_false] at d;subst d;exact e) (i:=k) (by unfold ints;rw[bP];exact f);refine⟨g,o,q,?_⟩;rw[p];unfold ints;rw[ET]
def q64.k93(h:ar:=by
 go_enter func231,ntmps231;go_upto_region 1 with fail
 go_quiet (fail);go_wp2;exact bodyPost_ret (v:= .slice B l d) (by simp [results,results231,go_sem]) rfl ⟨B,d,rfl,HB,_,rfl⟩):=h
def ak6(n:TypeId)(g:List Value)(f t r o:Nat)(x:aP)(T:List (List Rw))(b:Nat->aC)(p:Nat->Bool)(i s u:List (List Nat))(j l:List Nat)(k a w:au)(h:eF 13 14 n g k w f t r o x T b p)(hp:PY a g x.ai.length i s u j)(Ks:Kept cK a w)(hl:i[x.ai.length]? =some l)(y:x.ai.length<=12):
 Calls prog 231 #[.pointer (some ⟨f,0,none⟩)] w fun e m=>∃A c,e= .returned (.slice A l c)/\ah (IL a (.slice A l c) (ints l))/\∃q,m=w.drewN q:=by
 open q64 in exact m93
def q65.k93(h:ar:=by
 go_enter func238,ntmps238;go_upto_region 1 with fail
 go_quiet (fail);go_wp2;exact bodyPost_ret (v:= .slice B l d) (by simp [results,results238,go_sem]) rfl ⟨B,d,rfl,HB,_,rfl⟩):=h
def akR(n:TypeId)(g:List Value)(f t r o:Nat)(x:aP)(T:List (List Rw))(b:Nat->aC)(p:Nat->Bool)(i s u:List (List Nat))(j l:List Nat)(k a w:au)(h:eF 19 20 n g k w f t r o x T b p)(hp:PY a g x.ai.length i s u j)(Ks:Kept cK a w)(hl:i[x.ai.length]? =some l)(y:x.ai.length<=12):
 Calls prog 238 #[.pointer (some ⟨f,0,none⟩)] w fun e m=>∃A c,e= .returned (.slice A l c)/\ah (IL a (.slice A l c) (ints l))/\∃q,m=w.drewN q:=by
 open q65 in exact m93
def oL.adj{n:Nat}{adj b:Nat->Nat->Prop}{c:VS}(h:oL adj n c O y)(j:∀x a,c x=true->c a=true->b x a->x≠a->adj x a):oL b n c O y:=
 ⟨h.ch,fun x a i g f e=>h.way x a i g (j x a i g f e) e⟩
def q66.k65(h:ar:=by
 refine⟨d,r,RI r w n none [] hu hk (fun a h=> ?_),Pb,Wq,fun h=> ?_,?_⟩
 ·rcases h with h|⟨b,h,_⟩<;>cases h
 ·exact agl
 ·refine RR (fun v=>yX yY c) (fun v j h f e=> ?_) (ze n none) Pb;have i:=beq_iff_eq.1 (eE.1 f).2;have g:=beq_iff_eq.1 (eE.1 e).2;exact i.symm.trans g):=h
def aiL{n:Nat}{at_:Nat->List Nat}{hl:List Nat}(c:hl.Nodup)(hne:∀t∈hl,at_ t≠ [])(hlt:∀t∈hl,∀a∈at_ t,a<n){q:Nat->Option Nat}(hpl:oL (zR at_ hl) n (iX n) none q):
 ∃d,dr n q d/\Whole n at_ hl (et n q (fun v=>hl.filter fun t=>eZ d (at_ t) ((at_ t).headD 0)==v) n none):=by
 open q66 in exact m65
def j6{x:aP}:a∈bM x↔a<x.ay.length:=by unfold bM;exact dL
def vq{x:aP}(f:a<x.ay)(g:∀c∈x.ay[a].2,(0:Int)<=c):b∈bu x a↔(b:Int)∈x.ay[a].2:=by
 rw[tT f];unfold bZ;rw[b_];constructor
 ·rintro⟨c,i,e⟩;have:=g c i;rwa[show(b:Int)=c by omega]
 ·exact fun h=>⟨_,h,by simp⟩
def akd{x:aP}(k:bV x)(g:∀a,a<x.ai.length->a∈i):
 ∃d,dr x.ai (nj x i) d/\Whole x.ai (bu x) (bM x) (et x.ai (nj x i) (fun v=>(bM x).filter fun t=>eZ d (bu x t) ((bu x t).headD 0)==v) x.ai none):=by
 have s:=zn k.ri;have w:∀a b,fF (gX x.ai x.ay) a b->fF (gX x.ai x.ay) b a:=fun a b h=>by obtain⟨r,j,l,C,B⟩:=(s.bit a b).1 h;exact(s.bit b a).2 ⟨r,j,C,l,B.symm⟩
 obtain⟨_,m⟩:=MW w g (x.ai.length+1) (iX x.ai) none (fun _=>some 0) (fun y u=>of_decide_eq_true u) (by rw[Fi];omega);have f:∀{t:Nat} (c:t<x.ay),∀b∈x.ay[t].2,(0:Int)<=b:=fun c b z=>(k.ri _ (a8 c) b z).1;refine aiL (tK) (fun t c=> ?_) (fun t c a A=> ?_) (m.adj fun a b _ _ q o=> ?_)
 ·have c:=j6.1 c;rw[tT c];intro e;have j:=k.rn _ (a8 c);unfold bZ at e;exact j (List.map_eq_nil_iff.1 e)
 ·have c:=j6.1 c;have j:=(vq c (f c)).1 A;have l:=(k.ri _ (a8 c) _ j).2;omega
 ·obtain⟨t,c,j,l⟩:=q;have c:=j6.1 c;exact(s.bit a b).2 ⟨_,a8 c,(vq c (f c)).1 j,(vq c (f c)).1 l,o.symm⟩
def amJ{x:aP}{d:Nat->Nat}{v:Nat}(b:v<x.ai):(Dg x.ai d x.ay)[v]? =some ((bM x).filter fun t=>eZ d (bu x t) ((bu x t).headD 0)==v):=by unfold Dg;rw[Jd b];refine congrArg some (EQ fun t a=> ?_);have a:=j6.1 a;have e:x.ay.getD t ([],[])=x.ay[t]:=axM;rw[e,tT a];rfl
def aor{n v:Nat}{p:Nat->Option Nat}(a:v<n):(nU n p)[v]? =some (kids n p (some v)):=by
 unfold nU;rw[dK,lV Om];show some (kids n p (oZ n v))=_
 unfold oZ;rw[if_neg Om]
def akC{n:Nat}{p:Nat->Option Nat}:(nU n p)[n]? =some (kids n p none):=by
 unfold nU;rw[dK,lV Om];show some (kids n p (oZ n n))=_
 unfold oZ;rw[if_pos rfl]
def aos{g:List Nat}{v:Nat}{p:Nat->Option Nat}(a:v<g):(zI g p)[v]? =some (oT g p g v):=by unfold zI;rw[dK,lV a];rfl
def Fo.Ok.UB{at_:Nat->List Nat}{hl:List Nat}:∀{f:Fo} {S:List Nat},f.Ok at_ hl S->∀h∈f.homes,∃u∈f.vars,u∈at_ h
 | .nil,_,_,h,a=>by cases a
 | .cons v k b n,S,⟨j,_,i,g⟩,h,a=>by
   simp only[Fo.homes,bO] at a;simp only[Fo.vars,aK,bO];rcases a with a|a|a
   ·exact⟨v,.inl rfl,(j h a).1⟩
   ·obtain⟨u,e,c⟩:=i.UB h a;exact⟨u,.inr (.inl e),c⟩
   ·obtain⟨u,e,c⟩:=g.UB h a;exact⟨u,.inr (.inr e),c⟩
section
variable{n:Nat}{p:Nat->Option Nat}{d:Nat->Nat}{homes:Nat->List Nat}{at_:Nat->List Nat}{hl S:List Nat}{v:Nat}
theorem Sp(r:dr n p d)(b:(eV n p homes v).Ok at_ hl S):∀c∈kids n p (some v),(eV n p homes c).Ok at_ hl (v::S):=by obtain⟨_,_,a,_⟩:=b;have h:jv n p homes v=ei homes (jv n p homes) (kids n p (some v)):=tN r Om;rw[h] at a;exact SI a
theorem aaH(r:dr n p d)(a:(et n p homes n none).Ok at_ hl []):∀c∈kids n p none,(eV n p homes c).Ok at_ hl []:=by have h:et n p homes n none=ei homes (jv n p homes) (kids n p none):=tN r (Mq _ _);rw[h] at a;exact SI a
end
def anp{α:Type}{R:SR α}{U:List aH}{g:Nat->aH->α}{W:Nat->(Nat->aH)->α}{x:aP}(o:bV x){p:Nat->Option Nat}{d:Nat->Nat}{homes:Nat->List Nat}{S:List Nat}{v:Nat}(r:dr x.ai.length p d)(q:v<x.ai.length)
 (hW:∀h e l,(∀a∈bu x h,l a=e a)->W h l=W h e) (i:(eV x.ai.length p homes v).Ok (bu x) (bM x) S) (E:∀a∈S,dF p (some a) v) (j:∀h∈(eV x.ai.length p homes v).homes,h<x.ay.length) {e l:Nat->aH}
 (F:∀a∈oT x.ai.length p (gX x.ai.length x.ay) v,l a=e a):
 (eV x.ai.length p homes v).val R U g W l=(eV x.ai.length p homes v).val R U g W e:=by
 have f:∀{t:Nat} (c:t<x.ay.length),∀b∈x.ay[t].2,(0:Int)<=b:=fun c b G=>(o.ri _ (a8 c) b G).1;have k:∀a∈(eV x.ai.length p homes v).vars,a∉S:=fun a z m=>by
  have B:=(E a m).l8 r a rfl q;rcases(MS r q).1 z with rfl|⟨A,H⟩
  ·omega
  ·have I:=H.l8 r v rfl A;omega
 refine Fo.apj hW i (ML r q) k (fun h D a z m=> ?_) F;obtain⟨u,C,s⟩:=i.UB h D;have c:=j h D;have B:=(vq c (f c)).1 z;have A:=(vq c (f c)).1 s;have w:u≠a:=fun e=>k u C (e▸m);have y:a<x.ai.length:=by have:=(o.ri _ (a8 c) _ B).2;omega
 unfold oT;refine eE.2 ⟨dL.2 y,?_⟩;rw[cV,rS];refine⟨?_,E a m⟩;unfold pV;rw[<-apm v];refine mU.2 ⟨u,C,?_⟩;exact((zn o.ri).bit u a).2 ⟨_,a8 c,A,B,w.symm⟩
def afn{S:List Nat}{b:Nat->aH}:∀{l:List Nat} {r:List aH},rh S b l r=eh (fun a=>S.contains a) b l r
 | [],_=>by unfold rh eh;rfl
 |_::_,[]=>by unfold rh eh;rfl
 |a::l,x::r=>by
  unfold rh eh;rw[afn];congr 2;show decide (b a=x)=_
  rw[lW,decide_eq_true_eq,beq_iff_eq]
section
variable{n:Nat}{p:Nat->Option Nat}{d:Nat->Nat}{homes:Nat->List Nat}{at_:Nat->List Nat}{hl:List Nat}{tab:fG}{fx:Nat->Option aH}{α:Type}{R:SR α}{g:Nat->aH->α}{U:List aH}
noncomputable def zJ(at_:Nat->List Nat)(tab:fG)(hl:List Nat)(fx:Nat->Option aH)(p:Nat->Option Nat)(v:Nat)(a:Nat->aH):List aH:=io at_ tab hl fx (bH p v) a v
theorem Nd(r:dr n p d)(I:a<n)(F:zF at_ tab hl)(L:∀a x,cH fx a x=false->g a x=R.zero)(M:∀h∈hl,∀y∈tab h,∀t∈y.1,t∈U)(o:gm at_ hl a≠ [])(N:∀b,b∈i↔bH p a b=true)(c:Nat->aH):
 (zJ at_ tab hl fx p a c).Nodup/\(∀x∈zJ at_ tab hl fx p a c,x∈U)/\∀x∈U,x∉zJ at_ tab hl fx p a c->g a x=R.zero\/∃h∈hl,a∈at_ h/\∀y∈tab h,rh (a::i) (put c a x) (at_ h) y.1=false:=by
 have z:bH p a a=false:=by
  cases h:bH p a a with
  |false=>rfl
  |true=>have:=(rS.1 h).l8 r a rfl I;omega
 have G:∀x,x∈zJ at_ tab hl fx p a c↔cH fx a x=true/\∀h∈gm at_ hl a,sw (cW (bH p a) a) (put c a x) (at_ h) (tab h)=true:=fun x=>Nf F z o;have A:(fun b=>(a::i).contains b)=cW (bH p a) a:=by
  funext b
  unfold cW;rw[lW,oF,aK,kF,beq_iff_eq,N]
 refine⟨SF acx,fun x w=> ?_,fun x _ w=> ?_⟩
 ·obtain⟨_,E⟩:=(G x).1 w;rcases B:gm at_ hl a with _|⟨j,l⟩
  ·exact absurd B o
  ·obtain⟨f,k⟩:=zh.1 (show j∈gm at_ hl a by rw[B];simp);obtain⟨y,s,e⟩:=mU.1 (E j (by rw[B];simp));have K:=aek k;have J:=Zh k;have H:=F.len j f y s;have u:y.1[(at_ j).idxOf a]? =some (y.1[(at_ j).idxOf a]'Om):=aX Om;have q:=xA.1 e _ _ _ K u (by simp [cW]);unfold put at q;rw[if_pos rfl] at q;rw[q];exact M j f y s _ (a8 _)
 ·by_cases m:cH fx a x=true
  ·refine .inr ?_;have O:∃h∈gm at_ hl a,sw (cW (bH p a) a) (put c a x) (at_ h) (tab h)≠true:=Mg fun C=>w ((G x).2 ⟨m,fun h f=>Mg fun D=>C ⟨h,f,D⟩⟩);obtain⟨h,f,D⟩:=O;obtain⟨E,q⟩:=zh.1 f;refine⟨h,E,q,fun y s=> ?_⟩;rw[afn,A];cases e:eh (cW (bH p a) a) (put c a x) (at_ h) y.1 with
   |false=>rfl
   |true=>exact absurd (mU.2 ⟨y,s,e⟩) D
  ·exact .inl (L a x (by simpa using m))
theorem aaz{f:Nat->Fo}{a:Nat->(Nat->aH)->List aH}{S:List Nat}:∀{l:List Nat},(∀c∈l,(Fo.cons c (homes c) (f c) .nil).FZ at_ hl tab a g U R S)->(ei homes f l).FZ at_ hl tab a g U R S
 | [],_=>trivial
 |c::l,h=>by obtain⟨j,i,_⟩:=h c Ou;exact⟨j,i,aaz fun b e=>h b ayF⟩
theorem aaE(r:dr n p d)(j:zF at_ tab hl)(l:∀v x,cH fx v x=false->g v x=R.zero)(m:∀h∈hl,∀y∈tab h,∀t∈y.1,t∈U)(e:∀v,v<n->gm at_ hl v≠ []):
 ∀(k:Nat) (u:Option Nat) (S:List Nat),(∀c,c<n->p c=u->∀a,a∈S↔bH p c a=true)->(et n p homes k u).FZ at_ hl tab (zJ at_ tab hl fx p) g U R S
 |0,_,_,_=>trivial
 |k+1,u,S,o=>by refine aaz fun c s=> ?_;obtain⟨f,q⟩:=ig.1 s;refine⟨Nd r f j l m (e c f) (o c f q),?_,trivial⟩;refine aaE r j l m e k (some c) (c::S) fun b w i a=> ?_;rw[aK,o c f q a,zv i,kF];unfold VS.one;rw[beq_iff_eq];exact Or.comm
theorem aa4{β:Type}{c:Nat->(Nat->β)->List β}{g:Nat->β->α}{W:Nat->(Nat->β)->α}{f:Nat->Fo}:∀(l:List Nat) (b:Nat->β),(ei homes f l).xS R c g W b=R.prod l fun a=>(Fo.cons a (homes a) (f a) .nil).xS R c g W b
 | [],_=>rfl
 |a::l,b=>by
  show R.mul _ ((ei homes f l).xS R c g W b)=R.mul (R.mul _ R.one) (R.prod l _)
  rw[SR.zV,aa4 l b]
theorem alk(r:dr n p d){β:Type}{a:Nat->(Nat->β)->List β}{g:Nat->β->α}{W:Nat->(Nat->β)->α}(v:Nat)(b:Nat->β):
 (eV n p homes v).xS R a g W b=R.sum (a v b) fun x=>R.mul (R.mul (g v x) (R.prod (homes v) fun h=>W h (put b v x))) (R.prod (kids n p (some v)) fun c=>(eV n p homes c).xS R a g W (put b v x)):=by
 show R.mul (R.sum _ _) R.one=_
 rw[SR.zV];refine u_ fun x _=> ?_;have h:jv n p homes v=ei homes (jv n p homes) (kids n p (some v)):=tN r Om;rw[h,aa4];rfl
theorem abC{s:Int->α}(r:dr n p d)(z:zF at_ tab hl)(A:∀a x,cH fx a x=false->g a x=R.zero)(q:U.Nodup)(C:∀h∈hl,∀y∈tab h,∀t∈y.1,t∈U)(o:∀a,a<n->gm at_ hl a≠ [])
 (l:a<n) (k:(eV n p homes a).Ok at_ hl i) (m:∀e,e∈i↔bH p a e=true) (j:Nat->aH):
 (eV n p homes a).val R U g (fH R at_ tab s) j=R.sum (zJ at_ tab hl fx p a j) fun x=>R.mul (R.mul (g a x) (R.prod (homes a) fun h=>fH R at_ tab s h (put j a x))) (R.prod (kids n p (some a)) fun c=>(eV n p homes c).val R U g (fH R at_ tab s) (put j a x)):=by
 have f:∀(a:Nat) (i:List Nat),a<n->(eV n p homes a).Ok at_ hl i->(∀e,e∈i↔bH p a e=true)->(eV n p homes a).Right U (zJ at_ tab hl fx p) g (fH R at_ tab s) R:=fun a i l k m=>by
  refine k.right (ML r l) (fun e F E=> ?_) ⟨Nd r l z A C (o a l) m,?_,trivial⟩
  ·have D:=(rS.1 ((m e).1 E)).l8 r e rfl l;rcases(MS r l).1 F with rfl|⟨w,G⟩
   ·omega
   ·have I:=G.l8 r a rfl w;omega
  ·refine aaE r z A C o n (some a) (a::i) fun b H u e=> ?_;rw[aK,m e,zv u,kF];unfold VS.one;rw[beq_iff_eq];exact Or.comm
 rw[<-IU q _ j (f a i l k m),alk r a j];refine u_ fun x _=> ?_;congr 1;refine wZ fun c B=> ?_;obtain⟨D,w⟩:=ig.1 B;refine IU q _ _ (f c (a::i) D (Sp r k c B) fun e=> ?_);rw[aK,m e,zv w,kF];unfold VS.one;rw[beq_iff_eq];exact Or.comm
end
end Go.Proofs.YtehkcnbodcdijaaGreatDoor
