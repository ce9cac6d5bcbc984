/- Texts of the proof, part 25. -/
import Derived.Test.YtadbchhdjbghkaaGreatDoorA24
namespace Go.Proofs.YtadbchhdjbghkaaGreatDoor
set_option maxHeartbeats 8000000
set_option linter.all false
set_option maxRecDepth 100000
variable{aq:Prop}
open Go.RowKit Go.Lib Go.Maps Go.ChangeShapes Go.WideShapes Go.ChangeAt Go.Proofs.Tryz
variable{a b c d e f g h:Nat}{i j k l:List Nat}{m n o:World}{p q r s:Value}{t u v:List Value}{w x:TypeId}{y z:Nat→Option Nat}{A:Nat→List Nat}{B C:Int}{E F:Option Addr}{H I:Rat}{J:Nat→Nat}{K:Nat→Bool}{L:List Int}{N:Array Bool}{O:Option Nat}{Q:Act}{R S:Bool}{T:List UInt8}
def aec{P:World->Prop}{t1 t2 t3 t4:TypeId}{a:List Value}(h:∀W,ah (Ext m W)->ah (ar W m.heap.size t1 t)->ah (ar W (m.heap.size+1) t2 u)->ah (ar W (m.heap.size+1+1) t3 v)->ah (ar W (m.heap.size+1+1+1) t4 a)->P W):
 P ((((m.alloc (.cells t.toArray t1)).alloc (.cells u.toArray t2)).alloc (.cells v.toArray t3)).alloc (.cells a.toArray t4)):=by
 exact h _ (((((aB m).alloc _).alloc _).alloc _).alloc _) ((((iT m t1 t).alloc _).alloc _).alloc _) (((jg (m.alloc _) t2 u _ Ou).alloc _).alloc _) ((jg ((m.alloc _).alloc _) t3 v _ Ou).alloc _) (jg (((m.alloc _).alloc _).alloc _) t4 a _ Ou)
def apR:qi sx (0,4,[49]):=⟨by decide,.inr (.inr (.inr (.inl ⟨rfl,by decide,by decide,.inr (.inr (.inr ⟨rfl,1,TG.symm,by unfold lC gJ;decide+kernel⟩))⟩)))⟩
def apS:xS 4 [49,47,50] [49] 1:= .inr (.inr (.inr (.inl ⟨rfl,1/2,1,.inr ⟨by decide,Cz,399,by decide,R3 av4⟩,.inr ⟨by decide,TG.symm,399,by decide,R3 av4⟩,by rw[if_pos ⟨by decide,by decide+kernel⟩]⟩)))
def an3(v:Value)(W:au)(h:dN W v sx)(c:dW W):Calls prog 14 #[v,.agg #[av 0,av 4,.string ⟨#[49]⟩],.string ⟨#[49,47,50]⟩] W fun e b=>e= .returned (.tuple #[.string ⟨#[49]⟩,av 0])/\Ext W b:=by have a:=alD v sx (0,4,[49]) [49,47,50] 1 W h IM apR (.inr (.inr (.inr ⟨rfl,1/2,Cz,by unfold lC gJ;decide+kernel⟩))) apS (R3 av4) c;rw[TG] at a;exact a
def apP(f:ar m a Cj [.string ⟨#[97]⟩,av 2])(e:ar m b aS [av 0])(d:ar m c tk [.string ⟨#[114]⟩,aG b 0 1 1]):
 dN m (.agg #[aG a 0 1 1,aG c 0 1 1,.slice none 0 0,av (-1)]) sx:=
 ⟨_,_,_,_,_,_,rfl,k9 (l:= [(([97]:List UInt8),(2:Int))]) f ⟨_,[],rfl,rfl,rfl⟩ Ou,k9 (l:= [(([114]:List UInt8),([0]:List Int))]) d ⟨_,[],rfl,⟨_,_,_,rfl,k9 (l:= [(0:Int)]) e ⟨_,[],rfl,rfl,rfl⟩ Ou⟩,rfl⟩ Ou,mZ⟩
def tl1{t:aD}(h:ar m a bJ [aL t]):TL m (aG a 0 1 1) [t]:=k9 (l:= [t]) h ⟨_,[],rfl,rfl,rfl⟩ Ou
def aqy(h:ar m a bJ [.string ⟨#[49,47,50]⟩])(g:ar m b bJ [.string ⟨#[50]⟩])(f:ar m c eM [aG a 0 1 1,av 3,aG b 0 1 1,av 1])(e:ar m d kK [aG c 0 2 2]):
 iP m (aG d 0 sD.length 1) sD:=
 k9 (l:=sD) e ⟨_,[],rfl,⟨_,_,rfl,k9 (l:= [(([[49,47,50]]:List aD),(3:Int)),([[50]],1)]) f ⟨[aG a 0 1 1,av 3],_,rfl,⟨_,_,rfl,tl1 h⟩,[aG b 0 1 1,av 1],[],rfl,⟨_,_,rfl,tl1 g⟩,rfl⟩ Ou⟩,rfl⟩ (by simp [sD])
abbrev Fr:List Ag:= [([],[]),([(0,2,[])],[])]
def apU(d:ar m a eO [av 0,av 2,.string ⟨#[]⟩])(c:ar m b n9 [.slice none 0 0,.slice none 0 0,aG a 0 1 1,.slice none 0 0]):
 sH m (aG b 0 Fr.length 2) Fr:=
 k9 (l:=Fr) c ⟨[.slice none 0 0,.slice none 0 0],_,rfl,⟨none,0,none,0,rfl,mZ,mZ⟩,[aG a 0 1 1,.slice none 0 0],[],rfl,⟨dC a 0,1,none,0,rfl,k9 (l:= [((0,2,[]):Fu)]) d ⟨_,[],rfl,rfl,rfl⟩ Ou,mZ⟩,rfl⟩ Ou
def apc(B:ar m a aS [av (-1)]):rG m (.agg #[aG a 0 1 1]) sx:=
 ⟨_,1,fun _=>none,fun _=>0,rfl,k9 (l:= [(-1:Int)]) B ⟨_,[],rfl,rfl,rfl⟩ Ou,apQ⟩
abbrev UX:List (List Gp):= [[([],4)],[([],19/4)]]
def aqx(f:ar m a ew [.slice none 0 0,.string ⟨#[52]⟩])(e:ar m b ew [.slice none 0 0,.string ⟨#[49,57,47,52]⟩])(d:ar m c kM [aG a 0 1 1,aG b 0 1 1]):
 tT m (aG c 0 2 2) UX:=
 k9 (l:=UX) d ⟨[aG a 0 1 1],_,rfl,⟨_,_,rfl,k9 (l:= [(([],4):Gp)]) f ⟨_,[],rfl,⟨none,0,by rw[aqp],mZ⟩,rfl⟩ Ou⟩,[aG b 0 1 1],[],rfl,⟨_,_,rfl,k9 (l:= [(([],19/4):Gp)]) e ⟨_,[],rfl,⟨none,0,by rw[ao6],mZ⟩,rfl⟩ Ou⟩,rfl⟩ Ou
def apT(v o:Value)(i j:aR)(W:au)(h:dN W v sx)(s:rG W o sx)(x:iP W (.slice i sD.length 1) sD)(w:sH W (.slice j Fr.length 2) Fr)(r:dW W):
 Calls prog 8 #[v,o,.slice i 1 1,.slice j 2 2] W fun e b=>∃A c,e= .returned (.tuple #[.slice A 2 c,av 0])/\tT b (.slice A 2 c) UX/\Ext W b:=by
 obtain⟨B,a⟩:=aan sx IM;refine(ado (zq:=gf) (DD:=mO) (MM:=oI) v o sx sD i j 1 2 Fr (ou sx sD B) W h IM s ad2 x Od Od Od Od a w Od (fun y k=>by
  simp only[aJ,bL,or_false] at k;rcases k with rfl|rfl
  ·exact adG IM Od Od aet a apW Od
  ·exact adG IM Od Od aet a apV Od) r).mono ?_
 rintro e b ⟨u,m,rfl,q,d,l,p⟩;obtain⟨G,H,rfl⟩:∃G H,m= [G,H]:=by
  rcases m with _|⟨G,_|⟨H,_|⟨I,t⟩⟩⟩
  ·simp at d
  ·simp at d
  ·exact⟨G,H,rfl⟩
  ·simp at d
 have g:=ad1 a (l 0 Ou Ou);have f:=ad1 a (l 1 Ou Ou);simp only[Le,YK] at g f;rw[apb] at g;rw[apa] at f;subst g f;obtain⟨A,c,n,rfl,z⟩:=q;exact⟨A,c,rfl,⟨A,c,n,rfl,z⟩,p⟩
def ama(w:au)(C:dW w):Calls prog 4 #[] w fun e u=>e= .returned (.bool true)/\Ext w u:=by
 have r:=af C;go_enter func4,ntmps4;go_upto_region 2 with fail
 refine aec fun W N B0 B1 B2 s=> ?_;have O:=af (apP B0 B1 B2);have F:=s.lt;generalize w.heap.size=I at*;generalize I+1=H at*;generalize H+1=G at*;generalize G+1=b3 at*;go_upto_region 3 with fail
 refine aec fun W2 d Z Y X V=> ?_;have R:=af (aqy Z Y X V);have ei:=af (O.ext d);have k:=af (s.ext d);have l:=af (N.trans d);generalize W.heap.size+1+1+1=d3 at*;obtain⟨B,z,y,x⟩:=k.four;go_wp2_with fail
 refine qq (P:=fun W=>Calls _ _ _ W _) fun J a M L K=> ?_;have h:=af (l.trans a);refine(apT _ _ _ _ J (ei.ext a) (apc M) (bU rh R a) (apU L K) (r.ext h)).mono ?_;rintro e t ⟨A,c,rfl,E,g⟩;have Q:=af E;have j:=af (h.trans g);have b:=a.trans g;have o:=af (ei.ext b);have q:=af (k.ext b);obtain⟨B,z,y,x⟩:=q.four;go_wp2_with fail
 refine(an3 _ t o (r.ext j)).mono ?_;rintro e w5 ⟨rfl,f⟩;have n:=af (j.trans f);have p:=af (bU vV Q f);go_wp2_with fail
 refine qq (P:=fun W=>Calls _ _ _ W _) fun W6 i U T S=> ?_;refine(ahC (bU vV p i) (aqx U T S)).mono ?_;rintro e w7 ⟨rfl,D⟩;have m:=af ((n.trans i).trans (Tx D));go_wp2_with fail
 exact bodyPost_ret (v:= .bool true) (by simp [results,results4,go_sem]) rfl ⟨rfl,m⟩
end Go.Proofs.YtadbchhdjbghkaaGreatDoor
