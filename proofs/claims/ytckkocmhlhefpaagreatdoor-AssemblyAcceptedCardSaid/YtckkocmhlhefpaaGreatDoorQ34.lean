import Derived.Test.YtckkocmhlhefpaaGreatDoorQ33
namespace Go.Proofs.YtckkocmhlhefpaaGreatDoor
open Go.RowKit Go.Maps
set_option linter.unusedVariables false
set_option maxRecDepth 100000
set_option maxHeartbeats 400000
open Go renaming World->a0,Addr->ab,Calls->al
open Go.Lib renaming joinTail->am
open Go.Proofs.Tryz renaming prog->ao
open IntKind renaming i64->r
open Value renaming int->af,slice->ag,string->ai,pointer->aq
open _root_ renaming Int->C,List->E,Nat->Q,ByteArray->B,Option->ae,if_neg->ah,UInt8->ak,if_pos->ap
open _root_.Bool renaming true->ad,and_eq_true->ar
open _root_.List renaming length_map->aj,getElem?_map->au,map_map->aw,mem_of_find?_eq_some->ax,mem_of_getElem?->ay,find?_map->az,getElem?_of_mem->b5,map_append->b6,map_cons->b7,map_drop->b8,map_take->b9,prefix_append->ba,prefix_refl->bb
open _root_.List.Pairwise renaming map->bd
open _root_.Nat renaming zero_add->bc
open _root_.Option renaming some->G,none->S
variable{y:E OpA}{o u ct:C->B}{w w' W:a0}{z v c j m:Q}{D:E Value}{ds L:E Dev}{n ix i p:C}{M:E Vir}{f:C->C}{s:B}
def KA (W:a0)(kb base:Q)(L:E Dev)(ct:C->B)(ix:C)(n:Q):Prop:=∃ (a:ae ab) (cap:Q) (ds:E Dev) (ev:ae ab) (en ec:Q),KSt W kb base a cap ds ev en ec ix/\ds.map strip=L/\CtO W ds ct/\en<=n
def EvF (kb base:Q)(w w':a0):Prop:=Fr (λb=>b=kb\/(base<=b/\∃ x,w.heap[b]?=G (.cells x 114 (0,0)))) w w'
theorem EvF.of {y o:Q}{z:ae ab}{A:Q}(u:w.ownsRow o 114 5 (ag z v A) v D)(F:Fr (λb=>b=y\/(Value.slice z v A).ownBlock=G b) w w'):EvF y o w w':=
 F.mono λb _ h=>h.imp_right λh=>by
  have I:=(zAD u h).1;obtain⟨J,rfl,rfl⟩:=zBU h;exact⟨I,zAG u J rfl⟩
theorem EvF.no {u o:Q}(v:Fr No w w'):EvF u o w w':=v.mono λ_ _ h=>h.elim
theorem EvF.trans {u:Q}{y D F:a0}(h:EvF v u y D)(N:EvF v u D F):EvF v u y F:=Fr.step h N λb O z=>by
 by_cases I:b=v\/(u<=b/\∃ x,y.heap[b]?=G (.cells x 114 (0,0)))
 .exact I
 .rcases z with z|⟨A,x,R⟩
  .exact .inl z
  .obtain⟨o,J⟩:∃ o,y.heap[b]?=G o:=⟨_,Array.getElem?_eq_getElem O⟩
   have e:=Fr.heap h J I;rw[R]at e;exact .inr ⟨A,x,by rw[J];exact e.symm⟩
theorem zIZ {o:B}{v:Dev}(h:(ds.map strip).find? (atP (ds.map strip) o)=G v):∃ u,ds.find? (atP ds o)=G u/\strip u=v/\u∈ds:=by
 rw[zFp]at h;obtain⟨u,y,z⟩:=Option.map_eq_some_iff.1 h;exact⟨u,y,z,ax y⟩
theorem zOs (u h n:Q)(L:E Dev)(ct:C->B)(ix:C)(o nm X:B)(x F:Dev)(w:a0)(hK:KA w u h L ct ix n)(hn:n<=60000)(hL:L.length<=250)(hb:h<=(w:Q))(I:L.find? (atP L o)=G F)(v:TreeWf (remL F.index L)):
  al ao 6 #[aq (G ⟨u,0,S⟩),.agg (ocs 2 o x nm X)] w λe w'=>e=.returned (.tuple #[af r 0,af r 0])/\KA w' u h (remL F.index L) ct ix (n+L.length)/\EvF u h w w':=by
 obtain⟨a,J,ds,ev,en,ec,Y,rfl,hC,a2⟩:=hK;obtain⟨N,h1,rfl,_⟩:=zIZ I;rw[aj]at hL;have Z:remL (strip N).index (ds.map strip)=(remL N.index ds).map strip:=zHp;rw[Z]at v;obtain⟨xs,z⟩:=Y.own;refine(zL5 u h a J ds ev en ec ix o nm X x N w Y (by omega) (by omega) hb h1 (λW w' A _ hc=>v.ofStrip (hc.strip.trans (zCD _).symm))).mono ?_;rintro e w' ⟨rfl,⟨a',D,A,O,R,U,g1,g2,g3⟩,V⟩;refine⟨rfl,⟨a',D,A,O,R,U,g1,by rw[Z];exact g3.strip,(AttOf.sub hC (λy hy=>(List.mem_filter.1 hy).1)).cop g3,by rw[aj];omega⟩,EvF.of z V⟩
theorem zOr (y o n:Q)(L:E Dev)(ct:C->B)(ix:C)(v z:B)(x A:Dev)(w:a0)(hK:KA w y o L ct ix n)(hE:Env w)(h8:8<y)(hn:n<=60000)(hL:L.length<=250)(hb:o<=(w:Q))(O:L.find? (atP L v)=G A)(R:A.kind=2)(u:Sound A (cAtt z))(D:L.any (clP A)=false)(hv:z.size<=100000):
  al ao 6 #[aq (G ⟨y,0,S⟩),.agg (ocs 3 v x zM z)] w λe w'=>e=.returned (.tuple #[af r 0,af r 0])/\KA w' y o L (updC ct A.index z) ix (n+1)/\EvF y o w w':=by
 obtain⟨a,U,ds,ev,en,ec,V,rfl,hC,a5⟩:=hK;obtain⟨F,h1,rfl,hm⟩:=zIZ O;rw[aj]at hL;obtain⟨k,hk⟩:=b5 hm;obtain⟨xs,I⟩:=V.own;obtain⟨m,X⟩:=hE.len;have h0:=hE.sz;have J:ds.any (clP F)=false:=by
  have h:(ds.map strip).any (clP (strip F))=ds.any (clP (strip F)):=zFj ds (strip F);rw[h]at D;exact D
 refine(zL4 y o a U ds ev en ec ix ct k v z x F m w V hC (by omega) (by omega) hb hk (zKj V.tr.wf.ok hk) h1 R ⟨u.rng,u.named,u.same,u.num,u.attrs,u.link⟩ J hv X (by omega) (by omega)).mono ?_;rintro e w' ⟨rfl,⟨a',N,Y,Z,a2,a3,g1,g2,g3,g4⟩,a4⟩;exact⟨rfl,⟨a',N,Y,Z,a2,a3,g1,g2,g3,by omega⟩,EvF.of I a4⟩
theorem zMt (A o n:Q)(L:E Dev)(ct:C->B)(ix p:C)(v nm Z y:B)(x:Dev)(w:a0)(hK:KA w A o L ct ix n)(hE:Env w)(h8:8<A)(hn:n<=50000)(a2:0<=ix/\ix<=1000000)(hb:o<=(w:Q))(hA:Atts w x.aa x.ac (cAtt y))(N:x.an=(cAtt y).length)(a3:x.kind=2)(hp:ParIs L v p)(a4:(Lit.int r p).wf=ad)
  (hs:Sized (addD x ix p)) (O:InsPre L (addD x ix p) (cAtt y)) (u:(sameO L (addD x ix p)||L.any (clP (addD x ix p)))=false) (F:TreeWf (insAt L (insK L (addD x ix p)) (strip (addD x ix p)))):
  al ao 6 #[aq (G ⟨A,0,S⟩),.agg (ocs 1 v x nm Z)] w λe w'=>e=.returned (.tuple #[.int r (ix+1),.int r 0])/\KA w' A o (insAt L (insK L (addD x ix p)) (strip (addD x ix p))) (updC ct (ix+1) y) (ix+1) (n+1)/\EvF A o w w':=by
 obtain⟨a,a5,ds,ev,en,ec,hS,rfl,hC,b3⟩:=hK;obtain⟨d,I⟩:∃ d:Dev,d=addD x ix p:=⟨_,rfl⟩
 have e1:d.index=ix+1:=by rw[I];rfl
 have e2:d.aa=x.aa/\d.an=x.an/\d.ac=x.ac:=by rw[I];exact⟨rfl,rfl,rfl⟩
 rw[<-I]at hs O u F ⊢;rw[zEk,zFj]at u;have eI:insAt (ds.map strip) (insK (ds.map strip) d) (strip d)=(insAt ds (insK ds d) d).map strip:=by rw[zD4,zGS]
 rw[eI]at F ⊢;have D:=zEr O;obtain⟨m,a6⟩:=hE.len;have h0:=hE.sz;refine(k_do A v nm Z x (ix+1) 0 w (λw'=>KA w' A o ((insAt ds (insK ds d) d).map strip) (updC ct (ix+1) y) (ix+1) (n+1)/\EvF A o w w') (λW hW=>?_)).mono λ_ _ h=>h
 have J:Fr No w W:=by rw[hW];exact(Fr.refl _ _).alloc _
 have b4:=J.size;have R:=hS.no J;obtain⟨xs,U⟩:=R.own;have V:=hA.no J (λ_=>id);have a7:=hC.no J;have:=zOv A o a a5 ds ev en ec ix v nm Z x 1 p (cAtt y) m W R (by omega) a2 (by omega) V (zCl y) N a3 (I▸hs) (zDr.1 hp) a4 (I▸D) (λ_ w' X hc=>F.ofStrip (by rw[zCD,I];exact hc.strip)) (J.cell a6 id) (by omega) (by omega);refine this.mono ?_;rintro e w' h;rw[<-I]at h;rcases h with⟨g1,_⟩|⟨g1,rfl,⟨a',Y,X,a8,a9,g2,g3⟩,b0⟩
 .rw[u]at g1;cases g1
 .have b1:CtO W (insAt ds (insK ds d) d) (updC ct (ix+1) y):=λz hz=>by
   rcases zX.1 hz with h|h
   .have e3:(λi=>cAtt (updC ct (ix+1) y i)) z.index=cAtt y:=by show cAtt (updC ct (ix+1) y z.index)=_;unfold updC;rw[h,e1,ap rfl]
    rw[e3,h,e2.1,e2.2.1,e2.2.2];exact⟨V,N⟩
   .have b2:z.index≠ix+1:=λe=>(zo.1 D.new) z h (e.trans e1.symm)
    have e3:(λi=>cAtt (updC ct (ix+1) y i)) z.index=cAtt (ct z.index):=by show cAtt (updC ct (ix+1) y z.index)=_;unfold updC;rw[ah b2]
    rw[e3];exact a7 z h
  exact⟨rfl,⟨a',Y,X,a8,en+1,a9,g2,g3.strip,AttOf.cop b1 g3,by omega⟩,(EvF.no J).trans (EvF.of U b0)⟩
def KStp (L:E Dev)(ct:C->B)(ix:C)(o:OpA)(L':E Dev)(ct':C->B)(ix':C):Prop:=
 (o.k=2/\∃ dL,L.find? (atP L o.p)=G dL/\TreeWf (remL dL.index L)/\L'=remL dL.index L/\ct'=ct/\ix'=ix)\/
 (o.k=3/\o.nm=zM/\∃ dL,L.find? (atP L o.p)=G dL/\dL.kind=2/\Sound dL (cAtt o.vl)/\L.any (clP dL)=false/\o.vl.size<=100000/\L'=L/\ct'=updC ct dL.index o.vl/\ix'=ix)\/
 (o.k=1/\o.x.kind=2/\∃ p,ParIs L o.p p/\(Lit.int r p).wf=ad/\Sized (addD o.x ix p)/\InsPre L (addD o.x ix p) (cAtt o.c)/\(sameO L (addD o.x ix p)||L.any (clP (addD o.x ix p)))=false/\TreeWf (insAt L (insK L (addD o.x ix p)) (strip (addD o.x ix p)))/\
  L'=insAt L (insK L (addD o.x ix p)) (strip (addD o.x ix p))/\ct'=updC ct (ix+1) o.c/\ix'=ix+1)
theorem zPJ (v u n:Q)(L R:E Dev)(ct D:C->B)(ix z:C)(o:OpA)(w:a0)(U:KA w v u L ct ix n)(hE:Env w)(h8:8<v)(hn:n<=50000)(hL:L.length<=250)(V:0<=ix/\ix<=1000000)(X:u<=(w:Q))(Y:Atts w o.x.aa o.x.ac (cAtt o.c)/\o.x.an=(cAtt o.c).length)(hs:KStp L ct ix o R D z):
  al ao 6 #[aq (G ⟨v,0,S⟩),.agg o.vals] w λe w'=>(∃ i,e=.returned (.tuple #[af r i,af r 0]))/\KA w' v u R D z (n+L.length+1)/\EvF v u w w':=by
 have F:∀ {W:a0} {L:E Dev} {ct:C->B} {ix:C} {a b:Q},KA W v u L ct ix a->a<=b->KA W v u L ct ix b:=λh Z=>by
  obtain⟨a1,c1,ds,ev,en,ec,y,I,J,N⟩:=h;exact⟨a1,c1,ds,ev,en,ec,y,I,J,Nat.le_trans N Z⟩
 obtain⟨k,p,x,nm,vl,c⟩:=o;unfold OpA.vals;rcases hs with⟨A,dL,y,I,rfl,rfl,rfl⟩|⟨A,e2,dL,y,I,J,N,O,rfl,rfl,rfl⟩|⟨A,h0,a2,y,I,J,N,O,h6,rfl,rfl,rfl⟩
 .dsimp only at A y;subst A;exact(zOs v u n L D z p nm vl x dL w U (by omega) hL X y I).mono λe w' h=>⟨⟨_,h.1⟩,F h.2.1 (by omega),h.2.2⟩
 .dsimp only at A e2 y J O;subst A;subst e2;exact(zOr v u n R ct z p vl x dL w U hE h8 (by omega) hL X y I J N O).mono λe w' h=>⟨⟨_,h.1⟩,F h.2.1 (by omega),h.2.2⟩
 .dsimp only at A h0 y J N O h6 Y;subst A;exact(zMt v u n L ct ix a2 p nm vl c x w U hE h8 hn V X Y.1 Y.2 h0 y I J N O h6).mono λe w' h=>⟨⟨_,h.1⟩,F h.2.1 (by omega),h.2.2⟩
theorem OpsOk.ev {o:Q}{A:a0}{b:Q}{u:E OpA}(h:OpsOk W b u)(D:EvF z o W A){cs:Array Value}(F:W.heap[z]?=G (.cells cs 60)):OpsOk A b u:=h.fr D λc x v I=>by
 rcases I with rfl|⟨_,y,J⟩
 .rw[F]at v;cases v
 .rw[J]at v;cases v
theorem zMr : ∀ (v:E OpA) (j:Q) (o:OpA) (i:Q) (u:Value),v[j]?=G o->i<14->o.vals.toList[i]?=G u->(opF v)[j*14+i]?=G u
 | [],j,o,i,u,h,_,_=>by simp at h
 | q::t,0,o,i,u,h,y,z=>by
  obtain rfl:q=o:=by simpa using h
  show (q.vals.toList++opF t)[0*14+i]?=_
  rw[Nat.zero_mul,bc,List.getElem?_append_left (by show i<14;exact y)];exact z
 | q::t,j+1,o,i,u,h,y,z=>by
  have A:=zMr t j o i u (by simpa using h) y z;show (q.vals.toList++opF t)[(j+1)*14+i]?=_
  rw[List.getElem?_append_right (by show 14<=_;omega)];have e:(j+1)*14+i-q.vals.toList.length=j*14+i:=by show (j+1)*14+i-14=_;omega
  rw[e];exact A
theorem zLu {o n:Q}{T:TypeId}{y:ab}(h:w.ownsRow o T v (ag (G y) n c) n D):y.off=0/\y.spot=S/\∀ (k:Q) (u:Value),D[k]?=G u->w.cell? ⟨y.block,k,S⟩=G u:=by
 obtain⟨_,⟨A,_⟩|⟨g,F,I,A,O,J,R,U,V,N⟩⟩:=h
 .cases A
 .cases A;refine⟨rfl,rfl,λk u z=>?_⟩;rw[zB J,<-Array.getElem?_toList];rw[<-N,List.getElem?_take]at z;split at z
  .exact z
  .cases z
structure OpC (W:a0)(b off:Q)(o:OpA):Prop where
 c0:W.cell? ⟨b,off,S⟩=G (af r o.k)
 c1:W.cell? ⟨b,off+1,S⟩=G (ai o.p)
 c2:W.cell? ⟨b,off+2,S⟩=G (af r o.x.index)
 c3:W.cell? ⟨b,off+3,S⟩=G (af r o.x.parent)
 c4:W.cell? ⟨b,off+4,S⟩=G (ai o.x.name)
 c5:W.cell? ⟨b,off+5,S⟩=G (ai o.x.orig)
 c6:W.cell? ⟨b,off+6,S⟩=G (ai o.x.sub)
 c7:W.cell? ⟨b,off+7,S⟩=G (ai o.x.drv)
 c8:W.cell? ⟨b,off+8,S⟩=G (ai o.x.ali)
 c9:W.cell? ⟨b,off+9,S⟩=G (af r o.x.kind)
 c10:W.cell? ⟨b,off+10,S⟩=G (af r o.x.num)
 c11:W.cell? ⟨b,off+11,S⟩=G (ag o.x.aa o.x.an o.x.ac)
 c12:W.cell? ⟨b,off+12,S⟩=G (ai o.nm)
 c13:W.cell? ⟨b,off+13,S⟩=G (ai o.vl)
theorem zOm {n:Q}{A:ae ab}{o:OpA}(h:W.ownsRow z 38 14 (ag A n c) n (opF y))(V:n=y.length)(D:y[j]?=G o):∃ b v,A=G ⟨b,v,S⟩/\OpC W b (v+j*14) o:=by
 have J:=(List.getElem?_eq_some_iff.1 D).1;cases A with
 | none=>exact absurd (zG6 h rfl).1 (by omega)
 | some N=>
  obtain⟨F,I,O⟩:=zLu h;obtain⟨b,v,X⟩:=N;simp only at F I;subst I;have H:∀ (i:Q) (u:Value),i<14->o.vals.toList[i]?=G u->W.cell? ⟨b,v+j*14+i,S⟩=G u:=λi u R U=>by
   have:=O _ _ (zMr y j o i u D R U);rw[F,bc];exact this
  exact⟨b,v,rfl,H 0 _ (by decide) rfl,H 1 _ (by decide) rfl,H 2 _ (by decide) rfl,H 3 _ (by decide) rfl,H 4 _ (by decide) rfl,H 5 _ (by decide) rfl,H 6 _ (by decide) rfl,H 7 _ (by decide) rfl,H 8 _ (by decide) rfl,H 9 _ (by decide) rfl,H 10 _ (by decide) rfl,H 11 _ (by decide) rfl,H 12 _ (by decide) rfl,H 13 _ (by decide) rfl⟩
inductive KRun (m:Q):E Dev->(C->B)->C->E OpA->E Dev->(C->B)->C->Prop
 | nil (L:E Dev) (ct:C->B) (ix:C):KRun m L ct ix [] L ct ix
 | cons {L L1 L2:E Dev} {ct ct1 ct2:C->B} {ix ix1 ix2:C} {o:OpA} {t:E OpA} (hl:L.length<=m) (hx:0<=ix/\ix<=1000000) (h:KStp L ct ix o L1 ct1 ix1) (ht:KRun m L1 ct1 ix1 t L2 ct2 ix2):KRun m L ct ix (o::t) L2 ct2 ix2
theorem KRun.step {F:E Dev}{v:C->B}{y:C}{u:E OpA}{o:OpA}(I:u[j]?=G o)(h:KRun m L ct ix (u.drop j) F v y):L.length<=m/\(0<=ix/\ix<=1000000)/\∃ J z A,KStp L ct ix o J z A/\KRun m J z A (u.drop (j+1)) F v y:=by
 have D:=(List.getElem?_eq_some_iff.1 I).1;have e:u.drop j=o::u.drop (j+1):=by
  rw[List.drop_eq_getElem_cons D,(List.getElem?_eq_some_iff.1 I).2]
 rw[e]at h;cases h with
 | cons N O h R=>exact⟨N,O,_,_,_,h,R⟩
theorem KRun.done {y:E Dev}{u:C}{v:E OpA}(h:KRun m L ct ix (v.drop v.length) y o u):y=L/\o=ct/\u=ix:=by
 rw[List.drop_length]at h;cases h;exact⟨rfl,rfl,rfl⟩
theorem KRun.append {z A:E Dev}{v y:C}{a b:E OpA}(h:KRun m L ct ix a z o v)(D:KRun m z o v b A u y):KRun m L ct ix (a++b) A u y:=by
 induction h with
 | nil=>exact D
 | cons F I J _ N=>exact .cons F I J (N D)
theorem KRun.one {y:E Dev}{v:C}{o:OpA}(z:L.length<=m)(A:0<=ix/\ix<=1000000)(h:KStp L ct ix o y u v):KRun m L ct ix [o] y u v:=.cons z A h (.nil _ _ _)
theorem zEm (o:TreeOk ds)(n:C):∀ x∈origin ds n,OkN x:=by
 intro x h;unfold origin at h;rw[List.mem_reverse]at h;obtain⟨d,u,rfl⟩:=List.mem_map.1 h;exact o.nm d (zEH u)
def Sep (s:E ak):Prop:=s=[]\/∃ t,s=47::t
theorem zFF : ∀ (x:E ak) {s:E ak},(∀ c∈x,c≠47)->Sep s->(x++s).takeWhile (λc=>decide (c≠47))=x
 | [],s,_,o=>by
  rcases o with rfl|⟨t,rfl⟩
  .rfl
  .simp
 | c::x,s,h,o=>by
  have u:=h c (by simp);rw[List.cons_append,List.takeWhile_cons,ap (by simpa using u),zFF x (λd v=>h d (by simp[v])) o]
theorem zC2 (x:E ak)(t:E (E ak)):am [47] (x::t)=47::(x++am [47] t):=by simp[am]
theorem zMw: ∀ (a:E (E ak)),Sep (am [47] a)
 | []=>.inl rfl
 | x::t=>.inr ⟨_,zC2 x t⟩
theorem zMx : ∀ (a b:E (E ak)),(∀ x∈a,∀ c∈x,c≠47)->(∀ x∈b,∀ c∈x,c≠47)->am [47] a=am [47] b->a=b
 | [],[],_,_,_=>rfl
 | [],y::t,_,_,h=>by rw[zC2]at h;cases h
 | x::s,[],_,_,h=>by rw[zC2]at h;cases h
 | x::s,y::t,u,v,h=>by
  rw[zC2,zC2]at h;injection h with _ h
  have A:=zFF x (u x (by simp)) (zMw s);have D:=zFF y (v y (by simp)) (zMw t);rw[h,D]at A;subst A;rw[zMx s t (λz o=>u z (by simp[o])) (λz o=>v z (by simp[o])) (List.append_cancel_left h)]
theorem zCw {a b:E B}(D:∀ x∈a,OkN x)(F:∀ x∈b,OkN x)(h:(pathOf a).toList=(pathOf b).toList):a=b:=by
 rw[ByteArray.toList_eq,ByteArray.toList_eq,zBw,zBw]at h;have I:=zMx _ _ (λx o c u=>by obtain⟨z,v,rfl⟩:=List.mem_map.1 o;exact(D z v).2 c u) (λx o c u=>by obtain⟨z,v,rfl⟩:=List.mem_map.1 o;exact(F z v).2 c u) h;exact(List.map_inj_right (λx y A=>ByteArray.ext (Array.toList_inj.1 A))).1 I
theorem zGi (u:TreeWf L){d:Dev}(y:d∈L):L.find? (atP L (plc L d.index))=G d:=by
 have o:∀ e∈L,plc L e.index=pathOf (origin L e.index):=λe v=>by
  unfold plc;rw[zu u.ok.nd v];rfl
 have A:∀ e∈L,atP L (plc L d.index) e=ad->e=d:=λe v h=>by
  unfold atP at h;have z:(plc L e.index).toList=(plc L d.index).toList:=by simpa using h
  rw[o e v,o d y]at z;have D:=zCw (zEm u.ok _) (zEm u.ok _) z;exact u.uo e v d y D
 cases hf:L.find? (atP L (plc L d.index))with
 | none=>
  rw[List.find?_eq_none]at hf;exact absurd (by unfold atP;simp) (hf d y)
 | some e=>rw[A e (ax hf) (List.find?_some hf)]
theorem zJt {m:Q}{M:E Vir}{ds:E Dev}(ct:C->B)(ix:C)(J:ds.length<=m)(A:0<=ix/\ix<=1000000)(hR:RemOk M ds):∀ (n:Q) (pre:E (C×Dev)),pre.length=n->pre <+: revR ds->KRun m (ds.map strip) ct ix (remF M ds pre).2 (remF M ds pre).1 ct ix
 | 0,pre,u,_=>by
  obtain rfl:pre=[]:=List.eq_nil_of_length_eq_zero u;exact .nil _ _ _
 | n+1,pre,u,D=>by
  obtain⟨o,x,rfl⟩:∃ o x,pre=o++[x]:=by
   rcases List.eq_nil_or_concat pre with h|⟨o,x,h⟩
   .subst h;simp at u
   .exact⟨o,x,by simpa using h⟩
  have N:o <+: revR ds:=(ba o [x]).trans D;have F:=zJt ct ix J A hR n o (by simpa using u) N;obtain⟨O,v,y,R⟩:=hR o x D;have X:=(zCT M ds o).2;rw[zDn]at v ⊢;unfold zAI at v ⊢;split
  .rename_i U;rw[ap U]at v;obtain⟨V,z⟩:=zAL R;have I:=zGi O V;rw[z]at I;exact F.append (.one (by omega) A (.inl ⟨rfl,y,I,by rw[z];exact v,by rw[z],rfl,rfl⟩))
  .exact F
theorem zJn {m:Q}{M:E Vir}{u L:E Dev}{o ct:C->B}{ix:C}{h:E OpA}(v:TreeWf L)(y:L.length<=m)(z:0<=ix/\ix<=1000000)(A:SetOk M L ct)(D:KRun m u o ix h L ct ix):∀ k,k<=L.length->KRun m u o ix (setF M L ct h k).2 L (setF M L ct h k).1 ix
 | 0,_=>D
 | k+1,Z=>by
  have F:=zJn v y z A D k (by omega);have N:=List.getElem?_eq_getElem (l:=L) (i:=k) (by omega);have I:L[k]∈L:=List.getElem_mem _;rw[zDj N];unfold zAR;split
  .rename_i J;obtain⟨O,R,U⟩:=A _ I;have V:virB L L[k].index=true:=by
    rw[ar]at J;exact J.1
   obtain⟨X,Y⟩:=U V;exact F.append (.one y z (.inr (.inl ⟨rfl,rfl,L[k],zGi v I,O,X,R,Y,rfl,rfl,rfl⟩)))
  .exact F
theorem zIt (o:ds.length<=m)(h:0<=ix/\ix<=1000000)(hR:RemOk M ds)(u:TreeWf (remF M ds (revR ds)).1)(v:SetOk M (remF M ds (revR ds)).1 ct):
  KRun m (ds.map strip) ct ix (setF M (remF M ds (revR ds)).1 ct (remF M ds (revR ds)).2 (remF M ds (revR ds)).1.length).2 (remF M ds (revR ds)).1 (setF M (remF M ds (revR ds)).1 ct (remF M ds (revR ds)).2 (remF M ds (revR ds)).1.length).1 ix:=
 zJn u (by have:=(zCT M ds (revR ds)).2;omega) h v (zJt ct ix o h hR _ _ rfl (bb _)) _ (Nat.le_refl _)
def ren (f:C->C)(d:Dev):Dev:={ d with index:=f d.index,parent:=f d.parent }
structure Ren (f:C->C):Prop where
 inj:∀ a b,f a=f b->a=b
 z:f 0=0
theorem Ren.beq (h:Ren f)(a b:C):(f a==f b)=(a==b):=by
 by_cases e:a=b
 .subst e;simp
 .have:f a≠f b:=λo=>e (h.inj _ _ o)
  rw[beq_eq_false_iff_ne.2 e,beq_eq_false_iff_ne.2 this]
theorem Ren.beq0 (h:Ren f)(a:C):(f a==0)=(a==0):=by have:=h.beq a 0;rw[h.z]at this;exact this
def swp (a b:C)(n:C):C:=if n=a then b else if n=b then a else n
theorem zNS (a b:C):∀ x y,swp a b x=swp a b y->x=y:=by
 intro x y h;unfold swp at h;split at h<;>split at h<;>(try split at h)<;>(try split at h)<;>omega
theorem Ren.swp (h:Ren f){m:C}(o:m≠0)(u:i≠0):Ren (λn=>swp (f m) i (f n)):=
 ⟨λa b e=>h.inj _ _ (zNS _ _ _ _ e),by
  have v:(0:C)≠f m:=λe=>o (h.inj _ _ (by rw[h.z];exact e.symm))
  show Go.Proofs.YtckkocmhlhefpaaGreatDoor.swp (f m) i (f 0)=0
  rw[h.z];unfold Go.Proofs.YtckkocmhlhefpaaGreatDoor.swp;rw[ah v,ah (λe=>u e.symm)]⟩
theorem zOZ (f:C->C)(m i:C):swp (f m) i (f m)=i:=by unfold swp;rw[ap rfl]
theorem Ren.swp_off (h:Ren f){m:C}(o:n≠m)(u:f n≠i):Go.Proofs.YtckkocmhlhefpaaGreatDoor.swp (f m) i (f n)=f n:=by
 unfold Go.Proofs.YtckkocmhlhefpaaGreatDoor.swp;rw[ah (λe=>o (h.inj _ _ e)),ah u]
section
variable {ds:E Dev}{n:C}{f:C->C}
theorem zBW (o:Ren f):look (ds.map (ren f)) (f n)=(look ds n).map (ren f):=by
 unfold look;rw[az]
 congr 1
 congr 1
 funext d
 show decide (f d.index=f n)=decide (d.index=n)
 by_cases e:d.index=n
 .simp[e]
 .have:f d.index≠f n:=λh=>e (o.inj _ _ h)
  simp[e,this]
theorem zE0 (h:Ren f):∀ (k:Q) (n:C),chainK (ds.map (ren f)) k (f n)=(chainK ds k n).map (ren f)
 | 0,_=>rfl
 | k+1,n=>by
  unfold chainK;rw[zBW h];cases look ds n with
  | none=>rfl
  | some d=>show ren f d::chainK (ds.map (ren f)) k (f d.parent)=_;rw[zE0 h k d.parent];rfl
theorem zKw (h:Ren f):chain (ds.map (ren f)) (f n)=(chain ds n).map (ren f):=by unfold chain;rw[aj,zE0 h]
theorem zBy (h:Ren f):origin (ds.map (ren f)) (f n)=origin ds n:=by unfold origin;rw[zKw h,aw];rfl
theorem zCG (h:Ren f):plc (ds.map (ren f)) (f n)=plc ds n:=by
 unfold plc;rw[zBW h,zBy h];cases look ds n<;>rfl
theorem zKW (k:Q)(d:Dev):insAt (ds.map (ren f)) k (ren f d)=(insAt ds k d).map (ren f):=by
 unfold insAt;rw[b6,b7,b9,b8]
theorem zLA (h:Ren f)(s:B):(ds.map (ren f)).find? (atP (ds.map (ren f)) s)=(ds.find? (atP ds s)).map (ren f):=by
 rw[az]
 congr 1
 congr 1
 funext d
 unfold atP;show ((plc (ds.map (ren f)) (f d.index)).toList==s.toList)=_
 rw[zCG h]
theorem zFS (h:Ren f)(d:Dev):newO (ds.map (ren f)) (ren f d)=newO ds d:=by
 unfold newO;show plc (ds.map (ren f)) (f d.parent)++_++_=_
 rw[zCG h];rfl
theorem zIC (h:Ren f)(d:Dev):insK (ds.map (ren f)) (ren f d)=insK ds d:=by
 unfold insK;rw[zFS h,zFe,aj];have e:(zAB (ds.map (ren f)) (newO ds d)∘ren f)=zAB ds (newO ds d):=by
  funext x
  unfold zAB;show decide (0<=(cmpP (plc (ds.map (ren f)) (f x.index)) _).1)=_
  rw[zCG h]
 rw[e]
theorem zJq (h:Ren f)(d:Dev):sameO (ds.map (ren f)) (ren f d)=sameO ds d:=by
 unfold sameO;rw[zIC h,zFS h,au];cases ds[insK ds d]? with
 | none=>rfl
 | some x=>show ((plc (ds.map (ren f)) (f x.index)).toList==_)=_;rw[zCG h]
theorem zOE (h:Ren f)(d:Dev):(ds.map (ren f)).any (clP (ren f d))=ds.any (clP d):=by
 rw[List.any_map]
 congr 1
 funext x
 show ((f x.index != f d.index)&&clB x d)=_
 unfold bne;rw[h.beq];rfl
theorem zJ5 (u:Ren f)(h:ParIs ds s p):ParIs (ds.map (ren f)) s (f p):=by
 unfold ParIs at h ⊢;rw[zLA u];rcases h with⟨o,v,rfl⟩|⟨d,o,rfl⟩
 .exact .inl ⟨by rw[o];rfl,v,u.z⟩
 .exact .inr ⟨ren f d,by rw[o];rfl,rfl⟩
theorem TreeOk.ren (A:Ren f)(h:TreeOk ds)(F:∀ d∈ds,1<=f d.index/\f d.index<=1073741824):TreeOk (ds.map (ren f)):=by
 refine⟨?_,λd u=>?_,λk d D=>?_,λd u=>?_⟩
 .have e:(ds.map (Go.Proofs.YtckkocmhlhefpaaGreatDoor.ren f)).map Dev.index=(ds.map Dev.index).map f:=by rw[aw,aw];rfl
  rw[e];exact bd f (λa b v e=>v (A.inj _ _ e)) h.nd
 .obtain⟨x,o,rfl⟩:=List.mem_map.1 u;exact F x o
 .rw[au]at D;obtain⟨x,o,rfl⟩:=Option.map_eq_some_iff.1 D;rcases h.pa k x o with y|⟨j,e,I,J,y⟩
  .exact .inl (by show f x.parent=0;rw[y,A.z])
  .exact .inr ⟨j,Go.Proofs.YtckkocmhlhefpaaGreatDoor.ren f e,I,by rw[au,J];rfl,by show f e.index=f x.parent;rw[y]⟩
 .obtain⟨x,o,rfl⟩:=List.mem_map.1 u;exact h.nm x o
theorem TreeWf.ren (o:Ren f)(h:TreeWf ds)(A:∀ d∈ds,1<=f d.index/\f d.index<=1073741824):TreeWf (ds.map (ren f)):=by
 refine⟨h.ok.ren o A,λd u e D F=>?_,λd u=>?_⟩
 .obtain⟨x,v,rfl⟩:=List.mem_map.1 u;obtain⟨y,I,rfl⟩:=List.mem_map.1 D;have z:origin (ds.map (Go.Proofs.YtckkocmhlhefpaaGreatDoor.ren f)) (f x.index)=origin (ds.map (Go.Proofs.YtckkocmhlhefpaaGreatDoor.ren f)) (f y.index):=F;rw[zBy o,zBy o]at z;rw[h.uo x v y I z]
 .obtain⟨x,v,rfl⟩:=List.mem_map.1 u;show (origin (ds.map (Go.Proofs.YtckkocmhlhefpaaGreatDoor.ren f)) (f x.index)).length<=7
  rw[zBy o];exact h.dp x v
end
structure SimK (f:C->C)(L:E Dev)(ct:C->B)(K:E Dev)(ck:C->B)(ix:C):Prop where
 ren:Ren f
 eq:K=L.map (Go.Proofs.YtckkocmhlhefpaaGreatDoor.ren f)
 ct:∀ d∈L,ck (f d.index)=ct d.index
 lo:∀ d∈L,1<=f d.index/\f d.index<=ix
 pos:0<=ix
 wf:TreeWf L
theorem SimK.id (o:TreeWf L)(h:∀ d∈L,d.index<=ix)(v:0<=ix):SimK (λn=>n) L ct L ct ix:=
 ⟨⟨λ_ _ e=>e,rfl⟩,(List.map_id L).symm,λ_ _=>rfl,λd u=>⟨(o.ok.ix d u).1,h d u⟩,v,o⟩
theorem SimK.add {I:E Dev}{R:C->B}(h:SimK f L ct I R ix){v:Vir}(A:AddOk L v.q v.o v.c p)(hx:ix<=1000000){k:Q}(hk:k<=L.length)(hu:usedF L (1048576+(k:C))=false)(Y:ae ab):
  ∃ f' K',KStp I R ix ⟨1,v.q,opG v.o (1048576+(k:C)) v.c Y,⟨#[]⟩,⟨#[]⟩,v.c⟩ K' (updC R (ix+1) v.c) (ix+1)/\
   SimK f' (insAt L (insK L (newG L p v.o (1048576+(k:C)) v.c S)) (strip (newG L p v.o (1048576+(k:C)) v.c S))) (updC ct (maxI L+1) v.c) K' (updC R (ix+1) v.c) (ix+1):=by
 obtain⟨y,J,h3,h4⟩:=A.pre k hk hu Y;obtain⟨D,N⟩:∃ D,D=newG L p v.o (1048576+(k:C)) v.c Y:=⟨_,rfl⟩
 have eS:strip (newG L p v.o (1048576+(k:C)) v.c S)=strip D:=by rw[N];rfl
 have eI:insK L (newG L p v.o (1048576+(k:C)) v.c S)=insK L D:=by rw[N];rfl
 rw[eS,eI];rw[<-N]at y J h3 h4;have U:D.index=maxI L+1:=by rw[N];rfl
 have dp:D.parent=p:=by rw[N];rfl
 obtain⟨m,F⟩:∃ m,m=maxI L+1:=⟨_,rfl⟩
 have a2:m≠0:=by have:=A.mx;omega
 have a3:=h.pos;obtain⟨g,hg⟩:∃ g:C->C,g=λn=>swp (f m) (ix+1) (f n):=⟨_,rfl⟩
 have hR:Ren g:=by rw[hg];exact h.ren.swp a2 (by omega)
 have Z:g m=ix+1:=by rw[hg];exact zOZ f m (ix+1)
 have O:∀ d∈L,g d.index=f d.index:=λd u=>by
  rw[hg];exact h.ren.swp_off (λe=>zo.1 y.new d u (by rw[U,<-F];exact e)) (by have:=(h.lo d u).2;omega)
 have gp:∀ d∈L,g d.parent=f d.parent:=λd u=>by
  obtain⟨j,hj⟩:=b5 u;rcases h.wf.ok.pa j d hj with e|⟨_,e,_,he,hi⟩
  .rw[e,hR.z,h.ren.z]
  .rw[<-hi];exact O e (ay he)
 have hK:I=L.map (Go.Proofs.YtckkocmhlhefpaaGreatDoor.ren g):=by
  rw[h.eq];refine List.map_congr_left λd u=>?_
  unfold Go.Proofs.YtckkocmhlhefpaaGreatDoor.ren;rw[O d u,gp d u]
 have a4:g p=0\/(1<=g p/\g p<=ix):=by
  rcases A.par with⟨_,_,e⟩|⟨d,u,e⟩
  .exact .inl (by rw[e,hR.z])
  .have F:=ax u;rw[e,O d F];exact .inr (h.lo d F)
 have V:addD (opG v.o (1048576+(k:C)) v.c Y) ix (g p)=Go.Proofs.YtckkocmhlhefpaaGreatDoor.ren g D:=by
  rw[N];unfold Go.Proofs.YtckkocmhlhefpaaGreatDoor.ren newG addD opG;dsimp only;rw[<-F,Z]
 have hb:∀ d∈insAt L (insK L D) (strip D),1<=g d.index/\g d.index<=ix+1:=λd u=>by
  rcases zX.1 u with e|e
  .rw[e];show 1<=g D.index/\g D.index<=ix+1
   rw[U,<-F,Z];omega
  .rw[O d e];have:=h.lo d e;omega
 have X:TreeWf (insAt L (insK L D) (strip D)):=h4.ofStrip (by
  unfold insAt;simp only[b6,b9,b8,b7];rfl)
 have eK:insAt I (insK I (Go.Proofs.YtckkocmhlhefpaaGreatDoor.ren g D)) (strip (Go.Proofs.YtckkocmhlhefpaaGreatDoor.ren g D))=(insAt L (insK L D) (strip D)).map (Go.Proofs.YtckkocmhlhefpaaGreatDoor.ren g):=by
  rw[hK,zIC hR,<-zKW];rfl
 refine⟨g,insAt I (insK I (Go.Proofs.YtckkocmhlhefpaaGreatDoor.ren g D)) (strip (Go.Proofs.YtckkocmhlhefpaaGreatDoor.ren g D)),.inr (.inr ⟨rfl,rfl,g p,?_,?_,?_,?_,?_,?_,?_,rfl,rfl⟩),hR,eK,?_,hb,by omega,X⟩
 .rw[hK];exact zJ5 hR A.par
 .exact WalkArith.wf_i64 (by show _/\_;omega)
 .dsimp only;rw[V];exact⟨J.name,J.orig,J.sub,J.drv,J.ali⟩
 .dsimp only;rw[V,hK];refine⟨⟨?_,y.snd.named,y.snd.same,y.snd.num,y.snd.attrs,y.snd.link⟩,?_,?_,by rw[aj];exact y.len,by rw[zFS hR];exact y.dep⟩
  .unfold rngB;show (decide (1<=g D.index)&&decide (g D.index<=1073741824)&&(decide (0<=g D.parent)&&decide (g D.parent<=1073741824))&&!(g D.parent==g D.index))=ad
   rw[U,dp,<-F,Z];have:¬ (g p=ix+1):=by omega
   simp[this];omega
  .show look (L.map (Go.Proofs.YtckkocmhlhefpaaGreatDoor.ren g)) (g D.index)=S
   rw[zBW hR,y.new];rfl
  .show ((g D.parent==0)||(look (L.map (Go.Proofs.YtckkocmhlhefpaaGreatDoor.ren g)) (g D.parent)).isSome)=ad
   rw[zBW hR,hR.beq0,Option.isSome_map];exact y.par
 .dsimp only;rw[V,hK,zJq hR,zOE hR];exact h3
 .dsimp only;rw[V,eK];exact X.ren hR (λd u=>by have:=hb d u;omega)
 .dsimp only;rw[V]
 .intro d u;rcases zX.1 u with e|e
  .rw[e];show updC R (ix+1) v.c (g D.index)=updC ct (maxI L+1) v.c D.index
   rw[U,<-F,Z];unfold updC;rw[ap rfl,ap rfl]
  .have n1:g d.index≠ix+1:=by rw[O d e];have:=h.lo d e;omega
   have n2:d.index≠maxI L+1:=λe'=>zo.1 y.new d e (by rw[U];exact e')
   unfold updC;rw[ah n1,ah n2,O d e];exact h.ct d e
theorem zGG {z:C}(h:ParIs L s p)(A:ParIs L s z):p=z:=by
 rcases h with⟨u,_,v⟩|⟨d,u,v⟩<;>rcases A with⟨o,_,y⟩|⟨e,o,y⟩
 .rw[v,y]
 .rw[u]at o;cases o
 .rw[u]at o;cases o
 .rw[u]at o;cases o;rw[v,y]
theorem zLj (pre:E (C×Dev)):∀ d∈(remF M ds pre).1,d∈ds.map strip:=by
 have h:∀ (pre:E (C×Dev)) (s:E Dev×E OpA),(∀ d∈s.1,d∈ds.map strip)->∀ d∈(pre.foldl (λs x=>zAI M s x.2) s).1,d∈ds.map strip:=by
  intro pre
  induction pre with
  | nil=>intro s h;exact h
  | cons x t u=>
   intro s h;refine u _ ?_;show ∀ d∈(zAI M s x.2).1,d∈ds.map strip
   unfold zAI;split
   .intro d o;exact h d (List.mem_filter.1 o).1
   .exact h
 exact h pre _ (λd o=>o)
def PInv (m:Q)(L0:E Dev)(ct0:C->B)(ix0:C)(P:Q->E Dev->(C->B)->E OpA->Prop)(j:Q)(L:E Dev)(ct:C->B)(ops:E OpA):Prop:=
 P j L ct ops/\ops.length<=2*m+j/\∃ f K ck ix,KRun m L0 ct0 ix0 ops K ck ix/\SimK f L ct K ck ix/\ix<=ix0+j
theorem PInv.step {X:E Dev}{J:C->B}{z:C}{P:Q->E Dev->(C->B)->E OpA->Prop}{R:E Dev}{F:C->B}{N:E OpA}{v:Vir}(h:PInv m X J z P j L ct N)(hL:L.length<=m)(hj:j<250)(hx:0<=z/\z<=900000)(A:(∃ Y,L.find? (atP L (v.q++(⟨#[47]⟩:B)++v.o))=G Y)\/AddOk L v.q v.o v.c p)(hs:zCK L ct N v R F y)(Z:P (j+1) R F y):PInv m X J z P (j+1) R F y:=by
 obtain⟨_,a2,f,a3,ck,ix,D,u,a4⟩:=h;rcases hs with⟨_,rfl,rfl,rfl⟩|⟨U,k,aa,a5,hk,hu,hq,rfl,rfl,rfl⟩
 .exact⟨Z,by omega,f,a3,ck,ix,D,u,by push_cast;omega⟩
 .rcases A with⟨Y,O⟩|A
  .rw[U]at O;cases O
  .obtain rfl:a5=p:=zGG hq A.par;obtain⟨f',K',V,I⟩:=u.add A (by omega) hk.1 hu aa;exact⟨Z,by rw[List.length_append];simp;omega,f',K',_,ix+1,D.append (.one (by rw[u.eq,aj];exact hL) ⟨u.pos,by omega⟩ V),I,by push_cast;omega⟩
theorem zHS (m:Q)(hm:m<=250)(D:Q)(a:ae ab)(I:Q)(ds:E Dev)(ct:C->B)(M:E Vir)(R:ae ab)(U:Q)(w:a0)(hl:Tr w D a I ds)(hn:ds.length<=m)(hE:Env w)(V:TrT w a ds)(hC:CtO w ds ct)(hM:Virs w R U M)(X:M.length<=250)(Y:DistP M)(Z:∀ v∈M,v.q.size<=100000/\v.o.size<=100000)(a2:D<=(w:Q))
  (hR:RemOk M ds) (a3:∀ d∈ds,d.kind=2) (hW:TreeWf (remF M ds (revR ds)).1) (hS:SetOk M (remF M ds (revR ds)).1 ct) (A:C) (hx:0<=A/\A<=900000) (hi:∀ d∈ds,d.index<=A)
  (P:Q->E Dev->(C->B)->E OpA->Prop) (a4:P 0 (remF M ds (revR ds)).1 (setF M (remF M ds (revR ds)).1 ct (remF M ds (revR ds)).2 (remF M ds (revR ds)).1.length).1 (setF M (remF M ds (revR ds)).1 ct (remF M ds (revR ds)).2 (remF M ds (revR ds)).1.length).2)
  (N:∀ j v L ct u,M[j]?=G v->P j L ct u->L.length<=m/\∃ p,ParIs L v.q p/\((∃ dt,L.find? (atP L (v.q++(⟨#[47]⟩:B)++v.o))=G dt)\/AddOk L v.q v.o v.c p))
  (a5:∀ j v L ct u O F z,M[j]?=G v->P j L ct u->zCK L ct u v O F z->P (j+1) O F z):
  al ao 13 #[.agg #[ag a ds.length I],ag R M.length U] w λe w'=>(∃ (L:E Dev) (F:C->B) (u:E OpA) (av:ae ab) (cv:Q),PInv m (ds.map strip) ct A P M.length L F u/\e=.returned (ag av u.length cv)/\w'.ownsRow (w:Q) 38 14 (ag av u.length cv) u.length (opF u)/\OpsOk w' (w:Q) u)/\Fr No w w':=by
 have a6:=zCT M ds (revR ds);have a8:=zHk M (remF M ds (revR ds)).1 ct (remF M ds (revR ds)).2 (remF M ds (revR ds)).1.length;rw[zAV]at a6;refine zIa D a I ds ct M R U w hl (by omega) hE V hC hM X Y Z a2 hR a3 hS (PInv m (ds.map strip) ct A P) ⟨a4,by omega,λn=>n,_,_,A,zIt hn ⟨hx.1,by omega⟩ hR hW hS,SimK.id hW (λd hd=>?_) hx.1,by simp⟩ (λj v L c u J h=>?_) (λj v L c u O c' z J h hs=>?_)
 .obtain⟨y,hy,rfl⟩:=List.mem_map.1 (zLj _ d hd);exact hi y hy
 .have a7:=(List.getElem?_eq_some_iff.1 J).1;obtain⟨h1,h2⟩:=N j v L c u J h.1;exact⟨by omega,by have:=h.2.1;omega,h2⟩
 .have a7:=(List.getElem?_eq_some_iff.1 J).1;obtain⟨h1,p,_,h2⟩:=N j v L c u J h.1;exact h.step h1 (by omega) hx h2 hs (a5 j v L c u O c' z J h.1 hs)
theorem zIy (h:Ren f):partOf (ds.map (ren f)) (f n)=partOf ds n:=by
 unfold partOf;rw[zBW h];cases look ds n with
 | none=>rfl
 | some d=>
  show (match look (ds.map (ren f)) (f d.parent)with|none=>S|some p=>partB p (ren f d))=(match look ds d.parent with|none=>S|some p=>partB p d)
  rw[zBW h];cases look ds d.parent<;>rfl
theorem zLP (h:Ren f):virB (ds.map (ren f)) (f n)=virB ds n:=by
 unfold virB;rw[zBW h,zIy h];cases look ds n with
 | none=>rfl
 | some d=>
  show ((partOf ds n).isSome||(f d.parent==0&&preB d.orig))=_
  rw[h.beq0]
theorem zC4 {α β:Type}(g:β->α->β)(s:β):∀ l:E α,(∀ x∈l,g s x=s)->l.foldl g s=s
 | [],_=>rfl
 | x::t,h=>by rw[List.foldl_cons,h x (by simp)];exact zC4 g s t (λy o=>h y (by simp[o]))
theorem zGE (h:∀ d∈ds,virB ds d.index=ad->inW M (plc ds d.parent) d.orig=ad){pre:E (C×Dev)}(u:∀ x∈pre,x.2∈ds):remF M ds pre=(ds.map strip,[]):=by
 unfold remF;refine zC4 _ _ _ λx v=>?_
 show zAI M (ds.map strip,[]) x.2=_
 unfold zAI;rw[ah];dsimp only;rw[zAn,zAJ];intro o;rw[ar]at o;rw[h x.2 (u x v) o.1]at o;exact absurd o.2 (by simp)
theorem zGB (h:∀ d∈L,virB L d.index=ad->ct d.index=wcF M (plc L d.parent,d.orig))(o:E OpA)(k:Q):setF M L ct o k=(ct,o):=by
 unfold setF;refine zC4 _ _ _ λd v=>?_
 unfold zAR;rw[ah];intro u;rw[ar]at u;rw[h d (List.mem_of_mem_take v) u.1]at u;exact absurd u.2 (by simp)
theorem zGj (u:Q)(a:ae ab)(A:Q)(ds:E Dev)(ct:C->B)(M:E Vir)(J:ae ab)(N:Q)(w:a0)(hl:Tr w u a A ds)(hn:ds.length<=250)(hE:Env w)(O:TrT w a ds)(hC:CtO w ds ct)(hM:Virs w J N M)(R:M.length<=250)(U:DistP M)(V:∀ v∈M,v.q.size<=100000/\v.o.size<=100000)(X:u<=(w:Q))
  (Y:∀ d∈ds,d.kind=2) (Z:TreeWf (ds.map strip)) (hS:SetOk M (ds.map strip) ct)
  (h1:∀ d∈ds,virB ds d.index=ad->inW M (plc ds d.parent) d.orig=ad) (h2:∀ d∈ds,virB ds d.index=ad->ct d.index=wcF M (plc ds d.parent,d.orig))
  (h3:∀ v∈M,(∃ p,ParIs (ds.map strip) v.q p)/\∃ dt,(ds.map strip).find? (atP (ds.map strip) (v.q++(⟨#[47]⟩:B)++v.o))=G dt):
  al ao 13 #[.agg #[ag a ds.length A],ag J M.length N] w λe w'=>(∃ (av:ae ab) (cv:Q),e=.returned (ag av 0 cv))/\Fr No w w':=by
 have D:∀ pre:E (C×Dev),pre <+: revR ds->remF M ds pre=(ds.map strip,[]):=λpre F=>zGE h1 λx hx=>zBu (F.subset hx)
 have hr:=D _ (bb _);have a2:∀ d∈ds.map strip,virB (ds.map strip) d.index=ad->ct d.index=wcF M (plc (ds.map strip) d.parent,d.orig):=λd hd hv=>by
  obtain⟨y,hy,rfl⟩:=List.mem_map.1 hd;rw[zAn]at hv;rw[zAJ];exact h2 y hy hv
 have hR:RemOk M ds:=λpre x F=>by
  rw[D pre ((ba pre [x]).trans F),D _ F];have hm:x.2∈ds:=zBu (F.subset (by simp));have hk:=zu Z.ok.nd (d:=strip x.2) (List.mem_map_of_mem hm);exact⟨Z,Z,strip x.2,hk⟩
 refine(zIa u a A ds ct M J N w hl hn hE O hC hM R U V X hR Y (by rw[hr];exact hS) (λj L c z=>L=ds.map strip/\z=[]) (by rw[hr];exact⟨rfl,by rw[zGB a2]⟩) (λj v L c z hj h=>?_) (λj v L c z L' c' a5 hj h hs=>?_)).mono ?_
 .obtain⟨rfl,rfl⟩:=h;obtain⟨⟨p,F⟩,I⟩:=h3 v (ay hj);exact⟨by rw[aj];exact hn,by simp,p,F,.inl I⟩
 .obtain⟨rfl,rfl⟩:=h;obtain⟨_,dt,I⟩:=h3 v (ay hj);rcases hs with⟨_,rfl,_,rfl⟩|⟨a3,_⟩
  .exact⟨rfl,rfl⟩
  .rw[a3]at I;cases I
 .rintro e w' ⟨⟨L,c,z,av,cv,⟨_,rfl⟩,rfl,_⟩,a4⟩;exact⟨⟨av,cv,rfl⟩,a4⟩
end Go.Proofs.YtckkocmhlhefpaaGreatDoor
