import Derived.Test.YtckkocmhlhefpaaGreatDoorQ28
namespace Go.Proofs.YtckkocmhlhefpaaGreatDoor
open Go.RowKit Go.Maps
set_option linter.unusedVariables false
set_option maxRecDepth 100000
set_option maxHeartbeats 8000000
open Dev renaming index->az,vals->ba
open Fr renaming refl->ar,setAt->bc
open Go renaming World->ae,Addr->ag,Value->aq,maxLen->ax
open Go.Lit renaming int->aw
open Go.Proofs renaming intOf->au
open Go.Proofs.Tryz renaming prog->am,underlying192->ap,underlying3->ca
open Go.RowKit renaming Hid->a0
open Go.Value renaming slice->bn
open IntKind renaming i64->K
open Obj renaming cells->a1
open Value renaming slice->L,string->ah,int->aj,agg->al,pointer->ay
open _root_ renaming Nat->C,List->E,Int->G,ByteArray->P,Option->af
open _root_.Bool renaming true->ab,false->ak
open _root_.ByteArray renaming empty->ao
open _root_.List renaming getElem?_map->ai,length_map->av,getElem?_eq_getElem->bd,mem_of_getElem?->be,foldl_append->bg,length_cons->bh,map_cons->bi,map_map->bj,mem_map_of_mem->bm,any_map->bo,ext_getElem?->bp,find?_map->bq,foldl_cons->br,getElem?_eq_none->bs,getElem?_set->bu,length->bv,take_add_one->bw,take_length->bx
open _root_.List.Pairwise renaming map->cb
open _root_.Nat renaming le_trans->bz
open _root_.Option renaming some->B,none->H
variable{S:C->Prop}{w W w':ae}{u v ds:E Dev}{z J D k N:C}{o:G->E (P×P)}{y a:af ag}{x d:Dev}{ct:G->P}{ix:G}{Q:Exit->Act->ae->Prop}
structure TMk (w W:ae)(src:E Dev)(a':af ag)(c':C)(ds':E Dev):Prop where
 dv:Devs W a' c' ds'
 bt:BlkT W a' 36
 fresh:∀ ad,a'=B ad->(w:C)<=ad.block
 cop:Cop w W (w:C) src ds'
theorem TMk.fr {I:ae}{z:af ag}(h:TMk w W u z J v)(A:Fr S W I)(N:∀ b,S b->∀ cs T,W.heap[b]?=B (a1 cs T (0,0))->T≠36/\T≠78):TMk w I u z J v:=by
 have O:∀ o,z=B o->¬ S o.block:=λo e D=>by
  obtain⟨cs,F⟩:=h.bt o e;exact(N _ D _ _ F).1 rfl
 refine⟨h.dv.fr A (λo e _=>O o e),h.bt.fr A O,h.fresh,h.cop.fr A (λd R o e D=>?_)⟩;obtain⟨y,_,U⟩:=h.cop.mem R;obtain⟨cs,F⟩:=U.typ o e;exact(N _ D _ _ F).2 rfl
theorem TMk.no {v:ae}{o:E Dev}(h:TMk w W o y z u)(A:Fr No W v):TMk w v o y z u:=h.fr A (λ_ h=>h.elim)
theorem TMk.put {v:ae}{o:E Dev}(h:TMk w W o y z u){A:C}{cs:Array aq}{T:TypeId}(I:Fr (Is A) W v)(J:W.heap[A]?=B (a1 cs T))(N:T≠36)(O:T≠78):TMk w v o y z u:=h.fr I (λb D cs T F=>by
 unfold Is at D;subst D;rw[J]at F;cases F;exact⟨N,O⟩)
theorem TMk.src {z:ae}{o:E Dev}{A:af ag}(h:TMk z W o A D u)(v:Fr No w z)(y:∀ d∈o,∃ l,Atts w d.aa d.ac l/\d.an=l.length):TMk w W o A D u:=⟨h.dv,h.bt,λF e=>bz v.size (h.fresh F e),h.cop.src v y v.size⟩
theorem ChgRes.tmk {e:Ending}(h:ChgRes w W ds k x e):∃ u v o,e=.returned (.tuple #[al #[L u (o:E Dev).length v],aj K 0])/\TMk w W (ds.set k x) u v o:=by
 obtain⟨u,v,o,y,z,A,D,F⟩:=h;exact⟨u,v,o,y,z,A,D,F⟩
theorem zL6 (D:C)(a:af ag)(n R:C)(ev:af ag)(en ec:C)(ix:G)(A:E Dev)(x:Dev)(w:ae)(hk:w.heap[D]?=B (a1 (kcs a n R ev en ec ix) 60))(a3:∀ d∈A,∃ l,Atts w d.aa d.ac l/\d.an=l.length)
  (a4:∀ W,Fr No w W->Calls am 74 #[al #[L a n R],al x.vals] W λe w'=>(∃ u v o,e=.returned (.tuple #[al #[L u (o:E Dev).length v],aj K 0])/\TMk W w' A u v o)/\Fr No W w'):
  Calls am 96 #[ay (B ⟨D,0,H⟩),al x.vals] w λe w'=>e=.returned (aj K 0)/\(∃ u v o,w'.heap[D]?=B (a1 (kcs u (o:E Dev).length v ev en ec ix) 60)/\TMk w w' A u v o)/\Fr (Is D) w w':=by
 obtain⟨W0,Z,x0,b0⟩:=zy w (a1 x.vals 36);have a6:=x0.heap hk id;have a9:=zC hk;have a2:=zh a4;have a5:=zh a3;have a7:=zh hk;have s0:=zC b0;clear hk a3 a4;unfold ba at Z a2 ⊢
 go_enter Tryz.func96,Tryz.ntmps96
 go_upto_region 1 with(fail)
 rw[<-Z];clear Z
 go_cut [5,6] (λp5 v6 wx=>∃ y u v o,p5=ay (B ⟨y,0,H⟩)/\v6=aj K 0/\a0 (wx.heap[y]?=B (a1 #[L u (bv o) v] 47)/\TMk w wx A u v o/\(w:C)<=y)/\Fr No w wx)
 case first=>
  refine zZ (λb=>(W0:C)<=b) (.q 0 (.q 1 (.q 2 (.q 3 (.q 4 (.m2 5 (.q 6 (.q 7 (.q 8 (.m1 9 (.m1 10 (.q 11 .fin)))))) 9 (.m1 5 (.q 6 (.q 7 (.q 8 (.m1 10 (.q 11 .fin)))))))))))) _ (by kernel_rfl) (by kernel_rfl) (λW1 U=>?_) zj;have b1:=U.heap b0 id;have k1:=U.heap a6 id;have s1:=U.size;have t0:∀ g:Gr (λb=>(W0:C)<=b) W1,g.W.cell? ⟨D,0,H⟩=B (L a n R):=λg=>zB (g.fr.heap k1 (λh=>by omega)) 0
  have F:∀ g:Gr (λb=>(W0:C)<=b) W1,DevB g.W (w:C) x:=λg=>DevB.of (g.fr.heap b1 (λh=>by omega))
  have c0:=λg=>(F g).c0
  have c1:=λg=>(F g).c1
  have c2:=λg=>(F g).c2
  have c3:=λg=>(F g).c3
  have c4:=λg=>(F g).c4
  have c5:=λg=>(F g).c5
  have c6:=λg=>(F g).c6
  have c7:=λg=>(F g).c7
  have c8:=λg=>(F g).c8
  have c9:=λg=>(F g).c9
  have x1:=zh (x0.step U zi);clear F
  repeat((first|apply zL rfl rfl rfl|apply zJ rfl rfl rfl);intro a8 hK;go_big_quiet_op;go_big_quiet_on)
  clear t0 c0 c1 c2 c3 c4 c5 c6 c7 c8 c9;refine zAA rfl rfl ?_ ?_
  focus
   have z:=a2.out W1 x1.out
   go_wp2_with fail
   refine z.mono ?_;rintro e w2 ⟨⟨u,v,o,rfl,hT⟩,V⟩;have s2:=V.size;have X2:a0 (Fr No w w2):=x1.out.step V zi;have HT:=zh (hT.src x1.out a5.out);clear z hT
   go_wp2_with fail
   refine zm V ?_
   repeat((first|apply zL rfl rfl rfl|apply zJ rfl rfl rfl);intro a8 hK;go_big_quiet_op;go_big_quiet_on)
   apply zH;exact rfl;obtain⟨J,I,f3,N⟩:=zy w2 (a1 #[L H 0 0] 47)
   go_wp2_with fail
   refine zp ?_;rw[<-I];clear I;have O:a0 (Fr No w J/\TMk w J A u v o/\(W0:C)<=(w2:C)):=⟨X2.out.step f3 zi,HT.out.no f3,by omega⟩
   clear f3 V;generalize (w2:C)=y at *;apply zH;exact rfl;have y0:=zD N 0;have z0:J.cell? ⟨y,0,H⟩=B (L H 0 0):=zB N 0;have fB:Fr (Is y) J (J.setCell ⟨y,0,H⟩ (L u o.length v)):=bc (ar _ _) _;have HR:a0 ((J.setCell ⟨y,0,H⟩ (L u o.length v)).heap[y]?=B (a1 #[L u o.length v] 47)/\TMk w (J.setCell ⟨y,0,H⟩ (L u o.length v)) A u v o/\(w:C)<=y):=⟨zE N 0 _,O.out.2.1.put fB N (by decide) (by decide),by have:=O.out.2.2;have:=x0.size;omega⟩
   have HX:a0 (Fr No w (J.setCell ⟨y,0,H⟩ (L u o.length v))):=O.out.1.step fB (λb hb h=>by have:=O.out.2.2;omega)
  rotate_left 1
  focus
   obtain⟨J,I,f3,q2⟩:=zy W1 (a1 #[L H 0 0] 47)
   go_wp2_with fail
   refine zp ?_;rw[<-I];clear I;have x3:=zh (x1.out.step f3 zi);have z:=a2.out J x3.out;apply zH;exact rfl
   go_wp2_with fail
   refine z.mono ?_;rintro e Y ⟨⟨u,v,o,rfl,hT⟩,X⟩;have N:=X.heap q2 id;have O:a0 (Fr No w Y/\TMk w Y A u v o/\(W0:C)<=(W1:C)):=⟨x3.out.step X zi,hT.src x3.out a5.out,s1⟩
   clear z hT q2 f3
   go_wp2_with fail
   refine zm X ?_;clear X
   repeat((first|apply zL rfl rfl rfl|apply zJ rfl rfl rfl);intro a8 hK;go_big_quiet_op;go_big_quiet_on)
   generalize (W1:C)=y at *;apply zH;exact rfl;have y0:=zD N 0;have z0:Y.cell? ⟨y,0,H⟩=B (L H 0 0):=zB N 0;have fB:Fr (Is y) Y (Y.setCell ⟨y,0,H⟩ (L u o.length v)):=bc (ar _ _) _;have HR:a0 ((Y.setCell ⟨y,0,H⟩ (L u o.length v)).heap[y]?=B (a1 #[L u o.length v] 47)/\TMk w (Y.setCell ⟨y,0,H⟩ (L u o.length v)) A u v o/\(w:C)<=y):=⟨zE N 0 _,O.out.2.1.put fB N (by decide) (by decide),by have:=O.out.2.2;have:=x0.size;omega⟩
   have HX:a0 (Fr No w (Y.setCell ⟨y,0,H⟩ (L u o.length v))):=O.out.1.step fB (λb hb h=>by have:=O.out.2.2;omega)
  all_goals (
   have HB:a0 ((W0:C)<=y):=O.out.2.2;clear fB N
   go_wp2_with fail
   refine OnlyN.mk ⟨Fr.setCell (ar _ _) (λ_=>HB.out) _,?_⟩
   repeat((first|apply zL rfl rfl rfl|apply zJ rfl rfl rfl);intro a8 hK;go_big_quiet_op;go_big_quiet_on)
   refine zV ?_
   go_wp2_with fail
   go_meet
   exact⟨y,u,v,o,rfl,rfl,HR,HX.out⟩
   )
 case rest=>
  obtain⟨y,u,v,o,rfl,rfl,hB,hf⟩:=hcut;have z0:wc.cell? ⟨y,0,H⟩=B (L u o.length v):=zB hB.out.1 0;have k1:=hf.heap a7.out id;have y1:=zD k1 0;have z1:wc.cell? ⟨D,0,H⟩=B (L a n R):=zB k1 0;have fK:Fr (Is D) wc (wc.setCell ⟨D,0,H⟩ (L u o.length v)):=bc (ar _ _) _;have HR:a0 ((wc.setCell ⟨D,0,H⟩ (L u o.length v)).heap[D]?=B (a1 (kcs u o.length v ev en ec ix) 60)/\TMk w (wc.setCell ⟨D,0,H⟩ (L u o.length v)) A u v o/\Fr (Is D) w (wc.setCell ⟨D,0,H⟩ (L u o.length v))):=⟨zE k1 0 _,hB.out.2.1.put fK k1 (by decide) (by decide),(hf.mono zn).step fK zi⟩
  clear k1 fK hf
  go_wp2_with fail
  go_ret;exact⟨rfl,⟨u,v,o,HR.out.1,HR.out.2.1⟩,HR.out.2.2⟩
def strip (d:Dev):Dev:={ d with aa:=H,an:=0,ac:=0 }
section
variable {ds:E Dev}{n:G}
theorem zA5: look (ds.map strip) n=(look ds n).map strip:=by
 unfold look;rw[bq];rfl
theorem zE2 : ∀ (k:C) (n:G),chainK (ds.map strip) k n=(chainK ds k n).map strip
 | 0,_=>rfl
 | k+1,n=>by
  unfold chainK;rw[zA5];cases look ds n with
  | none=>rfl
  | some d=>show strip d::chainK (ds.map strip) k d.parent=_;rw[zE2 k d.parent];rfl
theorem zKx: chain (ds.map strip) n=(chain ds n).map strip:=by unfold chain;rw[av,zE2]
theorem zCx: origin (ds.map strip) n=origin ds n:=by unfold origin;rw[zKx,bj];rfl
theorem zAJ: plc (ds.map strip) n=plc ds n:=by
 unfold plc;rw[zA5,zCx];cases look ds n<;>rfl
theorem zIz: partOf (ds.map strip) n=partOf ds n:=by
 unfold partOf;rw[zA5];cases look ds n with
 | none=>rfl
 | some d=>
  show (match look (ds.map strip) d.parent with|none=>H|some p=>partB p (strip d))=(match look ds d.parent with|none=>H|some p=>partB p d)
  rw[zA5];cases look ds d.parent<;>rfl
theorem zAn: virB (ds.map strip) n=virB ds n:=by
 unfold virB;rw[zA5,zIz];cases look ds n<;>rfl
theorem zFB : ∀ (ds:E Dev) (R:G->Bool),subL n (ds.map strip) R=(subL n ds R).map strip
 | [],_=>rfl
 | d::t,R=>by
  rw[bi];unfold subL;rw[zFB t,zFB t];show (if (d.index==n||R d.parent)=ab then _ else _)=_
  split<;>rfl
theorem zNv (l:E Dev):ixs (l.map strip)=ixs l:=by
 funext i
 unfold ixs;rw[bo];rfl
theorem zHp: remL n (ds.map strip)=(remL n ds).map strip:=by
 unfold remL;rw[zFB,zNv,List.filter_map];rfl
theorem zGS (k:C)(d:Dev):insAt (ds.map strip) k (strip d)=(insAt ds k d).map strip:=by
 unfold insAt;rw[List.map_append,bi,List.map_take,List.map_drop]
theorem zFp (s:P):(ds.map strip).find? (atP (ds.map strip) s)=(ds.find? (atP ds s)).map strip:=by
 rw[bq]
 congr 1
 congr 1
 funext d
 unfold atP;show ((plc (ds.map strip) d.index).toList==s.toList)=_
 rw[zAJ]
theorem zH3 (d:Dev):newO (ds.map strip) (strip d)=newO ds d:=by unfold newO;rw[zAJ];rfl
theorem zFe {α β:Type}(f:α->β)(p:β->Bool):∀ l:E α,fidx p (l.map f)=fidx (p∘f) l
 | []=>rfl
 | x::t=>by rw[bi];unfold fidx;rw[zFe f p t];rfl
theorem zID (d:Dev):insK (ds.map strip) (strip d)=insK ds d:=by
 unfold insK;rw[zH3,zFe,av];have e:(zAB (ds.map strip) (newO ds d)∘strip)=zAB ds (newO ds d):=by
  funext x
  unfold zAB;show decide (0<=(cmpP (plc (ds.map strip) x.index) _).1)=_
  rw[zAJ]
 rw[e]
theorem zJr (d:Dev):sameO (ds.map strip) (strip d)=sameO ds d:=by
 unfold sameO;rw[zID,zH3,ai];cases ds[insK ds d]? with
 | none=>rfl
 | some x=>show ((plc (ds.map strip) x.index).toList==_)=_;rw[zAJ]
theorem zC8 (d:Dev):(ds.map strip).any (clP (strip d))=ds.any (clP d):=by rw[bo];rfl
end
theorem zLb {o:Dev}(h:o={ d with aa:=o.aa,ac:=o.ac }):strip o=strip d:=by rw[h];rfl
theorem Cop.strip {u:C}{o:E Dev}(h:Cop w w' u ds o):o.map strip=ds.map strip:=by
 apply bp;intro i;rw[ai,ai];by_cases y:i<ds.length
 .have v:i<o.length:=by have:=h.len;omega
  rw[bd y,bd v];show B _=B _
  rw[zLb (h.el i _ _ (bd y) (bd v)).eq]
 .have z:=h.len;rw[bs (by omega),bs (by omega)]
def AttOf (w:ae)(ds:E Dev)(att:G->E (P×P)):Prop:=∀ d∈ds,Atts w d.aa d.ac (att d.index)/\d.an=(att d.index).length
theorem AttOf.cop {u:C}(h:AttOf w ds o)(z:Cop w w' u ds v):AttOf w' v o:=λA D=>by
 obtain⟨d,F,y⟩:=z.mem D;obtain⟨l,I,J,U,_⟩:=y.att;obtain⟨N,O⟩:=h d F;have e:A.index=d.index:=by rw[y.eq]
 have R:l=o d.index:=I.det N (by omega);subst R;rw[e];exact⟨J,by rw[y.eq];exact O⟩
theorem AttOf.sub {o:E Dev}{u:G->E (P×P)}(h:AttOf w ds u)(v:∀ d∈o,d∈ds):AttOf w o u:=λd y=>h d (v d y)
theorem AttOf.no (h:AttOf w ds o)(v:Fr No w w'):AttOf w' ds o:=λd u=>⟨(h d u).1.no v (λ_=>id),(h d u).2⟩
theorem TreeOk.map:TreeOk (ds.map strip)↔TreeOk ds:=by
 have e:(ds.map strip).map az=ds.map Dev.index:=by rw[bj];rfl
 constructor
 .intro h;refine⟨e▸h.nd,λd o=>h.ix (strip d) (bm o),λk d o=>?_,λd o=>h.nm (strip d) (bm o)⟩;rcases h.pa k (strip d) (by rw[ai,o];rfl)with h1|⟨j,x,h1,h2,h3⟩
  .exact .inl h1
  .rw[ai]at h2;cases hx:ds[j]? with
   | none=>rw[hx]at h2;cases h2
   | some y=>rw[hx]at h2;cases h2;exact .inr ⟨j,y,h1,hx,h3⟩
 .intro h;refine⟨e.symm▸h.nd,λd o=>?_,λk d o=>?_,λd o=>?_⟩
  .obtain⟨y,u,rfl⟩:=List.mem_map.1 o;exact h.ix y u
  .rw[ai]at o;cases hx:ds[k]? with
   | none=>rw[hx]at o;cases o
   | some y=>
    rw[hx]at o;cases o;rcases h.pa k y hx with h1|⟨j,z,h1,h2,h3⟩
    .exact .inl h1
    .exact .inr ⟨j,strip z,h1,by rw[ai,h2];rfl,h3⟩
  .obtain⟨y,u,rfl⟩:=List.mem_map.1 o;exact h.nm y u
theorem zD8 (c:P):getP (cAtt c) zM=c:=by
 unfold cAtt;cases hc:c.toList.isEmpty with
 | true=>
  rw[if_pos rfl];rw[ByteArray.toList_eq]at hc;have o:c.data.toList=[]:=by simpa using hc
  exact(ByteArray.ext (Array.toList_inj.1 o):c=⟨#[]⟩).symm
 | false=>
  have h:isKey zM (zM,c)=true:=by simp[isKey]
  rw[if_neg (by simp)];unfold getP;rw[List.find?_cons,h];rfl
def CtO (w:ae)(ds:E Dev)(ct:G->P):Prop:=AttOf w ds λi=>cAtt (ct i)
def updC (ct:G->P)(n:G)(v:P):G->P:=λi=>if i=n then v else ct i
theorem AttOf.fr (h:AttOf w ds o)(y:Fr S w w')(z:∀ d∈ds,∀ u,d.aa=B u->¬ S u.block):AttOf w' ds o:=λd v=>⟨(h d v).1.fr y (λu e _=>z d v u e),(h d v).2⟩
theorem CtO.set (h:CtO w ds ct)(X:TreeOk ds){o:Dev}(J:ds[k]?=B o)(Y:x.index=o.index){v:P}(Z:Atts w x.aa x.ac (cAtt v))(A:x.an=(cAtt v).length):CtO w (ds.set k x) (updC ct o.index v):=by
 have D:=(List.getElem?_eq_some_iff.1 J).1;intro y hy;obtain⟨i,u⟩:=List.getElem?_of_mem hy;rw[bu]at u;by_cases e:k=i
 .rw[if_pos e]at u;split at u
  .cases u;have z:(λi=>cAtt (updC ct o.index v i)) x.index=cAtt v:=by dsimp only;unfold updC;rw[if_pos Y]
   rw[z];exact⟨Z,A⟩
  .exact absurd D (by assumption)
 .rw[if_neg e]at u;have F:y.index≠o.index:=λN=>by
   have h1:(ds.map az)[i]?=B y.index:=by rw[ai,u];rfl
   have h2:(ds.map az)[k]?=B o.index:=by rw[ai,J];rfl
   obtain⟨O,z⟩:=List.getElem?_eq_some_iff.1 h1;obtain⟨R,U⟩:=List.getElem?_eq_some_iff.1 h2;have V:=List.pairwise_iff_getElem.1 X.nd;rcases Nat.lt_or_gt_of_ne e with I|I
   .exact V k i R O I (by rw[z,U,N])
   .exact V i k O R I (by rw[z,U,N])
  have z:(λi=>cAtt (updC ct o.index v i)) y.index=cAtt (ct y.index):=by dsimp only;unfold updC;rw[if_neg F]
  rw[z];exact h y (be u)
theorem KSt.emit {o:C}{v:C}{I y:af ag}{u z:C}{O:E aq}(h:KSt w D o a v ds I J N ix)(U:Fr (λb=>b=D\/(bn I J N).ownBlock=B b) w w')
  (V:w'.heap[D]?=B (a1 (kcs a ds.length v y u z ix) 60)) (X:w'.ownsRow o 114 5 (L y u z) u O):KSt w' D o a v ds y u z ix:=by
 obtain⟨Y,Z⟩:=h.own;obtain⟨g1,g2,g3⟩:=Tr.typ h.tr h.ta h.te U (λb cs T A F=>by
  rcases A with rfl|A
  .rw[h.blk]at F;cases F;exact⟨by decide,by decide⟩
  .by_cases R:T=114
   .subst R;exact⟨by decide,by decide⟩
   .exact absurd A (zK Z F R))
 exact⟨V,g1,g2,g3,⟨O,X⟩,h.nm⟩
theorem KSt.tmk {Z D:ae}{F o:C}{I:C}{A:E Dev}{J:af ag}{O:C}{R:af ag}{U:C}(h:KSt w F o a I ds J N O ix)(hf:Fr (Is F) w D)(hb:D.heap[F]?=B (a1 (kcs R u.length U J N O ix) 60))(v:TMk Z D A R U u)(h5:o<=(Z:C))
  (V:∀ d∈A,Sized d/\d.drv=⟨#[]⟩/\d.name.size<=1000) (X:TreeWf u):KSt D F o R U u J N O ix:=by
 obtain⟨xs,hx⟩:=h.own;refine⟨hb,v.cop.tr (λd z=>⟨(V d z).1,(V d z).2.1⟩) v.dv X v.fresh h5,v.bt,λd z=>?_,⟨xs,zG hx hf (λb Y e=>?_)⟩,v.cop.names λd z=>(V d z).2.2⟩
 .obtain⟨y,_,hy⟩:=v.cop.mem z;exact hy.typ
 .unfold Is at e;subst e;exact zK hx h.blk (by decide) Y
theorem TreeWf.ofStrip {o:E Dev}(h:TreeWf ds)(e:o.map strip=ds.map strip):TreeWf o:=by
 have u:TreeOk o:=TreeOk.map.1 (e▸TreeOk.map.2 h.ok);have N:∀ n,origin o n=origin ds n:=λn=>by rw[<-zCx,e,zCx]
 have O:∀ d∈o,∃ y∈ds,y.index=d.index:=λd v=>by
  have D:strip d∈ds.map strip:=e▸bm v;obtain⟨y,A,R⟩:=List.mem_map.1 D;exact⟨y,A,by have J:=congrArg az R;exact J⟩
 refine⟨u,λd v V F I=>?_,λd v=>?_⟩
 .obtain⟨y,D,A⟩:=O d v;obtain⟨z,R,J⟩:=O V F;rw[N,N,<-A,<-J]at I;have X:=h.uo y D z R I;have U:=zu u.nd v;have Y:=zu u.nd F;rw[<-A,X,J,Y]at U;exact(Option.some.inj U).symm
 .obtain⟨y,D,A⟩:=O d v;rw[N,<-A];exact h.dp y D
theorem zCa {o:Dev}(h:ds[k]?=B o)(e:strip x=strip o):(ds.set k x).map strip=ds.map strip:=by
 rw[List.map_set,e];apply bp;intro i;rw[bu];split
 .rename_i u;subst u;split
  .rw[ai,h];rfl
  .rw[ai,h];rename_i v;exact absurd (by simpa using (List.getElem?_eq_some_iff.1 h).1) v
 .rfl
theorem zPK (Z u:C)(a:af ag)(d5:C)(ds:E Dev)(ev:af ag)(en ec:C)(ix kk:G)(ct:G->P)(k:C)(b9 F:P)(x0 v d:Dev)(m:G)(w:ae)(hK:KSt w Z u a d5 ds ev en ec ix)(hC:CtO w ds ct)(h4:en<=60000)(hn:ds.length<=256)(hb:u<=(w:C))(hk:ds[k]?=B v)(e4:fidx (λy=>y.index==v.index) ds=(k:G))
  (hd:d={ v with aa:=d.aa,ac:=d.ac }) (e5:Atts w d.aa d.ac (cAtt (ct v.index))) (e6:v.kind=2) (d0:Sound v (cAtt F)) (a6:ds.any (clP v)=ak) (hv:F.size<=100000) (hm:w.cell? ⟨0,0,H⟩=B (.int K m)) (h0:0<(w:C)) (h5:0<Z):
  Calls am 54 #[ay (B ⟨Z,0,H⟩),al (ocs kk b9 x0 zM F),al d.vals] w λe w'=>e=.returned (.int K 0)/\
   (∃ a' c' z d6 e7 d7,KSt w' Z u a' c' z d6 e7 d7 ix/\z.map strip=ds.map strip/\CtO w' z (updC ct v.index F)/\e7<=en+1)/\Fr (λb=>b=Z\/(bn ev en ec).ownBlock=B b) w w':=by
 obtain⟨W0,d8,e8,b4,b5⟩:=zw w (a1 (ocs kk b9 x0 zM F) 38) (a1 d.vals 36);have h7:=zC hK.blk;have s0:=zC b5;have I:=be hk;have d1:d.an=(cAtt (ct v.index)).length:=by rw[hd];exact(hC v I).2
 have K1:=zh (zAN zM W0 (by decide));have a7:isName zM=true:=by kernel_rfl
 have HK:=zh hK;have HC:=zh hC;have HA:=zg2 e5 d1;have J:=zg6 hk e4 hd e6 d0 a6;have HM:=zh hm;have HV:=zh hv;obtain⟨o0,o1,o2,o3,o4,o5,o6,o7,o8,o9,O,R,U,V⟩:=OpB.of b4;clear hK hC e5 d1 hk e4 e6 d0 a6 hm hv I hd;unfold ocs ba at d8 ⊢
 go_enter Tryz.func54,Tryz.ntmps54
 go_upto_region 1 with(fail)
 rw[<-d8];clear d8;rw[a7]at K1
 go_wp2_with fail
 refine K1.out.mono ?_;rintro e w1 ⟨rfl,a8⟩;have x1:Fr No w w1:=e8.step a8 zi;have p4:=a8.heap b4 id;have p5:=a8.heap b5 id;clear o0 o1 o2 o3 o4 o5 o6 o7 o8 o9 O R U V b4 b5 a8 e8;obtain⟨o0,o1,o2,o3,o4,o5,o6,o7,o8,o9,O,R,U,V⟩:=OpB.of p4;have c9:w1.cell? ⟨(w:C)+1,9,H⟩=B (.slice d.aa d.an d.ac):=zB p5 9;have Y:=zN8 d.aa d.ac (cAtt (ct v.index)) zM w1 (HA.out.1.no x1 (λ_=>id));rw[zD8]at Y;have A:=zN5 d.aa d.ac (ct v.index) F w1;rw[HA.out.2]at c9;obtain⟨N,hN⟩:∃ N,N=(cAtt (ct v.index)).length:=⟨_,rfl⟩
 rw[<-hN]at c9 Y A;have HN:=zh hN;clear hN A
 go_wp2_with fail
 refine Y.mono ?_;rintro e w2 ⟨⟨bf,rfl⟩,a9⟩;have x2:Fr No w w2:=x1.step a9 zi;have r4:=a9.heap p4 id;have r5:=a9.heap p5 id;clear o0 o1 o2 o3 o4 o5 o6 o7 o8 o9 O R U V p4 p5 a9 c9 Y;obtain⟨o0,o1,o2,o3,o4,o5,o6,o7,o8,o9,O,R,U,V⟩:=OpB.of r4;have c9:w2.cell? ⟨(w:C)+1,9,H⟩=B (.slice d.aa d.an d.ac):=zB r5 9;rw[HA.out.2,<-HN.out]at c9;have A:=zN5 d.aa d.ac (ct v.index) F w2 (HA.out.1.no x2 (λ_=>id)) (by have:=HV.out;unfold ax;omega);rw[<-HN.out]at A
 go_wp2_with fail
 refine A.mono ?_;rintro e w3 ⟨⟨a3,c3,rfl,e9,g7,g0⟩,b0⟩;have x3:Fr No w w3:=x2.step b0 zi;have u4:=b0.heap r4 id;have u5:=b0.heap r5 id;have s2:=x2.size;have h8:=zC r5;obtain⟨x,hx⟩:∃ x:Dev,x={ d with aa:=a3,an:=(cAtt F).length,ac:=c3 }:=⟨_,rfl⟩
 clear o0 o1 o2 o3 o4 o5 o6 o7 o8 o9 O R U V r4 r5 b0 c9 A;have y9:=zD u5 9;have z9:w3.cell? ⟨(w:C)+1,9,H⟩=B (.slice d.aa d.an d.ac):=zB u5 9;obtain⟨W4,b1⟩:∃ W4,W4=w3.setCell ⟨(w:C)+1,9,H⟩ (.slice a3 (cAtt F).length c3):=⟨_,rfl⟩
 have f4:Fr (Is ((w:C)+1)) w3 W4:=by rw[b1];exact bc (ar _ _) _
 have v5:W4.heap[(w:C)+1]?=B (a1 x.vals 36):=by rw[b1,hx];exact zE u5 9 _
 have v4:=f4.heap u4 (λh=>by omega);have x4:Fr No w W4:=x3.step f4 (λb hb h=>by omega);have g1:=e9.fr f4 (λad e _ h=>by have:=g0 ad e;omega);have HX:=zg3 hx g1 x4;have HU:=zg2 v4 v5;clear hx g1 e9 g7 u4 u5 f4
 go_upto_region 5 with(fail)
 rw[<-b1];clear b1 y9 z9;have o:x={ v with aa:=a3,an:=(cAtt F).length,ac:=c3 }:=by rw[HX.out.1,J.out.2.2.1]
 have d9:strip x=strip v:=by rw[o];rfl
 have g8:=zh (zCa J.out.1 d9);have I:=be J.out.1;have D:=HK.out.tr.el v I;have b2:CtO W4 (ds.set k x) (updC ct v.index F):=CtO.set (HC.out.no HX.out.2.2) HK.out.tr.wf.ok J.out.1 (by rw[o]) (by rw[o];exact HX.out.2.1) (by rw[o]);have e0:∀ y∈ds.set k x,Sized y/\y.drv=⟨#[]⟩/\y.name.size<=1000:=λy hy=>by
  rcases List.mem_or_eq_of_mem_set hy with h|rfl
  .exact⟨(HK.out.tr.el y h).sz,(HK.out.tr.el y h).drv,HK.out.nm y h⟩
  .rw[o];exact⟨⟨D.sz.name,D.sz.orig,D.sz.sub,D.sz.drv,D.sz.ali⟩,D.drv,HK.out.nm v I⟩
 have e1:=zL6 Z a ds.length d5 ev en ec ix (ds.set k x) x W4 (HX.out.2.2.heap HK.out.blk id) (λy hy=>⟨_,(b2 y hy).1,(b2 y hy).2⟩) (λW hf=>by
  have e2:=HX.out.2.2.step hf zi;have g9:Sound x (cAtt F):=by rw[o];exact⟨J.out.2.2.2.2.1.rng,J.out.2.2.2.2.1.named,J.out.2.2.2.2.1.same,J.out.2.2.2.2.1.num,J.out.2.2.2.2.1.attrs,J.out.2.2.2.2.1.link⟩
  have a6:ds.any (clP x)=false:=by rw[<-J.out.2.2.2.2.2,<-zC8,d9,zC8]
  exact(zHe a d5 u ds k v x (cAtt F) m W (HK.out.tr.no e2) hn J.out.1 (by rw[o];exact J.out.2.1) (by rw[o];exact⟨rfl,rfl,rfl⟩) (e0 x (List.mem_set (List.getElem?_eq_some_iff.1 J.out.1).1 x)).1 (by rw[o];exact HX.out.2.1.no hf (λ_=>id)) (zCl F) (by rw[o]) (by rw[o];exact J.out.2.2.2.1) (by rw[o];exact D.drv) g9 a6 (e2.cell HM.out id) (Nat.lt_of_lt_of_le h0 e2.size)).mono λe w' h=>⟨h.1.tmk,h.2⟩)
 have g2:=zg2 b2 e0;have e3:x.index=v.index:=by rw[o]
 have h9:=zh e3;have h1:(aw K x.index).wf=true:=by rw[e3];exact HK.out.tr.wf.ok.iwf I
 clear b2 e0 D I d9 e3 o;obtain⟨c0,c1,c2,h2,c4,c5,c6,c7,c8,c9⟩:=DevB.of HU.out.2;unfold ba at e1
 go_wp2_with fail
 refine e1.mono ?_;rintro e w6 ⟨rfl,⟨a',c',z,d2,b3⟩,a2⟩;have s4:=HX.out.2.2.size;have b6:=b3.cop.strip.trans g8.out;have X:KSt w6 Z u a' c' z ev en ec ix:=(HK.out.no HX.out.2.2).tmk a2 d2 b3 (by omega) g2.out.2 (TreeWf.ofStrip HK.out.tr.wf b6);have i0:z.length<=256:=by have:=congrArg bv b6;rw[av,av]at this;omega
 have HR:=zg4 X b6 (g2.out.1.cop b3.cop) ((x3.mono zn:Fr (Is Z) w w3));have v4:=a2.heap HU.out.1 (λh=>by omega);have v5:=a2.heap HU.out.2 (λh=>by omega);have FW:a0 (Fr (Is Z) w w6):=(HX.out.2.2.mono zn).step a2 zi;have s6:=FW.out.size;clear e1 d2 b3 a2 X b6 c0 c1 c2 h2 c4 c5 c6 c7 c8 c9;obtain⟨o0,o1,o2,o3,o4,o5,o6,o7,o8,o9,O,R,U,V⟩:=OpB.of v4;have c0:w6.cell? ⟨(w:C)+1,0,H⟩=B (.int K x.index):=zB v5 0;clear v4 v5;rcases hne:((ct v.index).toList==F.toList)with _|_
 .have g3:=zHE Z a' c' u z ev en ec ix 3 x.index w6 HR.out.1.blk HR.out.1.tr (by omega) h1 HR.out.1.nm
  go_wp2_with fail
  refine g3.mono ?_;rintro e w7 ⟨⟨sp,rfl⟩,a4⟩;obtain⟨W8,g4,f8,b8⟩:=zy w7 (a1 #[.int K 0,.int K 3,.int K x.index,.string sp,.string ⟨#[]⟩] 114);have X:=HR.out.1.no (a4.step f8 zi);obtain⟨xs,d3⟩:=X.own;have s7:=a4.size;have s8:=f8.size;have g5:=zMu Z (w7:C) u a' z.length c' ev en ec ix 3 x.index sp xs W8 X.blk d3 (by omega) b8 (by omega) (λh=>by obtain⟨i1,h6⟩:=HR.out.1.own;have:=(zAD h6 h).2;omega);have H8:=zg3 X (HR.out.2.2.1.no (a4.step f8 zi)) ((FW.out.step a4 zn).step f8 zn);clear g3 a4 f8 b8 X d3 c0 o0 o1 o2 o3 o4 o5 o6 o7 o8 o9 O R U V
  go_wp2_with (fail)
  rw[<-g4];clear g4;refine g5.mono ?_;rintro e w9 ⟨rfl,⟨d6,d7,i2,d4,a5⟩,b7⟩;have g6:=H8.out.1.emit b7 d4 a5;have H9:=zh (And.intro g6 (And.intro (H8.out.2.1.fr b7 (λy hy ad e h=>by
   obtain⟨cs,hc⟩:=H8.out.1.te y hy ad e;obtain⟨i3,h3⟩:=H8.out.1.own;rcases h with h|h
   .rw[h,H8.out.1.blk]at hc;cases hc
   .exact zK h3 hc (by decide) h)) ((H8.out.2.2.mono (T:=λb=>b=Z\/(bn ev en ec).ownBlock=B b) (λb _ h=>.inl h)).step b7 (λb _ h=>h))))
  clear g5 d4 a5 b7 g6
  go_wp2_with fail
  go_ret;exact⟨rfl,⟨a',c',z,d6,en+1,d7,H9.out.1,HR.out.2.1,H9.out.2.1,by omega⟩,H9.out.2.2⟩
 .have i4:True:=trivial
  go_wp2_with fail
  go_ret;exact⟨rfl,⟨a',c',z,ev,en,ec,HR.out.1,HR.out.2.1,HR.out.2.2.1,by omega⟩,FW.out.mono (λb _ h=>.inl h)⟩
theorem zAf {w:ae}{u:Array Oper}{h:E Oper}{o:Oper}{a:Act}{Q:Exit->Act->ae->Prop}(A:o.guard=H)(m x:Operand)(t:TypeId)(y:o.op=Op.lookup t m x ak)(F:Tryz.prog.underlying t=B (.map 3 4))
  (z:C) (g:G->Bool) (N:C) (k:G) (I:(aw K k).wf=ab) (J:a.eval m=.map (B z)) (v:BMap w z g N) (O:a.eval x=.int K k) (b:Bool) (R:g k=b)
  (U:wpList am u Q h (a.put o.dst (.bool b)) w):wpList am u Q (o::h) a w:=by
 obtain⟨D,n,_,V,X⟩:=v;subst R;exact zBb w A m x t y 3 4 lawI F (by kernel_rfl) (zeroB w) z n D J V _ _ O (keyOf_int_mk ca I) _ (X k) U
theorem zCB {w:ae}{y:Array Oper}{u:E Oper}{o:Oper}{a:Act}{Q:Exit->Act->ae->Prop}(J:o.guard=H)(m x v:Operand)(t:TypeId)(F:o.op=Op.mapUpdate t m x v)(O:Tryz.prog.underlying t=B (.map 3 4))
  (z:C) (g:G->Bool) (N:C) (hN:N<ax) (k:G) (R:(aw K k).wf=ab) (b:Bool) (U:a.eval m=.map (B z)) (A:BMap w z g N) (V:a.eval x=.int K k) (X:a.eval v=.bool b)
  (Y:∀ w',BMap w' z (upd g k b) (N+1)->Fr (Is z) w w'->wpList am y Q u (a.put o.dst undef) w'):wpList am y Q (o::u) a w:=by
 obtain⟨D,n,Z,I,hh⟩:=A;exact wpList_mapUpdate_own w J m x v t F 3 4 lawI O _ z n D U I (by omega) _ _ _ V X (keyOf_int_mk ca R) (.lit (.bool b)) [] (plainElem_bool (by kernel_rfl) b) (λw' h h'=>Y w' (BMap.put Z I hh k b h) (Fr.of_grown_some h'))
def usedF (l:E Dev):G->Bool:=λn=>l.any λd=>(d.num==n)&&(d.kind==2)
def maxI (l:E Dev):G:=l.foldl (λm d=>max m d.index) 0
theorem zGN (l:E Dev)(d:Dev):maxI (l++[d])=max (maxI l) d.index:=by unfold maxI;rw[bg];rfl
theorem zIi (l:E Dev)(d:Dev):upd (usedF l) d.num (usedF l d.num||(d.kind==2))=usedF (l++[d]):=by
 funext n
 unfold upd usedF;rw[List.any_append];by_cases h:n=d.num
 .subst h;rw[if_pos rfl];simp
 .rw[if_neg h];have:(d.num==n)=false:=by simp;exact λe=>h e.symm
  simp[this]
theorem zBV {α:Type}[DecidableEq α]:∀ {l m:E α},l.Nodup->(∀ x∈l,x∈m)->l.length<=m.length
 | [],m,_,_=>Nat.zero_le _
 | x::t,m,o,h=>by
  rw[List.nodup_cons]at o;have v:=h x (by simp);have A:=zBV (l:=t) (m:=m.erase x) o.2 (λy z=>by
   have u:y≠x:=λe=>o.1 (e▸z)
   exact(List.mem_erase_of_ne u).2 (h y (by simp[z])))
  have D:=List.length_erase_of_mem v;have F:=List.length_pos_of_mem v;rw[bh];omega
theorem zIh (ds:E Dev)(k:C)(h:∀ i:C,i<=k->usedF ds (1048576+(i:G))=ab):k<ds.length:=by
 have y:=zBV (l:=(List.range (k+1)).map λi:C=>1048576+(i:G)) (m:=ds.map λd=>d.num) (by
  refine cb _ (λa b (o:a≠b) (e:1048576+(a:G)=1048576+(b:G))=>o (by omega)) List.nodup_range) (λx z=>by
  obtain⟨i,A,rfl⟩:=List.mem_map.1 z;have u:=h i (by have:=List.mem_range.1 A;omega);unfold usedF at u;obtain⟨d,D,v⟩:=List.any_eq_true.1 u;rw[Bool.and_eq_true,beq_iff_eq]at v;exact List.mem_map.2 ⟨d,D,v.1⟩)
 simp at y;omega
theorem zOe (pb V:C)(a:af ag)(O:C)(ds:E Dev)(v1:aq)(w:ae)(hl:Tr w V a O ds)(hn:ds.length<=250)(Z:w.heap[pb]?=B (a1 #[.slice a ds.length O,v1] 102))
  (y:∀ d∈ds,(aw K d.num).wf=ab):
  Calls am 75 #[ay (B ⟨pb,0,H⟩)] w λe w'=>(∃ k:C,k<=ds.length/\usedF ds (1048576+(k:G))=ak/\(∀ i:C,i<k->usedF ds (1048576+(i:G))=ab)/\e=.returned (.tuple #[.int K (1048576+(k:G)),.int K (maxI ds)]))/\Fr No w w':=by
 have b8:=hl.dv.lenmax;obtain⟨W0,a2,x0,-⟩:=zy w (.map #[] 0);have hM:BMap W0 (w:C) (usedF []) 0:=by rw[a2];exact zEL w
 have t0:W0.cell? ⟨pb,0,H⟩=B (.slice a ds.length O):=zB (x0.heap Z id) 0;have b9:=zC Z;have HT:=zg2 hl hn;have HW:=zh y;have HX:=zh x0;have b4:=@run_makeMap am;clear hl hn Z y x0
 go_enter Tryz.func75,Tryz.ntmps75
 go_upto_region 2 with(fail)
 rw[<-a2];clear a2
 go_wp2_with fail
 clear t0 b4
 go_loopw [5,16] (λu i wr=>∃ k,k<=ds.length/\u=.int K (maxI (ds.take k))/\i=.int K (k:G)/\BMap wr (w:C) (usedF (ds.take k)) k/\Fr (Is (w:C)) W0 wr) (λ_ i _=>ds.length-(au i).toNat)
 case atStart=>exact⟨0,by omega,rfl,rfl,hM,ar _ _⟩
 case round=>
  obtain⟨k,hk,rfl,rfl,hB,hf⟩:=hrel;by_cases b5:k<ds.length
  .have a6:(k:G)<ds.length:=by omega
   have a7:Tr wr V a O ds:=HT.out.1.no (HX.out.step hf (λb hb h=>by omega));obtain⟨bb,d0,d,rfl,hd,X,c1,c2,c3,c4,c5,c6,c7,c8,c9⟩:=a7.dv.dev b5;have a8:=be hd;have a9:a0 (ds.take (k+1)=ds.take k++[d]):=by unfold a0;rw[bw,hd];rfl
   obtain⟨W1,a3,a4,d1⟩:=zy wr (a1 d.vals 36);have A:=hB.fr a4 id;have d2:(w:C)<(wr:C):=hB.lt;have y:=HW.out d a8;have a5:=zh (hf.step a4 zn);have z:=DevB.of d1;unfold ba at a3;obtain⟨u0,D⟩:∃ u0,u0=usedF (ds.take k) d.num:=⟨_,rfl⟩
   have hU:a0 (upd (usedF (ds.take k)) d.num (u0||(d.kind==2))=usedF (ds.take (k+1))):=by unfold a0;rw[D,a9.out,zIi]
   have F:a0 (maxI (ds.take (k+1))=max (maxI (ds.take k)) d.index):=by unfold a0;rw[a9.out,zGN]
   clear hd hB hf a4 d1 a7
   go_upto_region 5 with(fail)
   rw[<-a3];clear a3 X c1 c2 c3 c4 c5 c6 c7 c8 c9;obtain⟨X,c1,c2,c3,c4,c5,c6,c7,c8,c9⟩:=z;have d3:k<=250:=by have:=HT.out.2;omega
   have b6:=F;obtain⟨mx,R⟩:∃ mx,mx=max (maxI (ds.take k)) d.index:=⟨_,rfl⟩
   rw[<-R]at F;clear b6;rcases hu1:u0 with _|_
   .have U:=D.symm.trans hu1;rcases hkd:(d.kind==2)with _|_
    .skip;have I:a0 (upd (usedF (ds.take k)) d.num ak=usedF (ds.take (k+1))):=by unfold a0;rw[<-hU.out,hu1,hkd];rfl
     clear hU D hu1
     go_wp2_with (first
      | (at_lookup;refine zAf rfl _ _ 192 rfl ap (w:C) _ _ d.num y rfl A rfl ak U ?_)
      | (at_mapUpdate;refine zCB rfl _ _ _ 192 rfl ap (w:C) _ _ (by unfold ax;omega) d.num y ak rfl A rfl rfl ?_;intro w6 o v;have X:w6.cell? ⟨wr,0,H⟩=B (.int K d.index):=v.cell X (λh=>by unfold Is at h;dsimp only at h;omega)))
     rw[I.out]at o;have J:=zh (a5.out.step v (λb _ h=>h));have N:=zh o;clear o v A
     go_roundw
     case rel=>exact⟨k+1,by omega,by rw[F.out,R],by go_num,N.out,J.out⟩
     case measure=>simp[au];omega
    .skip;have I:a0 (upd (usedF (ds.take k)) d.num ab=usedF (ds.take (k+1))):=by unfold a0;rw[<-hU.out,hu1,hkd];rfl
     clear hU D hu1
     go_wp2_with (first
      | (at_lookup;refine zAf rfl _ _ 192 rfl ap (w:C) _ _ d.num y rfl A rfl ak U ?_)
      | (at_mapUpdate;refine zCB rfl _ _ _ 192 rfl ap (w:C) _ _ (by unfold ax;omega) d.num y ab rfl A rfl rfl ?_;intro w6 o v;have X:w6.cell? ⟨wr,0,H⟩=B (.int K d.index):=v.cell X (λh=>by unfold Is at h;dsimp only at h;omega)))
     rw[I.out]at o;have J:=zh (a5.out.step v (λb _ h=>h));have N:=zh o;clear o v A
     go_roundw
     case rel=>exact⟨k+1,by omega,by rw[F.out,R],by go_num,N.out,J.out⟩
     case measure=>simp[au];omega
   .have U:=D.symm.trans hu1;have hkd:(ab||(d.kind==2))=true:=rfl;have I:a0 (upd (usedF (ds.take k)) d.num ab=usedF (ds.take (k+1))):=by unfold a0;rw[<-hU.out,hu1];rfl
    clear hU D hu1
    go_wp2_with (first
     | (at_lookup;refine zAf rfl _ _ 192 rfl ap (w:C) _ _ d.num y rfl A rfl ab U ?_)
     | (at_mapUpdate;refine zCB rfl _ _ _ 192 rfl ap (w:C) _ _ (by unfold ax;omega) d.num y ab rfl A rfl rfl ?_;intro w6 o v;have X:w6.cell? ⟨wr,0,H⟩=B (.int K d.index):=v.cell X (λh=>by unfold Is at h;dsimp only at h;omega)))
    rw[I.out]at o;have J:=zh (a5.out.step v (λb _ h=>h));have N:=zh o;clear o v A
    go_roundw
    case rel=>exact⟨k+1,by omega,by rw[F.out,R],by go_num,N.out,J.out⟩
    case measure=>simp[au];omega
  .obtain rfl:k=ds.length:=by omega
   have a6:¬ (ds.length:G)<ds.length:=by omega
   have b0:BMap wr (w:C) (usedF ds) ds.length:=by rw[bx]at hB;exact hB
   have Hf:=zh (HX.out.step hf (λb hb h=>by omega));have b1:=zh (show ds.length<=250 from HT.out.2);rw[bx];clear hB hf
   go_wp2_with fail
   obtain⟨wA,rfl⟩:∃ wA,wA=wr:=⟨_,rfl⟩
   go_loopw [8] (λx wz=>∃ k:C,k<=ds.length/\x=.int K (1048576+(k:G))/\a0 (∀ i:C,i<k->usedF ds (1048576+(i:G))=ab)/\wz=wA) (λx _=>ds.length-(au x-1048576).toNat)
   case atStart=>exact⟨0,by omega,rfl,λi h=>by omega,rfl⟩
   case round=>
    obtain⟨k,hk,rfl,HU,rfl⟩:=hrel;obtain⟨Y,hK⟩:∃ Y:G,Y=1048576+(k:G):=⟨_,rfl⟩
    have HK:=zh hK;have b7:=b1.out;have b2:(aw K Y).wf=true:=WalkArith.wf_i64 (by show _/\_;omega);have d4:Y<=1048826/\0<=Y:=by omega
    rw[<-hK];clear hK;rcases hus:usedF ds Y with _|_
    .go_wp2_with (at_lookup;refine zAf rfl _ _ 192 rfl ap (w:C) _ _ Y b2 rfl b0 rfl ak hus ?_)
     go_ret2
     exact⟨⟨k,hk,by rw[<-HK.out];exact hus,HU.out,by rw[HK.out];rfl⟩,Hf.out⟩
    .have b3:a0 (∀ i:C,i<k+1->usedF ds (1048576+(i:G))=ab):=λi hi=>by
      rcases Nat.lt_or_ge i k with h|h
      .exact HU.out i h
      .obtain rfl:i=k:=by omega
       rw[<-HK.out];exact hus
     have d5:=zIh ds k (λi hi=>b3.out i (by omega))
     go_wp2_with (at_lookup;refine zAf rfl _ _ 192 rfl ap (w:C) _ _ Y b2 rfl b0 rfl ab hus ?_)
     go_roundw
     case rel=>
      refine⟨k+1,by omega,?_,b3,trivial⟩;have:=HK.out
      congr 1
      omega
     case measure=>have:=HK.out;simp[au];omega
theorem infoOp: (Tryz.prog.info? 38).map (λi=>(i.zero,i.size,i.bytes))=B (B (al #[aj K 0,ah ao,aj K 0,aj K 0,ah ao,ah ao,ah ao,ah ao,ah ao,aj K 0,aj K 0,L H 0 0,ah ao,ah ao]),14,192):=by kernel_rfl
theorem zCz (k:G)(h:P)(x:Dev)(nm v:P):∀ u∈(ocs k h x nm v).toList,u.oneCell'=true:=by
 intro u o;unfold ocs at o;simp at o;rcases o with rfl|rfl|rfl|rfl|rfl|rfl|rfl|rfl|rfl|rfl|rfl|rfl|rfl|rfl<;>rfl
theorem zHw {o base':C}{e:TypeId}{u:C}{v:aq}{n:C}{D:E aq}(h:w.ownsRow o e u v n D)(I:base'<=o):w.ownsRow base' e u v n D:=by
 obtain⟨F,⟨y,J⟩|⟨g,z,A,y,N,O⟩⟩:=h
 .exact⟨F,.inl ⟨y,J⟩⟩
 .exact⟨F,.inr ⟨g,z,A,y,bz I N,O⟩⟩
structure OpA where
 k:G
 p:P
 x:Dev
 nm:P
 vl:P
 c:P
def OpA.vals (o:OpA):Array aq:=ocs o.k o.p o.x o.nm o.vl
def opF (l:E OpA):E aq:=l.flatMap λo=>o.vals.toList
theorem zFO (l:E OpA)(o:OpA):opF (l++[o])=opF l++o.vals.toList:=by unfold opF;rw[List.flatMap_append];simp
def ZD : Dev:=⟨0,0,⟨#[]⟩,⟨#[]⟩,⟨#[]⟩,⟨#[]⟩,⟨#[]⟩,0,0,H,0,0⟩
def zAI (M:E Vir)(s:E Dev×E OpA)(d:Dev):E Dev×E OpA:=
 if (virB s.1 d.index&&!inW M (plc s.1 d.parent) d.orig)=ab then (remL d.index s.1,s.2++[⟨2,plc s.1 d.index,ZD,⟨#[]⟩,⟨#[]⟩,⟨#[]⟩⟩])else s
def remF (M:E Vir)(ds:E Dev)(pre:E (G×Dev)):E Dev×E OpA:=pre.foldl (λs x=>zAI M s x.2) (ds.map strip,[])
theorem zDn (M:E Vir)(ds:E Dev)(pre:E (G×Dev))(x:G×Dev):remF M ds (pre++[x])=zAI M (remF M ds pre) x.2:=by unfold remF;rw[bg];rfl
theorem zCT (M:E Vir)(ds:E Dev):∀ pre,(remF M ds pre).2.length<=pre.length/\(remF M ds pre).1.length<=ds.length:=by
 have h:∀ (pre:E (G×Dev)) (s:E Dev×E OpA),(pre.foldl (λs x=>zAI M s x.2) s).2.length<=s.2.length+pre.length/\(pre.foldl (λs x=>zAI M s x.2) s).1.length<=s.1.length:=by
  intro pre
  induction pre with
  | nil=>intro s;simp
  | cons x t o=>
   intro s;have u:=o (zAI M s x.2);rw[br,bh];have v:(zAI M s x.2).2.length<=s.2.length+1/\(zAI M s x.2).1.length<=s.1.length:=by
    unfold zAI;split
    .refine⟨by simp,?_⟩;exact List.length_filter_le _ _
    .simp
   omega
 intro pre;have:=h pre (ds.map strip,[]);rw[av]at this;unfold remF
 simpa using this
theorem zCD (ds:E Dev):(ds.map strip).map strip=ds.map strip:=by rw[bj];rfl
def RemOk (M:E Vir)(ds:E Dev):Prop:=∀ (pre:E (G×Dev)) (x:G×Dev),pre++[x] <+: revR ds->TreeWf (remF M ds pre).1/\TreeWf (remF M ds (pre++[x])).1/\∃ y,look (remF M ds pre).1 x.2.index=B y
def wcF (M:E Vir)(p:P×P):P:=match M.find? (λv=>decide ((v.q,v.o)=p))with|some v=>v.c|none=>⟨#[]⟩
theorem zNA (M:E Vir)(p:P×P):∃ y:Vir,(wantG M p).getD zE7=al #[ah y.q,ah y.o,ah y.c,aj K y.r]/\y.c=wcF M p:=by
 unfold wantG wcF;cases h:M.find? (λv=>decide ((v.q,v.o)=p))with
 | none=>exact⟨⟨⟨#[]⟩,⟨#[]⟩,⟨#[]⟩,0⟩,rfl,rfl⟩
 | some v=>exact⟨v,rfl,rfl⟩
def zAR (M:E Vir)(ds:E Dev)(ct:G->P)(s:(G->P)×E OpA)(d:Dev):(G->P)×E OpA:=
 if (virB ds d.index&&!((ct d.index).toList==(wcF M (plc ds d.parent,d.orig)).toList))=ab then (updC s.1 d.index (wcF M (plc ds d.parent,d.orig)),s.2++[⟨3,plc ds d.index,ZD,zM,wcF M (plc ds d.parent,d.orig),⟨#[]⟩⟩])else s
def setF (M:E Vir)(ds:E Dev)(ct:G->P)(ops:E OpA)(k:C):(G->P)×E OpA:=(ds.take k).foldl (zAR M ds ct) (ct,ops)
theorem zDj {M:E Vir}{o:E OpA}(h:ds[k]?=B d):setF M ds ct o (k+1)=zAR M ds ct (setF M ds ct o k) d:=by unfold setF;rw[bw,h,bg];rfl
theorem zHk (M:E Vir)(ds:E Dev)(ct:G->P)(o:E OpA)(k:C):(setF M ds ct o k).2.length<=o.length+k:=by
 have h:∀ (l:E Dev) (s:(G->P)×E OpA),(l.foldl (zAR M ds ct) s).2.length<=s.2.length+l.length:=by
  intro l
  induction l with
  | nil=>intro s;simp
  | cons x t u=>
   intro s;have y:=u (zAR M ds ct s x);rw[br,bh];have v:(zAR M ds ct s x).2.length<=s.2.length+1:=by
    unfold zAR;split<;>simp
   omega
 have:=h (ds.take k) (ct,o);have v:(ds.take k).length<=k:=by rw[List.length_take];omega
 unfold setF;dsimp only at this;omega
def SetOk (M:E Vir)(ds:E Dev)(ct:G->P):Prop:=∀ d∈ds,d.kind=2/\ds.any (clP d)=ak/\(virB ds d.index=ab->Sound d (cAtt (wcF M (plc ds d.parent,d.orig)))/\(wcF M (plc ds d.parent,d.orig)).size<=100000)
end Go.Proofs.YtckkocmhlhefpaaGreatDoor
