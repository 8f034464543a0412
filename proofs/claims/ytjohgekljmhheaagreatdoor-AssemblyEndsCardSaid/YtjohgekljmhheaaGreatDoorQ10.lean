import Derived.Test.YtjohgekljmhheaaGreatDoorQ9
import Derived.ArgAppend
namespace Go.Proofs.YtjohgekljmhheaaGreatDoor
open Go.RowKit Go.Maps Go.Shelf
set_option linter.unusedVariables false
set_option maxRecDepth 100000
set_option maxHeartbeats 8000000
open And renaming intro->ce
open ArrM renaming toArr->bq
open Atts renaming of_own->df
open Dev renaming vals->ay,zero->cp
open Devs renaming of_own->dg
open Fr renaming refl->ba,setAt->bt
open Go renaming World->am,Calls->ar,Addr->au,maxLen->az,splice->bg,Value->bi,TypeId->cd,bodyPost_ret->cl,info_parts->cn,setRow_heap->db,run_storeCells_at->ez
open Go.Builtin renaming zeroCells->br,clear_->co
open Go.Fence renaming wide->cf
open Go.Lib renaming compareBytes->dh
open Go.Proofs renaming intOf->bd
open Go.Proofs.Tryz renaming prog->ap,underlying46->ck,func141->es,func194->et,ntmps141->eu,ntmps194->ew,underlying37->ex
open Go.RowKit renaming Hid->al
open Go.Value renaming slice->bh,agg->bp,cells->cz
open Go.WalkArith renaming wf_i64->ey
open Go.World renaming ownsRow_nil->da
open IntKind renaming i64->af
open Mem renaming k->aw,zero->ch
open Obj renaming cells->aj
open OnlyN renaming mk->ci
open Value renaming slice->ag,int->ai,agg->ax,string->be,pointer->bf
open _root_ renaming Nat->B,List->ab,ByteArray->ae,Int->ah,Option->aq,congrArg->bc,Array->bj
open _root_.Array renaming length_toList->bz,replicate_succ->dd,replicate_zero->de
open _root_.Bool renaming false->ak,true->ao
open _root_.ByteArray renaming empty->bm
open _root_.List renaming take_of_length_le->bn,take_length->bs,take_add_one->bu,foldl_cons->bw,map_cons->bx,size_toArray->cg,getElem?_eq_getElem->cq,length->cr,length_append->ct,length_take->cu,map_append->cw,map_congr_left->cx,append_toArray->di,cons_append->dj,filterMap_cons->dk,filter_append->dm,foldl_append->dn,getElem_mem->dp,length_cons->dq,length_nil->dr,map_nil->dt,mem_map_of_mem->du,mem_of_getElem?->dw,nil_append->dx,push_toArray->dy,take_append->eb,take_prefix->ed,take_take->ee,toList_toArray->ef
open _root_.Nat renaming le_refl->bo,le_trans->bv,zero_le->cy,add_zero->eh,le_of_eq->ei,min_eq_left->ej,reduceAdd->ek,reduceSub->em,sub_zero->eo,zero_add->ep
open _root_.Option renaming some->f,none->D,map->cj
variable{ds m u y:ab Dev}{tx:Dev->ae}{M:ab Vir}{r:ah}{C S:ab Src}{k c A n o j i g c1:B}{s:Src}{w X w' W:am}{N z a a1:aq au}{O:ab ArrM}{U v:ab (ae×ae)}{E K:ab ae}{x:ab Vir×ab (ae×ae)}{b b':ae×ah->aq Mem}{T:cd}{α:Type}{L:ab α}{cs:bj bi}{d:Dev}
def againB (ds:ab Dev)(tx:Dev->ae)(M:ab Vir)(r:ah)(s:Src):Bool:=
 match M.find? (λv=>decide ((v.q,v.o)=(plc ds s.d.parent,s.d.orig)))with
 | some v=>(v.r==r)&&(v.c.toList==(tx s.d).toList)
 | none=>ak
def moreS (ds:ab Dev)(tx:Dev->ae)(M:ab Vir)(r:ah)(C:ab Src)(k:B):ab Src:=((C.take k).filter (againB ds tx M r)).map λs=>{ s with r:=r }
theorem zJs (h:C[k]?=f s):moreS ds tx M r C (k+1)=moreS ds tx M r C k++(if againB ds tx M r s=ao then [{ s with r:=r }]else []):=by
 unfold moreS;rw[bu,h,dm,cw]
 congr 1
 cases hb:againB ds tx M r s<;>simp[hb]
theorem zLG (ds:ab Dev)(tx:Dev->ae)(M:ab Vir)(r:ah)(C:ab Src)(k:B):(moreS ds tx M r C k).length<=(C:B):=by
 unfold moreS;rw[List.length_map];exact bv (List.length_filter_le _ _) (by rw[cu];omega)
theorem RS.growS {c:RC}{X:am}{A:aq au}{F:B}{O:B}{Y:ab (ae×ae)}(h:RS c w A F N O S M Y){s:Src}
  {U:aq au} {V:B} (y:Fr (λb=>b=c.xb\/(bh A S F).ownBlock=f b) w X)
  (k5:X.heap[c.xb]?=f (aj (rcs c.ka c.kn c.kc c.wt c.a c.n c.cap c.ca c.C.length c.cc c.ea c.en c.ec U ((S:B)+1) V c.wm c.sm N (M:B) O) 86))
  (h5:X.ownsRow c.b2 123 13 (ag U ((S:B)+1) V) ((S:B)+1) (sflat S++s.vals.toList)):RS c X U V N O (S++[s]) M Y:=by
 have Z:(S++[s]).length=(S:B)+1:=by simp
 have a2:=h.lo;have v:∀ b,(bh A S F).ownBlock=f b->c.b2<=b:=λb I=>zQ h.so I
 have z:∀ u,c.ca=f u->¬ (u.block=c.xb\/(bh A S F).ownBlock=f u.block):=λu e o=>by
  have h1:=h.cb u e;rcases o with o|o
  .obtain⟨cs,J⟩:=h1.2.2 u e;rw[o,h.k]at J;injection J with J
   injection J with _ e2
   exact absurd e2 (by decide)
  .have:=v _ o;omega
 refine⟨by rw[Z];exact k5,by rw[Z,zC9];exact h5,zG h.mo y (λb I o=>?_),h.cs.fr y (λu e _=>z u e),λu e=>⟨(h.cb u e).1,(h.cb u e).2.1,(h.cb u e).2.2.fr y z⟩,h.wmo.fr y (λo=>?_),h.smo.fr y (λo=>?_),h.ne,h.lo,bv h.b2l y.size⟩
 .rcases o with o|o
  .subst o;exact zK h.mo h.k (by decide) I
  .obtain⟨u,rfl,rfl⟩:=zBc I;exact BlkT.ne h.so (zAI h.mo) (by decide) u rfl o
 .rcases o with o|o
  .exact h.wmo.ne_cells h.k (Eq.symm o)
  .have:=v _ o;omega
 .rcases o with o|o
  .exact h.smo.ne_cells h.k (Eq.symm o)
  .have:=v _ o;omega
theorem RS.perm {c:RC}{X:am}{O:B}{F:ab Src}(h:RS c w z A N O S M U)
  (y:Fr (λb=>(bh z S A).ownBlock=f b) w X) (V:(F:B)=(S:B))
  (Y:X.ownsRow c.b2 123 13 (ag z F A) (F:B) (sflat F)):RS c X z A N O F M U:=by
 have Z:=h.lo;have u:∀ b,(bh z S A).ownBlock=f b->c.b2<=b:=λb J=>zQ h.so J
 have I:∀ o,c.ca=f o->¬ ((bh z S A).ownBlock=f o.block):=λo e v=>by
  have h1:=h.cb o e;have:=u _ v;omega
 refine⟨by rw[V];exact y.heap h.k (λv=>by have:=u _ v;omega),Y,zG h.mo y (λb J v=>?_),h.cs.fr y (λo e _=>I o e),λo e=>⟨(h.cb o e).1,(h.cb o e).2.1,(h.cb o e).2.2.fr y I⟩,h.wmo.fr y (λv=>?_),h.smo.fr y (λv=>?_),h.ne,h.lo,bv h.b2l y.size⟩
 .obtain⟨o,rfl,rfl⟩:=zBc J;exact BlkT.ne h.so (zAI h.mo) (by decide) o rfl v
 .have:=u _ v;omega
 .have:=u _ v;omega
def mdK : ae:=⟨#[109,100]⟩
def zAG (ds:ab Dev)(E:ab ae)(r:ah)(x:ab Vir×ab (ae×ae))(m:ArrM):ab Vir×ab (ae×ae):=
 if mustB m.t m.e m.n (exB ds m.i) (hasS E m.i)=ao then
  (if (x.2.any λy=>decide (y=(mdK,m.i)))=ao then (x.1,x.2++[(mdK,m.i)])else (zAA x.1 (mdOf m.i m.l r),x.2++[(mdK,m.i)]))
 else x
def arrAll (ds:ab Dev)(E:ab ae)(r:ah)(x:ab Vir×ab (ae×ae))(O:ab ArrM)(k:B):ab Vir×ab (ae×ae):=(O.take k).foldl (zAG ds E r) x
theorem zEp {m:ArrM}(h:O[k]?=f m):arrAll ds E r x O (k+1)=zAG ds E r (arrAll ds E r x O k) m:=by
 unfold arrAll;rw[bu,h,dn];rfl
theorem zIA (ds:ab Dev)(E:ab ae)(r:ah)(x:ab Vir×ab (ae×ae))(m:ArrM):(zAG ds E r x m).1.length<=x.1.length+1/\(zAG ds E r x m).2.length<=x.2.length+1:=by
 unfold zAG;split
 .split;·simp
  .exact⟨zDw _ _,by simp⟩
 .simp
theorem zDR (ds:ab Dev)(E:ab ae)(r:ah)(x:ab Vir×ab (ae×ae))(O:ab ArrM):∀ k,(arrAll ds E r x O k).1.length<=x.1.length+k/\(arrAll ds E r x O k).2.length<=x.2.length+k:=by
 intro k
 induction k with
 | zero=>simp[arrAll]
 | succ k o=>
  by_cases h:k<(O:B)
  .rw[zEp (cq h)];have:=zIA ds E r (arrAll ds E r x O k) O[k];omega
  .have:arrAll ds E r x O (k+1)=arrAll ds E r x O k:=by unfold arrAll;rw[bn (by omega),bn (by omega)]
   rw[this];omega
def lvK : ae:=⟨#[108,118]⟩
def zAK (r:ah)(x:ab Vir×ab (ae×ae))(m:ArrM):ab Vir×ab (ae×ae):=
 if m.n=m.t then
  (if (x.2.any λy=>decide (y=(lvK,m.i)))=ao then (x.1,x.2++[(lvK,m.i)])else (zg x.1 (wantL m.i m.t m.n m.l r),x.2++[(lvK,m.i)]))
 else x
def grpAll (r:ah)(x:ab Vir×ab (ae×ae))(O:ab ArrM)(k:B):ab Vir×ab (ae×ae):=(O.take k).foldl (zAK r) x
theorem zEV {m:ArrM}(h:O[k]?=f m):grpAll r x O (k+1)=zAK r (grpAll r x O k) m:=by
 unfold grpAll;rw[bu,h,dn];rfl
theorem zGR (o:ae)(t n:ah)(h:ab ae)(r:ah):(wantL o t n h r).length<=(h:B):=by
 unfold wantL;split;·exact zKL _ _ _ _
 .simp
theorem zHu (r:ah)(x:ab Vir×ab (ae×ae))(m:ArrM)(h:(m.l:B)<=16):(zAK r x m).1.length<=x.1.length+16/\(zAK r x m).2.length<=x.2.length+1:=by
 unfold zAK;split
 .split;·simp
  .have o:=zAy (wantL m.i m.t m.n m.l r) x.1;have u:=zGR m.i m.t m.n m.l r;exact⟨by dsimp only;omega,by simp⟩
 .simp
theorem zJy (r:ah)(x:ab Vir×ab (ae×ae))(O:ab ArrM)(o:∀ m∈O,m.l.length<=16):∀ k,(grpAll r x O k).1.length<=x.1.length+16*k/\(grpAll r x O k).2.length<=x.2.length+k:=by
 intro k
 induction k with
 | zero=>simp[grpAll]
 | succ k u=>
  by_cases h:k<(O:B)
  .rw[zEV (cq h)];have:=zHu r (grpAll r x O k) O[k] (o _ (dp h));omega
  .have:grpAll r x O (k+1)=grpAll r x O k:=by unfold grpAll;rw[bn (by omega),bn (by omega)]
   rw[this];omega
theorem zKI {A:ae}{t n:ah}{u:ab ae}{v:Vir}(h:v∈wantL A t n u r):v.q.size=0/\v.o.size<=32:=by
 unfold wantL at h;split at h
 .unfold wantF at h;obtain⟨i,F,rfl⟩:=List.mem_map.1 h;have y:=(List.mem_filter.1 F).2;refine⟨rfl,?_⟩;unfold lvOk at y;simp only[Bool.and_eq_true]at y;have z:=y.2;unfold isName at z;simp at z;exact z.1.1.1.2
 .cases h
def MidR (ds:ab Dev)(tx:Dev->ae)(E K:ab ae)(r:ah)(S:ab Src)(M:ab Vir)(G:ab (ae×ae))(M3:ab Vir)(G2:ab (ae×ae)):Prop:=
 ∃ (L2:ab Mem) (ids2:ab ae) (O2:ab ArrM) (M2:ab Vir) (L3:ab Mem) (ids3:ab ae),
  L2.map aw=S.filterMap (λs=>ofK 2 mk2 s.o s.r (tx s.d))/\IsIds2 (zU soundA L2) ids2/\O2.map bq=ids2.map (buildA (zU soundA L2))/\
  (M2,G2)=arrAll ds E r (wantS tx S M r (S:B),G) O2 (O2:B)/\
  L3.map aw=S.filterMap (λs=>ofK 3 mk3 s.o s.r (tx s.d))/\IsIds L3 ids3/\M3=zg M2 ((opened ids3 K).map (virOf L3 r))
def NextR (ds:ab Dev)(tx:Dev->ae)(E K:ab ae)(C:ab Src)(r:ah)(S:ab Src)(M:ab Vir)(G:ab (ae×ae))(S':ab Src)(M':ab Vir)(G':ab (ae×ae)):Prop:=
 (∃ (M3:ab Vir) (G2:ab (ae×ae)) (L4:ab Mem) (ids4:ab ae) (O4:ab ArrM),MidR ds tx E K r S M G M3 G2/\
  L4.map aw=S.filterMap (λs=>ofK 4 mk4 s.o s.r (tx s.d))/\IsIds2 (zU soundB L4) ids4/\O4.map bq=ids4.map (buildA (zU soundB L4))/\
  (M',G')=grpAll r (M3,G2) O4 (O4:B))/\
 S'.Perm (S++moreS ds tx M' r C (C:B))/\S'.Pairwise (λx y=>x.at_<=y.at_)
theorem zBp (h:TreeOk ds)(o:(ds:B)<=250)(n:ah):(plc ds n).size<=33*250:=by
 rw[<-zDH h];have:=zCB h.sz (ds:B) n;rw[bs]at this;omega
theorem zE3 (M:ab Vir)(p:ae×ae):∃ y:Vir,(wantG M p).getD zFY=ax #[y.q,y.o,y.c,y.r]/\∀ v,M.find? (λv=>decide ((v.q,v.o)=p))=f v->y=v:=by
 unfold wantG;cases hq:M.find? (λv=>decide ((v.q,v.o)=p))with
 | none=>exact⟨⟨(),(),(),0⟩,rfl,λv h=>by cases h⟩
 | some v=>exact⟨v,rfl,λu h=>by injection h⟩
theorem zMK {tx:Dev->ae}{r:ah}{P:ae}{y:Vir}(h:P=plc ds s.d.parent)(u:∀ v,M.find? (λv=>decide ((v.q,v.o)=(P,s.d.orig)))=f v->y=v):
  againB ds tx M r s=((wantG M (P,s.d.orig)).isSome&&((y.r==r)&&(y.c.toList==(tx s.d).toList))):=by
 unfold againB wantG;rw[<-h];cases hq:M.find? (λv=>decide ((v.q,v.o)=(P,s.d.orig)))with
 | none=>rfl
 | some v=>rw[u v hq];rfl
theorem zNH (p:aq au)(h:B)(o:bi)(w:am):
  ar ap 203 #[ag p 0 h,ai af 0,ai af 0,o] w λe w'=>e=.returned (.tuple #[])/\w'=w:=by
 go_enter Tryz.func203,Tryz.ntmps203;go_wp2;apply wp_loop_rounds 1;rw[rounds_succ];go_wp2;go_end0;exact⟨rfl,rfl⟩
theorem zMu (p:aq au)(h:B)(o:ah)(u:bi)(w:am):
  ar ap 160 #[ag p 0 h,ai af 0,ai af 0,o,u] w λe w'=>e=.returned (.tuple #[])/\w'=w:=by
 have v:=zNH p h u w;go_enter Tryz.func160,Tryz.ntmps160;go_wp2;apply wp_loop_rounds 1;rw[rounds_succ];go_wp2_with fail;apply v.mono;rintro e w' ⟨rfl,rfl⟩;go_wp2_with fail
 (try simp only[Exit.inBlock,Exit.then]);refine cl (results_none rfl _ _ _) rfl ?_
 exact⟨rfl,rfl⟩
theorem zKg (p:aq au)(h:B)(u:bi)(w:am)(v:ar ap 161 #[ai .u64 0] w λe w'=>(∃ k,e=.returned (ai af k))/\w'=w):
  ar ap 110 #[ag p 0 h,u] w λe w'=>e=.returned (.tuple #[])/\w'=w:=by
 have y:=λo=>zMu p h o u w
 go_enter Tryz.func110,Tryz.ntmps110;go_wp2_with fail;apply v.mono;rintro e w' ⟨⟨k,rfl⟩,rfl⟩;go_wp2_with fail;apply (y k).mono;rintro e w' ⟨rfl,rfl⟩;go_wp2;go_end0;exact⟨rfl,rfl⟩
def sx (tx:Dev->ae)(s:Src):ae×ah×ae×ae×ah:=(s.o,s.r,tx s.d,s.d.orig,s.d.kind)
theorem zGM {h:Mem->Bool}(u:∀ m,h m.k=h m)(L:ab Mem):∀ x,(zU h L x).map aw=zU h (L.map aw) x:=by
 refine zDA (P:=λL=>∀ x,(zU h L x).map aw=zU h (L.map aw) x) ?_ ?_ L;·intro x;rfl
 .intro l y v x;rw[cw,bx,dt,zAW,zAW];unfold zAr;rw[<-v x,u];rcases zU h l x with _|o
  .show cj aw (if (h y&&decide (x=(y.i,y.s))&&ao)=ao then f y else D)=if (h y&&decide (x=(y.i,y.s))&&ao)=ao then f y.k else D
   split<;>rfl
  .show cj aw (if (h y&&decide (x=(y.i,y.s))&&ahead y o)=ao then f y else f o)=if (h y&&decide (x=(y.i,y.s))&&ahead y o)=ao then f y.k else f o.k
   split<;>rfl
theorem zOH (L:ab Mem):∀ x,(best L x).map aw=best (L.map aw) x:=by
 refine zDA (P:=λL=>∀ x,(best L x).map aw=best (L.map aw) x) ?_ ?_ L;·intro x;rfl
 .intro l y h x;rw[cw,bx,dt,zA4,zA4];unfold bestS;rw[<-h x];rcases best l x with _|o
  .show cj aw (if ((y.l:B)==1&&x==kb y.i&&ao)=ao then f y else D)=if ((y.l:B)==1&&x==kb y.i&&ao)=ao then f y.k else D
   split<;>rfl
  .show cj aw (if ((y.l:B)==1&&x==kb y.i&&ahead y o)=ao then f y else f o)=if ((y.l:B)==1&&x==kb y.i&&ahead y o)=ao then f y.k else f o.k
   split<;>rfl
theorem zF4 {a b:aq Mem}(h:a.map aw=b.map aw):a.isSome=b.isSome:=by
 cases a<;>cases b<;>simp_all
theorem zOC {a b:aq Mem}(h:a.map aw=b.map aw):(a.getD ch).k=(b.getD ch).k:=by
 cases a<;>cases b<;>simp_all
theorem zJL (h:∀ x,(b x).map aw=(b' x).map aw)(o:ae):buildA b o=buildA b' o:=by
 have v:∀ x,(b x).isSome=(b' x).isSome:=λx=>zF4 (h x)
 have y:zAS b o=zAS b' o:=by unfold zAS;simp only[v]
 have u:(zr b o).k=(zr b' o).k:=by unfold zr;rw[y];exact zOC (h _)
 have z:(zr b o).t=(zr b' o).t:=(bc Mem.t u :)
 have A:(zr b o).e=(zr b' o).e:=(bc Mem.e u :)
 have F:(zr b o).l=(zr b' o).l:=(bc Mem.l u :)
 have I:pathAt b o=pathAt b' o:=by
  funext k
  unfold pathAt;have:=h (o,(k:ah)+1);cases h1:b (o,(k:ah)+1)<;>cases h2:b' (o,(k:ah)+1)<;>rw[h1,h2]at this;·cases this
  .cases this
  .injection this with e;exact(bc Mem.p e :)
 unfold buildA;rw[z,A,F,I];simp only[v]
theorem zG0 (h:∀ x,(b x).map aw=(b' x).map aw){u o:ab ae}(y:IsIds2 b u)(v:IsIds2 b' o):u=o:=
 y.unique ⟨v.asc,λx=>by rw[v.mem];exact exists_congr λs=>by rw[zF4 (h (x,s))]⟩
theorem zEq {ds o:ab Dev}{E:ab ae}{r:ah}:∀ {O z:ab ArrM} (x:ab Vir×ab (ae×ae)),O.map bq=z.map bq->(∀ m∈O,hasS E m.i=ao\/exB ds m.i=exB o m.i)->
  O.foldl (zAG ds E r) x=z.foldl (zAG o E r) x
 | [],[],x,_,_=>rfl
 | [],_::_,x,h,_=>by simp at h
 | _::_,[],x,h,_=>by simp at h
 | m::O,u::z,x,h,A=>by
  simp only[bx,List.cons.injEq]at h;have v:u.toArr=m.toArr:=h.1.symm;have F:zAG ds E r x m=zAG o E r x u:=by
   unfold zAG;rw[show u.i=m.i from bc Arr.i v,show u.t=m.t from bc Arr.t v,show u.e=m.e from bc Arr.e v,show u.n=m.n from bc Arr.n v,show u.l=m.l from bc Arr.l v];rcases A m (by simp)with e|e
   .unfold mustB;rw[e];simp
   .rw[e]
  rw[bw,bw,F];exact zEq _ h.2 λy I=>A y (by simp[I])
theorem zEW {r:ah}:∀ {O v:ab ArrM} (x:ab Vir×ab (ae×ae)),O.map bq=v.map bq->O.foldl (zAK r) x=v.foldl (zAK r) x
 | [],[],x,_=>rfl
 | [],_::_,x,h=>by simp at h
 | _::_,[],x,h=>by simp at h
 | m::O,o::v,x,h=>by
  simp only[bx,List.cons.injEq]at h;have u:o.toArr=m.toArr:=h.1.symm;have y:zAK r x m=zAK r x o:=by
   unfold zAK;rw[show o.i=m.i from bc Arr.i u,show o.t=m.t from bc Arr.t u,show o.n=m.n from bc Arr.n u,show o.l=m.l from bc Arr.l u]
  rw[bw,bw,y];exact zEW _ h.2
theorem zC8 {tx u:Dev->ae}{r:ah}:∀ {S y:ab Src} (M:ab Vir),S.map (sx tx)=y.map (sx u)->
  S.foldl (λM s=>zg M (pwL s.o s.d (tx s.d) r)) M=y.foldl (λM s=>zg M (pwL s.o s.d (u s.d) r)) M
 | [],[],M,_=>rfl
 | [],_::_,M,h=>by simp at h
 | _::_,[],M,h=>by simp at h
 | s::S,z::y,M,h=>by
  simp only[bx,List.cons.injEq]at h;have v:=h.1;simp only[sx,Prod.mk.injEq]at v;have A:pwL s.o s.d (tx s.d) r=pwL z.o z.d (u z.d) r:=by
   unfold pwL;rw[v.1,v.2.2.1,v.2.2.2.1,v.2.2.2.2]
  rw[bw,bw,A];exact zC8 _ h.2
theorem zDi {k:ah}{z:ae->ah->Ct->Mem}{tx u:Dev->ae}:∀ {S y:ab Src},S.map (sx tx)=y.map (sx u)->
  S.filterMap (λs=>ofK k z s.o s.r (tx s.d))=y.filterMap (λs=>ofK k z s.o s.r (u s.d))
 | [],[],_=>rfl
 | [],_::_,h=>by simp at h
 | _::_,[],h=>by simp at h
 | s::S,A::y,h=>by
  simp only[bx,List.cons.injEq]at h;have v:=h.1;simp only[sx,Prod.mk.injEq]at v;rw[dk,dk,v.1,v.2.1,v.2.2.1,zDi h.2]
theorem zIS (m:Mem):soundB m.k=soundB m:=rfl
theorem zFg (m:Mem):soundA m.k=soundA m:=rfl
theorem zLK {ds u:ab Dev}{A:Dev->ae}{E K:ab ae}{r:ah}{S':ab Src}{M M3 F:ab Vir}{b8 U v:ab (ae×ae)}(V:S.map (sx tx)=S'.map (sx A))
  (hE:∀ m,m∈S.filterMap (λs=>ofK 2 mk2 s.o s.r (tx s.d))->hasS E m.i=ao\/exB ds m.i=exB u m.i)
  (h:MidR ds tx E K r S M b8 M3 U) (h':MidR u A E K r S' M b8 F v):M3=F/\U=v:=by
 obtain⟨X,I,O2,M2,L3,J,a1,a2,a3,a4,a5,a6,a7⟩:=h;obtain⟨Y,Z,a8,a9,N,y,b1,b2,b3,b4,b5,b6,b7⟩:=h';have hb:∀ x,(zU soundA X x).map aw=(zU soundA Y x).map Mem.k:=λx=>by rw[zGM zFg,zGM zFg,a1,b1,zDi V]
 obtain rfl:=zG0 hb a2 b2;have hO:O2.map bq=a8.map ArrM.toArr:=by rw[a3,b3];exact cx λx _=>zJL hb x
 have b0:∀ m∈O2,hasS E m.i=ao\/exB ds m.i=exB u m.i:=by
  intro m hm;have h1:m.toArr∈I.map (buildA (zU soundA X)):=by rw[<-a3];exact du hm
  obtain⟨x,hx,e⟩:=List.mem_map.1 h1;have hi:m.i=x:=(bc Arr.i e).symm;obtain⟨z,hz⟩:=(a2.mem x).1 hx;obtain⟨o,ho⟩:=Option.isSome_iff_exists.1 hz;obtain⟨h2,_,h3⟩:=zAN X _ o ho;have h4:=hE o.k (by rw[<-a1];exact du h2);have h5:o.k.i=m.i:=by rw[hi];exact bc Prod.fst h3
  rwa [h5]at h4
 have h4:(M2,U)=(a9,v):=by
  rw[a4,b4];unfold arrAll wantS;rw[bs,bs,bs,bs,zC8 M V];exact zEq _ hO b0
 obtain⟨rfl,rfl⟩:=Prod.mk.inj h4;have O:∀ x,(best L3 x).map aw=(best N x).map Mem.k:=λx=>by rw[zOH,zOH,a5,b5,zDi V]
 obtain rfl:J=y:=a6.unique b6 λx=>zF4 (O x)
 refine⟨?_,rfl⟩;rw[a7,b7]
 congr 1
 refine cx λx _=>?_
 unfold virOf zGy;rw[show ((best L3 (kb x)).getD ch).l=((best N (kb x)).getD ch).l from(bc Mem.l (zOC (O (kb x))) :)]
theorem zBL {ds y:ab Dev}{z:Dev->ae}{E K:ab ae}{C Z:ab Src}{r:ah}{O T T':ab Src}{M A u:ab Vir}{U F v:ab (ae×ae)}(V:S.map (sx tx)=O.map (sx z))
  (hE:∀ m,m∈S.filterMap (λs=>ofK 2 mk2 s.o s.r (tx s.d))->hasS E m.i=ao\/exB ds m.i=exB y m.i)
  (h:NextR ds tx E K C r S M U T A F) (h':NextR y z E K Z r O M U T' u v):A=u/\F=v:=by
 obtain⟨⟨M3,G2,L4,X,O4,c1,c2,c3,c4,c5⟩,_⟩:=h;obtain⟨⟨a2,a3,I,J,N,d1,d2,d3,d4,d5⟩,_⟩:=h';obtain⟨rfl,rfl⟩:=zLK V hE c1 d1;have Y:∀ x,(zU soundB L4 x).map aw=(zU soundB I x).map Mem.k:=λx=>by rw[zGM zIS,zGM zIS,c2,d2,zDi V]
 obtain rfl:=zG0 Y c3 d3;have hO:O4.map bq=N.map ArrM.toArr:=by rw[c4,d4];exact cx λx _=>zJL Y x
 have h5:(A,F)=(u,v):=by
  rw[c5,d5];unfold grpAll;rw[bs,bs];exact zEW _ hO
 exact Prod.mk.inj h5
def revR {α:Type}(L:ab α):ab (ah×α):=(L.zipIdx.reverse).map λp=>((p.2:ah),p.1)
theorem zAf (L:ab α):(revR L).length=(L:B):=by unfold revR;simp
theorem zKo {x:α}(h:j<(L:B))(o:L[j]?=f x):(revR L)[(L:B)-1-j]?=f ((j:ah),x):=by
 unfold revR;rw[List.getElem?_map,List.getElem?_reverse (by simp;omega)];have e:(L.zipIdx:B)-1-((L:B)-1-j)=j:=by simp;omega
 rw[e,List.getElem?_zipIdx,o];simp
theorem zGj {x:α}(h:j<(L:B))(u:L[j]?=f x):(revR L).take ((L:B)-j)=(revR L).take ((L:B)-(j+1))++[((j:ah),x)]:=by
 have e:(L:B)-j=((L:B)-(j+1))+1:=by omega
 have o:=zKo h u;have v:(L:B)-1-j=(L:B)-(j+1):=by omega
 rw[v]at o;rw[e,bu,o];rfl
theorem zJM (a:aq au)(n c:B)(w:am):ar ap 87 #[ag a n c] w λe w'=>e=.returned (.func (.func 137) #[] #[bf (f ⟨w,0,D⟩)])/\w'=w.alloc (aj #[ag a n c] 37):=by
 go_enter Tryz.func87,Tryz.ntmps87;go_wp2;go_ret;exact⟨rfl,rfl⟩
theorem zCL (n:B)(hn:3<=n)(F:B)(a:aq au)(o:B)(ds:ab Dev)(w:am)(V0:B->Prop)(X:w.heap[F]?=f (aj #[ag a ds o] 37))(hS:Devs w a o ds)(b6:(ds:B)<=1000000)
  (hV:¬ V0 F/\∀ u,a=f u->ds≠[]->¬ V0 u.block):
  Gives cf n ap 137 #[bf (f ⟨F,0,D⟩)] (λx:ah×Dev=>#[ai af x.1,ax x.2.vals]) (λ_=>False) V0 (revR ds) w:=by
 intro l J W I b7 b8 b2 hJ hY h0;have Y:=I.heap X id;have a8:Devs W a o ds:=hS.fr I (λ_ _ _ h=>h);have b9:=I.size;have d0:1<=n:=by omega
 have hm:=hS.lenmax;have d1:=zC X;have a9:∀ u,a=f u->ds≠[]->u.block<(w:B):=λu e v=>(hS.cell u e v).2.1
 show CallsIn cf n ap 137 #[.func (.yield l) #[] #[],bf (f ⟨F,0,D⟩)] W _
 have cv:W ⟨F,0,D⟩=f (ag a ds o):=zB Y 0;refine callsIn_of_wp Tryz.func137 rfl trivial ?_ rfl;simp only[Tryz.ntmps137,cg,dq,dr,ek,em,dd,de,dy,di,dx,dj]
 gi_wp2
 clear cv
 gi_loopw [3] (λi wr=>∃ (m:B) (V:B->Prop),m<=(ds:B)/\i=ai af ((m:ah)-1)/\wr.heap[F]?=f (aj #[ag a ds o] 37)/\Devs wr a o ds/\J ((revR ds).take ((ds:B)-m)) V wr/\(∀ b,V b->V0 b\/(w:B)<=b)/\(W:B)<=(wr:B)) (λi _=>(bd i+1).toNat)
 case atStart=>exact⟨(ds:B),V0,bo _,rfl,Y,a8,by simpa using h0,λb hb=>.inl hb,bo _⟩
 case round=>
  obtain⟨m,V,d2,hi,N,O,U,y,d3⟩:=hrel;cases m with
  | succ j=>
   have z:(((j+1:B):ah)-1)=(j:ah):=(by omega);rw[z]at hi;subst hi;have Z:j<(ds:B):=(by omega);have d4:(0:ah)<=(j:ah):=(by omega);have b3:(j:ah)<(ds:B):=(by omega);have cv:wr ⟨F,0,D⟩=f (ag a ds o):=zB N 0;obtain⟨bb,d5,x,rfl,hx,c0,c1,c2,c3,c4,c5,c6,c7,c8,c9⟩:=O.dev Z;have a2:=zh (zGj Z hx);have b0:=hY _ V ((j:ah),x) wr U (by rw[<-a2];exact ed _ _);obtain⟨fn,b4,a7,b5,hy,hR⟩:=b0;unfold ay at hy;dsimp only at hy;clear hx z
   gi_wp2
   apply hR.mono;rintro e W3 ⟨rfl,V',a3,a4,A⟩;have a5:=O.fr A (λu e v h=>by
    have h1:=a9 u e v;rcases h with h|h
    .rcases y _ h with h'|h'
     .exact hV.2 u e v h'
     .omega
    .omega)
   have a6:=A.heap N (λh=>by
    rcases h with h|h
    .rcases y _ h with h'|h'
     .exact hV.1 h'
     .omega
    .omega)
   have d6:=A.size;have HF:=zg3 a5 a4 a6;have HV:al (∀ b,V' b->V0 b\/(w:B)<=b):=λb h=>(a3 b h).elim (y b) (λh=>.inr (by omega))
   clear a5 a4 a3 O U y hR hy A N cv a6
   gi_wp2
   go_roundw;case rel=>exact⟨j,V',by omega,by first|rfl|(go_num;done),HF.2.2,HF.1,by rw[a2];exact HF.2.1,HV,by omega⟩
   case measure=>simp[bd]
  | zero=>
   have z:(((0:B):ah)-1)=-1:=(by omega);rw[z]at hi;subst hi;have b1:J (revR ds) V wr:=by
    have e:(revR ds).take ((ds:B)-0)=revR ds:=(by rw[eo];exact bn (ei (zAf ds)));rw[<-e];exact U
   gi_wp2
   go_end0;exact⟨⟨_,rfl⟩,V,b1⟩
theorem zNk (a:aq au)(n c:B)(w:am):ar ap 48 #[ag a n c] w λe w'=>e=.returned (.func (.func 86) #[] #[bf (f ⟨w,0,D⟩)])/\w'=w.alloc (aj #[ag a n c] 41):=by
 go_enter Tryz.func48,Tryz.ntmps48;go_wp2;go_ret;exact⟨rfl,rfl⟩
theorem zEx (n:B)(hn:3<=n)(F:B)(a:aq au)(o:B)(ds:ab Vir)(w:am)(V0:B->Prop)(X:w.heap[F]?=f (aj #[ag a ds o] 41))(hS:Virs w a o ds)(b6:(ds:B)<=1000000)
  (hV:¬ V0 F/\∀ u,a=f u->ds≠[]->¬ V0 u.block):
  Gives cf n ap 86 #[bf (f ⟨F,0,D⟩)] (λx:ah×Vir=>#[ai af x.1,ax x.2.vals]) (λ_=>False) V0 (revR ds) w:=by
 intro l J W I b7 b8 b2 hJ hY h0;have Y:=I.heap X id;have a8:Virs W a o ds:=hS.fr I (λ_ _ _ h=>h);have b9:=I.size;have d0:1<=n:=by omega
 have hm:=hS.lenmax;have d1:=zC X;have a9:∀ u,a=f u->ds≠[]->u.block<(w:B):=λu e v=>(hS.cell u e v).2.1
 show CallsIn cf n ap 86 #[.func (.yield l) #[] #[],bf (f ⟨F,0,D⟩)] W _
 have cv:W ⟨F,0,D⟩=f (ag a ds o):=zB Y 0;refine callsIn_of_wp Tryz.func86 rfl trivial ?_ rfl;simp only[Tryz.ntmps86,cg,dq,dr,ek,em,dd,de,dy,di,dx,dj]
 gi_wp2
 clear cv
 gi_loopw [3] (λi wr=>∃ (m:B) (V:B->Prop),m<=(ds:B)/\i=ai af ((m:ah)-1)/\wr.heap[F]?=f (aj #[ag a ds o] 41)/\Virs wr a o ds/\J ((revR ds).take ((ds:B)-m)) V wr/\(∀ b,V b->V0 b\/(w:B)<=b)/\(W:B)<=(wr:B)) (λi _=>(bd i+1).toNat)
 case atStart=>exact⟨(ds:B),V0,bo _,rfl,Y,a8,by simpa using h0,λb hb=>.inl hb,bo _⟩
 case round=>
  obtain⟨m,V,d2,hi,N,O,U,y,d3⟩:=hrel;cases m with
  | succ j=>
   have z:(((j+1:B):ah)-1)=(j:ah):=(by omega);rw[z]at hi;subst hi;have Z:j<(ds:B):=(by omega);have d4:(0:ah)<=(j:ah):=(by omega);have b3:(j:ah)<(ds:B):=(by omega);have cv:wr ⟨F,0,D⟩=f (ag a ds o):=zB N 0;obtain⟨bb,d5,x,rfl,hx,⟨c0,c1,c2,c3⟩,d6⟩:=O.elem Z;have a2:=zh (zGj Z hx);have b0:=hY _ V ((j:ah),x) wr U (by rw[<-a2];exact ed _ _);obtain⟨fn,b4,a7,b5,hy,hR⟩:=b0;unfold Vir.vals at hy;dsimp only at hy;clear hx z
   gi_wp2
   apply hR.mono;rintro e W3 ⟨rfl,V',a3,a4,A⟩;have a5:=O.fr A (λu e v h=>by
    have h1:=a9 u e v;rcases h with h|h
    .rcases y _ h with h'|h'
     .exact hV.2 u e v h'
     .omega
    .omega)
   have a6:=A.heap N (λh=>by
    rcases h with h|h
    .rcases y _ h with h'|h'
     .exact hV.1 h'
     .omega
    .omega)
   have d7:=A.size;have HF:=zg3 a5 a4 a6;have HV:al (∀ b,V' b->V0 b\/(w:B)<=b):=λb h=>(a3 b h).elim (y b) (λh=>.inr (by omega))
   clear a5 a4 a3 O U y hR hy A N cv a6
   gi_wp2
   go_roundw;case rel=>exact⟨j,V',by omega,by first|rfl|(go_num;done),HF.2.2,HF.1,by rw[a2];exact HF.2.1,HV,by omega⟩
   case measure=>simp[bd]
  | zero=>
   have z:(((0:B):ah)-1)=-1:=(by omega);rw[z]at hi;subst hi;have b1:J (revR ds) V wr:=by
    have e:(revR ds).take ((ds:B)-0)=revR ds:=(by rw[eo];exact bn (ei (zAf ds)));rw[<-e];exact U
   gi_wp2
   go_end0;exact⟨⟨_,rfl⟩,V,b1⟩
theorem zBl {P:Program}{I:bj Oper}{F:ab Oper}{o:Oper}{a:Act}{w:am}{Q:Exit->Act->am->Prop}(V:o.guard=D)(U:cd)(x y:Operand)(Y:o.op=.store U x y)
  (g z:B) (u:bj bi) (Z:a.eval x=bf (f ⟨g,z,D⟩)) (hy:a.eval y=ax u) (t:cd) (A:bj bi) (hg:w.heap[g]?=f (aj A t (0,0))) (X:(P.info? U).map (·.size)=f u.size)
  (J:z+u.size<=A.size) (h1:∀ v∈u.toList,v.oneCell'=ao)
  (h:wpList P I Q F (a.put o.dst undef) (w.setRow g (bg A.toList z u.toList).toArray)):wpList P I Q (o::F) a w:=by
 refine wpList_plain V λK hK=>?_
 have N:=ez P g z t u.toList 0 A w hg (by simpa using J) h1;have O:(storeVar U ⟨g,z,D⟩ (ax u)).run P w=.ok () (w.setRow g (bg A.toList z u.toList).toArray):=by
  cases hq:P.info? U with
  | none=>simp[hq]at X
  | some i=>
   have hs:u.size=i.size:=(by simp[hq]at X;omega);simp only[eh,bz]at N;simp[storeVar,sizeOf,typeInfo,hq,cz,hs,N,bg]
 unfold Oper.wp execOp;simp only[Y,Z,hy,Instr.storeAt,Instr.sureAddr,Sem.run_bind,Sem.run_pure,Result.andThen_ok,O];exact hK _ _ h
theorem zNO {x:Dev}(h:i<(m:B)):bg (flat m) (i*10) x.vals.toList=flat (m.set i x):=by
 have e:(i*10+x.vals.toList.length)=(i+1)*10:=by rw[show x.vals.toList.length=10 from rfl];omega
 unfold bg;rw[e,(zEY i m).1,(zEY (i+1) m).2,List.set_eq_take_append_cons_drop,if_pos h,zI5];rfl
structure DRow (w:am)(g c n:B)(m:ab Dev):Prop where
 blk:∃ cur,w.heap[g]?=f (aj cur 48)/\cur.size=c*10/\cur.toList.take (n*10)=flat m
 len:(m:B)=n
 nc:n<=c
 cm:c<=az
theorem DRow.fr {S:B->Prop}(h:DRow w g c n m)(u:Fr S w w')(v:¬ S g):DRow w' g c n m:=by
 obtain⟨o,y,z,A⟩:=h.blk;exact⟨⟨o,u.heap y v,z,A⟩,h.len,h.nc,h.cm⟩
theorem DRow.dev (h:DRow w g c n m){x:Dev}(u:m[j]?=f x):DevAt w g (j*10) x:=by
 obtain⟨v,y,F,z⟩:=h.blk;have I:=(List.getElem?_eq_some_iff.1 u).1;have o:∀ q,q<10->w ⟨g,j*10+q,D⟩=f (x.cell q):=λq A=>by
  have e:=zHx m j x u q A;rw[<-z,List.getElem?_take_of_lt (by have:=h.len;omega),Array.getElem?_toList]at e;rw[zB y];exact e
 exact⟨o 0 (by omega),o 1 (by omega),o 2 (by omega),o 3 (by omega),o 4 (by omega),o 5 (by omega),o 6 (by omega),o 7 (by omega),o 8 (by omega),o 9 (by omega)⟩
theorem zHU {cs:ab α}(h:o+(cs:B)<=k)(F:k<=(L:B)):(bg L o cs).take k=bg (L.take k) o cs:=by
 have u:(L.take o).length=o:=by rw[cu];omega
 have v:(L.take o).take k=L.take o:=bn (by omega);have y:cs.take (k-o)=cs:=bn (by omega);have z:(L.take k).take o=L.take o:=by rw[ee,ej (by omega)]
 have A:(L.take k).drop (o+(cs:B))=(L.drop (o+(cs:B))).take (k-o-(cs:B)):=by rw[List.drop_take,Nat.sub_sub]
 unfold bg;rw[eb,u,v,eb,y,z,A]
theorem DRow.set (h:DRow w g c n m)(A:i<n)(x:Dev){o:bj bi}(v:w.heap[g]?=f (aj o 48)):DRow (w.setRow g (bg o.toList (i*10) x.vals.toList).toArray) g c n (m.set i x):=by
 obtain⟨y,z,F,I⟩:=h.blk;rw[v]at z;cases z;have u:x.vals.toList.length=10:=rfl;refine⟨⟨_,db w g o _ _ _ v,?_,?_⟩,by rw[List.length_set,h.len],h.nc,h.cm⟩
 .have:=h.nc;rw[cg,length_splice _ _ _ (by rw[u,bz];omega),bz];exact F
 .rw[ef,<-zNO (by rw[h.len];exact A),<-I];exact zHU (by rw[u];omega) (by rw[bz];have:=h.nc;omega)
theorem DRow.of {cs:ab Dev}(h:w.ownsRow o 48 10 (ag a cs c) (cs:B) (flat cs))(O:0<(cs:B)):∃ g,a=f ⟨g,0,D⟩/\o<=g/\DRow w g c (cs:B) cs:=by
 obtain⟨_,⟨v,U⟩|⟨g,y,u,v,z,A,F,I,J,N⟩⟩:=h;·omega
 .cases v;exact⟨g,rfl,z,⟨⟨u,A,J,N⟩,rfl,F,I⟩⟩
structure DelI {α:Type}(p:α->Bool)(l m:ab α)(i j:B):Prop where
 len:(m:B)=(l:B)
 lo:m.take i=(l.take j).filter λx=>!p x
 hi:m.drop j=l.drop j
 il:i=((l.take j).filter λx=>!p x).length
section
variable {α:Type}{p:α->Bool}{l m:ab α}{i j:B}{x:α}
theorem zHP (h:l[j]?=f x):(l.take (j+1)).filter (λx=>!p x)=(l.take j).filter (λx=>!p x)++(if p x then []else [x]):=by
 rw[bu,h,dm];cases hp:p x<;>simp[hp]
theorem DelI.start (h:l[j]?=f x)(u:p x=ao)(v:∀ y∈l.take j,p y=ak):DelI p l l j (j+1):=by
 have z:(l.take j).filter (λx=>!p x)=l.take j:=List.filter_eq_self.2 λy A=>by rw[v y A];rfl
 have o:(l.take (j+1)).filter (λx=>!p x)=l.take j:=by rw[zHP h,z,u];simp
 have F:j<(l:B):=(List.getElem?_eq_some_iff.1 h).1;exact⟨rfl,o.symm,rfl,by rw[o];simp;omega⟩
theorem DelI.next (h:DelI p l m i j):m.drop (j+1)=l.drop (j+1):=by
 have:=bc (List.drop 1) h.hi
 simpa [List.drop_drop]using this
theorem DelI.at (h:DelI p l m i j)(o:l[j]?=f x):m[j]?=f x:=by
 have e:(m.drop j)[0]?=(l.drop j)[0]?:=by rw[h.hi]
 simpa [o]using e
theorem DelI.skip (h:DelI p l m i j)(u:l[j]?=f x)(v:p x=ao):DelI p l m i (j+1):=by
 have o:(l.take (j+1)).filter (λx=>!p x)=(l.take j).filter (λx=>!p x):=by rw[zHP u,v];simp
 exact⟨h.len,by rw[o];exact h.lo,h.next,by rw[o];exact h.il⟩
theorem DelI.put (h:DelI p l m i j)(o:l[j]?=f x)(v:p x=ak)(y:i<j):DelI p l (m.set i x) (i+1) (j+1):=by
 have A:j<(l:B):=(List.getElem?_eq_some_iff.1 o).1;have u:(l.take (j+1)).filter (λx=>!p x)=(l.take j).filter (λx=>!p x)++[x]:=by rw[zHP o,v];simp
 have z:=h.len;refine⟨by simp[z],?_,?_,by rw[u,ct,<-h.il];rfl⟩
 .rw[u,<-h.lo,bu,List.getElem?_set_self (by omega),List.take_set_of_le (bo i)];rfl
 .rw[List.drop_set,if_pos (by omega)];exact h.next
end
theorem zG4 (k:B):(br (bp Dev.zero.vals).cells k).toList.length=k*10:=by simp[br,cz,ay]
theorem zLn (k:B):∀ u∈(br (bp Dev.zero.vals).cells k).toList,u.oneCell'=true:=by
 intro u h;simp only[br,cz,Array.toList_map,List.mem_map]at h;obtain⟨q,_,rfl⟩:=h;have v:Dev.zero.vals.size=10:=rfl;have o:q % Dev.zero.vals.size<Dev.zero.vals.size:=Nat.mod_lt _ (by rw[v];omega);rw[getElem!_pos Dev.zero.vals _ o];exact zAd cp _ (by rw[<-Array.getElem_toList o];exact dp _)
theorem zFj (w:am)(v:cd)(g c n i y:B)(m:ab Dev)(o:bj bi)(h:w.heap[g]?=f (aj o 48))(F:n*10<=o.size)(I:i<n):
  (co #[37] v #[ag (f ⟨g,i*10,D⟩) (n-i) y]).run ap w=.ok (.tuple #[]) (w.setRow g (bg o.toList (i*10) (br (bp Dev.zero.vals).cells (n-i)).toList).toArray):=by
 have u:=ez ap g (i*10) 48 (br (bp Dev.zero.vals).cells (n-i)).toList 0 o w h (by rw[zG4];omega) (zLn _);obtain⟨k,z⟩:∃ k,n-i=k+1:=⟨n-i-1,by omega⟩
 have A:bp Dev.zero.vals=ax #[ai af 0,ai af 0,(),(),(),(),(),ai af 0,ai af 0,ag D 0 0]:=rfl;rw[z,A]at u ⊢;simp[co,run_underlying ex,u,bg]
theorem DRow.devs (h:DRow w g c n m):Devs w (f ⟨g,0,D⟩) c m:=by
 obtain⟨o,u,_⟩:=h.blk;refine⟨by rw[h.len];exact h.nc,h.cm,(λe=>by cases e),λX e _=>?_⟩;cases e;refine⟨rfl,zC u,λi d v j y=>?_⟩;obtain⟨z,c1,A,F,I,J,N,O,U,V⟩:=h.dev v;rw[ep]
 match j,y with
 | 0,_=>exact z
 | 1,_=>exact c1
 | 2,_=>exact A
 | 3,_=>exact F
 | 4,_=>exact I
 | 5,_=>exact J
 | 6,_=>exact N
 | 7,_=>exact O
 | 8,_=>exact U
 | 9,_=>exact V
theorem zJA {α:Type}(p:α->Bool):∀ (l:ab α) (k:B),fidx p l=k->∀ y∈l.take k,p y=ak
 | [],k,h,y,o=>by simp at o
 | x::t,0,h,y,o=>by simp at o
 | x::t,k+1,h,y,o=>by
  unfold fidx at h;cases hp:p x with
  | true=>rw[hp]at h;simp at h;omega
  | false=>
   rw[hp]at h;simp only[Bool.false_eq_true,if_false]at h;split at h;·omega
   .rw[List.take_succ_cons]at o;rcases List.mem_cons.1 o with rfl|o
    .exact hp
    .exact zJA p t k (by omega) y o
theorem zJ1 (gf:B)(cb:bj bi)(eg:∀ args w,(callFunc gf args).run ap w=.ok (.enter gf args) w)(p:Dev->Bool)(O:B)(av:aq au)(A:B)(cs:ab Dev)(w:am)(v:w.ownsRow O 48 10 (ag av cs A) (cs:B) (flat cs))(hn:(cs:B)<=1000)
  (F:∀ x∈cs,∀ W,Fr (λb=>(bh av cs A).ownBlock=f b) w W->ar ap gf (#[ax x.vals]++cb) W λe w'=>e=.returned (.bool (p x))/\Fr No W w'):
  ar ap 139 #[ag av cs A,.func (.func gf) #[] cb] w λe w'=>(∃ a' c' k,e=.returned (ag a' k c')/\k=(cs.filter λx=>!p x).length/\w'.ownsRow O 48 10 (ag a' k c') k (flat (cs.filter λx=>!p x)))/\Fr (λb=>(bh av cs A).ownBlock=f b) w w':=by
 obtain⟨a0,e7,hv,hD,_⟩:=dg v;injection hv with e1 e2 e3
 subst e1 e3;have a7:=zBt gf cb eg p av A cs w hD (λd hd W hf=>F d hd W (hf.mono zn));have e8:=hD.lenmax;have a8:=zh F;clear F;go_enter Tryz.func139,Tryz.ntmps139;go_wp2_with fail;apply a7.mono;rintro e w1 ⟨rfl,J⟩;rcases zAq p cs with⟨N,_,Z⟩|⟨k,x0,N,a9,_,b7,_⟩
 .rw[N];have d6:al ((cs.filter λx=>!p x)=cs):=List.filter_eq_self.2 λy hy=>by
   have:=List.any_eq_false.1 Z y hy
   simpa using this
  have a2:=zg2 (zG v J (λ_ _=>id)) J;clear N Z a7 J v;go_wp2;go_ret;rw[d6];exact⟨⟨av,A,_,rfl,rfl,a2.1⟩,a2.2.mono zn⟩
 .rw[N];have e9:k<(cs:B):=(List.getElem?_eq_some_iff.1 a9).1;have b8:=zh (DelI.start a9 b7 (zJA p cs k N));obtain⟨g,rfl,hg,hR⟩:=DRow.of v (by omega);have b9:=zh (hR.fr J (S:=No) id);have a3:Fr (Is g) w w1:=J.mono zn;have d7:((k:ah)==-1)=false:=by simp
  obtain⟨d0,g0,g1⟩:(cs:B)<=A/\((cs:B):ah)<=A/\A<=9223372036854775807:=⟨hR.nc,by have:=hR.nc;omega,by have:=hR.cm;unfold az at this;omega⟩
  clear N a9 b7 v a7 J hR hD;go_wp2_with fail;go_loopw [5,6] (λiv jv wr=>∃ (i j:B) (m:ab Dev),iv=ai af i/\jv=ai af j/\i<j/\j<=(cs:B)/\al (DelI p cs m i j)/\al (DRow wr g A (cs:B) m)/\Fr (Is g) w wr) (λ_ jv _=>(cs:B)-(bd jv).toNat);case atStart=>exact⟨k,k+1,cs,rfl,by congr 1,by omega,by omega,b8,b9,a3⟩
  case round=>
   clear b9 b8 d7 a3;obtain⟨i,j,m,rfl,rfl,d1,g2,HD,HR,b0⟩:=hrel;by_cases d8:j<(cs:B)
   .have e5:(j:ah)<(cs:B):=(by omega);obtain⟨x,hx⟩:∃ x,cs[j]?=f x:=⟨cs[j],cq d8⟩
    obtain⟨c0,c1,c2,c3,c4,c5,c6,c7,c8,c9⟩:=HR.dev (HD.at hx);obtain⟨W2,b1,f2,b2⟩:=zy wr (aj x.vals 48);have X:=HR.fr f2 (S:=No) id;obtain⟨z0,z1,z2,z3,z4,z5,z6,z7,z8,z9⟩:=DevB.of b2;have U:=b0.step f2 zn;have u:=a8.out x (dw hx) W2 (U.mono (λb _ h=>by unfold Is at h;rw[h];rfl));have Hx:=zh hx;have g3:g<(wr:B):=by obtain⟨o,h1,_⟩:=HR.blk;exact zC h1
    have g4:i<(m:B):=(by rw[HD.len];omega);unfold ay at b1 u;go_upto_region 8 with(fail)
    rw[<-b1];clear b1 hx c0 c1 c2 c3 c4 c5 c6 c7 c8 c9;cases hp:p x
    .rw[hp]at u;have b4:=zh (HD.put Hx hp d1);clear hp;go_upto_region 9 with(go_at_fn gf;refine u.mono ?_;rintro e w3 ⟨rfl,z⟩)
     have b5:=X.fr z id;obtain⟨o,k1,k2,k3⟩:=b5.blk;have a4:=b5.set (i:=i) (by omega) x k1;have a5:=Fr.setRow (S:=Is g) w3 g (bg o.toList (i*10) x.vals.toList).toArray rfl;have HF:=zg2 a4 ((U.step z zn).step a5 zi);have b3:=z.heap b2 id;have d9:(i:ah)<(cs:B):=(by omega);have d2:i*10+x.vals.size<=o.size:=(by rw[k2,show x.vals.size=10 from rfl];omega);clear z0 z1 z2 z3 z4 z5 z6 z7 z8 z9 X b5 U z f2 b2 a4 a5 k2 k3;obtain⟨z0,z1,z2,z3,z4,z5,z6,z7,z8,z9⟩:=DevB.of b3;go_wp2_with (refine zBl rfl 48 _ _ rfl g (i*10) x.vals rfl rfl 48 o k1 zDO d2 (zAd x) ?_)
     go_roundw;case rel=>exact⟨i+1,j+1,_,by congr 1,by congr 1,by omega,by omega,b4,HF.1,HF.2⟩
     case measure=>simp[bd];omega
    .rw[hp]at u;have b4:=zh (HD.skip Hx hp);clear hp;go_wp2_with (go_at_fn gf;refine u.mono ?_;rintro e w3 ⟨rfl,z⟩)
     have HF:=zg2 (X.fr z id) (U.step z zn);clear X U z z0 z1 z2 z3 z4 z5 z6 z7 z8 z9 f2 b2;go_roundw;case rel=>exact⟨i,j+1,m,rfl,by congr 1,by omega,by omega,b4,HF.1,HF.2⟩
     case measure=>simp[bd];omega
   .obtain rfl:j=(cs:B):=by omega
    obtain⟨o,k1,k2,k3⟩:=HR.blk;have d3:i<(cs:B):=d1;have a6:∀ ty dl dc,dl=(cs:B)-i->(co #[37] ty #[ag (f ⟨g,i*10,D⟩) dl dc]).run ap wr=.ok (.tuple #[]) (wr.setRow g (bg o.toList (i*10) (br (bp Dev.zero.vals).cells ((cs:B)-i)).toList).toArray):=λty dl dc e=>by
     subst e;exact zFj wr ty g A (cs:B) i dc m o k1 (by omega) d3
    have d4:cs.take (cs:B)=cs:=bn (bo _);have b6:=HD.lo;have Y:=HD.il;rw[d4]at b6 Y;obtain⟨row,I⟩:=ε (bg o.toList (i*10) (br (bp Dev.zero.vals).cells ((cs:B)-i)).toList)
    rw[<-I]at a6;have V:al ((wr.setRow g row.toArray).ownsRow O 48 10 (ag (f ⟨g,0,D⟩) i A) i (flat (cs.filter λx=>!p x))/\i=(cs.filter λx=>!p x).length/\Fr (Is g) w (wr.setRow g row.toArray)):=by
     have e0:=zG4 ((cs:B)-i);have d5:(o.toList:B)=o.size:=bz;have d0:(row:B)=o.size:=(by rw[I,length_splice _ _ _ (by rw[e0];omega),d5]);have e4:row.take (i*10)=(flat m).take (i*10):=by
      rw[I,<-k3,ee,ej (by omega)];unfold bg;exact List.take_left' (by rw[cu];omega)
     refine⟨⟨by rw[zNQ,<-Y],.inr ⟨g,A,row.toArray,rfl,hg,db wr g o _ _ _ k1,by omega,by unfold az;omega,by rw[cg,d0,k2],?_⟩⟩,Y,b0.step (Fr.setRow (S:=Is g) wr g row.toArray rfl) zi⟩;rw[ef,e4,(zEY i m).1,b6]
    have g5:¬ A=i:=(by omega);have d9:i<=A:=(by omega);have e6:(i:ah)<=(cs:B):=(by omega);clear I d4 b6 Y k1 k2 k3 b0;go_wp2_with (simp only[a6 _ _ _ rfl])
    go_ret;exact⟨⟨f ⟨g,0,D⟩,A,i,rfl,V.2.1,V.1⟩,V.2.2.mono (λb _ h=>by unfold Is at h;rw[h];rfl)⟩
def addD (x:Dev)(ix p:ah):Dev:=⟨ix+1,p,x.orig,x.orig,x.sub,(),x.ali,x.kind,x.num,x.aa,x.an,x.ac⟩
def ocs (k:ah)(path:ae)(x:Dev)(nm vl:ae):bj bi:=#[ai af k,be path,ai af x.index,ai af x.parent,be x.name,be x.orig,be x.sub,be x.drv,be x.ali,ai af x.kind,ai af x.num,ag x.aa x.an x.ac,be nm,be vl]
structure OpB (W:am)(b:B)(k:ah)(path:ae)(x:Dev)(nm vl:ae):Prop where
 c0:W ⟨b,0,D⟩=f (ai af k)
 c1:W ⟨b,1,D⟩=f (be path)
 c2:W ⟨b,2,D⟩=f (ai af x.index)
 c3:W ⟨b,3,D⟩=f (ai af x.parent)
 c4:W ⟨b,4,D⟩=f (be x.name)
 c5:W ⟨b,5,D⟩=f (be x.orig)
 c6:W ⟨b,6,D⟩=f (be x.sub)
 c7:W ⟨b,7,D⟩=f (be x.drv)
 c8:W ⟨b,8,D⟩=f (be x.ali)
 c9:W ⟨b,9,D⟩=f (ai af x.kind)
 c10:W ⟨b,10,D⟩=f (ai af x.num)
 c11:W ⟨b,11,D⟩=f (ag x.aa x.an x.ac)
 c12:W ⟨b,12,D⟩=f (be nm)
 c13:W ⟨b,13,D⟩=f (be vl)
theorem OpB.of {b:B}{k:ah}{o nm u:ae}{x:Dev}{v:B×B}(h:W.heap[b]?=f (aj (ocs k o x nm u) T v)):OpB W b k o x nm u:=
 ⟨zB h 0,zB h 1,zB h 2,zB h 3,zB h 4,zB h 5,zB h 6,zB h 7,zB h 8,zB h 9,zB h 10,zB h 11,zB h 12,zB h 13⟩
structure KSt (w:am)(kb base:B)(a:aq au)(cap:B)(ds:ab Dev)(ev:aq au)(en ec:B)(ix:ah):Prop where
 blk:w.heap[kb]?=f (aj (kcs a (ds:B) cap ev en ec ix) 59)
 tr:Tr w base a cap ds
 ta:BlkT w a 48
 te:∀ d∈ds,BlkT w d.aa 78
 own:∃ xs,w.ownsRow base 143 5 (ag ev en ec) en xs
 nm:∀ d∈ds,d.name.size<=1000
def ParIs (ds:ab Dev)(path:ae)(p:ah):Prop:=(ds.find? (atP ds path)=D/\path=()/\p=0)\/∃ d,ds.find? (atP ds path)=f d/\p=d.index
theorem Cop.tr {u:B}{o:ab Dev}{F:aq au}{N:B}(h:Cop w w' A y o)(U:∀ d∈y,Sized d/\d.drv=())(V:Devs w' F N o)(I:TreeWf o)(X:∀ v,F=f v->A<=v.block)(O:u<=A):Tr w' u F N o:=
 ⟨V,I,λv e=>bv O (X v e),λd' Y=>by
  obtain⟨d,Z,J⟩:=h.mem Y;obtain⟨l,_,g2,g3,g4⟩:=J.att;obtain⟨z,s2⟩:=U d Z;have e:=J.eq;refine⟨⟨by rw[e];exact z.name,by rw[e];exact z.orig,by rw[e];exact z.sub,by rw[e];exact z.drv,by rw[e];exact z.ali⟩,by rw[e];exact s2,⟨l,g2,by rw[e];exact g3,g4⟩,λv ea=>bv O (J.fresh v ea)⟩⟩
theorem Cop.names {v:B}{o:ab Dev}(h:Cop w w' v o u)(y:∀ d∈o,d.name.size<=1000):∀ d∈u,d.name.size<=1000:=λI z=>by
 obtain⟨d,A,F⟩:=h.mem z;rw[F.eq];exact y d A
theorem BlkT.ne_blk {v:cd}(h:BlkT w a T){b:B}(A:w.heap[b]?=f (aj cs v))(u:T≠v):∀ o,a=f o->¬ Is b o.block:=λo e y=>by
 obtain⟨F,z⟩:=h o e;unfold Is at y;rw[y,A]at z;cases z;exact u rfl
theorem Tr.typ {v:B}{z:B}{S:B->Prop}(h:Tr w v a z ds)(J:BlkT w a 48)(N:∀ d∈ds,BlkT w d.aa 78)(A:Fr S w w')
  (O:∀ b cs T,S b->w.heap[b]?=f (aj cs T (0,0))->T≠48/\T≠78):Tr w' v a z ds/\BlkT w' a 48/\∀ d∈ds,BlkT w' d.aa 78:=by
 have U:∀ o,a=f o->¬ S o.block:=λo e F=>by
  obtain⟨cs,I⟩:=J o e;exact(O _ _ _ F I).1 rfl
 have V:∀ d∈ds,∀ o,d.aa=f o->¬ S o.block:=λd y o e F=>by
  obtain⟨cs,I⟩:=N d y o e;exact(O _ _ _ F I).2 rfl
 refine⟨⟨h.dv.fr A (λo e _=>U o e),h.wf,h.fresh,λd y=>?_⟩,J.fr A U,λd y=>(N d y).fr A (V d y)⟩;have u:=h.el d y;obtain⟨l,X,Y⟩:=u.att;exact⟨u.sz,u.drv,⟨l,X.fr A (λo e _=>V d y o e),Y⟩,u.fresh⟩
def KO (w w':am)(b:B)(ds:ab Dev)(d:Dev)(ds':ab Dev)(er:ah):Prop:=(er=44/\(sameO ds d||ds.any (clP d))=ao)\/(er=0/\(sameO ds d||ds.any (clP d))=ak/\Cop w w' b (insAt ds (insK ds d) d) ds')
theorem KO.fr {o:am}{b:B}{v:ah}(h:KO w w' b ds d u v)(y:Fr No w' o):KO w o b ds d u v:=h.imp id (λh=>⟨h.1,h.2.1,h.2.2.fr y (λ_ _ _ _=>id)⟩)
theorem KO.put {o:am}{b:B}{z:ah}(h:KO w w' b ds d u z)(F:w'.heap[A]?=f (aj cs T))(v:78≠T)(I:Fr (Is A) w' o):KO w o b ds d u z:=h.imp id (λh=>⟨h.1,h.2.1,h.2.2.fr I (λd J=>by
 obtain⟨y,_,N⟩:=h.2.2.mem J;exact N.typ.ne_blk F v)⟩)
theorem KO.src {v:am}{b b':B}{o:ab Dev}{z:ah}(h:KO v w' b ds d o z)(A:Fr No w v)(u:∀ y∈insAt ds (insK ds d) d,∃ l,Atts w y.aa y.ac l/\y.an=l.length)(F:b'<=b):KO w w' b' ds d o z:=h.imp id (λh=>⟨h.1,h.2.1,h.2.2.src A u F⟩)
def InsAny (w w':am)(ds:ab Dev)(d:Dev)(e:Ending):Prop:=
 ∃ a' c' ds' er,e=.returned (.tuple #[ax #[ag a' (cr ds') c'],ai af er])/\Devs w' a' c' ds'/\BlkT w' a' 48/\(∀ ad,a'=f ad->(w:B)<=ad.block)/\KO w w' (w:B) ds d ds' er
theorem InsAny.of {e:Ending}(h:InsTk w w' ds d e\/(sameO ds d||ds.any (clP d))=ak/\zGO w w' ds d e):InsAny w w' ds d e:=by
 rcases h with⟨o,u⟩|⟨o,y,z,v,u,A,F,I,J⟩
 .exact⟨D,0,[],44,u,Devs.nil _,BlkT.none _ _,(λ_ e=>by cases e),.inl ⟨rfl,o⟩⟩
 .exact⟨y,z,v,0,u,A,F,I,.inr ⟨rfl,o,J⟩⟩
def zMR (w w':am)(kb base:B)(ds:ab Dev)(d:Dev)(en:B)(ix:ah):Prop:=
 ∃ a' cap' ds' ev' ec',KSt w' kb base a' cap' ds' ev' (en+1) ec' (ix+1)/\Cop w w' (w:B) (insAt ds (insK ds d) d) ds'
def AddOut (w w':am)(kb base:B)(ds:ab Dev)(d:Dev)(ev:aq au)(en ec:B)(ix:ah)(e:Ending):Prop:=
 ((sameO ds d||ds.any (clP d))=ao/\e=.returned (.tuple #[ai af 0,ai af 44])/\Fr No w w')\/
 ((sameO ds d||ds.any (clP d))=ak/\e=.returned (.tuple #[ai af (ix+1),ai af 0])/\zMR w w' kb base ds d en ix/\KFr kb (ag ev en ec) w w')
theorem zQI (I N:B)(a:aq au)(b2:B)(ds:ab Dev)(ev:aq au)(en ec:B)(u:ah)(O nm vl:ae)(x:Dev)(k p:ah)(l:ab (ae×ae))(m:ah)(w:am)(hK:KSt w I N a b2 ds ev en ec u)(p8:en<=50000000)(p9:0<=u/\u<=1000000)(hb:N<=(w:B))
  (hA:Atts w x.aa x.ac l) (h1:l.length<=1) (j4:x.an=l.length) (j5:x.kind=2) (hs:Sized (addD x u p)) (hp:ParIs ds O p) (l7:(Lit.int af p).wf=ao) (h9:InsPre ds (addD x u p) l) (j6:(sameO ds (addD x u p)||ds.any (clP (addD x u p)))=ak->∀ w' o,Cop w w' (w:B) (insAt ds (insK ds (addD x u p)) (addD x u p)) o->TreeWf o)
  (hm:w ⟨0,0,D⟩=f (.int af m)) (h0:0<(w:B)) (r0:0<I):
  ar ap 43 #[bf (f ⟨I,0,D⟩),ax (ocs k O x nm vl)] w λe w'=>AddOut w w' I N ds (addD x u p) ev en ec u e:=by
 have hn:=h9.len;obtain⟨xs,e6⟩:=hK.own;obtain⟨W0,i0,x0,b0⟩:=zy w (aj (ocs k O x nm vl) 72);have i3:=x0.heap hK.blk id;have l8:=zC hK.blk;have d2:=λ(W:am) (hf:Fr No w W)=>zD1 a b2 ds N O W (hK.tr.no hf) (by omega)
 have j7:=zh d2;have HK:=zh hK;have HA:=zh hA;have j8:=zh h9;have l9:=zh j6;have Hp:=zh hp;have j9:=zh j4;have HS:=zh hs;have m0:=zh j5;have Hm:=zh hm;have e7:=zh e6;clear d2 hA h9 j6 hp j4 hs j5 hm hK e6;unfold ocs at i0 ⊢;go_enter Tryz.func43,Tryz.ntmps43;go_upto_region 1 with(fail)
 rw[<-i0];clear i0;go_cut [6,7] (λp6 b7 wx=>∃ Bp pd bb,p6=bf (f ⟨Bp,0,D⟩)/\b7=.bool bb/\al (wx.heap[Bp]?=f (aj (ay pd) 48)/\pd.index=p/\(bb=ao\/O=())/\(w:B)<Bp)/\Fr No W0 wx);case first=>
  have dz:Dev.zero.vals=#[.int af 0,.int af 0,.string (),.string (),.string (),.string (),.string (),.int af 0,.int af 0,.slice D 0 0]:=rfl;refine zZ (λb=>(W0:B)<=b) (.q 0 (.q 1 (.q 2 (.q 3 (.q 4 (.q 5 (.m2 6 (.q 7 (.q 8 (.q 9 (.m1 10 (.m1 11 (.q 12 .fin)))))) 10 (.m1 6 (.q 7 (.q 8 (.q 9 (.m1 11 (.q 12 .fin))))))))))))) _ (λW1 X=>?_) zj;have b1:=X.heap b0 id;have k1:=X.heap i3 id;have m3:=zC b0;have m4:=X.size;have t0:∀ g:Gr (λb=>(W0:B)<=b) W1,g.W ⟨I,0,D⟩=f (.slice a ds b2):=λg=>zB (g.fr.heap k1 (λh=>by omega)) 0
  have t1:∀ g:Gr (λb=>(W0:B)<=b) W1,g.W ⟨w,1,D⟩=f (.string O):=λg=>zB (g.fr.heap b1 (λh=>by omega)) 1
  have x1:=zh (x0.step X zi);(repeat(first|apply zL rfl rfl rfl|apply zJ rfl rfl rfl);intro K hK;go_big_quiet_op;go_big_quiet_on);clear t0 t1;refine zAB rfl rfl ?_ ?_
  .skip
   .have z:=j7.out W1 x1;go_wp2_with fail;apply z.mono;rintro e w2 ⟨hF,b3⟩;clear z;obtain⟨pd,bb,rfl,d3,d4⟩:∃ pd bb,e=.returned (.tuple #[ax (ay pd),.bool bb])/\pd.index=p/\(bb=ao\/O=()):=by
     rcases hF with⟨a4,rfl⟩|⟨d,F,J,l',a4,rfl,_⟩
     .rcases Hp.out with⟨_,h2,h3⟩|⟨d,h2,_⟩
      .exact⟨cp,ak,rfl,h3.symm,.inr h2⟩
      .rw[a4]at h2;cases h2
     .rcases Hp.out with⟨h2,_⟩|⟨d',h2,h3⟩
      .rw[a4]at h2;cases h2
      .rw[a4]at h2;cases h2;exact⟨{ d with aa:=F,ac:=J },ao,rfl,h3.symm,.inl rfl⟩
    have d5:=zg2 d3 d4;clear d3 d4;unfold ay;go_wp2_with fail;apply zm b3;(repeat(first|apply zL rfl rfl rfl|apply zJ rfl rfl rfl);intro K hK;go_big_quiet_op;go_big_quiet_on);apply zH rfl;obtain⟨W3,d6,f3,q3⟩:=zy w2 (aj #[.int af 0,.int af 0,.string (),.string (),.string (),.string (),.string (),.int af 0,.int af 0,.slice D 0 0] 48);have HX:al (Fr No W0 W3):=(X.step b3 zi).step f3 zi;have r1:=b3.size;go_wp2_with fail;apply zp;rw[<-d6];clear d6 f3;apply zH rfl;obtain⟨z0,z1,z2,z3,z4,z5,z6,z7,z8,z9⟩:=DevB.of (d:=⟨0,0,(),(),(),(),(),0,0,D,0,0⟩) q3;obtain⟨y0,y1,y2,y3,y4,y5,y6,y7,y8,y9⟩:=DevF.of q3;have Y:=zh (zA6 q3 rfl pd);have m5:=zC q3;clear q3;go_wp2_with fail;refine ci ⟨Y.2.mono (λb _ h=>by omega),?_⟩;(repeat(first|apply zL rfl rfl rfl|apply zJ rfl rfl rfl);intro K hK;go_big_quiet_op;go_big_quiet_on);apply zW;go_wp2;go_meet;exact⟨_,pd,bb,rfl,rfl,⟨Y.1,d5.1,d5.2,by omega⟩,(HX.step Y.2 (λb hb h=>by omega))⟩
  .skip
   .obtain⟨W3,d6,f3,q2⟩:=zy W1 (aj #[.int af 0,.int af 0,.string (),.string (),.string (),.string (),.string (),.int af 0,.int af 0,.slice D 0 0] 48);go_wp2_with fail;apply zp;rw[<-d6];clear d6;have z:=j7.out W3 (x1.step f3 zi);apply zH rfl;go_wp2_with fail;apply z.mono;rintro e w2 ⟨hF,b3⟩;clear z;obtain⟨pd,bb,rfl,d3,d4⟩:∃ pd bb,e=.returned (.tuple #[ax (ay pd),.bool bb])/\pd.index=p/\(bb=ao\/O=()):=by
     rcases hF with⟨a4,rfl⟩|⟨d,F,J,l',a4,rfl,_⟩
     .rcases Hp.out with⟨_,h2,h3⟩|⟨d,h2,_⟩
      .exact⟨cp,ak,rfl,h3.symm,.inr h2⟩
      .rw[a4]at h2;cases h2
     .rcases Hp.out with⟨h2,_⟩|⟨d',h2,h3⟩
      .rw[a4]at h2;cases h2
      .rw[a4]at h2;cases h2;exact⟨{ d with aa:=F,ac:=J },ao,rfl,h3.symm,.inl rfl⟩
    have d5:=zg2 d3 d4;clear d3 d4;unfold ay;have q3:=b3.heap q2 id;have HX:al (Fr No W0 w2):=(X.step f3 zi).step b3 zi;clear q2 f3;go_wp2_with fail;apply zm b3;(repeat(first|apply zL rfl rfl rfl|apply zJ rfl rfl rfl);intro K hK;go_big_quiet_op;go_big_quiet_on);apply zH rfl;obtain⟨z0,z1,z2,z3,z4,z5,z6,z7,z8,z9⟩:=DevB.of (d:=⟨0,0,(),(),(),(),(),0,0,D,0,0⟩) q3;obtain⟨y0,y1,y2,y3,y4,y5,y6,y7,y8,y9⟩:=DevF.of q3;have Y:=zh (zA6 q3 rfl pd);have m5:=zC q3;clear q3;go_wp2_with fail;refine ci ⟨Y.2.mono (λb _ h=>by omega),?_⟩;(repeat(first|apply zL rfl rfl rfl|apply zJ rfl rfl rfl);intro K hK;go_big_quiet_op;go_big_quiet_on);apply zW;go_wp2;go_meet;exact⟨_,pd,bb,rfl,rfl,⟨Y.1,d5.1,d5.2,by omega⟩,(HX.step Y.2 (λb hb h=>by omega))⟩
 case rest=>
  obtain⟨Bp,pd,bb,rfl,rfl,hB,X⟩:=hcut;have x1:Fr No w wc:=x0.step X zi;have b1:=X.heap b0 id;have k1:=X.heap i3 id;have p1:=hB.1;have m3:=zC b0;have m4:=X.size;have r2:=zC p1;have r3:=hB.2.2.2;clear b0 i3 X;obtain⟨o0,o1,o2,o3,o4,o5,o6,o7,o8,o9,m6,m7,m8,m9⟩:=OpB.of b1;go_upto_region 2 with(fail)
  go_cut [32] (λv wy=>v=.bool ak/\wc=wy);case first=>
   rcases hB.2.2.1 with rfl|rfl
   .rcases hpe:O.toList.isEmpty with _|_
    all_goals
     go_wp2;go_meet;exact⟨rfl,rfl⟩
   .go_wp2;go_meet;exact⟨rfl,rfl⟩
  case rest=>
   obtain⟨rfl,rfl⟩:=hcut;obtain⟨W4,i4,f4,b4⟩:=zy wc (aj x.vals 48);unfold ay at i4;go_upto_region 5 with(fail)
   rw[<-i4];clear i4 o0 o1 o2 o3 o4 o5 o6 o7 o8 o9 m6 m7 m8 m9;have s4:=f4.size;refine zO (λb=>(W4:B)<=b) [(0,ak),(1,ak),(2,ak),(3,ak),(4,ak),(5,ak),(6,ak),(7,ak),(8,ak),(9,ak),(10,ak),(11,ak),(12,ak),(13,ak),(14,ak),(15,ak),(16,ak),(17,ak),(18,ak),(19,ak),(20,ak),(21,ak),(22,ao),(23,ao)] (λW5 d0=>?_);have s5:=d0.size;have x5:Fr No w W5:=(x1.step f4 zi).step d0 zi;have k5:=d0.heap (f4.heap k1 id) id;have p5:=d0.heap (f4.heap p1 id) id;have b5:=d0.heap b4 id;have r4:=zC b4;have t0:∀ g:Gr (λb=>(W4:B)<=b) W5,g.W ⟨I,4,D⟩=f (.int af u):=λg=>zB (g.fr.heap k5 (λh=>by omega)) 4
   have t1:∀ g:Gr (λb=>(W4:B)<=b) W5,g.W ⟨Bp,0,D⟩=f (.int af p):=λg=>by rw[<-hB.2.1];exact zB (g.fr.heap p5 (λh=>by omega)) 0
   have Z:∀ g:Gr (λb=>(W4:B)<=b) W5,DevB g.W (wc:B) x:=λg=>DevB.of (g.fr.heap b5 (λh=>by omega))
   have c0:=λg=>(Z g).c0
   have c1:=λg=>(Z g).c1
   have c2:=λg=>(Z g).c2
   have c3:=λg=>(Z g).c3
   have c4:=λg=>(Z g).c4
   have c5:=λg=>(Z g).c5
   have c6:=λg=>(Z g).c6
   have c7:=λg=>(Z g).c7
   have c8:=λg=>(Z g).c8
   have c9:=λg=>(Z g).c9
   clear Z;(repeat(first|apply zR rfl rfl rfl|apply zT rfl rfl rfl);intro K hK;go_big_quiet_op;go_big_quiet_on);clear t0 t1 c0 c1 c2 c3 c4 c5 c6 c7 c8 c9;apply zu rfl;obtain⟨W6,k0,f6,q6⟩:=zy W5 (aj #[.int af 0,.int af 0,.string (),.string (),.string (),.string (),.string (),.int af 0,.int af 0,.slice D 0 0] 48);go_wp2_with fail;apply zp;rw[<-k0];clear k0;apply zu rfl;obtain⟨z0,z1,z2,z3,z4,z5,z6,z7,z8,z9⟩:=DevB.of (d:=⟨0,0,(),(),(),(),(),0,0,D,0,0⟩) q6;obtain⟨y0,y1,y2,y3,y4,y5,y6,y7,y8,y9⟩:=DevF.of q6;have Y:=zh (zA6 q6 rfl (addD x u p));clear q6;go_wp2_with fail;refine ci ⟨Y.2.mono (λb _ h=>by omega),?_⟩;apply zb;have f7:=Y.2;have q7:=Y.1;clear Y z0 z1 z2 z3 z4 z5 z6 z7 z8 z9 y0 y1 y2 y3 y4 y5 y6 y7 y8 y9;unfold addD at f7 q7;dsimp only at f7 q7;revert f7 q7;generalize n3:((((((((((W6.setCell _ _).setCell _ _).setCell _ _).setCell _ _).setCell _ _).setCell _ _).setCell _ _).setCell _ _).setCell _ _).setCell _ _)=W7;intro f7 q7;clear n3;have x7:Fr No w W7:=(x5.step f6 zi).step f7 (λb hb h=>by have:=x5.size;omega);have k7:=f7.heap (f6.heap k5 id) (λh=>by have:=x5.size;omega);have n4:(Lit.int af (addD x u p).index).wf=true:=ey (by show _/\_;unfold addD;dsimp only;omega);have e8:al (∀ W,Fr No w W->ar ap 68 #[ax #[.slice a ds b2],ax #[.int af (u+1),.int af p,.string x.orig,.string x.orig,.string x.sub,.string (),.string x.ali,.int af x.kind,.int af x.num,.slice x.aa x.an x.ac]] W λe w'=>InsAny W w' ds (addD x u p) e/\Fr No W w'):=λW hf=>
    (zD0 a b2 ds N (addD x u p) l m W (HK.tr.no hf) HS (HA.no hf (λ_=>id)) h1 j9 m0 rfl l7 n4 j8 (hf.cell Hm id) (Nat.lt_of_lt_of_le h0 hf.size)).mono (λ_ _ h=>⟨InsAny.of h.1,h.2⟩)
   have d2:al (∀ y∈insAt ds (insK ds (addD x u p)) (addD x u p),∃ l,Atts w y.aa y.ac l/\y.an=l.length):=by
    intro y hy;rcases zV.1 hy with h|h
    .subst h;exact⟨l,HA,j9⟩
    .obtain⟨l',g1,g2,_⟩:=(HK.tr.el y h).att;exact⟨l',g1,g2⟩
   have r5:I<(w:B):=l8;have r6:(W5:B)<(W7:B):=zC q7;have r7:=x5.size;clear k5 p5 b5 f4 f6 f7 d0 k1 p1 b1 b4;go_upto_region 6 with(fail)
   go_cut [10,11] (λn5 n6 wy=>∃ Bt F J o er,n5=bf (f ⟨Bt,0,D⟩)/\n6=.int af er/\al (wy.heap[Bt]?=f (aj #[.slice F (cr o) J] 39)/\(W7:B)<=Bt)/\al (Devs wy F J o/\BlkT wy F 48/\(∀ ad,F=f ad->(W7:B)<=ad.block)/\KO w wy (w:B) ds (addD x u p) o er)/\Fr No W7 wy);case first=>
    refine zZ (λb=>(W7:B)<=b) (.q 0 (.q 1 (.q 2 (.q 3 (.q 4 (.m2 5 (.q 6 (.q 7 (.q 8 (.m1 9 (.m1 10 (.q 11 .fin)))))) 9 (.m1 5 (.q 6 (.q 7 (.q 8 (.m1 10 (.q 11 .fin))))))))))))  _ (λW8 U=>?_) zj;have s8:=U.size;have k8:=U.heap k7 id;have q8:=U.heap q7 id;have x8:=zh (x7.step U zi);have t0:∀ g:Gr (λb=>(W7:B)<=b) W8,g.W ⟨I,0,D⟩=f (.slice a ds b2):=λg=>zB (g.fr.heap k8 (λh=>by omega)) 0
    have Z:∀ g:Gr (λb=>(W7:B)<=b) W8,DevB g.W (W5:B) ⟨u+1,p,x.orig,x.orig,x.sub,(),x.ali,x.kind,x.num,x.aa,x.an,x.ac⟩:=λg=>DevB.of (g.fr.heap q8 (λh=>by omega))
    have c0:=λg=>(Z g).c0
    have c1:=λg=>(Z g).c1
    have c2:=λg=>(Z g).c2
    have c3:=λg=>(Z g).c3
    have c4:=λg=>(Z g).c4
    have c5:=λg=>(Z g).c5
    have c6:=λg=>(Z g).c6
    have c7:=λg=>(Z g).c7
    have c8:=λg=>(Z g).c8
    have c9:=λg=>(Z g).c9
    clear Z;(repeat(first|apply zL rfl rfl rfl|apply zJ rfl rfl rfl);intro K hK;go_big_quiet_op;go_big_quiet_on);clear t0 c0 c1 c2 c3 c4 c5 c6 c7 c8 c9;refine zAB rfl rfl ?_ ?_
    focus
     have z:=e8.out W8 x8;go_wp2_with fail;apply z.mono;rintro e w9 ⟨hR,V⟩;clear z;obtain⟨F,J,o,er,rfl,hD,d7,a6,a7⟩:=hR;have HR:=zg4 hD d7 a6 a7;have s9:=V.size;clear hD d7 a6 a7;go_wp2_with fail;apply zm V;(repeat(first|apply zL rfl rfl rfl|apply zJ rfl rfl rfl);intro K hK;go_big_quiet_op;go_big_quiet_on);apply zH rfl;obtain⟨WA,k3,fA,qA⟩:=zy w9 (aj #[.slice D 0 0] 39);go_wp2_with fail;apply zp;rw[<-k3];clear k3;have HT:al (Devs WA F J o/\BlkT WA F 48/\(∀ ad,F=f ad->(W7:B)<=ad.block)/\KO w WA (w:B) ds (addD x u p) o er):=⟨HR.1.no fA (λ_=>id),HR.2.1.fr fA (λ_ _=>id),λad e=>by have:=HR.2.2.1 ad e;omega,(HR.2.2.2.src x8 d2 x8.size).fr fA⟩
     have e9:al (Fr No W7 WA):=(U.step V zi).step fA zi;have e2:al ((W7:B)<=(w9:B)):=(by unfold al;omega);generalize (w9:B)=Bt at *
    rotate_left 1
    focus
     obtain⟨W9,k4,f9,q9⟩:=zy W8 (aj #[.slice D 0 0] 39);go_wp2_with fail;apply zp;rw[<-k4];clear k4;have x9:=zh (x8.step f9 zi);have z:=e8.out W9 x9;apply zH rfl;go_wp2_with fail;apply z.mono;rintro e WA ⟨hR,i5⟩;clear z;obtain⟨F,J,o,er,rfl,hD,d7,a6,a7⟩:=hR;have s9:=f9.size;have qA:=i5.heap q9 id;have HT:al (Devs WA F J o/\BlkT WA F 48/\(∀ ad,F=f ad->(W7:B)<=ad.block)/\KO w WA (w:B) ds (addD x u p) o er):=⟨hD,d7,λad e=>by have:=a6 ad e;omega,a7.src x9 d2 x9.size⟩
     have e9:al (Fr No W7 WA):=(U.step f9 zi).step i5 zi;have e2:al ((W7:B)<=(W8:B)):=s8;clear hD d7 a6 a7 q9;go_wp2_with fail;apply zm i5;(repeat(first|apply zL rfl rfl rfl|apply zJ rfl rfl rfl);intro K hK;go_big_quiet_op;go_big_quiet_on);generalize (W8:B)=Bt at *
    all_goals (
     apply zH rfl;have y0:=zD qA 0;have z0:WA ⟨Bt,0,D⟩=f (.slice D 0 0):=zB qA 0;have fB:Fr (Is Bt) WA (WA.setCell ⟨Bt,0,D⟩ (.slice F o.length J)):=bt (ba _ _) _;have qB:=zE qA 0 (.slice F o.length J);have n1:=HT.2.1.ne_blk qA (by decide);have HU:al (Devs (WA.setCell ⟨Bt,0,D⟩ (.slice F o.length J)) F J o/\BlkT (WA.setCell ⟨Bt,0,D⟩ (.slice F o.length J)) F 48/\(∀ ad,F=f ad->(W7:B)<=ad.block)/\KO w (WA.setCell ⟨Bt,0,D⟩ (.slice F o.length J)) (w:B) ds (addD x u p) o er):=
      ⟨HT.1.fr fB (λad e _=>n1 ad e),HT.2.1.fr fB n1,HT.2.2.1,HT.2.2.2.put qA (by decide) fB⟩
     have n7:al (Fr No W7 (WA.setCell ⟨Bt,0,D⟩ (.slice F o.length J))):=e9.step fB (λb hb h=>by have:=e2.out;omega);have n8:=zh qB;clear qB fB n1 qA;go_wp2_with fail;refine ci ⟨Fr.setCell (ba _ _) (λ_=>e2) _,?_⟩;(repeat(first|apply zL rfl rfl rfl|apply zJ rfl rfl rfl);intro K hK;go_big_quiet_op;go_big_quiet_on);apply zW;go_wp2;go_meet;exact⟨Bt,F,J,o,er,rfl,rfl,⟨n8,e2⟩,HU,n7⟩
     )
   case rest=>
    obtain⟨Bt,F,J,o,er,rfl,rfl,e3,HU,U⟩:=hcut;rcases HU.2.2.2 with⟨rfl,d8⟩|⟨rfl,d8,k6⟩
    .have e4:=zh d8;have x8:=zh (x7.step U zi);clear d8 U e3;go_wp2_with fail;refine cl (v:=.tuple #[.int af 0,.int af 44]) (by simp[results,Tryz.results43,go_sem]) rfl ?_;exact .inl ⟨e4,rfl,x8⟩
    have e4:=zh d8;have HC:=zh k6;clear d8 k6;have x8:Fr No w wc:=x7.step U zi;have k8:=U.heap k7 id;have q8:=U.heap q7 id;have g0:=e3.1;have p7:=e3.2;have s8:=U.size;clear k7 q7 e3 U;go_upto_region 9 with(fail)
    refine zO (λb=>b=I) [(0,ak),(1,ak),(2,ak),(3,ak),(4,ak),(5,ak),(6,ak),(7,ao),(8,ak),(9,ak),(10,ao)] (λW9 V=>?_);have x9:Fr No w W9:=x8.step V zi;have k9:=V.heap k8 id;have q9:=V.heap q8 id;have t9:=V.heap g0 id;have s9:=V.size;have t0:∀ g:Gr (λb=>b=I) W9,g.W ⟨Bt,0,D⟩=f (.slice F o.length J):=λg=>zB (g.fr.heap t9 (λh=>by omega)) 0
    have t1:∀ g:Gr (λb=>b=I) W9,g.W ⟨W5,0,D⟩=f (.int af (u+1)):=λg=>zB (g.fr.heap q9 (λh=>by omega)) 0
    (repeat(first|apply zR rfl rfl rfl|apply zT rfl rfl rfl);intro K hK;go_big_quiet_op;go_big_quiet_on);clear t0 t1;apply zu rfl;have y0:=zD k9 0;have z0:W9 ⟨I,0,D⟩=f (.slice a ds b2):=zB k9 0;have e5:(W9.setCell ⟨I,0,D⟩ (.slice F o.length J)).heap[I]?=f (aj (kcs F o.length J ev en ec u) 59):=zE k9 0 _;have i6:Fr (Is I) W9 (W9.setCell ⟨I,0,D⟩ (.slice F o.length J)):=bt (ba _ _) _;go_wp2_with fail;apply zf i6;generalize W9.setCell ⟨I,0,D⟩ (.slice F o.length J)=W10 at *;clear y0 z0;(repeat(first|apply zR rfl rfl rfl|apply zT rfl rfl rfl);intro K hK;go_big_quiet_op;go_big_quiet_on);apply zu rfl;have y4:=zD e5 4;have z4:W10 ⟨I,4,D⟩=f (.int af u):=zB e5 4;have l0:(W10.setCell ⟨I,4,D⟩ (.int af (u+1))).heap[I]?=f (aj (kcs F o.length J ev en ec (u+1)) 59):=zE e5 4 _;have i7:Fr (Is I) W10 (W10.setCell ⟨I,4,D⟩ (.int af (u+1))):=bt (ba _ _) _;go_wp2_with fail;apply zf i7;generalize W10.setCell ⟨I,4,D⟩ (.int af (u+1))=W11 at *;clear y4 z4;apply zb;have a2:Fr (Is I) W9 W11:=i6.step i7 zi;have l1:=a2.heap q9 (λh=>by omega);have i8:=(HU.2.1.fr V (λ_ _=>id)).ne_blk k9 (by decide);have i9:Cop w W9 (w:B) (insAt ds (insK ds (addD x u p)) (addD x u p)) o:=HC.fr V (λ_ _ _ _=>id);have g4:Devs W11 F J o:=(HU.1.no V (λ_=>id)).fr a2 (λad e _=>i8 ad e);have g5:BlkT W11 F 48:=(HU.2.1.fr V (λ_ _=>id)).fr a2 i8;have a3:Cop w W11 (w:B) (insAt ds (insK ds (addD x u p)) (addD x u p)) o:=i9.fr a2 (λd hd=>by
     obtain⟨y,_,hy⟩:=i9.mem hd;exact hy.typ.ne_blk k9 (by decide))
    have g6:∀ d∈insAt ds (insK ds (addD x u p)) (addD x u p),Sized d/\d.drv=():=by
     intro y hy;rcases zV.1 hy with h|h
     .subst h;exact⟨HS,rfl⟩
     .exact⟨(HK.tr.el y h).sz,(HK.tr.el y h).drv⟩
    have g7:∀ d∈insAt ds (insK ds (addD x u p)) (addD x u p),d.name.size<=1000:=by
     intro y hy;rcases(zV.1 hy).symm with h|h
     .exact HK.nm y h
     .subst h;have:=j8.snd.oklen;show x.orig.size<=1000
      unfold addD at this;dsimp only at this;omega
    have j0:Tr W11 N F J o:=a3.tr g6 g4 (l9 e4 _ _ a3) (λad e=>by have:=HU.2.2.1 ad e;have:=x7.size;omega) hb;have d9:=a3.names g7;have n9:o.length<=1000:=(by have:=a3.len;rw[zCq]at this;omega);have b6:=zG e7 x9 (λ_ _=>id);have g8:=zK b6 k9 (by decide);have b9:=zG b6 a2 (λb hb h=>by unfold Is at h;subst h;exact g8 hb);have l2:=zHq I F J N o ev en ec (u+1) 1 (u+1) W11 l0 j0 n9 (ey (by omega)) d9;have r8:=a2.size;have q0:W11 ⟨W5,0,D⟩=f (.int af (u+1)):=zB l1 0;have j1:al (Fr (λb=>b=I\/(bh ev en ec).ownBlock=f b) w W11):=(x9.mono zn).step a2 (λb _ h=>.inl h);have a8:=zg4 a3 j0 g5 d9;clear k8 k9 e5 i6 i7 q8 q9 t9 g0 i8 i9 g4 g6 g7 a3 j0 g5 d9 b6 g8;go_upto_region 10 with(fail)
    go_wp2_with fail;apply l2.mono;rintro e l3 ⟨⟨sp,rfl⟩,g9⟩;clear l2 q0;obtain⟨e0,h4,p0,l4⟩:=zy l3 (aj #[.int af 0,.int af 1,.int af (u+1),.string sp,.string ()] 143);have A:Fr No W11 e0:=g9.step p0 zi;have j2:=A.heap l0 id;have a5:=zG b9 A (λ_ _=>id);have l5:=zN8 I (l3:B) N F o.length J ev en ec (u+1) 1 (u+1) sp xs e0 j2 a5 (by omega) l4 (by have:=j1.size;have:=A.size;omega) (λh=>by have:=(zAF b9 h).2;have:=g9.size;omega);go_wp2_with fail;rw[<-h4];clear h4;apply l5.mono;rintro e d1 ⟨rfl,⟨p2,p3,p4,j3,e1⟩,a9,h5⟩;clear l5;have l6:=a9.heap (A.heap l1 id) (λh=>by
     rcases h with h|h
     .omega
     .have:=ze e7 h;omega)
    have q0:d1 ⟨W5,0,D⟩=f (.int af (u+1)):=zB l6 0;have k2:d1 ⟨I,2,D⟩=f (.slice D 0 0):=zB j3 2;have hS:∀ b cs T,(b=I\/(bh ev en ec).ownBlock=f b)->e0.heap[b]?=f (aj cs T (0,0))->T≠48/\T≠78:=by
     intro b cs T h hc;rcases h with rfl|h
     .rw[j2]at hc;cases hc;exact⟨by decide,by decide⟩
     .by_cases hT:T=143;·subst hT;exact⟨by decide,by decide⟩
      .exact absurd h (zK a5 hc hT)
    have b8:∀ d∈o,BlkT e0 d.aa 78:=λd hd=>by
     obtain⟨y,_,hy⟩:=a8.1.mem hd;exact hy.typ.fr A (λ_ _=>id)
    have h6:Cop w e0 (w:B) (insAt ds (insK ds (addD x u p)) (addD x u p)) o:=a8.1.fr A (λ_ _ _ _=>id);have h7:Cop w d1 (w:B) (insAt ds (insK ds (addD x u p)) (addD x u p)) o:=h6.fr a9 (λd hd ad e h=>by
     obtain⟨cs,hc⟩:=b8 d hd ad e;exact(hS _ _ _ h hc).2 rfl)
    obtain⟨g1,g2,g3⟩:=Tr.typ (a8.2.1.no A) (a8.2.2.1.fr A (λ_ _=>id)) b8 a9 hS;have h8:al (zMR w d1 I N ds (addD x u p) en u/\KFr I (.slice ev en ec) w d1):=
     ⟨⟨F,J,o,p2,p3,⟨j3,g1,g2,g3,⟨p4,e1⟩,a8.2.2.2⟩,h7⟩,(j1.step A zn).step a9 zi,λv' b g hb=>(h5 v' b g hb).imp id (λh=>by have:=j1.size;have:=A.size;omega)⟩
    clear g1 g2 g3 h7 h6 b8 hS e1 j3 l6 j2 a5 a9 h5 l4;go_wp2_with fail;go_loopw [90] (λv wr=>v=.int af 0/\wr=d1) (λ_ _=>0);case atStart=>exact⟨rfl,rfl⟩
    case round=>
     obtain⟨rfl,rfl⟩:=hrel;go_wp2;go_ret2;exact .inr ⟨e4,rfl,h8.1,h8.2⟩
theorem zQH (w:am):
  ar ap 4 #[ag D 0 0] w λe w'=>e=.returned (.tuple #[bf (f ⟨w,0,D⟩),ai af 0])/\w'=w.alloc (aj (kcs D 0 0 D 0 0 0) 59):=by
 obtain⟨o,h⟩:=ε (w.alloc (aj (kcs D 0 0 D 0 0 0) 59))
 rw[<-h];unfold kcs at h;go_enter Tryz.func4,Tryz.ntmps4;go_wp2_with fail;rw[<-h];clear h;go_loopw [16] (λv wr=>v=ai af 0/\wr=o) (λ_ _=>0);case atStart=>exact⟨rfl,rfl⟩
 case round=>
  obtain⟨rfl,rfl⟩:=hrel;go_wp2;go_ret2;exact⟨rfl,rfl⟩
theorem zQu (N:B)(o nm y:ae)(x:Dev)(w:am)(R:ah->ah->am->Prop)
  (h:∀ W,W=w.alloc (aj (ocs 1 o x nm y) 72)->ar ap 43 #[bf (f ⟨N,0,D⟩),ax (ocs 1 o x nm y)] W λe w'=>∃ i v,e=.returned (.tuple #[ai af i,ai af v])/\R i v w'):
  ar ap 20 #[bf (f ⟨N,0,D⟩),ax (ocs 1 o x nm y)] w λe w'=>∃ i v,e=.returned (.tuple #[ai af i,ai af v])/\R i v w':=by
 obtain⟨U,u,-,O⟩:=zy w (aj (ocs 1 o x nm y) 72);have z:=h U u;obtain⟨V,X,Y,Z,o4,o5,o6,o7,o8,o9,A,F,I,J⟩:=OpB.of O;clear h O;unfold ocs at u z ⊢;go_enter Tryz.func20,Tryz.ntmps20;go_upto_region 1 with(fail)
 rw[<-u];clear u;go_wp2_with fail;apply z.mono;rintro e w1 ⟨i,v,rfl,hR⟩;clear z V X Y Z o4 o5 o6 o7 o8 o9 A F I J;have HR:=zh hR;clear hR;go_wp2;go_ret2;exact⟨_,_,rfl,HR⟩
theorem k_do (y:B)(o nm u:ae)(x:Dev)(i v:ah)(w:am)(R:am->Prop)
  (h:∀ W,W=w.alloc (aj (ocs 1 o x nm u) 72)->ar ap 43 #[bf (f ⟨y,0,D⟩),ax (ocs 1 o x nm u)] W λe w'=>e=.returned (.tuple #[i,v])/\R w'):
  ar ap 20 #[bf (f ⟨y,0,D⟩),ax (ocs 1 o x nm u)] w λe w'=>e=.returned (.tuple #[i,v])/\R w':=
 (zQu y o nm u x w (λA z w'=>A=i/\z=v/\R w') (λW F=>(h W F).mono λ_ _ h=>⟨i,v,h.1,rfl,rfl,h.2⟩)).mono λ_ _ ⟨_,_,I,J,N,O⟩=>⟨by rw[I,J,N],O⟩
theorem zQG (kb:B)(a:aq au)(b5:B)(ds:ab Dev)(ev:aq au)(en ec:B)(ix:ah)(w:am)(hk:w.heap[kb]?=f (aj (kcs a (ds:B) b5 ev en ec ix) 59))(hl:Devs w a b5 ds)(hn:(ds:B)<=1000)(d7:∀ d∈ds,∃ l,Atts w d.aa d.ac l/\d.an=l.length/\l.length<=24):
  ar ap 8 #[bf (f ⟨kb,0,D⟩)] w λe w'=>(∃ J U b6,e=.returned (ax #[ag J (cr b6) U])/\Devs w' J U b6/\BlkT w' J 48/\(∀ o,J=f o->(w:B)<=o.block)/\Cop w w' (w:B) ds b6)/\Fr No w w':=by
 obtain⟨i0,g4,g5,g6,g8⟩:=cn infoD;have i5:=hl.lenmax;have g9:=zh d7;have Hn:=zh hn;clear d7 hn;obtain⟨W0,d8,x0,b2,b3⟩:=zw w (aj #[ag D 0 0] 39) (aj #[ag D 0 0] 39);have k0:W0 ⟨kb,0,D⟩=f (ag a ds b5):=zB (x0.heap hk id) 0;have s0:=zC b3;go_enter Tryz.func8,Tryz.ntmps8;go_upto_region 2 with(fail)
 rw[<-d8];clear d8;go_wp2_with fail;clear k0;go_loopw [12] (λi wr=>∃ (j:B) (O:ab Dev) (V:aq au) (X:B),j<=(ds:B)/\(O:B)<=j/\i=ai af (j:ah)/\wr.heap[(w:B)+1]?=f (aj #[ag V O X] 39)/\wr.heap[(w:B)]?=f (aj #[ag D 0 0] 39)/\wr.ownsRow ((w:B)+2) 48 10 (ag V O X) (O:B) (flat O)/\Cop w wr ((w:B)+2) (ds.take j) O/\Fr (From (w:B)) w wr) (λi _=>(ds:B)-(bd i).toNat);case atStart=>exact⟨0,[],D,0,by omega,by simp,rfl,b3,b2,da _ _ _ _,by simpa using Cop.nil _ _ _,x0.mono zn⟩
 case round=>
  obtain⟨j,O,V,X,hj,i6,rfl,g3,g2,z,hC,hf⟩:=hrel;by_cases h0:j<(ds:B)
  .have h9:(j:ah)<(ds:B):=by omega
   have h3:∀ o,a=f o->ds≠[]->¬ From (w:B) o.block:=λo e b7 h=>by have:=(hl.cell o e b7).2.1;omega
   obtain⟨bb,i7,d,rfl,hd,c0,c1,c2,c3,c4,c5,c6,c7,c8,c9⟩:=(hl.fr hf h3).dev h0;have b1:=dw hd;obtain⟨l,a8,b8,d9⟩:=g9.out d b1;have hA:Atts wr d.aa d.ac l:=a8.fr hf (λo e b7 h=>by have:=(a8.cell o e b7).2.1;omega);have h4:al (ds.take (j+1)=ds.take j++[d]):=(by unfold al;rw[bu,hd];rfl);have a9:=zg3 a8 b8 d9;clear hd b1 a8;obtain⟨W1,b9,Z,q1⟩:=zy wr (aj d.vals 48);have d0:=zDb d.aa d.ac l W1 (hA.no Z (λ_=>id)) (by omega);have z9:=(DevB.of q1).c9;rw[<-a9.2.1]at d0;have i8:=hf.size;have i9:=Z.size;have i3:=zC q1;have j0:=zh b8;unfold ay at b9;clear b8 d9 hA;go_upto_region 5 with(fail)
   rw[<-b9];clear b9 c0 c1 c2 c3 c4 c5 c6 c7 c8 c9;go_wp2_with fail;apply d0.mono;rintro e w2 ⟨⟨J,U,rfl,e0,e4,u⟩,a2⟩;have q2:=a2.heap q1 id;have z9:w2 ⟨wr,9,D⟩=f (ag d.aa d.an d.ac):=(DevB.of q2).c9;have y9:=zD q2 9;have q3:(w2.setCell ⟨wr,9,D⟩ (ag J d.an U)).heap[(wr:B)]?=f (aj (ay { d with aa:=J,ac:=U }) 48):=zE q2 9 _;have f3:Fr (Is (wr:B)) w2 (w2.setCell ⟨wr,9,D⟩ (ag J d.an U)):=bt (ba _ _) _;obtain⟨Y,d1⟩:=ε (w2.setCell ⟨wr,9,D⟩ (ag J d.an U))
   rw[<-d1]at q3 f3;have s2:=a2.size;have s3:=f3.size;have N:Fr (λb=>(wr:B)<=b) wr Y:=((Z.step a2 zi).mono zn).step f3 (λb _ h=>by omega);have d2:=N.heap g3 (λh=>by have:=zC g3;omega);have h5:=N.heap g2 (λh=>by have:=zC g2;omega);have A:=zG z N (λb hb h=>by have:=ze z hb;omega);have e5:Cop w Y ((w:B)+2) (ds.take j) O:=(hC.fr (Z.step a2 zi) (λ_ _ _ _=>id)).fr f3 (λx hx o e h=>by
    obtain⟨y,_,hy⟩:=hC.mem hx;obtain⟨cs,hc⟩:=hy.typ o e;have:=zC hc;omega)
   have e6:=e0.fr f3 (λo e _ h=>by have:=u o e;omega);have e7:=e4.fr f3 (λo e h=>by have:=u o e;omega);have i4:(w:B)+2<=(wr:B):=zC g3;have h6:al (Cop1 w Y ((w:B)+2) d { d with aa:=J,ac:=U }):=⟨rfl,⟨l,a9.1,e6,a9.2.1,a9.2.2⟩,e7,λo e=>by have:=u o e;omega⟩
   have j1:(O:B)<=1000:=(by have:=Hn.out;omega);have h7:=zh e5;have d3:=zh A;have Hf:=zh (hf.step N (λb _ h=>by omega));have e8:=λb (h:(bh V O X).ownBlock=f b)=>zQ A h
   have d4:al (∀ b,(bh V O X).ownBlock=f b->(w:B)+2<=b):=e8;clear e5 hC z hf N e6 e7 e0 e4 u f3 a2 Z q1 q2 g3 g2 d0;go_upto_region 6 with(fail)
   rw[<-d1];clear d1 z9 y9 e8;have c3:Y ⟨(w:B)+1,0,D⟩=f (ag V O X):=zB d2 0;obtain⟨z0,z1,z2,z3,z4,z5,z6,z7,z8,z9⟩:=DevB.of q3;have G3:=zh d2;clear d2 q3;go_wp2_with (at_builtin;refine wpList_append_own _ rfl _ _ 37 rfl ((w:B)+2) 48 i0 (ax #[ai af 0,ai af 0,bm,bm,bm,bm,bm,ai af 0,ai af 0,ag D 0 0]) 10 136 ex g4 g5 g6 g8 rfl (by decide) _ _ _ rfl (A.alloc _) ⟨Y,0,D⟩ 1 1 (ay { d with aa:=J,ac:=U }).toList rfl rfl (zl _ (ay { d with aa:=J,ac:=U }) _ rfl) (zAd _) (by unfold az;omega) (by omega) (by first|omega|(simp;done)|(simp;omega)) ?_;intro v' w6 F I _;obtain⟨a4,a5,rfl⟩:=zI F;have k6:=(Fr.of_grown I).heap (((ba No Y).alloc _).heap G3.out id) (λh=>by have:=d4.out _ h;omega);have c6:w6 ⟨(w:B)+1,0,D⟩=f (ag V O X):=zB k6 0;have f6:w6.frozen? ⟨(w:B)+1,0,D⟩=false:=zD k6 0)
   have d5:Fr No Y (Y.alloc (aj (ay { d with aa:=J,ac:=U }) 48)):=(ba _ _).alloc _;have b4:=d3.alloc (aj (ay { d with aa:=J,ac:=U }) 48);have b0:Fr (λb=>(bh V O X).ownBlock=f b) (Y.alloc (aj (ay { d with aa:=J,ac:=U }) 48)) w6:=Fr.of_grown I;have d6:Cop w w6 ((w:B)+2) (ds.take (j+1)) (O++[{ d with aa:=J,ac:=U }]):=by
    rw[h4];exact((h7.snoc h6).fr d5 (λ_ _ _ _=>id)).own b4 b0
   have f7:Fr (Is ((w:B)+1)) w6 (w6.setCell ⟨(w:B)+1,0,D⟩ (ag a4 ((O:B)+1) a5)):=bt (ba _ _) _;have k7:=zE k6 0 (ag a4 ((O:B)+1) a5);have e9:Cop w (w6.setCell ⟨(w:B)+1,0,D⟩ (ag a4 ((O:B)+1) a5)) ((w:B)+2) (ds.take (j+1)) (O++[{ d with aa:=J,ac:=U }]):=d6.fr f7 (λx hx o e h=>by
    obtain⟨y,_,hy⟩:=d6.mem hx;have:=hy.fresh o e;omega)
   have a6:=zG F f7 (λb hb h=>by have:=zQ F hb;omega);have g7:=f7.heap (b0.heap (((ba No Y).alloc _).heap h5 id) (λh=>by have:=d4.out _ h;omega)) (λh=>by omega);have g0:Fr (From (w:B)) w (w6.setCell ⟨(w:B)+1,0,D⟩ (ag a4 ((O:B)+1) a5)):=((Hf.step d5 zn).step b0 (λb _ h=>by have:=d4.out _ h;omega)).step f7 (λb _ h=>by omega);have HF:=zg5 a6 e9 g0 k7 g7;clear F d6 I b0 b4 d5 A f7 k7 e9 a6 g7 g0 k6 c6 f6 z0 z1 z2 z3 z4 z5 z6 z7 z8 z9;go_roundw;case rel=>exact⟨j+1,O++[{ d with aa:=J,ac:=U }],a4,a5,by omega,by simp;omega,by go_num,by rw[ct];exact HF.2.2.2.1,HF.2.2.2.2,by rw[ct,zCt];exact HF.1,HF.2.1,HF.2.2.1⟩
   case measure=>simp[bd];omega
  .obtain rfl:j=(ds:B):=by omega
   rw[bs]at hC;obtain⟨a3,c3,hv,hD,a7⟩:=dg z;have g1:=zAI z;injection hv with e1 e2 e3
   subst e1;subst e3;have k3:wr ⟨(w:B)+1,0,D⟩=f (ag V O X):=zB g3 0;have k2:wr ⟨w,0,D⟩=f (ag D 0 0):=zB g2 0;have f2:=zD g2 0;have fz:Fr (Is (w:B)) wr (wr.setCell ⟨w,0,D⟩ (ag V O X)):=bt (ba _ _) _;have kz:=zE g2 0 (ag V O X);have h8:(wr.setCell ⟨w,0,D⟩ (ag V O X)) ⟨w,0,D⟩=f (ag V O X):=zB kz 0;have H:=zh (ce (hD.fr fz (λo e _ h=>by have:=a7 o e;omega)) (ce (g1.fr fz (λo e h=>by have:=a7 o e;omega)) (ce a7 (ce (hC.fr fz (λx hx o e h=>by
    obtain⟨y,_,hy⟩:=hC.mem hx;have:=hy.fresh o e;omega)) ((hf.step fz (λb _ h=>by omega)).mono (T:=No) (λb hb h=>by omega))))))
   clear z hC hf hD g1 kz fz g3 g2;go_wp2_with fail;refine cl (v:=ax #[ag V O X]) (by simp[results,Tryz.results8,go_sem,h8]) rfl ?_;exact⟨⟨V,X,O,rfl,H.1,H.2.1,λo e=>by have:=H.2.2.1 o e;omega,⟨H.2.2.2.1.len,λi d d' h1 h2=>by
    obtain⟨q1,q2,q3,q4⟩:=H.2.2.2.1.el i d d' h1 h2;exact⟨q1,q2,q3,λo e=>by have:=q4 o e;omega⟩⟩⟩,H.2.2.2.2⟩
theorem KSt.no {y:B}{u:B}{F:B}{I:ah}(h:KSt w y o a u ds z A F I)(v:Fr No w w'):KSt w' y o a u ds z A F I:=
 ⟨v.heap h.blk id,h.tr.no v,h.ta.fr v (λ_ _=>id),λd J=>(h.te d J).fr v (λ_ _=>id),h.own.elim λN O=>⟨N,zG O v (λ_ _=>id)⟩,h.nm⟩
theorem KSt.new (w:am)(h:B):KSt (w.alloc (aj (kcs D 0 0 D 0 0 0) 59)) (w:B) h D 0 [] D 0 0 0:=
 ⟨zF _ _,Tr.nil _ _,BlkT.none _ _,λd o=>by simp at o,⟨[],da _ _ _ _⟩,λd o=>by simp at o⟩
theorem zOY {w':am}{J u:B}{v:B}{O U:B}{V:ah}(h:KSt w J u a v ds N O U V){y:aq au}{A:B}{o:ab Dev}
  (X:Devs w' y A o) (Y:∀ F,y=f F->(w:B)<=F.block) (Z:Cop w w' (w:B) ds o) (z:TreeWf o):Tr w' (w:B) y A o:=
 Z.tr (λd I=>⟨(h.tr.el d I).sz,(h.tr.el d I).drv⟩) X z Y (bo _)
def zX : ae:=⟨#[98,108,111,99,107]⟩
def zM : ae:=⟨#[99,111,110,116,101,110,116]⟩
theorem zQB (nm c:ae)(o:ah)(w:am)(hc:c.toList.isEmpty=ak)(a2:c.size<=az):
  ar ap 21 #[nm,o,c] w λe w'=>(∃ b,e=.returned (ax (ocs 1 () ⟨0,0,(),nm,zX,(),(),2,o,f ⟨b,0,D⟩,1,1⟩ () ()))/\Atts w' (f ⟨b,0,D⟩) 1 [(zM,c)]/\BlkT w' (f ⟨b,0,D⟩) 78/\(w:B)<=b)/\Fr No w w':=by
 obtain⟨W0,z,f0,a0⟩:=zy w (aj (ocs 0 () ⟨0,0,(),(),(),(),(),0,0,D,0,0⟩ () ()) 72);obtain⟨W1,u,Z,-⟩:=zy W0 (aj (ay ⟨0,0,(),nm,zX,(),(),2,o,D,0,0⟩) 48);obtain⟨W2,A,O,-⟩:=zy W1 (aj #[zM,c] 78);obtain⟨F,y⟩:=ε (W2.setCell ⟨(w:B)+1,9,D⟩ (ag (f ⟨(w:B)+2,0,D⟩) 1 1))
 have U:(W0:B)=(w:B)+1:=by rw[z];simp
 have s1:(W1:B)=(w:B)+2:=by rw[u,World.size_alloc,U]
 have V:Fr (Is ((w:B)+1)) W2 F:=by rw[y];exact bt (ba _ _) _
 have d1:W1.heap[(w:B)+1]?=f (aj (ay ⟨0,0,(),nm,zX,(),(),2,o,D,0,0⟩) 48):=by rw[u,<-U];exact zF _ _
 have e2:W2.heap[(w:B)+2]?=f (aj #[zM,c] 78):=by rw[A,<-s1];exact zF _ _
 have d2:=O.heap d1 id;have d3:F.heap[(w:B)+1]?=f (aj (ay ⟨0,0,(),nm,zX,(),(),2,o,f ⟨(w:B)+2,0,D⟩,1,1⟩) 48):=by rw[y];exact zE d2 9 _
 have e3:=V.heap e2 (λh=>by omega);have J:=V.heap (O.heap (Z.heap a0 id) id) (λh=>by omega);have z9:W2 ⟨(w:B)+1,9,D⟩=f (ag D 0 0):=(DevB.of d2).c9;have y9:=zD d2 9;have HF:al (∀ X,Fr (Is (w:B)) F X->(∃ b,bp (ocs 1 () ⟨0,0,(),nm,zX,(),(),2,o,f ⟨(w:B)+2,0,D⟩,1,1⟩ () ())=bp (ocs 1 () ⟨0,0,(),nm,zX,(),(),2,o,f ⟨b,0,D⟩,1,1⟩ () ())/\Atts X (f ⟨b,0,D⟩) 1 [(zM,c)]/\BlkT X (f ⟨b,0,D⟩) 78/\(w:B)<=b)/\Fr No w X):=by
  intro X hf;have e4:=hf.heap e3 (λh=>by omega);refine⟨⟨(w:B)+2,rfl,⟨bo _,by unfold az;omega,(λe=>by cases e),(λx hx=>by simp at hx;subst hx;exact⟨(by decide:zM.size<=az),a2⟩),λad e _=>by
   cases e;refine⟨rfl,zC e4,λi x N=>?_⟩;rcases i with _|i
   .simp at N;subst N;exact⟨zB e4 0,zB e4 1⟩
   .simp at N⟩,λad e=>by cases e;exact⟨_,e4⟩,by omega⟩,?_⟩
  exact((f0.step Z zi).step ((O.mono (T:=Is ((w:B)+1)) zn).step V zi) (λb I h=>by omega)).step hf (λb I h=>by omega)
 have H:=zg2 d3 J;have H0:=zh U;have S1:=zh s1;have HX:=zg4 d3 e3 J ((f0.step Z zi).step ((O.mono (T:=Is ((w:B)+1)) zn).step V zi) (λb I h=>by omega));unfold ay at u;unfold ocs at z;rw[<-U]at y z9 y9;unfold zX at u;unfold zM at A;rw[<-s1]at y;rw[A]at y z9 y9;dsimp only at z u;clear a0 d1 e2 d2 d3 e3 J f0 Z O V U s1;go_enter Tryz.func21,Tryz.ntmps21;go_upto_region 1 with(fail)
 rw[<-z];clear z;go_upto_region 2 with(fail)
 rw[<-u];clear u;go_upto_region 4 with(fail)
 rw[<-y];clear y A z9 y9 HX;have D3:=H.1;rw[<-H0]at D3;obtain⟨c0,c1,c2,c3,c4,c5,c6,c7,c8,c9⟩:=DevB.of D3;have J:=H.2;clear D3;have N:(Tryz.prog.info? 72).map (·.size)=f 14:=by kernel_rfl
 have hu:=Tryz.underlying72;have A3:=zh J;clear J;have hg:=db F (w:B) _ #[ai af 1,(),ai af 0,ai af 0,(),nm,zX,(),(),ai af 2,o,ag (f ⟨(w:B)+2,0,D⟩) 1 1,(),()] 72 (0,0) A3;have HG:=zh hg;clear hg;have Y:Array.all (#[ai af 1,(),ai af 0,ai af 0,(),nm,zX,(),(),ai af 2,o,ag (f ⟨(w:B)+2,0,D⟩) 1 1,(),()]:bj bi) (·.oneCell')=true:=by simp[Value.oneCell']
 go_wp2_with (refine wpList_store_row rfl 72 _ _ rfl (w:B) #[ai af 1,(),ai af 0,ai af 0,(),nm,zX,(),(),ai af 2,o,ag (f ⟨(w:B)+2,0,D⟩) 1 1,(),()] rfl rfl 72 _ A3 N rfl Y ?_)
 refine cl (v:=ax #[ai af 1,(),ai af 0,ai af 0,(),nm,zX,(),(),ai af 2,o,ag (f ⟨(w:B)+2,0,D⟩) 1 1,(),()]) (results_cell_row rfl _ _ (w:B) 72 _ (0,0) _ rfl HG hu rfl N) rfl ?_;obtain⟨⟨b,I⟩,h2⟩:=HF.out (F.setRow (w:B) #[ai af 1,(),ai af 0,ai af 0,(),nm,zX,(),(),ai af 2,o,ag (f ⟨(w:B)+2,0,D⟩) 1 1,(),()]) ⟨rfl,rfl,rfl,by simp,λb _ I=>setRow_other _ _ _ _ (λe=>I e)⟩;exact⟨⟨b,by rw[<-I.1];rfl,I.2⟩,h2⟩
def cAtt (c:ae):ab (ae×ae):=if c.toList.isEmpty=ao then []else [(zM,c)]
theorem zC0 (c:ae):(cAtt c).length<=1:=by unfold cAtt;split<;>simp
theorem zPk (w:am):ar ap 194 #[ag D 0 0,ai af 0] w λe w'=>e=.returned (ag D 0 0)/\w'=w:=by
 go_enter et,ew;go_wp2;go_ret;exact⟨rfl,rfl⟩
theorem zPj (w:am):ar ap 194 #[ag D 0 0,ai af 1] w λe w'=>
  (∃ g,e=.returned (ag (f ⟨w,0,D⟩) 0 g)/\w'.ownsRow (w:B) 78 2 (ag (f ⟨w,0,D⟩) 0 g) 0 [])/\Fr No w w':=by
 obtain⟨z,F,A,I,J⟩:=cn infoA;have o:(Builtin.firstCells z.size 0 (ag D 0 0)).run ap w.drew=.ok #[] w.drew:=run_firstCells_none w.drew z.size 0 0 0;have h:=Lib.run_append_grow_zeros (P:=ap) w 46 3 46 78 z _ af af ck Tryz.underlying3 F A D 0 0 [] o 1 (by omega) (by omega) (by omega) (by omega) (by omega) (growslice_fits (by omega) (by omega));obtain⟨u,v⟩:=ε (grownCap w 1 0 78)
 have O:1<=u:=by rw[v];exact grownCap_ge w _ _ _
 have y:u<=maxLen:=by rw[v];exact grownCap_le_maxLen w _ _ _ (by unfold az;omega)
 rw[ep,<-v]at h;have U:u<=9223372036854775807:=by unfold az at y;exact y
 have N:=zh y;clear v o y;go_enter et,ew;go_wp2_with (at_builtin;refine Lib.wpList_append_run _ rfl _ _ _ _ rfl _ _ rfl rfl _ _ h ?_)
 go_ret;refine⟨⟨u,rfl,rfl,.inr ⟨(w:B),u,_,rfl,bo _,zF w.drew _,cy _,N,?_,rfl⟩⟩,((ba No w).drewN _).alloc _⟩;simp[size_zeroCells];omega
theorem zNs (b c1 c2:B)(a1 a2:aq au)(o v:ab (ae×ae))(w:am)(hb:w.heap[b]?=f (aj #[ag a1 o c1,ag a2 v c2] 46))(X:Atts w a1 c1 o)(Y:Atts w a2 c2 v)(hn:(o:B)+(v:B)<=1):
  ar ap 144 #[ag (f ⟨b,0,D⟩) 2 2] w λe w'=>(∃ a' c',e=.returned (ag a' (o++v).length c')/\Atts w' a' c' (o++v)/\BlkT w' a' 78/\∀ ad,a'=f ad->(w:B)<=ad.block)/\Fr No w w':=by
 obtain⟨i0,hi,a5,a6,a7⟩:=cn infoA;obtain⟨q0,q1⟩:=cl2 hb;have HB:=zg3 hb X Y;have HN:=zh hn;have b4:(o:B)<=9223372036854775807:=by omega
 have b5:(v:B)<=9223372036854775807:=by omega
 obtain⟨N,hN⟩:=ε ((o:B)+(v:B))
 have a8:=zh hN;clear hb X Y hn hN;go_enter Tryz.func144,Tryz.ntmps144;go_wp2_with fail;go_loopw [3,11] (λx y wr=>wr=w/\((y=ai af 0/\x=ai af 0)\/(y=ai af 1/\x=ai af ((o:B):ah))\/(y=ai af 2/\x=ai af (N:ah)))) (λ_ y _=>(2-bd y).toNat);case atStart=>exact⟨rfl,.inl ⟨rfl,rfl⟩⟩
 case round=>
  obtain⟨rfl,⟨rfl,rfl⟩|⟨rfl,rfl⟩|⟨rfl,rfl⟩⟩:=hrel
  .have b0:¬ (((o:B):ah)<0):=by omega
   go_wp2;go_roundw;case rel=>exact⟨trivial,.inr (.inl ⟨by go_num,by go_num⟩)⟩
   case measure=>simp[bd]
  .have b0:¬ ((N:ah)<0):=by omega
   have hw:wrap64 (((o:B):ah)+((v:B):ah))=(N:ah):=(by have:=HN.out;have:=a8.out;unfold wrap64;omega);go_wp2;go_roundw;case rel=>exact⟨trivial,.inr (.inr ⟨by go_num,by go_num⟩)⟩
   case measure=>simp[bd]
  .clear q0 q1;obtain⟨A,rfl⟩:=ε wr
   have hg:ar ap 194 #[ag D 0 0,ai af (N:ah)] A λe w'=>(∃ a c,e=.returned (ag a 0 c)/\w'.ownsRow (A:B) 78 2 (ag a 0 c) 0 [])/\Fr No A w':=by
    have X:=a8.out;have Y:=HN.out;rcases(by omega:N=0\/N=1)with h|h
    .subst h;exact(zPk A).mono λe w' ⟨X,Y⟩=>by subst Y;exact⟨⟨D,0,X,da _ _ _ _⟩,ba _ _⟩
    .subst h;exact(zPj A).mono λe w' ⟨⟨g,X,Y⟩,h3⟩=>⟨⟨_,g,X,Y⟩,h3⟩
   go_wp2_with fail;apply hg.mono;rintro e w1 ⟨⟨ga,gc,rfl,V⟩,a9⟩;have HO:=zh V;have b1:=zh a9;clear V a9 hg;go_wp2_with fail;go_loopw [6,27] (λx y wr=>∃ (k:B) (a:aq au) (c:B) (l:ab (ae×ae)),y=ai af (k:ah)/\x=ag a l c/\al (wr.ownsRow (A:B) 78 2 (ag a l c) (l:B) (aflat l))/\al (Fr No A wr)/\((k=0/\l=[])\/(k=1/\o=l)\/(k=2/\l=o++v))) (λ_ y _=>(2-bd y).toNat);case atStart=>exact⟨0,ga,gc,[],rfl,rfl,HO,b1,.inl ⟨rfl,rfl⟩⟩
   case round=>
    obtain⟨k,a,c,l,rfl,rfl,I,z,hk⟩:=hrel;rcases hk with⟨rfl,rfl⟩|⟨rfl,rfl⟩|⟨rfl,rfl⟩
    .have J:=z.heap HB.1 id;have q:wr ⟨b,0,D⟩=f (ag a1 o c1):=zB J 0;have U:=HB.2.1.no z (λ_=>id);have b2:=HN.out;have b3:=z.size;clear J;go_wp2_with (at_builtin;(refine zAC rfl _ _ 46 rfl (A:B) 78 i0 (ax #[bm,bm]) 2 32 ck hi a5 a6 a7 rfl (by decide) _ _ _ rfl I.out a1 (o:B) _ (aflat o) rfl (λe=>⟨by rw[(U.isNil e).1];rfl,(U.isNil e).2⟩) (zBx o) (λZ e=>U.src Z e) (zBw o) (by unfold az;first|omega|(simp;omega)) (by first|omega|(simp;omega)) (by first|omega|(simp;done)|(simp;omega)) ?_;intro v' w3 u O;obtain⟨av,cv,rfl⟩:=zI u))
     have a3:al (Fr No A w3):=z.step (zFB I O) (λb hb h=>by omega);have a4:al (w3.ownsRow (A:B) 78 2 (ag av (o).length cv) (o).length (aflat (o))):=(by unfold al;simpa [aflat]using u);clear u O U q;go_wp2;go_roundw;case rel=>exact⟨1,av,cv,o,by go_num,by simp,a4,a3,.inr (.inl ⟨rfl,rfl⟩)⟩
     case measure=>simp[bd]
    .have J:=z.heap HB.1 id;have q:wr ⟨b,1,D⟩=f (ag a2 v c2):=zB J 1;have U:=HB.2.2.no z (λ_=>id);have b2:=HN.out;have b3:=z.size;clear J;go_wp2_with (at_builtin;(refine zAC rfl _ _ 46 rfl (A:B) 78 i0 (ax #[bm,bm]) 2 32 ck hi a5 a6 a7 rfl (by decide) _ _ _ rfl I.out a2 (v:B) _ (aflat v) rfl (λe=>⟨by rw[(U.isNil e).1];rfl,(U.isNil e).2⟩) (zBx v) (λZ e=>U.src Z e) (zBw v) (by unfold az;first|omega|(simp;omega)) (by first|omega|(simp;omega)) (by first|omega|(simp;done)|(simp;omega)) ?_;intro v' w3 u O;obtain⟨av,cv,rfl⟩:=zI u))
     have a3:al (Fr No A w3):=z.step (zFB I O) (λb hb h=>by omega);have a4:al (w3.ownsRow (A:B) 78 2 (ag av (o++v).length cv) (o++v).length (aflat (o++v))):=(by unfold al;simpa [aflat]using u);clear u O U q;go_wp2;go_roundw;case rel=>exact⟨2,av,cv,o++v,by go_num,by simp,a4,a3,.inr (.inr ⟨rfl,rfl⟩)⟩
     case measure=>simp[bd]
    .have hw:∀ x∈o++v,x.1.size<=az/\x.2.size<=maxLen:=λx hx=>(List.mem_append.1 hx).elim (HB.2.1.wf x) (HB.2.2.wf x)
     obtain⟨a',c',he,hA,F⟩:=df I hw;have HR:=zg4 he hA (zAI I) F;clear he hA F hw;go_wp2;go_ret;refine⟨⟨a,c,rfl,?_,HR.2.2.1,?_⟩,z⟩;·have h:=HR.1;cases h;exact HR.2.1
     .have h:=HR.1;cases h;exact HR.2.2.2
theorem zOn (x y z:ae)(w:am):ar ap 142 #[ax #[x,y],z] w λe w'=>e=.returned (ai af (dh x.data.toList z.data.toList))/\Fr No w w':=by
 have h:Fr No w (w.alloc (aj #[x,y] 78)):=(ba _ _).alloc _;have o:=zh h;clear h;go_enter Tryz.func142,Tryz.ntmps142;go_wp2_with fail;apply (Tryz.strings_Compare x z _).mono;rintro e u ⟨rfl,rfl⟩;go_wp2;go_ret;exact⟨rfl,o⟩
theorem zMP (a:aq au)(z:B)(c:ae)(w:am)(A:Atts w a z (cAtt c)):
  ar ap 141 #[ag a (cAtt c).length z,zM,.func (.func 142) #[] #[]] w λe w'=>e=.returned (.tuple #[ai af 0,.bool (!c.toList.isEmpty)])/\Fr No w w':=by
 have V:dh zM.data.toList zM.data.toList=0:=by decide
 cases hc:c.toList.isEmpty with
 | true=>
  have e:cAtt c=[]:=by unfold cAtt;rw[if_pos hc]
  rw[e];go_enter es,eu;go_wp2_with fail;go_loopw [9,10] (λx y wr=>wr=w/\x=ai af 0/\y=ai af 0) (λ_ _ _=>0);case atStart=>exact⟨rfl,rfl,rfl⟩
  case round=>
   obtain⟨rfl,rfl,rfl⟩:=hrel;go_wp2;go_ret2;exact⟨rfl,ba _ _⟩
 | false=>
  have e:cAtt c=[(zM,c)]:=by unfold cAtt;rw[hc];rfl
  rw[e]at A ⊢;obtain⟨b,X,x,y,rfl,Y,-,-,F,I⟩:=A.at (k:=0) (by simp);cases Y;simp only[Nat.zero_mul,eh]at F I;have u:=zOn zM c zM;rw[V]at u;have Z:IntKind.u64.wrap ((0:ah)+1)=1:=by decide
  clear A V e;go_enter es,eu;go_wp2_with fail;go_loopw [9,10] (λx y wr=>Fr No w wr/\x=ai af 0/\(y=ai af 1\/y=ai af 0)) (λ_ y _=>(bd y).toNat);case atStart=>exact⟨ba _ _,rfl,.inl rfl⟩
  case round=>
   obtain⟨o,rfl,rfl|rfl⟩:=hrel
   .have J:=o.cell F id;have N:=o.cell I id;have O:=zh o;clear o;go_wp2_with fail;apply (u _).mono;rintro e U ⟨rfl,h⟩;have v:al (Fr No w U):=O.step h zi;clear J N h;go_wp2;go_roundw;case rel=>exact⟨v,rfl,.inr rfl⟩
    case measure=>simp[bd]
   .have J:=o.cell F id;have N:=o.cell I id;have O:=zh o;clear o;go_wp2_with fail;apply (u _).mono;rintro e U ⟨rfl,h⟩;have v:al (Fr No w U):=O.step h zi;clear J N h;go_wp2;go_ret2;exact⟨rfl,v⟩
theorem Atts.emp (w:am)(h:a=D->o=0)(v:o<=az):Atts w a o []:=⟨cy _,v,λe=>⟨rfl,h e⟩,by simp,λy e u=>absurd rfl u⟩
def SetR (w:am)(v:ae)(e:Ending)(w':am):Prop:=(∃ a' c',e=.returned (ag a' (cAtt v).length c')/\Atts w' a' c' (cAtt v)/\BlkT w' a' 78/\∀ ad,a'=f ad->(w:B)<=ad.block)/\Fr No w w'
theorem zKj {v:ae}{u:aq au}(A:Fr No w W)(F:Atts W a1 c1 (cAtt v))(I:u=D->o=0)(Z:o<=9223372036854775807):
  ar ap 144 #[ag (f ⟨W,0,D⟩) 2 2] (W.alloc (aj #[ag a1 (cAtt v).length c1,ag u 0 o] 46)) λe w'=>SetR w v e w':=by
 have y:Fr No W (W.alloc (aj #[ag a1 (cAtt v).length c1,ag u 0 o] 46)):=(ba _ _).alloc _;have h:=zNs (W:B) c1 o a1 u (cAtt v) [] _ (zF W (aj #[ag a1 (cAtt v).length c1,ag u ([]:ab (ae×ae)).length o] 46)) (F.no y (λ_=>id)) (Atts.emp _ I (by unfold az;omega)) (by have:=zC0 v;simp;omega);rw[List.append_nil]at h;refine h.mono λe w' ⟨⟨J,N,O,U,V,z⟩,X⟩=>⟨⟨J,N,O,U,V,λY e=>bv (bv A.size y.size) (z Y e)⟩,(A.step y zi).step X zi⟩
theorem zMi {v:ae}{a1 u:aq au}(z:Fr No w W)(y:cAtt v=[])(A:u=D->o=0)(F:o<=9223372036854775807):
  ar ap 144 #[ag (f ⟨W,0,D⟩) 2 2] (W.alloc (aj #[ag a1 0 0,ag u 0 o] 46)) λe w'=>SetR w v e w':=by
 have h:=zKj (v:=v) (a1:=a1) (c1:=0) z (by rw[y];exact Atts.emp _ (λ_=>rfl) (cy _)) A F;rw[y]at h;exact h
theorem zMh {y:am}{v:ae}{u:B}(J:Fr No w y)(N:v.size<=az)(A:W.ownsRow o 78 2 (ag a1 1 c1) 1 ([]++aflat [(zM,v)])/\y.grownBy W D)(F:cAtt v=[(zM,v)])(O:z=D->u=0)(U:u<=9223372036854775807):
  ar ap 144 #[ag (f ⟨W,0,D⟩) 2 2] (W.alloc (aj #[ag a1 1 c1,ag z 0 u] 46)) λe w'=>SetR w v e w':=by
 obtain⟨Y,Z,V,X,_⟩:=df (l:=[(zM,v)]) A.1 (λx I=>by simp at I;subst I;exact⟨(by decide:zM.size<=az),N⟩);cases V;have h:=zKj (v:=v) (a1:=a1) (c1:=c1) (J.step (Fr.of_grown_none A.2) zi) (by rw[F];exact X) O U;rw[F]at h;exact h
theorem zPS (a:aq au)(o:B)(c v:ae)(w:am)(I:Atts w a o (cAtt c))(hv:v.size<=az):
  ar ap 91 #[ag a (cAtt c).length o,zM,v] w λe w'=>SetR w v e w':=by
 obtain⟨i0,hi,a4,a5,a6⟩:=cn infoA;have hb:=zMP a o c w I;have b2:o<=9223372036854775807:=by have:=I.max;unfold az at this;exact this
 have HA:al ((a=D->o=0)/\((!c.toList.isEmpty)=ao->∃ b z,a=f ⟨b,z,D⟩/\1<=o)):=⟨λe=>(I.isNil e).2,λh=>by
  have e:cAtt c=[(zM,c)]:=by unfold cAtt;simp at h;simp[h]
  rw[e]at I;obtain⟨b,z,x,y,h1,_⟩:=I.at (k:=0) (by simp);exact⟨b,z,h1,I.len⟩⟩
 have HV:=zh hv;obtain⟨F,hF⟩:=ε (!c.toList.isEmpty)
 obtain⟨n,hn⟩:=ε ((cAtt c).length)
 have HN:al (n=if F=ao then 1 else 0):=by
  unfold al;rw[hn,hF];unfold cAtt;cases c.toList.isEmpty<;>rfl
 rw[<-hn,<-hF]at hb;rw[<-hF]at HA;rw[<-hn];clear I hv hn hF;have HC:al (v.toList.isEmpty=ak->cAtt v=[(zM,v)]):=λh=>by unfold cAtt;simp[h]
 have a7:al (v.toList.isEmpty=ao->cAtt v=[]):=λh=>by unfold cAtt;simp[h]
 have a8:(F=ak/\n=0/\a=D/\o=0)\/(F=ak/\n=0/\∃ J,a=f J)\/(F=ao/\n=1/\(∃ J,a=f J)/\1<=o):=by
  cases F with
  | true=>obtain⟨b,z,e,h⟩:=HA.2 rfl;exact .inr (.inr ⟨rfl,HN,⟨_,e⟩,h⟩)
  | false=>cases a with
   | none=>exact .inl ⟨rfl,HN,rfl,HA.1 rfl⟩
   | some J=>exact .inr (.inl ⟨rfl,HN,J,rfl⟩)
 clear HA HN;rcases hve:v.toList.isEmpty with _|_
 all_goals
  have N:=zh hve;rcases a8 with⟨rfl,rfl,rfl,rfl⟩|⟨rfl,rfl,⟨J,rfl⟩⟩|⟨rfl,rfl,⟨⟨b,z,sp⟩,rfl⟩,a9⟩
 all_goals
  have b3:¬ ((0:ah)<0):=by omega
  try (have a9:¬ ((o:ah)<0):=by omega)
  try (have b4:¬ ((o:ah)<1):=by omega)
  go_enter Tryz.func91,Tryz.ntmps91;go_wp2_with fail;apply hb.mono;rintro e w1 ⟨rfl,O⟩;have b0:=zh O;clear hb O;go_wp2_with fail;refine zO No [(0,ak),(1,ak),(2,ak),(3,ak),(4,ak),(5,ak),(6,ak),(7,ak),(8,ak)] (λw2 U=>?_);have V:al (Fr No w w2):=b0.step U zi;clear U;(repeat apply zR rfl rfl rfl;intro K hK;go_big_quiet_op;go_big_quiet_on);apply zb;have b1:al (Fr No w (w2.alloc (aj #[zM,v] 78))):=V.step ((ba _ _).alloc _) zi;go_wp2_with (at_builtin;refine wpList_append_grows _ rfl _ _ 46 rfl 78 i0 _ 2 32 ck hi a4 a5 a6 rfl (by decide) _ 0 _ [] rfl (λ_=>⟨rfl,rfl⟩) rfl (λ_ _ j u h=>by simp at h) ⟨w2,0,D⟩ 1 1 (aflat [(zM,v)]) rfl rfl (zl _ #[zM,v] _ rfl) (zBw _) (by omega) (by unfold az;omega) (by omega) ?_;intro v' w3 A X;obtain⟨av,cv,rfl⟩:=zI A;have HO:=zg2 A X;clear A X)
  all_goals
   refine(by first
    | exact zMh b1.out HV.out HO.out (HC.out N.out) (by first|(intro _;rfl)|(intro e;cases e)) (by omega)
    | exact zMi V.out (a7.out N.out) (by first|(intro _;rfl)|(intro e;cases e)) (by omega):ar _ _ _ _ λe w'=>SetR w v e w').mono ?_
   rintro e w4 ⟨⟨a',c',rfl,Y,Z,a2⟩,a3⟩;have HR:=zg4 Y Z a2 a3;clear Y Z a2 a3;go_wp2;go_ret;exact⟨⟨a',c',rfl,HR.1,HR.2.1,HR.2.2.1⟩,HR.2.2.2⟩
end Go.Proofs.YtjohgekljmhheaaGreatDoor
