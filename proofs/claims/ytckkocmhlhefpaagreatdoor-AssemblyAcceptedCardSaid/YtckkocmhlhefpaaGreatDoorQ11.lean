import Derived.Test.YtckkocmhlhefpaaGreatDoorQ10
namespace Go.Proofs.YtckkocmhlhefpaaGreatDoor
open Go.RowKit Go.Maps
set_option linter.unusedVariables false
set_option maxRecDepth 100000
set_option maxHeartbeats 8000000
open Fr renaming refl->ag,setAt->bm,of_grown->bp
open Go renaming World->ac,Act->ai,Addr->am,Oper->ar,Value->au,Program->be,ready_mono->bt,wpList_append_own_at->bu,wpOp_mono->bv
open Go.Code renaming region->bx
open Go.Proofs renaming intOf->az
open Go.Proofs.Tryz renaming prog->bg,underlying81->cl
open Go.Region renaming ready->ax,binds->bf,noSelect->br,Mode->ch,free_spec->ci,noSelect_spec->cj,wanted->ck
open Go.RowKit renaming Hid->ae
open Go.Value renaming slice->ah
open Go.World renaming size_alloc->av,ownsRow_nil->bs
open IntKind renaming i64->a0
open Obj renaming cells->aa
open OnlyN renaming mk->ba
open Value renaming int->a1,string->aj,slice->an,agg->ay,pointer->bj
open _root_ renaming Nat->E,Int->af,Option->ak,List->ao,Array->aq,Bool->aw,beq_iff_eq->bh,ByteArray->bi
open _root_.Array renaming replicate->bw
open _root_.Bool renaming true->ab,false->bc,and_eq_true->bd
open _root_.ByteArray renaming empty->ap
open _root_.List renaming getElem?_toArray->bn,length_append->bo,mem_of_getElem?->bq,filter_append->bz,take_add_one->cd,take_length->cf
open _root_.Nat renaming lt_of_lt_of_le->cg
open _root_.Option renaming some->B,none->f
variable{i n:E}{v:au}{l:ao ar}{T:E->Prop}{a:ai}{w:ac}{o:ar}{Q:Exit->ai->ac->Prop}
section
variable {P:be}{ops:aq ar}{Q:Exit->ai->ac->Prop}{md:ch}{S S':ac->Prop}{n:E}
def wpAnyX (P:be)(md:ch)(ops:aq ar)(Q:Exit->ai->ac->Prop)(S:ac->Prop)(n:E):E->aq aw->ai->ac->Prop
 | 0,listed,a,w=>ax md ops listed=[]/\Q .normal a w
 | fuel+1,listed,a,w=>(ax md ops listed=[]->Q .normal a w)/\
  ∀ i∈ax md ops listed,wpOp P ops Q i (λa' w'=>(i≠n->S w')/\wpAnyX P md ops Q S n fuel (listed.setIfInBounds i ab) a' w') a w
theorem zCs : ∀ (fuel:E) (o:aq aw) (a:ai) (w:ac),wpAnyX P md ops Q S n fuel o a w->wpAny P md ops Q fuel o a w
 | 0,_,_,_,h=>h
 | fuel+1,_,_,_,h=>⟨h.1,λi u=>bv (λv w' y=>zCs fuel _ v w' y.2) (h.2 i u)⟩
theorem zCq (h:∀ W,S W->S' W):∀ (fuel:E) (o:aq aw) (a:ai) (w:ac),wpAnyX P md ops Q S n fuel o a w->wpAnyX P md ops Q S' n fuel o a w
 | 0,_,_,_,u=>u
 | fuel+1,_,_,_,u=>⟨u.1,λi y=>bv (λz w' v=>⟨λe=>h _ (v.1 e),zCq h fuel _ z w' v.2⟩) (u.2 i y)⟩
theorem zDB {O:ar}{v:au}(hi:ops[i]?=B O)(I:∀ (j:E) (o:ar) cs b,ops[j]?=B o->o.op≠.select cs b)
  (hQ:∀ c a w,Q (.panic c) (a.put O.dst v) w->Q (.panic c) a w) (hn:∃ o,ops[n]?=B o/\∃ e∈o.after,bf md e=ab/\e.on=i):
  ∀ (y:E) (u:aq aw) (a:ai) (w:ac),
   (∀ j R,ops[j]?=B R->j≠i->u.getD j ab=bc->(∀ e∈R.after,bf md e=ab->e.on≠i)->O.apart ops R=ab)->
   i∈ax md ops u->YieldsIf P ops S O v a->S w->
   wpAnyX P md ops Q S n y (u.setIfInBounds i ab) (a.put O.dst v) w->wpAnyX P md ops Q S n (y+1) u a w:=by
 intro y
 induction y with
 | zero=>
  intro u a w _ U hy Y H;refine⟨λh=>(by rw[h]at U;cases U),λj hj=>?_⟩;by_cases z:j=i
  .subst z;exact hy.wpOp hi Y ⟨λ_=>Y,H⟩
  .have:=bt hj z;rw[H.1]at this;cases this
 | succ y ih=>
  intro u a w A U hy Y H;refine⟨λh=>(by rw[h]at U;cases U),λj hj=>?_⟩;by_cases z:j=i
  .subst z;exact hy.wpOp hi Y ⟨λ_=>Y,H⟩
  .have V:=H.2 j (bt hj z);obtain⟨J,R,D,Z⟩:=mem_ready.1 hj;have N:∀ e∈R.after,bf md e=ab->e.on≠i:=λe he hb a4=>by
    have V:=Z e he hb;have h0:=(mem_ready.1 U).1;rw[a4]at V;rcases Nat.lt_or_ge i u.size with h'|h'
    .simp[h']at h0 V;rw[h0]at V;cases V
    .simp[Array.getElem?_eq_none h']at V
   have a5:j≠n:=λe=>by
    obtain⟨o,h2,d,X,h4,h5⟩:=hn;rw[e,h2]at D;cases D;exact N d X h4 h5
   have h2:=wpOp_putIf D (A j R D z J N) (λcs b=>I i O cs b hi) (λcs b=>I j R cs b D) hQ hy V;have F:∀ k ok,ops[k]?=B ok->k≠i->(u.setIfInBounds j ab).getD k ab=bc->
     (∀ e∈ok.after,bf md e=ab->e.on≠i)->O.apart ops ok=true:=λk ok hk a6 a2 a7=>by
    refine A k ok hk a6 ?_ a7;by_cases a3:j=k
    .subst a3;exact J
    .rw[getD_set_ne ab a3]at a2;exact a2
   refine bv (λa' w' X=>⟨X.2.1,ih (u.setIfInBounds j ab) a' w' F (bt U (Ne.symm z)) X.1 (X.2.1 a5) ?_⟩) h2;rw[Array.setIfInBounds_comm _ _ z];exact X.2.2
end
def onLast (ops:aq ar)(n i:E):Bool:=match ops[n]? with|none=>bc|some o=>o.after.any λe=>bf .any e&&e.on==i
theorem zDu {u:aq ar}(h:onLast u n i=ab):∃ o,u[n]?=B o/\∃ e∈o.after,bf .any e=ab/\e.on=i:=by
 unfold onLast at h;split at h
 .cases h
 .rename_i o v;simp only[Array.any_eq_true,bd,bh]at h;obtain⟨k,y,z,A⟩:=h;exact⟨o,v,_,Array.getElem_mem y,z,A⟩
def schedX (ops:aq ar)(n:E):Sg->aq aw->aw
 | .fin,listed=>(ax .any ops listed).isEmpty
 | .q i s,listed=>(ax .any ops listed).contains i&&Region.free .any ops listed i&&onLast ops n i&&schedX ops n s (listed.setIfInBounds i ab)
 | .m1 i s,listed=>(ax .any ops listed==[i])&&(i != n||s.size==0)&&schedX ops n s (listed.setIfInBounds i ab)
 | .m2 i s j s',listed=>(ax .any ops listed==[i,j])&&i != n&&j != n&&(s'.size==s.size)&&schedX ops n s (listed.setIfInBounds i ab)&&schedX ops n s' (listed.setIfInBounds j ab)
 | .m3 ..,_=>bc
def wpMx (P:be)(l:ao ar)(T:E->Prop)(n i:E)(K:ai->ac->Prop)(a:ai)(w:ac):Prop:=
 match nth l i with
 | none=>False
 | some o=>wpList P l.toArray (OnlyN λa' w'=>(i≠n->Fr T w w')/\K a' w') [o] a w
def wpSx (P:be)(l:ao ar)(M:ai->ac->Prop)(T:E->Prop)(n:E):Sg->ai->ac->Prop
 | .fin,a,w=>M a w
 | .q i s,a,w=>match nth l i with
  | none=>False
  | some o=>zA6 o.op=ab/\(if ck o (yielded l.toArray a.tmps)=ab then ∃ v,zGm P o a (Cls T w) v/\wpSx P l M T n s (a.put o.dst v) w else wpSx P l M T n s (a.put o.dst undef) w)
 | .m1 i s,a,w=>wpMx P l T n i (wpSx P l M T n s) a w
 | .m2 i s j s',a,w=>wpMx P l T n i (wpSx P l M T n s) a w/\wpMx P l T n j (wpSx P l M T n s') a w
 | .m3 ..,_,_=>False
section
variable {P:be}{M:ai->ac->Prop}
theorem zG8 {D:ai->ac->Prop}{v:E}{u:aq aw}(h:wpMx P l T n i D a w)
  (F:∀ y w',D y w'->(i≠n->Fr T w w')->wpAnyX P .any l.toArray (OnlyN M) (Fr T w) n v (u.setIfInBounds i ab) y w'):
  wpOp P l.toArray (OnlyN M) i (λy w'=>(i≠n->Fr T w w')/\wpAnyX P .any l.toArray (OnlyN M) (Fr T w) n v (u.setIfInBounds i ab) y w') a w:=by
 unfold wpMx at h;cases ho':nth l i with
 | none=>rw[ho']at h;exact h.elim
 | some o=>
  rw[ho']at h;dsimp only at h;have I:l.toArray[i]?=B o:=by rw[bn,<-zEn];exact ho'
  unfold wpOp;simp only[I];unfold wpList at h;split
  .rename_i z;rw[if_pos z]at h;rcases h with h|⟨_,h⟩
   .exact .inl (Oper.wp_mono (λy w' A=>⟨A.1,F _ _ A.2 A.1⟩) (zGp h))
   .obtain⟨_,_,h⟩:=h;exact h.elim
  .rename_i z;rw[if_neg z]at h;exact⟨h.1,F _ _ h.2 h.1⟩
theorem zLE {o:aq aw}(v:ax .any l.toArray o=[])(h:M a w):∀ u,wpAnyX P .any l.toArray (OnlyN M) (Fr T w) n u o a w
 | 0=>⟨v,h⟩
 | _+1=>⟨λ_=>h,by rw[v];simp⟩
theorem anyTX {l:ao ar}{T:E->Prop}{n:E}(F:br l.toArray=ab):∀ (σ:Sg) (u:aq aw) (a:ai) (w:ac),
  schedX l.toArray n σ u=ab->wpSx P l M T n σ a w->wpAnyX P .any l.toArray (OnlyN M) (Fr T w) n σ.size u a w
 | .fin,u,a,w,z,h=>zLE (by simpa [schedX]using z) h 0
 | .q i s,u,a,w,z,h=>by
  simp only[schedX,bd]at z;obtain⟨⟨⟨A,D⟩,hl⟩,y⟩:=z;simp only[wpSx]at h;cases hn:nth l i with
  | none=>rw[hn]at h;exact h.elim
  | some o=>
   rw[hn]at h;have R:l.toArray[i]?=B o:=by rw[bn,<-zEn];exact hn
   obtain⟨hv,h⟩:=h;split at h
   .rename_i V;obtain⟨v,hy,h⟩:=h;exact zDB R (cj F) (λ_ _ _ h=>h.elim) (zDu hl) _ _ _ _ (ci R D) (by simpa using A) (.inl ⟨V,λW I=>hy W ⟨⟨W,I⟩,rfl⟩⟩) (ag _ _) (anyTX F s _ _ w y h)
   .rename_i V;exact zDB R (cj F) (λ_ _ _ h=>h.elim) (zDu hl) _ _ _ _ (ci R D) (by simpa using A) (.inr ⟨by simpa using V,rfl⟩) (ag _ _) (anyTX F s _ _ w y h)
 | .m1 i s,u,a,w,z,h=>by
  simp only[schedX,bd,bh]at z;obtain⟨⟨A,X⟩,y⟩:=z;refine⟨λN=>(by rw[A]at N;cases N),λj U=>?_⟩;rw[A]at U;obtain rfl:j=i:=by simpa using U
  refine zG8 h (λO w' J D=>?_);by_cases e:j=n
  .cases s with
   | fin=>exact⟨by simpa [schedX]using y,J⟩
   | _=>simp[e,Sg.size]at X
  .exact zCq (λW I=>(D e).step I zi) _ _ _ _ (anyTX F s _ O w' y J)
 | .m2 i s j s',u,a,w,z,h=>by
  simp only[schedX,bd,bh,bne_iff_ne]at z;obtain⟨⟨⟨⟨⟨A,hi⟩,U⟩,X⟩,y⟩,Y⟩:=z;refine⟨λN=>(by rw[A]at N;cases N),λx Z=>?_⟩;rw[A]at Z;simp only[List.mem_cons,List.not_mem_nil,or_false]at Z;by_cases e:x=i
  .subst e;exact zG8 h.1 (λO w' J D=>zCq (λW I=>(D hi).step I zi) _ _ _ _ (anyTX F s _ O w' y J))
  .obtain rfl:x=j:=Z.resolve_left e;refine zG8 h.2 (λO w' J D=>?_);have:=anyTX F s' _ O w' Y J;rw[X]at this;exact zCq (λW I=>(D U).step I zi) _ _ _ _ this
end
section
variable {P:be}{M:ai->ac->Prop}{T:E->Prop}{l:ao ar}{σ σ':Sg}{a:ai}{w:ac}{n:E}
theorem zHq {z:E}{Q:Exit->ai->ac->Prop}(n:E)(T:E->Prop)(σ:Sg)(M:ai->ac->Prop)(A:P.follows .mixedOrders=ab)
  (o:(br l.toArray&&(σ.size==l.length)&&schedX l.toArray n σ (bw l.toArray.size bc))=ab)
  (h:∀ u,Fr No w u->wpSx P l M T n σ a u) (D:∀ v w',M v w'->Q .normal v w'):(bx z l.toArray ab).wp P Q a w:=by
 simp only[bd,bh]at o;have y:=anyTX (M:=M) o.1.1 σ _ a w.drew o.2 (h _ ((ag No w).drew));have F:l.toArray.size=σ.size:=by simp[o.1.2]
 rw[<-F]at y;refine wp_mono (wp_region_any A (zCs _ _ _ _ y)) λe a w h=>?_
 cases e<;>first|exact D _ _ h|exact h.elim
theorem zCF {r m:E}{I:E}{Q:Exit->ai->ac->Prop}(n:E)(T:E->Prop)(σ:Sg)(M:ai->ac->Prop)(v:P.follows .mixedOrders=ab)
  (u:(br l.toArray&&(σ.size==l.length)&&schedX l.toArray n σ (bw l.toArray.size bc)&&zFR l)=ab)
  (h:∀ y,Fr No w y->wpSx P l M T n σ a y) (J:∀ z w',M z w'->Q .normal z w'):(bx I l.toArray ab).wpIn (Fence.wide.inRound r) m P Q a w:=by
 simp only[bd,bh]at u;have A:=anyTX (M:=M) u.1.1.1 σ _ a w.drew u.1.2 (h _ ((ag No w).drew));have N:l.toArray.size=σ.size:=by simp[u.1.1.2]
 rw[<-N]at A;have O:=zCs _ _ _ _ A;have R:∀ (i:E) (o:ar),l.toArray[i]?=B o->∀ c,o.op≠Op.defer c:=λi o D c U=>by
  have v:o∈l:=by rw[bn]at D;exact bq D
  have F:=List.all_eq_true.1 u.2 o v;rw[U]at F;cases F
 refine wpIn_mono (Q:=OnlyN M) (wpIn_region_draw λt=>?_) λe a w h=>?_
 .simp only[Region.schedule,v,Bool.true_or,if_true];exact zBz R _ _ _ (wpAny_sound l.toArray.size t _ a _ O)
 .cases e<;>first|exact J _ _ h|exact h.elim
theorem zFy (h:M a w):wpSx P l M T n .fin a w:=h
theorem tx_q (F:nth l i=B o)(A:zA6 o.op=ab)(I:ck o (yielded l.toArray a.tmps)=ab)
  (h:∀ D:ai->Prop,(∀ z,wpSx P l M T n σ z w->D z)->o.quiet P a (λW=>∃ g:Gr T w,W=g.W) D):wpSx P l M T n (.q i σ) a w:=by
 obtain⟨v,J,N⟩:=h (λz=>wpSx P l M T n σ z w) (λ_ h=>h);simp only[wpSx,F,I,if_true];refine⟨A,v,λW O=>?_,N⟩;have y:=J W O;unfold Oper.quietAt at y;cases hr:(execOp a.eval o).run P W with
 | halt x R=>rw[hr]at y;exact y.elim
 | ok n R=>
  obtain⟨u,rfl⟩:=zBK a.eval o A hr;rw[hr]at y;obtain⟨U,V⟩:=y;rw[U,V]
theorem zPI {u:ai->ac->Prop}(v:nth l i=B o)(h:wpList P l.toArray (OnlyN λy w'=>(i≠n->Fr T w w')/\u y w') [o] a w):wpMx P l T n i u a w:=by
 unfold wpMx;rw[v];exact h
theorem zA9 (u:nth l i=B o)(h:wpList P l.toArray (OnlyN λv w'=>(i≠n->Fr T w w')/\wpSx P l M T n σ v w') [o] a w):wpSx P l M T n (.m1 i σ) a w:=zPI u h
end
theorem zK {o:E}{e T:TypeId}{u:E}{A:ao au}(D:w.ownsRow o e u v n A){b:E}{cs:aq au}(F:w.heap[b]?=B (aa cs T))(z:T≠e):¬ v.ownBlock=B b:=by
 intro h;obtain⟨_,⟨rfl,_⟩|⟨g,I,J,rfl,N,y,_⟩⟩:=D
 .cases h
 .cases h;rw[F]at y;cases y;exact z rfl
def kcs (a:ak am)(n cap:E)(ev:ak am)(en ec:E)(ix:af):aq au:=#[an a n cap,an f 0 0,an f 0 0,an ev en ec,a1 a0 ix]
theorem zHE (D:E)(a:ak am)(h o:E)(ds:ao Dev)(ev:ak am)(en ec:E)(ix u n:af)(w:ac)(V:w.heap[D]?=B (aa (kcs a ds.length h ev en ec ix) 60))(X:Tr w o a h ds)(hn:ds.length<=1000)(Y:(Lit.int a0 n).wf=ab)(y:∀ d∈ds,d.name.size<=1000):
  Calls bg 44 #[bj (B ⟨D,0,f⟩),.int a0 u,.int a0 n] w λe w'=>(∃ s,e=.returned (ay #[.int a0 0,.int a0 u,.int a0 n,.string s,.string ⟨#[]⟩]))/\Fr No w w':=by
 obtain⟨Z,z,F,b0⟩:=zy w (aa #[.int a0 0,.int a0 0,.int a0 0,.string ⟨#[]⟩,.string ⟨#[]⟩] 114);have k0:Z.cell? ⟨D,0,f⟩=B (.slice a ds.length h):=zB (F.heap V id) 0;have hp:=zJZ a h o ds n Z (X.no F) hn Y y;clear y X V Y
 go_enter Tryz.func44,Tryz.ntmps44
 go_upto_region 1 with(fail)
 rw[<-z];clear z
 go_wp2_with fail
 refine hp.mono ?_;rintro e w1 ⟨⟨s,b,rfl⟩,A⟩;have I:=A.heap b0 id;obtain⟨z0,z1,z2,z3,z4⟩:=cl5 I;obtain⟨y0,y1,y2,y3,y4⟩:=fl5 I;have hf:∀ J N O R U,Fr No w (((((w1.setCell ⟨w,0,f⟩ J).setCell ⟨w,1,f⟩ N).setCell ⟨w,2,f⟩ O).setCell ⟨w,3,f⟩ R).setCell ⟨w,4,f⟩ U):=λJ N O R U=>
  (F.step A zi).step (T:=Is (w:E)) (((((ag _ _).setAt J).setAt N).setAt O).setAt R |>.setAt U) (λb hb e=>by omega)
 have Hf:=zh hf;clear hf hp b0 I k0
 go_wp2_with fail
 refine bodyPost_ret (v:=ay #[.int a0 0,.int a0 u,.int a0 n,.string s,.string ⟨#[]⟩]) (by simp[results,Tryz.results44,go_sem,z0,z1,z2,z3,z4]) rfl ?_;exact⟨⟨s,rfl⟩,Hf.out _ _ _ _ _⟩
theorem infoE: (Tryz.prog.info? 114).map (λi=>(i.zero,i.size,i.bytes))=B (B (ay #[a1 a0 0,a1 a0 0,a1 a0 0,aj ap,aj ap]),5,56):=by kernel_rfl
structure Evs (w:ac)(a:ak am)(n:E)(xs:ao au):Prop where
 isNil:a=f->n=0
 src:∀ ad,a=B ad->ad.spot=f/\ad.block<(w:E)/\∀ j u,xs[j]?=B u->w.cell? ⟨ad.block,ad.off+j,f⟩=B u
 el:∀ i,i<n->∃ (q c x:af) (p y:bi),xs[i*5]?=B (a1 a0 q)/\xs[i*5+1]?=B (a1 a0 c)/\xs[i*5+2]?=B (a1 a0 x)/\xs[i*5+3]?=B (aj p)/\xs[i*5+4]?=B (aj y)
theorem Evs.fr {S:E->Prop}{w':ac}{a:ak am}{v:ao au}(h:Evs w a n v)(y:Fr S w w')(z:∀ o,a=B o->¬ S o.block):Evs w' a n v:=
 ⟨h.isNil,λo e=>⟨(h.src o e).1,cg (h.src o e).2.1 y.size,λj u A=>y.cell ((h.src o e).2.2 j u A) (z o e)⟩,h.el⟩
def EmRes (w':ac)(kb base:E)(a:ak am)(n cap en:E)(ix:af):Prop:=∃ ev' ec' xs',w'.heap[kb]?=B (aa (kcs a n cap ev' en ec' ix) 60)/\w'.ownsRow base 114 5 (an ev' en ec') en xs'
theorem zKU (A D:E)(a:ak am)(n V:E)(ev:ak am)(J ec:E)(ix:af)(es:ak am)(X ce:E)(us:ao au)(xs:ao au)(w:ac)(hk:w.heap[A]?=B (aa (kcs a n V ev J ec ix) 60))(a5:w.ownsRow D 114 5 (an ev J ec) J xs)(e5:J<=100000)(e6:X<=10000)(hE:Evs w es X us)(d1:D<=(w:E))
  (b0:∀ N,es=B N->N.block≠A/\¬ (ah ev J ec).ownBlock=B N.block):
  Calls bg 43 #[bj (B ⟨A,0,f⟩),an es X ce] w λe w'=>e=.returned (.tuple #[])/\EmRes w' A D a n V (J+X) ix/\Fr (λb=>b=A\/(ah ev J ec).ownBlock=B b) w w':=by
 obtain⟨i0,d2,d3,d4,d5⟩:=info_parts infoE;have e7:=zC hk;have HE:=zg2 hE b0;have HO:=zh a5;have HK:=zh hk;clear hE b0
 go_enter Tryz.func43,Tryz.ntmps43
 go_wp2_with fail
 go_loopw [8] (λv wr=>∃ (j M:E) (o:ak am) (z:E) (a8:ao au),j<=X/\v=a1 a0 (j:af)/\ae (M=J+j)/\ae (wr.heap[A]?=B (aa (kcs a n V o M z ix) 60))/\ae (wr.ownsRow D 114 5 (an o M z) M a8)/\ae (∀ b,(ah o M z).ownBlock=B b->(ah ev J ec).ownBlock=B b\/(w:E)<=b)/\ae (Fr (λb=>b=A\/(ah ev J ec).ownBlock=B b) w wr)) (λv _=>X-(az v).toNat)
 case atStart=>exact⟨0,J,ev,ec,xs,by omega,rfl,rfl,HK.out,HO.out,λb h=>.inl h,ag _ _⟩
 case round=>
  obtain⟨j,M,o,z,a8,hj,rfl,hM,Y,a9,b4,Z⟩:=hrel;clear a5 hk;by_cases d6:j<X
  .have b5:(j:af)<X:=by omega
   have e8:M<=200000:=by have:=hM.out;omega
   have a2:=HE.out.1.fr Z.out (λN e h=>h.elim (HE.out.2 N e).1 (HE.out.2 N e).2);obtain⟨d9,c,x,p,y,u0,u1,u2,u3,u4⟩:=a2.el j d6;obtain⟨N,rfl⟩:∃ N,es=B N:=by
    cases es with
    | none=>have:=a2.isNil rfl;omega
    | some N=>exact⟨N,rfl⟩
   obtain⟨eb,eo,e9⟩:=N;obtain⟨b6,d7,hs⟩:=a2.src _ rfl;dsimp only at b6 d7 hs;subst b6;have e0:=hs _ _ u0;have e1:=hs _ _ u1;have e2:=hs _ _ u2;have e3:=hs _ _ u3;have e4:=hs _ _ u4;rw[<-Nat.add_assoc]at e1 e2 e3 e4;have k3:wr.cell? ⟨A,3,f⟩=B (an o M z):=zB Y.out 3;clear hs u0 u1 u2 u3 u4 a2;obtain⟨W1,b7,x1,b1⟩:=zy wr (aa #[a1 a0 d9,a1 a0 c,a1 a0 x,aj p,aj y] 114)
   go_upto_region 3 with(fail)
   rw[<-b7];clear b7 e0 e1 e2 e3 e4 k3;have k3:W1.cell? ⟨A,3,f⟩=B (an o M z):=zB (x1.heap Y.out id) 3;have e0:W1.cell? ⟨wr,0,f⟩=B (a1 a0 d9):=zB b1 0;have f0:W1.frozen? ⟨wr,0,f⟩=false:=zD b1 0;obtain⟨W2,a3⟩:∃ W2,W2=W1.setCell ⟨wr,0,f⟩ (a1 a0 ((M:af)+1)):=⟨_,rfl⟩
   have x2:Fr (Is (wr:E)) W1 W2:=by rw[a3];exact bm (ag _ _) _
   have b2:W2.heap[(wr:E)]?=B (aa #[a1 a0 ((M:af)+1),a1 a0 c,a1 a0 x,aj p,aj y] 114):=by rw[a3];exact zE b1 0 _
   have a4:ae (Fr No wr W2):=x1.step x2 (λb hb e=>by omega)
   go_upto_region 4 with(fail)
   rw[<-a3];clear a3 k3 e0 f0 b1 x1 x2;have g0:(w:E)<=(wr:E):=Z.out.size;have g1:(wr:E)<=(W2:E):=a4.out.size;refine zHq 10 (λb=>(ah o M z).ownBlock=B b) (.q 0 (.q 1 (.q 2 (.q 3 (.q 4 (.q 5 (.m1 6 (.m1 7 (.m1 8 (.q 9 (.m1 10 .fin))))))))))) _ (by kernel_rfl) (by kernel_rfl) (λW3 I=>?_) zj;have g2:=I.size;have k4:=I.heap (a4.out.heap Y.out id) id;have O:=(zG a9.out a4.out (λ_ _=>id)) |> λh=>zG h I (λ_ _=>id)
   have b3:=I.heap b2 id;have nk:=zK O k4 (by decide);have nb:¬ (ah o M z).ownBlock=B (wr:E):=λh=>by have:=(zAD a9.out h).2;omega
   have z3:∀ g:Gr (λb=>(ah o M z).ownBlock=B b) W3,g.W.cell? ⟨A,3,f⟩=B (an o M z):=λg=>zB (g.fr.heap k4 nk) 3
   have bB:=λg:Gr (λb=>(ah o M z).ownBlock=B b) W3=>g.fr.heap b3 nb
   have e0:=λg=>zB (bB g) 0
   have e1:=λg=>zB (bB g) 1
   have e2:=λg=>zB (bB g) 2
   have e3:=λg=>zB (bB g) 3
   have e4:=λg=>zB (bB g) 4
   simp only[bn,List.getElem?_cons_zero,List.getElem?_cons_succ]at e0 e1 e2 e3 e4;have d8:=zh I;clear bB I b2 b3
   repeat (apply tx_q rfl rfl rfl;intro g3 hK;go_big_quiet_op;go_big_quiet_on)
   clear e0 e1 e2 e3 e4;have al:=(ag No W3).alloc (aa #[a1 a0 ((M:af)+1),a1 a0 c,a1 a0 x,aj p,aj y] 114);have a6:=zG O al (λ_ _=>id);have k5:=al.heap k4 id;have b8:=zh al;clear O k4 al;apply zA9;exact rfl
   go_wp2_with fail
   refine ba ⟨λ_=>b8.out.mono zn,?_⟩;apply zA9;exact rfl
   go_wp2_with (at_builtin;refine bu _ rfl _ _ 58 rfl D 114 i0 (ay #[a1 a0 0,a1 a0 0,a1 a0 0,aj ap,aj ap]) 5 56 Tryz.underlying58 d2 d3 d4 d5 rfl (by decide) _ _ _ rfl a6 ⟨W3,0,f⟩ 1 1 [a1 a0 ((M:af)+1),a1 a0 c,a1 a0 x,aj p,aj y] rfl rfl (zg _ #[a1 a0 ((M:af)+1),a1 a0 c,a1 a0 x,aj p,aj y] _ rfl) (λu hu=>by simp at hu;rcases hu with rfl|rfl|rfl|rfl|rfl<;>rfl) (by unfold maxLen;omega) (by omega) (by rw[av];omega) ?_;intro v' w6 F b9 _ d0;obtain⟨R,U,rfl⟩:=zI F)
   have gf:Fr (λb=>(ah o M z).ownBlock=B b) (W3.alloc (aa #[a1 a0 ((M:af)+1),a1 a0 c,a1 a0 x,aj p,aj y] 114)) w6:=bp b9;refine zf gf ?_;have k6:=gf.heap k5 nk;have n6:=zK F k6 (by decide);have t6:w6.cell? ⟨A,3,f⟩=B (an o M z):=zB k6 3;have f6:w6.frozen? ⟨A,3,f⟩=false:=zD k6 3;have x7:Fr (Is A) w6 (w6.setCell ⟨A,3,f⟩ (an R (M+1) U)):=bm (ag _ _) _;have k7:(w6.setCell ⟨A,3,f⟩ (an R (M+1) U)).heap[A]?=B (aa (kcs a n V R (M+1) U ix) 60):=zE k6 3 _;have a7:=zG F x7 (λb hb h=>by unfold Is at h;subst h;exact n6 hb);have ff:Fr (λb=>b=A\/(ah o M z).ownBlock=B b) wr (w6.setCell ⟨A,3,f⟩ (an R (M+1) U)):=((((a4.out.step d8.out zi).step b8.out zi).mono zn).step gf (λb _ h=>.inr h)).step x7 (λb _ h=>.inl h);have HR:=zg4 k7 a7 d0 ff;clear a6 F b9 gf k5 k6 n6 x7 k7 a7 ff d0 nk nb;apply zA9;exact rfl
   go_wp2_with fail
   refine ba ⟨λ_=>ag _ _,?_⟩
   repeat (apply tx_q rfl rfl rfl;intro g3 hK;go_big_quiet_op;go_big_quiet_on)
   apply zA9;exact rfl
   go_wp2_with fail
   refine ba ⟨λh=>(h rfl).elim,?_⟩;refine zFy ?_;clear z3 t6 f6
   go_wp2_with fail
   go_roundw
   case rel=>exact⟨j+1,M+1,R,U,_,by omega,by go_num,by have:=hM.out;show M+1=J+(j+1);omega,HR.out.1,HR.out.2.1,λb hb=>by
    rcases HR.out.2.2.1 with h|h
    .exact b4.out b (h▸hb)
    .right;have h5:=hb.symm.trans h;simp only[Option.some.injEq,av]at h5;omega,Z.out.step HR.out.2.2.2 (λb hb h=>by
    rcases h with h|h
    .exact .inl h
    .rcases b4.out b h with h6|h6
     .exact .inr h6
     .omega)⟩
   case measure=>simp[az];omega
  .obtain rfl:j=X:=by omega
   have b5:¬ (j:af)<j:=by omega
   go_wp2_with fail
   go_end0
   have e:=hM.out;subst e;exact⟨rfl,⟨o,z,a8,Y.out,a9.out⟩,Z.out⟩
theorem zMu (A R o:E)(a:ak am)(n y:E)(D:ak am)(v F:E)(ix I i:af)(s:bi)(Z:ao au)(w:ac)(hk:w.heap[A]?=B (aa (kcs a n y D v F ix) 60))(J:w.ownsRow o 114 5 (an D v F) v Z)(V:v<=100000)(U:w.heap[R]?=B (aa #[a1 a0 0,a1 a0 I,a1 a0 i,aj s,aj ⟨#[]⟩] 114))(z:o<=(w:E))(X:¬ (ah D v F).ownBlock=B R):
  Calls bg 43 #[bj (B ⟨A,0,f⟩),an (B ⟨R,0,f⟩) 1 1] w λe w'=>e=.returned (.tuple #[])/\
   (∃ N O Y,w'.heap[A]?=B (aa (kcs a n y N (v+1) O ix) 60)/\w'.ownsRow o 114 5 (an N (v+1) O) (v+1) Y)/\Fr (λb=>b=A\/(ah D v F).ownBlock=B b) w w':=
 zKU A o a n y D v F ix (B ⟨R,0,f⟩) 1 1 [a1 a0 0,a1 a0 I,a1 a0 i,aj s,aj ⟨#[]⟩] Z w hk J V (by omega)
  ⟨λe=>(by cases e),λad e=>by cases e;exact⟨rfl,zC U,λj u hu=>by rw[zB U];simpa using hu⟩,λj hj=>match j,hj with|0,_=>⟨_,_,_,_,_,rfl,rfl,rfl,rfl,rfl⟩⟩ z (λad e=>by
   cases e;refine⟨λh=>?_,X⟩;dsimp only at h;rw[h,hk]at U;cases U)
structure RC where
 ka:ak am
 kn:E
 kc:E
 wt:af
 a:ak am
 n:E
 cap:E
 ea:ak am
 en:E
 ec:E
 ca:ak am
 cc:E
 C:ao Src
 wm:E
 sm:E
 xb:E
 b0:E
 b2:E
structure RSt (c:RC)(w:ac)(S:ao Src)(M:ao Vir)(G:ao (bi×bi)):Prop where
 ex:∃ sa sc ma mc,w.heap[c.xb]?=B (aa (rcs c.ka c.kn c.kc c.wt c.a c.n c.cap c.ca c.C.length c.cc c.ea c.en c.ec sa S.length sc c.wm c.sm ma M.length mc) 85)/\
  w.ownsRow c.b2 134 13 (an sa S.length sc) S.length (sflat S)/\w.ownsRow c.b0 97 4 (an ma M.length mc) M.length (vflat M)
 cs:Srcs w c.ca c.cc c.C
 cb:∀ ad,c.ca=B ad->c.b0<=ad.block/\ad.block<c.b2/\BlkT w c.ca 134
 wmo:QMap w c.wm (wantG M) M.length
 smo:QMap w c.sm (seenG G) G.length
 ne:c.wm≠c.sm
 lo:c.b0<=c.xb/\c.b0<=c.wm/\c.b0<=c.sm/\c.b0<=c.b2/\c.xb<c.b2/\c.wm<c.b2/\c.sm<c.b2
theorem zOO (a ra ka ea:ak am)(u rc kn kc en ec d0:E)(wt:af)(ds:ao Dev)(L:ao Rec)(w:ac)(hl:Tr w d0 a u ds)(hn:ds.length<=250)(hr:Recs w ra rc L)(hE:ErrV w)(m6:5<(w:E)/\4<(w:E)):
  Calls bg 26 #[ay #[.slice a ds.length u],.slice ra L.length rc,ay #[.slice ka kn kc,.int a0 wt],.slice ea en ec] w λe w'=>
   (∃ U cc b2,e=.returned (bj (B ⟨(w:E)+4,0,f⟩))/\RSt ⟨ka,kn,kc,wt,a,ds.length,u,ea,en,ec,U,cc,cntL ds L 0 ds,(w:E)+2,(w:E)+3,(w:E)+4,(w:E),b2⟩ w' ((cntL ds L 0 ds).filter λs=>!virB ds s.d.index) [] []/\b2<=(w':E))/\Fr No w w':=by
 obtain⟨i0,i1,i2,i3,i4⟩:=info_parts infoSr;have j7:=@run_makeMap bg;have hT:=hl.wf.ok;obtain⟨W0,a6⟩:∃ W0,W0=((((w.alloc (aa #[.slice a ds.length u] 47)).alloc (aa #[.slice ka kn kc,.int a0 wt] 41)).alloc (.map #[] 0)).alloc (.map #[] 0)).alloc (aa (rcs ka kn kc wt a ds.length u f 0 0 ea en ec f 0 0 ((w:E)+2) ((w:E)+3) f 0 0) 85):=⟨_,rfl⟩
 have x0:Fr No w W0:=by rw[a6];exact(((((ag _ _).alloc _).alloc _).alloc _).alloc _).alloc _
 have b4:W0.heap[(w:E)]?=B (aa #[.slice a ds.length u] 47):=by
  rw[a6];exact((((ag No _).alloc _).alloc _).alloc _).heap (zO w _ _) id
 have b9:W0.heap[(w:E)+4]?=B (aa (rcs ka kn kc wt a ds.length u f 0 0 ea en ec f 0 0 ((w:E)+2) ((w:E)+3) f 0 0) 85):=by
  rw[a6];have:=zF ((((w.alloc (aa #[.slice a ds.length u] 47)).alloc (aa #[.slice ka kn kc,.int a0 wt] 41)).alloc (.map #[] 0)).alloc (.map #[] 0)) (aa (rcs ka kn kc wt a ds.length u f 0 0 ea en ec f 0 0 ((w:E)+2) ((w:E)+3) f 0 0) 85);rw[av,av,av,av]at this;exact this
 have m2:QMap W0 ((w:E)+2) (λ_=>f) 0:=by
  rw[a6];have:=QMap.made ((w.alloc (aa #[.slice a ds.length u] 47)).alloc (aa #[.slice ka kn kc,.int a0 wt] 41));rw[av,av]at this;exact(this.fr ((ag No _).alloc _) id).fr ((ag No _).alloc _) id
 have m3:QMap W0 ((w:E)+3) (λ_=>f) 0:=by
  rw[a6];have:=QMap.made (((w.alloc (aa #[.slice a ds.length u] 47)).alloc (aa #[.slice ka kn kc,.int a0 wt] 41)).alloc (.map #[] 0));rw[av,av,av]at this;exact this.fr ((ag No _).alloc _) id
 have s0:(W0:E)=(w:E)+5:=by rw[a6];simp
 have S0:ae ((w:E)+5<=(W0:E)):=by unfold ae;omega
 have t4:W0.cell? ⟨w,0,f⟩=B (.slice a ds.length u):=zB b4 0;have m7:=hl.dv.lenmax;have i5:=zh (λ(W:ac) (N:Fr (From (w:E)) w W) (n:af) (hx:(Lit.int a0 n).wf=ab)=>zAu a u ds n W (hl.dv.fr N (λI e b5 h=>by have:=(hl.dv.cell I e b5).2.1;omega)) hT (by omega) hx);have h4:ae (∀ W,Fr (From (w:E)) w W->Tr W d0 a u ds):=λW N=>hl.keep N (λb hb _ h=>by omega)
 have j8:ae (∀ W,Fr (From (w:E)) w W->Recs W ra rc L):=λW N=>⟨hr.len,hr.max,hr.isNil,λr j9=>by
   have h1:=hr.ok r j9;exact⟨h1.props.fr N (λI e b5 h=>by have:=(h1.props.cell I e b5).2.1;omega),h1.tags.fr N (λI e b5 h=>by have:=(h1.tags.cell I e b5).2.1;omega)⟩,λI e b5=>by
   obtain⟨h1,h2,h3⟩:=hr.cell I e b5;exact⟨h1,cg h2 N.size,λi r hi j hj=>N.cell (h3 i r hi j hj) (λh=>by unfold From at h;dsimp only at h;omega)⟩⟩
 have HE:ae (∀ W,Fr (From (w:E)) w W->ErrV W):=λW N=>hE.fr N (λh=>by omega) (λh=>by omega)
 have HT:=zh hT;have Hn:=zh hn;clear hl hr hE hT hn;unfold rcs at a6
 go_enter Tryz.func26,Tryz.ntmps26
 go_upto_region 2 with(fail)
 rw[<-a6];clear a6;obtain⟨X,hX⟩:∃ X,X=(w:E)+4:=⟨_,rfl⟩
 rw[<-hX]at b9;rw[show (w:E)+1+1+1+1=X from by omega];have HX:=zh hX;have m8:(w:E)<=X:=by omega
 have m9:(w:E)<X:=by omega
 have n2:X+1<=(W0:E):=by omega
 have HM:=zg2 m2 m3;have h5:=zh x0;have n3:=zh b4;clear hX s0 m2 m3 x0
 go_wp2_with fail
 clear t4 j7
 go_loopw [26] (λi wr=>∃ (k:E) (U:ak am) (cc:E),k<=ds.length/\i=.int a0 (k:af)/\(wr.heap[X]?=B (aa (rcs ka kn kc wt a ds.length u U (cntL ds L 0 (ds.take k)).length cc ea en ec f 0 0 ((w:E)+2) ((w:E)+3) f 0 0) 85)/\wr.ownsRow (X+1) 134 13 (.slice U (cntL ds L 0 (ds.take k)).length cc) (cntL ds L 0 (ds.take k)).length (sflat (cntL ds L 0 (ds.take k)))/\Fr (λb=>X<=b) W0 wr)) (λi _=>ds.length-(az i).toNat)
 case atStart=>exact⟨0,f,0,by omega,rfl,by simpa [cntL]using b9,by simpa [cntL,sflat]using bs _ _ _ _,ag _ _⟩
 case round=>
  obtain⟨k,U,cc,hk,rfl,kx,O,N⟩:=hrel;by_cases g1:k<ds.length
  .have i6:(k:af)<ds.length:=by omega
   have d4:Fr (From (w:E)) w wr:=(h5.out.mono zn).step N (λb _ h=>by omega);obtain⟨bb,g2,d,rfl,hd,c0,c1,c2,c3,c4,c5,c6,c7,c8,c9⟩:=(h4.out _ d4).dv.dev g1;have a5:=bq hd;have h6:=HT.out.iwf a5;have l9:=HT.out.lk a5;have g3:ae (ds.take (k+1)=ds.take k++[d]):=by unfold ae;rw[cd,hd];rfl
   have i7:(ds.take k).length=k:=by simp;omega
   have i8:=zCg ds L (ds.take k) 0;rw[i7]at i8;obtain⟨W1,b6,a7,d1⟩:=zy wr (aa d.vals 36);have V:Fr (From (w:E)) w W1:=d4.step a7 zn;have d5:=a7.heap (N.heap b4 (λh=>by omega)) id;have t4:W1.cell? ⟨w,0,f⟩=B (.slice (B ⟨bb,g2,f⟩) ds.length u):=zB d5 0;have z0:=(DevB.of d1).c0;have d7:=i5.out W1 V d.index h6;have k0:ae (plc ds d.index=((look ds d.index).map λ_=>pathOf (origin ds d.index)).getD ⟨#[]⟩):=rfl;rw[<-k0.out]at d7;have i9:X<(wr:E):=zC kx;unfold Dev.vals at b6;clear hd a5
   go_upto_region 5 with(fail)
   rw[<-b6];clear b6 c0 c1 c2 c3 c4 c5 c6 c7 c8 c9
   go_wp2_with fail
   refine d7.mono ?_;rintro e w2 ⟨rfl,d8⟩;clear d7 t4 z0;have g7:Fr No wr w2:=a7.step d8 zi;have d2:=d8.heap d1 id;have j0:=d8.heap d5 id;have t4:w2.cell? ⟨w,0,f⟩=B (.slice (B ⟨bb,g2,f⟩) ds.length u):=zB j0 0;have z0:=(DevB.of d2).c0;have d9:=V.step d8 zn;have g8:=zMf (B ⟨bb,g2,f⟩) ra u rc ds L d0 d.index w2 (h4.out _ d9) (by have:=Hn.out;omega) h6 (j8.out _ d9);generalize (look ds d.index).isSome=lks at *
   go_wp2_with fail
   refine g8.mono ?_;rintro e w3 ⟨rfl,y⟩;clear g8 t4 z0;have z:Fr No wr w3:=g7.step y zi;have dw:=y.heap d2 id;have kw:=z.heap kx id;have Y:=zG O z (λ_ _=>id);have hS:=zBm ds L (ds.take k) 0 d;rw[<-g3.out,i7,Nat.zero_add]at hS;have HS:=zh hS;clear hS d5 j0 d1 d2 a7 g7 d8;have Hf:=zh (N.step z zn);have k1:=z.size;rcases hq:cntB ds L d.index with _|_
   .have A:ae (cntL ds L 0 (ds.take (k+1))=cntL ds L 0 (ds.take k)):=by unfold ae;rw[HS.out,hq];simp
    clear O kx
    go_wp2_with fail
    go_roundw
    case rel=>exact⟨k+1,U,cc,by omega,by go_num,by rw[A.out];exact kw,by rw[A.out];exact Y,Hf.out⟩
    case measure=>simp[az];omega
   .have A:ae (cntL ds L 0 (ds.take (k+1))=cntL ds L 0 (ds.take k)++[⟨(k:af),d,plc ds d.index,0⟩]):=by unfold ae;rw[HS.out,hq];simp
    clear hq;have h7:=λb (h:(ah U (cntL ds L 0 (ds.take k)).length cc).ownBlock=B b)=>zY O h
    have h8:ae (∀ b,(ah U (cntL ds L 0 (ds.take k)).length cc).ownBlock=B b->X+1<=b):=λb h=>zP O h
    have k2:(wr:E)<(w3:E):=zC dw;have n4:k<=250:=by have:=Hn.out;omega
    generalize plc ds d.index=P at *;clear kx d4 z V d9
    go_upto_region 7 with(fail)
    refine zZ (λb=>b=X\/(ah U (cntL ds L 0 (ds.take k)).length cc).ownBlock=B b\/(w3:E)<=b) (.q 0 (.q 1 (.q 2 (.q 3 (.q 5 (.q 6 (.q 7 (.q 8 (.m2 4 (.m1 9 (.m1 10 (.q 11 (.q 12 (.m1 13 .fin))))) 9 (.m1 4 (.m1 10 (.q 11 (.q 12 (.m1 13 .fin)))))))))))))) _ (by kernel_rfl) (by kernel_rfl) (λW3 y=>?_) zj;have a8:=y.heap kw id;have D:=zG Y y (λ_ _=>id);have b0:=zK D a8 (by decide);have d3:=y.heap dw id;have s3:=y.size;have R:∀ g:Gr (λb=>b=X\/(ah U (cntL ds L 0 (ds.take k)).length cc).ownBlock=B b\/(w3:E)<=b) W3,DevB g.W (wr:E) d:=λg=>DevB.of (g.fr.heap d3 (λh=>by
     rcases h with h|h|h
     .omega
     .have:=h7 _ h;omega
     .omega))
    have e0:=λg=>(R g).c0
    have e1:=λg=>(R g).c1
    have e2:=λg=>(R g).c2
    have e3:=λg=>(R g).c3
    have e4:=λg=>(R g).c4
    have e5:=λg=>(R g).c5
    have e6:=λg=>(R g).c6
    have e7:=λg=>(R g).c7
    have e8:=λg=>(R g).c8
    have e9:=λg=>(R g).c9
    clear R d3
    repeat((first|apply zL rfl rfl rfl|apply zJ rfl rfl rfl);intro k6 hK;go_big_quiet_op;go_big_quiet_on)
    clear e0 e1 e2 e3 e4 e5 e6 e7 e8 e9;have c3:W3.cell? ⟨X,3,f⟩=B (.slice U (cntL ds L 0 (ds.take k)).length cc):=zB a8 3;refine zAA rfl rfl ?_ ?_
    focus
     go_wp2_with fail
     refine zq ?_;apply zH;exact rfl
     go_wp2_with fail
     refine zp ?_;clear c3
    rotate_left 1
    focus
     go_wp2_with fail
     refine zp ?_;apply zH;exact rfl;have c7:∀ o,(W3.alloc o).cell? ⟨X,3,f⟩=B (.slice U (cntL ds L 0 (ds.take k)).length cc):=λo=>((ag No W3).alloc o).cell c3 id
     clear c3
     go_wp2_with fail
     refine zq ?_;clear c7
    all_goals (
     apply zH;exact rfl
     go_wp2_with (at_builtin;refine bu _ rfl _ _ 81 rfl (X+1) 134 i0 (ay #[.int a0 0,.int a0 0,.int a0 0,.string ap,.string ap,.string ap,.string ap,.string ap,.int a0 0,.int a0 0,.slice f 0 0,.string ap,.int a0 0]) 13 168 cl i1 i2 i3 i4 rfl (by decide) _ _ _ rfl (D.alloc _) ⟨W3,0,f⟩ 1 1 (Src.vals ⟨(k:af),d,P,0⟩).toList rfl rfl (zg _ (Src.vals ⟨(k:af),d,P,0⟩) _ rfl) (zCP _) (by unfold maxLen;omega) (by omega) (by first|omega|(simp;done)|(simp;omega)) ?_;intro v' w4 v J _ b1;obtain⟨Z,a2,rfl⟩:=zI v)
     have b7:Fr No W3 (W3.alloc (aa (Src.vals ⟨(k:af),d,P,0⟩) 134)):=(ag _ _).alloc _;have a9:Fr (λb=>(ah U (cntL ds L 0 (ds.take k)).length cc).ownBlock=B b) (W3.alloc (aa (Src.vals ⟨(k:af),d,P,0⟩) 134)) w4:=bp J;have k4:=a9.heap (b7.heap a8 id) (λe=>b0 e);have c3:w4.cell? ⟨X,3,f⟩=B (.slice U (cntL ds L 0 (ds.take k)).length cc):=zB k4 3;have f3:w4.frozen? ⟨X,3,f⟩=false:=zD k4 3;have b3:=zK v k4 (by decide);refine ba ⟨a9.mono (λb _ h=>.inr (.inl h)),?_⟩
     repeat((first|apply zL rfl rfl rfl|apply zJ rfl rfl rfl);intro k6 hK;go_big_quiet_op;go_big_quiet_on)
     apply zH;exact rfl;have f5:Fr (Is (X)) w4 (w4.setCell ⟨X,3,f⟩ (.slice Z ((cntL ds L 0 (ds.take k)).length+1) a2)):=bm (ag _ _) _;have k5:((w4.setCell ⟨X,3,f⟩ (.slice Z ((cntL ds L 0 (ds.take k)).length+1) a2))).heap[X]?=B (aa (rcs ka kn kc wt (B ⟨bb,g2,f⟩) ds.length u Z ((cntL ds L 0 (ds.take k)).length+1) a2 ea en ec f 0 0 ((w:E)+2) ((w:E)+3) f 0 0) 85):=zE k4 3 _;have a4:=zG v f5 (λb hb h=>by unfold Is at h;subst h;exact b3 hb);have g0:Fr (λb=>b=X\/(ah U (cntL ds L 0 (ds.take k)).length cc).ownBlock=B b) W3 (w4.setCell ⟨X,3,f⟩ (.slice Z ((cntL ds L 0 (ds.take k)).length+1) a2)):=((b7.mono zn).step a9 (λb _ h=>.inr h)).step f5 (λb _ h=>.inl h);have HR:=zg3 k5 a4 g0;have k7:=zh b1;clear v J a9 k4 f5 k5 a4 g0 b3 b7 b1
     go_wp2_with fail
     refine ba ⟨Fr.setCell (ag _ _) (λ_=>.inl rfl) _,?_⟩;refine zV ?_;clear D a8 b0;have h9:ae (Fr (λb=>X<=b) W0 W3):=Hf.out.step y zn
     go_wp2_with fail
     go_roundw
     case rel=>exact⟨k+1,Z,a2,by omega,by go_num,by rw[A.out,bo];exact HR.out.1,by rw[A.out,bo,zCt];exact HR.out.2.1,h9.out.step HR.out.2.2 (λb _ h=>by
      rcases h with h|h
      .omega
      .have:=h8.out _ h;omega)⟩
     case measure=>simp[az];omega
     )
  .obtain rfl:k=ds.length:=by omega
   have hC:cntL ds L 0 (ds.take ds.length)=cntL ds L 0 ds:=by rw[cf]
   rw[hC]at kx O;have i8:=zCg ds L ds 0;have k3:wr.cell? ⟨X,3,f⟩=B (.slice U (cntL ds L 0 ds).length cc):=zB kx 3;obtain⟨a3,c3,hv,j1,m0⟩:=Srcs.of_own O;have j2:=zAG O;injection hv with e1 e2 e3
   subst e1;subst e3;obtain⟨WL,k8⟩:∃ WL,WL=wr:=⟨_,rfl⟩
   have g4:∀ I,U=B I->I.block<(wr:E):=λI e=>by obtain⟨cs,hc⟩:=j2 I e;exact zC hc
   have g5:∀ I,U=B I->X+1<=I.block:=λI e=>zP O (by rw[e];rfl)
   have j3:ae (Fr (λb=>X<=b) W0 wr):=N;have j4:=zCf ds L ds 0;have k9:=zh j4;have m4:X<(wr:E):=zC kx;clear hC N j4 g1
   go_wp2_with fail
   subst k8
   go_loopw [62] (λi wr=>∃ (j:E) (sa:ak am) (sc:E),j<=(cntL ds L 0 ds).length/\i=.int a0 (j:af)/\(wr.heap[X]?=B (aa (rcs ka kn kc wt a ds.length u U (cntL ds L 0 ds).length cc ea en ec sa (((cntL ds L 0 ds).take j).filter λs=>!virB ds s.d.index).length sc ((w:E)+2) ((w:E)+3) f 0 0) 85)/\wr.ownsRow (WL:E) 134 13 (.slice sa (((cntL ds L 0 ds).take j).filter λs=>!virB ds s.d.index).length sc) (((cntL ds L 0 ds).take j).filter λs=>!virB ds s.d.index).length (sflat (((cntL ds L 0 ds).take j).filter λs=>!virB ds s.d.index))/\Fr (λb=>b=X\/(WL:E)<=b) WL wr)) (λi _=>(cntL ds L 0 ds).length-(az i).toNat)
   case atStart=>exact⟨0,f,0,by omega,rfl,by simpa using kx,by simpa [sflat]using bs _ _ _ _,ag _ _⟩
   case round=>
    obtain⟨j,sa,sc,hj,rfl,b8,F,N⟩:=hrel;by_cases g1:j<(cntL ds L 0 ds).length
    .have i6:(j:af)<(cntL ds L 0 ds).length:=by omega
     have g6:Srcs wr U cc (cntL ds L 0 ds):=j1.fr N (λI e _ h=>by
      have h1:=g4 I e;have h2:=g5 I e;rcases h with h|h<;>omega)
     obtain⟨cb,j5,s,rfl,hs,⟨c0,c1,c2,c3,c4,c5,c6,c7,c8,c9,l0,l1,l2⟩,m5⟩:=g6.elem g1;have a5:=k9.out s (bq hs);have h6:=HT.out.iwf a5.1;have g3:ae ((cntL ds L 0 ds).take (j+1)=(cntL ds L 0 ds).take j++[s]):=by unfold ae;rw[cd,hs];rfl
     have n5:(((cntL ds L 0 ds).take j).filter λs=>!virB ds s.d.index).length<=250:=by
      have h1:=List.length_filter_le (λs:Src=>!virB ds s.d.index) ((cntL ds L 0 ds).take j);have h2:((cntL ds L 0 ds).take j).length<=j:=by simp;omega
      have:=Hn.out;omega
     have d6:Fr (λb=>X<=b) W0 wr:=j3.out.step N (λb _ h=>by rcases h with h|h<;>omega);have d4:Fr (From (w:E)) w wr:=(h5.out.mono zn).step d6 (λb _ h=>by omega);obtain⟨W1,b6,a7,d1⟩:=zy wr (aa s.vals 134);have V:Fr (From (w:E)) w W1:=d4.step a7 zn;have d5:=a7.heap (d6.heap b4 (λh=>by omega)) id;have t4:W1.cell? ⟨w,0,f⟩=B (.slice a ds.length u):=zB d5 0;have z1:=(SrcB0.of d1).c1;have g9:=zER a u ds d0 s.d.index W1 (h4.out W1 V) (HE.out W1 V);unfold Src.vals at b6;clear hs a5
     go_upto_region 12 with(fail)
     rw[<-b6];clear b6 c0 c1 c2 c3 c4 c5 c6 c7 c8 c9 l0 l1 l2
     go_wp2_with fail
     refine g9.mono ?_;rintro e w3 ⟨rfl,y⟩;clear g9 t4 z1;have z:Fr No wr w3:=a7.step y zi;have dw:=y.heap d1 id;have kw:=z.heap b8 id;have Y:=zG F z (λ_ _=>id);have Hf:=zh (N.step z zn);have k1:=z.size;have n6:=N.size;clear d1 d5 a7;rcases hq:virB ds s.d.index with _|_
     .have A:ae ((((cntL ds L 0 ds).take (j+1)).filter λs=>!virB ds s.d.index)=(((cntL ds L 0 ds).take j).filter λs=>!virB ds s.d.index)++[s]  ):=by unfold ae;rw[g3.out,bz];simp[hq]
      clear hq;have h7:=λb (h:(ah sa (((cntL ds L 0 ds).take j).filter λs=>!virB ds s.d.index).length sc).ownBlock=B b)=>zY F h
      have h8:ae (∀ b,(ah sa (((cntL ds L 0 ds).take j).filter λs=>!virB ds s.d.index).length sc).ownBlock=B b->(WL:E)<=b):=λb h=>zP F h
      have k2:(wr:E)<(w3:E):=zC dw;have i9:X<(wr:E):=zC b8;clear b8 d4 z V
      go_upto_region 13 with(fail)
      refine zZ (λb=>b=X\/(ah sa (((cntL ds L 0 ds).take j).filter λs=>!virB ds s.d.index).length sc).ownBlock=B b\/(w3:E)<=b) (.q 0 (.q 1 (.q 2 (.q 3 (.q 5 (.m2 4 (.m1 6 (.m1 7 (.q 8 (.q 9 (.m1 10 .fin))))) 6 (.m1 4 (.m1 7 (.q 8 (.q 9 (.m1 10 .fin))))))))))) _ (by kernel_rfl) (by kernel_rfl) (λW3 y=>?_) zj;have a8:=y.heap kw id;have D:=zG Y y (λ_ _=>id);have b0:=zK D a8 (by decide);have d3:=y.heap dw id;have s3:=y.size;have R:∀ g:Gr (λb=>b=X\/(ah sa (((cntL ds L 0 ds).take j).filter λs=>!virB ds s.d.index).length sc).ownBlock=B b\/(w3:E)<=b) W3,SrcB0 g.W (wr:E) s:=λg=>SrcB0.of (g.fr.heap d3 (λh=>by
       rcases h with h|h|h
       .omega
       .have:=h7 _ h;omega
       .omega))
      have e0:=λg=>(R g).c0
      have e1:=λg=>(R g).c1
      have e2:=λg=>(R g).c2
      have e3:=λg=>(R g).c3
      have e4:=λg=>(R g).c4
      have e5:=λg=>(R g).c5
      have e6:=λg=>(R g).c6
      have e7:=λg=>(R g).c7
      have e8:=λg=>(R g).c8
      have e9:=λg=>(R g).c9
      have l3:=λg=>(R g).c10
      have l4:=λg=>(R g).c11
      have l5:=λg=>(R g).c12
      clear R d3
      repeat((first|apply zL rfl rfl rfl|apply zJ rfl rfl rfl);intro k6 hK;go_big_quiet_op;go_big_quiet_on)
      clear e0 e1 e2 e3 e4 e5 e6 e7 e8 e9 l3 l4 l5;have c3:W3.cell? ⟨X,5,f⟩=B (.slice sa (((cntL ds L 0 ds).take j).filter λs=>!virB ds s.d.index).length sc):=zB a8 5;refine zAA rfl rfl ?_ ?_
      focus
       go_wp2_with fail
       refine zq ?_;apply zH;exact rfl
       go_wp2_with fail
       refine zp ?_;clear c3
      rotate_left 1
      focus
       go_wp2_with fail
       refine zp ?_;apply zH;exact rfl;have c7:∀ o,(W3.alloc o).cell? ⟨X,5,f⟩=B (.slice sa (((cntL ds L 0 ds).take j).filter λs=>!virB ds s.d.index).length sc):=λo=>((ag No W3).alloc o).cell c3 id
       clear c3
       go_wp2_with fail
       refine zq ?_;clear c7
      all_goals (
       apply zH;exact rfl
       go_wp2_with (at_builtin;refine bu _ rfl _ _ 81 rfl (WL:E) 134 i0 (ay #[.int a0 0,.int a0 0,.int a0 0,.string ap,.string ap,.string ap,.string ap,.string ap,.int a0 0,.int a0 0,.slice f 0 0,.string ap,.int a0 0]) 13 168 cl i1 i2 i3 i4 rfl (by decide) _ _ _ rfl (D.alloc _) ⟨W3,0,f⟩ 1 1 (Src.vals s).toList rfl rfl (zg _ (Src.vals s) _ rfl) (zCP _) (by unfold maxLen;omega) (by omega) (by first|omega|(simp;done)|(simp;omega)) ?_;intro v' w4 v J _ b1;obtain⟨Z,a2,rfl⟩:=zI v)
       have b7:Fr No W3 (W3.alloc (aa (Src.vals s) 134)):=(ag _ _).alloc _;have a9:Fr (λb=>(ah sa (((cntL ds L 0 ds).take j).filter λs=>!virB ds s.d.index).length sc).ownBlock=B b) (W3.alloc (aa (Src.vals s) 134)) w4:=bp J;have k4:=a9.heap (b7.heap a8 id) (λe=>b0 e);have c3:w4.cell? ⟨X,5,f⟩=B (.slice sa (((cntL ds L 0 ds).take j).filter λs=>!virB ds s.d.index).length sc):=zB k4 5;have f3:w4.frozen? ⟨X,5,f⟩=false:=zD k4 5;have b3:=zK v k4 (by decide);refine ba ⟨a9.mono (λb _ h=>.inr (.inl h)),?_⟩
       repeat((first|apply zL rfl rfl rfl|apply zJ rfl rfl rfl);intro k6 hK;go_big_quiet_op;go_big_quiet_on)
       apply zH;exact rfl;have f5:Fr (Is (X)) w4 (w4.setCell ⟨X,5,f⟩ (.slice Z ((((cntL ds L 0 ds).take j).filter λs=>!virB ds s.d.index).length+1) a2)):=bm (ag _ _) _;have k5:((w4.setCell ⟨X,5,f⟩ (.slice Z ((((cntL ds L 0 ds).take j).filter λs=>!virB ds s.d.index).length+1) a2))).heap[X]?=B (aa (rcs ka kn kc wt a ds.length u (B ⟨cb,j5,f⟩) (cntL ds L 0 ds).length cc ea en ec Z ((((cntL ds L 0 ds).take j).filter λs=>!virB ds s.d.index).length+1) a2 ((w:E)+2) ((w:E)+3) f 0 0) 85):=zE k4 5 _;have a4:=zG v f5 (λb hb h=>by unfold Is at h;subst h;exact b3 hb);have g0:Fr (λb=>b=X\/(ah sa (((cntL ds L 0 ds).take j).filter λs=>!virB ds s.d.index).length sc).ownBlock=B b) W3 (w4.setCell ⟨X,5,f⟩ (.slice Z ((((cntL ds L 0 ds).take j).filter λs=>!virB ds s.d.index).length+1) a2)):=((b7.mono zn).step a9 (λb _ h=>.inr h)).step f5 (λb _ h=>.inl h);have HR:=zg3 k5 a4 g0;have k7:=zh b1;clear v J a9 k4 f5 k5 a4 g0 b3 b7 b1
       go_wp2_with fail
       refine ba ⟨Fr.setCell (ag _ _) (λ_=>.inl rfl) _,?_⟩;refine zV ?_;clear D a8 b0;have h9:ae (Fr (λb=>b=X\/(WL:E)<=b) WL W3):=Hf.out.step y zn
       go_wp2_with fail
       go_roundw
       case rel=>exact⟨j+1,Z,a2,by omega,by go_num,by rw[A.out,bo];exact HR.out.1,by rw[A.out,bo,zCt];exact HR.out.2.1,h9.out.step HR.out.2.2 (λb _ h=>by
        rcases h with h|h
        .exact .inl h
        .exact .inr (h8.out _ h))⟩
       case measure=>simp[az];omega
       )
     .have A:ae ((((cntL ds L 0 ds).take (j+1)).filter λs=>!virB ds s.d.index)=(((cntL ds L 0 ds).take j).filter λs=>!virB ds s.d.index)):=by unfold ae;rw[g3.out,bz];simp[hq]
      clear F b8
      go_wp2_with fail
      go_roundw
      case rel=>exact⟨j+1,sa,sc,by omega,by go_num,by rw[A.out];exact kw,by rw[A.out];exact Y,Hf.out⟩
      case measure=>simp[az];omega
    .obtain rfl:j=(cntL ds L 0 ds).length:=by omega
     rw[cf]at b8 F;have g6:Srcs wr U cc (cntL ds L 0 ds):=j1.fr N (λI e _ h=>by
      have h1:=g4 I e;have h2:=g5 I e;rcases h with h|h<;>omega)
     have h0:BlkT wr U 134:=j2.fr N (λI e h=>by
      have h1:=g4 I e;have h2:=g5 I e;rcases h with h|h<;>omega)
     have d6:Fr (λb=>X<=b) W0 wr:=j3.out.step N (λb _ h=>by rcases h with h|h<;>omega);have j6:Fr No w wr:=(h5.out.step d6 (λb hb h=>by
      have:=HX.out;omega))
     have l6:=HX.out;obtain⟨l7,l8⟩:=HM.out;have hR:RSt ⟨ka,kn,kc,wt,a,ds.length,u,ea,en,ec,U,cc,cntL ds L 0 ds,(w:E)+2,(w:E)+3,(w:E)+4,(w:E),(WL:E)⟩ wr ((cntL ds L 0 ds).filter λs=>!virB ds s.d.index) [] []:=
      ⟨⟨sa,sc,f,0,by rw[<-l6];exact b8,F,bs _ _ _ _⟩,g6,λI e=>⟨by have:=g5 I e;show (w:E)<=I.block;omega,g4 I e,h0⟩,l7.fr d6 (λh=>by omega),l8.fr d6 (λh=>by omega),by simp,by dsimp only;omega⟩
     have HR:=zg2 hR N.size;clear hR b8 F g6 h0 N
     go_wp2_with fail
     go_ret;exact⟨⟨U,cc,(WL:E),by rw[HX.out];rfl,HR.out.1,HR.out.2⟩,j6⟩
end Go.Proofs.YtckkocmhlhefpaaGreatDoor
