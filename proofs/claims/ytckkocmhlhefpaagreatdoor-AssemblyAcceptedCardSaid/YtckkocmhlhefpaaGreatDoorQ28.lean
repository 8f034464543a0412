import Derived.Test.YtckkocmhlhefpaaGreatDoorQ27
namespace Go.Proofs.YtckkocmhlhefpaaGreatDoor
open Go.RowKit Go.Maps Go.Shelf
set_option linter.unusedVariables false
set_option maxRecDepth 100000
set_option maxHeartbeats 8000000
open BlkT renaming ne_blk->bb
open Dev renaming vals->aj
open Fr renaming refl->ai,of_grown_some->ar,setAt->az
open Go renaming undef->B,World->r,Addr->ah,Value->ak,maxLen->ap
open Go.Instr renaming lookup->ba
open Go.Maps renaming keyOf_int_mk->ao
open Go.Proofs.Tryz renaming prog->af,underlying3->am,func53->be
open Go.RowKit renaming Hid->H
open Go.Value renaming slice->a1
open IntKind renaming i64->Q
open Obj renaming cells->f
open OnlyN renaming mk->au
open Value renaming int->K,pointer->M,string->a0,agg->ab,slice->aq
open _root_ renaming Nat->C,Int->t,List->ad,Option->ag,ByteArray->aw
open _root_.Bool renaming false->m,true->ae
open _root_.ByteArray renaming empty->bc
open _root_.List renaming length_append->ax,mem_of_find?_eq_some->bd
open _root_.List.IsPrefix renaming subset->bf
open _root_.Nat renaming add_sub_cancel_left->ay
open _root_.Option renaming some->E,none->G
variable{n u o F I J:C}{w w':r}{a:ag ah}{S:C->Prop}{ds:ad Dev}{ix:t}
attribute [local go_sem] Oper.semAt_some
def EvL (n:C)(xs:ad ak):Prop:=∀ i,i<n->∃ (q c x:t) (p y:aw),xs[i*5]?=E (K Q q)/\xs[i*5+1]?=E (K Q c)/\xs[i*5+2]?=E (K Q x)/\xs[i*5+3]?=E (a0 p)/\xs[i*5+4]?=E (a0 y)
theorem EvL.nil: EvL 0 []:=λi h=>by omega
theorem EvL.snoc {u:ad ak}(h:EvL n u)(v:u.length=n*5)(o c x:t)(p y:aw):EvL (n+1) (u++[K Q o,K Q c,K Q x,a0 p,a0 y]):=λi A=>by
 by_cases z:i<n
 .obtain⟨o,c,x,p,y,D,F,I,J,N⟩:=h i z;refine⟨o,c,x,p,y,?_,?_,?_,?_,?_⟩<;>rw[List.getElem?_append_left (by omega)]<;>assumption
 .obtain rfl:i=n:=by omega
  refine⟨o,c,x,p,y,?_,?_,?_,?_,?_⟩<;>rw[List.getElem?_append_right (by omega),v]
  .rw[Nat.sub_self];rfl
  .rw[ay];rfl
  .rw[ay];rfl
  .rw[ay];rfl
  .rw[ay];rfl
theorem Evs.of_own {c:C}{y:ad ak}(h:w.ownsRow o 114 5 (aq a n c) n y)(D:EvL n y):Evs w a n y:=by
 refine⟨λe=>(zG6 h e).1,λN e=>?_,D⟩;obtain⟨_,⟨z,_⟩|⟨g,F,I,z,O,A,R,U,V,J⟩⟩:=h
 .cases z;cases e
 .cases z;cases e;refine⟨rfl,zC A,λj u v=>?_⟩;have X:=(List.getElem?_eq_some_iff.1 v).1;rw[zB A,Nat.zero_add,<-Array.getElem?_toList];rw[<-J,List.getElem?_take]at v;split at v
  .exact v
  .cases v
theorem zBu {α:Type}{L:ad α}{p:t×α}(h:p∈revR L):p.2∈L:=by
 unfold revR at h;obtain⟨y,o,u⟩:=List.mem_map.1 h;rw[List.mem_reverse]at o;have v:=List.mem_zipIdx o;rw[<-u];dsimp only;rw[v.2.2];exact List.getElem_mem _
structure KrI (w0:r)(bt rb:C)(pre:ad (t×Dev))(V:C->Prop)(W:r):Prop where
 st:∃ (av:ag ah) (cv:C) (xs:ad ak),W.heap[bt]?=E (f #[aq av pre.length cv] 58)/\W.ownsRow rb 114 5 (aq av pre.length cv) pre.length xs/\EvL pre.length xs/\V=λb=>b=bt\/(a1 av pre.length cv).ownBlock=E b
 fr:Fr (λb=>b=bt\/(w0:C)<=b) w0 W
theorem KrI.mv {u:r}{D:C}{pre:ad (t×Dev)}{V:C->Prop}{A I:r}(h:KrI u D F pre V A)(v:Fr S A I)(y:∀ b,S b->¬ V b/\(u:C)<=b):KrI u D F pre V I:=by
 obtain⟨J,N,O,R,U,X,Y⟩:=h.st;subst Y;exact⟨⟨J,N,O,v.heap R (λo=>(y _ o).1 (.inl rfl)),zG U v (λb o z=>(y _ z).1 (.inr o)),X,rfl⟩,h.fr.step v (λb o z=>.inr (y b z).2)⟩
theorem KSt.obj {y:ag ah}{N:C}(h:KSt w F o a u ds y I J ix)(z:Fr (Is N) w w')(A:∀ cs T R,¬ w.heap[N]?=E (f cs T R)):KSt w' F o a u ds y I J ix:=by
 obtain⟨U,V,X⟩:=Tr.typ h.tr h.ta h.te z (λb cs T v D=>absurd (v▸D) (A cs T (0,0)));obtain⟨Y,O⟩:=h.own;refine⟨z.heap h.blk (λe=>A _ _ _ (e▸h.blk)),U,V,X,⟨Y,zG O z (λb v e=>?_)⟩,h.nm⟩;cases y with
 | none=>cases v
 | some Z=>
  obtain⟨cs,D⟩:=zAG O Z rfl;cases v;exact A _ _ _ (e▸D)
def RemK (w w':r)(kb base:C)(ds:ad Dev)(n:t)(en:C)(ix:t):Prop:=
 ∃ a' cap' ds' ev' en' ec',KSt w' kb base a' cap' ds' ev' en' ec' ix/\en'<=en+ds.length/\Cop w w' (w:C) (remL n ds) ds'
theorem zL3 (I F:C)(a:ag ah)(U:C)(ds:ad Dev)(ev:ag ah)(en ec:C)(ix k:t)(b8 nm vl:aw)(x d dn:Dev)(w:r)(X:KSt w I F a U ds ev en ec ix)(p3:en<=60000)(hn:ds.length<=256)(O:F<=(w:C))(i3:look ds d.index=E dn)(j1:∀ w' o,Cop w w' (w:C) (remL d.index ds) o->TreeWf o):
  Calls af 53 #[M (E ⟨I,0,G⟩),ab (ocs k b8 x nm vl),ab d.vals] w λe w'=>e=.returned (.int Q 0)/\RemK w w' I F ds d.index en ix/\Fr (λb=>b=I\/(a1 ev en ec).ownBlock=E b) w w':=by
 obtain⟨ie,m6,m7,m8,m9⟩:=info_parts infoE;refine(callsIn_wide (n:=12)).1 (callsIn_of_wp_marks be rfl trivial (wpIn_wide.2 ?_));simp only[Tryz.ntmps53,List.size_toArray,List.length_cons,List.length_nil,Nat.reduceAdd,Nat.reduceSub,Array.replicate_succ,Array.replicate_zero,List.push_toArray,List.append_toArray,List.nil_append,List.cons_append];obtain⟨V0,e6,f0,a3,-⟩:=zw w (f #[M (E ⟨I,0,G⟩)] 26) (f (ocs k b8 x nm vl) 38);obtain⟨W0,b9,f1,-,-⟩:=zw V0 (f d.vals 36) (f #[.slice G 0 0] 58);have sV:(V0:C)=(w:C)+1+1:=by rw[e6];simp
 have b3:=f1.heap a3 id;have b5:W0.heap[(w:C)+1+1]?=E (f d.vals 36):=by rw[b9,<-sV];exact zO _ _ _
 have b7:W0.heap[(w:C)+1+1+1]?=E (f #[.slice G 0 0] 58):=by rw[b9,<-sV];exact zR _ _ _
 have hW:Fr No w W0:=f0.step f1 zi;have n2:=X.tr.wf.1.iwf (zAL i3).1;rw[(zAL i3).2]at n2;unfold aj at b9;unfold ocs at e6;clear f0 a3 sV f1;unfold aj ocs
 go_upto_region 2 with(fail)
 rw[<-e6,<-b9];clear e6 b9;have HK:=zh X;have n4:=zh j1;have n5:=zC X.blk;have n8:=zC b7;have j2:=hW.heap X.blk id;clear X j1;refine zQ No [(0,m),(1,m),(2,m),(3,m),(4,m),(5,m),(6,ae),(7,ae)] (by kernel_rfl) (by kernel_rfl) (λw1 b1=>?_);have c3:=b1.heap b3 id;have c5:=b1.heap b5 id;have c7:=b1.heap b7 id;have ck:=b1.heap j2 id;have t3:∀ g:Gr No w1,g.W.cell? ⟨w,0,G⟩=E (M (E ⟨I,0,G⟩)):=λg=>zB (g.fr.heap c3 id) 0
 have t5:∀ g:Gr No w1,g.W.cell? ⟨(w:C)+1+1,0,G⟩=E (.int Q d.index):=λg=>zB (g.fr.heap c5 id) 0
 have t0:∀ g:Gr No w1,g.W.cell? ⟨I,0,G⟩=E (.slice a ds.length U):=λg=>zB (g.fr.heap ck id) 0
 have x1:=hW.step b1 zi;have g6:=zJe a U F ds d.index w1 (HK.out.tr.no x1) hn;clear b3 b5 b7 j2 hW b1
 repeat (apply zT rfl rfl rfl;intro j0 X;go_big_quiet_op;go_big_quiet_on)
 clear t3 t5 t0;apply zt;exact rfl
 go_wp2_with fail
 refine g6.mono ?_;rintro e w2 ⟨⟨a2,c2,J,rfl,j3,_,g8,i4⟩,a5⟩;have p4:J.length<=256:=by have:=i4.len;have:=zDK d.index ds (λ_=>m);omega
 have j4:=zh i4;clear g6 i4
 go_wp2_with fail
 refine zf a5 ?_;apply zt;exact rfl
 go_wp2_with fail
 refine(zIX _ _ _ _).mono ?_;rintro e w3 ⟨rfl,rfl⟩;have b2:Fr No w2 (w2.alloc (f #[.slice a2 J.length c2] 45)):=(ai _ _).alloc _;have db:=zF w2 (f #[.slice a2 J.length c2] 45);have e7:=j3.no b2 (λ_=>id);have x3:=(x1.step a5 zi).step b2 zi;have d3:=(a5.step b2 zi).heap c3 id;have d5:=(a5.step b2 zi).heap c5 id;have d7:=(a5.step b2 zi).heap c7 id;have n9:(w:C)+3<(w2:C):=by have:=zC c7;have:=a5.size;omega
 have p5:(w2:C)<(w2.alloc (f #[.slice a2 J.length c2] 45)).heap.size:=by simp
 have a6:∀ v,a2=E v->(w:C)+3<v.block:=λv e=>by have:=g8 v e;have:=zC c7;omega
 clear c3 c5 c7 ck j3 a5 b2 x1 g8
 go_wp2_with fail
 refine au ⟨(ai No _).alloc _,?_⟩;refine zb ?_;generalize d1:(w2:C)=B2 at *;generalize w2.alloc (f #[.slice a2 J.length c2] 45)=W2 at *
 go_wp2_with fail
 refine(wpIn_wide (n:=12)).1 (zAm (α:=t×Dev) (T:=λ_=>False) (V0:=Is ((w:C)+1+1+1)) rfl (by omega) (gf:=124) (lb:=#[M (E ⟨B2,0,G⟩)]) rfl trivial (enters_of Tryz.func124 (by kernel_rfl) rfl) (encs:=λx:t×Dev=>#[.int Q x.1,ab x.2.vals]) (λ_=>rfl) (λb h=>h.elim) (λb h=>by omega)
  (zB8 11 (by omega) B2 a2 c2 J W2 (Is ((w:C)+1+1+1)) db e7 (by omega) ⟨λh=>by omega,λv e _ h=>by have:=a6 v e;omega⟩)
  (KrI W2 ((w:C)+1+1+1) ((W2:C)+2)) (λ_ _ _ h b O=>by
   obtain⟨av,cv,xs,h1,h2,_,rfl⟩:=h.st;rcases O with rfl|O
   .exact zC h1
   .exact(zAD h2 O).2)
  (λs V A p6 S h hf hS=>h.mv hf (λb O=>⟨(hS b O).1,(hS b O).2.resolve_left id⟩))
  ⟨⟨G,0,[],d7,World.ownsRow_nil _ _ _ _,EvL.nil,by funext b;unfold Is;simp[Value.ownBlock]⟩,ai _ _⟩
  (λy V z W=>∃ Bx,(W2:C)+2<=Bx/\W.heap[Bx]?=E (f y.2.vals 36)/\¬ V Bx/\z={ tmps:=#[M (E ⟨I,0,G⟩),ab #[.int Q k,.string b8,.int Q x.index,.int Q x.parent,.string x.name,.string x.orig,.string x.sub,.string x.drv,.string x.ali,.int Q x.kind,.int Q x.num,.slice x.aa x.an x.ac,.string nm,.string vl],ab #[.int Q d.index,.int Q d.parent,.string d.name,.string d.orig,.string d.sub,.string d.drv,.string d.ali,.int Q d.kind,.int Q d.num,.slice d.aa d.an d.ac],M (E ⟨w,0,G⟩),M (E ⟨(w:C)+1,0,G⟩),M (E ⟨(w:C)+1+1,0,G⟩),.int Q 0,M (E ⟨(w:C)+1+1+1,0,G⟩),B,M (E ⟨Bx,0,G⟩),B,B,M (E ⟨I,0,G⟩),M (E ⟨I,0,G⟩),M (E ⟨I,0,G⟩),ab #[.slice a ds.length U],M (E ⟨(w:C)+1+1,0,G⟩),.int Q d.index,.slice a2 J.length c2,.func (.func 124) #[] #[M (E ⟨B2,0,G⟩)],.int Q y.1,ab y.2.vals,B,B,B,B,B,B,B,B,B,B,B,B,B,B,B,B,B,B,B,B,B,B,B,B,B,B,B],defers:=[] })
  (λy V z A p6 h hf=>by obtain⟨Bx,h1,h2,h3,h4⟩:=h;exact⟨Bx,h1,hf.heap h2 (λe=>by omega),h3,h4⟩)
  ?assign ?body ?done)
 case assign=>
  intro l pre V y W j0 hi g9 X;have o0:∀ b,V b->b<(W:C):=λb O=>by
   obtain⟨av,cv,xs,h1,h2,_,rfl⟩:=hi.st;rcases O with rfl|O
   .exact zC h1
   .exact(zAD h2 O).2
  have p7:=λz W' (h1:Fr No W W') h2=>X z W' h1 h2
  clear a6 d3 d5 d7 db e7 x3;unfold aj
  gi_wp2
  exact X _ _ ((ai _ _).alloc _) ⟨(W:C),g9,zF _ _,λh=>by have:=o0 _ h;omega,rfl⟩
 case body=>
  rintro l pre V y z W hi ⟨Bx,p8,j5,j6,rfl⟩ d2 g9;obtain⟨av,cv,xs,h1,h2,h3,rfl⟩:=hi.st;have j7:=zBu (bf d2 (show y∈pre++[y] by simp));have p9:pre.length<=256:=by
   have h7:=d2.length_le;rw[zAV]at h7;simp at h7;omega
  obtain⟨d0,j8,j9⟩:=j4.out.mem j7;have k0:(Lit.int Q y.2.index).wf=true:=by
   rw[j9.eq];show (Lit.int Q d0.index).wf=ae
   exact HK.out.tr.wf.1.iwf (zBM j8)
  have o1:=x3.size;have fw:Fr (From (w:C)) w W:=(x3.mono zn).step hi.fr (λb O h=>by omega);have ek:=fw.heap HK.out.blk (λh=>by omega);have k1:=HK.out.tr.keep fw (λb O _ h=>by omega);have e3:=hi.fr.heap d3 (λh=>by have:=zC d3;omega);have HI:=zh hi.fr;clear hi d2 j7 j8 j9 a6 d3 d5 d7 db e7 x3 fw;dsimp only at j6;dsimp only
  gi_upto_region 4 with(fail)
  refine zCF 7 (λb=>(a1 av pre.length cv).ownBlock=E b) (.q 0 (.q 1 (.q 2 (.q 3 (.m1 4 (.m1 5 (.m1 6 (.m1 7 .fin)))))))) _ (by kernel_rfl) (by kernel_rfl) (λW3 R=>?_) zj;have s3:=R.size;have k7:=R.heap h1 id;have a7:=zG h2 R (λ_ _=>id);have n7:=zK a7 k7 (by decide);have nx:¬ (a1 av pre.length cv).ownBlock=E Bx:=λh=>j6 (.inr h)
  have g3:=R.heap e3 id;have n3:=zK a7 g3 (by decide);have t7:∀ g:Gr (λb=>(a1 av pre.length cv).ownBlock=E b) W3,g.W.cell? ⟨(w:C)+1+1+1,0,G⟩=E (.slice av pre.length cv):=λg=>zB (g.fr.heap k7 n7) 0
  have t3:∀ g:Gr (λb=>(a1 av pre.length cv).ownBlock=E b) W3,g.W.cell? ⟨w,0,G⟩=E (M (E ⟨I,0,G⟩)):=λg=>zB (g.fr.heap g3 n3) 0
  have tx:∀ g:Gr (λb=>(a1 av pre.length cv).ownBlock=E b) W3,g.W.cell? ⟨Bx,0,G⟩=E (.int Q y.2.index):=λg=>zB (g.fr.heap (R.heap j5 id) nx) 0
  have k2:=zHE I a U F ds ev en ec ix 2 y.2.index W3 (R.heap ek id) (k1.no R) (by omega) k0 HK.out.nm;have o2:=zh R;clear j5 h1 h2 ek k1 e3 g3 R k0
  repeat (apply tx_q rfl rfl rfl;intro j0 X;go_big_quiet_op;go_big_quiet_on)
  clear t7 t3 tx n3 nx;apply zA9;exact rfl
  go_wp2_with fail
  refine k2.mono ?_;rintro e W4 ⟨⟨sp,rfl⟩,b4⟩;clear k2;have s4:=b4.size;have h0:=zG a7 b4 (λ_ _=>id);have al:=(ai No W4).alloc (f #[.int Q 0,.int Q 2,.int Q y.2.index,.string sp,.string ⟨#[]⟩] 114);have a8:=zG h0 al (λ_ _=>id);have k5:=al.heap (b4.heap k7 id) id;have k3:=zh al;have o3:=zh (o2.out.step b4 zi);clear a7 h0 k7 al
  go_wp2_with fail
  refine au ⟨λ_=>b4.mono zn,?_⟩;clear b4;apply zA9;exact rfl
  go_wp2_with fail
  refine au ⟨λ_=>k3.out.mono zn,?_⟩;apply zA9;exact rfl
  go_wp2_with (at_builtin;refine wpList_append_own_at _ rfl _ _ 58 rfl ((W2:C)+2) 114 ie (ab #[.int Q 0,.int Q 0,.int Q 0,.string bc,.string bc]) 5 56 Tryz.underlying58 m6 m7 m8 m9 rfl (by decide) _ _ _ rfl a8 ⟨W4,0,G⟩ 1 1 [.int Q 0,.int Q 2,.int Q y.2.index,.string sp,.string ⟨#[]⟩] rfl rfl (zg _ #[.int Q 0,.int Q 2,.int Q y.2.index,.string sp,.string ⟨#[]⟩] _ rfl) (λu hu=>by simp at hu;rcases hu with rfl|rfl|rfl|rfl|rfl<;>rfl) (by unfold ap;omega) (by omega) (by rw[World.size_alloc];omega) ?_;intro v' w6 a9 k4 _ o4;obtain⟨e8,e9,rfl⟩:=zI a9)
  have gf:Fr (λb=>(a1 av pre.length cv).ownBlock=E b) (W4.alloc (f #[.int Q 0,.int Q 2,.int Q y.2.index,.string sp,.string ⟨#[]⟩] 114)) w6:=Fr.of_grown k4;refine zf gf ?_;have k6:=gf.heap k5 n7;have n6:=zK a9 k6 (by decide);have t7:w6.cell? ⟨(w:C)+1+1+1,0,G⟩=E (.slice av pre.length cv):=zB k6 0;have f7:w6.frozen? ⟨(w:C)+1+1+1,0,G⟩=false:=zD k6 0;have x8:Fr (Is ((w:C)+1+1+1)) w6 (w6.setCell ⟨(w:C)+1+1+1,0,G⟩ (.slice e8 (pre.length+1) e9)):=az (ai _ _) _;have k8:=zE k6 0 (.slice e8 (pre.length+1) e9);have d4:=zG a9 x8 (λb O h=>n6 (by unfold Is at h;rw[<-h];exact O));have ff:Fr (λb=>b=(w:C)+1+1+1\/(a1 av pre.length cv).ownBlock=E b) W _:=(((o3.out.step k3.out zi).mono zn).step gf (λb _ h=>.inr h)).step x8 (λb _ h=>.inl h);have HR:=zg4 k8 d4 ff (h3.snoc a8.1 0 2 y.2.index sp ⟨#[]⟩);have HO:H (∀ b,(a1 e8 (pre.length+1) e9).ownBlock=E b->(W2:C)+2<=b):=λb h=>(zAD d4 h).1
  have o5:H (∀ b,(a1 av pre.length cv).ownBlock=E b->(W2:C)+2<=b):=λb h=>(zAD a8 h).1
  clear a8 a9 d4 k4 gf k5 k6 k8 x8 ff n6 n7 o4;apply zA9;exact rfl
  go_wp2_with fail
  refine au ⟨λh=>(h rfl).elim,?_⟩;refine zFy ?_;refine⟨_,?_,⟨⟨e8,e9,_,by rw[ax];exact HR.out.1,by rw[ax];exact HR.out.2.1,by rw[ax];exact HR.out.2.2.2,rfl⟩,HI.out.step HR.out.2.2.1 (λb O h=>?_)⟩,HR.out.2.2.1⟩
  .rintro b (h|h)
   .exact .inl (.inl h)
   .rw[ax]at h;exact .inr (HO.out b h)
  .rcases h with h|h
   .exact .inl h
   .exact .inr (by have:=o5.out b h;omega)
 case done=>
  rintro V W hi X i5;obtain⟨av,cv,xs,h1,h2,h3,i6⟩:=hi.st;have l0:(revR J).length=J.length:=zAV J;rw[l0]at h1 h2 h3 i6;rw[i6]at i5;have o1:=x3.size;have FW:Fr No w W:=(x3.step hi.fr (λb O h=>by omega))
  have ek:=FW.heap HK.out.blk id;have e3:=hi.fr.heap d3 (λh=>by have:=zC d3;omega);have e5:=hi.fr.heap d5 (λh=>by have:=zC d5;omega);have h5:=λ(W':r) (hf:Fr No W W')=>zHd a U F ds d.index dn W' (HK.out.tr.no (FW.step hf zi)) hn i3
  have h6:=zh h5;have HW:=zg5 FW h1 h2 h3 X;have r0:=zh i5;have h8:H (∀ y∈remL d.index ds,∃ l,Atts W y.aa y.ac l/\y.an=l.length):=λy hy=>by
   obtain⟨l',g1,g2,_⟩:=(HK.out.tr.el y (List.mem_filter.1 hy).1).att;exact⟨l',g1.no FW (λ_=>id),g2⟩
  clear hi h1 h2 h3 i6 i5 X h5 FW a6 d3 d5 d7 db e7 x3 l0 n8 n9
  go_upto_region 5 with(fail)
  go_cut [10,11]from 29 (λo6 o7 wy=>∃ Bt z N o,o6=M (E ⟨Bt,0,G⟩)/\o7=.int Q 0/\H (wy.heap[Bt]?=E (f #[.slice z (List.length o) N] 47)/\(W:C)<=Bt)/\H (Devs wy z N o/\BlkT wy z 36/\(∀ v,z=E v->(W:C)<=v.block)/\Cop W wy (W:C) (remL d.index ds) o)/\Fr No W wy)
  case first=>
   refine zZ (λb=>(W:C)<=b) (.q 0 (.q 1 (.q 2 (.q 3 (.q 4 (.q 5 (.m2 6 (.q 7 (.q 8 (.q 9 (.m1 10 (.m1 11 (.q 12 .fin)))))) 10 (.m1 6 (.q 7 (.q 8 (.q 9 (.m1 11 (.q 12 .fin))))))))))))) _ (by kernel_rfl) (by kernel_rfl) (λW8 D=>?_) zj;have s8:=D.size;have t3:∀ g:Gr (λb=>(W:C)<=b) W8,g.W.cell? ⟨w,0,G⟩=E (M (E ⟨I,0,G⟩)):=λg=>zB (g.fr.heap (D.heap e3 id) (λh=>by have:=zC e3;omega)) 0
   have t5:∀ g:Gr (λb=>(W:C)<=b) W8,g.W.cell? ⟨(w:C)+1+1,0,G⟩=E (.int Q d.index):=λg=>zB (g.fr.heap (D.heap e5 id) (λh=>by have:=zC e5;omega)) 0
   have t0:∀ g:Gr (λb=>(W:C)<=b) W8,g.W.cell? ⟨I,0,G⟩=E (.slice a ds.length U):=λg=>zB (g.fr.heap (D.heap ek id) (λh=>by have:=zC ek;omega)) 0
   have b6:=zh D;clear D
   repeat (apply zL rfl rfl rfl;intro j0 X;go_big_quiet_op;go_big_quiet_on)
   clear t3 t5 t0;refine zAA rfl rfl ?_ ?_
   focus
    go_wp2_with fail
    refine(h6.out W8 b6.out).mono ?_;rintro e w9 ⟨⟨z,N,o,rfl,hD,d6,Y,Z⟩,g0⟩;have s9:=g0.size;have HR:=zg4 hD d6 Y Z;clear hD d6 Y Z
    go_wp2_with fail
    refine zm g0 ?_
    repeat (apply zL rfl rfl rfl;intro j0 X;go_big_quiet_op;go_big_quiet_on)
    apply zH;exact rfl;obtain⟨WA,l1,fA,qA⟩:=zy w9 (f #[.slice G 0 0] 47)
    go_wp2_with fail
    refine zp ?_;rw[<-l1];clear l1;have HT:H (Devs WA z N o/\BlkT WA z 36/\(∀ v,z=E v->(W:C)<=v.block)/\Cop W WA (W:C) (remL d.index ds) o):=⟨HR.out.1.no fA (λ_=>id),HR.out.2.1.fr fA (λ_ _=>id),λv e=>by have:=HR.out.2.2.1 v e;omega,(HR.out.2.2.2.src b6.out h8.out s8).fr fA (λ_ _ _ _=>id)⟩
    have h9:H (Fr No W WA):=(b6.out.step g0 zi).step fA zi;have d1:H ((W:C)<=(w9:C)):=by unfold H;omega
    clear HR fA g0 s9;generalize (w9:C)=Bt at *
   rotate_left 1
   focus
    obtain⟨W9,l2,f9,q9⟩:=zy W8 (f #[.slice G 0 0] 47)
    go_wp2_with fail
    refine zp ?_;rw[<-l2];clear l2;apply zH;exact rfl
    go_wp2_with fail
    refine(h6.out W9 (b6.out.step f9 zi)).mono ?_;rintro e WA ⟨⟨z,N,o,rfl,hD,d6,Y,Z⟩,g4⟩;have s9:=f9.size;have qA:=g4.heap q9 id;have HT:H (Devs WA z N o/\BlkT WA z 36/\(∀ v,z=E v->(W:C)<=v.block)/\Cop W WA (W:C) (remL d.index ds) o):=⟨hD,d6,λv e=>by have:=Y v e;omega,Z.src (b6.out.step f9 zi) h8.out (by omega)⟩
    have h9:H (Fr No W WA):=(b6.out.step f9 zi).step g4 zi;have d1:H ((W:C)<=(W8:C)):=s8;clear hD d6 Y Z q9
    go_wp2_with fail
    refine zm g4 ?_
    repeat (apply zL rfl rfl rfl;intro j0 X;go_big_quiet_op;go_big_quiet_on)
    clear f9 g4 s9;generalize (W8:C)=Bt at *
   all_goals (
    apply zH;exact rfl;have y0:=zD qA 0;have z0:WA.cell? ⟨Bt,0,G⟩=E (.slice G 0 0):=zB qA 0;have fB:Fr (Is Bt) WA (WA.setCell ⟨Bt,0,G⟩ (.slice z o.length N)):=az (ai _ _) _;have qB:=zE qA 0 (.slice z o.length N);have n1:=bb HT.out.2.1 qA (by decide);have HU:H (Devs (WA.setCell ⟨Bt,0,G⟩ (.slice z o.length N)) z N o/\BlkT (WA.setCell ⟨Bt,0,G⟩ (.slice z o.length N)) z 36/\(∀ v,z=E v->(W:C)<=v.block)/\Cop W (WA.setCell ⟨Bt,0,G⟩ (.slice z o.length N)) (W:C) (remL d.index ds) o):=
     ⟨HT.out.1.fr fB (λv e _=>n1 v e),HT.out.2.1.fr fB n1,HT.out.2.2.1,HT.out.2.2.2.fr fB (λd hd=>by
      obtain⟨y,_,hy⟩:=HT.out.2.2.2.mem hd;exact bb hy.typ qA (by decide))⟩
    have o8:H (Fr No W (WA.setCell ⟨Bt,0,G⟩ (.slice z o.length N))):=h9.out.step fB (λb O h=>by have:=d1.out;omega);have o9:=zh qB;clear qB fB n1 qA
    go_wp2_with fail
    refine au ⟨Fr.setCell (ai _ _) (λ_=>d1.out) _,?_⟩
    repeat (apply zL rfl rfl rfl;intro j0 X;go_big_quiet_op;go_big_quiet_on)
    refine zV ?_
    go_wp2_with fail
    go_meet
    exact⟨Bt,z,N,o,rfl,rfl,⟨o9.out,d1.out⟩,HU,o8.out⟩
    )
  case rest=>
   obtain⟨Bt,z,N,o,rfl,rfl,l4,HU,D⟩:=hcut;have r1:I<(w:C):=n5;have k8:=D.heap ek id;have g3:=zB (D.heap e3 id) 0;have gB:=zB l4.out.1 0;have g7:=D.heap HW.out.2.1 id;have gd:=D.heap HW.out.2.2.2.2 id;have sW:=HW.out.1.size;have l3:=zC e3;have l7:=zC HW.out.2.1;have ld:=zC HW.out.2.2.2.2;have y0:=zD k8 0;have z0:wc.cell? ⟨I,0,G⟩=E (.slice a ds.length U):=zB k8 0;have f9:Fr (Is I) wc (wc.setCell ⟨I,0,G⟩ (.slice z o.length N)):=az (ai _ _) _;have k9:(wc.setCell ⟨I,0,G⟩ (.slice z o.length N)).heap[I]?=E (f (kcs z o.length N ev en ec ix) 60):=zE k8 0 _;obtain⟨xk,g5⟩:=HK.out.own;have d8:=zG g5 (HW.out.1.step D zi) (λ_ _=>id);have nk:=zK d8 k8 (by decide);have d9:=zG d8 f9 (λb O h=>by unfold Is at h;subst h;exact nk O);have l5:=(((Evs.of_own HW.out.2.2.1 HW.out.2.2.2.1).fr D (λ_ _=>id)).fr f9 (λv e h=>by
    have:=(zAD HW.out.2.2.1 (b:=v.block) (by rw[e];rfl)).1;unfold Is at h;omega))
   have H9:=zg3 (f9.heap g7 (λh=>by omega)) (f9.heap gd (λh=>by omega)) f9;have HB:=zh D;have p0:=(f9.cell g3 (λh=>by unfold Is at h;dsimp only at h;omega))
   go_upto_region 9 with(fail)
   generalize wc.setCell ⟨I,0,G⟩ (.slice z o.length N)=W9 at *;have s9:(w:C)<=(W9:C):=by have:=H9.out.2.2.size;have:=HB.out.size;omega
   have p1:=zB H9.out.1 0;have l6:=zKU I F z o.length N ev en ec ix av J.length cv xs xk W9 k9 d9 (by omega) (by omega) l5 (by omega) (λv e=>by
    have h1:=(zAD HW.out.2.2.1 (b:=v.block) (by rw[e];rfl)).1;exact⟨by omega,λh=>by have:=(zAD g5 h).2;omega⟩)
   have HX:=zg3 g5 k9 d9;clear k8 g3 gB g7 gd y0 z0 f9 k9 g5 d8 d9 l5 D l4 ek e3 e5
   go_wp2_with fail
   refine l6.mono ?_;rintro e i7 ⟨rfl,⟨l8,l9,p2,m0,e0⟩,a4⟩;clear l6 p0 p1;have i0:∀ b,(a1 ev en ec).ownBlock=E b->b<(w:C):=λb h=>(zAD HX.out.1 h).2
   have hS:∀ b cs T,(b=I\/(a1 ev en ec).ownBlock=E b)->W9.heap[b]?=E (f cs T (0,0))->T≠36/\T≠78:=by
    intro b cs T h hc;rcases h with rfl|h
    .rw[HX.out.2.1]at hc;cases hc;exact⟨by decide,by decide⟩
    .by_cases hT:T=114
     .subst hT;exact⟨by decide,by decide⟩
     .exact absurd h (zK HX.out.2.2 hc hT)
   have i8:∀ v:ah,(W:C)<=v.block->¬ Is I v.block:=λv h e=>by omega
   have C9:Cop W W9 (W:C) (remL d.index ds) o:=HU.out.2.2.2.fr H9.out.2.2 (λx hx v e=>by
    obtain⟨y,_,hy⟩:=HU.out.2.2.2.mem hx;exact i8 v (hy.fresh v e))
   have e1:Cop w W9 (w:C) (remL d.index ds) o:=C9.src HW.out.1 (λx hx=>by
    obtain⟨l',g1,g2,_⟩:=(HK.out.tr.el x (List.mem_filter.1 hx).1).att;exact⟨l',g1,g2⟩) sW
   have i1:Tr W9 F z N o:=e1.tr (λx hx=>⟨(HK.out.tr.el x (List.mem_filter.1 hx).1).sz,(HK.out.tr.el x (List.mem_filter.1 hx).1).drv⟩) (HU.out.1.fr H9.out.2.2 (λv e _=>i8 v (HU.out.2.2.1 v e))) (n4.out _ _ e1) (λv e=>by have:=HU.out.2.2.1 v e;omega) O;have i2:∀ x∈o,BlkT W9 x.aa 78:=λx hx=>by
    obtain⟨y,_,hy⟩:=e1.mem hx;exact hy.typ
   obtain⟨g1,g2,g3⟩:=Tr.typ i1 (HU.out.2.1.fr H9.out.2.2 (λv e=>i8 v (HU.out.2.2.1 v e))) i2 a4 hS;have i9:=C9.fr a4 (λx hx v e h=>by
    obtain⟨y,_,hy⟩:=C9.mem hx;have:=hy.fresh v e;rcases h with h|h
    .omega
    .have:=i0 _ h;omega)
   have e2:=a4.heap H9.out.2.1 (λh=>by
    rcases h with h|h
    .omega
    .have:=i0 _ h;omega)
   have b0:Fr (Is (W2:C)) i7 (i7.putObj (W2:C) (.deferred G)):=Fr.putObj _ _ _ rfl;have KS:KSt i7 I F z N o l8 (en+J.length) l9 ix:=⟨m0,g1,g2,g3,⟨p2,e0⟩,e1.names (λx hx=>HK.out.nm x (List.mem_filter.1 hx).1)⟩
   have m3:=KS.obj b0 (λcs T fz h=>by rw[e2]at h;cases h);have m4:=(i9.fr b0 (λx hx v e h=>by
    obtain⟨y,_,hy⟩:=i9.mem hx;have:=hy.fresh v e;unfold Is at h;omega)).src HW.out.1 (λx hx=>by
    obtain⟨l',g1,g2,_⟩:=(HK.out.tr.el x (List.mem_filter.1 hx).1).att;exact⟨l',g1,g2⟩) sW
   have r2:J.length<=ds.length:=by have:=j4.out.len;have:=zDK d.index ds (λ_=>m);omega
   have e4:=zg3 m3 m4 (((((HW.out.1.step HB.out zi).mono (T:=λb=>b=I\/(a1 ev en ec).ownBlock=E b) zn).step H9.out.2.2 (λb _ h=>.inl h)).step a4 zi).step b0 (λb O h=>by omega));have m5:=zh e2;clear hS C9 e1 i1 i2 g1 g2 g3 i9 e2 b0 KS m3 m4 m0 e0 a4
   go_wp2_with fail
   refine⟨by simp,.inl ⟨_,_,rfl,run_takeDeferred m5.out,?_⟩⟩;exact⟨.int Q 0,by simp[results,Tryz.results53,go_sem],rfl,⟨z,N,o,l8,_,l9,e4.out.1,by omega,e4.out.2.1⟩,e4.out.2.2⟩
def heldR : ak->ag (DataW ak×ad MemPlace):=λv=>E (.held v,[])
def opsD : DataW ak:=((((((DataW.map []).put (.int Q 2) (.held (.func (.func 53) #[] #[]))).put (.int Q 3) (.held (.func (.func 54) #[] #[]))).put (.int Q 4) (.held (.func (.func 55) #[] #[]))).put (.int Q 5) (.held (.func (.func 56) #[] #[]))).put (.int Q 6) (.held (.func (.func 57) #[] #[]))).put (.int Q 7) (.held (.func (.func 58) #[] #[]))
def OpsM (w:r)(mb:C):Prop:=w.ownsMap af 3 heldR mb 6 opsD
theorem zeroOp (w:r):(zeroValue 71).run af w=.ok .nilFunc w:=by kernel_rfl
theorem mapOp: Tryz.prog.underlying 73=E (.map 3 71):=Tryz.underlying73
theorem OpsM.remove (h:OpsM w u):(ba 73 (.map (E u)) (.int Q 2) ae).run af w=.ok (.tuple #[.func (.func 53) #[] #[],.bool ae]) w:=by
 obtain⟨v,A,o,y⟩:=World.ownsMap.look_ok h lawI mapOp (zeroOp w) (zd:=.held .nilFunc) (zp:=[]) rfl (ao am (a:=2) (by kernel_rfl));have e:opsD.atKey (.int Q 2) (.held .nilFunc)=.held (.func (.func 53) #[] #[]):=by rfl
 have z:Maps.has opsD (.int Q 2)=true:=by rfl
 rw[e]at y;rw[z]at o;cases y;exact o
theorem zPL (w:r):Calls af 22 #[] w λe w'=>∃ o,e=.returned (.map (E o))/\OpsM w' o/\Fr No w w':=by
 have Y:=@run_makeMap af;obtain⟨Z,r1,u,v⟩:=World.ownsMap.update (World.ownsMap_made w af 3 heldR) lawI mapOp (by unfold ap;omega) (val:=.func (.func 53) #[] #[]) (ao am (a:=2) (by kernel_rfl)) rfl;obtain⟨w2,r2,y,z⟩:=World.ownsMap.update u lawI mapOp (by unfold ap;omega) (val:=.func (.func 54) #[] #[]) (ao am (a:=3) (by kernel_rfl)) rfl;obtain⟨w3,r3,A,D⟩:=World.ownsMap.update y lawI mapOp (by unfold ap;omega) (val:=.func (.func 55) #[] #[]) (ao am (a:=4) (by kernel_rfl)) rfl;obtain⟨w4,r4,F,I⟩:=World.ownsMap.update A lawI mapOp (by unfold ap;omega) (val:=.func (.func 56) #[] #[]) (ao am (a:=5) (by kernel_rfl)) rfl;obtain⟨w5,r5,J,N⟩:=World.ownsMap.update F lawI mapOp (by unfold ap;omega) (val:=.func (.func 57) #[] #[]) (ao am (a:=6) (by kernel_rfl)) rfl;obtain⟨O,r6,R,U⟩:=World.ownsMap.update J lawI mapOp (by unfold ap;omega) (val:=.func (.func 58) #[] #[]) (ao am (a:=7) (by kernel_rfl)) rfl;have V:Fr (Is (w:C)) (w.alloc (.map #[] 0)) O:=(((((ar v).step (ar z) zi).step (ar D) zi).step (ar I) zi).step (ar N) zi).step (ar U) zi;have X:=zg2 (show OpsM O (w:C) from R) (((ai No w).alloc (.map #[] 0)).step V (λb hb h=>by omega));clear u y A F J R v z D I N U V
 go_enter Tryz.func22,Tryz.ntmps22
 go_wp2_with fail
 go_ret;exact⟨_,rfl,X.out.1,X.out.2⟩
theorem OpsM.fr (h:OpsM w o)(u:Fr S w w')(v:¬ S o):OpsM w' o:=u.ownsMap h v
theorem RemK.src {F:r}{n:t}(h:RemK F w' I o ds n J ix)(N:Fr No w F)(v:∀ d∈ds,∃ l,Atts w d.aa d.ac l/\d.an=l.length):RemK w w' I o ds n J ix:=by
 obtain⟨O,u,y,z,A,D,R,U,V⟩:=h;exact⟨O,u,y,z,A,D,R,U,V.src N (λd X=>v d (List.mem_filter.1 X).1) N.size⟩
def AtD (w W:r)(dn d:Dev):Prop:=d={ dn with aa:=d.aa,ac:=d.ac }/\∃ l,Atts w dn.aa dn.ac l/\dn.an=l.length/\Atts W d.aa d.ac l
theorem zMv (F:t)(fo:C)(P:r->Prop)(kb a2:C)(a:ag ah)(a5:C)(ds:ad Dev)(ev:ag ah)(en ec:C)(ix:t)(o nm vl:aw)(x dn:Dev)(w:r)(z:KSt w kb a2 a a5 ds ev en ec ix)(hn:ds.length<=256)(a6:ds.find? (atP ds o)=E dn)(hq:(F==1)=m/\(F==8)=m/\(F==9)=m)
  (b7:∀ W mb,OpsM W mb->(ba 73 (.map (E mb)) (K Q F) ae).run af W=.ok (.tuple #[.func (.func fo) #[] #[],.bool ae]) W) (eg:∀ args w,(callFunc fo args).run af w=.ok (.enter fo args) w)
  (b8:∀ W d,Fr No w W->AtD w W dn d->Calls af fo #[M (E ⟨kb,0,G⟩),ab (ocs F o x nm vl),ab d.vals] W λe w'=>e=.returned (K Q 0)/\P w'):
  Calls af 6 #[M (E ⟨kb,0,G⟩),ab (ocs F o x nm vl)] w λe w'=>e=.returned (.tuple #[K Q 0,K Q 0])/\P w':=by
 obtain⟨W0,a7,x0,b0⟩:=zy w (f (ocs F o x nm vl) 38);have e4:=zC z.blk;have I:=zh a6;have HK:=zh z;have d4:=zh b8;obtain⟨l0,b9,d0,d5⟩:=(z.tr.el dn (bd a6)).att;have d6:=zh b7;have a8:=zh b9;have a9:=zh d0;obtain⟨q1,q8,q9⟩:=hq;clear a6 b8 b7 z b9 d0 d5;have o0:=(OpB.of b0).c0;unfold ocs at a7 ⊢
 go_enter Tryz.func6,Tryz.ntmps6
 go_upto_region 1 with(fail)
 rw[<-a7];clear a7
 go_upto_region 8 with(fail)
 clear o0;refine zQ No [(1,m),(2,m),(0,ae),(3,m),(4,m),(5,m),(6,m),(7,m),(8,m)] (by kernel_rfl) (by kernel_rfl) (λw1 b3=>?_);have b1:=b3.heap b0 id;have o0:∀ g:Gr No w1,g.W.cell? ⟨w,0,G⟩=E (K Q F):=λg=>(OpB.of (g.fr.heap b1 id)).c0
 have x1:=x0.step b3 zi;clear b0 x0 b3;apply zT rfl rfl rfl;intro b4 z;go_big_quiet_op;go_big_quiet_on;apply zT rfl rfl rfl;intro b4 z;go_big_quiet_op;go_big_quiet_on;clear o0;apply zt;exact rfl
 go_wp2_with fail
 refine(zPL w1).mono ?_;rintro e J ⟨mb,rfl,hM,N⟩
 go_wp2_with fail
 refine zf N ?_;have d1:∀ W,(∃ g:Gr No J,W=g.W)->(ba 73 (.map (E mb)) (K Q F) ae).run af W=.ok (.tuple #[.func (.func fo) #[] #[],.bool ae]) W:=λW hW=>by
  obtain⟨g,rfl⟩:=hW;exact d6.out _ _ (hM.fr g.fr id)
 apply zT rfl rfl rfl;intro b4 z;refine zDo _ _ 73 rfl (.map (E mb)) (K Q F) _ rfl rfl d1 ?_
 go_frame
 go_big_quiet_on;clear d1 hM
 repeat (apply zT rfl rfl rfl;intro b4 z;go_big_quiet_op;go_big_quiet_on)
 refine zb ?_;have b2:=N.heap b1 id;have x2:=x1.step N zi;clear b1 x1 N
 go_upto_region 11 with(fail)
 have a3:=zh (λ(W:r) (hf:Fr No w W)=>zDd a a5 ds a2 o W (HK.out.tr.no hf) (by omega));have d2:=x2.heap HK.out.blk id
 go_cut [7,8] (λv7 p8 wx=>∃ Bp aa ac,v7=.bool ae/\p8=M (E ⟨Bp,0,G⟩)/\H (wx.heap[Bp]?=E (f (aj { dn with aa:=aa,ac:=ac }) 36)/\(w:C)<Bp)/\H (Atts wx aa ac l0)/\Fr No J wx)
 case first=>
  refine zZ (λb=>(J:C)<=b) (.q 0 (.q 1 (.q 2 (.q 3 (.q 4 (.q 5 (.m2 6 (.q 7 (.q 8 (.q 9 (.m1 10 (.m1 11 (.q 12 .fin)))))) 10 (.m1 6 (.q 7 (.q 8 (.q 9 (.m1 11 (.q 12 .fin))))))))))))) _ (by kernel_rfl) (by kernel_rfl) (λO v=>?_) zj;have s8:=v.size;have sb:=zC b2;have t0:∀ g:Gr (λb=>(J:C)<=b) O,g.W.cell? ⟨kb,0,G⟩=E (aq a ds.length a5):=λg=>zB (g.fr.heap (v.heap d2 id) (λh=>by omega)) 0
  have t1:∀ g:Gr (λb=>(J:C)<=b) O,g.W.cell? ⟨w,1,G⟩=E (a0 o):=λg=>(OpB.of (g.fr.heap (v.heap b2 id) (λh=>by omega))).c1
  have x8:=zh (x2.step v zi);have H8:=zh v;clear v
  repeat (apply zL rfl rfl rfl;intro b4 z;go_big_quiet_op;go_big_quiet_on)
  clear t0 t1;refine zAA rfl rfl ?_ ?_
  focus
   go_wp2_with fail
   refine(a3.out O x8.out).mono ?_;rintro e w9 ⟨hF,R⟩;obtain⟨aa,ac,rfl,y,U⟩:∃ aa ac,e=.returned (.tuple #[ab (aj { dn with aa:=aa,ac:=ac }),.bool ae])/\Atts w9 aa ac l0/\∀ u,aa=E u->(O:C)<=u.block:=by
    rcases hF with⟨A,_⟩|⟨d',aa,ac,l',A,rfl,g1,g2,g3,_,g5⟩
    .rw[I.out]at A;cases A
    .rw[I.out]at A;cases A;have e1:=(a8.out.no x8.out (λ_=>id)).det g2 (by have:=a9.out;omega);subst e1;exact⟨aa,ac,rfl,g1,g5⟩
   clear hF;unfold aj
   go_wp2_with fail
   refine zm R ?_
   repeat (apply zL rfl rfl rfl;intro b4 z;go_big_quiet_op;go_big_quiet_on)
   apply zH;exact rfl;obtain⟨WA,d3,fA,qA⟩:=zy w9 (f #[K Q 0,K Q 0,a0 ⟨#[]⟩,a0 ⟨#[]⟩,a0 ⟨#[]⟩,a0 ⟨#[]⟩,a0 ⟨#[]⟩,K Q 0,K Q 0,aq G 0 0] 36)
   go_wp2_with fail
   refine zp ?_;rw[<-d3];clear d3;have a4:H (Fr No J WA):=(H8.out.step R zi).step fA zi;have V:H ((J:C)<=(w9:C)):=by have:=R.size;unfold H;omega
   have HQ:H (Atts WA aa ac l0/\∀ u,aa=E u->l0≠[]->u.block≠(w9:C)):=⟨y.no fA (λ_=>id),λu e X h=>by have:=(y.cell u e X).2.1;omega⟩
   clear y U;clear fA R;generalize (w9:C)=Bt at *
  rotate_left 1
  focus
   obtain⟨W9,b5,f9,q9⟩:=zy O (f #[K Q 0,K Q 0,a0 ⟨#[]⟩,a0 ⟨#[]⟩,a0 ⟨#[]⟩,a0 ⟨#[]⟩,a0 ⟨#[]⟩,K Q 0,K Q 0,aq G 0 0] 36);have d7:H ((O:C)+1=(W9:C)):=by unfold H;rw[b5];simp
   go_wp2_with fail
   refine zp ?_;rw[<-b5];clear b5;apply zH;exact rfl
   go_wp2_with fail
   refine(a3.out W9 (x8.out.step f9 zi)).mono ?_;rintro e WA ⟨hF,Y⟩;obtain⟨aa,ac,rfl,y,U⟩:∃ aa ac,e=.returned (.tuple #[ab (aj { dn with aa:=aa,ac:=ac }),.bool ae])/\Atts WA aa ac l0/\∀ u,aa=E u->(W9:C)<=u.block:=by
    rcases hF with⟨A,_⟩|⟨d',aa,ac,l',A,rfl,g1,g2,g3,_,g5⟩
    .rw[I.out]at A;cases A
    .rw[I.out]at A;cases A;have e1:=(a8.out.no (x8.out.step f9 zi) (λ_=>id)).det g2 (by have:=a9.out;omega);subst e1;exact⟨aa,ac,rfl,g1,g5⟩
   have qA:=Y.heap q9 id;have a4:H (Fr No J WA):=(H8.out.step f9 zi).step Y zi;have V:H ((J:C)<=(O:C)):=s8;have HQ:H (Atts WA aa ac l0/\∀ u,aa=E u->l0≠[]->u.block≠(O:C)):=⟨y,λu e X h=>by have:=U u e;have:=d7.out;omega⟩
   clear y U;clear hF q9;unfold aj
   go_wp2_with fail
   refine zm Y ?_
   repeat (apply zL rfl rfl rfl;intro b4 z;go_big_quiet_op;go_big_quiet_on)
   clear f9 Y;generalize (O:C)=Bt at *
  all_goals (
   apply zH;exact rfl;obtain⟨z0,z1,z2,z3,z4,z5,z6,z7,z8,z9⟩:=DevB.of (d:=⟨0,0,⟨#[]⟩,⟨#[]⟩,⟨#[]⟩,⟨#[]⟩,⟨#[]⟩,0,0,G,0,0⟩) qA;obtain⟨y0,y1,y2,y3,y4,y5,y6,y7,y8,y9⟩:=DevF.of qA;have Z:=zh (zBA qA rfl { dn with aa:=aa,ac:=ac });clear qA
   go_wp2_with fail
   refine au ⟨Z.out.2.mono (λb _ h=>by have:=V.out;omega),?_⟩
   repeat (apply zL rfl rfl rfl;intro b4 z;go_big_quiet_op;go_big_quiet_on)
   refine zV ?_
   go_wp2_with fail
   go_meet
   exact⟨Bt,aa,ac,rfl,rfl,⟨Z.out.1,by have:=V.out;have:=x2.size;omega⟩,HQ.out.1.fr Z.out.2 (λu e X h=>HQ.out.2 u e X h),a4.out.step Z.out.2 (λb hb h=>by have:=V.out;omega)⟩
   )
 case rest=>
  obtain⟨Bp,aa,ac,rfl,rfl,hB,d8,b6⟩:=hcut;have x3:Fr No w wc:=x2.step b6 zi;obtain⟨o0,o1,o2,o3,o4,o5,o6,o7,o8,o9,d9,e0,e2,e3⟩:=OpB.of (b6.heap b2 id);obtain⟨z0,z1,z2,z3,z4,z5,z6,z7,z8,z9⟩:=DevB.of hB.out.1;have D:=d4.out wc { dn with aa:=aa,ac:=ac } x3 ⟨rfl,l0,a8.out,a9.out,d8.out⟩;clear b2 x2 b6 d2 x3 q1 q8 q9;unfold aj ocs at D
  go_wp2_with (go_at_fn fo;refine D.mono ?_;rintro e w4 ⟨rfl,hP⟩)
  have HP:=zh hP;clear D hP o0 o1 o2 o3 o4 o5 o6 o7 o8 o9 d9 e0 e2 e3 z0 z1 z2 z3 z4 z5 z6 z7 z8 z9
  go_wp2_with fail
  go_ret2
  exact⟨rfl,HP.out⟩
theorem zL5 (A o:C)(a:ag ah)(y:C)(ds:ad Dev)(J:ag ah)(D N:C)(ix:t)(u nm R:aw)(x z:Dev)(w:r)(O:KSt w A o a y ds J D N ix)(U:D<=60000)(Y:ds.length<=256)(hb:o<=(w:C))(F:ds.find? (atP ds u)=E z)
  (V:∀ W w' v,Fr No w W->Cop W w' (W:C) (remL z.index ds) v->TreeWf v):
  Calls af 6 #[M (E ⟨A,0,G⟩),ab (ocs 2 u x nm R)] w λe w'=>e=.returned (.tuple #[K Q 0,K Q 0])/\RemK w w' A o ds z.index D ix/\Fr (λb=>b=A\/(a1 J D N).ownBlock=E b) w w':=
 zMv 2 53 _ A o a y ds J D N ix u nm R x z w O Y F ⟨rfl,rfl,rfl⟩ (λW mb h=>h.remove) (enters_of be (by kernel_rfl) rfl) λW d I X=>by
  obtain⟨e,_⟩:=X;have hi:d.index=z.index:=by rw[e]
  rw[e];refine(zL3 A o a y ds J D N ix 2 u nm R x { z with aa:=d.aa,ac:=d.ac } z W (O.no I) U Y (by have:=I.size;omega) (zu O.tr.wf.1.nd (bd F)) (λw' v h=>V W w' v I h)).mono λe w' h=>⟨h.1,h.2.1.src I (λd X=>?_),(I.mono zn).step h.2.2 zi⟩
  obtain⟨l,Z,g2,_⟩:=(O.tr.el d X).att;exact⟨l,Z,g2⟩
end Go.Proofs.YtckkocmhlhefpaaGreatDoor
