import Derived.Test.YtmajgldaplkpiaaGreatDoorQ19
namespace Go.Proofs.YtmajgldaplkpiaaGreatDoor
open Go.RowKit Go.Maps Go.Sort Go.Shelf
set_option linter.unusedVariables false
set_option maxRecDepth 100000
set_option maxHeartbeats 2000000
theorem zAX {w:World}{ops:Array Oper}{rest:List Oper}{o:Oper}{a:Act}{Q:Exit->Act->World->Prop}(hg:o.guard=none)(m x:Operand)(t:TypeId)(hop:o.op=Op.lookup t m x false)
  (mv xv v:Value) (hm:a.eval m=mv) (hx:a.eval x=xv) (hrun:(Instr.lookup t mv xv false).run Tryz.prog w=.ok v w)
  (hK:wpList Tryz.prog ops Q rest (a.put o.dst v) w):wpList Tryz.prog ops Q (o::rest) a w:=by
 refine wpList_plain hg fun K' hK'=>?_
 unfold Oper.wp;simp[execOp,hop,hm,hx,hrun,Result.andThen];exact hK' _ _ hK
theorem zDP {w:World}{ops:Array Oper}{rest:List Oper}{o:Oper}{a:Act}{Q:Exit->Act->World->Prop}(hg:o.guard=none)(m x v:Operand)(t:TypeId)(hop:o.op=Op.mapUpdate t m x v)
  (mv xv vv:Value) (hm:a.eval m=mv) (hx:a.eval x=xv) (hv:a.eval v=vv) {w2:World} (hrun:(Instr.mapUpdate t mv xv vv).run Tryz.prog w=.ok () w2)
  (hK:wpList Tryz.prog ops Q rest (a.put o.dst undef) w2):wpList Tryz.prog ops Q (o::rest) a w:=by
 refine wpList_plain hg fun K' hK'=>?_
 unfold Oper.wp;simp[execOp,hop,hm,hx,hv,hrun,Result.andThen];exact hK' _ _ hK
theorem zBQ {o:Oper}{a:Act}{S:World->Prop}{K:Act->Prop}(hg:o.guard=none)(m x:Operand)(t:TypeId)(hop:o.op=Op.lookup t m x false)(mv xv v:Value)(hm:a.eval m=mv)(hx:a.eval x=xv)
  (hrun:∀ W,S W->(Instr.lookup t mv xv false).run Tryz.prog W=.ok v W) (hK:K (a.put o.dst v)):o.quiet Tryz.prog a S K:=by
 refine⟨v,fun W hW=>?_,hK⟩;unfold Oper.quietAt;simp[execOp,hop,hm,hx,hrun W hW,Result.andThen,Oper.quietUpon]
theorem hfdM : ∀ (p i:ByteArray) (r s t e:Int) (a:Option Addr) (n c:Nat) (W:World),(Instr.field 264 (.agg #[.string p,.string i,.int .i64 r,.int .i64 s,.int .i64 t,.int .i64 e,.slice a n c]) 0).run Tryz.prog W=.ok (.string p) W:=by intros;kernel_rfl
theorem Fr.grownF {w w':World}(h:Fr (From w.heap.size) w w'):w.grownBy w' none:=⟨h.os,h.tape,h.output,h.size,fun k hk _=>h.block k hk (by unfold From;omega)⟩
def mapP (g:ByteArray×Int->Option Mem):ByteArray×Int->Option Value:=fun x=>(g x).map Mem.v
theorem zFk (g:ByteArray×Int->Option Mem)(x:ByteArray×Int)(m:Mem):updP (mapP g) x m.v=mapP (fun y=>if y=x then some m else g y):=by
 funext y
 unfold updP mapP;by_cases h:y=x<;>simp[h]
theorem zKy : (Tryz.prog.info? 3).map (fun i=>(i.zero,i.size,i.bytes))=some (some (.int .i64 0),1,8):=by kernel_rfl
structure Grp (D:DataW Value)(left:Lit->Bool)(f:List UInt8->List Int):Prop where
 mem:∀ (x:ByteArray) (s:Int),s∈f (kb x)↔(x.size<=maxLen/\(Lit.int .i64 s).wf=true/\has D (plL (x,s))=true/\left (plL (x,s))=false)
 nodup:∀ x:ByteArray,(f (kb x)).Nodup
theorem Grp.start (D:DataW Value):Grp D (has D) (fun _=>[]):=by
 constructor
 ·intro x s;simp only[List.not_mem_nil,false_iff];rintro ⟨_,_,h1,h2⟩;rw[h1]at h2;cases h2
 ·exact fun _=>List.nodup_nil
theorem Grp.step {D:DataW Value}{left:Lit->Bool}{f:List UInt8->List Int}(h:Grp D left f){x:ByteArray}{s:Int}(hx:x.size<=maxLen)(hs:(Lit.int .i64 s).wf=true)(hl:left (plL (x,s))=true)(hD:has D (plL (x,s))=true):
  Grp D (fun z=>left z&&!z.sameKey (plL (x,s))) (fun z=>if z=kb x then f (kb x)++[s]else f z):=by
 constructor
 ·intro y r;by_cases e:y=x
  ·subst e;rw[if_pos rfl,List.mem_append,h.mem];by_cases e2:r=s
   ·subst e2;rw[WideAt.sameKey_self (zFA _)];simp[hx,hs,hD]
   ·constructor
    ·rintro (⟨a,b,c,d⟩ | h1)
     ·exact⟨a,b,c,by rw[d];rfl⟩
     ·simp at h1;exact absurd h1 e2
    ·rintro ⟨a,b,c,d⟩;refine .inl ⟨a,b,c,?_⟩;cases hk:(plL (y,r)).sameKey (plL (y,s))with
     | true=>
      have:=zE1 a b hx hs (WideAt.sameKey_eq hk);simp at this;exact absurd this e2
     | false=>rw[hk]at d;simpa using d
  ·rw[if_neg (fun he=>e (zEZ he)),h.mem];constructor
   ·rintro ⟨a,b,c,d⟩;exact⟨a,b,c,by rw[d];rfl⟩
   ·rintro ⟨a,b,c,d⟩;refine⟨a,b,c,?_⟩;cases hk:(plL (y,r)).sameKey (plL (x,s))with
    | true=>
     have:=zE1 a b hx hs (WideAt.sameKey_eq hk);simp at this;exact absurd this.1 e
    | false=>rw[hk]at d;simpa using d
 ·intro y;by_cases e:y=x
  ·subst e;rw[if_pos rfl];refine List.nodup_append.2 ⟨h.nodup y,by simp,fun a ha b hb=>?_⟩;obtain rfl:b=s:=by simpa using hb
   intro hab;subst hab;obtain⟨_,_,_,h4⟩:=(h.mem y a).1 ha;rw[hl]at h4;cases h4
  ·rw[if_neg (fun he=>e (zEZ he))];exact h.nodup y
theorem zHl {D:DataW Value}{kl:Lit}{d:DataW Value}(h:∀ zd,D.atKey kl zd=d):has D kl=true:=by
 cases hk:has D kl with
 | true=>rfl
 | false=>
  have h1:=h (.held (.bool true));have h2:=h (.held (.bool false));rw[atKey_of_not_has hk]at h1 h2;rw[<-h2]at h1;cases h1
theorem Grp.slots {D:DataW Value}{left:Lit->Bool}{f:List UInt8->List Int}(h:Grp D left f)(hl:∀ kl,left kl=false){b:ByteArray×Int->Option Mem}
  (hh:∀ x:ByteArray×Int,x.1.size<=maxLen->(Lit.int .i64 x.2).wf=true->has D (plL x)=(mapP b x).isSome) (hb:∀ x s m,b (x,s)=some m->x.size<=maxLen/\(Lit.int .i64 s).wf=true) (x:ByteArray):IsSlots b x (f (kb x)):=by
 refine⟨h.nodup x,fun s=>?_⟩;rw[h.mem];constructor
 ·rintro ⟨a,b',c,_⟩;rw[hh (x,s) a b']at c
  simpa [mapP]using c
 ·intro hs;obtain⟨m,hm⟩:=Option.isSome_iff_exists.1 hs;obtain⟨h1,h2⟩:=hb x s m hm;exact⟨h1,h2,by rw[hh (x,s) h1 h2];simp[mapP,hm],hl _⟩
theorem IsIds2.of_slots {b:ByteArray×Int->Option Mem}{ids:List ByteArray}{f:List UInt8->List Int}(ha:AscS (ids.map kb))(hm:∀ x:ByteArray,x∈ids↔f (kb x)≠[])(hs:∀ x:ByteArray,IsSlots b x (f (kb x))):IsIds2 b ids:=by
 refine⟨ha,fun x=>?_⟩;rw[hm];constructor
 ·intro hne;obtain⟨s,hs'⟩:=List.exists_mem_of_ne_nil _ hne;exact⟨s,((hs x).mem s).1 hs'⟩
 ·rintro ⟨s,hs'⟩ e;have:=((hs x).mem s).2 hs';rw[e]at this;cases this
theorem set6 {W:World}{b:Nat}{cs:Array Value}{T:TypeId}(h:W.heap[b]?=some (.cells cs T))(hs:cs.size=6)(v0 v1 v2 v3 v4 v5:Value):
  (((((((W.setCell ⟨b,0,none⟩ v0).setCell ⟨b,1,none⟩ v1).setCell ⟨b,2,none⟩ v2).setCell ⟨b,3,none⟩ v3).setCell ⟨b,4,none⟩ v4).setCell ⟨b,5,none⟩ v5)).heap[b]?=some (.cells #[v0,v1,v2,v3,v4,v5] T)/\Fr (Is b) W ((((((W.setCell ⟨b,0,none⟩ v0).setCell ⟨b,1,none⟩ v1).setCell ⟨b,2,none⟩ v2).setCell ⟨b,3,none⟩ v3).setCell ⟨b,4,none⟩ v4).setCell ⟨b,5,none⟩ v5):=by
 have fs:∀ {a w:World} (h:Fr (Is b) a w) (i:Nat) (v:Value),Fr (Is b) a (w.setCell ⟨b,i,none⟩ v):=fun h i v=>h.setCell (p:=⟨b,i,none⟩) (fun _=>rfl) v
 refine⟨?_,fs (fs (fs (fs (fs (fs (Fr.refl _ _) _ _) _ _) _ _) _ _) _ _) _ _⟩;obtain⟨l⟩:=cs
 match l,hs with
 | [_,_,_,_,_,_],_=>
  have h0:=zF h 0 v0;have h1:=zF h0 1 v1;have h2:=zF h1 2 v2;have h3:=zF h2 3 v3;have h4:=zF h3 4 v4;have h5:=zF h4 5 v5;simp only[List.setIfInBounds_toArray,List.set_cons_zero,List.set_cons_succ]at h5;exact h5
theorem zAp {W:World}{base T P:Nat}(h:W.ownsRow base 9 1 (.slice (some ⟨P,0,none⟩) T T) T (madeCells (Value.string ByteArray.empty).cells (T*1)).toList):
  W.heap[P]?=some (.cells ((List.replicate T (⟨#[]⟩:ByteArray)).map Value.string).toArray 9):=by
 obtain⟨_,⟨h1,_⟩ | ⟨g,cap,cur,h1,hg,hb,h2,h3,h4,h5⟩⟩:=h
 ·cases h1
 ·cases h1;rw[hb];have e1:cur.toList=(madeCells (Value.string ByteArray.empty).cells (T*1)).toList:=by
   rw[<-h5,List.take_of_length_le];rw[Array.length_toList,h4];exact Nat.le_refl _
  have e2:(madeCells (Value.string ByteArray.empty).cells (T*1)).toList=(List.replicate T (⟨#[]⟩:ByteArray)).map Value.string:=by
   apply List.ext_getElem?;intro i;by_cases hi:i<T
   ·rw[List.getElem?_map,List.getElem?_replicate,if_pos hi];simp[madeCells,Value.cells,hi,Nat.mod_one];rfl
   ·rw[List.getElem?_eq_none (by simp[madeCells];omega),List.getElem?_eq_none (by simp;omega)]
  rw[show cur=((List.replicate T (⟨#[]⟩:ByteArray)).map Value.string).toArray by rw[<-e2,<-e1]]
theorem zDl {W:World}{P:Nat}{l:List ByteArray}(h:W.heap[P]?=some (.cells (l.map Value.string).toArray 9))(hm:l.length<=maxLen):Strs W (some ⟨P,0,none⟩) l.length l:=by
 refine⟨Nat.le_refl _,hm,(fun e=>by cases e),fun ad e _=>?_⟩;cases e;refine⟨rfl,zE h,fun i x hi=>?_⟩;rw[zB h];simp[hi]
theorem QMap.blk {w:World}{mb:Nat}{g:ByteArray×ByteArray->Option Value}{N:Nat}(h:QMap w mb g N):∃ es clock,w.heap[mb]?=some (.map es clock):=by
 obtain⟨D,n,_,⟨es,clock,h,_⟩,_⟩:=h;exact⟨es,clock,h⟩
theorem QMap.ne_cells {w:World}{mb:Nat}{g:ByteArray×ByteArray->Option Value}{N:Nat}(h:QMap w mb g N){b:Nat}{cs:Array Value}{T:TypeId}{fz:Nat×Nat}(hb:w.heap[b]?=some (.cells cs T fz)):b≠mb:=by
 obtain⟨es,clock,h1⟩:=h.blk;intro e;subst e;rw[hb]at h1;cases h1
theorem QMap.ne_own {w:World}{mb:Nat}{g:ByteArray×ByteArray->Option Value}{N:Nat}(h:QMap w mb g N){base:Nat}{e:TypeId}{size:Nat}{v:Value}{n:Nat}{xs:List Value}(ho:w.ownsRow base e size v n xs):¬ v.ownBlock=some mb:=by
 intro hv;obtain⟨_,⟨rfl,_⟩ | ⟨g',cap,cur,rfl,hg,hbl,_⟩⟩:=ho
 ·cases hv
 ·cases hv;exact h.ne_cells hbl rfl
theorem QMap.lookok {w:World}{mb:Nat}{g:ByteArray×ByteArray->Option Value}{N:Nat}(h:QMap w mb g N){t e:TypeId}{z:Value}(hz:(zeroValue e).run Tryz.prog w=.ok z w)(ht:Tryz.prog.underlying t=some (.map 132 e))
  {s:ByteArray} {n:ByteArray} (hs:s.size<=maxLen) (hn:n.size<=maxLen):(Instr.lookup t (.map (some mb)) (.agg #[.string s,.string n]) true).run Tryz.prog w=.ok (.tuple #[(g (s,n)).getD z,.bool (g (s,n)).isSome]) w:=by
 obtain⟨D,m,_,ho,hh⟩:=h;obtain⟨h1,h2⟩:=hh (s,n) hs hn;obtain⟨v,ps,hrun,hv⟩:=ho.look_ok lawQ ht hz (zd:=.held z) (zp:=[]) rfl (keyQ hs hn);rw[hrun,h1,zD2 h1 h2 hv]
theorem zAP {o:Oper}{a:Act}{S:World->Prop}{K:Act->Prop}(hg:o.guard=none)(m x:Operand)(t:TypeId)(hop:o.op=Op.lookup t m x true)(mv xv v:Value)(hm:a.eval m=mv)(hx:a.eval x=xv)
  (hrun:∀ W,S W->(Instr.lookup t mv xv true).run Tryz.prog W=.ok v W) (hK:K (a.put o.dst v)):o.quiet Tryz.prog a S K:=by
 refine⟨v,fun W hW=>?_,hK⟩;unfold Oper.quietAt;simp[execOp,hop,hm,hx,hrun W hW,Result.andThen,Oper.quietUpon]
def zB6 : Value:=.agg #[.string ⟨#[]⟩,.string ⟨#[]⟩,.string ⟨#[]⟩,.int .i64 0]
theorem zCX (w:World):(zeroValue 79).run Tryz.prog w=.ok zB6 w:=by kernel_rfl
theorem zKa (w:World):(zeroValue 4).run Tryz.prog w=.ok (.bool false) w:=by kernel_rfl
structure RS (c:RC)(w:World)(sa:Option Addr)(sc:Nat)(ma:Option Addr)(mc:Nat)(S:List Src)(M:List Vir)(G:List (ByteArray×ByteArray)):Prop where
 k:w.heap[c.xb]?=some (.cells (rcs c.ka c.kn c.kc c.wt c.a c.n c.cap c.ca c.C.length c.cc c.ea c.en c.ec sa S.length sc c.wm c.sm ma M.length mc) 123)
 so:w.ownsRow c.b2 163 13 (.slice sa S.length sc) S.length (sflat S)
 mo:w.ownsRow c.b0 79 4 (.slice ma M.length mc) M.length (vflat M)
 cs:Srcs w c.ca c.cc c.C
 cb:∀ ad,c.ca=some ad->c.b0<=ad.block/\ad.block<c.b2/\BlkT w c.ca 163
 wmo:QMap w c.wm (wantG M) M.length
 smo:QMap w c.sm (seenG G) G.length
 ne:c.wm≠c.sm
 lo:c.b0<=c.xb/\c.b0<=c.wm/\c.b0<=c.sm/\c.b0<=c.b2/\c.xb<c.b2/\c.wm<c.b2/\c.sm<c.b2
 b2l:c.b2<=w.heap.size
theorem RSt.rs {c:RC}{w:World}{S:List Src}{M:List Vir}{G:List (ByteArray×ByteArray)}(h:RSt c w S M G)(hb:c.b2<=w.heap.size):∃ sa sc ma mc,RS c w sa sc ma mc S M G:=by
 obtain⟨⟨sa,sc,ma,mc,k,so,mo⟩,cs,cb,wmo,smo,ne,lo⟩:=h;exact⟨sa,sc,ma,mc,k,so,mo,cs,cb,wmo,smo,ne,lo,hb⟩
theorem RS.fr {T:Nat->Prop}{c:RC}{w w':World}{sa:Option Addr}{sc:Nat}{ma:Option Addr}{mc:Nat}{S:List Src}{M:List Vir}{G:List (ByteArray×ByteArray)}(h:RS c w sa sc ma mc S M G)(hf:Fr T w w')
  (hx:¬ T c.xb) (hw:¬ T c.wm) (hs:¬ T c.sm) (hsa:∀ b,(Value.slice sa S.length sc).ownBlock=some b->¬ T b) (hma:∀ b,(Value.slice ma M.length mc).ownBlock=some b->¬ T b) (hca:∀ ad,c.ca=some ad->¬ T ad.block):RS c w' sa sc ma mc S M G:=
 ⟨hf.heap h.k hx,zJ h.so hf hsa,zJ h.mo hf hma,h.cs.fr hf (fun ad e _=>hca ad e),fun ad e=>⟨(h.cb ad e).1,(h.cb ad e).2.1,(h.cb ad e).2.2.fr hf hca⟩,h.wmo.fr hf hw,h.smo.fr hf hs,h.ne,h.lo,Nat.le_trans h.b2l hf.size⟩
theorem RS.no {c:RC}{w w':World}{sa:Option Addr}{sc:Nat}{ma:Option Addr}{mc:Nat}{S:List Src}{M:List Vir}{G:List (ByteArray×ByteArray)}(h:RS c w sa sc ma mc S M G)(hf:Fr No w w'):RS c w' sa sc ma mc S M G:=
 h.fr hf id id id (fun _ _=>id) (fun _ _=>id) (fun _ _=>id)
def inW (M:List Vir)(q o:ByteArray):Bool:=M.any fun v=>decide ((v.q,v.o)=(q,o))
def zn (M:List Vir)(v:Vir):List Vir:=if inW M v.q v.o=true then M else M++[v]
def zj (M V:List Vir):List Vir:=V.foldl zn M
theorem zEF (M V:List Vir)(v:Vir):zj M (V++[v])=zn (zj M V) v:=by unfold zj;rw[List.foldl_append];rfl
theorem zCb (M:List Vir)(v:Vir):(zn M v).length<=M.length+1:=by unfold zn;split<;>simp
theorem zAY : ∀ (V M:List Vir),(zj M V).length<=M.length+V.length
 | [],M=>by simp[zj]
 | v::t,M=>by
  have h1:=zAY t (zn M v);have h2:=zCb M v;unfold zj at h1 ⊢;rw[List.foldl_cons,List.length_cons];omega
theorem zGG (M:List Vir)(q o:ByteArray):(wantG M (q,o)).isSome=inW M q o:=by
 unfold wantG inW;rw[Option.isSome_map,Bool.eq_iff_iff,List.find?_isSome,List.any_eq_true]
theorem zGH {M:List Vir}{v:Vir}(h:inW M v.q v.o=false):wantG (M++[v])=updQ (wantG M) (v.q,v.o) (.agg v.vals):=by
 funext p
 unfold updQ wantG;rw[List.find?_append];by_cases hp:p=(v.q,v.o)
 ·subst hp;rw[if_pos rfl];have:M.find? (fun u=>decide ((u.q,u.o)=(v.q,v.o)))=none:=by
   rw[List.find?_eq_none];intro u hu;unfold inW at h;have:=(List.any_eq_false.1 h) u hu
   simpa using this
  rw[this];simp
 ·rw[if_neg hp];have:[v].find? (fun u=>decide ((u.q,u.o)=p))=none:=by simp;exact fun e=>hp (Eq.symm e)
  rw[this];simp
theorem zBo {a:Option Addr}{n c b:Nat}(h:(Value.slice a n c).ownBlock=some b):∃ ad,a=some ad/\ad.block=b:=by
 cases a with
 | none=>cases h
 | some ad=>exact⟨ad,rfl,by injection h⟩
theorem zIh (a:Option Addr)(n m c d:Nat):(Value.slice a n c).ownBlock=(Value.slice a m d).ownBlock:=by cases a<;>rfl
theorem RS.grow {c:RC}{w7 X:World}{w6:World}{sa:Option Addr}{sc:Nat}{ma:Option Addr}{mc:Nat}{S:List Src}{M:List Vir}{G:List (ByteArray×ByteArray)}(h:RS c w6 sa sc ma mc S M G)(f7:Fr (Is c.wm) w6 w7){v:Vir}
  (hQ:QMap w7 c.wm (updQ (wantG M) (v.q,v.o) (.agg v.vals)) (M.length+1)) (hin:inW M v.q v.o=false) {av:Option Addr} {cv:Nat} (hf:Fr (fun b=>b=c.xb\/(Value.slice ma M.length mc).ownBlock=some b) w7 X)
  (k5:X.heap[c.xb]?=some (.cells (rcs c.ka c.kn c.kc c.wt c.a c.n c.cap c.ca c.C.length c.cc c.ea c.en c.ec sa S.length sc c.wm c.sm av (M.length+1) cv) 123))
  (h5:X.ownsRow c.b0 79 4 (.slice av (M.length+1) cv) (M.length+1) (vflat M++v.vals.toList)):RS c X sa sc av cv S (M++[v]) G:=by
 have el:(M++[v]).length=M.length+1:=by simp
 have hnw:∀ b,(Value.slice sa S.length sc).ownBlock=some b->¬ Is c.wm b:=fun b hb e=>by unfold Is at e;subst e;exact h.wmo.ne_own h.so hb
 have hso7:=zJ h.so f7 hnw;have hmo7:=zJ h.mo f7 (fun b hb e=>by unfold Is at e;subst e;exact h.wmo.ne_own h.mo hb);have hk7:=f7.heap h.k (fun e=>h.wmo.ne_cells h.k e);have hca:∀ ad,c.ca=some ad->¬ Is c.wm ad.block:=fun ad e hs=>by
  obtain⟨cs,hc⟩:=(h.cb ad e).2.2 ad e;exact h.wmo.ne_cells hc hs
 have hcb7:∀ ad,c.ca=some ad->BlkT w7 c.ca 163:=fun ad e=>(h.cb ad e).2.2.fr f7 hca
 have hca7:∀ ad,c.ca=some ad->¬ (ad.block=c.xb\/(Value.slice ma M.length mc).ownBlock=some ad.block):=fun ad e hs=>by
  rcases hs with hs | hs
  ·obtain⟨cs,hc⟩:=hcb7 ad e ad e;rw[hs,hk7]at hc;injection hc with hc
   injection hc with _ e2
   exact absurd e2 (by decide)
  ·exact BlkT.ne hmo7 (hcb7 ad e) (by decide) ad e hs
 have hsm7:=h.smo.fr f7 (fun e=>h.ne (Eq.symm e));refine⟨by rw[el];exact k5,zJ hso7 hf (fun b hb hs=>?_),by rw[el,zBN];exact h5,(h.cs.fr f7 (fun ad e _=>hca ad e)).fr hf (fun ad e _=>hca7 ad e),fun ad e=>⟨(h.cb ad e).1,(h.cb ad e).2.1,(hcb7 ad e).fr hf hca7⟩,?_,hsm7.fr hf (fun hs=>?_),h.ne,h.lo,Nat.le_trans h.b2l (Nat.le_trans f7.size hf.size)⟩
 ·rcases hs with hs | hs
  ·subst hs;exact zf hso7 hk7 (by decide) hb
  ·obtain⟨ad,rfl,rfl⟩:=zBo hb;exact BlkT.ne hmo7 (zAj hso7) (by decide) ad rfl hs
 ·rw[el,zGH hin];exact hQ.fr hf (fun hs=>by
   rcases hs with hs | hs
   ·exact hQ.ne_cells hk7 (Eq.symm hs)
   ·exact hQ.ne_own hmo7 hs)
 ·rcases hs with hs | hs
  ·exact hsm7.ne_cells hk7 (Eq.symm hs)
  ·exact hsm7.ne_own hmo7 hs
def mustB (t e n:Int)(ex xp:Bool):Bool:=decide (n=t)||(decide (e<=n)&&(ex||xp))
def mdT : ByteArray:=⟨#[109,100,45]⟩
def mdOf (gi:ByteArray)(ins:List ByteArray)(r:Int):Vir:=⟨⟨#[]⟩,mdT++gi,ins.headD ⟨#[]⟩,r⟩
theorem set4 {W:World}{b:Nat}{cs:Array Value}{T:TypeId}(h:W.heap[b]?=some (.cells cs T))(hs:cs.size=4)(v0 v1 v2 v3:Value):
  ((((W.setCell ⟨b,0,none⟩ v0).setCell ⟨b,1,none⟩ v1).setCell ⟨b,2,none⟩ v2).setCell ⟨b,3,none⟩ v3).heap[b]?=some (.cells #[v0,v1,v2,v3] T)/\Fr (Is b) W ((((W.setCell ⟨b,0,none⟩ v0).setCell ⟨b,1,none⟩ v1).setCell ⟨b,2,none⟩ v2).setCell ⟨b,3,none⟩ v3):=by
 have fs:∀ {a w:World} (h:Fr (Is b) a w) (i:Nat) (v:Value),Fr (Is b) a (w.setCell ⟨b,i,none⟩ v):=fun h i v=>h.setCell (p:=⟨b,i,none⟩) (fun _=>rfl) v
 refine⟨?_,fs (fs (fs (fs (Fr.refl _ _) _ _) _ _) _ _) _ _⟩;obtain⟨l⟩:=cs
 match l,hs with
 | [_,_,_,_],_=>
  have h0:=zF h 0 v0;have h1:=zF h0 1 v1;have h2:=zF h1 2 v2;exact zF h2 3 v3
theorem zKU (gi:ByteArray)(t e n:Int)(pa:Option Addr)(pn pc:Nat)(la:Option Addr)(lc:Nat)(ins:List ByteArray)(w:World):
  Calls Tryz.prog 214 #[.agg #[.string gi,.slice pa pn pc,.int .i64 t,.int .i64 e,.int .i64 n,.slice la ins.length lc]] w fun en w'=>en=.returned (.bool (decide (n=t)))/\Fr No w w':=by
 have hx:Fr No w (w.alloc (.cells #[.string gi,.slice pa pn pc,.int .i64 t,.int .i64 e,.int .i64 n,.slice la ins.length lc] 206)):=(Fr.refl _ _).alloc _;have q0:=zD w (.cells #[.string gi,.slice pa pn pc,.int .i64 t,.int .i64 e,.int .i64 n,.slice la ins.length lc] 206);obtain⟨W0,hW0⟩:∃ W0,W0=w.alloc (.cells #[.string gi,.slice pa pn pc,.int .i64 t,.int .i64 e,.int .i64 n,.slice la ins.length lc] 206):=⟨_,rfl⟩
 rw[<-hW0]at hx q0;obtain⟨y0,y1,y2,y3,y4,y5⟩:=cl6 q0;have Hx:=Lib.hid hx;clear hx q0
 go_enter Tryz.func214,Tryz.ntmps214
 go_upto_region 1 with(fail)
 rw[<-hW0];clear hW0;by_cases h:n=t
 ·have hb:(n==t)=true:=by simpa using h
  have Hd:Hid (decide (n=t)=true):=decide_eq_true h;clear h
  go_wp2_with fail
  go_ret;exact⟨by rw[Hd.out];rfl,Hx.out⟩
 ·have hb:(n==t)=false:=by simpa using h
  have Hd:Hid (decide (n=t)=false):=decide_eq_false h;clear h
  go_wp2_with fail
  go_ret;exact⟨by rw[Hd.out];rfl,Hx.out⟩
theorem zJC (gi:ByteArray)(t e n:Int)(pa:Option Addr)(pn pc:Nat)(la:Option Addr)(lc:Nat)(ins:List ByteArray)(w:World):
  Calls Tryz.prog 215 #[.agg #[.string gi,.slice pa pn pc,.int .i64 t,.int .i64 e,.int .i64 n,.slice la ins.length lc]] w fun en w'=>en=.returned (.bool (decide (e<=n)))/\Fr No w w':=by
 have hx:Fr No w (w.alloc (.cells #[.string gi,.slice pa pn pc,.int .i64 t,.int .i64 e,.int .i64 n,.slice la ins.length lc] 206)):=(Fr.refl _ _).alloc _;have q0:=zD w (.cells #[.string gi,.slice pa pn pc,.int .i64 t,.int .i64 e,.int .i64 n,.slice la ins.length lc] 206);obtain⟨W0,hW0⟩:∃ W0,W0=w.alloc (.cells #[.string gi,.slice pa pn pc,.int .i64 t,.int .i64 e,.int .i64 n,.slice la ins.length lc] 206):=⟨_,rfl⟩
 rw[<-hW0]at hx q0;obtain⟨y0,y1,y2,y3,y4,y5⟩:=cl6 q0;have Hx:=Lib.hid hx;clear hx q0
 go_enter Tryz.func215,Tryz.ntmps215
 go_upto_region 1 with(fail)
 rw[<-hW0];clear hW0;by_cases h:e<=n
 ·have Hd:Hid (decide (e<=n)=true):=decide_eq_true h
  go_wp2_with fail
  go_ret;exact⟨by rw[Hd.out];rfl,Hx.out⟩
 ·have Hd:Hid (decide (e<=n)=false):=decide_eq_false h
  go_wp2_with fail
  go_ret;exact⟨by rw[Hd.out];rfl,Hx.out⟩
theorem zJU (gi:ByteArray)(t e n:Int)(pa:Option Addr)(pn pc:Nat)(la:Option Addr)(lc:Nat)(ins:List ByteArray)(ex xp:Bool)(w:World):
  Calls Tryz.prog 153 #[.agg #[.string gi,.slice pa pn pc,.int .i64 t,.int .i64 e,.int .i64 n,.slice la ins.length lc],.bool ex,.bool xp] w fun en w'=>en=.returned (.bool (mustB t e n ex xp))/\Fr No w w':=by
 have hx:Fr No w (w.alloc (.cells #[.string gi,.slice pa pn pc,.int .i64 t,.int .i64 e,.int .i64 n,.slice la ins.length lc] 206)):=(Fr.refl _ _).alloc _;have q0:=zD w (.cells #[.string gi,.slice pa pn pc,.int .i64 t,.int .i64 e,.int .i64 n,.slice la ins.length lc] 206);obtain⟨W0,hW0⟩:∃ W0,W0=w.alloc (.cells #[.string gi,.slice pa pn pc,.int .i64 t,.int .i64 e,.int .i64 n,.slice la ins.length lc] 206):=⟨_,rfl⟩
 rw[<-hW0]at hx q0;obtain⟨y0,y1,y2,y3,y4,y5⟩:=cl6 q0;have hw:=zKU gi t e n pa pn pc la lc ins W0;have hcl:∀ W:World,Fr No W0 W->W.heap[w.heap.size]?=some (.cells #[.string gi,.slice pa pn pc,.int .i64 t,.int .i64 e,.int .i64 n,.slice la ins.length lc] 206):=fun W hf=>hf.heap q0 id
 have Hcl:=Lib.hid hcl;have Hx:=Lib.hid hx;obtain⟨rb,hrb⟩:∃ rb,rb=mustB t e n ex xp:=⟨_,rfl⟩
 rw[<-hrb];have Hrb:=Lib.hid hrb;clear hx q0 hcl hrb
 go_enter Tryz.func153,Tryz.ntmps153
 go_upto_region 1 with(fail)
 rw[<-hW0];clear hW0
 go_wp2_with fail
 refine hw.mono ?_;rintro en w1 ⟨rfl,hf1⟩;clear y0 y1 y2 y3 y4 y5;have hq:=Hcl.out w1 hf1;have y0:=zB hq 0;have y1:=zB hq 1;have y2:=zB hq 2;have y3:=zB hq 3;have y4:=zB hq 4;have y5:=zB hq 5;have Hf1:=Lib.hid (Hx.out.step hf1 (fun _ _ h=>h));have he:=zJC gi t e n pa pn pc la lc ins w1;clear hw hf1 hq;cases h1:decide (n=t)with
 | true=>
  have Hv:Hid (rb=true):=by unfold Hid;rw[Hrb.out,mustB,h1];rfl
  clear h1 he
  go_wp2_with fail
  go_ret;exact⟨by rw[Hv.out];rfl,Hf1.out⟩
 | false=>
  have Hm:Hid (rb=(decide (e<=n)&&(ex||xp))):=by unfold Hid;rw[Hrb.out,mustB,h1];rfl
  clear h1
  go_wp2_with fail
  refine he.mono ?_;rintro en w2 ⟨rfl,hf2⟩;have Hf2:=Lib.hid (Hf1.out.step hf2 (fun _ _ h=>h));clear he hf2 y0 y1 y2 y3 y4 y5;cases h2:decide (e<=n)with
  | false=>
   have Hv:Hid (rb=false):=by unfold Hid;rw[Hm.out,h2];rfl
   clear h2
   go_wp2_with fail
   go_ret;exact⟨by rw[Hv.out];rfl,Hf2.out⟩
  | true=>
   have Hv:Hid (rb=(ex||xp)):=by unfold Hid;rw[Hm.out,h2];rfl
   clear h2;cases ex<;>cases xp <;>
    (go_wp2_with fail
     go_ret;exact⟨by rw[Hv.out];rfl,Hf2.out⟩)
theorem zK5 (gi:ByteArray)(t e n rd:Int)(pa:Option Addr)(pn pc:Nat)(la:Option Addr)(lc:Nat)(ins:List ByteArray)(w:World)(hid:gi.size<=1000000)(hS:Strs w la lc ins):
  Calls Tryz.prog 156 #[.agg #[.string gi,.slice pa pn pc,.int .i64 t,.int .i64 e,.int .i64 n,.slice la ins.length lc],.int .i64 rd] w fun en w'=>en=.returned (.agg (mdOf gi ins rd).vals)/\Fr No w w':=by
 have hx1:Fr No w ((w.alloc (.cells #[.string gi,.slice pa pn pc,.int .i64 t,.int .i64 e,.int .i64 n,.slice la ins.length lc] 206)).alloc (.cells #[.string ⟨#[]⟩,.string ⟨#[]⟩,.string ⟨#[]⟩,.int .i64 0] 79)):=((Fr.refl _ _).alloc _).alloc _;have q2:=zL w (.cells #[.string gi,.slice pa pn pc,.int .i64 t,.int .i64 e,.int .i64 n,.slice la ins.length lc] 206) (.cells #[.string ⟨#[]⟩,.string ⟨#[]⟩,.string ⟨#[]⟩,.int .i64 0] 79);have q4:=zP w (.cells #[.string gi,.slice pa pn pc,.int .i64 t,.int .i64 e,.int .i64 n,.slice la ins.length lc] 206) (.cells #[.string ⟨#[]⟩,.string ⟨#[]⟩,.string ⟨#[]⟩,.int .i64 0] 79);have hs1:((w.alloc (.cells #[.string gi,.slice pa pn pc,.int .i64 t,.int .i64 e,.int .i64 n,.slice la ins.length lc] 206)).alloc (.cells #[.string ⟨#[]⟩,.string ⟨#[]⟩,.string ⟨#[]⟩,.int .i64 0] 79)).heap.size=w.heap.size+2:=by simp
 have hil:=hS.lenmax;have hz:¬ 9223372036854775807<3+gi.size:=by omega
 have Hmd:Hid (mdOf gi ins rd=⟨⟨#[]⟩,(⟨#[109,100,45]⟩:ByteArray)++gi,ins.headD ⟨#[]⟩,rd⟩):=rfl;obtain⟨W0,hW0⟩:∃ W0,W0=(w.alloc (.cells #[.string gi,.slice pa pn pc,.int .i64 t,.int .i64 e,.int .i64 n,.slice la ins.length lc] 206)).alloc (.cells #[.string ⟨#[]⟩,.string ⟨#[]⟩,.string ⟨#[]⟩,.int .i64 0] 79):=⟨_,rfl⟩
 rw[<-hW0]at hx1 q2 q4 hs1;have hS0:=hS.no hx1 (fun _=>id);have hs1':w.heap.size+2<=W0.heap.size:=by omega
 have y0:W0.cell? ⟨w.heap.size,0,none⟩=some (.string gi):=zB q2 0;clear hs1
 go_enter Tryz.func156,Tryz.ntmps156
 go_upto_region 1 with(fail)
 rw[<-hW0];clear hW0;have hx2:Fr No W0 (W0.alloc (.cells #[.string ⟨#[]⟩,.string ((⟨#[109,100,45]⟩:ByteArray)++gi),.string ⟨#[]⟩,.int .i64 rd] 79)):=(Fr.refl _ _).alloc _;have q5:=zD W0 (.cells #[.string ⟨#[]⟩,.string ((⟨#[109,100,45]⟩:ByteArray)++gi),.string ⟨#[]⟩,.int .i64 rd] 79);have q2':=hx2.heap q2 id;have q4':=hx2.heap q4 id;have hs2:=zE q5;obtain⟨W1,hW1⟩:∃ W1,W1=W0.alloc (.cells #[.string ⟨#[]⟩,.string ((⟨#[109,100,45]⟩:ByteArray)++gi),.string ⟨#[]⟩,.int .i64 rd] 79):=⟨_,rfl⟩
 rw[<-hW1]at hx2 q5 q2' q4' hs2;have hS1:=hS0.no hx2 (fun _=>id);have Hx:=Lib.hid (hx1.step hx2 (fun _ _ h=>h))
 go_upto_region 2 with(fail)
 rw[<-hW1];clear hW1 y0 hx1 hx2 hS hS0 q2 q4;have x5:W1.cell? ⟨w.heap.size,5,none⟩=some (.slice la ins.length lc):=zB q2' 5;rcases ins with _ | ⟨c,ir⟩
 ·have x5':W1.cell? ⟨w.heap.size,5,none⟩=some (.slice la 0 lc):=x5;clear x5;obtain⟨u0,u1,u2,u3⟩:=cl4 q5;obtain⟨b0,b1,b2,b3⟩:=cl4 q4';obtain⟨f0,f1,f2,f3⟩:=fl4 q4';have h4:=set4 q4' rfl (.string ⟨#[]⟩) (.string ((⟨#[109,100,45]⟩:ByteArray)++gi)) (.string ⟨#[]⟩) (.int .i64 rd);have HF:=Lib.hid (((Hx.out.mono (T:=From w.heap.size) (fun _ _ h=>h.elim)).step h4.2 (fun b _ h=>by unfold Is at h;unfold From;omega)).mono (T:=No) (fun b hb h=>by unfold From at h;omega));have Hq:=Lib.hid h4.1;clear h4
  go_wp2_with fail
  have y0:=zB Hq.out 0;have y1:=zB Hq.out 1;have y2:=zB Hq.out 2;have y3:=zB Hq.out 3;refine bodyPost_ret (v:=.agg #[.string ⟨#[]⟩,.string ((⟨#[109,100,45]⟩:ByteArray)++gi),.string ⟨#[]⟩,.int .i64 rd]) (by simp[results,Tryz.results156,go_sem,y0,y1,y2,y3]) rfl ?_;exact⟨by rw[Hmd.out];rfl,HF.out⟩
 ·have hlt:(0:Int)<((c::ir).length:Nat):=by first | (simp;done) | (simp;omega)
  obtain⟨b,off,x,rfl,hx0,hc⟩:=hS1.at (k:=0) (by simp);obtain rfl:c=x:=by simpa using hx0
  rw[Nat.add_zero]at hc;clear hx0;have z2:W1.cell? ⟨W0.heap.size,2,none⟩=some (.string ⟨#[]⟩):=zB q5 2;have f2:W1.frozen? ⟨W0.heap.size,2,none⟩=false:=zC q5 2;have hfs:Fr (Is W0.heap.size) W1 (W1.setCell ⟨W0.heap.size,2,none⟩ (.string c)):=Fr.setCell (S:=Is W0.heap.size) (p:=⟨W0.heap.size,2,none⟩) (Fr.refl _ _) (fun _=>rfl) _;have q5b:(W1.setCell ⟨W0.heap.size,2,none⟩ (.string c)).heap[W0.heap.size]?=some (.cells #[.string ⟨#[]⟩,.string ((⟨#[109,100,45]⟩:ByteArray)++gi),.string c,.int .i64 rd] 79):=zF q5 2 (.string c);have q4b:=hfs.heap q4' (fun e=>by unfold Is at e;omega);have Hx2:=Lib.hid ((Hx.out.mono (T:=From w.heap.size) (fun _ _ h=>h.elim)).step hfs (fun b _ h=>by unfold Is at h;unfold From;omega));generalize hlen:(c::ir).length=nl at *;clear hfs q5 q4' q2' hS1 Hx
  go_upto_region 4 with(fail)
  generalize W1.setCell ⟨W0.heap.size,2,none⟩ (.string c)=Wb at *;clear z2 f2 x5 hc;obtain⟨u0,u1,u2,u3⟩:=cl4 q5b;obtain⟨b0,b1,b2,b3⟩:=cl4 q4b;obtain⟨f0,f1,f2,f3⟩:=fl4 q4b;have h4:=set4 q4b rfl (.string ⟨#[]⟩) (.string ((⟨#[109,100,45]⟩:ByteArray)++gi)) (.string c) (.int .i64 rd);have HF:=Lib.hid ((Hx2.out.step h4.2 (fun b _ h=>by unfold Is at h;unfold From;omega)).mono (T:=No) (fun b hb h=>by unfold From at h;omega));have Hq:=Lib.hid h4.1;clear h4
  go_wp2_with fail
  have y0:=zB Hq.out 0;have y1:=zB Hq.out 1;have y2:=zB Hq.out 2;have y3:=zB Hq.out 3;refine bodyPost_ret (v:=.agg #[.string ⟨#[]⟩,.string ((⟨#[109,100,45]⟩:ByteArray)++gi),.string c,.int .i64 rd]) (by simp[results,Tryz.results156,go_sem,y0,y1,y2,y3]) rfl ?_;exact⟨by rw[Hmd.out];rfl,HF.out⟩
end Go.Proofs.YtmajgldaplkpiaaGreatDoor
