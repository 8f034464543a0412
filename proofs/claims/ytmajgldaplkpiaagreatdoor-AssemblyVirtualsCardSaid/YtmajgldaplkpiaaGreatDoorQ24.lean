import Derived.Test.YtmajgldaplkpiaaGreatDoorQ23
namespace Go.Proofs.YtmajgldaplkpiaaGreatDoor
open Go.RowKit Go.Maps
set_option linter.unusedVariables false
set_option maxRecDepth 100000
set_option maxHeartbeats 2000000
structure Env (w:World):Prop where
 len:∃ m,w.cell? ⟨0,0,none⟩=some (.int .i64 m)
 err:ErrV w
 tab:Lib.TabIs Tryz.prog w "internal/strconv.uint64pow10" .u64 Lib.pow10Tab
 sz:9<=w.heap.size
theorem zIL : Tryz.prog.globalNamed "internal/strconv.uint64pow10" = some 1:=by kernel_rfl
theorem Env.fr {S:Nat->Prop}{w w':World}(h:Env w)(hf:Fr S w w')(hS:∀ b,b<9->¬ S b):Env w':=by
 obtain⟨m,hm⟩:=h.len;have hs:=h.sz;have hs':=hf.size;refine⟨⟨m,hf.cell hm (hS _ (by decide))⟩,h.err.fr hf (hS _ (by decide)) (hS _ (by decide)),?_,by omega⟩;have h1:=h.tab;have h2:=hf.block 1 (by omega) (hS _ (by decide));have e:w'.var? Tryz.prog "internal/strconv.uint64pow10" = w.var? Tryz.prog "internal/strconv.uint64pow10" := by
  unfold World.var?;rw[zIL];simp only[Option.bind_some,h2]
 unfold Lib.TabIs at *;rw[e];exact h1
theorem Env.no {w w':World}(h:Env w)(hf:Fr No w w'):Env w':=h.fr hf (fun _ _=>id)
structure Cur (w:World)(pb:Nat)(s:ByteArray)(r:List UInt8)(bad:Bool):Prop where
 blk:∃ at_:Nat,w.heap[pb]?=some (.cells #[.string s,.int .i64 (at_:Int),.bool bad] 346 (0,0))/\at_<=s.size/\s.data.toList.drop at_=r
theorem Cur.fr {S:Nat->Prop}{w w':World}{pb:Nat}{s:ByteArray}{r:List UInt8}{bad:Bool}(h:Cur w pb s r bad)(hf:Fr S w w')(hS:¬ S pb):Cur w' pb s r bad:=by
 obtain⟨a,hb,h1,h2⟩:=h.blk;exact⟨a,hf.heap hb hS,h1,h2⟩
theorem Cur.no {w w':World}{pb:Nat}{s:ByteArray}{r:List UInt8}{bad:Bool}(h:Cur w pb s r bad)(hf:Fr No w w'):Cur w' pb s r bad:=h.fr hf id
theorem Cur.lt {w:World}{pb:Nat}{s:ByteArray}{r:List UInt8}{bad:Bool}(h:Cur w pb s r bad):pb<w.heap.size:=by
 obtain⟨a,hb,h1,h2⟩:=h.blk;exact zE hb
theorem Cur.le {w:World}{pb:Nat}{s:ByteArray}{r:List UInt8}{bad:Bool}(h:Cur w pb s r bad):r.length<=s.size:=by
 obtain⟨a,hb,h1,rfl⟩:=h.blk;have:s.data.toList.length=s.size:=(Lib.size_eq s).symm;simp only[List.length_drop];omega
theorem zF9 (ends:List UInt8):∀ r:List UInt8,(Lib.indexAny r ends=-1/\upto ends r=r/\past ends r=[])\/∃ k:Nat,Lib.indexAny r ends=(k:Int)/\k<r.length/\upto ends r=r.take k/\past ends r=r.drop k
 | []=>.inl ⟨rfl,rfl,rfl⟩
 | b::l=>by
  rw[Lib.indexAny];by_cases h:ends.contains b=true
  ·rw[if_pos h];refine .inr ⟨0,rfl,by simp,?_,?_⟩
   ·simp only[upto,List.takeWhile_cons,h];simp
   ·simp only[past,List.dropWhile_cons,h];simp
  ·have h':ends.contains b=false:=by simpa using h
   rw[if_neg h];rcases zF9 ends l with⟨h1,h2,h3⟩ | ⟨k,h1,h2,h3,h4⟩
   ·rw[h1];refine .inl ⟨rfl,?_,?_⟩
    ·simp only[upto,List.takeWhile_cons,h',Bool.not_false,if_true]at h2 ⊢;rw[h2]
    ·simp only[past,List.dropWhile_cons,h',Bool.not_false,if_true]at h3 ⊢;rw[h3]
   ·rw[h1];refine .inr ⟨k+1,?_,by simp;omega,?_,?_⟩
    ·rw[if_neg (by simp)];rfl
    ·simp only[upto,List.takeWhile_cons,h',Bool.not_false,if_true]at h3 ⊢;rw[h3];rfl
    ·simp only[past,List.dropWhile_cons,h',Bool.not_false,if_true]at h4 ⊢;rw[h4];rfl
theorem zD9 (pb:Nat)(s ends:ByteArray)(r:List UInt8)(bad:Bool)(w:World)(hc:Cur w pb s r bad)(he:Ascii ends)(hs:s.size<=1000000)(hes:ends.size<=1000):
  Calls Tryz.prog 315 #[.pointer (some ⟨pb,0,none⟩),.string ends] w fun e w'=>e=.returned (.string ⟨(upto ends.data.toList r).toArray⟩)/\Cur w' pb s (past ends.data.toList r) bad/\Fr (Is pb) w w':=by
 obtain⟨a,hb,hal,hr⟩:=hc.blk;have hal':(a:Int)<=s.size:=by omega
 have hsz:s.data.toList.length=s.size:=(Lib.size_eq s).symm;have hext:(s.extract a s.size).data.toList=r:=by rw[Lib.extract_to_end];exact hr
 obtain⟨q,hq⟩:∃ q,q=s.extract a s.size:=⟨_,rfl⟩
 have hqr:q.data.toList=r:=by rw[hq];exact hext
 have hqs:q.size<=1000000:=by
  have h1:q.data.toList.length=q.size:=(Lib.size_eq q).symm;have h2:=hc.le;rw[hqr]at h1;omega
 have hany:=zF9 ends.data.toList r;have Hq:=Lib.hid hq;have Hqr:=Lib.hid hqr;have Hr:=Lib.hid hr;clear hext hq hqr hr
 go_enter Tryz.func315,Tryz.ntmps315
 go_wp2_with fail
 refine zR No [(0,false),(1,false),(2,false),(3,false),(4,false),(5,false),(6,false),(7,false),(8,false),(9,false)] (by kernel_rfl) (by kernel_rfl) (fun w0 hf0=>?_);have hb0:=hf0.heap hb id;have g0:∀ g:Gr No w0,g.W.cell? ⟨pb,0,none⟩=some (.string s):=fun g=>g.fr.cell (zB hb0 0) id
 have g1:∀ g:Gr No w0,g.W.cell? ⟨pb,1,none⟩=some (.int .i64 (a:Int)):=fun g=>g.fr.cell (zB hb0 1) id
 repeat (apply zT;exact rfl;exact rfl;exact rfl;intro K hK;go_big_quiet_op;go_big_quiet_on)
 refine zb ?_;clear g0 g1;rw[<-Hq.out];have hfr0:Fr No w w0:=hf0
 go_wp2_with fail
 refine(zGE q ends _ (by omega) (by omega) he).mono ?_;rintro e w1 ⟨rfl,hbel⟩;have hf1:Fr No w w1:=hfr0.step hbel (fun _ _ h=>h);have hb1:=hf1.heap hb id;have c1:w1.cell? ⟨pb,1,none⟩=some (.int .i64 (a:Int)):=zB hb1 1;have z1:w1.frozen? ⟨pb,1,none⟩=false:=zC hb1 1;have hql:q.data.toList.length=q.size:=(Lib.size_eq q).symm;have hrl:r.length=q.size:=by rw[<-Hqr.out];exact hql
 have haq:a+q.size=s.size:=by
  have h1:=congrArg List.length Hr.out;rw[List.length_drop]at h1;omega
 rw[Hqr.out];have key:∀ k:Nat,k<=q.size->Hid (q.extract 0 k=⟨(r.take k).toArray⟩/\∀ W,Fr No w W->W.heap[pb]?=some (.cells #[.string s,.int .i64 (a:Int),.bool bad] 346 (0,0))->Cur (W.setCell ⟨pb,1,none⟩ (.int .i64 ((a:Int)+k))) pb s (r.drop k) bad/\Fr (Is pb) w (W.setCell ⟨pb,1,none⟩ (.int .i64 ((a:Int)+k)))):=by
  intro k hk;refine⟨?_,fun W hW hbW=>⟨⟨a+k,?_,by omega,?_⟩,?_⟩⟩
  ·apply ByteArray.ext;apply Array.ext';rw[Lib.extract_from_zero,Hqr.out]
  ·rw[zF hbW];rfl
  ·rw[<-Hr.out,List.drop_drop]
  ·exact(hW.mono (T:=Is pb) (fun _ _ h=>h.elim)).setAt _
 have Hkey:=Lib.hid key;clear hbel hfr0 hf0 hb0 hql key;rcases hany with⟨h1,h2,h3⟩ | ⟨k,h1,h2,h3,h4⟩
 ·rw[h1];have hlen:((q.size:Nat):Int)<=q.size:=Int.le_refl _;have Hk:=Lib.hid ((Hkey.out q.size (Nat.le_refl _)).out);have He:Hid (q=⟨(upto ends.data.toList r).toArray⟩/\r.drop q.size=past ends.data.toList r):=by
   unfold Hid;refine⟨?_,by rw[h3,<-hrl,List.drop_length]⟩;rw[h2,<-Hqr.out]
  have Hf1:=Lib.hid (And.intro hf1 hb1);clear h1 h2 h3 hf1 hb1 Hkey hrl
  go_wp2_with fail
  go_ret;have h5:=Hk.out.2 w1 Hf1.out.1 Hf1.out.2;rw[He.out.2]at h5;exact⟨by show Ending.returned (.string q)=_;rw[<-He.out.1],h5.1,h5.2⟩
 ·rw[h1];have hkq:k<q.size:=by omega
  have hk':(k:Int)<=q.size:=by omega
  have Hk:=Lib.hid ((Hkey.out k (by omega)).out);have He:Hid (q.extract 0 k=⟨(upto ends.data.toList r).toArray⟩/\r.drop k=past ends.data.toList r):=by
   unfold Hid;rw[Hk.out.1,h3,h4];exact⟨rfl,rfl⟩
  have Hf1:=Lib.hid (And.intro hf1 hb1);clear h1 h2 h3 h4 hf1 hb1 Hkey hrl
  go_wp2_with fail
  go_ret;have h5:=Hk.out.2 w1 Hf1.out.1 Hf1.out.2;rw[He.out.2]at h5;exact⟨by show Ending.returned (.string (q.extract 0 k))=_;rw[He.out.1],h5.1,h5.2⟩
theorem zEx (b:UInt8)(r:List UInt8):Lib.hasPrefix r [b]=(zV b r).isSome:=by
 cases r with
 | nil=>rfl
 | cons x t=>
  simp only[Lib.hasPrefix,zV,List.isPrefixOf];by_cases h:x=b
  ·subst h;simp
  ·have h2:(b==x)=false:=by simpa using fun e=>h e.symm
   simp[h,h2]
theorem zHE {b:UInt8}{r t:List UInt8}(h:zV b r=some t):t=r.drop 1:=by rw[zg h];rfl
theorem zJO (pb:Nat)(s:ByteArray)(b:UInt8)(r:List UInt8)(bad:Bool)(w:World)(hc:Cur w pb s r bad)(hs:s.size<=1000000):
  Calls Tryz.prog 335 #[.pointer (some ⟨pb,0,none⟩),.string ⟨#[b]⟩] w fun e w'=>e=.returned (.bool (zV b r).isSome)/\Cur w' pb s ((zV b r).getD r) bad/\Fr (Is pb) w w':=by
 obtain⟨a,hb,hal,hr⟩:=hc.blk;have hal':(a:Int)<=s.size:=by omega
 have hcl:=hc.le;have hsz:s.data.toList.length=s.size:=(Lib.size_eq s).symm;obtain⟨q,hq⟩:∃ q,q=s.extract a s.size:=⟨_,rfl⟩
 have hqr:q.data.toList=r:=by rw[hq,Lib.extract_to_end];exact hr
 have hpre:Lib.hasPrefix q.data.toList (⟨#[b]⟩:ByteArray).data.toList=(zV b r).isSome:=by rw[hqr];exact zEx b r
 have hlen:r.length=s.size-a:=by rw[<-hr,List.length_drop];omega
 have Hq:=Lib.hid hq;have Hr:=Lib.hid hr;have Hpre:=Lib.hid hpre;have Hc:=Lib.hid hc;clear hq hqr hr hpre hc
 go_enter Tryz.func335,Tryz.ntmps335
 go_wp2_with fail
 refine zR No [(0,false),(1,false),(2,false),(3,false),(4,false),(5,false),(6,false),(7,false),(8,false),(9,false),(10,true),(11,false)] (by kernel_rfl) (by kernel_rfl) (fun w0 hf0=>?_);have hb0:=hf0.heap hb id;have g0:∀ g:Gr No w0,g.W.cell? ⟨pb,0,none⟩=some (.string s):=fun g=>g.fr.cell (zB hb0 0) id
 have g1:∀ g:Gr No w0,g.W.cell? ⟨pb,1,none⟩=some (.int .i64 (a:Int)):=fun g=>g.fr.cell (zB hb0 1) id
 repeat (apply zT;exact rfl;exact rfl;exact rfl;intro K hK;go_big_quiet_op;go_big_quiet_on)
 clear g0 g1;rw[<-Hq.out];apply zi;exact rfl
 go_wp2_with fail
 refine(Tryz.strings_HasPrefix q ⟨#[b]⟩ _).mono ?_;rintro e w1 ⟨rfl,rfl⟩;rw[Hpre.out];have c1:w1.cell? ⟨pb,1,none⟩=some (.int .i64 (a:Int)):=zB hb0 1;have z1:w1.frozen? ⟨pb,1,none⟩=false:=zC hb0 1;cases hk:zV b r with
 | none=>
  have H:=Lib.hid (And.intro (Hc.out.no hf0) (hf0.mono (T:=Is pb) (fun _ _ h=>h.elim)));have Hk:=Lib.hid hk;clear hk hb0 hf0;simp only[Option.isSome_none]
  go_wp2_with fail
  refine OnlyN.mk ⟨Fr.refl _ _,?_⟩
  repeat (apply zT;exact rfl;exact rfl;exact rfl;intro K hK;go_big_quiet_op;go_big_quiet_on)
  refine zb ?_
  go_wp2_with fail
  go_ret;rw[Hk.out];exact⟨rfl,H.out.1,H.out.2⟩
 | some t=>
  have hrl:1<=r.length:=by rw[zg hk];simp
  have H:Hid (Cur (w1.setCell ⟨pb,1,none⟩ (.int .i64 ((a:Int)+1))) pb s t bad/\Fr (Is pb) w (w1.setCell ⟨pb,1,none⟩ (.int .i64 ((a:Int)+1)))):=by
   refine⟨⟨a+1,?_,by omega,?_⟩,?_⟩
   ·rw[zF hb0];rfl
   ·rw[zHE hk,<-Hr.out,List.drop_drop]
   ·exact(hf0.mono (T:=Is pb) (fun _ _ h=>h.elim)).setAt _
  have Hk:=Lib.hid hk;clear hk hb0 hf0;simp only[Option.isSome_some]
  go_wp2_with fail
  refine OnlyN.mk ⟨Fr.refl _ _,?_⟩
  repeat (apply zT;exact rfl;exact rfl;exact rfl;intro K hK;go_big_quiet_op;go_big_quiet_on)
  refine zb ?_
  go_wp2_with fail
  go_ret;rw[Hk.out];exact⟨rfl,H.out.1,H.out.2⟩
theorem zBy (pb:Nat)(s:ByteArray)(b:UInt8)(r:List UInt8)(bad:Bool)(w:World)(hc:Cur w pb s r bad)(hs:s.size<=1000000):
  Calls Tryz.prog 316 #[.pointer (some ⟨pb,0,none⟩),.string ⟨#[b]⟩] w fun e w'=>e=.returned (.tuple #[])/\Cur w' pb s ((zV b r).getD r) (bad||(zV b r).isNone)/\Fr (Is pb) w w':=by
 go_enter Tryz.func316,Tryz.ntmps316
 go_wp2_with fail
 refine(zJO pb s b r bad _ hc hs).mono ?_;rintro e w1 ⟨rfl,hc1,hf1⟩;generalize hrr:(zV b r).getD r=r' at *;have Hrr:=Lib.hid hrr;clear hrr;obtain⟨a,hb1,hal,hr⟩:=hc1.blk;have c2:w1.cell? ⟨pb,2,none⟩=some (.bool bad):=zB hb1 2;have z2:w1.frozen? ⟨pb,2,none⟩=false:=zC hb1 2;have H:Hid (∀ v:Bool,Cur (w1.setCell ⟨pb,2,none⟩ (.bool v)) pb s r' v/\Fr (Is pb) w (w1.setCell ⟨pb,2,none⟩ (.bool v))):=by
  intro v;refine⟨⟨a,?_,hal,hr⟩,hf1.setAt _⟩;rw[zF hb1];rfl
 clear hb1 hc1 hf1 hr hc;cases hk:zV b r with
 | none=>
  have Hk:=Lib.hid hk;clear hk;simp only[Option.isSome_none]
  go_wp2_with fail
  go_end0
  rw[Hk.out];have h:=H.out true;exact⟨rfl,by have e:=Hrr.out;rw[Hk.out]at e;rw[e];show Cur _ pb s r' (bad||true);rw[Bool.or_true];exact h.1,h.2⟩
 | some t=>
  have Hk:=Lib.hid hk;clear hk;simp only[Option.isSome_some]
  go_wp2_with fail
  go_end0
  rw[Hk.out];have h:=H.out bad;exact⟨rfl,by have e:=Hrr.out;rw[Hk.out]at e;rw[e];show Cur _ pb s r' (bad||false);rw[Bool.or_false];exact h.1,h.2⟩
def NumIs (r r':List UInt8)(bad bad':Bool)(n:Int):Prop:=(bad=true->bad'=true)/\(bad=false->(pNum r=none/\bad'=true)\/(pNum r=some (n,r')/\bad'=false))
theorem zHT : Ascii ⟨#[47,40,44,41,58]⟩:=fun j b hb=>by
 have h:∀ x∈([47,40,44,41,58]:List UInt8),x.toNat<128:=by decide
 exact h b (List.mem_of_getElem? hb)
theorem zBz (pb:Nat)(s:ByteArray)(r:List UInt8)(bad:Bool)(w:World)(hc:Cur w pb s r bad)(hs:s.size<=900)(hE:Env w)(h9:9<=pb):
  Calls Tryz.prog 317 #[.pointer (some ⟨pb,0,none⟩)] w fun e w'=>∃ n r' bad',e=.returned (.int .i64 n)/\r'.length<=r.length/\Cur w' pb s r' bad'/\NumIs r r' bad bad' n/\Fr (Is pb) w w':=by
 go_enter Tryz.func317,Tryz.ntmps317
 go_wp2_with fail
 refine(zD9 pb s ⟨#[47,40,44,41,58]⟩ r bad _ hc zHT (by omega) (by decide)).mono ?_;rintro e w1 ⟨rfl,hc1,hf1⟩;have hup:=zAG [47,40,44,41,58] r;have hpn:pNum r=(match Lib.atoiAll (upto [47,40,44,41,58] r)with | .ok v=>if Lib.itoa v=upto [47,40,44,41,58] r then some (v,past [47,40,44,41,58] r)else none | _=>none):=rfl;have e5:(⟨#[47,40,44,41,58]⟩:ByteArray).data.toList=[47,40,44,41,58]:=rfl;rw[e5]at hc1 ⊢;generalize upto [47,40,44,41,58] r=dl at *;generalize past [47,40,44,41,58] r=r' at *;have hrl:=hc.le;have hdl:dl.length<=900/\r'.length<=r.length:=by
  have:=congrArg List.length hup;rw[List.length_append]at this;omega
 obtain⟨dg,hdg⟩:∃ dg,dg=(⟨dl.toArray⟩:ByteArray):=⟨_,rfl⟩
 rw[<-hdg];have hdd:dg.data.toList=dl:=by rw[hdg]
 have hds:dg.size<=1000:=by
  have h1:dg.data.toList.length=dg.size:=(Lib.size_eq dg).symm;rw[hdd]at h1;omega
 have hE1:=hE.fr hf1 (fun b hb h=>by unfold Is at h;omega);have Hdd:=Lib.hid hdd;have Hpn:=Lib.hid hpn;have Hlen:=Lib.hid hdl.2;clear hdg hup e5 hc hdd hpn hdl
 go_wp2_with fail
 refine(zF7 dg _ hds hE1.err).mono ?_;rintro e w2 ⟨hR,hf2⟩;unfold AtoiR at hR;rw[Hdd.out]at hR;have hc2:=hc1.no hf2;have hE2:=hE1.no hf2;obtain⟨a,hb2,hal,hr⟩:=hc2.blk;have hf12:=hf1.step hf2 (fun _ _ h=>h.elim);have H:Hid (∀ (W:World) (v:Bool),Fr No w2 W->Cur (W.setCell ⟨pb,2,none⟩ (.bool v)) pb s r' v/\Fr (Is pb) w (W.setCell ⟨pb,2,none⟩ (.bool v))):=by
  intro W v hW;refine⟨⟨a,?_,hal,hr⟩,(hf12.step hW (fun _ _ h=>h.elim)).setAt _⟩;rw[zF (hW.heap hb2 id)];rfl
 have c2:w2.cell? ⟨pb,2,none⟩=some (.bool bad):=zB hb2 2;have z2:w2.frozen? ⟨pb,2,none⟩=false:=zC hb2 2;have Hb2:=Lib.hid hb2;clear hc1 hc2 hf1 hf2 hf12 hE1 hr hb2;cases bad with
 | true=>
  rcases hR with⟨v,hv,rfl⟩ | ⟨hv,k,te,N,rfl⟩
  all_goals
   clear hv
   go_wp2_with fail
   go_ret;have h:=H.out w2 true (Fr.refl _ _);exact⟨_,r',true,rfl,Hlen.out,h.1,⟨(fun _=>rfl),(fun h=>by cases h)⟩,h.2⟩
 | false=>
  rcases hR with⟨v,hv,rfl⟩ | ⟨hv,k,te,N,rfl⟩
  ·have hbd:=Lib.atoiAll_bounds hv;have Hn:Hid (pNum r=if Lib.itoa v=dl then some (v,r')else none):=by unfold Hid;rw[Hpn.out,hv]
   clear hv
   go_wp2_with fail
   refine(Tryz.strconv_Itoa v hbd.1 hbd.2 _ hE2.tab).mono ?_;rintro e w3 ⟨rfl,kk,os,rfl⟩;have hf3:Fr No w2 (Go.Sort.grow (w2.drewN kk) os):=Fr.of_below_size (Lib.below_grow _ w2 (Nat.le_refl _) kk os);generalize Go.Sort.grow (w2.drewN kk) os=w3 at *;have c3:w3.cell? ⟨pb,2,none⟩=some (.bool false):=hf3.cell c2 id;have z3:w3.frozen? ⟨pb,2,none⟩=false:=zC (hf3.heap Hb2.out id) 2;obtain⟨it,hit⟩:∃ it,it=(⟨(Lib.itoa v).toArray⟩:ByteArray):=⟨_,rfl⟩
   rw[<-hit];have Hit:Hid ((it.toList==dg.toList)=decide (Lib.itoa v=dl)):=by
    unfold Hid;rw[hit,Bool.eq_iff_iff,beq_iff_eq,decide_eq_true_iff,ByteArray.toList_eq,ByteArray.toList_eq,Hdd.out]
   have Hf3:=Lib.hid hf3;clear hit hf3 c2 z2;rcases hie:(it.toList==dg.toList)with _ | _
   ·have Hno:Hid (pNum r=none):=by
     unfold Hid;have h1:=Hit.out;rw[hie]at h1;rw[Hn.out,if_neg (of_decide_eq_false h1.symm)]
    go_wp2_with fail
    go_ret;have h:=H.out w3 true Hf3.out;exact⟨_,r',true,rfl,Hlen.out,h.1,⟨fun _=>rfl,fun _=>.inl ⟨Hno.out,rfl⟩⟩,h.2⟩
   ·have Hyes:Hid (pNum r=some (v,r')):=by
     unfold Hid;have h1:=Hit.out;rw[hie]at h1;rw[Hn.out,if_pos (of_decide_eq_true h1.symm)]
    go_wp2_with fail
    go_ret;have h:=H.out w3 false Hf3.out;exact⟨_,r',false,rfl,Hlen.out,h.1,⟨(fun h=>by cases h),(fun _=>.inr ⟨Hyes.out,rfl⟩)⟩,h.2⟩
  ·have Hno:Hid (pNum r=none):=by
    unfold Hid;rw[Hpn.out];split
    ·rename_i v e;exact absurd e (hv v)
    ·rfl
   clear hv
   go_wp2_with fail
   go_ret;have h:=H.out w2 true (Fr.refl _ _);exact⟨_,r',true,rfl,Hlen.out,h.1,⟨fun _=>rfl,fun _=>.inl ⟨Hno.out,rfl⟩⟩,h.2⟩
inductive CAt (w:World)(X:Nat->Prop):Array Value->Ct->Prop
 | mk (k:Int) (i l:ByteArray) (s t e:Int) (n:List Ct) (a:Option Addr) (cap:Nat) (vs:Nat->Array Value)
  (h1:n.length<=cap) (h2:cap<=maxLen) (h3:a=none->n=[]/\cap=0)
  (h4:∀ ad,a=some ad->n≠[]->ad.spot=none/\ad.block<w.heap.size/\X ad.block)
  (h5:∀ ad j d,a=some ad->n[j]?=some d->∀ q,q<7->w.cell? ⟨ad.block,ad.off+(j*7+q),none⟩=(vs j)[q]?)
  (h6:∀ j d,n[j]?=some d->CAt w X (vs j) d):
  CAt w X #[.int .i64 k,.string i,.string l,.int .i64 s,.int .i64 t,.int .i64 e,.slice a n.length cap] (.mk k i l s t e n)
theorem CAt.fr {w w':World}{X S:Nat->Prop}{vs:Array Value}{c:Ct}(h:CAt w X vs c)(hf:Fr S w w')(hS:∀ b,X b->¬ S b):CAt w' X vs c:=by
 induction h with
 | mk k i l s t e n a cap vs h1 h2 h3 h4 h5 h6 ih=>
  refine .mk k i l s t e n a cap vs h1 h2 h3 (fun ad ea hne=>?_) (fun ad j d ea hd q hq=>?_) ih
  ·obtain⟨a1,a2,a3⟩:=h4 ad ea hne;exact⟨a1,Nat.lt_of_lt_of_le a2 hf.size,a3⟩
  ·obtain⟨a1,a2,a3⟩:=h4 ad ea (fun e=>by rw[e]at hd;simp at hd);rw[<-h5 ad j d ea hd q hq];exact World.cell?_of_block (hf.block _ a2 (hS _ a3))
theorem CAt.no {w w':World}{X:Nat->Prop}{vs:Array Value}{c:Ct}(h:CAt w X vs c)(hf:Fr No w w'):CAt w' X vs c:=h.fr hf (fun _ _=>id)
theorem CAt.mono {w:World}{X Y:Nat->Prop}{vs:Array Value}{c:Ct}(h:CAt w X vs c)(hX:∀ b,b<w.heap.size->X b->Y b):CAt w Y vs c:=by
 induction h with
 | mk k i l s t e n a cap vs h1 h2 h3 h4 h5 h6 ih=>
  refine .mk k i l s t e n a cap vs h1 h2 h3 (fun ad ea hne=>?_) h5 ih;obtain⟨a1,a2,a3⟩:=h4 ad ea hne;exact⟨a1,a2,hX _ a2 a3⟩
theorem CAt.size {w:World}{X:Nat->Prop}{vs:Array Value}{c:Ct}(h:CAt w X vs c):vs.size=7:=by
 cases h;rfl
structure InAt (w:World)(X:Nat->Prop)(a:Option Addr)(cap:Nat)(cs:List Ct):Prop where
 len:cs.length<=cap
 max:cap<=maxLen
 isNil:a=none->cs=[]/\cap=0
 el:∃ vs:Nat->Array Value,(∀ ad,a=some ad->cs≠[]->ad.spot=none/\ad.block<w.heap.size/\X ad.block)/\(∀ ad j d,a=some ad->cs[j]?=some d->∀ q,q<7->w.cell? ⟨ad.block,ad.off+(j*7+q),none⟩=(vs j)[q]?)/\∀ j d,cs[j]?=some d->CAt w X (vs j) d
theorem InAt.nil (w:World)(X:Nat->Prop):InAt w X none 0 []:=⟨by simp,by simp,fun _=>⟨rfl,rfl⟩,fun _=>#[],fun _ e=>(by cases e),fun _ _ _ e=>(by cases e),fun j d h=>by simp at h⟩
theorem CAt.of_in {w:World}{X:Nat->Prop}{a:Option Addr}{cap:Nat}{cs:List Ct}(h:InAt w X a cap cs)(k:Int)(i l:ByteArray)(s t e:Int):CAt w X #[.int .i64 k,.string i,.string l,.int .i64 s,.int .i64 t,.int .i64 e,.slice a cs.length cap] (.mk k i l s t e cs):=by
 obtain⟨vs,h4,h5,h6⟩:=h.el;exact .mk k i l s t e cs a cap vs h.len h.max h.isNil h4 h5 h6
theorem InAt.fr {w w':World}{X S:Nat->Prop}{a:Option Addr}{cap:Nat}{cs:List Ct}(h:InAt w X a cap cs)(hf:Fr S w w')(hS:∀ b,X b->¬ S b):InAt w' X a cap cs:=by
 obtain⟨vs,h4,h5,h6⟩:=h.el;refine⟨h.len,h.max,h.isNil,vs,fun ad ea hne=>?_,fun ad j d ea hd q hq=>?_,fun j d hd=>(h6 j d hd).fr hf hS⟩
 ·obtain⟨a1,a2,a3⟩:=h4 ad ea hne;exact⟨a1,Nat.lt_of_lt_of_le a2 hf.size,a3⟩
 ·obtain⟨a1,a2,a3⟩:=h4 ad ea (fun e=>by rw[e]at hd;simp at hd);rw[<-h5 ad j d ea hd q hq];exact World.cell?_of_block (hf.block _ a2 (hS _ a3))
theorem InAt.mono {w:World}{X Y:Nat->Prop}{a:Option Addr}{cap:Nat}{cs:List Ct}(h:InAt w X a cap cs)(hX:∀ b,b<w.heap.size->X b->Y b):InAt w Y a cap cs:=by
 obtain⟨vs,h4,h5,h6⟩:=h.el;refine⟨h.len,h.max,h.isNil,vs,fun ad ea hne=>?_,h5,fun j d hd=>(h6 j d hd).mono hX⟩;obtain⟨a1,a2,a3⟩:=h4 ad ea hne;exact⟨a1,a2,hX _ a2 a3⟩
structure CRow (w:World)(base:Nat)(v:Value)(cs:List Ct):Prop where
 el:∃ vl:List (Array Value),vl.length=cs.length/\w.ownsRow base 256 7 v cs.length (vl.flatMap Array.toList)/\∀ (j:Nat) (vs:Array Value) (c:Ct),vl[j]?=some vs->cs[j]?=some c->CAt w (fun b=>base<=b/\v.ownBlock≠some b) vs c
theorem CRow.nil (w:World)(base:Nat):CRow w base (.slice none 0 0) []:=⟨[],rfl,World.ownsRow_nil _ _ _ _,fun j vs c h=>by simp at h⟩
theorem CRow.fr {w w':World}{S:Nat->Prop}{base:Nat}{v:Value}{cs:List Ct}(h:CRow w base v cs)(hf:Fr S w w')(hS:∀ b,base<=b->¬ S b):CRow w' base v cs:=by
 obtain⟨vl,h1,h2,h3⟩:=h.el;exact⟨vl,h1,zu h2 hf hS,fun j vs c hj hc=>(h3 j vs c hj hc).fr hf (fun b hb=>hS b hb.1)⟩
theorem zFx : ∀ (vl:List (Array Value)),(∀ vs∈vl,vs.size=7)->∀ (j:Nat) (vs:Array Value),vl[j]?=some vs->∀ q,q<7->(vl.flatMap Array.toList)[j*7+q]?=vs[q]?
 | [],_,j,vs,h,q,hq=>by simp at h
 | x::t,hs,0,vs,h,q,hq=>by
  simp at h;subst h;have hx:=hs x (by simp);rw[List.flatMap_cons,List.getElem?_append_left (by simp[hx];omega)];simp
 | x::t,hs,j+1,vs,h,q,hq=>by
  have hx:=hs x (by simp);rw[List.flatMap_cons,List.getElem?_append_right (by simp[hx];omega),show (j+1)*7+q-x.toList.length=j*7+q by simp[hx];omega];exact zFx t (fun y hy=>hs y (by simp[hy])) j vs (by simpa using h) q hq
theorem CRow.inAt {w:World}{base:Nat}{v:Value}{cs:List Ct}(h:CRow w base v cs):∃ a cap,v=.slice a cs.length cap/\InAt w (From base) a cap cs:=by
 obtain⟨vl,h1,h2,h3⟩:=h.el;have hs:∀ vs∈vl,vs.size=7:=fun vs hvs=>by
  obtain⟨j,hj⟩:=List.getElem?_of_mem hvs;have hlt:j<cs.length:=by rw[<-h1];exact(List.getElem?_eq_some_iff.1 hj).1
  exact(h3 j vs cs[j] hj (List.getElem?_eq_getElem hlt)).size
 obtain⟨_,⟨rfl,h5⟩ | ⟨g,cap,cur,rfl,hg,hb,h6,h7,h8,h9⟩⟩:=h2
 ·have:cs=[]:=List.eq_nil_of_length_eq_zero h5;subst this;exact⟨none,0,rfl,InAt.nil _ _⟩
 ·refine⟨some ⟨g,0,none⟩,cap,rfl,h6,h7,(fun e=>by cases e),fun j=>(vl[j]?).getD #[],fun ad e hne=>?_,fun ad j d e hd q hq=>?_,fun j d hd=>?_⟩
  ·cases e;exact⟨rfl,zE hb,hg⟩
  ·cases e;have hlt:j<cs.length:=(List.getElem?_eq_some_iff.1 hd).1;have hj:vl[j]?=some (vl[j]'(by omega)):=List.getElem?_eq_getElem (by omega);show _=((vl[j]?).getD #[])[q]?
   rw[zB hb,hj];simp only[Nat.zero_add,Option.getD_some];rw[<-zFx vl hs j _ hj q hq,<-h9,List.getElem?_take_of_lt (by omega),Array.getElem?_toList]
  ·have hlt:j<cs.length:=(List.getElem?_eq_some_iff.1 hd).1;have hj:vl[j]?=some (vl[j]'(by omega)):=List.getElem?_eq_getElem (by omega);have h10:=h3 j _ d hj hd;show CAt w (From base) ((vl[j]?).getD #[]) d
   rw[hj];exact h10.mono (fun b _ hb=>hb.1)
theorem CRow.push {w w2:World}{base:Nat}{v v':Value}{cs:List Ct}{vs:Array Value}{c:Ct}(hv:CAt w (From base) vs c)(hnb:∀ b,v.ownBlock=some b->CAt w (fun b'=>base<=b'/\b'≠b) vs c)
  {vl:List (Array Value)} (h1:vl.length=cs.length) (h3:∀ (j:Nat) (vs:Array Value) (c:Ct),vl[j]?=some vs->cs[j]?=some c->CAt w (fun b=>base<=b/\v.ownBlock≠some b) vs c)
  (hown:w2.ownsRow base 256 7 v' (cs.length+1) (vl.flatMap Array.toList++vs.toList)) (hf:Fr (fun b=>v.ownBlock=some b) w w2) (hat:v'.ownBlock=v.ownBlock\/∃ g,v'.ownBlock=some g/\w.heap.size<=g):CRow w2 base v' (cs++[c]):=by
 have key:∀ vs c,CAt w (fun b=>base<=b/\v.ownBlock≠some b) vs c->CAt w2 (fun b=>base<=b/\v'.ownBlock≠some b) vs c:=by
  intro vs c h;have h4:=h.mono (Y:=fun b=>(base<=b/\v.ownBlock≠some b)/\b<w.heap.size) (fun b hb hx=>⟨hx,hb⟩);have h5:=h4.fr hf (fun b hb=>hb.1.2);refine h5.mono (fun b _ hb=>⟨hb.1.1,?_⟩);rcases hat with e | ⟨g,e,hg⟩
  ·rw[e];exact hb.1.2
  ·rw[e];intro h;cases h;omega
 have hv2:CAt w (fun b=>base<=b/\v.ownBlock≠some b) vs c:=by
  cases hob:v.ownBlock with
  | none=>exact hv.mono (fun b _ hb=>⟨hb,by simp⟩)
  | some g=>exact(hnb g hob).mono (fun b _ hb=>⟨hb.1,fun e=>hb.2 (Option.some.inj e).symm⟩)
 refine⟨vl++[vs],by simp[h1],?_,fun j vs' c' hj hc=>?_⟩
 ·rw[List.flatMap_append]
  simpa using hown
 ·by_cases hjl:j<cs.length
  ·rw[List.getElem?_append_left (by omega)]at hj;rw[List.getElem?_append_left hjl]at hc;exact key _ _ (h3 j vs' c' hj hc)
  ·rw[List.getElem?_append_right (by omega)]at hj;rw[List.getElem?_append_right (by omega)]at hc;have e1:j-vl.length=0:=by
    have:=(List.getElem?_eq_some_iff.1 hj).1;simp at this;omega
   have e2:j-cs.length=0:=by omega
   rw[e1]at hj;rw[e2]at hc;simp at hj hc;subst hj;subst hc;exact key _ _ hv2
def CtRes (w:World)(pb:Nat)(s:ByteArray)(r:List UInt8)(n:Nat)(e:Ending)(w':World):Prop:=
 ∃ (k:Int) (i l:ByteArray) (sl t le:Int) (a:Option Addr) (m c:Nat) (r':List UInt8) (bad':Bool),e=.returned (.agg #[.int .i64 k,.string i,.string l,.int .i64 sl,.int .i64 t,.int .i64 le,.slice a m c])/\r'.length<=r.length/\Cur w' pb s r' bad'/\Fr (Is pb) w w'/\
  ((bad'=true/\pC n r=none)\/(bad'=false/\∃ ct,pC n r=some (ct,r')/\CAt w' (From w.heap.size) #[.int .i64 k,.string i,.string l,.int .i64 sl,.int .i64 t,.int .i64 le,.slice a m c] ct))
def PSpec (n:Nat):Prop:=∀ (pb:Nat) (s:ByteArray) (r:List UInt8) (w:World),r.length<n->Cur w pb s r false->s.size<=900->Env w->9<=pb->
 Calls Tryz.prog 296 #[.pointer (some ⟨pb,0,none⟩)] w (CtRes w pb s r n)
def InRes (w:World)(pb:Nat)(s:ByteArray)(r:List UInt8)(bad:Bool)(n:Nat)(e:Ending)(w':World):Prop:=
 ∃ (a:Option Addr) (m c:Nat) (r':List UInt8) (bad':Bool),e=.returned (.slice a m c)/\r'.length<=r.length/\Cur w' pb s r' bad'/\Fr (Is pb) w w'/\(bad=true->bad'=true)/\
  (bad=false->(bad'=true/\(zV 40 r).bind (pL n [])=none)\/(bad'=false/\∃ cs,(zV 40 r).bind (pL n [])=some (cs,r')/\m=cs.length/\InAt w' (From w.heap.size) a c cs))
theorem zAT {b:UInt8}(r:List UInt8):((zV b r).getD r).length<=r.length:=by
 cases h:zV b r with
 | none=>simp
 | some t=>rw[zg h];simp
theorem infoC : (Tryz.prog.info? 256).map (fun i=>(i.zero,i.size,i.bytes))=some (some (.agg #[.int .i64 0,.string ByteArray.empty,.string ByteArray.empty,.int .i64 0,.int .i64 0,.int .i64 0,.slice none 0 0]),7,88):=by kernel_rfl
def lenOf : Value->Nat
 | .slice _ n _=>n
 | _=>0
theorem zCh (k s t e:Int)(i l:ByteArray)(a:Option Addr)(m c:Nat):∀ u∈[Value.int .i64 k,.string i,.string l,.int .i64 s,.int .i64 t,.int .i64 e,.slice a m c],u.oneCell'=true:=by
 intro u hu;simp at hu;rcases hu with rfl | rfl | rfl | rfl | rfl | rfl | rfl<;>rfl
theorem zE8 (a:Option Addr)(n c:Nat):lenOf (.slice a n c)=n:=rfl
theorem zKP (n:Nat)(hP:∀ k,k<n->PSpec k)(pb:Nat)(s:ByteArray)(r:List UInt8)(bad:Bool)(w:World)(hr:r.length+1<=n)(hc:Cur w pb s r bad)(hs:s.size<=900)(hE:Env w)(h9:9<=pb):
  Calls Tryz.prog 318 #[.pointer (some ⟨pb,0,none⟩)] w (InRes w pb s r bad n):=by
 obtain⟨i0,hi0,hz0,hz1,hz2⟩:=info_parts infoC;have hpl:=hc.lt;have hcl:=hc.le
 go_enter Tryz.func318,Tryz.ntmps318
 go_wp2_with fail
 refine(zBy pb s 40 r bad _ hc (by omega)).mono ?_;rintro e w1 ⟨rfl,hc1,hf1⟩;have hsl:=zAT (b:=40) r;obtain⟨ra,hra⟩:∃ ra,ra=(zV 40 r).getD r:=⟨_,rfl⟩
 rw[<-hra]at hc1 hsl;obtain⟨b1,hb1⟩:∃ b1,b1=(bad||(zV 40 r).isNone):=⟨_,rfl⟩
 rw[<-hb1]at hc1;have Hra:=Lib.hid hra;have Hb1:=Lib.hid hb1;have hs1:=hf1.size;have Hf1:=Lib.hid hf1;have hE1:=hE.fr hf1 (fun b hb h=>by unfold Is at h;omega);clear hra hb1 hf1 hc
 go_wp2_with fail
 go_loopw [3] (fun v wr=>∃ (acc:List Ct) (rr:List UInt8) (bb:Bool) (av:Option Addr) (cv:Nat) (m:Nat),v=.slice av acc.length cv/\acc.length+m=n/\rr.length<=ra.length/\Cur wr pb s rr bb/\Hid (bb=false->(rr.length+2<=m/\acc.length+rr.length<=ra.length)/\pL n [] ra=pL m acc rr/\b1=false)/\Hid (bb=true->b1=true\/pL n [] ra=none)/\Hid (bb=false->CRow wr w1.heap.size (.slice av acc.length cv) acc)/\Fr (fun b=>b=pb\/w1.heap.size<=b) w1 wr) (fun v _=>n+1-lenOf v)
 case atStart=>
  refine⟨[],ra,b1,none,0,n,rfl,by simp,by omega,hc1,fun h=>?_,fun h=>.inl h,fun _=>CRow.nil _ _,Fr.refl _ _⟩;have h2:=Hb1.out;rw[h]at h2;have h3:(zV 40 r).isNone=false:=by
   cases h4:(zV 40 r).isNone with
   | false=>rfl
   | true=>rw[h4,Bool.or_true]at h2;cases h2
  cases h5:zV 40 r with
  | none=>rw[h5]at h3;cases h3
  | some t=>
   have h6:=Hra.out;rw[h5,Option.getD_some]at h6;have h7:=congrArg List.length (zg h5);rw[h6];simp at h7;exact⟨⟨by omega,by simp⟩,rfl,h⟩
 case round=>
  obtain⟨acc,rr,bb,av,cv,m,rfl,hm,hrr,hcr,H0,H1,HR,hfr⟩:=hrel;obtain⟨W2,rfl⟩:∃ W2,W2=wr:=⟨_,rfl⟩
  obtain⟨at_,hbk,hal,hrd⟩:=hcr.blk;have c2:W2.cell? ⟨pb,2,none⟩=some (.bool bb):=zB hbk 2;have hsr:=hfr.size;have Hwf:Hid (Fr (Is pb) w W2):=Hf1.out.step hfr (fun b hb h=>by unfold Is;omega);cases bb with
  | true=>
   have Hres:Hid (InRes w pb s r bad n (.returned (.slice none 0 0)) W2):=by
    refine⟨none,0,0,rr,true,rfl,by omega,hcr,Hwf.out,fun _=>rfl,fun hbf=>.inl ⟨rfl,?_⟩⟩;cases h5:zV 40 r with
    | none=>rfl
    | some t=>
     have h6:=Hra.out;rw[h5,Option.getD_some]at h6;show pL n [] t=none
     rw[<-h6];rcases H1.out rfl with h | h
     ·have h2:=Hb1.out;rw[hbf,h5,h]at h2;cases h2
     ·exact h
   clear hbk hcr
   go_wp2_with fail
   go_ret;exact Hres.out
  | false=>
   obtain⟨⟨h01,h00⟩,h02,h03⟩:=H0.out rfl;have HR1:Hid (CRow W2 w1.heap.size (.slice av acc.length cv) acc):=HR.out rfl;obtain⟨m,rfl⟩:∃ m',m=m'+1:=⟨m-1,by omega⟩
   have hE2:=hE1.fr hfr (fun b hb h=>by have:=hE1.sz;omega);have H02:=Lib.hid h02;have H03:=Lib.hid h03;have hacc:acc.length<=n:=by omega
   have hPm:=hP m (by omega) pb s rr W2 (by omega) hcr hs hE2 h9;clear hbk h02 h03 hcr
   go_wp2_with fail
   refine hPm.mono ?_;rintro e w3 ⟨k,i,l,sl,t,le,a,mm,c,r3,b3,rfl,hr3,hc3,hf3,hcase⟩;have hs3:=hf3.size;have Hrow3:Hid (CRow w3 w1.heap.size (.slice av acc.length cv) acc):=HR1.out.fr hf3 (fun b hb h=>by unfold Is at h;omega);obtain⟨vl,hvl,hown,hch⟩:=Hrow3.out.el;have hx4:Fr No w3 (w3.alloc (.cells #[.int .i64 k,.string i,.string l,.int .i64 sl,.int .i64 t,.int .i64 le,.slice a mm c] 256)):=(Fr.refl _ _).alloc _;have Hc:=Lib.hid hcase;have Hch:=Lib.hid hch;have Hfr:=Lib.hid (hfr.step hf3 (fun b hb h=>by unfold Is at h;omega));have Hc3:=Lib.hid hc3;have hlt2:=zU (b:=0) hown;have Hrb:Hid (∀ b,(Value.slice av acc.length cv).ownBlock=some b->b<W2.heap.size/\w1.heap.size<=b):=fun b hb=>by
    obtain⟨vl2,_,ho2,_⟩:=HR1.out.el;exact⟨zU ho2 hb,zN ho2 hb⟩
   have hle3:w1.heap.size<=w3.heap.size:=by omega
   have hpl3:pb<w1.heap.size:=by omega
   clear hcase hch hPm hc3 hfr hf3 hlt2
   go_wp2_with (at_builtin;refine wpList_append_own_at _ rfl _ _ 254 rfl w1.heap.size 256 i0 (.agg #[.int .i64 0,.string ByteArray.empty,.string ByteArray.empty,.int .i64 0,.int .i64 0,.int .i64 0,.slice none 0 0]) 7 88 Tryz.underlying254 hi0 hz0 hz1 hz2 rfl (by decide) _ _ _ rfl (hown.alloc _) ⟨w3.heap.size,0,none⟩ 1 1 [.int .i64 k,.string i,.string l,.int .i64 sl,.int .i64 t,.int .i64 le,.slice a mm c] rfl rfl (zX _ _ _ rfl) (zCh _ _ _ _ _ _ _ _ _) (by unfold maxLen;omega) (by omega) (by simp;omega) ?_;intro v' wb hownb hgrow _ hat;obtain⟨avb,cvb,rfl⟩:=zG hownb)
   have hgf:Fr (fun b=>(Value.slice av acc.length cv).ownBlock=some b) w3 wb:=hx4.trans (Fr.of_grown hgrow) (fun _ _ h=>h.elim) (fun _ _ h=>h);have Hgf:=Lib.hid hgf;have Hown:=Lib.hid hownb;have Hat:=Lib.hid hat;have hcb:=Hc3.out.fr hgf (fun h=>by have:=Hrb.out _ h;omega);have hsb:=hgf.size;clear hownb hgrow hat hgf hown hx4 hE2
   go_wp2_with fail
   refine(zJO pb s 41 r3 b3 _ hcb (by omega)).mono ?_;rintro e w5 ⟨rfl,hc5,hf5⟩;have hs5:=hf5.size;have Hf15:Hid (Fr (fun b=>b=pb\/w1.heap.size<=b) w1 w5):=(Hfr.out.step Hgf.out (fun b hb h=>by have:=Hrb.out b h;omega)).step hf5 (fun b hb h=>by unfold Is at h;omega);have Hwf5:Hid (Fr (Is pb) w w5):=Hf1.out.step Hf15.out (fun b hb h=>by unfold Is;omega)
   -- the row with the new content, if the parse went well
   have Hpush:Hid (∀ ct,b3=false->CAt w3 (From W2.heap.size) #[.int .i64 k,.string i,.string l,.int .i64 sl,.int .i64 t,.int .i64 le,.slice a mm c] ct->CRow w5 w1.heap.size (.slice avb (acc++[ct]).length cvb) (acc++[ct])):=by
    intro ct _ hca;have h1:CRow wb w1.heap.size (.slice avb (acc.length+1) cvb) (acc++[ct]):=CRow.push (hca.mono (fun b _ hb=>by unfold From at *;omega)) (fun b hb=>hca.mono (fun b' _ hb'=>by have:=Hrb.out b hb;unfold From at hb';exact⟨by omega,by omega⟩)) hvl Hch.out Hown.out Hgf.out (by
     rcases Hat.out with h | h
     ·exact .inl h
     ·exact .inr ⟨_,h,by simp⟩)
    rw[List.length_append,List.length_singleton];exact h1.fr hf5 (fun b hb h=>by unfold Is at h;omega)
   cases hk:zV 41 r3 with
   | some r4=>
    rw[hk]at hc5;simp only[Option.getD_some]at hc5;have h7:=congrArg List.length (zg hk);simp at h7;have Hres:Hid (InRes w pb s r bad n (.returned (.slice avb (acc.length+1) cvb)) w5):=by
     refine⟨avb,acc.length+1,cvb,r4,b3,rfl,by omega,hc5,Hwf5.out,fun hbt=>?_,fun hbf=>?_⟩
     ·have h2:=Hb1.out;rw[hbt,H03.out]at h2;cases h2
     ·have h6:(zV 40 r).bind (pL n [])=pL n [] ra:=by
       cases h5:zV 40 r with
       | none=>have h2:=Hb1.out;rw[h5,H03.out]at h2;simp at h2
       | some t0=>have h6:=Hra.out;rw[h5,Option.getD_some]at h6;rw[h6];rfl
      rw[h6,H02.out,pL];rcases Hc.out with⟨h1,h2⟩ | ⟨h1,ct,h2,h3⟩
      ·rw[h2];exact .inl ⟨h1,rfl⟩
      ·rw[h2];simp only[Option.bind_some,hk];refine .inr ⟨h1,acc++[ct],rfl,by simp,?_⟩;have hrow:=Hpush.out ct h1 h3;obtain⟨a',cap',hv,hin⟩:=hrow.inAt;cases hv;exact hin.mono (fun b _ hb=>by unfold From at *;omega)
    clear hc5 hk
    go_wp2_with fail
    go_ret;exact Hres.out
   | none=>
    rw[hk]at hc5;simp only[Option.getD_none]at hc5;have Hk:=Lib.hid hk;clear hk
    go_wp2_with fail
    refine(zBy pb s 44 r3 b3 _ hc5 (by omega)).mono ?_;rintro e w6 ⟨rfl,hc6,hf6⟩;have hsl6:=zAT (b:=44) r3;have hs6:=hf6.size;have Hf16:Hid (Fr (fun b=>b=pb\/w1.heap.size<=b) w1 w6):=Hf15.out.step hf6 (fun b hb h=>by unfold Is at h;omega);have hpn:∀ ct,b3=false->pC m rr=some (ct,r3)->pL n [] ra=(zV 44 r3).bind fun r2=>pL m (acc++[ct]) r2:=by
     intro ct _ h2;rw[H02.out,pL,h2];simp only[Option.bind_some,Hk.out]
    have Hpn:=Lib.hid hpn
    -- what the next round has
    have Hnext:Hid (∃ (acc':List Ct) (rr':List UInt8) (bb':Bool),acc'.length=acc.length+1/\rr'.length<=ra.length/\Cur w6 pb s rr' bb'/\(bb'=false->(rr'.length+2<=m/\acc'.length+rr'.length<=ra.length)/\pL n [] ra=pL m acc' rr'/\b1=false)/\(bb'=true->b1=true\/pL n [] ra=none)/\(bb'=false->CRow w6 w1.heap.size (.slice avb acc'.length cvb) acc')):=by
     rcases Hc.out with⟨h1,h2⟩ | ⟨h1,ct,h2,h3⟩
     ·subst h1;have hn0:pL n [] ra=none:=by rw[H02.out,pL,h2];rfl
      exact⟨acc++[Ct.zero],(zV 44 r3).getD r3,(true||(zV 44 r3).isNone),by simp,by omega,hc6,(fun h=>by cases h),(fun _=>.inr hn0),(fun h=>by cases h)⟩
     ·subst h1;refine⟨acc++[ct],(zV 44 r3).getD r3,(false||(zV 44 r3).isNone),by simp,by omega,hc6,fun h=>?_,fun h=>?_,?_⟩
      ·cases h4:zV 44 r3 with
       | none=>rw[h4]at h;cases h
       | some r4=>
        have h7:=congrArg List.length (zg h4);simp at h7;refine⟨⟨by simp;omega,by simp;omega⟩,?_,H03.out⟩;rw[Hpn.out ct rfl h2,h4];rfl
      ·cases h4:zV 44 r3 with
       | none=>exact .inr (by rw[Hpn.out ct rfl h2,h4];rfl)
       | some r4=>rw[h4]at h;cases h
      ·intro _;exact(Hpush.out ct rfl h3).fr hf6 (fun b hb h=>by unfold Is at h;omega)
    obtain⟨acc',rr',bb',e1,e2,e3,e4,e5,e6⟩:=Hnext.out;have He3:=Lib.hid e3;have He4:=Lib.hid e4;have He5:=Lib.hid e5;have He6:=Lib.hid e6;clear hc6 e3 e4 e5 e6 hc5 hf6 hf5 hpn hcb
    go_wp2_with fail
    go_roundw
    case rel=>exact⟨acc',rr',bb',avb,cvb,m,by rw[e1],by omega,e2,He3.out,He4.out,He5.out,He6.out,Hf16.out⟩
    case measure=>simp only[zE8];omega
end Go.Proofs.YtmajgldaplkpiaaGreatDoor
